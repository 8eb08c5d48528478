/- tree.order: two attributes by space, local part and value. -/
import Derived.Test.YtffpbhbiamkkpaaDoorMx6
namespace Go.Proofs.YtffpbhbiamkkpaaDoor.TS
open Go Go.RowKit Go.Lib Go.Sort Go.Proofs.YtffpbhbiamkkpaaDoorW.PrintWords Go.Proofs.YtffpbhbiamkkpaaDoorW.PrintLast Go.Proofs.YtffpbhbiamkkpaaDoorW.PrintMore Go.Proofs.YtffpbhbiamkkpaaDoor.ND Go.Proofs.YtffpbhbiamkkpaaDoor.PP
set_option linter.unusedVariables false
/-- Of two texts. -/
def sgn (a b : ByteArray) : Int := compareBytes a.data.toList b.data.toList
theorem sgn_ne {a b : ByteArray} (h : (a.toList == b.toList) = false) : sgn a b = if Op.bytesLess a.toList b.toList then -1 else 1 := by
  have hne : a.data.toList ≠ b.data.toList := by
    rw [← Lib.toList_data, ← Lib.toList_data]
    simpa using h
  unfold sgn
  rw [less_cb, Lib.toList_data, Lib.toList_data]
  have : compareBytes a.data.toList b.data.toList ≠ 0 := fun e => hne (cb_eq _ _ e)
  have key : ∀ p q : List UInt8, compareBytes p q = -1 ∨ compareBytes p q = 0 ∨ compareBytes p q = 1 := by
    intro p
    induction p with
    | nil => intro q; cases q <;> simp [compareBytes]
    | cons u p ih =>
      intro q
      cases q with
      | nil => simp [compareBytes]
      | cons v q =>
        unfold compareBytes
        split
        · simp
        · split
          · simp
          · exact ih q
  have := key a.data.toList b.data.toList
  split
  · rename_i h1; simp only [decide_eq_true_eq] at h1; omega
  · rename_i h1; simp only [decide_eq_true_eq] at h1; omega
theorem sgn_eq {a b : ByteArray} (h : (a.toList == b.toList) = true) : sgn a b = 0 := by
  have he : a.data.toList = b.data.toList := by
    rw [← Lib.toList_data, ← Lib.toList_data]
    simpa using h
  unfold sgn
  rw [he, cb_self]
/-- The order of attributes that tree uses. -/
def ordA (x y : At) : Int := if sgn x.f0.f0 y.f0.f0 ≠ 0 then sgn x.f0.f0 y.f0.f0 else if sgn x.f0.f1 y.f0.f1 ≠ 0 then sgn x.f0.f1 y.f0.f1 else sgn x.f1 y.f1
theorem ordA_cfA (x y : At) : ordA x y = if cfA x y ≠ 0 then cfA x y else sgn x.f1 y.f1 := by
  unfold ordA cfA sgn
  by_cases h : compareBytes x.f0.f0.data.toList y.f0.f0.data.toList = 0
  · rw [if_neg (by simpa using h), if_neg (c := compareBytes x.f0.f0.data.toList y.f0.f0.data.toList ≠ 0) (by simpa using h)]
  · rw [if_pos h, if_pos (c := compareBytes x.f0.f0.data.toList y.f0.f0.data.toList ≠ 0) h, if_pos h]
theorem ordA_self (x : At) : ordA x x = 0 := by rw [ordA_cfA, cfA_self, if_neg (by simp)]; exact cb_self _
theorem ordA_swap (x y : At) : ordA y x = - ordA x y := by
  rw [ordA_cfA, ordA_cfA, cfA_swap x y]
  have := cb_swap x.f1.data.toList y.f1.data.toList
  unfold sgn
  split <;> split <;> omega
theorem ordA_trans (x y z : At) (h1 : ordA x y ≤ 0) (h2 : ordA y z ≤ 0) : ordA x z ≤ 0 := by
  rw [ordA_cfA] at *
  have k1 : cfA x y ≤ 0 := by split at h1 <;> omega
  have k2 : cfA y z ≤ 0 := by split at h2 <;> omega
  have k3 := cfA_trans x y z k1 k2
  by_cases e : cfA x z = 0
  · rw [if_neg (by simpa using e)]
    have s1 := cfA_swap x y
    have s2 := cfA_swap y z
    have s3 := cfA_swap x z
    have t1 := cfA_trans y z x k2 (by omega)
    have t2 := cfA_trans z x y (by omega) k1
    rw [if_neg (by simp; omega)] at h1
    rw [if_neg (by simp; omega)] at h2
    exact cb_trans _ _ _ h1 h2
  · rw [if_pos e]; exact k3
theorem ordA_zero {x y : At} (h : ordA x y = 0) : x = y := by
  rw [ordA_cfA] at h
  by_cases e : cfA x y = 0
  · rw [if_neg (by simpa using e)] at h
    obtain ⟨a, b⟩ := cfA_zero x y e
    have c : x.f1 = y.f1 := congrArg (fun l : List UInt8 => (⟨l.toArray⟩ : ByteArray)) (cb_eq _ _ h)
    cases x with
    | mk n v => cases y with
      | mk m u => cases n; cases m; simp_all
  · rw [if_pos e] at h
    exact absurd h e
theorem idx0 (a b c d e f : Value) (w : World) : Sem.run Tryd.prog (Instr.index 143 (Value.agg #[a, b, c, d, e, f]) (Value.int .i64 0)) w = .ok (Value.agg #[a, b]) w := by kernel_rfl
theorem idx1 (a b c d e f : Value) (w : World) : Sem.run Tryd.prog (Instr.index 143 (Value.agg #[a, b, c, d, e, f]) (Value.int .i64 1)) w = .ok (Value.agg #[c, d]) w := by kernel_rfl
theorem idx2 (a b c d e f : Value) (w : World) : Sem.run Tryd.prog (Instr.index 143 (Value.agg #[a, b, c, d, e, f]) (Value.int .i64 2)) w = .ok (Value.agg #[e, f]) w := by kernel_rfl
set_option maxHeartbeats 4000000 in
set_option maxRecDepth 100000 in
theorem order_walk (x y : At) (W : World) : Calls Tryd.prog 77 #[.agg #[.string x.f0.f0, .string x.f0.f1, .string x.f1], .agg #[.string y.f0.f0, .string y.f0.f1, .string y.f1]] W fun e w' => e = .returned (.int .i64 (ordA x y)) ∧ ∃ q os', w' = grow (W.drewN q) os' := by
  obtain ⟨⟨a0, a1⟩, a2⟩ := x
  obtain ⟨⟨b0, b1⟩, b2⟩ := y
  simp only
  go_enter Tryd.func77, Tryd.ntmps77
  go_wp2
  rw [alloc_eq_grow, alloc_eq_grow, grow_grow]
  obtain ⟨os0, hos⟩ : ∃ os0, (#[(Obj.cells #[Value.string a0, Value.string a1, Value.string a2] 63 (0, 0))] ++ #[(Obj.cells #[Value.string b0, Value.string b1, Value.string b2] 63 (0, 0))] : Array Obj) = os0 := ⟨_, rfl⟩
  rw [hos]
  clear hos
  go_loopg [27] 3 (fun n v27 wr => ∃ k : Int, v27 = .int .i64 k ∧ 0 ≤ k ∧ k ≤ 3 ∧ Aside0 ((n : Int) = 3 - k) ∧ Aside0 ((0 < k → (a0.toList == b0.toList) = true) ∧ (1 < k → (a1.toList == b1.toList) = true) ∧ (2 < k → (a2.toList == b2.toList) = true)) ∧ ∃ os, wr = grow W os)
  case atStart => exact ⟨0, rfl, by omega, by omega, Aside0.mk rfl, Aside0.mk ⟨by omega, by omega, by omega⟩, _, rfl⟩
  case round =>
    obtain ⟨k, rfl, hk0, hk3, HN, HE, os, rfl⟩ := hrel
    obtain rfl | rfl | rfl | rfl : k = 0 ∨ k = 1 ∨ k = 2 ∨ k = 3 := by omega
    · by_cases h : (a0.toList == b0.toList) = true
      · have HH := Aside0.mk h
        have h2 : (a0.toList != b0.toList) = false := by simp only [bne, h, Bool.not_true]
        go_wp2
        rw [idx0]
        go_wp2
        rw [alloc_eq_grow, grow_grow]
        go_roundg 2
        · exact ⟨1, rfl, by omega, by omega, Aside0.mk (by omega), Aside0.mk ⟨fun _ => HH.out, by omega, by omega⟩, _, rfl⟩
        · have := HN.out; omega
      · have h' : (a0.toList == b0.toList) = false := by simpa using h
        have HH := Aside0.mk h'
        have h2 : (a0.toList != b0.toList) = true := by simp only [bne, h', Bool.not_false]
        clear h
        obtain ⟨bl, hbl⟩ : ∃ bl, Op.bytesLess a0.toList b0.toList = bl := ⟨_, rfl⟩
        have HL := Aside0.mk hbl
        have hn := sgn_ne h'
        rw [hbl] at hn
        have HS := Aside0.mk hn
        clear hn
        cases bl with
        | true =>
          go_wp2
          rw [idx0]
          go_wp2
          go_ret
          refine ⟨?_, 0, _, by rw [alloc_eq_grow, grow_grow]; rfl⟩
          simp [ordA, HS.out]
        | false =>
          go_wp2
          rw [idx0]
          go_wp2
          go_ret
          refine ⟨?_, 0, _, by rw [alloc_eq_grow, grow_grow]; rfl⟩
          simp [ordA, HS.out]
    · by_cases h : (a1.toList == b1.toList) = true
      · have HH := Aside0.mk h
        have h2 : (a1.toList != b1.toList) = false := by simp only [bne, h, Bool.not_true]
        go_wp2
        rw [idx1]
        go_wp2
        rw [alloc_eq_grow, grow_grow]
        go_roundg 1
        · exact ⟨2, rfl, by omega, by omega, Aside0.mk (by omega), Aside0.mk ⟨fun _ => HE.out.1 (by omega), fun _ => HH.out, by omega⟩, _, rfl⟩
        · have := HN.out; omega
      · have h' : (a1.toList == b1.toList) = false := by simpa using h
        have HH := Aside0.mk h'
        have h2 : (a1.toList != b1.toList) = true := by simp only [bne, h', Bool.not_false]
        clear h
        obtain ⟨bl, hbl⟩ : ∃ bl, Op.bytesLess a1.toList b1.toList = bl := ⟨_, rfl⟩
        have HL := Aside0.mk hbl
        have hn := sgn_ne h'
        rw [hbl] at hn
        have HS := Aside0.mk hn
        clear hn
        cases bl with
        | true =>
          go_wp2
          rw [idx1]
          go_wp2
          go_ret
          refine ⟨?_, 0, _, by rw [alloc_eq_grow, grow_grow]; rfl⟩
          simp [ordA, sgn_eq (HE.out.1 (by omega)), HS.out]
        | false =>
          go_wp2
          rw [idx1]
          go_wp2
          go_ret
          refine ⟨?_, 0, _, by rw [alloc_eq_grow, grow_grow]; rfl⟩
          simp [ordA, sgn_eq (HE.out.1 (by omega)), HS.out]
    · by_cases h : (a2.toList == b2.toList) = true
      · have HH := Aside0.mk h
        have h2 : (a2.toList != b2.toList) = false := by simp only [bne, h, Bool.not_true]
        go_wp2
        rw [idx2]
        go_wp2
        rw [alloc_eq_grow, grow_grow]
        go_roundg 0
        · exact ⟨3, rfl, by omega, by omega, Aside0.mk (by omega), Aside0.mk ⟨fun _ => HE.out.1 (by omega), fun _ => HE.out.2.1 (by omega), fun _ => HH.out⟩, _, rfl⟩
        · have := HN.out; omega
      · have h' : (a2.toList == b2.toList) = false := by simpa using h
        have HH := Aside0.mk h'
        have h2 : (a2.toList != b2.toList) = true := by simp only [bne, h', Bool.not_false]
        clear h
        obtain ⟨bl, hbl⟩ : ∃ bl, Op.bytesLess a2.toList b2.toList = bl := ⟨_, rfl⟩
        have HL := Aside0.mk hbl
        have hn := sgn_ne h'
        rw [hbl] at hn
        have HS := Aside0.mk hn
        clear hn
        cases bl with
        | true =>
          go_wp2
          rw [idx2]
          go_wp2
          go_ret
          refine ⟨?_, 0, _, by rw [alloc_eq_grow, grow_grow]; rfl⟩
          simp [ordA, sgn_eq (HE.out.1 (by omega)), sgn_eq (HE.out.2.1 (by omega)), HS.out]
        | false =>
          go_wp2
          rw [idx2]
          go_wp2
          go_ret
          refine ⟨?_, 0, _, by rw [alloc_eq_grow, grow_grow]; rfl⟩
          simp [ordA, sgn_eq (HE.out.1 (by omega)), sgn_eq (HE.out.2.1 (by omega)), HS.out]
    · go_wp2
      go_ret
      refine ⟨?_, 0, _, rfl⟩
      have h := HE.out
      unfold ordA
      rw [sgn_eq (h.1 (by omega)), sgn_eq (h.2.1 (by omega)), sgn_eq (h.2.2 (by omega))]
      rfl
theorem cmpLays (blk off size : Nat) (w : World) : CmpLays Tryd.prog 77 #[] encA 3 ordA blk off size w := fun _ _ _ _ x y => order_walk x y _
theorem ltA (x y : At) : ltOf ordA x y = decide (ordA x y < 0) := rfl
theorem swoA : SWO (ltOf ordA) where
  irrefl x := by rw [ltA, ordA_self]; rfl
  trans x y z h1 h2 := by
    rw [ltA] at *
    simp only [decide_eq_true_eq] at *
    have := ordA_trans x y z (by omega) (by omega)
    by_cases e : ordA x z = 0
    · exfalso
      have k := ordA_trans z x y (by rw [ordA_swap x z]; omega) (by omega)
      have := ordA_swap y z
      omega
    · omega
  ntrans x y z h1 h2 := by
    rw [ltA] at *
    simp only [decide_eq_false_iff_not] at *
    have h3 := ordA_swap x y
    have h4 := ordA_swap y z
    have := ordA_trans z y x (by omega) (by omega)
    have := ordA_swap x z
    omega
def leO (x y : At) : Bool := decide (ordA x y ≤ 0)
theorem leO_trans (x y z : At) (h1 : leO x y = true) (h2 : leO y z = true) : leO x z = true := by
  unfold leO at *
  simp only [decide_eq_true_eq] at *
  exact ordA_trans x y z h1 h2
theorem leO_total (x y : At) : (leO x y || leO y x) = true := by
  unfold leO
  have := ordA_swap x y
  simp only [Bool.or_eq_true, decide_eq_true_eq]
  omega
/-- Attributes, rising. -/
def ord (l : List At) : List At := l.mergeSort leO
theorem ord_perm (l : List At) : (ord l).Perm l := List.mergeSort_perm l leO
theorem ord_sorted (l : List At) : (ord l).Pairwise (fun x y => leO x y = true) := List.pairwise_mergeSort leO_trans leO_total l
/-- Two rising rows of the same attributes are one. -/
theorem rising_one : ∀ {l l' : List At}, l.Perm l' → l.Pairwise (fun x y => leO x y = true) → l'.Pairwise (fun x y => leO x y = true) → l = l'
  | [], l', p, _, _ => p.nil_eq
  | a :: l, [], p, _, _ => by simpa using p.length_eq
  | a :: l, b :: l', p, s, s' => by
    have hab : a = b := by
      by_cases e : a = b
      · exact e
      exfalso
      have ha : a ∈ b :: l' := p.mem_iff.1 (by simp)
      have hb : b ∈ a :: l := p.mem_iff.2 (by simp)
      have ha' : a ∈ l' := by rcases List.mem_cons.1 ha with h | h; exact absurd h e; exact h
      have hb' : b ∈ l := by rcases List.mem_cons.1 hb with h | h; exact absurd h.symm e; exact h
      have k1 : leO a b = true := (List.pairwise_cons.1 s).1 b hb'
      have k2 : leO b a = true := (List.pairwise_cons.1 s').1 a ha'
      unfold leO at k1 k2
      simp only [decide_eq_true_eq] at k1 k2
      have := ordA_swap a b
      exact e (ordA_zero (by omega))
    subst hab
    rw [rising_one (l := l) (l' := l') (List.Perm.cons_inv p) (List.pairwise_cons.1 s).2 (List.pairwise_cons.1 s').2]
theorem perm_sorted {l : List At} {d' : Array At} (hp : PermIn 0 l.toArray.size l.toArray d') (hs : SortedIn (ltOf ordA) 0 l.toArray.size d') : d'.toList = ord l ∧ d'.toList.length = l.length := by
  obtain ⟨hz, _, hpm⟩ := hp
  have e1 : (d'.extract 0 l.toArray.size).toList = d'.toList := by rw [← hz]; simp
  have e2 : (l.toArray.extract 0 l.toArray.size).toList = l := by simp
  rw [e1, e2] at hpm
  refine ⟨?_, hpm.length_eq⟩
  refine rising_one (hpm.trans (ord_perm l).symm) ?_ (ord_sorted l)
  rw [List.pairwise_iff_getElem]
  intro i j hi hj hij
  have h := hs i j (Nat.zero_le _) hij (by rw [← hz]; simpa using hj)
  have hi' : i < d'.size := by simpa using hi
  have hj' : j < d'.size := by simpa using hj
  rw [getElem!_pos d' i hi', getElem!_pos d' j hj', ltA] at h
  simp only [decide_eq_false_iff_not] at h
  have := ordA_swap d'[i] d'[j]
  unfold leO
  simp only [Array.getElem_toList, decide_eq_true_eq]
  omega
set_option maxHeartbeats 2000000 in
set_option maxRecDepth 100000 in
theorem sorted_calls (A0 : Option Addr) (c0 : Nat) (l : List At) (w : World) (hC : kAt.C w A0 l.length l) (hc : l.length ≤ c0) (hl : l.length ≤ 100000) :
    Calls Tryd.prog 45 #[.slice A0 l.length c0] w fun e w' => ∃ v, e = .returned v ∧ kAt.R 63 w' w.heap.size (fun _ => True) v (ord l) ∧ Below w.heap.size w w' := by
  have HC := Aside0.mk (cloneAt A0 c0 l w hC hc (by omega))
  have eg : ∀ args w, (callFunc 77 args).run Tryd.prog w = .ok (.enter 77 args) w := enters_of Tryd.func77 (by kernel_rfl) rfl
  have EG := Aside0.mk eg
  clear hC hc eg
  by_cases hz : l = []
  · subst hz
    go_enter Tryd.func45, Tryd.ntmps45
    go_wp2_with fail
    refine HC.out.mono ?_
    rintro e w1 ⟨v, rfl, hr, hb⟩
    obtain ⟨A, c, rfl, _, _⟩ := Kd.R_reads hr
    have HR := Aside0.mk hr
    have HB := Aside0.mk hb
    clear hr hb
    go_wp2_with fail
    have hcon := AnyF.slices_SortFunc_none Tryd.SortA_lay A c (.func (.func 77) #[] #[]) w1
    change Calls Tryd.prog 76 _ _ _ at hcon
    refine hcon.mono ?_
    rintro e w2 ⟨rfl, rfl⟩
    clear hcon
    go_wp2_with fail
    go_ret
    have hs : ord [] = [] := by simp [ord]
    refine ⟨.slice A 0 c, rfl, ?_, HB.out⟩
    rw [hs]
    exact HR.out
  · have hpos : 0 < l.length := List.length_pos_iff.2 hz
    clear hz
    go_enter Tryd.func45, Tryd.ntmps45
    go_wp2_with fail
    refine HC.out.mono ?_
    rintro e w1 ⟨v, rfl, hr, hb⟩
    obtain ⟨inner, ho⟩ := Kd.R_own hr
    obtain ⟨g, c, rfl⟩ : ∃ g c, v = .slice (some ⟨g, 0, none⟩) l.length c := by
      rcases ho.2 with ⟨_, h0⟩ | ⟨g, cap, cur, hv, _⟩
      · omega
      · exact ⟨g, cap, hv⟩
    obtain ⟨hH, hg, hnext⟩ := sorted_row hr
    have HB := Aside0.mk hb
    have HN := Aside0.mk hnext
    clear hr hb ho hnext
    go_wp2_with fail
    have hcon := AnyQ.slices_SortFunc Tryd.SortA_lay 3 Tryd.isAgg63 Tryd.sizeOf63 encA (fun _ => rfl) (fun x v hv => by simp [encA] at hv; rcases hv with rfl | rfl | rfl <;> rfl) ordA swoA 77 #[] g 0 c l.toArray w1 EG.out (cmpLays g 0 l.toArray.size w1) hH hg (by simp; omega)
    change Calls Tryd.prog 76 _ _ _ at hcon
    rw [List.size_toArray] at hcon
    refine hcon.mono ?_
    rintro e w2 ⟨rfl, d', m, os, hp, hs, rfl⟩
    obtain ⟨e1, e2⟩ := perm_sorted (by simpa using hp) (by simpa using hs)
    have hfin := HN.out d'.toList m os e2
    rw [e1] at hfin
    have HF := Aside0.mk hfin
    have e3 : (ord l).toArray = d' := by rw [← e1]
    have HE := Aside0.mk e3
    clear hcon hH hp hs hfin e1 e2 e3
    go_wp2_with fail
    go_ret
    have h := HF.out
    rw [HE.out] at h
    exact ⟨_, rfl, h.1, HB.out.trans h.2⟩
end Go.Proofs.YtffpbhbiamkkpaaDoor.TS
