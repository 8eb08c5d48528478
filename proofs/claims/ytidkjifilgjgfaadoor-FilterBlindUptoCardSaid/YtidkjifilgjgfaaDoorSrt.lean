/- print.sorted: the attributes, rising, in memory of the call's own (where no two have one name). -/
import Derived.Test.YtidkjifilgjgfaaDoorMx12
import Derived.Test.YtidkjifilgjgfaaDoorMx11
import Derived.Test.YtidkjifilgjgfaaDoorMx7
import Derived.Shelf.SlSortCmp.NoneTotal
namespace Go.Proofs.YtidkjifilgjgfaaDoor.ND
open Go.Shelf Go.RowKit Go.Lib Go.Sort Go.Proofs.YtidkjifilgjgfaaDoorW.PrintWords Go.Proofs.YtidkjifilgjgfaaDoorW.PrintLast Go.Proofs.YtidkjifilgjgfaaDoorW.PrintMore
set_option linter.unusedVariables false
def encA (x : At) : List Value := [.string x.f0.f0, .string x.f0.f1, .string x.f1]
instance : Inhabited At := ⟨zAt⟩
set_option maxHeartbeats 1000000 in
theorem closure (x y : At) (W : World) : Calls Tryd.prog 67 #[.agg #[.string x.f0.f0, .string x.f0.f1, .string x.f1], .agg #[.string y.f0.f0, .string y.f0.f1, .string y.f1]] W fun e w' => e = .returned (.int .i64 (cfA x y)) ∧ ∃ q os', w' = grow (W.drewN q) os' := by
  have hc1 := fun W' => Tryd.strings_Compare x.f0.f0 y.f0.f0 W'
  have hc2 := fun W' => Tryd.strings_Compare x.f0.f1 y.f0.f1 W'
  obtain ⟨c, hc⟩ : ∃ c, c = compareBytes x.f0.f0.data.toList y.f0.f0.data.toList := ⟨_, rfl⟩
  obtain ⟨d, hd⟩ : ∃ d, d = compareBytes x.f0.f1.data.toList y.f0.f1.data.toList := ⟨_, rfl⟩
  have e : cfA x y = if c ≠ 0 then c else d := by rw [hc, hd]; rfl
  rw [← hc] at hc1
  rw [← hd] at hc2
  have HE := Aside0.mk e
  have H1 := Aside0.mk hc1
  have H2 := Aside0.mk hc2
  clear e hc hd hc1 hc2
  by_cases h0 : c = 0
  · subst h0
    go_enter Tryd.func67, Tryd.ntmps67
    go_wp2_with fail
    refine (H1.out _).mono ?_
    rintro e w' ⟨rfl, rfl⟩
    go_wp2_with fail
    refine (H2.out _).mono ?_
    rintro e w' ⟨rfl, rfl⟩
    go_wp2
    go_ret
    have he : cfA x y = d := by rw [HE.out, if_neg (by simp)]
    rw [he]
    exact ⟨rfl, 0, _, by rw [alloc_eq_grow, alloc_eq_grow, grow_grow]; rfl⟩
  · have h1 : (c == 0) = false := by simpa using h0
    have h2 : (c != 0) = true := by simpa using h0
    have HC := Aside0.mk h0
    clear h0
    go_enter Tryd.func67, Tryd.ntmps67
    go_wp2_with fail
    refine (H1.out _).mono ?_
    rintro e w' ⟨rfl, rfl⟩
    go_wp2
    go_ret
    have he : cfA x y = c := by rw [HE.out, if_pos HC.out]
    rw [he]
    exact ⟨rfl, 0, _, by rw [alloc_eq_grow, alloc_eq_grow, grow_grow]; rfl⟩
theorem cmpLays (blk off size : Nat) (w : World) : CmpLays Tryd.prog 67 #[] encA 3 cfA blk off size w := fun _ _ _ _ x y => closure x y _
theorem ltA (x y : At) : ltOf cfA x y = decide (cfA x y < 0) := rfl
theorem swoA : SWO (ltOf cfA) where
  irrefl x := by rw [ltA, cfA_self]; rfl
  trans x y z h1 h2 := by
    rw [ltA] at *
    simp only [decide_eq_true_eq] at *
    have := yn7 x y z (by omega) (by omega)
    by_cases e : cfA x z = 0
    · exfalso
      have k := yn7 z x y (by rw [yk0 x z]; omega) (by omega)
      have := yk0 y z
      omega
    · omega
  ntrans x y z h1 h2 := by
    rw [ltA] at *
    simp only [decide_eq_false_iff_not] at *
    have h3 := yk0 x y
    have h4 := yk0 y z
    have := yn7 z y x (by omega) (by omega)
    have := yk0 x z
    omega
theorem flat_at (l : List At) (t : Nat) (ht : t < l.length * 3) : (flatK encA 3 l.toArray)[t]? = (encA (l[t / 3]'(by omega)))[t % 3]? := by
  have h3 : t % 3 < 3 := Nat.mod_lt _ (by decide)
  have hd : t / 3 < l.length := by omega
  have e1 : (flatK encA 3 l.toArray)[t]? = some (flatK encA 3 l.toArray)[t]! := by
    rw [getElem!_pos _ t (by simpa using ht)]
    exact Array.getElem?_eq_getElem _
  rw [e1, get_flatK encA 3 l.toArray t (by simpa using ht)]
  have e2 : l.toArray[t / 3]! = l[t / 3] := by
    rw [getElem!_pos _ (t / 3) (by simpa using hd)]
    simp
  rw [e2]
  have hl : t % 3 < (encA (l[t / 3]'hd)).length := h3
  rw [getElem!_pos _ (t % 3) hl, List.getElem?_eq_getElem hl]
theorem inner_flat {R : At → List Value → Prop} {l : List At} {inner : List Value} (h : Reps R 3 l inner) (hR : ∀ p c, R p c → c = encA p) : inner = (flatK encA 3 l.toArray).toList := by
  apply List.ext_getElem?
  intro t
  by_cases ht : t < l.length * 3
  · have hd : t / 3 < l.length := by omega
    have hj := hR _ _ (h.2 (t / 3) (l[t / 3]) (List.getElem?_eq_getElem hd))
    have e : inner[t]? = ((inner.drop (t / 3 * 3)).take 3)[t % 3]? := by
      rw [List.getElem?_take, if_pos (Nat.mod_lt _ (by decide)), List.getElem?_drop]
      congr 1
      omega
    rw [e, hj]
    exact ((Array.getElem?_toList).trans (flat_at l t ht)).symm
  · rw [List.getElem?_eq_none (by rw [h.1]; omega), List.getElem?_eq_none (by simp; omega)]
theorem reps_flat (R : At → List Value → Prop) (l : List At) (hR : ∀ p, R p (encA p)) : Reps R 3 l (flatK encA 3 l.toArray).toList := by
  refine ⟨by simp, fun j p hj => ?_⟩
  obtain ⟨hlt, rfl⟩ := List.getElem?_eq_some_iff.1 hj
  have e : (((flatK encA 3 l.toArray).toList.drop (j * 3)).take 3) = encA l[j] := by
    apply List.ext_getElem?
    intro r
    by_cases hr : r < 3
    · rw [List.getElem?_take, if_pos hr, List.getElem?_drop, Array.getElem?_toList, flat_at l (j * 3 + r) (by omega)]
      have h1 : (j * 3 + r) / 3 = j := by omega
      have h2 : (j * 3 + r) % 3 = r := by omega
      simp only [h1, h2]
    · rw [List.getElem?_eq_none (by simp; omega), List.getElem?_eq_none (by simp [encA]; omega)]
  rw [e]
  exact hR _
theorem encA_M (w : World) (base : Nat) (ok : Nat → Prop) (x : At) : kAt.M w base ok x (encA x) := yl5 w base ok x
/-- The row, once it has been sorted. -/
theorem sorted_row {B g cap : Nat} {l : List At} {w : World} (h : kAt.R 84 w B (fun _ => True) (.slice (some ⟨g, 0, none⟩) l.length cap) l) :
    HoldsK encA 3 w g 0 l.toArray ∧ g < w.heap.size ∧ ∀ (d : List At) (m : Nat) (os : Array Obj), d.length = l.length →
      kAt.R 84 (sortWorldK encA 3 w g 0 m d.toArray os) B (fun _ => True) (.slice (some ⟨g, 0, none⟩) l.length cap) d ∧ Below B w (sortWorldK encA 3 w g 0 m d.toArray os) := by
  obtain ⟨_, inner, ho, hr⟩ := h
  have hin := inner_flat hr (fun p c hp => kAt_openM hp)
  obtain ⟨hl, ho⟩ := ho
  rcases ho with ⟨hv, _⟩ | ⟨g', cap', cur, hv, hB, hg, h1, h2, h3, h4⟩
  · cases hv
  cases hv
  have hgl := blk_lt hg
  have hcur : ∀ t, t < l.length * 3 → cur[t]? = (flatK encA 3 l.toArray)[t]? := fun t ht => by
    have e := congrArg (fun z : List Value => z[t]?) (h4.trans hin)
    have hsz : kAt.sz = 3 := rfl
    rw [hsz] at e
    simp only [List.getElem?_take, if_pos ht, Array.getElem?_toList] at e
    exact e
  refine ⟨fun t ht => ?_, hgl, fun d m os hd => ?_⟩
  · have ht' : t < l.length * 3 := by simpa using ht
    rw [Nat.zero_add]
    refine ⟨?_, yd4 hg t⟩
    rw [yb3 hg, hcur t ht']
    rw [getElem!_pos _ t ht]
    exact Array.getElem?_eq_getElem _
  · have hgn : (sortWorldK encA 3 w g 0 m d.toArray os).heap[g]? = some (.cells (putCells id 0 (flatK encA 3 d.toArray) cur) 84 (0, 0)) := by
      show ((w.heap.modify g (onCells (putCells id 0 (flatK encA 3 d.toArray)))) ++ os)[g]? = _
      rw [Array.getElem?_append_left (by simpa using hgl), Array.getElem?_modify, if_pos rfl, hg]
      rfl
    have hbl : Below B w (sortWorldK encA 3 w g 0 m d.toArray os) := ⟨rfl, rfl, rfl, by show _ ≤ ((w.heap.modify g _) ++ os).size; simp, fun k hk => by
      show ((w.heap.modify g (onCells (putCells id 0 (flatK encA 3 d.toArray)))) ++ os)[k]? = _
      rw [Array.getElem?_append_left (by simp; omega), Array.getElem?_modify, if_neg (by omega)]⟩
    refine ⟨?_, hbl⟩
    rw [← hd]
    refine ⟨fun _ _ => trivial, (flatK encA 3 d.toArray).toList, ⟨by simp [kAt, kNm, Kd.iso, Kd.pair, Kd.string, Kd.scalar], Or.inr ⟨g, cap, putCells id 0 (flatK encA 3 d.toArray) cur, rfl, hB, hgn, by omega, h2, by simp [putCells, h3], ?_⟩⟩, reps_flat _ d (fun p => encA_M _ _ _ p)⟩
    apply List.ext_getElem?
    intro t
    have hsz : kAt.sz = 3 := rfl
    rw [hsz, List.getElem?_take]
    rw [hsz] at h3
    rw [hd]
    by_cases ht : t < l.length * 3
    · rw [if_pos ht, Array.getElem?_toList, Array.getElem?_toList]
      unfold putCells
      have htc : t < cur.size := by rw [h3]; exact Nat.lt_of_lt_of_le ht (Nat.mul_le_mul_right 3 h1)
      rw [Array.getElem?_mapIdx, Array.getElem?_eq_getElem htc, Option.map_some, if_pos ⟨Nat.zero_le _, by simp [hd]; omega⟩]
      simp only [Nat.sub_zero, id]
      rw [getElem!_pos _ t (by simp [hd]; omega)]
      exact (Array.getElem?_eq_getElem _).symm
    · rw [if_neg ht, List.getElem?_eq_none (by simp [hd]; omega)]
theorem perm_sorted {l : List At} {d' : Array At} (hp : PermIn 0 l.toArray.size l.toArray d') (hs : SortedIn (ltOf cfA) 0 l.toArray.size d') (ha : Apart l) : d'.toList = srt l ∧ d'.toList.length = l.length := by
  obtain ⟨hz, _, hpm⟩ := hp
  have e1 : (d'.extract 0 l.toArray.size).toList = d'.toList := by rw [← hz]; simp
  have e2 : (l.toArray.extract 0 l.toArray.size).toList = l := by simp
  rw [e1, e2] at hpm
  refine ⟨?_, hpm.length_eq⟩
  refine rising_one (hpm.trans (yl9 l).symm) (ha.perm hpm.symm) ?_ (srt_sorted l)
  rw [List.pairwise_iff_getElem]
  intro i j hi hj hij
  have h := hs i j (Nat.zero_le _) hij (by rw [← hz]; simpa using hj)
  have hi' : i < d'.size := by simpa using hi
  have hj' : j < d'.size := by simpa using hj
  rw [getElem!_pos d' i hi', getElem!_pos d' j hj', ltA] at h
  simp only [decide_eq_false_iff_not] at h
  have := yk0 d'[i] d'[j]
  unfold leA
  simp only [Array.getElem_toList, decide_eq_true_eq]
  omega
set_option maxHeartbeats 2000000 in
set_option maxRecDepth 100000 in
theorem sorted_calls (A0 : Option Addr) (c0 : Nat) (l : List At) (w : World) (hC : kAt.C w A0 l.length l) (hc : l.length ≤ c0) (hl : l.length ≤ 2000000) (ha : Apart l) :
    Calls Tryd.prog 54 #[.slice A0 l.length c0] w fun e w' => ∃ v, e = .returned v ∧ kAt.R 84 w' w.heap.size (fun _ => True) v (srt l) ∧ Below w.heap.size w w' := by
  have HC := Aside0.mk (cloneAt A0 c0 l w hC hc (by omega))
  have HA := Aside0.mk ha
  have eg : ∀ args w, (callFunc 67 args).run Tryd.prog w = .ok (.enter 67 args) w := enters_of Tryd.func67 (by kernel_rfl) rfl
  have EG := Aside0.mk eg
  clear hC hc ha eg
  by_cases hz : l = []
  · subst hz
    go_enter Tryd.func54, Tryd.ntmps54
    go_wp2_with fail
    refine HC.out.mono ?_
    rintro e w1 ⟨v, rfl, hr, hb⟩
    obtain ⟨A, c, rfl, _, _⟩ := Kd.yj0 hr
    have HR := Aside0.mk hr
    have HB := Aside0.mk hb
    clear hr hb
    go_wp2_with fail
    have hcon := AnyF.slices_SortFunc_none Tryd.SortA_lay A c (.func (.func 67) #[] #[]) w1
    change Calls Tryd.prog 66 _ _ _ at hcon
    refine hcon.mono ?_
    rintro e w2 ⟨rfl, rfl⟩
    clear hcon
    go_wp2_with fail
    go_ret
    have hs : srt [] = [] := by simp [srt]
    refine ⟨.slice A 0 c, rfl, ?_, HB.out⟩
    rw [hs]
    exact HR.out
  · have hpos : 0 < l.length := List.length_pos_iff.2 hz
    clear hz
    go_enter Tryd.func54, Tryd.ntmps54
    go_wp2_with fail
    refine HC.out.mono ?_
    rintro e w1 ⟨v, rfl, hr, hb⟩
    obtain ⟨inner, ho⟩ := Kd.R_own hr
    obtain ⟨g, c, rfl⟩ : ∃ g c, v = .slice (some ⟨g, 0, none⟩) l.length c := by
      rcases ho.2 with ⟨_, h0⟩ | ⟨g, cap, cur, hv, _⟩
      · omega
      · exact ⟨g, cap, hv⟩
    obtain ⟨hH, hg, hnext⟩ := sorted_row hr
    have HB := Aside0.mk hb
    have HN := Aside0.mk hnext
    clear hr hb ho hnext
    go_wp2_with fail
    have hcon := AnyQ.slices_SortFunc Tryd.SortA_lay 3 Tryd.isAgg84 Tryd.sizeOf84 encA (fun _ => rfl) (fun x v hv => by simp [encA] at hv; rcases hv with rfl | rfl | rfl <;> rfl) cfA swoA 67 #[] g 0 c l.toArray w1 EG.out (cmpLays g 0 l.toArray.size w1) hH hg (by simp; omega)
    change Calls Tryd.prog 66 _ _ _ at hcon
    rw [List.size_toArray] at hcon
    refine hcon.mono ?_
    rintro e w2 ⟨rfl, d', m, os, hp, hs, rfl⟩
    obtain ⟨e1, e2⟩ := perm_sorted (by simpa using hp) (by simpa using hs) HA.out
    have hfin := HN.out d'.toList m os e2
    rw [e1] at hfin
    have HF := Aside0.mk hfin
    have e3 : (srt l).toArray = d' := by rw [← e1]
    have HE := Aside0.mk e3
    clear hcon hH hp hs hfin e1 e2 e3
    go_wp2_with fail
    go_ret
    have h := HF.out
    rw [HE.out] at h
    exact ⟨_, rfl, h.1, HB.out.trans h.2⟩
end Go.Proofs.YtidkjifilgjgfaaDoor.ND
