/- FilterBlind: below Allow all presences of an entity are told alike, whatever they say; with Allow, those that are alike in what is granted. For every grant and every two presences that can be read, of bulk at most 1048576 together; the listed package-level variables start as the program's text lays them (the card ties them). -/
import Derived.Test.YtidkjifilgjgfaaDoorCards
import Derived.Test.YtidkjifilgjgfaaDoorTie
import Derived.Test.YtidkjifilgjgfaaDoorPlainFB
import Derived.Test.YtidkjifilgjgfaaDoorPureOK
import Derived.Test.YtidkjifilgjgfaaDoorReadsB
import Derived.WalkKit
import Derived.ProofKit
import Derived.OpenShut
import Derived.ChangeOld
import Derived.Below
import Derived.SizedLaws
import Derived.Deep.DeepHandedRow
import Derived.Lib.LaidTab
import Derived.Stop.LaidErr
namespace Go.Proofs.YtidkjifilgjgfaaDoor.RowFB
open Go.ChangeShapes Go.WideShapes Go.ChangeAt Go.RowKit
open Go.Proofs.YtidkjifilgjgfaaDoorW.PrintWords Go.Proofs.YtidkjifilgjgfaaDoor.PAll Go.Proofs.YtidkjifilgjgfaaDoor.ReadsB Go.Proofs.YtidkjifilgjgfaaDoor.Plain

theorem own : ownKnob Tryd.prog.godebug = none := by kernel_rfl
theorem laidOut : laidOutB Tryd.prog = true := by kernel_rfl

theorem o_int : Opens Tryd.prog 3 (Kd.int .i64) (fun x => (Lit.int .i64 x).wf = true) (fun _ => 0) := opens_int Tryd.underlying3
theorem o_u64 : Opens Tryd.prog 36 (Kd.int .u64) (fun x => (Lit.int .u64 x).wf = true) (fun _ => 0) := opens_int Tryd.underlying36
theorem o_bool : Opens Tryd.prog 4 Kd.bool (fun _ => True) (fun _ => 0) := opens_bool Tryd.underlying4
theorem o_str : Opens Tryd.prog 9 Kd.string (fun s => s.size ≤ 140737488351232) (fun s => s.size + 1) := opens_string Tryd.underlying9
theorem bytes_str : Tryd.prog.bytesOf 9 = 16 := by kernel_rfl
theorem bytes_tuple : Tryd.prog.bytesOf 38 = 104 := by kernel_rfl
def muS (l : List ByteArray) : Nat := (l.map (fun s => s.size + 1)).sum
theorem muS_eq (l : List ByteArray) : muS l = Pd.szS l + l.length := by
  induction l with
  | nil => rfl
  | cons s l ih =>
    simp only [muS, Pd.szS, List.map_cons, List.sum_cons, List.length_cons] at *
    omega
def muT (x : S38) : Nat := Pd.szT (yd8 x) + x.f5.length + 4
def muTs (l : List S38) : Nat := (l.map muT).sum
theorem muTs_le (l : List S38) : (l.map (fun x => Pd.szT (yd8 x))).sum + 4 * l.length ≤ muTs l ∧ ∀ x ∈ l, x.f5.length ≤ muTs l := by
  induction l with
  | nil => exact ⟨Nat.le_refl _, fun x h => by cases h⟩
  | cons y l ih =>
    obtain ⟨h1, h2⟩ := ih
    simp only [muTs, muT, List.map_cons, List.sum_cons, List.length_cons] at *
    refine ⟨by omega, fun x hx => ?_⟩
    rcases List.mem_cons.1 hx with rfl | hx
    · omega
    · have := h2 x hx
      omega
theorem o_strs : Opens Tryd.prog 22 (Kd.slice 9 Kd.string) (fun l => l.length * 16 ≤ 140737488351232) muS :=
  (opens_slice Tryd.underlying22 (by kernel_rfl) o_str).imp (fun l h => by have := h.2.1; rw [bytes_str] at this; exact this) (fun l => Nat.le_refl _)
/-- What is asked of a tuple. -/
def small2 (x : S38) : Prop := small x ∧ 0 ≤ x.f6
theorem wf_u64 {x : Int} (h : (Lit.int .u64 x).wf = true) : 0 ≤ x := by
  simp only [Lit.wf, Bool.and_eq_true, decide_eq_true_eq] at h
  exact h.1
theorem o_tuple : Opens Tryd.prog 38 k38 small2 muT :=
  (yl4 (g := fun x : S38 => (x.f0, x.f1, x.f2, x.f3, x.f4, x.f5, x.f6)) Tryd.underlying38 (by kernel_rfl) (fun y => ⟨y.1, y.2.1, y.2.2.1, y.2.2.2.1, y.2.2.2.2.1, y.2.2.2.2.2.1, y.2.2.2.2.2.2⟩) (fun _ => rfl)
    (yf7 rfl (by kernel_rfl) o_str (yf7 rfl (by kernel_rfl) o_str (yf7 rfl (by kernel_rfl) o_str (yf7 rfl (by kernel_rfl) o_str (yf7 rfl (by kernel_rfl) o_int (yf7 rfl (by kernel_rfl) o_strs (yo0 rfl (by kernel_rfl) o_u64)))))))).imp
    (fun x h => ⟨h.2.2.2.2.2.1, wf_u64 h.2.2.2.2.2.2⟩) (fun x => by
      show (x.f0.size + x.f1.size + x.f2.size + x.f3.size + Pd.szS x.f5) + x.f5.length + 4 ≤ x.f0.size + 1 + (x.f1.size + 1 + (x.f2.size + 1 + (x.f3.size + 1 + (0 + (muS x.f5 + 0)))))
      have := muS_eq x.f5
      omega)
theorem o_tuples : Opens Tryd.prog 25 (Kd.slice 38 k38) (fun l => l.length * 104 ≤ 140737488351232 ∧ ∀ x ∈ l, small2 x) muTs :=
  (opens_slice Tryd.underlying25 (by kernel_rfl) o_tuple).imp (fun l h => by have := h.2.1; rw [bytes_tuple] at this; exact ⟨this, h.2.2⟩) (fun _ => Nat.le_refl _)
def kg : Kd Gr := Kd.iso (Kd.pair (Kd.int .i64) (Kd.pair Kd.bool (Kd.pair (Kd.slice 9 Kd.string) (Kd.pair Kd.bool Kd.bool)))) (fun g => (g.h, g.all, g.cls, g.notes, g.con))
theorem o_grant : Opens Tryd.prog 24 kg (fun g => g.cls.length * 16 ≤ 140737488351232) (fun _ => 0) :=
  (yl4 (g := fun g : Gr => (g.h, g.all, g.cls, g.notes, g.con)) Tryd.underlying24 (by kernel_rfl) (fun y => ⟨y.1, y.2.1, y.2.2.1, y.2.2.2.1, y.2.2.2.2⟩) (fun _ => rfl)
    (yf7 rfl (by kernel_rfl) o_int (yf7 rfl (by kernel_rfl) o_bool (yf7 rfl (by kernel_rfl) o_strs (yf7 rfl (by kernel_rfl) o_bool (yo0 rfl (by kernel_rfl) o_bool)))))).imp
    (fun x h => h.2.2.1) (fun _ => Nat.zero_le _)
structure Pr where
  e : ByteArray
  l : List S38
  m : List ByteArray
def kp : Kd Pr := Kd.iso (Kd.pair Kd.string (Kd.pair (Kd.slice 38 k38) (Kd.slice 9 Kd.string))) (fun p => (p.e, p.l, p.m))
def szR (p : Pr) : Nat := p.e.size + muTs p.l + muS p.m
def okR (p : Pr) : Prop := (p.l.length * 104 ≤ 140737488351232 ∧ ∀ x ∈ p.l, small2 x) ∧ p.m.length * 16 ≤ 140737488351232
theorem o_pres : Opens Tryd.prog 27 kp okR szR :=
  (yl4 (g := fun p : Pr => (p.e, p.l, p.m)) Tryd.underlying27 (by kernel_rfl) (fun y => ⟨y.1, y.2.1, y.2.2⟩) (fun _ => rfl)
    (yf7 rfl (by kernel_rfl) o_str (yf7 rfl (by kernel_rfl) o_tuples (yo0 rfl (by kernel_rfl) o_strs)))).imp
    (fun x h => h.2) (fun p => by
      show p.e.size + muTs p.l + muS p.m ≤ p.e.size + 1 + (muTs p.l + muS p.m)
      omega)
/-- What is seen has no more letters than what was there. -/
theorem sel_sz (g : Gr) : ∀ l : List S38, ((sel g l).map (fun x => Pd.szT (yd8 x))).sum ≤ (l.map (fun x => Pd.szT (yd8 x))).sum
  | [] => by simp [sel]
  | x :: l => by
    have h := sel_sz g l
    have h1 : Pd.szT (yd8 (partS g x)) ≤ Pd.szT (yd8 x) := by
      unfold partS
      show x.f0.size + x.f1.size + (if g.con = true then x.f2 else ⟨#[]⟩ : ByteArray).size + x.f3.size + Pd.szS (if g.notes = true then x.f5 else []) ≤ x.f0.size + x.f1.size + x.f2.size + x.f3.size + Pd.szS x.f5
      have e0 : (⟨#[]⟩ : ByteArray).size = 0 := rfl
      have e1 : Pd.szS [] = 0 := rfl
      split <;> split <;> omega
    unfold sel at h ⊢
    rw [List.filter_cons]
    split
    · simp only [List.map_cons, List.sum_cons]
      omega
    · simp only [List.map_cons, List.sum_cons]
      omega
theorem apply_f6 (g : Gr) (e : ByteArray) (l : List S38) (m : List ByteArray) (h : ∀ x ∈ l, small2 x) : ∀ x ∈ (applyS g e l m).2.1, 0 ≤ x.f6 := by
  unfold applyS
  split
  · intro x hx
    unfold sel at hx
    obtain ⟨y, hy, rfl⟩ := List.mem_map.1 hx
    exact (h y (List.mem_filter.1 hy).1).2
  · split
    · intro x hx
      obtain rfl := List.mem_singleton.1 hx
      exact Int.le_refl 0
    · intro x hx
      cases hx
theorem sel_len (g : Gr) (l : List S38) : (sel g l).length ≤ l.length := by
  unfold sel
  rw [List.length_map]
  exact List.length_filter_le _ _
theorem yp8 (g : Gr) (e : ByteArray) (l : List S38) (m : List ByteArray) (hl : l.length * 104 ≤ 140737488351232) (hs : ∀ x ∈ l, small2 x) (hm : m.length * 16 ≤ 140737488351232) (hz : e.size + muTs l + muS m ≤ 1048576) :
    ∃ r, Pd.pidF (applyS g e l m).1 ((applyS g e l m).2.1.map yd8) (applyS g e l m).2.2 = some r := by
  have a4 := apply_f6 g e l m hs
  obtain ⟨b1, b2⟩ := muTs_le l
  have b3 := muS_eq m
  have b4 := sel_len g l
  have b5 := sel_sz g l
  have key : (applyS g e l m).2.1.length ≤ 1000000 ∧ (∀ y ∈ (applyS g e l m).2.1, y.f5.length ≤ 1000000000) ∧ (applyS g e l m).2.2.length ≤ 1000000000 ∧ (applyS g e l m).1.size + ((applyS g e l m).2.1.map (fun x => Pd.szT (yd8 x))).sum + Pd.szS (applyS g e l m).2.2 ≤ 1900000 := by
    unfold applyS
    split
    · refine ⟨by show (sel g l).length ≤ _; omega, fun y hy => ?_, ?_, ?_⟩
      · unfold sel at hy
        obtain ⟨x, hx, rfl⟩ := List.mem_map.1 hy
        have h := b2 x (List.mem_filter.1 hx).1
        unfold partS
        show (if g.notes = true then x.f5 else []).length ≤ 1000000000
        split
        · omega
        · exact Nat.zero_le _
      · show (notesS g m).length ≤ _
        unfold notesS
        split
        · omega
        · exact Nat.zero_le _
      · show e.size + ((sel g l).map (fun x => Pd.szT (yd8 x))).sum + Pd.szS (notesS g m) ≤ _
        have : Pd.szS (notesS g m) ≤ Pd.szS m := by
          unfold notesS
          split
          · exact Nat.le_refl _
          · exact Nat.zero_le _
        omega
    · split
      · refine ⟨(by decide : (1 : Nat) ≤ 1000000), fun y hy => ?_, Nat.zero_le _, ?_⟩
        · obtain rfl := List.mem_singleton.1 hy
          exact Nat.zero_le _
        · show e.size + 12 + 0 ≤ _
          omega
      · exact ⟨Nat.zero_le _, fun y hy => (by cases hy), Nat.zero_le _, (by decide : (0 : Nat) ≤ 1900000)⟩
  obtain ⟨k1, k2, k3, k4⟩ := key
  refine Pd.pidF_some _ _ _ (Pd.pidOK_ex _ _ _ ?_ ?_ ?_ k3 ?_)
  · rw [List.length_map]; exact k1
  · intro x hx
    obtain ⟨y, hy, rfl⟩ := List.mem_map.1 hx
    exact a4 y hy
  · intro x hx
    obtain ⟨y, hy, rfl⟩ := List.mem_map.1 hx
    exact k2 y hy
  · unfold Pd.szP
    rw [List.map_map]
    exact k4
theorem agg_of {v : Value} {a b : Value} {l : List Value} (h : v.cells.toList = a :: b :: l) : v = .agg (a :: b :: l).toArray := by
  cases v <;> simp_all [Value.cells]
  rename_i cs
  rw [← h]

theorem tens (W : World) (h : laidMetH Tryd.prog Rows.filterBlindUptoRow.laid W) : MT W := by
  have hL : laidMet Tryd.prog (("math/bits.deBruijn32tab", Rows.laid_math_bits_deBruijn32tab) :: ("math/bits.deBruijn64tab", Rows.laid_math_bits_deBruijn64tab) :: [("internal/strconv.uint64pow10", Lib.tabData .u64 Lib.pow10Tab)]) W := h
  exact Lib.tabIs_of_head (g := 0) (t := 122) (e := 36) (n := 20) (by kernel_rfl) (by kernel_rfl) (by kernel_rfl) (by kernel_rfl) (by kernel_rfl) (by kernel_rfl) hL.tail.tail
theorem walk (W : World) (v0 v1 v2 : Value) (g : Gr) (p q : Pr) (has had : Bool) (hg : kg.K W g v0.cells.toList) (hp : kp.K W p v1.cells.toList) (hq : kp.K W q v2.cells.toList) (sg : g.cls.length * 16 ≤ 140737488351232) (sp : okR p) (sq : okR q) (zp : szR p ≤ 1048576) (zq : szR q ≤ 1048576) (hml : MT W) :
    Calls Tryd.prog 3 #[v0, v1, v2, .bool has, .bool had] W fun e w' => e = .returned (.bool true) ∧ Below W.heap.size W w' := by
  obtain ⟨_, _, hc, rfl, ⟨_, _, rfl, rfl, ⟨_, _, rfl, ⟨A2, c2, rfl, hl2, hr2⟩, ⟨_, _, rfl, rfl, rfl⟩⟩⟩⟩ := hg
  obtain ⟨_, _, hd, rfl, ⟨_, _, rfl, ⟨A3, c3, rfl, hl3, hr3⟩, ⟨A4, c4, rfl, hl4, hr4⟩⟩⟩ := hp
  obtain ⟨_, _, he, rfl, ⟨_, _, rfl, ⟨A5, c5, rfl, hl5, hr5⟩, ⟨A6, c6, rfl, hl6, hr6⟩⟩⟩ := hq
  rw [agg_of hc, agg_of hd, agg_of he]
  have e0 : muTs [] = 0 := rfl
  have e1 : muS [] = 0 := rfl
  unfold szR at zp zq
  obtain ⟨k, hk⟩ := (filterBlind_ev g sg p.e q.e p.l q.l p.m q.m sp.1.1 (fun x hx => (sp.1.2 x hx).1) sp.2 sq.1.1 (fun x hx => (sq.1.2 x hx).1) sq.2 has had
    (fun l2 m2 h => by
      rcases h with ⟨rfl, rfl⟩ | ⟨rfl, rfl⟩
      · exact yp8 g p.e _ _ sp.1.1 sp.1.2 sp.2 zp
      · exact yp8 g p.e [] [] (by simp) (fun x hx => by cases hx) (by simp) (by omega))
    (fun l2 m2 h => by
      rcases h with ⟨rfl, rfl⟩ | ⟨rfl, rfl⟩
      · exact yp8 g q.e _ _ sq.1.1 sq.1.2 sq.2 zq
      · exact yp8 g q.e [] [] (by simp) (fun x hx => by cases hx) (by simp) (by omega))).rounds
  exact ya8.calls k _ _ _ _ _ _ _ _ _ _ _ _ _ _ _ _ _ _ _ _ _ _ _ true W hr2 hl2 hr3 hl3 hr4 hl4 hr5 hl5 hr6 hl6 hml hk

set_option maxRecDepth 100000 in
theorem contract (H : Type) (enc : TypeId × Value → H) (W : World) (base : Nat) (args : Array Value) (ds gs : List (DataW H)) (before : List MemPlace)
    (hval : ∀ (j : Nat) t v, Tryd.f3.params[j]? = some t → args[j]? = some v → Value.okWide Tryd.prog W .any base t v)
    (hW : DataW.Whole enc Tryd.prog Tryd.f3.params.toList Rows.filterBlindSpec.vars false W args.toList ds gs before)
    (hsz0 : (DataW.weightsEach Tryd.prog (Tryd.f3.params.toList ++ (OpenSpec.ofChange Rows.filterBlindSpec).bare.plain.varTypes Tryd.prog) (ds ++ gs)).all (· ≤ reachBytes) = true)
    (hk : Rows.uptoSmall H (ds ++ gs) = true) (hml : MT W) :
    Calls Tryd.prog 3 args W fun e W' => ∃ v, e = .returned v ∧ Rows.filterBlindSpec.post enc Tryd.prog Tryd.f3 false true false false W args v W' := by
  have hW' := hW
  obtain ⟨p, q, hA0, hV, rfl, hfz, hnd⟩ := hW
  have hA : DataW.TrodAll enc Tryd.prog W 0 (fun _ => true) true Tryd.f3.params.toList args.toList ds p := hA0
  rw [Tryd.params3] at hA hsz0 hval
  obtain ⟨v0, vs0, d0, ds0, p0, q0, hargs, rfl, rfl, h0, r0⟩ := trodAll_cons hA
  obtain ⟨v1, vs1, d1, ds1, p1, q1, rfl, rfl, rfl, h1, r1⟩ := trodAll_cons r0
  obtain ⟨v2, vs2, d2, ds2, p2, q2, rfl, rfl, rfl, h2, r2⟩ := trodAll_cons r1
  obtain ⟨v3, vs3, d3, ds3, p3, q3, rfl, rfl, rfl, h3, r3⟩ := trodAll_cons r2
  obtain ⟨v4, vs4, d4, ds4, p4, q4, rfl, rfl, rfl, h4, r4⟩ := trodAll_cons r3
  obtain ⟨rfl, rfl, rfl⟩ := trodAll_nil r4
  obtain rfl : args = #[v0, v1, v2, v3, v4] := by cases args; simp_all
  obtain ⟨rfl, rfl⟩ := trodVars_none hV
  have k0 := h0
  have k1 := h1
  have k2 := h2
  have k3 := h3
  have k4 := h4
  have lt0 : ∀ x ∈ p0, x.block < W.heap.size := by obtain ⟨m, hm⟩ := k0; exact DataW.trod_lt m _ _ _ hm
  have lt1 : ∀ x ∈ p1, x.block < W.heap.size := by obtain ⟨m, hm⟩ := k1; exact DataW.trod_lt m _ _ _ hm
  have lt2 : ∀ x ∈ p2, x.block < W.heap.size := by obtain ⟨m, hm⟩ := k2; exact DataW.trod_lt m _ _ _ hm
  have lt3 : ∀ x ∈ p3, x.block < W.heap.size := by obtain ⟨m, hm⟩ := k3; exact DataW.trod_lt m _ _ _ hm
  have lt4 : ∀ x ∈ p4, x.block < W.heap.size := by obtain ⟨m, hm⟩ := k4; exact DataW.trod_lt m _ _ _ hm
  have hsz : ∀ n ∈ d0.weights Tryd.prog 24 ++ (d1.weights Tryd.prog 27 ++ d2.weights Tryd.prog 27), n ≤ reachBytes := by
    intro n hn
    have := List.all_eq_true.1 hsz0 n (by
      simp only [List.mem_append] at hn
      simp only [DataW.weightsEach, List.mem_append, List.append_nil, List.cons_append, List.nil_append]
      rcases hn with h | h | h
      · exact Or.inl h
      · exact Or.inr (Or.inl h)
      · exact Or.inr (Or.inr (Or.inl h)))
    simpa using this
  obtain ⟨m0, e0⟩ := h0
  obtain ⟨m1, e1⟩ := h1
  obtain ⟨m2, e2⟩ := h2
  obtain ⟨has, rfl, rfl, rfl⟩ := open_bool Tryd.underlying4 (hval 3 4 v3 rfl rfl) h3
  obtain ⟨had, rfl, rfl, rfl⟩ := open_bool Tryd.underlying4 (hval 4 4 v4 rfl rfl) h4
  obtain ⟨g, hg, sg, _⟩ := o_grant.get enc W _ m0 _ d0 p0 e0 (fun n hn => hsz n (List.mem_append_left _ hn))
  obtain ⟨pr, hp, sp, zp⟩ := o_pres.get enc W _ m1 _ d1 p1 e1 (fun n hn => hsz n (List.mem_append_right _ (List.mem_append_left _ hn)))
  obtain ⟨pq, hq, sq, zq⟩ := o_pres.get enc W _ m2 _ d2 p2 e2 (fun n hn => hsz n (List.mem_append_right _ (List.mem_append_right _ hn)))
  have hbulk := of_decide_eq_true hk
  simp only [List.append_nil, Rows.uptoBulkAll] at hbulk
  refine (walk W v0 v1 v2 g pr pq has had hg hp hq sg sp sq (by omega) (by omega) hml).mono fun e W' ⟨he, bel⟩ => ?_
  subst he
  exact ⟨_, rfl, _, _, _, [], _, [], hW', trodAll_mk1 (shut_bool Tryd.underlying4 _), (trodAll_cons_mk (Below.trod laidOut (by kernel_rfl) (of_decide_eq_true (by kernel_rfl)) k0 bel lt0) (trodAll_cons_mk (Below.trod laidOut (by kernel_rfl) (of_decide_eq_true (by kernel_rfl)) k1 bel lt1) (trodAll_cons_mk (Below.trod laidOut (by kernel_rfl) (of_decide_eq_true (by kernel_rfl)) k2 bel lt2) (trodAll_cons_mk (Below.trod laidOut (by kernel_rfl) (of_decide_eq_true (by kernel_rfl)) k3 bel lt3) (trodAll_cons_mk (Below.trod laidOut (by kernel_rfl) (of_decide_eq_true (by kernel_rfl)) k4 bel lt4) trodAll_mk0))))), rfl, bel.frame _, fun h => by cases h⟩

/-- A world for the witness: the listed variables hold what their initialisers lay. -/
def flat1 : DataW Unit → List Value
  | .lit (.int k n) => [.int k n]
  | _ => []
def flat2 : DataW Unit → List Value
  | .agg l => l.flatMap flat1
  | d => flat1 d
def flat3 : DataW Unit → List Value
  | .agg l => l.flatMap flat2
  | d => flat1 d
def put (l : List Value) : Obj → Obj
  | .cells _ t frozen => .cells l.toArray t frozen
  | o => o
noncomputable def yq6 (os : Os) : World :=
  { World.holding Tryd.prog os ⟨#[], #[], []⟩ with heap := (((World.holding Tryd.prog os ⟨#[], #[], []⟩).heap.modify 2 (put (flat3 Rows.laid_math_bits_deBruijn32tab))).modify 3 (put (flat3 Rows.laid_math_bits_deBruijn64tab))).modify 0 (put (flat3 Rows.laid_internal_strconv_uint64pow10)) }
def wargs : Array Value := #[.agg #[.int .i64 0, .bool false, .slice none 0 0, .bool false, .bool false], .agg #[.string ByteArray.empty, .slice none 0 0, .slice none 0 0], .agg #[.string ByteArray.empty, .slice none 0 0, .slice none 0 0], .bool false, .bool false]
theorem laid_met (os : Os) : laidMet Tryd.prog Rows.filterBlindUptoRow.laid ((yq6 os).forCall (fun _ _ => 0) ⟨#[], wargs, []⟩).memory :=
  laidMet_of_run' 8 (by kernel_rfl) (by kernel_rfl)
theorem reads (os : Os) {H : Type} (enc : TypeId × Value → H) : ∃ places, DataW.whole enc Tryd.prog ((yq6 os).forCall (fun _ _ => 0) ⟨#[], wargs, []⟩).memory Tryd.f3.params.toList Rows.filterBlindSpec.vars false wargs.toList 8 = some ([.agg [.lit (.int .i64 0), .lit (.bool false), .nil, .lit (.bool false), .lit (.bool false)], .agg [.lit (.string []), .nil, .nil], .agg [.lit (.string []), .nil, .nil], .lit (.bool false), .lit (.bool false)], [], places) :=
  ⟨[], by kernel_rfl⟩

set_option maxRecDepth 100000 in
theorem lifted (os : Os) (started : os.Started) (H : Type) (enc : TypeId × Value → H) (F : Stop.Interp) :
    ReturnsInHanded {} Tryd.checked os 3 .any ((Rows.OpenSpec.upto Rows.filterBlindSpec).preRow enc Tryd.prog Tryd.f3 Rows.filterBlindUptoRow.domain false Rows.filterBlindUptoRow.laid) (((Rows.OpenSpec.upto Rows.filterBlindSpec).at F).post enc Tryd.prog Tryd.f3 false true false false) := by
  obtain ⟨places, hx⟩ := reads os enc
  refine returnsInHanded_of_row (C := Tryd.checked) (s := Rows.OpenSpec.upto Rows.filterBlindSpec) own started (by kernel_rfl) Tryd.func3
    (witness_row_at (enc := enc) (C := Tryd.checked) false (yq6 os) wargs rfl (by kernel_rfl) (by kernel_rfl) (by kernel_rfl)
      (OpenSpec.preRow_of_cond 8 hx (by kernel_rfl) (fun k hk => by cases hk; kernel_rfl) (by kernel_rfl) (laid_met os))) ?_
  intro W base args ds gs before hval hW x1 hcond hsz hL x2 x3
  exact contract H enc W base args ds gs before hval hW hsz (hcond _ rfl) (tens W hL)

theorem said : Rows.FilterBlindUptoSaid :=
  OpenClaim.holds_of_cond 3 Tryd.f3 rfl rfl rfl rfl rfl rfl rfl ⟨rfl, rfl, rfl, rfl, rfl⟩ rfl rfl rfl rfl rfl (by kernel_rfl) Tryd.func3 (by kernel_rfl)
    (of_decide_eq_true (by kernel_rfl)) (by unfold Func.isWrapper; first | (rw [if_pos (by decide +kernel)]; kernel_rfl) | (rw [if_neg (by decide +kernel)]; exact ⟨rfl, rfl⟩))
    (fun os started H enc _ F => by rw [OpenClaim.pre_eq_preRow]; exact lifted os started H enc F)

theorem plain (f : FuncId) (fn : Func) (hf : Tryd.pinned.checked.prog.funcNamed "watchbill/watchbilllaw23.FilterBlind" = some f) (hfn : Tryd.pinned.checked.prog.funcs[f]? = some fn) :
    false = Tryd.pinned.checked.prog.looks [] ∧ ∀ (j : Nat) t, fn.params[j]? = some t → Tryd.pinned.checked.prog.wantsStandIn t = false := by
  obtain rfl : f = 3 := Option.some.inj ((show Tryd.prog.funcNamed "watchbill/watchbilllaw23.FilterBlind" = some 3 by kernel_rfl).symm.trans hf) |>.symm
  obtain rfl : fn = Tryd.f3 := (Option.some.inj (Tryd.func3.symm.trans hfn)).symm
  refine ⟨by kernel_rfl, fun j t ht => ?_⟩
  rw [Tryd.params3] at ht
  have hm : t = 24 ∨ t = 27 ∨ t = 4 := by have := Array.mem_of_getElem? ht; simp at this; omega
  rcases hm with rfl | rfl | rfl
  · exact (show Tryd.prog.wantsStandIn 24 = false by kernel_rfl)
  · exact (show Tryd.prog.wantsStandIn 27 = false by kernel_rfl)
  · exact (show Tryd.prog.wantsStandIn 4 = false by kernel_rfl)

theorem card : Rows.FilterBlindUptoCardSaid :=
  Claim7.holds_tied_plain_at .later [] _ _ _ _ said (fun _ h => by cases h) (by kernel_rfl) (fun _ h => by cases h) filterBlindUpto_row_tie rfl ⟨rfl, rfl⟩ (by kernel_rfl) rfl plain (by kernel_rfl)
#print axioms card
end Go.Proofs.YtidkjifilgjgfaaDoor.RowFB
namespace Go.Proofs.YtidkjifilgjgfaaDoor
/-- The card, under a short name, for the claim. -/
theorem filterBlind_holds : Rows.FilterBlindUptoCardSaid := RowFB.card
end Go.Proofs.YtidkjifilgjgfaaDoor
