/- tree.right and tree.Right: is it a right tree? By induction on how much the tree is. -/
import Derived.Test.YtidkjifilgjgfaaDoorRgtA
import Derived.Test.YtidkjifilgjgfaaDoorPNode
namespace Go.Proofs.YtidkjifilgjgfaaDoor.ND
open Go Go.RowKit Go.Proofs.YtidkjifilgjgfaaDoorW.PrintWords Go.Proofs.YtidkjifilgjgfaaDoorW.PrintLast Go.Proofs.YtidkjifilgjgfaaDoorW.PrintMore Go.Maps
open Go.Proofs.YtidkjifilgjgfaaDoor.PG (signsB nameB yj6 yo3)
open Go.Proofs.YtidkjifilgjgfaaDoor.Prt (wt wts okN okNs)
set_option linter.unusedVariables false
theorem wts_len : ∀ l : List Nd, l.length ≤ wts l
  | [] => by simp
  | d :: r => by
    have := wts_len r
    have : 1 ≤ wt d := by obtain ⟨k, nm, t, c, x⟩ := d; unfold wt; omega
    simp only [Prt.wts, List.length_cons]
    omega
mutual
def rightN : Nd → Int → Bool → Int → Bool × Int
  | ⟨k, nm, t, c, x⟩, deep, text, left =>
    if left - 1 < 0 then (false, left - 1)
    else if k = 2 then (!text && (!(x.toList == []) && (signsB x && ((nm.f0.toList == [] && nm.f1.toList == []) && decide (t.length + c.length = 0)))), left - 1)
    else if k = 1 ∧ deep ≤ 24 ∧ x.toList = [] ∧ namedB nm = true ∧ attrsB t = true then yi1 c (deep + 1) false (left - 1) else (false, left - 1)
def yi1 : List Nd → Int → Bool → Int → Bool × Int
  | [], _, _, left => (true, left)
  | d :: r, deep, behind, left => if (rightN d deep behind left).1 = true then yi1 r deep (decide (d.f0 = 2)) (rightN d deep behind left).2 else (false, (rightN d deep behind left).2)
end
mutual
theorem rightN_left : ∀ (n : Nd) (deep : Int) (text : Bool) (left : Int), 0 ≤ left → -1 ≤ (rightN n deep text left).2 ∧ (rightN n deep text left).2 ≤ left ∧ ((rightN n deep text left).1 = true → 0 ≤ (rightN n deep text left).2)
  | ⟨k, nm, t, c, x⟩, deep, text, left, h => by
    unfold rightN
    by_cases h1 : left - 1 < 0
    · rw [if_pos h1]; exact ⟨by show -1 ≤ left - 1; omega, by show left - 1 ≤ left; omega, fun h => by cases h⟩
    rw [if_neg h1]
    by_cases h2 : k = 2
    · rw [if_pos h2]; exact ⟨by show -1 ≤ left - 1; omega, by show left - 1 ≤ left; omega, fun h => by show 0 ≤ left - 1; omega⟩
    rw [if_neg h2]
    by_cases h3 : k = 1 ∧ deep ≤ 24 ∧ x.toList = [] ∧ namedB nm = true ∧ attrsB t = true
    · rw [if_pos h3]
      have := rightNs_left c (deep + 1) false (left - 1) (by omega)
      exact ⟨this.1, by omega, this.2.2⟩
    · rw [if_neg h3]; exact ⟨by show -1 ≤ left - 1; omega, by show left - 1 ≤ left; omega, fun h => by cases h⟩
theorem rightNs_left : ∀ (l : List Nd) (deep : Int) (b : Bool) (left : Int), 0 ≤ left → -1 ≤ (yi1 l deep b left).2 ∧ (yi1 l deep b left).2 ≤ left ∧ ((yi1 l deep b left).1 = true → 0 ≤ (yi1 l deep b left).2)
  | [], deep, b, left, h => by unfold yi1; exact ⟨by show -1 ≤ left; omega, Int.le_refl _, fun _ => h⟩
  | d :: r, deep, b, left, h => by
    have h1 := rightN_left d deep b left h
    unfold yi1
    by_cases h2 : (rightN d deep b left).1 = true
    · rw [if_pos h2]
      have := rightNs_left r deep (decide (d.f0 = 2)) _ (h1.2.2 h2)
      exact ⟨this.1, by omega, this.2.2⟩
    · rw [if_neg h2]; exact ⟨h1.1, h1.2.1, fun h => by cases h⟩
end
/-- All but block p is as it was. -/
def FrP (p : Nat) (w w' : World) : Prop := ∀ k o, k ≠ p → w.heap[k]? = some o → w'.heap[k]? = some o
theorem FrP.refl (p : Nat) (w : World) : FrP p w w := fun _ _ _ h => h
theorem FrP.trans {p : Nat} {w w1 w2 : World} (h : FrP p w w1) (k : FrP p w1 w2) : FrP p w w2 := fun i o h1 h2 => k i o h1 (h i o h1 h2)
theorem FrP.below {p : Nat} {w w' : World} (h : Below w.heap.size w w') : FrP p w w' := fun i o _ h3 => (h.block i (blk_lt h3)).trans h3
theorem FrP.alloc {p : Nat} {w w' : World} (h : FrP p w w') (o : Obj) : FrP p w (w'.alloc o) := h.trans (FrP.below ((Below.refl _ _).alloc (Nat.le_refl _) o))
theorem FrP.set {p : Nat} {w w' : World} (h : FrP p w w') (u : Value) : FrP p w (w'.setCell ⟨p, 0, none⟩ u) := fun i o h1 h2 => (Below.heap_setCell w' ⟨p, 0, none⟩ u i h1).trans (h i o h1 h2)
theorem step_world (p : Nat) (w0 w : World) (left l' : Int) (bx : Array Value) (hb : Below w0.heap.size w0 w) (hp : w0.heap.size ≤ p) (hk : w.heap[p]? = some (.cells #[.int .i64 left] 3 (0, 0))) :
    ((w.setCell ⟨p, 0, none⟩ (.int .i64 l')).alloc (.cells bx 54)).heap[p]? = some (.cells #[.int .i64 l'] 3 (0, 0)) ∧ Below w0.heap.size w0 ((w.setCell ⟨p, 0, none⟩ (.int .i64 l')).alloc (.cells bx 54)) ∧
    FrP p w ((w.setCell ⟨p, 0, none⟩ (.int .i64 l')).alloc (.cells bx 54)) ∧ ((w.setCell ⟨p, 0, none⟩ (.int .i64 l')).alloc (.cells bx 54)).heap[w.heap.size]? = some (.cells bx 54 (0, 0)) := by
  have h1 : (w.setCell ⟨p, 0, none⟩ (.int .i64 l')).heap[p]? = some (.cells #[.int .i64 l'] 3 (0, 0)) := yg3 hk 0 _
  have hs : (w.setCell ⟨p, 0, none⟩ (.int .i64 l')).heap.size = w.heap.size := by simp
  have hb1 := hb.setCell (p := ⟨p, 0, none⟩) hp (.int .i64 l')
  refine ⟨(((Below.refl _ _).alloc (Nat.le_refl _) _).block p (blk_lt h1)).trans h1, hb1.alloc hb1.size _, ((FrP.refl p w).set _).alloc _, ?_⟩
  have h := heap_alloc_last (w.setCell ⟨p, 0, none⟩ (.int .i64 l')) (.cells bx 54)
  rw [hs] at h
  exact h
def yr0 (p : Nat) (w0 : World) (n : Nd) : Prop := ∀ (deep : Int) (text : Bool) (left : Int) (w : World) (A3 A4 : Option Addr) (c3 c4 : Nat), 0 ≤ deep → deep ≤ 25 → 0 ≤ left → left ≤ 5000 → Below w0.heap.size w0 w → w0.heap.size ≤ p → w.heap[p]? = some (.cells #[.int .i64 left] 3 (0, 0)) →
  kAt.C w0 A3 n.f2.length n.f2 → n.f2.length ≤ c3 → kNd.C w0 A4 n.f3.length n.f3 → n.f3.length ≤ c4 →
  Calls Tryd.prog 41 #[.agg #[.int .i64 n.f0, .string n.f1.f0, .string n.f1.f1, .slice A3 n.f2.length c3, .slice A4 n.f3.length c4, .string n.f4], .int .i64 deep, .bool text, .pointer (some ⟨p, 0, none⟩)] w fun e w' =>
    e = .returned (.bool (rightN n deep text left).1) ∧ w'.heap[p]? = some (.cells #[.int .i64 (rightN n deep text left).2] 3 (0, 0)) ∧ Below w0.heap.size w0 w' ∧ FrP p w w'
set_option maxHeartbeats 4000000 in
set_option maxRecDepth 100000 in
theorem right_step (p : Nat) (w0 : World) (n : Nd) (hw : wt n ≤ 20000000) (ih : ∀ d : Nd, wt d < wt n → yr0 p w0 d) : yr0 p w0 n := by
  intro deep text left w A3 A4 c3 c4 hd0 hd1 hl0 hl1 hb hp hk h3 l3 h4 l4
  obtain ⟨k, nm, at', kids, x⟩ := n
  dsimp only at *
  have hwt : wt ⟨k, nm, at', kids, x⟩ = 1 + nm.f0.size + nm.f1.size + Prt.wAs at' + wts kids + x.size := by unfold wt; rfl
  have hpw := blk_lt hk
  have g0 : w.cell? ⟨p, 0, none⟩ = some (.int .i64 left) := by rw [yb3 hk]; rfl
  have g1 : w.frozen? ⟨p, 0, none⟩ = false := yd4 hk 0
  obtain ⟨l', hl'⟩ : ∃ l', l' = left - 1 := ⟨_, rfl⟩
  have f1 : left - 1 = l' := hl'.symm
  have f2 : IntKind.i64.wrap l' = l' := IntWalk.i64_in _ (by omega)
  have hlb : -1 ≤ l' ∧ l' ≤ 5000 := by omega
  have HB := Aside0.mk hb
  have HK := Aside0.mk hk
  have H3 := Aside0.mk h3
  have H4 := Aside0.mk h4
  have HIH := Aside0.mk ih
  have HW := Aside0.mk hwt
  have HL := Aside0.mk hl'
  obtain ⟨K1, B1, F1, X1⟩ := step_world p w0 w left l' #[.int .i64 k, .string nm.f0, .string nm.f1, .slice A3 at'.length c3, .slice A4 kids.length c4, .string x] hb hp hk
  have HK1 := Aside0.mk K1
  have HB1 := Aside0.mk B1
  have HF1 := Aside0.mk F1
  have HX1 := Aside0.mk X1
  clear hb hk h3 h4 ih hwt hl' K1 B1 F1 X1
  by_cases hneg : l' < 0
  · have q0 := eq_true hneg
    have e : rightN ⟨k, nm, at', kids, x⟩ deep text left = (false, l') := by unfold rightN; rw [← HL.out, if_pos hneg]
    rw [e]
    clear e hneg
    go_enter Tryd.func41, Tryd.ntmps41
    go_wp2_with fail
    go_ret
    exact ⟨rfl, HK1.out, HB1.out, HF1.out⟩
  have q0 := eq_false hneg
  have hl00 : 0 ≤ l' := by omega
  have hxs : x.size ≤ 140737488351232 := by have := HW.out; omega
  have hns : nm.f0.size ≤ 140737488351232 := by have := HW.out; omega
  have hal : at'.length ≤ 20000000 := by have := HW.out; have := Prt.yr3 at'; omega
  have hkl : kids.length ≤ 20000000 := by have := HW.out; have := wts_len kids; omega
  have HG := Aside0.mk (fun W => yj6 x W hxs)
  by_cases hk2 : k = 2
  · subst hk2
    have e : rightN ⟨2, nm, at', kids, x⟩ deep text left = (!text && (!(x.toList == []) && (signsB x && ((nm.f0.toList == [] && nm.f1.toList == []) && decide (at'.length + kids.length = 0)))), l') := by unfold rightN; rw [← HL.out, if_neg hneg, if_pos rfl]
    rw [e]
    clear e hneg
    cases text with
    | true =>
      go_enter Tryd.func41, Tryd.ntmps41
      go_wp2_with fail
      go_ret
      exact ⟨rfl, HK1.out, HB1.out, HF1.out⟩
    | false =>
      by_cases hx : x.toList = []
      · have q1 := eq_true hx
        have q2 : (x.toList.isEmpty) = true := by rw [hx]; rfl
        go_enter Tryd.func41, Tryd.ntmps41
        go_wp2_with fail
        go_ret
        refine ⟨?_, HK1.out, HB1.out, HF1.out⟩
        rw [hx]
        rfl
      · have q1 := eq_false hx
        have q2 : (x.toList.isEmpty) = false := by simpa using hx
        have q3 : (x.toList == []) = false := by simpa using hx
        have HQ := Aside0.mk q3
        clear hx q3
        go_enter Tryd.func41, Tryd.ntmps41
        go_wp2_with fail
        refine (HG.out _).mono ?_
        rintro e w1 ⟨rfl, hb1⟩
        have hX := (hb1.block w.heap.size (blk_lt HX1.out)).trans HX1.out
        have g2 : w1.cell? ⟨w.heap.size, 1, none⟩ = some (.string nm.f0) := by rw [Lib.cell_of_heap hX]; rfl
        have g3 : w1.cell? ⟨w.heap.size, 2, none⟩ = some (.string nm.f1) := by rw [Lib.cell_of_heap hX]; rfl
        have g4 : w1.cell? ⟨w.heap.size, 3, none⟩ = some (.slice A3 at'.length c3) := by rw [Lib.cell_of_heap hX]; rfl
        have g5 : w1.cell? ⟨w.heap.size, 4, none⟩ = some (.slice A4 kids.length c4) := by rw [Lib.cell_of_heap hX]; rfl
        have HK2 := Aside0.mk ((hb1.block p (blk_lt HK1.out)).trans HK1.out)
        have HB2 := Aside0.mk (HB1.out.trans (hb1.mono HB1.out.size))
        have HF2 := Aside0.mk (HF1.out.trans (FrP.below hb1))
        clear hb1 hX
        have hz : (!(false : Bool) && (!(x.toList == []) && (signsB x && ((nm.f0.toList == [] && nm.f1.toList == []) && decide (at'.length + kids.length = 0))))) = (signsB x && ((nm.f0.toList == [] && nm.f1.toList == []) && decide (at'.length + kids.length = 0))) := by rw [HQ.out]; simp
        have HZ := Aside0.mk hz
        clear hz
        cases hs : signsB x with
        | false =>
          have HS := Aside0.mk hs
          clear hs
          go_wp2_with fail
          go_ret
          exact ⟨by rw [HQ.out, HS.out]; rfl, HK2.out, HB2.out, HF2.out⟩
        | true =>
          have HS := Aside0.mk hs
          clear hs
          by_cases p1 : nm.f0.toList = []
          · have r1 := eq_true p1
            by_cases p2 : nm.f1.toList = []
            · have r2 := eq_true p2
              have hP1 := Aside0.mk p1
              have hP2 := Aside0.mk p2
              clear p1 p2
              by_cases p3 : at'.length + kids.length = 0
              · have ha : at' = [] := List.length_eq_zero_iff.1 (by omega)
                have hc : kids = [] := List.length_eq_zero_iff.1 (by omega)
                subst ha hc
                go_wp2_with fail
                go_ret
                exact ⟨by rw [HQ.out, HS.out, hP1.out, hP2.out]; rfl, HK2.out, HB2.out, HF2.out⟩
              · have r3 : ((at'.length : Int) + (kids.length : Int) == 0) = false := by
                  have : ¬ ((at'.length : Int) + (kids.length : Int) = 0) := by omega
                  simpa using this
                have hP3 := Aside0.mk p3
                clear p3
                go_wp2_with fail
                go_ret
                exact ⟨by rw [HQ.out, HS.out, hP1.out, hP2.out, decide_eq_false hP3.out]; rfl, HK2.out, HB2.out, HF2.out⟩
            · have r2 := eq_false p2
              have hP1 := Aside0.mk p1
              have hP2 := Aside0.mk (show (nm.f1.toList == []) = false by simpa using p2)
              clear p1 p2
              go_wp2_with fail
              go_ret
              exact ⟨by rw [HQ.out, HS.out, hP1.out, hP2.out]; rfl, HK2.out, HB2.out, HF2.out⟩
          · have r1 := eq_false p1
            have hP1 := Aside0.mk (show (nm.f0.toList == []) = false by simpa using p1)
            clear p1
            go_wp2_with fail
            go_ret
            exact ⟨by rw [HQ.out, HS.out, hP1.out]; rfl, HK2.out, HB2.out, HF2.out⟩
  · have r0 : (k == 2) = false := by simpa using hk2
    have hno : ¬ (k = 1 ∧ deep ≤ 24 ∧ x.toList = [] ∧ namedB nm = true ∧ attrsB at' = true) → rightN ⟨k, nm, at', kids, x⟩ deep text left = (false, l') := fun h => by unfold rightN; rw [← HL.out, if_neg hneg, if_neg hk2, if_neg h]
    have hyes : (k = 1 ∧ deep ≤ 24 ∧ x.toList = [] ∧ namedB nm = true ∧ attrsB at' = true) → rightN ⟨k, nm, at', kids, x⟩ deep text left = yi1 kids (deep + 1) false l' := fun h => by unfold rightN; rw [← HL.out, if_neg hneg, if_neg hk2, if_pos h]
    clear hneg hk2
    by_cases p1 : k = 1
    rotate_left 1
    · rw [hno (fun h => p1 h.1)]
      have r1 : (k == 1) = false := by simpa using p1
      have r1' : (k != 1) = true := by simpa using p1
      clear hno hyes p1
      go_enter Tryd.func41, Tryd.ntmps41
      go_wp2_with fail
      go_ret
      exact ⟨rfl, HK1.out, HB1.out, HF1.out⟩
    subst p1
    clear r0
    by_cases p2 : deep ≤ 24
    rotate_left 1
    · rw [hno (fun h => p2 h.2.1)]
      have r1 := eq_true (show 24 < deep by omega)
      clear hno hyes p2
      go_enter Tryd.func41, Tryd.ntmps41
      go_wp2_with fail
      go_ret
      exact ⟨rfl, HK1.out, HB1.out, HF1.out⟩
    have r2 := eq_false (show ¬ 24 < deep by omega)
    by_cases p3 : x.toList = []
    rotate_left 1
    · rw [hno (fun h => p3 h.2.2.1)]
      have q1 := eq_false p3
      have q2 : (x.toList.isEmpty) = false := by simpa using p3
      clear hno hyes p3
      go_enter Tryd.func41, Tryd.ntmps41
      go_wp2_with fail
      go_ret
      exact ⟨rfl, HK1.out, HB1.out, HF1.out⟩
    have q1 := eq_true p3
    have q2 : (x.toList.isEmpty) = true := by rw [p3]; rfl
    have HN := Aside0.mk (fun W => named_calls nm W hns)
    cases p4 : namedB nm with
    | false =>
      rw [hno (fun h => by rw [p4] at h; exact absurd h.2.2.2.1 (by decide))]
      simp only [p4] at HN
      clear hno hyes p3 p4
      go_enter Tryd.func41, Tryd.ntmps41
      go_wp2_with fail
      refine (HN.out _).mono ?_
      rintro e w1 ⟨rfl, hb1⟩
      have HK2 := Aside0.mk ((hb1.block p (blk_lt HK1.out)).trans HK1.out)
      have HB2 := Aside0.mk (HB1.out.trans (hb1.mono HB1.out.size))
      have HF2 := Aside0.mk (HF1.out.trans (FrP.below hb1))
      clear hb1
      go_wp2_with fail
      go_ret
      exact ⟨rfl, HK2.out, HB2.out, HF2.out⟩
    | true =>
      simp only [p4] at HN
      have hws : ∀ a ∈ at', a.f0.f0.size ≤ 140737488351232 ∧ a.f0.f1.size ≤ 140737488351232 ∧ a.f1.size ≤ 140737488351232 := fun a ha => by
        have h1 := Prt.ys9 ha
        have h2 := HW.out
        unfold Prt.wA at h1
        omega
      have HA := Aside0.mk (fun W hC => yj9 A3 c3 at' W hC l3 hal hws)
      cases p5 : attrsB at' with
      | false =>
        rw [hno (fun h => by rw [p5] at h; exact absurd h.2.2.2.2 (by decide))]
        simp only [p5] at HA
        clear hno hyes p3 p4 p5 hws
        go_enter Tryd.func41, Tryd.ntmps41
        go_wp2_with fail
        refine (HN.out _).mono ?_
        rintro e w1 ⟨rfl, hb1⟩
        have hX := (hb1.block w.heap.size (blk_lt HX1.out)).trans HX1.out
        have g4 : w1.cell? ⟨w.heap.size, 3, none⟩ = some (.slice A3 at'.length c3) := by rw [Lib.cell_of_heap hX]; rfl
        have HK2 := Aside0.mk ((hb1.block p (blk_lt HK1.out)).trans HK1.out)
        have HB2 := Aside0.mk (HB1.out.trans (hb1.mono HB1.out.size))
        have HF2 := Aside0.mk (HF1.out.trans (FrP.below hb1))
        clear hb1 hX
        go_wp2_with fail
        refine (HA.out _ (Kd.yc4 H3.out HB2.out)).mono ?_
        rintro e w2 ⟨rfl, hb2⟩
        have HK3 := Aside0.mk ((hb2.block p (blk_lt HK2.out)).trans HK2.out)
        have HB3 := Aside0.mk (HB2.out.trans (hb2.mono HB2.out.size))
        have HF3 := Aside0.mk (HF2.out.trans (FrP.below hb2))
        clear hb2
        go_wp2_with fail
        go_ret
        exact ⟨rfl, HK3.out, HB3.out, HF3.out⟩
      | true =>
        rw [hyes ⟨rfl, p2, p3, p4, p5⟩]
        simp only [p5] at HA
        obtain ⟨R, hR⟩ : ∃ R, R = yi1 kids (deep + 1) false l' := ⟨_, rfl⟩
        rw [← hR]
        have HR := Aside0.mk hR
        obtain ⟨dp, hdp⟩ : ∃ dp, dp = deep + 1 := ⟨_, rfl⟩
        have f5 : deep + 1 = dp := hdp.symm
        have f6 : IntKind.i64.wrap dp = dp := IntWalk.i64_in _ (by omega)
        have hdp2 : 0 ≤ dp ∧ dp ≤ 25 := by omega
        have HDP := Aside0.mk hdp
        clear hno hyes p3 p4 p5 hws hR hdp
        go_enter Tryd.func41, Tryd.ntmps41
        go_wp2_with fail
        refine (HN.out _).mono ?_
        rintro e w1 ⟨rfl, hb1⟩
        have hX := (hb1.block w.heap.size (blk_lt HX1.out)).trans HX1.out
        have g4 : w1.cell? ⟨w.heap.size, 3, none⟩ = some (.slice A3 at'.length c3) := by rw [Lib.cell_of_heap hX]; rfl
        have HX2 := Aside0.mk hX
        have HK2 := Aside0.mk ((hb1.block p (blk_lt HK1.out)).trans HK1.out)
        have HB2 := Aside0.mk (HB1.out.trans (hb1.mono HB1.out.size))
        have HF2 := Aside0.mk (HF1.out.trans (FrP.below hb1))
        clear hb1 hX
        go_wp2_with fail
        refine (HA.out _ (Kd.yc4 H3.out HB2.out)).mono ?_
        rintro e w2 ⟨rfl, hb2⟩
        have hX := (hb2.block w.heap.size (blk_lt HX2.out)).trans HX2.out
        have g5 : w2.cell? ⟨w.heap.size, 4, none⟩ = some (.slice A4 kids.length c4) := by rw [Lib.cell_of_heap hX]; rfl
        have HK3 := Aside0.mk ((hb2.block p (blk_lt HK2.out)).trans HK2.out)
        have HB3 := Aside0.mk (HB2.out.trans (hb2.mono HB2.out.size))
        have HF3 := Aside0.mk (HF2.out.trans (FrP.below hb2))
        clear hb2 hX g4
        go_wp2_with fail
        go_loopg [9, 82] kids.length (fun m v9 v82 wr => ∃ (j : Nat) (bh : Bool) (lf : Int), v82 = .int .i64 (j : Int) ∧ v9 = .bool bh ∧ j ≤ kids.length ∧ 0 ≤ lf ∧ lf ≤ 5000 ∧ Aside0 (m = kids.length - j) ∧ Aside0 (wr.heap[p]? = some (.cells #[.int .i64 lf] 3 (0, 0)) ∧ Below w0.heap.size w0 wr ∧ FrP p w wr ∧ yi1 (kids.drop j) (deep + 1) bh lf = R))
        case atStart => exact ⟨0, false, l', rfl, rfl, Nat.zero_le _, by omega, by omega, ⟨rfl⟩, ⟨HK3.out, HB3.out, HF3.out, HR.out.symm⟩⟩
        case round =>
          obtain ⟨j, bh, lf, rfl, rfl, hj, hlf0, hlf1, HM, HJ⟩ := hrel
          by_cases hlt : j < kids.length
          · obtain ⟨hpk, hb, hfr, hres⟩ := HJ.out
            obtain ⟨ad, B3, d3, B4, d4, eA, k0, k1, k2, k3, k4, k5, m3, C3, m4, C4⟩ := atNd H4.out (j : Int) (by omega) (by omega)
            have q3 := eq_true (show (j : Int) < (kids.length : Int) by omega)
            have q4 := eq_true (show (0 : Int) ≤ (j : Int) by omega)
            obtain ⟨d, hd⟩ : ∃ d, d = rdNd kids (j : Int) := ⟨_, rfl⟩
            rw [← hd] at k0 k1 k2 k3 k4 k5 m3 C3 m4 C4
            simp only [Int.toNat_natCast] at k0 k1 k2 k3 k4 k5
            have k0 := yd3 hb k0
            have k1 := yd3 hb k1
            have k2 := yd3 hb k2
            have k3 := yd3 hb k3
            have k4 := yd3 hb k4
            have k5 := yd3 hb k5
            have hdk : d = kids[j] := by rw [hd]; simp [rdNd, hlt]
            have hdw : wt d ≤ wts kids := by rw [hdk]; exact Prt.wts_get kids j hlt
            have hdr : kids.drop j = d :: kids.drop (j + 1) := by rw [List.drop_eq_getElem_cons hlt, hdk]
            clear hd
            subst eA
            obtain ⟨i, hi⟩ : ∃ i, i = j + 1 := ⟨_, rfl⟩
            have f3 : (j : Int) + 1 = (i : Int) := by omega
            have f4 : IntKind.i64.wrap (i : Int) = (i : Int) := IntWalk.i64_in _ (by omega)
            rw [hdr, ← hi] at hres
            unfold yi1 at hres
            have hA1 : Below wr.heap.size wr (wr.alloc (.cells #[.int .i64 d.f0, .string d.f1.f0, .string d.f1.f1, .slice B3 d.f2.length d3, .slice B4 d.f3.length d4, .string d.f4] 54)) := (Below.refl _ _).alloc (Nat.le_refl _) _
            have hih := HIH.out d (by rw [HW.out]; omega) dp bh lf _ B3 B4 d3 d4 hdp2.1 hdp2.2 hlf0 hlf1 (hb.alloc hb.size _) hp ((hA1.block p (blk_lt hpk)).trans hpk) C3 m3 C4 m4
            have hlfr := rightN_left d dp bh lf hlf0
            rw [← HDP.out] at hres
            obtain ⟨ok, hok⟩ : ∃ ok, ok = (rightN d dp bh lf).1 := ⟨_, rfl⟩
            obtain ⟨lg, hlg⟩ : ∃ lg, lg = (rightN d dp bh lf).2 := ⟨_, rfl⟩
            rw [← hok, ← hlg] at hih hres hlfr
            have HIH2 := Aside0.mk hih
            have HRS := Aside0.mk hres
            have HA1 := Aside0.mk hA1
            have HI' := Aside0.mk hi
            have hxb := heap_alloc_last wr (.cells #[.int .i64 d.f0, .string d.f1.f0, .string d.f1.f1, .slice B3 d.f2.length d3, .slice B4 d.f3.length d4, .string d.f4] 54)
            have HXB := Aside0.mk hxb
            have hpr : p < wr.heap.size := blk_lt hpk
            clear hih hres hA1 hi hok hlg hdr hdk C3 C4 hpk hb hfr hxb
            cases ok with
            | false =>
              go_wp2_with fail
              refine HIH2.out.mono ?_
              rintro e w4 ⟨rfl, hp4, hb4, hf4⟩
              have HP4 := Aside0.mk hp4
              have HB4 := Aside0.mk hb4
              have HF4 := Aside0.mk hf4
              clear hp4 hb4 hf4
              go_wp2_with fail
              go_ret
              have e := HRS.out
              simp only [Bool.false_eq_true, if_false] at e
              rw [← e]
              exact ⟨rfl, HP4.out, HB4.out, (HJ.out.2.2.1.alloc _).trans HF4.out⟩
            | true =>
              have hlg2 := hlfr.2.2 rfl
              go_wp2_with fail
              refine HIH2.out.mono ?_
              rintro e w4 ⟨rfl, hp4, hb4, hf4⟩
              have hx4 := hf4 wr.heap.size _ (by omega) HXB.out
              have g6 : w4.cell? ⟨wr.heap.size, 0, none⟩ = some (.int .i64 d.f0) := by rw [Lib.cell_of_heap hx4]; rfl
              have HP4 := Aside0.mk hp4
              have HB4 := Aside0.mk hb4
              have HF4 := Aside0.mk hf4
              have e := HRS.out
              simp only [if_true] at e
              have HRS2 := Aside0.mk e
              clear hp4 hb4 hf4 hx4 e
              by_cases hd2 : d.f0 = 2
              · have r5 : (d.f0 == 2) = true := by simpa using hd2
                have HD2 := Aside0.mk (decide_eq_true hd2)
                clear hd2
                go_wp2_with fail
                go_roundg (kids.length - i)
                · exact ⟨i, true, lg, rfl, rfl, by have := HI'.out; omega, hlg2, by omega, ⟨rfl⟩, ⟨HP4.out, HB4.out, (HJ.out.2.2.1.alloc _).trans HF4.out, by rw [← HRS2.out, HD2.out, HDP.out]⟩⟩
                · have := HI'.out; have := HM.out; omega
              · have r5 : (d.f0 == 2) = false := by simpa using hd2
                have HD2 := Aside0.mk (decide_eq_false hd2)
                clear hd2
                go_wp2_with fail
                go_roundg (kids.length - i)
                · exact ⟨i, false, lg, rfl, rfl, by have := HI'.out; omega, hlg2, by omega, ⟨rfl⟩, ⟨HP4.out, HB4.out, (HJ.out.2.2.1.alloc _).trans HF4.out, by rw [← HRS2.out, HD2.out, HDP.out]⟩⟩
                · have := HI'.out; have := HM.out; omega
          · have q3 := eq_false (show ¬ (j : Int) < (kids.length : Int) by omega)
            obtain rfl : j = kids.length := by omega
            have e := HJ.out.2.2.2
            rw [List.drop_length] at e
            unfold yi1 at e
            have HE := Aside0.mk e
            clear e
            go_wp2_with fail
            go_ret
            rw [← HE.out]
            exact ⟨rfl, HJ.out.1, HJ.out.2.1, HJ.out.2.2.1⟩
theorem right_calls (p : Nat) (w0 : World) : ∀ (N : Nat) (n : Nd), wt n ≤ N → N ≤ 20000000 → yr0 p w0 n := by
  intro N
  induction N with
  | zero => intro n h; obtain ⟨k, nm, t, c, x⟩ := n; unfold wt at h; omega
  | succ N ih => exact fun n h hN => right_step p w0 n (by omega) (fun d hd => ih d (by omega) (by omega))
def rightB (n : Nd) : Bool := decide (n.f0 = 1) && (rightN n 1 false 2000).1
set_option maxHeartbeats 4000000 in
set_option maxRecDepth 100000 in
/-- tree.Right. -/
theorem Right_calls (n : Nd) (w : World) (hw : wt n ≤ 20000000) (A3 A4 : Option Addr) (c3 c4 : Nat) (h3 : kAt.C w A3 n.f2.length n.f2) (l3 : n.f2.length ≤ c3) (h4 : kNd.C w A4 n.f3.length n.f3) (l4 : n.f3.length ≤ c4) :
    Calls Tryd.prog 31 #[.agg #[.int .i64 n.f0, .string n.f1.f0, .string n.f1.f1, .slice A3 n.f2.length c3, .slice A4 n.f3.length c4, .string n.f4]] w fun e w' => e = .returned (.bool (rightB n)) ∧ Below w.heap.size w w' := by
  have hB : Below w.heap.size w ((w.alloc (.cells #[.int .i64 n.f0, .string n.f1.f0, .string n.f1.f1, .slice A3 n.f2.length c3, .slice A4 n.f3.length c4, .string n.f4] 54)).alloc (.cells #[.int .i64 2000] 3)) := ((Below.refl _ _).alloc (Nat.le_refl _) _).alloc (by simp) _
  have hs := right_calls (w.heap.size + 1) w 20000000 n hw (Nat.le_refl _) 1 false 2000 ((w.alloc (.cells #[.int .i64 n.f0, .string n.f1.f0, .string n.f1.f1, .slice A3 n.f2.length c3, .slice A4 n.f3.length c4, .string n.f4] 54)).alloc (.cells #[.int .i64 2000] 3)) A3 A4 c3 c4 (by omega) (by omega) (by omega) (by omega) hB (by omega) (by
    have h := heap_alloc_last (w.alloc (.cells #[.int .i64 n.f0, .string n.f1.f0, .string n.f1.f1, .slice A3 n.f2.length c3, .slice A4 n.f3.length c4, .string n.f4] 54)) (.cells #[.int .i64 2000] 3)
    simpa using h) h3 l3 h4 l4
  have HS := Aside0.mk hs
  have HB := Aside0.mk hB
  clear hs hB h3 h4
  by_cases hk : n.f0 = 1
  · have e : rightB n = (rightN n 1 false 2000).1 := by unfold rightB; rw [decide_eq_true hk]; rfl
    rw [e]
    have r1 : (n.f0 == 1) = true := by simpa using hk
    obtain ⟨r, hr⟩ : ∃ r, r = rightN n 1 false 2000 := ⟨_, rfl⟩
    rw [← hr] at HS ⊢
    clear e hk hr
    go_enter Tryd.func31, Tryd.ntmps31
    go_wp2_with fail
    refine HS.out.mono ?_
    rintro e w1 ⟨rfl, _, hb, _⟩
    have HB1 := Aside0.mk hb
    clear hb
    go_wp2_with fail
    go_ret
    exact ⟨rfl, HB1.out⟩
  · have e : rightB n = false := by unfold rightB; rw [decide_eq_false hk]; rfl
    rw [e]
    have r1 : (n.f0 == 1) = false := by simpa using hk
    clear e hk
    go_enter Tryd.func31, Tryd.ntmps31
    go_wp2_with fail
    go_ret
    exact ⟨rfl, HB.out⟩
end Go.Proofs.YtidkjifilgjgfaaDoor.ND
