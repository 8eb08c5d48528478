import Derived.Test.YtidkjifilgjgfaaDoorPAllx0
import Derived.Test.YtidkjifilgjgfaaDoorPAllx1
-- PRINTED by print.py (a twelfth state) out of the translation. Not trusted: Lean checks it.
namespace Go.Proofs.YtidkjifilgjgfaaDoor.PAll
open Go.RowKit Go.Proofs.YtidkjifilgjgfaaDoorW.PrintWords Go.Proofs.YtidkjifilgjgfaaDoorW.PrintLast Go.Proofs.YtidkjifilgjgfaaDoorW.PrintMore
attribute [local go_sem] yg8 yg6 yh9 yh8 yf9 yf8 yg7 yg5   -- for this text's walks alone
set_option linter.unusedVariables false
set_option linter.unusedSimpArgs false

/-! ### yd1: function 10 -/
def yd1.j0 : Nat → Int → Bool → Option (Int)
  | 0, _, _ => none
  | k + 1, x4, x5 => if x5 = true then (some 1) else (if x4 = 1 then (some 2) else (some 3))
def yd1.f (k : Nat) (a0_0 : Int) (a0_1 : Bool) (l0_2 : List ByteArray) (a0_3 : Bool) (a0_4 : Bool) : Option (Int) := if a0_0 = 3 then (yd1.j0 k a0_0 (a0_0 == 3)) else (yd1.j0 k a0_0 (a0_0 == 2))
theorem yd1.mono_l : ∀ k, (∀ y0 y1, LeO (yd1.j0 k y0 y1) (yd1.j0 (k + 1) y0 y1))
  | 0 => fun _ _ r h => by simp [yd1.j0] at h
  | k + 1 => by
    have ih0 := yd1.mono_l k
    · intro y0 y1
      unfold yd1.j0
      repeat' first
      | (with_reducible exact ih0 _ _)
      | (with_reducible exact LeO.refl _)
      | (with_reducible exact LeO.none _)
      | (with_reducible refine LeO.ite ?_ ?_)
      | (with_reducible refine LeO.bind ?_ (fun _ => ?_))
      | exact ih0 _ _
      | exact LeO.none _
      | refine LeO.ite ?_ ?_
      | refine LeO.bind ?_ (fun _ => ?_)
theorem yd1.mono : ∀ a0 a1 a2 a3 a4 k, LeO (yd1.f k a0 a1 a2 a3 a4) (yd1.f (k + 1) a0 a1 a2 a3 a4) := by
  intro a0 a1 a2 a3 a4 k
  have ih0 := yd1.mono_l k
  unfold yd1.f
  repeat' first
      | (with_reducible exact ih0 _ _)
      | (with_reducible exact LeO.refl _)
      | (with_reducible exact LeO.none _)
      | (with_reducible refine LeO.ite ?_ ?_)
      | (with_reducible refine LeO.bind ?_ (fun _ => ?_))
      | exact ih0 _ _
      | exact LeO.none _
      | refine LeO.ite ?_ ?_
      | refine LeO.bind ?_ (fun _ => ?_)
set_option maxHeartbeats 8000000 in
set_option maxRecDepth 100000 in
theorem yd1.calls (k : Nat) (a0_0 : Int) (a0_1 : Bool) (A0_2 : Option Addr) (c0_2 : Nat) (l0_2 : List ByteArray) (a0_3 : Bool) (a0_4 : Bool) (r : Int) (w : World) (hr0_2 : Kd.C Kd.string w A0_2 l0_2.length l0_2) (hc0_2 : l0_2.length ≤ c0_2) (h : yd1.f k a0_0 a0_1 l0_2 a0_3 a0_4 = some r) :
    Calls Tryd.prog 10 #[.agg #[.int .i64 a0_0, .bool a0_1, .slice A0_2 l0_2.length c0_2, .bool a0_3, .bool a0_4]] w fun e w' => e = .returned (.int .i64 r) ∧ Below w.heap.size w w' := by
  have hu24 := Tryd.underlying24
  have HR0_2 := Aside0.mk hr0_2
  have HC0_2 := Aside0.mk hc0_2
  clear hr0_2 hc0_2
  have HB := Aside0.mk (Below.refl w.heap.size w)
  have H : (if a0_0 = 3 then (yd1.j0 k a0_0 (a0_0 == 3)) else (yd1.j0 k a0_0 (a0_0 == 2))) = some r := h
  clear h
  have HC2 := Aside0.mk H
  clear H
  go_enter Tryd.func10, Tryd.ntmps10
  go_upto_if 5 with (first | ((with_reducible refine yc1 (N := 1) rfl ?_); refine yb9 ?hg (N := 1) ?hd (cs := #[.int .i64 a0_0, .bool a0_1, .slice A0_2 l0_2.length c0_2, .bool a0_3, .bool a0_4]) (t := 24) ?hr ?_; (case hd => rfl); (case hg => rfl); (case hr => first | (go_simp; done) | (go_simp; rfl)); intro gb146 hg w3 hbox hb; have n0_ := Aside0.mk (yb1 (by repeat (first | (with_reducible first | exact HB.out | apply ya2 | apply ya0 | apply ya1) | exact HB.out)) hb); have n1_ := Aside0.mk (hbox); have n2_ := Aside0.mk ((by rw [hg]; exact (ya7 (by repeat (first | (with_reducible first | exact HB.out | apply ya2 | apply ya0 | apply ya1) | exact HB.out))) : w.heap.size ≤ gb146)); have n3_ := Aside0.mk ((by rw [hg]; exact (ya7 (by repeat (first | (with_reducible first | exact HB.out | apply ya2 | apply ya0 | apply ya1) | exact HB.out))) : w.heap.size ≤ gb146)); clear HB; have HB := n0_; have BK146 := n1_; have GW146 := n2_; have GE146 := n3_; clear n0_ n1_ n2_ n3_; clear hb hbox hg; obtain ⟨hcz4_0, hcz4_1, hcz4_2, hcz4_3, hcz4_4, hfz4_0, hfz4_1, hfz4_2, hfz4_3, hfz4_4⟩ := bx5 BK146.out))
  (try simp only [Act.put, zA, zB, zC])
  go_cut [5] (fun v5 wc => ∃ (kq : Nat) (x5_1 : Bool), v5 = .bool x5_1 ∧ Aside0 (yd1.j0 kq a0_0 x5_1 = some r) ∧ Aside0 (kq ≤ k) ∧ Aside0 (wc.heap[gb146]? = some (.cells #[.int .i64 a0_0, .bool a0_1, (.slice A0_2 l0_2.length c0_2), .bool a0_3, .bool a0_4] 24 (0, 0))) ∧ Aside0 (Below w.heap.size w wc))
  case first =>
    have H := HC2.out
    clear HC2
    by_cases c5 : a0_0 = 3
    · rw [if_pos c5] at H
      have c5b0 : (a0_0 == 3) = true := beq_iff_eq.mpr c5
      have c5b1 : (a0_0 != 3) = false := bne_eq_false_iff_eq.mpr c5
      clear c5
      (first | rw [c5b0] | (simp only [i64_w, i32_w]; rw [c5b0]) | skip)
      have H' := Aside0.mk H
      clear H
      go_wp2
      go_meet
      case rel => exact ⟨_, ((a0_0 == 3)), (by first | rfl | (simp; done) | (simp [*]; done)), H', ⟨by first | omega | exact Nat.le_refl _⟩, ⟨by (with_reducible repeat (first | refine ya5 ?_ _ | refine ya6 ?_ | refine ya4 ?_ _)); exact BK146.out⟩, ⟨by repeat (first | (with_reducible first | exact HB.out | apply ya2 | apply ya0 | apply ya1 | refine ya3 ?_ GE146.out) | exact HB.out)⟩⟩
    · rw [if_neg c5] at H
      have c5b0 : (a0_0 == 3) = false := beq_eq_false_iff_ne.mpr c5
      have c5b1 : (a0_0 != 3) = true := bne_iff_ne.mpr c5
      (first | rw [c5b0] | (simp only [i64_w, i32_w]; rw [c5b0]) | skip)
      have H' := Aside0.mk H
      clear H
      go_wp2
      go_meet
      case rel => exact ⟨_, ((a0_0 == 2)), (by first | rfl | (simp; done) | (simp [*]; done)), H', ⟨by first | omega | exact Nat.le_refl _⟩, ⟨by (with_reducible repeat (first | refine ya5 ?_ _ | refine ya6 ?_ | refine ya4 ?_ _)); exact BK146.out⟩, ⟨by repeat (first | (with_reducible first | exact HB.out | apply ya2 | apply ya0 | apply ya1 | refine ya3 ?_ GE146.out) | exact HB.out)⟩⟩
  case rest =>
    clear HC2
    try clear c1
    try clear p2
    try clear c5
    try clear c5b0
    try clear c5b1
    try clear hcz4_0
    try clear hcz4_1
    try clear hcz4_2
    try clear hcz4_3
    try clear hcz4_4
    try clear hfz4_0
    try clear hfz4_1
    try clear hfz4_2
    try clear hfz4_3
    try clear hfz4_4
    obtain ⟨kq, x5_1, rfl, HA, HJ1, BK146, HB⟩ := hcut
    cases kq with
    | zero => exact absurd HA.out (by simp [yd1.j0])
    | succ kj1 =>
      have H := HA.out
      clear HA
      simp only [yd1.j0] at H
      by_cases c6 : x5_1 = true
      · subst c6
        have H1 : (some 1) = some r := by rw [if_pos rfl] at H; exact H
        clear H
        have H := H1
        clear H1
        obtain rfl := Option.some.inj H
        go_wp2
        go_ret
        exact ⟨by first | rfl | (simp [yb0, ya9] <;> rfl) | (simp [*, yb0, ya9] <;> rfl), by repeat (first | (with_reducible first | exact HB.out | apply ya2 | apply ya0 | apply ya1 | refine ya3 ?_ GE146.out) | exact HB.out)⟩
      · replace c6 := Bool.eq_false_iff.mpr c6
        subst c6
        have H1 : (if a0_0 = 1 then (some 2) else (some 3)) = some r := by rw [if_neg (show ¬ (false = true) by decide)] at H; exact H
        clear H
        have H := H1
        clear H1
        by_cases c7 : a0_0 = 1
        · rw [if_pos c7] at H
          have c7b0 : (a0_0 == 1) = true := beq_iff_eq.mpr c7
          have c7b1 : (a0_0 != 1) = false := bne_eq_false_iff_eq.mpr c7
          clear c7
          obtain rfl := Option.some.inj H
          go_wp2
          go_ret
          exact ⟨by first | rfl | (simp [yb0, ya9] <;> rfl) | (simp [*, yb0, ya9] <;> rfl), by repeat (first | (with_reducible first | exact HB.out | apply ya2 | apply ya0 | apply ya1 | refine ya3 ?_ GE146.out) | exact HB.out)⟩
        · rw [if_neg c7] at H
          have c7b0 : (a0_0 == 1) = false := beq_eq_false_iff_ne.mpr c7
          have c7b1 : (a0_0 != 1) = true := bne_iff_ne.mpr c7
          obtain rfl := Option.some.inj H
          go_wp2
          go_ret
          exact ⟨by first | rfl | (simp [yb0, ya9] <;> rfl) | (simp [*, yb0, ya9] <;> rfl), by repeat (first | (with_reducible first | exact HB.out | apply ya2 | apply ya0 | apply ya1 | refine ya3 ?_ GE146.out) | exact HB.out)⟩

/-! ### yd0: function 7 -/
def yd8 (x : S38) : Pd.Tu := ⟨x.f0, x.f1, x.f2, x.f3, x.f4, x.f5, x.f6⟩
theorem filter_Body_read (w : World) (x : S38) (cs : List Value) (h : k38.K w x cs) : Pd.kTu.K w (yd8 x) cs := by
  obtain ⟨A5, c5, rfl, l5, g5⟩ := yq0 h
  exact Pd.kTu_mk w (yd8 x) l5 g5
noncomputable def yd0.f (k : Nat) (a0_0 : Int) (a0_1 : Bool) (l0_2 : List ByteArray) (a0_3 : Bool) (a0_4 : Bool) (a1_0 : ByteArray) (l1_1 : List S38) (l1_2 : List ByteArray) (a2 : Bool) : Option (ByteArray × Int) :=
  if a0_0 = 2 ∨ a0_0 = 3 then (yb8.f k a0_0 a0_1 l0_2 a0_3 a0_4 a1_0 (if a2 = true then l1_1 else []) (if a2 = true then l1_2 else [])).bind fun q => (Pd.pidF q.1 (q.2.1.map yd8) q.2.2).bind fun r => some (if r.2 = 0 then r.1 else ⟨#[]⟩, 1)
  else if a0_0 = 1 then some (⟨#[]⟩, 2) else some (⟨#[]⟩, 3)
theorem yd0.mono : ∀ a0 a1 a2 a3 a4 a5 a6 a7 a8 k, LeO (yd0.f k a0 a1 a2 a3 a4 a5 a6 a7 a8) (yd0.f (k + 1) a0 a1 a2 a3 a4 a5 a6 a7 a8) := by
  intro a0 a1 a2 a3 a4 a5 a6 a7 a8 k
  unfold yd0.f
  exact LeO.ite (LeO.bind (yb8.mono _ _ _ _ _ _ _ _ _) (fun _ => LeO.refl _)) (LeO.refl _)
theorem yd0.state (a0_0 : Int) (a0_1 : Bool) (l0_2 : List ByteArray) (a0_3 a0_4 : Bool) : yd1.f 1 a0_0 a0_1 l0_2 a0_3 a0_4 = some (if a0_0 = 2 ∨ a0_0 = 3 then 1 else if a0_0 = 1 then 2 else 3) := by
  unfold yd1.f
  by_cases h3 : a0_0 = 3
  · subst h3
    rfl
  rw [if_neg h3]
  by_cases h2 : a0_0 = 2
  · subst h2
    rfl
  unfold yd1.j0
  have e2 : (a0_0 == 2) = false := by simp [h2]
  rw [e2]
  by_cases h1 : a0_0 = 1 <;> simp [h1, h2, h3]
set_option maxHeartbeats 2000000 in
set_option maxRecDepth 100000 in
theorem yd0.calls (k : Nat) (a0_0 : Int) (a0_1 : Bool) (A0_2 : Option Addr) (c0_2 : Nat) (l0_2 : List ByteArray) (a0_3 : Bool) (a0_4 : Bool) (a1_0 : ByteArray) (A1_1 : Option Addr) (c1_1 : Nat) (l1_1 : List (S38)) (A1_2 : Option Addr) (c1_2 : Nat) (l1_2 : List ByteArray) (a2 : Bool) (r1 : ByteArray) (r2 : Int) (w : World) (hr0_2 : Kd.C Kd.string w A0_2 l0_2.length l0_2) (hc0_2 : l0_2.length ≤ c0_2) (hr1_1 : Kd.C k38 w A1_1 l1_1.length l1_1) (hc1_1 : l1_1.length ≤ c1_1) (hr1_2 : Kd.C Kd.string w A1_2 l1_2.length l1_2) (hc1_2 : l1_2.length ≤ c1_2) (hml : MT w) (h : yd0.f k a0_0 a0_1 l0_2 a0_3 a0_4 a1_0 l1_1 l1_2 a2 = some (r1, r2)) :
    Calls Tryd.prog 7 #[.agg #[.int .i64 a0_0, .bool a0_1, .slice A0_2 l0_2.length c0_2, .bool a0_3, .bool a0_4], .agg #[.string a1_0, .slice A1_1 l1_1.length c1_1, .slice A1_2 l1_2.length c1_2], .bool a2] w fun e w' => e = .returned (.tuple #[.string r1, .int .i64 r2]) ∧ Below w.heap.size w w' := by
  have hs := yd0.state a0_0 a0_1 l0_2 a0_3 a0_4
  unfold yd0.f at h
  have hst : ∀ q, (if a0_0 = 2 ∨ a0_0 = 3 then (1 : Int) else if a0_0 = 1 then 2 else 3) = q → ∀ W, Kd.C Kd.string W A0_2 l0_2.length l0_2 → Calls Tryd.prog 10 #[.agg #[.int .i64 a0_0, .bool a0_1, .slice A0_2 l0_2.length c0_2, .bool a0_3, .bool a0_4]] W fun e w' => e = .returned (.int .i64 q) ∧ Pd.Bw W w' := by
    rintro q rfl W hW
    exact yd1.calls 1 a0_0 a0_1 A0_2 c0_2 l0_2 a0_3 a0_4 _ W hW hc0_2 hs
  obtain ⟨W0, hW0⟩ : ∃ W0, W0 = (w.alloc (.cells #[.int .i64 a0_0, .bool a0_1, .slice A0_2 l0_2.length c0_2, .bool a0_3, .bool a0_4] 24)).alloc (.cells #[.string a1_0, .slice A1_1 l1_1.length c1_1, .slice A1_2 l1_2.length c1_2] 27) := ⟨_, rfl⟩
  have B0 : Pd.Bw w W0 := hW0 ▸ ((Pd.Bw.refl w).alloc _).alloc _
  have hx : W0.heap[w.heap.size]? = some (.cells #[.int .i64 a0_0, .bool a0_1, .slice A0_2 l0_2.length c0_2, .bool a0_3, .bool a0_4] 24 (0, 0)) := by
    rw [hW0]
    exact Pd.Bw.last2 (Pd.Bw.refl _)
  have hz : W0.heap[w.heap.size + 1]? = some (.cells #[.string a1_0, .slice A1_1 l1_1.length c1_1, .slice A1_2 l1_2.length c1_2] 27 (0, 0)) := by
    rw [hW0]
    have h := heap_alloc_last (w.alloc (.cells #[.int .i64 a0_0, .bool a0_1, .slice A0_2 l0_2.length c0_2, .bool a0_3, .bool a0_4] 24)) (.cells #[.string a1_0, .slice A1_1 l1_1.length c1_1, .slice A1_2 l1_2.length c1_2] 27)
    rw [Pd.ye3] at h
    exact h
  have HX := Aside0.mk hx
  have HZ := Aside0.mk hz
  have HML := Aside0.mk hml
  have HR0 := Aside0.mk hr0_2
  by_cases hh : a0_0 = 2 ∨ a0_0 = 3
  · rw [if_pos hh] at h
    rw [if_pos hh] at hst
    obtain ⟨⟨q1, q2, q3⟩, hq, h⟩ := Option.bind_eq_some_iff.1 h
    obtain ⟨⟨p1, p2⟩, hp, h⟩ := Option.bind_eq_some_iff.1 h
    dsimp only at h hp
    obtain ⟨he1, rfl⟩ := Prod.mk.inj (Option.some.inj h)
    have HST := Aside0.mk (hst 1 rfl)
    have HPI := Aside0.mk (fun W (hT : MT W) A1 c1 A2 c2 (h1 : Kd.C k38 W A1 q2.length q2) (h2 : Kd.string.C W A2 q3.length q3) (l2 : q3.length ≤ c2) => by
      have h := Pd.pidF_calls q1 (q2.map yd8) q3 (p1, p2) hp A1 A2 c1 c2 W (by rw [List.length_map]; exact Pd.C_map yd8 rfl filter_Body_read h1) h2 l2 hT
      rw [List.length_map] at h
      exact h)
    dsimp only at HPI
    have HB0 := Aside0.mk B0
    clear hs h hst B0 hx hz hml hh hp
    cases a2 with
    | true =>
      have HA := Aside0.mk (fun W (hg : Pd.Bw w W) => yb8.calls k a0_0 a0_1 A0_2 c0_2 l0_2 a0_3 a0_4 a1_0 A1_1 c1_1 l1_1 A1_2 c1_2 l1_2 q1 q2 q3 W (Kd.yc4 hr0_2 hg) hc0_2 (Kd.yc4 hr1_1 hg) hc1_1 (Kd.yc4 hr1_2 hg) hc1_2 hq)
      clear hr0_2 hr1_1 hr1_2 hc0_2 hc1_1 hc1_2 hq
      subst hW0
      by_cases h0 : p2 = 0
      · subst h0
        rw [if_pos rfl] at he1
        subst he1
        go_enter Tryd.func7, Tryd.ntmps7
        go_wp2_with (first
          | (go_at_call 10; (refine (HST.out _ (Kd.yc4 HR0.out HB0.out)).mono ?_); rintro e9 w1 ⟨rfl, hb1⟩; obtain ⟨x0, x1, x2, x3, x4⟩ := Pd.box5 (hb1.block HX.out); obtain ⟨y0, y1, y2⟩ := Pd.box3' (hb1.block HZ.out))
          | (go_at_call 9; (refine (HA.out _ (HB0.out.trans hb1)).mono ?_); rintro e8 w2 ⟨v1, v2, rfl, hS, hR, hb2⟩; obtain ⟨B1, d1, rfl, m1, C1⟩ := Kd.ys6 hS; obtain ⟨B2, d2, rfl, m2, C2⟩ := Kd.yj0 hR; clear hS hR)
          | (go_at_call 12; (refine (HPI.out _ ?_ _ _ _ _ C1 C2 m2).mono ?_); (exact MT.below HML.out (Pd.Bw.trans (HB0.out.trans hb1) hb2)); rintro e7 w3 ⟨rfl, hb3⟩))
        go_ret2
        exact ⟨rfl, Pd.Bw.trans (Pd.Bw.trans (HB0.out.trans hb1) hb2) hb3⟩
      · rw [if_neg h0] at he1
        subst he1
        have hne : (p2 != 0) = true := by simpa using h0
        have hne2 := eq_false h0
        clear h0
        go_enter Tryd.func7, Tryd.ntmps7
        go_wp2_with (first
          | (go_at_call 10; (refine (HST.out _ (Kd.yc4 HR0.out HB0.out)).mono ?_); rintro e9 w1 ⟨rfl, hb1⟩; obtain ⟨x0, x1, x2, x3, x4⟩ := Pd.box5 (hb1.block HX.out); obtain ⟨y0, y1, y2⟩ := Pd.box3' (hb1.block HZ.out))
          | (go_at_call 9; (refine (HA.out _ (HB0.out.trans hb1)).mono ?_); rintro e8 w2 ⟨v1, v2, rfl, hS, hR, hb2⟩; obtain ⟨B1, d1, rfl, m1, C1⟩ := Kd.ys6 hS; obtain ⟨B2, d2, rfl, m2, C2⟩ := Kd.yj0 hR; clear hS hR)
          | (go_at_call 12; (refine (HPI.out _ ?_ _ _ _ _ C1 C2 m2).mono ?_); (exact MT.below HML.out (Pd.Bw.trans (HB0.out.trans hb1) hb2)); rintro e7 w3 ⟨rfl, hb3⟩))
        go_ret2
        exact ⟨rfl, Pd.Bw.trans (Pd.Bw.trans (HB0.out.trans hb1) hb2) hb3⟩
    | false =>
      have HA := Aside0.mk (fun W (hg : Pd.Bw w W) => yb8.calls k a0_0 a0_1 A0_2 c0_2 l0_2 a0_3 a0_4 a1_0 none 0 ([] : List S38) none 0 ([] : List ByteArray) q1 q2 q3 W (Kd.yc4 hr0_2 hg) hc0_2 (Kd.C_nil _ _) (Nat.le_refl _) (Kd.C_nil _ _) (Nat.le_refl _) hq)
      simp only [List.length_nil] at HA
      clear hr0_2 hr1_1 hr1_2 hc0_2 hc1_1 hc1_2 hq
      subst hW0
      by_cases h0 : p2 = 0
      · subst h0
        rw [if_pos rfl] at he1
        subst he1
        go_enter Tryd.func7, Tryd.ntmps7
        go_wp2_with (first
          | (go_at_call 10; (refine (HST.out _ (Kd.yc4 HR0.out HB0.out)).mono ?_); rintro e9 w1 ⟨rfl, hb1⟩; obtain ⟨x0, x1, x2, x3, x4⟩ := Pd.box5 (hb1.block HX.out); obtain ⟨y0, y1, y2⟩ := Pd.box3' (hb1.block HZ.out); have z0 := yd4 (hb1.block HZ.out) 0; have z1 := yd4 (hb1.block HZ.out) 1; have z2 := yd4 (hb1.block HZ.out) 2; have HWX := Aside0.mk ((((HB0.out.trans hb1).set ⟨w.heap.size + 1, 0, none⟩ (.string a1_0) (Nat.le_succ _)).set ⟨w.heap.size + 1, 1, none⟩ (.slice none 0 0) (Nat.le_succ _)).set ⟨w.heap.size + 1, 2, none⟩ (.slice none 0 0) (Nat.le_succ _)))
          | (go_at_call 9; (refine (HA.out _ HWX.out).mono ?_); rintro e8 w2 ⟨v1, v2, rfl, hS, hR, hb2⟩; obtain ⟨B1, d1, rfl, m1, C1⟩ := Kd.ys6 hS; obtain ⟨B2, d2, rfl, m2, C2⟩ := Kd.yj0 hR; clear hS hR)
          | (go_at_call 12; (refine (HPI.out _ ?_ _ _ _ _ C1 C2 m2).mono ?_); (exact MT.below HML.out (Pd.Bw.trans HWX.out hb2)); rintro e7 w3 ⟨rfl, hb3⟩))
        go_ret2
        exact ⟨rfl, Pd.Bw.trans (Pd.Bw.trans HWX.out hb2) hb3⟩
      · rw [if_neg h0] at he1
        subst he1
        have hne : (p2 != 0) = true := by simpa using h0
        have hne2 := eq_false h0
        clear h0
        go_enter Tryd.func7, Tryd.ntmps7
        go_wp2_with (first
          | (go_at_call 10; (refine (HST.out _ (Kd.yc4 HR0.out HB0.out)).mono ?_); rintro e9 w1 ⟨rfl, hb1⟩; obtain ⟨x0, x1, x2, x3, x4⟩ := Pd.box5 (hb1.block HX.out); obtain ⟨y0, y1, y2⟩ := Pd.box3' (hb1.block HZ.out); have z0 := yd4 (hb1.block HZ.out) 0; have z1 := yd4 (hb1.block HZ.out) 1; have z2 := yd4 (hb1.block HZ.out) 2; have HWX := Aside0.mk ((((HB0.out.trans hb1).set ⟨w.heap.size + 1, 0, none⟩ (.string a1_0) (Nat.le_succ _)).set ⟨w.heap.size + 1, 1, none⟩ (.slice none 0 0) (Nat.le_succ _)).set ⟨w.heap.size + 1, 2, none⟩ (.slice none 0 0) (Nat.le_succ _)))
          | (go_at_call 9; (refine (HA.out _ HWX.out).mono ?_); rintro e8 w2 ⟨v1, v2, rfl, hS, hR, hb2⟩; obtain ⟨B1, d1, rfl, m1, C1⟩ := Kd.ys6 hS; obtain ⟨B2, d2, rfl, m2, C2⟩ := Kd.yj0 hR; clear hS hR)
          | (go_at_call 12; (refine (HPI.out _ ?_ _ _ _ _ C1 C2 m2).mono ?_); (exact MT.below HML.out (Pd.Bw.trans HWX.out hb2)); rintro e7 w3 ⟨rfl, hb3⟩))
        go_ret2
        exact ⟨rfl, Pd.Bw.trans (Pd.Bw.trans HWX.out hb2) hb3⟩
  · rw [if_neg hh] at h
    rw [if_neg hh] at hst
    obtain ⟨q, hq, hq1, hqr⟩ : ∃ q : Int, (if a0_0 = 1 then (2 : Int) else 3) = q ∧ (q == 1) = false ∧ r1 = ⟨#[]⟩ ∧ r2 = q := by
      by_cases h1 : a0_0 = 1
      · rw [if_pos h1] at h
        obtain ⟨rfl, rfl⟩ := Prod.mk.inj (Option.some.inj h)
        exact ⟨2, by rw [if_pos h1], rfl, rfl, rfl⟩
      · rw [if_neg h1] at h
        obtain ⟨rfl, rfl⟩ := Prod.mk.inj (Option.some.inj h)
        exact ⟨3, by rw [if_neg h1], rfl, rfl, rfl⟩
    obtain ⟨rfl, rfl⟩ := hqr
    have HST := Aside0.mk (hst r2 hq)
    have hq2 : (r2 != 1) = true := by simpa [bne] using hq1
    have HB0 := Aside0.mk B0
    clear hs h hst B0 hx hz hml hh hq hr0_2 hr1_1 hr1_2 hc0_2 hc1_1 hc1_2
    subst hW0
    go_enter Tryd.func7, Tryd.ntmps7
    go_wp2_with ((go_at_call 10; (refine (HST.out _ (Kd.yc4 HR0.out HB0.out)).mono ?_); rintro e9 w1 ⟨rfl, hb1⟩))
    go_ret2
    exact ⟨rfl, HB0.out.trans hb1⟩

end Go.Proofs.YtidkjifilgjgfaaDoor.PAll
