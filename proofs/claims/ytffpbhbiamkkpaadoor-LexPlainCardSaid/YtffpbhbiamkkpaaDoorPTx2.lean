-- PRINTED by print.py (a twelfth state) out of the translation. Not trusted: Lean checks it.
import Derived.Test.YtffpbhbiamkkpaaDoorPTx0
import Derived.Test.YtffpbhbiamkkpaaDoorPTx1
namespace Go.Proofs.YtffpbhbiamkkpaaDoor.PT
open Go.RowKit Go.Proofs.YtffpbhbiamkkpaaDoorW.PrintWords Go.Proofs.YtffpbhbiamkkpaaDoorW.PrintLast Go.Proofs.YtffpbhbiamkkpaaDoorW.PrintMore
attribute [local go_sem] max2_int min2_int max_two min_two max_three min_three max_four min_four   -- for this text's walks alone
set_option linter.unusedVariables false
set_option linter.unusedSimpArgs false

/-! ### watchbilllaw03_LexPlain: function 6 -/
mutual
def watchbilllaw03_LexPlain.j0 : Nat → ByteArray → ByteArray → Bool → Option (Bool)
  | 0, _, _, _ => none
  | k + 1, x0, x1, x27 => if x27 = true then (some true) else ((lex_Unescape.f x0 false).bind fun bt126 => ((lex_Unescape.f x1 false).bind fun bt129 => (if bt126.2.2 = 0 then (if bt129.2.2 = 0 then (if (x0.size : Int) = 0 then (watchbilllaw03_LexPlain.j1 k x0 x1 bt126.1 bt126.2.2 bt129.1 true) else (if 0 ≤ (wrap64 ((x0.size : Int) - 1)) then (if (wrap64 ((x0.size : Int) - 1)) < (x0.size : Int) then (watchbilllaw03_LexPlain.j1 k x0 x1 bt126.1 bt126.2.2 bt129.1 ((bt x0 (wrap64 ((x0.size : Int) - 1))) != 13)) else (none)) else (none))) else (watchbilllaw03_LexPlain.j1 k x0 x1 bt126.1 bt126.2.2 bt129.1 false)) else (watchbilllaw03_LexPlain.j1 k x0 x1 bt126.1 bt126.2.2 bt129.1 false))))
def watchbilllaw03_LexPlain.j1 : Nat → ByteArray → ByteArray → ByteArray → Int → ByteArray → Bool → Option (Bool)
  | 0, _, _, _, _, _, _ => none
  | k + 1, x0, x1, x5, x7, x8, x58 => if x58 = true then (if x0.size + x1.size ≤ 9223372036854775807 then ((lex_Unescape.f (x0 ++ x1) false).bind fun bt132 => (if x5.size + x8.size ≤ 9223372036854775807 then (if bt132.1.toList = (x5 ++ x8).toList then (if bt132.2.1 = 0 then (if bt132.2.2 = 0 then (watchbilllaw03_LexPlain.j2 k x0 x5 x7) else (none)) else (none)) else (none)) else (none))) else (none)) else (watchbilllaw03_LexPlain.j2 k x0 x5 x7)
def watchbilllaw03_LexPlain.j2 : Nat → ByteArray → ByteArray → Int → Option (Bool)
  | 0, _, _, _ => none
  | k + 1, x0, x5, x7 => watchbilllaw03_LexPlain.l0 k x0 x5 x7 0
def watchbilllaw03_LexPlain.l0 : Nat → ByteArray → ByteArray → Int → Int → Option (Bool)
  | 0, _, _, _, _ => none
  | k + 1, x0, x5, x7, x14 => if x14 < (x0.size : Int) then (if 0 ≤ x14 then (if (bt x0 x14) = 38 then (some true) else (if (bt x0 x14) = 13 then (some true) else (watchbilllaw03_LexPlain.l0 k x0 x5 x7 (wrap64 (x14 + 1))))) else (none)) else (if x0.size + 4 ≤ 9223372036854775807 then ((lex_Unescape.f (x0 ++ (⟨#[38, 103, 116, 59]⟩ : ByteArray)) false).bind fun bt135 => (if x5.toList = x0.toList then (if x7 = 0 then (if x0.size + 1 ≤ 9223372036854775807 then (if bt135.1.toList = (x0 ++ (⟨#[62]⟩ : ByteArray)).toList then (some (bt135.2.2 == 0)) else (none)) else (none)) else (none)) else (none))) else (none))
end
def watchbilllaw03_LexPlain.f (k : Nat) (a0 : ByteArray) (a1 : ByteArray) : Option (Bool) := (watchbilllaw03_awake.f).bind fun t125 => (if t125 = true then (if (a0.size : Int) > 20000 then (watchbilllaw03_LexPlain.j0 k a0 a1 true) else (watchbilllaw03_LexPlain.j0 k a0 a1 (decide ((a1.size : Int) > 20000)))) else (none))
theorem watchbilllaw03_LexPlain.mono_l : ∀ k, (∀ y0 y1 y2, LeO (watchbilllaw03_LexPlain.j0 k y0 y1 y2) (watchbilllaw03_LexPlain.j0 (k + 1) y0 y1 y2)) ∧ (∀ y0 y1 y2 y3 y4 y5, LeO (watchbilllaw03_LexPlain.j1 k y0 y1 y2 y3 y4 y5) (watchbilllaw03_LexPlain.j1 (k + 1) y0 y1 y2 y3 y4 y5)) ∧ (∀ y0 y1 y2, LeO (watchbilllaw03_LexPlain.j2 k y0 y1 y2) (watchbilllaw03_LexPlain.j2 (k + 1) y0 y1 y2)) ∧ (∀ y0 y1 y2 y3, LeO (watchbilllaw03_LexPlain.l0 k y0 y1 y2 y3) (watchbilllaw03_LexPlain.l0 (k + 1) y0 y1 y2 y3))
  | 0 => ⟨fun _ _ _ r h => by simp [watchbilllaw03_LexPlain.j0] at h, fun _ _ _ _ _ _ r h => by simp [watchbilllaw03_LexPlain.j1] at h, fun _ _ _ r h => by simp [watchbilllaw03_LexPlain.j2] at h, fun _ _ _ _ r h => by simp [watchbilllaw03_LexPlain.l0] at h⟩
  | k + 1 => by
    obtain ⟨ih0, ih1, ih2, ih3⟩ := watchbilllaw03_LexPlain.mono_l k
    refine ⟨?_, ?_, ?_, ?_⟩
    · intro y0 y1 y2
      unfold watchbilllaw03_LexPlain.j0
      repeat' first
      | (with_reducible exact ih0 _ _ _)
      | (with_reducible exact ih1 _ _ _ _ _ _)
      | (with_reducible exact ih2 _ _ _)
      | (with_reducible exact ih3 _ _ _ _)
      | (with_reducible exact LeO.refl _)
      | (with_reducible exact LeO.none _)
      | (with_reducible refine LeO.ite ?_ ?_)
      | (with_reducible refine LeO.bind ?_ (fun _ => ?_))
      | exact ih0 _ _ _
      | exact ih1 _ _ _ _ _ _
      | exact ih2 _ _ _
      | exact ih3 _ _ _ _
      | exact LeO.none _
      | refine LeO.ite ?_ ?_
      | refine LeO.bind ?_ (fun _ => ?_)
    · intro y0 y1 y2 y3 y4 y5
      unfold watchbilllaw03_LexPlain.j1
      repeat' first
      | (with_reducible exact ih0 _ _ _)
      | (with_reducible exact ih1 _ _ _ _ _ _)
      | (with_reducible exact ih2 _ _ _)
      | (with_reducible exact ih3 _ _ _ _)
      | (with_reducible exact LeO.refl _)
      | (with_reducible exact LeO.none _)
      | (with_reducible refine LeO.ite ?_ ?_)
      | (with_reducible refine LeO.bind ?_ (fun _ => ?_))
      | exact ih0 _ _ _
      | exact ih1 _ _ _ _ _ _
      | exact ih2 _ _ _
      | exact ih3 _ _ _ _
      | exact LeO.none _
      | refine LeO.ite ?_ ?_
      | refine LeO.bind ?_ (fun _ => ?_)
    · intro y0 y1 y2
      unfold watchbilllaw03_LexPlain.j2
      repeat' first
      | (with_reducible exact ih0 _ _ _)
      | (with_reducible exact ih1 _ _ _ _ _ _)
      | (with_reducible exact ih2 _ _ _)
      | (with_reducible exact ih3 _ _ _ _)
      | (with_reducible exact LeO.refl _)
      | (with_reducible exact LeO.none _)
      | (with_reducible refine LeO.ite ?_ ?_)
      | (with_reducible refine LeO.bind ?_ (fun _ => ?_))
      | exact ih0 _ _ _
      | exact ih1 _ _ _ _ _ _
      | exact ih2 _ _ _
      | exact ih3 _ _ _ _
      | exact LeO.none _
      | refine LeO.ite ?_ ?_
      | refine LeO.bind ?_ (fun _ => ?_)
    · intro y0 y1 y2 y3
      unfold watchbilllaw03_LexPlain.l0
      repeat' first
      | (with_reducible exact ih0 _ _ _)
      | (with_reducible exact ih1 _ _ _ _ _ _)
      | (with_reducible exact ih2 _ _ _)
      | (with_reducible exact ih3 _ _ _ _)
      | (with_reducible exact LeO.refl _)
      | (with_reducible exact LeO.none _)
      | (with_reducible refine LeO.ite ?_ ?_)
      | (with_reducible refine LeO.bind ?_ (fun _ => ?_))
      | exact ih0 _ _ _
      | exact ih1 _ _ _ _ _ _
      | exact ih2 _ _ _
      | exact ih3 _ _ _ _
      | exact LeO.none _
      | refine LeO.ite ?_ ?_
      | refine LeO.bind ?_ (fun _ => ?_)
theorem watchbilllaw03_LexPlain.mono : ∀ a0 a1 k, LeO (watchbilllaw03_LexPlain.f k a0 a1) (watchbilllaw03_LexPlain.f (k + 1) a0 a1) := by
  intro a0 a1 k
  obtain ⟨ih0, ih1, ih2, ih3⟩ := watchbilllaw03_LexPlain.mono_l k
  unfold watchbilllaw03_LexPlain.f
  repeat' first
      | (with_reducible exact ih0 _ _ _)
      | (with_reducible exact ih1 _ _ _ _ _ _)
      | (with_reducible exact ih2 _ _ _)
      | (with_reducible exact ih3 _ _ _ _)
      | (with_reducible exact LeO.refl _)
      | (with_reducible exact LeO.none _)
      | (with_reducible refine LeO.ite ?_ ?_)
      | (with_reducible refine LeO.bind ?_ (fun _ => ?_))
      | exact ih0 _ _ _
      | exact ih1 _ _ _ _ _ _
      | exact ih2 _ _ _
      | exact ih3 _ _ _ _
      | exact LeO.none _
      | refine LeO.ite ?_ ?_
      | refine LeO.bind ?_ (fun _ => ?_)
set_option maxHeartbeats 8000000 in
set_option maxRecDepth 100000 in
theorem watchbilllaw03_LexPlain.calls (k : Nat) (a0 : ByteArray) (a1 : ByteArray) (r : Bool) (w : World) (hml : ML w) (h : watchbilllaw03_LexPlain.f k a0 a1 = some r) :
    Calls Tryd.prog 6 #[.string a0, .string a1] w fun e w' => e = .returned (.bool r) ∧ Below w.heap.size w w' := by
  have HML := Aside0.mk hml
  clear hml
  have HB := Aside0.mk (Below.refl w.heap.size w)
  have H : ((watchbilllaw03_awake.f).bind fun t125 => (if t125 = true then (if (a0.size : Int) > 20000 then (watchbilllaw03_LexPlain.j0 k a0 a1 true) else (watchbilllaw03_LexPlain.j0 k a0 a1 (decide ((a1.size : Int) > 20000)))) else (none))) = some r := h
  clear h
  replace H := Option.bind_eq_some_iff.mp H
  obtain ⟨t125, A30, H⟩ := H
  replace H : (if t125 = true then (if (a0.size : Int) > 20000 then (watchbilllaw03_LexPlain.j0 k a0 a1 true) else (watchbilllaw03_LexPlain.j0 k a0 a1 (decide ((a1.size : Int) > 20000)))) else (none)) = some r := H
  have A3 := Aside0.mk A30
  clear A30
  by_cases c4 : t125 = true
  rotate_left 1
  · replace c4 := Bool.eq_false_iff.mpr c4
    subst c4
    have H1 : (none) = some r := by rw [if_neg (show ¬ (false = true) by decide)] at H; exact H
    clear H
    have H := H1
    clear H1
    exact absurd H (by simp)

  subst c4
  have H1 : (if (a0.size : Int) > 20000 then (watchbilllaw03_LexPlain.j0 k a0 a1 true) else (watchbilllaw03_LexPlain.j0 k a0 a1 (decide ((a1.size : Int) > 20000)))) = some r := by rw [if_pos rfl] at H; exact H
  clear H
  have H := H1
  clear H1
  have HC5 := Aside0.mk H
  clear H
  go_enter Tryd.func6, Tryd.ntmps6
  go_upto_region 3 with (first | ((with_reducible refine gate_callee (f := 20) rfl ?_); refine goesL_ (some 18) rfl rfl Tryd.func20 (by kernel_rfl) rfl #[] rfl (by (try simp only [List.map_toArray, List.map_cons, List.map_nil]); first | done | rfl | (simp only [List.length_drop, List.length_take]; rfl) | (simp only [ByteArray.size_extract]; rfl)) ?_; (with_reducible refine (watchbilllaw03_awake.calls  true _ (by exact ML.below HML.out (by repeat (first | (with_reducible first | exact HB.out | apply below_alloc | apply pw_below_drewN | apply below_drew1) | exact HB.out))) A3.out).mono ?_); rintro e w6 ⟨rfl, hb⟩; refine ⟨_, rfl, ?_⟩; have n0_ := Aside0.mk (below_step (by repeat (first | (with_reducible first | exact HB.out | apply below_alloc | apply pw_below_drewN | apply below_drew1) | exact HB.out)) hb); clear HB; have HB := n0_; clear n0_; (try clear hb); (try clear hb2); (try clear hk); (try clear hi)))
  (try simp only [Act.put, zA, zB, zC])
  go_cut [27] (fun v27 wc => ∃ (kq : Nat) (x27_4 : Bool), v27 = .bool x27_4 ∧ Aside0 (watchbilllaw03_LexPlain.j0 kq a0 a1 x27_4 = some r) ∧ Aside0 (kq ≤ k) ∧ Aside0 (Below w.heap.size w wc))
  case first =>
    have H := HC5.out
    clear HC5
    by_cases c7 : (a0.size : Int) > 20000
    rotate_left 1
    · rw [if_neg c7] at H
      have c7b0 : decide (20000 < (a0.size : Int)) = false := decide_eq_false c7
      have c7b1 : decide (20000 < a0.size) = false := decide_eq_false (by omega)
      clear c7
      (first | rw [c7b0] | (simp only [i64_w, i32_w]; rw [c7b0]) | skip)
      have H' := Aside0.mk H
      clear H
      go_wp2
      go_meet
      case rel => exact ⟨_, (decide ((a1.size : Int) > 20000)), (by first | rfl | (simp; done) | (simp [*]; done)), H', ⟨by first | omega | exact Nat.le_refl _⟩, ⟨by repeat (first | (with_reducible first | exact HB.out | apply below_alloc | apply pw_below_drewN | apply below_drew1) | exact HB.out)⟩⟩
    rw [if_pos c7] at H
    have c7b0 : decide (20000 < (a0.size : Int)) = true := decide_eq_true c7
    have c7b1 : decide (20000 < a0.size) = true := decide_eq_true (by omega)
    clear c7
    (first | rw [c7b0] | (simp only [i64_w, i32_w]; rw [c7b0]) | skip)
    have H' := Aside0.mk H
    clear H
    go_wp2
    go_meet
    case rel => exact ⟨_, (true), (by first | rfl | (simp; done) | (simp [*]; done)), H', ⟨by first | omega | exact Nat.le_refl _⟩, ⟨by repeat (first | (with_reducible first | exact HB.out | apply below_alloc | apply pw_below_drewN | apply below_drew1) | exact HB.out)⟩⟩
  case rest =>
    clear HC5
    try clear c2
    try clear p2
    try clear c4
    try clear c6
    try clear c7
    try clear c7b0
    try clear c7b1
    obtain ⟨kq, x27_4, rfl, HA, HJ4, HB⟩ := hcut
    cases kq with
    | zero => exact absurd HA.out (by simp [watchbilllaw03_LexPlain.j0])
    | succ kj4 =>
      have H := HA.out
      clear HA
      simp only [watchbilllaw03_LexPlain.j0] at H
      by_cases c8 : x27_4 = true
      · subst c8
        have H1 : (some true) = some r := by rw [if_pos rfl] at H; exact H
        clear H
        have H := H1
        clear H1
        obtain rfl := Option.some.inj H
        go_wp2
        go_ret
        exact ⟨by first | rfl | (simp [errW_none, errW_some] <;> rfl) | (simp [*, errW_none, errW_some] <;> rfl), by repeat (first | (with_reducible first | exact HB.out | apply below_alloc | apply pw_below_drewN | apply below_drew1) | exact HB.out)⟩
      replace c8 := Bool.eq_false_iff.mpr c8
      subst c8
      have H1 : ((lex_Unescape.f a0 false).bind fun bt126 => ((lex_Unescape.f a1 false).bind fun bt129 => (if bt126.2.2 = 0 then (if bt129.2.2 = 0 then (if (a0.size : Int) = 0 then (watchbilllaw03_LexPlain.j1 kj4 a0 a1 bt126.1 bt126.2.2 bt129.1 true) else (if 0 ≤ (wrap64 ((a0.size : Int) - 1)) then (if (wrap64 ((a0.size : Int) - 1)) < (a0.size : Int) then (watchbilllaw03_LexPlain.j1 kj4 a0 a1 bt126.1 bt126.2.2 bt129.1 ((bt a0 (wrap64 ((a0.size : Int) - 1))) != 13)) else (none)) else (none))) else (watchbilllaw03_LexPlain.j1 kj4 a0 a1 bt126.1 bt126.2.2 bt129.1 false)) else (watchbilllaw03_LexPlain.j1 kj4 a0 a1 bt126.1 bt126.2.2 bt129.1 false)))) = some r := by rw [if_neg (show ¬ (false = true) by decide)] at H; exact H
      clear H
      have H := H1
      clear H1
      replace H := Option.bind_eq_some_iff.mp H
      obtain ⟨⟨t126, t127, t128⟩, A90, H⟩ := H
      replace H : ((lex_Unescape.f a1 false).bind fun bt129 => (if t128 = 0 then (if bt129.2.2 = 0 then (if (a0.size : Int) = 0 then (watchbilllaw03_LexPlain.j1 kj4 a0 a1 t126 t128 bt129.1 true) else (if 0 ≤ (wrap64 ((a0.size : Int) - 1)) then (if (wrap64 ((a0.size : Int) - 1)) < (a0.size : Int) then (watchbilllaw03_LexPlain.j1 kj4 a0 a1 t126 t128 bt129.1 ((bt a0 (wrap64 ((a0.size : Int) - 1))) != 13)) else (none)) else (none))) else (watchbilllaw03_LexPlain.j1 kj4 a0 a1 t126 t128 bt129.1 false)) else (watchbilllaw03_LexPlain.j1 kj4 a0 a1 t126 t128 bt129.1 false))) = some r := H
      have A9 := Aside0.mk A90
      clear A90
      replace H := Option.bind_eq_some_iff.mp H
      obtain ⟨⟨t129, t130, t131⟩, A100, H⟩ := H
      replace H : (if t128 = 0 then (if t131 = 0 then (if (a0.size : Int) = 0 then (watchbilllaw03_LexPlain.j1 kj4 a0 a1 t126 t128 t129 true) else (if 0 ≤ (wrap64 ((a0.size : Int) - 1)) then (if (wrap64 ((a0.size : Int) - 1)) < (a0.size : Int) then (watchbilllaw03_LexPlain.j1 kj4 a0 a1 t126 t128 t129 ((bt a0 (wrap64 ((a0.size : Int) - 1))) != 13)) else (none)) else (none))) else (watchbilllaw03_LexPlain.j1 kj4 a0 a1 t126 t128 t129 false)) else (watchbilllaw03_LexPlain.j1 kj4 a0 a1 t126 t128 t129 false)) = some r := H
      have A10 := Aside0.mk A100
      clear A100
      have HC11 := Aside0.mk H
      clear H
      go_upto_region 7 with (first | ((with_reducible refine gate_callee (f := 21) rfl ?_); refine goesL_ (some 30) rfl rfl Tryd.func21 (by kernel_rfl) rfl #[.string a0, .bool false] rfl (by (try simp only [List.map_toArray, List.map_cons, List.map_nil]); first | done | rfl | (simp only [List.length_drop, List.length_take]; rfl) | (simp only [ByteArray.size_extract]; rfl)) ?_; (with_reducible refine (lex_Unescape.calls a0 false t126 t127 t128 _ (by exact ML.below HML.out (by repeat (first | (with_reducible first | exact HB.out | apply below_alloc | apply pw_below_drewN | apply below_drew1) | exact HB.out))) A9.out).mono ?_); rintro e w12 ⟨rfl, hb⟩; refine ⟨_, rfl, ?_⟩; have n0_ := Aside0.mk (below_step (by repeat (first | (with_reducible first | exact HB.out | apply below_alloc | apply pw_below_drewN | apply below_drew1) | exact HB.out)) hb); clear HB; have HB := n0_; clear n0_; (try clear hb); (try clear hb2); (try clear hk); (try clear hi)) | ((with_reducible refine gate_callee (f := 21) rfl ?_); refine goesL_ (some 36) rfl rfl Tryd.func21 (by kernel_rfl) rfl #[.string a1, .bool false] rfl (by (try simp only [List.map_toArray, List.map_cons, List.map_nil]); first | done | rfl | (simp only [List.length_drop, List.length_take]; rfl) | (simp only [ByteArray.size_extract]; rfl)) ?_; (with_reducible refine (lex_Unescape.calls a1 false t129 t130 t131 _ (by exact ML.below HML.out (by repeat (first | (with_reducible first | exact HB.out | apply below_alloc | apply pw_below_drewN | apply below_drew1) | exact HB.out))) A10.out).mono ?_); rintro e w13 ⟨rfl, hb⟩; refine ⟨_, rfl, ?_⟩; have n0_ := Aside0.mk (below_step (by repeat (first | (with_reducible first | exact HB.out | apply below_alloc | apply pw_below_drewN | apply below_drew1) | exact HB.out)) hb); clear HB; have HB := n0_; clear n0_; (try clear hb); (try clear hb2); (try clear hk); (try clear hi)))
      (try simp only [Act.put, zA, zB, zC])
      go_cut [58] (fun v58 wc => ∃ (kq : Nat) (x58_10 : Bool), v58 = .bool x58_10 ∧ Aside0 (watchbilllaw03_LexPlain.j1 kq a0 a1 t126 t128 t129 x58_10 = some r) ∧ Aside0 (kq ≤ kj4) ∧ Aside0 (Below w.heap.size w wc))
      case first =>
        have H := HC11.out
        clear HC11
        by_cases c14 : t128 = 0
        rotate_left 1
        · rw [if_neg c14] at H
          have c14b0 : (t128 == 0) = false := beq_eq_false_iff_ne.mpr c14
          have c14b1 : (t128 != 0) = true := bne_iff_ne.mpr c14
          (first | rw [c14b0] | (simp only [i64_w, i32_w]; rw [c14b0]) | skip)
          have H' := Aside0.mk H
          clear H
          go_wp2
          go_meet
          case rel => exact ⟨_, (false), (by first | rfl | (simp; done) | (simp [*]; done)), H', ⟨by have := HJ4.out; first | omega | exact Nat.le_refl _⟩, ⟨by repeat (first | (with_reducible first | exact HB.out | apply below_alloc | apply pw_below_drewN | apply below_drew1) | exact HB.out)⟩⟩
        rw [if_pos c14] at H
        have c14b0 : (t128 == 0) = true := beq_iff_eq.mpr c14
        have c14b1 : (t128 != 0) = false := bne_eq_false_iff_eq.mpr c14
        clear c14
        (first | rw [c14b0] | (simp only [i64_w, i32_w]; rw [c14b0]) | skip)
        by_cases c15 : t131 = 0
        rotate_left 1
        · rw [if_neg c15] at H
          have c15b0 : (t131 == 0) = false := beq_eq_false_iff_ne.mpr c15
          have c15b1 : (t131 != 0) = true := bne_iff_ne.mpr c15
          have H' := Aside0.mk H
          clear H
          go_wp2
          go_meet
          case rel => exact ⟨_, (false), (by first | rfl | (simp; done) | (simp [*]; done)), H', ⟨by have := HJ4.out; first | omega | exact Nat.le_refl _⟩, ⟨by repeat (first | (with_reducible first | exact HB.out | apply below_alloc | apply pw_below_drewN | apply below_drew1) | exact HB.out)⟩⟩
        rw [if_pos c15] at H
        have c15b0 : (t131 == 0) = true := beq_iff_eq.mpr c15
        have c15b1 : (t131 != 0) = false := bne_eq_false_iff_eq.mpr c15
        clear c15
        by_cases c16 : (a0.size : Int) = 0
        · rw [if_pos c16] at H
          have c16b0 : ((a0.size : Int) == 0) = true := beq_iff_eq.mpr c16
          have c16b1 : ((a0.size : Int) != 0) = false := bne_eq_false_iff_eq.mpr c16
          clear c16
          have H' := Aside0.mk H
          clear H
          go_wp2
          go_meet
          case rel => exact ⟨_, (true), (by first | rfl | (simp; done) | (simp [*]; done)), H', ⟨by have := HJ4.out; first | omega | exact Nat.le_refl _⟩, ⟨by repeat (first | (with_reducible first | exact HB.out | apply below_alloc | apply pw_below_drewN | apply below_drew1) | exact HB.out)⟩⟩
        rw [if_neg c16] at H
        have c16b0 : ((a0.size : Int) == 0) = false := beq_eq_false_iff_ne.mpr c16
        have c16b1 : ((a0.size : Int) != 0) = true := bne_iff_ne.mpr c16
        obtain ⟨ji17, hji17⟩ : ∃ j_ : Int, (wrap64 ((a0.size : Int) - 1)) = j_ := ⟨_, rfl⟩
        replace H : (if 0 ≤ (ji17) then (if (ji17) < (a0.size : Int) then (watchbilllaw03_LexPlain.j1 kj4 a0 a1 t126 t128 t129 ((bt a0 (ji17)) != 13)) else (none)) else (none)) = some r := by first | (rw [hji17] at H; exact H) | (simp only [hji17] at H ⊢; exact H)
        have hji17w : (IntKind.i64.wrap ((a0.size : Int) - 1)) = ji17 := (i64_w _).trans hji17
        by_cases c18 : 0 ≤ (ji17)
        rotate_left 1
        · rw [if_neg c18] at H
          exact absurd H (by simp)
        rw [if_pos c18] at H
        have c18b0 : decide (0 ≤ (ji17)) = true := decide_eq_true c18
        clear c18
        by_cases c19 : (ji17) < (a0.size : Int)
        rotate_left 1
        · rw [if_neg c19] at H
          exact absurd H (by simp)
        rw [if_pos c19] at H
        have c19b0 : decide ((ji17) < (a0.size : Int)) = true := decide_eq_true c19
        clear c19
        have H' := Aside0.mk H
        clear H
        have p20 : 0 ≤ ((ji17) : Int) := of_decide_eq_true (by first | (with_reducible assumption) | assumption)
        have q20 : (ji17) < (a0.size : Int) := of_decide_eq_true (by first | (with_reducible assumption) | assumption)
        have hx20 := bt_at a0 (ji17)
        replace p20 := eq_true p20
        replace q20 := eq_true q20
        go_wp2
        go_meet
        case rel => exact ⟨_, (((bt a0 (ji17)) != 13)), (by first | rfl | (simp; done) | (simp only [← hji17] <;> (first | rfl | simp)) | (simp [*]; done)), H', ⟨by have := HJ4.out; first | omega | exact Nat.le_refl _⟩, ⟨by repeat (first | (with_reducible first | exact HB.out | apply below_alloc | apply pw_below_drewN | apply below_drew1) | exact HB.out)⟩⟩
      case rest =>
        clear HC11
        try clear c1
        try clear c2
        try clear p2
        try clear q2
        try clear hx2
        try clear c4
        try clear c6
        try clear p6
        try clear c7
        try clear c7b0
        try clear c7b1
        try clear c8
        try clear c14
        try clear c14b0
        try clear c14b1
        try clear c15
        try clear c15b0
        try clear c15b1
        try clear c16
        try clear c16b0
        try clear c16b1
        try clear c18
        try clear c18b0
        try clear c19
        try clear c19b0
        try clear c20
        try clear p20
        try clear q20
        try clear hx20
        try clear p2
        try clear p20
        try clear q20
        obtain ⟨kq, x58_10, rfl, HA, HJ10, HB⟩ := hcut
        cases kq with
        | zero => exact absurd HA.out (by simp [watchbilllaw03_LexPlain.j1])
        | succ kj10 =>
          have H := HA.out
          clear HA
          simp only [watchbilllaw03_LexPlain.j1] at H
          have HC21 := Aside0.mk H
          clear H
          go_upto_if 58 with (fail)
          go_cut [] (fun wc => ∃ (kq : Nat), Aside0 (watchbilllaw03_LexPlain.j2 kq a0 t126 t128 = some r) ∧ Aside0 (kq ≤ kj10) ∧ Aside0 (Below w.heap.size w wc))
          case first =>
            have H := HC21.out
            clear HC21
            by_cases c22 : x58_10 = true
            rotate_left 1
            · replace c22 := Bool.eq_false_iff.mpr c22
              subst c22
              have H1 : (watchbilllaw03_LexPlain.j2 kj10 a0 t126 t128) = some r := by rw [if_neg (show ¬ (false = true) by decide)] at H; exact H
              clear H
              have H := H1
              clear H1
              have H' := Aside0.mk H
              clear H
              go_wp2
              go_meet
              case rel => exact ⟨_, H', ⟨by have := HJ4.out; have := HJ10.out; first | omega | exact Nat.le_refl _⟩, ⟨by repeat (first | (with_reducible first | exact HB.out | apply below_alloc | apply pw_below_drewN | apply below_drew1) | exact HB.out)⟩⟩
            subst c22
            have H1 : (if a0.size + a1.size ≤ 9223372036854775807 then ((lex_Unescape.f (a0 ++ a1) false).bind fun bt132 => (if t126.size + t129.size ≤ 9223372036854775807 then (if bt132.1.toList = (t126 ++ t129).toList then (if bt132.2.1 = 0 then (if bt132.2.2 = 0 then (watchbilllaw03_LexPlain.j2 kj10 a0 t126 t128) else (none)) else (none)) else (none)) else (none))) else (none)) = some r := by rw [if_pos rfl] at H; exact H
            clear H
            have H := H1
            clear H1
            by_cases c23 : a0.size + a1.size ≤ 9223372036854775807
            rotate_left 1
            · rw [if_neg c23] at H
              exact absurd H (by simp)
            rw [if_pos c23] at H
            have c23b0 := eq_true c23
            have c23b1 : decide (a0.size + a1.size ≤ 9223372036854775807) = true := decide_eq_true c23
            try have c23b2 : (9223372036854775807 < a0.size + a1.size) = False := eq_false (Nat.not_lt.2 c23)
            replace H := Option.bind_eq_some_iff.mp H
            obtain ⟨⟨t132, t133, t134⟩, A240, H⟩ := H
            replace H : (if t126.size + t129.size ≤ 9223372036854775807 then (if t132.toList = (t126 ++ t129).toList then (if t133 = 0 then (if t134 = 0 then (watchbilllaw03_LexPlain.j2 kj10 a0 t126 t128) else (none)) else (none)) else (none)) else (none)) = some r := H
            have A24 := Aside0.mk A240
            clear A240
            by_cases c25 : t126.size + t129.size ≤ 9223372036854775807
            rotate_left 1
            · rw [if_neg c25] at H
              exact absurd H (by simp)
            rw [if_pos c25] at H
            have c25b0 := eq_true c25
            have c25b1 : decide (t126.size + t129.size ≤ 9223372036854775807) = true := decide_eq_true c25
            try have c25b2 : (9223372036854775807 < t126.size + t129.size) = False := eq_false (Nat.not_lt.2 c25)
            by_cases c26 : t132.toList = (t126 ++ t129).toList
            rotate_left 1
            · rw [if_neg c26] at H
              exact absurd H (by simp)
            rw [if_pos c26] at H
            have c26b0 : (t132.toList == (t126 ++ t129).toList) = true := beq_iff_eq.mpr c26
            have c26b1 : (t132.toList != (t126 ++ t129).toList) = false := bne_eq_false_iff_eq.mpr c26
            clear c26
            (first | rw [c26b0] | (simp only [i64_w, i32_w]; rw [c26b0]) | skip)
            by_cases c27 : t133 = 0
            rotate_left 1
            · rw [if_neg c27] at H
              exact absurd H (by simp)
            rw [if_pos c27] at H
            have c27b0 : (t133 == 0) = true := beq_iff_eq.mpr c27
            have c27b1 : (t133 != 0) = false := bne_eq_false_iff_eq.mpr c27
            clear c27
            by_cases c28 : t134 = 0
            rotate_left 1
            · rw [if_neg c28] at H
              exact absurd H (by simp)
            rw [if_pos c28] at H
            have c28b0 : (t134 == 0) = true := beq_iff_eq.mpr c28
            have c28b1 : (t134 != 0) = false := bne_eq_false_iff_eq.mpr c28
            clear c28
            have H' := Aside0.mk H
            clear H
            go_wp2_with (first | ((with_reducible refine gate_callee (f := 21) rfl ?_); refine goesL_ (some 63) rfl rfl Tryd.func21 (by kernel_rfl) rfl #[.string (a0 ++ a1), .bool false] rfl (by (try simp only [List.map_toArray, List.map_cons, List.map_nil]); first | done | rfl | (simp only [List.length_drop, List.length_take]; rfl) | (simp only [ByteArray.size_extract]; rfl)) ?_; (with_reducible refine (lex_Unescape.calls (a0 ++ a1) false t132 t133 t134 _ (by exact ML.below HML.out (by repeat (first | (with_reducible first | exact HB.out | apply below_alloc | apply pw_below_drewN | apply below_drew1) | exact HB.out))) A24.out).mono ?_); rintro e w29 ⟨rfl, hb⟩; refine ⟨_, rfl, ?_⟩; have n0_ := Aside0.mk (below_step (by repeat (first | (with_reducible first | exact HB.out | apply below_alloc | apply pw_below_drewN | apply below_drew1) | exact HB.out)) hb); clear HB; have HB := n0_; clear n0_; (try clear hb); (try clear hb2); (try clear hk); (try clear hi)))
            go_meet
            case rel => exact ⟨_, H', ⟨by have := HJ4.out; have := HJ10.out; first | omega | exact Nat.le_refl _⟩, ⟨by repeat (first | (with_reducible first | exact HB.out | apply below_alloc | apply pw_below_drewN | apply below_drew1) | exact HB.out)⟩⟩
          case rest =>
            clear HC21
            try clear c1
            try clear c2
            try clear p2
            try clear q2
            try clear hx2
            try clear c4
            try clear c6
            try clear p6
            try clear c7
            try clear c7b0
            try clear c7b1
            try clear c8
            try clear c14
            try clear c14b0
            try clear c14b1
            try clear c15
            try clear c15b0
            try clear c15b1
            try clear c16
            try clear c16b0
            try clear c16b1
            try clear c18
            try clear c18b0
            try clear c19
            try clear c19b0
            try clear c20
            try clear p20
            try clear q20
            try clear hx20
            try clear c21
            try clear c22
            try clear c23
            try clear c23b0
            try clear c23b1
            try clear c23b2
            try clear c25
            try clear c25b0
            try clear c25b1
            try clear c25b2
            try clear c26
            try clear c26b0
            try clear c26b1
            try clear c27
            try clear c27b0
            try clear c27b1
            try clear c28
            try clear c28b0
            try clear c28b1
            try clear p2
            try clear p20
            try clear p6
            try clear q2
            try clear q20
            obtain ⟨kq, HA, HJ20, HB⟩ := hcut
            cases kq with
            | zero => exact absurd HA.out (by simp [watchbilllaw03_LexPlain.j2])
            | succ kj20 =>
              have H := HA.out
              clear HA
              simp only [watchbilllaw03_LexPlain.j2] at H
              have H' := Aside0.mk H
              clear H
              go_wp2
              go_loopg [14] kj20 (fun kq v14 w' => ∃ (x14_4 : Int), v14 = .int .i64 x14_4 ∧ Aside0 (watchbilllaw03_LexPlain.l0 kq a0 t126 t128 x14_4 = some r) ∧ Aside0 (kq ≤ kj20) ∧ Aside0 (Below w.heap.size w w'))
              case atStart => exact ⟨(0), (by first | rfl | (simp; done) | (simp [*]; done)), H', ⟨Nat.le_refl _⟩, ⟨by repeat (first | (with_reducible first | exact HB.out | apply below_alloc | apply pw_below_drewN | apply below_drew1) | exact HB.out)⟩⟩
              case round =>
                clear H'
                try clear c1
                try clear c2
                try clear p2
                try clear q2
                try clear hx2
                try clear c4
                try clear c6
                try clear p6
                try clear c7
                try clear c7b0
                try clear c7b1
                try clear c8
                try clear c14
                try clear c14b0
                try clear c14b1
                try clear c15
                try clear c15b0
                try clear c15b1
                try clear c16
                try clear c16b0
                try clear c16b1
                try clear c18
                try clear c18b0
                try clear c19
                try clear c19b0
                try clear c20
                try clear p20
                try clear q20
                try clear hx20
                try clear c21
                try clear c22
                try clear c23
                try clear c23b0
                try clear c23b1
                try clear c23b2
                try clear c25
                try clear c25b0
                try clear c25b1
                try clear c25b2
                try clear c26
                try clear c26b0
                try clear c26b1
                try clear c27
                try clear c27b0
                try clear c27b1
                try clear c28
                try clear c28b0
                try clear c28b1
                try clear p2
                try clear p20
                try clear p6
                try clear q2
                try clear q20
                obtain ⟨x14_4, rfl, HA, HK4, HB⟩ := hrel
                cases gk with
                | zero => exact absurd HA.out (by simp [watchbilllaw03_LexPlain.l0])
                | succ k4 =>
                  have H := HA.out
                  clear HA
                  simp only [watchbilllaw03_LexPlain.l0] at H
                  by_cases c30 : x14_4 < (a0.size : Int)
                  · rw [if_pos c30] at H
                    have c30b0 : decide (x14_4 < (a0.size : Int)) = true := decide_eq_true c30
                    clear c30
                    by_cases c31 : 0 ≤ x14_4
                    rotate_left 1
                    · rw [if_neg c31] at H
                      exact absurd H (by simp)
                    rw [if_pos c31] at H
                    have c31b0 : decide (0 ≤ x14_4) = true := decide_eq_true c31
                    clear c31
                    by_cases c33 : (bt a0 x14_4) = 38
                    · rw [if_pos c33] at H
                      have c33b0 : ((bt a0 x14_4) == 38) = true := beq_iff_eq.mpr c33
                      have c33b1 : ((bt a0 x14_4) != 38) = false := bne_eq_false_iff_eq.mpr c33
                      clear c33
                      obtain rfl := Option.some.inj H
                      have p32 : 0 ≤ (x14_4 : Int) := of_decide_eq_true (by first | (with_reducible assumption) | assumption)
                      have q32 : x14_4 < (a0.size : Int) := of_decide_eq_true (by first | (with_reducible assumption) | assumption)
                      have hx32 := bt_at a0 x14_4
                      replace p32 := eq_true p32
                      replace q32 := eq_true q32
                      go_wp2
                      go_ret
                      exact ⟨by first | rfl | (simp [errW_none, errW_some] <;> rfl) | (simp [*, errW_none, errW_some] <;> rfl), by repeat (first | (with_reducible first | exact HB.out | apply below_alloc | apply pw_below_drewN | apply below_drew1) | exact HB.out)⟩
                    rw [if_neg c33] at H
                    have c33b0 : ((bt a0 x14_4) == 38) = false := beq_eq_false_iff_ne.mpr c33
                    have c33b1 : ((bt a0 x14_4) != 38) = true := bne_iff_ne.mpr c33
                    by_cases c35 : (bt a0 x14_4) = 13
                    · rw [if_pos c35] at H
                      have c35b0 : ((bt a0 x14_4) == 13) = true := beq_iff_eq.mpr c35
                      have c35b1 : ((bt a0 x14_4) != 13) = false := bne_eq_false_iff_eq.mpr c35
                      clear c35
                      obtain rfl := Option.some.inj H
                      have p32 : 0 ≤ (x14_4 : Int) := of_decide_eq_true (by first | (with_reducible assumption) | assumption)
                      have q32 : x14_4 < (a0.size : Int) := of_decide_eq_true (by first | (with_reducible assumption) | assumption)
                      have hx32 := bt_at a0 x14_4
                      replace p32 := eq_true p32
                      replace q32 := eq_true q32
                      have p34 : 0 ≤ (x14_4 : Int) := of_decide_eq_true (by first | (with_reducible assumption) | assumption)
                      have q34 : x14_4 < (a0.size : Int) := of_decide_eq_true (by first | (with_reducible assumption) | assumption)
                      have hx34 := bt_at a0 x14_4
                      replace p34 := eq_true p34
                      replace q34 := eq_true q34
                      go_wp2
                      go_ret
                      exact ⟨by first | rfl | (simp [errW_none, errW_some] <;> rfl) | (simp [*, errW_none, errW_some] <;> rfl), by repeat (first | (with_reducible first | exact HB.out | apply below_alloc | apply pw_below_drewN | apply below_drew1) | exact HB.out)⟩
                    · rw [if_neg c35] at H
                      have c35b0 : ((bt a0 x14_4) == 13) = false := beq_eq_false_iff_ne.mpr c35
                      have c35b1 : ((bt a0 x14_4) != 13) = true := bne_iff_ne.mpr c35
                      have H' := Aside0.mk H
                      clear H
                      have p32 : 0 ≤ (x14_4 : Int) := of_decide_eq_true (by first | (with_reducible assumption) | assumption)
                      have q32 : x14_4 < (a0.size : Int) := of_decide_eq_true (by first | (with_reducible assumption) | assumption)
                      have hx32 := bt_at a0 x14_4
                      replace p32 := eq_true p32
                      replace q32 := eq_true q32
                      have p34 : 0 ≤ (x14_4 : Int) := of_decide_eq_true (by first | (with_reducible assumption) | assumption)
                      have q34 : x14_4 < (a0.size : Int) := of_decide_eq_true (by first | (with_reducible assumption) | assumption)
                      have hx34 := bt_at a0 x14_4
                      replace p34 := eq_true p34
                      replace q34 := eq_true q34
                      go_wp2
                      go_roundg k4
                      case measure => have := HJ4.out; have := HJ10.out; have := HJ20.out; have := HK4.out; omega
                      case rel => exact ⟨(wrap64 (x14_4 + 1)), (by first | rfl | (simp; done) | (simp [*]; done)), H', ⟨by have := HJ4.out; have := HJ10.out; have := HJ20.out; have := HK4.out; omega⟩, ⟨by repeat (first | (with_reducible first | exact HB.out | apply below_alloc | apply pw_below_drewN | apply below_drew1) | exact HB.out)⟩⟩
                  · rw [if_neg c30] at H
                    have c30b0 : decide (x14_4 < (a0.size : Int)) = false := decide_eq_false c30
                    clear c30
                    by_cases c36 : a0.size + 4 ≤ 9223372036854775807
                    rotate_left 1
                    · rw [if_neg c36] at H
                      exact absurd H (by simp)
                    rw [if_pos c36] at H
                    have c36b0 := eq_true c36
                    have c36b1 : decide (a0.size + 4 ≤ 9223372036854775807) = true := decide_eq_true c36
                    try have c36b2 : (9223372036854775807 < a0.size + 4) = False := eq_false (Nat.not_lt.2 c36)
                    replace H := Option.bind_eq_some_iff.mp H
                    obtain ⟨⟨t135, t136, t137⟩, A370, H⟩ := H
                    replace H : (if t126.toList = a0.toList then (if t128 = 0 then (if a0.size + 1 ≤ 9223372036854775807 then (if t135.toList = (a0 ++ (⟨#[62]⟩ : ByteArray)).toList then (some (t137 == 0)) else (none)) else (none)) else (none)) else (none)) = some r := H
                    have A37 := Aside0.mk A370
                    clear A370
                    by_cases c38 : t126.toList = a0.toList
                    rotate_left 1
                    · rw [if_neg c38] at H
                      exact absurd H (by simp)
                    rw [if_pos c38] at H
                    have c38b0 : (t126.toList == a0.toList) = true := beq_iff_eq.mpr c38
                    have c38b1 : (t126.toList != a0.toList) = false := bne_eq_false_iff_eq.mpr c38
                    clear c38
                    by_cases c39 : t128 = 0
                    rotate_left 1
                    · rw [if_neg c39] at H
                      exact absurd H (by simp)
                    rw [if_pos c39] at H
                    have c39b0 : (t128 == 0) = true := beq_iff_eq.mpr c39
                    have c39b1 : (t128 != 0) = false := bne_eq_false_iff_eq.mpr c39
                    clear c39
                    by_cases c40 : a0.size + 1 ≤ 9223372036854775807
                    rotate_left 1
                    · rw [if_neg c40] at H
                      exact absurd H (by simp)
                    rw [if_pos c40] at H
                    have c40b0 := eq_true c40
                    have c40b1 : decide (a0.size + 1 ≤ 9223372036854775807) = true := decide_eq_true c40
                    try have c40b2 : (9223372036854775807 < a0.size + 1) = False := eq_false (Nat.not_lt.2 c40)
                    by_cases c41 : t135.toList = (a0 ++ (⟨#[62]⟩ : ByteArray)).toList
                    rotate_left 1
                    · rw [if_neg c41] at H
                      exact absurd H (by simp)
                    rw [if_pos c41] at H
                    have c41b0 : (t135.toList == (a0 ++ (⟨#[62]⟩ : ByteArray)).toList) = true := beq_iff_eq.mpr c41
                    have c41b1 : (t135.toList != (a0 ++ (⟨#[62]⟩ : ByteArray)).toList) = false := bne_eq_false_iff_eq.mpr c41
                    clear c41
                    obtain rfl := Option.some.inj H
                    go_wp2_with (first | ((with_reducible refine gate_callee (f := 21) rfl ?_); refine goesL_ (some 99) rfl rfl Tryd.func21 (by kernel_rfl) rfl #[.string (a0 ++ (⟨#[38, 103, 116, 59]⟩ : ByteArray)), .bool false] rfl (by (try simp only [List.map_toArray, List.map_cons, List.map_nil]); first | done | rfl | (simp only [List.length_drop, List.length_take]; rfl) | (simp only [ByteArray.size_extract]; rfl)) ?_; (with_reducible refine (lex_Unescape.calls (a0 ++ (⟨#[38, 103, 116, 59]⟩ : ByteArray)) false t135 t136 t137 _ (by exact ML.below HML.out (by repeat (first | (with_reducible first | exact HB.out | apply below_alloc | apply pw_below_drewN | apply below_drew1) | exact HB.out))) A37.out).mono ?_); rintro e w42 ⟨rfl, hb⟩; refine ⟨_, rfl, ?_⟩; have n0_ := Aside0.mk (below_step (by repeat (first | (with_reducible first | exact HB.out | apply below_alloc | apply pw_below_drewN | apply below_drew1) | exact HB.out)) hb); clear HB; have HB := n0_; clear n0_; (try clear hb); (try clear hb2); (try clear hk); (try clear hi)))
                    go_ret
                    exact ⟨by first | rfl | (simp [errW_none, errW_some] <;> rfl) | (simp [*, errW_none, errW_some] <;> rfl), by repeat (first | (with_reducible first | exact HB.out | apply below_alloc | apply pw_below_drewN | apply below_drew1) | exact HB.out)⟩
/-- THE ONE PURE STATEMENT of watchbilllaw03_LexPlain: yours. -/
def watchbilllaw03_LexPlain.Pure : Prop := ∀ (a0 : ByteArray) (a1 : ByteArray), a0.size ≤ 140737488351232 → a1.size ≤ 140737488351232 → ∃ k, watchbilllaw03_LexPlain.f k a0 a1 = some true
theorem watchbilllaw03_LexPlain.walk (P : watchbilllaw03_LexPlain.Pure) (a0 : ByteArray) (a1 : ByteArray) (w : World) (hml : ML w) (w0 : a0.size ≤ 140737488351232) (w1 : a1.size ≤ 140737488351232) :
    Calls Tryd.prog 6 #[.string a0, .string a1] w fun e w' => e = .returned (.bool true) ∧ Below w.heap.size w w' := by
  obtain ⟨k, h⟩ := P a0 a1 w0 w1
  refine (watchbilllaw03_LexPlain.calls k a0 a1 true w hml h).mono ?_
  rintro e w' ⟨rfl, hd⟩
  exact ⟨rfl, hd⟩

end Go.Proofs.YtffpbhbiamkkpaaDoor.PT
