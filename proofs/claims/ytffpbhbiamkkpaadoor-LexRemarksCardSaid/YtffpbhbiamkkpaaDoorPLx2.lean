import Derived.Test.YtffpbhbiamkkpaaDoorPLx0
import Derived.Test.YtffpbhbiamkkpaaDoorPLx1
-- PRINTED by print.py (a twelfth state) out of the translation. Not trusted: Lean checks it.
namespace Go.Proofs.YtffpbhbiamkkpaaDoor.PL
open Go.RowKit Go.Proofs.YtffpbhbiamkkpaaDoorW.PrintWords Go.Proofs.YtffpbhbiamkkpaaDoorW.PrintLast Go.Proofs.YtffpbhbiamkkpaaDoorW.PrintMore
attribute [local go_sem] max2_int min2_int max_two min_two max_three min_three max_four min_four   -- for this text's walks alone
set_option linter.unusedVariables false
set_option linter.unusedSimpArgs false

/-! ### lex_reference: function 49 -/
def lex_reference.j0 : Nat → Int → Bool → Option (ByteArray)
  | 0, _, _ => none
  | k + 1, x3, x4 => if x4 = true then ((utf_Char.f k x3).bind fun t123 => (if t123 = true then ((utf_Put.f x3).bind fun t124 => (some t124)) else (some (⟨#[]⟩ : ByteArray)))) else (some (⟨#[]⟩ : ByteArray))
def lex_reference.f (k : Nat) (a0 : ByteArray) : Option (ByteArray) := if a0.toList = ([108, 116] : List UInt8) then (some (⟨#[60]⟩ : ByteArray)) else (if a0.toList = ([103, 116] : List UInt8) then (some (⟨#[62]⟩ : ByteArray)) else (if a0.toList = ([97, 109, 112] : List UInt8) then (some (⟨#[38]⟩ : ByteArray)) else (if a0.toList = ([113, 117, 111, 116] : List UInt8) then (some (⟨#[34]⟩ : ByteArray)) else (if a0.toList = ([97, 112, 111, 115] : List UInt8) then (some (⟨#[39]⟩ : ByteArray)) else ((strings_CutPrefix.f a0 (⟨#[35, 120]⟩ : ByteArray)).bind fun bt115 => (if bt115.2 = true then ((lex_digits.f bt115.1 16).bind fun bt117 => (lex_reference.j0 k bt117.1 bt117.2)) else ((strings_CutPrefix.f a0 (⟨#[35]⟩ : ByteArray)).bind fun bt119 => (if bt119.2 = true then ((lex_digits.f bt119.1 10).bind fun bt121 => (lex_reference.j0 k bt121.1 bt121.2)) else (lex_reference.j0 k 0 false)))))))))
theorem lex_reference.mono_l : ∀ k, (∀ y0 y1, LeO (lex_reference.j0 k y0 y1) (lex_reference.j0 (k + 1) y0 y1))
  | 0 => fun _ _ r h => by simp [lex_reference.j0] at h
  | k + 1 => by
    have ih0 := lex_reference.mono_l k
    · intro y0 y1
      unfold lex_reference.j0
      repeat' first
      | (with_reducible exact ih0 _ _)
      | (with_reducible exact utf_Char.mono _ _)
      | (with_reducible exact LeO.refl _)
      | (with_reducible exact LeO.none _)
      | (with_reducible refine LeO.ite ?_ ?_)
      | (with_reducible refine LeO.bind ?_ (fun _ => ?_))
      | exact ih0 _ _
      | exact utf_Char.mono _ _
      | exact LeO.none _
      | refine LeO.ite ?_ ?_
      | refine LeO.bind ?_ (fun _ => ?_)
theorem lex_reference.mono : ∀ a0 k, LeO (lex_reference.f k a0) (lex_reference.f (k + 1) a0) := by
  intro a0 k
  have ih0 := lex_reference.mono_l k
  unfold lex_reference.f
  repeat' first
      | (with_reducible exact ih0 _ _)
      | (with_reducible exact utf_Char.mono _ _)
      | (with_reducible exact LeO.refl _)
      | (with_reducible exact LeO.none _)
      | (with_reducible refine LeO.ite ?_ ?_)
      | (with_reducible refine LeO.bind ?_ (fun _ => ?_))
      | exact ih0 _ _
      | exact utf_Char.mono _ _
      | exact LeO.none _
      | refine LeO.ite ?_ ?_
      | refine LeO.bind ?_ (fun _ => ?_)
set_option maxHeartbeats 8000000 in
set_option maxRecDepth 100000 in
theorem lex_reference.calls (k : Nat) (a0 : ByteArray) (r : ByteArray) (w : World) (h : lex_reference.f k a0 = some r) :
    Calls Tryd.prog 49 #[.string a0] w fun e w' => e = .returned (.string r) ∧ Below w.heap.size w w' := by
  have HB := Aside0.mk (Below.refl w.heap.size w)
  have H : (if a0.toList = ([108, 116] : List UInt8) then (some (⟨#[60]⟩ : ByteArray)) else (if a0.toList = ([103, 116] : List UInt8) then (some (⟨#[62]⟩ : ByteArray)) else (if a0.toList = ([97, 109, 112] : List UInt8) then (some (⟨#[38]⟩ : ByteArray)) else (if a0.toList = ([113, 117, 111, 116] : List UInt8) then (some (⟨#[34]⟩ : ByteArray)) else (if a0.toList = ([97, 112, 111, 115] : List UInt8) then (some (⟨#[39]⟩ : ByteArray)) else ((strings_CutPrefix.f a0 (⟨#[35, 120]⟩ : ByteArray)).bind fun bt115 => (if bt115.2 = true then ((lex_digits.f bt115.1 16).bind fun bt117 => (lex_reference.j0 k bt117.1 bt117.2)) else ((strings_CutPrefix.f a0 (⟨#[35]⟩ : ByteArray)).bind fun bt119 => (if bt119.2 = true then ((lex_digits.f bt119.1 10).bind fun bt121 => (lex_reference.j0 k bt121.1 bt121.2)) else (lex_reference.j0 k 0 false)))))))))) = some r := h
  clear h
  by_cases c2 : a0.toList = ([108, 116] : List UInt8)
  · rw [if_pos c2] at H
    have c2b0 : (a0.toList == ([108, 116] : List UInt8)) = true := beq_iff_eq.mpr c2
    have c2b1 : (a0.toList != ([108, 116] : List UInt8)) = false := bne_eq_false_iff_eq.mpr c2
    clear c2
    obtain rfl := Option.some.inj H
    go_enter Tryd.func49, Tryd.ntmps49
    go_wp2
    go_ret
    exact ⟨by first | rfl | (simp [errW_none, errW_some] <;> rfl) | (simp [*, errW_none, errW_some] <;> rfl), by repeat (first | (with_reducible first | exact HB.out | apply below_alloc | apply pw_below_drewN | apply below_drew1) | exact HB.out)⟩
  rw [if_neg c2] at H
  have c2b0 : (a0.toList == ([108, 116] : List UInt8)) = false := beq_eq_false_iff_ne.mpr c2
  have c2b1 : (a0.toList != ([108, 116] : List UInt8)) = true := bne_iff_ne.mpr c2
  by_cases c3 : a0.toList = ([103, 116] : List UInt8)
  · rw [if_pos c3] at H
    have c3b0 : (a0.toList == ([103, 116] : List UInt8)) = true := beq_iff_eq.mpr c3
    have c3b1 : (a0.toList != ([103, 116] : List UInt8)) = false := bne_eq_false_iff_eq.mpr c3
    clear c3
    obtain rfl := Option.some.inj H
    go_enter Tryd.func49, Tryd.ntmps49
    go_wp2
    go_ret
    exact ⟨by first | rfl | (simp [errW_none, errW_some] <;> rfl) | (simp [*, errW_none, errW_some] <;> rfl), by repeat (first | (with_reducible first | exact HB.out | apply below_alloc | apply pw_below_drewN | apply below_drew1) | exact HB.out)⟩
  rw [if_neg c3] at H
  have c3b0 : (a0.toList == ([103, 116] : List UInt8)) = false := beq_eq_false_iff_ne.mpr c3
  have c3b1 : (a0.toList != ([103, 116] : List UInt8)) = true := bne_iff_ne.mpr c3
  by_cases c4 : a0.toList = ([97, 109, 112] : List UInt8)
  · rw [if_pos c4] at H
    have c4b0 : (a0.toList == ([97, 109, 112] : List UInt8)) = true := beq_iff_eq.mpr c4
    have c4b1 : (a0.toList != ([97, 109, 112] : List UInt8)) = false := bne_eq_false_iff_eq.mpr c4
    clear c4
    obtain rfl := Option.some.inj H
    go_enter Tryd.func49, Tryd.ntmps49
    go_wp2
    go_ret
    exact ⟨by first | rfl | (simp [errW_none, errW_some] <;> rfl) | (simp [*, errW_none, errW_some] <;> rfl), by repeat (first | (with_reducible first | exact HB.out | apply below_alloc | apply pw_below_drewN | apply below_drew1) | exact HB.out)⟩
  rw [if_neg c4] at H
  have c4b0 : (a0.toList == ([97, 109, 112] : List UInt8)) = false := beq_eq_false_iff_ne.mpr c4
  have c4b1 : (a0.toList != ([97, 109, 112] : List UInt8)) = true := bne_iff_ne.mpr c4
  by_cases c5 : a0.toList = ([113, 117, 111, 116] : List UInt8)
  · rw [if_pos c5] at H
    have c5b0 : (a0.toList == ([113, 117, 111, 116] : List UInt8)) = true := beq_iff_eq.mpr c5
    have c5b1 : (a0.toList != ([113, 117, 111, 116] : List UInt8)) = false := bne_eq_false_iff_eq.mpr c5
    clear c5
    obtain rfl := Option.some.inj H
    go_enter Tryd.func49, Tryd.ntmps49
    go_wp2
    go_ret
    exact ⟨by first | rfl | (simp [errW_none, errW_some] <;> rfl) | (simp [*, errW_none, errW_some] <;> rfl), by repeat (first | (with_reducible first | exact HB.out | apply below_alloc | apply pw_below_drewN | apply below_drew1) | exact HB.out)⟩
  rw [if_neg c5] at H
  have c5b0 : (a0.toList == ([113, 117, 111, 116] : List UInt8)) = false := beq_eq_false_iff_ne.mpr c5
  have c5b1 : (a0.toList != ([113, 117, 111, 116] : List UInt8)) = true := bne_iff_ne.mpr c5
  by_cases c6 : a0.toList = ([97, 112, 111, 115] : List UInt8)
  · rw [if_pos c6] at H
    have c6b0 : (a0.toList == ([97, 112, 111, 115] : List UInt8)) = true := beq_iff_eq.mpr c6
    have c6b1 : (a0.toList != ([97, 112, 111, 115] : List UInt8)) = false := bne_eq_false_iff_eq.mpr c6
    clear c6
    obtain rfl := Option.some.inj H
    go_enter Tryd.func49, Tryd.ntmps49
    go_wp2
    go_ret
    exact ⟨by first | rfl | (simp [errW_none, errW_some] <;> rfl) | (simp [*, errW_none, errW_some] <;> rfl), by repeat (first | (with_reducible first | exact HB.out | apply below_alloc | apply pw_below_drewN | apply below_drew1) | exact HB.out)⟩
  rw [if_neg c6] at H
  have c6b0 : (a0.toList == ([97, 112, 111, 115] : List UInt8)) = false := beq_eq_false_iff_ne.mpr c6
  have c6b1 : (a0.toList != ([97, 112, 111, 115] : List UInt8)) = true := bne_iff_ne.mpr c6
  replace H := Option.bind_eq_some_iff.mp H
  obtain ⟨⟨t115, t116⟩, A70, H⟩ := H
  replace H : (if t116 = true then ((lex_digits.f t115 16).bind fun bt117 => (lex_reference.j0 k bt117.1 bt117.2)) else ((strings_CutPrefix.f a0 (⟨#[35]⟩ : ByteArray)).bind fun bt119 => (if bt119.2 = true then ((lex_digits.f bt119.1 10).bind fun bt121 => (lex_reference.j0 k bt121.1 bt121.2)) else (lex_reference.j0 k 0 false)))) = some r := H
  have A7 := Aside0.mk A70
  clear A70
  have HC8 := Aside0.mk H
  clear H
  go_enter Tryd.func49, Tryd.ntmps49
  go_upto_if 25 with (first | ((with_reducible refine gate_callee (f := 81) rfl ?_); refine goesL_ (some 22) rfl rfl Tryd.func81 (by kernel_rfl) rfl #[.string a0, .string (⟨#[35, 120]⟩ : ByteArray)] rfl (by (try simp only [List.map_toArray, List.map_cons, List.map_nil]); first | done | rfl | (simp only [List.length_drop, List.length_take]; rfl) | (simp only [ByteArray.size_extract]; rfl)) ?_; (with_reducible refine (strings_CutPrefix.calls a0 (⟨#[35, 120]⟩ : ByteArray) t115 t116 _ A7.out).mono ?_); rintro e w' ⟨rfl, ⟨nd, rfl⟩⟩; refine ⟨_, rfl, ?_⟩))
  (try simp only [Act.put, zA, zB, zC])
  go_cut [3, 4] (fun v3 v4 wc => ∃ (kq : Nat) (x3_7 : Int) (x4_7 : Bool), v3 = .int .i32 x3_7 ∧ v4 = .bool x4_7 ∧ Aside0 (lex_reference.j0 kq x3_7 x4_7 = some r) ∧ Aside0 (kq ≤ k) ∧ Aside0 (Below w.heap.size w wc))
  case first =>
    have H := HC8.out
    clear HC8
    by_cases c9 : t116 = true
    · subst c9
      have H1 : ((lex_digits.f t115 16).bind fun bt117 => (lex_reference.j0 k bt117.1 bt117.2)) = some r := by rw [if_pos rfl] at H; exact H
      clear H
      have H := H1
      clear H1
      replace H := Option.bind_eq_some_iff.mp H
      obtain ⟨⟨t117, t118⟩, A100, H⟩ := H
      replace H : (lex_reference.j0 k t117 t118) = some r := H
      have A10 := Aside0.mk A100
      clear A100
      have H' := Aside0.mk H
      clear H
      go_wp2_with (first | ((with_reducible refine gate_callee (f := 82) rfl ?_); refine goesL_ (some 28) rfl rfl Tryd.func82 (by kernel_rfl) rfl #[.string t115, .int .i32 16] rfl (by (try simp only [List.map_toArray, List.map_cons, List.map_nil]); first | done | rfl | (simp only [List.length_drop, List.length_take]; rfl) | (simp only [ByteArray.size_extract]; rfl)) ?_; (with_reducible refine (lex_digits.calls t115 16 t117 t118 _ A10.out).mono ?_); rintro e w11 ⟨rfl, hb⟩; refine ⟨_, rfl, ?_⟩; have n0_ := Aside0.mk (below_step (by repeat (first | (with_reducible first | exact HB.out | apply below_alloc | apply pw_below_drewN | apply below_drew1) | exact HB.out)) hb); clear HB; have HB := n0_; clear n0_; (try clear hb); (try clear hb2); (try clear hk); (try clear hi)))
      go_meet
      case rel => exact ⟨_, (t117), (t118), (by first | rfl | (simp; done) | (simp [*]; done)), (by first | rfl | (simp; done) | (simp [*]; done)), H', ⟨by first | omega | exact Nat.le_refl _⟩, ⟨by repeat (first | (with_reducible first | exact HB.out | apply below_alloc | apply pw_below_drewN | apply below_drew1) | exact HB.out)⟩⟩
    · replace c9 := Bool.eq_false_iff.mpr c9
      subst c9
      have H1 : ((strings_CutPrefix.f a0 (⟨#[35]⟩ : ByteArray)).bind fun bt119 => (if bt119.2 = true then ((lex_digits.f bt119.1 10).bind fun bt121 => (lex_reference.j0 k bt121.1 bt121.2)) else (lex_reference.j0 k 0 false))) = some r := by rw [if_neg (show ¬ (false = true) by decide)] at H; exact H
      clear H
      have H := H1
      clear H1
      replace H := Option.bind_eq_some_iff.mp H
      obtain ⟨⟨t119, t120⟩, A120, H⟩ := H
      replace H : (if t120 = true then ((lex_digits.f t119 10).bind fun bt121 => (lex_reference.j0 k bt121.1 bt121.2)) else (lex_reference.j0 k 0 false)) = some r := H
      have A12 := Aside0.mk A120
      clear A120
      by_cases c13 : t120 = true
      rotate_left 1
      · replace c13 := Bool.eq_false_iff.mpr c13
        subst c13
        have H1 : (lex_reference.j0 k 0 false) = some r := by rw [if_neg (show ¬ (false = true) by decide)] at H; exact H
        clear H
        have H := H1
        clear H1
        have H' := Aside0.mk H
        clear H
        go_wp2_with (first | ((with_reducible refine gate_callee (f := 81) rfl ?_); refine goesL_ (some 33) rfl rfl Tryd.func81 (by kernel_rfl) rfl #[.string a0, .string (⟨#[35]⟩ : ByteArray)] rfl (by (try simp only [List.map_toArray, List.map_cons, List.map_nil]); first | done | rfl | (simp only [List.length_drop, List.length_take]; rfl) | (simp only [ByteArray.size_extract]; rfl)) ?_; (with_reducible refine (strings_CutPrefix.calls a0 (⟨#[35]⟩ : ByteArray) t119 false _ A12.out).mono ?_); rintro e w' ⟨rfl, ⟨nd, rfl⟩⟩; refine ⟨_, rfl, ?_⟩))
        go_meet
        case rel => exact ⟨_, (0), (false), (by first | rfl | (simp; done) | (simp [*]; done)), (by first | rfl | (simp; done) | (simp [*]; done)), H', ⟨by first | omega | exact Nat.le_refl _⟩, ⟨by repeat (first | (with_reducible first | exact HB.out | apply below_alloc | apply pw_below_drewN | apply below_drew1) | exact HB.out)⟩⟩
      subst c13
      have H1 : ((lex_digits.f t119 10).bind fun bt121 => (lex_reference.j0 k bt121.1 bt121.2)) = some r := by rw [if_pos rfl] at H; exact H
      clear H
      have H := H1
      clear H1
      replace H := Option.bind_eq_some_iff.mp H
      obtain ⟨⟨t121, t122⟩, A140, H⟩ := H
      replace H : (lex_reference.j0 k t121 t122) = some r := H
      have A14 := Aside0.mk A140
      clear A140
      have H' := Aside0.mk H
      clear H
      go_wp2_with (first | ((with_reducible refine gate_callee (f := 81) rfl ?_); refine goesL_ (some 33) rfl rfl Tryd.func81 (by kernel_rfl) rfl #[.string a0, .string (⟨#[35]⟩ : ByteArray)] rfl (by (try simp only [List.map_toArray, List.map_cons, List.map_nil]); first | done | rfl | (simp only [List.length_drop, List.length_take]; rfl) | (simp only [ByteArray.size_extract]; rfl)) ?_; (with_reducible refine (strings_CutPrefix.calls a0 (⟨#[35]⟩ : ByteArray) t119 true _ A12.out).mono ?_); rintro e w' ⟨rfl, ⟨nd, rfl⟩⟩; refine ⟨_, rfl, ?_⟩) | ((with_reducible refine gate_callee (f := 82) rfl ?_); refine goesL_ (some 39) rfl rfl Tryd.func82 (by kernel_rfl) rfl #[.string t119, .int .i32 10] rfl (by (try simp only [List.map_toArray, List.map_cons, List.map_nil]); first | done | rfl | (simp only [List.length_drop, List.length_take]; rfl) | (simp only [ByteArray.size_extract]; rfl)) ?_; (with_reducible refine (lex_digits.calls t119 10 t121 t122 _ A14.out).mono ?_); rintro e w15 ⟨rfl, hb⟩; refine ⟨_, rfl, ?_⟩; have n0_ := Aside0.mk (below_step (by repeat (first | (with_reducible first | exact HB.out | apply below_alloc | apply pw_below_drewN | apply below_drew1) | exact HB.out)) hb); clear HB; have HB := n0_; clear n0_; (try clear hb); (try clear hb2); (try clear hk); (try clear hi)))
      go_meet
      case rel => exact ⟨_, (t121), (t122), (by first | rfl | (simp; done) | (simp [*]; done)), (by first | rfl | (simp; done) | (simp [*]; done)), H', ⟨by first | omega | exact Nat.le_refl _⟩, ⟨by repeat (first | (with_reducible first | exact HB.out | apply below_alloc | apply pw_below_drewN | apply below_drew1) | exact HB.out)⟩⟩
  case rest =>
    clear HC8
    try clear c1
    try clear c2
    try clear c2b0
    try clear c2b1
    try clear p2
    try clear c3
    try clear c3b0
    try clear c3b1
    try clear c4
    try clear c4b0
    try clear c4b1
    try clear c5
    try clear c5b0
    try clear c5b1
    try clear c6
    try clear c6b0
    try clear c6b1
    try clear c8
    try clear c9
    try clear c13
    obtain ⟨kq, x3_7, x4_7, rfl, rfl, HA, HJ7, HB⟩ := hcut
    cases kq with
    | zero => exact absurd HA.out (by simp [lex_reference.j0])
    | succ kj7 =>
      have H := HA.out
      clear HA
      simp only [lex_reference.j0] at H
      by_cases c16 : x4_7 = true
      rotate_left 1
      · replace c16 := Bool.eq_false_iff.mpr c16
        subst c16
        have H1 : (some (⟨#[]⟩ : ByteArray)) = some r := by rw [if_neg (show ¬ (false = true) by decide)] at H; exact H
        clear H
        have H := H1
        clear H1
        obtain rfl := Option.some.inj H
        go_wp2
        go_ret
        exact ⟨by first | rfl | (simp [errW_none, errW_some] <;> rfl) | (simp [*, errW_none, errW_some] <;> rfl), by repeat (first | (with_reducible first | exact HB.out | apply below_alloc | apply pw_below_drewN | apply below_drew1) | exact HB.out)⟩

      subst c16
      have H1 : ((utf_Char.f kj7 x3_7).bind fun t123 => (if t123 = true then ((utf_Put.f x3_7).bind fun t124 => (some t124)) else (some (⟨#[]⟩ : ByteArray)))) = some r := by rw [if_pos rfl] at H; exact H
      clear H
      have H := H1
      clear H1
      replace H := Option.bind_eq_some_iff.mp H
      obtain ⟨t123, A170, H⟩ := H
      replace H : (if t123 = true then ((utf_Put.f x3_7).bind fun t124 => (some t124)) else (some (⟨#[]⟩ : ByteArray))) = some r := H
      have A17 := Aside0.mk A170
      clear A170
      by_cases c18 : t123 = true
      rotate_left 1
      · replace c18 := Bool.eq_false_iff.mpr c18
        subst c18
        have H1 : (some (⟨#[]⟩ : ByteArray)) = some r := by rw [if_neg (show ¬ (false = true) by decide)] at H; exact H
        clear H
        have H := H1
        clear H1
        obtain rfl := Option.some.inj H
        go_wp2_with (first | (go_at_call 29; (with_reducible refine (utf_Char.calls kj7 x3_7 false _ A17.out).mono ?_); rintro e w22 ⟨rfl, hb⟩; have n0_ := Aside0.mk (below_step (by repeat (first | (with_reducible first | exact HB.out | apply below_alloc | apply pw_below_drewN | apply below_drew1) | exact HB.out)) hb); clear HB; have HB := n0_; clear n0_; (try clear hb); (try clear hb2); (try clear hk); (try clear hi)))
        go_ret
        exact ⟨by first | rfl | (simp [errW_none, errW_some] <;> rfl) | (simp [*, errW_none, errW_some] <;> rfl), by repeat (first | (with_reducible first | exact HB.out | apply below_alloc | apply pw_below_drewN | apply below_drew1) | exact HB.out)⟩
      subst c18
      have H1 : ((utf_Put.f x3_7).bind fun t124 => (some t124)) = some r := by rw [if_pos rfl] at H; exact H
      clear H
      have H := H1
      clear H1
      replace H := Option.bind_eq_some_iff.mp H
      obtain ⟨t124, A190, H⟩ := H
      replace H : (some t124) = some r := H
      have A19 := Aside0.mk A190
      clear A190
      obtain rfl := Option.some.inj H
      go_wp2_with (first | (go_at_call 29; (with_reducible refine (utf_Char.calls kj7 x3_7 true _ A17.out).mono ?_); rintro e w20 ⟨rfl, hb⟩; have n0_ := Aside0.mk (below_step (by repeat (first | (with_reducible first | exact HB.out | apply below_alloc | apply pw_below_drewN | apply below_drew1) | exact HB.out)) hb); clear HB; have HB := n0_; clear n0_; (try clear hb); (try clear hb2); (try clear hk); (try clear hi)) | ((with_reducible refine gate_callee (f := 30) rfl ?_); refine goesL_ (some 50) rfl rfl Tryd.func30 (by kernel_rfl) rfl #[.int .i32 x3_7] rfl (by (try simp only [List.map_toArray, List.map_cons, List.map_nil]); first | done | rfl | (simp only [List.length_drop, List.length_take]; rfl) | (simp only [ByteArray.size_extract]; rfl)) ?_; (with_reducible refine (utf_Put.calls x3_7 t124 _ A19.out).mono ?_); rintro e w21 ⟨rfl, hb⟩; refine ⟨_, rfl, ?_⟩; have n0_ := Aside0.mk (below_step (by repeat (first | (with_reducible first | exact HB.out | apply below_alloc | apply pw_below_drewN | apply below_drew1) | exact HB.out)) hb); clear HB; have HB := n0_; clear n0_; (try clear hb); (try clear hb2); (try clear hk); (try clear hi)))
      go_ret
      exact ⟨by first | rfl | (simp [errW_none, errW_some] <;> rfl) | (simp [*, errW_none, errW_some] <;> rfl), by repeat (first | (with_reducible first | exact HB.out | apply below_alloc | apply pw_below_drewN | apply below_drew1) | exact HB.out)⟩
/-! ### lex_Unescape: function 21 -/
-- 48 49
def lex_Unescape_go (s : ByteArray) (attr : Bool) : Nat → Nat → List UInt8 → Option (ByteArray × Int × Int)
  | 0, _, _ => none
  | d + 1, i, acc =>
    if i < s.size then
      if Lib.indexByte (s.data.toList.drop i) 38 < 0 then
        (lex_plain.f (s.extract i s.size) attr).bind fun p => if acc.length + p.size ≤ 140737488355328 then some (⟨(acc ++ p.data.toList).toArray⟩, 0, 0) else none
      else
        (lex_plain.f (s.extract i (i + (Lib.indexByte (s.data.toList.drop i) 38).toNat)) attr).bind fun p => if acc.length + p.size ≤ 140737488355328 then
          if Lib.indexByte (s.data.toList.drop (i + (Lib.indexByte (s.data.toList.drop i) 38).toNat)) 59 < 0 then some (⟨#[]⟩, ((i + (Lib.indexByte (s.data.toList.drop i) 38).toNat : Nat) : Int), 16)
          else (lex_reference.f 12 (s.extract (i + (Lib.indexByte (s.data.toList.drop i) 38).toNat + 1) (i + (Lib.indexByte (s.data.toList.drop i) 38).toNat + (Lib.indexByte (s.data.toList.drop (i + (Lib.indexByte (s.data.toList.drop i) 38).toNat)) 59).toNat))).bind fun t =>
            if t.toList.isEmpty then some (⟨#[]⟩, ((i + (Lib.indexByte (s.data.toList.drop i) 38).toNat : Nat) : Int), 16)
            else if acc.length + p.size + t.size ≤ 140737488355328 then lex_Unescape_go s attr d (i + (Lib.indexByte (s.data.toList.drop i) 38).toNat + (Lib.indexByte (s.data.toList.drop (i + (Lib.indexByte (s.data.toList.drop i) 38).toNat)) 59).toNat + 1) (acc ++ p.data.toList ++ t.data.toList) else none
          else none
    else some (⟨acc.toArray⟩, 0, 0)
def lex_Unescape.f (a0 : ByteArray) (a1 : Bool) : Option (ByteArray × Int × Int) := if a0.size ≤ 140737488351232 then lex_Unescape_go a0 a1 (a0.size + 1) 0 [] else none
theorem lex_Unescape_idx (l : List UInt8) (b : UInt8) (h : ¬ Lib.indexByte l b < 0) : ∃ n : Nat, Lib.indexByte l b = n ∧ n < l.length ∧ l[n]? = some b := by
  obtain ⟨n, hn⟩ := Int.eq_ofNat_of_zero_le (show 0 ≤ Lib.indexByte l b by omega)
  have := (Lib.indexByte_some hn).1
  refine ⟨n, hn, ?_, this⟩
  rcases Nat.lt_or_ge n l.length with h' | h'
  · exact h'
  · rw [List.getElem?_eq_none h'] at this
    exact absurd this (by simp)
theorem lex_Unescape_drop (s : ByteArray) (i : Nat) : (s.extract i s.size).data.toList = s.data.toList.drop i := by
  rw [Lib.extract_data, List.take_of_length_le (by rw [List.length_drop, ← Lib.size_eq]; exact Nat.le_refl _)]
theorem lex_Unescape_inj {α β γ : Type} {a a' : α} {b b' : β} {c c' : γ} (h : some (a, b, c) = some (a', b', c')) : a = a' ∧ b = b' ∧ c = c' := by simpa using h
theorem lex_Unescape_cells (l : List UInt8) (p : ByteArray) : Lib.byteCells (l ++ p.data.toList) = Lib.byteCells l ++ Lib.strCells p := by simp [Lib.byteCells, Lib.strCells]
theorem lex_Unescape_kept {T e : TypeId} {B b : Nat} {bs : List Value} {w w1 : World} (h : Lib.IsBuilder T e B b bs w) (hb : Below w.heap.size w w1) : Lib.IsBuilder T e B b bs w1 := by
  have key : ∀ p, Lib.BuilderAt T e B b p bs w → Lib.BuilderAt T e B b p bs w1 := by
    rintro p h
    have hlt := h.lt
    obtain ⟨hB, v, hbk, hown, hne⟩ := h
    exact ⟨hB, v, (hb.block b hlt).trans hbk, hown.kept (row := none) ⟨hb.os, hb.tape, hb.output, hb.size, fun k hk _ => hb.block k hk⟩ (by simp; exact Classical.em _), hne⟩
  exact h.imp (key _) (key _)
set_option maxHeartbeats 2000000 in
set_option maxRecDepth 100000 in
theorem lex_Unescape.calls (a0 : ByteArray) (a1 : Bool) (r1 : ByteArray) (r2 : Int) (r3 : Int) (w : World) (hml : ML w) (h : lex_Unescape.f a0 a1 = some (r1, r2, r3)) :
    Calls Tryd.prog 21 #[.string a0, .bool a1] w fun e w' => e = .returned (.tuple #[.string r1, .int .i64 r2, .int .i64 r3]) ∧ Below w.heap.size w w' := by
  unfold lex_Unescape.f at h
  split at h
  case isFalse => exact absurd h (by simp)
  rename_i hs
  have H := Aside0.mk h
  have HML := Aside0.mk hml
  clear h hml
  have HI : ∀ (s : ByteArray) (c : Int) (W : World), Calls Tryd.prog 47 #[.string s, .int .u8 c] W fun e w' => e = .returned (.int .i64 (Lib.indexByte s.data.toList c.toNat.toUInt8)) ∧ w' = W := fun s c W => Tryd.strings_IndexByte s c W
  go_enter Tryd.func21, Tryd.ntmps21
  go_wp2
  have hB0 : Lib.IsBuilder 71 5 w.heap.size w.heap.size (Lib.byteCells []) (w.alloc (.cells #[.pointer none, .slice none 0 0] 71)) := by
    refine Or.inl ⟨Nat.le_refl _, .slice none 0 0, heap_alloc_last w _, ?_, by simp [Value.ownBlock]⟩
    exact ⟨rfl, Or.inl ⟨rfl, rfl⟩⟩
  have HB0 := Aside0.mk hB0
  clear hB0
  go_loopg [4, 5, 6] a0.size (fun m v4 v5 v6 wr => ∃ (i d : Nat) (acc : List UInt8), v4 = .string ⟨#[]⟩ ∧ v5 = .int .i64 (i : Int) ∧ v6 = .int .i64 0 ∧ i ≤ a0.size ∧ Aside0 (m = a0.size - i) ∧ Aside0 (lex_Unescape_go a0 a1 d i acc = some (r1, r2, r3)) ∧ Aside0 (Lib.IsBuilder 71 5 w.heap.size w.heap.size (Lib.byteCells acc) wr) ∧ Aside0 (Below w.heap.size w wr))
  case atStart => exact ⟨0, _, [], rfl, rfl, rfl, Nat.zero_le _, ⟨rfl⟩, H, HB0, ⟨(Below.refl _ _).alloc (Nat.le_refl _) _⟩⟩
  case round =>
    obtain ⟨i, d, acc, rfl, rfl, rfl, hi, HM, HG, HBD, HB⟩ := hrel
    clear H HB0
    obtain ⟨d, rfl⟩ : ∃ e, d = e + 1 := by
      cases d with
      | zero => exact absurd HG.out (by simp [lex_Unescape_go])
      | succ d => exact ⟨d, rfl⟩
    have hg := HG.out
    clear HG
    rw [lex_Unescape_go] at hg
    have HML2 := Aside0.mk (ML.below HML.out HB.out)
    by_cases hlt : i < a0.size
    rotate_left 1
    · rw [if_neg hlt] at hg
      have l1 : decide (i < a0.size) = false := decide_eq_false hlt
      have HG := Aside0.mk hg
      clear hg
      go_wp2_with (first | (go_at_call 37; (with_reducible refine (Tryd.Builder_String_any w.heap.size w.heap.size (acc) _ HBD.out (by have := HB.out.size; omega)).mono ?_); rintro e w5 ⟨rfl, hb5⟩; have HB5 := Aside0.mk (show Below w.heap.size w w5 from (HB.out).trans hb5); clear hb5))
      go_ret3
      obtain ⟨rfl, rfl, rfl⟩ := lex_Unescape_inj HG.out
      exact ⟨rfl, HB5.out⟩

    rw [if_pos hlt] at hg
    have l1 : decide (i < a0.size) = true := decide_eq_true hlt
    have q0 := eq_true (show (0 : Int) ≤ (i : Int) by omega)
    have q1 := eq_true (show (i : Int) ≤ (a0.size : Int) by omega)
    have q2 := eq_true (show i ≤ a0.size by omega)
    have hxt : (a0.extract i a0.size).data.toList = a0.data.toList.drop i := by rw [Lib.extract_data, List.take_of_length_le (by rw [List.length_drop, ← Lib.size_eq]; exact Nat.le_refl _)]
    have hix := fun W => HI (a0.extract i a0.size) 38 W
    rw [hxt] at hix
    have hidx := lex_Unescape_idx (a0.data.toList.drop i) 38
    change ∀ W, Calls Tryd.prog 47 #[.string (a0.extract i a0.size), .int .u8 38] W fun e w' => e = .returned (.int .i64 (Lib.indexByte (a0.data.toList.drop i) 38)) ∧ w' = W at hix
    generalize hx : Lib.indexByte (a0.data.toList.drop i) 38 = x at hg hix hidx
    clear hx hxt
    have HIX := Aside0.mk hix
    clear hix
    by_cases hx0 : x < 0
    · rw [if_pos hx0] at hg
      obtain ⟨p, hp, hg⟩ := Option.bind_eq_some_iff.1 hg
      split at hg
      case isFalse => exact absurd hg (by simp)
      rename_i hsz
      have HP := Aside0.mk hp
      have HG := Aside0.mk hg
      have HSZ := Aside0.mk hsz
      clear hp hg hsz hidx
      have hx1 := eq_true hx0
      have hx2 : decide (x < 0) = true := decide_eq_true hx0
      go_wp2_with (first | (go_at_call 47; (with_reducible refine (HIX.out _).mono ?_); rintro e w' ⟨rfl, rfl⟩) | (go_at_call 48; (with_reducible refine (lex_plain.calls (a0.extract i a0.size) a1 p _ HML2.out HP.out).mono ?_); rintro e w2 ⟨rfl, hb2⟩; have HB2 := Aside0.mk hb2; clear hb2) | (go_at_call 40; (with_reducible refine (Bld.writeString 71 Bld.home_builder w.heap.size w.heap.size (Lib.byteCells (acc)) p _ (lex_Unescape_kept HBD.out HB2.out) (by have := HSZ.out; simp only [Lib.byteCells, List.length_map, List.length_append, ← Lib.size_eq]; omega) (by have := HB.out.size; have := HB2.out.size; omega)).mono ?_); rintro e w3 ⟨rfl, hbd3, hb3⟩; have HBD3 := Aside0.mk (show Lib.IsBuilder 71 5 w.heap.size w.heap.size (Lib.byteCells (acc ++ p.data.toList)) w3 from Or.inr (by rw [lex_Unescape_cells]; exact hbd3)); have HB3 := Aside0.mk (show Below w.heap.size w w3 from (below_step HB.out HB2.out).trans hb3); clear hbd3 hb3) | (go_at_call 37; (with_reducible refine (Tryd.Builder_String_any w.heap.size w.heap.size (acc ++ p.data.toList) _ HBD3.out (by have := HB3.out.size; omega)).mono ?_); rintro e w5 ⟨rfl, hb5⟩; have HB5 := Aside0.mk (show Below w.heap.size w w5 from (HB3.out).trans hb5); clear hb5))
      go_ret3
      obtain ⟨rfl, rfl, rfl⟩ := lex_Unescape_inj HG.out
      exact ⟨rfl, HB5.out⟩
    · rw [if_neg hx0] at hg
      obtain ⟨n, rfl, hnl, hnb⟩ := hidx hx0
      obtain ⟨k, hk⟩ : ∃ k : Nat, k = i + n := ⟨_, rfl⟩
      have hkl : k < a0.size := by rw [List.length_drop, ← Lib.size_eq] at hnl; omega
      have hkb : a0.data.toList[k]? = some 38 := by rw [List.getElem?_drop] at hnb; rw [hk]; exact hnb
      simp only [Int.toNat_natCast] at hg
      rw [← hk] at hg
      obtain ⟨p, hp, hg⟩ := Option.bind_eq_some_iff.1 hg
      split at hg
      case isFalse => exact absurd hg (by simp)
      rename_i hsz
      have HP := Aside0.mk hp
      have HSZ := Aside0.mk hsz
      clear hp hsz hidx
      have hx1 := eq_false hx0
      have hx2 : decide ((n : Int) < 0) = false := decide_eq_false hx0
      have e1 : (i : Int) + (n : Int) = (k : Int) := by omega
      have k1 := eq_true (show (0 : Int) ≤ (k : Int) by omega)
      have k2 := eq_true (show (i : Int) ≤ (k : Int) by omega)
      have k3 := eq_true (show i ≤ k by omega)
      have k4 := eq_true (show (k : Int) ≤ (a0.size : Int) by omega)
      have k5 := eq_true (show k ≤ a0.size by omega)
      have hiy := fun W => HI (a0.extract k a0.size) 59 W
      rw [lex_Unescape_drop] at hiy
      have hidy := lex_Unescape_idx (a0.data.toList.drop k) 59
      change ∀ W, Calls Tryd.prog 47 #[.string (a0.extract k a0.size), .int .u8 59] W fun e w' => e = .returned (.int .i64 (Lib.indexByte (a0.data.toList.drop k) 59)) ∧ w' = W at hiy
      generalize hy : Lib.indexByte (a0.data.toList.drop k) 59 = y at hg hiy hidy
      clear hy hnb hnl hk
      have HIY := Aside0.mk hiy
      clear hiy
      by_cases hy0 : y < 0
      · rw [if_pos hy0] at hg
        have HG := Aside0.mk hg
        have hy1 := eq_true hy0
        have hy2 : decide (y < 0) = true := decide_eq_true hy0
        clear hg hidy
        go_wp2_with (first | (go_at_call 47; (with_reducible refine (HIX.out _).mono ?_); rintro e w' ⟨rfl, rfl⟩) | (go_at_call 47; (with_reducible refine (HIY.out _).mono ?_); rintro e w' ⟨rfl, rfl⟩) | (go_at_call 48; (with_reducible refine (lex_plain.calls (a0.extract i k) a1 p _ HML2.out HP.out).mono ?_); rintro e w2 ⟨rfl, hb2⟩; have HB2 := Aside0.mk hb2; clear hb2) | (go_at_call 40; (with_reducible refine (Bld.writeString 71 Bld.home_builder w.heap.size w.heap.size (Lib.byteCells (acc)) p _ (lex_Unescape_kept HBD.out HB2.out) (by have := HSZ.out; simp only [Lib.byteCells, List.length_map, List.length_append, ← Lib.size_eq]; omega) (by have := HB.out.size; have := HB2.out.size; omega)).mono ?_); rintro e w3 ⟨rfl, hbd3, hb3⟩; have HBD3 := Aside0.mk (show Lib.IsBuilder 71 5 w.heap.size w.heap.size (Lib.byteCells (acc ++ p.data.toList)) w3 from Or.inr (by rw [lex_Unescape_cells]; exact hbd3)); have HB3 := Aside0.mk (show Below w.heap.size w w3 from (below_step HB.out HB2.out).trans hb3); clear hbd3 hb3))
        go_ret3
        obtain ⟨rfl, rfl, rfl⟩ := lex_Unescape_inj HG.out
        exact ⟨rfl, HB3.out⟩
      rw [if_neg hy0] at hg
      obtain ⟨m, rfl, hml', hmb⟩ := hidy hy0
      simp only [Int.toNat_natCast] at hg
      have hkm : k + m < a0.size := by rw [List.length_drop, ← Lib.size_eq] at hml'; omega
      have hm0 : 1 ≤ m := by
        rcases Nat.eq_zero_or_pos m with rfl | h'
        · rw [List.getElem?_drop, Nat.add_zero, hkb] at hmb
          exact absurd hmb (by decide)
        · exact h'
      clear hidy hmb hml' hkb
      obtain ⟨t, ht, hg⟩ := Option.bind_eq_some_iff.1 hg
      have HT := Aside0.mk ht
      clear ht
      have hy1 := eq_false hy0
      have hy2 : decide ((m : Int) < 0) = false := decide_eq_false hy0
      obtain ⟨k', hk'⟩ : ∃ k' : Nat, k' = k + 1 := ⟨_, rfl⟩
      obtain ⟨j, hj⟩ : ∃ j : Nat, j = k + m := ⟨_, rfl⟩
      obtain ⟨m', hm'⟩ : ∃ m' : Nat, m' = m + 1 := ⟨_, rfl⟩
      obtain ⟨q, hq⟩ : ∃ q : Nat, q = k + m + 1 := ⟨_, rfl⟩
      have e2 : (k : Int) + 1 = (k' : Int) := by omega
      have e3 : (k : Int) + (m : Int) = (j : Int) := by omega
      have e4 : (m : Int) + 1 = (m' : Int) := by omega
      have e5 : (k : Int) + (m' : Int) = (q : Int) := by omega
      rw [← hk', ← hj] at HT
      rw [← hq] at hg
      have j0 := eq_true (show (0 : Int) ≤ (k' : Int) by omega)
      have j1 := eq_true (show (k' : Int) ≤ (j : Int) by omega)
      have j2 := eq_true (show k' ≤ j by omega)
      have j3 := eq_true (show (j : Int) ≤ (a0.size : Int) by omega)
      have j4 := eq_true (show j ≤ a0.size by omega)
      have hql : q ≤ a0.size := by omega
      have hqk : i < q := by omega
      have hm5 : m' ≤ a0.size := by omega
      clear hk' hj hm' hq
      cases hte : t.toList.isEmpty with
      | true =>
        rw [hte, if_pos rfl] at hg
        have HG := Aside0.mk hg
        clear hg
        go_wp2_with (first | (go_at_call 47; (with_reducible refine (HIX.out _).mono ?_); rintro e w' ⟨rfl, rfl⟩) | (go_at_call 47; (with_reducible refine (HIY.out _).mono ?_); rintro e w' ⟨rfl, rfl⟩) | (go_at_call 48; (with_reducible refine (lex_plain.calls (a0.extract i k) a1 p _ HML2.out HP.out).mono ?_); rintro e w2 ⟨rfl, hb2⟩; have HB2 := Aside0.mk hb2; clear hb2) | (go_at_call 40; (with_reducible refine (Bld.writeString 71 Bld.home_builder w.heap.size w.heap.size (Lib.byteCells (acc)) p _ (lex_Unescape_kept HBD.out HB2.out) (by have := HSZ.out; simp only [Lib.byteCells, List.length_map, List.length_append, ← Lib.size_eq]; omega) (by have := HB.out.size; have := HB2.out.size; omega)).mono ?_); rintro e w3 ⟨rfl, hbd3, hb3⟩; have HBD3 := Aside0.mk (show Lib.IsBuilder 71 5 w.heap.size w.heap.size (Lib.byteCells (acc ++ p.data.toList)) w3 from Or.inr (by rw [lex_Unescape_cells]; exact hbd3)); have HB3 := Aside0.mk (show Below w.heap.size w w3 from (below_step HB.out HB2.out).trans hb3); clear hbd3 hb3) | (go_at_call 49; (with_reducible refine (lex_reference.calls 12 (a0.extract k' j) t _ HT.out).mono ?_); rintro e w4 ⟨rfl, hb4⟩; have HB4 := Aside0.mk hb4; clear hb4))
        go_ret3
        obtain ⟨rfl, rfl, rfl⟩ := lex_Unescape_inj HG.out
        exact ⟨rfl, below_step HB3.out HB4.out⟩
      | false =>
        rw [hte, if_neg (by decide)] at hg
        split at hg
        case isFalse => exact absurd hg (by simp)
        rename_i hsz2
        have HSZ2 := Aside0.mk hsz2
        have HG := Aside0.mk hg
        clear hg hsz2
        go_wp2_with (first | (go_at_call 47; (with_reducible refine (HIX.out _).mono ?_); rintro e w' ⟨rfl, rfl⟩) | (go_at_call 47; (with_reducible refine (HIY.out _).mono ?_); rintro e w' ⟨rfl, rfl⟩) | (go_at_call 48; (with_reducible refine (lex_plain.calls (a0.extract i k) a1 p _ HML2.out HP.out).mono ?_); rintro e w2 ⟨rfl, hb2⟩; have HB2 := Aside0.mk hb2; clear hb2) | (go_at_call 40; (with_reducible refine (Bld.writeString 71 Bld.home_builder w.heap.size w.heap.size (Lib.byteCells (acc)) p _ (lex_Unescape_kept HBD.out HB2.out) (by have := HSZ.out; simp only [Lib.byteCells, List.length_map, List.length_append, ← Lib.size_eq]; omega) (by have := HB.out.size; have := HB2.out.size; omega)).mono ?_); rintro e w3 ⟨rfl, hbd3, hb3⟩; have HBD3 := Aside0.mk (show Lib.IsBuilder 71 5 w.heap.size w.heap.size (Lib.byteCells (acc ++ p.data.toList)) w3 from Or.inr (by rw [lex_Unescape_cells]; exact hbd3)); have HB3 := Aside0.mk (show Below w.heap.size w w3 from (below_step HB.out HB2.out).trans hb3); clear hbd3 hb3) | (go_at_call 49; (with_reducible refine (lex_reference.calls 12 (a0.extract k' j) t _ HT.out).mono ?_); rintro e w4 ⟨rfl, hb4⟩; have HB4 := Aside0.mk hb4; clear hb4) | (go_at_call 40; (with_reducible refine (Bld.writeString 71 Bld.home_builder w.heap.size w.heap.size (Lib.byteCells (acc ++ p.data.toList)) t _ (lex_Unescape_kept HBD3.out HB4.out) (by have := HSZ2.out; simp only [Lib.byteCells, List.length_map, List.length_append, ← Lib.size_eq]; omega) (by have := HB3.out.size; have := HB4.out.size; omega)).mono ?_); rintro e w6 ⟨rfl, hbd6, hb6⟩; have HBD6 := Aside0.mk (show Lib.IsBuilder 71 5 w.heap.size w.heap.size (Lib.byteCells (acc ++ p.data.toList ++ t.data.toList)) w6 from Or.inr (by rw [lex_Unescape_cells]; exact hbd6)); have HB6 := Aside0.mk (show Below w.heap.size w w6 from (below_step HB3.out HB4.out).trans hb6); clear hbd6 hb6))
        go_roundg (a0.size - q)
        case measure => have := HM.out; omega
        case rel => exact ⟨q, d, acc ++ p.data.toList ++ t.data.toList, rfl, rfl, rfl, hql, ⟨rfl⟩, HG, HBD6, HB6⟩
/-! ### watchbillref03_Begins: function 24 -/
def watchbillref03_Begins.f (a0 : ByteArray) (a1 : Int) (a2 : ByteArray) : Option (Bool) := if a1 ≥ 0 then (if (wrap64 ((a0.size : Int) - a1)) ≥ (a2.size : Int) then (if 0 ≤ a1 then (if a1 ≤ (wrap64 (a1 + (a2.size : Int))) then (if (wrap64 (a1 + (a2.size : Int))) ≤ (a0.size : Int) then (some ((a0.extract (a1 : Int).toNat ((wrap64 (a1 + (a2.size : Int))) : Int).toNat).toList == a2.toList)) else (none)) else (none)) else (none)) else (some false)) else (some false)
set_option maxHeartbeats 8000000 in
set_option maxRecDepth 100000 in
theorem watchbillref03_Begins.calls (a0 : ByteArray) (a1 : Int) (a2 : ByteArray) (r : Bool) (w : World) (h : watchbillref03_Begins.f a0 a1 a2 = some r) :
    Calls Tryd.prog 24 #[.string a0, .int .i64 a1, .string a2] w fun e w' => e = .returned (.bool r) ∧ Drawn0 w w' := by
  have H : (if a1 ≥ 0 then (if (wrap64 ((a0.size : Int) - a1)) ≥ (a2.size : Int) then (if 0 ≤ a1 then (if a1 ≤ (wrap64 (a1 + (a2.size : Int))) then (if (wrap64 (a1 + (a2.size : Int))) ≤ (a0.size : Int) then (some ((a0.extract (a1 : Int).toNat ((wrap64 (a1 + (a2.size : Int))) : Int).toNat).toList == a2.toList)) else (none)) else (none)) else (none)) else (some false)) else (some false)) = some r := h
  clear h
  by_cases c4 : a1 ≥ 0
  rotate_left 1
  · rw [if_neg c4] at H
    have c4b0 : decide (0 ≤ a1) = false := decide_eq_false c4
    clear c4
    obtain rfl := Option.some.inj H
    go_enter Tryd.func24, Tryd.ntmps24
    go_wp2
    go_ret
    exact ⟨by first | rfl | (simp; done) | (simp [*]; done), by repeat (first | exact Drawn0.refl _ | apply Drawn0.step)⟩

  rw [if_pos c4] at H
  have c4b0 : decide (0 ≤ a1) = true := decide_eq_true c4
  clear c4
  by_cases c5 : (wrap64 ((a0.size : Int) - a1)) ≥ (a2.size : Int)
  rotate_left 1
  · rw [if_neg c5] at H
    have c5b0 : decide ((a2.size : Int) ≤ (wrap64 ((a0.size : Int) - a1))) = false := decide_eq_false c5
    clear c5
    obtain rfl := Option.some.inj H
    go_enter Tryd.func24, Tryd.ntmps24
    go_wp2
    go_ret
    exact ⟨by first | rfl | (simp; done) | (simp [*]; done), by repeat (first | exact Drawn0.refl _ | apply Drawn0.step)⟩
  rw [if_pos c5] at H
  have c5b0 : decide ((a2.size : Int) ≤ (wrap64 ((a0.size : Int) - a1))) = true := decide_eq_true c5
  clear c5
  by_cases c6 : 0 ≤ a1
  rotate_left 1
  · rw [if_neg c6] at H
    exact absurd H (by simp)
  rw [if_pos c6] at H
  have c6b0 := eq_true c6
  have c6b1 : decide (0 ≤ a1) = true := decide_eq_true c6
  clear c6
  by_cases c7 : a1 ≤ (wrap64 (a1 + (a2.size : Int)))
  rotate_left 1
  · rw [if_neg c7] at H
    exact absurd H (by simp)
  rw [if_pos c7] at H
  have c7b0 := eq_true c7
  have c7b1 : decide (a1 ≤ (wrap64 (a1 + (a2.size : Int)))) = true := decide_eq_true c7
  by_cases c8 : (wrap64 (a1 + (a2.size : Int))) ≤ (a0.size : Int)
  rotate_left 1
  · rw [if_neg c8] at H
    exact absurd H (by simp)
  rw [if_pos c8] at H
  have c8b0 := eq_true c8
  have c8b1 : decide ((wrap64 (a1 + (a2.size : Int))) ≤ (a0.size : Int)) = true := decide_eq_true c8
  obtain rfl := Option.some.inj H
  go_enter Tryd.func24, Tryd.ntmps24
  go_wp2
  go_ret
  exact ⟨by first | rfl | (simp; done) | (simp [*]; done), by repeat (first | exact Drawn0.refl _ | apply Drawn0.step)⟩
/-! ### watchbillref03_Index: function 83 -/
def watchbillref03_Index.l0 : Nat → ByteArray → ByteArray → Int → Option (Int)
  | 0, _, _, _ => none
  | k + 1, x0, x2, x7 => if x7 ≤ (wrap64 ((x0.size : Int) - (x2.size : Int))) then (if 0 ≤ x7 then (if x7 ≤ (wrap64 (x7 + (x2.size : Int))) then (if (wrap64 (x7 + (x2.size : Int))) ≤ (x0.size : Int) then (if (x0.extract (x7 : Int).toNat ((wrap64 (x7 + (x2.size : Int))) : Int).toNat).toList = x2.toList then (some x7) else (watchbillref03_Index.l0 k x0 x2 (wrap64 (x7 + 1)))) else (none)) else (none)) else (none)) else (some (-1))
def watchbillref03_Index.f (k : Nat) (a0 : ByteArray) (a1 : Int) (a2 : ByteArray) : Option (Int) := watchbillref03_Index.l0 k a0 a2 a1
theorem watchbillref03_Index.mono_l : ∀ k, (∀ y0 y1 y2, LeO (watchbillref03_Index.l0 k y0 y1 y2) (watchbillref03_Index.l0 (k + 1) y0 y1 y2))
  | 0 => fun _ _ _ r h => by simp [watchbillref03_Index.l0] at h
  | k + 1 => by
    have ih0 := watchbillref03_Index.mono_l k
    · intro y0 y1 y2
      unfold watchbillref03_Index.l0
      repeat' first
      | (with_reducible exact ih0 _ _ _)
      | (with_reducible exact LeO.refl _)
      | (with_reducible exact LeO.none _)
      | (with_reducible refine LeO.ite ?_ ?_)
      | (with_reducible refine LeO.bind ?_ (fun _ => ?_))
      | exact ih0 _ _ _
      | exact LeO.none _
      | refine LeO.ite ?_ ?_
      | refine LeO.bind ?_ (fun _ => ?_)
theorem watchbillref03_Index.mono : ∀ a0 a1 a2 k, LeO (watchbillref03_Index.f k a0 a1 a2) (watchbillref03_Index.f (k + 1) a0 a1 a2) := by
  intro a0 a1 a2 k
  have ih0 := watchbillref03_Index.mono_l k
  unfold watchbillref03_Index.f
  repeat' first
      | (with_reducible exact ih0 _ _ _)
      | (with_reducible exact LeO.refl _)
      | (with_reducible exact LeO.none _)
      | (with_reducible refine LeO.ite ?_ ?_)
      | (with_reducible refine LeO.bind ?_ (fun _ => ?_))
      | exact ih0 _ _ _
      | exact LeO.none _
      | refine LeO.ite ?_ ?_
      | refine LeO.bind ?_ (fun _ => ?_)
set_option maxHeartbeats 8000000 in
set_option maxRecDepth 100000 in
theorem watchbillref03_Index.calls (k : Nat) (a0 : ByteArray) (a1 : Int) (a2 : ByteArray) (r : Int) (w : World) (h : watchbillref03_Index.f k a0 a1 a2 = some r) :
    Calls Tryd.prog 83 #[.string a0, .int .i64 a1, .string a2] w fun e w' => e = .returned (.int .i64 r) ∧ Drawn0 w w' := by
  have H : (watchbillref03_Index.l0 k a0 a2 a1) = some r := h
  clear h
  have H' := Aside0.mk H
  clear H
  go_enter Tryd.func83, Tryd.ntmps83
  go_wp2
  go_loopg [7] k (fun kq v7 w' => ∃ (x7_1 : Int), v7 = .int .i64 x7_1 ∧ Aside0 (watchbillref03_Index.l0 kq a0 a2 x7_1 = some r) ∧ Aside0 (kq ≤ k) ∧ Drawn0 w w')
  case atStart => exact ⟨(a1), (by first | rfl | (simp; done) | (simp [*]; done)), H', ⟨Nat.le_refl _⟩, by repeat (first | exact Drawn0.refl _ | apply Drawn0.step)⟩
  case round =>
    clear H'
    try clear p2
    obtain ⟨x7_1, rfl, HA, HK1, ⟨m1, rfl⟩⟩ := hrel
    cases gk with
    | zero => exact absurd HA.out (by simp [watchbillref03_Index.l0])
    | succ k1 =>
      have H := HA.out
      clear HA
      simp only [watchbillref03_Index.l0] at H
      by_cases c4 : x7_1 ≤ (wrap64 ((a0.size : Int) - (a2.size : Int)))
      rotate_left 1
      · rw [if_neg c4] at H
        have c4b0 : decide (x7_1 ≤ (wrap64 ((a0.size : Int) - (a2.size : Int)))) = false := decide_eq_false c4
        clear c4
        obtain rfl := Option.some.inj H
        go_wp2
        go_ret
        exact ⟨by first | rfl | (simp; done) | (simp [*]; done), by repeat (first | exact Drawn0.refl _ | apply Drawn0.step)⟩

      rw [if_pos c4] at H
      have c4b0 : decide (x7_1 ≤ (wrap64 ((a0.size : Int) - (a2.size : Int)))) = true := decide_eq_true c4
      clear c4
      by_cases c5 : 0 ≤ x7_1
      rotate_left 1
      · rw [if_neg c5] at H
        exact absurd H (by simp)
      rw [if_pos c5] at H
      have c5b0 := eq_true c5
      have c5b1 : decide (0 ≤ x7_1) = true := decide_eq_true c5
      clear c5
      by_cases c6 : x7_1 ≤ (wrap64 (x7_1 + (a2.size : Int)))
      rotate_left 1
      · rw [if_neg c6] at H
        exact absurd H (by simp)
      rw [if_pos c6] at H
      have c6b0 := eq_true c6
      have c6b1 : decide (x7_1 ≤ (wrap64 (x7_1 + (a2.size : Int)))) = true := decide_eq_true c6
      by_cases c7 : (wrap64 (x7_1 + (a2.size : Int))) ≤ (a0.size : Int)
      rotate_left 1
      · rw [if_neg c7] at H
        exact absurd H (by simp)
      rw [if_pos c7] at H
      have c7b0 := eq_true c7
      have c7b1 : decide ((wrap64 (x7_1 + (a2.size : Int))) ≤ (a0.size : Int)) = true := decide_eq_true c7
      by_cases c8 : (a0.extract (x7_1 : Int).toNat ((wrap64 (x7_1 + (a2.size : Int))) : Int).toNat).toList = a2.toList
      · rw [if_pos c8] at H
        have c8b0 : ((a0.extract (x7_1 : Int).toNat ((wrap64 (x7_1 + (a2.size : Int))) : Int).toNat).toList == a2.toList) = true := beq_iff_eq.mpr c8
        have c8b1 : ((a0.extract (x7_1 : Int).toNat ((wrap64 (x7_1 + (a2.size : Int))) : Int).toNat).toList != a2.toList) = false := bne_eq_false_iff_eq.mpr c8
        clear c8
        obtain rfl := Option.some.inj H
        go_wp2
        go_ret
        exact ⟨by first | rfl | (simp; done) | (simp [*]; done), by repeat (first | exact Drawn0.refl _ | apply Drawn0.step)⟩
      rw [if_neg c8] at H
      have c8b0 : ((a0.extract (x7_1 : Int).toNat ((wrap64 (x7_1 + (a2.size : Int))) : Int).toNat).toList == a2.toList) = false := beq_eq_false_iff_ne.mpr c8
      have c8b1 : ((a0.extract (x7_1 : Int).toNat ((wrap64 (x7_1 + (a2.size : Int))) : Int).toNat).toList != a2.toList) = true := bne_iff_ne.mpr c8
      have H' := Aside0.mk H
      clear H
      go_wp2
      go_roundg k1
      case measure => have := HK1.out; omega
      case rel => exact ⟨(wrap64 (x7_1 + 1)), (by first | rfl | (simp; done) | (simp [*]; done)), H', ⟨by have := HK1.out; omega⟩, by repeat (first | exact Drawn0.refl _ | apply Drawn0.step)⟩
/-! ### watchbillref03_small: function 117 -/
def watchbillref03_small.f (a0 : Int) : Option (Int) := if a0 ≥ 65 then (if a0 ≤ 90 then (some ((a0 + 32) % 256)) else (some a0)) else (some a0)
set_option maxHeartbeats 8000000 in
set_option maxRecDepth 100000 in
theorem watchbillref03_small.calls (a0 : Int) (r : Int) (w : World) (h : watchbillref03_small.f a0 = some r) :
    Calls Tryd.prog 117 #[.int .u8 a0] w fun e w' => e = .returned (.int .u8 r) ∧ Drawn0 w w' := by
  have H : (if a0 ≥ 65 then (if a0 ≤ 90 then (some ((a0 + 32) % 256)) else (some a0)) else (some a0)) = some r := h
  clear h
  by_cases c2 : a0 ≥ 65
  rotate_left 1
  · rw [if_neg c2] at H
    have c2b0 : decide (65 ≤ a0) = false := decide_eq_false c2
    clear c2
    obtain rfl := Option.some.inj H
    go_enter Tryd.func117, Tryd.ntmps117
    go_wp2
    go_ret
    exact ⟨by first | rfl | (simp; done) | (simp [*]; done), by repeat (first | exact Drawn0.refl _ | apply Drawn0.step)⟩

  rw [if_pos c2] at H
  have c2b0 : decide (65 ≤ a0) = true := decide_eq_true c2
  clear c2
  by_cases c3 : a0 ≤ 90
  rotate_left 1
  · rw [if_neg c3] at H
    have c3b0 : decide (a0 ≤ 90) = false := decide_eq_false c3
    clear c3
    obtain rfl := Option.some.inj H
    go_enter Tryd.func117, Tryd.ntmps117
    go_wp2
    go_ret
    exact ⟨by first | rfl | (simp; done) | (simp [*]; done), by repeat (first | exact Drawn0.refl _ | apply Drawn0.step)⟩
  rw [if_pos c3] at H
  have c3b0 : decide (a0 ≤ 90) = true := decide_eq_true c3
  clear c3
  obtain rfl := Option.some.inj H
  go_enter Tryd.func117, Tryd.ntmps117
  go_wp2
  go_ret
  exact ⟨by first | rfl | (simp; done) | (simp [*]; done), by repeat (first | exact Drawn0.refl _ | apply Drawn0.step)⟩
end Go.Proofs.YtffpbhbiamkkpaaDoor.PL
