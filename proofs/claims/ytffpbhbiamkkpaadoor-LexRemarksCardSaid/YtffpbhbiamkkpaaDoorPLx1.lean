import Derived.Test.YtffpbhbiamkkpaaDoorPLx0
-- PRINTED by print.py (a twelfth state) out of the translation. Not trusted: Lean checks it.
namespace Go.Proofs.YtffpbhbiamkkpaaDoor.PL
open Go.RowKit Go.Proofs.YtffpbhbiamkkpaaDoorW.PrintWords Go.Proofs.YtffpbhbiamkkpaaDoorW.PrintLast Go.Proofs.YtffpbhbiamkkpaaDoorW.PrintMore
attribute [local go_sem] max2_int min2_int max_two min_two max_three min_three max_four min_four   -- for this text's walks alone
set_option linter.unusedVariables false
set_option linter.unusedSimpArgs false

/-! ### watchbilllaw03_awake: function 20 -/
def watchbilllaw03_awake.f  : Option (Bool) := none
set_option maxHeartbeats 8000000 in
set_option maxRecDepth 100000 in
theorem watchbilllaw03_awake.calls  (r : Bool) (w : World) (h : watchbilllaw03_awake.f  = some r) :
    Calls Tryd.prog 20 #[] w fun e w' => e = .returned (.bool r) ∧ Drawn0 w w' := by
  have H : (none) = some r := h
  clear h
  exact absurd H (by simp)

-- NOT PRINTED: function 37 (strings_Builder_String)

-- NOT PRINTED: function 111 (abi_NoEscape)

-- NOT PRINTED: function 75 (strings_Builder_copyCheck)

-- NOT PRINTED: function 40 (strings_Builder_WriteString)

/-! ### strings_IndexByte: function 47 -/
def strings_IndexByte.f (a0 : ByteArray) (a1 : Int) : Option Int := some (Lib.indexByte a0.data.toList a1.toNat.toUInt8)
theorem strings_IndexByte.calls (a0 : ByteArray) (a1 : Int) (r : Int) (w : World) (h : strings_IndexByte.f a0 a1 = some r) :
    Calls Tryd.prog 47 #[.string a0, .int .u8 a1] w fun e w' => e = .returned (.int .i64 r) ∧ Drawn0 w w' := by
  obtain rfl := Option.some.inj h
  refine (Tryd.strings_IndexByte a0 a1 w).mono ?_
  rintro e w' ⟨rfl, rfl⟩
  exact ⟨rfl, Drawn0.refl _⟩


/-! ### strings_ReplaceAll: function 80 -/
def strings_ReplaceAll.f (a0 : ByteArray) (a1 : ByteArray) (a2 : ByteArray) : Option ByteArray := if a0.size < 4294967281 then (if 1 ≤ a1.size then (if a0.size + Lib.countB a0 a1 * a2.size ≤ 140737488355328 then some ⟨(Lib.replaceAll a0.data.toList a1.data.toList a2.data.toList).toArray⟩ else none) else none) else none
theorem strings_ReplaceAll.calls (a0 : ByteArray) (a1 : ByteArray) (a2 : ByteArray) (r : ByteArray) (w : World) (hml : ML w) (h : strings_ReplaceAll.f a0 a1 a2 = some r) :
    Calls Tryd.prog 80 #[.string a0, .string a1, .string a2] w fun e w' => e = .returned (.string r) ∧ Below w.heap.size w w' := by
  unfold strings_ReplaceAll.f at h
  split at h
  case isFalse => exact absurd h (by simp)
  rename_i hs
  split at h
  case isFalse => exact absurd h (by simp)
  rename_i h1
  split at h
  case isFalse => exact absurd h (by simp)
  rename_i h2
  obtain rfl := Option.some.inj h
  obtain ⟨m, hm⟩ := hml
  exact Tryd.strings_ReplaceAll a0 a1 a2 m w hs hm h1 h2

/-! ### lex_ends: function 79 -/
def lex_ends.f (a0 : ByteArray) : Option (ByteArray) := (strings_ReplaceAll.f a0 (⟨#[13, 10]⟩ : ByteArray) (⟨#[10]⟩ : ByteArray)).bind fun t101 => ((strings_ReplaceAll.f t101 (⟨#[13]⟩ : ByteArray) (⟨#[10]⟩ : ByteArray)).bind fun t102 => (some t102))
set_option maxHeartbeats 8000000 in
set_option maxRecDepth 100000 in
theorem lex_ends.calls (a0 : ByteArray) (r : ByteArray) (w : World) (hml : ML w) (h : lex_ends.f a0 = some r) :
    Calls Tryd.prog 79 #[.string a0] w fun e w' => e = .returned (.string r) ∧ Below w.heap.size w w' := by
  have HML := Aside0.mk hml
  clear hml
  have HB := Aside0.mk (Below.refl w.heap.size w)
  have H : ((strings_ReplaceAll.f a0 (⟨#[13, 10]⟩ : ByteArray) (⟨#[10]⟩ : ByteArray)).bind fun t101 => ((strings_ReplaceAll.f t101 (⟨#[13]⟩ : ByteArray) (⟨#[10]⟩ : ByteArray)).bind fun t102 => (some t102))) = some r := h
  clear h
  replace H := Option.bind_eq_some_iff.mp H
  obtain ⟨t101, A20, H⟩ := H
  replace H : ((strings_ReplaceAll.f t101 (⟨#[13]⟩ : ByteArray) (⟨#[10]⟩ : ByteArray)).bind fun t102 => (some t102)) = some r := H
  have A2 := Aside0.mk A20
  clear A20
  replace H := Option.bind_eq_some_iff.mp H
  obtain ⟨t102, A30, H⟩ := H
  replace H : (some t102) = some r := H
  have A3 := Aside0.mk A30
  clear A30
  obtain rfl := Option.some.inj H
  go_enter Tryd.func79, Tryd.ntmps79
  go_wp2_with (first | ((with_reducible refine gate_callee (f := 80) rfl ?_); refine goesL_ (some 4) rfl rfl Tryd.func80 (by kernel_rfl) rfl #[.string a0, .string (⟨#[13, 10]⟩ : ByteArray), .string (⟨#[10]⟩ : ByteArray)] rfl (by (try simp only [List.map_toArray, List.map_cons, List.map_nil]); first | done | rfl | (simp only [List.length_drop, List.length_take]; rfl) | (simp only [ByteArray.size_extract]; rfl)) ?_; (with_reducible refine (strings_ReplaceAll.calls a0 (⟨#[13, 10]⟩ : ByteArray) (⟨#[10]⟩ : ByteArray) t101 _ (by exact ML.below HML.out (by repeat (first | (with_reducible first | exact HB.out | apply below_alloc | apply pw_below_drewN | apply below_drew1) | exact HB.out))) A2.out).mono ?_); rintro e w4 ⟨rfl, hb⟩; refine ⟨_, rfl, ?_⟩; have n0_ := Aside0.mk (below_step (by repeat (first | (with_reducible first | exact HB.out | apply below_alloc | apply pw_below_drewN | apply below_drew1) | exact HB.out)) hb); clear HB; have HB := n0_; clear n0_; (try clear hb); (try clear hb2); (try clear hk); (try clear hi)) | ((with_reducible refine gate_callee (f := 80) rfl ?_); refine goesL_ (some 5) rfl rfl Tryd.func80 (by kernel_rfl) rfl #[.string t101, .string (⟨#[13]⟩ : ByteArray), .string (⟨#[10]⟩ : ByteArray)] rfl (by (try simp only [List.map_toArray, List.map_cons, List.map_nil]); first | done | rfl | (simp only [List.length_drop, List.length_take]; rfl) | (simp only [ByteArray.size_extract]; rfl)) ?_; (with_reducible refine (strings_ReplaceAll.calls t101 (⟨#[13]⟩ : ByteArray) (⟨#[10]⟩ : ByteArray) t102 _ (by exact ML.below HML.out (by repeat (first | (with_reducible first | exact HB.out | apply below_alloc | apply pw_below_drewN | apply below_drew1) | exact HB.out))) A3.out).mono ?_); rintro e w5 ⟨rfl, hb⟩; refine ⟨_, rfl, ?_⟩; have n0_ := Aside0.mk (below_step (by repeat (first | (with_reducible first | exact HB.out | apply below_alloc | apply pw_below_drewN | apply below_drew1) | exact HB.out)) hb); clear HB; have HB := n0_; clear n0_; (try clear hb); (try clear hb2); (try clear hk); (try clear hi)))
  go_ret
  exact ⟨by first | rfl | (simp [errW_none, errW_some] <;> rfl) | (simp [*, errW_none, errW_some] <;> rfl), by repeat (first | (with_reducible first | exact HB.out | apply below_alloc | apply pw_below_drewN | apply below_drew1) | exact HB.out)⟩

/-! ### lex_plain: function 48 -/
def lex_plain.f (a0 : ByteArray) (a1 : Bool) : Option (ByteArray) := (lex_ends.f a0).bind fun t103 => (if a1 = true then ((strings_ReplaceAll.f t103 (⟨#[10]⟩ : ByteArray) (⟨#[32]⟩ : ByteArray)).bind fun t104 => ((strings_ReplaceAll.f t104 (⟨#[9]⟩ : ByteArray) (⟨#[32]⟩ : ByteArray)).bind fun t105 => (some t105))) else (some t103))
set_option maxHeartbeats 8000000 in
set_option maxRecDepth 100000 in
theorem lex_plain.calls (a0 : ByteArray) (a1 : Bool) (r : ByteArray) (w : World) (hml : ML w) (h : lex_plain.f a0 a1 = some r) :
    Calls Tryd.prog 48 #[.string a0, .bool a1] w fun e w' => e = .returned (.string r) ∧ Below w.heap.size w w' := by
  have HML := Aside0.mk hml
  clear hml
  have HB := Aside0.mk (Below.refl w.heap.size w)
  have H : ((lex_ends.f a0).bind fun t103 => (if a1 = true then ((strings_ReplaceAll.f t103 (⟨#[10]⟩ : ByteArray) (⟨#[32]⟩ : ByteArray)).bind fun t104 => ((strings_ReplaceAll.f t104 (⟨#[9]⟩ : ByteArray) (⟨#[32]⟩ : ByteArray)).bind fun t105 => (some t105))) else (some t103))) = some r := h
  clear h
  replace H := Option.bind_eq_some_iff.mp H
  obtain ⟨t103, A30, H⟩ := H
  replace H : (if a1 = true then ((strings_ReplaceAll.f t103 (⟨#[10]⟩ : ByteArray) (⟨#[32]⟩ : ByteArray)).bind fun t104 => ((strings_ReplaceAll.f t104 (⟨#[9]⟩ : ByteArray) (⟨#[32]⟩ : ByteArray)).bind fun t105 => (some t105))) else (some t103)) = some r := H
  have A3 := Aside0.mk A30
  clear A30
  by_cases c4 : a1 = true
  rotate_left 1
  · replace c4 := Bool.eq_false_iff.mpr c4
    subst c4
    have H1 : (some t103) = some r := by rw [if_neg (show ¬ (false = true) by decide)] at H; exact H
    clear H
    have H := H1
    clear H1
    obtain rfl := Option.some.inj H
    go_enter Tryd.func48, Tryd.ntmps48
    go_wp2_with (first | ((with_reducible refine gate_callee (f := 79) rfl ?_); refine goesL_ (some 6) rfl rfl Tryd.func79 (by kernel_rfl) rfl #[.string a0] rfl (by (try simp only [List.map_toArray, List.map_cons, List.map_nil]); first | done | rfl | (simp only [List.length_drop, List.length_take]; rfl) | (simp only [ByteArray.size_extract]; rfl)) ?_; (with_reducible refine (lex_ends.calls a0 t103 _ (by exact ML.below HML.out (by repeat (first | (with_reducible first | exact HB.out | apply below_alloc | apply pw_below_drewN | apply below_drew1) | exact HB.out))) A3.out).mono ?_); rintro e w10 ⟨rfl, hb⟩; refine ⟨_, rfl, ?_⟩; have n0_ := Aside0.mk (below_step (by repeat (first | (with_reducible first | exact HB.out | apply below_alloc | apply pw_below_drewN | apply below_drew1) | exact HB.out)) hb); clear HB; have HB := n0_; clear n0_; (try clear hb); (try clear hb2); (try clear hk); (try clear hi)))
    go_ret
    exact ⟨by first | rfl | (simp [errW_none, errW_some] <;> rfl) | (simp [*, errW_none, errW_some] <;> rfl), by repeat (first | (with_reducible first | exact HB.out | apply below_alloc | apply pw_below_drewN | apply below_drew1) | exact HB.out)⟩

  subst c4
  have H1 : ((strings_ReplaceAll.f t103 (⟨#[10]⟩ : ByteArray) (⟨#[32]⟩ : ByteArray)).bind fun t104 => ((strings_ReplaceAll.f t104 (⟨#[9]⟩ : ByteArray) (⟨#[32]⟩ : ByteArray)).bind fun t105 => (some t105))) = some r := by rw [if_pos rfl] at H; exact H
  clear H
  have H := H1
  clear H1
  replace H := Option.bind_eq_some_iff.mp H
  obtain ⟨t104, A50, H⟩ := H
  replace H : ((strings_ReplaceAll.f t104 (⟨#[9]⟩ : ByteArray) (⟨#[32]⟩ : ByteArray)).bind fun t105 => (some t105)) = some r := H
  have A5 := Aside0.mk A50
  clear A50
  replace H := Option.bind_eq_some_iff.mp H
  obtain ⟨t105, A60, H⟩ := H
  replace H : (some t105) = some r := H
  have A6 := Aside0.mk A60
  clear A60
  obtain rfl := Option.some.inj H
  go_enter Tryd.func48, Tryd.ntmps48
  go_wp2_with (first | ((with_reducible refine gate_callee (f := 79) rfl ?_); refine goesL_ (some 6) rfl rfl Tryd.func79 (by kernel_rfl) rfl #[.string a0] rfl (by (try simp only [List.map_toArray, List.map_cons, List.map_nil]); first | done | rfl | (simp only [List.length_drop, List.length_take]; rfl) | (simp only [ByteArray.size_extract]; rfl)) ?_; (with_reducible refine (lex_ends.calls a0 t103 _ (by exact ML.below HML.out (by repeat (first | (with_reducible first | exact HB.out | apply below_alloc | apply pw_below_drewN | apply below_drew1) | exact HB.out))) A3.out).mono ?_); rintro e w7 ⟨rfl, hb⟩; refine ⟨_, rfl, ?_⟩; have n0_ := Aside0.mk (below_step (by repeat (first | (with_reducible first | exact HB.out | apply below_alloc | apply pw_below_drewN | apply below_drew1) | exact HB.out)) hb); clear HB; have HB := n0_; clear n0_; (try clear hb); (try clear hb2); (try clear hk); (try clear hi)) | ((with_reducible refine gate_callee (f := 80) rfl ?_); refine goesL_ (some 9) rfl rfl Tryd.func80 (by kernel_rfl) rfl #[.string t103, .string (⟨#[10]⟩ : ByteArray), .string (⟨#[32]⟩ : ByteArray)] rfl (by (try simp only [List.map_toArray, List.map_cons, List.map_nil]); first | done | rfl | (simp only [List.length_drop, List.length_take]; rfl) | (simp only [ByteArray.size_extract]; rfl)) ?_; (with_reducible refine (strings_ReplaceAll.calls t103 (⟨#[10]⟩ : ByteArray) (⟨#[32]⟩ : ByteArray) t104 _ (by exact ML.below HML.out (by repeat (first | (with_reducible first | exact HB.out | apply below_alloc | apply pw_below_drewN | apply below_drew1) | exact HB.out))) A5.out).mono ?_); rintro e w8 ⟨rfl, hb⟩; refine ⟨_, rfl, ?_⟩; have n0_ := Aside0.mk (below_step (by repeat (first | (with_reducible first | exact HB.out | apply below_alloc | apply pw_below_drewN | apply below_drew1) | exact HB.out)) hb); clear HB; have HB := n0_; clear n0_; (try clear hb); (try clear hb2); (try clear hk); (try clear hi)) | ((with_reducible refine gate_callee (f := 80) rfl ?_); refine goesL_ (some 10) rfl rfl Tryd.func80 (by kernel_rfl) rfl #[.string t104, .string (⟨#[9]⟩ : ByteArray), .string (⟨#[32]⟩ : ByteArray)] rfl (by (try simp only [List.map_toArray, List.map_cons, List.map_nil]); first | done | rfl | (simp only [List.length_drop, List.length_take]; rfl) | (simp only [ByteArray.size_extract]; rfl)) ?_; (with_reducible refine (strings_ReplaceAll.calls t104 (⟨#[9]⟩ : ByteArray) (⟨#[32]⟩ : ByteArray) t105 _ (by exact ML.below HML.out (by repeat (first | (with_reducible first | exact HB.out | apply below_alloc | apply pw_below_drewN | apply below_drew1) | exact HB.out))) A6.out).mono ?_); rintro e w9 ⟨rfl, hb⟩; refine ⟨_, rfl, ?_⟩; have n0_ := Aside0.mk (below_step (by repeat (first | (with_reducible first | exact HB.out | apply below_alloc | apply pw_below_drewN | apply below_drew1) | exact HB.out)) hb); clear HB; have HB := n0_; clear n0_; (try clear hb); (try clear hb2); (try clear hk); (try clear hi)))
  go_ret
  exact ⟨by first | rfl | (simp [errW_none, errW_some] <;> rfl) | (simp [*, errW_none, errW_some] <;> rfl), by repeat (first | (with_reducible first | exact HB.out | apply below_alloc | apply pw_below_drewN | apply below_drew1) | exact HB.out)⟩
/-! ### utf_within: function 62 -/
def utf_within.l0 : Nat → Int → List (S102) → Int → Int → Option (Bool)
  | 0, _, _, _, _ => none
  | k + 1, x0, x7, x8, x9 => if x9 < x8 then (if 0 ≤ x9 then (if x9 < (x7.length : Int) then (if x0 ≥ ((rd_T102 x7 x9).f0) then (if x0 ≤ ((rd_T102 x7 x9).f1) then (some true) else (utf_within.l0 k x0 x7 x8 (wrap64 (x9 + 1)))) else (utf_within.l0 k x0 x7 x8 (wrap64 (x9 + 1)))) else (none)) else (none)) else (some false)
def utf_within.f (k : Nat) (a0 : Int) (l1 : List (S102)) : Option (Bool) := utf_within.l0 k a0 l1 (l1.length : Int) 0
theorem utf_within.mono_l : ∀ k, (∀ y0 y1 y2 y3, LeO (utf_within.l0 k y0 y1 y2 y3) (utf_within.l0 (k + 1) y0 y1 y2 y3))
  | 0 => fun _ _ _ _ r h => by simp [utf_within.l0] at h
  | k + 1 => by
    have ih0 := utf_within.mono_l k
    · intro y0 y1 y2 y3
      unfold utf_within.l0
      repeat' first
      | (with_reducible exact ih0 _ _ _ _)
      | (with_reducible exact LeO.refl _)
      | (with_reducible exact LeO.none _)
      | (with_reducible refine LeO.ite ?_ ?_)
      | (with_reducible refine LeO.bind ?_ (fun _ => ?_))
      | exact ih0 _ _ _ _
      | exact LeO.none _
      | refine LeO.ite ?_ ?_
      | refine LeO.bind ?_ (fun _ => ?_)
theorem utf_within.mono : ∀ a0 a1 k, LeO (utf_within.f k a0 a1) (utf_within.f (k + 1) a0 a1) := by
  intro a0 a1 k
  have ih0 := utf_within.mono_l k
  unfold utf_within.f
  repeat' first
      | (with_reducible exact ih0 _ _ _ _)
      | (with_reducible exact LeO.refl _)
      | (with_reducible exact LeO.none _)
      | (with_reducible refine LeO.ite ?_ ?_)
      | (with_reducible refine LeO.bind ?_ (fun _ => ?_))
      | exact ih0 _ _ _ _
      | exact LeO.none _
      | refine LeO.ite ?_ ?_
      | refine LeO.bind ?_ (fun _ => ?_)
set_option maxHeartbeats 8000000 in
set_option maxRecDepth 100000 in
theorem utf_within.calls (k : Nat) (a0 : Int) (A1 : Option Addr) (c1 : Nat) (l1 : List (S102)) (r : Bool) (w : World) (hr1 : Kd.C k102 w A1 l1.length l1) (hc1 : l1.length ≤ c1) (h : utf_within.f k a0 l1 = some r) :
    Calls Tryd.prog 62 #[.int .i32 a0, .slice A1 l1.length c1] w fun e w' => e = .returned (.bool r) ∧ Below w.heap.size w w' := by
  have hu102 := Tryd.underlying102
  have HR1 := Aside0.mk hr1
  have HC1 := Aside0.mk hc1
  clear hr1 hc1
  have HB := Aside0.mk (Below.refl w.heap.size w)
  have H : (utf_within.l0 k a0 l1 (l1.length : Int) 0) = some r := h
  clear h
  have H' := Aside0.mk H
  clear H
  go_enter Tryd.func62, Tryd.ntmps62
  go_wp2
  go_loopg [9] k (fun kq v9 w' => ∃ (x9_1 : Int), v9 = .int .i64 x9_1 ∧ Aside0 (utf_within.l0 kq a0 l1 (l1.length : Int) x9_1 = some r) ∧ Aside0 (kq ≤ k) ∧ Aside0 (Below w.heap.size w w'))
  case atStart => exact ⟨(0), (by first | rfl | (simp; done) | (simp [*]; done)), H', ⟨Nat.le_refl _⟩, ⟨by repeat (first | (with_reducible first | exact HB.out | apply below_alloc | apply pw_below_drewN | apply below_drew1) | exact HB.out)⟩⟩
  case round =>
    clear H'
    try clear c1
    try clear p2
    obtain ⟨x9_1, rfl, HA, HK1, HB⟩ := hrel
    cases gk with
    | zero => exact absurd HA.out (by simp [utf_within.l0])
    | succ k1 =>
      have H := HA.out
      clear HA
      simp only [utf_within.l0] at H
      by_cases c3 : x9_1 < (l1.length : Int)
      rotate_left 1
      · rw [if_neg c3] at H
        have c3b0 : decide (x9_1 < (l1.length : Int)) = false := decide_eq_false c3
        clear c3
        obtain rfl := Option.some.inj H
        go_wp2
        go_ret
        exact ⟨by first | rfl | (simp [errW_none, errW_some] <;> rfl) | (simp [*, errW_none, errW_some] <;> rfl), by repeat (first | (with_reducible first | exact HB.out | apply below_alloc | apply pw_below_drewN | apply below_drew1) | exact HB.out)⟩

      rw [if_pos c3] at H
      have c3b0 : decide (x9_1 < (l1.length : Int)) = true := decide_eq_true c3
      clear c3
      by_cases c4 : 0 ≤ x9_1
      rotate_left 1
      · rw [if_neg c4] at H
        exact absurd H (by simp)
      rw [if_pos c4] at H
      have c4b0 : decide (0 ≤ x9_1) = true := decide_eq_true c4
      clear c4
      by_cases c5 : x9_1 < (l1.length : Int)
      rotate_left 1
      · rw [if_neg c5] at H
        exact absurd H (by simp)
      rw [if_pos c5] at H
      have c5b0 : decide (x9_1 < (l1.length : Int)) = true := decide_eq_true c5
      clear c5
      by_cases c6 : a0 ≥ ((rd_T102 l1 x9_1).f0)
      · rw [if_pos c6] at H
        have c6b0 : decide (((rd_T102 l1 x9_1).f0) ≤ a0) = true := decide_eq_true c6
        clear c6
        by_cases c7 : a0 ≤ ((rd_T102 l1 x9_1).f1)
        · rw [if_pos c7] at H
          have c7b0 : decide (a0 ≤ ((rd_T102 l1 x9_1).f1)) = true := decide_eq_true c7
          clear c7
          obtain rfl := Option.some.inj H
          have p106 : 0 ≤ (x9_1 : Int) := of_decide_eq_true (by first | (with_reducible assumption) | assumption)
          have q106 : x9_1 < (l1.length : Int) := of_decide_eq_true (by first | (with_reducible assumption) | assumption)
          obtain ⟨ad106, e106, hx106_0, hx106_1⟩ := at_T102 HR1.out x9_1 p106 q106
          cases e106
          replace hx106_0 := (HB.out.cell (World.block_lt_of_cell? w _ hx106_0)).trans hx106_0
          replace hx106_1 := (HB.out.cell (World.block_lt_of_cell? w _ hx106_1)).trans hx106_1
          replace p106 := eq_true p106
          replace q106 := eq_true q106
          go_wp2_with (first | ((with_reducible refine gate_dst (N := 6) rfl ?_); refine box_event ?hg (N := 6) ?hd (cs := #[.int .i32 0, .int .i32 0]) (t := 102) ?hr ?_; (case hd => rfl); (case hg => rfl); (case hr => first | (go_simp; done) | (go_simp; rfl)); intro gb107 hg w8 hbox hb; have n0_ := Aside0.mk (below_step (by repeat (first | (with_reducible first | exact HB.out | apply below_alloc | apply pw_below_drewN | apply below_drew1) | exact HB.out)) hb); have n1_ := Aside0.mk (hbox); have n2_ := Aside0.mk ((by rw [hg]; exact (below_size (by repeat (first | (with_reducible first | exact HB.out | apply below_alloc | apply pw_below_drewN | apply below_drew1) | exact HB.out))) : w.heap.size ≤ gb107)); have n3_ := Aside0.mk ((by rw [hg]; exact (below_size (by repeat (first | (with_reducible first | exact HB.out | apply below_alloc | apply pw_below_drewN | apply below_drew1) | exact HB.out))) : w.heap.size ≤ gb107)); clear HB; have HB := n0_; have BK107 := n1_; have GW107 := n2_; have GE107 := n3_; clear n0_ n1_ n2_ n3_; clear hb hbox hg; have hcz9_0 : w8.cell? ⟨gb107, 0, none⟩ = some (.int .i32 0) := (blk_cell BK107.out 0).trans rfl; have hcz9_1 : w8.cell? ⟨gb107, 1, none⟩ = some (.int .i32 0) := (blk_cell BK107.out 1).trans rfl; have hfz9_0 := blk_frozen BK107.out 0; have hfz9_1 := blk_frozen BK107.out 1))
          go_ret
          exact ⟨by first | rfl | (simp [errW_none, errW_some] <;> rfl) | (simp [*, errW_none, errW_some] <;> rfl), by repeat (first | (with_reducible first | exact HB.out | apply below_alloc | apply pw_below_drewN | apply below_drew1 | refine below_set ?_ GE107.out) | exact HB.out)⟩
        · rw [if_neg c7] at H
          have c7b0 : decide (a0 ≤ ((rd_T102 l1 x9_1).f1)) = false := decide_eq_false c7
          clear c7
          have H' := Aside0.mk H
          clear H
          have p106 : 0 ≤ (x9_1 : Int) := of_decide_eq_true (by first | (with_reducible assumption) | assumption)
          have q106 : x9_1 < (l1.length : Int) := of_decide_eq_true (by first | (with_reducible assumption) | assumption)
          obtain ⟨ad106, e106, hx106_0, hx106_1⟩ := at_T102 HR1.out x9_1 p106 q106
          cases e106
          replace hx106_0 := (HB.out.cell (World.block_lt_of_cell? w _ hx106_0)).trans hx106_0
          replace hx106_1 := (HB.out.cell (World.block_lt_of_cell? w _ hx106_1)).trans hx106_1
          replace p106 := eq_true p106
          replace q106 := eq_true q106
          go_wp2_with (first | ((with_reducible refine gate_dst (N := 6) rfl ?_); refine box_event ?hg (N := 6) ?hd (cs := #[.int .i32 0, .int .i32 0]) (t := 102) ?hr ?_; (case hd => rfl); (case hg => rfl); (case hr => first | (go_simp; done) | (go_simp; rfl)); intro gb107 hg w10 hbox hb; have n0_ := Aside0.mk (below_step (by repeat (first | (with_reducible first | exact HB.out | apply below_alloc | apply pw_below_drewN | apply below_drew1) | exact HB.out)) hb); have n1_ := Aside0.mk (hbox); have n2_ := Aside0.mk ((by rw [hg]; exact (below_size (by repeat (first | (with_reducible first | exact HB.out | apply below_alloc | apply pw_below_drewN | apply below_drew1) | exact HB.out))) : w.heap.size ≤ gb107)); have n3_ := Aside0.mk ((by rw [hg]; exact (below_size (by repeat (first | (with_reducible first | exact HB.out | apply below_alloc | apply pw_below_drewN | apply below_drew1) | exact HB.out))) : w.heap.size ≤ gb107)); clear HB; have HB := n0_; have BK107 := n1_; have GW107 := n2_; have GE107 := n3_; clear n0_ n1_ n2_ n3_; clear hb hbox hg; have hcz11_0 : w10.cell? ⟨gb107, 0, none⟩ = some (.int .i32 0) := (blk_cell BK107.out 0).trans rfl; have hcz11_1 : w10.cell? ⟨gb107, 1, none⟩ = some (.int .i32 0) := (blk_cell BK107.out 1).trans rfl; have hfz11_0 := blk_frozen BK107.out 0; have hfz11_1 := blk_frozen BK107.out 1))
          go_roundg k1
          case measure => have := HK1.out; omega
          case rel => exact ⟨(wrap64 (x9_1 + 1)), (by first | rfl | (simp; done) | (simp [*]; done)), H', ⟨by have := HK1.out; omega⟩, ⟨by repeat (first | (with_reducible first | exact HB.out | apply below_alloc | apply pw_below_drewN | apply below_drew1 | refine below_set ?_ GE107.out) | exact HB.out)⟩⟩
      · rw [if_neg c6] at H
        have c6b0 : decide (((rd_T102 l1 x9_1).f0) ≤ a0) = false := decide_eq_false c6
        clear c6
        have H' := Aside0.mk H
        clear H
        have p106 : 0 ≤ (x9_1 : Int) := of_decide_eq_true (by first | (with_reducible assumption) | assumption)
        have q106 : x9_1 < (l1.length : Int) := of_decide_eq_true (by first | (with_reducible assumption) | assumption)
        obtain ⟨ad106, e106, hx106_0, hx106_1⟩ := at_T102 HR1.out x9_1 p106 q106
        cases e106
        replace hx106_0 := (HB.out.cell (World.block_lt_of_cell? w _ hx106_0)).trans hx106_0
        replace hx106_1 := (HB.out.cell (World.block_lt_of_cell? w _ hx106_1)).trans hx106_1
        replace p106 := eq_true p106
        replace q106 := eq_true q106
        go_wp2_with (first | ((with_reducible refine gate_dst (N := 6) rfl ?_); refine box_event ?hg (N := 6) ?hd (cs := #[.int .i32 0, .int .i32 0]) (t := 102) ?hr ?_; (case hd => rfl); (case hg => rfl); (case hr => first | (go_simp; done) | (go_simp; rfl)); intro gb107 hg w12 hbox hb; have n0_ := Aside0.mk (below_step (by repeat (first | (with_reducible first | exact HB.out | apply below_alloc | apply pw_below_drewN | apply below_drew1) | exact HB.out)) hb); have n1_ := Aside0.mk (hbox); have n2_ := Aside0.mk ((by rw [hg]; exact (below_size (by repeat (first | (with_reducible first | exact HB.out | apply below_alloc | apply pw_below_drewN | apply below_drew1) | exact HB.out))) : w.heap.size ≤ gb107)); have n3_ := Aside0.mk ((by rw [hg]; exact (below_size (by repeat (first | (with_reducible first | exact HB.out | apply below_alloc | apply pw_below_drewN | apply below_drew1) | exact HB.out))) : w.heap.size ≤ gb107)); clear HB; have HB := n0_; have BK107 := n1_; have GW107 := n2_; have GE107 := n3_; clear n0_ n1_ n2_ n3_; clear hb hbox hg; have hcz13_0 : w12.cell? ⟨gb107, 0, none⟩ = some (.int .i32 0) := (blk_cell BK107.out 0).trans rfl; have hcz13_1 : w12.cell? ⟨gb107, 1, none⟩ = some (.int .i32 0) := (blk_cell BK107.out 1).trans rfl; have hfz13_0 := blk_frozen BK107.out 0; have hfz13_1 := blk_frozen BK107.out 1))
        go_roundg k1
        case measure => have := HK1.out; omega
        case rel => exact ⟨(wrap64 (x9_1 + 1)), (by first | rfl | (simp; done) | (simp [*]; done)), H', ⟨by have := HK1.out; omega⟩, ⟨by repeat (first | (with_reducible first | exact HB.out | apply below_alloc | apply pw_below_drewN | apply below_drew1 | refine below_set ?_ GE107.out) | exact HB.out)⟩⟩
/-! ### utf_Char: function 29 -/
def utf_Char.f (k : Nat) (a0 : Int) : Option (Bool) := (utf_within.f k a0 (([(⟨9, 10⟩ : S102), (⟨13, 13⟩ : S102), (⟨32, 55295⟩ : S102), (⟨57344, 65533⟩ : S102), (⟨65536, 1114111⟩ : S102)] : List (S102)))).bind fun t111 => (some t111)
theorem utf_Char.mono : ∀ a0 k, LeO (utf_Char.f k a0) (utf_Char.f (k + 1) a0) := by
  intro a0 k
  unfold utf_Char.f
  repeat' first
      | (with_reducible exact utf_within.mono _ _ _)
      | (with_reducible exact LeO.refl _)
      | (with_reducible exact LeO.none _)
      | (with_reducible refine LeO.ite ?_ ?_)
      | (with_reducible refine LeO.bind ?_ (fun _ => ?_))
      | exact utf_within.mono _ _ _
      | exact LeO.none _
      | refine LeO.ite ?_ ?_
      | refine LeO.bind ?_ (fun _ => ?_)
set_option maxHeartbeats 8000000 in
set_option maxRecDepth 100000 in
theorem utf_Char.calls (k : Nat) (a0 : Int) (r : Bool) (w : World) (h : utf_Char.f k a0 = some r) :
    Calls Tryd.prog 29 #[.int .i32 a0] w fun e w' => e = .returned (.bool r) ∧ Below w.heap.size w w' := by
  have hu102 := Tryd.underlying102
  have HB := Aside0.mk (Below.refl w.heap.size w)
  have H : ((utf_within.f k a0 (([(⟨9, 10⟩ : S102), (⟨13, 13⟩ : S102), (⟨32, 55295⟩ : S102), (⟨57344, 65533⟩ : S102), (⟨65536, 1114111⟩ : S102)] : List (S102)))).bind fun t111 => (some t111)) = some r := h
  clear h
  obtain ⟨y108, hy108⟩ : ∃ y_ : List (S102), y_ = (([(⟨9, 10⟩ : S102), (⟨13, 13⟩ : S102), (⟨32, 55295⟩ : S102), (⟨57344, 65533⟩ : S102), (⟨65536, 1114111⟩ : S102)] : List (S102))) := ⟨_, rfl⟩
  replace H : ((utf_within.f k a0 y108).bind fun t111 => (some t111)) = some r := by first | (rw [hy108]; with_reducible exact H) | (have H2_ := (Option.bind_some _ _).symm.trans H; rw [hy108]; with_reducible exact H2_) | (have H2_ := (Option.bind_some _ _).symm.trans H; with_reducible exact H2_) | with_reducible exact H | (rw [hy108]; exact H) | exact H
  have Ny108 := Aside0.mk hy108
  clear hy108
  replace H := Option.bind_eq_some_iff.mp H
  obtain ⟨t111, A20, H⟩ := H
  replace H : (some t111) = some r := H
  have A2 := Aside0.mk A20
  clear A20
  obtain rfl := Option.some.inj H
  go_enter Tryd.func29, Tryd.ntmps29
  go_wp2_with (first | ((with_reducible refine gate_dst (N := 9) rfl ?_); refine Kd.R_lit k102 _ 102 ?hg (N := 9) ?hd (xs := ([(⟨9, 10⟩ : S102), (⟨13, 13⟩ : S102), (⟨32, 55295⟩ : S102), (⟨57344, 65533⟩ : S102), (⟨65536, 1114111⟩ : S102)] : List (S102))) (inner := [.int .i32 9, .int .i32 10, .int .i32 13, .int .i32 13, .int .i32 32, .int .i32 55295, .int .i32 57344, .int .i32 65533, .int .i32 65536, .int .i32 1114111]) (ok := fun _ => True) (okp := fun _ => True) ?hr ?hp (fun _ hk => hk) trivial (Below.refl _ _) (Nat.le_refl _) (by simp) ?_; (case hd => rfl); (case hg => rfl); (case hr => first | (go_simp; done) | (go_simp; rfl)); (case hp => exact (Reps.c2 (show Kd.M k102 _ _ _ (⟨9, 10⟩ : S102) [.int .i32 9, .int .i32 10] from (k102_mkM _ _ _ (⟨9, 10⟩ : S102) )) (Reps.c2 (show Kd.M k102 _ _ _ (⟨13, 13⟩ : S102) [.int .i32 13, .int .i32 13] from (k102_mkM _ _ _ (⟨13, 13⟩ : S102) )) (Reps.c2 (show Kd.M k102 _ _ _ (⟨32, 55295⟩ : S102) [.int .i32 32, .int .i32 55295] from (k102_mkM _ _ _ (⟨32, 55295⟩ : S102) )) (Reps.c2 (show Kd.M k102 _ _ _ (⟨57344, 65533⟩ : S102) [.int .i32 57344, .int .i32 65533] from (k102_mkM _ _ _ (⟨57344, 65533⟩ : S102) )) (Reps.c2 (show Kd.M k102 _ _ _ (⟨65536, 1114111⟩ : S102) [.int .i32 65536, .int .i32 1114111] from (k102_mkM _ _ _ (⟨65536, 1114111⟩ : S102) )) (Reps.none _ _))))))); intro v109 w3 ho4 hb hg_ hnew_; clear hg_ hnew_; (first | rw [← Ny108.out] at ho4 | (simp only [Int.reduceToNat] at ho4; rw [← Ny108.out] at ho4)); have n0_ := Aside0.mk (Kd.R_lower ho4 (below_size (by repeat (first | (with_reducible first | exact HB.out | apply below_alloc | apply pw_below_drewN | apply below_drew1) | exact HB.out)))); have n1_ := Aside0.mk (below_step (by repeat (first | (with_reducible first | exact HB.out | apply below_alloc | apply pw_below_drewN | apply below_drew1) | exact HB.out)) hb); clear HB; have HO110 := n0_; have HB := n1_; clear n0_ n1_; clear hb ho4; obtain ⟨Ao5, co5, eo5⟩ := Kd.R_slice HO110.out; subst eo5) | ((with_reducible refine gate_callee (f := 62) rfl ?_); refine goesL_ (some 10) rfl rfl Tryd.func62 (by kernel_rfl) rfl #[.int .i32 a0, .slice Ao5 y108.length co5] rfl (by (try simp only [List.map_toArray, List.map_cons, List.map_nil]); first | done | rfl | (simp only [List.length_drop, List.length_take]; rfl) | (simp only [ByteArray.size_extract]; rfl)) ?_; (with_reducible refine (utf_within.calls k a0 _ _ y108 t111 _ ?side1 ?side2 A2.out).mono ?_); (case side1 => repeat (first | exact (Kd.R_reads' HO110.out).2.2 | (with_reducible refine Kd.C_alloc ?_ _) | (with_reducible refine Kd.C_drewN ?_ _) | (with_reducible refine Kd.C_drew ?_))); (case side2 => exact (Kd.R_reads' HO110.out).2.1); rintro e w6 ⟨rfl, hb⟩; refine ⟨_, rfl, ?_⟩; have n0_ := Aside0.mk (Kd.R_below (by (with_reducible repeat (first | apply Kd.R_alloc | apply Kd.R_drewN | apply Kd.R_drew)); exact HO110.out) hb); have n1_ := Aside0.mk (below_step (by repeat (first | (with_reducible first | exact HB.out | apply below_alloc | apply pw_below_drewN | apply below_drew1) | exact HB.out)) hb); clear HO110; clear HB; have HO110 := n0_; have HB := n1_; clear n0_ n1_; (try clear hb); (try clear hb2); (try clear hk); (try clear hi)))
  go_ret
  exact ⟨by first | rfl | (simp [errW_none, errW_some] <;> rfl) | (simp [*, errW_none, errW_some] <;> rfl), by repeat (first | (with_reducible first | exact HB.out | apply below_alloc | apply pw_below_drewN | apply below_drew1) | exact HB.out)⟩

/-! ### utf_scalar: function 64 -/
def utf_scalar.f (a0 : Int) : Option (Bool) := if a0 ≥ 0 then (if a0 < 55296 then (some true) else (if a0 ≥ 57344 then (some (decide (a0 ≤ 1114111))) else (some false))) else (if a0 ≥ 57344 then (some (decide (a0 ≤ 1114111))) else (some false))
set_option maxHeartbeats 8000000 in
set_option maxRecDepth 100000 in
theorem utf_scalar.calls (a0 : Int) (r : Bool) (w : World) (h : utf_scalar.f a0 = some r) :
    Calls Tryd.prog 64 #[.int .i32 a0] w fun e w' => e = .returned (.bool r) ∧ Drawn0 w w' := by
  have H : (if a0 ≥ 0 then (if a0 < 55296 then (some true) else (if a0 ≥ 57344 then (some (decide (a0 ≤ 1114111))) else (some false))) else (if a0 ≥ 57344 then (some (decide (a0 ≤ 1114111))) else (some false))) = some r := h
  clear h
  by_cases c2 : a0 ≥ 0
  · rw [if_pos c2] at H
    have c2b0 : decide (0 ≤ a0) = true := decide_eq_true c2
    clear c2
    by_cases c3 : a0 < 55296
    · rw [if_pos c3] at H
      have c3b0 : decide (a0 < 55296) = true := decide_eq_true c3
      clear c3
      obtain rfl := Option.some.inj H
      go_enter Tryd.func64, Tryd.ntmps64
      go_wp2
      go_ret
      exact ⟨by first | rfl | (simp; done) | (simp [*]; done), by repeat (first | exact Drawn0.refl _ | apply Drawn0.step)⟩
    rw [if_neg c3] at H
    have c3b0 : decide (a0 < 55296) = false := decide_eq_false c3
    clear c3
    by_cases c4 : a0 ≥ 57344
    rotate_left 1
    · rw [if_neg c4] at H
      have c4b0 : decide (57344 ≤ a0) = false := decide_eq_false c4
      clear c4
      obtain rfl := Option.some.inj H
      go_enter Tryd.func64, Tryd.ntmps64
      go_wp2
      go_ret
      exact ⟨by first | rfl | (simp; done) | (simp [*]; done), by repeat (first | exact Drawn0.refl _ | apply Drawn0.step)⟩
    rw [if_pos c4] at H
    have c4b0 : decide (57344 ≤ a0) = true := decide_eq_true c4
    clear c4
    obtain rfl := Option.some.inj H
    go_enter Tryd.func64, Tryd.ntmps64
    go_wp2
    go_ret
    exact ⟨by first | rfl | (simp; done) | (simp [*]; done), by repeat (first | exact Drawn0.refl _ | apply Drawn0.step)⟩
  · rw [if_neg c2] at H
    have c2b0 : decide (0 ≤ a0) = false := decide_eq_false c2
    clear c2
    by_cases c5 : a0 ≥ 57344
    · rw [if_pos c5] at H
      have c5b0 : decide (57344 ≤ a0) = true := decide_eq_true c5
      clear c5
      obtain rfl := Option.some.inj H
      go_enter Tryd.func64, Tryd.ntmps64
      go_wp2
      go_ret
      exact ⟨by first | rfl | (simp; done) | (simp [*]; done), by repeat (first | exact Drawn0.refl _ | apply Drawn0.step)⟩
    rw [if_neg c5] at H
    have c5b0 : decide (57344 ≤ a0) = false := decide_eq_false c5
    clear c5
    obtain rfl := Option.some.inj H
    go_enter Tryd.func64, Tryd.ntmps64
    go_wp2
    go_ret
    exact ⟨by first | rfl | (simp; done) | (simp [*]; done), by repeat (first | exact Drawn0.refl _ | apply Drawn0.step)⟩

/-! ### utf_Put: function 30 -/
/-- the byte of six bits, n from the end -/
def utf_Put_tail (r : Int) : Int := Go.bits .or .u8 (Go.bits .and .i32 r 63 % 256) 128
set_option maxHeartbeats 1000000 in
set_option maxRecDepth 100000 in
theorem utf_Put_tail0 (r : Int) (b : Nat) (w : World) (hc : w.cell? ⟨b, 0, none⟩ = some (.int .i32 r)) (hr0 : 0 ≤ r) (hr1 : r ≤ 1114111) :
    Calls Tryd.prog 63 #[.int .i64 0, .pointer (some ⟨b, 0, none⟩)] w fun e w' => e = .returned (.int .u8 (utf_Put_tail r)) ∧ w' = w := by
  go_enter Tryd.func63, Tryd.ntmps63
  go_wp2
  go_ret
  exact ⟨rfl, rfl⟩
set_option maxHeartbeats 1000000 in
set_option maxRecDepth 100000 in
theorem utf_Put_tail1 (r : Int) (b : Nat) (w : World) (hc : w.cell? ⟨b, 0, none⟩ = some (.int .i32 r)) (hr0 : 0 ≤ r) (hr1 : r ≤ 1114111) :
    Calls Tryd.prog 63 #[.int .i64 1, .pointer (some ⟨b, 0, none⟩)] w fun e w' => e = .returned (.int .u8 (utf_Put_tail (r / 64))) ∧ w' = w := by
  go_enter Tryd.func63, Tryd.ntmps63
  go_wp2
  go_ret
  exact ⟨rfl, rfl⟩
set_option maxHeartbeats 1000000 in
set_option maxRecDepth 100000 in
theorem utf_Put_tail2 (r : Int) (b : Nat) (w : World) (hc : w.cell? ⟨b, 0, none⟩ = some (.int .i32 r)) (hr0 : 0 ≤ r) (hr1 : r ≤ 1114111) :
    Calls Tryd.prog 63 #[.int .i64 2, .pointer (some ⟨b, 0, none⟩)] w fun e w' => e = .returned (.int .u8 (utf_Put_tail (r / 4096))) ∧ w' = w := by
  go_enter Tryd.func63, Tryd.ntmps63
  go_wp2
  go_ret
  exact ⟨rfl, rfl⟩
theorem utf_Put_box (w : World) (v : Value) (T : TypeId) : (w.alloc (.cells #[v] T)).cell? ⟨w.heap.size, 0, none⟩ = some v := (blk_cell (heap_alloc_last w _) 0).trans rfl
theorem utf_Put_conv (W : World) (xs : List Int) (cs : Array Value) (hcs : cs = (xs.map (Value.int .u8)).toArray) : (Go.convert 69 9 (.slice (some ⟨W.heap.size, 0, none⟩) xs.length xs.length)).run Tryd.prog (W.alloc (.cells cs 5)) = .ok (.string (strOfNums xs)) (W.alloc (.cells cs 5)) := by
  refine run_convert_bytes_arg (P := Tryd.prog) (w := W.alloc (.cells cs 5)) 69 5 Tryd.underlying69 Tryd.underlying5 W.heap.size 0 xs.length xs.length xs rfl (fun i hi => ?_) 9 Tryd.underlying9
  rw [Nat.zero_add]
  refine (blk_cell (heap_alloc_last W (.cells cs 5)) i).trans ?_
  subst hcs
  simp [List.getElem?_eq_getElem hi]
/-- the bytes of a sign -/
def utf_Put_bytes (r : Int) : List Int :=
  if r < 128 then [r] else if r < 2048 then [Go.bits .or .u8 (Go.IntKind.u8.wrap (r / 64)) 192, utf_Put_tail r]
  else if r < 65536 then [Go.bits .or .u8 (Go.IntKind.u8.wrap (r / 4096)) 224, utf_Put_tail (r / 64), utf_Put_tail r]
  else [Go.bits .or .u8 (Go.IntKind.u8.wrap (r / 262144)) 240, utf_Put_tail (r / 4096), utf_Put_tail (r / 64), utf_Put_tail r]
def utf_Put.f (a0 : Int) : Option ByteArray := (utf_scalar.f a0).bind fun b => if b = true then (if 0 ≤ a0 ∧ a0 ≤ 1114111 then some (strOfNums (utf_Put_bytes a0)) else none) else some ⟨#[]⟩
set_option maxHeartbeats 2000000 in
set_option maxRecDepth 100000 in
theorem utf_Put_c1 (a0 : Int) (w : World) (hs : utf_scalar.f a0 = some true) (hb0 : 0 ≤ a0) (hb1 : a0 ≤ 1114111) (h1 : a0 < 128) :
    Calls Tryd.prog 30 #[.int .i32 a0] w fun e w' => e = .returned (.string (strOfNums [a0])) ∧ Below w.heap.size w w' := by
  have HS := Aside0.mk hs
  clear hs
  have d1 : decide (a0 < 128) = true := decide_eq_true h1
  have hmf : ∀ (fn : Fn) (first cap : Array Value) (W : World), (Instr.makeFunc fn first cap).run Tryd.prog W = .ok (.func fn first cap) W := fun _ _ _ _ => rfl
  have hcv : ∀ nd : Nat, (Go.convert 69 9 (.slice (some ⟨w.heap.size + 1, 0, none⟩) 1 1)).run Tryd.prog (((w.alloc (.cells #[.int .i32 a0] 21)).drewN nd).alloc (.cells #[.int .u8 (a0)] 5)) = .ok (.string (strOfNums [a0])) (((w.alloc (.cells #[.int .i32 a0] 21)).drewN nd).alloc (.cells #[.int .u8 (a0)] 5)) := fun nd => by
    have := utf_Put_conv ((w.alloc (.cells #[.int .i32 a0] 21)).drewN nd) [a0] #[.int .u8 (a0)] rfl
    have e : ((w.alloc (.cells #[.int .i32 a0] 21)).drewN nd).heap.size = w.heap.size + 1 := by
      show (w.heap.push _).size = _
      simp
    rw [e] at this
    exact this
  go_enter Tryd.func30, Tryd.ntmps30
  go_wp2_with (go_at_call 64; refine (utf_scalar.calls a0 true _ HS.out).mono ?_; rintro e w' ⟨rfl, ⟨nd, rfl⟩⟩)
  all_goals go_ret
  all_goals exact ⟨rfl, by repeat (first | exact Below.refl _ _ | (with_reducible first | apply below_alloc | apply pw_below_drewN | apply below_drew1))⟩
set_option maxHeartbeats 2000000 in
set_option maxRecDepth 100000 in
theorem utf_Put_c2 (a0 : Int) (w : World) (hs : utf_scalar.f a0 = some true) (hb0 : 0 ≤ a0) (hb1 : a0 ≤ 1114111) (h1 : ¬ a0 < 128) (h2 : a0 < 2048) :
    Calls Tryd.prog 30 #[.int .i32 a0] w fun e w' => e = .returned (.string (strOfNums [Go.bits .or .u8 (Go.IntKind.u8.wrap (a0 / 64)) 192, utf_Put_tail a0])) ∧ Below w.heap.size w w' := by
  have HS := Aside0.mk hs
  clear hs
  have d1 : decide (a0 < 128) = false := decide_eq_false h1
  have d2 : decide (a0 < 2048) = true := decide_eq_true h2
  have hmf : ∀ (fn : Fn) (first cap : Array Value) (W : World), (Instr.makeFunc fn first cap).run Tryd.prog W = .ok (.func fn first cap) W := fun _ _ _ _ => rfl
  have hcv : ∀ nd : Nat, (Go.convert 69 9 (.slice (some ⟨w.heap.size + 1, 0, none⟩) 2 2)).run Tryd.prog (((w.alloc (.cells #[.int .i32 a0] 21)).drewN nd).alloc (.cells #[.int .u8 (Go.bits .or .u8 (Go.IntKind.u8.wrap (a0 / 64)) 192), .int .u8 (utf_Put_tail a0)] 5)) = .ok (.string (strOfNums [Go.bits .or .u8 (Go.IntKind.u8.wrap (a0 / 64)) 192, utf_Put_tail a0])) (((w.alloc (.cells #[.int .i32 a0] 21)).drewN nd).alloc (.cells #[.int .u8 (Go.bits .or .u8 (Go.IntKind.u8.wrap (a0 / 64)) 192), .int .u8 (utf_Put_tail a0)] 5)) := fun nd => by
    have := utf_Put_conv ((w.alloc (.cells #[.int .i32 a0] 21)).drewN nd) [Go.bits .or .u8 (Go.IntKind.u8.wrap (a0 / 64)) 192, utf_Put_tail a0] #[.int .u8 (Go.bits .or .u8 (Go.IntKind.u8.wrap (a0 / 64)) 192), .int .u8 (utf_Put_tail a0)] rfl
    have e : ((w.alloc (.cells #[.int .i32 a0] 21)).drewN nd).heap.size = w.heap.size + 1 := by
      show (w.heap.push _).size = _
      simp
    rw [e] at this
    exact this
  have ht0 := Aside0.mk (show ∀ nd : Nat, Calls Tryd.prog 63 #[.int .i64 0, .pointer (some ⟨w.heap.size, 0, none⟩)] ((w.alloc (.cells #[.int .i32 a0] 21)).drewN nd) fun e w' => e = .returned (.int .u8 (utf_Put_tail a0)) ∧ w' = ((w.alloc (.cells #[.int .i32 a0] 21)).drewN nd) from fun nd => utf_Put_tail0 a0 w.heap.size _ (utf_Put_box w _ 21) hb0 hb1)
  go_enter Tryd.func30, Tryd.ntmps30
  go_wp2_with (go_at_call 64; refine (utf_scalar.calls a0 true _ HS.out).mono ?_; rintro e w' ⟨rfl, ⟨nd, rfl⟩⟩)
  go_region_with (first | (go_at_call 63; (with_reducible refine (ht0.out _).mono ?_); rintro e w' ⟨rfl, rfl⟩))
  all_goals go_wp2
  all_goals go_ret
  all_goals exact ⟨rfl, by repeat (first | exact Below.refl _ _ | (with_reducible first | apply below_alloc | apply pw_below_drewN | apply below_drew1))⟩
set_option maxHeartbeats 2000000 in
set_option maxRecDepth 100000 in
theorem utf_Put_c3 (a0 : Int) (w : World) (hs : utf_scalar.f a0 = some true) (hb0 : 0 ≤ a0) (hb1 : a0 ≤ 1114111) (h1 : ¬ a0 < 128) (h2 : ¬ a0 < 2048) (h3 : a0 < 65536) :
    Calls Tryd.prog 30 #[.int .i32 a0] w fun e w' => e = .returned (.string (strOfNums [Go.bits .or .u8 (Go.IntKind.u8.wrap (a0 / 4096)) 224, utf_Put_tail (a0 / 64), utf_Put_tail a0])) ∧ Below w.heap.size w w' := by
  have HS := Aside0.mk hs
  clear hs
  have d1 : decide (a0 < 128) = false := decide_eq_false h1
  have d2 : decide (a0 < 2048) = false := decide_eq_false h2
  have d3 : decide (a0 < 65536) = true := decide_eq_true h3
  have hmf : ∀ (fn : Fn) (first cap : Array Value) (W : World), (Instr.makeFunc fn first cap).run Tryd.prog W = .ok (.func fn first cap) W := fun _ _ _ _ => rfl
  have hcv : ∀ nd : Nat, (Go.convert 69 9 (.slice (some ⟨w.heap.size + 1, 0, none⟩) 3 3)).run Tryd.prog (((w.alloc (.cells #[.int .i32 a0] 21)).drewN nd).alloc (.cells #[.int .u8 (Go.bits .or .u8 (Go.IntKind.u8.wrap (a0 / 4096)) 224), .int .u8 (utf_Put_tail (a0 / 64)), .int .u8 (utf_Put_tail a0)] 5)) = .ok (.string (strOfNums [Go.bits .or .u8 (Go.IntKind.u8.wrap (a0 / 4096)) 224, utf_Put_tail (a0 / 64), utf_Put_tail a0])) (((w.alloc (.cells #[.int .i32 a0] 21)).drewN nd).alloc (.cells #[.int .u8 (Go.bits .or .u8 (Go.IntKind.u8.wrap (a0 / 4096)) 224), .int .u8 (utf_Put_tail (a0 / 64)), .int .u8 (utf_Put_tail a0)] 5)) := fun nd => by
    have := utf_Put_conv ((w.alloc (.cells #[.int .i32 a0] 21)).drewN nd) [Go.bits .or .u8 (Go.IntKind.u8.wrap (a0 / 4096)) 224, utf_Put_tail (a0 / 64), utf_Put_tail a0] #[.int .u8 (Go.bits .or .u8 (Go.IntKind.u8.wrap (a0 / 4096)) 224), .int .u8 (utf_Put_tail (a0 / 64)), .int .u8 (utf_Put_tail a0)] rfl
    have e : ((w.alloc (.cells #[.int .i32 a0] 21)).drewN nd).heap.size = w.heap.size + 1 := by
      show (w.heap.push _).size = _
      simp
    rw [e] at this
    exact this
  have ht1 := Aside0.mk (show ∀ nd : Nat, Calls Tryd.prog 63 #[.int .i64 1, .pointer (some ⟨w.heap.size, 0, none⟩)] ((w.alloc (.cells #[.int .i32 a0] 21)).drewN nd) fun e w' => e = .returned (.int .u8 (utf_Put_tail (a0 / 64))) ∧ w' = ((w.alloc (.cells #[.int .i32 a0] 21)).drewN nd) from fun nd => utf_Put_tail1 a0 w.heap.size _ (utf_Put_box w _ 21) hb0 hb1)
  have ht0 := Aside0.mk (show ∀ nd : Nat, Calls Tryd.prog 63 #[.int .i64 0, .pointer (some ⟨w.heap.size, 0, none⟩)] ((w.alloc (.cells #[.int .i32 a0] 21)).drewN nd) fun e w' => e = .returned (.int .u8 (utf_Put_tail a0)) ∧ w' = ((w.alloc (.cells #[.int .i32 a0] 21)).drewN nd) from fun nd => utf_Put_tail0 a0 w.heap.size _ (utf_Put_box w _ 21) hb0 hb1)
  go_enter Tryd.func30, Tryd.ntmps30
  go_wp2_with (go_at_call 64; refine (utf_scalar.calls a0 true _ HS.out).mono ?_; rintro e w' ⟨rfl, ⟨nd, rfl⟩⟩)
  go_region_with (first | (go_at_call 63; (with_reducible refine (ht1.out _).mono ?_); rintro e w' ⟨rfl, rfl⟩) | (go_at_call 63; (with_reducible refine (ht0.out _).mono ?_); rintro e w' ⟨rfl, rfl⟩))
  all_goals go_wp2
  all_goals go_ret
  all_goals exact ⟨rfl, by repeat (first | exact Below.refl _ _ | (with_reducible first | apply below_alloc | apply pw_below_drewN | apply below_drew1))⟩
set_option maxHeartbeats 2000000 in
set_option maxRecDepth 100000 in
theorem utf_Put_c4 (a0 : Int) (w : World) (hs : utf_scalar.f a0 = some true) (hb0 : 0 ≤ a0) (hb1 : a0 ≤ 1114111) (h1 : ¬ a0 < 128) (h2 : ¬ a0 < 2048) (h3 : ¬ a0 < 65536) :
    Calls Tryd.prog 30 #[.int .i32 a0] w fun e w' => e = .returned (.string (strOfNums [Go.bits .or .u8 (Go.IntKind.u8.wrap (a0 / 262144)) 240, utf_Put_tail (a0 / 4096), utf_Put_tail (a0 / 64), utf_Put_tail a0])) ∧ Below w.heap.size w w' := by
  have HS := Aside0.mk hs
  clear hs
  have d1 : decide (a0 < 128) = false := decide_eq_false h1
  have d2 : decide (a0 < 2048) = false := decide_eq_false h2
  have d3 : decide (a0 < 65536) = false := decide_eq_false h3
  have hmf : ∀ (fn : Fn) (first cap : Array Value) (W : World), (Instr.makeFunc fn first cap).run Tryd.prog W = .ok (.func fn first cap) W := fun _ _ _ _ => rfl
  have hcv : ∀ nd : Nat, (Go.convert 69 9 (.slice (some ⟨w.heap.size + 1, 0, none⟩) 4 4)).run Tryd.prog (((w.alloc (.cells #[.int .i32 a0] 21)).drewN nd).alloc (.cells #[.int .u8 (Go.bits .or .u8 (Go.IntKind.u8.wrap (a0 / 262144)) 240), .int .u8 (utf_Put_tail (a0 / 4096)), .int .u8 (utf_Put_tail (a0 / 64)), .int .u8 (utf_Put_tail a0)] 5)) = .ok (.string (strOfNums [Go.bits .or .u8 (Go.IntKind.u8.wrap (a0 / 262144)) 240, utf_Put_tail (a0 / 4096), utf_Put_tail (a0 / 64), utf_Put_tail a0])) (((w.alloc (.cells #[.int .i32 a0] 21)).drewN nd).alloc (.cells #[.int .u8 (Go.bits .or .u8 (Go.IntKind.u8.wrap (a0 / 262144)) 240), .int .u8 (utf_Put_tail (a0 / 4096)), .int .u8 (utf_Put_tail (a0 / 64)), .int .u8 (utf_Put_tail a0)] 5)) := fun nd => by
    have := utf_Put_conv ((w.alloc (.cells #[.int .i32 a0] 21)).drewN nd) [Go.bits .or .u8 (Go.IntKind.u8.wrap (a0 / 262144)) 240, utf_Put_tail (a0 / 4096), utf_Put_tail (a0 / 64), utf_Put_tail a0] #[.int .u8 (Go.bits .or .u8 (Go.IntKind.u8.wrap (a0 / 262144)) 240), .int .u8 (utf_Put_tail (a0 / 4096)), .int .u8 (utf_Put_tail (a0 / 64)), .int .u8 (utf_Put_tail a0)] rfl
    have e : ((w.alloc (.cells #[.int .i32 a0] 21)).drewN nd).heap.size = w.heap.size + 1 := by
      show (w.heap.push _).size = _
      simp
    rw [e] at this
    exact this
  have ht2 := Aside0.mk (show ∀ nd : Nat, Calls Tryd.prog 63 #[.int .i64 2, .pointer (some ⟨w.heap.size, 0, none⟩)] ((w.alloc (.cells #[.int .i32 a0] 21)).drewN nd) fun e w' => e = .returned (.int .u8 (utf_Put_tail (a0 / 4096))) ∧ w' = ((w.alloc (.cells #[.int .i32 a0] 21)).drewN nd) from fun nd => utf_Put_tail2 a0 w.heap.size _ (utf_Put_box w _ 21) hb0 hb1)
  have ht1 := Aside0.mk (show ∀ nd : Nat, Calls Tryd.prog 63 #[.int .i64 1, .pointer (some ⟨w.heap.size, 0, none⟩)] ((w.alloc (.cells #[.int .i32 a0] 21)).drewN nd) fun e w' => e = .returned (.int .u8 (utf_Put_tail (a0 / 64))) ∧ w' = ((w.alloc (.cells #[.int .i32 a0] 21)).drewN nd) from fun nd => utf_Put_tail1 a0 w.heap.size _ (utf_Put_box w _ 21) hb0 hb1)
  have ht0 := Aside0.mk (show ∀ nd : Nat, Calls Tryd.prog 63 #[.int .i64 0, .pointer (some ⟨w.heap.size, 0, none⟩)] ((w.alloc (.cells #[.int .i32 a0] 21)).drewN nd) fun e w' => e = .returned (.int .u8 (utf_Put_tail a0)) ∧ w' = ((w.alloc (.cells #[.int .i32 a0] 21)).drewN nd) from fun nd => utf_Put_tail0 a0 w.heap.size _ (utf_Put_box w _ 21) hb0 hb1)
  go_enter Tryd.func30, Tryd.ntmps30
  go_wp2_with (go_at_call 64; refine (utf_scalar.calls a0 true _ HS.out).mono ?_; rintro e w' ⟨rfl, ⟨nd, rfl⟩⟩)
  go_region_with (first | (go_at_call 63; (with_reducible refine (ht2.out _).mono ?_); rintro e w' ⟨rfl, rfl⟩) | (go_at_call 63; (with_reducible refine (ht1.out _).mono ?_); rintro e w' ⟨rfl, rfl⟩) | (go_at_call 63; (with_reducible refine (ht0.out _).mono ?_); rintro e w' ⟨rfl, rfl⟩))
  all_goals go_wp2
  all_goals go_ret
  all_goals exact ⟨rfl, by repeat (first | exact Below.refl _ _ | (with_reducible first | apply below_alloc | apply pw_below_drewN | apply below_drew1))⟩
theorem utf_Put.calls (a0 : Int) (r : ByteArray) (w : World) (h : utf_Put.f a0 = some r) :
    Calls Tryd.prog 30 #[.int .i32 a0] w fun e w' => e = .returned (.string r) ∧ Below w.heap.size w w' := by
  unfold utf_Put.f at h
  obtain ⟨sb, hsb, h⟩ := Option.bind_eq_some_iff.1 h
  cases sb with
  | false =>
    simp only [Bool.false_eq_true, if_false] at h
    obtain rfl := Option.some.inj h
    have HS := Aside0.mk hsb
    clear hsb
    have hmf : ∀ (fn : Fn) (first cap : Array Value) (W : World), (Instr.makeFunc fn first cap).run Tryd.prog W = .ok (.func fn first cap) W := fun _ _ _ _ => rfl
    go_enter Tryd.func30, Tryd.ntmps30
    go_wp2_with (go_at_call 64; refine (utf_scalar.calls a0 false _ HS.out).mono ?_; rintro e w' ⟨rfl, ⟨nd, rfl⟩⟩)
    go_ret
    exact ⟨rfl, by repeat (first | exact Below.refl _ _ | (with_reducible first | apply below_alloc | apply pw_below_drewN | apply below_drew1))⟩
  | true =>
    simp only [if_true] at h
    split at h
    case isFalse => exact absurd h (by simp)
    rename_i hb
    obtain ⟨hb0, hb1⟩ := hb
    obtain rfl := Option.some.inj h
    unfold utf_Put_bytes
    split
    · rename_i h1; exact utf_Put_c1 a0 w hsb hb0 hb1 h1
    rename_i h1
    split
    · rename_i h2; exact utf_Put_c2 a0 w hsb hb0 hb1 h1 h2
    rename_i h2
    split
    · rename_i h3; exact utf_Put_c3 a0 w hsb hb0 hb1 h1 h2 h3
    rename_i h3
    exact utf_Put_c4 a0 w hsb hb0 hb1 h1 h2 h3

/-! ### stringslite_HasPrefix: function 121 -/
def stringslite_HasPrefix.f (a0 : ByteArray) (a1 : ByteArray) : Option (Bool) := if (a0.size : Int) ≥ (a1.size : Int) then (if 0 ≤ (a1.size : Int) then (if (a1.size : Int) ≤ (a0.size : Int) then (some ((a0.extract 0 ((a1.size : Int) : Int).toNat).toList == a1.toList)) else (none)) else (none)) else (some false)
set_option maxHeartbeats 8000000 in
set_option maxRecDepth 100000 in
theorem stringslite_HasPrefix.calls (a0 : ByteArray) (a1 : ByteArray) (r : Bool) (w : World) (h : stringslite_HasPrefix.f a0 a1 = some r) :
    Calls Tryd.prog 121 #[.string a0, .string a1] w fun e w' => e = .returned (.bool r) ∧ Drawn0 w w' := by
  have H : (if (a0.size : Int) ≥ (a1.size : Int) then (if 0 ≤ (a1.size : Int) then (if (a1.size : Int) ≤ (a0.size : Int) then (some ((a0.extract 0 ((a1.size : Int) : Int).toNat).toList == a1.toList)) else (none)) else (none)) else (some false)) = some r := h
  clear h
  by_cases c3 : (a0.size : Int) ≥ (a1.size : Int)
  rotate_left 1
  · rw [if_neg c3] at H
    have c3b0 : decide ((a1.size : Int) ≤ (a0.size : Int)) = false := decide_eq_false c3
    have c3b1 : decide (a1.size ≤ a0.size) = false := decide_eq_false (fun h => c3 (Int.ofNat_le.mpr h))
    clear c3
    obtain rfl := Option.some.inj H
    go_enter Tryd.func121, Tryd.ntmps121
    go_wp2
    go_ret
    exact ⟨by first | rfl | (simp; done) | (simp [*]; done), by repeat (first | exact Drawn0.refl _ | apply Drawn0.step)⟩

  rw [if_pos c3] at H
  have c3b0 : decide ((a1.size : Int) ≤ (a0.size : Int)) = true := decide_eq_true c3
  have c3b1 : decide (a1.size ≤ a0.size) = true := decide_eq_true (Int.ofNat_le.mp c3)
  clear c3
  by_cases c4 : 0 ≤ (a1.size : Int)
  rotate_left 1
  · rw [if_neg c4] at H
    exact absurd H (by simp)
  rw [if_pos c4] at H
  have c4b0 := eq_true c4
  have c4b1 : decide (0 ≤ (a1.size : Int)) = true := decide_eq_true c4
  clear c4
  by_cases c5 : (a1.size : Int) ≤ (a0.size : Int)
  rotate_left 1
  · rw [if_neg c5] at H
    exact absurd H (by simp)
  rw [if_pos c5] at H
  have c5b0 := eq_true c5
  have c5b1 : decide ((a1.size : Int) ≤ (a0.size : Int)) = true := decide_eq_true c5
  clear c5
  obtain rfl := Option.some.inj H
  go_enter Tryd.func121, Tryd.ntmps121
  go_wp2
  go_ret
  exact ⟨by first | rfl | (simp; done) | (simp [*]; done), by repeat (first | exact Drawn0.refl _ | apply Drawn0.step)⟩
/-! ### stringslite_CutPrefix: function 116 -/
def stringslite_CutPrefix.f (a0 : ByteArray) (a1 : ByteArray) : Option (ByteArray × Bool) := (stringslite_HasPrefix.f a0 a1).bind fun t112 => (if t112 = true then (if 0 ≤ (a1.size : Int) then (if (a1.size : Int) ≤ (a0.size : Int) then (some (a0.extract ((a1.size : Int) : Int).toNat a0.size, true)) else (none)) else (none)) else (some (a0, false)))
set_option maxHeartbeats 8000000 in
set_option maxRecDepth 100000 in
theorem stringslite_CutPrefix.calls (a0 : ByteArray) (a1 : ByteArray) (r1 : ByteArray) (r2 : Bool) (w : World) (h : stringslite_CutPrefix.f a0 a1 = some (r1, r2)) :
    Calls Tryd.prog 116 #[.string a0, .string a1] w fun e w' => e = .returned (.tuple #[.string r1, .bool r2]) ∧ Drawn0 w w' := by
  have H : ((stringslite_HasPrefix.f a0 a1).bind fun t112 => (if t112 = true then (if 0 ≤ (a1.size : Int) then (if (a1.size : Int) ≤ (a0.size : Int) then (some (a0.extract ((a1.size : Int) : Int).toNat a0.size, true)) else (none)) else (none)) else (some (a0, false)))) = some (r1, r2) := h
  clear h
  replace H := Option.bind_eq_some_iff.mp H
  obtain ⟨t112, A30, H⟩ := H
  replace H : (if t112 = true then (if 0 ≤ (a1.size : Int) then (if (a1.size : Int) ≤ (a0.size : Int) then (some (a0.extract ((a1.size : Int) : Int).toNat a0.size, true)) else (none)) else (none)) else (some (a0, false))) = some (r1, r2) := H
  have A3 := Aside0.mk A30
  clear A30
  by_cases c4 : t112 = true
  rotate_left 1
  · replace c4 := Bool.eq_false_iff.mpr c4
    subst c4
    have H1 : (some (a0, false)) = some (r1, r2) := by rw [if_neg (show ¬ (false = true) by decide)] at H; exact H
    clear H
    have H := H1
    clear H1
    simp only [Option.some.injEq, Prod.mk.injEq] at H
    obtain ⟨rfl, rfl⟩ := H
    go_enter Tryd.func116, Tryd.ntmps116
    go_wp2_with (first | ((with_reducible refine gate_callee (f := 121) rfl ?_); refine goesL_ (some 8) rfl rfl Tryd.func121 (by kernel_rfl) rfl #[.string a0, .string a1] rfl (by (try simp only [List.map_toArray, List.map_cons, List.map_nil]); first | done | rfl | (simp only [List.length_drop, List.length_take]; rfl) | (simp only [ByteArray.size_extract]; rfl)) ?_; (with_reducible refine (stringslite_HasPrefix.calls a0 a1 false _ A3.out).mono ?_); rintro e w' ⟨rfl, ⟨nd, rfl⟩⟩; refine ⟨_, rfl, ?_⟩))
    go_ret2
    exact ⟨by first | rfl | (simp; done) | (simp [*]; done), by repeat (first | exact Drawn0.refl _ | apply Drawn0.step)⟩

  subst c4
  have H1 : (if 0 ≤ (a1.size : Int) then (if (a1.size : Int) ≤ (a0.size : Int) then (some (a0.extract ((a1.size : Int) : Int).toNat a0.size, true)) else (none)) else (none)) = some (r1, r2) := by rw [if_pos rfl] at H; exact H
  clear H
  have H := H1
  clear H1
  by_cases c5 : 0 ≤ (a1.size : Int)
  rotate_left 1
  · rw [if_neg c5] at H
    exact absurd H (by simp)
  rw [if_pos c5] at H
  have c5b0 := eq_true c5
  have c5b1 : decide (0 ≤ (a1.size : Int)) = true := decide_eq_true c5
  clear c5
  by_cases c6 : (a1.size : Int) ≤ (a0.size : Int)
  rotate_left 1
  · rw [if_neg c6] at H
    exact absurd H (by simp)
  rw [if_pos c6] at H
  have c6b0 := eq_true c6
  have c6b1 : decide ((a1.size : Int) ≤ (a0.size : Int)) = true := decide_eq_true c6
  clear c6
  simp only [Option.some.injEq, Prod.mk.injEq] at H
  obtain ⟨rfl, rfl⟩ := H
  go_enter Tryd.func116, Tryd.ntmps116
  go_wp2_with (first | ((with_reducible refine gate_callee (f := 121) rfl ?_); refine goesL_ (some 8) rfl rfl Tryd.func121 (by kernel_rfl) rfl #[.string a0, .string a1] rfl (by (try simp only [List.map_toArray, List.map_cons, List.map_nil]); first | done | rfl | (simp only [List.length_drop, List.length_take]; rfl) | (simp only [ByteArray.size_extract]; rfl)) ?_; (with_reducible refine (stringslite_HasPrefix.calls a0 a1 true _ A3.out).mono ?_); rintro e w' ⟨rfl, ⟨nd, rfl⟩⟩; refine ⟨_, rfl, ?_⟩))
  go_ret2
  exact ⟨by first | rfl | (simp; done) | (simp [*]; done), by repeat (first | exact Drawn0.refl _ | apply Drawn0.step)⟩
/-! ### strings_CutPrefix: function 81 -/
def strings_CutPrefix.f (a0 : ByteArray) (a1 : ByteArray) : Option (ByteArray × Bool) := (stringslite_CutPrefix.f a0 a1).bind fun bt113 => (some (bt113.1, bt113.2))
set_option maxHeartbeats 8000000 in
set_option maxRecDepth 100000 in
theorem strings_CutPrefix.calls (a0 : ByteArray) (a1 : ByteArray) (r1 : ByteArray) (r2 : Bool) (w : World) (h : strings_CutPrefix.f a0 a1 = some (r1, r2)) :
    Calls Tryd.prog 81 #[.string a0, .string a1] w fun e w' => e = .returned (.tuple #[.string r1, .bool r2]) ∧ Drawn0 w w' := by
  have H : ((stringslite_CutPrefix.f a0 a1).bind fun bt113 => (some (bt113.1, bt113.2))) = some (r1, r2) := h
  clear h
  replace H := Option.bind_eq_some_iff.mp H
  obtain ⟨⟨t113, t114⟩, A30, H⟩ := H
  replace H : (some (t113, t114)) = some (r1, r2) := H
  have A3 := Aside0.mk A30
  clear A30
  simp only [Option.some.injEq, Prod.mk.injEq] at H
  obtain ⟨rfl, rfl⟩ := H
  go_enter Tryd.func81, Tryd.ntmps81
  go_wp2_with (first | ((with_reducible refine gate_callee (f := 116) rfl ?_); refine goesL_ (some 8) rfl rfl Tryd.func116 (by kernel_rfl) rfl #[.string a0, .string a1] rfl (by (try simp only [List.map_toArray, List.map_cons, List.map_nil]); first | done | rfl | (simp only [List.length_drop, List.length_take]; rfl) | (simp only [ByteArray.size_extract]; rfl)) ?_; (with_reducible refine (stringslite_CutPrefix.calls a0 a1 t113 t114 _ A3.out).mono ?_); rintro e w' ⟨rfl, ⟨nd, rfl⟩⟩; refine ⟨_, rfl, ?_⟩))
  go_ret2
  exact ⟨by first | rfl | (simp; done) | (simp [*]; done), by repeat (first | exact Drawn0.refl _ | apply Drawn0.step)⟩

/-! ### lex_digits: function 82 -/
def lex_dig (c : Int) : Int := if 48 ≤ c ∧ c ≤ 57 then c - 48 else if 97 ≤ Go.bits .or .u8 c 32 ∧ Go.bits .or .u8 c 32 ≤ 102 then Go.bits .or .u8 c 32 - 97 + 10 else 99
theorem lex_min (x m : Int) : (if m < x then m else x) = min x m := by rw [Int.min_def]; split <;> split <;> omega
def lex_digs (base : Int) : Int → List Int → Option Int
  | n, [] => some n
  | n, c :: l => if lex_dig c ≥ base then none else lex_digs base (min (n * base + lex_dig c) 2097152) l
def lex_digits.f (a0 : ByteArray) (a1 : Int) : Option (Int × Bool) :=
  if (a0.size : Int) ≤ 140737488351232 then if 0 ≤ a1 then if a1 ≤ 16 then
  match lex_digs a1 0 (bytesOf a0) with
  | none => some (0, false)
  | some n => some (n, (!a0.toList.isEmpty))
  else none else none else none
theorem lex_dig_range (c : Int) (h0 : 0 ≤ c) (h1 : c ≤ 255) : 0 ≤ lex_dig c ∧ lex_dig c ≤ 99 := by
  unfold lex_dig
  split
  · omega
  · split <;> omega

set_option maxHeartbeats 2000000 in
set_option maxRecDepth 100000 in
theorem lex_digits.calls (a0 : ByteArray) (a1 : Int) (r1 : Int) (r2 : Bool) (w : World) (h : lex_digits.f a0 a1 = some (r1, r2)) :
    Calls Tryd.prog 82 #[.string a0, .int .i32 a1] w fun e w' => e = .returned (.tuple #[.int .i32 r1, .bool r2]) ∧ Below w.heap.size w w' := by
  unfold lex_digits.f at h
  split at h
  case isFalse => exact absurd h (by simp)
  rename_i hs
  split at h
  case isFalse => exact absurd h (by simp)
  rename_i hb0
  split at h
  case isFalse => exact absurd h (by simp)
  rename_i hb1
  have H := Aside0.mk h
  clear h
  have kb := fun (s : ByteArray) (W : World) => print_bytes (P := Tryd.prog) 9 69 5 Tryd.underlying9 Tryd.underlying69 Tryd.underlying5 s W
  have HBY : Below w.heap.size w (Lib.bytesWorld w 5 a0) := bytes_below (Below.refl _ _) (Nat.le_refl _) 5 a0
  have hcell : ∀ k : Nat, k < a0.size → (Lib.bytesWorld w 5 a0).cell? ⟨w.heap.size, k, none⟩ = some (.int .u8 (bt a0 k)) := by
    intro k hk
    have := Lib.bytesWorld_cell w 5 a0 k hk
    have hk2 : (k : Int).toNat = k := by omega
    rw [this]
    unfold bt
    rw [hk2, dif_pos hk]
    have h' : k < a0.data.toList.length := by rw [data_length]; exact hk
    simp [List.getD_eq_getElem?_getD, List.getElem?_eq_getElem h']
    rfl
  have HCELL := Aside0.mk hcell
  clear hcell
  go_enter Tryd.func82, Tryd.ntmps82
  go_wp2
  go_loop [4, 5, 6, 13] (fun v4 v5 v6 i => ∃ (k : Nat) (q : Int), k ≤ a0.size ∧ 0 ≤ q ∧ q ≤ 2097152 ∧ i = .int .i64 k ∧ v6 = .int .i32 q ∧ v4 = .int .i32 0 ∧ v5 = .bool false ∧ Aside0 ((match lex_digs a1 q ((bytesOf a0).drop k) with | none => some (0, false) | some n => some (n, (!a0.toList.isEmpty))) = some (r1, r2))) (fun _ _ _ i => a0.size - (intOf i).toNat)
  case atStart => exact ⟨0, 0, Nat.zero_le _, by omega, by omega, rfl, rfl, rfl, rfl, H⟩
  case round =>
    obtain ⟨k, q, hk, hq0, hq1, rfl, rfl, rfl, rfl, HH⟩ := hrel
    clear H
    by_cases hkt : k < a0.size
    rotate_left 1
    · have hd : (bytesOf a0).drop k = [] := List.drop_of_length_le (by rw [bytesOf_length]; omega)
      have hf := HH.out
      rw [hd] at hf
      simp only [lex_digs] at hf
      have hkl : decide (k < a0.size) = false := decide_eq_false hkt
      clear hd HH
      have HX := Aside0.mk hf
      clear hf
      go_wp2
      go_ret2
      obtain ⟨rfl, rfl⟩ := Prod.mk.inj (Option.some.inj HX.out)
      exact ⟨rfl, HBY⟩

    have hc := HCELL.out k hkt
    have hbt := bt_range a0 k
    obtain ⟨b0, b1⟩ := hbt
    have hdr : (bytesOf a0).drop k = bt a0 k :: (bytesOf a0).drop (k + 1) := by
      have hl : k < (bytesOf a0).length := by rw [bytesOf_length]; exact hkt
      rw [List.drop_eq_getElem_cons hl]
      congr 1
      have := rd_bytesOf a0 k
      unfold rd at this
      rw [← this]
      simp [hl]
    have HD := Aside0.mk hdr
    clear hdr
    have hh := HH.out
    rw [HD.out] at hh
    simp only [lex_digs] at hh
    clear HH
    generalize hcv : bt a0 k = c at *
    have HCV := Aside0.mk hcv
    clear hcv
    have HL := Aside0.mk (lex_dig_range c b0 b1)
    by_cases hd : 48 ≤ c ∧ c ≤ 57
    · have e : lex_dig c = c - 48 := by unfold lex_dig; rw [if_pos hd]
      rw [e] at hh
      obtain ⟨d0, d1⟩ := hd
      by_cases hge : c - 48 ≥ a1
      · rw [if_pos hge] at hh
        have HX := Aside0.mk hh
        clear hh e
        go_wp2
        go_ret2
        obtain ⟨rfl, rfl⟩ := Prod.mk.inj (Option.some.inj HX.out)
        exact ⟨rfl, HBY⟩
      rw [if_neg hge] at hh
      have HX := Aside0.mk hh
      clear hh e
      have hlt : c - 48 < a1 := by omega
      have hm1 : 0 ≤ q * a1 := Int.mul_nonneg hq0 hb0
      have hm2 : q * a1 ≤ 33554432 := by
        have := Int.mul_le_mul hq1 hb1 hb0 (by omega)
        omega
      go_wp2
      refine ⟨⟨k + 1, _, by omega, by omega, by omega, by simp, rfl, rfl, rfl, by first | exact HX | (rw [lex_min]; exact HX)⟩, by simp [intOf]; omega⟩
    · have hdn : (48 ≤ c → ¬ c ≤ 57) := fun h1 h2 => hd ⟨h1, h2⟩
      by_cases ho : 97 ≤ Go.bits .or .u8 c 32 ∧ Go.bits .or .u8 c 32 ≤ 102
      rotate_left 1
      · have e : lex_dig c = 99 := by unfold lex_dig; rw [if_neg hd, if_neg ho]
        rw [e] at hh
        rw [if_pos (by omega)] at hh
        have HX := Aside0.mk hh
        clear hh e
        have hc5 : 57 < c ∨ c < 48 := by omega
        have ho5 : 102 < Go.bits .or .u8 c 32 ∨ Go.bits .or .u8 c 32 < 97 := by omega
        rcases hc5 with hc5 | hc5 <;> rcases ho5 with ho5 | ho5 <;> go_wp2 <;> go_ret2 <;> (obtain ⟨rfl, rfl⟩ := Prod.mk.inj (Option.some.inj HX.out)) <;> exact ⟨rfl, HBY⟩
      have e : lex_dig c = Go.bits .or .u8 c 32 - 97 + 10 := by unfold lex_dig; rw [if_neg hd, if_pos ho]
      rw [e] at hh
      obtain ⟨o0, o1⟩ := ho
      have hc5 : 57 < c ∨ c < 48 := by omega
      rcases hc5 with hc5 | hc5
      · by_cases hge : Go.bits .or .u8 c 32 - 97 + 10 ≥ a1
        · rw [if_pos hge] at hh
          have HX := Aside0.mk hh
          clear hh e
          go_wp2
          go_ret2
          obtain ⟨rfl, rfl⟩ := Prod.mk.inj (Option.some.inj HX.out)
          exact ⟨rfl, HBY⟩
        rw [if_neg hge] at hh
        have HX := Aside0.mk hh
        clear hh e
        have hlt : Go.bits .or .u8 c 32 - 97 + 10 < a1 := by omega
        have hm1 : 0 ≤ q * a1 := Int.mul_nonneg hq0 hb0
        have hm2 : q * a1 ≤ 33554432 := by
          have := Int.mul_le_mul hq1 hb1 hb0 (by omega)
          omega
        go_wp2
        refine ⟨⟨k + 1, _, by omega, by omega, by omega, by simp, rfl, rfl, rfl, by first | exact HX | (rw [lex_min]; exact HX)⟩, by simp [intOf]; omega⟩
      · by_cases hge : Go.bits .or .u8 c 32 - 97 + 10 ≥ a1
        · rw [if_pos hge] at hh
          have HX := Aside0.mk hh
          clear hh e
          go_wp2
          go_ret2
          obtain ⟨rfl, rfl⟩ := Prod.mk.inj (Option.some.inj HX.out)
          exact ⟨rfl, HBY⟩
        rw [if_neg hge] at hh
        have HX := Aside0.mk hh
        clear hh e
        have hlt : Go.bits .or .u8 c 32 - 97 + 10 < a1 := by omega
        have hm1 : 0 ≤ q * a1 := Int.mul_nonneg hq0 hb0
        have hm2 : q * a1 ≤ 33554432 := by
          have := Int.mul_le_mul hq1 hb1 hb0 (by omega)
          omega
        go_wp2
        refine ⟨⟨k + 1, _, by omega, by omega, by omega, by simp, rfl, rfl, rfl, by first | exact HX | (rw [lex_min]; exact HX)⟩, by simp [intOf]; omega⟩
end Go.Proofs.YtffpbhbiamkkpaaDoor.PL
