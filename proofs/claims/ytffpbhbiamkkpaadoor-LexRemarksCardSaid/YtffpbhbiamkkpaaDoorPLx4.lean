import Derived.Test.YtffpbhbiamkkpaaDoorPLx0
import Derived.Test.YtffpbhbiamkkpaaDoorPLx2
import Derived.Test.YtffpbhbiamkkpaaDoorPLx3
-- PRINTED by print.py (a twelfth state) out of the translation. Not trusted: Lean checks it.
namespace Go.Proofs.YtffpbhbiamkkpaaDoor.PL
open Go.RowKit Go.Proofs.YtffpbhbiamkkpaaDoorW.PrintWords Go.Proofs.YtffpbhbiamkkpaaDoorW.PrintLast Go.Proofs.YtffpbhbiamkkpaaDoorW.PrintMore
attribute [local go_sem] max2_int min2_int max_two min_two max_three min_three max_four min_four   -- for this text's walks alone
set_option linter.unusedVariables false
attribute [-simp] ByteArray.size_extract   -- a piece of a piece: its end is told by '.size'
set_option linter.unusedSimpArgs false

/-! ### watchbillref03_reference: function 50 -/
mutual
def watchbillref03_reference.l0 : Nat → Int → Int → ByteArray → List ByteArray → Int → Option (ByteArray × Int)
  | 0, _, _, _, _, _ => none
  | k + 1, x1, x6, x7, x8, x9 => if (wrap64 (x9 + 1)) < (x8.length : Int) then (if 0 ≤ x9 then (if x9 < (x8.length : Int) then (if (rdOf ByteArray.empty x8 x9).toList = x7.toList then (if 0 ≤ (wrap64 (x9 + 1)) then (some (rdOf ByteArray.empty x8 (wrap64 (x9 + 1)), wrap64 (x6 + 1))) else (none)) else (watchbillref03_reference.l0 k x1 x6 x7 x8 (wrap64 (x9 + 2)))) else (none)) else (none)) else ((watchbillref03_Begins.f x7 0 (⟨#[35, 120]⟩ : ByteArray)).bind fun t151 => (if t151 = true then (if 2 ≤ (x7.size : Int) then ((watchbillref03_number.f k (x7.extract 2 x7.size) 16).bind fun t152 => (watchbillref03_reference.j1 k x1 x6 t152)) else (none)) else ((watchbillref03_Begins.f x7 0 (⟨#[35]⟩ : ByteArray)).bind fun t153 => (if t153 = true then (if 1 ≤ (x7.size : Int) then ((watchbillref03_number.f k (x7.extract 1 x7.size) 10).bind fun t154 => (watchbillref03_reference.j1 k x1 x6 t154)) else (none)) else (watchbillref03_reference.j1 k x1 x6 (-1))))))
def watchbillref03_reference.j1 : Nat → Int → Int → Int → Option (ByteArray × Int)
  | 0, _, _, _ => none
  | k + 1, x1, x6, x10 => if x10 < 0 then (some ((⟨#[]⟩ : ByteArray), x1)) else ((watchbillref01_Char.f k x10).bind fun t155 => (if t155 = true then ((watchbillref01_Put.f x10).bind fun t156 => (some (t156, wrap64 (x6 + 1)))) else (some ((⟨#[]⟩ : ByteArray), x1))))
end
def watchbillref03_reference.f (k : Nat) (a0 : ByteArray) (a1 : Int) : Option (ByteArray × Int) := (watchbillref03_Index.f k a0 a1 (⟨#[59]⟩ : ByteArray)).bind fun t145 => (if t145 < 0 then (some ((⟨#[]⟩ : ByteArray), a1)) else (if 0 ≤ (wrap64 (a1 + 1)) then (if (wrap64 (a1 + 1)) ≤ t145 then (if t145 ≤ (a0.size : Int) then (watchbillref03_reference.l0 k a1 t145 (a0.extract ((wrap64 (a1 + 1)) : Int).toNat (t145 : Int).toNat) (([(⟨#[108, 116]⟩ : ByteArray), (⟨#[60]⟩ : ByteArray), (⟨#[103, 116]⟩ : ByteArray), (⟨#[62]⟩ : ByteArray), (⟨#[97, 109, 112]⟩ : ByteArray), (⟨#[38]⟩ : ByteArray), (⟨#[113, 117, 111, 116]⟩ : ByteArray), (⟨#[34]⟩ : ByteArray), (⟨#[97, 112, 111, 115]⟩ : ByteArray), (⟨#[39]⟩ : ByteArray)] : List ByteArray)) 0) else (none)) else (none)) else (none)))
theorem watchbillref03_reference.mono_l : ∀ k, (∀ y0 y1 y2 y3 y4, LeO (watchbillref03_reference.l0 k y0 y1 y2 y3 y4) (watchbillref03_reference.l0 (k + 1) y0 y1 y2 y3 y4)) ∧ (∀ y0 y1 y2, LeO (watchbillref03_reference.j1 k y0 y1 y2) (watchbillref03_reference.j1 (k + 1) y0 y1 y2))
  | 0 => ⟨fun _ _ _ _ _ r h => by simp [watchbillref03_reference.l0] at h, fun _ _ _ r h => by simp [watchbillref03_reference.j1] at h⟩
  | k + 1 => by
    obtain ⟨ih0, ih1⟩ := watchbillref03_reference.mono_l k
    refine ⟨?_, ?_⟩
    · intro y0 y1 y2 y3 y4
      unfold watchbillref03_reference.l0
      repeat' first
      | (with_reducible exact ih0 _ _ _ _ _)
      | (with_reducible exact ih1 _ _ _)
      | (with_reducible exact watchbillref01_Char.mono _ _)
      | (with_reducible exact watchbillref03_Index.mono _ _ _ _)
      | (with_reducible exact watchbillref03_number.mono _ _ _)
      | (with_reducible exact LeO.refl _)
      | (with_reducible exact LeO.none _)
      | (with_reducible refine LeO.ite ?_ ?_)
      | (with_reducible refine LeO.bind ?_ (fun _ => ?_))
      | exact ih0 _ _ _ _ _
      | exact ih1 _ _ _
      | exact watchbillref01_Char.mono _ _
      | exact watchbillref03_Index.mono _ _ _ _
      | exact watchbillref03_number.mono _ _ _
      | exact LeO.none _
      | refine LeO.ite ?_ ?_
      | refine LeO.bind ?_ (fun _ => ?_)
    · intro y0 y1 y2
      unfold watchbillref03_reference.j1
      repeat' first
      | (with_reducible exact ih0 _ _ _ _ _)
      | (with_reducible exact ih1 _ _ _)
      | (with_reducible exact watchbillref01_Char.mono _ _)
      | (with_reducible exact watchbillref03_Index.mono _ _ _ _)
      | (with_reducible exact watchbillref03_number.mono _ _ _)
      | (with_reducible exact LeO.refl _)
      | (with_reducible exact LeO.none _)
      | (with_reducible refine LeO.ite ?_ ?_)
      | (with_reducible refine LeO.bind ?_ (fun _ => ?_))
      | exact ih0 _ _ _ _ _
      | exact ih1 _ _ _
      | exact watchbillref01_Char.mono _ _
      | exact watchbillref03_Index.mono _ _ _ _
      | exact watchbillref03_number.mono _ _ _
      | exact LeO.none _
      | refine LeO.ite ?_ ?_
      | refine LeO.bind ?_ (fun _ => ?_)
theorem watchbillref03_reference.mono : ∀ a0 a1 k, LeO (watchbillref03_reference.f k a0 a1) (watchbillref03_reference.f (k + 1) a0 a1) := by
  intro a0 a1 k
  obtain ⟨ih0, ih1⟩ := watchbillref03_reference.mono_l k
  unfold watchbillref03_reference.f
  repeat' first
      | (with_reducible exact ih0 _ _ _ _ _)
      | (with_reducible exact ih1 _ _ _)
      | (with_reducible exact watchbillref01_Char.mono _ _)
      | (with_reducible exact watchbillref03_Index.mono _ _ _ _)
      | (with_reducible exact watchbillref03_number.mono _ _ _)
      | (with_reducible exact LeO.refl _)
      | (with_reducible exact LeO.none _)
      | (with_reducible refine LeO.ite ?_ ?_)
      | (with_reducible refine LeO.bind ?_ (fun _ => ?_))
      | exact ih0 _ _ _ _ _
      | exact ih1 _ _ _
      | exact watchbillref01_Char.mono _ _
      | exact watchbillref03_Index.mono _ _ _ _
      | exact watchbillref03_number.mono _ _ _
      | exact LeO.none _
      | refine LeO.ite ?_ ?_
      | refine LeO.bind ?_ (fun _ => ?_)
set_option maxHeartbeats 8000000 in
set_option maxRecDepth 100000 in
theorem watchbillref03_reference.calls (k : Nat) (a0 : ByteArray) (a1 : Int) (r1 : ByteArray) (r2 : Int) (w : World) (h : watchbillref03_reference.f k a0 a1 = some (r1, r2)) :
    Calls Tryd.prog 50 #[.string a0, .int .i64 a1] w fun e w' => e = .returned (.tuple #[.string r1, .int .i64 r2]) ∧ Below w.heap.size w w' := by
  have HB := Aside0.mk (Below.refl w.heap.size w)
  have H : ((watchbillref03_Index.f k a0 a1 (⟨#[59]⟩ : ByteArray)).bind fun t145 => (if t145 < 0 then (some ((⟨#[]⟩ : ByteArray), a1)) else (if 0 ≤ (wrap64 (a1 + 1)) then (if (wrap64 (a1 + 1)) ≤ t145 then (if t145 ≤ (a0.size : Int) then (watchbillref03_reference.l0 k a1 t145 (a0.extract ((wrap64 (a1 + 1)) : Int).toNat (t145 : Int).toNat) (([(⟨#[108, 116]⟩ : ByteArray), (⟨#[60]⟩ : ByteArray), (⟨#[103, 116]⟩ : ByteArray), (⟨#[62]⟩ : ByteArray), (⟨#[97, 109, 112]⟩ : ByteArray), (⟨#[38]⟩ : ByteArray), (⟨#[113, 117, 111, 116]⟩ : ByteArray), (⟨#[34]⟩ : ByteArray), (⟨#[97, 112, 111, 115]⟩ : ByteArray), (⟨#[39]⟩ : ByteArray)] : List ByteArray)) 0) else (none)) else (none)) else (none)))) = some (r1, r2) := h
  clear h
  replace H := Option.bind_eq_some_iff.mp H
  obtain ⟨t145, A30, H⟩ := H
  replace H : (if t145 < 0 then (some ((⟨#[]⟩ : ByteArray), a1)) else (if 0 ≤ (wrap64 (a1 + 1)) then (if (wrap64 (a1 + 1)) ≤ t145 then (if t145 ≤ (a0.size : Int) then (watchbillref03_reference.l0 k a1 t145 (a0.extract ((wrap64 (a1 + 1)) : Int).toNat (t145 : Int).toNat) (([(⟨#[108, 116]⟩ : ByteArray), (⟨#[60]⟩ : ByteArray), (⟨#[103, 116]⟩ : ByteArray), (⟨#[62]⟩ : ByteArray), (⟨#[97, 109, 112]⟩ : ByteArray), (⟨#[38]⟩ : ByteArray), (⟨#[113, 117, 111, 116]⟩ : ByteArray), (⟨#[34]⟩ : ByteArray), (⟨#[97, 112, 111, 115]⟩ : ByteArray), (⟨#[39]⟩ : ByteArray)] : List ByteArray)) 0) else (none)) else (none)) else (none))) = some (r1, r2) := H
  have A3 := Aside0.mk A30
  clear A30
  by_cases c4 : t145 < 0
  · rw [if_pos c4] at H
    have c4b0 : decide (t145 < 0) = true := decide_eq_true c4
    clear c4
    simp only [Option.some.injEq, Prod.mk.injEq] at H
    obtain ⟨rfl, rfl⟩ := H
    go_enter Tryd.func50, Tryd.ntmps50
    go_wp2_with (first | ((with_reducible refine gate_callee (f := 83) rfl ?_); refine goesL_ (some 13) rfl rfl Tryd.func83 (by kernel_rfl) rfl #[.string a0, .int .i64 a1, .string (⟨#[59]⟩ : ByteArray)] rfl (by (try simp only [List.map_toArray, List.map_cons, List.map_nil]); first | done | rfl | (simp only [List.length_drop, List.length_take]; rfl) | (simp only [ByteArray.size_extract]; rfl)) ?_; (with_reducible refine (watchbillref03_Index.calls k a0 a1 (⟨#[59]⟩ : ByteArray) t145 _ A3.out).mono ?_); rintro e w' ⟨rfl, ⟨nd, rfl⟩⟩; refine ⟨_, rfl, ?_⟩))
    go_ret2
    exact ⟨by first | rfl | (simp [errW_none, errW_some] <;> rfl) | (simp [*, errW_none, errW_some] <;> rfl), by repeat (first | (with_reducible first | exact HB.out | apply below_alloc | apply pw_below_drewN | apply below_drew1) | exact HB.out)⟩
  rw [if_neg c4] at H
  have c4b0 : decide (t145 < 0) = false := decide_eq_false c4
  clear c4
  obtain ⟨ji5, hji5⟩ : ∃ j_ : Int, (wrap64 (a1 + 1)) = j_ := ⟨_, rfl⟩
  replace H : (if 0 ≤ (ji5) then (if (ji5) ≤ t145 then (if t145 ≤ (a0.size : Int) then (watchbillref03_reference.l0 k a1 t145 (a0.extract ((ji5) : Int).toNat (t145 : Int).toNat) (([(⟨#[108, 116]⟩ : ByteArray), (⟨#[60]⟩ : ByteArray), (⟨#[103, 116]⟩ : ByteArray), (⟨#[62]⟩ : ByteArray), (⟨#[97, 109, 112]⟩ : ByteArray), (⟨#[38]⟩ : ByteArray), (⟨#[113, 117, 111, 116]⟩ : ByteArray), (⟨#[34]⟩ : ByteArray), (⟨#[97, 112, 111, 115]⟩ : ByteArray), (⟨#[39]⟩ : ByteArray)] : List ByteArray)) 0) else (none)) else (none)) else (none)) = some (r1, r2) := by first | (rw [hji5] at H; exact H) | (simp only [hji5] at H ⊢; exact H)
  (try rw [hji5] at A3)
  have hji5w : (IntKind.i64.wrap (a1 + 1)) = ji5 := (i64_w _).trans hji5
  by_cases c6 : 0 ≤ (ji5)
  rotate_left 1
  · rw [if_neg c6] at H
    exact absurd H (by simp)

  rw [if_pos c6] at H
  have c6b0 := eq_true c6
  have c6b1 : decide (0 ≤ (ji5)) = true := decide_eq_true c6
  clear c6
  by_cases c7 : (ji5) ≤ t145
  rotate_left 1
  · rw [if_neg c7] at H
    exact absurd H (by simp)
  rw [if_pos c7] at H
  have c7b0 := eq_true c7
  have c7b1 : decide ((ji5) ≤ t145) = true := decide_eq_true c7
  clear c7
  by_cases c8 : t145 ≤ (a0.size : Int)
  rotate_left 1
  · rw [if_neg c8] at H
    exact absurd H (by simp)
  rw [if_pos c8] at H
  have c8b0 := eq_true c8
  have c8b1 : decide (t145 ≤ (a0.size : Int)) = true := decide_eq_true c8
  clear c8
  obtain ⟨y146, hy146⟩ : ∃ y_ : List ByteArray, y_ = (([(⟨#[108, 116]⟩ : ByteArray), (⟨#[60]⟩ : ByteArray), (⟨#[103, 116]⟩ : ByteArray), (⟨#[62]⟩ : ByteArray), (⟨#[97, 109, 112]⟩ : ByteArray), (⟨#[38]⟩ : ByteArray), (⟨#[113, 117, 111, 116]⟩ : ByteArray), (⟨#[34]⟩ : ByteArray), (⟨#[97, 112, 111, 115]⟩ : ByteArray), (⟨#[39]⟩ : ByteArray)] : List ByteArray)) := ⟨_, rfl⟩
  replace H : (watchbillref03_reference.l0 k a1 t145 (a0.extract ((ji5) : Int).toNat (t145 : Int).toNat) y146 0) = some (r1, r2) := by first | (rw [hy146]; with_reducible exact H) | (have H2_ := (Option.bind_some _ _).symm.trans H; rw [hy146]; with_reducible exact H2_) | (have H2_ := (Option.bind_some _ _).symm.trans H; with_reducible exact H2_) | with_reducible exact H | (rw [hy146]; exact H) | exact H
  have Ny146 := Aside0.mk hy146
  clear hy146
  have H' := Aside0.mk H
  clear H
  go_enter Tryd.func50, Tryd.ntmps50
  go_wp2_with (first | ((with_reducible refine gate_callee (f := 83) rfl ?_); refine goesL_ (some 13) rfl rfl Tryd.func83 (by kernel_rfl) rfl #[.string a0, .int .i64 a1, .string (⟨#[59]⟩ : ByteArray)] rfl (by (try simp only [List.map_toArray, List.map_cons, List.map_nil]); first | done | rfl | (simp only [List.length_drop, List.length_take]; rfl) | (simp only [ByteArray.size_extract]; rfl)) ?_; (with_reducible refine (watchbillref03_Index.calls k a0 a1 (⟨#[59]⟩ : ByteArray) t145 _ A3.out).mono ?_); rintro e w' ⟨rfl, ⟨nd, rfl⟩⟩; refine ⟨_, rfl, ?_⟩) | ((with_reducible refine gate_dst (N := 22) rfl ?_); refine Kd.R_lit Kd.string _ 9 ?hg (N := 22) ?hd (xs := ([(⟨#[108, 116]⟩ : ByteArray), (⟨#[60]⟩ : ByteArray), (⟨#[103, 116]⟩ : ByteArray), (⟨#[62]⟩ : ByteArray), (⟨#[97, 109, 112]⟩ : ByteArray), (⟨#[38]⟩ : ByteArray), (⟨#[113, 117, 111, 116]⟩ : ByteArray), (⟨#[34]⟩ : ByteArray), (⟨#[97, 112, 111, 115]⟩ : ByteArray), (⟨#[39]⟩ : ByteArray)] : List ByteArray)) (inner := [.string (⟨#[108, 116]⟩ : ByteArray), .string (⟨#[60]⟩ : ByteArray), .string (⟨#[103, 116]⟩ : ByteArray), .string (⟨#[62]⟩ : ByteArray), .string (⟨#[97, 109, 112]⟩ : ByteArray), .string (⟨#[38]⟩ : ByteArray), .string (⟨#[113, 117, 111, 116]⟩ : ByteArray), .string (⟨#[34]⟩ : ByteArray), .string (⟨#[97, 112, 111, 115]⟩ : ByteArray), .string (⟨#[39]⟩ : ByteArray)]) (ok := fun _ => True) (okp := fun _ => True) ?hr ?hp (fun _ hk => hk) trivial (Below.refl _ _) (Nat.le_refl _) (by simp) ?_; (case hd => rfl); (case hg => rfl); (case hr => first | (go_simp; done) | (go_simp; rfl)); (case hp => exact (Reps.one (show Kd.M Kd.string _ _ _ (⟨#[108, 116]⟩ : ByteArray) [.string (⟨#[108, 116]⟩ : ByteArray)] from rfl) (Reps.one (show Kd.M Kd.string _ _ _ (⟨#[60]⟩ : ByteArray) [.string (⟨#[60]⟩ : ByteArray)] from rfl) (Reps.one (show Kd.M Kd.string _ _ _ (⟨#[103, 116]⟩ : ByteArray) [.string (⟨#[103, 116]⟩ : ByteArray)] from rfl) (Reps.one (show Kd.M Kd.string _ _ _ (⟨#[62]⟩ : ByteArray) [.string (⟨#[62]⟩ : ByteArray)] from rfl) (Reps.one (show Kd.M Kd.string _ _ _ (⟨#[97, 109, 112]⟩ : ByteArray) [.string (⟨#[97, 109, 112]⟩ : ByteArray)] from rfl) (Reps.one (show Kd.M Kd.string _ _ _ (⟨#[38]⟩ : ByteArray) [.string (⟨#[38]⟩ : ByteArray)] from rfl) (Reps.one (show Kd.M Kd.string _ _ _ (⟨#[113, 117, 111, 116]⟩ : ByteArray) [.string (⟨#[113, 117, 111, 116]⟩ : ByteArray)] from rfl) (Reps.one (show Kd.M Kd.string _ _ _ (⟨#[34]⟩ : ByteArray) [.string (⟨#[34]⟩ : ByteArray)] from rfl) (Reps.one (show Kd.M Kd.string _ _ _ (⟨#[97, 112, 111, 115]⟩ : ByteArray) [.string (⟨#[97, 112, 111, 115]⟩ : ByteArray)] from rfl) (Reps.one (show Kd.M Kd.string _ _ _ (⟨#[39]⟩ : ByteArray) [.string (⟨#[39]⟩ : ByteArray)] from rfl) (Reps.none _ _)))))))))))); intro v147 w9 ho10 hb hg_ hnew_; clear hg_ hnew_; (first | rw [← Ny146.out] at ho10 | (simp only [Int.reduceToNat] at ho10; rw [← Ny146.out] at ho10)); have n0_ := Aside0.mk (Kd.R_lower ho10 (below_size (by repeat (first | (with_reducible first | exact HB.out | apply below_alloc | apply pw_below_drewN | apply below_drew1) | exact HB.out)))); have n1_ := Aside0.mk (below_step (by repeat (first | (with_reducible first | exact HB.out | apply below_alloc | apply pw_below_drewN | apply below_drew1) | exact HB.out)) hb); clear HB; have HO148 := n0_; have HB := n1_; clear n0_ n1_; clear hb ho10))
  go_loopg [9] k (fun kq v9 w' => ∃ (x9_1 : Int), v9 = .int .i64 x9_1 ∧ Aside0 (watchbillref03_reference.l0 kq a1 t145 (a0.extract ((ji5) : Int).toNat (t145 : Int).toNat) y146 x9_1 = some (r1, r2)) ∧ Aside0 (kq ≤ k) ∧ Aside0 (Kd.R Kd.string 9 w' w.heap.size (fun _ => True) v147 y146) ∧ Aside0 (Below w.heap.size w w'))
  case atStart => exact ⟨(0), (by first | rfl | (simp; done) | (simp [*]; done)), H', ⟨Nat.le_refl _⟩, ⟨by (with_reducible repeat (first | apply Kd.R_alloc | apply Kd.R_drewN | apply Kd.R_drew)); exact HO148.out⟩, ⟨by repeat (first | (with_reducible first | exact HB.out | apply below_alloc | apply pw_below_drewN | apply below_drew1) | exact HB.out)⟩⟩
  case round =>
    clear H'
    try clear p2
    try clear c4
    try clear c4b0
    try clear c5
    try clear c6
    try clear c6b0
    try clear c6b1
    try clear p6
    try clear c7
    try clear c7b0
    try clear c7b1
    try clear c8
    try clear c8b0
    try clear c8b1
    obtain ⟨x9_1, rfl, HA, HK1, HO_8, HB⟩ := hrel
    cases gk with
    | zero => exact absurd HA.out (by simp [watchbillref03_reference.l0])
    | succ k1 =>
      have H := HA.out
      clear HA
      simp only [watchbillref03_reference.l0] at H
      by_cases c11 : (wrap64 (x9_1 + 1)) < (y146.length : Int)
      · rw [if_pos c11] at H
        have c11b0 : decide ((wrap64 (x9_1 + 1)) < (y146.length : Int)) = true := decide_eq_true c11
        clear c11
        by_cases c12 : 0 ≤ x9_1
        rotate_left 1
        · rw [if_neg c12] at H
          exact absurd H (by simp)
        rw [if_pos c12] at H
        have c12b0 : decide (0 ≤ x9_1) = true := decide_eq_true c12
        clear c12
        by_cases c13 : x9_1 < (y146.length : Int)
        rotate_left 1
        · rw [if_neg c13] at H
          exact absurd H (by simp)
        rw [if_pos c13] at H
        have c13b0 : decide (x9_1 < (y146.length : Int)) = true := decide_eq_true c13
        clear c13
        by_cases c14 : (rdOf ByteArray.empty y146 x9_1).toList = (a0.extract ((ji5) : Int).toNat (t145 : Int).toNat).toList
        · rw [if_pos c14] at H
          have c14b0 : ((rdOf ByteArray.empty y146 x9_1).toList == (a0.extract ((ji5) : Int).toNat (t145 : Int).toNat).toList) = true := beq_iff_eq.mpr c14
          have c14b1 : ((rdOf ByteArray.empty y146 x9_1).toList != (a0.extract ((ji5) : Int).toNat (t145 : Int).toNat).toList) = false := bne_eq_false_iff_eq.mpr c14
          clear c14
          obtain ⟨ji15, hji15⟩ : ∃ j_ : Int, (wrap64 (x9_1 + 1)) = j_ := ⟨_, rfl⟩
          replace H : (if 0 ≤ (ji15) then (some (rdOf ByteArray.empty y146 (ji15), wrap64 (t145 + 1))) else (none)) = some (r1, r2) := by first | (rw [hji15] at H; exact H) | (simp only [hji15] at H ⊢; exact H)
          (try rw [hji15] at c11b0)
          have hji15w : (IntKind.i64.wrap (x9_1 + 1)) = ji15 := (i64_w _).trans hji15
          by_cases c16 : 0 ≤ (ji15)
          rotate_left 1
          · rw [if_neg c16] at H
            exact absurd H (by simp)
          rw [if_pos c16] at H
          have c16b0 : decide (0 ≤ (ji15)) = true := decide_eq_true c16
          clear c16
          simp only [Option.some.injEq, Prod.mk.injEq] at H
          obtain ⟨rfl, rfl⟩ := H
          obtain ⟨Ao17, co17, eo17⟩ := Kd.R_slice HO_8.out
          subst eo17
          have p149 : 0 ≤ (x9_1 : Int) := of_decide_eq_true (by first | (with_reducible assumption) | assumption)
          have q149 : x9_1 < (y146.length : Int) := of_decide_eq_true (by first | (with_reducible assumption) | assumption)
          obtain ⟨ad149, e149, hx149_0⟩ := Kd.at_string (Kd.R_reads' HO_8.out).2.2 x9_1 p149 q149
          cases e149
          replace p149 := eq_true p149
          replace q149 := eq_true q149
          have p150 : 0 ≤ ((ji15) : Int) := of_decide_eq_true (by first | (with_reducible assumption) | assumption)
          have q150 : (ji15) < (y146.length : Int) := of_decide_eq_true (by first | (with_reducible assumption) | assumption)
          obtain ⟨ad150, e150, hx150_0⟩ := Kd.at_string (Kd.R_reads' HO_8.out).2.2 (ji15) p150 q150
          obtain rfl : ad149 = ad150 := (by injection e150)
          replace p150 := eq_true p150
          replace q150 := eq_true q150
          go_wp2
          go_ret2
          exact ⟨by first | rfl | (simp [errW_none, errW_some] <;> rfl) | (simp only [← hji5, ← hji15]; first | rfl | (simp [errW_none, errW_some] <;> rfl)) | (simp [*, errW_none, errW_some] <;> rfl), by repeat (first | (with_reducible first | exact HB.out | apply below_alloc | apply pw_below_drewN | apply below_drew1) | exact HB.out)⟩
        · rw [if_neg c14] at H
          have c14b0 : ((rdOf ByteArray.empty y146 x9_1).toList == (a0.extract ((ji5) : Int).toNat (t145 : Int).toNat).toList) = false := beq_eq_false_iff_ne.mpr c14
          have c14b1 : ((rdOf ByteArray.empty y146 x9_1).toList != (a0.extract ((ji5) : Int).toNat (t145 : Int).toNat).toList) = true := bne_iff_ne.mpr c14
          have H' := Aside0.mk H
          clear H
          obtain ⟨Ao18, co18, eo18⟩ := Kd.R_slice HO_8.out
          subst eo18
          have p149 : 0 ≤ (x9_1 : Int) := of_decide_eq_true (by first | (with_reducible assumption) | assumption)
          have q149 : x9_1 < (y146.length : Int) := of_decide_eq_true (by first | (with_reducible assumption) | assumption)
          obtain ⟨ad149, e149, hx149_0⟩ := Kd.at_string (Kd.R_reads' HO_8.out).2.2 x9_1 p149 q149
          cases e149
          replace p149 := eq_true p149
          replace q149 := eq_true q149
          go_wp2
          go_roundg k1
          case measure => have := HK1.out; omega
          case rel => exact ⟨(wrap64 (x9_1 + 2)), (by first | rfl | (simp; done) | (simp [*]; done)), H', ⟨by have := HK1.out; omega⟩, ⟨by (with_reducible repeat (first | apply Kd.R_alloc | apply Kd.R_drewN | apply Kd.R_drew)); exact HO_8.out⟩, ⟨by repeat (first | (with_reducible first | exact HB.out | apply below_alloc | apply pw_below_drewN | apply below_drew1) | exact HB.out)⟩⟩
      · rw [if_neg c11] at H
        have c11b0 : decide ((wrap64 (x9_1 + 1)) < (y146.length : Int)) = false := decide_eq_false c11
        clear c11
        replace H := Option.bind_eq_some_iff.mp H
        obtain ⟨t151, A190, H⟩ := H
        replace H : (if t151 = true then (if 2 ≤ ((a0.extract ((ji5) : Int).toNat (t145 : Int).toNat).size : Int) then ((watchbillref03_number.f k1 ((a0.extract ((ji5) : Int).toNat (t145 : Int).toNat).extract 2 (a0.extract ((ji5) : Int).toNat (t145 : Int).toNat).size) 16).bind fun t152 => (watchbillref03_reference.j1 k1 a1 t145 t152)) else (none)) else ((watchbillref03_Begins.f (a0.extract ((ji5) : Int).toNat (t145 : Int).toNat) 0 (⟨#[35]⟩ : ByteArray)).bind fun t153 => (if t153 = true then (if 1 ≤ ((a0.extract ((ji5) : Int).toNat (t145 : Int).toNat).size : Int) then ((watchbillref03_number.f k1 ((a0.extract ((ji5) : Int).toNat (t145 : Int).toNat).extract 1 (a0.extract ((ji5) : Int).toNat (t145 : Int).toNat).size) 10).bind fun t154 => (watchbillref03_reference.j1 k1 a1 t145 t154)) else (none)) else (watchbillref03_reference.j1 k1 a1 t145 (-1))))) = some (r1, r2) := H
        have A19 := Aside0.mk A190
        clear A190
        have HC20 := Aside0.mk H
        clear H
        obtain ⟨Ao21, co21, eo21⟩ := Kd.R_slice HO_8.out
        subst eo21
        go_upto_if 44 with (first | ((with_reducible refine gate_callee (f := 24) rfl ?_); refine goesL_ (some 44) rfl rfl Tryd.func24 (by kernel_rfl) rfl #[.string (a0.extract ((ji5) : Int).toNat (t145 : Int).toNat), .int .i64 0, .string (⟨#[35, 120]⟩ : ByteArray)] rfl (by (try simp only [List.map_toArray, List.map_cons, List.map_nil]); first | done | (simp only [hji5]; rfl) | rfl | (simp only [List.length_drop, List.length_take]; rfl) | (simp only [ByteArray.size_extract]; rfl)) ?_; (with_reducible refine (watchbillref03_Begins.calls (a0.extract ((ji5) : Int).toNat (t145 : Int).toNat) 0 (⟨#[35, 120]⟩ : ByteArray) t151 _ A19.out).mono ?_); rintro e w' ⟨rfl, ⟨nd, rfl⟩⟩; refine ⟨_, rfl, ?_⟩))
        (try simp only [Act.put, zA, zB, zC])
        go_cut [10] (fun v10 wc => ∃ (kq : Nat) (x10_19 : Int), v10 = .int .i64 x10_19 ∧ Aside0 (watchbillref03_reference.j1 kq a1 t145 x10_19 = some (r1, r2)) ∧ Aside0 (kq ≤ k1) ∧ Aside0 (Below w.heap.size w wc))
        case first =>
          have H := HC20.out
          clear HC20
          by_cases c22 : t151 = true
          · subst c22
            have H1 : (if 2 ≤ ((a0.extract ((ji5) : Int).toNat (t145 : Int).toNat).size : Int) then ((watchbillref03_number.f k1 ((a0.extract ((ji5) : Int).toNat (t145 : Int).toNat).extract 2 (a0.extract ((ji5) : Int).toNat (t145 : Int).toNat).size) 16).bind fun t152 => (watchbillref03_reference.j1 k1 a1 t145 t152)) else (none)) = some (r1, r2) := by rw [if_pos rfl] at H; exact H
            clear H
            have H := H1
            clear H1
            by_cases c23 : 2 ≤ ((a0.extract ((ji5) : Int).toNat (t145 : Int).toNat).size : Int)
            rotate_left 1
            · rw [if_neg c23] at H
              exact absurd H (by simp)
            rw [if_pos c23] at H
            have c23b0 := eq_true c23
            have c23b1 : decide (2 ≤ ((a0.extract ((ji5) : Int).toNat (t145 : Int).toNat).size : Int)) = true := decide_eq_true c23
            clear c23
            replace H := Option.bind_eq_some_iff.mp H
            obtain ⟨t152, A240, H⟩ := H
            replace H : (watchbillref03_reference.j1 k1 a1 t145 t152) = some (r1, r2) := H
            have A24 := Aside0.mk A240
            clear A240
            have H' := Aside0.mk H
            clear H
            go_wp2_with (first | ((with_reducible refine gate_callee (f := 84) rfl ?_); refine goesL_ (some 47) rfl rfl Tryd.func84 (by kernel_rfl) rfl #[.string ((a0.extract ((ji5) : Int).toNat (t145 : Int).toNat).extract 2 (a0.extract ((ji5) : Int).toNat (t145 : Int).toNat).size), .int .i64 16] rfl (by (try simp only [List.map_toArray, List.map_cons, List.map_nil]); first | done | (simp only [hji5]; rfl) | rfl | (simp only [List.length_drop, List.length_take]; rfl) | (simp only [ByteArray.size_extract]; rfl)) ?_; (with_reducible refine (watchbillref03_number.calls k1 ((a0.extract ((ji5) : Int).toNat (t145 : Int).toNat).extract 2 (a0.extract ((ji5) : Int).toNat (t145 : Int).toNat).size) 16 t152 _ A24.out).mono ?_); rintro e w' ⟨rfl, ⟨nd, rfl⟩⟩; refine ⟨_, rfl, ?_⟩))
            go_meet
            case rel => exact ⟨_, (t152), (by first | rfl | (simp; done) | (simp [*]; done)), H', ⟨by have := HK1.out; first | omega | exact Nat.le_refl _⟩, ⟨by repeat (first | (with_reducible first | exact HB.out | apply below_alloc | apply pw_below_drewN | apply below_drew1) | exact HB.out)⟩⟩
          · replace c22 := Bool.eq_false_iff.mpr c22
            subst c22
            have H1 : ((watchbillref03_Begins.f (a0.extract ((ji5) : Int).toNat (t145 : Int).toNat) 0 (⟨#[35]⟩ : ByteArray)).bind fun t153 => (if t153 = true then (if 1 ≤ ((a0.extract ((ji5) : Int).toNat (t145 : Int).toNat).size : Int) then ((watchbillref03_number.f k1 ((a0.extract ((ji5) : Int).toNat (t145 : Int).toNat).extract 1 (a0.extract ((ji5) : Int).toNat (t145 : Int).toNat).size) 10).bind fun t154 => (watchbillref03_reference.j1 k1 a1 t145 t154)) else (none)) else (watchbillref03_reference.j1 k1 a1 t145 (-1)))) = some (r1, r2) := by rw [if_neg (show ¬ (false = true) by decide)] at H; exact H
            clear H
            have H := H1
            clear H1
            replace H := Option.bind_eq_some_iff.mp H
            obtain ⟨t153, A250, H⟩ := H
            replace H : (if t153 = true then (if 1 ≤ ((a0.extract ((ji5) : Int).toNat (t145 : Int).toNat).size : Int) then ((watchbillref03_number.f k1 ((a0.extract ((ji5) : Int).toNat (t145 : Int).toNat).extract 1 (a0.extract ((ji5) : Int).toNat (t145 : Int).toNat).size) 10).bind fun t154 => (watchbillref03_reference.j1 k1 a1 t145 t154)) else (none)) else (watchbillref03_reference.j1 k1 a1 t145 (-1))) = some (r1, r2) := H
            have A25 := Aside0.mk A250
            clear A250
            by_cases c26 : t153 = true
            rotate_left 1
            · replace c26 := Bool.eq_false_iff.mpr c26
              subst c26
              have H1 : (watchbillref03_reference.j1 k1 a1 t145 (-1)) = some (r1, r2) := by rw [if_neg (show ¬ (false = true) by decide)] at H; exact H
              clear H
              have H := H1
              clear H1
              have H' := Aside0.mk H
              clear H
              go_wp2_with (first | ((with_reducible refine gate_callee (f := 24) rfl ?_); refine goesL_ (some 49) rfl rfl Tryd.func24 (by kernel_rfl) rfl #[.string (a0.extract ((ji5) : Int).toNat (t145 : Int).toNat), .int .i64 0, .string (⟨#[35]⟩ : ByteArray)] rfl (by (try simp only [List.map_toArray, List.map_cons, List.map_nil]); first | done | (simp only [hji5]; rfl) | rfl | (simp only [List.length_drop, List.length_take]; rfl) | (simp only [ByteArray.size_extract]; rfl)) ?_; (with_reducible refine (watchbillref03_Begins.calls (a0.extract ((ji5) : Int).toNat (t145 : Int).toNat) 0 (⟨#[35]⟩ : ByteArray) false _ A25.out).mono ?_); rintro e w' ⟨rfl, ⟨nd, rfl⟩⟩; refine ⟨_, rfl, ?_⟩))
              go_meet
              case rel => exact ⟨_, ((-1)), (by first | rfl | (simp; done) | (simp [*]; done)), H', ⟨by have := HK1.out; first | omega | exact Nat.le_refl _⟩, ⟨by repeat (first | (with_reducible first | exact HB.out | apply below_alloc | apply pw_below_drewN | apply below_drew1) | exact HB.out)⟩⟩
            subst c26
            have H1 : (if 1 ≤ ((a0.extract ((ji5) : Int).toNat (t145 : Int).toNat).size : Int) then ((watchbillref03_number.f k1 ((a0.extract ((ji5) : Int).toNat (t145 : Int).toNat).extract 1 (a0.extract ((ji5) : Int).toNat (t145 : Int).toNat).size) 10).bind fun t154 => (watchbillref03_reference.j1 k1 a1 t145 t154)) else (none)) = some (r1, r2) := by rw [if_pos rfl] at H; exact H
            clear H
            have H := H1
            clear H1
            by_cases c27 : 1 ≤ ((a0.extract ((ji5) : Int).toNat (t145 : Int).toNat).size : Int)
            rotate_left 1
            · rw [if_neg c27] at H
              exact absurd H (by simp)
            rw [if_pos c27] at H
            have c27b0 := eq_true c27
            have c27b1 : decide (1 ≤ ((a0.extract ((ji5) : Int).toNat (t145 : Int).toNat).size : Int)) = true := decide_eq_true c27
            clear c27
            replace H := Option.bind_eq_some_iff.mp H
            obtain ⟨t154, A280, H⟩ := H
            replace H : (watchbillref03_reference.j1 k1 a1 t145 t154) = some (r1, r2) := H
            have A28 := Aside0.mk A280
            clear A280
            have H' := Aside0.mk H
            clear H
            go_wp2_with (first | ((with_reducible refine gate_callee (f := 24) rfl ?_); refine goesL_ (some 49) rfl rfl Tryd.func24 (by kernel_rfl) rfl #[.string (a0.extract ((ji5) : Int).toNat (t145 : Int).toNat), .int .i64 0, .string (⟨#[35]⟩ : ByteArray)] rfl (by (try simp only [List.map_toArray, List.map_cons, List.map_nil]); first | done | (simp only [hji5]; rfl) | rfl | (simp only [List.length_drop, List.length_take]; rfl) | (simp only [ByteArray.size_extract]; rfl)) ?_; (with_reducible refine (watchbillref03_Begins.calls (a0.extract ((ji5) : Int).toNat (t145 : Int).toNat) 0 (⟨#[35]⟩ : ByteArray) true _ A25.out).mono ?_); rintro e w' ⟨rfl, ⟨nd, rfl⟩⟩; refine ⟨_, rfl, ?_⟩) | ((with_reducible refine gate_callee (f := 84) rfl ?_); refine goesL_ (some 52) rfl rfl Tryd.func84 (by kernel_rfl) rfl #[.string ((a0.extract ((ji5) : Int).toNat (t145 : Int).toNat).extract 1 (a0.extract ((ji5) : Int).toNat (t145 : Int).toNat).size), .int .i64 10] rfl (by (try simp only [List.map_toArray, List.map_cons, List.map_nil]); first | done | (simp only [hji5]; rfl) | rfl | (simp only [List.length_drop, List.length_take]; rfl) | (simp only [ByteArray.size_extract]; rfl)) ?_; (with_reducible refine (watchbillref03_number.calls k1 ((a0.extract ((ji5) : Int).toNat (t145 : Int).toNat).extract 1 (a0.extract ((ji5) : Int).toNat (t145 : Int).toNat).size) 10 t154 _ A28.out).mono ?_); rintro e w' ⟨rfl, ⟨nd, rfl⟩⟩; refine ⟨_, rfl, ?_⟩))
            go_meet
            case rel => exact ⟨_, (t154), (by first | rfl | (simp; done) | (simp [*]; done)), H', ⟨by have := HK1.out; first | omega | exact Nat.le_refl _⟩, ⟨by repeat (first | (with_reducible first | exact HB.out | apply below_alloc | apply pw_below_drewN | apply below_drew1) | exact HB.out)⟩⟩
        case rest =>
          clear HC20
          try clear c1
          try clear p1
          try clear q1
          try clear hx1
          try clear c2
          try clear p2
          try clear c4
          try clear c4b0
          try clear c5
          try clear c6
          try clear c6b0
          try clear c6b1
          try clear p6
          try clear c7
          try clear c7b0
          try clear c7b1
          try clear c8
          try clear c8b0
          try clear c8b1
          try clear c11
          try clear c11b0
          try clear c12
          try clear c12b0
          try clear c13
          try clear c13b0
          try clear c14
          try clear c14b0
          try clear c14b1
          try clear p14
          try clear q14
          try clear hx14
          try clear p15
          try clear q15
          try clear hx15
          try clear c16
          try clear c16b0
          try clear c22
          try clear c23
          try clear c23b0
          try clear c23b1
          try clear c24
          try clear c26
          try clear c27
          try clear c27b0
          try clear c27b1
          try clear hx149_0
          try clear hx150_0
          try clear p149
          try clear p150
          try clear p2
          try clear p6
          try clear q149
          try clear q150
          obtain ⟨kq, x10_19, rfl, HA, HJ19, HB⟩ := hcut
          cases kq with
          | zero => exact absurd HA.out (by simp [watchbillref03_reference.j1])
          | succ kj19 =>
            have H := HA.out
            clear HA
            simp only [watchbillref03_reference.j1] at H
            by_cases c29 : x10_19 < 0
            · rw [if_pos c29] at H
              have c29b0 : decide (x10_19 < 0) = true := decide_eq_true c29
              clear c29
              simp only [Option.some.injEq, Prod.mk.injEq] at H
              obtain ⟨rfl, rfl⟩ := H
              go_wp2
              go_ret2
              exact ⟨by first | rfl | (simp [errW_none, errW_some] <;> rfl) | (simp only [← hji5]; first | rfl | (simp [errW_none, errW_some] <;> rfl)) | (simp [*, errW_none, errW_some] <;> rfl), by repeat (first | (with_reducible first | exact HB.out | apply below_alloc | apply pw_below_drewN | apply below_drew1) | exact HB.out)⟩
            rw [if_neg c29] at H
            have c29b0 : decide (x10_19 < 0) = false := decide_eq_false c29
            clear c29
            replace H := Option.bind_eq_some_iff.mp H
            obtain ⟨t155, A300, H⟩ := H
            replace H : (if t155 = true then ((watchbillref01_Put.f x10_19).bind fun t156 => (some (t156, wrap64 (t145 + 1)))) else (some ((⟨#[]⟩ : ByteArray), a1))) = some (r1, r2) := H
            have A30 := Aside0.mk A300
            clear A300
            by_cases c31 : t155 = true
            rotate_left 1
            · replace c31 := Bool.eq_false_iff.mpr c31
              subst c31
              have H1 : (some ((⟨#[]⟩ : ByteArray), a1)) = some (r1, r2) := by rw [if_neg (show ¬ (false = true) by decide)] at H; exact H
              clear H
              have H := H1
              clear H1
              simp only [Option.some.injEq, Prod.mk.injEq] at H
              obtain ⟨rfl, rfl⟩ := H
              go_wp2_with (first | (go_at_call 85; (with_reducible refine (watchbillref01_Char.calls kj19 x10_19 false _ A30.out).mono ?_); rintro e w35 ⟨rfl, hb⟩; have n0_ := Aside0.mk (below_step (by repeat (first | (with_reducible first | exact HB.out | apply below_alloc | apply pw_below_drewN | apply below_drew1) | exact HB.out)) hb); clear HB; have HB := n0_; clear n0_; (try clear hb); (try clear hb2); (try clear hk); (try clear hi)))
              go_ret2
              exact ⟨by first | rfl | (simp [errW_none, errW_some] <;> rfl) | (simp only [← hji5]; first | rfl | (simp [errW_none, errW_some] <;> rfl)) | (simp [*, errW_none, errW_some] <;> rfl), by repeat (first | (with_reducible first | exact HB.out | apply below_alloc | apply pw_below_drewN | apply below_drew1) | exact HB.out)⟩
            subst c31
            have H1 : ((watchbillref01_Put.f x10_19).bind fun t156 => (some (t156, wrap64 (t145 + 1)))) = some (r1, r2) := by rw [if_pos rfl] at H; exact H
            clear H
            have H := H1
            clear H1
            replace H := Option.bind_eq_some_iff.mp H
            obtain ⟨t156, A320, H⟩ := H
            replace H : (some (t156, wrap64 (t145 + 1))) = some (r1, r2) := H
            have A32 := Aside0.mk A320
            clear A320
            simp only [Option.some.injEq, Prod.mk.injEq] at H
            obtain ⟨rfl, rfl⟩ := H
            go_wp2_with (first | (go_at_call 85; (with_reducible refine (watchbillref01_Char.calls kj19 x10_19 true _ A30.out).mono ?_); rintro e w33 ⟨rfl, hb⟩; have n0_ := Aside0.mk (below_step (by repeat (first | (with_reducible first | exact HB.out | apply below_alloc | apply pw_below_drewN | apply below_drew1) | exact HB.out)) hb); clear HB; have HB := n0_; clear n0_; (try clear hb); (try clear hb2); (try clear hk); (try clear hi)) | ((with_reducible refine gate_callee (f := 86) rfl ?_); refine goesL_ (some 62) rfl rfl Tryd.func86 (by kernel_rfl) rfl #[.int .i64 x10_19] rfl (by (try simp only [List.map_toArray, List.map_cons, List.map_nil]); first | done | rfl | (simp only [List.length_drop, List.length_take]; rfl) | (simp only [ByteArray.size_extract]; rfl)) ?_; (with_reducible refine (watchbillref01_Put.calls x10_19 t156 _ A32.out).mono ?_); rintro e w34 ⟨rfl, hb⟩; refine ⟨_, rfl, ?_⟩; have n0_ := Aside0.mk (below_step (by repeat (first | (with_reducible first | exact HB.out | apply below_alloc | apply pw_below_drewN | apply below_drew1) | exact HB.out)) hb); clear HB; have HB := n0_; clear n0_; (try clear hb); (try clear hb2); (try clear hk); (try clear hi)))
            go_ret2
            exact ⟨by first | rfl | (simp [errW_none, errW_some] <;> rfl) | (simp only [← hji5]; first | rfl | (simp [errW_none, errW_some] <;> rfl)) | (simp [*, errW_none, errW_some] <;> rfl), by repeat (first | (with_reducible first | exact HB.out | apply below_alloc | apply pw_below_drewN | apply below_drew1) | exact HB.out)⟩
end Go.Proofs.YtffpbhbiamkkpaaDoor.PL
