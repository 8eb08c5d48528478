-- PRINTED by print.py (a twelfth state) out of the translation. Not trusted: Lean checks it.
import Derived.Test.YtffpbhbiamkkpaaDoorPLx0
import Derived.Test.YtffpbhbiamkkpaaDoorPLx1
import Derived.Test.YtffpbhbiamkkpaaDoorPLx2
import Derived.Test.YtffpbhbiamkkpaaDoorPLx4
namespace Go.Proofs.YtffpbhbiamkkpaaDoor.PL
open Go.RowKit Go.Proofs.YtffpbhbiamkkpaaDoorW.PrintWords Go.Proofs.YtffpbhbiamkkpaaDoorW.PrintLast Go.Proofs.YtffpbhbiamkkpaaDoorW.PrintMore
attribute [local go_sem] max2_int min2_int max_two min_two max_three min_three max_four min_four   -- for this text's walks alone
set_option linter.unusedVariables false
set_option linter.unusedSimpArgs false

/-! ### watchbillref03_Unescape: function 22 -/
mutual
def watchbillref03_Unescape.l0 : Nat → ByteArray → Bool → List Int → Int → Option (ByteArray × Int × Int)
  | 0, _, _, _, _ => none
  | k + 1, x0, x1, x7, x8 => if x8 < (x0.size : Int) then (if 0 ≤ x8 then (if (bt x0 x8) = 38 then ((watchbillref03_reference.f k x0 x8).bind fun bt157 => (if bt157.1.toList = ([] : List UInt8) then (some ((⟨#[]⟩ : ByteArray), x8, 16)) else (if x7.length + bt157.1.size < 140737488355328 then (watchbillref03_Unescape.l0 k x0 x1 (x7 ++ bytesOf bt157.1) bt157.2) else (none)))) else (if (bt x0 x8) = 13 then (if (wrap64 (x8 + 1)) < (x0.size : Int) then (if 0 ≤ (wrap64 (x8 + 1)) then (watchbillref03_Unescape.j1 k x0 x1 x7 x8 (bt x0 x8) ((bt x0 (wrap64 (x8 + 1))) == 10)) else (none)) else (watchbillref03_Unescape.j1 k x0 x1 x7 x8 (bt x0 x8) false)) else (watchbillref03_Unescape.j1 k x0 x1 x7 x8 (bt x0 x8) false))) else (none)) else (some (strOfNums x7, 0, 0))
def watchbillref03_Unescape.j1 : Nat → ByteArray → Bool → List Int → Int → Int → Bool → Option (ByteArray × Int × Int)
  | 0, _, _, _, _, _, _ => none
  | k + 1, x0, x1, x7, x8, x9, x35 => if x35 = true then (if x1 = true then (if 10 = 9 then (if x7.length < 140737488355328 then (watchbillref03_Unescape.l0 k x0 x1 (x7 ++ [32]) (wrap64 ((wrap64 (x8 + 1)) + 1))) else (none)) else (if 10 = 10 then (if x7.length < 140737488355328 then (watchbillref03_Unescape.l0 k x0 x1 (x7 ++ [32]) (wrap64 ((wrap64 (x8 + 1)) + 1))) else (none)) else (if x7.length < 140737488355328 then (watchbillref03_Unescape.l0 k x0 x1 (x7 ++ [10]) (wrap64 ((wrap64 (x8 + 1)) + 1))) else (none)))) else (if x7.length < 140737488355328 then (watchbillref03_Unescape.l0 k x0 x1 (x7 ++ [10]) (wrap64 ((wrap64 (x8 + 1)) + 1))) else (none))) else (if x9 = 13 then (if x1 = true then (if 10 = 9 then (if x7.length < 140737488355328 then (watchbillref03_Unescape.l0 k x0 x1 (x7 ++ [32]) (wrap64 (x8 + 1))) else (none)) else (if 10 = 10 then (if x7.length < 140737488355328 then (watchbillref03_Unescape.l0 k x0 x1 (x7 ++ [32]) (wrap64 (x8 + 1))) else (none)) else (if x7.length < 140737488355328 then (watchbillref03_Unescape.l0 k x0 x1 (x7 ++ [10]) (wrap64 (x8 + 1))) else (none)))) else (if x7.length < 140737488355328 then (watchbillref03_Unescape.l0 k x0 x1 (x7 ++ [10]) (wrap64 (x8 + 1))) else (none))) else (if x1 = true then (if x9 = 9 then (if x7.length < 140737488355328 then (watchbillref03_Unescape.l0 k x0 x1 (x7 ++ [32]) (wrap64 (x8 + 1))) else (none)) else (if x9 = 10 then (if x7.length < 140737488355328 then (watchbillref03_Unescape.l0 k x0 x1 (x7 ++ [32]) (wrap64 (x8 + 1))) else (none)) else (if x7.length < 140737488355328 then (watchbillref03_Unescape.l0 k x0 x1 (x7 ++ [x9]) (wrap64 (x8 + 1))) else (none)))) else (if x7.length < 140737488355328 then (watchbillref03_Unescape.l0 k x0 x1 (x7 ++ [x9]) (wrap64 (x8 + 1))) else (none))))
end
def watchbillref03_Unescape.f (k : Nat) (a0 : ByteArray) (a1 : Bool) : Option (ByteArray × Int × Int) := watchbillref03_Unescape.l0 k a0 a1 ([] : List Int) 0
theorem watchbillref03_Unescape.mono_l : ∀ k, (∀ y0 y1 y2 y3, LeO (watchbillref03_Unescape.l0 k y0 y1 y2 y3) (watchbillref03_Unescape.l0 (k + 1) y0 y1 y2 y3)) ∧ (∀ y0 y1 y2 y3 y4 y5, LeO (watchbillref03_Unescape.j1 k y0 y1 y2 y3 y4 y5) (watchbillref03_Unescape.j1 (k + 1) y0 y1 y2 y3 y4 y5))
  | 0 => ⟨fun _ _ _ _ r h => by simp [watchbillref03_Unescape.l0] at h, fun _ _ _ _ _ _ r h => by simp [watchbillref03_Unescape.j1] at h⟩
  | k + 1 => by
    obtain ⟨ih0, ih1⟩ := watchbillref03_Unescape.mono_l k
    refine ⟨?_, ?_⟩
    · intro y0 y1 y2 y3
      unfold watchbillref03_Unescape.l0
      repeat' first
      | (with_reducible exact ih0 _ _ _ _)
      | (with_reducible exact ih1 _ _ _ _ _ _)
      | (with_reducible exact watchbillref03_reference.mono _ _ _)
      | (with_reducible exact LeO.refl _)
      | (with_reducible exact LeO.none _)
      | (with_reducible refine LeO.ite ?_ ?_)
      | (with_reducible refine LeO.bind ?_ (fun _ => ?_))
      | exact ih0 _ _ _ _
      | exact ih1 _ _ _ _ _ _
      | exact watchbillref03_reference.mono _ _ _
      | exact LeO.none _
      | refine LeO.ite ?_ ?_
      | refine LeO.bind ?_ (fun _ => ?_)
    · intro y0 y1 y2 y3 y4 y5
      unfold watchbillref03_Unescape.j1
      repeat' first
      | (with_reducible exact ih0 _ _ _ _)
      | (with_reducible exact ih1 _ _ _ _ _ _)
      | (with_reducible exact watchbillref03_reference.mono _ _ _)
      | (with_reducible exact LeO.refl _)
      | (with_reducible exact LeO.none _)
      | (with_reducible refine LeO.ite ?_ ?_)
      | (with_reducible refine LeO.bind ?_ (fun _ => ?_))
      | exact ih0 _ _ _ _
      | exact ih1 _ _ _ _ _ _
      | exact watchbillref03_reference.mono _ _ _
      | exact LeO.none _
      | refine LeO.ite ?_ ?_
      | refine LeO.bind ?_ (fun _ => ?_)
theorem watchbillref03_Unescape.mono : ∀ a0 a1 k, LeO (watchbillref03_Unescape.f k a0 a1) (watchbillref03_Unescape.f (k + 1) a0 a1) := by
  intro a0 a1 k
  obtain ⟨ih0, ih1⟩ := watchbillref03_Unescape.mono_l k
  unfold watchbillref03_Unescape.f
  repeat' first
      | (with_reducible exact ih0 _ _ _ _)
      | (with_reducible exact ih1 _ _ _ _ _ _)
      | (with_reducible exact watchbillref03_reference.mono _ _ _)
      | (with_reducible exact LeO.refl _)
      | (with_reducible exact LeO.none _)
      | (with_reducible refine LeO.ite ?_ ?_)
      | (with_reducible refine LeO.bind ?_ (fun _ => ?_))
      | exact ih0 _ _ _ _
      | exact ih1 _ _ _ _ _ _
      | exact watchbillref03_reference.mono _ _ _
      | exact LeO.none _
      | refine LeO.ite ?_ ?_
      | refine LeO.bind ?_ (fun _ => ?_)
set_option maxHeartbeats 8000000 in
set_option maxRecDepth 100000 in
theorem watchbillref03_Unescape.calls (k : Nat) (a0 : ByteArray) (a1 : Bool) (r1 : ByteArray) (r2 : Int) (r3 : Int) (w : World) (h : watchbillref03_Unescape.f k a0 a1 = some (r1, r2, r3)) :
    Calls Tryd.prog 22 #[.string a0, .bool a1] w fun e w' => e = .returned (.tuple #[.string r1, .int .i64 r2, .int .i64 r3]) ∧ Below w.heap.size w w' := by
  have HB := Aside0.mk (Below.refl w.heap.size w)
  have H : (watchbillref03_Unescape.l0 k a0 a1 ([] : List Int) 0) = some (r1, r2, r3) := h
  clear h
  have H' := Aside0.mk H
  clear H
  go_enter Tryd.func22, Tryd.ntmps22
  go_wp2
  go_loopg [7, 8] k (fun kq v7 v8 w' => ∃ (x7_1 : List Int) (x8_1 : Int), v8 = .int .i64 x8_1 ∧ Aside0 (watchbillref03_Unescape.l0 kq a0 a1 x7_1 x8_1 = some (r1, r2, r3)) ∧ Aside0 (kq ≤ k) ∧ Aside0 (Kd.R (Kd.int .u8) 5 w' w.heap.size (fun _ => True) v7 x7_1) ∧ Aside0 (Below w.heap.size w w'))
  case atStart => exact ⟨(([] : List Int)), (0), (by first | rfl | (simp; done) | (simp [*]; done)), H', ⟨Nat.le_refl _⟩, ⟨by first | exact Kd.R_nil _ _ _ _ _ | exact Kd.N_nil _ _ _ _ _ | exact Kd.V_nil _ _ _ _ _ | exact Kd.Q_nil _ _ _ _ _ | exact Kd.S_nil _ _ _ _ _⟩, ⟨by repeat (first | (with_reducible first | exact HB.out | apply below_alloc | apply pw_below_drewN | apply below_drew1) | exact HB.out)⟩⟩
  case round =>
    clear H'
    try clear c2
    try clear p2
    obtain ⟨x7_1, x8_1, rfl, HA, HK1, HO_7, HB⟩ := hrel
    cases gk with
    | zero => exact absurd HA.out (by simp [watchbillref03_Unescape.l0])
    | succ k1 =>
      have H := HA.out
      clear HA
      simp only [watchbillref03_Unescape.l0] at H
      by_cases c3 : x8_1 < (a0.size : Int)
      rotate_left 1
      · rw [if_neg c3] at H
        have c3b0 : decide (x8_1 < (a0.size : Int)) = false := decide_eq_false c3
        clear c3
        simp only [Option.some.injEq, Prod.mk.injEq] at H
        obtain ⟨rfl, rfl, rfl⟩ := H
        have hcv54 := own_string (P := Tryd.prog) Tryd.underlying69 Tryd.underlying5 Tryd.underlying9 (Kd.own_of_R HO_7.out)
        go_wp2
        go_ret3
        exact ⟨by first | rfl | (simp [errW_none, errW_some] <;> rfl) | (simp [*, errW_none, errW_some] <;> rfl), by repeat (first | (with_reducible first | exact HB.out | apply below_alloc | apply pw_below_drewN | apply below_drew1) | exact HB.out)⟩

      rw [if_pos c3] at H
      have c3b0 : decide (x8_1 < (a0.size : Int)) = true := decide_eq_true c3
      clear c3
      by_cases c4 : 0 ≤ x8_1
      rotate_left 1
      · rw [if_neg c4] at H
        exact absurd H (by simp)
      rw [if_pos c4] at H
      have c4b0 : decide (0 ≤ x8_1) = true := decide_eq_true c4
      clear c4
      by_cases c6 : (bt a0 x8_1) = 38
      · rw [if_pos c6] at H
        have c6b0 : ((bt a0 x8_1) == 38) = true := beq_iff_eq.mpr c6
        have c6b1 : ((bt a0 x8_1) != 38) = false := bne_eq_false_iff_eq.mpr c6
        clear c6
        replace H := Option.bind_eq_some_iff.mp H
        obtain ⟨⟨t157, t158⟩, A70, H⟩ := H
        replace H : (if t157.toList = ([] : List UInt8) then (some ((⟨#[]⟩ : ByteArray), x8_1, 16)) else (if x7_1.length + t157.size < 140737488355328 then (watchbillref03_Unescape.l0 k1 a0 a1 (x7_1 ++ bytesOf t157) t158) else (none))) = some (r1, r2, r3) := H
        have A7 := Aside0.mk A70
        clear A70
        by_cases c8 : t157.toList = ([] : List UInt8)
        · rw [if_pos c8] at H
          have c8b0 : (t157.toList == ([] : List UInt8)) = true := beq_iff_eq.mpr c8
          have c8b1 : (t157.toList != ([] : List UInt8)) = false := bne_eq_false_iff_eq.mpr c8
          clear c8
          simp only [Option.some.injEq, Prod.mk.injEq] at H
          obtain ⟨rfl, rfl, rfl⟩ := H
          have p5 : 0 ≤ (x8_1 : Int) := of_decide_eq_true (by first | (with_reducible assumption) | assumption)
          have q5 : x8_1 < (a0.size : Int) := of_decide_eq_true (by first | (with_reducible assumption) | assumption)
          have hx5 := bt_at a0 x8_1
          replace p5 := eq_true p5
          replace q5 := eq_true q5
          go_wp2_with (first | ((with_reducible refine gate_callee (f := 50) rfl ?_); refine goesL_ (some 25) rfl rfl Tryd.func50 (by kernel_rfl) rfl #[.string a0, .int .i64 x8_1] rfl (by (try simp only [List.map_toArray, List.map_cons, List.map_nil]); first | done | rfl | (simp only [List.length_drop, List.length_take]; rfl) | (simp only [ByteArray.size_extract]; rfl)) ?_; (with_reducible refine (watchbillref03_reference.calls k1 a0 x8_1 t157 t158 _ A7.out).mono ?_); rintro e w9 ⟨rfl, hb⟩; refine ⟨_, rfl, ?_⟩; have n0_ := Aside0.mk (Kd.R_below (by (with_reducible repeat (first | apply Kd.R_alloc | apply Kd.R_drewN | apply Kd.R_drew)); exact HO_7.out) hb); have n1_ := Aside0.mk (below_step (by repeat (first | (with_reducible first | exact HB.out | apply below_alloc | apply pw_below_drewN | apply below_drew1) | exact HB.out)) hb); clear HO_7; clear HB; have HO_7 := n0_; have HB := n1_; clear n0_ n1_; (try clear hb); (try clear hb2); (try clear hk); (try clear hi)))
          go_ret3
          exact ⟨by first | rfl | (simp [errW_none, errW_some] <;> rfl) | (simp [*, errW_none, errW_some] <;> rfl), by repeat (first | (with_reducible first | exact HB.out | apply below_alloc | apply pw_below_drewN | apply below_drew1) | exact HB.out)⟩
        rw [if_neg c8] at H
        have c8b0 : (t157.toList == ([] : List UInt8)) = false := beq_eq_false_iff_ne.mpr c8
        have c8b1 : (t157.toList != ([] : List UInt8)) = true := bne_iff_ne.mpr c8
        by_cases c10 : x7_1.length + t157.size < 140737488355328
        rotate_left 1
        · rw [if_neg c10] at H
          exact absurd H (by simp)
        rw [if_pos c10] at H
        have LMc10 := Aside0.mk c10
        clear c10
        obtain ⟨y159, hy159⟩ : ∃ y_ : List Int, y_ = (x7_1 ++ bytesOf t157) := ⟨_, rfl⟩
        replace H : (watchbillref03_Unescape.l0 k1 a0 a1 y159 t158) = some (r1, r2, r3) := by first | (rw [hy159]; with_reducible exact H) | (have H2_ := (Option.bind_some _ _).symm.trans H; rw [hy159]; with_reducible exact H2_) | (have H2_ := (Option.bind_some _ _).symm.trans H; with_reducible exact H2_) | with_reducible exact H | (rw [hy159]; exact H) | exact H
        have Ny159 := Aside0.mk hy159
        clear hy159
        have H' := Aside0.mk H
        clear H
        have p5 : 0 ≤ (x8_1 : Int) := of_decide_eq_true (by first | (with_reducible assumption) | assumption)
        have q5 : x8_1 < (a0.size : Int) := of_decide_eq_true (by first | (with_reducible assumption) | assumption)
        have hx5 := bt_at a0 x8_1
        replace p5 := eq_true p5
        replace q5 := eq_true q5
        go_wp2_with (first | ((with_reducible refine gate_callee (f := 50) rfl ?_); refine goesL_ (some 25) rfl rfl Tryd.func50 (by kernel_rfl) rfl #[.string a0, .int .i64 x8_1] rfl (by (try simp only [List.map_toArray, List.map_cons, List.map_nil]); first | done | rfl | (simp only [List.length_drop, List.length_take]; rfl) | (simp only [ByteArray.size_extract]; rfl)) ?_; (with_reducible refine (watchbillref03_reference.calls k1 a0 x8_1 t157 t158 _ A7.out).mono ?_); rintro e w11 ⟨rfl, hb⟩; refine ⟨_, rfl, ?_⟩; have n0_ := Aside0.mk (Kd.R_below (by (with_reducible repeat (first | apply Kd.R_alloc | apply Kd.R_drewN | apply Kd.R_drew)); exact HO_7.out) hb); have n1_ := Aside0.mk (below_step (by repeat (first | (with_reducible first | exact HB.out | apply below_alloc | apply pw_below_drewN | apply below_drew1) | exact HB.out)) hb); clear HO_7; clear HB; have HO_7 := n0_; have HB := n1_; clear n0_ n1_; (try clear hb); (try clear hb2); (try clear hk); (try clear hi)) | (at_builtin; refine print_append_str (w0 := w) w.heap.size rfl (.tmp 31) _ 69 9 5 rfl Tryd.underlying69 Tryd.underlying9 info5 u7 x7_1 t157 rfl rfl ?aO ?aB ?aS ?aL ?_; (case aB => exact (by repeat (first | (with_reducible first | exact HB.out | apply below_alloc | apply pw_below_drewN | apply below_drew1) | exact HB.out))); (case aO => exact (Kd.own_of_R (by (with_reducible repeat (first | apply Kd.R_alloc | apply Kd.R_drewN | apply Kd.R_drew)); exact HO_7.out))); (case aS => exact (below_size (by repeat (first | (with_reducible first | exact HB.out | apply below_alloc | apply pw_below_drewN | apply below_drew1) | exact HB.out)))); (case aL => have := LMc10.out; omega); intro v160 w12 ho0 hb hg; have ho := Kd.R_of_own (h1 := fun _ => rfl) (ok := fun _ => True) ho0 (fun _ _ => trivial); clear ho0; have hat := True.intro; rw [← Ny159.out] at ho; change Kd.R (Kd.int .u8) 5 w12 w.heap.size (fun _ => True) v160 y159 at ho; have n0_ := Aside0.mk (hb); have n1_ := Aside0.mk (ho); clear HB; clear HO_7; have HB := n0_; have HO161 := n1_; clear n0_ n1_; clear ho hb hg hat))
        go_roundg k1
        case measure => have := HK1.out; omega
        case rel => exact ⟨(y159), (t158), (by first | rfl | (simp; done) | (simp [*]; done)), H', ⟨by have := HK1.out; omega⟩, ⟨by (with_reducible repeat (first | apply Kd.R_alloc | apply Kd.R_drewN | apply Kd.R_drew)); exact HO161.out⟩, ⟨by repeat (first | (with_reducible first | exact HB.out | apply below_alloc | apply pw_below_drewN | apply below_drew1) | exact HB.out)⟩⟩
      · rw [if_neg c6] at H
        have c6b0 : ((bt a0 x8_1) == 38) = false := beq_eq_false_iff_ne.mpr c6
        have c6b1 : ((bt a0 x8_1) != 38) = true := bne_iff_ne.mpr c6
        have HC13 := Aside0.mk H
        clear H
        have p5 : 0 ≤ (x8_1 : Int) := of_decide_eq_true (by first | (with_reducible assumption) | assumption)
        have q5 : x8_1 < (a0.size : Int) := of_decide_eq_true (by first | (with_reducible assumption) | assumption)
        have hx5 := bt_at a0 x8_1
        replace p5 := eq_true p5
        replace q5 := eq_true q5
        go_upto_region 11 with (fail)
        go_cut [35] (fun v35 wc => ∃ (kq : Nat) (x35_12 : Bool), v35 = .bool x35_12 ∧ Aside0 (watchbillref03_Unescape.j1 kq a0 a1 x7_1 x8_1 (bt a0 x8_1) x35_12 = some (r1, r2, r3)) ∧ Aside0 (kq ≤ k1) ∧ Aside0 (Kd.R (Kd.int .u8) 5 wc w.heap.size (fun _ => True) u7 x7_1) ∧ Aside0 (Below w.heap.size w wc))
        case first =>
          have H := HC13.out
          clear HC13
          by_cases c14 : (bt a0 x8_1) = 13
          rotate_left 1
          · rw [if_neg c14] at H
            have c14b0 : ((bt a0 x8_1) == 13) = false := beq_eq_false_iff_ne.mpr c14
            have c14b1 : ((bt a0 x8_1) != 13) = true := bne_iff_ne.mpr c14
            (first | rw [c14b0] | (simp only [i64_w, i32_w]; rw [c14b0]) | skip)
            have H' := Aside0.mk H
            clear H
            go_wp2
            go_meet
            case rel => exact ⟨_, (false), (by first | rfl | (simp; done) | (simp [*]; done)), H', ⟨by have := HK1.out; first | omega | exact Nat.le_refl _⟩, ⟨by (with_reducible repeat (first | apply Kd.R_alloc | apply Kd.R_drewN | apply Kd.R_drew)); exact HO_7.out⟩, ⟨by repeat (first | (with_reducible first | exact HB.out | apply below_alloc | apply pw_below_drewN | apply below_drew1) | exact HB.out)⟩⟩
          rw [if_pos c14] at H
          have c14b0 : ((bt a0 x8_1) == 13) = true := beq_iff_eq.mpr c14
          have c14b1 : ((bt a0 x8_1) != 13) = false := bne_eq_false_iff_eq.mpr c14
          clear c14
          (first | rw [c14b0] | (simp only [i64_w, i32_w]; rw [c14b0]) | skip)
          by_cases c15 : (wrap64 (x8_1 + 1)) < (a0.size : Int)
          rotate_left 1
          · rw [if_neg c15] at H
            have c15b0 : decide ((wrap64 (x8_1 + 1)) < (a0.size : Int)) = false := decide_eq_false c15
            clear c15
            have H' := Aside0.mk H
            clear H
            go_wp2
            go_meet
            case rel => exact ⟨_, (false), (by first | rfl | (simp; done) | (simp [*]; done)), H', ⟨by have := HK1.out; first | omega | exact Nat.le_refl _⟩, ⟨by (with_reducible repeat (first | apply Kd.R_alloc | apply Kd.R_drewN | apply Kd.R_drew)); exact HO_7.out⟩, ⟨by repeat (first | (with_reducible first | exact HB.out | apply below_alloc | apply pw_below_drewN | apply below_drew1) | exact HB.out)⟩⟩
          rw [if_pos c15] at H
          have c15b0 : decide ((wrap64 (x8_1 + 1)) < (a0.size : Int)) = true := decide_eq_true c15
          clear c15
          obtain ⟨ji16, hji16⟩ : ∃ j_ : Int, (wrap64 (x8_1 + 1)) = j_ := ⟨_, rfl⟩
          replace H : (if 0 ≤ (ji16) then (watchbillref03_Unescape.j1 k1 a0 a1 x7_1 x8_1 (bt a0 x8_1) ((bt a0 (ji16)) == 10)) else (none)) = some (r1, r2, r3) := by first | (rw [hji16] at H; exact H) | (simp only [hji16] at H ⊢; exact H)
          (try rw [hji16] at c15b0)
          have hji16w : (IntKind.i64.wrap (x8_1 + 1)) = ji16 := (i64_w _).trans hji16
          by_cases c17 : 0 ≤ (ji16)
          rotate_left 1
          · rw [if_neg c17] at H
            exact absurd H (by simp)
          rw [if_pos c17] at H
          have c17b0 : decide (0 ≤ (ji16)) = true := decide_eq_true c17
          clear c17
          have H' := Aside0.mk H
          clear H
          have p18 : 0 ≤ ((ji16) : Int) := of_decide_eq_true (by first | (with_reducible assumption) | assumption)
          have q18 : (ji16) < (a0.size : Int) := of_decide_eq_true (by first | (with_reducible assumption) | assumption)
          have hx18 := bt_at a0 (ji16)
          replace p18 := eq_true p18
          replace q18 := eq_true q18
          go_wp2
          go_meet
          case rel => exact ⟨_, (((bt a0 (ji16)) == 10)), (by first | rfl | (simp; done) | (simp only [← hji16] <;> (first | rfl | simp)) | (simp [*]; done)), H', ⟨by have := HK1.out; first | omega | exact Nat.le_refl _⟩, ⟨by (with_reducible repeat (first | apply Kd.R_alloc | apply Kd.R_drewN | apply Kd.R_drew)); exact HO_7.out⟩, ⟨by repeat (first | (with_reducible first | exact HB.out | apply below_alloc | apply pw_below_drewN | apply below_drew1) | exact HB.out)⟩⟩
        case rest =>
          clear HC13
          try clear c1
          try clear p1
          try clear q1
          try clear hx1
          try clear c2
          try clear p2
          try clear c3
          try clear c3b0
          try clear c4
          try clear c4b0
          try clear c5
          try clear p5
          try clear q5
          try clear hx5
          try clear c6
          try clear c6b0
          try clear c6b1
          try clear p6
          try clear c8
          try clear c8b0
          try clear c8b1
          try clear c10
          try clear c14
          try clear c14b0
          try clear c14b1
          try clear c15
          try clear c15b0
          try clear c17
          try clear c17b0
          try clear p18
          try clear q18
          try clear hx18
          try clear p18
          try clear p2
          try clear p5
          try clear q18
          try clear q5
          obtain ⟨kq, x35_12, rfl, HA, HJ12, HO_7, HB⟩ := hcut
          cases kq with
          | zero => exact absurd HA.out (by simp [watchbillref03_Unescape.j1])
          | succ kj12 =>
            have H := HA.out
            clear HA
            simp only [watchbillref03_Unescape.j1] at H
            by_cases c19 : x35_12 = true
            · subst c19
              have H1 : (if a1 = true then (if 10 = 9 then (if x7_1.length < 140737488355328 then (watchbillref03_Unescape.l0 kj12 a0 a1 (x7_1 ++ [32]) (wrap64 ((wrap64 (x8_1 + 1)) + 1))) else (none)) else (if 10 = 10 then (if x7_1.length < 140737488355328 then (watchbillref03_Unescape.l0 kj12 a0 a1 (x7_1 ++ [32]) (wrap64 ((wrap64 (x8_1 + 1)) + 1))) else (none)) else (if x7_1.length < 140737488355328 then (watchbillref03_Unescape.l0 kj12 a0 a1 (x7_1 ++ [10]) (wrap64 ((wrap64 (x8_1 + 1)) + 1))) else (none)))) else (if x7_1.length < 140737488355328 then (watchbillref03_Unescape.l0 kj12 a0 a1 (x7_1 ++ [10]) (wrap64 ((wrap64 (x8_1 + 1)) + 1))) else (none))) = some (r1, r2, r3) := by rw [if_pos rfl] at H; exact H
              clear H
              have H := H1
              clear H1
              by_cases c20 : a1 = true
              · subst c20
                have H1 : (if 10 = 9 then (if x7_1.length < 140737488355328 then (watchbillref03_Unescape.l0 kj12 a0 true (x7_1 ++ [32]) (wrap64 ((wrap64 (x8_1 + 1)) + 1))) else (none)) else (if 10 = 10 then (if x7_1.length < 140737488355328 then (watchbillref03_Unescape.l0 kj12 a0 true (x7_1 ++ [32]) (wrap64 ((wrap64 (x8_1 + 1)) + 1))) else (none)) else (if x7_1.length < 140737488355328 then (watchbillref03_Unescape.l0 kj12 a0 true (x7_1 ++ [10]) (wrap64 ((wrap64 (x8_1 + 1)) + 1))) else (none)))) = some (r1, r2, r3) := by rw [if_pos rfl] at H; exact H
                clear H
                have H := H1
                clear H1
                by_cases c21 : 10 = 9
                · exact absurd c21 (by decide)
                · rw [if_neg c21] at H
                  have c21b0 : (10 == 9) = false := beq_eq_false_iff_ne.mpr c21
                  have c21b1 : (10 != 9) = true := bne_iff_ne.mpr c21
                  by_cases c24 : 10 = 10
                  · rw [if_pos c24] at H
                    have c24b0 : (10 == 10) = true := beq_iff_eq.mpr c24
                    have c24b1 : (10 != 10) = false := bne_eq_false_iff_eq.mpr c24
                    clear c24
                    by_cases c25 : x7_1.length < 140737488355328
                    rotate_left 1
                    · rw [if_neg c25] at H
                      exact absurd H (by simp)
                    rw [if_pos c25] at H
                    have LMc25 := Aside0.mk c25
                    clear c25
                    obtain ⟨y165, hy165⟩ : ∃ y_ : List Int, y_ = (x7_1 ++ [32]) := ⟨_, rfl⟩
                    replace H : (watchbillref03_Unescape.l0 kj12 a0 true y165 (wrap64 ((wrap64 (x8_1 + 1)) + 1))) = some (r1, r2, r3) := by first | (rw [hy165]; with_reducible exact H) | (have H2_ := (Option.bind_some _ _).symm.trans H; rw [hy165]; with_reducible exact H2_) | (have H2_ := (Option.bind_some _ _).symm.trans H; with_reducible exact H2_) | with_reducible exact H | (rw [hy165]; exact H) | exact H
                    have Ny165 := Aside0.mk hy165
                    clear hy165
                    have H' := Aside0.mk H
                    clear H
                    go_wp2_with (first | ((with_reducible refine gate_builtin (b := .append) (xs := #[.tmp 66, .tmp 68]) rfl ?_); (try (refine gate_guard (by rfl) ?_; dsimp only)); at_builtin; refine Kd.R_append (Kd.int .u8) (w0 := w) w.heap.size rfl (.tmp 66) (.tmp 68) 69 5 (.int .u8 0) 1 rfl Tryd.underlying69 info5 rfl (by decide) (by omega) u7 x7_1 32 [.int .u8 32] (fun _ => True) (fun _ => False) rfl rfl ?aP (fun _ hk => hk.elim) ?aF ?aO ?aB ?aS ?aL ?_; (case aP => exact rfl); (case aB => exact (by repeat (first | (with_reducible first | exact HB.out | apply below_alloc | apply pw_below_drewN | apply below_drew1) | exact HB.out))); (case aF => exact (fun _ _ => trivial)); (case aO => exact (by (with_reducible repeat (first | apply Kd.R_alloc | apply Kd.R_drewN | apply Kd.R_drew)); exact HO_7.out)); (case aS => exact (below_size (by repeat (first | (with_reducible first | exact HB.out | apply below_alloc | apply pw_below_drewN | apply below_drew1) | exact HB.out)))); (case aL => have := LMc25.out; omega); intro v166 w26 ho hb hg hat; rw [← Ny165.out] at ho; have n0_ := Aside0.mk (hb); have n1_ := Aside0.mk (ho); clear HB; clear HO_7; have HB := n0_; have HO167 := n1_; clear n0_ n1_; clear ho hb hg hat))
                    go_roundg kj12
                    case measure => have := HK1.out; have := HJ12.out; omega
                    case rel => exact ⟨(y165), (wrap64 ((wrap64 (x8_1 + 1)) + 1)), (by first | rfl | (simp; done) | (simp [*]; done)), H', ⟨by have := HK1.out; have := HJ12.out; omega⟩, ⟨by (with_reducible repeat (first | apply Kd.R_alloc | apply Kd.R_drewN | apply Kd.R_drew)); exact HO167.out⟩, ⟨by repeat (first | (with_reducible first | exact HB.out | apply below_alloc | apply pw_below_drewN | apply below_drew1) | exact HB.out)⟩⟩
                  · exact absurd rfl c24
              · replace c20 := Bool.eq_false_iff.mpr c20
                subst c20
                have H1 : (if x7_1.length < 140737488355328 then (watchbillref03_Unescape.l0 kj12 a0 false (x7_1 ++ [10]) (wrap64 ((wrap64 (x8_1 + 1)) + 1))) else (none)) = some (r1, r2, r3) := by rw [if_neg (show ¬ (false = true) by decide)] at H; exact H
                clear H
                have H := H1
                clear H1
                by_cases c29 : x7_1.length < 140737488355328
                rotate_left 1
                · rw [if_neg c29] at H
                  exact absurd H (by simp)
                rw [if_pos c29] at H
                have LMc29 := Aside0.mk c29
                clear c29
                obtain ⟨y171, hy171⟩ : ∃ y_ : List Int, y_ = (x7_1 ++ [10]) := ⟨_, rfl⟩
                replace H : (watchbillref03_Unescape.l0 kj12 a0 false y171 (wrap64 ((wrap64 (x8_1 + 1)) + 1))) = some (r1, r2, r3) := by first | (rw [hy171]; with_reducible exact H) | (have H2_ := (Option.bind_some _ _).symm.trans H; rw [hy171]; with_reducible exact H2_) | (have H2_ := (Option.bind_some _ _).symm.trans H; with_reducible exact H2_) | with_reducible exact H | (rw [hy171]; exact H) | exact H
                have Ny171 := Aside0.mk hy171
                clear hy171
                have H' := Aside0.mk H
                clear H
                go_wp2_with (first | ((with_reducible refine gate_builtin (b := .append) (xs := #[.tmp 66, .tmp 68]) rfl ?_); (try (refine gate_guard (by rfl) ?_; dsimp only)); at_builtin; refine Kd.R_append (Kd.int .u8) (w0 := w) w.heap.size rfl (.tmp 66) (.tmp 68) 69 5 (.int .u8 0) 1 rfl Tryd.underlying69 info5 rfl (by decide) (by omega) u7 x7_1 10 [.int .u8 10] (fun _ => True) (fun _ => False) rfl rfl ?aP (fun _ hk => hk.elim) ?aF ?aO ?aB ?aS ?aL ?_; (case aP => exact rfl); (case aB => exact (by repeat (first | (with_reducible first | exact HB.out | apply below_alloc | apply pw_below_drewN | apply below_drew1) | exact HB.out))); (case aF => exact (fun _ _ => trivial)); (case aO => exact (by (with_reducible repeat (first | apply Kd.R_alloc | apply Kd.R_drewN | apply Kd.R_drew)); exact HO_7.out)); (case aS => exact (below_size (by repeat (first | (with_reducible first | exact HB.out | apply below_alloc | apply pw_below_drewN | apply below_drew1) | exact HB.out)))); (case aL => have := LMc29.out; omega); intro v172 w30 ho hb hg hat; rw [← Ny171.out] at ho; have n0_ := Aside0.mk (hb); have n1_ := Aside0.mk (ho); clear HB; clear HO_7; have HB := n0_; have HO173 := n1_; clear n0_ n1_; clear ho hb hg hat))
                go_roundg kj12
                case measure => have := HK1.out; have := HJ12.out; omega
                case rel => exact ⟨(y171), (wrap64 ((wrap64 (x8_1 + 1)) + 1)), (by first | rfl | (simp; done) | (simp [*]; done)), H', ⟨by have := HK1.out; have := HJ12.out; omega⟩, ⟨by (with_reducible repeat (first | apply Kd.R_alloc | apply Kd.R_drewN | apply Kd.R_drew)); exact HO173.out⟩, ⟨by repeat (first | (with_reducible first | exact HB.out | apply below_alloc | apply pw_below_drewN | apply below_drew1) | exact HB.out)⟩⟩
            · replace c19 := Bool.eq_false_iff.mpr c19
              subst c19
              have H1 : (if (bt a0 x8_1) = 13 then (if a1 = true then (if 10 = 9 then (if x7_1.length < 140737488355328 then (watchbillref03_Unescape.l0 kj12 a0 a1 (x7_1 ++ [32]) (wrap64 (x8_1 + 1))) else (none)) else (if 10 = 10 then (if x7_1.length < 140737488355328 then (watchbillref03_Unescape.l0 kj12 a0 a1 (x7_1 ++ [32]) (wrap64 (x8_1 + 1))) else (none)) else (if x7_1.length < 140737488355328 then (watchbillref03_Unescape.l0 kj12 a0 a1 (x7_1 ++ [10]) (wrap64 (x8_1 + 1))) else (none)))) else (if x7_1.length < 140737488355328 then (watchbillref03_Unescape.l0 kj12 a0 a1 (x7_1 ++ [10]) (wrap64 (x8_1 + 1))) else (none))) else (if a1 = true then (if (bt a0 x8_1) = 9 then (if x7_1.length < 140737488355328 then (watchbillref03_Unescape.l0 kj12 a0 a1 (x7_1 ++ [32]) (wrap64 (x8_1 + 1))) else (none)) else (if (bt a0 x8_1) = 10 then (if x7_1.length < 140737488355328 then (watchbillref03_Unescape.l0 kj12 a0 a1 (x7_1 ++ [32]) (wrap64 (x8_1 + 1))) else (none)) else (if x7_1.length < 140737488355328 then (watchbillref03_Unescape.l0 kj12 a0 a1 (x7_1 ++ [(bt a0 x8_1)]) (wrap64 (x8_1 + 1))) else (none)))) else (if x7_1.length < 140737488355328 then (watchbillref03_Unescape.l0 kj12 a0 a1 (x7_1 ++ [(bt a0 x8_1)]) (wrap64 (x8_1 + 1))) else (none)))) = some (r1, r2, r3) := by rw [if_neg (show ¬ (false = true) by decide)] at H; exact H
              clear H
              have H := H1
              clear H1
              by_cases c31 : (bt a0 x8_1) = 13
              · rw [if_pos c31] at H
                have c31b0 : ((bt a0 x8_1) == 13) = true := beq_iff_eq.mpr c31
                have c31b1 : ((bt a0 x8_1) != 13) = false := bne_eq_false_iff_eq.mpr c31
                clear c31
                by_cases c32 : a1 = true
                · subst c32
                  have H1 : (if 10 = 9 then (if x7_1.length < 140737488355328 then (watchbillref03_Unescape.l0 kj12 a0 true (x7_1 ++ [32]) (wrap64 (x8_1 + 1))) else (none)) else (if 10 = 10 then (if x7_1.length < 140737488355328 then (watchbillref03_Unescape.l0 kj12 a0 true (x7_1 ++ [32]) (wrap64 (x8_1 + 1))) else (none)) else (if x7_1.length < 140737488355328 then (watchbillref03_Unescape.l0 kj12 a0 true (x7_1 ++ [10]) (wrap64 (x8_1 + 1))) else (none)))) = some (r1, r2, r3) := by rw [if_pos rfl] at H; exact H
                  clear H
                  have H := H1
                  clear H1
                  by_cases c33 : 10 = 9
                  · exact absurd c33 (by decide)
                  · rw [if_neg c33] at H
                    have c33b0 : (10 == 9) = false := beq_eq_false_iff_ne.mpr c33
                    have c33b1 : (10 != 9) = true := bne_iff_ne.mpr c33
                    by_cases c36 : 10 = 10
                    · rw [if_pos c36] at H
                      have c36b0 : (10 == 10) = true := beq_iff_eq.mpr c36
                      have c36b1 : (10 != 10) = false := bne_eq_false_iff_eq.mpr c36
                      clear c36
                      by_cases c37 : x7_1.length < 140737488355328
                      rotate_left 1
                      · rw [if_neg c37] at H
                        exact absurd H (by simp)
                      rw [if_pos c37] at H
                      have LMc37 := Aside0.mk c37
                      clear c37
                      obtain ⟨y177, hy177⟩ : ∃ y_ : List Int, y_ = (x7_1 ++ [32]) := ⟨_, rfl⟩
                      replace H : (watchbillref03_Unescape.l0 kj12 a0 true y177 (wrap64 (x8_1 + 1))) = some (r1, r2, r3) := by first | (rw [hy177]; with_reducible exact H) | (have H2_ := (Option.bind_some _ _).symm.trans H; rw [hy177]; with_reducible exact H2_) | (have H2_ := (Option.bind_some _ _).symm.trans H; with_reducible exact H2_) | with_reducible exact H | (rw [hy177]; exact H) | exact H
                      have Ny177 := Aside0.mk hy177
                      clear hy177
                      have H' := Aside0.mk H
                      clear H
                      go_wp2_with (first | ((with_reducible refine gate_builtin (b := .append) (xs := #[.tmp 66, .tmp 68]) rfl ?_); (try (refine gate_guard (by rfl) ?_; dsimp only)); at_builtin; refine Kd.R_append (Kd.int .u8) (w0 := w) w.heap.size rfl (.tmp 66) (.tmp 68) 69 5 (.int .u8 0) 1 rfl Tryd.underlying69 info5 rfl (by decide) (by omega) u7 x7_1 32 [.int .u8 32] (fun _ => True) (fun _ => False) rfl rfl ?aP (fun _ hk => hk.elim) ?aF ?aO ?aB ?aS ?aL ?_; (case aP => exact rfl); (case aB => exact (by repeat (first | (with_reducible first | exact HB.out | apply below_alloc | apply pw_below_drewN | apply below_drew1) | exact HB.out))); (case aF => exact (fun _ _ => trivial)); (case aO => exact (by (with_reducible repeat (first | apply Kd.R_alloc | apply Kd.R_drewN | apply Kd.R_drew)); exact HO_7.out)); (case aS => exact (below_size (by repeat (first | (with_reducible first | exact HB.out | apply below_alloc | apply pw_below_drewN | apply below_drew1) | exact HB.out)))); (case aL => have := LMc37.out; omega); intro v178 w38 ho hb hg hat; rw [← Ny177.out] at ho; have n0_ := Aside0.mk (hb); have n1_ := Aside0.mk (ho); clear HB; clear HO_7; have HB := n0_; have HO179 := n1_; clear n0_ n1_; clear ho hb hg hat))
                      go_roundg kj12
                      case measure => have := HK1.out; have := HJ12.out; omega
                      case rel => exact ⟨(y177), (wrap64 (x8_1 + 1)), (by first | rfl | (simp; done) | (simp [*]; done)), H', ⟨by have := HK1.out; have := HJ12.out; omega⟩, ⟨by (with_reducible repeat (first | apply Kd.R_alloc | apply Kd.R_drewN | apply Kd.R_drew)); exact HO179.out⟩, ⟨by repeat (first | (with_reducible first | exact HB.out | apply below_alloc | apply pw_below_drewN | apply below_drew1) | exact HB.out)⟩⟩
                    · exact absurd rfl c36
                · replace c32 := Bool.eq_false_iff.mpr c32
                  subst c32
                  have H1 : (if x7_1.length < 140737488355328 then (watchbillref03_Unescape.l0 kj12 a0 false (x7_1 ++ [10]) (wrap64 (x8_1 + 1))) else (none)) = some (r1, r2, r3) := by rw [if_neg (show ¬ (false = true) by decide)] at H; exact H
                  clear H
                  have H := H1
                  clear H1
                  by_cases c41 : x7_1.length < 140737488355328
                  rotate_left 1
                  · rw [if_neg c41] at H
                    exact absurd H (by simp)
                  rw [if_pos c41] at H
                  have LMc41 := Aside0.mk c41
                  clear c41
                  obtain ⟨y183, hy183⟩ : ∃ y_ : List Int, y_ = (x7_1 ++ [10]) := ⟨_, rfl⟩
                  replace H : (watchbillref03_Unescape.l0 kj12 a0 false y183 (wrap64 (x8_1 + 1))) = some (r1, r2, r3) := by first | (rw [hy183]; with_reducible exact H) | (have H2_ := (Option.bind_some _ _).symm.trans H; rw [hy183]; with_reducible exact H2_) | (have H2_ := (Option.bind_some _ _).symm.trans H; with_reducible exact H2_) | with_reducible exact H | (rw [hy183]; exact H) | exact H
                  have Ny183 := Aside0.mk hy183
                  clear hy183
                  have H' := Aside0.mk H
                  clear H
                  go_wp2_with (first | ((with_reducible refine gate_builtin (b := .append) (xs := #[.tmp 66, .tmp 68]) rfl ?_); (try (refine gate_guard (by rfl) ?_; dsimp only)); at_builtin; refine Kd.R_append (Kd.int .u8) (w0 := w) w.heap.size rfl (.tmp 66) (.tmp 68) 69 5 (.int .u8 0) 1 rfl Tryd.underlying69 info5 rfl (by decide) (by omega) u7 x7_1 10 [.int .u8 10] (fun _ => True) (fun _ => False) rfl rfl ?aP (fun _ hk => hk.elim) ?aF ?aO ?aB ?aS ?aL ?_; (case aP => exact rfl); (case aB => exact (by repeat (first | (with_reducible first | exact HB.out | apply below_alloc | apply pw_below_drewN | apply below_drew1) | exact HB.out))); (case aF => exact (fun _ _ => trivial)); (case aO => exact (by (with_reducible repeat (first | apply Kd.R_alloc | apply Kd.R_drewN | apply Kd.R_drew)); exact HO_7.out)); (case aS => exact (below_size (by repeat (first | (with_reducible first | exact HB.out | apply below_alloc | apply pw_below_drewN | apply below_drew1) | exact HB.out)))); (case aL => have := LMc41.out; omega); intro v184 w42 ho hb hg hat; rw [← Ny183.out] at ho; have n0_ := Aside0.mk (hb); have n1_ := Aside0.mk (ho); clear HB; clear HO_7; have HB := n0_; have HO185 := n1_; clear n0_ n1_; clear ho hb hg hat))
                  go_roundg kj12
                  case measure => have := HK1.out; have := HJ12.out; omega
                  case rel => exact ⟨(y183), (wrap64 (x8_1 + 1)), (by first | rfl | (simp; done) | (simp [*]; done)), H', ⟨by have := HK1.out; have := HJ12.out; omega⟩, ⟨by (with_reducible repeat (first | apply Kd.R_alloc | apply Kd.R_drewN | apply Kd.R_drew)); exact HO185.out⟩, ⟨by repeat (first | (with_reducible first | exact HB.out | apply below_alloc | apply pw_below_drewN | apply below_drew1) | exact HB.out)⟩⟩
              · rw [if_neg c31] at H
                have c31b0 : ((bt a0 x8_1) == 13) = false := beq_eq_false_iff_ne.mpr c31
                have c31b1 : ((bt a0 x8_1) != 13) = true := bne_iff_ne.mpr c31
                by_cases c43 : a1 = true
                · subst c43
                  have H1 : (if (bt a0 x8_1) = 9 then (if x7_1.length < 140737488355328 then (watchbillref03_Unescape.l0 kj12 a0 true (x7_1 ++ [32]) (wrap64 (x8_1 + 1))) else (none)) else (if (bt a0 x8_1) = 10 then (if x7_1.length < 140737488355328 then (watchbillref03_Unescape.l0 kj12 a0 true (x7_1 ++ [32]) (wrap64 (x8_1 + 1))) else (none)) else (if x7_1.length < 140737488355328 then (watchbillref03_Unescape.l0 kj12 a0 true (x7_1 ++ [(bt a0 x8_1)]) (wrap64 (x8_1 + 1))) else (none)))) = some (r1, r2, r3) := by rw [if_pos rfl] at H; exact H
                  clear H
                  have H := H1
                  clear H1
                  by_cases c44 : (bt a0 x8_1) = 9
                  · rw [if_pos c44] at H
                    have c44b0 : ((bt a0 x8_1) == 9) = true := beq_iff_eq.mpr c44
                    have c44b1 : ((bt a0 x8_1) != 9) = false := bne_eq_false_iff_eq.mpr c44
                    clear c44
                    by_cases c45 : x7_1.length < 140737488355328
                    rotate_left 1
                    · rw [if_neg c45] at H
                      exact absurd H (by simp)
                    rw [if_pos c45] at H
                    have LMc45 := Aside0.mk c45
                    clear c45
                    obtain ⟨y186, hy186⟩ : ∃ y_ : List Int, y_ = (x7_1 ++ [32]) := ⟨_, rfl⟩
                    replace H : (watchbillref03_Unescape.l0 kj12 a0 true y186 (wrap64 (x8_1 + 1))) = some (r1, r2, r3) := by first | (rw [hy186]; with_reducible exact H) | (have H2_ := (Option.bind_some _ _).symm.trans H; rw [hy186]; with_reducible exact H2_) | (have H2_ := (Option.bind_some _ _).symm.trans H; with_reducible exact H2_) | with_reducible exact H | (rw [hy186]; exact H) | exact H
                    have Ny186 := Aside0.mk hy186
                    clear hy186
                    have H' := Aside0.mk H
                    clear H
                    go_wp2_with (first | ((with_reducible refine gate_builtin (b := .append) (xs := #[.tmp 66, .tmp 68]) rfl ?_); (try (refine gate_guard (by rfl) ?_; dsimp only)); at_builtin; refine Kd.R_append (Kd.int .u8) (w0 := w) w.heap.size rfl (.tmp 66) (.tmp 68) 69 5 (.int .u8 0) 1 rfl Tryd.underlying69 info5 rfl (by decide) (by omega) u7 x7_1 32 [.int .u8 32] (fun _ => True) (fun _ => False) rfl rfl ?aP (fun _ hk => hk.elim) ?aF ?aO ?aB ?aS ?aL ?_; (case aP => exact rfl); (case aB => exact (by repeat (first | (with_reducible first | exact HB.out | apply below_alloc | apply pw_below_drewN | apply below_drew1) | exact HB.out))); (case aF => exact (fun _ _ => trivial)); (case aO => exact (by (with_reducible repeat (first | apply Kd.R_alloc | apply Kd.R_drewN | apply Kd.R_drew)); exact HO_7.out)); (case aS => exact (below_size (by repeat (first | (with_reducible first | exact HB.out | apply below_alloc | apply pw_below_drewN | apply below_drew1) | exact HB.out)))); (case aL => have := LMc45.out; omega); intro v187 w46 ho hb hg hat; rw [← Ny186.out] at ho; have n0_ := Aside0.mk (hb); have n1_ := Aside0.mk (ho); clear HB; clear HO_7; have HB := n0_; have HO188 := n1_; clear n0_ n1_; clear ho hb hg hat))
                    go_roundg kj12
                    case measure => have := HK1.out; have := HJ12.out; omega
                    case rel => exact ⟨(y186), (wrap64 (x8_1 + 1)), (by first | rfl | (simp; done) | (simp [*]; done)), H', ⟨by have := HK1.out; have := HJ12.out; omega⟩, ⟨by (with_reducible repeat (first | apply Kd.R_alloc | apply Kd.R_drewN | apply Kd.R_drew)); exact HO188.out⟩, ⟨by repeat (first | (with_reducible first | exact HB.out | apply below_alloc | apply pw_below_drewN | apply below_drew1) | exact HB.out)⟩⟩
                  · rw [if_neg c44] at H
                    have c44b0 : ((bt a0 x8_1) == 9) = false := beq_eq_false_iff_ne.mpr c44
                    have c44b1 : ((bt a0 x8_1) != 9) = true := bne_iff_ne.mpr c44
                    by_cases c47 : (bt a0 x8_1) = 10
                    · rw [if_pos c47] at H
                      have c47b0 : ((bt a0 x8_1) == 10) = true := beq_iff_eq.mpr c47
                      have c47b1 : ((bt a0 x8_1) != 10) = false := bne_eq_false_iff_eq.mpr c47
                      clear c47
                      by_cases c48 : x7_1.length < 140737488355328
                      rotate_left 1
                      · rw [if_neg c48] at H
                        exact absurd H (by simp)
                      rw [if_pos c48] at H
                      have LMc48 := Aside0.mk c48
                      clear c48
                      obtain ⟨y189, hy189⟩ : ∃ y_ : List Int, y_ = (x7_1 ++ [32]) := ⟨_, rfl⟩
                      replace H : (watchbillref03_Unescape.l0 kj12 a0 true y189 (wrap64 (x8_1 + 1))) = some (r1, r2, r3) := by first | (rw [hy189]; with_reducible exact H) | (have H2_ := (Option.bind_some _ _).symm.trans H; rw [hy189]; with_reducible exact H2_) | (have H2_ := (Option.bind_some _ _).symm.trans H; with_reducible exact H2_) | with_reducible exact H | (rw [hy189]; exact H) | exact H
                      have Ny189 := Aside0.mk hy189
                      clear hy189
                      have H' := Aside0.mk H
                      clear H
                      go_wp2_with (first | ((with_reducible refine gate_builtin (b := .append) (xs := #[.tmp 66, .tmp 68]) rfl ?_); (try (refine gate_guard (by rfl) ?_; dsimp only)); at_builtin; refine Kd.R_append (Kd.int .u8) (w0 := w) w.heap.size rfl (.tmp 66) (.tmp 68) 69 5 (.int .u8 0) 1 rfl Tryd.underlying69 info5 rfl (by decide) (by omega) u7 x7_1 32 [.int .u8 32] (fun _ => True) (fun _ => False) rfl rfl ?aP (fun _ hk => hk.elim) ?aF ?aO ?aB ?aS ?aL ?_; (case aP => exact rfl); (case aB => exact (by repeat (first | (with_reducible first | exact HB.out | apply below_alloc | apply pw_below_drewN | apply below_drew1) | exact HB.out))); (case aF => exact (fun _ _ => trivial)); (case aO => exact (by (with_reducible repeat (first | apply Kd.R_alloc | apply Kd.R_drewN | apply Kd.R_drew)); exact HO_7.out)); (case aS => exact (below_size (by repeat (first | (with_reducible first | exact HB.out | apply below_alloc | apply pw_below_drewN | apply below_drew1) | exact HB.out)))); (case aL => have := LMc48.out; omega); intro v190 w49 ho hb hg hat; rw [← Ny189.out] at ho; have n0_ := Aside0.mk (hb); have n1_ := Aside0.mk (ho); clear HB; clear HO_7; have HB := n0_; have HO191 := n1_; clear n0_ n1_; clear ho hb hg hat))
                      go_roundg kj12
                      case measure => have := HK1.out; have := HJ12.out; omega
                      case rel => exact ⟨(y189), (wrap64 (x8_1 + 1)), (by first | rfl | (simp; done) | (simp [*]; done)), H', ⟨by have := HK1.out; have := HJ12.out; omega⟩, ⟨by (with_reducible repeat (first | apply Kd.R_alloc | apply Kd.R_drewN | apply Kd.R_drew)); exact HO191.out⟩, ⟨by repeat (first | (with_reducible first | exact HB.out | apply below_alloc | apply pw_below_drewN | apply below_drew1) | exact HB.out)⟩⟩
                    · rw [if_neg c47] at H
                      have c47b0 : ((bt a0 x8_1) == 10) = false := beq_eq_false_iff_ne.mpr c47
                      have c47b1 : ((bt a0 x8_1) != 10) = true := bne_iff_ne.mpr c47
                      by_cases c50 : x7_1.length < 140737488355328
                      rotate_left 1
                      · rw [if_neg c50] at H
                        exact absurd H (by simp)
                      rw [if_pos c50] at H
                      have LMc50 := Aside0.mk c50
                      clear c50
                      obtain ⟨y192, hy192⟩ : ∃ y_ : List Int, y_ = (x7_1 ++ [(bt a0 x8_1)]) := ⟨_, rfl⟩
                      replace H : (watchbillref03_Unescape.l0 kj12 a0 true y192 (wrap64 (x8_1 + 1))) = some (r1, r2, r3) := by first | (rw [hy192]; with_reducible exact H) | (have H2_ := (Option.bind_some _ _).symm.trans H; rw [hy192]; with_reducible exact H2_) | (have H2_ := (Option.bind_some _ _).symm.trans H; with_reducible exact H2_) | with_reducible exact H | (rw [hy192]; exact H) | exact H
                      have Ny192 := Aside0.mk hy192
                      clear hy192
                      have H' := Aside0.mk H
                      clear H
                      go_wp2_with (first | ((with_reducible refine gate_builtin (b := .append) (xs := #[.tmp 66, .tmp 68]) rfl ?_); (try (refine gate_guard (by rfl) ?_; dsimp only)); at_builtin; refine Kd.R_append (Kd.int .u8) (w0 := w) w.heap.size rfl (.tmp 66) (.tmp 68) 69 5 (.int .u8 0) 1 rfl Tryd.underlying69 info5 rfl (by decide) (by omega) u7 x7_1 (bt a0 x8_1) [.int .u8 (bt a0 x8_1)] (fun _ => True) (fun _ => False) rfl rfl ?aP (fun _ hk => hk.elim) ?aF ?aO ?aB ?aS ?aL ?_; (case aP => exact rfl); (case aB => exact (by repeat (first | (with_reducible first | exact HB.out | apply below_alloc | apply pw_below_drewN | apply below_drew1) | exact HB.out))); (case aF => exact (fun _ _ => trivial)); (case aO => exact (by (with_reducible repeat (first | apply Kd.R_alloc | apply Kd.R_drewN | apply Kd.R_drew)); exact HO_7.out)); (case aS => exact (below_size (by repeat (first | (with_reducible first | exact HB.out | apply below_alloc | apply pw_below_drewN | apply below_drew1) | exact HB.out)))); (case aL => have := LMc50.out; omega); intro v193 w51 ho hb hg hat; rw [← Ny192.out] at ho; have n0_ := Aside0.mk (hb); have n1_ := Aside0.mk (ho); clear HB; clear HO_7; have HB := n0_; have HO194 := n1_; clear n0_ n1_; clear ho hb hg hat))
                      go_roundg kj12
                      case measure => have := HK1.out; have := HJ12.out; omega
                      case rel => exact ⟨(y192), (wrap64 (x8_1 + 1)), (by first | rfl | (simp; done) | (simp [*]; done)), H', ⟨by have := HK1.out; have := HJ12.out; omega⟩, ⟨by (with_reducible repeat (first | apply Kd.R_alloc | apply Kd.R_drewN | apply Kd.R_drew)); exact HO194.out⟩, ⟨by repeat (first | (with_reducible first | exact HB.out | apply below_alloc | apply pw_below_drewN | apply below_drew1) | exact HB.out)⟩⟩
                · replace c43 := Bool.eq_false_iff.mpr c43
                  subst c43
                  have H1 : (if x7_1.length < 140737488355328 then (watchbillref03_Unescape.l0 kj12 a0 false (x7_1 ++ [(bt a0 x8_1)]) (wrap64 (x8_1 + 1))) else (none)) = some (r1, r2, r3) := by rw [if_neg (show ¬ (false = true) by decide)] at H; exact H
                  clear H
                  have H := H1
                  clear H1
                  by_cases c52 : x7_1.length < 140737488355328
                  rotate_left 1
                  · rw [if_neg c52] at H
                    exact absurd H (by simp)
                  rw [if_pos c52] at H
                  have LMc52 := Aside0.mk c52
                  clear c52
                  obtain ⟨y195, hy195⟩ : ∃ y_ : List Int, y_ = (x7_1 ++ [(bt a0 x8_1)]) := ⟨_, rfl⟩
                  replace H : (watchbillref03_Unescape.l0 kj12 a0 false y195 (wrap64 (x8_1 + 1))) = some (r1, r2, r3) := by first | (rw [hy195]; with_reducible exact H) | (have H2_ := (Option.bind_some _ _).symm.trans H; rw [hy195]; with_reducible exact H2_) | (have H2_ := (Option.bind_some _ _).symm.trans H; with_reducible exact H2_) | with_reducible exact H | (rw [hy195]; exact H) | exact H
                  have Ny195 := Aside0.mk hy195
                  clear hy195
                  have H' := Aside0.mk H
                  clear H
                  go_wp2_with (first | ((with_reducible refine gate_builtin (b := .append) (xs := #[.tmp 66, .tmp 68]) rfl ?_); (try (refine gate_guard (by rfl) ?_; dsimp only)); at_builtin; refine Kd.R_append (Kd.int .u8) (w0 := w) w.heap.size rfl (.tmp 66) (.tmp 68) 69 5 (.int .u8 0) 1 rfl Tryd.underlying69 info5 rfl (by decide) (by omega) u7 x7_1 (bt a0 x8_1) [.int .u8 (bt a0 x8_1)] (fun _ => True) (fun _ => False) rfl rfl ?aP (fun _ hk => hk.elim) ?aF ?aO ?aB ?aS ?aL ?_; (case aP => exact rfl); (case aB => exact (by repeat (first | (with_reducible first | exact HB.out | apply below_alloc | apply pw_below_drewN | apply below_drew1) | exact HB.out))); (case aF => exact (fun _ _ => trivial)); (case aO => exact (by (with_reducible repeat (first | apply Kd.R_alloc | apply Kd.R_drewN | apply Kd.R_drew)); exact HO_7.out)); (case aS => exact (below_size (by repeat (first | (with_reducible first | exact HB.out | apply below_alloc | apply pw_below_drewN | apply below_drew1) | exact HB.out)))); (case aL => have := LMc52.out; omega); intro v196 w53 ho hb hg hat; rw [← Ny195.out] at ho; have n0_ := Aside0.mk (hb); have n1_ := Aside0.mk (ho); clear HB; clear HO_7; have HB := n0_; have HO197 := n1_; clear n0_ n1_; clear ho hb hg hat))
                  go_roundg kj12
                  case measure => have := HK1.out; have := HJ12.out; omega
                  case rel => exact ⟨(y195), (wrap64 (x8_1 + 1)), (by first | rfl | (simp; done) | (simp [*]; done)), H', ⟨by have := HK1.out; have := HJ12.out; omega⟩, ⟨by (with_reducible repeat (first | apply Kd.R_alloc | apply Kd.R_drewN | apply Kd.R_drew)); exact HO197.out⟩, ⟨by repeat (first | (with_reducible first | exact HB.out | apply below_alloc | apply pw_below_drewN | apply below_drew1) | exact HB.out)⟩⟩
/-! ### watchbilllaw03_LexUnescapes: function 5 -/
def watchbilllaw03_LexUnescapes.f (k : Nat) (a0 : ByteArray) (a1 : Bool) : Option (Bool) := (watchbilllaw03_awake.f).bind fun t198 => (if t198 = true then (if (a0.size : Int) > 20000 then (some true) else ((lex_Unescape.f a0 a1).bind fun bt199 => ((watchbillref03_Unescape.f k a0 a1).bind fun bt202 => (if bt199.1.toList = bt202.1.toList then (if bt199.2.1 = bt202.2.1 then (some (bt199.2.2 == bt202.2.2)) else (none)) else (none))))) else (none))
theorem watchbilllaw03_LexUnescapes.mono : ∀ a0 a1 k, LeO (watchbilllaw03_LexUnescapes.f k a0 a1) (watchbilllaw03_LexUnescapes.f (k + 1) a0 a1) := by
  intro a0 a1 k
  unfold watchbilllaw03_LexUnescapes.f
  repeat' first
      | (with_reducible exact watchbillref03_Unescape.mono _ _ _)
      | (with_reducible exact LeO.refl _)
      | (with_reducible exact LeO.none _)
      | (with_reducible refine LeO.ite ?_ ?_)
      | (with_reducible refine LeO.bind ?_ (fun _ => ?_))
      | exact watchbillref03_Unescape.mono _ _ _
      | exact LeO.none _
      | refine LeO.ite ?_ ?_
      | refine LeO.bind ?_ (fun _ => ?_)
set_option maxHeartbeats 8000000 in
set_option maxRecDepth 100000 in
theorem watchbilllaw03_LexUnescapes.calls (k : Nat) (a0 : ByteArray) (a1 : Bool) (r : Bool) (w : World) (hml : ML w) (h : watchbilllaw03_LexUnescapes.f k a0 a1 = some r) :
    Calls Tryd.prog 5 #[.string a0, .bool a1] w fun e w' => e = .returned (.bool r) ∧ Below w.heap.size w w' := by
  have HML := Aside0.mk hml
  clear hml
  have HB := Aside0.mk (Below.refl w.heap.size w)
  have H : ((watchbilllaw03_awake.f).bind fun t198 => (if t198 = true then (if (a0.size : Int) > 20000 then (some true) else ((lex_Unescape.f a0 a1).bind fun bt199 => ((watchbillref03_Unescape.f k a0 a1).bind fun bt202 => (if bt199.1.toList = bt202.1.toList then (if bt199.2.1 = bt202.2.1 then (some (bt199.2.2 == bt202.2.2)) else (none)) else (none))))) else (none))) = some r := h
  clear h
  replace H := Option.bind_eq_some_iff.mp H
  obtain ⟨t198, A30, H⟩ := H
  replace H : (if t198 = true then (if (a0.size : Int) > 20000 then (some true) else ((lex_Unescape.f a0 a1).bind fun bt199 => ((watchbillref03_Unescape.f k a0 a1).bind fun bt202 => (if bt199.1.toList = bt202.1.toList then (if bt199.2.1 = bt202.2.1 then (some (bt199.2.2 == bt202.2.2)) else (none)) else (none))))) else (none)) = some r := H
  have A3 := Aside0.mk A30
  clear A30
  by_cases c4 : t198 = true
  rotate_left 1
  · replace c4 := Bool.eq_false_iff.mpr c4
    subst c4
    have H1 : (none) = some r := by rw [if_neg (show ¬ (false = true) by decide)] at H; exact H
    clear H
    have H := H1
    clear H1
    exact absurd H (by simp)

  subst c4
  have H1 : (if (a0.size : Int) > 20000 then (some true) else ((lex_Unescape.f a0 a1).bind fun bt199 => ((watchbillref03_Unescape.f k a0 a1).bind fun bt202 => (if bt199.1.toList = bt202.1.toList then (if bt199.2.1 = bt202.2.1 then (some (bt199.2.2 == bt202.2.2)) else (none)) else (none))))) = some r := by rw [if_pos rfl] at H; exact H
  clear H
  have H := H1
  clear H1
  by_cases c5 : (a0.size : Int) > 20000
  · rw [if_pos c5] at H
    have c5b0 : decide (20000 < (a0.size : Int)) = true := decide_eq_true c5
    have c5b1 : decide (20000 < a0.size) = true := decide_eq_true (by omega)
    clear c5
    obtain rfl := Option.some.inj H
    go_enter Tryd.func5, Tryd.ntmps5
    go_wp2_with (first | ((with_reducible refine gate_callee (f := 20) rfl ?_); refine goesL_ (some 11) rfl rfl Tryd.func20 (by kernel_rfl) rfl #[] rfl (by (try simp only [List.map_toArray, List.map_cons, List.map_nil]); first | done | rfl | (simp only [List.length_drop, List.length_take]; rfl) | (simp only [ByteArray.size_extract]; rfl)) ?_; (with_reducible refine (watchbilllaw03_awake.calls  true _ A3.out).mono ?_); rintro e w' ⟨rfl, ⟨nd, rfl⟩⟩; refine ⟨_, rfl, ?_⟩))
    go_ret
    exact ⟨by first | rfl | (simp [errW_none, errW_some] <;> rfl) | (simp [*, errW_none, errW_some] <;> rfl), by repeat (first | (with_reducible first | exact HB.out | apply below_alloc | apply pw_below_drewN | apply below_drew1) | exact HB.out)⟩
  rw [if_neg c5] at H
  have c5b0 : decide (20000 < (a0.size : Int)) = false := decide_eq_false c5
  have c5b1 : decide (20000 < a0.size) = false := decide_eq_false (by omega)
  clear c5
  replace H := Option.bind_eq_some_iff.mp H
  obtain ⟨⟨t199, t200, t201⟩, A60, H⟩ := H
  replace H : ((watchbillref03_Unescape.f k a0 a1).bind fun bt202 => (if t199.toList = bt202.1.toList then (if t200 = bt202.2.1 then (some (t201 == bt202.2.2)) else (none)) else (none))) = some r := H
  have A6 := Aside0.mk A60
  clear A60
  replace H := Option.bind_eq_some_iff.mp H
  obtain ⟨⟨t202, t203, t204⟩, A70, H⟩ := H
  replace H : (if t199.toList = t202.toList then (if t200 = t203 then (some (t201 == t204)) else (none)) else (none)) = some r := H
  have A7 := Aside0.mk A70
  clear A70
  by_cases c8 : t199.toList = t202.toList
  rotate_left 1
  · rw [if_neg c8] at H
    exact absurd H (by simp)
  rw [if_pos c8] at H
  have c8b0 : (t199.toList == t202.toList) = true := beq_iff_eq.mpr c8
  have c8b1 : (t199.toList != t202.toList) = false := bne_eq_false_iff_eq.mpr c8
  clear c8
  by_cases c9 : t200 = t203
  rotate_left 1
  · rw [if_neg c9] at H
    exact absurd H (by simp)
  rw [if_pos c9] at H
  have c9b0 : (t200 == t203) = true := beq_iff_eq.mpr c9
  have c9b1 : (t200 != t203) = false := bne_eq_false_iff_eq.mpr c9
  clear c9
  obtain rfl := Option.some.inj H
  go_enter Tryd.func5, Tryd.ntmps5
  go_wp2_with (first | ((with_reducible refine gate_callee (f := 20) rfl ?_); refine goesL_ (some 11) rfl rfl Tryd.func20 (by kernel_rfl) rfl #[] rfl (by (try simp only [List.map_toArray, List.map_cons, List.map_nil]); first | done | rfl | (simp only [List.length_drop, List.length_take]; rfl) | (simp only [ByteArray.size_extract]; rfl)) ?_; (with_reducible refine (watchbilllaw03_awake.calls  true _ A3.out).mono ?_); rintro e w' ⟨rfl, ⟨nd, rfl⟩⟩; refine ⟨_, rfl, ?_⟩) | ((with_reducible refine gate_callee (f := 21) rfl ?_); refine goesL_ (some 19) rfl rfl Tryd.func21 (by kernel_rfl) rfl #[.string a0, .bool a1] rfl (by (try simp only [List.map_toArray, List.map_cons, List.map_nil]); first | done | rfl | (simp only [List.length_drop, List.length_take]; rfl) | (simp only [ByteArray.size_extract]; rfl)) ?_; (with_reducible refine (lex_Unescape.calls a0 a1 t199 t200 t201 _ (by exact ML.below HML.out (by repeat (first | (with_reducible first | exact HB.out | apply below_alloc | apply pw_below_drewN | apply below_drew1) | exact HB.out))) A6.out).mono ?_); rintro e w10 ⟨rfl, hb⟩; refine ⟨_, rfl, ?_⟩; have n0_ := Aside0.mk (below_step (by repeat (first | (with_reducible first | exact HB.out | apply below_alloc | apply pw_below_drewN | apply below_drew1) | exact HB.out)) hb); clear HB; have HB := n0_; clear n0_; (try clear hb); (try clear hb2); (try clear hk); (try clear hi)) | ((with_reducible refine gate_callee (f := 22) rfl ?_); refine goesL_ (some 26) rfl rfl Tryd.func22 (by kernel_rfl) rfl #[.string a0, .bool a1] rfl (by (try simp only [List.map_toArray, List.map_cons, List.map_nil]); first | done | rfl | (simp only [List.length_drop, List.length_take]; rfl) | (simp only [ByteArray.size_extract]; rfl)) ?_; (with_reducible refine (watchbillref03_Unescape.calls k a0 a1 t202 t203 t204 _ A7.out).mono ?_); rintro e w11 ⟨rfl, hb⟩; refine ⟨_, rfl, ?_⟩; have n0_ := Aside0.mk (below_step (by repeat (first | (with_reducible first | exact HB.out | apply below_alloc | apply pw_below_drewN | apply below_drew1) | exact HB.out)) hb); clear HB; have HB := n0_; clear n0_; (try clear hb); (try clear hb2); (try clear hk); (try clear hi)))
  go_ret
  exact ⟨by first | rfl | (simp [errW_none, errW_some] <;> rfl) | (simp [*, errW_none, errW_some] <;> rfl), by repeat (first | (with_reducible first | exact HB.out | apply below_alloc | apply pw_below_drewN | apply below_drew1) | exact HB.out)⟩
/-- THE ONE PURE STATEMENT of watchbilllaw03_LexUnescapes: yours. -/
def watchbilllaw03_LexUnescapes.Pure : Prop := ∀ (a0 : ByteArray) (a1 : Bool), a0.size ≤ 140737488351232 → ∃ k, watchbilllaw03_LexUnescapes.f k a0 a1 = some true
theorem watchbilllaw03_LexUnescapes.walk (P : watchbilllaw03_LexUnescapes.Pure) (a0 : ByteArray) (a1 : Bool) (w : World) (hml : ML w) (w0 : a0.size ≤ 140737488351232) :
    Calls Tryd.prog 5 #[.string a0, .bool a1] w fun e w' => e = .returned (.bool true) ∧ Below w.heap.size w w' := by
  obtain ⟨k, h⟩ := P a0 a1 w0
  refine (watchbilllaw03_LexUnescapes.calls k a0 a1 true w hml h).mono ?_
  rintro e w' ⟨rfl, hd⟩
  exact ⟨rfl, hd⟩

end Go.Proofs.YtffpbhbiamkkpaaDoor.PL
