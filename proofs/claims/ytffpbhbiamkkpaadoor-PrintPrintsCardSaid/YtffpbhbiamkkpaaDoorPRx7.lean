import Derived.Test.YtffpbhbiamkkpaaDoorM5
import Derived.Test.YtffpbhbiamkkpaaDoorPRx6
import Derived.Test.YtffpbhbiamkkpaaDoorM7
-- PRINTED by print.py (a twelfth state) out of the translation. Not trusted: Lean checks it.
namespace Go.Proofs.YtffpbhbiamkkpaaDoor.PR
open Go.Proofs.YtffpbhbiamkkpaaDoor.ND
open Go.RowKit Go.Proofs.YtffpbhbiamkkpaaDoorW.PrintWords Go.Proofs.YtffpbhbiamkkpaaDoorW.PrintLast Go.Proofs.YtffpbhbiamkkpaaDoorW.PrintMore
attribute [local go_sem] yf9 yf7 yg5 yg4 ye9 ye8 yf8 yf6   -- for this text's walks alone
set_option linter.unusedVariables false
set_option linter.unusedSimpArgs false

mutual
def yb0.l0 : Nat → List (At) → List (At) → Int → Option ((List (At)))
 | 0, _, _, _ => none
 | k + 1, x0, x3, x4 => if x4 < (x0.length : Int) then (yb0.l1 k x0 x3 x4 0) else (some x3)
def yb0.l1 : Nat → List (At) → List (At) → Int → Int → Option ((List (At)))
 | 0, _, _, _, _ => none
 | k + 1, x0, x3, x4, x5 => if x5 < (x3.length : Int) then (if 0 ≤ x5 then (if 0 ≤ x4 then (if x4 < (x0.length : Int) then ((ye5.f ((rdAt x3 x5).f0.f0) ((rdAt x3 x5).f0.f1) ((rdAt x3 x5).f1) ((rdAt x0 x4).f0.f0) ((rdAt x0 x4).f0.f1) ((rdAt x0 x4).f1)).bind fun t174 => (if t174 = true then (yb0.l1 k x0 x3 x4 (wrap64 (x5 + 1))) else (if x5 ≤ (x3.length : Int) then ((some (x3.take (x5 : Int).toNat : List (At))).bind fun y175 => (if ([] : List (At)).length + y175.length < 2932031007402 then ((some (([] : List (At)) ++ y175 : List (At))).bind fun y179 => (if y179.length < 2932031007402 then ((some (y179 ++ [(⟨(⟨(rdAt x0 x4).f0.f0, (rdAt x0 x4).f0.f1⟩ : Nm), (rdAt x0 x4).f1⟩ : At)] : List (At))).bind fun y183 => ((some (x3.drop (x5 : Int).toNat : List (At))).bind fun y186 => (if y183.length + y186.length < 2932031007402 then (yb0.l0 k x0 (y183 ++ y186) (wrap64 (x4 + 1))) else (none)))) else (none))) else (none))) else (none)))) else (none)) else (none)) else (none)) else (if 0 ≤ x5 then (if x5 ≤ (x3.length : Int) then ((some (x3.take (x5 : Int).toNat : List (At))).bind fun y193 => (if ([] : List (At)).length + y193.length < 2932031007402 then ((some (([] : List (At)) ++ y193 : List (At))).bind fun y197 => (if 0 ≤ x4 then (if x4 < (x0.length : Int) then (if y197.length < 2932031007402 then ((some (y197 ++ [(⟨(⟨(rdAt x0 x4).f0.f0, (rdAt x0 x4).f0.f1⟩ : Nm), (rdAt x0 x4).f1⟩ : At)] : List (At))).bind fun y201 => ((some (x3.drop (x5 : Int).toNat : List (At))).bind fun y204 => (if y201.length + y204.length < 2932031007402 then (yb0.l0 k x0 (y201 ++ y204) (wrap64 (x4 + 1))) else (none)))) else (none)) else (none)) else (none))) else (none))) else (none)) else (none))
end
def yb0.f (k : Nat) (l0 : List (At)) : Option ((List (At))) := yb0.l0 k l0 ([] : List (At)) 0
def yb0.T6 : Bool × List (List Nat × List Nat) := (true, [([], []), ([], []), ([1], [1]), ([0, 2], [0, 2]), ([3], [3]), ([4], [4]), ([4], [4]), ([5, 6, 4], [4, 5, 6]), ([7, 4], [4, 7]), ([4], [4]), ([4], [4]), ([9, 10, 4], [4, 9, 10]), ([11, 4], [4, 11]), ([8, 12, 4, 4], [4, 8, 12]), ([4, 13], [4, 13])])
def yb0.B6 : List Nat := [0, 0, 2, 7, 15, 31, 31, 127, 255, 31, 31, 1567, 3615, 8191, 16383]
theorem yb0.tab6 : rtab .any (opsOf Tryd.f72 6) = yb0.T6 := by kernel_rfl
theorem yb0.bits6 : ym4 yb0.T6.2 yb0.B6 = true := by kernel_rfl
set_option maxHeartbeats 8000000 in
set_option maxRecDepth 100000 in
theorem yb0.calls (k : Nat) (A0 : Option Addr) (c0 : Nat) (l0 : List (At)) (r : List (At)) (w : World) (hr0 : Kd.C kAt w A0 l0.length l0) (hc0 : l0.length ≤ c0) (h : yb0.f k l0 = some r) :
  Calls Tryd.prog 72 #[.slice A0 l0.length c0] w fun e w' => ∃ v0_ : Value, e = .returned (v0_) ∧ Kd.R kAt 63 w' w.heap.size (fun _ => True) v0_ r ∧ Below w.heap.size w w' := by
 have hu63 := Tryd.underlying63
 have HR0 := Aside0.mk hr0
 have HC0 := Aside0.mk hc0
 clear hr0 hc0
 have HB := Aside0.mk (Below.refl w.heap.size w)
 have H : (yb0.l0 k l0 ([] : List (At)) 0) = some r := h
 clear h
 have H' := Aside0.mk H
 clear H
 go_enter Tryd.func72, Tryd.ntmps72
 go_wp2
 go_loopg [3, 4] k (fun kq v3 v4 w' => ∃ (x3_1 : List (At)) (x4_1 : Int), v4 = .int .i64 x4_1 ∧ Aside0 (yb0.l0 kq l0 x3_1 x4_1 = some r) ∧ Aside0 (kq ≤ k) ∧ Aside0 (Kd.R kAt 63 w' w.heap.size (fun _ => True) v3 x3_1) ∧ Aside0 (Below w.heap.size w w'))
 case atStart => exact ⟨(([] : List (At))), (0), (by first | rfl | (simp; done) | (simp [*]; done)), H', ⟨Nat.le_refl _⟩, ⟨by first | exact Kd.R_nil _ _ _ _ _ | exact Kd.N_nil _ _ _ _ _ | exact Kd.V_nil _ _ _ _ _ | exact Kd.Q_nil _ _ _ _ _ | exact Kd.S_nil _ _ _ _ _⟩, ⟨by repeat (first | (with_reducible first | exact HB.out | apply ya2 | apply ya0 | apply ya1) | exact HB.out)⟩⟩
 case round =>
  clear H'
  obtain ⟨x3_1, x4_1, rfl, HA, HK1, HO_3, HB⟩ := hrel
  cases gk with
  | zero => exact absurd HA.out (by simp [yb0.l0])
  | succ k1 =>
   have H := HA.out
   clear HA
   simp only [yb0.l0] at H
   by_cases c2 : x4_1 < (l0.length : Int)
   rotate_left 1
   ·rw [if_neg c2] at H
    have c2b0 : decide (x4_1 < (l0.length : Int)) = false := decide_eq_false c2
    clear c2
    obtain rfl := Option.some.inj H
    go_wp2
    go_ret
    exact ⟨_, by first | rfl | (simp [yb3, yb2] <;> rfl) | (simp [*, yb3, yb2] <;> rfl), by (with_reducible repeat (first | apply Kd.yc7 | apply Kd.R_drewN | apply Kd.R_drew)); exact HO_3.out, by repeat (first | (with_reducible first | exact HB.out | apply ya2 | apply ya0 | apply ya1) | exact HB.out)⟩

   rw [if_pos c2] at H
   have c2b0 : decide (x4_1 < (l0.length : Int)) = true := decide_eq_true c2
   clear c2
   have H' := Aside0.mk H
   clear H
   go_wp2
   go_loopg [5] k1 (fun kq v5 w' => ∃ (x5_2 : Int), v5 = .int .i64 x5_2 ∧ Aside0 (yb0.l1 kq l0 x3_1 x4_1 x5_2 = some r) ∧ Aside0 (kq ≤ k1) ∧ Aside0 (Kd.R kAt 63 w' w.heap.size (fun _ => True) u3 x3_1) ∧ Aside0 (Below w.heap.size w w'))
   case atStart => exact ⟨(0), (by first | rfl | (simp; done) | (simp [*]; done)), H', ⟨Nat.le_refl _⟩, ⟨by (with_reducible repeat (first | apply Kd.yc7 | apply Kd.R_drewN | apply Kd.R_drew)); exact HO_3.out⟩, ⟨by repeat (first | (with_reducible first | exact HB.out | apply ya2 | apply ya0 | apply ya1) | exact HB.out)⟩⟩
   case round =>
    clear H'
    try clear c2
    try clear c2b0
    try clear p2
    obtain ⟨x5_2, rfl, HA, HK2, HO_3, HB⟩ := hrel
    cases gk with
    | zero => exact absurd HA.out (by simp [yb0.l1])
    | succ k2 =>
     have H := HA.out
     clear HA
     simp only [yb0.l1] at H
     by_cases c3 : x5_2 < (x3_1.length : Int)
     ·rw [if_pos c3] at H
      have c3b0 : decide (x5_2 < (x3_1.length : Int)) = true := decide_eq_true c3
      clear c3
      by_cases c4 : 0 ≤ x5_2
      rotate_left 1
      ·rw [if_neg c4] at H
       exact absurd H (by simp)
      rw [if_pos c4] at H
      have c4b0 : decide (0 ≤ x5_2) = true := decide_eq_true c4
      clear c4
      by_cases c5 : 0 ≤ x4_1
      rotate_left 1
      ·rw [if_neg c5] at H
       exact absurd H (by simp)
      rw [if_pos c5] at H
      have c5b0 : decide (0 ≤ x4_1) = true := decide_eq_true c5
      clear c5
      by_cases c6 : x4_1 < (l0.length : Int)
      rotate_left 1
      ·rw [if_neg c6] at H
       exact absurd H (by simp)
      rw [if_pos c6] at H
      have c6b0 : decide (x4_1 < (l0.length : Int)) = true := decide_eq_true c6
      clear c6
      replace H := Option.bind_eq_some_iff.mp H
      obtain ⟨t174, A70, H⟩ := H
      replace H : (if t174 = true then (yb0.l1 k2 l0 x3_1 x4_1 (wrap64 (x5_2 + 1))) else (if x5_2 ≤ (x3_1.length : Int) then ((some (x3_1.take (x5_2 : Int).toNat : List (At))).bind fun y175 => (if ([] : List (At)).length + y175.length < 2932031007402 then ((some (([] : List (At)) ++ y175 : List (At))).bind fun y179 => (if y179.length < 2932031007402 then ((some (y179 ++ [(⟨(⟨(rdAt l0 x4_1).f0.f0, (rdAt l0 x4_1).f0.f1⟩ : Nm), (rdAt l0 x4_1).f1⟩ : At)] : List (At))).bind fun y183 => ((some (x3_1.drop (x5_2 : Int).toNat : List (At))).bind fun y186 => (if y183.length + y186.length < 2932031007402 then (yb0.l0 k2 l0 (y183 ++ y186) (wrap64 (x4_1 + 1))) else (none)))) else (none))) else (none))) else (none))) = some r := H
      have A7 := Aside0.mk A70
      clear A70
      by_cases c8 : t174 = true
      ·subst c8
       have H1 : (yb0.l1 k2 l0 x3_1 x4_1 (wrap64 (x5_2 + 1))) = some r := by rw [if_pos rfl] at H; exact H
       clear H
       have H := H1
       clear H1
       have H' := Aside0.mk H
       clear H
       try go_wp2
       have n0_ := Aside0.mk (Kd.R_drew HO_3.out)
       have n1_ := Aside0.mk (ya1 HB.out)
       clear HO_3
       clear HB
       have HO_3 := n0_
       have HB := n1_
       clear n0_ n1_
       obtain ⟨Ao10, co10, eo10⟩ := Kd.yh1 HO_3.out
       (first | subst eo10 | (injection eo10 with f1_ f2_ f3_; have f4_ := f1_.symm; have f5_ := f3_.symm; clear f1_ f2_ f3_; subst f4_; subst f5_))
       have p172 : 0 ≤ (x5_2 : Int) := of_decide_eq_true (by first | (with_reducible assumption) | assumption)
       have q172 : x5_2 < (x3_1.length : Int) := of_decide_eq_true (by first | (with_reducible assumption) | assumption)
       obtain ⟨ad172, e172, hx172_0, hx172_1, hx172_2⟩ := atAt (Kd.yd6 HO_3.out).2.2 x5_2 p172 q172
       cases e172
       replace p172 := eq_true p172
       replace q172 := eq_true q172
       have p173 : 0 ≤ (x4_1 : Int) := of_decide_eq_true (by first | (with_reducible assumption) | assumption)
       have q173 : x4_1 < (l0.length : Int) := of_decide_eq_true (by first | (with_reducible assumption) | assumption)
       obtain ⟨ad173, e173, hx173_0, hx173_1, hx173_2⟩ := atAt HR0.out x4_1 p173 q173
       have hw173_2 := hx173_2
       have hw173_1 := hx173_1
       have hw173_0 := hx173_0
       cases e173
       replace hx173_0 := cup HB.out hx173_0
       replace hx173_1 := cup HB.out hx173_1
       replace hx173_2 := cup HB.out hx173_2
       replace p173 := eq_true p173
       replace q173 := eq_true q173
       refine start_ (n := 15) (S := fun w' => w'.cell? (ad172.add ((x5_2).toNat * 3)) = some (.string ((rdAt x3_1 x5_2).f0.f0)) ∧ w'.cell? ⟨(ad172.add ((x5_2).toNat * 3)).block, (ad172.add ((x5_2).toNat * 3)).off + 1, none⟩ = some (.string ((rdAt x3_1 x5_2).f0.f1)) ∧ w'.cell? ⟨(ad172.add ((x5_2).toNat * 3)).block, (ad172.add ((x5_2).toNat * 3)).off + 2, none⟩ = some (.string ((rdAt x3_1 x5_2).f1)) ∧ w'.cell? (ad173.add ((x4_1).toNat * 3)) = some (.string ((rdAt l0 x4_1).f0.f0)) ∧ w'.cell? ⟨(ad173.add ((x4_1).toNat * 3)).block, (ad173.add ((x4_1).toNat * 3)).off + 1, none⟩ = some (.string ((rdAt l0 x4_1).f0.f1)) ∧ w'.cell? ⟨(ad173.add ((x4_1).toNat * 3)).block, (ad173.add ((x4_1).toNat * 3)).off + 2, none⟩ = some (.string ((rdAt l0 x4_1).f1))) (ds := []) #[false, false, false, false, false, false, false, false, false, false, false, false, false, false, false] (by kernel_rfl) rfl rfl ⟨hx172_0, hx172_1, hx172_2, (cup HB.out hw173_0), (cup HB.out hw173_1), (cup HB.out hw173_2)⟩ (fun hHeld => ?_); refine yk4 yb0.tab6 yb0.bits6 (fun HT_ HW_ => ?_)
       generalize wr.drew = w9 at HO_3 HB hx172_0 hx172_1 hx172_2 hx173_0 hx173_1 hx173_2 hHeld ⊢
       refine pure_ (i := 0) (N := some 13) (v := ?_) (a' := ?_) #[true, false, false, false, false, false, false, false, false, false, false, false, false, false, false] rfl rfl (any_of HT_.out (by kernel_rfl)) (fun _ _ _ h => h) (Or.inl ⟨by rfl, ?_⟩) ?_ ?_
       rotate_left
       ·intro w'
        go_simp
        with_reducible rfl
       rotate_left
       ·simp only [Act.put, zA, zB, zC, i64_w, i32_w]
        rfl
       refine pure_ (i := 1) (N := some 14) (v := ?_) (a' := ?_) #[true, true, false, false, false, false, false, false, false, false, false, false, false, false, false] rfl rfl (any_of HT_.out (by kernel_rfl)) (fun _ _ _ h => h) (Or.inl ⟨by rfl, ?_⟩) ?_ ?_
       rotate_left
       ·intro w'
        go_simp
        with_reducible rfl
       rotate_left
       ·simp only [Act.put, zA, zB, zC, i64_w, i32_w]
        rfl
       refine pure_ (i := 2) (N := some 15) (v := ?_) (a' := ?_) #[true, true, true, false, false, false, false, false, false, false, false, false, false, false, false] rfl rfl (any_of HT_.out (by kernel_rfl)) (fun _ _ _ h => h) (Or.inl ⟨by rfl, ?_⟩) ?_ ?_
       rotate_left
       ·intro w'
        go_simp
        with_reducible rfl
       rotate_left
       ·simp only [Act.put, zA, zB, zC, i64_w, i32_w]
        rfl
       refine pure_ (i := 3) (N := some 16) (v := ?_) (a' := ?_) #[true, true, true, true, false, false, false, false, false, false, false, false, false, false, false] rfl rfl (any_of HT_.out (by kernel_rfl)) (fun _ _ _ h => h) (Or.inl ⟨by rfl, ?_⟩) ?_ ?_
       rotate_left
       ·intro w'
        go_simp
        with_reducible rfl
       rotate_left
       ·simp only [Act.put, zA, zB, zC, i64_w, i32_w]
        rfl
       refine pure_ (i := 4) (N := some 17) (v := ?_) (a' := ?_) #[true, true, true, true, true, false, false, false, false, false, false, false, false, false, false] rfl rfl (any_of HT_.out (by kernel_rfl)) (fun _ _ _ h => h) (Or.inl ⟨by rfl, ?_⟩) ?_ ?_
       rotate_left
       ·intro w'
        go_simp
        with_reducible rfl
       rotate_left
       ·simp only [Act.put, zA, zB, zC, i64_w, i32_w]
        rfl
       refine pure_ (i := 5) (N := some 18) (v := ?_) (a' := ?_) #[true, true, true, true, true, true, false, false, false, false, false, false, false, false, false] rfl rfl (any_of HT_.out (by kernel_rfl)) (fun _ _ _ h => h) (Or.inl ⟨by rfl, ?_⟩) ?_ ?_
       rotate_left
       ·intro w'
        go_simp
        with_reducible rfl
       rotate_left
       ·simp only [Act.put, zA, zB, zC, i64_w, i32_w]
        rfl
       refine pure_ (i := 6) (N := some 19) (v := ?_) (a' := ?_) #[true, true, true, true, true, true, true, false, false, false, false, false, false, false, false] rfl rfl (any_of HT_.out (by kernel_rfl)) (fun _ _ _ h => h) (Or.inl ⟨by rfl, ?_⟩) ?_ ?_
       rotate_left
       ·intro w'
        go_simp
        with_reducible rfl
       rotate_left
       ·simp only [Act.put, zA, zB, zC, i64_w, i32_w]
        rfl
       refine pure_ (i := 7) (N := some 20) (v := ?_) (a' := ?_) #[true, true, true, true, true, true, true, true, false, false, false, false, false, false, false] rfl rfl (any_of HT_.out (by kernel_rfl)) (fun _ _ _ h => h) (Or.inl ⟨by rfl, ?_⟩) ?_ ?_
       rotate_left
       ·intro w'
        go_simp
        with_reducible rfl
       rotate_left
       ·simp only [Act.put, zA, zB, zC, i64_w, i32_w]
        rfl
       refine pure_ (i := 9) (N := some 22) (v := ?_) (a' := ?_) #[true, true, true, true, true, true, true, true, false, true, false, false, false, false, false] rfl rfl (any_of HT_.out (by kernel_rfl)) (fun _ _ _ h => h) (Or.inl ⟨by rfl, ?_⟩) ?_ ?_
       rotate_left
       ·intro w'
        go_simp
        with_reducible rfl
       rotate_left
       ·simp only [Act.put, zA, zB, zC, i64_w, i32_w]
        rfl
       refine pure_ (i := 10) (N := some 23) (v := ?_) (a' := ?_) #[true, true, true, true, true, true, true, true, false, true, true, false, false, false, false] rfl rfl (any_of HT_.out (by kernel_rfl)) (fun _ _ _ h => h) (Or.inl ⟨by rfl, ?_⟩) ?_ ?_
       rotate_left
       ·intro w'
        go_simp
        with_reducible rfl
       rotate_left
       ·simp only [Act.put, zA, zB, zC, i64_w, i32_w]
        rfl
       refine pure_ (i := 11) (N := some 24) (v := ?_) (a' := ?_) #[true, true, true, true, true, true, true, true, false, true, true, true, false, false, false] rfl rfl (any_of HT_.out (by kernel_rfl)) (fun _ _ _ h => h) (Or.inl ⟨by rfl, ?_⟩) ?_ ?_
       rotate_left
       ·intro w'
        go_simp
        with_reducible rfl
       rotate_left
       ·simp only [Act.put, zA, zB, zC, i64_w, i32_w]
        rfl
       refine take_ (i := 8) (N := some 21) (v := ?_) (a' := ?_) #[true, true, true, true, true, true, true, true, true, true, true, true, false, false, false] rfl rfl (yj1 HT_.out HW_.out (by kernel_rfl)) (fun _ _ _ h => h) (Or.inl ⟨by rfl, ?_⟩) hHeld ?_ ?_
       rotate_left
       ·rintro w' ⟨s0, s1, s2, s3, s4, s5⟩
        go_simp
        with_reducible rfl
       rotate_left
       ·simp only [Act.put, zA, zB, zC, i64_w, i32_w]
        rfl
       refine take_ (i := 12) (N := some 25) (v := ?_) (a' := ?_) #[true, true, true, true, true, true, true, true, true, true, true, true, true, false, false] rfl rfl (yj1 HT_.out HW_.out (by kernel_rfl)) (fun _ _ _ h => h) (Or.inl ⟨by rfl, ?_⟩) hHeld ?_ ?_
       rotate_left
       ·rintro w' ⟨s0, s1, s2, s3, s4, s5⟩
        go_simp
        with_reducible rfl
       rotate_left
       ·simp only [Act.put, zA, zB, zC, i64_w, i32_w]
        rfl
       refine one_ (i := 13) (N := some 26) #[true, true, true, true, true, true, true, true, true, true, true, true, true, true, false] rfl rfl (one_of HT_.out (by kernel_rfl)) (by decide) (fun K hK => ?_)
       refine goes_ Tryd.func110 (by kernel_rfl) rfl #[.agg #[.string ((rdAt x3_1 x5_2).f0.f0), .string ((rdAt x3_1 x5_2).f0.f1), .string ((rdAt x3_1 x5_2).f1)], .agg #[.string ((rdAt l0 x4_1).f0.f0), .string ((rdAt l0 x4_1).f0.f1), .string ((rdAt l0 x4_1).f1)]] (by rfl) rfl rfl (by (try simp only [List.map_toArray, List.map_cons, List.map_nil]); first | done | rfl | (simp only [List.length_drop, List.length_take]; rfl) | (simp only [ByteArray.size_extract]; rfl)) ?_
       with_reducible refine (ye5.calls ((rdAt x3_1 x5_2).f0.f0) ((rdAt x3_1 x5_2).f0.f1) ((rdAt x3_1 x5_2).f1) ((rdAt l0 x4_1).f0.f0) ((rdAt l0 x4_1).f0.f1) ((rdAt l0 x4_1).f1) true _ A7.out).mono ?_
       rintro e w11 ⟨rfl, hb⟩
       have HS0_ := (hb.cell (World.block_lt_of_cell? _ _ (hHeld.1))).trans (hHeld.1)
       have HS1_ := (hb.cell (World.block_lt_of_cell? _ _ (hHeld.2.1))).trans (hHeld.2.1)
       have HS2_ := (hb.cell (World.block_lt_of_cell? _ _ (hHeld.2.2.1))).trans (hHeld.2.2.1)
       refine ⟨_, rfl, ?_⟩
       have n0_ := Aside0.mk (Kd.yh4 (by (with_reducible repeat (first | apply Kd.yc7 | apply Kd.R_drewN | apply Kd.R_drew)); exact HO_3.out) hb)
       have n1_ := Aside0.mk (ya7 (by repeat (first | (with_reducible first | exact HB.out | apply ya2 | apply ya0 | apply ya1) | exact HB.out)) hb)
       clear HO_3
       clear HB
       have HO_3 := n0_
       have HB := n1_
       clear n0_ n1_
       (try clear hb)
       (try clear hb2)
       (try clear hk)
       (try clear hi)
       refine hK.out _ _ ⟨HS0_, HS1_, HS2_, (cup HB.out hw173_0), (cup HB.out hw173_1), (cup HB.out hw173_2)⟩ (fun hHeld => ?_)
       clear hK K
       refine norm_ (a' := ?_) ?_ ?_
       rotate_left
       ·show Act.put _ (some 26) _ = _
        simp only [Act.put, zA, zB, zC, i64_w, i32_w]
        rfl
       refine pure_ (i := 14) (N := some 27) (v := ?_) (a' := ?_) #[true, true, true, true, true, true, true, true, true, true, true, true, true, true, true] rfl rfl (any_of HT_.out (by kernel_rfl)) (fun _ _ _ h => h) (Or.inl ⟨by rfl, ?_⟩) ?_ ?_
       rotate_left
       ·intro w'
        go_simp
        with_reducible rfl
       rotate_left
       ·simp only [Act.put, zA, zB, zC, i64_w, i32_w]
        rfl
       refine done_ (yo6 HT_.out (by kernel_rfl)) ?_
       try go_wp2
       go_roundg k2
       case measure => have := HK1.out; have := HK2.out; omega
       case rel => exact ⟨(wrap64 (x5_2 + 1)), (by first | rfl | (simp; done) | (simp [*]; done)), H', ⟨by have := HK1.out; have := HK2.out; omega⟩, ⟨by (with_reducible repeat (first | apply Kd.yc7 | apply Kd.R_drewN | apply Kd.R_drew)); exact HO_3.out⟩, ⟨by repeat (first | (with_reducible first | exact HB.out | apply ya2 | apply ya0 | apply ya1) | exact HB.out)⟩⟩
      ·replace c8 := Bool.eq_false_iff.mpr c8
       subst c8
       have H1 : (if x5_2 ≤ (x3_1.length : Int) then ((some (x3_1.take (x5_2 : Int).toNat : List (At))).bind fun y175 => (if ([] : List (At)).length + y175.length < 2932031007402 then ((some (([] : List (At)) ++ y175 : List (At))).bind fun y179 => (if y179.length < 2932031007402 then ((some (y179 ++ [(⟨(⟨(rdAt l0 x4_1).f0.f0, (rdAt l0 x4_1).f0.f1⟩ : Nm), (rdAt l0 x4_1).f1⟩ : At)] : List (At))).bind fun y183 => ((some (x3_1.drop (x5_2 : Int).toNat : List (At))).bind fun y186 => (if y183.length + y186.length < 2932031007402 then (yb0.l0 k2 l0 (y183 ++ y186) (wrap64 (x4_1 + 1))) else (none)))) else (none))) else (none))) else (none)) = some r := by rw [if_neg (show ¬ (false = true) by decide)] at H; exact H
       clear H
       have H := H1
       clear H1
       have c12b0 := eq_true (of_decide_eq_true (by first | (with_reducible assumption) | assumption) : 0 ≤ x5_2)
       by_cases c13 : x5_2 ≤ (x3_1.length : Int)
       rotate_left 1
       ·rw [if_neg c13] at H
        exact absurd H (by simp)
       rw [if_pos c13] at H
       have c13b0 := eq_true c13
       have c13b1 : decide (x5_2 ≤ (x3_1.length : Int)) = true := decide_eq_true c13
       clear c13
       obtain ⟨y175, hy175⟩ : ∃ y_ : List (At), y_ = (x3_1.take (x5_2 : Int).toNat) := ⟨_, rfl⟩
       replace H : (if ([] : List (At)).length + y175.length < 2932031007402 then ((some (([] : List (At)) ++ y175 : List (At))).bind fun y179 => (if y179.length < 2932031007402 then ((some (y179 ++ [(⟨(⟨(rdAt l0 x4_1).f0.f0, (rdAt l0 x4_1).f0.f1⟩ : Nm), (rdAt l0 x4_1).f1⟩ : At)] : List (At))).bind fun y183 => ((some (x3_1.drop (x5_2 : Int).toNat : List (At))).bind fun y186 => (if y183.length + y186.length < 2932031007402 then (yb0.l0 k2 l0 (y183 ++ y186) (wrap64 (x4_1 + 1))) else (none)))) else (none))) else (none)) = some r := by first | (rw [hy175]; with_reducible exact H) | (have H2_ := (Option.bind_some _ _).symm.trans H; rw [hy175]; with_reducible exact H2_) | (have H2_ := (Option.bind_some _ _).symm.trans H; with_reducible exact H2_) | with_reducible exact H | (rw [hy175]; exact H) | exact H
       have Ny175 := Aside0.mk hy175
       clear hy175
       by_cases c14 : ([] : List (At)).length + y175.length < 2932031007402
       rotate_left 1
       ·rw [if_neg c14] at H
        exact absurd H (by simp)
       rw [if_pos c14] at H
       have LMc14 := Aside0.mk c14
       clear c14
       obtain ⟨y179, hy179⟩ : ∃ y_ : List (At), y_ = (([] : List (At)) ++ y175) := ⟨_, rfl⟩
       replace H : (if y179.length < 2932031007402 then ((some (y179 ++ [(⟨(⟨(rdAt l0 x4_1).f0.f0, (rdAt l0 x4_1).f0.f1⟩ : Nm), (rdAt l0 x4_1).f1⟩ : At)] : List (At))).bind fun y183 => ((some (x3_1.drop (x5_2 : Int).toNat : List (At))).bind fun y186 => (if y183.length + y186.length < 2932031007402 then (yb0.l0 k2 l0 (y183 ++ y186) (wrap64 (x4_1 + 1))) else (none)))) else (none)) = some r := by first | (rw [hy179]; with_reducible exact H) | (have H2_ := (Option.bind_some _ _).symm.trans H; rw [hy179]; with_reducible exact H2_) | (have H2_ := (Option.bind_some _ _).symm.trans H; with_reducible exact H2_) | with_reducible exact H | (rw [hy179]; exact H) | exact H
       have Ny179 := Aside0.mk hy179
       clear hy179
       by_cases c15 : y179.length < 2932031007402
       rotate_left 1
       ·rw [if_neg c15] at H
        exact absurd H (by simp)
       rw [if_pos c15] at H
       have LMc15 := Aside0.mk c15
       clear c15
       obtain ⟨y183, hy183⟩ : ∃ y_ : List (At), y_ = (y179 ++ [(⟨(⟨(rdAt l0 x4_1).f0.f0, (rdAt l0 x4_1).f0.f1⟩ : Nm), (rdAt l0 x4_1).f1⟩ : At)]) := ⟨_, rfl⟩
       replace H : ((some (x3_1.drop (x5_2 : Int).toNat : List (At))).bind fun y186 => (if y183.length + y186.length < 2932031007402 then (yb0.l0 k2 l0 (y183 ++ y186) (wrap64 (x4_1 + 1))) else (none))) = some r := by first | (rw [hy183]; with_reducible exact H) | (have H2_ := (Option.bind_some _ _).symm.trans H; rw [hy183]; with_reducible exact H2_) | (have H2_ := (Option.bind_some _ _).symm.trans H; with_reducible exact H2_) | with_reducible exact H | (rw [hy183]; exact H) | exact H
       have Ny183 := Aside0.mk hy183
       clear hy183
       have c16b0 := eq_true (of_decide_eq_true (by first | (with_reducible assumption) | assumption) : 0 ≤ x5_2)
       have c17b0 := eq_true (of_decide_eq_true (by first | (with_reducible assumption) | assumption) : x5_2 ≤ (x3_1.length : Int))
       obtain ⟨y186, hy186⟩ : ∃ y_ : List (At), y_ = (x3_1.drop (x5_2 : Int).toNat) := ⟨_, rfl⟩
       replace H : (if y183.length + y186.length < 2932031007402 then (yb0.l0 k2 l0 (y183 ++ y186) (wrap64 (x4_1 + 1))) else (none)) = some r := by first | (rw [hy186]; with_reducible exact H) | (have H2_ := (Option.bind_some _ _).symm.trans H; rw [hy186]; with_reducible exact H2_) | (have H2_ := (Option.bind_some _ _).symm.trans H; with_reducible exact H2_) | with_reducible exact H | (rw [hy186]; exact H) | exact H
       have Ny186 := Aside0.mk hy186
       clear hy186
       by_cases c18 : y183.length + y186.length < 2932031007402
       rotate_left 1
       ·rw [if_neg c18] at H
        exact absurd H (by simp)
       rw [if_pos c18] at H
       have LMc18 := Aside0.mk c18
       clear c18
       obtain ⟨y190, hy190⟩ : ∃ y_ : List (At), y_ = (y183 ++ y186) := ⟨_, rfl⟩
       replace H : (yb0.l0 k2 l0 y190 (wrap64 (x4_1 + 1))) = some r := by first | (rw [hy190]; with_reducible exact H) | (have H2_ := (Option.bind_some _ _).symm.trans H; rw [hy190]; with_reducible exact H2_) | (have H2_ := (Option.bind_some _ _).symm.trans H; with_reducible exact H2_) | with_reducible exact H | (rw [hy190]; exact H) | exact H
       have Ny190 := Aside0.mk hy190
       clear hy190
       have H' := Aside0.mk H
       clear H
       try go_wp2
       have n0_ := Aside0.mk (Kd.R_drew HO_3.out)
       have n1_ := Aside0.mk (ya1 HB.out)
       clear HO_3
       clear HB
       have HO_3 := n0_
       have HB := n1_
       clear n0_ n1_
       obtain ⟨Ao20, co20, eo20⟩ := Kd.yh1 HO_3.out
       (first | subst eo20 | (injection eo20 with f1_ f2_ f3_; have f4_ := f1_.symm; have f5_ := f3_.symm; clear f1_ f2_ f3_; subst f4_; subst f5_))
       have p172 : 0 ≤ (x5_2 : Int) := of_decide_eq_true (by first | (with_reducible assumption) | assumption)
       have q172 : x5_2 < (x3_1.length : Int) := of_decide_eq_true (by first | (with_reducible assumption) | assumption)
       obtain ⟨ad172, e172, hx172_0, hx172_1, hx172_2⟩ := atAt (Kd.yd6 HO_3.out).2.2 x5_2 p172 q172
       cases e172
       replace p172 := eq_true p172
       replace q172 := eq_true q172
       have p173 : 0 ≤ (x4_1 : Int) := of_decide_eq_true (by first | (with_reducible assumption) | assumption)
       have q173 : x4_1 < (l0.length : Int) := of_decide_eq_true (by first | (with_reducible assumption) | assumption)
       obtain ⟨ad173, e173, hx173_0, hx173_1, hx173_2⟩ := atAt HR0.out x4_1 p173 q173
       have hw173_2 := hx173_2
       have hw173_1 := hx173_1
       have hw173_0 := hx173_0
       cases e173
       replace hx173_0 := cup HB.out hx173_0
       replace hx173_1 := cup HB.out hx173_1
       replace hx173_2 := cup HB.out hx173_2
       replace p173 := eq_true p173
       replace q173 := eq_true q173
       refine start_ (n := 15) (S := fun w' => w'.cell? (ad172.add ((x5_2).toNat * 3)) = some (.string ((rdAt x3_1 x5_2).f0.f0)) ∧ w'.cell? ⟨(ad172.add ((x5_2).toNat * 3)).block, (ad172.add ((x5_2).toNat * 3)).off + 1, none⟩ = some (.string ((rdAt x3_1 x5_2).f0.f1)) ∧ w'.cell? ⟨(ad172.add ((x5_2).toNat * 3)).block, (ad172.add ((x5_2).toNat * 3)).off + 2, none⟩ = some (.string ((rdAt x3_1 x5_2).f1)) ∧ w'.cell? (ad173.add ((x4_1).toNat * 3)) = some (.string ((rdAt l0 x4_1).f0.f0)) ∧ w'.cell? ⟨(ad173.add ((x4_1).toNat * 3)).block, (ad173.add ((x4_1).toNat * 3)).off + 1, none⟩ = some (.string ((rdAt l0 x4_1).f0.f1)) ∧ w'.cell? ⟨(ad173.add ((x4_1).toNat * 3)).block, (ad173.add ((x4_1).toNat * 3)).off + 2, none⟩ = some (.string ((rdAt l0 x4_1).f1))) (ds := []) #[false, false, false, false, false, false, false, false, false, false, false, false, false, false, false] (by kernel_rfl) rfl rfl ⟨hx172_0, hx172_1, hx172_2, (cup HB.out hw173_0), (cup HB.out hw173_1), (cup HB.out hw173_2)⟩ (fun hHeld => ?_); refine yk4 yb0.tab6 yb0.bits6 (fun HT_ HW_ => ?_)
       generalize wr.drew = w19 at HO_3 HB hx172_0 hx172_1 hx172_2 hx173_0 hx173_1 hx173_2 hHeld ⊢
       refine pure_ (i := 0) (N := some 13) (v := ?_) (a' := ?_) #[true, false, false, false, false, false, false, false, false, false, false, false, false, false, false] rfl rfl (any_of HT_.out (by kernel_rfl)) (fun _ _ _ h => h) (Or.inl ⟨by rfl, ?_⟩) ?_ ?_
       rotate_left
       ·intro w'
        go_simp
        with_reducible rfl
       rotate_left
       ·simp only [Act.put, zA, zB, zC, i64_w, i32_w]
        rfl
       refine pure_ (i := 1) (N := some 14) (v := ?_) (a' := ?_) #[true, true, false, false, false, false, false, false, false, false, false, false, false, false, false] rfl rfl (any_of HT_.out (by kernel_rfl)) (fun _ _ _ h => h) (Or.inl ⟨by rfl, ?_⟩) ?_ ?_
       rotate_left
       ·intro w'
        go_simp
        with_reducible rfl
       rotate_left
       ·simp only [Act.put, zA, zB, zC, i64_w, i32_w]
        rfl
       refine pure_ (i := 2) (N := some 15) (v := ?_) (a' := ?_) #[true, true, true, false, false, false, false, false, false, false, false, false, false, false, false] rfl rfl (any_of HT_.out (by kernel_rfl)) (fun _ _ _ h => h) (Or.inl ⟨by rfl, ?_⟩) ?_ ?_
       rotate_left
       ·intro w'
        go_simp
        with_reducible rfl
       rotate_left
       ·simp only [Act.put, zA, zB, zC, i64_w, i32_w]
        rfl
       refine pure_ (i := 3) (N := some 16) (v := ?_) (a' := ?_) #[true, true, true, true, false, false, false, false, false, false, false, false, false, false, false] rfl rfl (any_of HT_.out (by kernel_rfl)) (fun _ _ _ h => h) (Or.inl ⟨by rfl, ?_⟩) ?_ ?_
       rotate_left
       ·intro w'
        go_simp
        with_reducible rfl
       rotate_left
       ·simp only [Act.put, zA, zB, zC, i64_w, i32_w]
        rfl
       refine pure_ (i := 4) (N := some 17) (v := ?_) (a' := ?_) #[true, true, true, true, true, false, false, false, false, false, false, false, false, false, false] rfl rfl (any_of HT_.out (by kernel_rfl)) (fun _ _ _ h => h) (Or.inl ⟨by rfl, ?_⟩) ?_ ?_
       rotate_left
       ·intro w'
        go_simp
        with_reducible rfl
       rotate_left
       ·simp only [Act.put, zA, zB, zC, i64_w, i32_w]
        rfl
       refine pure_ (i := 5) (N := some 18) (v := ?_) (a' := ?_) #[true, true, true, true, true, true, false, false, false, false, false, false, false, false, false] rfl rfl (any_of HT_.out (by kernel_rfl)) (fun _ _ _ h => h) (Or.inl ⟨by rfl, ?_⟩) ?_ ?_
       rotate_left
       ·intro w'
        go_simp
        with_reducible rfl
       rotate_left
       ·simp only [Act.put, zA, zB, zC, i64_w, i32_w]
        rfl
       refine pure_ (i := 6) (N := some 19) (v := ?_) (a' := ?_) #[true, true, true, true, true, true, true, false, false, false, false, false, false, false, false] rfl rfl (any_of HT_.out (by kernel_rfl)) (fun _ _ _ h => h) (Or.inl ⟨by rfl, ?_⟩) ?_ ?_
       rotate_left
       ·intro w'
        go_simp
        with_reducible rfl
       rotate_left
       ·simp only [Act.put, zA, zB, zC, i64_w, i32_w]
        rfl
       refine pure_ (i := 7) (N := some 20) (v := ?_) (a' := ?_) #[true, true, true, true, true, true, true, true, false, false, false, false, false, false, false] rfl rfl (any_of HT_.out (by kernel_rfl)) (fun _ _ _ h => h) (Or.inl ⟨by rfl, ?_⟩) ?_ ?_
       rotate_left
       ·intro w'
        go_simp
        with_reducible rfl
       rotate_left
       ·simp only [Act.put, zA, zB, zC, i64_w, i32_w]
        rfl
       refine pure_ (i := 9) (N := some 22) (v := ?_) (a' := ?_) #[true, true, true, true, true, true, true, true, false, true, false, false, false, false, false] rfl rfl (any_of HT_.out (by kernel_rfl)) (fun _ _ _ h => h) (Or.inl ⟨by rfl, ?_⟩) ?_ ?_
       rotate_left
       ·intro w'
        go_simp
        with_reducible rfl
       rotate_left
       ·simp only [Act.put, zA, zB, zC, i64_w, i32_w]
        rfl
       refine pure_ (i := 10) (N := some 23) (v := ?_) (a' := ?_) #[true, true, true, true, true, true, true, true, false, true, true, false, false, false, false] rfl rfl (any_of HT_.out (by kernel_rfl)) (fun _ _ _ h => h) (Or.inl ⟨by rfl, ?_⟩) ?_ ?_
       rotate_left
       ·intro w'
        go_simp
        with_reducible rfl
       rotate_left
       ·simp only [Act.put, zA, zB, zC, i64_w, i32_w]
        rfl
       refine pure_ (i := 11) (N := some 24) (v := ?_) (a' := ?_) #[true, true, true, true, true, true, true, true, false, true, true, true, false, false, false] rfl rfl (any_of HT_.out (by kernel_rfl)) (fun _ _ _ h => h) (Or.inl ⟨by rfl, ?_⟩) ?_ ?_
       rotate_left
       ·intro w'
        go_simp
        with_reducible rfl
       rotate_left
       ·simp only [Act.put, zA, zB, zC, i64_w, i32_w]
        rfl
       refine take_ (i := 8) (N := some 21) (v := ?_) (a' := ?_) #[true, true, true, true, true, true, true, true, true, true, true, true, false, false, false] rfl rfl (yj1 HT_.out HW_.out (by kernel_rfl)) (fun _ _ _ h => h) (Or.inl ⟨by rfl, ?_⟩) hHeld ?_ ?_
       rotate_left
       ·rintro w' ⟨s0, s1, s2, s3, s4, s5⟩
        go_simp
        with_reducible rfl
       rotate_left
       ·simp only [Act.put, zA, zB, zC, i64_w, i32_w]
        rfl
       refine take_ (i := 12) (N := some 25) (v := ?_) (a' := ?_) #[true, true, true, true, true, true, true, true, true, true, true, true, true, false, false] rfl rfl (yj1 HT_.out HW_.out (by kernel_rfl)) (fun _ _ _ h => h) (Or.inl ⟨by rfl, ?_⟩) hHeld ?_ ?_
       rotate_left
       ·rintro w' ⟨s0, s1, s2, s3, s4, s5⟩
        go_simp
        with_reducible rfl
       rotate_left
       ·simp only [Act.put, zA, zB, zC, i64_w, i32_w]
        rfl
       refine one_ (i := 13) (N := some 26) #[true, true, true, true, true, true, true, true, true, true, true, true, true, true, false] rfl rfl (one_of HT_.out (by kernel_rfl)) (by decide) (fun K hK => ?_)
       refine goes_ Tryd.func110 (by kernel_rfl) rfl #[.agg #[.string ((rdAt x3_1 x5_2).f0.f0), .string ((rdAt x3_1 x5_2).f0.f1), .string ((rdAt x3_1 x5_2).f1)], .agg #[.string ((rdAt l0 x4_1).f0.f0), .string ((rdAt l0 x4_1).f0.f1), .string ((rdAt l0 x4_1).f1)]] (by rfl) rfl rfl (by (try simp only [List.map_toArray, List.map_cons, List.map_nil]); first | done | rfl | (simp only [List.length_drop, List.length_take]; rfl) | (simp only [ByteArray.size_extract]; rfl)) ?_
       with_reducible refine (ye5.calls ((rdAt x3_1 x5_2).f0.f0) ((rdAt x3_1 x5_2).f0.f1) ((rdAt x3_1 x5_2).f1) ((rdAt l0 x4_1).f0.f0) ((rdAt l0 x4_1).f0.f1) ((rdAt l0 x4_1).f1) false _ A7.out).mono ?_
       rintro e w21 ⟨rfl, hb⟩
       have HS0_ := (hb.cell (World.block_lt_of_cell? _ _ (hHeld.1))).trans (hHeld.1)
       have HS1_ := (hb.cell (World.block_lt_of_cell? _ _ (hHeld.2.1))).trans (hHeld.2.1)
       have HS2_ := (hb.cell (World.block_lt_of_cell? _ _ (hHeld.2.2.1))).trans (hHeld.2.2.1)
       refine ⟨_, rfl, ?_⟩
       have n0_ := Aside0.mk (Kd.yh4 (by (with_reducible repeat (first | apply Kd.yc7 | apply Kd.R_drewN | apply Kd.R_drew)); exact HO_3.out) hb)
       have n1_ := Aside0.mk (ya7 (by repeat (first | (with_reducible first | exact HB.out | apply ya2 | apply ya0 | apply ya1) | exact HB.out)) hb)
       clear HO_3
       clear HB
       have HO_3 := n0_
       have HB := n1_
       clear n0_ n1_
       (try clear hb)
       (try clear hb2)
       (try clear hk)
       (try clear hi)
       refine hK.out _ _ ⟨HS0_, HS1_, HS2_, (cup HB.out hw173_0), (cup HB.out hw173_1), (cup HB.out hw173_2)⟩ (fun hHeld => ?_)
       clear hK K
       refine norm_ (a' := ?_) ?_ ?_
       rotate_left
       ·show Act.put _ (some 26) _ = _
        simp only [Act.put, zA, zB, zC, i64_w, i32_w]
        rfl
       refine pure_ (i := 14) (N := some 27) (v := ?_) (a' := ?_) #[true, true, true, true, true, true, true, true, true, true, true, true, true, true, true] rfl rfl (any_of HT_.out (by kernel_rfl)) (fun _ _ _ h => h) (Or.inl ⟨by rfl, ?_⟩) ?_ ?_
       rotate_left
       ·intro w'
        go_simp
        with_reducible rfl
       rotate_left
       ·simp only [Act.put, zA, zB, zC, i64_w, i32_w]
        rfl
       refine done_ (yo6 HT_.out (by kernel_rfl)) ?_
       have q22 : (x5_2 : Int) ≤ ((x3_1.length : Int) : Int) := of_decide_eq_true (by first | (with_reducible assumption) | assumption)
       obtain ⟨i022, hi022, _, hsz22, _⟩ := info_parts info63
       have hroom22 : x3_1.length ≤ co20 := (Kd.yd6 HO_3.out).2.1
       have hC22 : Kd.C kAt _ (some ad172) x3_1.length x3_1 := (Kd.yd6 HO_3.out).2.2
       have hcut22 := cut_to (P := Tryd.prog) 24 63 .i64 Tryd.underlying24 hi022 (some ad172) x3_1.length co20 x5_2 (of_decide_eq_true (by first | (with_reducible assumption) | assumption)) q22 hroom22
       have hr22 := Kd.C_take (m := (x5_2 : Int).toNat) hC22 (by omega)
       have hy22 : y175.length = (x5_2 : Int).toNat := (by rw [Ny175.out, List.length_take]; omega)
       rw [← Ny175.out] at hr22
       rw [← hy22] at hcut22
       have HR178 := Aside0.mk hr22
       have HC178 := Aside0.mk (show y175.length ≤ co20 from by omega)
       clear hr22 hC22 hroom22 hi022 hsz22
       have KY22 := Aside0.mk hy22
       clear hy22
       have KL22 := Aside0.mk (show (x5_2 : Int).toNat ≤ x3_1.length from by omega)
       replace q22 := eq_true q22
       try go_wp2_with (first | ((with_reducible refine yh0 (b := .append) (xs := #[.tmp 30, .tmp 33]) rfl ?_); at_builtin; refine Kd.yh8 kAt (w0 := w) w.heap.size rfl (.tmp 30) (.tmp 33) 24 63 (.agg #[(.string ⟨#[]⟩), (.string ⟨#[]⟩), (.string ⟨#[]⟩)]) 48 rfl Tryd.underlying24 info63 rfl (by decide) (by omega) (.slice none 0 0) ([] : List (At)) y175 _ _ _ (fun k_ => some k_ ≠ (.slice (some ad172) x3_1.length co20 : Value).ownBlock) (fun _ => False) rfl rfl ?aO ?aR (fun _ _ h => h) (fun _ h => h.elim) ?aF ?aB ?aS ?aL ?_; (case aR => repeat (first | exact (by repeat (first | (with_reducible exact HR178.out) | (with_reducible refine Kd.C_alloc ?_ _) | (with_reducible refine Kd.C_drewN ?_ _) | (with_reducible refine Kd.C_drew ?_) | exact HR178.out)) | (with_reducible refine Kd.C_alloc ?_ _) | (with_reducible refine Kd.C_drewN ?_ _) | (with_reducible refine Kd.C_drew ?_))); (case aB => exact (by repeat (first | (with_reducible first | exact HB.out | apply ya2 | apply ya0 | apply ya1) | exact HB.out))); (case aF => exact (fun k_ hk => Kd.fresh' (Kd.R_lt (by (with_reducible repeat (first | apply Kd.yc7 | apply Kd.R_drewN | apply Kd.R_drew)); exact HO_3.out)) k_ hk)); (case aO => exact ((Kd.R_nil _ _ _ _ (fun k_ => some k_ ≠ (.slice (some ad172) x3_1.length co20 : Value).ownBlock)))); (case aS => exact (yb4 (by repeat (first | (with_reducible first | exact HB.out | apply ya2 | apply ya0 | apply ya1) | exact HB.out)))); (case aL => have := LMc14.out; first | omega | exact Nat.le_of_lt this); intro v180 w23 ho hb hg hat; rw [← Ny179.out] at ho; have n0_ := Aside0.mk (Kd.yh9 (Kd.yl0 (by (with_reducible repeat (first | apply Kd.yc7 | apply Kd.R_drewN | apply Kd.R_drew)); exact HO_3.out)) hg hat); have n1_ := Aside0.mk (hb); have n2_ := Aside0.mk ((show Kd.C kAt w23 (some ad172) y175.length y175 from by rw [Ny175.out]; exact Kd.C_take (m := (x5_2 : Int).toNat) ((Kd.yd6 (Kd.yh9 (Kd.yl0 (by (with_reducible repeat (first | apply Kd.yc7 | apply Kd.R_drewN | apply Kd.R_drew)); exact HO_3.out)) hg hat)).2.2) KL22.out)); have n3_ := Aside0.mk (ho); clear HO_3; clear HB; clear HR178; have HO_3 := n0_; have HB := n1_; have HR178 := n2_; have HO181 := n3_; clear n0_ n1_ n2_ n3_; clear ho hb hg hat; have p182 : 0 ≤ (x4_1 : Int) := of_decide_eq_true (by first | (with_reducible assumption) | assumption); have q182 : x4_1 < (l0.length : Int) := of_decide_eq_true (by first | (with_reducible assumption) | assumption); obtain ⟨ad182, e182, hx182_0, hx182_1, hx182_2⟩ := atAt HR0.out x4_1 p182 q182; obtain rfl : ad173 = ad182 := (by injection e182); replace hx182_0 := cup HB.out hx182_0; replace hx182_1 := cup HB.out hx182_1; replace hx182_2 := cup HB.out hx182_2; replace p182 := eq_true p182; replace q182 := eq_true q182) | ((with_reducible refine yh0 (b := .append) (xs := #[.tmp 35, .tmp 40]) rfl ?_); at_builtin; refine Kd.yp4 kAt (w0 := w) w.heap.size rfl (.tmp 35) (.tmp 40) 24 63 (.agg #[(.string ⟨#[]⟩), (.string ⟨#[]⟩), (.string ⟨#[]⟩)]) 48 rfl Tryd.underlying24 info63 rfl (by decide) (by omega) v180 y179 (⟨(⟨(rdAt l0 x4_1).f0.f0, (rdAt l0 x4_1).f0.f1⟩ : Nm), (rdAt l0 x4_1).f1⟩ : At) [.string ((rdAt l0 x4_1).f0.f0), .string ((rdAt l0 x4_1).f0.f1), .string ((rdAt l0 x4_1).f1)] (fun k_ => some k_ ≠ (.slice (some ad172) x3_1.length co20 : Value).ownBlock) (fun _ => False) rfl rfl ?aP (fun _ hk => hk.elim) ?aF ?aO ?aB ?aS ?aL ?_; (case aP => exact yr3 _ _ _ (⟨(⟨(rdAt l0 x4_1).f0.f0, (rdAt l0 x4_1).f0.f1⟩ : Nm), (rdAt l0 x4_1).f1⟩ : At)); (case aB => exact (by repeat (first | (with_reducible first | exact HB.out | apply ya2 | apply ya0 | apply ya1) | exact HB.out))); (case aF => exact (fun k_ hk => Kd.fresh' (Kd.R_lt (by (with_reducible repeat (first | apply Kd.yc7 | apply Kd.R_drewN | apply Kd.R_drew)); exact HO_3.out)) k_ hk)); (case aO => exact (by (with_reducible repeat (first | apply Kd.yc7 | apply Kd.R_drewN | apply Kd.R_drew)); exact HO181.out)); (case aS => exact (yb4 (by repeat (first | (with_reducible first | exact HB.out | apply ya2 | apply ya0 | apply ya1) | exact HB.out)))); (case aL => have := LMc15.out; first | omega | exact Nat.le_of_lt this); intro v184 w24 ho hb hg hat; rw [← Ny183.out] at ho; have n0_ := Aside0.mk (Kd.yh9 (ok := (fun _ => True)) (by (with_reducible repeat (first | apply Kd.yc7 | apply Kd.R_drewN | apply Kd.R_drew)); exact HO_3.out) hg hat); have n1_ := Aside0.mk (hb); have n2_ := Aside0.mk ((show Kd.C kAt w24 (some ad172) y175.length y175 from by rw [Ny175.out]; exact Kd.C_take (m := (x5_2 : Int).toNat) ((Kd.yd6 (Kd.yh9 (ok := (fun _ => True)) (by (with_reducible repeat (first | apply Kd.yc7 | apply Kd.R_drewN | apply Kd.R_drew)); exact HO_3.out) hg hat)).2.2) KL22.out)); have n3_ := Aside0.mk (ho); clear HO_3; clear HB; clear HR178; clear HO181; have HO_3 := n0_; have HB := n1_; have HR178 := n2_; have HO185 := n3_; clear n0_ n1_ n2_ n3_; clear ho hb hg hat; have q25 : (x5_2 : Int) ≤ ((x3_1.length : Int) : Int) := of_decide_eq_true (by first | (with_reducible assumption) | assumption); obtain ⟨i025, hi025, _, hsz25, _⟩ := info_parts info63; have hroom25 : x3_1.length ≤ co20 := (Kd.yd6 HO_3.out).2.1; have hC25 : Kd.C kAt _ (some ad172) x3_1.length x3_1 := (Kd.yd6 HO_3.out).2.2; have q025 : (0 : Int) ≤ (x5_2 : Int) := of_decide_eq_true (by first | (with_reducible assumption) | assumption); have hcut25 := cut_from (P := Tryd.prog) 24 63 .i64 Tryd.underlying24 hi025 3 hsz25 (some ad172) x3_1.length co20 x5_2 q025 q25; have hr25 := Kd.C_drop (m := (x5_2 : Int).toNat) (c := co20) hC25 (by omega) hroom25; obtain ⟨A25, hA25⟩ : ∃ A1, A1 = (if co20 = (x5_2 : Int).toNat then (some ad172) else ((some ad172) : Option Addr).map (·.add ((x5_2 : Int).toNat * 3))) := ⟨_, rfl⟩; obtain ⟨c25, hc25⟩ : ∃ c1, c1 = co20 - (x5_2 : Int).toNat := ⟨_, rfl⟩; have hy25 : y186.length = x3_1.length - (x5_2 : Int).toNat := (by rw [Ny186.out, List.length_drop] <;> omega); rw [show (x3_1).drop (x5_2 : Int).toNat = y186 from Ny186.out.symm] at hr25; replace hr25 : Kd.C kAt _ A25 y186.length y186 := (by rw [hA25]; exact hr25); rw [← hy25, ← hA25, ← hc25] at hcut25; have HR189 := Aside0.mk hr25; have HC189 := Aside0.mk (show y186.length ≤ c25 from by rw [hy25, hc25]; exact Nat.sub_le_sub_right hroom25 _); clear hr25 hC25 hroom25 hi025 hsz25 hc25; have KY25 := Aside0.mk hy25; have KA25 := Aside0.mk hA25; clear hy25 hA25; have KL25 := Aside0.mk (show (x5_2 : Int).toNat ≤ x3_1.length from by omega); replace q25 := eq_true q25) | ((with_reducible refine yh0 (b := .append) (xs := #[.tmp 42, .tmp 45]) rfl ?_); at_builtin; refine Kd.yh8 kAt (w0 := w) w.heap.size rfl (.tmp 42) (.tmp 45) 24 63 (.agg #[(.string ⟨#[]⟩), (.string ⟨#[]⟩), (.string ⟨#[]⟩)]) 48 rfl Tryd.underlying24 info63 rfl (by decide) (by omega) v184 y183 y186 _ _ _ (fun k_ => some k_ ≠ (.slice (some ad172) x3_1.length co20 : Value).ownBlock) (fun _ => False) rfl rfl ?aO ?aR (fun _ _ h => h) (fun _ h => h.elim) ?aF ?aB ?aS ?aL ?_; (case aR => repeat (first | exact (by repeat (first | (with_reducible exact HR189.out) | (with_reducible refine Kd.C_alloc ?_ _) | (with_reducible refine Kd.C_drewN ?_ _) | (with_reducible refine Kd.C_drew ?_) | exact HR189.out)) | (with_reducible refine Kd.C_alloc ?_ _) | (with_reducible refine Kd.C_drewN ?_ _) | (with_reducible refine Kd.C_drew ?_))); (case aB => exact (by repeat (first | (with_reducible first | exact HB.out | apply ya2 | apply ya0 | apply ya1) | exact HB.out))); (case aF => exact (fun k_ hk => Kd.fresh' (Kd.R_lt (by (with_reducible repeat (first | apply Kd.yc7 | apply Kd.R_drewN | apply Kd.R_drew)); exact HO_3.out)) k_ hk)); (case aO => exact (by (with_reducible repeat (first | apply Kd.yc7 | apply Kd.R_drewN | apply Kd.R_drew)); exact HO185.out)); (case aS => exact (yb4 (by repeat (first | (with_reducible first | exact HB.out | apply ya2 | apply ya0 | apply ya1) | exact HB.out)))); (case aL => have := LMc18.out; first | omega | exact Nat.le_of_lt this); intro v191 w26 ho hb hg hat; rw [← Ny190.out] at ho; have n0_ := Aside0.mk (Kd.yh9 (ok := (fun _ => True)) (by (with_reducible repeat (first | apply Kd.yc7 | apply Kd.R_drewN | apply Kd.R_drew)); exact HO_3.out) hg hat); have n1_ := Aside0.mk (hb); have n2_ := Aside0.mk ((show Kd.C kAt w26 (some ad172) y175.length y175 from by rw [Ny175.out]; exact Kd.C_take (m := (x5_2 : Int).toNat) ((Kd.yd6 (Kd.yh9 (ok := (fun _ => True)) (by (with_reducible repeat (first | apply Kd.yc7 | apply Kd.R_drewN | apply Kd.R_drew)); exact HO_3.out) hg hat)).2.2) KL22.out)); have n3_ := Aside0.mk ((show Kd.C kAt w26 A25 y186.length y186 from by rw [Ny186.out, KA25.out]; exact Kd.C_drop (m := (x5_2 : Int).toNat) (c := co20) ((Kd.yd6 (Kd.yh9 (ok := (fun _ => True)) (by (with_reducible repeat (first | apply Kd.yc7 | apply Kd.R_drewN | apply Kd.R_drew)); exact HO_3.out) hg hat)).2.2) KL25.out ((Kd.yd6 (Kd.yh9 (ok := (fun _ => True)) (by (with_reducible repeat (first | apply Kd.yc7 | apply Kd.R_drewN | apply Kd.R_drew)); exact HO_3.out) hg hat)).2.1))); have n4_ := Aside0.mk (ho); clear HO_3; clear HB; clear HR178; clear HR189; clear HO185; have HO_3 := n0_; have HB := n1_; have HR178 := n2_; have HR189 := n3_; have HO192 := n4_; clear n0_ n1_ n2_ n3_ n4_; clear ho hb hg hat))
       go_roundg k2
       case measure => have := HK1.out; have := HK2.out; omega
       case rel => exact ⟨(y190), (wrap64 (x4_1 + 1)), (by first | rfl | (simp; done) | (simp [*]; done)), H', ⟨by have := HK1.out; have := HK2.out; omega⟩, ⟨by (with_reducible repeat (first | apply Kd.yc7 | apply Kd.R_drewN | apply Kd.R_drew)); exact Kd.R_mono HO192.out (fun _ hk => trivial)⟩, ⟨by repeat (first | (with_reducible first | exact HB.out | apply ya2 | apply ya0 | apply ya1) | exact HB.out)⟩⟩
     ·rw [if_neg c3] at H
      have c3b0 : decide (x5_2 < (x3_1.length : Int)) = false := decide_eq_false c3
      clear c3
      by_cases c27 : 0 ≤ x5_2
      rotate_left 1
      ·rw [if_neg c27] at H
       exact absurd H (by simp)
      rw [if_pos c27] at H
      have c27b0 := eq_true c27
      have c27b1 : decide (0 ≤ x5_2) = true := decide_eq_true c27
      clear c27
      by_cases c28 : x5_2 ≤ (x3_1.length : Int)
      rotate_left 1
      ·rw [if_neg c28] at H
       exact absurd H (by simp)
      rw [if_pos c28] at H
      have c28b0 := eq_true c28
      have c28b1 : decide (x5_2 ≤ (x3_1.length : Int)) = true := decide_eq_true c28
      clear c28
      obtain ⟨y193, hy193⟩ : ∃ y_ : List (At), y_ = (x3_1.take (x5_2 : Int).toNat) := ⟨_, rfl⟩
      replace H : (if ([] : List (At)).length + y193.length < 2932031007402 then ((some (([] : List (At)) ++ y193 : List (At))).bind fun y197 => (if 0 ≤ x4_1 then (if x4_1 < (l0.length : Int) then (if y197.length < 2932031007402 then ((some (y197 ++ [(⟨(⟨(rdAt l0 x4_1).f0.f0, (rdAt l0 x4_1).f0.f1⟩ : Nm), (rdAt l0 x4_1).f1⟩ : At)] : List (At))).bind fun y201 => ((some (x3_1.drop (x5_2 : Int).toNat : List (At))).bind fun y204 => (if y201.length + y204.length < 2932031007402 then (yb0.l0 k2 l0 (y201 ++ y204) (wrap64 (x4_1 + 1))) else (none)))) else (none)) else (none)) else (none))) else (none)) = some r := by first | (rw [hy193]; with_reducible exact H) | (have H2_ := (Option.bind_some _ _).symm.trans H; rw [hy193]; with_reducible exact H2_) | (have H2_ := (Option.bind_some _ _).symm.trans H; with_reducible exact H2_) | with_reducible exact H | (rw [hy193]; exact H) | exact H
      have Ny193 := Aside0.mk hy193
      clear hy193
      by_cases c29 : ([] : List (At)).length + y193.length < 2932031007402
      rotate_left 1
      ·rw [if_neg c29] at H
       exact absurd H (by simp)
      rw [if_pos c29] at H
      have LMc29 := Aside0.mk c29
      clear c29
      obtain ⟨y197, hy197⟩ : ∃ y_ : List (At), y_ = (([] : List (At)) ++ y193) := ⟨_, rfl⟩
      replace H : (if 0 ≤ x4_1 then (if x4_1 < (l0.length : Int) then (if y197.length < 2932031007402 then ((some (y197 ++ [(⟨(⟨(rdAt l0 x4_1).f0.f0, (rdAt l0 x4_1).f0.f1⟩ : Nm), (rdAt l0 x4_1).f1⟩ : At)] : List (At))).bind fun y201 => ((some (x3_1.drop (x5_2 : Int).toNat : List (At))).bind fun y204 => (if y201.length + y204.length < 2932031007402 then (yb0.l0 k2 l0 (y201 ++ y204) (wrap64 (x4_1 + 1))) else (none)))) else (none)) else (none)) else (none)) = some r := by first | (rw [hy197]; with_reducible exact H) | (have H2_ := (Option.bind_some _ _).symm.trans H; rw [hy197]; with_reducible exact H2_) | (have H2_ := (Option.bind_some _ _).symm.trans H; with_reducible exact H2_) | with_reducible exact H | (rw [hy197]; exact H) | exact H
      have Ny197 := Aside0.mk hy197
      clear hy197
      by_cases c30 : 0 ≤ x4_1
      rotate_left 1
      ·rw [if_neg c30] at H
       exact absurd H (by simp)
      rw [if_pos c30] at H
      have c30b0 : decide (0 ≤ x4_1) = true := decide_eq_true c30
      clear c30
      by_cases c31 : x4_1 < (l0.length : Int)
      rotate_left 1
      ·rw [if_neg c31] at H
       exact absurd H (by simp)
      rw [if_pos c31] at H
      have c31b0 : decide (x4_1 < (l0.length : Int)) = true := decide_eq_true c31
      clear c31
      by_cases c32 : y197.length < 2932031007402
      rotate_left 1
      ·rw [if_neg c32] at H
       exact absurd H (by simp)
      rw [if_pos c32] at H
      have LMc32 := Aside0.mk c32
      clear c32
      obtain ⟨y201, hy201⟩ : ∃ y_ : List (At), y_ = (y197 ++ [(⟨(⟨(rdAt l0 x4_1).f0.f0, (rdAt l0 x4_1).f0.f1⟩ : Nm), (rdAt l0 x4_1).f1⟩ : At)]) := ⟨_, rfl⟩
      replace H : ((some (x3_1.drop (x5_2 : Int).toNat : List (At))).bind fun y204 => (if y201.length + y204.length < 2932031007402 then (yb0.l0 k2 l0 (y201 ++ y204) (wrap64 (x4_1 + 1))) else (none))) = some r := by first | (rw [hy201]; with_reducible exact H) | (have H2_ := (Option.bind_some _ _).symm.trans H; rw [hy201]; with_reducible exact H2_) | (have H2_ := (Option.bind_some _ _).symm.trans H; with_reducible exact H2_) | with_reducible exact H | (rw [hy201]; exact H) | exact H
      have Ny201 := Aside0.mk hy201
      clear hy201
      have c33b0 := eq_true (of_decide_eq_true (by first | (with_reducible assumption) | assumption) : 0 ≤ x5_2)
      have c34b0 := eq_true (of_decide_eq_true (by first | (with_reducible assumption) | assumption) : x5_2 ≤ (x3_1.length : Int))
      obtain ⟨y204, hy204⟩ : ∃ y_ : List (At), y_ = (x3_1.drop (x5_2 : Int).toNat) := ⟨_, rfl⟩
      replace H : (if y201.length + y204.length < 2932031007402 then (yb0.l0 k2 l0 (y201 ++ y204) (wrap64 (x4_1 + 1))) else (none)) = some r := by first | (rw [hy204]; with_reducible exact H) | (have H2_ := (Option.bind_some _ _).symm.trans H; rw [hy204]; with_reducible exact H2_) | (have H2_ := (Option.bind_some _ _).symm.trans H; with_reducible exact H2_) | with_reducible exact H | (rw [hy204]; exact H) | exact H
      have Ny204 := Aside0.mk hy204
      clear hy204
      by_cases c35 : y201.length + y204.length < 2932031007402
      rotate_left 1
      ·rw [if_neg c35] at H
       exact absurd H (by simp)
      rw [if_pos c35] at H
      have LMc35 := Aside0.mk c35
      clear c35
      obtain ⟨y208, hy208⟩ : ∃ y_ : List (At), y_ = (y201 ++ y204) := ⟨_, rfl⟩
      replace H : (yb0.l0 k2 l0 y208 (wrap64 (x4_1 + 1))) = some r := by first | (rw [hy208]; with_reducible exact H) | (have H2_ := (Option.bind_some _ _).symm.trans H; rw [hy208]; with_reducible exact H2_) | (have H2_ := (Option.bind_some _ _).symm.trans H; with_reducible exact H2_) | with_reducible exact H | (rw [hy208]; exact H) | exact H
      have Ny208 := Aside0.mk hy208
      clear hy208
      have H' := Aside0.mk H
      clear H
      try go_wp2
      have n0_ := Aside0.mk (Kd.R_drew HO_3.out)
      have n1_ := Aside0.mk (ya1 HB.out)
      clear HO_3
      clear HB
      have HO_3 := n0_
      have HB := n1_
      clear n0_ n1_
      obtain ⟨Ao37, co37, eo37⟩ := Kd.yh1 HO_3.out
      (first | subst eo37 | (injection eo37 with f1_ f2_ f3_; have f4_ := f1_.symm; have f5_ := f3_.symm; clear f1_ f2_ f3_; subst f4_; subst f5_))
      refine start_ (n := 15) (S := fun w' => True) (ds := []) #[false, false, false, false, false, false, false, false, false, false, false, false, false, false, false] (by kernel_rfl) rfl rfl trivial (fun hHeld => ?_); refine yk4 yb0.tab6 yb0.bits6 (fun HT_ HW_ => ?_)
      generalize wr.drew = w36 at HO_3 HB hHeld ⊢
      refine pure_ (i := 0) (N := some 13) (v := ?_) (a' := ?_) #[true, false, false, false, false, false, false, false, false, false, false, false, false, false, false] rfl rfl (any_of HT_.out (by kernel_rfl)) (fun _ _ _ h => h) (Or.inl ⟨by rfl, ?_⟩) ?_ ?_
      rotate_left
      ·intro w'
       go_simp
       with_reducible rfl
      rotate_left
      ·simp only [Act.put, zA, zB, zC, i64_w, i32_w]
       rfl
      refine pure_ (i := 1) (N := some 14) (v := ?_) (a' := ?_) #[true, true, false, false, false, false, false, false, false, false, false, false, false, false, false] rfl rfl (any_of HT_.out (by kernel_rfl)) (fun _ _ _ h => h) (Or.inl ⟨by rfl, ?_⟩) ?_ ?_
      rotate_left
      ·intro w'
       go_simp
       with_reducible rfl
      rotate_left
      ·simp only [Act.put, zA, zB, zC, i64_w, i32_w]
       rfl
      refine pure_ (i := 2) (N := some 15) (v := ?_) (a' := ?_) #[true, true, true, false, false, false, false, false, false, false, false, false, false, false, false] rfl rfl (any_of HT_.out (by kernel_rfl)) (fun _ _ _ h => h) (Or.inl ⟨by rfl, ?_⟩) ?_ ?_
      rotate_left
      ·intro w'
       go_simp
       with_reducible rfl
      rotate_left
      ·simp only [Act.put, zA, zB, zC, i64_w, i32_w]
       rfl
      refine pure_ (i := 3) (N := some 16) (v := ?_) (a' := ?_) #[true, true, true, true, false, false, false, false, false, false, false, false, false, false, false] rfl rfl (any_of HT_.out (by kernel_rfl)) (fun _ _ _ h => h) (Or.inl ⟨by rfl, ?_⟩) ?_ ?_
      rotate_left
      ·intro w'
       go_simp
       with_reducible rfl
      rotate_left
      ·simp only [Act.put, zA, zB, zC, i64_w, i32_w]
       rfl
      refine pure_ (i := 4) (N := some 17) (v := ?_) (a' := ?_) #[true, true, true, true, true, false, false, false, false, false, false, false, false, false, false] rfl rfl (any_of HT_.out (by kernel_rfl)) (fun _ _ _ h => h) (Or.inl ⟨by rfl, ?_⟩) ?_ ?_
      rotate_left
      ·intro w'
       go_simp
       with_reducible rfl
      rotate_left
      ·simp only [Act.put, zA, zB, zC, i64_w, i32_w]
       rfl
      refine pure_ (i := 5) (N := some 18) (v := undef) (a' := ?_) #[true, true, true, true, true, true, false, false, false, false, false, false, false, false, false] rfl rfl (any_of HT_.out (by kernel_rfl)) (fun _ _ _ h => h) (Or.inr ⟨by rfl, rfl⟩) ?_ ?_
      rotate_left
      ·simp only [Act.put, zA, zB, zC, i64_w, i32_w]
       rfl
      refine pure_ (i := 6) (N := some 19) (v := undef) (a' := ?_) #[true, true, true, true, true, true, true, false, false, false, false, false, false, false, false] rfl rfl (any_of HT_.out (by kernel_rfl)) (fun _ _ _ h => h) (Or.inr ⟨by rfl, rfl⟩) ?_ ?_
      rotate_left
      ·simp only [Act.put, zA, zB, zC, i64_w, i32_w]
       rfl
      refine pure_ (i := 7) (N := some 20) (v := undef) (a' := ?_) #[true, true, true, true, true, true, true, true, false, false, false, false, false, false, false] rfl rfl (any_of HT_.out (by kernel_rfl)) (fun _ _ _ h => h) (Or.inr ⟨by rfl, rfl⟩) ?_ ?_
      rotate_left
      ·simp only [Act.put, zA, zB, zC, i64_w, i32_w]
       rfl
      refine pure_ (i := 8) (N := some 21) (v := undef) (a' := ?_) #[true, true, true, true, true, true, true, true, true, false, false, false, false, false, false] rfl rfl (any_of HT_.out (by kernel_rfl)) (fun _ _ _ h => h) (Or.inr ⟨by rfl, rfl⟩) ?_ ?_
      rotate_left
      ·simp only [Act.put, zA, zB, zC, i64_w, i32_w]
       rfl
      refine pure_ (i := 9) (N := some 22) (v := undef) (a' := ?_) #[true, true, true, true, true, true, true, true, true, true, false, false, false, false, false] rfl rfl (any_of HT_.out (by kernel_rfl)) (fun _ _ _ h => h) (Or.inr ⟨by rfl, rfl⟩) ?_ ?_
      rotate_left
      ·simp only [Act.put, zA, zB, zC, i64_w, i32_w]
       rfl
      refine pure_ (i := 10) (N := some 23) (v := undef) (a' := ?_) #[true, true, true, true, true, true, true, true, true, true, true, false, false, false, false] rfl rfl (any_of HT_.out (by kernel_rfl)) (fun _ _ _ h => h) (Or.inr ⟨by rfl, rfl⟩) ?_ ?_
      rotate_left
      ·simp only [Act.put, zA, zB, zC, i64_w, i32_w]
       rfl
      refine pure_ (i := 11) (N := some 24) (v := undef) (a' := ?_) #[true, true, true, true, true, true, true, true, true, true, true, true, false, false, false] rfl rfl (any_of HT_.out (by kernel_rfl)) (fun _ _ _ h => h) (Or.inr ⟨by rfl, rfl⟩) ?_ ?_
      rotate_left
      ·simp only [Act.put, zA, zB, zC, i64_w, i32_w]
       rfl
      refine pure_ (i := 12) (N := some 25) (v := undef) (a' := ?_) #[true, true, true, true, true, true, true, true, true, true, true, true, true, false, false] rfl rfl (any_of HT_.out (by kernel_rfl)) (fun _ _ _ h => h) (Or.inr ⟨by rfl, rfl⟩) ?_ ?_
      rotate_left
      ·simp only [Act.put, zA, zB, zC, i64_w, i32_w]
       rfl
      refine pure_ (i := 13) (N := some 26) (v := undef) (a' := ?_) #[true, true, true, true, true, true, true, true, true, true, true, true, true, true, false] rfl rfl (any_of HT_.out (by kernel_rfl)) (fun _ _ _ h => h) (Or.inr ⟨by rfl, rfl⟩) ?_ ?_
      rotate_left
      ·simp only [Act.put, zA, zB, zC, i64_w, i32_w]
       rfl
      refine pure_ (i := 14) (N := some 27) (v := ?_) (a' := ?_) #[true, true, true, true, true, true, true, true, true, true, true, true, true, true, true] rfl rfl (any_of HT_.out (by kernel_rfl)) (fun _ _ _ h => h) (Or.inl ⟨by rfl, ?_⟩) ?_ ?_
      rotate_left
      ·intro w'
       go_simp
       with_reducible rfl
      rotate_left
      ·simp only [Act.put, zA, zB, zC, i64_w, i32_w]
       rfl
      refine done_ (yo6 HT_.out (by kernel_rfl)) ?_
      have q38 : (x5_2 : Int) ≤ ((x3_1.length : Int) : Int) := of_decide_eq_true (by first | (with_reducible assumption) | assumption)
      obtain ⟨i038, hi038, _, hsz38, _⟩ := info_parts info63
      have hroom38 : x3_1.length ≤ co37 := (Kd.yd6 HO_3.out).2.1
      have hC38 : Kd.C kAt _ Ao37 x3_1.length x3_1 := (Kd.yd6 HO_3.out).2.2
      have hcut38 := cut_to (P := Tryd.prog) 24 63 .i64 Tryd.underlying24 hi038 Ao37 x3_1.length co37 x5_2 (of_decide_eq_true (by first | (with_reducible assumption) | assumption)) q38 hroom38
      have hr38 := Kd.C_take (m := (x5_2 : Int).toNat) hC38 (by omega)
      have hy38 : y193.length = (x5_2 : Int).toNat := (by rw [Ny193.out, List.length_take]; omega)
      rw [← Ny193.out] at hr38
      rw [← hy38] at hcut38
      have HR196 := Aside0.mk hr38
      have HC196 := Aside0.mk (show y193.length ≤ co37 from by omega)
      clear hr38 hC38 hroom38 hi038 hsz38
      have KY38 := Aside0.mk hy38
      clear hy38
      have KL38 := Aside0.mk (show (x5_2 : Int).toNat ≤ x3_1.length from by omega)
      replace q38 := eq_true q38
      try go_wp2_with (first | ((with_reducible refine yh0 (b := .append) (xs := #[.tmp 30, .tmp 33]) rfl ?_); at_builtin; refine Kd.yh8 kAt (w0 := w) w.heap.size rfl (.tmp 30) (.tmp 33) 24 63 (.agg #[(.string ⟨#[]⟩), (.string ⟨#[]⟩), (.string ⟨#[]⟩)]) 48 rfl Tryd.underlying24 info63 rfl (by decide) (by omega) (.slice none 0 0) ([] : List (At)) y193 _ _ _ (fun k_ => some k_ ≠ (.slice Ao37 x3_1.length co37 : Value).ownBlock) (fun _ => False) rfl rfl ?aO ?aR (fun _ _ h => h) (fun _ h => h.elim) ?aF ?aB ?aS ?aL ?_; (case aR => repeat (first | exact (by repeat (first | (with_reducible exact HR196.out) | (with_reducible refine Kd.C_alloc ?_ _) | (with_reducible refine Kd.C_drewN ?_ _) | (with_reducible refine Kd.C_drew ?_) | exact HR196.out)) | (with_reducible refine Kd.C_alloc ?_ _) | (with_reducible refine Kd.C_drewN ?_ _) | (with_reducible refine Kd.C_drew ?_))); (case aB => exact (by repeat (first | (with_reducible first | exact HB.out | apply ya2 | apply ya0 | apply ya1) | exact HB.out))); (case aF => exact (fun k_ hk => Kd.fresh' (Kd.R_lt (by (with_reducible repeat (first | apply Kd.yc7 | apply Kd.R_drewN | apply Kd.R_drew)); exact HO_3.out)) k_ hk)); (case aO => exact ((Kd.R_nil _ _ _ _ (fun k_ => some k_ ≠ (.slice Ao37 x3_1.length co37 : Value).ownBlock)))); (case aS => exact (yb4 (by repeat (first | (with_reducible first | exact HB.out | apply ya2 | apply ya0 | apply ya1) | exact HB.out)))); (case aL => have := LMc29.out; first | omega | exact Nat.le_of_lt this); intro v198 w39 ho hb hg hat; rw [← Ny197.out] at ho; have n0_ := Aside0.mk (Kd.yh9 (Kd.yl0 (by (with_reducible repeat (first | apply Kd.yc7 | apply Kd.R_drewN | apply Kd.R_drew)); exact HO_3.out)) hg hat); have n1_ := Aside0.mk (hb); have n2_ := Aside0.mk ((show Kd.C kAt w39 Ao37 y193.length y193 from by rw [Ny193.out]; exact Kd.C_take (m := (x5_2 : Int).toNat) ((Kd.yd6 (Kd.yh9 (Kd.yl0 (by (with_reducible repeat (first | apply Kd.yc7 | apply Kd.R_drewN | apply Kd.R_drew)); exact HO_3.out)) hg hat)).2.2) KL38.out)); have n3_ := Aside0.mk (ho); clear HO_3; clear HB; clear HR196; have HO_3 := n0_; have HB := n1_; have HR196 := n2_; have HO199 := n3_; clear n0_ n1_ n2_ n3_; clear ho hb hg hat; have p200 : 0 ≤ (x4_1 : Int) := of_decide_eq_true (by first | (with_reducible assumption) | assumption); have q200 : x4_1 < (l0.length : Int) := of_decide_eq_true (by first | (with_reducible assumption) | assumption); obtain ⟨ad200, e200, hx200_0, hx200_1, hx200_2⟩ := atAt HR0.out x4_1 p200 q200; cases e200; replace hx200_0 := cup HB.out hx200_0; replace hx200_1 := cup HB.out hx200_1; replace hx200_2 := cup HB.out hx200_2; replace p200 := eq_true p200; replace q200 := eq_true q200) | ((with_reducible refine yh0 (b := .append) (xs := #[.tmp 35, .tmp 40]) rfl ?_); at_builtin; refine Kd.yp4 kAt (w0 := w) w.heap.size rfl (.tmp 35) (.tmp 40) 24 63 (.agg #[(.string ⟨#[]⟩), (.string ⟨#[]⟩), (.string ⟨#[]⟩)]) 48 rfl Tryd.underlying24 info63 rfl (by decide) (by omega) v198 y197 (⟨(⟨(rdAt l0 x4_1).f0.f0, (rdAt l0 x4_1).f0.f1⟩ : Nm), (rdAt l0 x4_1).f1⟩ : At) [.string ((rdAt l0 x4_1).f0.f0), .string ((rdAt l0 x4_1).f0.f1), .string ((rdAt l0 x4_1).f1)] (fun k_ => some k_ ≠ (.slice Ao37 x3_1.length co37 : Value).ownBlock) (fun _ => False) rfl rfl ?aP (fun _ hk => hk.elim) ?aF ?aO ?aB ?aS ?aL ?_; (case aP => exact yr3 _ _ _ (⟨(⟨(rdAt l0 x4_1).f0.f0, (rdAt l0 x4_1).f0.f1⟩ : Nm), (rdAt l0 x4_1).f1⟩ : At)); (case aB => exact (by repeat (first | (with_reducible first | exact HB.out | apply ya2 | apply ya0 | apply ya1) | exact HB.out))); (case aF => exact (fun k_ hk => Kd.fresh' (Kd.R_lt (by (with_reducible repeat (first | apply Kd.yc7 | apply Kd.R_drewN | apply Kd.R_drew)); exact HO_3.out)) k_ hk)); (case aO => exact (by (with_reducible repeat (first | apply Kd.yc7 | apply Kd.R_drewN | apply Kd.R_drew)); exact HO199.out)); (case aS => exact (yb4 (by repeat (first | (with_reducible first | exact HB.out | apply ya2 | apply ya0 | apply ya1) | exact HB.out)))); (case aL => have := LMc32.out; first | omega | exact Nat.le_of_lt this); intro v202 w40 ho hb hg hat; rw [← Ny201.out] at ho; have n0_ := Aside0.mk (Kd.yh9 (ok := (fun _ => True)) (by (with_reducible repeat (first | apply Kd.yc7 | apply Kd.R_drewN | apply Kd.R_drew)); exact HO_3.out) hg hat); have n1_ := Aside0.mk (hb); have n2_ := Aside0.mk ((show Kd.C kAt w40 Ao37 y193.length y193 from by rw [Ny193.out]; exact Kd.C_take (m := (x5_2 : Int).toNat) ((Kd.yd6 (Kd.yh9 (ok := (fun _ => True)) (by (with_reducible repeat (first | apply Kd.yc7 | apply Kd.R_drewN | apply Kd.R_drew)); exact HO_3.out) hg hat)).2.2) KL38.out)); have n3_ := Aside0.mk (ho); clear HO_3; clear HB; clear HR196; clear HO199; have HO_3 := n0_; have HB := n1_; have HR196 := n2_; have HO203 := n3_; clear n0_ n1_ n2_ n3_; clear ho hb hg hat; have q41 : (x5_2 : Int) ≤ ((x3_1.length : Int) : Int) := of_decide_eq_true (by first | (with_reducible assumption) | assumption); obtain ⟨i041, hi041, _, hsz41, _⟩ := info_parts info63; have hroom41 : x3_1.length ≤ co37 := (Kd.yd6 HO_3.out).2.1; have hC41 : Kd.C kAt _ Ao37 x3_1.length x3_1 := (Kd.yd6 HO_3.out).2.2; have q041 : (0 : Int) ≤ (x5_2 : Int) := of_decide_eq_true (by first | (with_reducible assumption) | assumption); have hcut41 := cut_from (P := Tryd.prog) 24 63 .i64 Tryd.underlying24 hi041 3 hsz41 Ao37 x3_1.length co37 x5_2 q041 q41; have hr41 := Kd.C_drop (m := (x5_2 : Int).toNat) (c := co37) hC41 (by omega) hroom41; obtain ⟨A41, hA41⟩ : ∃ A1, A1 = (if co37 = (x5_2 : Int).toNat then Ao37 else (Ao37 : Option Addr).map (·.add ((x5_2 : Int).toNat * 3))) := ⟨_, rfl⟩; obtain ⟨c41, hc41⟩ : ∃ c1, c1 = co37 - (x5_2 : Int).toNat := ⟨_, rfl⟩; have hy41 : y204.length = x3_1.length - (x5_2 : Int).toNat := (by rw [Ny204.out, List.length_drop] <;> omega); rw [show (x3_1).drop (x5_2 : Int).toNat = y204 from Ny204.out.symm] at hr41; replace hr41 : Kd.C kAt _ A41 y204.length y204 := (by rw [hA41]; exact hr41); rw [← hy41, ← hA41, ← hc41] at hcut41; have HR207 := Aside0.mk hr41; have HC207 := Aside0.mk (show y204.length ≤ c41 from by rw [hy41, hc41]; exact Nat.sub_le_sub_right hroom41 _); clear hr41 hC41 hroom41 hi041 hsz41 hc41; have KY41 := Aside0.mk hy41; have KA41 := Aside0.mk hA41; clear hy41 hA41; have KL41 := Aside0.mk (show (x5_2 : Int).toNat ≤ x3_1.length from by omega); replace q41 := eq_true q41) | ((with_reducible refine yh0 (b := .append) (xs := #[.tmp 42, .tmp 45]) rfl ?_); at_builtin; refine Kd.yh8 kAt (w0 := w) w.heap.size rfl (.tmp 42) (.tmp 45) 24 63 (.agg #[(.string ⟨#[]⟩), (.string ⟨#[]⟩), (.string ⟨#[]⟩)]) 48 rfl Tryd.underlying24 info63 rfl (by decide) (by omega) v202 y201 y204 _ _ _ (fun k_ => some k_ ≠ (.slice Ao37 x3_1.length co37 : Value).ownBlock) (fun _ => False) rfl rfl ?aO ?aR (fun _ _ h => h) (fun _ h => h.elim) ?aF ?aB ?aS ?aL ?_; (case aR => repeat (first | exact (by repeat (first | (with_reducible exact HR207.out) | (with_reducible refine Kd.C_alloc ?_ _) | (with_reducible refine Kd.C_drewN ?_ _) | (with_reducible refine Kd.C_drew ?_) | exact HR207.out)) | (with_reducible refine Kd.C_alloc ?_ _) | (with_reducible refine Kd.C_drewN ?_ _) | (with_reducible refine Kd.C_drew ?_))); (case aB => exact (by repeat (first | (with_reducible first | exact HB.out | apply ya2 | apply ya0 | apply ya1) | exact HB.out))); (case aF => exact (fun k_ hk => Kd.fresh' (Kd.R_lt (by (with_reducible repeat (first | apply Kd.yc7 | apply Kd.R_drewN | apply Kd.R_drew)); exact HO_3.out)) k_ hk)); (case aO => exact (by (with_reducible repeat (first | apply Kd.yc7 | apply Kd.R_drewN | apply Kd.R_drew)); exact HO203.out)); (case aS => exact (yb4 (by repeat (first | (with_reducible first | exact HB.out | apply ya2 | apply ya0 | apply ya1) | exact HB.out)))); (case aL => have := LMc35.out; first | omega | exact Nat.le_of_lt this); intro v209 w42 ho hb hg hat; rw [← Ny208.out] at ho; have n0_ := Aside0.mk (Kd.yh9 (ok := (fun _ => True)) (by (with_reducible repeat (first | apply Kd.yc7 | apply Kd.R_drewN | apply Kd.R_drew)); exact HO_3.out) hg hat); have n1_ := Aside0.mk (hb); have n2_ := Aside0.mk ((show Kd.C kAt w42 Ao37 y193.length y193 from by rw [Ny193.out]; exact Kd.C_take (m := (x5_2 : Int).toNat) ((Kd.yd6 (Kd.yh9 (ok := (fun _ => True)) (by (with_reducible repeat (first | apply Kd.yc7 | apply Kd.R_drewN | apply Kd.R_drew)); exact HO_3.out) hg hat)).2.2) KL38.out)); have n3_ := Aside0.mk ((show Kd.C kAt w42 A41 y204.length y204 from by rw [Ny204.out, KA41.out]; exact Kd.C_drop (m := (x5_2 : Int).toNat) (c := co37) ((Kd.yd6 (Kd.yh9 (ok := (fun _ => True)) (by (with_reducible repeat (first | apply Kd.yc7 | apply Kd.R_drewN | apply Kd.R_drew)); exact HO_3.out) hg hat)).2.2) KL41.out ((Kd.yd6 (Kd.yh9 (ok := (fun _ => True)) (by (with_reducible repeat (first | apply Kd.yc7 | apply Kd.R_drewN | apply Kd.R_drew)); exact HO_3.out) hg hat)).2.1))); have n4_ := Aside0.mk (ho); clear HO_3; clear HB; clear HR196; clear HR207; clear HO203; have HO_3 := n0_; have HB := n1_; have HR196 := n2_; have HR207 := n3_; have HO210 := n4_; clear n0_ n1_ n2_ n3_ n4_; clear ho hb hg hat))
      go_roundg k2
      case measure => have := HK1.out; have := HK2.out; omega
      case rel => exact ⟨(y208), (wrap64 (x4_1 + 1)), (by first | rfl | (simp; done) | (simp [*]; done)), H', ⟨by have := HK1.out; have := HK2.out; omega⟩, ⟨by (with_reducible repeat (first | apply Kd.yc7 | apply Kd.R_drewN | apply Kd.R_drew)); exact Kd.R_mono HO210.out (fun _ hk => trivial)⟩, ⟨by repeat (first | (with_reducible first | exact HB.out | apply ya2 | apply ya0 | apply ya1) | exact HB.out)⟩⟩
end Go.Proofs.YtffpbhbiamkkpaaDoor.PR
