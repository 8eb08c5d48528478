-- PRINTED by print.py (a twelfth state) out of the translation. Not trusted: Lean checks it.
import Derived.Test.YtpgmjbkmalobeaaDoorPAllx0
import Derived.Test.YtpgmjbkmalobeaaDoorPAllx2
import Derived.Test.YtpgmjbkmalobeaaDoorPAllx3
import Derived.Test.YtpgmjbkmalobeaaDoorPAllx5
import Derived.Test.YtpgmjbkmalobeaaDoorPAllx7
namespace Go.Proofs.YtpgmjbkmalobeaaDoor.PAll
open Go.RowKit Go.Proofs.YtpgmjbkmalobeaaDoorW.PrintWords Go.Proofs.YtpgmjbkmalobeaaDoorW.PrintLast Go.Proofs.YtpgmjbkmalobeaaDoorW.PrintMore
attribute [local go_sem] max2_int min2_int max_two min_two max_three min_three max_four min_four   -- for this text's walks alone
set_option linter.unusedVariables false
set_option linter.unusedSimpArgs false

/-! ### watchbilllaw23_FilterAgain: function 4 -/
mutual
def watchbilllaw23_FilterAgain.j0 : Nat → Bool → Int → Bool → List ByteArray → Bool → Bool → ByteArray → List (S38) → List ByteArray → Option (Bool)
  | 0, _, _, _, _, _, _, _, _, _ => none
  | k + 1, x20, x202000, x202001, x202002, x202003, x202004, x203000, x203001, x203002 => if x20 = true then (some true) else ((filter_Apply.f k x202000 x202001 x202002 x202003 x202004 x203000 x203001 x203002).bind fun bt206 => ((filter_Apply.f k x202000 x202001 x202002 x202003 x202004 bt206.1 bt206.2.1 bt206.2.2).bind fun bt214 => ((watchbillref20_Same.f k bt214.1 bt214.2.1 bt214.2.2 bt206.1 bt206.2.1 bt206.2.2).bind fun t221 => (if t221 = true then (watchbilllaw23_FilterAgain.j1 k false x202000 x202001 x202002 x202003 x202004 x203000 x203001 x203002 bt206.1 bt206.2.1 bt206.2.2) else (watchbilllaw23_FilterAgain.j1 k (x202000 == 3) x202000 x202001 x202002 x202003 x202004 x203000 x203001 x203002 bt206.1 bt206.2.1 bt206.2.2)))))
def watchbilllaw23_FilterAgain.j1 : Nat → Bool → Int → Bool → List ByteArray → Bool → Bool → ByteArray → List (S38) → List ByteArray → ByteArray → List (S38) → List ByteArray → Option (Bool)
  | 0, _, _, _, _, _, _, _, _, _, _, _, _ => none
  | k + 1, x34, x202000, x202001, x202002, x202003, x202004, x203000, x203001, x203002, x214000, x214001, x214002 => if x34 = true then (none) else (watchbilllaw23_FilterAgain.l0 k 0 x202000 x202001 x202002 x202003 x202004 x203000 x203001 x203002 x214000 x214001 x214002)
def watchbilllaw23_FilterAgain.l0 : Nat → Int → Int → Bool → List ByteArray → Bool → Bool → ByteArray → List (S38) → List ByteArray → ByteArray → List (S38) → List ByteArray → Option (Bool)
  | 0, _, _, _, _, _, _, _, _, _, _, _, _ => none
  | k + 1, x6, x202000, x202001, x202002, x202003, x202004, x203000, x203001, x203002, x214000, x214001, x214002 => if x6 < (x214001.length : Int) then (if 0 ≤ x6 then (if x202003 = true then (if x202004 = true then (watchbilllaw23_FilterAgain.j3 k x6 false x202000 x202001 x202002 x202003 x202004 x203000 x203001 x203002 x214000 x214001 x214002 ((rd_T38 x214001 x6).f0) ((rd_T38 x214001 x6).f1) ((rd_T38 x214001 x6).f2) ((rd_T38 x214001 x6).f3) ((rd_T38 x214001 x6).f4) ((rd_T38 x214001 x6).f6)) else (if ((rd_T38 x214001 x6).f2).toList = ([] : List UInt8) then (watchbilllaw23_FilterAgain.j3 k x6 (((rd_T38 x214001 x6).f4) != 0) x202000 x202001 x202002 x202003 x202004 x203000 x203001 x203002 x214000 x214001 x214002 ((rd_T38 x214001 x6).f0) ((rd_T38 x214001 x6).f1) ((rd_T38 x214001 x6).f2) ((rd_T38 x214001 x6).f3) ((rd_T38 x214001 x6).f4) ((rd_T38 x214001 x6).f6)) else (watchbilllaw23_FilterAgain.j3 k x6 true x202000 x202001 x202002 x202003 x202004 x203000 x203001 x203002 x214000 x214001 x214002 ((rd_T38 x214001 x6).f0) ((rd_T38 x214001 x6).f1) ((rd_T38 x214001 x6).f2) ((rd_T38 x214001 x6).f3) ((rd_T38 x214001 x6).f4) ((rd_T38 x214001 x6).f6)))) else (if (((rd_T38 x214001 x6).f5).length : Int) > 0 then (watchbilllaw23_FilterAgain.j3 k x6 true x202000 x202001 x202002 x202003 x202004 x203000 x203001 x203002 x214000 x214001 x214002 ((rd_T38 x214001 x6).f0) ((rd_T38 x214001 x6).f1) ((rd_T38 x214001 x6).f2) ((rd_T38 x214001 x6).f3) ((rd_T38 x214001 x6).f4) ((rd_T38 x214001 x6).f6)) else (if x202004 = true then (watchbilllaw23_FilterAgain.j3 k x6 false x202000 x202001 x202002 x202003 x202004 x203000 x203001 x203002 x214000 x214001 x214002 ((rd_T38 x214001 x6).f0) ((rd_T38 x214001 x6).f1) ((rd_T38 x214001 x6).f2) ((rd_T38 x214001 x6).f3) ((rd_T38 x214001 x6).f4) ((rd_T38 x214001 x6).f6)) else (if ((rd_T38 x214001 x6).f2).toList = ([] : List UInt8) then (watchbilllaw23_FilterAgain.j3 k x6 (((rd_T38 x214001 x6).f4) != 0) x202000 x202001 x202002 x202003 x202004 x203000 x203001 x203002 x214000 x214001 x214002 ((rd_T38 x214001 x6).f0) ((rd_T38 x214001 x6).f1) ((rd_T38 x214001 x6).f2) ((rd_T38 x214001 x6).f3) ((rd_T38 x214001 x6).f4) ((rd_T38 x214001 x6).f6)) else (watchbilllaw23_FilterAgain.j3 k x6 true x202000 x202001 x202002 x202003 x202004 x203000 x203001 x203002 x214000 x214001 x214002 ((rd_T38 x214001 x6).f0) ((rd_T38 x214001 x6).f1) ((rd_T38 x214001 x6).f2) ((rd_T38 x214001 x6).f3) ((rd_T38 x214001 x6).f4) ((rd_T38 x214001 x6).f6)))))) else (none)) else ((filter_Apply.f k 3 true ([] : List ByteArray) true true x203000 x203001 x203002).bind fun bt222 => ((watchbillref20_Same.f k bt222.1 bt222.2.1 bt222.2.2 x203000 x203001 x203002).bind fun t230 => (if t230 = true then (if x202003 = true then (some true) else (some ((x214002.length : Int) == 0))) else (none))))
def watchbilllaw23_FilterAgain.j3 : Nat → Int → Bool → Int → Bool → List ByteArray → Bool → Bool → ByteArray → List (S38) → List ByteArray → ByteArray → List (S38) → List ByteArray → ByteArray → ByteArray → ByteArray → ByteArray → Int → Int → Option (Bool)
  | 0, _, _, _, _, _, _, _, _, _, _, _, _, _, _, _, _, _, _, _ => none
  | k + 1, x6, x70, x202000, x202001, x202002, x202003, x202004, x203000, x203001, x203002, x214000, x214001, x214002, x233000, x233001, x233002, x233003, x233004, x233006 => if x70 = true then (none) else (if x202001 = true then (watchbilllaw23_FilterAgain.j4 k x6 true x202000 x202001 x202002 x202003 x202004 x203000 x203001 x203002 x214000 x214001 x214002 x233000 x233001 x233002 x233003 x233004 x233006) else (watchbilllaw23_FilterAgain.j4 k x6 (x202000 != 3) x202000 x202001 x202002 x202003 x202004 x203000 x203001 x203002 x214000 x214001 x214002 x233000 x233001 x233002 x233003 x233004 x233006))
def watchbilllaw23_FilterAgain.j4 : Nat → Int → Bool → Int → Bool → List ByteArray → Bool → Bool → ByteArray → List (S38) → List ByteArray → ByteArray → List (S38) → List ByteArray → ByteArray → ByteArray → ByteArray → ByteArray → Int → Int → Option (Bool)
  | 0, _, _, _, _, _, _, _, _, _, _, _, _, _, _, _, _, _, _, _ => none
  | k + 1, x6, x8, x202000, x202001, x202002, x202003, x202004, x203000, x203001, x203002, x214000, x214001, x214002, x233000, x233001, x233002, x233003, x233004, x233006 => watchbilllaw23_FilterAgain.l1 k x6 x8 0 x202000 x202001 x202002 x202003 x202004 x203000 x203001 x203002 x214000 x214001 x214002 x233000 x233001 x233002 x233003 x233004 x233006
def watchbilllaw23_FilterAgain.l1 : Nat → Int → Bool → Int → Int → Bool → List ByteArray → Bool → Bool → ByteArray → List (S38) → List ByteArray → ByteArray → List (S38) → List ByteArray → ByteArray → ByteArray → ByteArray → ByteArray → Int → Int → Option (Bool)
  | 0, _, _, _, _, _, _, _, _, _, _, _, _, _, _, _, _, _, _, _, _ => none
  | k + 1, x6, x8, x9, x202000, x202001, x202002, x202003, x202004, x203000, x203001, x203002, x214000, x214001, x214002, x233000, x233001, x233002, x233003, x233004, x233006 => if x9 < (x202002.length : Int) then (if x8 = true then (watchbilllaw23_FilterAgain.l1 k x6 true (wrap64 (x9 + 1)) x202000 x202001 x202002 x202003 x202004 x203000 x203001 x203002 x214000 x214001 x214002 x233000 x233001 x233002 x233003 x233004 x233006) else (if 0 ≤ x9 then (watchbilllaw23_FilterAgain.l1 k x6 ((rdOf ByteArray.empty x202002 x9).toList == x233003.toList) (wrap64 (x9 + 1)) x202000 x202001 x202002 x202003 x202004 x203000 x203001 x203002 x214000 x214001 x214002 x233000 x233001 x233002 x233003 x233004 x233006) else (none))) else (if x8 = true then (watchbilllaw23_FilterAgain.l0 k (wrap64 (x6 + 1)) x202000 x202001 x202002 x202003 x202004 x203000 x203001 x203002 x214000 x214001 x214002) else (none))
end
def watchbilllaw23_FilterAgain.f (k : Nat) (a0_0 : Int) (a0_1 : Bool) (l0_2 : List ByteArray) (a0_3 : Bool) (a0_4 : Bool) (a1_0 : ByteArray) (l1_1 : List (S38)) (l1_2 : List ByteArray) : Option (Bool) := (watchbilllaw23_awake.f k).bind fun t203 => (if t203 = true then ((watchbilllaw20_Few.f k a1_0 l1_1 l1_2).bind fun t204 => (if t204 = true then ((watchbilllaw23_few.f a0_0 a0_1 l0_2 a0_3 a0_4).bind fun t205 => (watchbilllaw23_FilterAgain.j0 k (!t205) a0_0 a0_1 l0_2 a0_3 a0_4 a1_0 l1_1 l1_2)) else (watchbilllaw23_FilterAgain.j0 k true a0_0 a0_1 l0_2 a0_3 a0_4 a1_0 l1_1 l1_2))) else (none))
theorem watchbilllaw23_FilterAgain.mono_l : ∀ k, (∀ y0 y1 y2 y3 y4 y5 y6 y7 y8, LeO (watchbilllaw23_FilterAgain.j0 k y0 y1 y2 y3 y4 y5 y6 y7 y8) (watchbilllaw23_FilterAgain.j0 (k + 1) y0 y1 y2 y3 y4 y5 y6 y7 y8)) ∧ (∀ y0 y1 y2 y3 y4 y5 y6 y7 y8 y9 y10 y11, LeO (watchbilllaw23_FilterAgain.j1 k y0 y1 y2 y3 y4 y5 y6 y7 y8 y9 y10 y11) (watchbilllaw23_FilterAgain.j1 (k + 1) y0 y1 y2 y3 y4 y5 y6 y7 y8 y9 y10 y11)) ∧ (∀ y0 y1 y2 y3 y4 y5 y6 y7 y8 y9 y10 y11, LeO (watchbilllaw23_FilterAgain.l0 k y0 y1 y2 y3 y4 y5 y6 y7 y8 y9 y10 y11) (watchbilllaw23_FilterAgain.l0 (k + 1) y0 y1 y2 y3 y4 y5 y6 y7 y8 y9 y10 y11)) ∧ (∀ y0 y1 y2 y3 y4 y5 y6 y7 y8 y9 y10 y11 y12 y13 y14 y15 y16 y17 y18, LeO (watchbilllaw23_FilterAgain.j3 k y0 y1 y2 y3 y4 y5 y6 y7 y8 y9 y10 y11 y12 y13 y14 y15 y16 y17 y18) (watchbilllaw23_FilterAgain.j3 (k + 1) y0 y1 y2 y3 y4 y5 y6 y7 y8 y9 y10 y11 y12 y13 y14 y15 y16 y17 y18)) ∧ (∀ y0 y1 y2 y3 y4 y5 y6 y7 y8 y9 y10 y11 y12 y13 y14 y15 y16 y17 y18, LeO (watchbilllaw23_FilterAgain.j4 k y0 y1 y2 y3 y4 y5 y6 y7 y8 y9 y10 y11 y12 y13 y14 y15 y16 y17 y18) (watchbilllaw23_FilterAgain.j4 (k + 1) y0 y1 y2 y3 y4 y5 y6 y7 y8 y9 y10 y11 y12 y13 y14 y15 y16 y17 y18)) ∧ (∀ y0 y1 y2 y3 y4 y5 y6 y7 y8 y9 y10 y11 y12 y13 y14 y15 y16 y17 y18 y19, LeO (watchbilllaw23_FilterAgain.l1 k y0 y1 y2 y3 y4 y5 y6 y7 y8 y9 y10 y11 y12 y13 y14 y15 y16 y17 y18 y19) (watchbilllaw23_FilterAgain.l1 (k + 1) y0 y1 y2 y3 y4 y5 y6 y7 y8 y9 y10 y11 y12 y13 y14 y15 y16 y17 y18 y19))
  | 0 => ⟨fun _ _ _ _ _ _ _ _ _ r h => by simp [watchbilllaw23_FilterAgain.j0] at h, fun _ _ _ _ _ _ _ _ _ _ _ _ r h => by simp [watchbilllaw23_FilterAgain.j1] at h, fun _ _ _ _ _ _ _ _ _ _ _ _ r h => by simp [watchbilllaw23_FilterAgain.l0] at h, fun _ _ _ _ _ _ _ _ _ _ _ _ _ _ _ _ _ _ _ r h => by simp [watchbilllaw23_FilterAgain.j3] at h, fun _ _ _ _ _ _ _ _ _ _ _ _ _ _ _ _ _ _ _ r h => by simp [watchbilllaw23_FilterAgain.j4] at h, fun _ _ _ _ _ _ _ _ _ _ _ _ _ _ _ _ _ _ _ _ r h => by simp [watchbilllaw23_FilterAgain.l1] at h⟩
  | k + 1 => by
    obtain ⟨ih0, ih1, ih2, ih3, ih4, ih5⟩ := watchbilllaw23_FilterAgain.mono_l k
    refine ⟨?_, ?_, ?_, ?_, ?_, ?_⟩
    · intro y0 y1 y2 y3 y4 y5 y6 y7 y8
      unfold watchbilllaw23_FilterAgain.j0
      repeat' first
      | (with_reducible exact ih0 _ _ _ _ _ _ _ _ _)
      | (with_reducible exact ih1 _ _ _ _ _ _ _ _ _ _ _ _)
      | (with_reducible exact ih2 _ _ _ _ _ _ _ _ _ _ _ _)
      | (with_reducible exact ih3 _ _ _ _ _ _ _ _ _ _ _ _ _ _ _ _ _ _ _)
      | (with_reducible exact ih4 _ _ _ _ _ _ _ _ _ _ _ _ _ _ _ _ _ _ _)
      | (with_reducible exact ih5 _ _ _ _ _ _ _ _ _ _ _ _ _ _ _ _ _ _ _ _)
      | (with_reducible exact filter_Apply.mono _ _ _ _ _ _ _ _ _)
      | (with_reducible exact watchbilllaw20_Few.mono _ _ _ _)
      | (with_reducible exact watchbilllaw23_awake.mono _)
      | (with_reducible exact watchbillref20_Same.mono _ _ _ _ _ _ _)
      | (with_reducible exact LeO.refl _)
      | (with_reducible exact LeO.none _)
      | (with_reducible refine LeO.ite ?_ ?_)
      | (with_reducible refine LeO.bind ?_ (fun _ => ?_))
      | exact ih0 _ _ _ _ _ _ _ _ _
      | exact ih1 _ _ _ _ _ _ _ _ _ _ _ _
      | exact ih2 _ _ _ _ _ _ _ _ _ _ _ _
      | exact ih3 _ _ _ _ _ _ _ _ _ _ _ _ _ _ _ _ _ _ _
      | exact ih4 _ _ _ _ _ _ _ _ _ _ _ _ _ _ _ _ _ _ _
      | exact ih5 _ _ _ _ _ _ _ _ _ _ _ _ _ _ _ _ _ _ _ _
      | exact filter_Apply.mono _ _ _ _ _ _ _ _ _
      | exact watchbilllaw20_Few.mono _ _ _ _
      | exact watchbilllaw23_awake.mono _
      | exact watchbillref20_Same.mono _ _ _ _ _ _ _
      | exact LeO.none _
      | refine LeO.ite ?_ ?_
      | refine LeO.bind ?_ (fun _ => ?_)
    · intro y0 y1 y2 y3 y4 y5 y6 y7 y8 y9 y10 y11
      unfold watchbilllaw23_FilterAgain.j1
      repeat' first
      | (with_reducible exact ih0 _ _ _ _ _ _ _ _ _)
      | (with_reducible exact ih1 _ _ _ _ _ _ _ _ _ _ _ _)
      | (with_reducible exact ih2 _ _ _ _ _ _ _ _ _ _ _ _)
      | (with_reducible exact ih3 _ _ _ _ _ _ _ _ _ _ _ _ _ _ _ _ _ _ _)
      | (with_reducible exact ih4 _ _ _ _ _ _ _ _ _ _ _ _ _ _ _ _ _ _ _)
      | (with_reducible exact ih5 _ _ _ _ _ _ _ _ _ _ _ _ _ _ _ _ _ _ _ _)
      | (with_reducible exact filter_Apply.mono _ _ _ _ _ _ _ _ _)
      | (with_reducible exact watchbilllaw20_Few.mono _ _ _ _)
      | (with_reducible exact watchbilllaw23_awake.mono _)
      | (with_reducible exact watchbillref20_Same.mono _ _ _ _ _ _ _)
      | (with_reducible exact LeO.refl _)
      | (with_reducible exact LeO.none _)
      | (with_reducible refine LeO.ite ?_ ?_)
      | (with_reducible refine LeO.bind ?_ (fun _ => ?_))
      | exact ih0 _ _ _ _ _ _ _ _ _
      | exact ih1 _ _ _ _ _ _ _ _ _ _ _ _
      | exact ih2 _ _ _ _ _ _ _ _ _ _ _ _
      | exact ih3 _ _ _ _ _ _ _ _ _ _ _ _ _ _ _ _ _ _ _
      | exact ih4 _ _ _ _ _ _ _ _ _ _ _ _ _ _ _ _ _ _ _
      | exact ih5 _ _ _ _ _ _ _ _ _ _ _ _ _ _ _ _ _ _ _ _
      | exact filter_Apply.mono _ _ _ _ _ _ _ _ _
      | exact watchbilllaw20_Few.mono _ _ _ _
      | exact watchbilllaw23_awake.mono _
      | exact watchbillref20_Same.mono _ _ _ _ _ _ _
      | exact LeO.none _
      | refine LeO.ite ?_ ?_
      | refine LeO.bind ?_ (fun _ => ?_)
    · intro y0 y1 y2 y3 y4 y5 y6 y7 y8 y9 y10 y11
      unfold watchbilllaw23_FilterAgain.l0
      repeat' first
      | (with_reducible exact ih0 _ _ _ _ _ _ _ _ _)
      | (with_reducible exact ih1 _ _ _ _ _ _ _ _ _ _ _ _)
      | (with_reducible exact ih2 _ _ _ _ _ _ _ _ _ _ _ _)
      | (with_reducible exact ih3 _ _ _ _ _ _ _ _ _ _ _ _ _ _ _ _ _ _ _)
      | (with_reducible exact ih4 _ _ _ _ _ _ _ _ _ _ _ _ _ _ _ _ _ _ _)
      | (with_reducible exact ih5 _ _ _ _ _ _ _ _ _ _ _ _ _ _ _ _ _ _ _ _)
      | (with_reducible exact filter_Apply.mono _ _ _ _ _ _ _ _ _)
      | (with_reducible exact watchbilllaw20_Few.mono _ _ _ _)
      | (with_reducible exact watchbilllaw23_awake.mono _)
      | (with_reducible exact watchbillref20_Same.mono _ _ _ _ _ _ _)
      | (with_reducible exact LeO.refl _)
      | (with_reducible exact LeO.none _)
      | (with_reducible refine LeO.ite ?_ ?_)
      | (with_reducible refine LeO.bind ?_ (fun _ => ?_))
      | exact ih0 _ _ _ _ _ _ _ _ _
      | exact ih1 _ _ _ _ _ _ _ _ _ _ _ _
      | exact ih2 _ _ _ _ _ _ _ _ _ _ _ _
      | exact ih3 _ _ _ _ _ _ _ _ _ _ _ _ _ _ _ _ _ _ _
      | exact ih4 _ _ _ _ _ _ _ _ _ _ _ _ _ _ _ _ _ _ _
      | exact ih5 _ _ _ _ _ _ _ _ _ _ _ _ _ _ _ _ _ _ _ _
      | exact filter_Apply.mono _ _ _ _ _ _ _ _ _
      | exact watchbilllaw20_Few.mono _ _ _ _
      | exact watchbilllaw23_awake.mono _
      | exact watchbillref20_Same.mono _ _ _ _ _ _ _
      | exact LeO.none _
      | refine LeO.ite ?_ ?_
      | refine LeO.bind ?_ (fun _ => ?_)
    · intro y0 y1 y2 y3 y4 y5 y6 y7 y8 y9 y10 y11 y12 y13 y14 y15 y16 y17 y18
      unfold watchbilllaw23_FilterAgain.j3
      repeat' first
      | (with_reducible exact ih0 _ _ _ _ _ _ _ _ _)
      | (with_reducible exact ih1 _ _ _ _ _ _ _ _ _ _ _ _)
      | (with_reducible exact ih2 _ _ _ _ _ _ _ _ _ _ _ _)
      | (with_reducible exact ih3 _ _ _ _ _ _ _ _ _ _ _ _ _ _ _ _ _ _ _)
      | (with_reducible exact ih4 _ _ _ _ _ _ _ _ _ _ _ _ _ _ _ _ _ _ _)
      | (with_reducible exact ih5 _ _ _ _ _ _ _ _ _ _ _ _ _ _ _ _ _ _ _ _)
      | (with_reducible exact filter_Apply.mono _ _ _ _ _ _ _ _ _)
      | (with_reducible exact watchbilllaw20_Few.mono _ _ _ _)
      | (with_reducible exact watchbilllaw23_awake.mono _)
      | (with_reducible exact watchbillref20_Same.mono _ _ _ _ _ _ _)
      | (with_reducible exact LeO.refl _)
      | (with_reducible exact LeO.none _)
      | (with_reducible refine LeO.ite ?_ ?_)
      | (with_reducible refine LeO.bind ?_ (fun _ => ?_))
      | exact ih0 _ _ _ _ _ _ _ _ _
      | exact ih1 _ _ _ _ _ _ _ _ _ _ _ _
      | exact ih2 _ _ _ _ _ _ _ _ _ _ _ _
      | exact ih3 _ _ _ _ _ _ _ _ _ _ _ _ _ _ _ _ _ _ _
      | exact ih4 _ _ _ _ _ _ _ _ _ _ _ _ _ _ _ _ _ _ _
      | exact ih5 _ _ _ _ _ _ _ _ _ _ _ _ _ _ _ _ _ _ _ _
      | exact filter_Apply.mono _ _ _ _ _ _ _ _ _
      | exact watchbilllaw20_Few.mono _ _ _ _
      | exact watchbilllaw23_awake.mono _
      | exact watchbillref20_Same.mono _ _ _ _ _ _ _
      | exact LeO.none _
      | refine LeO.ite ?_ ?_
      | refine LeO.bind ?_ (fun _ => ?_)
    · intro y0 y1 y2 y3 y4 y5 y6 y7 y8 y9 y10 y11 y12 y13 y14 y15 y16 y17 y18
      unfold watchbilllaw23_FilterAgain.j4
      repeat' first
      | (with_reducible exact ih0 _ _ _ _ _ _ _ _ _)
      | (with_reducible exact ih1 _ _ _ _ _ _ _ _ _ _ _ _)
      | (with_reducible exact ih2 _ _ _ _ _ _ _ _ _ _ _ _)
      | (with_reducible exact ih3 _ _ _ _ _ _ _ _ _ _ _ _ _ _ _ _ _ _ _)
      | (with_reducible exact ih4 _ _ _ _ _ _ _ _ _ _ _ _ _ _ _ _ _ _ _)
      | (with_reducible exact ih5 _ _ _ _ _ _ _ _ _ _ _ _ _ _ _ _ _ _ _ _)
      | (with_reducible exact filter_Apply.mono _ _ _ _ _ _ _ _ _)
      | (with_reducible exact watchbilllaw20_Few.mono _ _ _ _)
      | (with_reducible exact watchbilllaw23_awake.mono _)
      | (with_reducible exact watchbillref20_Same.mono _ _ _ _ _ _ _)
      | (with_reducible exact LeO.refl _)
      | (with_reducible exact LeO.none _)
      | (with_reducible refine LeO.ite ?_ ?_)
      | (with_reducible refine LeO.bind ?_ (fun _ => ?_))
      | exact ih0 _ _ _ _ _ _ _ _ _
      | exact ih1 _ _ _ _ _ _ _ _ _ _ _ _
      | exact ih2 _ _ _ _ _ _ _ _ _ _ _ _
      | exact ih3 _ _ _ _ _ _ _ _ _ _ _ _ _ _ _ _ _ _ _
      | exact ih4 _ _ _ _ _ _ _ _ _ _ _ _ _ _ _ _ _ _ _
      | exact ih5 _ _ _ _ _ _ _ _ _ _ _ _ _ _ _ _ _ _ _ _
      | exact filter_Apply.mono _ _ _ _ _ _ _ _ _
      | exact watchbilllaw20_Few.mono _ _ _ _
      | exact watchbilllaw23_awake.mono _
      | exact watchbillref20_Same.mono _ _ _ _ _ _ _
      | exact LeO.none _
      | refine LeO.ite ?_ ?_
      | refine LeO.bind ?_ (fun _ => ?_)
    · intro y0 y1 y2 y3 y4 y5 y6 y7 y8 y9 y10 y11 y12 y13 y14 y15 y16 y17 y18 y19
      unfold watchbilllaw23_FilterAgain.l1
      repeat' first
      | (with_reducible exact ih0 _ _ _ _ _ _ _ _ _)
      | (with_reducible exact ih1 _ _ _ _ _ _ _ _ _ _ _ _)
      | (with_reducible exact ih2 _ _ _ _ _ _ _ _ _ _ _ _)
      | (with_reducible exact ih3 _ _ _ _ _ _ _ _ _ _ _ _ _ _ _ _ _ _ _)
      | (with_reducible exact ih4 _ _ _ _ _ _ _ _ _ _ _ _ _ _ _ _ _ _ _)
      | (with_reducible exact ih5 _ _ _ _ _ _ _ _ _ _ _ _ _ _ _ _ _ _ _ _)
      | (with_reducible exact filter_Apply.mono _ _ _ _ _ _ _ _ _)
      | (with_reducible exact watchbilllaw20_Few.mono _ _ _ _)
      | (with_reducible exact watchbilllaw23_awake.mono _)
      | (with_reducible exact watchbillref20_Same.mono _ _ _ _ _ _ _)
      | (with_reducible exact LeO.refl _)
      | (with_reducible exact LeO.none _)
      | (with_reducible refine LeO.ite ?_ ?_)
      | (with_reducible refine LeO.bind ?_ (fun _ => ?_))
      | exact ih0 _ _ _ _ _ _ _ _ _
      | exact ih1 _ _ _ _ _ _ _ _ _ _ _ _
      | exact ih2 _ _ _ _ _ _ _ _ _ _ _ _
      | exact ih3 _ _ _ _ _ _ _ _ _ _ _ _ _ _ _ _ _ _ _
      | exact ih4 _ _ _ _ _ _ _ _ _ _ _ _ _ _ _ _ _ _ _
      | exact ih5 _ _ _ _ _ _ _ _ _ _ _ _ _ _ _ _ _ _ _ _
      | exact filter_Apply.mono _ _ _ _ _ _ _ _ _
      | exact watchbilllaw20_Few.mono _ _ _ _
      | exact watchbilllaw23_awake.mono _
      | exact watchbillref20_Same.mono _ _ _ _ _ _ _
      | exact LeO.none _
      | refine LeO.ite ?_ ?_
      | refine LeO.bind ?_ (fun _ => ?_)
theorem watchbilllaw23_FilterAgain.mono : ∀ a0 a1 a2 a3 a4 a5 a6 a7 k, LeO (watchbilllaw23_FilterAgain.f k a0 a1 a2 a3 a4 a5 a6 a7) (watchbilllaw23_FilterAgain.f (k + 1) a0 a1 a2 a3 a4 a5 a6 a7) := by
  intro a0 a1 a2 a3 a4 a5 a6 a7 k
  obtain ⟨ih0, ih1, ih2, ih3, ih4, ih5⟩ := watchbilllaw23_FilterAgain.mono_l k
  unfold watchbilllaw23_FilterAgain.f
  repeat' first
      | (with_reducible exact ih0 _ _ _ _ _ _ _ _ _)
      | (with_reducible exact ih1 _ _ _ _ _ _ _ _ _ _ _ _)
      | (with_reducible exact ih2 _ _ _ _ _ _ _ _ _ _ _ _)
      | (with_reducible exact ih3 _ _ _ _ _ _ _ _ _ _ _ _ _ _ _ _ _ _ _)
      | (with_reducible exact ih4 _ _ _ _ _ _ _ _ _ _ _ _ _ _ _ _ _ _ _)
      | (with_reducible exact ih5 _ _ _ _ _ _ _ _ _ _ _ _ _ _ _ _ _ _ _ _)
      | (with_reducible exact filter_Apply.mono _ _ _ _ _ _ _ _ _)
      | (with_reducible exact watchbilllaw20_Few.mono _ _ _ _)
      | (with_reducible exact watchbilllaw23_awake.mono _)
      | (with_reducible exact watchbillref20_Same.mono _ _ _ _ _ _ _)
      | (with_reducible exact LeO.refl _)
      | (with_reducible exact LeO.none _)
      | (with_reducible refine LeO.ite ?_ ?_)
      | (with_reducible refine LeO.bind ?_ (fun _ => ?_))
      | exact ih0 _ _ _ _ _ _ _ _ _
      | exact ih1 _ _ _ _ _ _ _ _ _ _ _ _
      | exact ih2 _ _ _ _ _ _ _ _ _ _ _ _
      | exact ih3 _ _ _ _ _ _ _ _ _ _ _ _ _ _ _ _ _ _ _
      | exact ih4 _ _ _ _ _ _ _ _ _ _ _ _ _ _ _ _ _ _ _
      | exact ih5 _ _ _ _ _ _ _ _ _ _ _ _ _ _ _ _ _ _ _ _
      | exact filter_Apply.mono _ _ _ _ _ _ _ _ _
      | exact watchbilllaw20_Few.mono _ _ _ _
      | exact watchbilllaw23_awake.mono _
      | exact watchbillref20_Same.mono _ _ _ _ _ _ _
      | exact LeO.none _
      | refine LeO.ite ?_ ?_
      | refine LeO.bind ?_ (fun _ => ?_)
def watchbilllaw23_FilterAgain.T6 : Bool × List (List Nat × List Nat) := (true, [([], []), ([], []), ([0, 1], [0, 1]), ([], []), ([2, 3, 2], [2, 3]), ([4], [4]), ([5, 4], [5]), ([6], [6]), ([7, 6], [6, 7]), ([8, 6], [6, 8]), ([6, 9], [6, 9])])
def watchbilllaw23_FilterAgain.B6 : List Nat := [0, 0, 3, 0, 15, 31, 63, 127, 255, 511, 1023]
theorem watchbilllaw23_FilterAgain.tab6 : rtab .any (opsOf Tryd.f4 6) = watchbilllaw23_FilterAgain.T6 := by kernel_rfl
theorem watchbilllaw23_FilterAgain.bits6 : waitsOk watchbilllaw23_FilterAgain.T6.2 watchbilllaw23_FilterAgain.B6 = true := by kernel_rfl
def watchbilllaw23_FilterAgain.T18 : Bool × List (List Nat × List Nat) := (true, [([], []), ([0], [0]), ([1], [1]), ([2, 1], [1, 2]), ([1], [1]), ([3, 4, 1], [1, 3, 4]), ([5, 1], [1, 5]), ([1], [1]), ([7, 1], [1, 7]), ([6, 8, 1], [1, 6, 8]), ([1, 9], [1, 9]), ([10, 1, 0, 1, 2, 3, 4, 5, 6, 7, 8, 9, 10], [0, 10])])
def watchbilllaw23_FilterAgain.B18 : List Nat := [0, 1, 3, 7, 3, 31, 63, 3, 131, 511, 1023, 2047]
theorem watchbilllaw23_FilterAgain.tab18 : rtab .any (opsOf Tryd.f4 18) = watchbilllaw23_FilterAgain.T18 := by kernel_rfl
theorem watchbilllaw23_FilterAgain.bits18 : waitsOk watchbilllaw23_FilterAgain.T18.2 watchbilllaw23_FilterAgain.B18 = true := by kernel_rfl
end Go.Proofs.YtpgmjbkmalobeaaDoor.PAll
