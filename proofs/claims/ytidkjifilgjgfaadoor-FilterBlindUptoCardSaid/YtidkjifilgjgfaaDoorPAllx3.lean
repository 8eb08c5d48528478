import Derived.Test.YtidkjifilgjgfaaDoorPAllx0
import Derived.Test.YtidkjifilgjgfaaDoorPAllx1
import Derived.Test.YtidkjifilgjgfaaDoorPAllx2
-- PRINTED by print.py (a twelfth state) out of the translation. Not trusted: Lean checks it.
namespace Go.Proofs.YtidkjifilgjgfaaDoor.PAll
open Go.RowKit Go.Proofs.YtidkjifilgjgfaaDoorW.PrintWords Go.Proofs.YtidkjifilgjgfaaDoorW.PrintLast Go.Proofs.YtidkjifilgjgfaaDoorW.PrintMore
attribute [local go_sem] yg8 yg6 yh9 yh8 yf9 yf8 yg7 yg5   -- for this text's walks alone
set_option linter.unusedVariables false
set_option linter.unusedSimpArgs false

/-! ### yc8: function 4 -/
noncomputable def yc8.f (k : Nat)  : Option (Bool) := (some (([(⟨(⟨#[116]⟩ : ByteArray), (⟨#[]⟩ : ByteArray), (⟨#[99]⟩ : ByteArray), (⟨#[119]⟩ : ByteArray), 0, (([(⟨#[110]⟩ : ByteArray)] : List ByteArray)), 0⟩ : S38), (⟨(⟨#[117]⟩ : ByteArray), (⟨#[]⟩ : ByteArray), (⟨#[]⟩ : ByteArray), (⟨#[]⟩ : ByteArray), 0, ([] : List ByteArray), 0⟩ : S38)] : List (S38)) : List (S38))).bind fun y150 => ((some (([(⟨#[109]⟩ : ByteArray)] : List ByteArray) : List ByteArray)).bind fun y153 => ((yb8.f k 3 false (([(⟨#[119]⟩ : ByteArray)] : List ByteArray)) false false (⟨#[101]⟩ : ByteArray) y150 y153).bind fun bt160 => ((yb8.f k 2 true ([] : List ByteArray) false false (⟨#[101]⟩ : ByteArray) y150 y153).bind fun bt168 => ((yd0.f k 1 true ([] : List ByteArray) false false (⟨#[101]⟩ : ByteArray) y150 y153 true).bind fun bt176 => (if (bt160.2.1.length : Int) = 1 then (if 0 < (bt160.2.1.length : Int) then (if ((rd_T38 bt160.2.1 0).f0).toList = ([116] : List UInt8) then (if ((rd_T38 bt160.2.1 0).f2).toList = ([] : List UInt8) then (if (wrap64 ((((rd_T38 bt160.2.1 0).f5).length : Int) + (bt160.2.2.length : Int))) = 0 then (if (bt168.2.1.length : Int) = 1 then (if 0 < (bt168.2.1.length : Int) then (if ((rd_T38 bt168.2.1 0).f1).toList = ([99, 108, 111, 115, 101, 100] : List UInt8) then (if bt176.1.toList = ([] : List UInt8) then (if bt176.2 = 2 then ((yd1.f k 0 false ([] : List ByteArray) false false).bind fun t182 => (some (t182 == 3))) else (none)) else (none)) else (none)) else (none)) else (none)) else (none)) else (none)) else (none)) else (none)) else (none))))))
theorem yc8.mono : ∀ k, LeO (yc8.f k ) (yc8.f (k + 1) ) := by
  intro  k
  unfold yc8.f
  repeat' first
      | (with_reducible exact yb8.mono _ _ _ _ _ _ _ _ _)
      | (with_reducible exact yd0.mono _ _ _ _ _ _ _ _ _ _)
      | (with_reducible exact yd1.mono _ _ _ _ _ _)
      | (with_reducible exact LeO.refl _)
      | (with_reducible exact LeO.none _)
      | (with_reducible refine LeO.ite ?_ ?_)
      | (with_reducible refine LeO.bind ?_ (fun _ => ?_))
      | exact yb8.mono _ _ _ _ _ _ _ _ _
      | exact yd0.mono _ _ _ _ _ _ _ _ _ _
      | exact yd1.mono _ _ _ _ _ _
      | exact LeO.none _
      | refine LeO.ite ?_ ?_
      | refine LeO.bind ?_ (fun _ => ?_)
def yc8.T5 : Bool × List (List Nat × List Nat) := (true, [([], []), ([0], [0]), ([1], [1]), ([2], [2]), ([3], [3]), ([4], [4]), ([5, 4], [4, 5]), ([6, 4], [4, 6]), ([7, 4], [4, 7]), ([8, 4], [4, 8]), ([9, 4], [4, 9]), ([4, 10], [4, 10]), ([11, 4], [11]), ([12], [12]), ([13, 12], [12, 13]), ([14, 12], [12, 14]), ([15, 12], [12, 15]), ([16, 12], [12, 16]), ([17, 12], [12, 17]), ([12, 18], [12, 18]), ([19, 12], [19]), ([20], [20]), ([21, 20], [20, 21]), ([22, 20], [20, 22]), ([23, 20], [20, 23]), ([24, 20], [20, 24]), ([25, 20], [20, 25]), ([20], [20]), ([27, 20], [20, 27]), ([28, 20], [20, 28]), ([26, 29, 20], [20, 26, 29]), ([30, 20], [20, 30]), ([20, 31], [20, 31]), ([32, 20], [32]), ([33], [33]), ([34, 33], [33, 34]), ([35, 33], [33, 35]), ([36, 33], [33, 36]), ([33, 37], [33, 37]), ([38, 33], [38]), ([39], [39]), ([40, 39], [39, 40]), ([41, 39], [39, 41]), ([42, 39], [39, 42]), ([43, 39], [39, 43]), ([44, 39], [39, 44]), ([39, 45], [39, 45]), ([46, 39], [46]), ([47], [47]), ([48, 47], [47, 48]), ([47, 49], [47, 49]), ([50, 47], [50]), ([51], [51]), ([52, 51], [51, 52]), ([51, 53], [51, 53]), ([54, 51], [54]), ([55], [55]), ([56, 55, 55], [55, 56]), ([57, 55], [55, 57]), ([55, 58], [55, 58]), ([59, 57, 0, 1, 2, 3, 4, 5, 6, 7, 8, 9, 10, 11, 12, 13, 14, 15, 16, 17, 18, 19, 20, 21, 22, 23, 24, 25, 26, 27, 28, 29, 30, 31, 32, 33, 34, 35, 36, 37, 38, 39, 40, 41, 42, 43, 44, 45, 46, 47, 48, 49, 50, 51, 52, 53, 54, 55, 56, 57, 58, 59], [59])])
def yc8.B5 : List Nat := [0, 1, 3, 7, 15, 31, 63, 127, 255, 511, 1023, 2047, 4095, 8191, 16383, 32767, 65535, 131071, 262143, 524287, 1048575, 2097151, 4194303, 8388607, 16777215, 33554431, 67108863, 2097151, 136314879, 404750335, 1073741823, 2147483647, 4294967295, 8589934591, 17179869183, 34359738367, 68719476735, 137438953471, 274877906943, 549755813887, 1099511627775, 2199023255551, 4398046511103, 8796093022207, 17592186044415, 35184372088831, 70368744177663, 140737488355327, 281474976710655, 562949953421311, 1125899906842623, 2251799813685247, 4503599627370495, 9007199254740991, 18014398509481983, 36028797018963967, 72057594037927935, 144115188075855871, 288230376151711743, 576460752303423487, 1152921504606846975]
theorem yc8.tab5 : rtab .any (opsOf Tryd.f4 5) = yc8.T5 := by kernel_rfl
theorem yc8.bits5 : yk2 yc8.T5.2 yc8.B5 = true := by kernel_rfl
set_option maxHeartbeats 8000000 in
set_option maxRecDepth 100000 in
theorem yc8.calls (k : Nat)  (r : Bool) (w : World) (hml : MT w) (h : yc8.f k  = some r) :
    Calls Tryd.prog 4 #[] w fun e w' => e = .returned (.bool r) ∧ Below w.heap.size w w' := by
  have HML := Aside0.mk hml
  clear hml
  have hu38 := Tryd.underlying38
  have hu27 := Tryd.underlying27
  have hu24 := Tryd.underlying24
  have HB := Aside0.mk (Below.refl w.heap.size w)
  have H : ((some (([(⟨(⟨#[116]⟩ : ByteArray), (⟨#[]⟩ : ByteArray), (⟨#[99]⟩ : ByteArray), (⟨#[119]⟩ : ByteArray), 0, (([(⟨#[110]⟩ : ByteArray)] : List ByteArray)), 0⟩ : S38), (⟨(⟨#[117]⟩ : ByteArray), (⟨#[]⟩ : ByteArray), (⟨#[]⟩ : ByteArray), (⟨#[]⟩ : ByteArray), 0, ([] : List ByteArray), 0⟩ : S38)] : List (S38)) : List (S38))).bind fun y150 => ((some (([(⟨#[109]⟩ : ByteArray)] : List ByteArray) : List ByteArray)).bind fun y153 => ((yb8.f k 3 false (([(⟨#[119]⟩ : ByteArray)] : List ByteArray)) false false (⟨#[101]⟩ : ByteArray) y150 y153).bind fun bt160 => ((yb8.f k 2 true ([] : List ByteArray) false false (⟨#[101]⟩ : ByteArray) y150 y153).bind fun bt168 => ((yd0.f k 1 true ([] : List ByteArray) false false (⟨#[101]⟩ : ByteArray) y150 y153 true).bind fun bt176 => (if (bt160.2.1.length : Int) = 1 then (if 0 < (bt160.2.1.length : Int) then (if ((rd_T38 bt160.2.1 0).f0).toList = ([116] : List UInt8) then (if ((rd_T38 bt160.2.1 0).f2).toList = ([] : List UInt8) then (if (wrap64 ((((rd_T38 bt160.2.1 0).f5).length : Int) + (bt160.2.2.length : Int))) = 0 then (if (bt168.2.1.length : Int) = 1 then (if 0 < (bt168.2.1.length : Int) then (if ((rd_T38 bt168.2.1 0).f1).toList = ([99, 108, 111, 115, 101, 100] : List UInt8) then (if bt176.1.toList = ([] : List UInt8) then (if bt176.2 = 2 then ((yd1.f k 0 false ([] : List ByteArray) false false).bind fun t182 => (some (t182 == 3))) else (none)) else (none)) else (none)) else (none)) else (none)) else (none)) else (none)) else (none)) else (none)) else (none))))))) = some r := h
  clear h
  obtain ⟨y147, hy147⟩ : ∃ y_ : List ByteArray, y_ = (([(⟨#[110]⟩ : ByteArray)] : List ByteArray)) := ⟨_, rfl⟩
  replace H : ((some (([(⟨(⟨#[116]⟩ : ByteArray), (⟨#[]⟩ : ByteArray), (⟨#[99]⟩ : ByteArray), (⟨#[119]⟩ : ByteArray), 0, y147, 0⟩ : S38), (⟨(⟨#[117]⟩ : ByteArray), (⟨#[]⟩ : ByteArray), (⟨#[]⟩ : ByteArray), (⟨#[]⟩ : ByteArray), 0, ([] : List ByteArray), 0⟩ : S38)] : List (S38)) : List (S38))).bind fun y150 => ((some (([(⟨#[109]⟩ : ByteArray)] : List ByteArray) : List ByteArray)).bind fun y153 => ((yb8.f k 3 false (([(⟨#[119]⟩ : ByteArray)] : List ByteArray)) false false (⟨#[101]⟩ : ByteArray) y150 y153).bind fun bt160 => ((yb8.f k 2 true ([] : List ByteArray) false false (⟨#[101]⟩ : ByteArray) y150 y153).bind fun bt168 => ((yd0.f k 1 true ([] : List ByteArray) false false (⟨#[101]⟩ : ByteArray) y150 y153 true).bind fun bt176 => (if (bt160.2.1.length : Int) = 1 then (if 0 < (bt160.2.1.length : Int) then (if ((rd_T38 bt160.2.1 0).f0).toList = ([116] : List UInt8) then (if ((rd_T38 bt160.2.1 0).f2).toList = ([] : List UInt8) then (if (wrap64 ((((rd_T38 bt160.2.1 0).f5).length : Int) + (bt160.2.2.length : Int))) = 0 then (if (bt168.2.1.length : Int) = 1 then (if 0 < (bt168.2.1.length : Int) then (if ((rd_T38 bt168.2.1 0).f1).toList = ([99, 108, 111, 115, 101, 100] : List UInt8) then (if bt176.1.toList = ([] : List UInt8) then (if bt176.2 = 2 then ((yd1.f k 0 false ([] : List ByteArray) false false).bind fun t182 => (some (t182 == 3))) else (none)) else (none)) else (none)) else (none)) else (none)) else (none)) else (none)) else (none)) else (none)) else (none))))))) = some r := by first | (rw [hy147]; with_reducible exact H) | (rw [hy147]; exact H) | exact H
  have Ny147 := Aside0.mk hy147
  clear hy147
  obtain ⟨y150, hy150⟩ : ∃ y_ : List (S38), y_ = (([(⟨(⟨#[116]⟩ : ByteArray), (⟨#[]⟩ : ByteArray), (⟨#[99]⟩ : ByteArray), (⟨#[119]⟩ : ByteArray), 0, y147, 0⟩ : S38), (⟨(⟨#[117]⟩ : ByteArray), (⟨#[]⟩ : ByteArray), (⟨#[]⟩ : ByteArray), (⟨#[]⟩ : ByteArray), 0, ([] : List ByteArray), 0⟩ : S38)] : List (S38))) := ⟨_, rfl⟩
  replace H : ((some (([(⟨#[109]⟩ : ByteArray)] : List ByteArray) : List ByteArray)).bind fun y153 => ((yb8.f k 3 false (([(⟨#[119]⟩ : ByteArray)] : List ByteArray)) false false (⟨#[101]⟩ : ByteArray) y150 y153).bind fun bt160 => ((yb8.f k 2 true ([] : List ByteArray) false false (⟨#[101]⟩ : ByteArray) y150 y153).bind fun bt168 => ((yd0.f k 1 true ([] : List ByteArray) false false (⟨#[101]⟩ : ByteArray) y150 y153 true).bind fun bt176 => (if (bt160.2.1.length : Int) = 1 then (if 0 < (bt160.2.1.length : Int) then (if ((rd_T38 bt160.2.1 0).f0).toList = ([116] : List UInt8) then (if ((rd_T38 bt160.2.1 0).f2).toList = ([] : List UInt8) then (if (wrap64 ((((rd_T38 bt160.2.1 0).f5).length : Int) + (bt160.2.2.length : Int))) = 0 then (if (bt168.2.1.length : Int) = 1 then (if 0 < (bt168.2.1.length : Int) then (if ((rd_T38 bt168.2.1 0).f1).toList = ([99, 108, 111, 115, 101, 100] : List UInt8) then (if bt176.1.toList = ([] : List UInt8) then (if bt176.2 = 2 then ((yd1.f k 0 false ([] : List ByteArray) false false).bind fun t182 => (some (t182 == 3))) else (none)) else (none)) else (none)) else (none)) else (none)) else (none)) else (none)) else (none)) else (none)) else (none)))))) = some r := by first | (rw [hy150]; with_reducible exact H) | (rw [hy150]; exact H) | exact H
  have Ny150 := Aside0.mk hy150
  clear hy150
  obtain ⟨y153, hy153⟩ : ∃ y_ : List ByteArray, y_ = (([(⟨#[109]⟩ : ByteArray)] : List ByteArray)) := ⟨_, rfl⟩
  replace H : ((yb8.f k 3 false (([(⟨#[119]⟩ : ByteArray)] : List ByteArray)) false false (⟨#[101]⟩ : ByteArray) y150 y153).bind fun bt160 => ((yb8.f k 2 true ([] : List ByteArray) false false (⟨#[101]⟩ : ByteArray) y150 y153).bind fun bt168 => ((yd0.f k 1 true ([] : List ByteArray) false false (⟨#[101]⟩ : ByteArray) y150 y153 true).bind fun bt176 => (if (bt160.2.1.length : Int) = 1 then (if 0 < (bt160.2.1.length : Int) then (if ((rd_T38 bt160.2.1 0).f0).toList = ([116] : List UInt8) then (if ((rd_T38 bt160.2.1 0).f2).toList = ([] : List UInt8) then (if (wrap64 ((((rd_T38 bt160.2.1 0).f5).length : Int) + (bt160.2.2.length : Int))) = 0 then (if (bt168.2.1.length : Int) = 1 then (if 0 < (bt168.2.1.length : Int) then (if ((rd_T38 bt168.2.1 0).f1).toList = ([99, 108, 111, 115, 101, 100] : List UInt8) then (if bt176.1.toList = ([] : List UInt8) then (if bt176.2 = 2 then ((yd1.f k 0 false ([] : List ByteArray) false false).bind fun t182 => (some (t182 == 3))) else (none)) else (none)) else (none)) else (none)) else (none)) else (none)) else (none)) else (none)) else (none)) else (none))))) = some r := by first | (rw [hy153]; with_reducible exact H) | (rw [hy153]; exact H) | exact H
  have Ny153 := Aside0.mk hy153
  clear hy153
  obtain ⟨y157, hy157⟩ : ∃ y_ : List ByteArray, y_ = (([(⟨#[119]⟩ : ByteArray)] : List ByteArray)) := ⟨_, rfl⟩
  replace H : ((yb8.f k 3 false y157 false false (⟨#[101]⟩ : ByteArray) y150 y153).bind fun bt160 => ((yb8.f k 2 true ([] : List ByteArray) false false (⟨#[101]⟩ : ByteArray) y150 y153).bind fun bt168 => ((yd0.f k 1 true ([] : List ByteArray) false false (⟨#[101]⟩ : ByteArray) y150 y153 true).bind fun bt176 => (if (bt160.2.1.length : Int) = 1 then (if 0 < (bt160.2.1.length : Int) then (if ((rd_T38 bt160.2.1 0).f0).toList = ([116] : List UInt8) then (if ((rd_T38 bt160.2.1 0).f2).toList = ([] : List UInt8) then (if (wrap64 ((((rd_T38 bt160.2.1 0).f5).length : Int) + (bt160.2.2.length : Int))) = 0 then (if (bt168.2.1.length : Int) = 1 then (if 0 < (bt168.2.1.length : Int) then (if ((rd_T38 bt168.2.1 0).f1).toList = ([99, 108, 111, 115, 101, 100] : List UInt8) then (if bt176.1.toList = ([] : List UInt8) then (if bt176.2 = 2 then ((yd1.f k 0 false ([] : List ByteArray) false false).bind fun t182 => (some (t182 == 3))) else (none)) else (none)) else (none)) else (none)) else (none)) else (none)) else (none)) else (none)) else (none)) else (none))))) = some r := by first | (rw [hy157]; with_reducible exact H) | (rw [hy157]; exact H) | exact H
  have Ny157 := Aside0.mk hy157
  clear hy157
  replace H := Option.bind_eq_some_iff.mp H
  obtain ⟨⟨t160, t161, t164⟩, A10, H⟩ := H
  replace H : ((yb8.f k 2 true ([] : List ByteArray) false false (⟨#[101]⟩ : ByteArray) y150 y153).bind fun bt168 => ((yd0.f k 1 true ([] : List ByteArray) false false (⟨#[101]⟩ : ByteArray) y150 y153 true).bind fun bt176 => (if (t161.length : Int) = 1 then (if 0 < (t161.length : Int) then (if ((rd_T38 t161 0).f0).toList = ([116] : List UInt8) then (if ((rd_T38 t161 0).f2).toList = ([] : List UInt8) then (if (wrap64 ((((rd_T38 t161 0).f5).length : Int) + (t164.length : Int))) = 0 then (if (bt168.2.1.length : Int) = 1 then (if 0 < (bt168.2.1.length : Int) then (if ((rd_T38 bt168.2.1 0).f1).toList = ([99, 108, 111, 115, 101, 100] : List UInt8) then (if bt176.1.toList = ([] : List UInt8) then (if bt176.2 = 2 then ((yd1.f k 0 false ([] : List ByteArray) false false).bind fun t182 => (some (t182 == 3))) else (none)) else (none)) else (none)) else (none)) else (none)) else (none)) else (none)) else (none)) else (none)) else (none)))) = some r := H
  have A1 := Aside0.mk A10
  clear A10
  replace H := Option.bind_eq_some_iff.mp H
  obtain ⟨⟨t168, t169, t172⟩, A20, H⟩ := H
  replace H : ((yd0.f k 1 true ([] : List ByteArray) false false (⟨#[101]⟩ : ByteArray) y150 y153 true).bind fun bt176 => (if (t161.length : Int) = 1 then (if 0 < (t161.length : Int) then (if ((rd_T38 t161 0).f0).toList = ([116] : List UInt8) then (if ((rd_T38 t161 0).f2).toList = ([] : List UInt8) then (if (wrap64 ((((rd_T38 t161 0).f5).length : Int) + (t164.length : Int))) = 0 then (if (t169.length : Int) = 1 then (if 0 < (t169.length : Int) then (if ((rd_T38 t169 0).f1).toList = ([99, 108, 111, 115, 101, 100] : List UInt8) then (if bt176.1.toList = ([] : List UInt8) then (if bt176.2 = 2 then ((yd1.f k 0 false ([] : List ByteArray) false false).bind fun t182 => (some (t182 == 3))) else (none)) else (none)) else (none)) else (none)) else (none)) else (none)) else (none)) else (none)) else (none)) else (none))) = some r := H
  have A2 := Aside0.mk A20
  clear A20
  replace H := Option.bind_eq_some_iff.mp H
  obtain ⟨⟨t176, t177⟩, A30, H⟩ := H
  replace H : (if (t161.length : Int) = 1 then (if 0 < (t161.length : Int) then (if ((rd_T38 t161 0).f0).toList = ([116] : List UInt8) then (if ((rd_T38 t161 0).f2).toList = ([] : List UInt8) then (if (wrap64 ((((rd_T38 t161 0).f5).length : Int) + (t164.length : Int))) = 0 then (if (t169.length : Int) = 1 then (if 0 < (t169.length : Int) then (if ((rd_T38 t169 0).f1).toList = ([99, 108, 111, 115, 101, 100] : List UInt8) then (if t176.toList = ([] : List UInt8) then (if t177 = 2 then ((yd1.f k 0 false ([] : List ByteArray) false false).bind fun t182 => (some (t182 == 3))) else (none)) else (none)) else (none)) else (none)) else (none)) else (none)) else (none)) else (none)) else (none)) else (none)) = some r := H
  have A3 := Aside0.mk A30
  clear A30
  by_cases c4 : (t161.length : Int) = 1
  rotate_left 1
  · rw [if_neg c4] at H
    have c4b0 : ((t161.length : Int) == 1) = false := beq_eq_false_iff_ne.mpr c4
    have c4b1 : ((t161.length : Int) != 1) = true := bne_iff_ne.mpr c4
    exact absurd H (by simp)

  rw [if_pos c4] at H
  have c4b0 : ((t161.length : Int) == 1) = true := beq_iff_eq.mpr c4
  have c4b1 : ((t161.length : Int) != 1) = false := bne_eq_false_iff_eq.mpr c4
  clear c4
  by_cases c5 : 0 < (t161.length : Int)
  rotate_left 1
  · rw [if_neg c5] at H
    exact absurd H (by simp)
  rw [if_pos c5] at H
  have c5b0 : decide (0 < (t161.length : Int)) = true := decide_eq_true c5
  have c5b1 : decide (0 < t161.length) = true := decide_eq_true (by omega)
  clear c5
  by_cases c6 : ((rd_T38 t161 0).f0).toList = ([116] : List UInt8)
  rotate_left 1
  · rw [if_neg c6] at H
    have c6b0 : (((rd_T38 t161 0).f0).toList == ([116] : List UInt8)) = false := beq_eq_false_iff_ne.mpr c6
    have c6b1 : (((rd_T38 t161 0).f0).toList != ([116] : List UInt8)) = true := bne_iff_ne.mpr c6
    exact absurd H (by simp)
  rw [if_pos c6] at H
  have c6b0 : (((rd_T38 t161 0).f0).toList == ([116] : List UInt8)) = true := beq_iff_eq.mpr c6
  have c6b1 : (((rd_T38 t161 0).f0).toList != ([116] : List UInt8)) = false := bne_eq_false_iff_eq.mpr c6
  clear c6
  by_cases c7 : ((rd_T38 t161 0).f2).toList = ([] : List UInt8)
  rotate_left 1
  · rw [if_neg c7] at H
    have c7b0 : (((rd_T38 t161 0).f2).toList == ([] : List UInt8)) = false := beq_eq_false_iff_ne.mpr c7
    have c7b1 : (((rd_T38 t161 0).f2).toList != ([] : List UInt8)) = true := bne_iff_ne.mpr c7
    exact absurd H (by simp)
  rw [if_pos c7] at H
  have c7b0 : (((rd_T38 t161 0).f2).toList == ([] : List UInt8)) = true := beq_iff_eq.mpr c7
  have c7b1 : (((rd_T38 t161 0).f2).toList != ([] : List UInt8)) = false := bne_eq_false_iff_eq.mpr c7
  clear c7
  by_cases c8 : (wrap64 ((((rd_T38 t161 0).f5).length : Int) + (t164.length : Int))) = 0
  rotate_left 1
  · rw [if_neg c8] at H
    have c8b0 : ((wrap64 ((((rd_T38 t161 0).f5).length : Int) + (t164.length : Int))) == 0) = false := beq_eq_false_iff_ne.mpr c8
    have c8b1 : ((wrap64 ((((rd_T38 t161 0).f5).length : Int) + (t164.length : Int))) != 0) = true := bne_iff_ne.mpr c8
    exact absurd H (by simp)
  rw [if_pos c8] at H
  have c8b0 : ((wrap64 ((((rd_T38 t161 0).f5).length : Int) + (t164.length : Int))) == 0) = true := beq_iff_eq.mpr c8
  have c8b1 : ((wrap64 ((((rd_T38 t161 0).f5).length : Int) + (t164.length : Int))) != 0) = false := bne_eq_false_iff_eq.mpr c8
  clear c8
  by_cases c9 : (t169.length : Int) = 1
  rotate_left 1
  · rw [if_neg c9] at H
    have c9b0 : ((t169.length : Int) == 1) = false := beq_eq_false_iff_ne.mpr c9
    have c9b1 : ((t169.length : Int) != 1) = true := bne_iff_ne.mpr c9
    exact absurd H (by simp)
  rw [if_pos c9] at H
  have c9b0 : ((t169.length : Int) == 1) = true := beq_iff_eq.mpr c9
  have c9b1 : ((t169.length : Int) != 1) = false := bne_eq_false_iff_eq.mpr c9
  clear c9
  by_cases c10 : 0 < (t169.length : Int)
  rotate_left 1
  · rw [if_neg c10] at H
    exact absurd H (by simp)
  rw [if_pos c10] at H
  have c10b0 : decide (0 < (t169.length : Int)) = true := decide_eq_true c10
  have c10b1 : decide (0 < t169.length) = true := decide_eq_true (by omega)
  clear c10
  by_cases c11 : ((rd_T38 t169 0).f1).toList = ([99, 108, 111, 115, 101, 100] : List UInt8)
  rotate_left 1
  · rw [if_neg c11] at H
    have c11b0 : (((rd_T38 t169 0).f1).toList == ([99, 108, 111, 115, 101, 100] : List UInt8)) = false := beq_eq_false_iff_ne.mpr c11
    have c11b1 : (((rd_T38 t169 0).f1).toList != ([99, 108, 111, 115, 101, 100] : List UInt8)) = true := bne_iff_ne.mpr c11
    exact absurd H (by simp)
  rw [if_pos c11] at H
  have c11b0 : (((rd_T38 t169 0).f1).toList == ([99, 108, 111, 115, 101, 100] : List UInt8)) = true := beq_iff_eq.mpr c11
  have c11b1 : (((rd_T38 t169 0).f1).toList != ([99, 108, 111, 115, 101, 100] : List UInt8)) = false := bne_eq_false_iff_eq.mpr c11
  clear c11
  by_cases c12 : t176.toList = ([] : List UInt8)
  rotate_left 1
  · rw [if_neg c12] at H
    have c12b0 : (t176.toList == ([] : List UInt8)) = false := beq_eq_false_iff_ne.mpr c12
    have c12b1 : (t176.toList != ([] : List UInt8)) = true := bne_iff_ne.mpr c12
    exact absurd H (by simp)
  rw [if_pos c12] at H
  have c12b0 : (t176.toList == ([] : List UInt8)) = true := beq_iff_eq.mpr c12
  have c12b1 : (t176.toList != ([] : List UInt8)) = false := bne_eq_false_iff_eq.mpr c12
  clear c12
  by_cases c13 : t177 = 2
  rotate_left 1
  · rw [if_neg c13] at H
    have c13b0 : (t177 == 2) = false := beq_eq_false_iff_ne.mpr c13
    have c13b1 : (t177 != 2) = true := bne_iff_ne.mpr c13
    exact absurd H (by simp)
  rw [if_pos c13] at H
  have c13b0 : (t177 == 2) = true := beq_iff_eq.mpr c13
  have c13b1 : (t177 != 2) = false := bne_eq_false_iff_eq.mpr c13
  clear c13
  replace H := Option.bind_eq_some_iff.mp H
  obtain ⟨t182, A140, H⟩ := H
  replace H : (some (t182 == 3)) = some r := H
  have A14 := Aside0.mk A140
  clear A140
  obtain rfl := Option.some.inj H
  go_enter Tryd.func4, Tryd.ntmps4
  try go_wp2_with (first | ((with_reducible refine yc1 (N := 6) rfl ?_); (try (refine yh2 (by rfl) ?_; dsimp only)); refine Kd.R_lit Kd.string _ 9 ?hg (N := 6) ?hd (xs := ([(⟨#[110]⟩ : ByteArray)] : List ByteArray)) (inner := [.string (⟨#[110]⟩ : ByteArray)]) (ok := fun _ => True) (okp := fun _ => True) ?hr ?hp (fun _ hk => hk) trivial (Below.refl _ _) (Nat.le_refl _) (by simp) ?_; (case hd => rfl); (case hg => rfl); (case hr => first | (go_simp; done) | (go_simp; rfl)); (case hp => exact (Reps.one (show Kd.M Kd.string _ _ _ (⟨#[110]⟩ : ByteArray) [.string (⟨#[110]⟩ : ByteArray)] from rfl) (Reps.none _ _))); intro v148 w15 ho16 hb hg_ hnew_; clear hg_ hnew_; (first | rw [← Ny147.out] at ho16 | (simp only [Int.reduceToNat] at ho16; rw [← Ny147.out] at ho16)); have n0_ := Aside0.mk (Kd.yg9 ho16 (ya7 (by repeat (first | (with_reducible first | exact HB.out | apply ya2 | apply ya0 | apply ya1) | exact HB.out)))); have n1_ := Aside0.mk (yb1 (by repeat (first | (with_reducible first | exact HB.out | apply ya2 | apply ya0 | apply ya1) | exact HB.out)) hb); clear HB; have HO149 := n0_; have HB := n1_; clear n0_ n1_; clear hb ho16; obtain ⟨Ao17, co17, eo17⟩ := Kd.yd9 HO149.out; subst eo17) | ((with_reducible refine yc1 (N := 9) rfl ?_); (try (refine yh2 (by rfl) ?_; dsimp only)); refine Kd.N_lit k38 _ 38 ?hg (N' := 9) ?hd (xs := ([(⟨(⟨#[116]⟩ : ByteArray), (⟨#[]⟩ : ByteArray), (⟨#[99]⟩ : ByteArray), (⟨#[119]⟩ : ByteArray), 0, y147, 0⟩ : S38), (⟨(⟨#[117]⟩ : ByteArray), (⟨#[]⟩ : ByteArray), (⟨#[]⟩ : ByteArray), (⟨#[]⟩ : ByteArray), 0, ([] : List ByteArray), 0⟩ : S38)] : List (S38))) (inner := [.string (⟨#[116]⟩ : ByteArray), .string (⟨#[]⟩ : ByteArray), .string (⟨#[99]⟩ : ByteArray), .string (⟨#[119]⟩ : ByteArray), .int .i64 0, .slice Ao17 y147.length co17, .int .u64 0, .string (⟨#[117]⟩ : ByteArray), .string (⟨#[]⟩ : ByteArray), .string (⟨#[]⟩ : ByteArray), .string (⟨#[]⟩ : ByteArray), .int .i64 0, .slice none 0 0, .int .u64 0]) (ok := (fun _ => True)) (okp := (fun _ => True)) ?hr ?hp (fun _ hk => hk) ((show ∀ k_, w15.heap.size ≤ k_ → (fun _ => True) k_ from fun k_ hk => trivial) _ (Nat.le_refl _)) (Below.refl _ _) (Nat.le_refl _) (by simp) ?_; (case hd => rfl); (case hg => rfl); (case hr => first | (go_simp; done) | (go_simp; rfl)); (case hp => exact (Reps.c7 (show Kd.FK k38 _ _ (⟨(⟨#[116]⟩ : ByteArray), (⟨#[]⟩ : ByteArray), (⟨#[99]⟩ : ByteArray), (⟨#[119]⟩ : ByteArray), 0, y147, 0⟩ : S38) [.string (⟨#[116]⟩ : ByteArray), .string (⟨#[]⟩ : ByteArray), .string (⟨#[99]⟩ : ByteArray), .string (⟨#[119]⟩ : ByteArray), .int .i64 0, .slice Ao17 y147.length co17, .int .u64 0] from (k38_mkF _ _ (⟨(⟨#[116]⟩ : ByteArray), (⟨#[]⟩ : ByteArray), (⟨#[99]⟩ : ByteArray), (⟨#[119]⟩ : ByteArray), 0, y147, 0⟩ : S38) (Kd.ye8 (Kd.R_mono (ok' := (fun _ => True)) (HO149.out) (fun k_ hk => trivial))).2.1 (Kd.R_F (Kd.R_mono (ok' := (fun _ => True)) (HO149.out) (fun k_ hk => trivial))))) (Reps.c7 (show Kd.FK k38 _ _ (⟨(⟨#[117]⟩ : ByteArray), (⟨#[]⟩ : ByteArray), (⟨#[]⟩ : ByteArray), (⟨#[]⟩ : ByteArray), 0, ([] : List ByteArray), 0⟩ : S38) [.string (⟨#[117]⟩ : ByteArray), .string (⟨#[]⟩ : ByteArray), .string (⟨#[]⟩ : ByteArray), .string (⟨#[]⟩ : ByteArray), .int .i64 0, .slice none 0 0, .int .u64 0] from (k38_mkF _ _ (⟨(⟨#[117]⟩ : ByteArray), (⟨#[]⟩ : ByteArray), (⟨#[]⟩ : ByteArray), (⟨#[]⟩ : ByteArray), 0, ([] : List ByteArray), 0⟩ : S38) (Nat.le_refl _) (Kd.F_nil _ _ _))) (Reps.none _ _)))); intro v151 w18 ho19 hb hg_ hnew_; clear hg_ hnew_; (first | rw [← Ny150.out] at ho19 | (simp only [Int.reduceToNat] at ho19; rw [← Ny150.out] at ho19)); have n0_ := Aside0.mk (Kd.yt5 ho19 (ya7 (by repeat (first | (with_reducible first | exact HB.out | apply ya2 | apply ya0 | apply ya1) | exact HB.out)))); have n1_ := Aside0.mk (yb1 (by repeat (first | (with_reducible first | exact HB.out | apply ya2 | apply ya0 | apply ya1) | exact HB.out)) hb); clear HB; clear HO149; have HO152 := n0_; have HB := n1_; clear n0_ n1_; clear hb ho19) | ((with_reducible refine yc1 (N := 10) rfl ?_); (try (refine yh2 (by rfl) ?_; dsimp only)); refine Kd.R_lit Kd.string _ 9 ?hg (N := 10) ?hd (xs := ([(⟨#[109]⟩ : ByteArray)] : List ByteArray)) (inner := [.string (⟨#[109]⟩ : ByteArray)]) (ok := fun _ => True) (okp := fun _ => True) ?hr ?hp (fun _ hk => hk) trivial (Below.refl _ _) (Nat.le_refl _) (by simp) ?_; (case hd => rfl); (case hg => rfl); (case hr => first | (go_simp; done) | (go_simp; rfl)); (case hp => exact (Reps.one (show Kd.M Kd.string _ _ _ (⟨#[109]⟩ : ByteArray) [.string (⟨#[109]⟩ : ByteArray)] from rfl) (Reps.none _ _))); intro v154 w20 ho21 hb hg_ hnew_; clear hg_ hnew_; (first | rw [← Ny153.out] at ho21 | (simp only [Int.reduceToNat] at ho21; rw [← Ny153.out] at ho21)); have n0_ := Aside0.mk (Kd.N_elder' (by (with_reducible repeat (first | apply Kd.N_alloc | apply Kd.N_drewN | apply Kd.N_drew)); exact HO152.out) (Kd.R_base ho21) hb); have n1_ := Aside0.mk (Kd.yg9 ho21 (ya7 (by repeat (first | (with_reducible first | exact HB.out | apply ya2 | apply ya0 | apply ya1) | exact HB.out)))); have n2_ := Aside0.mk (yb1 (by repeat (first | (with_reducible first | exact HB.out | apply ya2 | apply ya0 | apply ya1) | exact HB.out)) hb); clear HO152; clear HB; have HO152 := n0_; have HO155 := n1_; have HB := n2_; clear n0_ n1_ n2_; clear hb ho21; obtain ⟨Ao22, co22, eo22⟩ := Kd.yd9 HO155.out; subst eo22; obtain ⟨Ao23, co23, eo23⟩ := Kd.yt4 HO152.out; subst eo23) | ((with_reducible refine yc1 (N := 1) rfl ?_); (try (refine yh2 (by rfl) ?_; dsimp only)); refine yb9 ?hg (N := 1) ?hd (cs := #[.string (⟨#[]⟩ : ByteArray), .slice none 0 0, .slice none 0 0]) (t := 27) ?hr ?_; (case hd => rfl); (case hg => rfl); (case hr => first | (go_simp; done) | (go_simp; rfl)); intro gb156 hg w24 hbox hb; have n0_ := Aside0.mk (Kd.yi2 (Kd.ym3 (by (with_reducible repeat (first | apply Kd.N_alloc | apply Kd.N_drewN | apply Kd.N_drew)); exact HO152.out) gb156 (Nat.le_of_eq hg.symm)) hb); have n1_ := Aside0.mk (Kd.ye5 (by (with_reducible repeat (first | apply Kd.yd7 | apply Kd.R_drewN | apply Kd.R_drew)); exact HO155.out) hb); have n2_ := Aside0.mk (yb1 (by repeat (first | (with_reducible first | exact HB.out | apply ya2 | apply ya0 | apply ya1) | exact HB.out)) hb); have n3_ := Aside0.mk (hbox); have n4_ := Aside0.mk ((by rw [hg]; exact (ya7 (by repeat (first | (with_reducible first | exact HB.out | apply ya2 | apply ya0 | apply ya1) | exact HB.out))) : w.heap.size ≤ gb156)); have n5_ := Aside0.mk ((by rw [hg]; exact (ya7 (by repeat (first | (with_reducible first | exact HB.out | apply ya2 | apply ya0 | apply ya1) | exact HB.out))) : w.heap.size ≤ gb156)); clear HO152; clear HO155; clear HB; have HO152 := n0_; have HO155 := n1_; have HB := n2_; have BK156 := n3_; have GW156 := n4_; have GE156 := n5_; clear n0_ n1_ n2_ n3_ n4_ n5_; clear hb hbox hg; obtain ⟨hcz25_0, hcz25_1, hcz25_2, hfz25_0, hfz25_1, hfz25_2⟩ := bx3 BK156.out) | ((with_reducible refine yc1 (N := 12) rfl ?_); (try (refine yh2 (by rfl) ?_; dsimp only)); refine Kd.R_lit Kd.string _ 9 ?hg (N := 12) ?hd (xs := ([(⟨#[119]⟩ : ByteArray)] : List ByteArray)) (inner := [.string (⟨#[119]⟩ : ByteArray)]) (ok := fun _ => True) (okp := fun _ => True) ?hr ?hp (fun _ hk => hk) trivial (Below.refl _ _) (Nat.le_refl _) (by simp) ?_; (case hd => rfl); (case hg => rfl); (case hr => first | (go_simp; done) | (go_simp; rfl)); (case hp => exact (Reps.one (show Kd.M Kd.string _ _ _ (⟨#[119]⟩ : ByteArray) [.string (⟨#[119]⟩ : ByteArray)] from rfl) (Reps.none _ _))); intro v158 w26 ho27 hb hg_ hnew_; clear hg_ hnew_; (first | rw [← Ny157.out] at ho27 | (simp only [Int.reduceToNat] at ho27; rw [← Ny157.out] at ho27)); have n0_ := Aside0.mk (Kd.N_elder' (by (with_reducible repeat (first | apply Kd.N_alloc | apply Kd.N_drewN | apply Kd.N_drew)); exact (Kd.N_mono (Kd.N_far (p := ⟨gb156, 2, none⟩) (Kd.N_far (p := ⟨gb156, 1, none⟩) (Kd.N_far (p := ⟨gb156, 0, none⟩) (Kd.N_mono HO152.out (fun k_ hk => (⟨hk, hk.2⟩ : _ ∧ k_ ≠ gb156))) (fun _ hk => hk.2) (.string (⟨#[101]⟩ : ByteArray))) (fun _ hk => hk.2) (.slice Ao23 y150.length co23)) (fun _ hk => hk.2) (.slice Ao22 y153.length co22)) (fun _ h_ => h_.1))) (Kd.R_base ho27) hb); have n1_ := Aside0.mk (Kd.yk1 (by (with_reducible repeat (first | apply Kd.yd7 | apply Kd.R_drewN | apply Kd.R_drew)); exact (Kd.R_mono (Kd.R_far (p := ⟨gb156, 2, none⟩) (Kd.R_far (p := ⟨gb156, 1, none⟩) (Kd.R_far (p := ⟨gb156, 0, none⟩) (Kd.yf3 HO155.out BK156.out (by decide)) (fun _ hk => hk.2) (.string (⟨#[101]⟩ : ByteArray))) (fun _ hk => hk.2) (.slice Ao23 y150.length co23)) (fun _ hk => hk.2) (.slice Ao22 y153.length co22)) (fun _ h_ => h_.1))) (Kd.R_base ho27) hb); have n2_ := Aside0.mk (Kd.yg9 (Kd.R_new' ho27 (Kd.R_lt (by (with_reducible repeat (first | apply Kd.yd7 | apply Kd.R_drewN | apply Kd.R_drew)); exact (Kd.R_mono (Kd.R_far (p := ⟨gb156, 2, none⟩) (Kd.R_far (p := ⟨gb156, 1, none⟩) (Kd.R_far (p := ⟨gb156, 0, none⟩) (Kd.yf3 HO155.out BK156.out (by decide)) (fun _ hk => hk.2) (.string (⟨#[101]⟩ : ByteArray))) (fun _ hk => hk.2) (.slice Ao23 y150.length co23)) (fun _ hk => hk.2) (.slice Ao22 y153.length co22)) (fun _ h_ => h_.1))))) (ya7 (by repeat (first | (with_reducible first | exact HB.out | apply ya2 | apply ya0 | apply ya1 | refine ya3 ?_ GE156.out) | exact HB.out)))); have n3_ := Aside0.mk (yb2 (g := gb156) (o := .cells #[.string (⟨#[101]⟩ : ByteArray), .slice Ao23 y150.length co23, .slice Ao22 y153.length co22] 27 (0, 0)) (by (with_reducible repeat (first | refine ya5 ?_ _ | refine ya6 ?_ | refine ya4 ?_ _)); refine yc7 (cs := #[.string (⟨#[101]⟩ : ByteArray), .slice Ao23 y150.length co23, .slice none 0 0]) ?_ 2 _ rfl; (with_reducible repeat (first | refine ya5 ?_ _ | refine ya6 ?_ | refine ya4 ?_ _)); refine yc7 (cs := #[.string (⟨#[101]⟩ : ByteArray), .slice none 0 0, .slice none 0 0]) ?_ 1 _ rfl; (with_reducible repeat (first | refine ya5 ?_ _ | refine ya6 ?_ | refine ya4 ?_ _)); refine yc7 (cs := #[.string (⟨#[]⟩ : ByteArray), .slice none 0 0, .slice none 0 0]) ?_ 0 _ rfl; (with_reducible repeat (first | refine ya5 ?_ _ | refine ya6 ?_ | refine ya4 ?_ _)); exact BK156.out) hb); have n4_ := Aside0.mk (yb1 (by repeat (first | (with_reducible first | exact HB.out | apply ya2 | apply ya0 | apply ya1 | refine ya3 ?_ GE156.out) | exact HB.out)) hb); clear HO152; clear HO155; clear BK156; clear HB; have HO152 := n0_; have HO155 := n1_; have HO159 := n2_; have BK156 := n3_; have HB := n4_; clear n0_ n1_ n2_ n3_ n4_; clear hb ho27; obtain ⟨Ao28, co28, eo28⟩ := Kd.yd9 HO159.out; subst eo28; obtain ⟨hcz29_0, hcz29_1, hcz29_2, hfz29_0, hfz29_1, hfz29_2⟩ := bx3 BK156.out) | ((with_reducible refine yd5 (f := 9) rfl ?_); refine goesL_ (some 15) rfl rfl Tryd.func9 (by kernel_rfl) rfl #[.agg #[.int .i64 3, .bool false, .slice Ao28 y157.length co28, .bool false, .bool false], .agg #[.string (⟨#[101]⟩ : ByteArray), .slice Ao23 y150.length co23, .slice Ao22 y153.length co22]] rfl (by (try simp only [List.map_toArray, List.map_cons, List.map_nil]); first | done | rfl | (simp only [List.length_drop, List.length_take]; rfl) | (simp only [ByteArray.size_extract]; rfl)) ?_; (with_reducible refine (yb8.calls k 3 false _ _ y157 false false (⟨#[101]⟩ : ByteArray) _ _ y150 _ _ y153 t160 t161 t164 _ ?side1 ?side2 ?side3 ?side4 ?side5 ?side6 A1.out).mono ?_); (case side1 => repeat (first | exact (Kd.ye8 HO159.out).2.2 | (with_reducible refine Kd.yd2 ?_ _) | (with_reducible refine Kd.C_drewN ?_ _) | (with_reducible refine Kd.C_drew ?_))); (case side2 => exact (Kd.ye8 HO159.out).2.1); (case side3 => repeat (first | exact (Kd.yh4 HO152.out).2.2 | (with_reducible refine Kd.yd2 ?_ _) | (with_reducible refine Kd.C_drewN ?_ _) | (with_reducible refine Kd.C_drew ?_))); (case side4 => exact (Kd.yh4 HO152.out).2.1); (case side5 => repeat (first | exact (Kd.ye8 HO155.out).2.2 | (with_reducible refine Kd.yd2 ?_ _) | (with_reducible refine Kd.C_drewN ?_ _) | (with_reducible refine Kd.C_drew ?_))); (case side6 => exact (Kd.ye8 HO155.out).2.1); rintro e w30 ⟨v162, v165, rfl, ho0, ho1, hb⟩; refine ⟨_, rfl, ?_⟩; have n0_ := Aside0.mk (Kd.N_mono (Kd.N_told (Kd.N_told (Kd.N_old (by (with_reducible repeat (first | apply Kd.N_alloc | apply Kd.N_drewN | apply Kd.N_drew)); exact HO152.out) hb) (Kd.N_base (Kd.S_N ho0))) (Kd.R_base ho1)) (fun _ h_ => h_.1)); have n1_ := Aside0.mk (Kd.yk1 (by (with_reducible repeat (first | apply Kd.yd7 | apply Kd.R_drewN | apply Kd.R_drew)); exact HO155.out) (Kd.R_base ho1) hb); have n2_ := Aside0.mk (Kd.yk1 (by (with_reducible repeat (first | apply Kd.yd7 | apply Kd.R_drewN | apply Kd.R_drew)); exact HO159.out) (Kd.R_base ho1) hb); have n3_ := Aside0.mk (Kd.yt5 (Kd.N_mono (ok' := fun k_ => some k_ ≠ (v165 : Value).ownBlock ∧ some k_ ≠ (.slice Ao23 y150.length co23 : Value).ownBlock ∧ some k_ ≠ (.slice Ao22 y153.length co22 : Value).ownBlock ∧ some k_ ≠ (.slice Ao28 y157.length co28 : Value).ownBlock ∧ k_ ≠ gb156) (Kd.S_N (Kd.yq9 ho0)) (fun k_ hk_ => ⟨hk_.1, (Kd.fresh' (Kd.N_lt (by (with_reducible repeat (first | apply Kd.N_alloc | apply Kd.N_drewN | apply Kd.N_drew)); exact HO152.out)) k_ hk_.2.1), (Kd.fresh' (Kd.R_lt (by (with_reducible repeat (first | apply Kd.yd7 | apply Kd.R_drewN | apply Kd.R_drew)); exact HO155.out)) k_ hk_.2.1), (Kd.fresh' (Kd.R_lt (by (with_reducible repeat (first | apply Kd.yd7 | apply Kd.R_drewN | apply Kd.R_drew)); exact HO159.out)) k_ hk_.2.1), (Kd.freshB (g := gb156) (o := .cells #[.string (⟨#[101]⟩ : ByteArray), .slice Ao23 y150.length co23, .slice Ao22 y153.length co22] 27 (0, 0)) (by (with_reducible repeat (first | refine ya5 ?_ _ | refine ya6 ?_ | refine ya4 ?_ _)); exact BK156.out) k_ hk_.2.1)⟩)) (ya7 (by repeat (first | (with_reducible first | exact HB.out | apply ya2 | apply ya0 | apply ya1 | refine ya3 ?_ GE156.out) | exact HB.out)))); have n4_ := Aside0.mk (Kd.yg9 (Kd.R_new' (Kd.R_new' ho1 (Kd.R_lt (by (with_reducible repeat (first | apply Kd.yd7 | apply Kd.R_drewN | apply Kd.R_drew)); exact HO155.out))) (Kd.R_lt (by (with_reducible repeat (first | apply Kd.yd7 | apply Kd.R_drewN | apply Kd.R_drew)); exact HO159.out))) (ya7 (by repeat (first | (with_reducible first | exact HB.out | apply ya2 | apply ya0 | apply ya1 | refine ya3 ?_ GE156.out) | exact HB.out)))); have n5_ := Aside0.mk (yb2 (g := gb156) (o := .cells #[.string (⟨#[101]⟩ : ByteArray), .slice Ao23 y150.length co23, .slice Ao22 y153.length co22] 27 (0, 0)) (by (with_reducible repeat (first | refine ya5 ?_ _ | refine ya6 ?_ | refine ya4 ?_ _)); exact BK156.out) hb); have n6_ := Aside0.mk (yb1 (by repeat (first | (with_reducible first | exact HB.out | apply ya2 | apply ya0 | apply ya1 | refine ya3 ?_ GE156.out) | exact HB.out)) hb); clear HO152; clear HO155; clear HO159; clear BK156; clear HB; have HO152 := n0_; have HO155 := n1_; have HO159 := n2_; have HO163 := n3_; have HO166 := n4_; have BK156 := n5_; have HB := n6_; clear n0_ n1_ n2_ n3_ n4_ n5_ n6_; (try clear hb); (try clear hb2); (try clear hk); (try clear hi); (try clear ho0); (try clear ho1)) | ((with_reducible refine yc1 (N := 2) rfl ?_); (try (refine yh2 (by rfl) ?_; dsimp only)); refine yb9 ?hg (N := 2) ?hd (cs := #[.string (⟨#[]⟩ : ByteArray), .slice none 0 0, .slice none 0 0]) (t := 27) ?hr ?_; (case hd => rfl); (case hg => rfl); (case hr => first | (go_simp; done) | (go_simp; rfl)); intro gb167 hg w31 hbox hb; have n0_ := Aside0.mk (Kd.yi2 (Kd.ym3 (by (with_reducible repeat (first | apply Kd.N_alloc | apply Kd.N_drewN | apply Kd.N_drew)); exact HO152.out) gb167 (Nat.le_of_eq hg.symm)) hb); have n1_ := Aside0.mk (Kd.ye5 (by (with_reducible repeat (first | apply Kd.yd7 | apply Kd.R_drewN | apply Kd.R_drew)); exact HO155.out) hb); have n2_ := Aside0.mk (Kd.ye5 (by (with_reducible repeat (first | apply Kd.yd7 | apply Kd.R_drewN | apply Kd.R_drew)); exact HO159.out) hb); have n3_ := Aside0.mk (Kd.yi2 (Kd.ym3 (by (with_reducible repeat (first | apply Kd.N_alloc | apply Kd.N_drewN | apply Kd.N_drew)); exact HO163.out) gb167 (Nat.le_of_eq hg.symm)) hb); have n4_ := Aside0.mk (Kd.ye5 (by (with_reducible repeat (first | apply Kd.yd7 | apply Kd.R_drewN | apply Kd.R_drew)); exact HO166.out) hb); have n5_ := Aside0.mk (yb2 (g := gb156) (o := .cells #[.string (⟨#[101]⟩ : ByteArray), .slice Ao23 y150.length co23, .slice Ao22 y153.length co22] 27 (0, 0)) (by (with_reducible repeat (first | refine ya5 ?_ _ | refine ya6 ?_ | refine ya4 ?_ _)); exact BK156.out) hb); have n6_ := Aside0.mk (yb1 (by repeat (first | (with_reducible first | exact HB.out | apply ya2 | apply ya0 | apply ya1 | refine ya3 ?_ GE156.out) | exact HB.out)) hb); have n7_ := Aside0.mk (hbox); have n8_ := Aside0.mk ((by rw [hg]; exact (ya7 (by repeat (first | (with_reducible first | exact HB.out | apply ya2 | apply ya0 | apply ya1 | refine ya3 ?_ GE156.out) | exact HB.out))) : w.heap.size ≤ gb167)); have n9_ := Aside0.mk ((by rw [hg]; exact (ya7 (by repeat (first | (with_reducible first | exact HB.out | apply ya2 | apply ya0 | apply ya1 | refine ya3 ?_ GE156.out) | exact HB.out))) : w.heap.size ≤ gb167)); have n10_ := Aside0.mk ((by rw [hg]; exact Nat.ne_of_lt (blk_lt (g := gb156) (o := .cells #[.string (⟨#[101]⟩ : ByteArray), .slice Ao23 y150.length co23, .slice Ao22 y153.length co22] 27 (0, 0)) (by (with_reducible repeat (first | refine ya5 ?_ _ | refine ya6 ?_ | refine ya4 ?_ _)); exact BK156.out)) : gb156 ≠ gb167)); have n11_ := Aside0.mk ((by rw [hg]; exact Nat.ne_of_gt (blk_lt (g := gb156) (o := .cells #[.string (⟨#[101]⟩ : ByteArray), .slice Ao23 y150.length co23, .slice Ao22 y153.length co22] 27 (0, 0)) (by (with_reducible repeat (first | refine ya5 ?_ _ | refine ya6 ?_ | refine ya4 ?_ _)); exact BK156.out)) : gb167 ≠ gb156)); clear HO152; clear HO155; clear HO159; clear HO163; clear HO166; clear BK156; clear HB; have HO152 := n0_; have HO155 := n1_; have HO159 := n2_; have HO163 := n3_; have HO166 := n4_; have BK156 := n5_; have HB := n6_; have BK167 := n7_; have GW167 := n8_; have GE167 := n9_; have NB156_167 := n10_; have NB167_156 := n11_; clear n0_ n1_ n2_ n3_ n4_ n5_ n6_ n7_ n8_ n9_ n10_ n11_; clear hb hbox hg; have hnb32 := NB167_156.out; have hnc32 := NB156_167.out; obtain ⟨hcz33_0, hcz33_1, hcz33_2, hfz33_0, hfz33_1, hfz33_2⟩ := bx3 BK167.out; obtain ⟨Ao34, co34, eo34⟩ := Kd.yt4 HO163.out; subst eo34; obtain ⟨Ao35, co35, eo35⟩ := Kd.yd9 HO166.out; subst eo35; obtain ⟨hcz36_0, hcz36_1, hcz36_2, hfz36_0, hfz36_1, hfz36_2⟩ := bx3 BK156.out) | ((with_reducible refine yd5 (f := 9) rfl ?_); refine goesL_ (some 18) rfl rfl Tryd.func9 (by kernel_rfl) rfl #[.agg #[.int .i64 2, .bool true, .slice none 0 0, .bool false, .bool false], .agg #[.string (⟨#[101]⟩ : ByteArray), .slice Ao23 y150.length co23, .slice Ao22 y153.length co22]] rfl (by (try simp only [List.map_toArray, List.map_cons, List.map_nil]); first | done | rfl | (simp only [List.length_drop, List.length_take]; rfl) | (simp only [ByteArray.size_extract]; rfl)) ?_; (refine (yb8.calls k 2 true _ _ ([] : List ByteArray) false false (⟨#[101]⟩ : ByteArray) _ _ y150 _ _ y153 t168 t169 t172 _ ?side1 ?side2 ?side3 ?side4 ?side5 ?side6 A2.out).mono ?_); (case side1 => exact Kd.C_nil _ _); (case side2 => exact Nat.le_refl _); (case side3 => refine (Kd.yh4 (e := 38) (base := w.heap.size) (ok := fun k_ => ((((((True ∧ some k_ ≠ (.slice Ao22 y153.length co22 : Value).ownBlock) ∧ k_ ≠ gb156) ∧ some k_ ≠ (.slice Ao28 y157.length co28 : Value).ownBlock) ∧ some k_ ≠ (.slice Ao34 t161.length co34 : Value).ownBlock) ∧ some k_ ≠ (.slice Ao35 t164.length co35 : Value).ownBlock) ∧ k_ ≠ gb167)) (n := y150.length) (c := co23) ?_).2.2; exact (by (with_reducible repeat (first | apply Kd.N_alloc | apply Kd.N_drewN | apply Kd.N_drew)); exact (Kd.N_mono (Kd.N_far (p := ⟨gb167, 2, none⟩) (Kd.N_far (p := ⟨gb167, 1, none⟩) (Kd.N_far (p := ⟨gb167, 0, none⟩) (Kd.N_mono HO152.out (fun k_ hk => (⟨hk, hk.2⟩ : _ ∧ k_ ≠ gb167))) (fun _ hk => hk.2) (.string t160)) (fun _ hk => hk.2) (.slice Ao34 t161.length co34)) (fun _ hk => hk.2) (.slice Ao35 t164.length co35)) (fun _ h_ => h_.1)))); (case side4 => exact (Kd.yh4 HO152.out).2.1); (case side5 => refine (Kd.ye8 (e := 9) (base := w.heap.size) (ok := fun k_ => ((True ∧ some k_ ≠ (.slice Ao28 y157.length co28 : Value).ownBlock) ∧ some k_ ≠ (.slice Ao35 t164.length co35 : Value).ownBlock)) (n := y153.length) (c := co22) ?_).2.2; exact (by (with_reducible repeat (first | apply Kd.yd7 | apply Kd.R_drewN | apply Kd.R_drew)); exact (Kd.R_mono (Kd.R_far (p := ⟨gb167, 2, none⟩) (Kd.R_far (p := ⟨gb167, 1, none⟩) (Kd.R_far (p := ⟨gb167, 0, none⟩) (Kd.yf3 HO155.out BK167.out (by decide)) (fun _ hk => hk.2) (.string t160)) (fun _ hk => hk.2) (.slice Ao34 t161.length co34)) (fun _ hk => hk.2) (.slice Ao35 t164.length co35)) (fun _ h_ => h_.1)))); (case side6 => exact (Kd.ye8 HO155.out).2.1); rintro e w37 ⟨v170, v173, rfl, ho0, ho1, hb⟩; refine ⟨_, rfl, ?_⟩; have n0_ := Aside0.mk (Kd.N_mono (Kd.N_told (Kd.N_told (Kd.N_old (by (with_reducible repeat (first | apply Kd.N_alloc | apply Kd.N_drewN | apply Kd.N_drew)); exact (Kd.N_mono (Kd.N_far (p := ⟨gb167, 2, none⟩) (Kd.N_far (p := ⟨gb167, 1, none⟩) (Kd.N_far (p := ⟨gb167, 0, none⟩) (Kd.N_mono HO152.out (fun k_ hk => (⟨hk, hk.2⟩ : _ ∧ k_ ≠ gb167))) (fun _ hk => hk.2) (.string t160)) (fun _ hk => hk.2) (.slice Ao34 t161.length co34)) (fun _ hk => hk.2) (.slice Ao35 t164.length co35)) (fun _ h_ => h_.1))) hb) (Kd.N_base (Kd.S_N ho0))) (Kd.R_base ho1)) (fun _ h_ => h_.1)); have n1_ := Aside0.mk (Kd.yk1 (by (with_reducible repeat (first | apply Kd.yd7 | apply Kd.R_drewN | apply Kd.R_drew)); exact (Kd.R_mono (Kd.R_far (p := ⟨gb167, 2, none⟩) (Kd.R_far (p := ⟨gb167, 1, none⟩) (Kd.R_far (p := ⟨gb167, 0, none⟩) (Kd.yf3 HO155.out BK167.out (by decide)) (fun _ hk => hk.2) (.string t160)) (fun _ hk => hk.2) (.slice Ao34 t161.length co34)) (fun _ hk => hk.2) (.slice Ao35 t164.length co35)) (fun _ h_ => h_.1))) (Kd.R_base ho1) hb); have n2_ := Aside0.mk (Kd.yk1 (by (with_reducible repeat (first | apply Kd.yd7 | apply Kd.R_drewN | apply Kd.R_drew)); exact (Kd.R_mono (Kd.R_far (p := ⟨gb167, 2, none⟩) (Kd.R_far (p := ⟨gb167, 1, none⟩) (Kd.R_far (p := ⟨gb167, 0, none⟩) (Kd.yf3 HO159.out BK167.out (by decide)) (fun _ hk => hk.2) (.string t160)) (fun _ hk => hk.2) (.slice Ao34 t161.length co34)) (fun _ hk => hk.2) (.slice Ao35 t164.length co35)) (fun _ h_ => h_.1))) (Kd.R_base ho1) hb); have n3_ := Aside0.mk (Kd.N_mono (Kd.N_told (Kd.N_told (Kd.N_old (by (with_reducible repeat (first | apply Kd.N_alloc | apply Kd.N_drewN | apply Kd.N_drew)); exact (Kd.N_mono (Kd.N_far (p := ⟨gb167, 2, none⟩) (Kd.N_far (p := ⟨gb167, 1, none⟩) (Kd.N_far (p := ⟨gb167, 0, none⟩) (Kd.N_mono HO163.out (fun k_ hk => (⟨hk, hk.2⟩ : _ ∧ k_ ≠ gb167))) (fun _ hk => hk.2) (.string t160)) (fun _ hk => hk.2) (.slice Ao34 t161.length co34)) (fun _ hk => hk.2) (.slice Ao35 t164.length co35)) (fun _ h_ => h_.1))) hb) (Kd.N_base (Kd.S_N ho0))) (Kd.R_base ho1)) (fun _ h_ => h_.1)); have n4_ := Aside0.mk (Kd.yk1 (by (with_reducible repeat (first | apply Kd.yd7 | apply Kd.R_drewN | apply Kd.R_drew)); exact (Kd.R_mono (Kd.R_far (p := ⟨gb167, 2, none⟩) (Kd.R_far (p := ⟨gb167, 1, none⟩) (Kd.R_far (p := ⟨gb167, 0, none⟩) (Kd.yf3 HO166.out BK167.out (by decide)) (fun _ hk => hk.2) (.string t160)) (fun _ hk => hk.2) (.slice Ao34 t161.length co34)) (fun _ hk => hk.2) (.slice Ao35 t164.length co35)) (fun _ h_ => h_.1))) (Kd.R_base ho1) hb); have n5_ := Aside0.mk (Kd.yt5 (Kd.N_mono (ok' := fun k_ => some k_ ≠ (v173 : Value).ownBlock ∧ some k_ ≠ (.slice Ao23 y150.length co23 : Value).ownBlock ∧ some k_ ≠ (.slice Ao22 y153.length co22 : Value).ownBlock ∧ some k_ ≠ (.slice Ao28 y157.length co28 : Value).ownBlock ∧ some k_ ≠ (.slice Ao34 t161.length co34 : Value).ownBlock ∧ some k_ ≠ (.slice Ao35 t164.length co35 : Value).ownBlock ∧ k_ ≠ gb156 ∧ k_ ≠ gb167) (Kd.S_N (Kd.yq9 ho0)) (fun k_ hk_ => ⟨hk_.1, (Kd.fresh' (Kd.N_lt (by (with_reducible repeat (first | apply Kd.N_alloc | apply Kd.N_drewN | apply Kd.N_drew)); exact (Kd.N_mono (Kd.N_far (p := ⟨gb167, 2, none⟩) (Kd.N_far (p := ⟨gb167, 1, none⟩) (Kd.N_far (p := ⟨gb167, 0, none⟩) (Kd.N_mono HO152.out (fun k_ hk => (⟨hk, hk.2⟩ : _ ∧ k_ ≠ gb167))) (fun _ hk => hk.2) (.string t160)) (fun _ hk => hk.2) (.slice Ao34 t161.length co34)) (fun _ hk => hk.2) (.slice Ao35 t164.length co35)) (fun _ h_ => h_.1)))) k_ hk_.2.1), (Kd.fresh' (Kd.R_lt (by (with_reducible repeat (first | apply Kd.yd7 | apply Kd.R_drewN | apply Kd.R_drew)); exact (Kd.R_mono (Kd.R_far (p := ⟨gb167, 2, none⟩) (Kd.R_far (p := ⟨gb167, 1, none⟩) (Kd.R_far (p := ⟨gb167, 0, none⟩) (Kd.yf3 HO155.out BK167.out (by decide)) (fun _ hk => hk.2) (.string t160)) (fun _ hk => hk.2) (.slice Ao34 t161.length co34)) (fun _ hk => hk.2) (.slice Ao35 t164.length co35)) (fun _ h_ => h_.1)))) k_ hk_.2.1), (Kd.fresh' (Kd.R_lt (by (with_reducible repeat (first | apply Kd.yd7 | apply Kd.R_drewN | apply Kd.R_drew)); exact (Kd.R_mono (Kd.R_far (p := ⟨gb167, 2, none⟩) (Kd.R_far (p := ⟨gb167, 1, none⟩) (Kd.R_far (p := ⟨gb167, 0, none⟩) (Kd.yf3 HO159.out BK167.out (by decide)) (fun _ hk => hk.2) (.string t160)) (fun _ hk => hk.2) (.slice Ao34 t161.length co34)) (fun _ hk => hk.2) (.slice Ao35 t164.length co35)) (fun _ h_ => h_.1)))) k_ hk_.2.1), (Kd.fresh' (Kd.N_lt (by (with_reducible repeat (first | apply Kd.N_alloc | apply Kd.N_drewN | apply Kd.N_drew)); exact (Kd.N_mono (Kd.N_far (p := ⟨gb167, 2, none⟩) (Kd.N_far (p := ⟨gb167, 1, none⟩) (Kd.N_far (p := ⟨gb167, 0, none⟩) (Kd.N_mono HO163.out (fun k_ hk => (⟨hk, hk.2⟩ : _ ∧ k_ ≠ gb167))) (fun _ hk => hk.2) (.string t160)) (fun _ hk => hk.2) (.slice Ao34 t161.length co34)) (fun _ hk => hk.2) (.slice Ao35 t164.length co35)) (fun _ h_ => h_.1)))) k_ hk_.2.1), (Kd.fresh' (Kd.R_lt (by (with_reducible repeat (first | apply Kd.yd7 | apply Kd.R_drewN | apply Kd.R_drew)); exact (Kd.R_mono (Kd.R_far (p := ⟨gb167, 2, none⟩) (Kd.R_far (p := ⟨gb167, 1, none⟩) (Kd.R_far (p := ⟨gb167, 0, none⟩) (Kd.yf3 HO166.out BK167.out (by decide)) (fun _ hk => hk.2) (.string t160)) (fun _ hk => hk.2) (.slice Ao34 t161.length co34)) (fun _ hk => hk.2) (.slice Ao35 t164.length co35)) (fun _ h_ => h_.1)))) k_ hk_.2.1), (Kd.freshB (g := gb156) (o := .cells #[.string (⟨#[101]⟩ : ByteArray), .slice Ao23 y150.length co23, .slice Ao22 y153.length co22] 27 (0, 0)) (by (repeat (first | (with_reducible first | refine ya5 ?_ _ | refine ya6 ?_ | refine ya4 ?_ _) | refine ye7 ?_ NB156_167.out _)); exact BK156.out) k_ hk_.2.1), (Kd.freshB (g := gb167) (o := .cells #[.string t160, .slice Ao34 t161.length co34, .slice Ao35 t164.length co35] 27 (0, 0)) (by (with_reducible repeat (first | refine ya5 ?_ _ | refine ya6 ?_ | refine ya4 ?_ _)); refine yc7 (cs := #[.string t160, .slice Ao34 t161.length co34, .slice none 0 0]) ?_ 2 _ rfl; (with_reducible repeat (first | refine ya5 ?_ _ | refine ya6 ?_ | refine ya4 ?_ _)); refine yc7 (cs := #[.string t160, .slice none 0 0, .slice none 0 0]) ?_ 1 _ rfl; (with_reducible repeat (first | refine ya5 ?_ _ | refine ya6 ?_ | refine ya4 ?_ _)); refine yc7 (cs := #[.string (⟨#[]⟩ : ByteArray), .slice none 0 0, .slice none 0 0]) ?_ 0 _ rfl; (with_reducible repeat (first | refine ya5 ?_ _ | refine ya6 ?_ | refine ya4 ?_ _)); exact BK167.out) k_ hk_.2.1)⟩)) (ya7 (by repeat (first | (with_reducible first | exact HB.out | apply ya2 | apply ya0 | apply ya1 | refine ya3 ?_ GE156.out | refine ya3 ?_ GE167.out) | exact HB.out)))); have n6_ := Aside0.mk (Kd.yg9 (Kd.R_new' (Kd.R_new' (Kd.R_new' ho1 (Kd.R_lt (by (with_reducible repeat (first | apply Kd.yd7 | apply Kd.R_drewN | apply Kd.R_drew)); exact (Kd.R_mono (Kd.R_far (p := ⟨gb167, 2, none⟩) (Kd.R_far (p := ⟨gb167, 1, none⟩) (Kd.R_far (p := ⟨gb167, 0, none⟩) (Kd.yf3 HO155.out BK167.out (by decide)) (fun _ hk => hk.2) (.string t160)) (fun _ hk => hk.2) (.slice Ao34 t161.length co34)) (fun _ hk => hk.2) (.slice Ao35 t164.length co35)) (fun _ h_ => h_.1))))) (Kd.R_lt (by (with_reducible repeat (first | apply Kd.yd7 | apply Kd.R_drewN | apply Kd.R_drew)); exact (Kd.R_mono (Kd.R_far (p := ⟨gb167, 2, none⟩) (Kd.R_far (p := ⟨gb167, 1, none⟩) (Kd.R_far (p := ⟨gb167, 0, none⟩) (Kd.yf3 HO159.out BK167.out (by decide)) (fun _ hk => hk.2) (.string t160)) (fun _ hk => hk.2) (.slice Ao34 t161.length co34)) (fun _ hk => hk.2) (.slice Ao35 t164.length co35)) (fun _ h_ => h_.1))))) (Kd.R_lt (by (with_reducible repeat (first | apply Kd.yd7 | apply Kd.R_drewN | apply Kd.R_drew)); exact (Kd.R_mono (Kd.R_far (p := ⟨gb167, 2, none⟩) (Kd.R_far (p := ⟨gb167, 1, none⟩) (Kd.R_far (p := ⟨gb167, 0, none⟩) (Kd.yf3 HO166.out BK167.out (by decide)) (fun _ hk => hk.2) (.string t160)) (fun _ hk => hk.2) (.slice Ao34 t161.length co34)) (fun _ hk => hk.2) (.slice Ao35 t164.length co35)) (fun _ h_ => h_.1))))) (ya7 (by repeat (first | (with_reducible first | exact HB.out | apply ya2 | apply ya0 | apply ya1 | refine ya3 ?_ GE156.out | refine ya3 ?_ GE167.out) | exact HB.out)))); have n7_ := Aside0.mk (yb2 (g := gb156) (o := .cells #[.string (⟨#[101]⟩ : ByteArray), .slice Ao23 y150.length co23, .slice Ao22 y153.length co22] 27 (0, 0)) (by (repeat (first | (with_reducible first | refine ya5 ?_ _ | refine ya6 ?_ | refine ya4 ?_ _) | refine ye7 ?_ NB156_167.out _)); exact BK156.out) hb); have n8_ := Aside0.mk (yb2 (g := gb167) (o := .cells #[.string t160, .slice Ao34 t161.length co34, .slice Ao35 t164.length co35] 27 (0, 0)) (by (with_reducible repeat (first | refine ya5 ?_ _ | refine ya6 ?_ | refine ya4 ?_ _)); refine yc7 (cs := #[.string t160, .slice Ao34 t161.length co34, .slice none 0 0]) ?_ 2 _ rfl; (with_reducible repeat (first | refine ya5 ?_ _ | refine ya6 ?_ | refine ya4 ?_ _)); refine yc7 (cs := #[.string t160, .slice none 0 0, .slice none 0 0]) ?_ 1 _ rfl; (with_reducible repeat (first | refine ya5 ?_ _ | refine ya6 ?_ | refine ya4 ?_ _)); refine yc7 (cs := #[.string (⟨#[]⟩ : ByteArray), .slice none 0 0, .slice none 0 0]) ?_ 0 _ rfl; (with_reducible repeat (first | refine ya5 ?_ _ | refine ya6 ?_ | refine ya4 ?_ _)); exact BK167.out) hb); have n9_ := Aside0.mk (yb1 (by repeat (first | (with_reducible first | exact HB.out | apply ya2 | apply ya0 | apply ya1 | refine ya3 ?_ GE156.out | refine ya3 ?_ GE167.out) | exact HB.out)) hb); clear HO152; clear HO155; clear HO159; clear HO163; clear HO166; clear BK156; clear BK167; clear HB; have HO152 := n0_; have HO155 := n1_; have HO159 := n2_; have HO163 := n3_; have HO166 := n4_; have HO171 := n5_; have HO174 := n6_; have BK156 := n7_; have BK167 := n8_; have HB := n9_; clear n0_ n1_ n2_ n3_ n4_ n5_ n6_ n7_ n8_ n9_; (try clear hb); (try clear hb2); (try clear hk); (try clear hi); (try clear ho0); (try clear ho1)) | ((with_reducible refine yc1 (N := 3) rfl ?_); (try (refine yh2 (by rfl) ?_; dsimp only)); refine yb9 ?hg (N := 3) ?hd (cs := #[.string (⟨#[]⟩ : ByteArray), .slice none 0 0, .slice none 0 0]) (t := 27) ?hr ?_; (case hd => rfl); (case hg => rfl); (case hr => first | (go_simp; done) | (go_simp; rfl)); intro gb175 hg w38 hbox hb; have n0_ := Aside0.mk (Kd.yi2 (Kd.ym3 (by (with_reducible repeat (first | apply Kd.N_alloc | apply Kd.N_drewN | apply Kd.N_drew)); exact HO152.out) gb175 (Nat.le_of_eq hg.symm)) hb); have n1_ := Aside0.mk (Kd.ye5 (by (with_reducible repeat (first | apply Kd.yd7 | apply Kd.R_drewN | apply Kd.R_drew)); exact HO155.out) hb); have n2_ := Aside0.mk (Kd.ye5 (by (with_reducible repeat (first | apply Kd.yd7 | apply Kd.R_drewN | apply Kd.R_drew)); exact HO159.out) hb); have n3_ := Aside0.mk (Kd.yi2 (Kd.ym3 (by (with_reducible repeat (first | apply Kd.N_alloc | apply Kd.N_drewN | apply Kd.N_drew)); exact HO163.out) gb175 (Nat.le_of_eq hg.symm)) hb); have n4_ := Aside0.mk (Kd.ye5 (by (with_reducible repeat (first | apply Kd.yd7 | apply Kd.R_drewN | apply Kd.R_drew)); exact HO166.out) hb); have n5_ := Aside0.mk (Kd.yi2 (Kd.ym3 (by (with_reducible repeat (first | apply Kd.N_alloc | apply Kd.N_drewN | apply Kd.N_drew)); exact HO171.out) gb175 (Nat.le_of_eq hg.symm)) hb); have n6_ := Aside0.mk (Kd.ye5 (by (with_reducible repeat (first | apply Kd.yd7 | apply Kd.R_drewN | apply Kd.R_drew)); exact HO174.out) hb); have n7_ := Aside0.mk (yb2 (g := gb156) (o := .cells #[.string (⟨#[101]⟩ : ByteArray), .slice Ao23 y150.length co23, .slice Ao22 y153.length co22] 27 (0, 0)) (by (with_reducible repeat (first | refine ya5 ?_ _ | refine ya6 ?_ | refine ya4 ?_ _)); exact BK156.out) hb); have n8_ := Aside0.mk (yb2 (g := gb167) (o := .cells #[.string t160, .slice Ao34 t161.length co34, .slice Ao35 t164.length co35] 27 (0, 0)) (by (with_reducible repeat (first | refine ya5 ?_ _ | refine ya6 ?_ | refine ya4 ?_ _)); exact BK167.out) hb); have n9_ := Aside0.mk (yb1 (by repeat (first | (with_reducible first | exact HB.out | apply ya2 | apply ya0 | apply ya1 | refine ya3 ?_ GE156.out | refine ya3 ?_ GE167.out) | exact HB.out)) hb); have n10_ := Aside0.mk (hbox); have n11_ := Aside0.mk ((by rw [hg]; exact (ya7 (by repeat (first | (with_reducible first | exact HB.out | apply ya2 | apply ya0 | apply ya1 | refine ya3 ?_ GE156.out | refine ya3 ?_ GE167.out) | exact HB.out))) : w.heap.size ≤ gb175)); have n12_ := Aside0.mk ((by rw [hg]; exact (ya7 (by repeat (first | (with_reducible first | exact HB.out | apply ya2 | apply ya0 | apply ya1 | refine ya3 ?_ GE156.out | refine ya3 ?_ GE167.out) | exact HB.out))) : w.heap.size ≤ gb175)); have n13_ := Aside0.mk ((by rw [hg]; exact Nat.ne_of_lt (blk_lt (g := gb156) (o := .cells #[.string (⟨#[101]⟩ : ByteArray), .slice Ao23 y150.length co23, .slice Ao22 y153.length co22] 27 (0, 0)) (by (with_reducible repeat (first | refine ya5 ?_ _ | refine ya6 ?_ | refine ya4 ?_ _)); exact BK156.out)) : gb156 ≠ gb175)); have n14_ := Aside0.mk ((by rw [hg]; exact Nat.ne_of_gt (blk_lt (g := gb156) (o := .cells #[.string (⟨#[101]⟩ : ByteArray), .slice Ao23 y150.length co23, .slice Ao22 y153.length co22] 27 (0, 0)) (by (with_reducible repeat (first | refine ya5 ?_ _ | refine ya6 ?_ | refine ya4 ?_ _)); exact BK156.out)) : gb175 ≠ gb156)); have n15_ := Aside0.mk ((by rw [hg]; exact Nat.ne_of_lt (blk_lt (g := gb167) (o := .cells #[.string t160, .slice Ao34 t161.length co34, .slice Ao35 t164.length co35] 27 (0, 0)) (by (with_reducible repeat (first | refine ya5 ?_ _ | refine ya6 ?_ | refine ya4 ?_ _)); exact BK167.out)) : gb167 ≠ gb175)); have n16_ := Aside0.mk ((by rw [hg]; exact Nat.ne_of_gt (blk_lt (g := gb167) (o := .cells #[.string t160, .slice Ao34 t161.length co34, .slice Ao35 t164.length co35] 27 (0, 0)) (by (with_reducible repeat (first | refine ya5 ?_ _ | refine ya6 ?_ | refine ya4 ?_ _)); exact BK167.out)) : gb175 ≠ gb167)); clear HO152; clear HO155; clear HO159; clear HO163; clear HO166; clear HO171; clear HO174; clear BK156; clear BK167; clear HB; have HO152 := n0_; have HO155 := n1_; have HO159 := n2_; have HO163 := n3_; have HO166 := n4_; have HO171 := n5_; have HO174 := n6_; have BK156 := n7_; have BK167 := n8_; have HB := n9_; have BK175 := n10_; have GW175 := n11_; have GE175 := n12_; have NB156_175 := n13_; have NB175_156 := n14_; have NB167_175 := n15_; have NB175_167 := n16_; clear n0_ n1_ n2_ n3_ n4_ n5_ n6_ n7_ n8_ n9_ n10_ n11_ n12_ n13_ n14_ n15_ n16_; clear hb hbox hg; have hnb39 := NB175_156.out; have hnc39 := NB156_175.out; have hnb40 := NB175_167.out; have hnc40 := NB167_175.out; obtain ⟨hcz41_0, hcz41_1, hcz41_2, hfz41_0, hfz41_1, hfz41_2⟩ := bx3 BK175.out; obtain ⟨Ao42, co42, eo42⟩ := Kd.yt4 HO171.out; subst eo42; obtain ⟨Ao43, co43, eo43⟩ := Kd.yd9 HO174.out; subst eo43; obtain ⟨hcz44_0, hcz44_1, hcz44_2, hfz44_0, hfz44_1, hfz44_2⟩ := bx3 BK156.out) | ((with_reducible refine yd5 (f := 7) rfl ?_); refine goesL_ (some 22) rfl rfl Tryd.func7 (by kernel_rfl) rfl #[.agg #[.int .i64 1, .bool true, .slice none 0 0, .bool false, .bool false], .agg #[.string (⟨#[101]⟩ : ByteArray), .slice Ao23 y150.length co23, .slice Ao22 y153.length co22], .bool true] rfl (by (try simp only [List.map_toArray, List.map_cons, List.map_nil]); first | done | rfl | (simp only [List.length_drop, List.length_take]; rfl) | (simp only [ByteArray.size_extract]; rfl)) ?_; (refine (yd0.calls k 1 true _ _ ([] : List ByteArray) false false (⟨#[101]⟩ : ByteArray) _ _ y150 _ _ y153 true t176 t177 _ ?side1 ?side2 ?side3 ?side4 ?side5 ?side6 (by exact MT.below HML.out (by repeat (first | (with_reducible first | exact HB.out | apply ya2 | apply ya0 | apply ya1 | refine ya3 ?_ GE156.out | refine ya3 ?_ GE167.out | refine ya3 ?_ GE175.out) | exact HB.out))) A3.out).mono ?_); (case side1 => exact Kd.C_nil _ _); (case side2 => exact Nat.le_refl _); (case side3 => refine (Kd.yh4 (e := 38) (base := w.heap.size) (ok := fun k_ => (((((((((True ∧ some k_ ≠ (.slice Ao22 y153.length co22 : Value).ownBlock) ∧ k_ ≠ gb156) ∧ some k_ ≠ (.slice Ao28 y157.length co28 : Value).ownBlock) ∧ some k_ ≠ (.slice Ao34 t161.length co34 : Value).ownBlock) ∧ some k_ ≠ (.slice Ao35 t164.length co35 : Value).ownBlock) ∧ k_ ≠ gb167) ∧ some k_ ≠ (.slice Ao42 t169.length co42 : Value).ownBlock) ∧ some k_ ≠ (.slice Ao43 t172.length co43 : Value).ownBlock) ∧ k_ ≠ gb175)) (n := y150.length) (c := co23) ?_).2.2; exact (by (with_reducible repeat (first | apply Kd.N_alloc | apply Kd.N_drewN | apply Kd.N_drew)); exact (Kd.N_mono (Kd.N_far (p := ⟨gb175, 2, none⟩) (Kd.N_far (p := ⟨gb175, 1, none⟩) (Kd.N_far (p := ⟨gb175, 0, none⟩) (Kd.N_mono HO152.out (fun k_ hk => (⟨hk, hk.2⟩ : _ ∧ k_ ≠ gb175))) (fun _ hk => hk.2) (.string t168)) (fun _ hk => hk.2) (.slice Ao42 t169.length co42)) (fun _ hk => hk.2) (.slice Ao43 t172.length co43)) (fun _ h_ => h_.1)))); (case side4 => exact (Kd.yh4 HO152.out).2.1); (case side5 => refine (Kd.ye8 (e := 9) (base := w.heap.size) (ok := fun k_ => (((True ∧ some k_ ≠ (.slice Ao28 y157.length co28 : Value).ownBlock) ∧ some k_ ≠ (.slice Ao35 t164.length co35 : Value).ownBlock) ∧ some k_ ≠ (.slice Ao43 t172.length co43 : Value).ownBlock)) (n := y153.length) (c := co22) ?_).2.2; exact (by (with_reducible repeat (first | apply Kd.yd7 | apply Kd.R_drewN | apply Kd.R_drew)); exact (Kd.R_mono (Kd.R_far (p := ⟨gb175, 2, none⟩) (Kd.R_far (p := ⟨gb175, 1, none⟩) (Kd.R_far (p := ⟨gb175, 0, none⟩) (Kd.yf3 HO155.out BK175.out (by decide)) (fun _ hk => hk.2) (.string t168)) (fun _ hk => hk.2) (.slice Ao42 t169.length co42)) (fun _ hk => hk.2) (.slice Ao43 t172.length co43)) (fun _ h_ => h_.1)))); (case side6 => exact (Kd.ye8 HO155.out).2.1); rintro e w45 ⟨rfl, hb⟩; refine ⟨_, rfl, ?_⟩; have n0_ := Aside0.mk (Kd.yi2 (by (with_reducible repeat (first | apply Kd.N_alloc | apply Kd.N_drewN | apply Kd.N_drew)); exact (Kd.N_mono (Kd.N_far (p := ⟨gb175, 2, none⟩) (Kd.N_far (p := ⟨gb175, 1, none⟩) (Kd.N_far (p := ⟨gb175, 0, none⟩) (Kd.N_mono HO152.out (fun k_ hk => (⟨hk, hk.2⟩ : _ ∧ k_ ≠ gb175))) (fun _ hk => hk.2) (.string t168)) (fun _ hk => hk.2) (.slice Ao42 t169.length co42)) (fun _ hk => hk.2) (.slice Ao43 t172.length co43)) (fun _ h_ => h_.1))) hb); have n1_ := Aside0.mk (Kd.ye5 (by (with_reducible repeat (first | apply Kd.yd7 | apply Kd.R_drewN | apply Kd.R_drew)); exact (Kd.R_mono (Kd.R_far (p := ⟨gb175, 2, none⟩) (Kd.R_far (p := ⟨gb175, 1, none⟩) (Kd.R_far (p := ⟨gb175, 0, none⟩) (Kd.yf3 HO155.out BK175.out (by decide)) (fun _ hk => hk.2) (.string t168)) (fun _ hk => hk.2) (.slice Ao42 t169.length co42)) (fun _ hk => hk.2) (.slice Ao43 t172.length co43)) (fun _ h_ => h_.1))) hb); have n2_ := Aside0.mk (Kd.ye5 (by (with_reducible repeat (first | apply Kd.yd7 | apply Kd.R_drewN | apply Kd.R_drew)); exact (Kd.R_mono (Kd.R_far (p := ⟨gb175, 2, none⟩) (Kd.R_far (p := ⟨gb175, 1, none⟩) (Kd.R_far (p := ⟨gb175, 0, none⟩) (Kd.yf3 HO159.out BK175.out (by decide)) (fun _ hk => hk.2) (.string t168)) (fun _ hk => hk.2) (.slice Ao42 t169.length co42)) (fun _ hk => hk.2) (.slice Ao43 t172.length co43)) (fun _ h_ => h_.1))) hb); have n3_ := Aside0.mk (Kd.yi2 (by (with_reducible repeat (first | apply Kd.N_alloc | apply Kd.N_drewN | apply Kd.N_drew)); exact (Kd.N_mono (Kd.N_far (p := ⟨gb175, 2, none⟩) (Kd.N_far (p := ⟨gb175, 1, none⟩) (Kd.N_far (p := ⟨gb175, 0, none⟩) (Kd.N_mono HO163.out (fun k_ hk => (⟨hk, hk.2⟩ : _ ∧ k_ ≠ gb175))) (fun _ hk => hk.2) (.string t168)) (fun _ hk => hk.2) (.slice Ao42 t169.length co42)) (fun _ hk => hk.2) (.slice Ao43 t172.length co43)) (fun _ h_ => h_.1))) hb); have n4_ := Aside0.mk (Kd.ye5 (by (with_reducible repeat (first | apply Kd.yd7 | apply Kd.R_drewN | apply Kd.R_drew)); exact (Kd.R_mono (Kd.R_far (p := ⟨gb175, 2, none⟩) (Kd.R_far (p := ⟨gb175, 1, none⟩) (Kd.R_far (p := ⟨gb175, 0, none⟩) (Kd.yf3 HO166.out BK175.out (by decide)) (fun _ hk => hk.2) (.string t168)) (fun _ hk => hk.2) (.slice Ao42 t169.length co42)) (fun _ hk => hk.2) (.slice Ao43 t172.length co43)) (fun _ h_ => h_.1))) hb); have n5_ := Aside0.mk (Kd.yi2 (by (with_reducible repeat (first | apply Kd.N_alloc | apply Kd.N_drewN | apply Kd.N_drew)); exact (Kd.N_mono (Kd.N_far (p := ⟨gb175, 2, none⟩) (Kd.N_far (p := ⟨gb175, 1, none⟩) (Kd.N_far (p := ⟨gb175, 0, none⟩) (Kd.N_mono HO171.out (fun k_ hk => (⟨hk, hk.2⟩ : _ ∧ k_ ≠ gb175))) (fun _ hk => hk.2) (.string t168)) (fun _ hk => hk.2) (.slice Ao42 t169.length co42)) (fun _ hk => hk.2) (.slice Ao43 t172.length co43)) (fun _ h_ => h_.1))) hb); have n6_ := Aside0.mk (Kd.ye5 (by (with_reducible repeat (first | apply Kd.yd7 | apply Kd.R_drewN | apply Kd.R_drew)); exact (Kd.R_mono (Kd.R_far (p := ⟨gb175, 2, none⟩) (Kd.R_far (p := ⟨gb175, 1, none⟩) (Kd.R_far (p := ⟨gb175, 0, none⟩) (Kd.yf3 HO174.out BK175.out (by decide)) (fun _ hk => hk.2) (.string t168)) (fun _ hk => hk.2) (.slice Ao42 t169.length co42)) (fun _ hk => hk.2) (.slice Ao43 t172.length co43)) (fun _ h_ => h_.1))) hb); have n7_ := Aside0.mk (yb2 (g := gb156) (o := .cells #[.string (⟨#[101]⟩ : ByteArray), .slice Ao23 y150.length co23, .slice Ao22 y153.length co22] 27 (0, 0)) (by (repeat (first | (with_reducible first | refine ya5 ?_ _ | refine ya6 ?_ | refine ya4 ?_ _) | refine ye7 ?_ NB156_175.out _)); exact BK156.out) hb); have n8_ := Aside0.mk (yb2 (g := gb167) (o := .cells #[.string t160, .slice Ao34 t161.length co34, .slice Ao35 t164.length co35] 27 (0, 0)) (by (repeat (first | (with_reducible first | refine ya5 ?_ _ | refine ya6 ?_ | refine ya4 ?_ _) | refine ye7 ?_ NB167_175.out _)); exact BK167.out) hb); have n9_ := Aside0.mk (yb2 (g := gb175) (o := .cells #[.string t168, .slice Ao42 t169.length co42, .slice Ao43 t172.length co43] 27 (0, 0)) (by (with_reducible repeat (first | refine ya5 ?_ _ | refine ya6 ?_ | refine ya4 ?_ _)); refine yc7 (cs := #[.string t168, .slice Ao42 t169.length co42, .slice none 0 0]) ?_ 2 _ rfl; (with_reducible repeat (first | refine ya5 ?_ _ | refine ya6 ?_ | refine ya4 ?_ _)); refine yc7 (cs := #[.string t168, .slice none 0 0, .slice none 0 0]) ?_ 1 _ rfl; (with_reducible repeat (first | refine ya5 ?_ _ | refine ya6 ?_ | refine ya4 ?_ _)); refine yc7 (cs := #[.string (⟨#[]⟩ : ByteArray), .slice none 0 0, .slice none 0 0]) ?_ 0 _ rfl; (with_reducible repeat (first | refine ya5 ?_ _ | refine ya6 ?_ | refine ya4 ?_ _)); exact BK175.out) hb); have n10_ := Aside0.mk (yb1 (by repeat (first | (with_reducible first | exact HB.out | apply ya2 | apply ya0 | apply ya1 | refine ya3 ?_ GE156.out | refine ya3 ?_ GE167.out | refine ya3 ?_ GE175.out) | exact HB.out)) hb); clear HO152; clear HO155; clear HO159; clear HO163; clear HO166; clear HO171; clear HO174; clear BK156; clear BK167; clear BK175; clear HB; have HO152 := n0_; have HO155 := n1_; have HO159 := n2_; have HO163 := n3_; have HO166 := n4_; have HO171 := n5_; have HO174 := n6_; have BK156 := n7_; have BK167 := n8_; have BK175 := n9_; have HB := n10_; clear n0_ n1_ n2_ n3_ n4_ n5_ n6_ n7_ n8_ n9_ n10_; (try clear hb); (try clear hb2); (try clear hk); (try clear hi)))
  have n0_ := Aside0.mk (Kd.N_drew HO152.out)
  have n1_ := Aside0.mk (Kd.R_drew HO155.out)
  have n2_ := Aside0.mk (Kd.R_drew HO159.out)
  have n3_ := Aside0.mk (Kd.N_drew HO163.out)
  have n4_ := Aside0.mk (Kd.R_drew HO166.out)
  have n5_ := Aside0.mk (Kd.N_drew HO171.out)
  have n6_ := Aside0.mk (Kd.R_drew HO174.out)
  have n7_ := Aside0.mk (ya6 BK156.out)
  have n8_ := Aside0.mk (ya6 BK167.out)
  have n9_ := Aside0.mk (ya6 BK175.out)
  have n10_ := Aside0.mk (ya1 HB.out)
  clear HO152
  clear HO155
  clear HO159
  clear HO163
  clear HO166
  clear HO171
  clear HO174
  clear BK156
  clear BK167
  clear BK175
  clear HB
  have HO152 := n0_
  have HO155 := n1_
  have HO159 := n2_
  have HO163 := n3_
  have HO166 := n4_
  have HO171 := n5_
  have HO174 := n6_
  have BK156 := n7_
  have BK167 := n8_
  have BK175 := n9_
  have HB := n10_
  clear n0_ n1_ n2_ n3_ n4_ n5_ n6_ n7_ n8_ n9_ n10_
  have p178 : 0 ≤ (0 : Int) := (by omega)
  have q178 : 0 < (t161.length : Int) := of_decide_eq_true (by first | (with_reducible assumption) | assumption)
  obtain ⟨ad178, A178_5, c178_5, e178, hx178_0, hx178_1, hx178_2, hx178_3, hx178_4, hx178_5, hx178_6, hl178_5, hi178_5⟩ := at_T38 (Kd.yh4 HO163.out).2.2 0 p178 q178
  cases e178
  obtain ⟨ce178, hce178, hMe178, hcc178⟩ := Kd.N_get HO163.out z38 0 p178 (by first | exact q178 | exact of_decide_eq_true (by first | (with_reducible assumption) | assumption) | (have e_ := (Kd.yh4 HO163.out).1; omega))
  obtain ⟨ua178_5, uc178_5, rfl, ul178_5, ge178_5⟩ := yn6 hMe178
  have hv178_5 := hcc178 5 _ rfl
  rw [ye4 _ _ 5 (by omega)] at hv178_5
  replace hv178_5 := Option.some.inj (hv178_5.symm.trans hx178_5)
  injection hv178_5 with hva_ hvn_ hvc_
  rw [hva_] at ge178_5
  rw [hvc_] at ul178_5
  have HL178_5 := Aside0.mk (show Kd.V Kd.string 9 _ w.heap.size _ _ ((rd_T38 t161 0).f5) from Kd.V_mk ul178_5 ge178_5)
  clear hva_ hvn_ hvc_ ge178_5 ul178_5
  clear hcc178 hce178
  have qi178 : (0 < t161.length) = True := eq_true (by omega)
  (try rw [show ((0 : Int)).toNat = 0 from rfl] at hx178_0)
  (try rw [show 0 * 7 = 0 from rfl] at hx178_0)
  (try rw [Addr.add_zero'] at hx178_0)
  (try rw [show ((0 : Int)).toNat = 0 from rfl] at hx178_1)
  (try rw [show 0 * 7 = 0 from rfl] at hx178_1)
  (try rw [Addr.add_zero'] at hx178_1)
  (try rw [show ((0 : Int)).toNat = 0 from rfl] at hx178_2)
  (try rw [show 0 * 7 = 0 from rfl] at hx178_2)
  (try rw [Addr.add_zero'] at hx178_2)
  (try rw [show ((0 : Int)).toNat = 0 from rfl] at hx178_3)
  (try rw [show 0 * 7 = 0 from rfl] at hx178_3)
  (try rw [Addr.add_zero'] at hx178_3)
  (try rw [show ((0 : Int)).toNat = 0 from rfl] at hx178_4)
  (try rw [show 0 * 7 = 0 from rfl] at hx178_4)
  (try rw [Addr.add_zero'] at hx178_4)
  (try rw [show ((0 : Int)).toNat = 0 from rfl] at hx178_5)
  (try rw [show 0 * 7 = 0 from rfl] at hx178_5)
  (try rw [Addr.add_zero'] at hx178_5)
  (try rw [show ((0 : Int)).toNat = 0 from rfl] at hx178_6)
  (try rw [show 0 * 7 = 0 from rfl] at hx178_6)
  (try rw [Addr.add_zero'] at hx178_6)
  have HR178_5 := Aside0.mk hi178_5
  have HC178_5 := Aside0.mk hl178_5
  clear hi178_5 hl178_5
  replace p178 := eq_true p178
  replace q178 := eq_true q178
  have p179 : 0 ≤ (0 : Int) := (by omega)
  have q179 : 0 < (t161.length : Int) := of_decide_eq_true (by first | (with_reducible assumption) | assumption)
  obtain ⟨ad179, A179_5, c179_5, e179, hx179_0, hx179_1, hx179_2, hx179_3, hx179_4, hx179_5, hx179_6, hl179_5, hi179_5⟩ := at_T38 (Kd.yh4 HO163.out).2.2 0 p179 q179
  obtain rfl : ad178 = ad179 := (by injection e179)
  obtain ⟨ce179, hce179, hMe179, hcc179⟩ := Kd.N_get HO163.out z38 0 p179 (by first | exact q179 | exact of_decide_eq_true (by first | (with_reducible assumption) | assumption) | (have e_ := (Kd.yh4 HO163.out).1; omega))
  obtain ⟨ua179_5, uc179_5, rfl, ul179_5, ge179_5⟩ := yn6 hMe179
  have hv179_5 := hcc179 5 _ rfl
  rw [ye4 _ _ 5 (by omega)] at hv179_5
  replace hv179_5 := Option.some.inj (hv179_5.symm.trans hx179_5)
  injection hv179_5 with hva_ hvn_ hvc_
  rw [hva_] at ge179_5
  rw [hvc_] at ul179_5
  have HL179_5 := Aside0.mk (show Kd.V Kd.string 9 _ w.heap.size _ _ ((rd_T38 t161 0).f5) from Kd.V_mk ul179_5 ge179_5)
  clear hva_ hvn_ hvc_ ge179_5 ul179_5
  clear hcc179 hce179
  have qi179 : (0 < t161.length) = True := eq_true (by omega)
  (try rw [show ((0 : Int)).toNat = 0 from rfl] at hx179_0)
  (try rw [show 0 * 7 = 0 from rfl] at hx179_0)
  (try rw [Addr.add_zero'] at hx179_0)
  (try rw [show ((0 : Int)).toNat = 0 from rfl] at hx179_1)
  (try rw [show 0 * 7 = 0 from rfl] at hx179_1)
  (try rw [Addr.add_zero'] at hx179_1)
  (try rw [show ((0 : Int)).toNat = 0 from rfl] at hx179_2)
  (try rw [show 0 * 7 = 0 from rfl] at hx179_2)
  (try rw [Addr.add_zero'] at hx179_2)
  (try rw [show ((0 : Int)).toNat = 0 from rfl] at hx179_3)
  (try rw [show 0 * 7 = 0 from rfl] at hx179_3)
  (try rw [Addr.add_zero'] at hx179_3)
  (try rw [show ((0 : Int)).toNat = 0 from rfl] at hx179_4)
  (try rw [show 0 * 7 = 0 from rfl] at hx179_4)
  (try rw [Addr.add_zero'] at hx179_4)
  (try rw [show ((0 : Int)).toNat = 0 from rfl] at hx179_5)
  (try rw [show 0 * 7 = 0 from rfl] at hx179_5)
  (try rw [Addr.add_zero'] at hx179_5)
  (try rw [show ((0 : Int)).toNat = 0 from rfl] at hx179_6)
  (try rw [show 0 * 7 = 0 from rfl] at hx179_6)
  (try rw [Addr.add_zero'] at hx179_6)
  have HR179_5 := Aside0.mk hi179_5
  have HC179_5 := Aside0.mk hl179_5
  clear hi179_5 hl179_5
  replace p179 := eq_true p179
  replace q179 := eq_true q179
  have ea_ := Option.some.inj (hx178_5.symm.trans hx179_5)
  injection ea_ with ea_ en_ ec_
  subst ea_
  subst ec_
  clear en_
  have p180 : 0 ≤ (0 : Int) := (by omega)
  have q180 : 0 < (t161.length : Int) := of_decide_eq_true (by first | (with_reducible assumption) | assumption)
  obtain ⟨ad180, A180_5, c180_5, e180, hx180_0, hx180_1, hx180_2, hx180_3, hx180_4, hx180_5, hx180_6, hl180_5, hi180_5⟩ := at_T38 (Kd.yh4 HO163.out).2.2 0 p180 q180
  obtain rfl : ad178 = ad180 := (by injection e180)
  obtain ⟨ce180, hce180, hMe180, hcc180⟩ := Kd.N_get HO163.out z38 0 p180 (by first | exact q180 | exact of_decide_eq_true (by first | (with_reducible assumption) | assumption) | (have e_ := (Kd.yh4 HO163.out).1; omega))
  obtain ⟨ua180_5, uc180_5, rfl, ul180_5, ge180_5⟩ := yn6 hMe180
  have hv180_5 := hcc180 5 _ rfl
  rw [ye4 _ _ 5 (by omega)] at hv180_5
  replace hv180_5 := Option.some.inj (hv180_5.symm.trans hx180_5)
  injection hv180_5 with hva_ hvn_ hvc_
  rw [hva_] at ge180_5
  rw [hvc_] at ul180_5
  have HL180_5 := Aside0.mk (show Kd.V Kd.string 9 _ w.heap.size _ _ ((rd_T38 t161 0).f5) from Kd.V_mk ul180_5 ge180_5)
  clear hva_ hvn_ hvc_ ge180_5 ul180_5
  clear hcc180 hce180
  have qi180 : (0 < t161.length) = True := eq_true (by omega)
  (try rw [show ((0 : Int)).toNat = 0 from rfl] at hx180_0)
  (try rw [show 0 * 7 = 0 from rfl] at hx180_0)
  (try rw [Addr.add_zero'] at hx180_0)
  (try rw [show ((0 : Int)).toNat = 0 from rfl] at hx180_1)
  (try rw [show 0 * 7 = 0 from rfl] at hx180_1)
  (try rw [Addr.add_zero'] at hx180_1)
  (try rw [show ((0 : Int)).toNat = 0 from rfl] at hx180_2)
  (try rw [show 0 * 7 = 0 from rfl] at hx180_2)
  (try rw [Addr.add_zero'] at hx180_2)
  (try rw [show ((0 : Int)).toNat = 0 from rfl] at hx180_3)
  (try rw [show 0 * 7 = 0 from rfl] at hx180_3)
  (try rw [Addr.add_zero'] at hx180_3)
  (try rw [show ((0 : Int)).toNat = 0 from rfl] at hx180_4)
  (try rw [show 0 * 7 = 0 from rfl] at hx180_4)
  (try rw [Addr.add_zero'] at hx180_4)
  (try rw [show ((0 : Int)).toNat = 0 from rfl] at hx180_5)
  (try rw [show 0 * 7 = 0 from rfl] at hx180_5)
  (try rw [Addr.add_zero'] at hx180_5)
  (try rw [show ((0 : Int)).toNat = 0 from rfl] at hx180_6)
  (try rw [show 0 * 7 = 0 from rfl] at hx180_6)
  (try rw [Addr.add_zero'] at hx180_6)
  have HR180_5 := Aside0.mk hi180_5
  have HC180_5 := Aside0.mk hl180_5
  clear hi180_5 hl180_5
  replace p180 := eq_true p180
  replace q180 := eq_true q180
  have ea_ := Option.some.inj (hx178_5.symm.trans hx180_5)
  injection ea_ with ea_ en_ ec_
  subst ea_
  subst ec_
  clear en_
  have p181 : 0 ≤ (0 : Int) := (by omega)
  have q181 : 0 < (t169.length : Int) := of_decide_eq_true (by first | (with_reducible assumption) | assumption)
  obtain ⟨ad181, A181_5, c181_5, e181, hx181_0, hx181_1, hx181_2, hx181_3, hx181_4, hx181_5, hx181_6, hl181_5, hi181_5⟩ := at_T38 (Kd.yh4 HO171.out).2.2 0 p181 q181
  cases e181
  obtain ⟨ce181, hce181, hMe181, hcc181⟩ := Kd.N_get HO171.out z38 0 p181 (by first | exact q181 | exact of_decide_eq_true (by first | (with_reducible assumption) | assumption) | (have e_ := (Kd.yh4 HO171.out).1; omega))
  obtain ⟨ua181_5, uc181_5, rfl, ul181_5, ge181_5⟩ := yn6 hMe181
  have hv181_5 := hcc181 5 _ rfl
  rw [ye4 _ _ 5 (by omega)] at hv181_5
  replace hv181_5 := Option.some.inj (hv181_5.symm.trans hx181_5)
  injection hv181_5 with hva_ hvn_ hvc_
  rw [hva_] at ge181_5
  rw [hvc_] at ul181_5
  have HL181_5 := Aside0.mk (show Kd.V Kd.string 9 _ w.heap.size _ _ ((rd_T38 t169 0).f5) from Kd.V_mk ul181_5 ge181_5)
  clear hva_ hvn_ hvc_ ge181_5 ul181_5
  clear hcc181 hce181
  have qi181 : (0 < t169.length) = True := eq_true (by omega)
  (try rw [show ((0 : Int)).toNat = 0 from rfl] at hx181_0)
  (try rw [show 0 * 7 = 0 from rfl] at hx181_0)
  (try rw [Addr.add_zero'] at hx181_0)
  (try rw [show ((0 : Int)).toNat = 0 from rfl] at hx181_1)
  (try rw [show 0 * 7 = 0 from rfl] at hx181_1)
  (try rw [Addr.add_zero'] at hx181_1)
  (try rw [show ((0 : Int)).toNat = 0 from rfl] at hx181_2)
  (try rw [show 0 * 7 = 0 from rfl] at hx181_2)
  (try rw [Addr.add_zero'] at hx181_2)
  (try rw [show ((0 : Int)).toNat = 0 from rfl] at hx181_3)
  (try rw [show 0 * 7 = 0 from rfl] at hx181_3)
  (try rw [Addr.add_zero'] at hx181_3)
  (try rw [show ((0 : Int)).toNat = 0 from rfl] at hx181_4)
  (try rw [show 0 * 7 = 0 from rfl] at hx181_4)
  (try rw [Addr.add_zero'] at hx181_4)
  (try rw [show ((0 : Int)).toNat = 0 from rfl] at hx181_5)
  (try rw [show 0 * 7 = 0 from rfl] at hx181_5)
  (try rw [Addr.add_zero'] at hx181_5)
  (try rw [show ((0 : Int)).toNat = 0 from rfl] at hx181_6)
  (try rw [show 0 * 7 = 0 from rfl] at hx181_6)
  (try rw [Addr.add_zero'] at hx181_6)
  have HR181_5 := Aside0.mk hi181_5
  have HC181_5 := Aside0.mk hl181_5
  clear hi181_5 hl181_5
  replace p181 := eq_true p181
  replace q181 := eq_true q181
  refine start_ (n := 61) (S := fun w' => w'.cell? ⟨gb167, 0, none⟩ = some (.string t160) ∧ w'.cell? ⟨gb167, 1, none⟩ = some (.slice (some ad178) t161.length co34) ∧ w'.cell? ⟨gb167, 2, none⟩ = some (.slice Ao35 t164.length co35) ∧ w'.cell? ⟨gb175, 0, none⟩ = some (.string t168) ∧ w'.cell? ⟨gb175, 1, none⟩ = some (.slice (some ad181) t169.length co42) ∧ w'.cell? ⟨gb175, 2, none⟩ = some (.slice Ao43 t172.length co43) ∧ w'.cell? ad178 = some (.string ((rd_T38 t161 0).f0)) ∧ w'.cell? ⟨ad178.block, ad178.off + 1, none⟩ = some (.string ((rd_T38 t161 0).f1)) ∧ w'.cell? ⟨ad178.block, ad178.off + 2, none⟩ = some (.string ((rd_T38 t161 0).f2)) ∧ w'.cell? ⟨ad178.block, ad178.off + 3, none⟩ = some (.string ((rd_T38 t161 0).f3)) ∧ w'.cell? ⟨ad178.block, ad178.off + 4, none⟩ = some (.int .i64 ((rd_T38 t161 0).f4)) ∧ w'.cell? ⟨ad178.block, ad178.off + 5, none⟩ = some (.slice A178_5 ((rd_T38 t161 0).f5).length c178_5) ∧ w'.cell? ⟨ad178.block, ad178.off + 6, none⟩ = some (.int .u64 ((rd_T38 t161 0).f6)) ∧ w'.cell? ad178 = some (.string ((rd_T38 t161 0).f0)) ∧ w'.cell? ⟨ad178.block, ad178.off + 1, none⟩ = some (.string ((rd_T38 t161 0).f1)) ∧ w'.cell? ⟨ad178.block, ad178.off + 2, none⟩ = some (.string ((rd_T38 t161 0).f2)) ∧ w'.cell? ⟨ad178.block, ad178.off + 3, none⟩ = some (.string ((rd_T38 t161 0).f3)) ∧ w'.cell? ⟨ad178.block, ad178.off + 4, none⟩ = some (.int .i64 ((rd_T38 t161 0).f4)) ∧ w'.cell? ⟨ad178.block, ad178.off + 5, none⟩ = some (.slice A178_5 ((rd_T38 t161 0).f5).length c178_5) ∧ w'.cell? ⟨ad178.block, ad178.off + 6, none⟩ = some (.int .u64 ((rd_T38 t161 0).f6)) ∧ w'.cell? ad178 = some (.string ((rd_T38 t161 0).f0)) ∧ w'.cell? ⟨ad178.block, ad178.off + 1, none⟩ = some (.string ((rd_T38 t161 0).f1)) ∧ w'.cell? ⟨ad178.block, ad178.off + 2, none⟩ = some (.string ((rd_T38 t161 0).f2)) ∧ w'.cell? ⟨ad178.block, ad178.off + 3, none⟩ = some (.string ((rd_T38 t161 0).f3)) ∧ w'.cell? ⟨ad178.block, ad178.off + 4, none⟩ = some (.int .i64 ((rd_T38 t161 0).f4)) ∧ w'.cell? ⟨ad178.block, ad178.off + 5, none⟩ = some (.slice A178_5 ((rd_T38 t161 0).f5).length c178_5) ∧ w'.cell? ⟨ad178.block, ad178.off + 6, none⟩ = some (.int .u64 ((rd_T38 t161 0).f6)) ∧ w'.cell? ad181 = some (.string ((rd_T38 t169 0).f0)) ∧ w'.cell? ⟨ad181.block, ad181.off + 1, none⟩ = some (.string ((rd_T38 t169 0).f1)) ∧ w'.cell? ⟨ad181.block, ad181.off + 2, none⟩ = some (.string ((rd_T38 t169 0).f2)) ∧ w'.cell? ⟨ad181.block, ad181.off + 3, none⟩ = some (.string ((rd_T38 t169 0).f3)) ∧ w'.cell? ⟨ad181.block, ad181.off + 4, none⟩ = some (.int .i64 ((rd_T38 t169 0).f4)) ∧ w'.cell? ⟨ad181.block, ad181.off + 5, none⟩ = some (.slice A181_5 ((rd_T38 t169 0).f5).length c181_5) ∧ w'.cell? ⟨ad181.block, ad181.off + 6, none⟩ = some (.int .u64 ((rd_T38 t169 0).f6))) (ds := []) #[false, false, false, false, false, false, false, false, false, false, false, false, false, false, false, false, false, false, false, false, false, false, false, false, false, false, false, false, false, false, false, false, false, false, false, false, false, false, false, false, false, false, false, false, false, false, false, false, false, false, false, false, false, false, false, false, false, false, false, false, false] (by kernel_rfl) rfl rfl ⟨(yb3 BK167.out 0).trans rfl, (yb3 BK167.out 1).trans rfl, (yb3 BK167.out 2).trans rfl, (yb3 BK175.out 0).trans rfl, (yb3 BK175.out 1).trans rfl, (yb3 BK175.out 2).trans rfl, hx178_0, hx178_1, hx178_2, hx178_3, hx178_4, hx178_5, hx178_6, hx179_0, hx179_1, hx179_2, hx179_3, hx179_4, hx179_5, hx179_6, hx180_0, hx180_1, hx180_2, hx180_3, hx180_4, hx180_5, hx180_6, hx181_0, hx181_1, hx181_2, hx181_3, hx181_4, hx181_5, hx181_6⟩ (fun hHeld => ?_); refine yi5 yc8.tab5 yc8.bits5 (fun HT_ HW_ => ?_)
  generalize w45.drew = w46 at HO152 HO155 HO159 HO163 HO166 HO171 HO174 BK156 BK167 BK175 HB HL178_5 HL179_5 HL180_5 HL181_5 HR178_5 HR179_5 HR180_5 HR181_5 hx178_0 hx178_1 hx178_2 hx178_3 hx178_4 hx178_5 hx178_6 hx179_0 hx179_1 hx179_2 hx179_3 hx179_4 hx179_5 hx179_6 hx180_0 hx180_1 hx180_2 hx180_3 hx180_4 hx180_5 hx180_6 hx181_0 hx181_1 hx181_2 hx181_3 hx181_4 hx181_5 hx181_6 hHeld ⊢
  refine pure_ (i := 0) (N := some 25) (v := ?_) (a' := ?_) #[true, false, false, false, false, false, false, false, false, false, false, false, false, false, false, false, false, false, false, false, false, false, false, false, false, false, false, false, false, false, false, false, false, false, false, false, false, false, false, false, false, false, false, false, false, false, false, false, false, false, false, false, false, false, false, false, false, false, false, false, false] rfl rfl (any_of HT_.out (by kernel_rfl)) (fun _ _ _ h => h) (Or.inl ⟨by rfl, ?_⟩) ?_ ?_
  rotate_left
  · intro w'
    go_simp
    with_reducible rfl
  rotate_left
  · simp only [Act.put, zA, zB, zC, i64_w, i32_w]
    rfl
  refine take_ (i := 1) (N := some 26) (v := ?_) (a' := ?_) #[true, true, false, false, false, false, false, false, false, false, false, false, false, false, false, false, false, false, false, false, false, false, false, false, false, false, false, false, false, false, false, false, false, false, false, false, false, false, false, false, false, false, false, false, false, false, false, false, false, false, false, false, false, false, false, false, false, false, false, false, false] rfl rfl (ye1 HT_.out HW_.out (by kernel_rfl)) (fun _ _ _ h => h) (Or.inl ⟨by rfl, ?_⟩) hHeld ?_ ?_
  rotate_left
  · rintro w' ⟨s0, s1, s2, s3, s4, s5, s6, s7, s8, s9, s10, s11, s12, s13, s14, s15, s16, s17, s18, s19, s20, s21, s22, s23, s24, s25, s26, s27, s28, s29, s30, s31, s32, s33⟩
    go_simp
    with_reducible rfl
  rotate_left
  · simp only [Act.put, zA, zB, zC, i64_w, i32_w]
    rfl
  refine pure_ (i := 2) (N := some 27) (v := ?_) (a' := ?_) #[true, true, true, false, false, false, false, false, false, false, false, false, false, false, false, false, false, false, false, false, false, false, false, false, false, false, false, false, false, false, false, false, false, false, false, false, false, false, false, false, false, false, false, false, false, false, false, false, false, false, false, false, false, false, false, false, false, false, false, false, false] rfl rfl (any_of HT_.out (by kernel_rfl)) (fun _ _ _ h => h) (Or.inl ⟨by rfl, ?_⟩) ?_ ?_
  rotate_left
  · intro w'
    go_simp
    with_reducible rfl
  rotate_left
  · simp only [Act.put, zA, zB, zC, i64_w, i32_w]
    rfl
  refine pure_ (i := 3) (N := some 28) (v := ?_) (a' := ?_) #[true, true, true, true, false, false, false, false, false, false, false, false, false, false, false, false, false, false, false, false, false, false, false, false, false, false, false, false, false, false, false, false, false, false, false, false, false, false, false, false, false, false, false, false, false, false, false, false, false, false, false, false, false, false, false, false, false, false, false, false, false] rfl rfl (any_of HT_.out (by kernel_rfl)) (fun _ _ _ h => h) (Or.inl ⟨by rfl, ?_⟩) ?_ ?_
  rotate_left
  · intro w'
    go_simp
    with_reducible rfl
  rotate_left
  · simp only [Act.put, zA, zB, zC, i64_w, i32_w]
    rfl
  refine pure_ (i := 4) (N := some 29) (v := ?_) (a' := ?_) #[true, true, true, true, true, false, false, false, false, false, false, false, false, false, false, false, false, false, false, false, false, false, false, false, false, false, false, false, false, false, false, false, false, false, false, false, false, false, false, false, false, false, false, false, false, false, false, false, false, false, false, false, false, false, false, false, false, false, false, false, false] rfl rfl (any_of HT_.out (by kernel_rfl)) (fun _ _ _ h => h) (Or.inl ⟨by rfl, ?_⟩) ?_ ?_
  rotate_left
  · intro w'
    go_simp
    with_reducible rfl
  rotate_left
  · simp only [Act.put, zA, zB, zC, i64_w, i32_w]
    rfl
  refine pure_ (i := 5) (N := some 30) (v := ?_) (a' := ?_) #[true, true, true, true, true, true, false, false, false, false, false, false, false, false, false, false, false, false, false, false, false, false, false, false, false, false, false, false, false, false, false, false, false, false, false, false, false, false, false, false, false, false, false, false, false, false, false, false, false, false, false, false, false, false, false, false, false, false, false, false, false] rfl rfl (any_of HT_.out (by kernel_rfl)) (fun _ _ _ h => h) (Or.inl ⟨by rfl, ?_⟩) ?_ ?_
  rotate_left
  · intro w'
    go_simp
    with_reducible rfl
  rotate_left
  · simp only [Act.put, zA, zB, zC, i64_w, i32_w]
    rfl
  refine take_ (i := 6) (N := some 31) (v := ?_) (a' := ?_) #[true, true, true, true, true, true, true, false, false, false, false, false, false, false, false, false, false, false, false, false, false, false, false, false, false, false, false, false, false, false, false, false, false, false, false, false, false, false, false, false, false, false, false, false, false, false, false, false, false, false, false, false, false, false, false, false, false, false, false, false, false] rfl rfl (ye1 HT_.out HW_.out (by kernel_rfl)) (fun _ _ _ h => h) (Or.inl ⟨by rfl, ?_⟩) hHeld ?_ ?_
  rotate_left
  · rintro w' ⟨s0, s1, s2, s3, s4, s5, s6, s7, s8, s9, s10, s11, s12, s13, s14, s15, s16, s17, s18, s19, s20, s21, s22, s23, s24, s25, s26, s27, s28, s29, s30, s31, s32, s33⟩
    go_simp
    with_reducible rfl
  rotate_left
  · simp only [Act.put, zA, zB, zC, i64_w, i32_w]
    rfl
  refine pure_ (i := 7) (N := some 32) (v := ?_) (a' := ?_) #[true, true, true, true, true, true, true, true, false, false, false, false, false, false, false, false, false, false, false, false, false, false, false, false, false, false, false, false, false, false, false, false, false, false, false, false, false, false, false, false, false, false, false, false, false, false, false, false, false, false, false, false, false, false, false, false, false, false, false, false, false] rfl rfl (any_of HT_.out (by kernel_rfl)) (fun _ _ _ h => h) (Or.inl ⟨by rfl, ?_⟩) ?_ ?_
  rotate_left
  · intro w'
    go_simp
    with_reducible rfl
  rotate_left
  · simp only [Act.put, zA, zB, zC, i64_w, i32_w]
    rfl
  refine pure_ (i := 8) (N := some 33) (v := ?_) (a' := ?_) #[true, true, true, true, true, true, true, true, true, false, false, false, false, false, false, false, false, false, false, false, false, false, false, false, false, false, false, false, false, false, false, false, false, false, false, false, false, false, false, false, false, false, false, false, false, false, false, false, false, false, false, false, false, false, false, false, false, false, false, false, false] rfl rfl (any_of HT_.out (by kernel_rfl)) (fun _ _ _ h => h) (Or.inl ⟨by rfl, ?_⟩) ?_ ?_
  rotate_left
  · intro w'
    go_simp
    with_reducible rfl
  rotate_left
  · simp only [Act.put, zA, zB, zC, i64_w, i32_w]
    rfl
  refine take_ (i := 9) (N := some 34) (v := ?_) (a' := ?_) #[true, true, true, true, true, true, true, true, true, true, false, false, false, false, false, false, false, false, false, false, false, false, false, false, false, false, false, false, false, false, false, false, false, false, false, false, false, false, false, false, false, false, false, false, false, false, false, false, false, false, false, false, false, false, false, false, false, false, false, false, false] rfl rfl (ye1 HT_.out HW_.out (by kernel_rfl)) (fun _ _ _ h => h) (Or.inl ⟨by rfl, ?_⟩) hHeld ?_ ?_
  rotate_left
  · rintro w' ⟨s0, s1, s2, s3, s4, s5, s6, s7, s8, s9, s10, s11, s12, s13, s14, s15, s16, s17, s18, s19, s20, s21, s22, s23, s24, s25, s26, s27, s28, s29, s30, s31, s32, s33⟩
    go_simp
    with_reducible rfl
  rotate_left
  · simp only [Act.put, zA, zB, zC, i64_w, i32_w]
    rfl
  refine pure_ (i := 10) (N := some 35) (v := ?_) (a' := ?_) #[true, true, true, true, true, true, true, true, true, true, true, false, false, false, false, false, false, false, false, false, false, false, false, false, false, false, false, false, false, false, false, false, false, false, false, false, false, false, false, false, false, false, false, false, false, false, false, false, false, false, false, false, false, false, false, false, false, false, false, false, false] rfl rfl (any_of HT_.out (by kernel_rfl)) (fun _ _ _ h => h) (Or.inl ⟨by rfl, ?_⟩) ?_ ?_
  rotate_left
  · intro w'
    go_simp
    with_reducible rfl
  rotate_left
  · simp only [Act.put, zA, zB, zC, i64_w, i32_w]
    rfl
  refine pure_ (i := 11) (N := some 36) (v := ?_) (a' := ?_) #[true, true, true, true, true, true, true, true, true, true, true, true, false, false, false, false, false, false, false, false, false, false, false, false, false, false, false, false, false, false, false, false, false, false, false, false, false, false, false, false, false, false, false, false, false, false, false, false, false, false, false, false, false, false, false, false, false, false, false, false, false] rfl rfl (any_of HT_.out (by kernel_rfl)) (fun _ _ _ h => h) (Or.inl ⟨by rfl, ?_⟩) ?_ ?_
  rotate_left
  · intro w'
    go_simp
    with_reducible rfl
  rotate_left
  · simp only [Act.put, zA, zB, zC, i64_w, i32_w]
    rfl
  refine pure_ (i := 12) (N := some 37) (v := ?_) (a' := ?_) #[true, true, true, true, true, true, true, true, true, true, true, true, true, false, false, false, false, false, false, false, false, false, false, false, false, false, false, false, false, false, false, false, false, false, false, false, false, false, false, false, false, false, false, false, false, false, false, false, false, false, false, false, false, false, false, false, false, false, false, false, false] rfl rfl (any_of HT_.out (by kernel_rfl)) (fun _ _ _ h => h) (Or.inl ⟨by rfl, ?_⟩) ?_ ?_
  rotate_left
  · intro w'
    go_simp
    with_reducible rfl
  rotate_left
  · simp only [Act.put, zA, zB, zC, i64_w, i32_w]
    rfl
  refine pure_ (i := 13) (N := some 38) (v := ?_) (a' := ?_) #[true, true, true, true, true, true, true, true, true, true, true, true, true, true, false, false, false, false, false, false, false, false, false, false, false, false, false, false, false, false, false, false, false, false, false, false, false, false, false, false, false, false, false, false, false, false, false, false, false, false, false, false, false, false, false, false, false, false, false, false, false] rfl rfl (any_of HT_.out (by kernel_rfl)) (fun _ _ _ h => h) (Or.inl ⟨by rfl, ?_⟩) ?_ ?_
  rotate_left
  · intro w'
    go_simp
    with_reducible rfl
  rotate_left
  · simp only [Act.put, zA, zB, zC, i64_w, i32_w]
    rfl
  refine take_ (i := 14) (N := some 39) (v := ?_) (a' := ?_) #[true, true, true, true, true, true, true, true, true, true, true, true, true, true, true, false, false, false, false, false, false, false, false, false, false, false, false, false, false, false, false, false, false, false, false, false, false, false, false, false, false, false, false, false, false, false, false, false, false, false, false, false, false, false, false, false, false, false, false, false, false] rfl rfl (ye1 HT_.out HW_.out (by kernel_rfl)) (fun _ _ _ h => h) (Or.inl ⟨by rfl, ?_⟩) hHeld ?_ ?_
  rotate_left
  · rintro w' ⟨s0, s1, s2, s3, s4, s5, s6, s7, s8, s9, s10, s11, s12, s13, s14, s15, s16, s17, s18, s19, s20, s21, s22, s23, s24, s25, s26, s27, s28, s29, s30, s31, s32, s33⟩
    go_simp
    with_reducible rfl
  rotate_left
  · simp only [Act.put, zA, zB, zC, i64_w, i32_w]
    rfl
  refine pure_ (i := 15) (N := some 40) (v := ?_) (a' := ?_) #[true, true, true, true, true, true, true, true, true, true, true, true, true, true, true, true, false, false, false, false, false, false, false, false, false, false, false, false, false, false, false, false, false, false, false, false, false, false, false, false, false, false, false, false, false, false, false, false, false, false, false, false, false, false, false, false, false, false, false, false, false] rfl rfl (any_of HT_.out (by kernel_rfl)) (fun _ _ _ h => h) (Or.inl ⟨by rfl, ?_⟩) ?_ ?_
  rotate_left
  · intro w'
    go_simp
    with_reducible rfl
  rotate_left
  · simp only [Act.put, zA, zB, zC, i64_w, i32_w]
    rfl
  refine pure_ (i := 16) (N := some 41) (v := ?_) (a' := ?_) #[true, true, true, true, true, true, true, true, true, true, true, true, true, true, true, true, true, false, false, false, false, false, false, false, false, false, false, false, false, false, false, false, false, false, false, false, false, false, false, false, false, false, false, false, false, false, false, false, false, false, false, false, false, false, false, false, false, false, false, false, false] rfl rfl (any_of HT_.out (by kernel_rfl)) (fun _ _ _ h => h) (Or.inl ⟨by rfl, ?_⟩) ?_ ?_
  rotate_left
  · intro w'
    go_simp
    with_reducible rfl
  rotate_left
  · simp only [Act.put, zA, zB, zC, i64_w, i32_w]
    rfl
  refine take_ (i := 17) (N := some 42) (v := ?_) (a' := ?_) #[true, true, true, true, true, true, true, true, true, true, true, true, true, true, true, true, true, true, false, false, false, false, false, false, false, false, false, false, false, false, false, false, false, false, false, false, false, false, false, false, false, false, false, false, false, false, false, false, false, false, false, false, false, false, false, false, false, false, false, false, false] rfl rfl (ye1 HT_.out HW_.out (by kernel_rfl)) (fun _ _ _ h => h) (Or.inl ⟨by rfl, ?_⟩) hHeld ?_ ?_
  rotate_left
  · rintro w' ⟨s0, s1, s2, s3, s4, s5, s6, s7, s8, s9, s10, s11, s12, s13, s14, s15, s16, s17, s18, s19, s20, s21, s22, s23, s24, s25, s26, s27, s28, s29, s30, s31, s32, s33⟩
    go_simp
    with_reducible rfl
  rotate_left
  · simp only [Act.put, zA, zB, zC, i64_w, i32_w]
    rfl
  refine pure_ (i := 18) (N := some 43) (v := ?_) (a' := ?_) #[true, true, true, true, true, true, true, true, true, true, true, true, true, true, true, true, true, true, true, false, false, false, false, false, false, false, false, false, false, false, false, false, false, false, false, false, false, false, false, false, false, false, false, false, false, false, false, false, false, false, false, false, false, false, false, false, false, false, false, false, false] rfl rfl (any_of HT_.out (by kernel_rfl)) (fun _ _ _ h => h) (Or.inl ⟨by rfl, ?_⟩) ?_ ?_
  rotate_left
  · intro w'
    go_simp
    with_reducible rfl
  rotate_left
  · simp only [Act.put, zA, zB, zC, i64_w, i32_w]
    rfl
  refine pure_ (i := 19) (N := some 44) (v := ?_) (a' := ?_) #[true, true, true, true, true, true, true, true, true, true, true, true, true, true, true, true, true, true, true, true, false, false, false, false, false, false, false, false, false, false, false, false, false, false, false, false, false, false, false, false, false, false, false, false, false, false, false, false, false, false, false, false, false, false, false, false, false, false, false, false, false] rfl rfl (any_of HT_.out (by kernel_rfl)) (fun _ _ _ h => h) (Or.inl ⟨by rfl, ?_⟩) ?_ ?_
  rotate_left
  · intro w'
    go_simp
    with_reducible rfl
  rotate_left
  · simp only [Act.put, zA, zB, zC, i64_w, i32_w]
    rfl
  refine pure_ (i := 20) (N := some 45) (v := ?_) (a' := ?_) #[true, true, true, true, true, true, true, true, true, true, true, true, true, true, true, true, true, true, true, true, true, false, false, false, false, false, false, false, false, false, false, false, false, false, false, false, false, false, false, false, false, false, false, false, false, false, false, false, false, false, false, false, false, false, false, false, false, false, false, false, false] rfl rfl (any_of HT_.out (by kernel_rfl)) (fun _ _ _ h => h) (Or.inl ⟨by rfl, ?_⟩) ?_ ?_
  rotate_left
  · intro w'
    go_simp
    with_reducible rfl
  rotate_left
  · simp only [Act.put, zA, zB, zC, i64_w, i32_w]
    rfl
  refine pure_ (i := 21) (N := some 46) (v := ?_) (a' := ?_) #[true, true, true, true, true, true, true, true, true, true, true, true, true, true, true, true, true, true, true, true, true, true, false, false, false, false, false, false, false, false, false, false, false, false, false, false, false, false, false, false, false, false, false, false, false, false, false, false, false, false, false, false, false, false, false, false, false, false, false, false, false] rfl rfl (any_of HT_.out (by kernel_rfl)) (fun _ _ _ h => h) (Or.inl ⟨by rfl, ?_⟩) ?_ ?_
  rotate_left
  · intro w'
    go_simp
    with_reducible rfl
  rotate_left
  · simp only [Act.put, zA, zB, zC, i64_w, i32_w]
    rfl
  refine pure_ (i := 27) (N := some 52) (v := ?_) (a' := ?_) #[true, true, true, true, true, true, true, true, true, true, true, true, true, true, true, true, true, true, true, true, true, true, false, false, false, false, false, true, false, false, false, false, false, false, false, false, false, false, false, false, false, false, false, false, false, false, false, false, false, false, false, false, false, false, false, false, false, false, false, false, false] rfl rfl (any_of HT_.out (by kernel_rfl)) (fun _ _ _ h => h) (Or.inl ⟨by rfl, ?_⟩) ?_ ?_
  rotate_left
  · intro w'
    go_simp
    with_reducible rfl
  rotate_left
  · simp only [Act.put, zA, zB, zC, i64_w, i32_w]
    rfl
  refine take_ (i := 22) (N := some 47) (v := ?_) (a' := ?_) #[true, true, true, true, true, true, true, true, true, true, true, true, true, true, true, true, true, true, true, true, true, true, true, false, false, false, false, true, false, false, false, false, false, false, false, false, false, false, false, false, false, false, false, false, false, false, false, false, false, false, false, false, false, false, false, false, false, false, false, false, false] rfl rfl (ye1 HT_.out HW_.out (by kernel_rfl)) (fun _ _ _ h => h) (Or.inl ⟨by rfl, ?_⟩) hHeld ?_ ?_
  rotate_left
  · rintro w' ⟨s0, s1, s2, s3, s4, s5, s6, s7, s8, s9, s10, s11, s12, s13, s14, s15, s16, s17, s18, s19, s20, s21, s22, s23, s24, s25, s26, s27, s28, s29, s30, s31, s32, s33⟩
    go_simp
    with_reducible rfl
  rotate_left
  · simp only [Act.put, zA, zB, zC, i64_w, i32_w]
    rfl
  refine pure_ (i := 23) (N := some 48) (v := ?_) (a' := ?_) #[true, true, true, true, true, true, true, true, true, true, true, true, true, true, true, true, true, true, true, true, true, true, true, true, false, false, false, true, false, false, false, false, false, false, false, false, false, false, false, false, false, false, false, false, false, false, false, false, false, false, false, false, false, false, false, false, false, false, false, false, false] rfl rfl (any_of HT_.out (by kernel_rfl)) (fun _ _ _ h => h) (Or.inl ⟨by rfl, ?_⟩) ?_ ?_
  rotate_left
  · intro w'
    go_simp
    with_reducible rfl
  rotate_left
  · simp only [Act.put, zA, zB, zC, i64_w, i32_w]
    rfl
  refine pure_ (i := 24) (N := some 49) (v := ?_) (a' := ?_) #[true, true, true, true, true, true, true, true, true, true, true, true, true, true, true, true, true, true, true, true, true, true, true, true, true, false, false, true, false, false, false, false, false, false, false, false, false, false, false, false, false, false, false, false, false, false, false, false, false, false, false, false, false, false, false, false, false, false, false, false, false] rfl rfl (any_of HT_.out (by kernel_rfl)) (fun _ _ _ h => h) (Or.inl ⟨by rfl, ?_⟩) ?_ ?_
  rotate_left
  · intro w'
    go_simp
    with_reducible rfl
  rotate_left
  · simp only [Act.put, zA, zB, zC, i64_w, i32_w]
    rfl
  refine take_ (i := 25) (N := some 50) (v := ?_) (a' := ?_) #[true, true, true, true, true, true, true, true, true, true, true, true, true, true, true, true, true, true, true, true, true, true, true, true, true, true, false, true, false, false, false, false, false, false, false, false, false, false, false, false, false, false, false, false, false, false, false, false, false, false, false, false, false, false, false, false, false, false, false, false, false] rfl rfl (ye1 HT_.out HW_.out (by kernel_rfl)) (fun _ _ _ h => h) (Or.inl ⟨by rfl, ?_⟩) hHeld ?_ ?_
  rotate_left
  · rintro w' ⟨s0, s1, s2, s3, s4, s5, s6, s7, s8, s9, s10, s11, s12, s13, s14, s15, s16, s17, s18, s19, s20, s21, s22, s23, s24, s25, s26, s27, s28, s29, s30, s31, s32, s33⟩
    go_simp
    with_reducible rfl
  rotate_left
  · simp only [Act.put, zA, zB, zC, i64_w, i32_w]
    rfl
  refine pure_ (i := 26) (N := some 51) (v := ?_) (a' := ?_) #[true, true, true, true, true, true, true, true, true, true, true, true, true, true, true, true, true, true, true, true, true, true, true, true, true, true, true, true, false, false, false, false, false, false, false, false, false, false, false, false, false, false, false, false, false, false, false, false, false, false, false, false, false, false, false, false, false, false, false, false, false] rfl rfl (any_of HT_.out (by kernel_rfl)) (fun _ _ _ h => h) (Or.inl ⟨by rfl, ?_⟩) ?_ ?_
  rotate_left
  · intro w'
    go_simp
    with_reducible rfl
  rotate_left
  · simp only [Act.put, zA, zB, zC, i64_w, i32_w]
    rfl
  refine take_ (i := 28) (N := some 53) (v := ?_) (a' := ?_) #[true, true, true, true, true, true, true, true, true, true, true, true, true, true, true, true, true, true, true, true, true, true, true, true, true, true, true, true, true, false, false, false, false, false, false, false, false, false, false, false, false, false, false, false, false, false, false, false, false, false, false, false, false, false, false, false, false, false, false, false, false] rfl rfl (ye1 HT_.out HW_.out (by kernel_rfl)) (fun _ _ _ h => h) (Or.inl ⟨by rfl, ?_⟩) hHeld ?_ ?_
  rotate_left
  · rintro w' ⟨s0, s1, s2, s3, s4, s5, s6, s7, s8, s9, s10, s11, s12, s13, s14, s15, s16, s17, s18, s19, s20, s21, s22, s23, s24, s25, s26, s27, s28, s29, s30, s31, s32, s33⟩
    go_simp
    with_reducible rfl
  rotate_left
  · simp only [Act.put, zA, zB, zC, i64_w, i32_w]
    rfl
  refine pure_ (i := 29) (N := some 54) (v := ?_) (a' := ?_) #[true, true, true, true, true, true, true, true, true, true, true, true, true, true, true, true, true, true, true, true, true, true, true, true, true, true, true, true, true, true, false, false, false, false, false, false, false, false, false, false, false, false, false, false, false, false, false, false, false, false, false, false, false, false, false, false, false, false, false, false, false] rfl rfl (any_of HT_.out (by kernel_rfl)) (fun _ _ _ h => h) (Or.inl ⟨by rfl, ?_⟩) ?_ ?_
  rotate_left
  · intro w'
    go_simp
    with_reducible rfl
  rotate_left
  · simp only [Act.put, zA, zB, zC, i64_w, i32_w]
    rfl
  refine pure_ (i := 30) (N := some 55) (v := ?_) (a' := ?_) #[true, true, true, true, true, true, true, true, true, true, true, true, true, true, true, true, true, true, true, true, true, true, true, true, true, true, true, true, true, true, true, false, false, false, false, false, false, false, false, false, false, false, false, false, false, false, false, false, false, false, false, false, false, false, false, false, false, false, false, false, false] rfl rfl (any_of HT_.out (by kernel_rfl)) (fun _ _ _ h => h) (Or.inl ⟨by rfl, ?_⟩) ?_ ?_
  rotate_left
  · intro w'
    go_simp
    with_reducible rfl
  rotate_left
  · simp only [Act.put, zA, zB, zC, i64_w, i32_w]
    rfl
  refine pure_ (i := 31) (N := some 56) (v := ?_) (a' := ?_) #[true, true, true, true, true, true, true, true, true, true, true, true, true, true, true, true, true, true, true, true, true, true, true, true, true, true, true, true, true, true, true, true, false, false, false, false, false, false, false, false, false, false, false, false, false, false, false, false, false, false, false, false, false, false, false, false, false, false, false, false, false] rfl rfl (any_of HT_.out (by kernel_rfl)) (fun _ _ _ h => h) (Or.inl ⟨by rfl, ?_⟩) ?_ ?_
  rotate_left
  · intro w'
    go_simp
    with_reducible rfl
  rotate_left
  · simp only [Act.put, zA, zB, zC, i64_w, i32_w]
    rfl
  refine pure_ (i := 32) (N := some 57) (v := ?_) (a' := ?_) #[true, true, true, true, true, true, true, true, true, true, true, true, true, true, true, true, true, true, true, true, true, true, true, true, true, true, true, true, true, true, true, true, true, false, false, false, false, false, false, false, false, false, false, false, false, false, false, false, false, false, false, false, false, false, false, false, false, false, false, false, false] rfl rfl (any_of HT_.out (by kernel_rfl)) (fun _ _ _ h => h) (Or.inl ⟨by rfl, ?_⟩) ?_ ?_
  rotate_left
  · intro w'
    go_simp
    with_reducible rfl
  rotate_left
  · simp only [Act.put, zA, zB, zC, i64_w, i32_w]
    rfl
  refine pure_ (i := 33) (N := some 58) (v := ?_) (a' := ?_) #[true, true, true, true, true, true, true, true, true, true, true, true, true, true, true, true, true, true, true, true, true, true, true, true, true, true, true, true, true, true, true, true, true, true, false, false, false, false, false, false, false, false, false, false, false, false, false, false, false, false, false, false, false, false, false, false, false, false, false, false, false] rfl rfl (any_of HT_.out (by kernel_rfl)) (fun _ _ _ h => h) (Or.inl ⟨by rfl, ?_⟩) ?_ ?_
  rotate_left
  · intro w'
    go_simp
    with_reducible rfl
  rotate_left
  · simp only [Act.put, zA, zB, zC, i64_w, i32_w]
    rfl
  refine pure_ (i := 34) (N := some 59) (v := ?_) (a' := ?_) #[true, true, true, true, true, true, true, true, true, true, true, true, true, true, true, true, true, true, true, true, true, true, true, true, true, true, true, true, true, true, true, true, true, true, true, false, false, false, false, false, false, false, false, false, false, false, false, false, false, false, false, false, false, false, false, false, false, false, false, false, false] rfl rfl (any_of HT_.out (by kernel_rfl)) (fun _ _ _ h => h) (Or.inl ⟨by rfl, ?_⟩) ?_ ?_
  rotate_left
  · intro w'
    go_simp
    with_reducible rfl
  rotate_left
  · simp only [Act.put, zA, zB, zC, i64_w, i32_w]
    rfl
  refine take_ (i := 35) (N := some 60) (v := ?_) (a' := ?_) #[true, true, true, true, true, true, true, true, true, true, true, true, true, true, true, true, true, true, true, true, true, true, true, true, true, true, true, true, true, true, true, true, true, true, true, true, false, false, false, false, false, false, false, false, false, false, false, false, false, false, false, false, false, false, false, false, false, false, false, false, false] rfl rfl (ye1 HT_.out HW_.out (by kernel_rfl)) (fun _ _ _ h => h) (Or.inl ⟨by rfl, ?_⟩) hHeld ?_ ?_
  rotate_left
  · rintro w' ⟨s0, s1, s2, s3, s4, s5, s6, s7, s8, s9, s10, s11, s12, s13, s14, s15, s16, s17, s18, s19, s20, s21, s22, s23, s24, s25, s26, s27, s28, s29, s30, s31, s32, s33⟩
    go_simp
    with_reducible rfl
  rotate_left
  · simp only [Act.put, zA, zB, zC, i64_w, i32_w]
    rfl
  refine pure_ (i := 36) (N := some 61) (v := ?_) (a' := ?_) #[true, true, true, true, true, true, true, true, true, true, true, true, true, true, true, true, true, true, true, true, true, true, true, true, true, true, true, true, true, true, true, true, true, true, true, true, true, false, false, false, false, false, false, false, false, false, false, false, false, false, false, false, false, false, false, false, false, false, false, false, false] rfl rfl (any_of HT_.out (by kernel_rfl)) (fun _ _ _ h => h) (Or.inl ⟨by rfl, ?_⟩) ?_ ?_
  rotate_left
  · intro w'
    go_simp
    with_reducible rfl
  rotate_left
  · simp only [Act.put, zA, zB, zC, i64_w, i32_w]
    rfl
  refine pure_ (i := 37) (N := some 62) (v := ?_) (a' := ?_) #[true, true, true, true, true, true, true, true, true, true, true, true, true, true, true, true, true, true, true, true, true, true, true, true, true, true, true, true, true, true, true, true, true, true, true, true, true, true, false, false, false, false, false, false, false, false, false, false, false, false, false, false, false, false, false, false, false, false, false, false, false] rfl rfl (any_of HT_.out (by kernel_rfl)) (fun _ _ _ h => h) (Or.inl ⟨by rfl, ?_⟩) ?_ ?_
  rotate_left
  · intro w'
    go_simp
    with_reducible rfl
  rotate_left
  · simp only [Act.put, zA, zB, zC, i64_w, i32_w]
    rfl
  refine pure_ (i := 38) (N := some 63) (v := ?_) (a' := ?_) #[true, true, true, true, true, true, true, true, true, true, true, true, true, true, true, true, true, true, true, true, true, true, true, true, true, true, true, true, true, true, true, true, true, true, true, true, true, true, true, false, false, false, false, false, false, false, false, false, false, false, false, false, false, false, false, false, false, false, false, false, false] rfl rfl (any_of HT_.out (by kernel_rfl)) (fun _ _ _ h => h) (Or.inl ⟨by rfl, ?_⟩) ?_ ?_
  rotate_left
  · intro w'
    go_simp
    with_reducible rfl
  rotate_left
  · simp only [Act.put, zA, zB, zC, i64_w, i32_w]
    rfl
  refine pure_ (i := 39) (N := some 64) (v := ?_) (a' := ?_) #[true, true, true, true, true, true, true, true, true, true, true, true, true, true, true, true, true, true, true, true, true, true, true, true, true, true, true, true, true, true, true, true, true, true, true, true, true, true, true, true, false, false, false, false, false, false, false, false, false, false, false, false, false, false, false, false, false, false, false, false, false] rfl rfl (any_of HT_.out (by kernel_rfl)) (fun _ _ _ h => h) (Or.inl ⟨by rfl, ?_⟩) ?_ ?_
  rotate_left
  · intro w'
    go_simp
    with_reducible rfl
  rotate_left
  · simp only [Act.put, zA, zB, zC, i64_w, i32_w]
    rfl
  refine pure_ (i := 40) (N := some 65) (v := ?_) (a' := ?_) #[true, true, true, true, true, true, true, true, true, true, true, true, true, true, true, true, true, true, true, true, true, true, true, true, true, true, true, true, true, true, true, true, true, true, true, true, true, true, true, true, true, false, false, false, false, false, false, false, false, false, false, false, false, false, false, false, false, false, false, false, false] rfl rfl (any_of HT_.out (by kernel_rfl)) (fun _ _ _ h => h) (Or.inl ⟨by rfl, ?_⟩) ?_ ?_
  rotate_left
  · intro w'
    go_simp
    with_reducible rfl
  rotate_left
  · simp only [Act.put, zA, zB, zC, i64_w, i32_w]
    rfl
  refine take_ (i := 41) (N := some 66) (v := ?_) (a' := ?_) #[true, true, true, true, true, true, true, true, true, true, true, true, true, true, true, true, true, true, true, true, true, true, true, true, true, true, true, true, true, true, true, true, true, true, true, true, true, true, true, true, true, true, false, false, false, false, false, false, false, false, false, false, false, false, false, false, false, false, false, false, false] rfl rfl (ye1 HT_.out HW_.out (by kernel_rfl)) (fun _ _ _ h => h) (Or.inl ⟨by rfl, ?_⟩) hHeld ?_ ?_
  rotate_left
  · rintro w' ⟨s0, s1, s2, s3, s4, s5, s6, s7, s8, s9, s10, s11, s12, s13, s14, s15, s16, s17, s18, s19, s20, s21, s22, s23, s24, s25, s26, s27, s28, s29, s30, s31, s32, s33⟩
    go_simp
    with_reducible rfl
  rotate_left
  · simp only [Act.put, zA, zB, zC, i64_w, i32_w]
    rfl
  refine pure_ (i := 42) (N := some 67) (v := ?_) (a' := ?_) #[true, true, true, true, true, true, true, true, true, true, true, true, true, true, true, true, true, true, true, true, true, true, true, true, true, true, true, true, true, true, true, true, true, true, true, true, true, true, true, true, true, true, true, false, false, false, false, false, false, false, false, false, false, false, false, false, false, false, false, false, false] rfl rfl (any_of HT_.out (by kernel_rfl)) (fun _ _ _ h => h) (Or.inl ⟨by rfl, ?_⟩) ?_ ?_
  rotate_left
  · intro w'
    go_simp
    with_reducible rfl
  rotate_left
  · simp only [Act.put, zA, zB, zC, i64_w, i32_w]
    rfl
  refine pure_ (i := 43) (N := some 68) (v := ?_) (a' := ?_) #[true, true, true, true, true, true, true, true, true, true, true, true, true, true, true, true, true, true, true, true, true, true, true, true, true, true, true, true, true, true, true, true, true, true, true, true, true, true, true, true, true, true, true, true, false, false, false, false, false, false, false, false, false, false, false, false, false, false, false, false, false] rfl rfl (any_of HT_.out (by kernel_rfl)) (fun _ _ _ h => h) (Or.inl ⟨by rfl, ?_⟩) ?_ ?_
  rotate_left
  · intro w'
    go_simp
    with_reducible rfl
  rotate_left
  · simp only [Act.put, zA, zB, zC, i64_w, i32_w]
    rfl
  refine take_ (i := 44) (N := some 69) (v := ?_) (a' := ?_) #[true, true, true, true, true, true, true, true, true, true, true, true, true, true, true, true, true, true, true, true, true, true, true, true, true, true, true, true, true, true, true, true, true, true, true, true, true, true, true, true, true, true, true, true, true, false, false, false, false, false, false, false, false, false, false, false, false, false, false, false, false] rfl rfl (ye1 HT_.out HW_.out (by kernel_rfl)) (fun _ _ _ h => h) (Or.inl ⟨by rfl, ?_⟩) hHeld ?_ ?_
  rotate_left
  · rintro w' ⟨s0, s1, s2, s3, s4, s5, s6, s7, s8, s9, s10, s11, s12, s13, s14, s15, s16, s17, s18, s19, s20, s21, s22, s23, s24, s25, s26, s27, s28, s29, s30, s31, s32, s33⟩
    go_simp
    with_reducible rfl
  rotate_left
  · simp only [Act.put, zA, zB, zC, i64_w, i32_w]
    rfl
  refine pure_ (i := 45) (N := some 70) (v := ?_) (a' := ?_) #[true, true, true, true, true, true, true, true, true, true, true, true, true, true, true, true, true, true, true, true, true, true, true, true, true, true, true, true, true, true, true, true, true, true, true, true, true, true, true, true, true, true, true, true, true, true, false, false, false, false, false, false, false, false, false, false, false, false, false, false, false] rfl rfl (any_of HT_.out (by kernel_rfl)) (fun _ _ _ h => h) (Or.inl ⟨by rfl, ?_⟩) ?_ ?_
  rotate_left
  · intro w'
    go_simp
    with_reducible rfl
  rotate_left
  · simp only [Act.put, zA, zB, zC, i64_w, i32_w]
    rfl
  refine pure_ (i := 46) (N := some 71) (v := ?_) (a' := ?_) #[true, true, true, true, true, true, true, true, true, true, true, true, true, true, true, true, true, true, true, true, true, true, true, true, true, true, true, true, true, true, true, true, true, true, true, true, true, true, true, true, true, true, true, true, true, true, true, false, false, false, false, false, false, false, false, false, false, false, false, false, false] rfl rfl (any_of HT_.out (by kernel_rfl)) (fun _ _ _ h => h) (Or.inl ⟨by rfl, ?_⟩) ?_ ?_
  rotate_left
  · intro w'
    go_simp
    with_reducible rfl
  rotate_left
  · simp only [Act.put, zA, zB, zC, i64_w, i32_w]
    rfl
  refine pure_ (i := 47) (N := some 72) (v := ?_) (a' := ?_) #[true, true, true, true, true, true, true, true, true, true, true, true, true, true, true, true, true, true, true, true, true, true, true, true, true, true, true, true, true, true, true, true, true, true, true, true, true, true, true, true, true, true, true, true, true, true, true, true, false, false, false, false, false, false, false, false, false, false, false, false, false] rfl rfl (any_of HT_.out (by kernel_rfl)) (fun _ _ _ h => h) (Or.inl ⟨by rfl, ?_⟩) ?_ ?_
  rotate_left
  · intro w'
    go_simp
    with_reducible rfl
  rotate_left
  · simp only [Act.put, zA, zB, zC, i64_w, i32_w]
    rfl
  refine pure_ (i := 48) (N := some 73) (v := ?_) (a' := ?_) #[true, true, true, true, true, true, true, true, true, true, true, true, true, true, true, true, true, true, true, true, true, true, true, true, true, true, true, true, true, true, true, true, true, true, true, true, true, true, true, true, true, true, true, true, true, true, true, true, true, false, false, false, false, false, false, false, false, false, false, false, false] rfl rfl (any_of HT_.out (by kernel_rfl)) (fun _ _ _ h => h) (Or.inl ⟨by rfl, ?_⟩) ?_ ?_
  rotate_left
  · intro w'
    go_simp
    with_reducible rfl
  rotate_left
  · simp only [Act.put, zA, zB, zC, i64_w, i32_w]
    rfl
  refine pure_ (i := 49) (N := some 74) (v := ?_) (a' := ?_) #[true, true, true, true, true, true, true, true, true, true, true, true, true, true, true, true, true, true, true, true, true, true, true, true, true, true, true, true, true, true, true, true, true, true, true, true, true, true, true, true, true, true, true, true, true, true, true, true, true, true, false, false, false, false, false, false, false, false, false, false, false] rfl rfl (any_of HT_.out (by kernel_rfl)) (fun _ _ _ h => h) (Or.inl ⟨by rfl, ?_⟩) ?_ ?_
  rotate_left
  · intro w'
    go_simp
    with_reducible rfl
  rotate_left
  · simp only [Act.put, zA, zB, zC, i64_w, i32_w]
    rfl
  refine pure_ (i := 50) (N := some 75) (v := ?_) (a' := ?_) #[true, true, true, true, true, true, true, true, true, true, true, true, true, true, true, true, true, true, true, true, true, true, true, true, true, true, true, true, true, true, true, true, true, true, true, true, true, true, true, true, true, true, true, true, true, true, true, true, true, true, true, false, false, false, false, false, false, false, false, false, false] rfl rfl (any_of HT_.out (by kernel_rfl)) (fun _ _ _ h => h) (Or.inl ⟨by rfl, ?_⟩) ?_ ?_
  rotate_left
  · intro w'
    go_simp
    with_reducible rfl
  rotate_left
  · simp only [Act.put, zA, zB, zC, i64_w, i32_w]
    rfl
  refine pure_ (i := 51) (N := some 76) (v := ?_) (a' := ?_) #[true, true, true, true, true, true, true, true, true, true, true, true, true, true, true, true, true, true, true, true, true, true, true, true, true, true, true, true, true, true, true, true, true, true, true, true, true, true, true, true, true, true, true, true, true, true, true, true, true, true, true, true, false, false, false, false, false, false, false, false, false] rfl rfl (any_of HT_.out (by kernel_rfl)) (fun _ _ _ h => h) (Or.inl ⟨by rfl, ?_⟩) ?_ ?_
  rotate_left
  · intro w'
    go_simp
    with_reducible rfl
  rotate_left
  · simp only [Act.put, zA, zB, zC, i64_w, i32_w]
    rfl
  refine pure_ (i := 52) (N := some 77) (v := ?_) (a' := ?_) #[true, true, true, true, true, true, true, true, true, true, true, true, true, true, true, true, true, true, true, true, true, true, true, true, true, true, true, true, true, true, true, true, true, true, true, true, true, true, true, true, true, true, true, true, true, true, true, true, true, true, true, true, true, false, false, false, false, false, false, false, false] rfl rfl (any_of HT_.out (by kernel_rfl)) (fun _ _ _ h => h) (Or.inl ⟨by rfl, ?_⟩) ?_ ?_
  rotate_left
  · intro w'
    go_simp
    with_reducible rfl
  rotate_left
  · simp only [Act.put, zA, zB, zC, i64_w, i32_w]
    rfl
  refine pure_ (i := 53) (N := some 78) (v := ?_) (a' := ?_) #[true, true, true, true, true, true, true, true, true, true, true, true, true, true, true, true, true, true, true, true, true, true, true, true, true, true, true, true, true, true, true, true, true, true, true, true, true, true, true, true, true, true, true, true, true, true, true, true, true, true, true, true, true, true, false, false, false, false, false, false, false] rfl rfl (any_of HT_.out (by kernel_rfl)) (fun _ _ _ h => h) (Or.inl ⟨by rfl, ?_⟩) ?_ ?_
  rotate_left
  · intro w'
    go_simp
    with_reducible rfl
  rotate_left
  · simp only [Act.put, zA, zB, zC, i64_w, i32_w]
    rfl
  refine pure_ (i := 54) (N := some 79) (v := ?_) (a' := ?_) #[true, true, true, true, true, true, true, true, true, true, true, true, true, true, true, true, true, true, true, true, true, true, true, true, true, true, true, true, true, true, true, true, true, true, true, true, true, true, true, true, true, true, true, true, true, true, true, true, true, true, true, true, true, true, true, false, false, false, false, false, false] rfl rfl (any_of HT_.out (by kernel_rfl)) (fun _ _ _ h => h) (Or.inl ⟨by rfl, ?_⟩) ?_ ?_
  rotate_left
  · intro w'
    go_simp
    with_reducible rfl
  rotate_left
  · simp only [Act.put, zA, zB, zC, i64_w, i32_w]
    rfl
  refine pure_ (i := 55) (N := some 80) (v := ?_) (a' := ?_) #[true, true, true, true, true, true, true, true, true, true, true, true, true, true, true, true, true, true, true, true, true, true, true, true, true, true, true, true, true, true, true, true, true, true, true, true, true, true, true, true, true, true, true, true, true, true, true, true, true, true, true, true, true, true, true, true, false, false, false, false, false] rfl rfl (any_of HT_.out (by kernel_rfl)) (fun _ _ _ h => h) (Or.inl ⟨by rfl, ?_⟩) ?_ ?_
  rotate_left
  · intro w'
    go_simp
    with_reducible rfl
  rotate_left
  · simp only [Act.put, zA, zB, zC, i64_w, i32_w]
    rfl
  refine pure_ (i := 56) (N := some 81) (v := ?_) (a' := ?_) #[true, true, true, true, true, true, true, true, true, true, true, true, true, true, true, true, true, true, true, true, true, true, true, true, true, true, true, true, true, true, true, true, true, true, true, true, true, true, true, true, true, true, true, true, true, true, true, true, true, true, true, true, true, true, true, true, true, false, false, false, false] rfl rfl (any_of HT_.out (by kernel_rfl)) (fun _ _ _ h => h) (Or.inl ⟨by rfl, ?_⟩) ?_ ?_
  rotate_left
  · intro w'
    go_simp
    with_reducible rfl
  rotate_left
  · simp only [Act.put, zA, zB, zC, i64_w, i32_w]
    rfl
  refine one_ (i := 57) (N := some 82) #[true, true, true, true, true, true, true, true, true, true, true, true, true, true, true, true, true, true, true, true, true, true, true, true, true, true, true, true, true, true, true, true, true, true, true, true, true, true, true, true, true, true, true, true, true, true, true, true, true, true, true, true, true, true, true, true, true, true, false, false, false] rfl rfl (one_of HT_.out (by kernel_rfl)) (by decide) (fun K hK => ?_)
  refine goes_ Tryd.func10 (by kernel_rfl) rfl #[.agg #[.int .i64 0, .bool false, .slice none 0 0, .bool false, .bool false]] (by rfl) rfl rfl (by (try simp only [List.map_toArray, List.map_cons, List.map_nil]); first | done | rfl | (simp only [List.length_drop, List.length_take]; rfl) | (simp only [ByteArray.size_extract]; rfl)) ?_
  refine (yd1.calls k 0 false _ _ ([] : List ByteArray) false false t182 _ ?side1 ?side2 A14.out).mono ?_
  (case side1 => exact Kd.C_nil _ _)
  (case side2 => exact Nat.le_refl _)
  rintro e w47 ⟨rfl, hb⟩
  have HS6_ := (hb.cell (World.block_lt_of_cell? _ _ (hHeld.2.2.2.2.2.2.1))).trans (hHeld.2.2.2.2.2.2.1)
  have HS7_ := (hb.cell (World.block_lt_of_cell? _ _ (hHeld.2.2.2.2.2.2.2.1))).trans (hHeld.2.2.2.2.2.2.2.1)
  have HS8_ := (hb.cell (World.block_lt_of_cell? _ _ (hHeld.2.2.2.2.2.2.2.2.1))).trans (hHeld.2.2.2.2.2.2.2.2.1)
  have HS9_ := (hb.cell (World.block_lt_of_cell? _ _ (hHeld.2.2.2.2.2.2.2.2.2.1))).trans (hHeld.2.2.2.2.2.2.2.2.2.1)
  have HS10_ := (hb.cell (World.block_lt_of_cell? _ _ (hHeld.2.2.2.2.2.2.2.2.2.2.1))).trans (hHeld.2.2.2.2.2.2.2.2.2.2.1)
  have HS11_ := (hb.cell (World.block_lt_of_cell? _ _ (hHeld.2.2.2.2.2.2.2.2.2.2.2.1))).trans (hHeld.2.2.2.2.2.2.2.2.2.2.2.1)
  have HS12_ := (hb.cell (World.block_lt_of_cell? _ _ (hHeld.2.2.2.2.2.2.2.2.2.2.2.2.1))).trans (hHeld.2.2.2.2.2.2.2.2.2.2.2.2.1)
  have HS13_ := (hb.cell (World.block_lt_of_cell? _ _ (hHeld.2.2.2.2.2.2.2.2.2.2.2.2.2.1))).trans (hHeld.2.2.2.2.2.2.2.2.2.2.2.2.2.1)
  have HS14_ := (hb.cell (World.block_lt_of_cell? _ _ (hHeld.2.2.2.2.2.2.2.2.2.2.2.2.2.2.1))).trans (hHeld.2.2.2.2.2.2.2.2.2.2.2.2.2.2.1)
  have HS15_ := (hb.cell (World.block_lt_of_cell? _ _ (hHeld.2.2.2.2.2.2.2.2.2.2.2.2.2.2.2.1))).trans (hHeld.2.2.2.2.2.2.2.2.2.2.2.2.2.2.2.1)
  have HS16_ := (hb.cell (World.block_lt_of_cell? _ _ (hHeld.2.2.2.2.2.2.2.2.2.2.2.2.2.2.2.2.1))).trans (hHeld.2.2.2.2.2.2.2.2.2.2.2.2.2.2.2.2.1)
  have HS17_ := (hb.cell (World.block_lt_of_cell? _ _ (hHeld.2.2.2.2.2.2.2.2.2.2.2.2.2.2.2.2.2.1))).trans (hHeld.2.2.2.2.2.2.2.2.2.2.2.2.2.2.2.2.2.1)
  have HS18_ := (hb.cell (World.block_lt_of_cell? _ _ (hHeld.2.2.2.2.2.2.2.2.2.2.2.2.2.2.2.2.2.2.1))).trans (hHeld.2.2.2.2.2.2.2.2.2.2.2.2.2.2.2.2.2.2.1)
  have HS19_ := (hb.cell (World.block_lt_of_cell? _ _ (hHeld.2.2.2.2.2.2.2.2.2.2.2.2.2.2.2.2.2.2.2.1))).trans (hHeld.2.2.2.2.2.2.2.2.2.2.2.2.2.2.2.2.2.2.2.1)
  have HS20_ := (hb.cell (World.block_lt_of_cell? _ _ (hHeld.2.2.2.2.2.2.2.2.2.2.2.2.2.2.2.2.2.2.2.2.1))).trans (hHeld.2.2.2.2.2.2.2.2.2.2.2.2.2.2.2.2.2.2.2.2.1)
  have HS21_ := (hb.cell (World.block_lt_of_cell? _ _ (hHeld.2.2.2.2.2.2.2.2.2.2.2.2.2.2.2.2.2.2.2.2.2.1))).trans (hHeld.2.2.2.2.2.2.2.2.2.2.2.2.2.2.2.2.2.2.2.2.2.1)
  have HS22_ := (hb.cell (World.block_lt_of_cell? _ _ (hHeld.2.2.2.2.2.2.2.2.2.2.2.2.2.2.2.2.2.2.2.2.2.2.1))).trans (hHeld.2.2.2.2.2.2.2.2.2.2.2.2.2.2.2.2.2.2.2.2.2.2.1)
  have HS23_ := (hb.cell (World.block_lt_of_cell? _ _ (hHeld.2.2.2.2.2.2.2.2.2.2.2.2.2.2.2.2.2.2.2.2.2.2.2.1))).trans (hHeld.2.2.2.2.2.2.2.2.2.2.2.2.2.2.2.2.2.2.2.2.2.2.2.1)
  have HS24_ := (hb.cell (World.block_lt_of_cell? _ _ (hHeld.2.2.2.2.2.2.2.2.2.2.2.2.2.2.2.2.2.2.2.2.2.2.2.2.1))).trans (hHeld.2.2.2.2.2.2.2.2.2.2.2.2.2.2.2.2.2.2.2.2.2.2.2.2.1)
  have HS25_ := (hb.cell (World.block_lt_of_cell? _ _ (hHeld.2.2.2.2.2.2.2.2.2.2.2.2.2.2.2.2.2.2.2.2.2.2.2.2.2.1))).trans (hHeld.2.2.2.2.2.2.2.2.2.2.2.2.2.2.2.2.2.2.2.2.2.2.2.2.2.1)
  have HS26_ := (hb.cell (World.block_lt_of_cell? _ _ (hHeld.2.2.2.2.2.2.2.2.2.2.2.2.2.2.2.2.2.2.2.2.2.2.2.2.2.2.1))).trans (hHeld.2.2.2.2.2.2.2.2.2.2.2.2.2.2.2.2.2.2.2.2.2.2.2.2.2.2.1)
  have HS27_ := (hb.cell (World.block_lt_of_cell? _ _ (hHeld.2.2.2.2.2.2.2.2.2.2.2.2.2.2.2.2.2.2.2.2.2.2.2.2.2.2.2.1))).trans (hHeld.2.2.2.2.2.2.2.2.2.2.2.2.2.2.2.2.2.2.2.2.2.2.2.2.2.2.2.1)
  have HS28_ := (hb.cell (World.block_lt_of_cell? _ _ (hHeld.2.2.2.2.2.2.2.2.2.2.2.2.2.2.2.2.2.2.2.2.2.2.2.2.2.2.2.2.1))).trans (hHeld.2.2.2.2.2.2.2.2.2.2.2.2.2.2.2.2.2.2.2.2.2.2.2.2.2.2.2.2.1)
  have HS29_ := (hb.cell (World.block_lt_of_cell? _ _ (hHeld.2.2.2.2.2.2.2.2.2.2.2.2.2.2.2.2.2.2.2.2.2.2.2.2.2.2.2.2.2.1))).trans (hHeld.2.2.2.2.2.2.2.2.2.2.2.2.2.2.2.2.2.2.2.2.2.2.2.2.2.2.2.2.2.1)
  have HS30_ := (hb.cell (World.block_lt_of_cell? _ _ (hHeld.2.2.2.2.2.2.2.2.2.2.2.2.2.2.2.2.2.2.2.2.2.2.2.2.2.2.2.2.2.2.1))).trans (hHeld.2.2.2.2.2.2.2.2.2.2.2.2.2.2.2.2.2.2.2.2.2.2.2.2.2.2.2.2.2.2.1)
  have HS31_ := (hb.cell (World.block_lt_of_cell? _ _ (hHeld.2.2.2.2.2.2.2.2.2.2.2.2.2.2.2.2.2.2.2.2.2.2.2.2.2.2.2.2.2.2.2.1))).trans (hHeld.2.2.2.2.2.2.2.2.2.2.2.2.2.2.2.2.2.2.2.2.2.2.2.2.2.2.2.2.2.2.2.1)
  have HS32_ := (hb.cell (World.block_lt_of_cell? _ _ (hHeld.2.2.2.2.2.2.2.2.2.2.2.2.2.2.2.2.2.2.2.2.2.2.2.2.2.2.2.2.2.2.2.2.1))).trans (hHeld.2.2.2.2.2.2.2.2.2.2.2.2.2.2.2.2.2.2.2.2.2.2.2.2.2.2.2.2.2.2.2.2.1)
  have HS33_ := (hb.cell (World.block_lt_of_cell? _ _ (hHeld.2.2.2.2.2.2.2.2.2.2.2.2.2.2.2.2.2.2.2.2.2.2.2.2.2.2.2.2.2.2.2.2.2))).trans (hHeld.2.2.2.2.2.2.2.2.2.2.2.2.2.2.2.2.2.2.2.2.2.2.2.2.2.2.2.2.2.2.2.2.2)
  refine ⟨_, rfl, ?_⟩
  have n0_ := Aside0.mk (Kd.yi2 (by (with_reducible repeat (first | apply Kd.N_alloc | apply Kd.N_drewN | apply Kd.N_drew)); exact HO152.out) hb)
  have n1_ := Aside0.mk (Kd.ye5 (by (with_reducible repeat (first | apply Kd.yd7 | apply Kd.R_drewN | apply Kd.R_drew)); exact HO155.out) hb)
  have n2_ := Aside0.mk (Kd.ye5 (by (with_reducible repeat (first | apply Kd.yd7 | apply Kd.R_drewN | apply Kd.R_drew)); exact HO159.out) hb)
  have n3_ := Aside0.mk (Kd.yi2 (by (with_reducible repeat (first | apply Kd.N_alloc | apply Kd.N_drewN | apply Kd.N_drew)); exact HO163.out) hb)
  have n4_ := Aside0.mk (Kd.ye5 (by (with_reducible repeat (first | apply Kd.yd7 | apply Kd.R_drewN | apply Kd.R_drew)); exact HO166.out) hb)
  have n5_ := Aside0.mk (Kd.yi2 (by (with_reducible repeat (first | apply Kd.N_alloc | apply Kd.N_drewN | apply Kd.N_drew)); exact HO171.out) hb)
  have n6_ := Aside0.mk (Kd.ye5 (by (with_reducible repeat (first | apply Kd.yd7 | apply Kd.R_drewN | apply Kd.R_drew)); exact HO174.out) hb)
  have n7_ := Aside0.mk (Kd.ys5 (by (with_reducible repeat (first | apply Kd.V_alloc | apply Kd.V_drewN | apply Kd.V_drew)); exact HL178_5.out) hb)
  have n8_ := Aside0.mk (Kd.ys5 (by (with_reducible repeat (first | apply Kd.V_alloc | apply Kd.V_drewN | apply Kd.V_drew)); exact HL179_5.out) hb)
  have n9_ := Aside0.mk (Kd.ys5 (by (with_reducible repeat (first | apply Kd.V_alloc | apply Kd.V_drewN | apply Kd.V_drew)); exact HL180_5.out) hb)
  have n10_ := Aside0.mk (Kd.ys5 (by (with_reducible repeat (first | apply Kd.V_alloc | apply Kd.V_drewN | apply Kd.V_drew)); exact HL181_5.out) hb)
  have n11_ := Aside0.mk (yb2 (g := gb156) (o := .cells #[.string (⟨#[101]⟩ : ByteArray), .slice Ao23 y150.length co23, .slice Ao22 y153.length co22] 27 (0, 0)) (by (with_reducible repeat (first | refine ya5 ?_ _ | refine ya6 ?_ | refine ya4 ?_ _)); exact BK156.out) hb)
  have n12_ := Aside0.mk (yb2 (g := gb167) (o := .cells #[.string t160, .slice (some ad178) t161.length co34, .slice Ao35 t164.length co35] 27 (0, 0)) (by (with_reducible repeat (first | refine ya5 ?_ _ | refine ya6 ?_ | refine ya4 ?_ _)); exact BK167.out) hb)
  have n13_ := Aside0.mk (yb2 (g := gb175) (o := .cells #[.string t168, .slice (some ad181) t169.length co42, .slice Ao43 t172.length co43] 27 (0, 0)) (by (with_reducible repeat (first | refine ya5 ?_ _ | refine ya6 ?_ | refine ya4 ?_ _)); exact BK175.out) hb)
  have n14_ := Aside0.mk (Kd.yc4 (by repeat (first | (with_reducible exact HR178_5.out) | (with_reducible refine Kd.yd2 ?_ _) | (with_reducible refine Kd.C_drewN ?_ _) | (with_reducible refine Kd.C_drew ?_) | exact HR178_5.out)) hb)
  have n15_ := Aside0.mk (Kd.yc4 (by repeat (first | (with_reducible exact HR179_5.out) | (with_reducible refine Kd.yd2 ?_ _) | (with_reducible refine Kd.C_drewN ?_ _) | (with_reducible refine Kd.C_drew ?_) | exact HR179_5.out)) hb)
  have n16_ := Aside0.mk (Kd.yc4 (by repeat (first | (with_reducible exact HR180_5.out) | (with_reducible refine Kd.yd2 ?_ _) | (with_reducible refine Kd.C_drewN ?_ _) | (with_reducible refine Kd.C_drew ?_) | exact HR180_5.out)) hb)
  have n17_ := Aside0.mk (Kd.yc4 (by repeat (first | (with_reducible exact HR181_5.out) | (with_reducible refine Kd.yd2 ?_ _) | (with_reducible refine Kd.C_drewN ?_ _) | (with_reducible refine Kd.C_drew ?_) | exact HR181_5.out)) hb)
  have n18_ := Aside0.mk (yb1 (by repeat (first | (with_reducible first | exact HB.out | apply ya2 | apply ya0 | apply ya1 | refine ya3 ?_ GE156.out | refine ya3 ?_ GE167.out | refine ya3 ?_ GE175.out) | exact HB.out)) hb)
  clear HO152
  clear HO155
  clear HO159
  clear HO163
  clear HO166
  clear HO171
  clear HO174
  clear HL178_5
  clear HL179_5
  clear HL180_5
  clear HL181_5
  clear BK156
  clear BK167
  clear BK175
  clear HR178_5
  clear HR179_5
  clear HR180_5
  clear HR181_5
  clear HB
  have HO152 := n0_
  have HO155 := n1_
  have HO159 := n2_
  have HO163 := n3_
  have HO166 := n4_
  have HO171 := n5_
  have HO174 := n6_
  have HL178_5 := n7_
  have HL179_5 := n8_
  have HL180_5 := n9_
  have HL181_5 := n10_
  have BK156 := n11_
  have BK167 := n12_
  have BK175 := n13_
  have HR178_5 := n14_
  have HR179_5 := n15_
  have HR180_5 := n16_
  have HR181_5 := n17_
  have HB := n18_
  clear n0_ n1_ n2_ n3_ n4_ n5_ n6_ n7_ n8_ n9_ n10_ n11_ n12_ n13_ n14_ n15_ n16_ n17_ n18_
  (try clear hb)
  (try clear hb2)
  (try clear hk)
  (try clear hi)
  refine hK.out _ _ ⟨(yb3 BK167.out 0).trans rfl, (yb3 BK167.out 1).trans rfl, (yb3 BK167.out 2).trans rfl, (yb3 BK175.out 0).trans rfl, (yb3 BK175.out 1).trans rfl, (yb3 BK175.out 2).trans rfl, HS6_, HS7_, HS8_, HS9_, HS10_, HS11_, HS12_, HS13_, HS14_, HS15_, HS16_, HS17_, HS18_, HS19_, HS20_, HS21_, HS22_, HS23_, HS24_, HS25_, HS26_, HS27_, HS28_, HS29_, HS30_, HS31_, HS32_, HS33_⟩ (fun hHeld => ?_)
  clear hK K
  refine norm_ (a' := ?_) ?_ ?_
  rotate_left
  · show Act.put _ (some 82) _ = _
    simp only [Act.put, zA, zB, zC, i64_w, i32_w]
    rfl
  refine pure_ (i := 58) (N := some 83) (v := ?_) (a' := ?_) #[true, true, true, true, true, true, true, true, true, true, true, true, true, true, true, true, true, true, true, true, true, true, true, true, true, true, true, true, true, true, true, true, true, true, true, true, true, true, true, true, true, true, true, true, true, true, true, true, true, true, true, true, true, true, true, true, true, true, true, false, false] rfl rfl (any_of HT_.out (by kernel_rfl)) (fun _ _ _ h => h) (Or.inl ⟨by rfl, ?_⟩) ?_ ?_
  rotate_left
  · intro w'
    go_simp
    with_reducible rfl
  rotate_left
  · simp only [Act.put, zA, zB, zC, i64_w, i32_w]
    rfl
  refine pure_ (i := 59) (N := some 84) (v := ?_) (a' := ?_) #[true, true, true, true, true, true, true, true, true, true, true, true, true, true, true, true, true, true, true, true, true, true, true, true, true, true, true, true, true, true, true, true, true, true, true, true, true, true, true, true, true, true, true, true, true, true, true, true, true, true, true, true, true, true, true, true, true, true, true, true, false] rfl rfl (any_of HT_.out (by kernel_rfl)) (fun _ _ _ h => h) (Or.inl ⟨by rfl, ?_⟩) ?_ ?_
  rotate_left
  · intro w'
    go_simp
    with_reducible rfl
  rotate_left
  · simp only [Act.put, zA, zB, zC, i64_w, i32_w]
    rfl
  refine pure_ (i := 60) (N := some 0) (v := ?_) (a' := ?_) #[true, true, true, true, true, true, true, true, true, true, true, true, true, true, true, true, true, true, true, true, true, true, true, true, true, true, true, true, true, true, true, true, true, true, true, true, true, true, true, true, true, true, true, true, true, true, true, true, true, true, true, true, true, true, true, true, true, true, true, true, true] rfl rfl (any_of HT_.out (by kernel_rfl)) (fun _ _ _ h => h) (Or.inl ⟨by rfl, ?_⟩) ?_ ?_
  rotate_left
  · intro w'
    go_simp
    with_reducible rfl
  rotate_left
  · simp only [Act.put, zA, zB, zC, i64_w, i32_w]
    rfl
  refine done_ (yk9 HT_.out (by kernel_rfl)) ?_
  try go_wp2
  go_ret
  exact ⟨by first | rfl | (simp [yb0, ya9] <;> rfl) | (simp [*, yb0, ya9] <;> rfl), by repeat (first | (with_reducible first | exact HB.out | apply ya2 | apply ya0 | apply ya1 | refine ya3 ?_ GE156.out | refine ya3 ?_ GE167.out | refine ya3 ?_ GE175.out) | exact HB.out)⟩
end Go.Proofs.YtidkjifilgjgfaaDoor.PAll
