import Derived.Test.YtidkjifilgjgfaaDoorPAllx0
import Derived.Test.YtidkjifilgjgfaaDoorPAllx1
import Derived.Test.YtidkjifilgjgfaaDoorPAllx2
import Derived.Test.YtidkjifilgjgfaaDoorPAllx3
import Derived.Test.YtidkjifilgjgfaaDoorPAllx5
import Derived.Test.YtidkjifilgjgfaaDoorPAllx7
-- PRINTED by print.py (a twelfth state) out of the translation. Not trusted: Lean checks it.
namespace Go.Proofs.YtidkjifilgjgfaaDoor.PAll
open Go.RowKit Go.Proofs.YtidkjifilgjgfaaDoorW.PrintWords Go.Proofs.YtidkjifilgjgfaaDoorW.PrintLast Go.Proofs.YtidkjifilgjgfaaDoorW.PrintMore
attribute [local go_sem] yg8 yg6 yh9 yh8 yf9 yf8 yg7 yg5   -- for this text's walks alone
set_option linter.unusedVariables false
set_option linter.unusedSimpArgs false

/-! ### ya8: function 3 -/
noncomputable def ya8.j0 : Nat → Bool → Bool → Bool → Int → Bool → List ByteArray → Bool → Bool → ByteArray → List (S38) → List ByteArray → ByteArray → List (S38) → List ByteArray → Option (Bool)
  | 0, _, _, _, _, _, _, _, _, _, _, _, _, _, _ => none
  | k + 1, x3, x4, x40, x202000, x202001, x202002, x202003, x202004, x203000, x203001, x203002, x204000, x204001, x204002 => if x40 = true then (some true) else (if x202000 = 3 then ((yd0.f k x202000 x202001 x202002 x202003 x202004 x203000 x203001 x203002 true).bind fun bt212 => ((yd0.f k x202000 x202001 x202002 x202003 x202004 x204000 x204001 x204002 true).bind fun bt214 => (if bt212.2 = bt214.2 then (if bt212.1.toList = bt214.1.toList then (some true) else ((yb8.f k x202000 x202001 x202002 x202003 x202004 x203000 x203001 x203002).bind fun bt216 => ((yb8.f k x202000 x202001 x202002 x202003 x202004 x204000 x204001 x204002).bind fun bt223 => ((yb5.f k bt216.1 bt216.2.1 bt216.2.2 bt223.1 bt223.2.1 bt223.2.2).bind fun t230 => (some (!t230)))))) else (none)))) else ((yd0.f k x202000 x202001 x202002 x202003 x202004 x203000 x203001 x203002 x3).bind fun bt208 => ((yd0.f k x202000 x202001 x202002 x202003 x202004 x204000 x204001 x204002 x4).bind fun bt210 => (if bt208.1.toList = bt210.1.toList then (some (bt208.2 == bt210.2)) else (none)))))
noncomputable def ya8.f (k : Nat) (a0_0 : Int) (a0_1 : Bool) (l0_2 : List ByteArray) (a0_3 : Bool) (a0_4 : Bool) (a1_0 : ByteArray) (l1_1 : List (S38)) (l1_2 : List ByteArray) (a2_0 : ByteArray) (l2_1 : List (S38)) (l2_2 : List ByteArray) (a3 : Bool) (a4 : Bool) : Option (Bool) := (yc8.f k).bind fun t204 => (if t204 = true then ((yb4.f k a1_0 l1_1 l1_2).bind fun t205 => (if t205 = true then ((yb4.f k a2_0 l2_1 l2_2).bind fun t206 => (if t206 = true then ((yd6.f a0_0 a0_1 l0_2 a0_3 a0_4).bind fun t207 => (if t207 = true then (ya8.j0 k a3 a4 (a1_0.toList != a2_0.toList) a0_0 a0_1 l0_2 a0_3 a0_4 a1_0 l1_1 l1_2 a2_0 l2_1 l2_2) else (ya8.j0 k a3 a4 true a0_0 a0_1 l0_2 a0_3 a0_4 a1_0 l1_1 l1_2 a2_0 l2_1 l2_2))) else (ya8.j0 k a3 a4 true a0_0 a0_1 l0_2 a0_3 a0_4 a1_0 l1_1 l1_2 a2_0 l2_1 l2_2))) else (ya8.j0 k a3 a4 true a0_0 a0_1 l0_2 a0_3 a0_4 a1_0 l1_1 l1_2 a2_0 l2_1 l2_2))) else (none))
def ya8.T11 : Bool × List (List Nat × List Nat) := (true, [([], []), ([], []), ([0, 1], [0, 1]), ([2], [2]), ([3], [3]), ([3], [3]), ([4, 5, 3], [3, 4, 5]), ([6, 3, 3], [3, 6]), ([7], [7]), ([7], [7]), ([8, 9, 7, 7], [7, 8, 9]), ([7], [7]), ([7], [7]), ([11, 12, 10, 7], [7, 11, 12]), ([10, 13, 13, 7], [7, 10, 13]), ([14, 7], [7, 14]), ([7, 15, 3], [3, 7, 15]), ([3, 16], [3, 16]), ([17, 14, 0, 1, 2, 3, 4, 5, 6, 7, 8, 9, 10, 11, 12, 13, 14, 15, 16, 17], [17])])
def ya8.B11 : List Nat := [0, 0, 3, 7, 15, 15, 63, 127, 255, 255, 1023, 255, 255, 8191, 16383, 32767, 65535, 131071, 262143]
theorem ya8.tab11 : rtab .any (opsOf Tryd.f3 11) = ya8.T11 := by kernel_rfl
theorem ya8.bits11 : yk2 ya8.T11.2 ya8.B11 = true := by kernel_rfl
set_option maxHeartbeats 8000000 in
set_option maxRecDepth 100000 in
theorem ya8.calls (k : Nat) (a0_0 : Int) (a0_1 : Bool) (A0_2 : Option Addr) (c0_2 : Nat) (l0_2 : List ByteArray) (a0_3 : Bool) (a0_4 : Bool) (a1_0 : ByteArray) (A1_1 : Option Addr) (c1_1 : Nat) (l1_1 : List (S38)) (A1_2 : Option Addr) (c1_2 : Nat) (l1_2 : List ByteArray) (a2_0 : ByteArray) (A2_1 : Option Addr) (c2_1 : Nat) (l2_1 : List (S38)) (A2_2 : Option Addr) (c2_2 : Nat) (l2_2 : List ByteArray) (a3 : Bool) (a4 : Bool) (r : Bool) (w : World) (hr0_2 : Kd.C Kd.string w A0_2 l0_2.length l0_2) (hc0_2 : l0_2.length ≤ c0_2) (hr1_1 : Kd.C k38 w A1_1 l1_1.length l1_1) (hc1_1 : l1_1.length ≤ c1_1) (hr1_2 : Kd.C Kd.string w A1_2 l1_2.length l1_2) (hc1_2 : l1_2.length ≤ c1_2) (hr2_1 : Kd.C k38 w A2_1 l2_1.length l2_1) (hc2_1 : l2_1.length ≤ c2_1) (hr2_2 : Kd.C Kd.string w A2_2 l2_2.length l2_2) (hc2_2 : l2_2.length ≤ c2_2) (hml : MT w) (h : ya8.f k a0_0 a0_1 l0_2 a0_3 a0_4 a1_0 l1_1 l1_2 a2_0 l2_1 l2_2 a3 a4 = some r) :
    Calls Tryd.prog 3 #[.agg #[.int .i64 a0_0, .bool a0_1, .slice A0_2 l0_2.length c0_2, .bool a0_3, .bool a0_4], .agg #[.string a1_0, .slice A1_1 l1_1.length c1_1, .slice A1_2 l1_2.length c1_2], .agg #[.string a2_0, .slice A2_1 l2_1.length c2_1, .slice A2_2 l2_2.length c2_2], .bool a3, .bool a4] w fun e w' => e = .returned (.bool r) ∧ Below w.heap.size w w' := by
  have HML := Aside0.mk hml
  clear hml
  have hu24 := Tryd.underlying24
  have hu27 := Tryd.underlying27
  have HR0_2 := Aside0.mk hr0_2
  have HC0_2 := Aside0.mk hc0_2
  clear hr0_2 hc0_2
  have HR1_1 := Aside0.mk hr1_1
  have HC1_1 := Aside0.mk hc1_1
  clear hr1_1 hc1_1
  have HR1_2 := Aside0.mk hr1_2
  have HC1_2 := Aside0.mk hc1_2
  clear hr1_2 hc1_2
  have HR2_1 := Aside0.mk hr2_1
  have HC2_1 := Aside0.mk hc2_1
  clear hr2_1 hc2_1
  have HR2_2 := Aside0.mk hr2_2
  have HC2_2 := Aside0.mk hc2_2
  clear hr2_2 hc2_2
  have HB := Aside0.mk (Below.refl w.heap.size w)
  have H : ((yc8.f k).bind fun t204 => (if t204 = true then ((yb4.f k a1_0 l1_1 l1_2).bind fun t205 => (if t205 = true then ((yb4.f k a2_0 l2_1 l2_2).bind fun t206 => (if t206 = true then ((yd6.f a0_0 a0_1 l0_2 a0_3 a0_4).bind fun t207 => (if t207 = true then (ya8.j0 k a3 a4 (a1_0.toList != a2_0.toList) a0_0 a0_1 l0_2 a0_3 a0_4 a1_0 l1_1 l1_2 a2_0 l2_1 l2_2) else (ya8.j0 k a3 a4 true a0_0 a0_1 l0_2 a0_3 a0_4 a1_0 l1_1 l1_2 a2_0 l2_1 l2_2))) else (ya8.j0 k a3 a4 true a0_0 a0_1 l0_2 a0_3 a0_4 a1_0 l1_1 l1_2 a2_0 l2_1 l2_2))) else (ya8.j0 k a3 a4 true a0_0 a0_1 l0_2 a0_3 a0_4 a1_0 l1_1 l1_2 a2_0 l2_1 l2_2))) else (none))) = some r := h
  clear h
  replace H := Option.bind_eq_some_iff.mp H
  obtain ⟨t204, A60, H⟩ := H
  replace H : (if t204 = true then ((yb4.f k a1_0 l1_1 l1_2).bind fun t205 => (if t205 = true then ((yb4.f k a2_0 l2_1 l2_2).bind fun t206 => (if t206 = true then ((yd6.f a0_0 a0_1 l0_2 a0_3 a0_4).bind fun t207 => (if t207 = true then (ya8.j0 k a3 a4 (a1_0.toList != a2_0.toList) a0_0 a0_1 l0_2 a0_3 a0_4 a1_0 l1_1 l1_2 a2_0 l2_1 l2_2) else (ya8.j0 k a3 a4 true a0_0 a0_1 l0_2 a0_3 a0_4 a1_0 l1_1 l1_2 a2_0 l2_1 l2_2))) else (ya8.j0 k a3 a4 true a0_0 a0_1 l0_2 a0_3 a0_4 a1_0 l1_1 l1_2 a2_0 l2_1 l2_2))) else (ya8.j0 k a3 a4 true a0_0 a0_1 l0_2 a0_3 a0_4 a1_0 l1_1 l1_2 a2_0 l2_1 l2_2))) else (none)) = some r := H
  have A6 := Aside0.mk A60
  clear A60
  by_cases c7 : t204 = true
  rotate_left 1
  · replace c7 := Bool.eq_false_iff.mpr c7
    subst c7
    have H1 : (none) = some r := by rw [if_neg (show ¬ (false = true) by decide)] at H; exact H
    clear H
    have H := H1
    clear H1
    exact absurd H (by simp)

  subst c7
  have H1 : ((yb4.f k a1_0 l1_1 l1_2).bind fun t205 => (if t205 = true then ((yb4.f k a2_0 l2_1 l2_2).bind fun t206 => (if t206 = true then ((yd6.f a0_0 a0_1 l0_2 a0_3 a0_4).bind fun t207 => (if t207 = true then (ya8.j0 k a3 a4 (a1_0.toList != a2_0.toList) a0_0 a0_1 l0_2 a0_3 a0_4 a1_0 l1_1 l1_2 a2_0 l2_1 l2_2) else (ya8.j0 k a3 a4 true a0_0 a0_1 l0_2 a0_3 a0_4 a1_0 l1_1 l1_2 a2_0 l2_1 l2_2))) else (ya8.j0 k a3 a4 true a0_0 a0_1 l0_2 a0_3 a0_4 a1_0 l1_1 l1_2 a2_0 l2_1 l2_2))) else (ya8.j0 k a3 a4 true a0_0 a0_1 l0_2 a0_3 a0_4 a1_0 l1_1 l1_2 a2_0 l2_1 l2_2))) = some r := by rw [if_pos rfl] at H; exact H
  clear H
  have H := H1
  clear H1
  have HC8 := Aside0.mk H
  clear H
  go_enter Tryd.func3, Tryd.ntmps3
  go_upto_region 3 with (first | ((with_reducible refine yc1 (N := 5) rfl ?_); refine yb9 ?hg (N := 5) ?hd (cs := #[.int .i64 a0_0, .bool a0_1, .slice A0_2 l0_2.length c0_2, .bool a0_3, .bool a0_4]) (t := 24) ?hr ?_; (case hd => rfl); (case hg => rfl); (case hr => first | (go_simp; done) | (go_simp; rfl)); intro gb201 hg w9 hbox hb; have n0_ := Aside0.mk (yb1 (by repeat (first | (with_reducible first | exact HB.out | apply ya2 | apply ya0 | apply ya1) | exact HB.out)) hb); have n1_ := Aside0.mk (hbox); have n2_ := Aside0.mk ((by rw [hg]; exact (ya7 (by repeat (first | (with_reducible first | exact HB.out | apply ya2 | apply ya0 | apply ya1) | exact HB.out))) : w.heap.size ≤ gb201)); have n3_ := Aside0.mk ((by rw [hg]; exact (ya7 (by repeat (first | (with_reducible first | exact HB.out | apply ya2 | apply ya0 | apply ya1) | exact HB.out))) : w.heap.size ≤ gb201)); clear HB; have HB := n0_; have BK201 := n1_; have GW201 := n2_; have GE201 := n3_; clear n0_ n1_ n2_ n3_; clear hb hbox hg) | ((with_reducible refine yc1 (N := 6) rfl ?_); refine yb9 ?hg (N := 6) ?hd (cs := #[.string a1_0, .slice A1_1 l1_1.length c1_1, .slice A1_2 l1_2.length c1_2]) (t := 27) ?hr ?_; (case hd => rfl); (case hg => rfl); (case hr => first | (go_simp; done) | (go_simp; rfl)); intro gb202 hg w10 hbox hb; have n0_ := Aside0.mk (yb2 (g := gb201) (o := .cells #[.int .i64 a0_0, .bool a0_1, .slice A0_2 l0_2.length c0_2, .bool a0_3, .bool a0_4] 24 (0, 0)) (by (with_reducible repeat (first | refine ya5 ?_ _ | refine ya6 ?_ | refine ya4 ?_ _)); exact BK201.out) hb); have n1_ := Aside0.mk (yb1 (by repeat (first | (with_reducible first | exact HB.out | apply ya2 | apply ya0 | apply ya1 | refine ya3 ?_ GE201.out) | exact HB.out)) hb); have n2_ := Aside0.mk (hbox); have n3_ := Aside0.mk ((by rw [hg]; exact (ya7 (by repeat (first | (with_reducible first | exact HB.out | apply ya2 | apply ya0 | apply ya1 | refine ya3 ?_ GE201.out) | exact HB.out))) : w.heap.size ≤ gb202)); have n4_ := Aside0.mk ((by rw [hg]; exact (ya7 (by repeat (first | (with_reducible first | exact HB.out | apply ya2 | apply ya0 | apply ya1 | refine ya3 ?_ GE201.out) | exact HB.out))) : w.heap.size ≤ gb202)); have n5_ := Aside0.mk ((by rw [hg]; exact Nat.ne_of_lt (blk_lt (g := gb201) (o := .cells #[.int .i64 a0_0, .bool a0_1, .slice A0_2 l0_2.length c0_2, .bool a0_3, .bool a0_4] 24 (0, 0)) (by (with_reducible repeat (first | refine ya5 ?_ _ | refine ya6 ?_ | refine ya4 ?_ _)); exact BK201.out)) : gb201 ≠ gb202)); have n6_ := Aside0.mk ((by rw [hg]; exact Nat.ne_of_gt (blk_lt (g := gb201) (o := .cells #[.int .i64 a0_0, .bool a0_1, .slice A0_2 l0_2.length c0_2, .bool a0_3, .bool a0_4] 24 (0, 0)) (by (with_reducible repeat (first | refine ya5 ?_ _ | refine ya6 ?_ | refine ya4 ?_ _)); exact BK201.out)) : gb202 ≠ gb201)); clear BK201; clear HB; have BK201 := n0_; have HB := n1_; have BK202 := n2_; have GW202 := n3_; have GE202 := n4_; have NB201_202 := n5_; have NB202_201 := n6_; clear n0_ n1_ n2_ n3_ n4_ n5_ n6_; clear hb hbox hg) | ((with_reducible refine yc1 (N := 7) rfl ?_); refine yb9 ?hg (N := 7) ?hd (cs := #[.string a2_0, .slice A2_1 l2_1.length c2_1, .slice A2_2 l2_2.length c2_2]) (t := 27) ?hr ?_; (case hd => rfl); (case hg => rfl); (case hr => first | (go_simp; done) | (go_simp; rfl)); intro gb203 hg w11 hbox hb; have n0_ := Aside0.mk (yb2 (g := gb201) (o := .cells #[.int .i64 a0_0, .bool a0_1, .slice A0_2 l0_2.length c0_2, .bool a0_3, .bool a0_4] 24 (0, 0)) (by (with_reducible repeat (first | refine ya5 ?_ _ | refine ya6 ?_ | refine ya4 ?_ _)); exact BK201.out) hb); have n1_ := Aside0.mk (yb2 (g := gb202) (o := .cells #[.string a1_0, .slice A1_1 l1_1.length c1_1, .slice A1_2 l1_2.length c1_2] 27 (0, 0)) (by (with_reducible repeat (first | refine ya5 ?_ _ | refine ya6 ?_ | refine ya4 ?_ _)); exact BK202.out) hb); have n2_ := Aside0.mk (yb1 (by repeat (first | (with_reducible first | exact HB.out | apply ya2 | apply ya0 | apply ya1 | refine ya3 ?_ GE201.out | refine ya3 ?_ GE202.out) | exact HB.out)) hb); have n3_ := Aside0.mk (hbox); have n4_ := Aside0.mk ((by rw [hg]; exact (ya7 (by repeat (first | (with_reducible first | exact HB.out | apply ya2 | apply ya0 | apply ya1 | refine ya3 ?_ GE201.out | refine ya3 ?_ GE202.out) | exact HB.out))) : w.heap.size ≤ gb203)); have n5_ := Aside0.mk ((by rw [hg]; exact (ya7 (by repeat (first | (with_reducible first | exact HB.out | apply ya2 | apply ya0 | apply ya1 | refine ya3 ?_ GE201.out | refine ya3 ?_ GE202.out) | exact HB.out))) : w.heap.size ≤ gb203)); have n6_ := Aside0.mk ((by rw [hg]; exact Nat.ne_of_lt (blk_lt (g := gb201) (o := .cells #[.int .i64 a0_0, .bool a0_1, .slice A0_2 l0_2.length c0_2, .bool a0_3, .bool a0_4] 24 (0, 0)) (by (with_reducible repeat (first | refine ya5 ?_ _ | refine ya6 ?_ | refine ya4 ?_ _)); exact BK201.out)) : gb201 ≠ gb203)); have n7_ := Aside0.mk ((by rw [hg]; exact Nat.ne_of_gt (blk_lt (g := gb201) (o := .cells #[.int .i64 a0_0, .bool a0_1, .slice A0_2 l0_2.length c0_2, .bool a0_3, .bool a0_4] 24 (0, 0)) (by (with_reducible repeat (first | refine ya5 ?_ _ | refine ya6 ?_ | refine ya4 ?_ _)); exact BK201.out)) : gb203 ≠ gb201)); have n8_ := Aside0.mk ((by rw [hg]; exact Nat.ne_of_lt (blk_lt (g := gb202) (o := .cells #[.string a1_0, .slice A1_1 l1_1.length c1_1, .slice A1_2 l1_2.length c1_2] 27 (0, 0)) (by (with_reducible repeat (first | refine ya5 ?_ _ | refine ya6 ?_ | refine ya4 ?_ _)); exact BK202.out)) : gb202 ≠ gb203)); have n9_ := Aside0.mk ((by rw [hg]; exact Nat.ne_of_gt (blk_lt (g := gb202) (o := .cells #[.string a1_0, .slice A1_1 l1_1.length c1_1, .slice A1_2 l1_2.length c1_2] 27 (0, 0)) (by (with_reducible repeat (first | refine ya5 ?_ _ | refine ya6 ?_ | refine ya4 ?_ _)); exact BK202.out)) : gb203 ≠ gb202)); clear BK201; clear BK202; clear HB; have BK201 := n0_; have BK202 := n1_; have HB := n2_; have BK203 := n3_; have GW203 := n4_; have GE203 := n5_; have NB201_203 := n6_; have NB203_201 := n7_; have NB202_203 := n8_; have NB203_202 := n9_; clear n0_ n1_ n2_ n3_ n4_ n5_ n6_ n7_ n8_ n9_; clear hb hbox hg) | ((with_reducible refine yd5 (f := 4) rfl ?_); refine goesL_ (some 19) rfl rfl Tryd.func4 (by kernel_rfl) rfl #[] rfl (by (try simp only [List.map_toArray, List.map_cons, List.map_nil]); first | done | rfl | (simp only [List.length_drop, List.length_take]; rfl) | (simp only [ByteArray.size_extract]; rfl)) ?_; (with_reducible refine (yc8.calls k  true _ (by exact MT.below HML.out (by repeat (first | (with_reducible first | exact HB.out | apply ya2 | apply ya0 | apply ya1 | refine ya3 ?_ GE201.out | refine ya3 ?_ GE202.out | refine ya3 ?_ GE203.out) | exact HB.out))) A6.out).mono ?_); rintro e w12 ⟨rfl, hb⟩; refine ⟨_, rfl, ?_⟩; have n0_ := Aside0.mk (yb2 (g := gb201) (o := .cells #[.int .i64 a0_0, .bool a0_1, .slice A0_2 l0_2.length c0_2, .bool a0_3, .bool a0_4] 24 (0, 0)) (by (with_reducible repeat (first | refine ya5 ?_ _ | refine ya6 ?_ | refine ya4 ?_ _)); exact BK201.out) hb); have n1_ := Aside0.mk (yb2 (g := gb202) (o := .cells #[.string a1_0, .slice A1_1 l1_1.length c1_1, .slice A1_2 l1_2.length c1_2] 27 (0, 0)) (by (with_reducible repeat (first | refine ya5 ?_ _ | refine ya6 ?_ | refine ya4 ?_ _)); exact BK202.out) hb); have n2_ := Aside0.mk (yb2 (g := gb203) (o := .cells #[.string a2_0, .slice A2_1 l2_1.length c2_1, .slice A2_2 l2_2.length c2_2] 27 (0, 0)) (by (with_reducible repeat (first | refine ya5 ?_ _ | refine ya6 ?_ | refine ya4 ?_ _)); exact BK203.out) hb); have n3_ := Aside0.mk (yb1 (by repeat (first | (with_reducible first | exact HB.out | apply ya2 | apply ya0 | apply ya1 | refine ya3 ?_ GE201.out | refine ya3 ?_ GE202.out | refine ya3 ?_ GE203.out) | exact HB.out)) hb); clear BK201; clear BK202; clear BK203; clear HB; have BK201 := n0_; have BK202 := n1_; have BK203 := n2_; have HB := n3_; clear n0_ n1_ n2_ n3_; (try clear hb); (try clear hb2); (try clear hk); (try clear hi)))
  (try simp only [Act.put, zA, zB, zC])
  go_cut [40] (fun v40 wc => ∃ (kq : Nat) (x40_7 : Bool), v40 = .bool x40_7 ∧ Aside0 (ya8.j0 kq a3 a4 x40_7 a0_0 a0_1 l0_2 a0_3 a0_4 a1_0 l1_1 l1_2 a2_0 l2_1 l2_2 = some r) ∧ Aside0 (kq ≤ k) ∧ Aside0 (wc.heap[gb201]? = some (.cells #[.int .i64 a0_0, .bool a0_1, (.slice A0_2 l0_2.length c0_2), .bool a0_3, .bool a0_4] 24 (0, 0))) ∧ Aside0 (wc.heap[gb202]? = some (.cells #[.string a1_0, (.slice A1_1 l1_1.length c1_1), (.slice A1_2 l1_2.length c1_2)] 27 (0, 0))) ∧ Aside0 (wc.heap[gb203]? = some (.cells #[.string a2_0, (.slice A2_1 l2_1.length c2_1), (.slice A2_2 l2_2.length c2_2)] 27 (0, 0))) ∧ Aside0 (Below w.heap.size w wc))
  case first =>
    have H := HC8.out
    clear HC8
    replace H := Option.bind_eq_some_iff.mp H
    obtain ⟨t205, A130, H⟩ := H
    replace H : (if t205 = true then ((yb4.f k a2_0 l2_1 l2_2).bind fun t206 => (if t206 = true then ((yd6.f a0_0 a0_1 l0_2 a0_3 a0_4).bind fun t207 => (if t207 = true then (ya8.j0 k a3 a4 (a1_0.toList != a2_0.toList) a0_0 a0_1 l0_2 a0_3 a0_4 a1_0 l1_1 l1_2 a2_0 l2_1 l2_2) else (ya8.j0 k a3 a4 true a0_0 a0_1 l0_2 a0_3 a0_4 a1_0 l1_1 l1_2 a2_0 l2_1 l2_2))) else (ya8.j0 k a3 a4 true a0_0 a0_1 l0_2 a0_3 a0_4 a1_0 l1_1 l1_2 a2_0 l2_1 l2_2))) else (ya8.j0 k a3 a4 true a0_0 a0_1 l0_2 a0_3 a0_4 a1_0 l1_1 l1_2 a2_0 l2_1 l2_2)) = some r := H
    have A13 := Aside0.mk A130
    clear A130
    by_cases c14 : t205 = true
    · subst c14
      have H1 : ((yb4.f k a2_0 l2_1 l2_2).bind fun t206 => (if t206 = true then ((yd6.f a0_0 a0_1 l0_2 a0_3 a0_4).bind fun t207 => (if t207 = true then (ya8.j0 k a3 a4 (a1_0.toList != a2_0.toList) a0_0 a0_1 l0_2 a0_3 a0_4 a1_0 l1_1 l1_2 a2_0 l2_1 l2_2) else (ya8.j0 k a3 a4 true a0_0 a0_1 l0_2 a0_3 a0_4 a1_0 l1_1 l1_2 a2_0 l2_1 l2_2))) else (ya8.j0 k a3 a4 true a0_0 a0_1 l0_2 a0_3 a0_4 a1_0 l1_1 l1_2 a2_0 l2_1 l2_2))) = some r := by rw [if_pos rfl] at H; exact H
      clear H
      have H := H1
      clear H1
      replace H := Option.bind_eq_some_iff.mp H
      obtain ⟨t206, A150, H⟩ := H
      replace H : (if t206 = true then ((yd6.f a0_0 a0_1 l0_2 a0_3 a0_4).bind fun t207 => (if t207 = true then (ya8.j0 k a3 a4 (a1_0.toList != a2_0.toList) a0_0 a0_1 l0_2 a0_3 a0_4 a1_0 l1_1 l1_2 a2_0 l2_1 l2_2) else (ya8.j0 k a3 a4 true a0_0 a0_1 l0_2 a0_3 a0_4 a1_0 l1_1 l1_2 a2_0 l2_1 l2_2))) else (ya8.j0 k a3 a4 true a0_0 a0_1 l0_2 a0_3 a0_4 a1_0 l1_1 l1_2 a2_0 l2_1 l2_2)) = some r := H
      have A15 := Aside0.mk A150
      clear A150
      by_cases c16 : t206 = true
      · subst c16
        have H1 : ((yd6.f a0_0 a0_1 l0_2 a0_3 a0_4).bind fun t207 => (if t207 = true then (ya8.j0 k a3 a4 (a1_0.toList != a2_0.toList) a0_0 a0_1 l0_2 a0_3 a0_4 a1_0 l1_1 l1_2 a2_0 l2_1 l2_2) else (ya8.j0 k a3 a4 true a0_0 a0_1 l0_2 a0_3 a0_4 a1_0 l1_1 l1_2 a2_0 l2_1 l2_2))) = some r := by rw [if_pos rfl] at H; exact H
        clear H
        have H := H1
        clear H1
        replace H := Option.bind_eq_some_iff.mp H
        obtain ⟨t207, A170, H⟩ := H
        replace H : (if t207 = true then (ya8.j0 k a3 a4 (a1_0.toList != a2_0.toList) a0_0 a0_1 l0_2 a0_3 a0_4 a1_0 l1_1 l1_2 a2_0 l2_1 l2_2) else (ya8.j0 k a3 a4 true a0_0 a0_1 l0_2 a0_3 a0_4 a1_0 l1_1 l1_2 a2_0 l2_1 l2_2)) = some r := H
        have A17 := Aside0.mk A170
        clear A170
        by_cases c18 : t207 = true
        · subst c18
          have H1 : (ya8.j0 k a3 a4 (a1_0.toList != a2_0.toList) a0_0 a0_1 l0_2 a0_3 a0_4 a1_0 l1_1 l1_2 a2_0 l2_1 l2_2) = some r := by rw [if_pos rfl] at H; exact H
          clear H
          have H := H1
          clear H1
          have H' := Aside0.mk H
          clear H
          have hnb19 := NB202_201.out
          have hnc19 := NB201_202.out
          have hnb20 := NB202_203.out
          have hnc20 := NB203_202.out
          obtain ⟨hcz21_0, hcz21_1, hcz21_2, hfz21_0, hfz21_1, hfz21_2⟩ := bx3 BK202.out
          go_wp2_with (first | ((with_reducible refine yd5 (f := 5) rfl ?_); refine goesL_ (some 22) rfl rfl Tryd.func5 (by kernel_rfl) rfl #[.agg #[.string a1_0, .slice A1_1 l1_1.length c1_1, .slice A1_2 l1_2.length c1_2]] rfl (by (try simp only [List.map_toArray, List.map_cons, List.map_nil]); first | done | rfl | (simp only [List.length_drop, List.length_take]; rfl) | (simp only [ByteArray.size_extract]; rfl)) ?_; (with_reducible refine (yb4.calls k a1_0 _ _ l1_1 _ _ l1_2 true _ ?side1 ?side2 ?side3 ?side4 A13.out).mono ?_); (case side1 => repeat (first | exact (Kd.yc4 HR1_1.out HB.out) | (with_reducible refine Kd.yd2 ?_ _) | (with_reducible refine Kd.C_drewN ?_ _) | (with_reducible refine Kd.C_drew ?_))); (case side2 => exact HC1_1.out); (case side3 => repeat (first | exact (Kd.yc4 HR1_2.out HB.out) | (with_reducible refine Kd.yd2 ?_ _) | (with_reducible refine Kd.C_drewN ?_ _) | (with_reducible refine Kd.C_drew ?_))); (case side4 => exact HC1_2.out); rintro e w22 ⟨rfl, hb⟩; refine ⟨_, rfl, ?_⟩; have n0_ := Aside0.mk (yb2 (g := gb201) (o := .cells #[.int .i64 a0_0, .bool a0_1, .slice A0_2 l0_2.length c0_2, .bool a0_3, .bool a0_4] 24 (0, 0)) (by (with_reducible repeat (first | refine ya5 ?_ _ | refine ya6 ?_ | refine ya4 ?_ _)); exact BK201.out) hb); have n1_ := Aside0.mk (yb2 (g := gb202) (o := .cells #[.string a1_0, .slice A1_1 l1_1.length c1_1, .slice A1_2 l1_2.length c1_2] 27 (0, 0)) (by (with_reducible repeat (first | refine ya5 ?_ _ | refine ya6 ?_ | refine ya4 ?_ _)); exact BK202.out) hb); have n2_ := Aside0.mk (yb2 (g := gb203) (o := .cells #[.string a2_0, .slice A2_1 l2_1.length c2_1, .slice A2_2 l2_2.length c2_2] 27 (0, 0)) (by (with_reducible repeat (first | refine ya5 ?_ _ | refine ya6 ?_ | refine ya4 ?_ _)); exact BK203.out) hb); have n3_ := Aside0.mk (yb1 (by repeat (first | (with_reducible first | exact HB.out | apply ya2 | apply ya0 | apply ya1 | refine ya3 ?_ GE201.out | refine ya3 ?_ GE202.out | refine ya3 ?_ GE203.out) | exact HB.out)) hb); clear BK201; clear BK202; clear BK203; clear HB; have BK201 := n0_; have BK202 := n1_; have BK203 := n2_; have HB := n3_; clear n0_ n1_ n2_ n3_; (try clear hb); (try clear hb2); (try clear hk); (try clear hi); have hnb23 := NB203_201.out; have hnc23 := NB201_203.out; obtain ⟨hcz24_0, hcz24_1, hcz24_2, hfz24_0, hfz24_1, hfz24_2⟩ := bx3 BK203.out) | (go_at_call 5; (with_reducible refine (yb4.calls k a2_0 _ _ l2_1 _ _ l2_2 true _ ?side1 ?side2 ?side3 ?side4 A15.out).mono ?_); (case side1 => repeat (first | exact (Kd.yc4 HR2_1.out HB.out) | (with_reducible refine Kd.yd2 ?_ _) | (with_reducible refine Kd.C_drewN ?_ _) | (with_reducible refine Kd.C_drew ?_))); (case side2 => exact HC2_1.out); (case side3 => repeat (first | exact (Kd.yc4 HR2_2.out HB.out) | (with_reducible refine Kd.yd2 ?_ _) | (with_reducible refine Kd.C_drewN ?_ _) | (with_reducible refine Kd.C_drew ?_))); (case side4 => exact HC2_2.out); rintro e w25 ⟨rfl, hb⟩; have n0_ := Aside0.mk (yb2 (g := gb201) (o := .cells #[.int .i64 a0_0, .bool a0_1, .slice A0_2 l0_2.length c0_2, .bool a0_3, .bool a0_4] 24 (0, 0)) (by (with_reducible repeat (first | refine ya5 ?_ _ | refine ya6 ?_ | refine ya4 ?_ _)); exact BK201.out) hb); have n1_ := Aside0.mk (yb2 (g := gb202) (o := .cells #[.string a1_0, .slice A1_1 l1_1.length c1_1, .slice A1_2 l1_2.length c1_2] 27 (0, 0)) (by (with_reducible repeat (first | refine ya5 ?_ _ | refine ya6 ?_ | refine ya4 ?_ _)); exact BK202.out) hb); have n2_ := Aside0.mk (yb2 (g := gb203) (o := .cells #[.string a2_0, .slice A2_1 l2_1.length c2_1, .slice A2_2 l2_2.length c2_2] 27 (0, 0)) (by (with_reducible repeat (first | refine ya5 ?_ _ | refine ya6 ?_ | refine ya4 ?_ _)); exact BK203.out) hb); have n3_ := Aside0.mk (yb1 (by repeat (first | (with_reducible first | exact HB.out | apply ya2 | apply ya0 | apply ya1 | refine ya3 ?_ GE201.out | refine ya3 ?_ GE202.out | refine ya3 ?_ GE203.out) | exact HB.out)) hb); clear BK201; clear BK202; clear BK203; clear HB; have BK201 := n0_; have BK202 := n1_; have BK203 := n2_; have HB := n3_; clear n0_ n1_ n2_ n3_; (try clear hb); (try clear hb2); (try clear hk); (try clear hi); obtain ⟨hcz26_0, hcz26_1, hcz26_2, hcz26_3, hcz26_4, hfz26_0, hfz26_1, hfz26_2, hfz26_3, hfz26_4⟩ := bx5 BK201.out) | (go_at_call 6; (with_reducible refine (yd6.calls a0_0 a0_1 _ _ l0_2 a0_3 a0_4 true _ ?side1 ?side2 A17.out).mono ?_); (case side1 => repeat (first | exact (Kd.yc4 HR0_2.out HB.out) | (with_reducible refine Kd.yd2 ?_ _) | (with_reducible refine Kd.C_drewN ?_ _) | (with_reducible refine Kd.C_drew ?_))); (case side2 => exact HC0_2.out); rintro e w27 ⟨rfl, hb⟩; have n0_ := Aside0.mk (yb2 (g := gb201) (o := .cells #[.int .i64 a0_0, .bool a0_1, .slice A0_2 l0_2.length c0_2, .bool a0_3, .bool a0_4] 24 (0, 0)) (by (with_reducible repeat (first | refine ya5 ?_ _ | refine ya6 ?_ | refine ya4 ?_ _)); exact BK201.out) hb); have n1_ := Aside0.mk (yb2 (g := gb202) (o := .cells #[.string a1_0, .slice A1_1 l1_1.length c1_1, .slice A1_2 l1_2.length c1_2] 27 (0, 0)) (by (with_reducible repeat (first | refine ya5 ?_ _ | refine ya6 ?_ | refine ya4 ?_ _)); exact BK202.out) hb); have n2_ := Aside0.mk (yb2 (g := gb203) (o := .cells #[.string a2_0, .slice A2_1 l2_1.length c2_1, .slice A2_2 l2_2.length c2_2] 27 (0, 0)) (by (with_reducible repeat (first | refine ya5 ?_ _ | refine ya6 ?_ | refine ya4 ?_ _)); exact BK203.out) hb); have n3_ := Aside0.mk (yb1 (by repeat (first | (with_reducible first | exact HB.out | apply ya2 | apply ya0 | apply ya1 | refine ya3 ?_ GE201.out | refine ya3 ?_ GE202.out | refine ya3 ?_ GE203.out) | exact HB.out)) hb); clear BK201; clear BK202; clear BK203; clear HB; have BK201 := n0_; have BK202 := n1_; have BK203 := n2_; have HB := n3_; clear n0_ n1_ n2_ n3_; (try clear hb); (try clear hb2); (try clear hk); (try clear hi); obtain ⟨hcz28_0, hcz28_1, hcz28_2, hfz28_0, hfz28_1, hfz28_2⟩ := bx3 BK202.out; obtain ⟨hcz29_0, hcz29_1, hcz29_2, hfz29_0, hfz29_1, hfz29_2⟩ := bx3 BK203.out))
          go_meet
          case rel => exact ⟨_, ((a1_0.toList != a2_0.toList)), (by first | rfl | (simp; done) | (simp [*]; done)), H', ⟨by first | omega | exact Nat.le_refl _⟩, ⟨by (with_reducible repeat (first | refine ya5 ?_ _ | refine ya6 ?_ | refine ya4 ?_ _)); exact BK201.out⟩, ⟨by (with_reducible repeat (first | refine ya5 ?_ _ | refine ya6 ?_ | refine ya4 ?_ _)); exact BK202.out⟩, ⟨by (with_reducible repeat (first | refine ya5 ?_ _ | refine ya6 ?_ | refine ya4 ?_ _)); exact BK203.out⟩, ⟨by repeat (first | (with_reducible first | exact HB.out | apply ya2 | apply ya0 | apply ya1 | refine ya3 ?_ GE201.out | refine ya3 ?_ GE202.out | refine ya3 ?_ GE203.out) | exact HB.out)⟩⟩
        · replace c18 := Bool.eq_false_iff.mpr c18
          subst c18
          have H1 : (ya8.j0 k a3 a4 true a0_0 a0_1 l0_2 a0_3 a0_4 a1_0 l1_1 l1_2 a2_0 l2_1 l2_2) = some r := by rw [if_neg (show ¬ (false = true) by decide)] at H; exact H
          clear H
          have H := H1
          clear H1
          have H' := Aside0.mk H
          clear H
          have hnb30 := NB202_201.out
          have hnc30 := NB201_202.out
          have hnb31 := NB202_203.out
          have hnc31 := NB203_202.out
          obtain ⟨hcz32_0, hcz32_1, hcz32_2, hfz32_0, hfz32_1, hfz32_2⟩ := bx3 BK202.out
          go_wp2_with (first | ((with_reducible refine yd5 (f := 5) rfl ?_); refine goesL_ (some 22) rfl rfl Tryd.func5 (by kernel_rfl) rfl #[.agg #[.string a1_0, .slice A1_1 l1_1.length c1_1, .slice A1_2 l1_2.length c1_2]] rfl (by (try simp only [List.map_toArray, List.map_cons, List.map_nil]); first | done | rfl | (simp only [List.length_drop, List.length_take]; rfl) | (simp only [ByteArray.size_extract]; rfl)) ?_; (with_reducible refine (yb4.calls k a1_0 _ _ l1_1 _ _ l1_2 true _ ?side1 ?side2 ?side3 ?side4 A13.out).mono ?_); (case side1 => repeat (first | exact (Kd.yc4 HR1_1.out HB.out) | (with_reducible refine Kd.yd2 ?_ _) | (with_reducible refine Kd.C_drewN ?_ _) | (with_reducible refine Kd.C_drew ?_))); (case side2 => exact HC1_1.out); (case side3 => repeat (first | exact (Kd.yc4 HR1_2.out HB.out) | (with_reducible refine Kd.yd2 ?_ _) | (with_reducible refine Kd.C_drewN ?_ _) | (with_reducible refine Kd.C_drew ?_))); (case side4 => exact HC1_2.out); rintro e w33 ⟨rfl, hb⟩; refine ⟨_, rfl, ?_⟩; have n0_ := Aside0.mk (yb2 (g := gb201) (o := .cells #[.int .i64 a0_0, .bool a0_1, .slice A0_2 l0_2.length c0_2, .bool a0_3, .bool a0_4] 24 (0, 0)) (by (with_reducible repeat (first | refine ya5 ?_ _ | refine ya6 ?_ | refine ya4 ?_ _)); exact BK201.out) hb); have n1_ := Aside0.mk (yb2 (g := gb202) (o := .cells #[.string a1_0, .slice A1_1 l1_1.length c1_1, .slice A1_2 l1_2.length c1_2] 27 (0, 0)) (by (with_reducible repeat (first | refine ya5 ?_ _ | refine ya6 ?_ | refine ya4 ?_ _)); exact BK202.out) hb); have n2_ := Aside0.mk (yb2 (g := gb203) (o := .cells #[.string a2_0, .slice A2_1 l2_1.length c2_1, .slice A2_2 l2_2.length c2_2] 27 (0, 0)) (by (with_reducible repeat (first | refine ya5 ?_ _ | refine ya6 ?_ | refine ya4 ?_ _)); exact BK203.out) hb); have n3_ := Aside0.mk (yb1 (by repeat (first | (with_reducible first | exact HB.out | apply ya2 | apply ya0 | apply ya1 | refine ya3 ?_ GE201.out | refine ya3 ?_ GE202.out | refine ya3 ?_ GE203.out) | exact HB.out)) hb); clear BK201; clear BK202; clear BK203; clear HB; have BK201 := n0_; have BK202 := n1_; have BK203 := n2_; have HB := n3_; clear n0_ n1_ n2_ n3_; (try clear hb); (try clear hb2); (try clear hk); (try clear hi); have hnb34 := NB203_201.out; have hnc34 := NB201_203.out; obtain ⟨hcz35_0, hcz35_1, hcz35_2, hfz35_0, hfz35_1, hfz35_2⟩ := bx3 BK203.out) | (go_at_call 5; (with_reducible refine (yb4.calls k a2_0 _ _ l2_1 _ _ l2_2 true _ ?side1 ?side2 ?side3 ?side4 A15.out).mono ?_); (case side1 => repeat (first | exact (Kd.yc4 HR2_1.out HB.out) | (with_reducible refine Kd.yd2 ?_ _) | (with_reducible refine Kd.C_drewN ?_ _) | (with_reducible refine Kd.C_drew ?_))); (case side2 => exact HC2_1.out); (case side3 => repeat (first | exact (Kd.yc4 HR2_2.out HB.out) | (with_reducible refine Kd.yd2 ?_ _) | (with_reducible refine Kd.C_drewN ?_ _) | (with_reducible refine Kd.C_drew ?_))); (case side4 => exact HC2_2.out); rintro e w36 ⟨rfl, hb⟩; have n0_ := Aside0.mk (yb2 (g := gb201) (o := .cells #[.int .i64 a0_0, .bool a0_1, .slice A0_2 l0_2.length c0_2, .bool a0_3, .bool a0_4] 24 (0, 0)) (by (with_reducible repeat (first | refine ya5 ?_ _ | refine ya6 ?_ | refine ya4 ?_ _)); exact BK201.out) hb); have n1_ := Aside0.mk (yb2 (g := gb202) (o := .cells #[.string a1_0, .slice A1_1 l1_1.length c1_1, .slice A1_2 l1_2.length c1_2] 27 (0, 0)) (by (with_reducible repeat (first | refine ya5 ?_ _ | refine ya6 ?_ | refine ya4 ?_ _)); exact BK202.out) hb); have n2_ := Aside0.mk (yb2 (g := gb203) (o := .cells #[.string a2_0, .slice A2_1 l2_1.length c2_1, .slice A2_2 l2_2.length c2_2] 27 (0, 0)) (by (with_reducible repeat (first | refine ya5 ?_ _ | refine ya6 ?_ | refine ya4 ?_ _)); exact BK203.out) hb); have n3_ := Aside0.mk (yb1 (by repeat (first | (with_reducible first | exact HB.out | apply ya2 | apply ya0 | apply ya1 | refine ya3 ?_ GE201.out | refine ya3 ?_ GE202.out | refine ya3 ?_ GE203.out) | exact HB.out)) hb); clear BK201; clear BK202; clear BK203; clear HB; have BK201 := n0_; have BK202 := n1_; have BK203 := n2_; have HB := n3_; clear n0_ n1_ n2_ n3_; (try clear hb); (try clear hb2); (try clear hk); (try clear hi); obtain ⟨hcz37_0, hcz37_1, hcz37_2, hcz37_3, hcz37_4, hfz37_0, hfz37_1, hfz37_2, hfz37_3, hfz37_4⟩ := bx5 BK201.out) | (go_at_call 6; (with_reducible refine (yd6.calls a0_0 a0_1 _ _ l0_2 a0_3 a0_4 false _ ?side1 ?side2 A17.out).mono ?_); (case side1 => repeat (first | exact (Kd.yc4 HR0_2.out HB.out) | (with_reducible refine Kd.yd2 ?_ _) | (with_reducible refine Kd.C_drewN ?_ _) | (with_reducible refine Kd.C_drew ?_))); (case side2 => exact HC0_2.out); rintro e w38 ⟨rfl, hb⟩; have n0_ := Aside0.mk (yb2 (g := gb201) (o := .cells #[.int .i64 a0_0, .bool a0_1, .slice A0_2 l0_2.length c0_2, .bool a0_3, .bool a0_4] 24 (0, 0)) (by (with_reducible repeat (first | refine ya5 ?_ _ | refine ya6 ?_ | refine ya4 ?_ _)); exact BK201.out) hb); have n1_ := Aside0.mk (yb2 (g := gb202) (o := .cells #[.string a1_0, .slice A1_1 l1_1.length c1_1, .slice A1_2 l1_2.length c1_2] 27 (0, 0)) (by (with_reducible repeat (first | refine ya5 ?_ _ | refine ya6 ?_ | refine ya4 ?_ _)); exact BK202.out) hb); have n2_ := Aside0.mk (yb2 (g := gb203) (o := .cells #[.string a2_0, .slice A2_1 l2_1.length c2_1, .slice A2_2 l2_2.length c2_2] 27 (0, 0)) (by (with_reducible repeat (first | refine ya5 ?_ _ | refine ya6 ?_ | refine ya4 ?_ _)); exact BK203.out) hb); have n3_ := Aside0.mk (yb1 (by repeat (first | (with_reducible first | exact HB.out | apply ya2 | apply ya0 | apply ya1 | refine ya3 ?_ GE201.out | refine ya3 ?_ GE202.out | refine ya3 ?_ GE203.out) | exact HB.out)) hb); clear BK201; clear BK202; clear BK203; clear HB; have BK201 := n0_; have BK202 := n1_; have BK203 := n2_; have HB := n3_; clear n0_ n1_ n2_ n3_; (try clear hb); (try clear hb2); (try clear hk); (try clear hi)))
          go_meet
          case rel => exact ⟨_, (true), (by first | rfl | (simp; done) | (simp [*]; done)), H', ⟨by first | omega | exact Nat.le_refl _⟩, ⟨by (with_reducible repeat (first | refine ya5 ?_ _ | refine ya6 ?_ | refine ya4 ?_ _)); exact BK201.out⟩, ⟨by (with_reducible repeat (first | refine ya5 ?_ _ | refine ya6 ?_ | refine ya4 ?_ _)); exact BK202.out⟩, ⟨by (with_reducible repeat (first | refine ya5 ?_ _ | refine ya6 ?_ | refine ya4 ?_ _)); exact BK203.out⟩, ⟨by repeat (first | (with_reducible first | exact HB.out | apply ya2 | apply ya0 | apply ya1 | refine ya3 ?_ GE201.out | refine ya3 ?_ GE202.out | refine ya3 ?_ GE203.out) | exact HB.out)⟩⟩
      · replace c16 := Bool.eq_false_iff.mpr c16
        subst c16
        have H1 : (ya8.j0 k a3 a4 true a0_0 a0_1 l0_2 a0_3 a0_4 a1_0 l1_1 l1_2 a2_0 l2_1 l2_2) = some r := by rw [if_neg (show ¬ (false = true) by decide)] at H; exact H
        clear H
        have H := H1
        clear H1
        have H' := Aside0.mk H
        clear H
        have hnb39 := NB202_201.out
        have hnc39 := NB201_202.out
        have hnb40 := NB202_203.out
        have hnc40 := NB203_202.out
        obtain ⟨hcz41_0, hcz41_1, hcz41_2, hfz41_0, hfz41_1, hfz41_2⟩ := bx3 BK202.out
        go_wp2_with (first | ((with_reducible refine yd5 (f := 5) rfl ?_); refine goesL_ (some 22) rfl rfl Tryd.func5 (by kernel_rfl) rfl #[.agg #[.string a1_0, .slice A1_1 l1_1.length c1_1, .slice A1_2 l1_2.length c1_2]] rfl (by (try simp only [List.map_toArray, List.map_cons, List.map_nil]); first | done | rfl | (simp only [List.length_drop, List.length_take]; rfl) | (simp only [ByteArray.size_extract]; rfl)) ?_; (with_reducible refine (yb4.calls k a1_0 _ _ l1_1 _ _ l1_2 true _ ?side1 ?side2 ?side3 ?side4 A13.out).mono ?_); (case side1 => repeat (first | exact (Kd.yc4 HR1_1.out HB.out) | (with_reducible refine Kd.yd2 ?_ _) | (with_reducible refine Kd.C_drewN ?_ _) | (with_reducible refine Kd.C_drew ?_))); (case side2 => exact HC1_1.out); (case side3 => repeat (first | exact (Kd.yc4 HR1_2.out HB.out) | (with_reducible refine Kd.yd2 ?_ _) | (with_reducible refine Kd.C_drewN ?_ _) | (with_reducible refine Kd.C_drew ?_))); (case side4 => exact HC1_2.out); rintro e w42 ⟨rfl, hb⟩; refine ⟨_, rfl, ?_⟩; have n0_ := Aside0.mk (yb2 (g := gb201) (o := .cells #[.int .i64 a0_0, .bool a0_1, .slice A0_2 l0_2.length c0_2, .bool a0_3, .bool a0_4] 24 (0, 0)) (by (with_reducible repeat (first | refine ya5 ?_ _ | refine ya6 ?_ | refine ya4 ?_ _)); exact BK201.out) hb); have n1_ := Aside0.mk (yb2 (g := gb202) (o := .cells #[.string a1_0, .slice A1_1 l1_1.length c1_1, .slice A1_2 l1_2.length c1_2] 27 (0, 0)) (by (with_reducible repeat (first | refine ya5 ?_ _ | refine ya6 ?_ | refine ya4 ?_ _)); exact BK202.out) hb); have n2_ := Aside0.mk (yb2 (g := gb203) (o := .cells #[.string a2_0, .slice A2_1 l2_1.length c2_1, .slice A2_2 l2_2.length c2_2] 27 (0, 0)) (by (with_reducible repeat (first | refine ya5 ?_ _ | refine ya6 ?_ | refine ya4 ?_ _)); exact BK203.out) hb); have n3_ := Aside0.mk (yb1 (by repeat (first | (with_reducible first | exact HB.out | apply ya2 | apply ya0 | apply ya1 | refine ya3 ?_ GE201.out | refine ya3 ?_ GE202.out | refine ya3 ?_ GE203.out) | exact HB.out)) hb); clear BK201; clear BK202; clear BK203; clear HB; have BK201 := n0_; have BK202 := n1_; have BK203 := n2_; have HB := n3_; clear n0_ n1_ n2_ n3_; (try clear hb); (try clear hb2); (try clear hk); (try clear hi); have hnb43 := NB203_201.out; have hnc43 := NB201_203.out; obtain ⟨hcz44_0, hcz44_1, hcz44_2, hfz44_0, hfz44_1, hfz44_2⟩ := bx3 BK203.out) | (go_at_call 5; (with_reducible refine (yb4.calls k a2_0 _ _ l2_1 _ _ l2_2 false _ ?side1 ?side2 ?side3 ?side4 A15.out).mono ?_); (case side1 => repeat (first | exact (Kd.yc4 HR2_1.out HB.out) | (with_reducible refine Kd.yd2 ?_ _) | (with_reducible refine Kd.C_drewN ?_ _) | (with_reducible refine Kd.C_drew ?_))); (case side2 => exact HC2_1.out); (case side3 => repeat (first | exact (Kd.yc4 HR2_2.out HB.out) | (with_reducible refine Kd.yd2 ?_ _) | (with_reducible refine Kd.C_drewN ?_ _) | (with_reducible refine Kd.C_drew ?_))); (case side4 => exact HC2_2.out); rintro e w45 ⟨rfl, hb⟩; have n0_ := Aside0.mk (yb2 (g := gb201) (o := .cells #[.int .i64 a0_0, .bool a0_1, .slice A0_2 l0_2.length c0_2, .bool a0_3, .bool a0_4] 24 (0, 0)) (by (with_reducible repeat (first | refine ya5 ?_ _ | refine ya6 ?_ | refine ya4 ?_ _)); exact BK201.out) hb); have n1_ := Aside0.mk (yb2 (g := gb202) (o := .cells #[.string a1_0, .slice A1_1 l1_1.length c1_1, .slice A1_2 l1_2.length c1_2] 27 (0, 0)) (by (with_reducible repeat (first | refine ya5 ?_ _ | refine ya6 ?_ | refine ya4 ?_ _)); exact BK202.out) hb); have n2_ := Aside0.mk (yb2 (g := gb203) (o := .cells #[.string a2_0, .slice A2_1 l2_1.length c2_1, .slice A2_2 l2_2.length c2_2] 27 (0, 0)) (by (with_reducible repeat (first | refine ya5 ?_ _ | refine ya6 ?_ | refine ya4 ?_ _)); exact BK203.out) hb); have n3_ := Aside0.mk (yb1 (by repeat (first | (with_reducible first | exact HB.out | apply ya2 | apply ya0 | apply ya1 | refine ya3 ?_ GE201.out | refine ya3 ?_ GE202.out | refine ya3 ?_ GE203.out) | exact HB.out)) hb); clear BK201; clear BK202; clear BK203; clear HB; have BK201 := n0_; have BK202 := n1_; have BK203 := n2_; have HB := n3_; clear n0_ n1_ n2_ n3_; (try clear hb); (try clear hb2); (try clear hk); (try clear hi)))
        go_meet
        case rel => exact ⟨_, (true), (by first | rfl | (simp; done) | (simp [*]; done)), H', ⟨by first | omega | exact Nat.le_refl _⟩, ⟨by (with_reducible repeat (first | refine ya5 ?_ _ | refine ya6 ?_ | refine ya4 ?_ _)); exact BK201.out⟩, ⟨by (with_reducible repeat (first | refine ya5 ?_ _ | refine ya6 ?_ | refine ya4 ?_ _)); exact BK202.out⟩, ⟨by (with_reducible repeat (first | refine ya5 ?_ _ | refine ya6 ?_ | refine ya4 ?_ _)); exact BK203.out⟩, ⟨by repeat (first | (with_reducible first | exact HB.out | apply ya2 | apply ya0 | apply ya1 | refine ya3 ?_ GE201.out | refine ya3 ?_ GE202.out | refine ya3 ?_ GE203.out) | exact HB.out)⟩⟩
    · replace c14 := Bool.eq_false_iff.mpr c14
      subst c14
      have H1 : (ya8.j0 k a3 a4 true a0_0 a0_1 l0_2 a0_3 a0_4 a1_0 l1_1 l1_2 a2_0 l2_1 l2_2) = some r := by rw [if_neg (show ¬ (false = true) by decide)] at H; exact H
      clear H
      have H := H1
      clear H1
      have H' := Aside0.mk H
      clear H
      have hnb46 := NB202_201.out
      have hnc46 := NB201_202.out
      have hnb47 := NB202_203.out
      have hnc47 := NB203_202.out
      obtain ⟨hcz48_0, hcz48_1, hcz48_2, hfz48_0, hfz48_1, hfz48_2⟩ := bx3 BK202.out
      go_wp2_with (first | ((with_reducible refine yd5 (f := 5) rfl ?_); refine goesL_ (some 22) rfl rfl Tryd.func5 (by kernel_rfl) rfl #[.agg #[.string a1_0, .slice A1_1 l1_1.length c1_1, .slice A1_2 l1_2.length c1_2]] rfl (by (try simp only [List.map_toArray, List.map_cons, List.map_nil]); first | done | rfl | (simp only [List.length_drop, List.length_take]; rfl) | (simp only [ByteArray.size_extract]; rfl)) ?_; (with_reducible refine (yb4.calls k a1_0 _ _ l1_1 _ _ l1_2 false _ ?side1 ?side2 ?side3 ?side4 A13.out).mono ?_); (case side1 => repeat (first | exact (Kd.yc4 HR1_1.out HB.out) | (with_reducible refine Kd.yd2 ?_ _) | (with_reducible refine Kd.C_drewN ?_ _) | (with_reducible refine Kd.C_drew ?_))); (case side2 => exact HC1_1.out); (case side3 => repeat (first | exact (Kd.yc4 HR1_2.out HB.out) | (with_reducible refine Kd.yd2 ?_ _) | (with_reducible refine Kd.C_drewN ?_ _) | (with_reducible refine Kd.C_drew ?_))); (case side4 => exact HC1_2.out); rintro e w49 ⟨rfl, hb⟩; refine ⟨_, rfl, ?_⟩; have n0_ := Aside0.mk (yb2 (g := gb201) (o := .cells #[.int .i64 a0_0, .bool a0_1, .slice A0_2 l0_2.length c0_2, .bool a0_3, .bool a0_4] 24 (0, 0)) (by (with_reducible repeat (first | refine ya5 ?_ _ | refine ya6 ?_ | refine ya4 ?_ _)); exact BK201.out) hb); have n1_ := Aside0.mk (yb2 (g := gb202) (o := .cells #[.string a1_0, .slice A1_1 l1_1.length c1_1, .slice A1_2 l1_2.length c1_2] 27 (0, 0)) (by (with_reducible repeat (first | refine ya5 ?_ _ | refine ya6 ?_ | refine ya4 ?_ _)); exact BK202.out) hb); have n2_ := Aside0.mk (yb2 (g := gb203) (o := .cells #[.string a2_0, .slice A2_1 l2_1.length c2_1, .slice A2_2 l2_2.length c2_2] 27 (0, 0)) (by (with_reducible repeat (first | refine ya5 ?_ _ | refine ya6 ?_ | refine ya4 ?_ _)); exact BK203.out) hb); have n3_ := Aside0.mk (yb1 (by repeat (first | (with_reducible first | exact HB.out | apply ya2 | apply ya0 | apply ya1 | refine ya3 ?_ GE201.out | refine ya3 ?_ GE202.out | refine ya3 ?_ GE203.out) | exact HB.out)) hb); clear BK201; clear BK202; clear BK203; clear HB; have BK201 := n0_; have BK202 := n1_; have BK203 := n2_; have HB := n3_; clear n0_ n1_ n2_ n3_; (try clear hb); (try clear hb2); (try clear hk); (try clear hi)))
      go_meet
      case rel => exact ⟨_, (true), (by first | rfl | (simp; done) | (simp [*]; done)), H', ⟨by first | omega | exact Nat.le_refl _⟩, ⟨by (with_reducible repeat (first | refine ya5 ?_ _ | refine ya6 ?_ | refine ya4 ?_ _)); exact BK201.out⟩, ⟨by (with_reducible repeat (first | refine ya5 ?_ _ | refine ya6 ?_ | refine ya4 ?_ _)); exact BK202.out⟩, ⟨by (with_reducible repeat (first | refine ya5 ?_ _ | refine ya6 ?_ | refine ya4 ?_ _)); exact BK203.out⟩, ⟨by repeat (first | (with_reducible first | exact HB.out | apply ya2 | apply ya0 | apply ya1 | refine ya3 ?_ GE201.out | refine ya3 ?_ GE202.out | refine ya3 ?_ GE203.out) | exact HB.out)⟩⟩
  case rest =>
    clear HC8
    try clear c1
    try clear c2
    try clear p2
    try clear c3
    try clear c4
    try clear c5
    try clear c7
    try clear c14
    try clear c16
    try clear c18
    try clear c19
    try clear c20
    try clear c23
    try clear c30
    try clear c31
    try clear c34
    try clear c39
    try clear c40
    try clear c43
    try clear c46
    try clear c47
    try clear hcz21_0
    try clear hcz21_1
    try clear hcz21_2
    try clear hcz24_0
    try clear hcz24_1
    try clear hcz24_2
    try clear hcz26_0
    try clear hcz26_1
    try clear hcz26_2
    try clear hcz26_3
    try clear hcz26_4
    try clear hcz28_0
    try clear hcz28_1
    try clear hcz28_2
    try clear hcz29_0
    try clear hcz29_1
    try clear hcz29_2
    try clear hcz32_0
    try clear hcz32_1
    try clear hcz32_2
    try clear hcz35_0
    try clear hcz35_1
    try clear hcz35_2
    try clear hcz37_0
    try clear hcz37_1
    try clear hcz37_2
    try clear hcz37_3
    try clear hcz37_4
    try clear hcz41_0
    try clear hcz41_1
    try clear hcz41_2
    try clear hcz44_0
    try clear hcz44_1
    try clear hcz44_2
    try clear hcz48_0
    try clear hcz48_1
    try clear hcz48_2
    try clear hfz21_0
    try clear hfz21_1
    try clear hfz21_2
    try clear hfz24_0
    try clear hfz24_1
    try clear hfz24_2
    try clear hfz26_0
    try clear hfz26_1
    try clear hfz26_2
    try clear hfz26_3
    try clear hfz26_4
    try clear hfz28_0
    try clear hfz28_1
    try clear hfz28_2
    try clear hfz29_0
    try clear hfz29_1
    try clear hfz29_2
    try clear hfz32_0
    try clear hfz32_1
    try clear hfz32_2
    try clear hfz35_0
    try clear hfz35_1
    try clear hfz35_2
    try clear hfz37_0
    try clear hfz37_1
    try clear hfz37_2
    try clear hfz37_3
    try clear hfz37_4
    try clear hfz41_0
    try clear hfz41_1
    try clear hfz41_2
    try clear hfz44_0
    try clear hfz44_1
    try clear hfz44_2
    try clear hfz48_0
    try clear hfz48_1
    try clear hfz48_2
    obtain ⟨kq, x40_7, rfl, HA, HJ7, BK201, BK202, BK203, HB⟩ := hcut
    cases kq with
    | zero => exact absurd HA.out (by simp [ya8.j0])
    | succ kj7 =>
      have H := HA.out
      clear HA
      simp only [ya8.j0] at H
      by_cases c50 : x40_7 = true
      · subst c50
        have H1 : (some true) = some r := by rw [if_pos rfl] at H; exact H
        clear H
        have H := H1
        clear H1
        obtain rfl := Option.some.inj H
        go_wp2
        go_ret
        exact ⟨by first | rfl | (simp [yb0, ya9] <;> rfl) | (simp [*, yb0, ya9] <;> rfl), by repeat (first | (with_reducible first | exact HB.out | apply ya2 | apply ya0 | apply ya1 | refine ya3 ?_ GE201.out | refine ya3 ?_ GE202.out | refine ya3 ?_ GE203.out) | exact HB.out)⟩
      replace c50 := Bool.eq_false_iff.mpr c50
      subst c50
      have H1 : (if a0_0 = 3 then ((yd0.f kj7 a0_0 a0_1 l0_2 a0_3 a0_4 a1_0 l1_1 l1_2 true).bind fun bt212 => ((yd0.f kj7 a0_0 a0_1 l0_2 a0_3 a0_4 a2_0 l2_1 l2_2 true).bind fun bt214 => (if bt212.2 = bt214.2 then (if bt212.1.toList = bt214.1.toList then (some true) else ((yb8.f kj7 a0_0 a0_1 l0_2 a0_3 a0_4 a1_0 l1_1 l1_2).bind fun bt216 => ((yb8.f kj7 a0_0 a0_1 l0_2 a0_3 a0_4 a2_0 l2_1 l2_2).bind fun bt223 => ((yb5.f kj7 bt216.1 bt216.2.1 bt216.2.2 bt223.1 bt223.2.1 bt223.2.2).bind fun t230 => (some (!t230)))))) else (none)))) else ((yd0.f kj7 a0_0 a0_1 l0_2 a0_3 a0_4 a1_0 l1_1 l1_2 a3).bind fun bt208 => ((yd0.f kj7 a0_0 a0_1 l0_2 a0_3 a0_4 a2_0 l2_1 l2_2 a4).bind fun bt210 => (if bt208.1.toList = bt210.1.toList then (some (bt208.2 == bt210.2)) else (none))))) = some r := by rw [if_neg (show ¬ (false = true) by decide)] at H; exact H
      clear H
      have H := H1
      clear H1
      by_cases c51 : a0_0 = 3
      · rw [if_pos c51] at H
        have c51b0 : (a0_0 == 3) = true := beq_iff_eq.mpr c51
        have c51b1 : (a0_0 != 3) = false := bne_eq_false_iff_eq.mpr c51
        clear c51
        replace H := Option.bind_eq_some_iff.mp H
        obtain ⟨⟨t212, t213⟩, A520, H⟩ := H
        replace H : ((yd0.f kj7 a0_0 a0_1 l0_2 a0_3 a0_4 a2_0 l2_1 l2_2 true).bind fun bt214 => (if t213 = bt214.2 then (if t212.toList = bt214.1.toList then (some true) else ((yb8.f kj7 a0_0 a0_1 l0_2 a0_3 a0_4 a1_0 l1_1 l1_2).bind fun bt216 => ((yb8.f kj7 a0_0 a0_1 l0_2 a0_3 a0_4 a2_0 l2_1 l2_2).bind fun bt223 => ((yb5.f kj7 bt216.1 bt216.2.1 bt216.2.2 bt223.1 bt223.2.1 bt223.2.2).bind fun t230 => (some (!t230)))))) else (none))) = some r := H
        have A52 := Aside0.mk A520
        clear A520
        replace H := Option.bind_eq_some_iff.mp H
        obtain ⟨⟨t214, t215⟩, A530, H⟩ := H
        replace H : (if t213 = t215 then (if t212.toList = t214.toList then (some true) else ((yb8.f kj7 a0_0 a0_1 l0_2 a0_3 a0_4 a1_0 l1_1 l1_2).bind fun bt216 => ((yb8.f kj7 a0_0 a0_1 l0_2 a0_3 a0_4 a2_0 l2_1 l2_2).bind fun bt223 => ((yb5.f kj7 bt216.1 bt216.2.1 bt216.2.2 bt223.1 bt223.2.1 bt223.2.2).bind fun t230 => (some (!t230)))))) else (none)) = some r := H
        have A53 := Aside0.mk A530
        clear A530
        by_cases c54 : t213 = t215
        rotate_left 1
        · rw [if_neg c54] at H
          have c54b0 : (t213 == t215) = false := beq_eq_false_iff_ne.mpr c54
          have c54b1 : (t213 != t215) = true := bne_iff_ne.mpr c54
          exact absurd H (by simp)
        rw [if_pos c54] at H
        have c54b0 : (t213 == t215) = true := beq_iff_eq.mpr c54
        have c54b1 : (t213 != t215) = false := bne_eq_false_iff_eq.mpr c54
        clear c54
        by_cases c55 : t212.toList = t214.toList
        · rw [if_pos c55] at H
          have c55b0 : (t212.toList == t214.toList) = true := beq_iff_eq.mpr c55
          have c55b1 : (t212.toList != t214.toList) = false := bne_eq_false_iff_eq.mpr c55
          clear c55
          obtain rfl := Option.some.inj H
          have hnb56 := NB201_202.out
          have hnc56 := NB202_201.out
          have hnb57 := NB201_203.out
          have hnc57 := NB203_201.out
          obtain ⟨hcz58_0, hcz58_1, hcz58_2, hcz58_3, hcz58_4, hfz58_0, hfz58_1, hfz58_2, hfz58_3, hfz58_4⟩ := bx5 BK201.out
          have hnb59 := NB202_203.out
          have hnc59 := NB203_202.out
          obtain ⟨hcz60_0, hcz60_1, hcz60_2, hfz60_0, hfz60_1, hfz60_2⟩ := bx3 BK202.out
          try go_wp2_with (first | ((with_reducible refine yd5 (f := 7) rfl ?_); refine goesL_ (some 69) rfl rfl Tryd.func7 (by kernel_rfl) rfl #[.agg #[.int .i64 a0_0, .bool a0_1, .slice A0_2 l0_2.length c0_2, .bool a0_3, .bool a0_4], .agg #[.string a1_0, .slice A1_1 l1_1.length c1_1, .slice A1_2 l1_2.length c1_2], .bool true] rfl (by (try simp only [List.map_toArray, List.map_cons, List.map_nil]); first | done | rfl | (simp only [List.length_drop, List.length_take]; rfl) | (simp only [ByteArray.size_extract]; rfl)) ?_; (with_reducible refine (yd0.calls kj7 a0_0 a0_1 _ _ l0_2 a0_3 a0_4 a1_0 _ _ l1_1 _ _ l1_2 true t212 t213 _ ?side1 ?side2 ?side3 ?side4 ?side5 ?side6 (by exact MT.below HML.out (by repeat (first | (with_reducible first | exact HB.out | apply ya2 | apply ya0 | apply ya1 | refine ya3 ?_ GE201.out | refine ya3 ?_ GE202.out | refine ya3 ?_ GE203.out) | exact HB.out))) A52.out).mono ?_); (case side1 => repeat (first | exact (Kd.yc4 HR0_2.out HB.out) | (with_reducible refine Kd.yd2 ?_ _) | (with_reducible refine Kd.C_drewN ?_ _) | (with_reducible refine Kd.C_drew ?_))); (case side2 => exact HC0_2.out); (case side3 => repeat (first | exact (Kd.yc4 HR1_1.out HB.out) | (with_reducible refine Kd.yd2 ?_ _) | (with_reducible refine Kd.C_drewN ?_ _) | (with_reducible refine Kd.C_drew ?_))); (case side4 => exact HC1_1.out); (case side5 => repeat (first | exact (Kd.yc4 HR1_2.out HB.out) | (with_reducible refine Kd.yd2 ?_ _) | (with_reducible refine Kd.C_drewN ?_ _) | (with_reducible refine Kd.C_drew ?_))); (case side6 => exact HC1_2.out); rintro e w61 ⟨rfl, hb⟩; refine ⟨_, rfl, ?_⟩; have n0_ := Aside0.mk (yb2 (g := gb201) (o := .cells #[.int .i64 a0_0, .bool a0_1, .slice A0_2 l0_2.length c0_2, .bool a0_3, .bool a0_4] 24 (0, 0)) (by (with_reducible repeat (first | refine ya5 ?_ _ | refine ya6 ?_ | refine ya4 ?_ _)); exact BK201.out) hb); have n1_ := Aside0.mk (yb2 (g := gb202) (o := .cells #[.string a1_0, .slice A1_1 l1_1.length c1_1, .slice A1_2 l1_2.length c1_2] 27 (0, 0)) (by (with_reducible repeat (first | refine ya5 ?_ _ | refine ya6 ?_ | refine ya4 ?_ _)); exact BK202.out) hb); have n2_ := Aside0.mk (yb2 (g := gb203) (o := .cells #[.string a2_0, .slice A2_1 l2_1.length c2_1, .slice A2_2 l2_2.length c2_2] 27 (0, 0)) (by (with_reducible repeat (first | refine ya5 ?_ _ | refine ya6 ?_ | refine ya4 ?_ _)); exact BK203.out) hb); have n3_ := Aside0.mk (yb1 (by repeat (first | (with_reducible first | exact HB.out | apply ya2 | apply ya0 | apply ya1 | refine ya3 ?_ GE201.out | refine ya3 ?_ GE202.out | refine ya3 ?_ GE203.out) | exact HB.out)) hb); clear BK201; clear BK202; clear BK203; clear HB; have BK201 := n0_; have BK202 := n1_; have BK203 := n2_; have HB := n3_; clear n0_ n1_ n2_ n3_; (try clear hb); (try clear hb2); (try clear hk); (try clear hi); obtain ⟨hcz62_0, hcz62_1, hcz62_2, hcz62_3, hcz62_4, hfz62_0, hfz62_1, hfz62_2, hfz62_3, hfz62_4⟩ := bx5 BK201.out; obtain ⟨hcz63_0, hcz63_1, hcz63_2, hfz63_0, hfz63_1, hfz63_2⟩ := bx3 BK203.out) | ((with_reducible refine yd5 (f := 7) rfl ?_); refine goesL_ (some 75) rfl rfl Tryd.func7 (by kernel_rfl) rfl #[.agg #[.int .i64 a0_0, .bool a0_1, .slice A0_2 l0_2.length c0_2, .bool a0_3, .bool a0_4], .agg #[.string a2_0, .slice A2_1 l2_1.length c2_1, .slice A2_2 l2_2.length c2_2], .bool true] rfl (by (try simp only [List.map_toArray, List.map_cons, List.map_nil]); first | done | rfl | (simp only [List.length_drop, List.length_take]; rfl) | (simp only [ByteArray.size_extract]; rfl)) ?_; (with_reducible refine (yd0.calls kj7 a0_0 a0_1 _ _ l0_2 a0_3 a0_4 a2_0 _ _ l2_1 _ _ l2_2 true t214 t215 _ ?side1 ?side2 ?side3 ?side4 ?side5 ?side6 (by exact MT.below HML.out (by repeat (first | (with_reducible first | exact HB.out | apply ya2 | apply ya0 | apply ya1 | refine ya3 ?_ GE201.out | refine ya3 ?_ GE202.out | refine ya3 ?_ GE203.out) | exact HB.out))) A53.out).mono ?_); (case side1 => repeat (first | exact (Kd.yc4 HR0_2.out HB.out) | (with_reducible refine Kd.yd2 ?_ _) | (with_reducible refine Kd.C_drewN ?_ _) | (with_reducible refine Kd.C_drew ?_))); (case side2 => exact HC0_2.out); (case side3 => repeat (first | exact (Kd.yc4 HR2_1.out HB.out) | (with_reducible refine Kd.yd2 ?_ _) | (with_reducible refine Kd.C_drewN ?_ _) | (with_reducible refine Kd.C_drew ?_))); (case side4 => exact HC2_1.out); (case side5 => repeat (first | exact (Kd.yc4 HR2_2.out HB.out) | (with_reducible refine Kd.yd2 ?_ _) | (with_reducible refine Kd.C_drewN ?_ _) | (with_reducible refine Kd.C_drew ?_))); (case side6 => exact HC2_2.out); rintro e w64 ⟨rfl, hb⟩; refine ⟨_, rfl, ?_⟩; have n0_ := Aside0.mk (yb2 (g := gb201) (o := .cells #[.int .i64 a0_0, .bool a0_1, .slice A0_2 l0_2.length c0_2, .bool a0_3, .bool a0_4] 24 (0, 0)) (by (with_reducible repeat (first | refine ya5 ?_ _ | refine ya6 ?_ | refine ya4 ?_ _)); exact BK201.out) hb); have n1_ := Aside0.mk (yb2 (g := gb202) (o := .cells #[.string a1_0, .slice A1_1 l1_1.length c1_1, .slice A1_2 l1_2.length c1_2] 27 (0, 0)) (by (with_reducible repeat (first | refine ya5 ?_ _ | refine ya6 ?_ | refine ya4 ?_ _)); exact BK202.out) hb); have n2_ := Aside0.mk (yb2 (g := gb203) (o := .cells #[.string a2_0, .slice A2_1 l2_1.length c2_1, .slice A2_2 l2_2.length c2_2] 27 (0, 0)) (by (with_reducible repeat (first | refine ya5 ?_ _ | refine ya6 ?_ | refine ya4 ?_ _)); exact BK203.out) hb); have n3_ := Aside0.mk (yb1 (by repeat (first | (with_reducible first | exact HB.out | apply ya2 | apply ya0 | apply ya1 | refine ya3 ?_ GE201.out | refine ya3 ?_ GE202.out | refine ya3 ?_ GE203.out) | exact HB.out)) hb); clear BK201; clear BK202; clear BK203; clear HB; have BK201 := n0_; have BK202 := n1_; have BK203 := n2_; have HB := n3_; clear n0_ n1_ n2_ n3_; (try clear hb); (try clear hb2); (try clear hk); (try clear hi)))
          have n0_ := Aside0.mk (ya6 BK201.out)
          have n1_ := Aside0.mk (ya6 BK202.out)
          have n2_ := Aside0.mk (ya6 BK203.out)
          have n3_ := Aside0.mk (ya1 HB.out)
          clear BK201
          clear BK202
          clear BK203
          clear HB
          have BK201 := n0_
          have BK202 := n1_
          have BK203 := n2_
          have HB := n3_
          clear n0_ n1_ n2_ n3_
          refine start_ (n := 19) (S := fun w' => True) (ds := []) #[false, false, false, false, false, false, false, false, false, false, false, false, false, false, false, false, false, false, false] (by kernel_rfl) rfl rfl trivial (fun hHeld => ?_); refine yi5 ya8.tab11 ya8.bits11 (fun HT_ HW_ => ?_)
          generalize w64.drew = w65 at BK201 BK202 BK203 HB hHeld ⊢
          refine pure_ (i := 0) (N := some 78) (v := ?_) (a' := ?_) #[true, false, false, false, false, false, false, false, false, false, false, false, false, false, false, false, false, false, false] rfl rfl (any_of HT_.out (by kernel_rfl)) (fun _ _ _ h => h) (Or.inl ⟨by rfl, ?_⟩) ?_ ?_
          rotate_left
          · intro w'
            go_simp
            with_reducible rfl
          rotate_left
          · simp only [Act.put, zA, zB, zC, i64_w, i32_w]
            rfl
          refine pure_ (i := 1) (N := some 79) (v := ?_) (a' := ?_) #[true, true, false, false, false, false, false, false, false, false, false, false, false, false, false, false, false, false, false] rfl rfl (any_of HT_.out (by kernel_rfl)) (fun _ _ _ h => h) (Or.inl ⟨by rfl, ?_⟩) ?_ ?_
          rotate_left
          · intro w'
            go_simp
            with_reducible rfl
          rotate_left
          · simp only [Act.put, zA, zB, zC, i64_w, i32_w]
            rfl
          refine pure_ (i := 2) (N := some 80) (v := ?_) (a' := ?_) #[true, true, true, false, false, false, false, false, false, false, false, false, false, false, false, false, false, false, false] rfl rfl (any_of HT_.out (by kernel_rfl)) (fun _ _ _ h => h) (Or.inl ⟨by rfl, ?_⟩) ?_ ?_
          rotate_left
          · intro w'
            go_simp
            with_reducible rfl
          rotate_left
          · simp only [Act.put, zA, zB, zC, i64_w, i32_w]
            rfl
          refine pure_ (i := 3) (N := some 81) (v := ?_) (a' := ?_) #[true, true, true, true, false, false, false, false, false, false, false, false, false, false, false, false, false, false, false] rfl rfl (any_of HT_.out (by kernel_rfl)) (fun _ _ _ h => h) (Or.inl ⟨by rfl, ?_⟩) ?_ ?_
          rotate_left
          · intro w'
            go_simp
            with_reducible rfl
          rotate_left
          · simp only [Act.put, zA, zB, zC, i64_w, i32_w]
            rfl
          refine pure_ (i := 4) (N := some 82) (v := ?_) (a' := ?_) #[true, true, true, true, true, false, false, false, false, false, false, false, false, false, false, false, false, false, false] rfl rfl (any_of HT_.out (by kernel_rfl)) (fun _ _ _ h => h) (Or.inl ⟨by rfl, ?_⟩) ?_ ?_
          rotate_left
          · intro w'
            go_simp
            with_reducible rfl
          rotate_left
          · simp only [Act.put, zA, zB, zC, i64_w, i32_w]
            rfl
          refine pure_ (i := 5) (N := some 83) (v := ?_) (a' := ?_) #[true, true, true, true, true, true, false, false, false, false, false, false, false, false, false, false, false, false, false] rfl rfl (any_of HT_.out (by kernel_rfl)) (fun _ _ _ h => h) (Or.inl ⟨by rfl, ?_⟩) ?_ ?_
          rotate_left
          · intro w'
            go_simp
            with_reducible rfl
          rotate_left
          · simp only [Act.put, zA, zB, zC, i64_w, i32_w]
            rfl
          refine pure_ (i := 6) (N := some 84) (v := ?_) (a' := ?_) #[true, true, true, true, true, true, true, false, false, false, false, false, false, false, false, false, false, false, false] rfl rfl (any_of HT_.out (by kernel_rfl)) (fun _ _ _ h => h) (Or.inl ⟨by rfl, ?_⟩) ?_ ?_
          rotate_left
          · intro w'
            go_simp
            with_reducible rfl
          rotate_left
          · simp only [Act.put, zA, zB, zC, i64_w, i32_w]
            rfl
          refine pure_ (i := 7) (N := some 85) (v := ?_) (a' := ?_) #[true, true, true, true, true, true, true, true, false, false, false, false, false, false, false, false, false, false, false] rfl rfl (any_of HT_.out (by kernel_rfl)) (fun _ _ _ h => h) (Or.inl ⟨by rfl, ?_⟩) ?_ ?_
          rotate_left
          · intro w'
            go_simp
            with_reducible rfl
          rotate_left
          · simp only [Act.put, zA, zB, zC, i64_w, i32_w]
            rfl
          refine pure_ (i := 8) (N := some 86) (v := undef) (a' := ?_) #[true, true, true, true, true, true, true, true, true, false, false, false, false, false, false, false, false, false, false] rfl rfl (any_of HT_.out (by kernel_rfl)) (fun _ _ _ h => h) (Or.inr ⟨by rfl, rfl⟩) ?_ ?_
          rotate_left
          · simp only [Act.put, zA, zB, zC, i64_w, i32_w]
            rfl
          refine pure_ (i := 9) (N := some 87) (v := undef) (a' := ?_) #[true, true, true, true, true, true, true, true, true, true, false, false, false, false, false, false, false, false, false] rfl rfl (any_of HT_.out (by kernel_rfl)) (fun _ _ _ h => h) (Or.inr ⟨by rfl, rfl⟩) ?_ ?_
          rotate_left
          · simp only [Act.put, zA, zB, zC, i64_w, i32_w]
            rfl
          refine pure_ (i := 10) (N := some 88) (v := undef) (a' := ?_) #[true, true, true, true, true, true, true, true, true, true, true, false, false, false, false, false, false, false, false] rfl rfl (any_of HT_.out (by kernel_rfl)) (fun _ _ _ h => h) (Or.inr ⟨by rfl, rfl⟩) ?_ ?_
          rotate_left
          · simp only [Act.put, zA, zB, zC, i64_w, i32_w]
            rfl
          refine pure_ (i := 11) (N := some 89) (v := undef) (a' := ?_) #[true, true, true, true, true, true, true, true, true, true, true, true, false, false, false, false, false, false, false] rfl rfl (any_of HT_.out (by kernel_rfl)) (fun _ _ _ h => h) (Or.inr ⟨by rfl, rfl⟩) ?_ ?_
          rotate_left
          · simp only [Act.put, zA, zB, zC, i64_w, i32_w]
            rfl
          refine pure_ (i := 12) (N := some 90) (v := undef) (a' := ?_) #[true, true, true, true, true, true, true, true, true, true, true, true, true, false, false, false, false, false, false] rfl rfl (any_of HT_.out (by kernel_rfl)) (fun _ _ _ h => h) (Or.inr ⟨by rfl, rfl⟩) ?_ ?_
          rotate_left
          · simp only [Act.put, zA, zB, zC, i64_w, i32_w]
            rfl
          refine pure_ (i := 13) (N := some 91) (v := undef) (a' := ?_) #[true, true, true, true, true, true, true, true, true, true, true, true, true, true, false, false, false, false, false] rfl rfl (any_of HT_.out (by kernel_rfl)) (fun _ _ _ h => h) (Or.inr ⟨by rfl, rfl⟩) ?_ ?_
          rotate_left
          · simp only [Act.put, zA, zB, zC, i64_w, i32_w]
            rfl
          refine pure_ (i := 14) (N := some 92) (v := undef) (a' := ?_) #[true, true, true, true, true, true, true, true, true, true, true, true, true, true, true, false, false, false, false] rfl rfl (any_of HT_.out (by kernel_rfl)) (fun _ _ _ h => h) (Or.inr ⟨by rfl, rfl⟩) ?_ ?_
          rotate_left
          · simp only [Act.put, zA, zB, zC, i64_w, i32_w]
            rfl
          refine pure_ (i := 15) (N := some 93) (v := undef) (a' := ?_) #[true, true, true, true, true, true, true, true, true, true, true, true, true, true, true, true, false, false, false] rfl rfl (any_of HT_.out (by kernel_rfl)) (fun _ _ _ h => h) (Or.inr ⟨by rfl, rfl⟩) ?_ ?_
          rotate_left
          · simp only [Act.put, zA, zB, zC, i64_w, i32_w]
            rfl
          refine pure_ (i := 16) (N := some 94) (v := ?_) (a' := ?_) #[true, true, true, true, true, true, true, true, true, true, true, true, true, true, true, true, true, false, false] rfl rfl (any_of HT_.out (by kernel_rfl)) (fun _ _ _ h => h) (Or.inl ⟨by rfl, ?_⟩) ?_ ?_
          rotate_left
          · intro w'
            go_simp
            with_reducible rfl
          rotate_left
          · simp only [Act.put, zA, zB, zC, i64_w, i32_w]
            rfl
          refine pure_ (i := 17) (N := some 95) (v := ?_) (a' := ?_) #[true, true, true, true, true, true, true, true, true, true, true, true, true, true, true, true, true, true, false] rfl rfl (any_of HT_.out (by kernel_rfl)) (fun _ _ _ h => h) (Or.inl ⟨by rfl, ?_⟩) ?_ ?_
          rotate_left
          · intro w'
            go_simp
            with_reducible rfl
          rotate_left
          · simp only [Act.put, zA, zB, zC, i64_w, i32_w]
            rfl
          refine pure_ (i := 18) (N := some 10) (v := ?_) (a' := ?_) #[true, true, true, true, true, true, true, true, true, true, true, true, true, true, true, true, true, true, true] rfl rfl (any_of HT_.out (by kernel_rfl)) (fun _ _ _ h => h) (Or.inl ⟨by rfl, ?_⟩) ?_ ?_
          rotate_left
          · intro w'
            go_simp
            with_reducible rfl
          rotate_left
          · simp only [Act.put, zA, zB, zC, i64_w, i32_w]
            rfl
          refine done_ (yk9 HT_.out (by kernel_rfl)) ?_
          try go_wp2
          go_ret
          exact ⟨by first | rfl | (simp [yb0, ya9] <;> rfl) | (simp [*, yb0, ya9] <;> rfl), by repeat (first | (with_reducible first | exact HB.out | apply ya2 | apply ya0 | apply ya1 | refine ya3 ?_ GE201.out | refine ya3 ?_ GE202.out | refine ya3 ?_ GE203.out) | exact HB.out)⟩
        · rw [if_neg c55] at H
          have c55b0 : (t212.toList == t214.toList) = false := beq_eq_false_iff_ne.mpr c55
          have c55b1 : (t212.toList != t214.toList) = true := bne_iff_ne.mpr c55
          replace H := Option.bind_eq_some_iff.mp H
          obtain ⟨⟨t216, t217, t220⟩, A660, H⟩ := H
          replace H : ((yb8.f kj7 a0_0 a0_1 l0_2 a0_3 a0_4 a2_0 l2_1 l2_2).bind fun bt223 => ((yb5.f kj7 t216 t217 t220 bt223.1 bt223.2.1 bt223.2.2).bind fun t230 => (some (!t230)))) = some r := H
          have A66 := Aside0.mk A660
          clear A660
          replace H := Option.bind_eq_some_iff.mp H
          obtain ⟨⟨t223, t224, t227⟩, A670, H⟩ := H
          replace H : ((yb5.f kj7 t216 t217 t220 t223 t224 t227).bind fun t230 => (some (!t230))) = some r := H
          have A67 := Aside0.mk A670
          clear A670
          replace H := Option.bind_eq_some_iff.mp H
          obtain ⟨t230, A680, H⟩ := H
          replace H : (some (!t230)) = some r := H
          have A68 := Aside0.mk A680
          clear A680
          obtain rfl := Option.some.inj H
          have hnb69 := NB201_202.out
          have hnc69 := NB202_201.out
          have hnb70 := NB201_203.out
          have hnc70 := NB203_201.out
          obtain ⟨hcz71_0, hcz71_1, hcz71_2, hcz71_3, hcz71_4, hfz71_0, hfz71_1, hfz71_2, hfz71_3, hfz71_4⟩ := bx5 BK201.out
          have hnb72 := NB202_203.out
          have hnc72 := NB203_202.out
          obtain ⟨hcz73_0, hcz73_1, hcz73_2, hfz73_0, hfz73_1, hfz73_2⟩ := bx3 BK202.out
          try go_wp2_with (first | ((with_reducible refine yd5 (f := 7) rfl ?_); refine goesL_ (some 69) rfl rfl Tryd.func7 (by kernel_rfl) rfl #[.agg #[.int .i64 a0_0, .bool a0_1, .slice A0_2 l0_2.length c0_2, .bool a0_3, .bool a0_4], .agg #[.string a1_0, .slice A1_1 l1_1.length c1_1, .slice A1_2 l1_2.length c1_2], .bool true] rfl (by (try simp only [List.map_toArray, List.map_cons, List.map_nil]); first | done | rfl | (simp only [List.length_drop, List.length_take]; rfl) | (simp only [ByteArray.size_extract]; rfl)) ?_; (with_reducible refine (yd0.calls kj7 a0_0 a0_1 _ _ l0_2 a0_3 a0_4 a1_0 _ _ l1_1 _ _ l1_2 true t212 t213 _ ?side1 ?side2 ?side3 ?side4 ?side5 ?side6 (by exact MT.below HML.out (by repeat (first | (with_reducible first | exact HB.out | apply ya2 | apply ya0 | apply ya1 | refine ya3 ?_ GE201.out | refine ya3 ?_ GE202.out | refine ya3 ?_ GE203.out) | exact HB.out))) A52.out).mono ?_); (case side1 => repeat (first | exact (Kd.yc4 HR0_2.out HB.out) | (with_reducible refine Kd.yd2 ?_ _) | (with_reducible refine Kd.C_drewN ?_ _) | (with_reducible refine Kd.C_drew ?_))); (case side2 => exact HC0_2.out); (case side3 => repeat (first | exact (Kd.yc4 HR1_1.out HB.out) | (with_reducible refine Kd.yd2 ?_ _) | (with_reducible refine Kd.C_drewN ?_ _) | (with_reducible refine Kd.C_drew ?_))); (case side4 => exact HC1_1.out); (case side5 => repeat (first | exact (Kd.yc4 HR1_2.out HB.out) | (with_reducible refine Kd.yd2 ?_ _) | (with_reducible refine Kd.C_drewN ?_ _) | (with_reducible refine Kd.C_drew ?_))); (case side6 => exact HC1_2.out); rintro e w74 ⟨rfl, hb⟩; refine ⟨_, rfl, ?_⟩; have n0_ := Aside0.mk (yb2 (g := gb201) (o := .cells #[.int .i64 a0_0, .bool a0_1, .slice A0_2 l0_2.length c0_2, .bool a0_3, .bool a0_4] 24 (0, 0)) (by (with_reducible repeat (first | refine ya5 ?_ _ | refine ya6 ?_ | refine ya4 ?_ _)); exact BK201.out) hb); have n1_ := Aside0.mk (yb2 (g := gb202) (o := .cells #[.string a1_0, .slice A1_1 l1_1.length c1_1, .slice A1_2 l1_2.length c1_2] 27 (0, 0)) (by (with_reducible repeat (first | refine ya5 ?_ _ | refine ya6 ?_ | refine ya4 ?_ _)); exact BK202.out) hb); have n2_ := Aside0.mk (yb2 (g := gb203) (o := .cells #[.string a2_0, .slice A2_1 l2_1.length c2_1, .slice A2_2 l2_2.length c2_2] 27 (0, 0)) (by (with_reducible repeat (first | refine ya5 ?_ _ | refine ya6 ?_ | refine ya4 ?_ _)); exact BK203.out) hb); have n3_ := Aside0.mk (yb1 (by repeat (first | (with_reducible first | exact HB.out | apply ya2 | apply ya0 | apply ya1 | refine ya3 ?_ GE201.out | refine ya3 ?_ GE202.out | refine ya3 ?_ GE203.out) | exact HB.out)) hb); clear BK201; clear BK202; clear BK203; clear HB; have BK201 := n0_; have BK202 := n1_; have BK203 := n2_; have HB := n3_; clear n0_ n1_ n2_ n3_; (try clear hb); (try clear hb2); (try clear hk); (try clear hi); obtain ⟨hcz75_0, hcz75_1, hcz75_2, hcz75_3, hcz75_4, hfz75_0, hfz75_1, hfz75_2, hfz75_3, hfz75_4⟩ := bx5 BK201.out; obtain ⟨hcz76_0, hcz76_1, hcz76_2, hfz76_0, hfz76_1, hfz76_2⟩ := bx3 BK203.out) | ((with_reducible refine yd5 (f := 7) rfl ?_); refine goesL_ (some 75) rfl rfl Tryd.func7 (by kernel_rfl) rfl #[.agg #[.int .i64 a0_0, .bool a0_1, .slice A0_2 l0_2.length c0_2, .bool a0_3, .bool a0_4], .agg #[.string a2_0, .slice A2_1 l2_1.length c2_1, .slice A2_2 l2_2.length c2_2], .bool true] rfl (by (try simp only [List.map_toArray, List.map_cons, List.map_nil]); first | done | rfl | (simp only [List.length_drop, List.length_take]; rfl) | (simp only [ByteArray.size_extract]; rfl)) ?_; (with_reducible refine (yd0.calls kj7 a0_0 a0_1 _ _ l0_2 a0_3 a0_4 a2_0 _ _ l2_1 _ _ l2_2 true t214 t215 _ ?side1 ?side2 ?side3 ?side4 ?side5 ?side6 (by exact MT.below HML.out (by repeat (first | (with_reducible first | exact HB.out | apply ya2 | apply ya0 | apply ya1 | refine ya3 ?_ GE201.out | refine ya3 ?_ GE202.out | refine ya3 ?_ GE203.out) | exact HB.out))) A53.out).mono ?_); (case side1 => repeat (first | exact (Kd.yc4 HR0_2.out HB.out) | (with_reducible refine Kd.yd2 ?_ _) | (with_reducible refine Kd.C_drewN ?_ _) | (with_reducible refine Kd.C_drew ?_))); (case side2 => exact HC0_2.out); (case side3 => repeat (first | exact (Kd.yc4 HR2_1.out HB.out) | (with_reducible refine Kd.yd2 ?_ _) | (with_reducible refine Kd.C_drewN ?_ _) | (with_reducible refine Kd.C_drew ?_))); (case side4 => exact HC2_1.out); (case side5 => repeat (first | exact (Kd.yc4 HR2_2.out HB.out) | (with_reducible refine Kd.yd2 ?_ _) | (with_reducible refine Kd.C_drewN ?_ _) | (with_reducible refine Kd.C_drew ?_))); (case side6 => exact HC2_2.out); rintro e w77 ⟨rfl, hb⟩; refine ⟨_, rfl, ?_⟩; have n0_ := Aside0.mk (yb2 (g := gb201) (o := .cells #[.int .i64 a0_0, .bool a0_1, .slice A0_2 l0_2.length c0_2, .bool a0_3, .bool a0_4] 24 (0, 0)) (by (with_reducible repeat (first | refine ya5 ?_ _ | refine ya6 ?_ | refine ya4 ?_ _)); exact BK201.out) hb); have n1_ := Aside0.mk (yb2 (g := gb202) (o := .cells #[.string a1_0, .slice A1_1 l1_1.length c1_1, .slice A1_2 l1_2.length c1_2] 27 (0, 0)) (by (with_reducible repeat (first | refine ya5 ?_ _ | refine ya6 ?_ | refine ya4 ?_ _)); exact BK202.out) hb); have n2_ := Aside0.mk (yb2 (g := gb203) (o := .cells #[.string a2_0, .slice A2_1 l2_1.length c2_1, .slice A2_2 l2_2.length c2_2] 27 (0, 0)) (by (with_reducible repeat (first | refine ya5 ?_ _ | refine ya6 ?_ | refine ya4 ?_ _)); exact BK203.out) hb); have n3_ := Aside0.mk (yb1 (by repeat (first | (with_reducible first | exact HB.out | apply ya2 | apply ya0 | apply ya1 | refine ya3 ?_ GE201.out | refine ya3 ?_ GE202.out | refine ya3 ?_ GE203.out) | exact HB.out)) hb); clear BK201; clear BK202; clear BK203; clear HB; have BK201 := n0_; have BK202 := n1_; have BK203 := n2_; have HB := n3_; clear n0_ n1_ n2_ n3_; (try clear hb); (try clear hb2); (try clear hk); (try clear hi)))
          have n0_ := Aside0.mk (ya6 BK201.out)
          have n1_ := Aside0.mk (ya6 BK202.out)
          have n2_ := Aside0.mk (ya6 BK203.out)
          have n3_ := Aside0.mk (ya1 HB.out)
          clear BK201
          clear BK202
          clear BK203
          clear HB
          have BK201 := n0_
          have BK202 := n1_
          have BK203 := n2_
          have HB := n3_
          clear n0_ n1_ n2_ n3_
          refine start_ (n := 19) (S := fun w' => w'.cell? ⟨gb201, 0, none⟩ = some (.int .i64 a0_0) ∧ w'.cell? ⟨gb201, 1, none⟩ = some (.bool a0_1) ∧ w'.cell? ⟨gb201, 2, none⟩ = some (.slice A0_2 l0_2.length c0_2) ∧ w'.cell? ⟨gb201, 3, none⟩ = some (.bool a0_3) ∧ w'.cell? ⟨gb201, 4, none⟩ = some (.bool a0_4) ∧ w'.cell? ⟨gb202, 0, none⟩ = some (.string a1_0) ∧ w'.cell? ⟨gb202, 1, none⟩ = some (.slice A1_1 l1_1.length c1_1) ∧ w'.cell? ⟨gb202, 2, none⟩ = some (.slice A1_2 l1_2.length c1_2) ∧ w'.cell? ⟨gb203, 0, none⟩ = some (.string a2_0) ∧ w'.cell? ⟨gb203, 1, none⟩ = some (.slice A2_1 l2_1.length c2_1) ∧ w'.cell? ⟨gb203, 2, none⟩ = some (.slice A2_2 l2_2.length c2_2)) (ds := []) #[false, false, false, false, false, false, false, false, false, false, false, false, false, false, false, false, false, false, false] (by kernel_rfl) rfl rfl ⟨(yb3 BK201.out 0).trans rfl, (yb3 BK201.out 1).trans rfl, (yb3 BK201.out 2).trans rfl, (yb3 BK201.out 3).trans rfl, (yb3 BK201.out 4).trans rfl, (yb3 BK202.out 0).trans rfl, (yb3 BK202.out 1).trans rfl, (yb3 BK202.out 2).trans rfl, (yb3 BK203.out 0).trans rfl, (yb3 BK203.out 1).trans rfl, (yb3 BK203.out 2).trans rfl⟩ (fun hHeld => ?_); refine yi5 ya8.tab11 ya8.bits11 (fun HT_ HW_ => ?_)
          generalize w77.drew = w78 at BK201 BK202 BK203 HB hHeld ⊢
          refine pure_ (i := 0) (N := some 78) (v := ?_) (a' := ?_) #[true, false, false, false, false, false, false, false, false, false, false, false, false, false, false, false, false, false, false] rfl rfl (any_of HT_.out (by kernel_rfl)) (fun _ _ _ h => h) (Or.inl ⟨by rfl, ?_⟩) ?_ ?_
          rotate_left
          · intro w'
            go_simp
            with_reducible rfl
          rotate_left
          · simp only [Act.put, zA, zB, zC, i64_w, i32_w]
            rfl
          refine pure_ (i := 1) (N := some 79) (v := ?_) (a' := ?_) #[true, true, false, false, false, false, false, false, false, false, false, false, false, false, false, false, false, false, false] rfl rfl (any_of HT_.out (by kernel_rfl)) (fun _ _ _ h => h) (Or.inl ⟨by rfl, ?_⟩) ?_ ?_
          rotate_left
          · intro w'
            go_simp
            with_reducible rfl
          rotate_left
          · simp only [Act.put, zA, zB, zC, i64_w, i32_w]
            rfl
          refine pure_ (i := 2) (N := some 80) (v := ?_) (a' := ?_) #[true, true, true, false, false, false, false, false, false, false, false, false, false, false, false, false, false, false, false] rfl rfl (any_of HT_.out (by kernel_rfl)) (fun _ _ _ h => h) (Or.inl ⟨by rfl, ?_⟩) ?_ ?_
          rotate_left
          · intro w'
            go_simp
            with_reducible rfl
          rotate_left
          · simp only [Act.put, zA, zB, zC, i64_w, i32_w]
            rfl
          refine pure_ (i := 3) (N := some 81) (v := ?_) (a' := ?_) #[true, true, true, true, false, false, false, false, false, false, false, false, false, false, false, false, false, false, false] rfl rfl (any_of HT_.out (by kernel_rfl)) (fun _ _ _ h => h) (Or.inl ⟨by rfl, ?_⟩) ?_ ?_
          rotate_left
          · intro w'
            go_simp
            with_reducible rfl
          rotate_left
          · simp only [Act.put, zA, zB, zC, i64_w, i32_w]
            rfl
          refine pure_ (i := 4) (N := some 82) (v := ?_) (a' := ?_) #[true, true, true, true, true, false, false, false, false, false, false, false, false, false, false, false, false, false, false] rfl rfl (any_of HT_.out (by kernel_rfl)) (fun _ _ _ h => h) (Or.inl ⟨by rfl, ?_⟩) ?_ ?_
          rotate_left
          · intro w'
            go_simp
            with_reducible rfl
          rotate_left
          · simp only [Act.put, zA, zB, zC, i64_w, i32_w]
            rfl
          refine pure_ (i := 5) (N := some 83) (v := ?_) (a' := ?_) #[true, true, true, true, true, true, false, false, false, false, false, false, false, false, false, false, false, false, false] rfl rfl (any_of HT_.out (by kernel_rfl)) (fun _ _ _ h => h) (Or.inl ⟨by rfl, ?_⟩) ?_ ?_
          rotate_left
          · intro w'
            go_simp
            with_reducible rfl
          rotate_left
          · simp only [Act.put, zA, zB, zC, i64_w, i32_w]
            rfl
          refine pure_ (i := 6) (N := some 84) (v := ?_) (a' := ?_) #[true, true, true, true, true, true, true, false, false, false, false, false, false, false, false, false, false, false, false] rfl rfl (any_of HT_.out (by kernel_rfl)) (fun _ _ _ h => h) (Or.inl ⟨by rfl, ?_⟩) ?_ ?_
          rotate_left
          · intro w'
            go_simp
            with_reducible rfl
          rotate_left
          · simp only [Act.put, zA, zB, zC, i64_w, i32_w]
            rfl
          refine pure_ (i := 7) (N := some 85) (v := ?_) (a' := ?_) #[true, true, true, true, true, true, true, true, false, false, false, false, false, false, false, false, false, false, false] rfl rfl (any_of HT_.out (by kernel_rfl)) (fun _ _ _ h => h) (Or.inl ⟨by rfl, ?_⟩) ?_ ?_
          rotate_left
          · intro w'
            go_simp
            with_reducible rfl
          rotate_left
          · simp only [Act.put, zA, zB, zC, i64_w, i32_w]
            rfl
          refine take_ (i := 8) (N := some 86) (v := ?_) (a' := ?_) #[true, true, true, true, true, true, true, true, true, false, false, false, false, false, false, false, false, false, false] rfl rfl (ye1 HT_.out HW_.out (by kernel_rfl)) (fun _ _ _ h => h) (Or.inl ⟨by rfl, ?_⟩) hHeld ?_ ?_
          rotate_left
          · rintro w' ⟨s0, s1, s2, s3, s4, s5, s6, s7, s8, s9, s10⟩
            go_simp
            with_reducible rfl
          rotate_left
          · simp only [Act.put, zA, zB, zC, i64_w, i32_w]
            rfl
          refine take_ (i := 9) (N := some 87) (v := ?_) (a' := ?_) #[true, true, true, true, true, true, true, true, true, true, false, false, false, false, false, false, false, false, false] rfl rfl (ye1 HT_.out HW_.out (by kernel_rfl)) (fun _ _ _ h => h) (Or.inl ⟨by rfl, ?_⟩) hHeld ?_ ?_
          rotate_left
          · rintro w' ⟨s0, s1, s2, s3, s4, s5, s6, s7, s8, s9, s10⟩
            go_simp
            with_reducible rfl
          rotate_left
          · simp only [Act.put, zA, zB, zC, i64_w, i32_w]
            rfl
          refine take_ (i := 11) (N := some 89) (v := ?_) (a' := ?_) #[true, true, true, true, true, true, true, true, true, true, false, true, false, false, false, false, false, false, false] rfl rfl (ye1 HT_.out HW_.out (by kernel_rfl)) (fun _ _ _ h => h) (Or.inl ⟨by rfl, ?_⟩) hHeld ?_ ?_
          rotate_left
          · rintro w' ⟨s0, s1, s2, s3, s4, s5, s6, s7, s8, s9, s10⟩
            go_simp
            with_reducible rfl
          rotate_left
          · simp only [Act.put, zA, zB, zC, i64_w, i32_w]
            rfl
          refine take_ (i := 12) (N := some 90) (v := ?_) (a' := ?_) #[true, true, true, true, true, true, true, true, true, true, false, true, true, false, false, false, false, false, false] rfl rfl (ye1 HT_.out HW_.out (by kernel_rfl)) (fun _ _ _ h => h) (Or.inl ⟨by rfl, ?_⟩) hHeld ?_ ?_
          rotate_left
          · rintro w' ⟨s0, s1, s2, s3, s4, s5, s6, s7, s8, s9, s10⟩
            go_simp
            with_reducible rfl
          rotate_left
          · simp only [Act.put, zA, zB, zC, i64_w, i32_w]
            rfl
          refine one_ (i := 10) (N := some 88) #[true, true, true, true, true, true, true, true, true, true, true, true, true, false, false, false, false, false, false] rfl rfl (one_of HT_.out (by kernel_rfl)) (by decide) (fun K hK => ?_)
          refine goes_ Tryd.func9 (by kernel_rfl) rfl #[.agg #[.int .i64 a0_0, .bool a0_1, .slice A0_2 l0_2.length c0_2, .bool a0_3, .bool a0_4], .agg #[.string a1_0, .slice A1_1 l1_1.length c1_1, .slice A1_2 l1_2.length c1_2]] (by rfl) rfl rfl (by (try simp only [List.map_toArray, List.map_cons, List.map_nil]); first | done | rfl | (simp only [List.length_drop, List.length_take]; rfl) | (simp only [ByteArray.size_extract]; rfl)) ?_
          with_reducible refine (yb8.calls kj7 a0_0 a0_1 _ _ l0_2 a0_3 a0_4 a1_0 _ _ l1_1 _ _ l1_2 t216 t217 t220 _ ?side1 ?side2 ?side3 ?side4 ?side5 ?side6 A66.out).mono ?_
          (case side1 => repeat (first | exact (Kd.yc4 HR0_2.out HB.out) | (with_reducible refine Kd.yd2 ?_ _) | (with_reducible refine Kd.C_drewN ?_ _) | (with_reducible refine Kd.C_drew ?_)))
          (case side2 => exact HC0_2.out)
          (case side3 => repeat (first | exact (Kd.yc4 HR1_1.out HB.out) | (with_reducible refine Kd.yd2 ?_ _) | (with_reducible refine Kd.C_drewN ?_ _) | (with_reducible refine Kd.C_drew ?_)))
          (case side4 => exact HC1_1.out)
          (case side5 => repeat (first | exact (Kd.yc4 HR1_2.out HB.out) | (with_reducible refine Kd.yd2 ?_ _) | (with_reducible refine Kd.C_drewN ?_ _) | (with_reducible refine Kd.C_drew ?_)))
          (case side6 => exact HC1_2.out)
          rintro e w79 ⟨v218, v221, rfl, ho0, ho1, hb⟩
          refine ⟨_, rfl, ?_⟩
          have n0_ := Aside0.mk (Kd.yt2 ho0 (ya7 (by repeat (first | (with_reducible first | exact HB.out | apply ya2 | apply ya0 | apply ya1 | refine ya3 ?_ GE201.out | refine ya3 ?_ GE202.out | refine ya3 ?_ GE203.out) | exact HB.out))))
          have n1_ := Aside0.mk (Kd.yg9 ho1 (ya7 (by repeat (first | (with_reducible first | exact HB.out | apply ya2 | apply ya0 | apply ya1 | refine ya3 ?_ GE201.out | refine ya3 ?_ GE202.out | refine ya3 ?_ GE203.out) | exact HB.out))))
          have n2_ := Aside0.mk (yb2 (g := gb201) (o := .cells #[.int .i64 a0_0, .bool a0_1, .slice A0_2 l0_2.length c0_2, .bool a0_3, .bool a0_4] 24 (0, 0)) (by (with_reducible repeat (first | refine ya5 ?_ _ | refine ya6 ?_ | refine ya4 ?_ _)); exact BK201.out) hb)
          have n3_ := Aside0.mk (yb2 (g := gb202) (o := .cells #[.string a1_0, .slice A1_1 l1_1.length c1_1, .slice A1_2 l1_2.length c1_2] 27 (0, 0)) (by (with_reducible repeat (first | refine ya5 ?_ _ | refine ya6 ?_ | refine ya4 ?_ _)); exact BK202.out) hb)
          have n4_ := Aside0.mk (yb2 (g := gb203) (o := .cells #[.string a2_0, .slice A2_1 l2_1.length c2_1, .slice A2_2 l2_2.length c2_2] 27 (0, 0)) (by (with_reducible repeat (first | refine ya5 ?_ _ | refine ya6 ?_ | refine ya4 ?_ _)); exact BK203.out) hb)
          have n5_ := Aside0.mk (yb1 (by repeat (first | (with_reducible first | exact HB.out | apply ya2 | apply ya0 | apply ya1 | refine ya3 ?_ GE201.out | refine ya3 ?_ GE202.out | refine ya3 ?_ GE203.out) | exact HB.out)) hb)
          clear BK201
          clear BK202
          clear BK203
          clear HB
          have HO219 := n0_
          have HO222 := n1_
          have BK201 := n2_
          have BK202 := n3_
          have BK203 := n4_
          have HB := n5_
          clear n0_ n1_ n2_ n3_ n4_ n5_
          (try clear hb)
          (try clear hb2)
          (try clear hk)
          (try clear hi)
          (try clear ho0)
          (try clear ho1)
          refine hK.out _ _ ⟨(yb3 BK201.out 0).trans rfl, (yb3 BK201.out 1).trans rfl, (yb3 BK201.out 2).trans rfl, (yb3 BK201.out 3).trans rfl, (yb3 BK201.out 4).trans rfl, (yb3 BK202.out 0).trans rfl, (yb3 BK202.out 1).trans rfl, (yb3 BK202.out 2).trans rfl, (yb3 BK203.out 0).trans rfl, (yb3 BK203.out 1).trans rfl, (yb3 BK203.out 2).trans rfl⟩ (fun hHeld => ?_)
          clear hK K
          refine norm_ (a' := ?_) ?_ ?_
          rotate_left
          · show Act.put _ (some 88) _ = _
            simp only [Act.put, zA, zB, zC, i64_w, i32_w]
            rfl
          refine one_ (i := 13) (N := some 91) #[true, true, true, true, true, true, true, true, true, true, true, true, true, true, false, false, false, false, false] rfl rfl (one_of HT_.out (by kernel_rfl)) (by decide) (fun K hK => ?_)
          refine goes_ Tryd.func9 (by kernel_rfl) rfl #[.agg #[.int .i64 a0_0, .bool a0_1, .slice A0_2 l0_2.length c0_2, .bool a0_3, .bool a0_4], .agg #[.string a2_0, .slice A2_1 l2_1.length c2_1, .slice A2_2 l2_2.length c2_2]] (by rfl) rfl rfl (by (try simp only [List.map_toArray, List.map_cons, List.map_nil]); first | done | rfl | (simp only [List.length_drop, List.length_take]; rfl) | (simp only [ByteArray.size_extract]; rfl)) ?_
          with_reducible refine (yb8.calls kj7 a0_0 a0_1 _ _ l0_2 a0_3 a0_4 a2_0 _ _ l2_1 _ _ l2_2 t223 t224 t227 _ ?side1 ?side2 ?side3 ?side4 ?side5 ?side6 A67.out).mono ?_
          (case side1 => repeat (first | exact (Kd.yc4 HR0_2.out HB.out) | (with_reducible refine Kd.yd2 ?_ _) | (with_reducible refine Kd.C_drewN ?_ _) | (with_reducible refine Kd.C_drew ?_)))
          (case side2 => exact HC0_2.out)
          (case side3 => repeat (first | exact (Kd.yc4 HR2_1.out HB.out) | (with_reducible refine Kd.yd2 ?_ _) | (with_reducible refine Kd.C_drewN ?_ _) | (with_reducible refine Kd.C_drew ?_)))
          (case side4 => exact HC2_1.out)
          (case side5 => repeat (first | exact (Kd.yc4 HR2_2.out HB.out) | (with_reducible refine Kd.yd2 ?_ _) | (with_reducible refine Kd.C_drewN ?_ _) | (with_reducible refine Kd.C_drew ?_)))
          (case side6 => exact HC2_2.out)
          rintro e w80 ⟨v225, v228, rfl, ho0, ho1, hb⟩
          refine ⟨_, rfl, ?_⟩
          have n0_ := Aside0.mk (Kd.S_mono (Kd.S_told (Kd.S_told (Kd.S_old (by (with_reducible repeat (first | apply Kd.S_alloc | apply Kd.S_drewN | apply Kd.S_drew)); exact HO219.out) hb) (Kd.S_base ho0)) (Kd.R_base ho1)) (fun _ h_ => h_.1))
          have n1_ := Aside0.mk (Kd.yk1 (by (with_reducible repeat (first | apply Kd.yd7 | apply Kd.R_drewN | apply Kd.R_drew)); exact HO222.out) (Kd.R_base ho1) hb)
          have n2_ := Aside0.mk (Kd.yt2 (Kd.S_new' (Kd.S_new' ho0 (Kd.S_lt (by (with_reducible repeat (first | apply Kd.S_alloc | apply Kd.S_drewN | apply Kd.S_drew)); exact HO219.out))) (Kd.R_lt (by (with_reducible repeat (first | apply Kd.yd7 | apply Kd.R_drewN | apply Kd.R_drew)); exact HO222.out))) (ya7 (by repeat (first | (with_reducible first | exact HB.out | apply ya2 | apply ya0 | apply ya1 | refine ya3 ?_ GE201.out | refine ya3 ?_ GE202.out | refine ya3 ?_ GE203.out) | exact HB.out))))
          have n3_ := Aside0.mk (Kd.yg9 (Kd.R_new' ho1 (Kd.R_lt (by (with_reducible repeat (first | apply Kd.yd7 | apply Kd.R_drewN | apply Kd.R_drew)); exact HO222.out))) (ya7 (by repeat (first | (with_reducible first | exact HB.out | apply ya2 | apply ya0 | apply ya1 | refine ya3 ?_ GE201.out | refine ya3 ?_ GE202.out | refine ya3 ?_ GE203.out) | exact HB.out))))
          have n4_ := Aside0.mk (yb2 (g := gb201) (o := .cells #[.int .i64 a0_0, .bool a0_1, .slice A0_2 l0_2.length c0_2, .bool a0_3, .bool a0_4] 24 (0, 0)) (by (with_reducible repeat (first | refine ya5 ?_ _ | refine ya6 ?_ | refine ya4 ?_ _)); exact BK201.out) hb)
          have n5_ := Aside0.mk (yb2 (g := gb202) (o := .cells #[.string a1_0, .slice A1_1 l1_1.length c1_1, .slice A1_2 l1_2.length c1_2] 27 (0, 0)) (by (with_reducible repeat (first | refine ya5 ?_ _ | refine ya6 ?_ | refine ya4 ?_ _)); exact BK202.out) hb)
          have n6_ := Aside0.mk (yb2 (g := gb203) (o := .cells #[.string a2_0, .slice A2_1 l2_1.length c2_1, .slice A2_2 l2_2.length c2_2] 27 (0, 0)) (by (with_reducible repeat (first | refine ya5 ?_ _ | refine ya6 ?_ | refine ya4 ?_ _)); exact BK203.out) hb)
          have n7_ := Aside0.mk (yb1 (by repeat (first | (with_reducible first | exact HB.out | apply ya2 | apply ya0 | apply ya1 | refine ya3 ?_ GE201.out | refine ya3 ?_ GE202.out | refine ya3 ?_ GE203.out) | exact HB.out)) hb)
          clear HO219
          clear HO222
          clear BK201
          clear BK202
          clear BK203
          clear HB
          have HO219 := n0_
          have HO222 := n1_
          have HO226 := n2_
          have HO229 := n3_
          have BK201 := n4_
          have BK202 := n5_
          have BK203 := n6_
          have HB := n7_
          clear n0_ n1_ n2_ n3_ n4_ n5_ n6_ n7_
          (try clear hb)
          (try clear hb2)
          (try clear hk)
          (try clear hi)
          (try clear ho0)
          (try clear ho1)
          obtain ⟨Ao81, co81, eo81⟩ := Kd.yp3 HO219.out
          (first | subst eo81 | (injection eo81 with f1_ f2_ f3_; have f4_ := f1_.symm; have f5_ := f3_.symm; clear f1_ f2_ f3_; subst f4_; subst f5_))
          obtain ⟨Ao82, co82, eo82⟩ := Kd.yd9 HO222.out
          (first | subst eo82 | (injection eo82 with f1_ f2_ f3_; have f4_ := f1_.symm; have f5_ := f3_.symm; clear f1_ f2_ f3_; subst f4_; subst f5_))
          obtain ⟨Ao83, co83, eo83⟩ := Kd.yp3 HO226.out
          (first | subst eo83 | (injection eo83 with f1_ f2_ f3_; have f4_ := f1_.symm; have f5_ := f3_.symm; clear f1_ f2_ f3_; subst f4_; subst f5_))
          obtain ⟨Ao84, co84, eo84⟩ := Kd.yd9 HO229.out
          (first | subst eo84 | (injection eo84 with f1_ f2_ f3_; have f4_ := f1_.symm; have f5_ := f3_.symm; clear f1_ f2_ f3_; subst f4_; subst f5_))
          refine hK.out _ _ ⟨(yb3 BK201.out 0).trans rfl, (yb3 BK201.out 1).trans rfl, (yb3 BK201.out 2).trans rfl, (yb3 BK201.out 3).trans rfl, (yb3 BK201.out 4).trans rfl, (yb3 BK202.out 0).trans rfl, (yb3 BK202.out 1).trans rfl, (yb3 BK202.out 2).trans rfl, (yb3 BK203.out 0).trans rfl, (yb3 BK203.out 1).trans rfl, (yb3 BK203.out 2).trans rfl⟩ (fun hHeld => ?_)
          clear hK K
          refine norm_ (a' := ?_) ?_ ?_
          rotate_left
          · show Act.put _ (some 91) _ = _
            simp only [Act.put, zA, zB, zC, i64_w, i32_w]
            rfl
          refine one_ (i := 14) (N := some 92) #[true, true, true, true, true, true, true, true, true, true, true, true, true, true, true, false, false, false, false] rfl rfl (one_of HT_.out (by kernel_rfl)) (by decide) (fun K hK => ?_)
          refine goes_ Tryd.func8 (by kernel_rfl) rfl #[.agg #[.string t216, .slice Ao81 t217.length co81, .slice Ao82 t220.length co82], .agg #[.string t223, .slice Ao83 t224.length co83, .slice Ao84 t227.length co84]] (by rfl) rfl rfl (by (try simp only [List.map_toArray, List.map_cons, List.map_nil]); first | done | rfl | (simp only [List.length_drop, List.length_take]; rfl) | (simp only [ByteArray.size_extract]; rfl)) ?_
          with_reducible refine (yb5.calls kj7 t216 _ _ t217 _ _ t220 t223 _ _ t224 _ _ t227 t230 _ ?side1 ?side2 ?side3 ?side4 ?side5 ?side6 ?side7 ?side8 A68.out).mono ?_
          (case side1 => repeat (first | exact (Kd.yq1 HO219.out).2.2 | (with_reducible refine Kd.yd2 ?_ _) | (with_reducible refine Kd.C_drewN ?_ _) | (with_reducible refine Kd.C_drew ?_)))
          (case side2 => exact (Kd.yq1 HO219.out).2.1)
          (case side3 => repeat (first | exact (Kd.ye8 HO222.out).2.2 | (with_reducible refine Kd.yd2 ?_ _) | (with_reducible refine Kd.C_drewN ?_ _) | (with_reducible refine Kd.C_drew ?_)))
          (case side4 => exact (Kd.ye8 HO222.out).2.1)
          (case side5 => repeat (first | exact (Kd.yq1 HO226.out).2.2 | (with_reducible refine Kd.yd2 ?_ _) | (with_reducible refine Kd.C_drewN ?_ _) | (with_reducible refine Kd.C_drew ?_)))
          (case side6 => exact (Kd.yq1 HO226.out).2.1)
          (case side7 => repeat (first | exact (Kd.ye8 HO229.out).2.2 | (with_reducible refine Kd.yd2 ?_ _) | (with_reducible refine Kd.C_drewN ?_ _) | (with_reducible refine Kd.C_drew ?_)))
          (case side8 => exact (Kd.ye8 HO229.out).2.1)
          rintro e w85 ⟨rfl, hb⟩
          refine ⟨_, rfl, ?_⟩
          have n0_ := Aside0.mk (Kd.yl8 (by (with_reducible repeat (first | apply Kd.S_alloc | apply Kd.S_drewN | apply Kd.S_drew)); exact HO219.out) hb)
          have n1_ := Aside0.mk (Kd.ye5 (by (with_reducible repeat (first | apply Kd.yd7 | apply Kd.R_drewN | apply Kd.R_drew)); exact HO222.out) hb)
          have n2_ := Aside0.mk (Kd.yl8 (by (with_reducible repeat (first | apply Kd.S_alloc | apply Kd.S_drewN | apply Kd.S_drew)); exact HO226.out) hb)
          have n3_ := Aside0.mk (Kd.ye5 (by (with_reducible repeat (first | apply Kd.yd7 | apply Kd.R_drewN | apply Kd.R_drew)); exact HO229.out) hb)
          have n4_ := Aside0.mk (yb2 (g := gb201) (o := .cells #[.int .i64 a0_0, .bool a0_1, .slice A0_2 l0_2.length c0_2, .bool a0_3, .bool a0_4] 24 (0, 0)) (by (with_reducible repeat (first | refine ya5 ?_ _ | refine ya6 ?_ | refine ya4 ?_ _)); exact BK201.out) hb)
          have n5_ := Aside0.mk (yb2 (g := gb202) (o := .cells #[.string a1_0, .slice A1_1 l1_1.length c1_1, .slice A1_2 l1_2.length c1_2] 27 (0, 0)) (by (with_reducible repeat (first | refine ya5 ?_ _ | refine ya6 ?_ | refine ya4 ?_ _)); exact BK202.out) hb)
          have n6_ := Aside0.mk (yb2 (g := gb203) (o := .cells #[.string a2_0, .slice A2_1 l2_1.length c2_1, .slice A2_2 l2_2.length c2_2] 27 (0, 0)) (by (with_reducible repeat (first | refine ya5 ?_ _ | refine ya6 ?_ | refine ya4 ?_ _)); exact BK203.out) hb)
          have n7_ := Aside0.mk (yb1 (by repeat (first | (with_reducible first | exact HB.out | apply ya2 | apply ya0 | apply ya1 | refine ya3 ?_ GE201.out | refine ya3 ?_ GE202.out | refine ya3 ?_ GE203.out) | exact HB.out)) hb)
          clear HO219
          clear HO222
          clear HO226
          clear HO229
          clear BK201
          clear BK202
          clear BK203
          clear HB
          have HO219 := n0_
          have HO222 := n1_
          have HO226 := n2_
          have HO229 := n3_
          have BK201 := n4_
          have BK202 := n5_
          have BK203 := n6_
          have HB := n7_
          clear n0_ n1_ n2_ n3_ n4_ n5_ n6_ n7_
          (try clear hb)
          (try clear hb2)
          (try clear hk)
          (try clear hi)
          refine hK.out _ _ ⟨(yb3 BK201.out 0).trans rfl, (yb3 BK201.out 1).trans rfl, (yb3 BK201.out 2).trans rfl, (yb3 BK201.out 3).trans rfl, (yb3 BK201.out 4).trans rfl, (yb3 BK202.out 0).trans rfl, (yb3 BK202.out 1).trans rfl, (yb3 BK202.out 2).trans rfl, (yb3 BK203.out 0).trans rfl, (yb3 BK203.out 1).trans rfl, (yb3 BK203.out 2).trans rfl⟩ (fun hHeld => ?_)
          clear hK K
          refine norm_ (a' := ?_) ?_ ?_
          rotate_left
          · show Act.put _ (some 92) _ = _
            simp only [Act.put, zA, zB, zC, i64_w, i32_w]
            rfl
          refine pure_ (i := 15) (N := some 93) (v := ?_) (a' := ?_) #[true, true, true, true, true, true, true, true, true, true, true, true, true, true, true, true, false, false, false] rfl rfl (any_of HT_.out (by kernel_rfl)) (fun _ _ _ h => h) (Or.inl ⟨by rfl, ?_⟩) ?_ ?_
          rotate_left
          · intro w'
            go_simp
            with_reducible rfl
          rotate_left
          · simp only [Act.put, zA, zB, zC, i64_w, i32_w]
            rfl
          refine pure_ (i := 16) (N := some 94) (v := ?_) (a' := ?_) #[true, true, true, true, true, true, true, true, true, true, true, true, true, true, true, true, true, false, false] rfl rfl (any_of HT_.out (by kernel_rfl)) (fun _ _ _ h => h) (Or.inl ⟨by rfl, ?_⟩) ?_ ?_
          rotate_left
          · intro w'
            go_simp
            with_reducible rfl
          rotate_left
          · simp only [Act.put, zA, zB, zC, i64_w, i32_w]
            rfl
          refine pure_ (i := 17) (N := some 95) (v := ?_) (a' := ?_) #[true, true, true, true, true, true, true, true, true, true, true, true, true, true, true, true, true, true, false] rfl rfl (any_of HT_.out (by kernel_rfl)) (fun _ _ _ h => h) (Or.inl ⟨by rfl, ?_⟩) ?_ ?_
          rotate_left
          · intro w'
            go_simp
            with_reducible rfl
          rotate_left
          · simp only [Act.put, zA, zB, zC, i64_w, i32_w]
            rfl
          refine pure_ (i := 18) (N := some 10) (v := ?_) (a' := ?_) #[true, true, true, true, true, true, true, true, true, true, true, true, true, true, true, true, true, true, true] rfl rfl (any_of HT_.out (by kernel_rfl)) (fun _ _ _ h => h) (Or.inl ⟨by rfl, ?_⟩) ?_ ?_
          rotate_left
          · intro w'
            go_simp
            with_reducible rfl
          rotate_left
          · simp only [Act.put, zA, zB, zC, i64_w, i32_w]
            rfl
          refine done_ (yk9 HT_.out (by kernel_rfl)) ?_
          try go_wp2
          go_ret
          exact ⟨by first | rfl | (simp [yb0, ya9] <;> rfl) | (simp [*, yb0, ya9] <;> rfl), by repeat (first | (with_reducible first | exact HB.out | apply ya2 | apply ya0 | apply ya1 | refine ya3 ?_ GE201.out | refine ya3 ?_ GE202.out | refine ya3 ?_ GE203.out) | exact HB.out)⟩
      · rw [if_neg c51] at H
        have c51b0 : (a0_0 == 3) = false := beq_eq_false_iff_ne.mpr c51
        have c51b1 : (a0_0 != 3) = true := bne_iff_ne.mpr c51
        replace H := Option.bind_eq_some_iff.mp H
        obtain ⟨⟨t208, t209⟩, A860, H⟩ := H
        replace H : ((yd0.f kj7 a0_0 a0_1 l0_2 a0_3 a0_4 a2_0 l2_1 l2_2 a4).bind fun bt210 => (if t208.toList = bt210.1.toList then (some (t209 == bt210.2)) else (none))) = some r := H
        have A86 := Aside0.mk A860
        clear A860
        replace H := Option.bind_eq_some_iff.mp H
        obtain ⟨⟨t210, t211⟩, A870, H⟩ := H
        replace H : (if t208.toList = t210.toList then (some (t209 == t211)) else (none)) = some r := H
        have A87 := Aside0.mk A870
        clear A870
        by_cases c88 : t208.toList = t210.toList
        rotate_left 1
        · rw [if_neg c88] at H
          exact absurd H (by simp)
        rw [if_pos c88] at H
        have c88b0 : (t208.toList == t210.toList) = true := beq_iff_eq.mpr c88
        have c88b1 : (t208.toList != t210.toList) = false := bne_eq_false_iff_eq.mpr c88
        clear c88
        obtain rfl := Option.some.inj H
        have hnb89 := NB201_202.out
        have hnc89 := NB202_201.out
        have hnb90 := NB201_203.out
        have hnc90 := NB203_201.out
        obtain ⟨hcz91_0, hcz91_1, hcz91_2, hcz91_3, hcz91_4, hfz91_0, hfz91_1, hfz91_2, hfz91_3, hfz91_4⟩ := bx5 BK201.out
        have hnb92 := NB202_203.out
        have hnc92 := NB203_202.out
        obtain ⟨hcz93_0, hcz93_1, hcz93_2, hfz93_0, hfz93_1, hfz93_2⟩ := bx3 BK202.out
        go_wp2_with (first | ((with_reducible refine yd5 (f := 7) rfl ?_); refine goesL_ (some 48) rfl rfl Tryd.func7 (by kernel_rfl) rfl #[.agg #[.int .i64 a0_0, .bool a0_1, .slice A0_2 l0_2.length c0_2, .bool a0_3, .bool a0_4], .agg #[.string a1_0, .slice A1_1 l1_1.length c1_1, .slice A1_2 l1_2.length c1_2], .bool a3] rfl (by (try simp only [List.map_toArray, List.map_cons, List.map_nil]); first | done | rfl | (simp only [List.length_drop, List.length_take]; rfl) | (simp only [ByteArray.size_extract]; rfl)) ?_; (with_reducible refine (yd0.calls kj7 a0_0 a0_1 _ _ l0_2 a0_3 a0_4 a1_0 _ _ l1_1 _ _ l1_2 a3 t208 t209 _ ?side1 ?side2 ?side3 ?side4 ?side5 ?side6 (by exact MT.below HML.out (by repeat (first | (with_reducible first | exact HB.out | apply ya2 | apply ya0 | apply ya1 | refine ya3 ?_ GE201.out | refine ya3 ?_ GE202.out | refine ya3 ?_ GE203.out) | exact HB.out))) A86.out).mono ?_); (case side1 => repeat (first | exact (Kd.yc4 HR0_2.out HB.out) | (with_reducible refine Kd.yd2 ?_ _) | (with_reducible refine Kd.C_drewN ?_ _) | (with_reducible refine Kd.C_drew ?_))); (case side2 => exact HC0_2.out); (case side3 => repeat (first | exact (Kd.yc4 HR1_1.out HB.out) | (with_reducible refine Kd.yd2 ?_ _) | (with_reducible refine Kd.C_drewN ?_ _) | (with_reducible refine Kd.C_drew ?_))); (case side4 => exact HC1_1.out); (case side5 => repeat (first | exact (Kd.yc4 HR1_2.out HB.out) | (with_reducible refine Kd.yd2 ?_ _) | (with_reducible refine Kd.C_drewN ?_ _) | (with_reducible refine Kd.C_drew ?_))); (case side6 => exact HC1_2.out); rintro e w94 ⟨rfl, hb⟩; refine ⟨_, rfl, ?_⟩; have n0_ := Aside0.mk (yb2 (g := gb201) (o := .cells #[.int .i64 a0_0, .bool a0_1, .slice A0_2 l0_2.length c0_2, .bool a0_3, .bool a0_4] 24 (0, 0)) (by (with_reducible repeat (first | refine ya5 ?_ _ | refine ya6 ?_ | refine ya4 ?_ _)); exact BK201.out) hb); have n1_ := Aside0.mk (yb2 (g := gb202) (o := .cells #[.string a1_0, .slice A1_1 l1_1.length c1_1, .slice A1_2 l1_2.length c1_2] 27 (0, 0)) (by (with_reducible repeat (first | refine ya5 ?_ _ | refine ya6 ?_ | refine ya4 ?_ _)); exact BK202.out) hb); have n2_ := Aside0.mk (yb2 (g := gb203) (o := .cells #[.string a2_0, .slice A2_1 l2_1.length c2_1, .slice A2_2 l2_2.length c2_2] 27 (0, 0)) (by (with_reducible repeat (first | refine ya5 ?_ _ | refine ya6 ?_ | refine ya4 ?_ _)); exact BK203.out) hb); have n3_ := Aside0.mk (yb1 (by repeat (first | (with_reducible first | exact HB.out | apply ya2 | apply ya0 | apply ya1 | refine ya3 ?_ GE201.out | refine ya3 ?_ GE202.out | refine ya3 ?_ GE203.out) | exact HB.out)) hb); clear BK201; clear BK202; clear BK203; clear HB; have BK201 := n0_; have BK202 := n1_; have BK203 := n2_; have HB := n3_; clear n0_ n1_ n2_ n3_; (try clear hb); (try clear hb2); (try clear hk); (try clear hi); obtain ⟨hcz95_0, hcz95_1, hcz95_2, hcz95_3, hcz95_4, hfz95_0, hfz95_1, hfz95_2, hfz95_3, hfz95_4⟩ := bx5 BK201.out; obtain ⟨hcz96_0, hcz96_1, hcz96_2, hfz96_0, hfz96_1, hfz96_2⟩ := bx3 BK203.out) | ((with_reducible refine yd5 (f := 7) rfl ?_); refine goesL_ (some 55) rfl rfl Tryd.func7 (by kernel_rfl) rfl #[.agg #[.int .i64 a0_0, .bool a0_1, .slice A0_2 l0_2.length c0_2, .bool a0_3, .bool a0_4], .agg #[.string a2_0, .slice A2_1 l2_1.length c2_1, .slice A2_2 l2_2.length c2_2], .bool a4] rfl (by (try simp only [List.map_toArray, List.map_cons, List.map_nil]); first | done | rfl | (simp only [List.length_drop, List.length_take]; rfl) | (simp only [ByteArray.size_extract]; rfl)) ?_; (with_reducible refine (yd0.calls kj7 a0_0 a0_1 _ _ l0_2 a0_3 a0_4 a2_0 _ _ l2_1 _ _ l2_2 a4 t210 t211 _ ?side1 ?side2 ?side3 ?side4 ?side5 ?side6 (by exact MT.below HML.out (by repeat (first | (with_reducible first | exact HB.out | apply ya2 | apply ya0 | apply ya1 | refine ya3 ?_ GE201.out | refine ya3 ?_ GE202.out | refine ya3 ?_ GE203.out) | exact HB.out))) A87.out).mono ?_); (case side1 => repeat (first | exact (Kd.yc4 HR0_2.out HB.out) | (with_reducible refine Kd.yd2 ?_ _) | (with_reducible refine Kd.C_drewN ?_ _) | (with_reducible refine Kd.C_drew ?_))); (case side2 => exact HC0_2.out); (case side3 => repeat (first | exact (Kd.yc4 HR2_1.out HB.out) | (with_reducible refine Kd.yd2 ?_ _) | (with_reducible refine Kd.C_drewN ?_ _) | (with_reducible refine Kd.C_drew ?_))); (case side4 => exact HC2_1.out); (case side5 => repeat (first | exact (Kd.yc4 HR2_2.out HB.out) | (with_reducible refine Kd.yd2 ?_ _) | (with_reducible refine Kd.C_drewN ?_ _) | (with_reducible refine Kd.C_drew ?_))); (case side6 => exact HC2_2.out); rintro e w97 ⟨rfl, hb⟩; refine ⟨_, rfl, ?_⟩; have n0_ := Aside0.mk (yb2 (g := gb201) (o := .cells #[.int .i64 a0_0, .bool a0_1, .slice A0_2 l0_2.length c0_2, .bool a0_3, .bool a0_4] 24 (0, 0)) (by (with_reducible repeat (first | refine ya5 ?_ _ | refine ya6 ?_ | refine ya4 ?_ _)); exact BK201.out) hb); have n1_ := Aside0.mk (yb2 (g := gb202) (o := .cells #[.string a1_0, .slice A1_1 l1_1.length c1_1, .slice A1_2 l1_2.length c1_2] 27 (0, 0)) (by (with_reducible repeat (first | refine ya5 ?_ _ | refine ya6 ?_ | refine ya4 ?_ _)); exact BK202.out) hb); have n2_ := Aside0.mk (yb2 (g := gb203) (o := .cells #[.string a2_0, .slice A2_1 l2_1.length c2_1, .slice A2_2 l2_2.length c2_2] 27 (0, 0)) (by (with_reducible repeat (first | refine ya5 ?_ _ | refine ya6 ?_ | refine ya4 ?_ _)); exact BK203.out) hb); have n3_ := Aside0.mk (yb1 (by repeat (first | (with_reducible first | exact HB.out | apply ya2 | apply ya0 | apply ya1 | refine ya3 ?_ GE201.out | refine ya3 ?_ GE202.out | refine ya3 ?_ GE203.out) | exact HB.out)) hb); clear BK201; clear BK202; clear BK203; clear HB; have BK201 := n0_; have BK202 := n1_; have BK203 := n2_; have HB := n3_; clear n0_ n1_ n2_ n3_; (try clear hb); (try clear hb2); (try clear hk); (try clear hi)))
        go_ret
        exact ⟨by first | rfl | (simp [yb0, ya9] <;> rfl) | (simp [*, yb0, ya9] <;> rfl), by repeat (first | (with_reducible first | exact HB.out | apply ya2 | apply ya0 | apply ya1 | refine ya3 ?_ GE201.out | refine ya3 ?_ GE202.out | refine ya3 ?_ GE203.out) | exact HB.out)⟩
end Go.Proofs.YtidkjifilgjgfaaDoor.PAll
