import Derived.Test.YtffpbhbiamkkpaaDoorM5
import Derived.Test.YtffpbhbiamkkpaaDoorPRx3
import Derived.Test.YtffpbhbiamkkpaaDoorPRx5
import Derived.Test.YtffpbhbiamkkpaaDoorM7
-- PRINTED by print.py (a twelfth state) out of the translation. Not trusted: Lean checks it.
namespace Go.Proofs.YtffpbhbiamkkpaaDoor.PR
open Go.Proofs.YtffpbhbiamkkpaaDoor.ND
open Go.RowKit Go.Proofs.YtffpbhbiamkkpaaDoorW.PrintWords Go.Proofs.YtffpbhbiamkkpaaDoorW.PrintLast Go.Proofs.YtffpbhbiamkkpaaDoorW.PrintMore
attribute [local go_sem] yf9 yf7 yg5 yg4 ye9 ye8 yf8 yf6   -- for this text's walks alone
set_option linter.unusedVariables false
set_option linter.unusedSimpArgs false

def ye0.f (k : Nat) (a0_0 : Int) (a0_1 : ByteArray) (a0_2 : ByteArray) (l0_3 : List (At)) (l0_4 : List (Nd)) (a0_5 : ByteArray) : Option (Bool) := if a0_0 = 1 then ((yc4.f k a0_0 a0_1 a0_2 l0_3 l0_4 a0_5 2000).bind fun t140 => (if t140 ≤ 2000 then ((yc1.f k a0_0 a0_1 a0_2 l0_3 l0_4 a0_5 30).bind fun t141 => (if t141 ≤ 24 then ((ya4.f k a0_0 a0_1 a0_2 l0_3 l0_4 a0_5).bind fun t142 => (some t142)) else (some false))) else (some false))) else (some false)
set_option maxHeartbeats 8000000 in
set_option maxRecDepth 100000 in
theorem ye0.calls (k : Nat) (a0_0 : Int) (a0_1 : ByteArray) (a0_2 : ByteArray) (A0_3 : Option Addr) (c0_3 : Nat) (l0_3 : List (At)) (A0_4 : Option Addr) (c0_4 : Nat) (l0_4 : List (Nd)) (a0_5 : ByteArray) (r : Bool) (w : World) (hr0_3 : Kd.C kAt w A0_3 l0_3.length l0_3) (hc0_3 : l0_3.length ≤ c0_3) (hr0_4 : Kd.C kNd w A0_4 l0_4.length l0_4) (hc0_4 : l0_4.length ≤ c0_4) (h : ye0.f k a0_0 a0_1 a0_2 l0_3 l0_4 a0_5 = some r) :
  Calls Tryd.prog 38 #[.agg #[.int .i64 a0_0, .string a0_1, .string a0_2, .slice A0_3 l0_3.length c0_3, .slice A0_4 l0_4.length c0_4, .string a0_5]] w fun e w' => e = .returned (.bool r) ∧ Below w.heap.size w w' := by
 have hu27 := Tryd.underlying27
 have HR0_3 := Aside0.mk hr0_3
 have HC0_3 := Aside0.mk hc0_3
 clear hr0_3 hc0_3
 have HR0_4 := Aside0.mk hr0_4
 have HC0_4 := Aside0.mk hc0_4
 clear hr0_4 hc0_4
 have HB := Aside0.mk (Below.refl w.heap.size w)
 have H : (if a0_0 = 1 then ((yc4.f k a0_0 a0_1 a0_2 l0_3 l0_4 a0_5 2000).bind fun t140 => (if t140 ≤ 2000 then ((yc1.f k a0_0 a0_1 a0_2 l0_3 l0_4 a0_5 30).bind fun t141 => (if t141 ≤ 24 then ((ya4.f k a0_0 a0_1 a0_2 l0_3 l0_4 a0_5).bind fun t142 => (some t142)) else (some false))) else (some false))) else (some false)) = some r := h
 clear h
 by_cases c2 : a0_0 = 1
 rotate_left 1
 ·rw [if_neg c2] at H
  have c2b0 : (a0_0 == 1) = false := beq_eq_false_iff_ne.mpr c2
  have c2b1 : (a0_0 != 1) = true := bne_iff_ne.mpr c2
  obtain rfl := Option.some.inj H
  go_enter Tryd.func38, Tryd.ntmps38
  go_wp2_with (first | ((with_reducible refine yd2 (N := 1) rfl ?_); refine yd3 ?hg (N := 1) ?hd (cs := #[.int .i64 a0_0, .string a0_1, .string a0_2, .slice A0_3 l0_3.length c0_3, .slice A0_4 l0_4.length c0_4, .string a0_5]) (t := 27) ?hr ?_; (case hd => rfl); (case hg => rfl); (case hr => first | (go_simp; done) | (go_simp; rfl)); intro gb139 hg w23 hbox hb; have n0_ := Aside0.mk (ya7 (by repeat (first | (with_reducible first | exact HB.out | apply ya2 | apply ya0 | apply ya1) | exact HB.out)) hb); have n1_ := Aside0.mk (hbox); have n2_ := Aside0.mk ((by rw [hg]; exact (yb4 (by repeat (first | (with_reducible first | exact HB.out | apply ya2 | apply ya0 | apply ya1) | exact HB.out))) : w.heap.size ≤ gb139)); have n3_ := Aside0.mk ((by rw [hg]; exact (yb4 (by repeat (first | (with_reducible first | exact HB.out | apply ya2 | apply ya0 | apply ya1) | exact HB.out))) : w.heap.size ≤ gb139)); clear HB; have HB := n0_; have BK139 := n1_; have GW139 := n2_; have GE139 := n3_; clear n0_ n1_ n2_ n3_; clear hb hbox hg; obtain ⟨hcz24_0, hcz24_1, hcz24_2, hcz24_3, hcz24_4, hcz24_5, hfz24_0, hfz24_1, hfz24_2, hfz24_3, hfz24_4, hfz24_5⟩ := bx6 BK139.out))
  go_ret
  exact ⟨by first | rfl | (simp [yb3, yb2] <;> rfl) | (simp [*, yb3, yb2] <;> rfl), by repeat (first | (with_reducible first | exact HB.out | apply ya2 | apply ya0 | apply ya1 | refine ya6 ?_ GE139.out) | exact HB.out)⟩

 rw [if_pos c2] at H
 have c2b0 : (a0_0 == 1) = true := beq_iff_eq.mpr c2
 have c2b1 : (a0_0 != 1) = false := bne_eq_false_iff_eq.mpr c2
 clear c2
 replace H := Option.bind_eq_some_iff.mp H
 obtain ⟨t140, A30, H⟩ := H
 replace H : (if t140 ≤ 2000 then ((yc1.f k a0_0 a0_1 a0_2 l0_3 l0_4 a0_5 30).bind fun t141 => (if t141 ≤ 24 then ((ya4.f k a0_0 a0_1 a0_2 l0_3 l0_4 a0_5).bind fun t142 => (some t142)) else (some false))) else (some false)) = some r := H
 have A3 := Aside0.mk A30
 clear A30
 by_cases c4 : t140 ≤ 2000
 rotate_left 1
 ·rw [if_neg c4] at H
  have c4b0 : decide (t140 ≤ 2000) = false := decide_eq_false c4
  clear c4
  obtain rfl := Option.some.inj H
  go_enter Tryd.func38, Tryd.ntmps38
  go_wp2_with (first | ((with_reducible refine yd2 (N := 1) rfl ?_); refine yd3 ?hg (N := 1) ?hd (cs := #[.int .i64 a0_0, .string a0_1, .string a0_2, .slice A0_3 l0_3.length c0_3, .slice A0_4 l0_4.length c0_4, .string a0_5]) (t := 27) ?hr ?_; (case hd => rfl); (case hg => rfl); (case hr => first | (go_simp; done) | (go_simp; rfl)); intro gb139 hg w20 hbox hb; have n0_ := Aside0.mk (ya7 (by repeat (first | (with_reducible first | exact HB.out | apply ya2 | apply ya0 | apply ya1) | exact HB.out)) hb); have n1_ := Aside0.mk (hbox); have n2_ := Aside0.mk ((by rw [hg]; exact (yb4 (by repeat (first | (with_reducible first | exact HB.out | apply ya2 | apply ya0 | apply ya1) | exact HB.out))) : w.heap.size ≤ gb139)); have n3_ := Aside0.mk ((by rw [hg]; exact (yb4 (by repeat (first | (with_reducible first | exact HB.out | apply ya2 | apply ya0 | apply ya1) | exact HB.out))) : w.heap.size ≤ gb139)); clear HB; have HB := n0_; have BK139 := n1_; have GW139 := n2_; have GE139 := n3_; clear n0_ n1_ n2_ n3_; clear hb hbox hg; obtain ⟨hcz21_0, hcz21_1, hcz21_2, hcz21_3, hcz21_4, hcz21_5, hfz21_0, hfz21_1, hfz21_2, hfz21_3, hfz21_4, hfz21_5⟩ := bx6 BK139.out) | (go_at_call 69; (with_reducible refine (yc4.calls k a0_0 a0_1 a0_2 _ _ l0_3 _ _ l0_4 a0_5 2000 t140 _ ?side1 ?side2 ?side3 ?side4 A3.out).mono ?_); (case side1 => repeat (first | exact (Kd.yc3 HR0_3.out HB.out) | (with_reducible refine Kd.C_alloc ?_ _) | (with_reducible refine Kd.C_drewN ?_ _) | (with_reducible refine Kd.C_drew ?_))); (case side2 => exact HC0_3.out); (case side3 => repeat (first | exact (Kd.yc3 HR0_4.out HB.out) | (with_reducible refine Kd.C_alloc ?_ _) | (with_reducible refine Kd.C_drewN ?_ _) | (with_reducible refine Kd.C_drew ?_))); (case side4 => exact HC0_4.out); rintro e w22 ⟨rfl, hb⟩; have n0_ := Aside0.mk (yb9 (g := gb139) (o := .cells #[.int .i64 a0_0, .string a0_1, .string a0_2, .slice A0_3 l0_3.length c0_3, .slice A0_4 l0_4.length c0_4, .string a0_5] 27 (0, 0)) (by (with_reducible repeat (first | refine ya8 ?_ _ | refine ya9 ?_ | refine blk_alloc ?_ _)); exact BK139.out) hb); have n1_ := Aside0.mk (ya7 (by repeat (first | (with_reducible first | exact HB.out | apply ya2 | apply ya0 | apply ya1 | refine ya6 ?_ GE139.out) | exact HB.out)) hb); clear BK139; clear HB; have BK139 := n0_; have HB := n1_; clear n0_ n1_; (try clear hb); (try clear hb2); (try clear hk); (try clear hi)))
  go_ret
  exact ⟨by first | rfl | (simp [yb3, yb2] <;> rfl) | (simp [*, yb3, yb2] <;> rfl), by repeat (first | (with_reducible first | exact HB.out | apply ya2 | apply ya0 | apply ya1 | refine ya6 ?_ GE139.out) | exact HB.out)⟩
 rw [if_pos c4] at H
 have c4b0 : decide (t140 ≤ 2000) = true := decide_eq_true c4
 clear c4
 replace H := Option.bind_eq_some_iff.mp H
 obtain ⟨t141, A50, H⟩ := H
 replace H : (if t141 ≤ 24 then ((ya4.f k a0_0 a0_1 a0_2 l0_3 l0_4 a0_5).bind fun t142 => (some t142)) else (some false)) = some r := H
 have A5 := Aside0.mk A50
 clear A50
 by_cases c6 : t141 ≤ 24
 rotate_left 1
 ·rw [if_neg c6] at H
  have c6b0 : decide (t141 ≤ 24) = false := decide_eq_false c6
  clear c6
  obtain rfl := Option.some.inj H
  go_enter Tryd.func38, Tryd.ntmps38
  go_wp2_with (first | ((with_reducible refine yd2 (N := 1) rfl ?_); refine yd3 ?hg (N := 1) ?hd (cs := #[.int .i64 a0_0, .string a0_1, .string a0_2, .slice A0_3 l0_3.length c0_3, .slice A0_4 l0_4.length c0_4, .string a0_5]) (t := 27) ?hr ?_; (case hd => rfl); (case hg => rfl); (case hr => first | (go_simp; done) | (go_simp; rfl)); intro gb139 hg w15 hbox hb; have n0_ := Aside0.mk (ya7 (by repeat (first | (with_reducible first | exact HB.out | apply ya2 | apply ya0 | apply ya1) | exact HB.out)) hb); have n1_ := Aside0.mk (hbox); have n2_ := Aside0.mk ((by rw [hg]; exact (yb4 (by repeat (first | (with_reducible first | exact HB.out | apply ya2 | apply ya0 | apply ya1) | exact HB.out))) : w.heap.size ≤ gb139)); have n3_ := Aside0.mk ((by rw [hg]; exact (yb4 (by repeat (first | (with_reducible first | exact HB.out | apply ya2 | apply ya0 | apply ya1) | exact HB.out))) : w.heap.size ≤ gb139)); clear HB; have HB := n0_; have BK139 := n1_; have GW139 := n2_; have GE139 := n3_; clear n0_ n1_ n2_ n3_; clear hb hbox hg; obtain ⟨hcz16_0, hcz16_1, hcz16_2, hcz16_3, hcz16_4, hcz16_5, hfz16_0, hfz16_1, hfz16_2, hfz16_3, hfz16_4, hfz16_5⟩ := bx6 BK139.out) | (go_at_call 69; (with_reducible refine (yc4.calls k a0_0 a0_1 a0_2 _ _ l0_3 _ _ l0_4 a0_5 2000 t140 _ ?side1 ?side2 ?side3 ?side4 A3.out).mono ?_); (case side1 => repeat (first | exact (Kd.yc3 HR0_3.out HB.out) | (with_reducible refine Kd.C_alloc ?_ _) | (with_reducible refine Kd.C_drewN ?_ _) | (with_reducible refine Kd.C_drew ?_))); (case side2 => exact HC0_3.out); (case side3 => repeat (first | exact (Kd.yc3 HR0_4.out HB.out) | (with_reducible refine Kd.C_alloc ?_ _) | (with_reducible refine Kd.C_drewN ?_ _) | (with_reducible refine Kd.C_drew ?_))); (case side4 => exact HC0_4.out); rintro e w17 ⟨rfl, hb⟩; have n0_ := Aside0.mk (yb9 (g := gb139) (o := .cells #[.int .i64 a0_0, .string a0_1, .string a0_2, .slice A0_3 l0_3.length c0_3, .slice A0_4 l0_4.length c0_4, .string a0_5] 27 (0, 0)) (by (with_reducible repeat (first | refine ya8 ?_ _ | refine ya9 ?_ | refine blk_alloc ?_ _)); exact BK139.out) hb); have n1_ := Aside0.mk (ya7 (by repeat (first | (with_reducible first | exact HB.out | apply ya2 | apply ya0 | apply ya1 | refine ya6 ?_ GE139.out) | exact HB.out)) hb); clear BK139; clear HB; have BK139 := n0_; have HB := n1_; clear n0_ n1_; (try clear hb); (try clear hb2); (try clear hk); (try clear hi); obtain ⟨hcz18_0, hcz18_1, hcz18_2, hcz18_3, hcz18_4, hcz18_5, hfz18_0, hfz18_1, hfz18_2, hfz18_3, hfz18_4, hfz18_5⟩ := bx6 BK139.out) | (go_at_call 70; (with_reducible refine (yc1.calls k a0_0 a0_1 a0_2 _ _ l0_3 _ _ l0_4 a0_5 30 t141 _ ?side1 ?side2 ?side3 ?side4 A5.out).mono ?_); (case side1 => repeat (first | exact (Kd.yc3 HR0_3.out HB.out) | (with_reducible refine Kd.C_alloc ?_ _) | (with_reducible refine Kd.C_drewN ?_ _) | (with_reducible refine Kd.C_drew ?_))); (case side2 => exact HC0_3.out); (case side3 => repeat (first | exact (Kd.yc3 HR0_4.out HB.out) | (with_reducible refine Kd.C_alloc ?_ _) | (with_reducible refine Kd.C_drewN ?_ _) | (with_reducible refine Kd.C_drew ?_))); (case side4 => exact HC0_4.out); rintro e w19 ⟨rfl, hb⟩; have n0_ := Aside0.mk (yb9 (g := gb139) (o := .cells #[.int .i64 a0_0, .string a0_1, .string a0_2, .slice A0_3 l0_3.length c0_3, .slice A0_4 l0_4.length c0_4, .string a0_5] 27 (0, 0)) (by (with_reducible repeat (first | refine ya8 ?_ _ | refine ya9 ?_ | refine blk_alloc ?_ _)); exact BK139.out) hb); have n1_ := Aside0.mk (ya7 (by repeat (first | (with_reducible first | exact HB.out | apply ya2 | apply ya0 | apply ya1 | refine ya6 ?_ GE139.out) | exact HB.out)) hb); clear BK139; clear HB; have BK139 := n0_; have HB := n1_; clear n0_ n1_; (try clear hb); (try clear hb2); (try clear hk); (try clear hi)))
  go_ret
  exact ⟨by first | rfl | (simp [yb3, yb2] <;> rfl) | (simp [*, yb3, yb2] <;> rfl), by repeat (first | (with_reducible first | exact HB.out | apply ya2 | apply ya0 | apply ya1 | refine ya6 ?_ GE139.out) | exact HB.out)⟩
 rw [if_pos c6] at H
 have c6b0 : decide (t141 ≤ 24) = true := decide_eq_true c6
 clear c6
 replace H := Option.bind_eq_some_iff.mp H
 obtain ⟨t142, A70, H⟩ := H
 replace H : (some t142) = some r := H
 have A7 := Aside0.mk A70
 clear A70
 obtain rfl := Option.some.inj H
 go_enter Tryd.func38, Tryd.ntmps38
 go_wp2_with (first | ((with_reducible refine yd2 (N := 1) rfl ?_); refine yd3 ?hg (N := 1) ?hd (cs := #[.int .i64 a0_0, .string a0_1, .string a0_2, .slice A0_3 l0_3.length c0_3, .slice A0_4 l0_4.length c0_4, .string a0_5]) (t := 27) ?hr ?_; (case hd => rfl); (case hg => rfl); (case hr => first | (go_simp; done) | (go_simp; rfl)); intro gb139 hg w8 hbox hb; have n0_ := Aside0.mk (ya7 (by repeat (first | (with_reducible first | exact HB.out | apply ya2 | apply ya0 | apply ya1) | exact HB.out)) hb); have n1_ := Aside0.mk (hbox); have n2_ := Aside0.mk ((by rw [hg]; exact (yb4 (by repeat (first | (with_reducible first | exact HB.out | apply ya2 | apply ya0 | apply ya1) | exact HB.out))) : w.heap.size ≤ gb139)); have n3_ := Aside0.mk ((by rw [hg]; exact (yb4 (by repeat (first | (with_reducible first | exact HB.out | apply ya2 | apply ya0 | apply ya1) | exact HB.out))) : w.heap.size ≤ gb139)); clear HB; have HB := n0_; have BK139 := n1_; have GW139 := n2_; have GE139 := n3_; clear n0_ n1_ n2_ n3_; clear hb hbox hg; obtain ⟨hcz9_0, hcz9_1, hcz9_2, hcz9_3, hcz9_4, hcz9_5, hfz9_0, hfz9_1, hfz9_2, hfz9_3, hfz9_4, hfz9_5⟩ := bx6 BK139.out) | (go_at_call 69; (with_reducible refine (yc4.calls k a0_0 a0_1 a0_2 _ _ l0_3 _ _ l0_4 a0_5 2000 t140 _ ?side1 ?side2 ?side3 ?side4 A3.out).mono ?_); (case side1 => repeat (first | exact (Kd.yc3 HR0_3.out HB.out) | (with_reducible refine Kd.C_alloc ?_ _) | (with_reducible refine Kd.C_drewN ?_ _) | (with_reducible refine Kd.C_drew ?_))); (case side2 => exact HC0_3.out); (case side3 => repeat (first | exact (Kd.yc3 HR0_4.out HB.out) | (with_reducible refine Kd.C_alloc ?_ _) | (with_reducible refine Kd.C_drewN ?_ _) | (with_reducible refine Kd.C_drew ?_))); (case side4 => exact HC0_4.out); rintro e w10 ⟨rfl, hb⟩; have n0_ := Aside0.mk (yb9 (g := gb139) (o := .cells #[.int .i64 a0_0, .string a0_1, .string a0_2, .slice A0_3 l0_3.length c0_3, .slice A0_4 l0_4.length c0_4, .string a0_5] 27 (0, 0)) (by (with_reducible repeat (first | refine ya8 ?_ _ | refine ya9 ?_ | refine blk_alloc ?_ _)); exact BK139.out) hb); have n1_ := Aside0.mk (ya7 (by repeat (first | (with_reducible first | exact HB.out | apply ya2 | apply ya0 | apply ya1 | refine ya6 ?_ GE139.out) | exact HB.out)) hb); clear BK139; clear HB; have BK139 := n0_; have HB := n1_; clear n0_ n1_; (try clear hb); (try clear hb2); (try clear hk); (try clear hi); obtain ⟨hcz11_0, hcz11_1, hcz11_2, hcz11_3, hcz11_4, hcz11_5, hfz11_0, hfz11_1, hfz11_2, hfz11_3, hfz11_4, hfz11_5⟩ := bx6 BK139.out) | (go_at_call 70; (with_reducible refine (yc1.calls k a0_0 a0_1 a0_2 _ _ l0_3 _ _ l0_4 a0_5 30 t141 _ ?side1 ?side2 ?side3 ?side4 A5.out).mono ?_); (case side1 => repeat (first | exact (Kd.yc3 HR0_3.out HB.out) | (with_reducible refine Kd.C_alloc ?_ _) | (with_reducible refine Kd.C_drewN ?_ _) | (with_reducible refine Kd.C_drew ?_))); (case side2 => exact HC0_3.out); (case side3 => repeat (first | exact (Kd.yc3 HR0_4.out HB.out) | (with_reducible refine Kd.C_alloc ?_ _) | (with_reducible refine Kd.C_drewN ?_ _) | (with_reducible refine Kd.C_drew ?_))); (case side4 => exact HC0_4.out); rintro e w12 ⟨rfl, hb⟩; have n0_ := Aside0.mk (yb9 (g := gb139) (o := .cells #[.int .i64 a0_0, .string a0_1, .string a0_2, .slice A0_3 l0_3.length c0_3, .slice A0_4 l0_4.length c0_4, .string a0_5] 27 (0, 0)) (by (with_reducible repeat (first | refine ya8 ?_ _ | refine ya9 ?_ | refine blk_alloc ?_ _)); exact BK139.out) hb); have n1_ := Aside0.mk (ya7 (by repeat (first | (with_reducible first | exact HB.out | apply ya2 | apply ya0 | apply ya1 | refine ya6 ?_ GE139.out) | exact HB.out)) hb); clear BK139; clear HB; have BK139 := n0_; have HB := n1_; clear n0_ n1_; (try clear hb); (try clear hb2); (try clear hk); (try clear hi); obtain ⟨hcz13_0, hcz13_1, hcz13_2, hcz13_3, hcz13_4, hcz13_5, hfz13_0, hfz13_1, hfz13_2, hfz13_3, hfz13_4, hfz13_5⟩ := bx6 BK139.out) | (go_at_call 71; (with_reducible refine (ya4.calls k a0_0 a0_1 a0_2 _ _ l0_3 _ _ l0_4 a0_5 t142 _ ?side1 ?side2 ?side3 ?side4 A7.out).mono ?_); (case side1 => repeat (first | exact (Kd.yc3 HR0_3.out HB.out) | (with_reducible refine Kd.C_alloc ?_ _) | (with_reducible refine Kd.C_drewN ?_ _) | (with_reducible refine Kd.C_drew ?_))); (case side2 => exact HC0_3.out); (case side3 => repeat (first | exact (Kd.yc3 HR0_4.out HB.out) | (with_reducible refine Kd.C_alloc ?_ _) | (with_reducible refine Kd.C_drewN ?_ _) | (with_reducible refine Kd.C_drew ?_))); (case side4 => exact HC0_4.out); rintro e w14 ⟨rfl, hb⟩; have n0_ := Aside0.mk (yb9 (g := gb139) (o := .cells #[.int .i64 a0_0, .string a0_1, .string a0_2, .slice A0_3 l0_3.length c0_3, .slice A0_4 l0_4.length c0_4, .string a0_5] 27 (0, 0)) (by (with_reducible repeat (first | refine ya8 ?_ _ | refine ya9 ?_ | refine blk_alloc ?_ _)); exact BK139.out) hb); have n1_ := Aside0.mk (ya7 (by repeat (first | (with_reducible first | exact HB.out | apply ya2 | apply ya0 | apply ya1 | refine ya6 ?_ GE139.out) | exact HB.out)) hb); clear BK139; clear HB; have BK139 := n0_; have HB := n1_; clear n0_ n1_; (try clear hb); (try clear hb2); (try clear hk); (try clear hi)))
 go_ret
 exact ⟨by first | rfl | (simp [yb3, yb2] <;> rfl) | (simp [*, yb3, yb2] <;> rfl), by repeat (first | (with_reducible first | exact HB.out | apply ya2 | apply ya0 | apply ya1 | refine ya6 ?_ GE139.out) | exact HB.out)⟩
mutual
def ya5.l0 : Nat → ByteArray → Bool → List Int → Int → Option (ByteArray)
 | 0, _, _, _, _ => none
 | k + 1, x0, x1, x5, x6 => if x6 < (x0.size : Int) then (if 0 ≤ x6 then (if x6 ≤ (wrap64 (x6 + 1)) then (if (wrap64 (x6 + 1)) ≤ (x0.size : Int) then (if (x0.extract (x6 : Int).toNat ((wrap64 (x6 + 1)) : Int).toNat).toList = ([38] : List UInt8) then (if x5.length + 5 < 140737488355328 then (ya5.l0 k x0 x1 (x5 ++ bytesOf (⟨#[38, 97, 109, 112, 59]⟩ : ByteArray)) (wrap64 (x6 + 1))) else (none)) else (if (x0.extract (x6 : Int).toNat ((wrap64 (x6 + 1)) : Int).toNat).toList = ([60] : List UInt8) then (if x5.length + 4 < 140737488355328 then (ya5.l0 k x0 x1 (x5 ++ bytesOf (⟨#[38, 108, 116, 59]⟩ : ByteArray)) (wrap64 (x6 + 1))) else (none)) else (if (x0.extract (x6 : Int).toNat ((wrap64 (x6 + 1)) : Int).toNat).toList = ([13] : List UInt8) then (if x5.length + 5 < 140737488355328 then (ya5.l0 k x0 x1 (x5 ++ bytesOf (⟨#[38, 35, 49, 51, 59]⟩ : ByteArray)) (wrap64 (x6 + 1))) else (none)) else (if (x0.extract (x6 : Int).toNat ((wrap64 (x6 + 1)) : Int).toNat).toList = ([62] : List UInt8) then (ya5.j1 k x0 x1 x5 x6 (x0.extract (x6 : Int).toNat ((wrap64 (x6 + 1)) : Int).toNat) (!x1)) else (ya5.j1 k x0 x1 x5 x6 (x0.extract (x6 : Int).toNat ((wrap64 (x6 + 1)) : Int).toNat) false))))) else (none)) else (none)) else (none)) else (some (strOfNums x5))
def ya5.j1 : Nat → ByteArray → Bool → List Int → Int → ByteArray → Bool → Option (ByteArray)
 | 0, _, _, _, _, _, _ => none
 | k + 1, x0, x1, x5, x6, x7, x28 => if x28 = true then (if x5.length + 4 < 140737488355328 then (ya5.l0 k x0 x1 (x5 ++ bytesOf (⟨#[38, 103, 116, 59]⟩ : ByteArray)) (wrap64 (x6 + 1))) else (none)) else (if x7.toList = ([34] : List UInt8) then (ya5.j2 k x0 x1 x5 x6 x7 x1) else (ya5.j2 k x0 x1 x5 x6 x7 false))
def ya5.j2 : Nat → ByteArray → Bool → List Int → Int → ByteArray → Bool → Option (ByteArray)
 | 0, _, _, _, _, _, _ => none
 | k + 1, x0, x1, x5, x6, x7, x35 => if x35 = true then (if x5.length + 6 < 140737488355328 then (ya5.l0 k x0 x1 (x5 ++ bytesOf (⟨#[38, 113, 117, 111, 116, 59]⟩ : ByteArray)) (wrap64 (x6 + 1))) else (none)) else (if x7.toList = ([9] : List UInt8) then (ya5.j3 k x0 x1 x5 x6 x7 x1) else (ya5.j3 k x0 x1 x5 x6 x7 false))
def ya5.j3 : Nat → ByteArray → Bool → List Int → Int → ByteArray → Bool → Option (ByteArray)
 | 0, _, _, _, _, _, _ => none
 | k + 1, x0, x1, x5, x6, x7, x41 => if x41 = true then (if x5.length + 4 < 140737488355328 then (ya5.l0 k x0 x1 (x5 ++ bytesOf (⟨#[38, 35, 57, 59]⟩ : ByteArray)) (wrap64 (x6 + 1))) else (none)) else (if x7.toList = ([10] : List UInt8) then (if x1 = true then (if x5.length + 5 < 140737488355328 then (ya5.l0 k x0 x1 (x5 ++ bytesOf (⟨#[38, 35, 49, 48, 59]⟩ : ByteArray)) (wrap64 (x6 + 1))) else (none)) else (if x5.length + x7.size < 140737488355328 then (ya5.l0 k x0 x1 (x5 ++ bytesOf x7) (wrap64 (x6 + 1))) else (none))) else (if x5.length + x7.size < 140737488355328 then (ya5.l0 k x0 x1 (x5 ++ bytesOf x7) (wrap64 (x6 + 1))) else (none)))
end
def ya5.f (k : Nat) (a0 : ByteArray) (a1 : Bool) : Option (ByteArray) := ya5.l0 k a0 a1 ([] : List Int) 0
set_option maxHeartbeats 8000000 in
set_option maxRecDepth 100000 in
theorem ya5.calls (k : Nat) (a0 : ByteArray) (a1 : Bool) (r : ByteArray) (w : World) (h : ya5.f k a0 a1 = some r) :
  Calls Tryd.prog 17 #[.string a0, .bool a1] w fun e w' => e = .returned (.string r) ∧ Below w.heap.size w w' := by
 have HB := Aside0.mk (Below.refl w.heap.size w)
 have H : (ya5.l0 k a0 a1 ([] : List Int) 0) = some r := h
 clear h
 have H' := Aside0.mk H
 clear H
 go_enter Tryd.func17, Tryd.ntmps17
 go_wp2
 go_loopg [5, 6] k (fun kq v5 v6 w' => ∃ (x5_1 : List Int) (x6_1 : Int), v6 = .int .i64 x6_1 ∧ Aside0 (ya5.l0 kq a0 a1 x5_1 x6_1 = some r) ∧ Aside0 (kq ≤ k) ∧ Aside0 (Kd.R (Kd.int .u8) 5 w' w.heap.size (fun _ => True) v5 x5_1) ∧ Aside0 (Below w.heap.size w w'))
 case atStart => exact ⟨(([] : List Int)), (0), (by first | rfl | (simp; done) | (simp [*]; done)), H', ⟨Nat.le_refl _⟩, ⟨by first | exact Kd.R_nil _ _ _ _ _ | exact Kd.N_nil _ _ _ _ _ | exact Kd.V_nil _ _ _ _ _ | exact Kd.Q_nil _ _ _ _ _ | exact Kd.S_nil _ _ _ _ _⟩, ⟨by repeat (first | (with_reducible first | exact HB.out | apply ya2 | apply ya0 | apply ya1) | exact HB.out)⟩⟩
 case round =>
  clear H'
  try clear c1
  try clear p2
  obtain ⟨x5_1, x6_1, rfl, HA, HK1, HO_5, HB⟩ := hrel
  cases gk with
  | zero => exact absurd HA.out (by simp [ya5.l0])
  | succ k1 =>
   have H := HA.out
   clear HA
   simp only [ya5.l0] at H
   by_cases c3 : x6_1 < (a0.size : Int)
   rotate_left 1
   ·rw [if_neg c3] at H
    have c3b0 : decide (x6_1 < (a0.size : Int)) = false := decide_eq_false c3
    clear c3
    obtain rfl := Option.some.inj H
    have hcv39 := yi1 (P := Tryd.prog) Tryd.underlying69 Tryd.underlying5 Tryd.underlying9 (Kd.yg3 HO_5.out)
    go_wp2
    go_ret
    exact ⟨by first | rfl | (simp [yb3, yb2] <;> rfl) | (simp [*, yb3, yb2] <;> rfl), by repeat (first | (with_reducible first | exact HB.out | apply ya2 | apply ya0 | apply ya1) | exact HB.out)⟩

   rw [if_pos c3] at H
   have c3b0 : decide (x6_1 < (a0.size : Int)) = true := decide_eq_true c3
   clear c3
   by_cases c4 : 0 ≤ x6_1
   rotate_left 1
   ·rw [if_neg c4] at H
    exact absurd H (by simp)
   rw [if_pos c4] at H
   have c4b0 := eq_true c4
   have c4b1 : decide (0 ≤ x6_1) = true := decide_eq_true c4
   clear c4
   by_cases c5 : x6_1 ≤ (wrap64 (x6_1 + 1))
   rotate_left 1
   ·rw [if_neg c5] at H
    exact absurd H (by simp)
   rw [if_pos c5] at H
   have c5b0 := eq_true c5
   have c5b1 : decide (x6_1 ≤ (wrap64 (x6_1 + 1))) = true := decide_eq_true c5
   by_cases c6 : (wrap64 (x6_1 + 1)) ≤ (a0.size : Int)
   rotate_left 1
   ·rw [if_neg c6] at H
    exact absurd H (by simp)
   rw [if_pos c6] at H
   have c6b0 := eq_true c6
   have c6b1 : decide ((wrap64 (x6_1 + 1)) ≤ (a0.size : Int)) = true := decide_eq_true c6
   by_cases c7 : (a0.extract (x6_1 : Int).toNat ((wrap64 (x6_1 + 1)) : Int).toNat).toList = ([38] : List UInt8)
   ·rw [if_pos c7] at H
    have c7b0 : ((a0.extract (x6_1 : Int).toNat ((wrap64 (x6_1 + 1)) : Int).toNat).toList == ([38] : List UInt8)) = true := beq_iff_eq.mpr c7
    have c7b1 : ((a0.extract (x6_1 : Int).toNat ((wrap64 (x6_1 + 1)) : Int).toNat).toList != ([38] : List UInt8)) = false := bne_eq_false_iff_eq.mpr c7
    clear c7
    by_cases c8 : x5_1.length + 5 < 140737488355328
    rotate_left 1
    ·rw [if_neg c8] at H
     exact absurd H (by simp)
    rw [if_pos c8] at H
    have LMc8 := Aside0.mk c8
    clear c8
    obtain ⟨y143, hy143⟩ : ∃ y_ : List Int, y_ = (x5_1 ++ bytesOf (⟨#[38, 97, 109, 112, 59]⟩ : ByteArray)) := ⟨_, rfl⟩
    replace H : (ya5.l0 k1 a0 a1 y143 (wrap64 (x6_1 + 1))) = some r := by first | (rw [hy143]; with_reducible exact H) | (have H2_ := (Option.bind_some _ _).symm.trans H; rw [hy143]; with_reducible exact H2_) | (have H2_ := (Option.bind_some _ _).symm.trans H; with_reducible exact H2_) | with_reducible exact H | (rw [hy143]; exact H) | exact H
    have Ny143 := Aside0.mk hy143
    clear hy143
    have H' := Aside0.mk H
    clear H
    go_wp2_with (first | (at_builtin; refine yf0 (w0 := w) w.heap.size rfl (.tmp 53) _ 69 9 5 rfl Tryd.underlying69 Tryd.underlying9 info5 u5 x5_1 (⟨#[38, 97, 109, 112, 59]⟩ : ByteArray) rfl rfl ?aO ?aB ?aS ?aL ?_; (case aB => exact (by repeat (first | (with_reducible first | exact HB.out | apply ya2 | apply ya0 | apply ya1) | exact HB.out))); (case aO => exact (Kd.yg3 (by (with_reducible repeat (first | apply Kd.yc7 | apply Kd.R_drewN | apply Kd.R_drew)); exact HO_5.out))); (case aS => exact (yb4 (by repeat (first | (with_reducible first | exact HB.out | apply ya2 | apply ya0 | apply ya1) | exact HB.out)))); (case aL => have := LMc8.out; first | omega | exact Nat.le_of_lt this); intro v144 w9 ho0 hb hg; have ho := Kd.yj5 (h1 := fun _ => rfl) (ok := fun _ => True) ho0 (fun _ _ => trivial); clear ho0; have hat := True.intro; rw [← Ny143.out] at ho; change Kd.R (Kd.int .u8) 5 w9 w.heap.size (fun _ => True) v144 y143 at ho; have n0_ := Aside0.mk (hb); have n1_ := Aside0.mk (ho); clear HB; clear HO_5; have HB := n0_; have HO145 := n1_; clear n0_ n1_; clear ho hb hg hat))
    go_roundg k1
    case measure => have := HK1.out; omega
    case rel => exact ⟨(y143), (wrap64 (x6_1 + 1)), (by first | rfl | (simp; done) | (simp [*]; done)), H', ⟨by have := HK1.out; omega⟩, ⟨by (with_reducible repeat (first | apply Kd.yc7 | apply Kd.R_drewN | apply Kd.R_drew)); exact HO145.out⟩, ⟨by repeat (first | (with_reducible first | exact HB.out | apply ya2 | apply ya0 | apply ya1) | exact HB.out)⟩⟩
   ·rw [if_neg c7] at H
    have c7b0 : ((a0.extract (x6_1 : Int).toNat ((wrap64 (x6_1 + 1)) : Int).toNat).toList == ([38] : List UInt8)) = false := beq_eq_false_iff_ne.mpr c7
    have c7b1 : ((a0.extract (x6_1 : Int).toNat ((wrap64 (x6_1 + 1)) : Int).toNat).toList != ([38] : List UInt8)) = true := bne_iff_ne.mpr c7
    by_cases c10 : (a0.extract (x6_1 : Int).toNat ((wrap64 (x6_1 + 1)) : Int).toNat).toList = ([60] : List UInt8)
    ·rw [if_pos c10] at H
     have c10b0 : ((a0.extract (x6_1 : Int).toNat ((wrap64 (x6_1 + 1)) : Int).toNat).toList == ([60] : List UInt8)) = true := beq_iff_eq.mpr c10
     have c10b1 : ((a0.extract (x6_1 : Int).toNat ((wrap64 (x6_1 + 1)) : Int).toNat).toList != ([60] : List UInt8)) = false := bne_eq_false_iff_eq.mpr c10
     clear c10
     by_cases c11 : x5_1.length + 4 < 140737488355328
     rotate_left 1
     ·rw [if_neg c11] at H
      exact absurd H (by simp)
     rw [if_pos c11] at H
     have LMc11 := Aside0.mk c11
     clear c11
     obtain ⟨y146, hy146⟩ : ∃ y_ : List Int, y_ = (x5_1 ++ bytesOf (⟨#[38, 108, 116, 59]⟩ : ByteArray)) := ⟨_, rfl⟩
     replace H : (ya5.l0 k1 a0 a1 y146 (wrap64 (x6_1 + 1))) = some r := by first | (rw [hy146]; with_reducible exact H) | (have H2_ := (Option.bind_some _ _).symm.trans H; rw [hy146]; with_reducible exact H2_) | (have H2_ := (Option.bind_some _ _).symm.trans H; with_reducible exact H2_) | with_reducible exact H | (rw [hy146]; exact H) | exact H
     have Ny146 := Aside0.mk hy146
     clear hy146
     have H' := Aside0.mk H
     clear H
     go_wp2_with (first | (at_builtin; refine yf0 (w0 := w) w.heap.size rfl (.tmp 53) _ 69 9 5 rfl Tryd.underlying69 Tryd.underlying9 info5 u5 x5_1 (⟨#[38, 108, 116, 59]⟩ : ByteArray) rfl rfl ?aO ?aB ?aS ?aL ?_; (case aB => exact (by repeat (first | (with_reducible first | exact HB.out | apply ya2 | apply ya0 | apply ya1) | exact HB.out))); (case aO => exact (Kd.yg3 (by (with_reducible repeat (first | apply Kd.yc7 | apply Kd.R_drewN | apply Kd.R_drew)); exact HO_5.out))); (case aS => exact (yb4 (by repeat (first | (with_reducible first | exact HB.out | apply ya2 | apply ya0 | apply ya1) | exact HB.out)))); (case aL => have := LMc11.out; first | omega | exact Nat.le_of_lt this); intro v147 w12 ho0 hb hg; have ho := Kd.yj5 (h1 := fun _ => rfl) (ok := fun _ => True) ho0 (fun _ _ => trivial); clear ho0; have hat := True.intro; rw [← Ny146.out] at ho; change Kd.R (Kd.int .u8) 5 w12 w.heap.size (fun _ => True) v147 y146 at ho; have n0_ := Aside0.mk (hb); have n1_ := Aside0.mk (ho); clear HB; clear HO_5; have HB := n0_; have HO148 := n1_; clear n0_ n1_; clear ho hb hg hat))
     go_roundg k1
     case measure => have := HK1.out; omega
     case rel => exact ⟨(y146), (wrap64 (x6_1 + 1)), (by first | rfl | (simp; done) | (simp [*]; done)), H', ⟨by have := HK1.out; omega⟩, ⟨by (with_reducible repeat (first | apply Kd.yc7 | apply Kd.R_drewN | apply Kd.R_drew)); exact HO148.out⟩, ⟨by repeat (first | (with_reducible first | exact HB.out | apply ya2 | apply ya0 | apply ya1) | exact HB.out)⟩⟩
    ·rw [if_neg c10] at H
     have c10b0 : ((a0.extract (x6_1 : Int).toNat ((wrap64 (x6_1 + 1)) : Int).toNat).toList == ([60] : List UInt8)) = false := beq_eq_false_iff_ne.mpr c10
     have c10b1 : ((a0.extract (x6_1 : Int).toNat ((wrap64 (x6_1 + 1)) : Int).toNat).toList != ([60] : List UInt8)) = true := bne_iff_ne.mpr c10
     by_cases c13 : (a0.extract (x6_1 : Int).toNat ((wrap64 (x6_1 + 1)) : Int).toNat).toList = ([13] : List UInt8)
     ·rw [if_pos c13] at H
      have c13b0 : ((a0.extract (x6_1 : Int).toNat ((wrap64 (x6_1 + 1)) : Int).toNat).toList == ([13] : List UInt8)) = true := beq_iff_eq.mpr c13
      have c13b1 : ((a0.extract (x6_1 : Int).toNat ((wrap64 (x6_1 + 1)) : Int).toNat).toList != ([13] : List UInt8)) = false := bne_eq_false_iff_eq.mpr c13
      clear c13
      by_cases c14 : x5_1.length + 5 < 140737488355328
      rotate_left 1
      ·rw [if_neg c14] at H
       exact absurd H (by simp)
      rw [if_pos c14] at H
      have LMc14 := Aside0.mk c14
      clear c14
      obtain ⟨y149, hy149⟩ : ∃ y_ : List Int, y_ = (x5_1 ++ bytesOf (⟨#[38, 35, 49, 51, 59]⟩ : ByteArray)) := ⟨_, rfl⟩
      replace H : (ya5.l0 k1 a0 a1 y149 (wrap64 (x6_1 + 1))) = some r := by first | (rw [hy149]; with_reducible exact H) | (have H2_ := (Option.bind_some _ _).symm.trans H; rw [hy149]; with_reducible exact H2_) | (have H2_ := (Option.bind_some _ _).symm.trans H; with_reducible exact H2_) | with_reducible exact H | (rw [hy149]; exact H) | exact H
      have Ny149 := Aside0.mk hy149
      clear hy149
      have H' := Aside0.mk H
      clear H
      go_wp2_with (first | (at_builtin; refine yf0 (w0 := w) w.heap.size rfl (.tmp 53) _ 69 9 5 rfl Tryd.underlying69 Tryd.underlying9 info5 u5 x5_1 (⟨#[38, 35, 49, 51, 59]⟩ : ByteArray) rfl rfl ?aO ?aB ?aS ?aL ?_; (case aB => exact (by repeat (first | (with_reducible first | exact HB.out | apply ya2 | apply ya0 | apply ya1) | exact HB.out))); (case aO => exact (Kd.yg3 (by (with_reducible repeat (first | apply Kd.yc7 | apply Kd.R_drewN | apply Kd.R_drew)); exact HO_5.out))); (case aS => exact (yb4 (by repeat (first | (with_reducible first | exact HB.out | apply ya2 | apply ya0 | apply ya1) | exact HB.out)))); (case aL => have := LMc14.out; first | omega | exact Nat.le_of_lt this); intro v150 w15 ho0 hb hg; have ho := Kd.yj5 (h1 := fun _ => rfl) (ok := fun _ => True) ho0 (fun _ _ => trivial); clear ho0; have hat := True.intro; rw [← Ny149.out] at ho; change Kd.R (Kd.int .u8) 5 w15 w.heap.size (fun _ => True) v150 y149 at ho; have n0_ := Aside0.mk (hb); have n1_ := Aside0.mk (ho); clear HB; clear HO_5; have HB := n0_; have HO151 := n1_; clear n0_ n1_; clear ho hb hg hat))
      go_roundg k1
      case measure => have := HK1.out; omega
      case rel => exact ⟨(y149), (wrap64 (x6_1 + 1)), (by first | rfl | (simp; done) | (simp [*]; done)), H', ⟨by have := HK1.out; omega⟩, ⟨by (with_reducible repeat (first | apply Kd.yc7 | apply Kd.R_drewN | apply Kd.R_drew)); exact HO151.out⟩, ⟨by repeat (first | (with_reducible first | exact HB.out | apply ya2 | apply ya0 | apply ya1) | exact HB.out)⟩⟩
     ·rw [if_neg c13] at H
      have c13b0 : ((a0.extract (x6_1 : Int).toNat ((wrap64 (x6_1 + 1)) : Int).toNat).toList == ([13] : List UInt8)) = false := beq_eq_false_iff_ne.mpr c13
      have c13b1 : ((a0.extract (x6_1 : Int).toNat ((wrap64 (x6_1 + 1)) : Int).toNat).toList != ([13] : List UInt8)) = true := bne_iff_ne.mpr c13
      have HC16 := Aside0.mk H
      clear H
      go_upto_region 12 with (fail)
      go_cut [28] (fun v28 wc => ∃ (kq : Nat) (x28_15 : Bool), v28 = .bool x28_15 ∧ Aside0 (ya5.j1 kq a0 a1 x5_1 x6_1 (a0.extract (x6_1 : Int).toNat ((wrap64 (x6_1 + 1)) : Int).toNat) x28_15 = some r) ∧ Aside0 (kq ≤ k1) ∧ Aside0 (Kd.R (Kd.int .u8) 5 wc w.heap.size (fun _ => True) u5 x5_1) ∧ Aside0 (Below w.heap.size w wc))
      case first =>
       have H := HC16.out
       clear HC16
       by_cases c17 : (a0.extract (x6_1 : Int).toNat ((wrap64 (x6_1 + 1)) : Int).toNat).toList = ([62] : List UInt8)
       rotate_left 1
       ·rw [if_neg c17] at H
        have c17b0 : ((a0.extract (x6_1 : Int).toNat ((wrap64 (x6_1 + 1)) : Int).toNat).toList == ([62] : List UInt8)) = false := beq_eq_false_iff_ne.mpr c17
        have c17b1 : ((a0.extract (x6_1 : Int).toNat ((wrap64 (x6_1 + 1)) : Int).toNat).toList != ([62] : List UInt8)) = true := bne_iff_ne.mpr c17
        (first | rw [c17b0] | (simp only [i64_w, i32_w]; rw [c17b0]) | skip)
        have H' := Aside0.mk H
        clear H
        go_wp2
        go_meet
        case rel => exact ⟨_, (false), (by first | rfl | (simp; done) | (simp [*]; done)), H', ⟨by have := HK1.out; first | omega | exact Nat.le_refl _⟩, ⟨by (with_reducible repeat (first | apply Kd.yc7 | apply Kd.R_drewN | apply Kd.R_drew)); exact HO_5.out⟩, ⟨by repeat (first | (with_reducible first | exact HB.out | apply ya2 | apply ya0 | apply ya1) | exact HB.out)⟩⟩
       rw [if_pos c17] at H
       have c17b0 : ((a0.extract (x6_1 : Int).toNat ((wrap64 (x6_1 + 1)) : Int).toNat).toList == ([62] : List UInt8)) = true := beq_iff_eq.mpr c17
       have c17b1 : ((a0.extract (x6_1 : Int).toNat ((wrap64 (x6_1 + 1)) : Int).toNat).toList != ([62] : List UInt8)) = false := bne_eq_false_iff_eq.mpr c17
       clear c17
       (first | rw [c17b0] | (simp only [i64_w, i32_w]; rw [c17b0]) | skip)
       have H' := Aside0.mk H
       clear H
       go_wp2
       go_meet
       case rel => exact ⟨_, (!a1), (by first | rfl | (simp; done) | (simp [*]; done)), H', ⟨by have := HK1.out; first | omega | exact Nat.le_refl _⟩, ⟨by (with_reducible repeat (first | apply Kd.yc7 | apply Kd.R_drewN | apply Kd.R_drew)); exact HO_5.out⟩, ⟨by repeat (first | (with_reducible first | exact HB.out | apply ya2 | apply ya0 | apply ya1) | exact HB.out)⟩⟩
      case rest =>
       clear HC16
       try clear c1
       try clear p2
       try clear c3
       try clear c3b0
       try clear c4
       try clear c4b0
       try clear c4b1
       try clear c5
       try clear c5b0
       try clear c5b1
       try clear c6
       try clear c6b0
       try clear c6b1
       try clear p6
       try clear c7
       try clear c7b0
       try clear c7b1
       try clear c8
       try clear c10
       try clear c10b0
       try clear c10b1
       try clear c11
       try clear c13
       try clear c13b0
       try clear c13b1
       try clear c14
       try clear c17
       try clear c17b0
       try clear c17b1
       try clear p2
       obtain ⟨kq, x28_15, rfl, HA, HJ15, HO_5, HB⟩ := hcut
       cases kq with
       | zero => exact absurd HA.out (by simp [ya5.j1])
       | succ kj15 =>
        have H := HA.out
        clear HA
        simp only [ya5.j1] at H
        by_cases c18 : x28_15 = true
        ·subst c18
         have H1 : (if x5_1.length + 4 < 140737488355328 then (ya5.l0 kj15 a0 a1 (x5_1 ++ bytesOf (⟨#[38, 103, 116, 59]⟩ : ByteArray)) (wrap64 (x6_1 + 1))) else (none)) = some r := by rw [if_pos rfl] at H; exact H
         clear H
         have H := H1
         clear H1
         by_cases c19 : x5_1.length + 4 < 140737488355328
         rotate_left 1
         ·rw [if_neg c19] at H
          exact absurd H (by simp)
         rw [if_pos c19] at H
         have LMc19 := Aside0.mk c19
         clear c19
         obtain ⟨y152, hy152⟩ : ∃ y_ : List Int, y_ = (x5_1 ++ bytesOf (⟨#[38, 103, 116, 59]⟩ : ByteArray)) := ⟨_, rfl⟩
         replace H : (ya5.l0 kj15 a0 a1 y152 (wrap64 (x6_1 + 1))) = some r := by first | (rw [hy152]; with_reducible exact H) | (have H2_ := (Option.bind_some _ _).symm.trans H; rw [hy152]; with_reducible exact H2_) | (have H2_ := (Option.bind_some _ _).symm.trans H; with_reducible exact H2_) | with_reducible exact H | (rw [hy152]; exact H) | exact H
         have Ny152 := Aside0.mk hy152
         clear hy152
         have H' := Aside0.mk H
         clear H
         go_wp2_with (first | (at_builtin; refine yf0 (w0 := w) w.heap.size rfl (.tmp 53) _ 69 9 5 rfl Tryd.underlying69 Tryd.underlying9 info5 u5 x5_1 (⟨#[38, 103, 116, 59]⟩ : ByteArray) rfl rfl ?aO ?aB ?aS ?aL ?_; (case aB => exact (by repeat (first | (with_reducible first | exact HB.out | apply ya2 | apply ya0 | apply ya1) | exact HB.out))); (case aO => exact (Kd.yg3 (by (with_reducible repeat (first | apply Kd.yc7 | apply Kd.R_drewN | apply Kd.R_drew)); exact HO_5.out))); (case aS => exact (yb4 (by repeat (first | (with_reducible first | exact HB.out | apply ya2 | apply ya0 | apply ya1) | exact HB.out)))); (case aL => have := LMc19.out; first | omega | exact Nat.le_of_lt this); intro v153 w20 ho0 hb hg; have ho := Kd.yj5 (h1 := fun _ => rfl) (ok := fun _ => True) ho0 (fun _ _ => trivial); clear ho0; have hat := True.intro; rw [← Ny152.out] at ho; change Kd.R (Kd.int .u8) 5 w20 w.heap.size (fun _ => True) v153 y152 at ho; have n0_ := Aside0.mk (hb); have n1_ := Aside0.mk (ho); clear HB; clear HO_5; have HB := n0_; have HO154 := n1_; clear n0_ n1_; clear ho hb hg hat))
         go_roundg kj15
         case measure => have := HK1.out; have := HJ15.out; omega
         case rel => exact ⟨(y152), (wrap64 (x6_1 + 1)), (by first | rfl | (simp; done) | (simp [*]; done)), H', ⟨by have := HK1.out; have := HJ15.out; omega⟩, ⟨by (with_reducible repeat (first | apply Kd.yc7 | apply Kd.R_drewN | apply Kd.R_drew)); exact HO154.out⟩, ⟨by repeat (first | (with_reducible first | exact HB.out | apply ya2 | apply ya0 | apply ya1) | exact HB.out)⟩⟩
        ·replace c18 := Bool.eq_false_iff.mpr c18
         subst c18
         have H1 : (if (a0.extract (x6_1 : Int).toNat ((wrap64 (x6_1 + 1)) : Int).toNat).toList = ([34] : List UInt8) then (ya5.j2 kj15 a0 a1 x5_1 x6_1 (a0.extract (x6_1 : Int).toNat ((wrap64 (x6_1 + 1)) : Int).toNat) a1) else (ya5.j2 kj15 a0 a1 x5_1 x6_1 (a0.extract (x6_1 : Int).toNat ((wrap64 (x6_1 + 1)) : Int).toNat) false)) = some r := by rw [if_neg (show ¬ (false = true) by decide)] at H; exact H
         clear H
         have H := H1
         clear H1
         have HC21 := Aside0.mk H
         clear H
         go_upto_region 14 with (fail)
         go_cut [35] (fun v35 wc => ∃ (kq : Nat) (x35_20 : Bool), v35 = .bool x35_20 ∧ Aside0 (ya5.j2 kq a0 a1 x5_1 x6_1 (a0.extract (x6_1 : Int).toNat ((wrap64 (x6_1 + 1)) : Int).toNat) x35_20 = some r) ∧ Aside0 (kq ≤ kj15) ∧ Aside0 (Kd.R (Kd.int .u8) 5 wc w.heap.size (fun _ => True) u5 x5_1) ∧ Aside0 (Below w.heap.size w wc))
         case first =>
          have H := HC21.out
          clear HC21
          by_cases c22 : (a0.extract (x6_1 : Int).toNat ((wrap64 (x6_1 + 1)) : Int).toNat).toList = ([34] : List UInt8)
          rotate_left 1
          ·rw [if_neg c22] at H
           have c22b0 : ((a0.extract (x6_1 : Int).toNat ((wrap64 (x6_1 + 1)) : Int).toNat).toList == ([34] : List UInt8)) = false := beq_eq_false_iff_ne.mpr c22
           have c22b1 : ((a0.extract (x6_1 : Int).toNat ((wrap64 (x6_1 + 1)) : Int).toNat).toList != ([34] : List UInt8)) = true := bne_iff_ne.mpr c22
           (first | rw [c22b0] | (simp only [i64_w, i32_w]; rw [c22b0]) | skip)
           have H' := Aside0.mk H
           clear H
           go_wp2
           go_meet
           case rel => exact ⟨_, (false), (by first | rfl | (simp; done) | (simp [*]; done)), H', ⟨by have := HK1.out; have := HJ15.out; first | omega | exact Nat.le_refl _⟩, ⟨by (with_reducible repeat (first | apply Kd.yc7 | apply Kd.R_drewN | apply Kd.R_drew)); exact HO_5.out⟩, ⟨by repeat (first | (with_reducible first | exact HB.out | apply ya2 | apply ya0 | apply ya1) | exact HB.out)⟩⟩
          rw [if_pos c22] at H
          have c22b0 : ((a0.extract (x6_1 : Int).toNat ((wrap64 (x6_1 + 1)) : Int).toNat).toList == ([34] : List UInt8)) = true := beq_iff_eq.mpr c22
          have c22b1 : ((a0.extract (x6_1 : Int).toNat ((wrap64 (x6_1 + 1)) : Int).toNat).toList != ([34] : List UInt8)) = false := bne_eq_false_iff_eq.mpr c22
          clear c22
          (first | rw [c22b0] | (simp only [i64_w, i32_w]; rw [c22b0]) | skip)
          have H' := Aside0.mk H
          clear H
          go_wp2
          go_meet
          case rel => exact ⟨_, (a1), (by first | rfl | (simp; done) | (simp [*]; done)), H', ⟨by have := HK1.out; have := HJ15.out; first | omega | exact Nat.le_refl _⟩, ⟨by (with_reducible repeat (first | apply Kd.yc7 | apply Kd.R_drewN | apply Kd.R_drew)); exact HO_5.out⟩, ⟨by repeat (first | (with_reducible first | exact HB.out | apply ya2 | apply ya0 | apply ya1) | exact HB.out)⟩⟩
         case rest =>
          clear HC21
          try clear c1
          try clear c2
          try clear p2
          try clear c3
          try clear c3b0
          try clear c4
          try clear c4b0
          try clear c4b1
          try clear c5
          try clear c5b0
          try clear c5b1
          try clear c6
          try clear c6b0
          try clear c6b1
          try clear p6
          try clear c7
          try clear c7b0
          try clear c7b1
          try clear c8
          try clear c10
          try clear c10b0
          try clear c10b1
          try clear c11
          try clear c13
          try clear c13b0
          try clear c13b1
          try clear c14
          try clear c17
          try clear c17b0
          try clear c17b1
          try clear c18
          try clear c19
          try clear c22
          try clear c22b0
          try clear c22b1
          try clear p2
          try clear p6
          obtain ⟨kq, x35_20, rfl, HA, HJ20, HO_5, HB⟩ := hcut
          cases kq with
          | zero => exact absurd HA.out (by simp [ya5.j2])
          | succ kj20 =>
           have H := HA.out
           clear HA
           simp only [ya5.j2] at H
           by_cases c23 : x35_20 = true
           ·subst c23
            have H1 : (if x5_1.length + 6 < 140737488355328 then (ya5.l0 kj20 a0 a1 (x5_1 ++ bytesOf (⟨#[38, 113, 117, 111, 116, 59]⟩ : ByteArray)) (wrap64 (x6_1 + 1))) else (none)) = some r := by rw [if_pos rfl] at H; exact H
            clear H
            have H := H1
            clear H1
            by_cases c24 : x5_1.length + 6 < 140737488355328
            rotate_left 1
            ·rw [if_neg c24] at H
             exact absurd H (by simp)
            rw [if_pos c24] at H
            have LMc24 := Aside0.mk c24
            clear c24
            obtain ⟨y155, hy155⟩ : ∃ y_ : List Int, y_ = (x5_1 ++ bytesOf (⟨#[38, 113, 117, 111, 116, 59]⟩ : ByteArray)) := ⟨_, rfl⟩
            replace H : (ya5.l0 kj20 a0 a1 y155 (wrap64 (x6_1 + 1))) = some r := by first | (rw [hy155]; with_reducible exact H) | (have H2_ := (Option.bind_some _ _).symm.trans H; rw [hy155]; with_reducible exact H2_) | (have H2_ := (Option.bind_some _ _).symm.trans H; with_reducible exact H2_) | with_reducible exact H | (rw [hy155]; exact H) | exact H
            have Ny155 := Aside0.mk hy155
            clear hy155
            have H' := Aside0.mk H
            clear H
            go_wp2_with (first | (at_builtin; refine yf0 (w0 := w) w.heap.size rfl (.tmp 53) _ 69 9 5 rfl Tryd.underlying69 Tryd.underlying9 info5 u5 x5_1 (⟨#[38, 113, 117, 111, 116, 59]⟩ : ByteArray) rfl rfl ?aO ?aB ?aS ?aL ?_; (case aB => exact (by repeat (first | (with_reducible first | exact HB.out | apply ya2 | apply ya0 | apply ya1) | exact HB.out))); (case aO => exact (Kd.yg3 (by (with_reducible repeat (first | apply Kd.yc7 | apply Kd.R_drewN | apply Kd.R_drew)); exact HO_5.out))); (case aS => exact (yb4 (by repeat (first | (with_reducible first | exact HB.out | apply ya2 | apply ya0 | apply ya1) | exact HB.out)))); (case aL => have := LMc24.out; first | omega | exact Nat.le_of_lt this); intro v156 w25 ho0 hb hg; have ho := Kd.yj5 (h1 := fun _ => rfl) (ok := fun _ => True) ho0 (fun _ _ => trivial); clear ho0; have hat := True.intro; rw [← Ny155.out] at ho; change Kd.R (Kd.int .u8) 5 w25 w.heap.size (fun _ => True) v156 y155 at ho; have n0_ := Aside0.mk (hb); have n1_ := Aside0.mk (ho); clear HB; clear HO_5; have HB := n0_; have HO157 := n1_; clear n0_ n1_; clear ho hb hg hat))
            go_roundg kj20
            case measure => have := HK1.out; have := HJ15.out; have := HJ20.out; omega
            case rel => exact ⟨(y155), (wrap64 (x6_1 + 1)), (by first | rfl | (simp; done) | (simp [*]; done)), H', ⟨by have := HK1.out; have := HJ15.out; have := HJ20.out; omega⟩, ⟨by (with_reducible repeat (first | apply Kd.yc7 | apply Kd.R_drewN | apply Kd.R_drew)); exact HO157.out⟩, ⟨by repeat (first | (with_reducible first | exact HB.out | apply ya2 | apply ya0 | apply ya1) | exact HB.out)⟩⟩
           ·replace c23 := Bool.eq_false_iff.mpr c23
            subst c23
            have H1 : (if (a0.extract (x6_1 : Int).toNat ((wrap64 (x6_1 + 1)) : Int).toNat).toList = ([9] : List UInt8) then (ya5.j3 kj20 a0 a1 x5_1 x6_1 (a0.extract (x6_1 : Int).toNat ((wrap64 (x6_1 + 1)) : Int).toNat) a1) else (ya5.j3 kj20 a0 a1 x5_1 x6_1 (a0.extract (x6_1 : Int).toNat ((wrap64 (x6_1 + 1)) : Int).toNat) false)) = some r := by rw [if_neg (show ¬ (false = true) by decide)] at H; exact H
            clear H
            have H := H1
            clear H1
            have HC26 := Aside0.mk H
            clear H
            go_upto_region 16 with (fail)
            go_cut [41] (fun v41 wc => ∃ (kq : Nat) (x41_25 : Bool), v41 = .bool x41_25 ∧ Aside0 (ya5.j3 kq a0 a1 x5_1 x6_1 (a0.extract (x6_1 : Int).toNat ((wrap64 (x6_1 + 1)) : Int).toNat) x41_25 = some r) ∧ Aside0 (kq ≤ kj20) ∧ Aside0 (Kd.R (Kd.int .u8) 5 wc w.heap.size (fun _ => True) u5 x5_1) ∧ Aside0 (Below w.heap.size w wc))
            case first =>
             have H := HC26.out
             clear HC26
             by_cases c27 : (a0.extract (x6_1 : Int).toNat ((wrap64 (x6_1 + 1)) : Int).toNat).toList = ([9] : List UInt8)
             rotate_left 1
             ·rw [if_neg c27] at H
              have c27b0 : ((a0.extract (x6_1 : Int).toNat ((wrap64 (x6_1 + 1)) : Int).toNat).toList == ([9] : List UInt8)) = false := beq_eq_false_iff_ne.mpr c27
              have c27b1 : ((a0.extract (x6_1 : Int).toNat ((wrap64 (x6_1 + 1)) : Int).toNat).toList != ([9] : List UInt8)) = true := bne_iff_ne.mpr c27
              (first | rw [c27b0] | (simp only [i64_w, i32_w]; rw [c27b0]) | skip)
              have H' := Aside0.mk H
              clear H
              go_wp2
              go_meet
              case rel => exact ⟨_, (false), (by first | rfl | (simp; done) | (simp [*]; done)), H', ⟨by have := HK1.out; have := HJ15.out; have := HJ20.out; first | omega | exact Nat.le_refl _⟩, ⟨by (with_reducible repeat (first | apply Kd.yc7 | apply Kd.R_drewN | apply Kd.R_drew)); exact HO_5.out⟩, ⟨by repeat (first | (with_reducible first | exact HB.out | apply ya2 | apply ya0 | apply ya1) | exact HB.out)⟩⟩
             rw [if_pos c27] at H
             have c27b0 : ((a0.extract (x6_1 : Int).toNat ((wrap64 (x6_1 + 1)) : Int).toNat).toList == ([9] : List UInt8)) = true := beq_iff_eq.mpr c27
             have c27b1 : ((a0.extract (x6_1 : Int).toNat ((wrap64 (x6_1 + 1)) : Int).toNat).toList != ([9] : List UInt8)) = false := bne_eq_false_iff_eq.mpr c27
             clear c27
             (first | rw [c27b0] | (simp only [i64_w, i32_w]; rw [c27b0]) | skip)
             have H' := Aside0.mk H
             clear H
             go_wp2
             go_meet
             case rel => exact ⟨_, (a1), (by first | rfl | (simp; done) | (simp [*]; done)), H', ⟨by have := HK1.out; have := HJ15.out; have := HJ20.out; first | omega | exact Nat.le_refl _⟩, ⟨by (with_reducible repeat (first | apply Kd.yc7 | apply Kd.R_drewN | apply Kd.R_drew)); exact HO_5.out⟩, ⟨by repeat (first | (with_reducible first | exact HB.out | apply ya2 | apply ya0 | apply ya1) | exact HB.out)⟩⟩
            case rest =>
             clear HC26
             try clear c1
             try clear c2
             try clear p2
             try clear c3
             try clear c3b0
             try clear c4
             try clear c4b0
             try clear c4b1
             try clear c5
             try clear c5b0
             try clear c5b1
             try clear c6
             try clear c6b0
             try clear c6b1
             try clear p6
             try clear c7
             try clear c7b0
             try clear c7b1
             try clear c8
             try clear c10
             try clear c10b0
             try clear c10b1
             try clear c11
             try clear c13
             try clear c13b0
             try clear c13b1
             try clear c14
             try clear c17
             try clear c17b0
             try clear c17b1
             try clear c18
             try clear c19
             try clear c22
             try clear c22b0
             try clear c22b1
             try clear c23
             try clear c24
             try clear c27
             try clear c27b0
             try clear c27b1
             try clear p2
             try clear p6
             obtain ⟨kq, x41_25, rfl, HA, HJ25, HO_5, HB⟩ := hcut
             cases kq with
             | zero => exact absurd HA.out (by simp [ya5.j3])
             | succ kj25 =>
              have H := HA.out
              clear HA
              simp only [ya5.j3] at H
              by_cases c28 : x41_25 = true
              ·subst c28
               have H1 : (if x5_1.length + 4 < 140737488355328 then (ya5.l0 kj25 a0 a1 (x5_1 ++ bytesOf (⟨#[38, 35, 57, 59]⟩ : ByteArray)) (wrap64 (x6_1 + 1))) else (none)) = some r := by rw [if_pos rfl] at H; exact H
               clear H
               have H := H1
               clear H1
               by_cases c29 : x5_1.length + 4 < 140737488355328
               rotate_left 1
               ·rw [if_neg c29] at H
                exact absurd H (by simp)
               rw [if_pos c29] at H
               have LMc29 := Aside0.mk c29
               clear c29
               obtain ⟨y158, hy158⟩ : ∃ y_ : List Int, y_ = (x5_1 ++ bytesOf (⟨#[38, 35, 57, 59]⟩ : ByteArray)) := ⟨_, rfl⟩
               replace H : (ya5.l0 kj25 a0 a1 y158 (wrap64 (x6_1 + 1))) = some r := by first | (rw [hy158]; with_reducible exact H) | (have H2_ := (Option.bind_some _ _).symm.trans H; rw [hy158]; with_reducible exact H2_) | (have H2_ := (Option.bind_some _ _).symm.trans H; with_reducible exact H2_) | with_reducible exact H | (rw [hy158]; exact H) | exact H
               have Ny158 := Aside0.mk hy158
               clear hy158
               have H' := Aside0.mk H
               clear H
               go_wp2_with (first | (at_builtin; refine yf0 (w0 := w) w.heap.size rfl (.tmp 53) _ 69 9 5 rfl Tryd.underlying69 Tryd.underlying9 info5 u5 x5_1 (⟨#[38, 35, 57, 59]⟩ : ByteArray) rfl rfl ?aO ?aB ?aS ?aL ?_; (case aB => exact (by repeat (first | (with_reducible first | exact HB.out | apply ya2 | apply ya0 | apply ya1) | exact HB.out))); (case aO => exact (Kd.yg3 (by (with_reducible repeat (first | apply Kd.yc7 | apply Kd.R_drewN | apply Kd.R_drew)); exact HO_5.out))); (case aS => exact (yb4 (by repeat (first | (with_reducible first | exact HB.out | apply ya2 | apply ya0 | apply ya1) | exact HB.out)))); (case aL => have := LMc29.out; first | omega | exact Nat.le_of_lt this); intro v159 w30 ho0 hb hg; have ho := Kd.yj5 (h1 := fun _ => rfl) (ok := fun _ => True) ho0 (fun _ _ => trivial); clear ho0; have hat := True.intro; rw [← Ny158.out] at ho; change Kd.R (Kd.int .u8) 5 w30 w.heap.size (fun _ => True) v159 y158 at ho; have n0_ := Aside0.mk (hb); have n1_ := Aside0.mk (ho); clear HB; clear HO_5; have HB := n0_; have HO160 := n1_; clear n0_ n1_; clear ho hb hg hat))
               go_roundg kj25
               case measure => have := HK1.out; have := HJ15.out; have := HJ20.out; have := HJ25.out; omega
               case rel => exact ⟨(y158), (wrap64 (x6_1 + 1)), (by first | rfl | (simp; done) | (simp [*]; done)), H', ⟨by have := HK1.out; have := HJ15.out; have := HJ20.out; have := HJ25.out; omega⟩, ⟨by (with_reducible repeat (first | apply Kd.yc7 | apply Kd.R_drewN | apply Kd.R_drew)); exact HO160.out⟩, ⟨by repeat (first | (with_reducible first | exact HB.out | apply ya2 | apply ya0 | apply ya1) | exact HB.out)⟩⟩
              ·replace c28 := Bool.eq_false_iff.mpr c28
               subst c28
               have H1 : (if (a0.extract (x6_1 : Int).toNat ((wrap64 (x6_1 + 1)) : Int).toNat).toList = ([10] : List UInt8) then (if a1 = true then (if x5_1.length + 5 < 140737488355328 then (ya5.l0 kj25 a0 a1 (x5_1 ++ bytesOf (⟨#[38, 35, 49, 48, 59]⟩ : ByteArray)) (wrap64 (x6_1 + 1))) else (none)) else (if x5_1.length + (a0.extract (x6_1 : Int).toNat ((wrap64 (x6_1 + 1)) : Int).toNat).size < 140737488355328 then (ya5.l0 kj25 a0 a1 (x5_1 ++ bytesOf (a0.extract (x6_1 : Int).toNat ((wrap64 (x6_1 + 1)) : Int).toNat)) (wrap64 (x6_1 + 1))) else (none))) else (if x5_1.length + (a0.extract (x6_1 : Int).toNat ((wrap64 (x6_1 + 1)) : Int).toNat).size < 140737488355328 then (ya5.l0 kj25 a0 a1 (x5_1 ++ bytesOf (a0.extract (x6_1 : Int).toNat ((wrap64 (x6_1 + 1)) : Int).toNat)) (wrap64 (x6_1 + 1))) else (none))) = some r := by rw [if_neg (show ¬ (false = true) by decide)] at H; exact H
               clear H
               have H := H1
               clear H1
               by_cases c31 : (a0.extract (x6_1 : Int).toNat ((wrap64 (x6_1 + 1)) : Int).toNat).toList = ([10] : List UInt8)
               ·rw [if_pos c31] at H
                have c31b0 : ((a0.extract (x6_1 : Int).toNat ((wrap64 (x6_1 + 1)) : Int).toNat).toList == ([10] : List UInt8)) = true := beq_iff_eq.mpr c31
                have c31b1 : ((a0.extract (x6_1 : Int).toNat ((wrap64 (x6_1 + 1)) : Int).toNat).toList != ([10] : List UInt8)) = false := bne_eq_false_iff_eq.mpr c31
                clear c31
                by_cases c32 : a1 = true
                ·subst c32
                 have H1 : (if x5_1.length + 5 < 140737488355328 then (ya5.l0 kj25 a0 true (x5_1 ++ bytesOf (⟨#[38, 35, 49, 48, 59]⟩ : ByteArray)) (wrap64 (x6_1 + 1))) else (none)) = some r := by rw [if_pos rfl] at H; exact H
                 clear H
                 have H := H1
                 clear H1
                 by_cases c33 : x5_1.length + 5 < 140737488355328
                 rotate_left 1
                 ·rw [if_neg c33] at H
                  exact absurd H (by simp)
                 rw [if_pos c33] at H
                 have LMc33 := Aside0.mk c33
                 clear c33
                 obtain ⟨y161, hy161⟩ : ∃ y_ : List Int, y_ = (x5_1 ++ bytesOf (⟨#[38, 35, 49, 48, 59]⟩ : ByteArray)) := ⟨_, rfl⟩
                 replace H : (ya5.l0 kj25 a0 true y161 (wrap64 (x6_1 + 1))) = some r := by first | (rw [hy161]; with_reducible exact H) | (have H2_ := (Option.bind_some _ _).symm.trans H; rw [hy161]; with_reducible exact H2_) | (have H2_ := (Option.bind_some _ _).symm.trans H; with_reducible exact H2_) | with_reducible exact H | (rw [hy161]; exact H) | exact H
                 have Ny161 := Aside0.mk hy161
                 clear hy161
                 have H' := Aside0.mk H
                 clear H
                 go_wp2_with (first | (at_builtin; refine yf0 (w0 := w) w.heap.size rfl (.tmp 53) _ 69 9 5 rfl Tryd.underlying69 Tryd.underlying9 info5 u5 x5_1 (⟨#[38, 35, 49, 48, 59]⟩ : ByteArray) rfl rfl ?aO ?aB ?aS ?aL ?_; (case aB => exact (by repeat (first | (with_reducible first | exact HB.out | apply ya2 | apply ya0 | apply ya1) | exact HB.out))); (case aO => exact (Kd.yg3 (by (with_reducible repeat (first | apply Kd.yc7 | apply Kd.R_drewN | apply Kd.R_drew)); exact HO_5.out))); (case aS => exact (yb4 (by repeat (first | (with_reducible first | exact HB.out | apply ya2 | apply ya0 | apply ya1) | exact HB.out)))); (case aL => have := LMc33.out; first | omega | exact Nat.le_of_lt this); intro v162 w34 ho0 hb hg; have ho := Kd.yj5 (h1 := fun _ => rfl) (ok := fun _ => True) ho0 (fun _ _ => trivial); clear ho0; have hat := True.intro; rw [← Ny161.out] at ho; change Kd.R (Kd.int .u8) 5 w34 w.heap.size (fun _ => True) v162 y161 at ho; have n0_ := Aside0.mk (hb); have n1_ := Aside0.mk (ho); clear HB; clear HO_5; have HB := n0_; have HO163 := n1_; clear n0_ n1_; clear ho hb hg hat))
                 go_roundg kj25
                 case measure => have := HK1.out; have := HJ15.out; have := HJ20.out; have := HJ25.out; omega
                 case rel => exact ⟨(y161), (wrap64 (x6_1 + 1)), (by first | rfl | (simp; done) | (simp [*]; done)), H', ⟨by have := HK1.out; have := HJ15.out; have := HJ20.out; have := HJ25.out; omega⟩, ⟨by (with_reducible repeat (first | apply Kd.yc7 | apply Kd.R_drewN | apply Kd.R_drew)); exact HO163.out⟩, ⟨by repeat (first | (with_reducible first | exact HB.out | apply ya2 | apply ya0 | apply ya1) | exact HB.out)⟩⟩
                ·replace c32 := Bool.eq_false_iff.mpr c32
                 subst c32
                 have H1 : (if x5_1.length + (a0.extract (x6_1 : Int).toNat ((wrap64 (x6_1 + 1)) : Int).toNat).size < 140737488355328 then (ya5.l0 kj25 a0 false (x5_1 ++ bytesOf (a0.extract (x6_1 : Int).toNat ((wrap64 (x6_1 + 1)) : Int).toNat)) (wrap64 (x6_1 + 1))) else (none)) = some r := by rw [if_neg (show ¬ (false = true) by decide)] at H; exact H
                 clear H
                 have H := H1
                 clear H1
                 by_cases c35 : x5_1.length + (a0.extract (x6_1 : Int).toNat ((wrap64 (x6_1 + 1)) : Int).toNat).size < 140737488355328
                 rotate_left 1
                 ·rw [if_neg c35] at H
                  exact absurd H (by simp)
                 rw [if_pos c35] at H
                 have LMc35 := Aside0.mk c35
                 clear c35
                 obtain ⟨y164, hy164⟩ : ∃ y_ : List Int, y_ = (x5_1 ++ bytesOf (a0.extract (x6_1 : Int).toNat ((wrap64 (x6_1 + 1)) : Int).toNat)) := ⟨_, rfl⟩
                 replace H : (ya5.l0 kj25 a0 false y164 (wrap64 (x6_1 + 1))) = some r := by first | (rw [hy164]; with_reducible exact H) | (have H2_ := (Option.bind_some _ _).symm.trans H; rw [hy164]; with_reducible exact H2_) | (have H2_ := (Option.bind_some _ _).symm.trans H; with_reducible exact H2_) | with_reducible exact H | (rw [hy164]; exact H) | exact H
                 have Ny164 := Aside0.mk hy164
                 clear hy164
                 have H' := Aside0.mk H
                 clear H
                 go_wp2_with (first | (at_builtin; refine yf0 (w0 := w) w.heap.size rfl (.tmp 53) _ 69 9 5 rfl Tryd.underlying69 Tryd.underlying9 info5 u5 x5_1 (a0.extract (x6_1 : Int).toNat ((wrap64 (x6_1 + 1)) : Int).toNat) rfl rfl ?aO ?aB ?aS ?aL ?_; (case aB => exact (by repeat (first | (with_reducible first | exact HB.out | apply ya2 | apply ya0 | apply ya1) | exact HB.out))); (case aO => exact (Kd.yg3 (by (with_reducible repeat (first | apply Kd.yc7 | apply Kd.R_drewN | apply Kd.R_drew)); exact HO_5.out))); (case aS => exact (yb4 (by repeat (first | (with_reducible first | exact HB.out | apply ya2 | apply ya0 | apply ya1) | exact HB.out)))); (case aL => have := LMc35.out; first | omega | exact Nat.le_of_lt this); intro v165 w36 ho0 hb hg; have ho := Kd.yj5 (h1 := fun _ => rfl) (ok := fun _ => True) ho0 (fun _ _ => trivial); clear ho0; have hat := True.intro; rw [← Ny164.out] at ho; change Kd.R (Kd.int .u8) 5 w36 w.heap.size (fun _ => True) v165 y164 at ho; have n0_ := Aside0.mk (hb); have n1_ := Aside0.mk (ho); clear HB; clear HO_5; have HB := n0_; have HO166 := n1_; clear n0_ n1_; clear ho hb hg hat))
                 go_roundg kj25
                 case measure => have := HK1.out; have := HJ15.out; have := HJ20.out; have := HJ25.out; omega
                 case rel => exact ⟨(y164), (wrap64 (x6_1 + 1)), (by first | rfl | (simp; done) | (simp [*]; done)), H', ⟨by have := HK1.out; have := HJ15.out; have := HJ20.out; have := HJ25.out; omega⟩, ⟨by (with_reducible repeat (first | apply Kd.yc7 | apply Kd.R_drewN | apply Kd.R_drew)); exact HO166.out⟩, ⟨by repeat (first | (with_reducible first | exact HB.out | apply ya2 | apply ya0 | apply ya1) | exact HB.out)⟩⟩
               ·rw [if_neg c31] at H
                have c31b0 : ((a0.extract (x6_1 : Int).toNat ((wrap64 (x6_1 + 1)) : Int).toNat).toList == ([10] : List UInt8)) = false := beq_eq_false_iff_ne.mpr c31
                have c31b1 : ((a0.extract (x6_1 : Int).toNat ((wrap64 (x6_1 + 1)) : Int).toNat).toList != ([10] : List UInt8)) = true := bne_iff_ne.mpr c31
                by_cases c37 : x5_1.length + (a0.extract (x6_1 : Int).toNat ((wrap64 (x6_1 + 1)) : Int).toNat).size < 140737488355328
                rotate_left 1
                ·rw [if_neg c37] at H
                 exact absurd H (by simp)
                rw [if_pos c37] at H
                have LMc37 := Aside0.mk c37
                clear c37
                obtain ⟨y167, hy167⟩ : ∃ y_ : List Int, y_ = (x5_1 ++ bytesOf (a0.extract (x6_1 : Int).toNat ((wrap64 (x6_1 + 1)) : Int).toNat)) := ⟨_, rfl⟩
                replace H : (ya5.l0 kj25 a0 a1 y167 (wrap64 (x6_1 + 1))) = some r := by first | (rw [hy167]; with_reducible exact H) | (have H2_ := (Option.bind_some _ _).symm.trans H; rw [hy167]; with_reducible exact H2_) | (have H2_ := (Option.bind_some _ _).symm.trans H; with_reducible exact H2_) | with_reducible exact H | (rw [hy167]; exact H) | exact H
                have Ny167 := Aside0.mk hy167
                clear hy167
                have H' := Aside0.mk H
                clear H
                go_wp2_with (first | (at_builtin; refine yf0 (w0 := w) w.heap.size rfl (.tmp 53) _ 69 9 5 rfl Tryd.underlying69 Tryd.underlying9 info5 u5 x5_1 (a0.extract (x6_1 : Int).toNat ((wrap64 (x6_1 + 1)) : Int).toNat) rfl rfl ?aO ?aB ?aS ?aL ?_; (case aB => exact (by repeat (first | (with_reducible first | exact HB.out | apply ya2 | apply ya0 | apply ya1) | exact HB.out))); (case aO => exact (Kd.yg3 (by (with_reducible repeat (first | apply Kd.yc7 | apply Kd.R_drewN | apply Kd.R_drew)); exact HO_5.out))); (case aS => exact (yb4 (by repeat (first | (with_reducible first | exact HB.out | apply ya2 | apply ya0 | apply ya1) | exact HB.out)))); (case aL => have := LMc37.out; first | omega | exact Nat.le_of_lt this); intro v168 w38 ho0 hb hg; have ho := Kd.yj5 (h1 := fun _ => rfl) (ok := fun _ => True) ho0 (fun _ _ => trivial); clear ho0; have hat := True.intro; rw [← Ny167.out] at ho; change Kd.R (Kd.int .u8) 5 w38 w.heap.size (fun _ => True) v168 y167 at ho; have n0_ := Aside0.mk (hb); have n1_ := Aside0.mk (ho); clear HB; clear HO_5; have HB := n0_; have HO169 := n1_; clear n0_ n1_; clear ho hb hg hat))
                go_roundg kj25
                case measure => have := HK1.out; have := HJ15.out; have := HJ20.out; have := HJ25.out; omega
                case rel => exact ⟨(y167), (wrap64 (x6_1 + 1)), (by first | rfl | (simp; done) | (simp [*]; done)), H', ⟨by have := HK1.out; have := HJ15.out; have := HJ20.out; have := HJ25.out; omega⟩, ⟨by (with_reducible repeat (first | apply Kd.yc7 | apply Kd.R_drewN | apply Kd.R_drew)); exact HO169.out⟩, ⟨by repeat (first | (with_reducible first | exact HB.out | apply ya2 | apply ya0 | apply ya1) | exact HB.out)⟩⟩
def ye5.f (a0_0 : ByteArray) (a0_1 : ByteArray) (a0_2 : ByteArray) (a1_0 : ByteArray) (a1_1 : ByteArray) (a1_2 : ByteArray) : Option (Bool) := if a0_0.toList = a1_0.toList then (some (Op.bytesLess a0_1.toList a1_1.toList)) else (some (Op.bytesLess a0_0.toList a1_0.toList))
set_option maxHeartbeats 8000000 in
set_option maxRecDepth 100000 in
theorem ye5.calls (a0_0 : ByteArray) (a0_1 : ByteArray) (a0_2 : ByteArray) (a1_0 : ByteArray) (a1_1 : ByteArray) (a1_2 : ByteArray) (r : Bool) (w : World) (h : ye5.f a0_0 a0_1 a0_2 a1_0 a1_1 a1_2 = some r) :
  Calls Tryd.prog 110 #[.agg #[.string a0_0, .string a0_1, .string a0_2], .agg #[.string a1_0, .string a1_1, .string a1_2]] w fun e w' => e = .returned (.bool r) ∧ Below w.heap.size w w' := by
 have hu63 := Tryd.underlying63
 have HB := Aside0.mk (Below.refl w.heap.size w)
 have H : (if a0_0.toList = a1_0.toList then (some (Op.bytesLess a0_1.toList a1_1.toList)) else (some (Op.bytesLess a0_0.toList a1_0.toList))) = some r := h
 clear h
 by_cases c3 : a0_0.toList = a1_0.toList
 rotate_left 1
 ·rw [if_neg c3] at H
  have c3b0 : (a0_0.toList == a1_0.toList) = false := beq_eq_false_iff_ne.mpr c3
  have c3b1 : (a0_0.toList != a1_0.toList) = true := bne_iff_ne.mpr c3
  obtain rfl := Option.some.inj H
  go_enter Tryd.func110, Tryd.ntmps110
  go_wp2_with (first | ((with_reducible refine yd2 (N := 2) rfl ?_); refine yd3 ?hg (N := 2) ?hd (cs := #[.string a0_0, .string a0_1, .string a0_2]) (t := 63) ?hr ?_; (case hd => rfl); (case hg => rfl); (case hr => first | (go_simp; done) | (go_simp; rfl)); intro gb170 hg w9 hbox hb; have n0_ := Aside0.mk (ya7 (by repeat (first | (with_reducible first | exact HB.out | apply ya2 | apply ya0 | apply ya1) | exact HB.out)) hb); have n1_ := Aside0.mk (hbox); have n2_ := Aside0.mk ((by rw [hg]; exact (yb4 (by repeat (first | (with_reducible first | exact HB.out | apply ya2 | apply ya0 | apply ya1) | exact HB.out))) : w.heap.size ≤ gb170)); have n3_ := Aside0.mk ((by rw [hg]; exact (yb4 (by repeat (first | (with_reducible first | exact HB.out | apply ya2 | apply ya0 | apply ya1) | exact HB.out))) : w.heap.size ≤ gb170)); clear HB; have HB := n0_; have BK170 := n1_; have GW170 := n2_; have GE170 := n3_; clear n0_ n1_ n2_ n3_; clear hb hbox hg) | ((with_reducible refine yd2 (N := 3) rfl ?_); refine yd3 ?hg (N := 3) ?hd (cs := #[.string a1_0, .string a1_1, .string a1_2]) (t := 63) ?hr ?_; (case hd => rfl); (case hg => rfl); (case hr => first | (go_simp; done) | (go_simp; rfl)); intro gb171 hg w10 hbox hb; have n0_ := Aside0.mk (yb9 (g := gb170) (o := .cells #[.string a0_0, .string a0_1, .string a0_2] 63 (0, 0)) (by (with_reducible repeat (first | refine ya8 ?_ _ | refine ya9 ?_ | refine blk_alloc ?_ _)); exact BK170.out) hb); have n1_ := Aside0.mk (ya7 (by repeat (first | (with_reducible first | exact HB.out | apply ya2 | apply ya0 | apply ya1 | refine ya6 ?_ GE170.out) | exact HB.out)) hb); have n2_ := Aside0.mk (hbox); have n3_ := Aside0.mk ((by rw [hg]; exact (yb4 (by repeat (first | (with_reducible first | exact HB.out | apply ya2 | apply ya0 | apply ya1 | refine ya6 ?_ GE170.out) | exact HB.out))) : w.heap.size ≤ gb171)); have n4_ := Aside0.mk ((by rw [hg]; exact (yb4 (by repeat (first | (with_reducible first | exact HB.out | apply ya2 | apply ya0 | apply ya1 | refine ya6 ?_ GE170.out) | exact HB.out))) : w.heap.size ≤ gb171)); have n5_ := Aside0.mk ((by rw [hg]; exact Nat.ne_of_lt (blk_lt (g := gb170) (o := .cells #[.string a0_0, .string a0_1, .string a0_2] 63 (0, 0)) (by (with_reducible repeat (first | refine ya8 ?_ _ | refine ya9 ?_ | refine blk_alloc ?_ _)); exact BK170.out)) : gb170 ≠ gb171)); have n6_ := Aside0.mk ((by rw [hg]; exact Nat.ne_of_gt (blk_lt (g := gb170) (o := .cells #[.string a0_0, .string a0_1, .string a0_2] 63 (0, 0)) (by (with_reducible repeat (first | refine ya8 ?_ _ | refine ya9 ?_ | refine blk_alloc ?_ _)); exact BK170.out)) : gb171 ≠ gb170)); clear BK170; clear HB; have BK170 := n0_; have HB := n1_; have BK171 := n2_; have GW171 := n3_; have GE171 := n4_; have NB170_171 := n5_; have NB171_170 := n6_; clear n0_ n1_ n2_ n3_ n4_ n5_ n6_; clear hb hbox hg; have hnb11 := NB170_171.out; have hnc11 := NB171_170.out; obtain ⟨hcz12_0, hcz12_1, hcz12_2, hfz12_0, hfz12_1, hfz12_2⟩ := bx3 BK170.out; obtain ⟨hcz13_0, hcz13_1, hcz13_2, hfz13_0, hfz13_1, hfz13_2⟩ := bx3 BK171.out))
  go_ret
  exact ⟨by first | rfl | (simp [yb3, yb2] <;> rfl) | (simp [*, yb3, yb2] <;> rfl), by repeat (first | (with_reducible first | exact HB.out | apply ya2 | apply ya0 | apply ya1 | refine ya6 ?_ GE170.out | refine ya6 ?_ GE171.out) | exact HB.out)⟩

 rw [if_pos c3] at H
 have c3b0 : (a0_0.toList == a1_0.toList) = true := beq_iff_eq.mpr c3
 have c3b1 : (a0_0.toList != a1_0.toList) = false := bne_eq_false_iff_eq.mpr c3
 clear c3
 obtain rfl := Option.some.inj H
 go_enter Tryd.func110, Tryd.ntmps110
 go_wp2_with (first | ((with_reducible refine yd2 (N := 2) rfl ?_); refine yd3 ?hg (N := 2) ?hd (cs := #[.string a0_0, .string a0_1, .string a0_2]) (t := 63) ?hr ?_; (case hd => rfl); (case hg => rfl); (case hr => first | (go_simp; done) | (go_simp; rfl)); intro gb170 hg w4 hbox hb; have n0_ := Aside0.mk (ya7 (by repeat (first | (with_reducible first | exact HB.out | apply ya2 | apply ya0 | apply ya1) | exact HB.out)) hb); have n1_ := Aside0.mk (hbox); have n2_ := Aside0.mk ((by rw [hg]; exact (yb4 (by repeat (first | (with_reducible first | exact HB.out | apply ya2 | apply ya0 | apply ya1) | exact HB.out))) : w.heap.size ≤ gb170)); have n3_ := Aside0.mk ((by rw [hg]; exact (yb4 (by repeat (first | (with_reducible first | exact HB.out | apply ya2 | apply ya0 | apply ya1) | exact HB.out))) : w.heap.size ≤ gb170)); clear HB; have HB := n0_; have BK170 := n1_; have GW170 := n2_; have GE170 := n3_; clear n0_ n1_ n2_ n3_; clear hb hbox hg) | ((with_reducible refine yd2 (N := 3) rfl ?_); refine yd3 ?hg (N := 3) ?hd (cs := #[.string a1_0, .string a1_1, .string a1_2]) (t := 63) ?hr ?_; (case hd => rfl); (case hg => rfl); (case hr => first | (go_simp; done) | (go_simp; rfl)); intro gb171 hg w5 hbox hb; have n0_ := Aside0.mk (yb9 (g := gb170) (o := .cells #[.string a0_0, .string a0_1, .string a0_2] 63 (0, 0)) (by (with_reducible repeat (first | refine ya8 ?_ _ | refine ya9 ?_ | refine blk_alloc ?_ _)); exact BK170.out) hb); have n1_ := Aside0.mk (ya7 (by repeat (first | (with_reducible first | exact HB.out | apply ya2 | apply ya0 | apply ya1 | refine ya6 ?_ GE170.out) | exact HB.out)) hb); have n2_ := Aside0.mk (hbox); have n3_ := Aside0.mk ((by rw [hg]; exact (yb4 (by repeat (first | (with_reducible first | exact HB.out | apply ya2 | apply ya0 | apply ya1 | refine ya6 ?_ GE170.out) | exact HB.out))) : w.heap.size ≤ gb171)); have n4_ := Aside0.mk ((by rw [hg]; exact (yb4 (by repeat (first | (with_reducible first | exact HB.out | apply ya2 | apply ya0 | apply ya1 | refine ya6 ?_ GE170.out) | exact HB.out))) : w.heap.size ≤ gb171)); have n5_ := Aside0.mk ((by rw [hg]; exact Nat.ne_of_lt (blk_lt (g := gb170) (o := .cells #[.string a0_0, .string a0_1, .string a0_2] 63 (0, 0)) (by (with_reducible repeat (first | refine ya8 ?_ _ | refine ya9 ?_ | refine blk_alloc ?_ _)); exact BK170.out)) : gb170 ≠ gb171)); have n6_ := Aside0.mk ((by rw [hg]; exact Nat.ne_of_gt (blk_lt (g := gb170) (o := .cells #[.string a0_0, .string a0_1, .string a0_2] 63 (0, 0)) (by (with_reducible repeat (first | refine ya8 ?_ _ | refine ya9 ?_ | refine blk_alloc ?_ _)); exact BK170.out)) : gb171 ≠ gb170)); clear BK170; clear HB; have BK170 := n0_; have HB := n1_; have BK171 := n2_; have GW171 := n3_; have GE171 := n4_; have NB170_171 := n5_; have NB171_170 := n6_; clear n0_ n1_ n2_ n3_ n4_ n5_ n6_; clear hb hbox hg; have hnb6 := NB170_171.out; have hnc6 := NB171_170.out; obtain ⟨hcz7_0, hcz7_1, hcz7_2, hfz7_0, hfz7_1, hfz7_2⟩ := bx3 BK170.out; obtain ⟨hcz8_0, hcz8_1, hcz8_2, hfz8_0, hfz8_1, hfz8_2⟩ := bx3 BK171.out))
 go_ret
 exact ⟨by first | rfl | (simp [yb3, yb2] <;> rfl) | (simp [*, yb3, yb2] <;> rfl), by repeat (first | (with_reducible first | exact HB.out | apply ya2 | apply ya0 | apply ya1 | refine ya6 ?_ GE170.out | refine ya6 ?_ GE171.out) | exact HB.out)⟩
end Go.Proofs.YtffpbhbiamkkpaaDoor.PR
