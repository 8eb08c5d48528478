import Derived.Test.YtffpbhbiamkkpaaDoorM5
import Derived.Test.YtffpbhbiamkkpaaDoorPRx6
import Derived.Test.YtffpbhbiamkkpaaDoorPRx9
import Derived.Test.YtffpbhbiamkkpaaDoorM7
-- PRINTED by print.py (a twelfth state) out of the translation. Not trusted: Lean checks it.
namespace Go.Proofs.YtffpbhbiamkkpaaDoor.PR
open Go.Proofs.YtffpbhbiamkkpaaDoor.ND
open Go.RowKit Go.Proofs.YtffpbhbiamkkpaaDoorW.PrintWords Go.Proofs.YtffpbhbiamkkpaaDoorW.PrintLast Go.Proofs.YtffpbhbiamkkpaaDoorW.PrintMore
attribute [local go_sem] yf9 yf7 yg5 yg4 ye9 ye8 yf8 yf6   -- for this text's walks alone
set_option linter.unusedVariables false
set_option linter.unusedSimpArgs false

def yf4.f (k : Nat) (a0_0 : Int) (a0_1 : ByteArray) (a0_2 : ByteArray) (l0_3 : List (At)) (l0_4 : List (Nd)) (a0_5 : ByteArray) : Option (ByteArray × Int) := (ye0.f k a0_0 a0_1 a0_2 l0_3 l0_4 a0_5).bind fun t247 => (if t247 = true then ((ya3.f k a0_0 a0_1 a0_2 l0_3 l0_4 a0_5 (⟨#[]⟩ : ByteArray)).bind fun t248 => (if (t248.size : Int) > 32768 then (some ((⟨#[]⟩ : ByteArray), 3)) else (some (t248, 0)))) else (some ((⟨#[]⟩ : ByteArray), 4)))
set_option maxHeartbeats 8000000 in
set_option maxRecDepth 100000 in
theorem yf4.calls (k : Nat) (a0_0 : Int) (a0_1 : ByteArray) (a0_2 : ByteArray) (A0_3 : Option Addr) (c0_3 : Nat) (l0_3 : List (At)) (A0_4 : Option Addr) (c0_4 : Nat) (l0_4 : List (Nd)) (a0_5 : ByteArray) (r1 : ByteArray) (r2 : Int) (w : World) (hr0_3 : Kd.C kAt w A0_3 l0_3.length l0_3) (hc0_3 : l0_3.length ≤ c0_3) (hr0_4 : Kd.C kNd w A0_4 l0_4.length l0_4) (hc0_4 : l0_4.length ≤ c0_4) (h : yf4.f k a0_0 a0_1 a0_2 l0_3 l0_4 a0_5 = some (r1, r2)) :
  Calls Tryd.prog 15 #[.agg #[.int .i64 a0_0, .string a0_1, .string a0_2, .slice A0_3 l0_3.length c0_3, .slice A0_4 l0_4.length c0_4, .string a0_5]] w fun e w' => e = .returned (.tuple #[.string r1, .int .i64 r2]) ∧ Below w.heap.size w w' := by
 have hu27 := Tryd.underlying27
 have HR0_3 := Aside0.mk hr0_3
 have HC0_3 := Aside0.mk hc0_3
 clear hr0_3 hc0_3
 have HR0_4 := Aside0.mk hr0_4
 have HC0_4 := Aside0.mk hc0_4
 clear hr0_4 hc0_4
 have HB := Aside0.mk (Below.refl w.heap.size w)
 have H : ((ye0.f k a0_0 a0_1 a0_2 l0_3 l0_4 a0_5).bind fun t247 => (if t247 = true then ((ya3.f k a0_0 a0_1 a0_2 l0_3 l0_4 a0_5 (⟨#[]⟩ : ByteArray)).bind fun t248 => (if (t248.size : Int) > 32768 then (some ((⟨#[]⟩ : ByteArray), 3)) else (some (t248, 0)))) else (some ((⟨#[]⟩ : ByteArray), 4)))) = some (r1, r2) := h
 clear h
 replace H := Option.bind_eq_some_iff.mp H
 obtain ⟨t247, A20, H⟩ := H
 replace H : (if t247 = true then ((ya3.f k a0_0 a0_1 a0_2 l0_3 l0_4 a0_5 (⟨#[]⟩ : ByteArray)).bind fun t248 => (if (t248.size : Int) > 32768 then (some ((⟨#[]⟩ : ByteArray), 3)) else (some (t248, 0)))) else (some ((⟨#[]⟩ : ByteArray), 4))) = some (r1, r2) := H
 have A2 := Aside0.mk A20
 clear A20
 by_cases c3 : t247 = true
 rotate_left 1
 ·replace c3 := Bool.eq_false_iff.mpr c3
  subst c3
  have H1 : (some ((⟨#[]⟩ : ByteArray), 4)) = some (r1, r2) := by rw [if_neg (show ¬ (false = true) by decide)] at H; exact H
  clear H
  have H := H1
  clear H1
  simp only [Option.some.injEq, Prod.mk.injEq] at H
  obtain ⟨rfl, rfl⟩ := H
  go_enter Tryd.func15, Tryd.ntmps15
  go_wp2_with (first | ((with_reducible refine yd2 (N := 1) rfl ?_); refine yd3 ?hg (N := 1) ?hd (cs := #[.int .i64 a0_0, .string a0_1, .string a0_2, .slice A0_3 l0_3.length c0_3, .slice A0_4 l0_4.length c0_4, .string a0_5]) (t := 27) ?hr ?_; (case hd => rfl); (case hg => rfl); (case hr => first | (go_simp; done) | (go_simp; rfl)); intro gb246 hg w16 hbox hb; have n0_ := Aside0.mk (ya7 (by repeat (first | (with_reducible first | exact HB.out | apply ya2 | apply ya0 | apply ya1) | exact HB.out)) hb); have n1_ := Aside0.mk (hbox); have n2_ := Aside0.mk ((by rw [hg]; exact (yb4 (by repeat (first | (with_reducible first | exact HB.out | apply ya2 | apply ya0 | apply ya1) | exact HB.out))) : w.heap.size ≤ gb246)); have n3_ := Aside0.mk ((by rw [hg]; exact (yb4 (by repeat (first | (with_reducible first | exact HB.out | apply ya2 | apply ya0 | apply ya1) | exact HB.out))) : w.heap.size ≤ gb246)); clear HB; have HB := n0_; have BK246 := n1_; have GW246 := n2_; have GE246 := n3_; clear n0_ n1_ n2_ n3_; clear hb hbox hg; obtain ⟨hcz17_0, hcz17_1, hcz17_2, hcz17_3, hcz17_4, hcz17_5, hfz17_0, hfz17_1, hfz17_2, hfz17_3, hfz17_4, hfz17_5⟩ := bx6 BK246.out) | ((with_reducible refine yc6 (f := 38) rfl ?_); refine goesL_ (some 6) rfl rfl Tryd.func38 (by kernel_rfl) rfl #[.agg #[.int .i64 a0_0, .string a0_1, .string a0_2, .slice A0_3 l0_3.length c0_3, .slice A0_4 l0_4.length c0_4, .string a0_5]] rfl (by (try simp only [List.map_toArray, List.map_cons, List.map_nil]); first | done | rfl | (simp only [List.length_drop, List.length_take]; rfl) | (simp only [ByteArray.size_extract]; rfl)) ?_; (with_reducible refine (ye0.calls k a0_0 a0_1 a0_2 _ _ l0_3 _ _ l0_4 a0_5 false _ ?side1 ?side2 ?side3 ?side4 A2.out).mono ?_); (case side1 => repeat (first | exact (Kd.yc3 HR0_3.out HB.out) | (with_reducible refine Kd.C_alloc ?_ _) | (with_reducible refine Kd.C_drewN ?_ _) | (with_reducible refine Kd.C_drew ?_))); (case side2 => exact HC0_3.out); (case side3 => repeat (first | exact (Kd.yc3 HR0_4.out HB.out) | (with_reducible refine Kd.C_alloc ?_ _) | (with_reducible refine Kd.C_drewN ?_ _) | (with_reducible refine Kd.C_drew ?_))); (case side4 => exact HC0_4.out); rintro e w18 ⟨rfl, hb⟩; refine ⟨_, rfl, ?_⟩; have n0_ := Aside0.mk (yb9 (g := gb246) (o := .cells #[.int .i64 a0_0, .string a0_1, .string a0_2, .slice A0_3 l0_3.length c0_3, .slice A0_4 l0_4.length c0_4, .string a0_5] 27 (0, 0)) (by (with_reducible repeat (first | refine ya8 ?_ _ | refine ya9 ?_ | refine blk_alloc ?_ _)); exact BK246.out) hb); have n1_ := Aside0.mk (ya7 (by repeat (first | (with_reducible first | exact HB.out | apply ya2 | apply ya0 | apply ya1 | refine ya6 ?_ GE246.out) | exact HB.out)) hb); clear BK246; clear HB; have BK246 := n0_; have HB := n1_; clear n0_ n1_; (try clear hb); (try clear hb2); (try clear hk); (try clear hi)))
  go_ret2
  exact ⟨by first | rfl | (simp [yb3, yb2] <;> rfl) | (simp [*, yb3, yb2] <;> rfl), by repeat (first | (with_reducible first | exact HB.out | apply ya2 | apply ya0 | apply ya1 | refine ya6 ?_ GE246.out) | exact HB.out)⟩

 subst c3
 have H1 : ((ya3.f k a0_0 a0_1 a0_2 l0_3 l0_4 a0_5 (⟨#[]⟩ : ByteArray)).bind fun t248 => (if (t248.size : Int) > 32768 then (some ((⟨#[]⟩ : ByteArray), 3)) else (some (t248, 0)))) = some (r1, r2) := by rw [if_pos rfl] at H; exact H
 clear H
 have H := H1
 clear H1
 replace H := Option.bind_eq_some_iff.mp H
 obtain ⟨t248, A40, H⟩ := H
 replace H : (if (t248.size : Int) > 32768 then (some ((⟨#[]⟩ : ByteArray), 3)) else (some (t248, 0))) = some (r1, r2) := H
 have A4 := Aside0.mk A40
 clear A40
 by_cases c5 : (t248.size : Int) > 32768
 rotate_left 1
 ·rw [if_neg c5] at H
  have c5b0 : decide (32768 < (t248.size : Int)) = false := decide_eq_false c5
  have c5b1 : decide (32768 < t248.size) = false := decide_eq_false (by omega)
  clear c5
  simp only [Option.some.injEq, Prod.mk.injEq] at H
  obtain ⟨rfl, rfl⟩ := H
  go_enter Tryd.func15, Tryd.ntmps15
  go_wp2_with (first | ((with_reducible refine yd2 (N := 1) rfl ?_); refine yd3 ?hg (N := 1) ?hd (cs := #[.int .i64 a0_0, .string a0_1, .string a0_2, .slice A0_3 l0_3.length c0_3, .slice A0_4 l0_4.length c0_4, .string a0_5]) (t := 27) ?hr ?_; (case hd => rfl); (case hg => rfl); (case hr => first | (go_simp; done) | (go_simp; rfl)); intro gb246 hg w11 hbox hb; have n0_ := Aside0.mk (ya7 (by repeat (first | (with_reducible first | exact HB.out | apply ya2 | apply ya0 | apply ya1) | exact HB.out)) hb); have n1_ := Aside0.mk (hbox); have n2_ := Aside0.mk ((by rw [hg]; exact (yb4 (by repeat (first | (with_reducible first | exact HB.out | apply ya2 | apply ya0 | apply ya1) | exact HB.out))) : w.heap.size ≤ gb246)); have n3_ := Aside0.mk ((by rw [hg]; exact (yb4 (by repeat (first | (with_reducible first | exact HB.out | apply ya2 | apply ya0 | apply ya1) | exact HB.out))) : w.heap.size ≤ gb246)); clear HB; have HB := n0_; have BK246 := n1_; have GW246 := n2_; have GE246 := n3_; clear n0_ n1_ n2_ n3_; clear hb hbox hg; obtain ⟨hcz12_0, hcz12_1, hcz12_2, hcz12_3, hcz12_4, hcz12_5, hfz12_0, hfz12_1, hfz12_2, hfz12_3, hfz12_4, hfz12_5⟩ := bx6 BK246.out) | ((with_reducible refine yc6 (f := 38) rfl ?_); refine goesL_ (some 6) rfl rfl Tryd.func38 (by kernel_rfl) rfl #[.agg #[.int .i64 a0_0, .string a0_1, .string a0_2, .slice A0_3 l0_3.length c0_3, .slice A0_4 l0_4.length c0_4, .string a0_5]] rfl (by (try simp only [List.map_toArray, List.map_cons, List.map_nil]); first | done | rfl | (simp only [List.length_drop, List.length_take]; rfl) | (simp only [ByteArray.size_extract]; rfl)) ?_; (with_reducible refine (ye0.calls k a0_0 a0_1 a0_2 _ _ l0_3 _ _ l0_4 a0_5 true _ ?side1 ?side2 ?side3 ?side4 A2.out).mono ?_); (case side1 => repeat (first | exact (Kd.yc3 HR0_3.out HB.out) | (with_reducible refine Kd.C_alloc ?_ _) | (with_reducible refine Kd.C_drewN ?_ _) | (with_reducible refine Kd.C_drew ?_))); (case side2 => exact HC0_3.out); (case side3 => repeat (first | exact (Kd.yc3 HR0_4.out HB.out) | (with_reducible refine Kd.C_alloc ?_ _) | (with_reducible refine Kd.C_drewN ?_ _) | (with_reducible refine Kd.C_drew ?_))); (case side4 => exact HC0_4.out); rintro e w13 ⟨rfl, hb⟩; refine ⟨_, rfl, ?_⟩; have n0_ := Aside0.mk (yb9 (g := gb246) (o := .cells #[.int .i64 a0_0, .string a0_1, .string a0_2, .slice A0_3 l0_3.length c0_3, .slice A0_4 l0_4.length c0_4, .string a0_5] 27 (0, 0)) (by (with_reducible repeat (first | refine ya8 ?_ _ | refine ya9 ?_ | refine blk_alloc ?_ _)); exact BK246.out) hb); have n1_ := Aside0.mk (ya7 (by repeat (first | (with_reducible first | exact HB.out | apply ya2 | apply ya0 | apply ya1 | refine ya6 ?_ GE246.out) | exact HB.out)) hb); clear BK246; clear HB; have BK246 := n0_; have HB := n1_; clear n0_ n1_; (try clear hb); (try clear hb2); (try clear hk); (try clear hi); obtain ⟨hcz14_0, hcz14_1, hcz14_2, hcz14_3, hcz14_4, hcz14_5, hfz14_0, hfz14_1, hfz14_2, hfz14_3, hfz14_4, hfz14_5⟩ := bx6 BK246.out) | ((with_reducible refine yc6 (f := 39) rfl ?_); refine goesL_ (some 9) rfl rfl Tryd.func39 (by kernel_rfl) rfl #[.agg #[.int .i64 a0_0, .string a0_1, .string a0_2, .slice A0_3 l0_3.length c0_3, .slice A0_4 l0_4.length c0_4, .string a0_5], .string (⟨#[]⟩ : ByteArray)] rfl (by (try simp only [List.map_toArray, List.map_cons, List.map_nil]); first | done | rfl | (simp only [List.length_drop, List.length_take]; rfl) | (simp only [ByteArray.size_extract]; rfl)) ?_; (with_reducible refine (ya3.calls k a0_0 a0_1 a0_2 _ _ l0_3 _ _ l0_4 a0_5 (⟨#[]⟩ : ByteArray) t248 _ ?side1 ?side2 ?side3 ?side4 A4.out).mono ?_); (case side1 => repeat (first | exact (Kd.yc3 HR0_3.out HB.out) | (with_reducible refine Kd.C_alloc ?_ _) | (with_reducible refine Kd.C_drewN ?_ _) | (with_reducible refine Kd.C_drew ?_))); (case side2 => exact HC0_3.out); (case side3 => repeat (first | exact (Kd.yc3 HR0_4.out HB.out) | (with_reducible refine Kd.C_alloc ?_ _) | (with_reducible refine Kd.C_drewN ?_ _) | (with_reducible refine Kd.C_drew ?_))); (case side4 => exact HC0_4.out); rintro e w15 ⟨rfl, hb⟩; refine ⟨_, rfl, ?_⟩; have n0_ := Aside0.mk (yb9 (g := gb246) (o := .cells #[.int .i64 a0_0, .string a0_1, .string a0_2, .slice A0_3 l0_3.length c0_3, .slice A0_4 l0_4.length c0_4, .string a0_5] 27 (0, 0)) (by (with_reducible repeat (first | refine ya8 ?_ _ | refine ya9 ?_ | refine blk_alloc ?_ _)); exact BK246.out) hb); have n1_ := Aside0.mk (ya7 (by repeat (first | (with_reducible first | exact HB.out | apply ya2 | apply ya0 | apply ya1 | refine ya6 ?_ GE246.out) | exact HB.out)) hb); clear BK246; clear HB; have BK246 := n0_; have HB := n1_; clear n0_ n1_; (try clear hb); (try clear hb2); (try clear hk); (try clear hi)))
  go_ret2
  exact ⟨by first | rfl | (simp [yb3, yb2] <;> rfl) | (simp [*, yb3, yb2] <;> rfl), by repeat (first | (with_reducible first | exact HB.out | apply ya2 | apply ya0 | apply ya1 | refine ya6 ?_ GE246.out) | exact HB.out)⟩
 rw [if_pos c5] at H
 have c5b0 : decide (32768 < (t248.size : Int)) = true := decide_eq_true c5
 have c5b1 : decide (32768 < t248.size) = true := decide_eq_true (by omega)
 clear c5
 simp only [Option.some.injEq, Prod.mk.injEq] at H
 obtain ⟨rfl, rfl⟩ := H
 go_enter Tryd.func15, Tryd.ntmps15
 go_wp2_with (first | ((with_reducible refine yd2 (N := 1) rfl ?_); refine yd3 ?hg (N := 1) ?hd (cs := #[.int .i64 a0_0, .string a0_1, .string a0_2, .slice A0_3 l0_3.length c0_3, .slice A0_4 l0_4.length c0_4, .string a0_5]) (t := 27) ?hr ?_; (case hd => rfl); (case hg => rfl); (case hr => first | (go_simp; done) | (go_simp; rfl)); intro gb246 hg w6 hbox hb; have n0_ := Aside0.mk (ya7 (by repeat (first | (with_reducible first | exact HB.out | apply ya2 | apply ya0 | apply ya1) | exact HB.out)) hb); have n1_ := Aside0.mk (hbox); have n2_ := Aside0.mk ((by rw [hg]; exact (yb4 (by repeat (first | (with_reducible first | exact HB.out | apply ya2 | apply ya0 | apply ya1) | exact HB.out))) : w.heap.size ≤ gb246)); have n3_ := Aside0.mk ((by rw [hg]; exact (yb4 (by repeat (first | (with_reducible first | exact HB.out | apply ya2 | apply ya0 | apply ya1) | exact HB.out))) : w.heap.size ≤ gb246)); clear HB; have HB := n0_; have BK246 := n1_; have GW246 := n2_; have GE246 := n3_; clear n0_ n1_ n2_ n3_; clear hb hbox hg; obtain ⟨hcz7_0, hcz7_1, hcz7_2, hcz7_3, hcz7_4, hcz7_5, hfz7_0, hfz7_1, hfz7_2, hfz7_3, hfz7_4, hfz7_5⟩ := bx6 BK246.out) | ((with_reducible refine yc6 (f := 38) rfl ?_); refine goesL_ (some 6) rfl rfl Tryd.func38 (by kernel_rfl) rfl #[.agg #[.int .i64 a0_0, .string a0_1, .string a0_2, .slice A0_3 l0_3.length c0_3, .slice A0_4 l0_4.length c0_4, .string a0_5]] rfl (by (try simp only [List.map_toArray, List.map_cons, List.map_nil]); first | done | rfl | (simp only [List.length_drop, List.length_take]; rfl) | (simp only [ByteArray.size_extract]; rfl)) ?_; (with_reducible refine (ye0.calls k a0_0 a0_1 a0_2 _ _ l0_3 _ _ l0_4 a0_5 true _ ?side1 ?side2 ?side3 ?side4 A2.out).mono ?_); (case side1 => repeat (first | exact (Kd.yc3 HR0_3.out HB.out) | (with_reducible refine Kd.C_alloc ?_ _) | (with_reducible refine Kd.C_drewN ?_ _) | (with_reducible refine Kd.C_drew ?_))); (case side2 => exact HC0_3.out); (case side3 => repeat (first | exact (Kd.yc3 HR0_4.out HB.out) | (with_reducible refine Kd.C_alloc ?_ _) | (with_reducible refine Kd.C_drewN ?_ _) | (with_reducible refine Kd.C_drew ?_))); (case side4 => exact HC0_4.out); rintro e w8 ⟨rfl, hb⟩; refine ⟨_, rfl, ?_⟩; have n0_ := Aside0.mk (yb9 (g := gb246) (o := .cells #[.int .i64 a0_0, .string a0_1, .string a0_2, .slice A0_3 l0_3.length c0_3, .slice A0_4 l0_4.length c0_4, .string a0_5] 27 (0, 0)) (by (with_reducible repeat (first | refine ya8 ?_ _ | refine ya9 ?_ | refine blk_alloc ?_ _)); exact BK246.out) hb); have n1_ := Aside0.mk (ya7 (by repeat (first | (with_reducible first | exact HB.out | apply ya2 | apply ya0 | apply ya1 | refine ya6 ?_ GE246.out) | exact HB.out)) hb); clear BK246; clear HB; have BK246 := n0_; have HB := n1_; clear n0_ n1_; (try clear hb); (try clear hb2); (try clear hk); (try clear hi); obtain ⟨hcz9_0, hcz9_1, hcz9_2, hcz9_3, hcz9_4, hcz9_5, hfz9_0, hfz9_1, hfz9_2, hfz9_3, hfz9_4, hfz9_5⟩ := bx6 BK246.out) | ((with_reducible refine yc6 (f := 39) rfl ?_); refine goesL_ (some 9) rfl rfl Tryd.func39 (by kernel_rfl) rfl #[.agg #[.int .i64 a0_0, .string a0_1, .string a0_2, .slice A0_3 l0_3.length c0_3, .slice A0_4 l0_4.length c0_4, .string a0_5], .string (⟨#[]⟩ : ByteArray)] rfl (by (try simp only [List.map_toArray, List.map_cons, List.map_nil]); first | done | rfl | (simp only [List.length_drop, List.length_take]; rfl) | (simp only [ByteArray.size_extract]; rfl)) ?_; (with_reducible refine (ya3.calls k a0_0 a0_1 a0_2 _ _ l0_3 _ _ l0_4 a0_5 (⟨#[]⟩ : ByteArray) t248 _ ?side1 ?side2 ?side3 ?side4 A4.out).mono ?_); (case side1 => repeat (first | exact (Kd.yc3 HR0_3.out HB.out) | (with_reducible refine Kd.C_alloc ?_ _) | (with_reducible refine Kd.C_drewN ?_ _) | (with_reducible refine Kd.C_drew ?_))); (case side2 => exact HC0_3.out); (case side3 => repeat (first | exact (Kd.yc3 HR0_4.out HB.out) | (with_reducible refine Kd.C_alloc ?_ _) | (with_reducible refine Kd.C_drewN ?_ _) | (with_reducible refine Kd.C_drew ?_))); (case side4 => exact HC0_4.out); rintro e w10 ⟨rfl, hb⟩; refine ⟨_, rfl, ?_⟩; have n0_ := Aside0.mk (yb9 (g := gb246) (o := .cells #[.int .i64 a0_0, .string a0_1, .string a0_2, .slice A0_3 l0_3.length c0_3, .slice A0_4 l0_4.length c0_4, .string a0_5] 27 (0, 0)) (by (with_reducible repeat (first | refine ya8 ?_ _ | refine ya9 ?_ | refine blk_alloc ?_ _)); exact BK246.out) hb); have n1_ := Aside0.mk (ya7 (by repeat (first | (with_reducible first | exact HB.out | apply ya2 | apply ya0 | apply ya1 | refine ya6 ?_ GE246.out) | exact HB.out)) hb); clear BK246; clear HB; have BK246 := n0_; have HB := n1_; clear n0_ n1_; (try clear hb); (try clear hb2); (try clear hk); (try clear hi)))
 go_ret2
 exact ⟨by first | rfl | (simp [yb3, yb2] <;> rfl) | (simp [*, yb3, yb2] <;> rfl), by repeat (first | (with_reducible first | exact HB.out | apply ya2 | apply ya0 | apply ya1 | refine ya6 ?_ GE246.out) | exact HB.out)⟩
mutual
def yb5.j1 : Nat → Int → Int → Int → ByteArray → ByteArray → List (At) → List (Nd) → ByteArray → Option (Int)
 | 0, _, _, _, _, _, _, _, _ => none
 | k + 1, x1, x5, x250000, x250001, x250002, x250003, x250004, x250005 => yb5.l1 k x1 x5 0 x250000 x250001 x250002 x250003 x250004 x250005
def yb5.l1 : Nat → Int → Int → Int → Int → ByteArray → ByteArray → List (At) → List (Nd) → ByteArray → Option (Int)
 | 0, _, _, _, _, _, _, _, _, _ => none
 | k + 1, x1, x5, x7, x250000, x250001, x250002, x250003, x250004, x250005 => if x7 < (x250004.length : Int) then (if x5 ≤ x1 then (if 0 ≤ x7 then ((yb5.f k ((rdNd x250004 x7).f0) ((rdNd x250004 x7).f1.f0) ((rdNd x250004 x7).f1.f1) ((rdNd x250004 x7).f2) ((rdNd x250004 x7).f3) ((rdNd x250004 x7).f4) (wrap64 (x1 - x5))).bind fun t254 => (yb5.l1 k x1 (wrap64 (x5 + t254)) (wrap64 (x7 + 1)) x250000 x250001 x250002 x250003 x250004 x250005)) else (none)) else (some x5)) else (some x5)
def yb5.l0 : Nat → Int → Int → Int → Int → ByteArray → ByteArray → List (At) → List (Nd) → ByteArray → Option (Int)
 | 0, _, _, _, _, _, _, _, _, _ => none
 | k + 1, x1, x5, x6, x250000, x250001, x250002, x250003, x250004, x250005 => if x6 < (x250003.length : Int) then (if x5 ≤ x1 then (if 0 ≤ x6 then (yb5.l0 k x1 (wrap64 ((wrap64 ((wrap64 (x5 + (mn (((rdAt x250003 x6).f0.f0).size : Int) x1))) + (mn (((rdAt x250003 x6).f0.f1).size : Int) x1))) + (mn (((rdAt x250003 x6).f1).size : Int) x1))) (wrap64 (x6 + 1)) x250000 x250001 x250002 x250003 x250004 x250005) else (none)) else (yb5.j1 k x1 x5 x250000 x250001 x250002 x250003 x250004 x250005)) else (yb5.j1 k x1 x5 x250000 x250001 x250002 x250003 x250004 x250005)
def yb5.f : Nat → Int → ByteArray → ByteArray → List (At) → List (Nd) → ByteArray → Int → Option (Int)
 | 0, _, _, _, _, _, _, _ => none
 | k + 1, a0_0, a0_1, a0_2, l0_3, l0_4, a0_5, a1 => yb5.l0 k a1 (wrap64 ((wrap64 ((wrap64 ((wrap64 (1 + (mn (a0_5.size : Int) a1))) + (mn (a0_1.size : Int) a1))) + (mn (a0_2.size : Int) a1))) + (mn (l0_3.length : Int) a1))) 0 a0_0 a0_1 a0_2 l0_3 l0_4 a0_5
end
set_option maxHeartbeats 8000000 in
set_option maxRecDepth 100000 in
theorem yb5.calls (k : Nat) : ∀ (a0_0 : Int) (a0_1 : ByteArray) (a0_2 : ByteArray) (A0_3 : Option Addr) (c0_3 : Nat) (l0_3 : List (At)) (A0_4 : Option Addr) (c0_4 : Nat) (l0_4 : List (Nd)) (a0_5 : ByteArray) (a1 : Int) (r : Int) (w : World) (hr0_3 : Kd.C kAt w A0_3 l0_3.length l0_3) (hc0_3 : l0_3.length ≤ c0_3) (hr0_4 : Kd.C kNd w A0_4 l0_4.length l0_4) (hc0_4 : l0_4.length ≤ c0_4) (h : yb5.f k a0_0 a0_1 a0_2 l0_3 l0_4 a0_5 a1 = some r),
  Calls Tryd.prog 31 #[.agg #[.int .i64 a0_0, .string a0_1, .string a0_2, .slice A0_3 l0_3.length c0_3, .slice A0_4 l0_4.length c0_4, .string a0_5], .int .i64 a1] w fun e w' => e = .returned (.int .i64 r) ∧ Below w.heap.size w w' := by
 induction k using Nat.strongRecOn with
 | _ k ih =>
 intro a0_0 a0_1 a0_2 A0_3 c0_3 l0_3 A0_4 c0_4 l0_4 a0_5 a1 r w hr0_3 hc0_3 hr0_4 hc0_4 h
 cases k with
 | zero => exact absurd h (by simp [yb5.f])
 | succ k =>
 simp only [yb5.f] at h
 have hu27 := Tryd.underlying27
 have HR0_3 := Aside0.mk hr0_3
 have HC0_3 := Aside0.mk hc0_3
 clear hr0_3 hc0_3
 have HR0_4 := Aside0.mk hr0_4
 have HC0_4 := Aside0.mk hc0_4
 clear hr0_4 hc0_4
 have HB := Aside0.mk (Below.refl w.heap.size w)
 have H : (yb5.l0 k a1 (wrap64 ((wrap64 ((wrap64 ((wrap64 (1 + (mn (a0_5.size : Int) a1))) + (mn (a0_1.size : Int) a1))) + (mn (a0_2.size : Int) a1))) + (mn (l0_3.length : Int) a1))) 0 a0_0 a0_1 a0_2 l0_3 l0_4 a0_5) = some r := h
 clear h
 obtain ⟨ji3, hji3⟩ : ∃ j_ : Int, (mn (a0_5.size : Int) a1) = j_ := ⟨_, rfl⟩
 replace H : (yb5.l0 k a1 (wrap64 ((wrap64 ((wrap64 ((wrap64 (1 + (ji3))) + (mn (a0_1.size : Int) a1))) + (mn (a0_2.size : Int) a1))) + (mn (l0_3.length : Int) a1))) 0 a0_0 a0_1 a0_2 l0_3 l0_4 a0_5) = some r := by first | (rw [hji3] at H; exact H) | (simp only [hji3] at H ⊢; exact H)
 have hji3_ : (if a1 < (a0_5.size : Int) then a1 else (a0_5.size : Int)) = ji3 := hji3
 obtain ⟨ji4, hji4⟩ : ∃ j_ : Int, (mn (a0_1.size : Int) a1) = j_ := ⟨_, rfl⟩
 replace H : (yb5.l0 k a1 (wrap64 ((wrap64 ((wrap64 ((wrap64 (1 + (ji3))) + (ji4))) + (mn (a0_2.size : Int) a1))) + (mn (l0_3.length : Int) a1))) 0 a0_0 a0_1 a0_2 l0_3 l0_4 a0_5) = some r := by first | (rw [hji4] at H; exact H) | (simp only [hji4] at H ⊢; exact H)
 have hji4_ : (if a1 < (a0_1.size : Int) then a1 else (a0_1.size : Int)) = ji4 := hji4
 obtain ⟨ji5, hji5⟩ : ∃ j_ : Int, (mn (a0_2.size : Int) a1) = j_ := ⟨_, rfl⟩
 replace H : (yb5.l0 k a1 (wrap64 ((wrap64 ((wrap64 ((wrap64 (1 + (ji3))) + (ji4))) + (ji5))) + (mn (l0_3.length : Int) a1))) 0 a0_0 a0_1 a0_2 l0_3 l0_4 a0_5) = some r := by first | (rw [hji5] at H; exact H) | (simp only [hji5] at H ⊢; exact H)
 have hji5_ : (if a1 < (a0_2.size : Int) then a1 else (a0_2.size : Int)) = ji5 := hji5
 obtain ⟨ji6, hji6⟩ : ∃ j_ : Int, (mn (l0_3.length : Int) a1) = j_ := ⟨_, rfl⟩
 replace H : (yb5.l0 k a1 (wrap64 ((wrap64 ((wrap64 ((wrap64 (1 + (ji3))) + (ji4))) + (ji5))) + (ji6))) 0 a0_0 a0_1 a0_2 l0_3 l0_4 a0_5) = some r := by first | (rw [hji6] at H; exact H) | (simp only [hji6] at H ⊢; exact H)
 have hji6_ : (if a1 < (l0_3.length : Int) then a1 else (l0_3.length : Int)) = ji6 := hji6
 have HC7 := Aside0.mk H
 clear H
 go_enter Tryd.func31, Tryd.ntmps31
 go_upto_block 0 with (first | ((with_reducible refine yd2 (N := 2) rfl ?_); refine yd3 ?hg (N := 2) ?hd (cs := #[.int .i64 a0_0, .string a0_1, .string a0_2, .slice A0_3 l0_3.length c0_3, .slice A0_4 l0_4.length c0_4, .string a0_5]) (t := 27) ?hr ?_; (case hd => rfl); (case hg => rfl); (case hr => first | (go_simp; done) | (go_simp; rfl)); intro gb249 hg w8 hbox hb; have n0_ := Aside0.mk (ya7 (by repeat (first | (with_reducible first | exact HB.out | apply ya2 | apply ya0 | apply ya1) | exact HB.out)) hb); have n1_ := Aside0.mk (hbox); have n2_ := Aside0.mk ((by rw [hg]; exact (yb4 (by repeat (first | (with_reducible first | exact HB.out | apply ya2 | apply ya0 | apply ya1) | exact HB.out))) : w.heap.size ≤ gb249)); have n3_ := Aside0.mk ((by rw [hg]; exact (yb4 (by repeat (first | (with_reducible first | exact HB.out | apply ya2 | apply ya0 | apply ya1) | exact HB.out))) : w.heap.size ≤ gb249)); clear HB; have HB := n0_; have BK249 := n1_; have GW249 := n2_; have GE249 := n3_; clear n0_ n1_ n2_ n3_; clear hb hbox hg; obtain ⟨hcz9_0, hcz9_1, hcz9_2, hcz9_3, hcz9_4, hcz9_5, hfz9_0, hfz9_1, hfz9_2, hfz9_3, hfz9_4, hfz9_5⟩ := bx6 BK249.out))
 repeat (go_quiet (first | ((with_reducible refine yd2 (N := 2) rfl ?_); refine yd3 ?hg (N := 2) ?hd (cs := #[.int .i64 a0_0, .string a0_1, .string a0_2, .slice A0_3 l0_3.length c0_3, .slice A0_4 l0_4.length c0_4, .string a0_5]) (t := 27) ?hr ?_; (case hd => rfl); (case hg => rfl); (case hr => first | (go_simp; done) | (go_simp; rfl)); intro gb249 hg w8 hbox hb; have n0_ := Aside0.mk (ya7 (by repeat (first | (with_reducible first | exact HB.out | apply ya2 | apply ya0 | apply ya1) | exact HB.out)) hb); have n1_ := Aside0.mk (hbox); have n2_ := Aside0.mk ((by rw [hg]; exact (yb4 (by repeat (first | (with_reducible first | exact HB.out | apply ya2 | apply ya0 | apply ya1) | exact HB.out))) : w.heap.size ≤ gb249)); have n3_ := Aside0.mk ((by rw [hg]; exact (yb4 (by repeat (first | (with_reducible first | exact HB.out | apply ya2 | apply ya0 | apply ya1) | exact HB.out))) : w.heap.size ≤ gb249)); clear HB; have HB := n0_; have BK249 := n1_; have GW249 := n2_; have GE249 := n3_; clear n0_ n1_ n2_ n3_; clear hb hbox hg; obtain ⟨hcz9_0, hcz9_1, hcz9_2, hcz9_3, hcz9_4, hcz9_5, hfz9_0, hfz9_1, hfz9_2, hfz9_3, hfz9_4, hfz9_5⟩ := bx6 BK249.out)); go_upto_block 0 with (first | ((with_reducible refine yd2 (N := 2) rfl ?_); refine yd3 ?hg (N := 2) ?hd (cs := #[.int .i64 a0_0, .string a0_1, .string a0_2, .slice A0_3 l0_3.length c0_3, .slice A0_4 l0_4.length c0_4, .string a0_5]) (t := 27) ?hr ?_; (case hd => rfl); (case hg => rfl); (case hr => first | (go_simp; done) | (go_simp; rfl)); intro gb249 hg w8 hbox hb; have n0_ := Aside0.mk (ya7 (by repeat (first | (with_reducible first | exact HB.out | apply ya2 | apply ya0 | apply ya1) | exact HB.out)) hb); have n1_ := Aside0.mk (hbox); have n2_ := Aside0.mk ((by rw [hg]; exact (yb4 (by repeat (first | (with_reducible first | exact HB.out | apply ya2 | apply ya0 | apply ya1) | exact HB.out))) : w.heap.size ≤ gb249)); have n3_ := Aside0.mk ((by rw [hg]; exact (yb4 (by repeat (first | (with_reducible first | exact HB.out | apply ya2 | apply ya0 | apply ya1) | exact HB.out))) : w.heap.size ≤ gb249)); clear HB; have HB := n0_; have BK249 := n1_; have GW249 := n2_; have GE249 := n3_; clear n0_ n1_ n2_ n3_; clear hb hbox hg; obtain ⟨hcz9_0, hcz9_1, hcz9_2, hcz9_3, hcz9_4, hcz9_5, hfz9_0, hfz9_1, hfz9_2, hfz9_3, hfz9_4, hfz9_5⟩ := bx6 BK249.out)))
 (try simp only [Act.put, zA, zB, zC])
 go_cut [5] (fun v5 wc => ∃ (kq : Nat) (x5_6 : Int), v5 = .int .i64 x5_6 ∧ Aside0 (yb5.j1 kq a1 x5_6 a0_0 a0_1 a0_2 l0_3 l0_4 a0_5 = some r) ∧ Aside0 (kq ≤ k) ∧ Aside0 (wc.heap[gb249]? = some (.cells #[.int .i64 a0_0, .string a0_1, .string a0_2, (.slice A0_3 l0_3.length c0_3), (.slice A0_4 l0_4.length c0_4), .string a0_5] 27 (0, 0))) ∧ Aside0 (Below w.heap.size w wc))
 case first =>
  have H := HC7.out
  clear HC7
  have H' := Aside0.mk H
  clear H
  go_wp2
  repeat (go_quiet (fail); try go_wp2)
  go_loopg [5, 6] k (fun kq v5 v6 w' => ∃ (x5_1 : Int) (x6_1 : Int), v5 = .int .i64 x5_1 ∧ v6 = .int .i64 x6_1 ∧ Aside0 (yb5.l0 kq a1 x5_1 x6_1 a0_0 a0_1 a0_2 l0_3 l0_4 a0_5 = some r) ∧ Aside0 (kq ≤ k) ∧ Aside0 (w'.heap[gb249]? = some (.cells #[.int .i64 a0_0, .string a0_1, .string a0_2, (.slice A0_3 l0_3.length c0_3), (.slice A0_4 l0_4.length c0_4), .string a0_5] 27 (0, 0))) ∧ Aside0 (Below w.heap.size w w'))
  case atStart => exact ⟨(wrap64 ((wrap64 ((wrap64 ((wrap64 (1 + (ji3))) + (ji4))) + (ji5))) + (ji6))), (0), (by first | rfl | (simp; done) | (simp only [← hji3, ← hji4, ← hji5, ← hji6] <;> (first | rfl | simp)) | (simp [*]; done)), (by first | rfl | (simp; done) | (simp [*]; done)), H', ⟨Nat.le_refl _⟩, ⟨by (with_reducible repeat (first | refine ya8 ?_ _ | refine ya9 ?_ | refine blk_alloc ?_ _)); exact BK249.out⟩, ⟨by repeat (first | (with_reducible first | exact HB.out | apply ya2 | apply ya0 | apply ya1 | refine ya6 ?_ GE249.out) | exact HB.out)⟩⟩
  case round =>
   clear H'
   try clear p2
   try clear c3
   try clear p6
   try clear hcz9_0
   try clear hcz9_1
   try clear hcz9_2
   try clear hcz9_3
   try clear hcz9_4
   try clear hcz9_5
   try clear hfz9_0
   try clear hfz9_1
   try clear hfz9_2
   try clear hfz9_3
   try clear hfz9_4
   try clear hfz9_5
   obtain ⟨x5_1, x6_1, rfl, rfl, HA, HK1, BK249, HB⟩ := hrel
   cases gk with
   | zero => exact absurd HA.out (by simp [yb5.l0])
   | succ k1 =>
    have H := HA.out
    clear HA
    simp only [yb5.l0] at H
    by_cases c10 : x6_1 < (l0_3.length : Int)
    ·rw [if_pos c10] at H
     have c10b0 : decide (x6_1 < (l0_3.length : Int)) = true := decide_eq_true c10
     clear c10
     (first | rw [c10b0] | (simp only [i64_w, i32_w]; rw [c10b0]) | skip)
     by_cases c11 : x5_1 ≤ a1
     ·rw [if_pos c11] at H
      have c11b0 : decide (x5_1 ≤ a1) = true := decide_eq_true c11
      clear c11
      by_cases c12 : 0 ≤ x6_1
      rotate_left 1
      ·rw [if_neg c12] at H
       exact absurd H (by simp)
      rw [if_pos c12] at H
      have c12b0 : decide (0 ≤ x6_1) = true := decide_eq_true c12
      clear c12
      obtain ⟨ji13, hji13⟩ : ∃ j_ : Int, (mn (((rdAt l0_3 x6_1).f0.f0).size : Int) a1) = j_ := ⟨_, rfl⟩
      replace H : (yb5.l0 k1 a1 (wrap64 ((wrap64 ((wrap64 (x5_1 + (ji13))) + (mn (((rdAt l0_3 x6_1).f0.f1).size : Int) a1))) + (mn (((rdAt l0_3 x6_1).f1).size : Int) a1))) (wrap64 (x6_1 + 1)) a0_0 a0_1 a0_2 l0_3 l0_4 a0_5) = some r := by first | (rw [hji13] at H; exact H) | (simp only [hji13] at H ⊢; exact H)
      have hji13_ : (if a1 < (((rdAt l0_3 x6_1).f0.f0).size : Int) then a1 else (((rdAt l0_3 x6_1).f0.f0).size : Int)) = ji13 := hji13
      obtain ⟨ji14, hji14⟩ : ∃ j_ : Int, (mn (((rdAt l0_3 x6_1).f0.f1).size : Int) a1) = j_ := ⟨_, rfl⟩
      replace H : (yb5.l0 k1 a1 (wrap64 ((wrap64 ((wrap64 (x5_1 + (ji13))) + (ji14))) + (mn (((rdAt l0_3 x6_1).f1).size : Int) a1))) (wrap64 (x6_1 + 1)) a0_0 a0_1 a0_2 l0_3 l0_4 a0_5) = some r := by first | (rw [hji14] at H; exact H) | (simp only [hji14] at H ⊢; exact H)
      have hji14_ : (if a1 < (((rdAt l0_3 x6_1).f0.f1).size : Int) then a1 else (((rdAt l0_3 x6_1).f0.f1).size : Int)) = ji14 := hji14
      obtain ⟨ji15, hji15⟩ : ∃ j_ : Int, (mn (((rdAt l0_3 x6_1).f1).size : Int) a1) = j_ := ⟨_, rfl⟩
      replace H : (yb5.l0 k1 a1 (wrap64 ((wrap64 ((wrap64 (x5_1 + (ji13))) + (ji14))) + (ji15))) (wrap64 (x6_1 + 1)) a0_0 a0_1 a0_2 l0_3 l0_4 a0_5) = some r := by first | (rw [hji15] at H; exact H) | (simp only [hji15] at H ⊢; exact H)
      have hji15_ : (if a1 < (((rdAt l0_3 x6_1).f1).size : Int) then a1 else (((rdAt l0_3 x6_1).f1).size : Int)) = ji15 := hji15
      have H' := Aside0.mk H
      clear H
      obtain ⟨hcz16_0, hcz16_1, hcz16_2, hcz16_3, hcz16_4, hcz16_5, hfz16_0, hfz16_1, hfz16_2, hfz16_3, hfz16_4, hfz16_5⟩ := bx6 BK249.out
      have p250 : 0 ≤ (x6_1 : Int) := of_decide_eq_true (by first | (with_reducible assumption) | assumption)
      have q250 : x6_1 < (l0_3.length : Int) := of_decide_eq_true (by first | (with_reducible assumption) | assumption)
      obtain ⟨ad250, e250, hx250_0, hx250_1, hx250_2⟩ := atAt HR0_3.out x6_1 p250 q250
      cases e250
      replace hx250_0 := cup HB.out hx250_0
      replace hx250_1 := cup HB.out hx250_1
      replace hx250_2 := cup HB.out hx250_2
      replace p250 := eq_true p250
      replace q250 := eq_true q250
      have p251 : 0 ≤ (x6_1 : Int) := of_decide_eq_true (by first | (with_reducible assumption) | assumption)
      have q251 : x6_1 < (l0_3.length : Int) := of_decide_eq_true (by first | (with_reducible assumption) | assumption)
      obtain ⟨ad251, e251, hx251_0, hx251_1, hx251_2⟩ := atAt HR0_3.out x6_1 p251 q251
      obtain rfl : ad250 = ad251 := (by injection e251)
      replace hx251_0 := cup HB.out hx251_0
      replace hx251_1 := cup HB.out hx251_1
      replace hx251_2 := cup HB.out hx251_2
      replace p251 := eq_true p251
      replace q251 := eq_true q251
      have p252 : 0 ≤ (x6_1 : Int) := of_decide_eq_true (by first | (with_reducible assumption) | assumption)
      have q252 : x6_1 < (l0_3.length : Int) := of_decide_eq_true (by first | (with_reducible assumption) | assumption)
      obtain ⟨ad252, e252, hx252_0, hx252_1, hx252_2⟩ := atAt HR0_3.out x6_1 p252 q252
      obtain rfl : ad250 = ad252 := (by injection e252)
      replace hx252_0 := cup HB.out hx252_0
      replace hx252_1 := cup HB.out hx252_1
      replace hx252_2 := cup HB.out hx252_2
      replace p252 := eq_true p252
      replace q252 := eq_true q252
      go_wp2
      repeat (go_quiet (fail); try go_wp2)
      go_roundg k1
      case measure => have := HK1.out; omega
      case rel => exact ⟨(wrap64 ((wrap64 ((wrap64 (x5_1 + (ji13))) + (ji14))) + (ji15))), (wrap64 (x6_1 + 1)), (by first | rfl | (simp; done) | (simp only [← hji13, ← hji14, ← hji15] <;> (first | rfl | simp)) | (simp [*]; done)), (by first | rfl | (simp; done) | (simp [*]; done)), H', ⟨by have := HK1.out; omega⟩, ⟨by (with_reducible repeat (first | refine ya8 ?_ _ | refine ya9 ?_ | refine blk_alloc ?_ _)); exact BK249.out⟩, ⟨by repeat (first | (with_reducible first | exact HB.out | apply ya2 | apply ya0 | apply ya1 | refine ya6 ?_ GE249.out) | exact HB.out)⟩⟩
     ·rw [if_neg c11] at H
      have c11b0 : decide (x5_1 ≤ a1) = false := decide_eq_false c11
      clear c11
      have H' := Aside0.mk H
      clear H
      obtain ⟨hcz17_0, hcz17_1, hcz17_2, hcz17_3, hcz17_4, hcz17_5, hfz17_0, hfz17_1, hfz17_2, hfz17_3, hfz17_4, hfz17_5⟩ := bx6 BK249.out
      go_wp2
      repeat (go_quiet (fail); try go_wp2)
      go_meet
      case rel => exact ⟨_, (x5_1), (by first | rfl | (simp; done) | (simp [*]; done)), H', ⟨by have := HK1.out; first | omega | exact Nat.le_refl _⟩, ⟨by (with_reducible repeat (first | refine ya8 ?_ _ | refine ya9 ?_ | refine blk_alloc ?_ _)); exact BK249.out⟩, ⟨by repeat (first | (with_reducible first | exact HB.out | apply ya2 | apply ya0 | apply ya1 | refine ya6 ?_ GE249.out) | exact HB.out)⟩⟩
    ·rw [if_neg c10] at H
     have c10b0 : decide (x6_1 < (l0_3.length : Int)) = false := decide_eq_false c10
     clear c10
     (first | rw [c10b0] | (simp only [i64_w, i32_w]; rw [c10b0]) | skip)
     have H' := Aside0.mk H
     clear H
     obtain ⟨hcz18_0, hcz18_1, hcz18_2, hcz18_3, hcz18_4, hcz18_5, hfz18_0, hfz18_1, hfz18_2, hfz18_3, hfz18_4, hfz18_5⟩ := bx6 BK249.out
     go_wp2
     repeat (go_quiet (fail); try go_wp2)
     go_meet
     case rel => exact ⟨_, (x5_1), (by first | rfl | (simp; done) | (simp [*]; done)), H', ⟨by have := HK1.out; first | omega | exact Nat.le_refl _⟩, ⟨by (with_reducible repeat (first | refine ya8 ?_ _ | refine ya9 ?_ | refine blk_alloc ?_ _)); exact BK249.out⟩, ⟨by repeat (first | (with_reducible first | exact HB.out | apply ya2 | apply ya0 | apply ya1 | refine ya6 ?_ GE249.out) | exact HB.out)⟩⟩
 case rest =>
  clear HC7
  try clear c1
  try clear p2
  try clear q2
  try clear hx2
  try clear c3
  try clear p6
  try clear c10
  try clear c10b0
  try clear c11
  try clear c11b0
  try clear c12
  try clear c12b0
  try clear hcz16_0
  try clear hcz16_1
  try clear hcz16_2
  try clear hcz16_3
  try clear hcz16_4
  try clear hcz16_5
  try clear hcz17_0
  try clear hcz17_1
  try clear hcz17_2
  try clear hcz17_3
  try clear hcz17_4
  try clear hcz17_5
  try clear hcz18_0
  try clear hcz18_1
  try clear hcz18_2
  try clear hcz18_3
  try clear hcz18_4
  try clear hcz18_5
  try clear hcz9_0
  try clear hcz9_1
  try clear hcz9_2
  try clear hcz9_3
  try clear hcz9_4
  try clear hcz9_5
  try clear hfz16_0
  try clear hfz16_1
  try clear hfz16_2
  try clear hfz16_3
  try clear hfz16_4
  try clear hfz16_5
  try clear hfz17_0
  try clear hfz17_1
  try clear hfz17_2
  try clear hfz17_3
  try clear hfz17_4
  try clear hfz17_5
  try clear hfz18_0
  try clear hfz18_1
  try clear hfz18_2
  try clear hfz18_3
  try clear hfz18_4
  try clear hfz18_5
  try clear hfz9_0
  try clear hfz9_1
  try clear hfz9_2
  try clear hfz9_3
  try clear hfz9_4
  try clear hfz9_5
  try clear hx250_0
  try clear hx250_1
  try clear hx250_2
  try clear hx251_0
  try clear hx251_1
  try clear hx251_2
  try clear hx252_0
  try clear hx252_1
  try clear hx252_2
  try clear p2
  try clear p250
  try clear p251
  try clear p252
  try clear p6
  try clear q250
  try clear q251
  try clear q252
  obtain ⟨kq, x5_6, rfl, HA, HJ6, BK249, HB⟩ := hcut
  cases kq with
  | zero => exact absurd HA.out (by simp [yb5.j1])
  | succ kj6 =>
   have H := HA.out
   clear HA
   simp only [yb5.j1] at H
   have H' := Aside0.mk H
   clear H
   go_wp2
   repeat (go_quiet (fail); try go_wp2)
   go_loopg [5, 7] kj6 (fun kq v5 v7 w' => ∃ (x5_2 : Int) (x7_2 : Int), v5 = .int .i64 x5_2 ∧ v7 = .int .i64 x7_2 ∧ Aside0 (yb5.l1 kq a1 x5_2 x7_2 a0_0 a0_1 a0_2 l0_3 l0_4 a0_5 = some r) ∧ Aside0 (kq ≤ kj6) ∧ Aside0 (w'.heap[gb249]? = some (.cells #[.int .i64 a0_0, .string a0_1, .string a0_2, (.slice A0_3 l0_3.length c0_3), (.slice A0_4 l0_4.length c0_4), .string a0_5] 27 (0, 0))) ∧ Aside0 (Below w.heap.size w w'))
   case atStart => exact ⟨(x5_6), (0), (by first | rfl | (simp; done) | (simp [*]; done)), (by first | rfl | (simp; done) | (simp [*]; done)), H', ⟨Nat.le_refl _⟩, ⟨by (with_reducible repeat (first | refine ya8 ?_ _ | refine ya9 ?_ | refine blk_alloc ?_ _)); exact BK249.out⟩, ⟨by repeat (first | (with_reducible first | exact HB.out | apply ya2 | apply ya0 | apply ya1 | refine ya6 ?_ GE249.out) | exact HB.out)⟩⟩
   case round =>
    clear H'
    try clear c1
    try clear p2
    try clear q2
    try clear hx2
    try clear c3
    try clear p6
    try clear c10
    try clear c10b0
    try clear c11
    try clear c11b0
    try clear c12
    try clear c12b0
    try clear hcz16_0
    try clear hcz16_1
    try clear hcz16_2
    try clear hcz16_3
    try clear hcz16_4
    try clear hcz16_5
    try clear hcz17_0
    try clear hcz17_1
    try clear hcz17_2
    try clear hcz17_3
    try clear hcz17_4
    try clear hcz17_5
    try clear hcz18_0
    try clear hcz18_1
    try clear hcz18_2
    try clear hcz18_3
    try clear hcz18_4
    try clear hcz18_5
    try clear hcz9_0
    try clear hcz9_1
    try clear hcz9_2
    try clear hcz9_3
    try clear hcz9_4
    try clear hcz9_5
    try clear hfz16_0
    try clear hfz16_1
    try clear hfz16_2
    try clear hfz16_3
    try clear hfz16_4
    try clear hfz16_5
    try clear hfz17_0
    try clear hfz17_1
    try clear hfz17_2
    try clear hfz17_3
    try clear hfz17_4
    try clear hfz17_5
    try clear hfz18_0
    try clear hfz18_1
    try clear hfz18_2
    try clear hfz18_3
    try clear hfz18_4
    try clear hfz18_5
    try clear hfz9_0
    try clear hfz9_1
    try clear hfz9_2
    try clear hfz9_3
    try clear hfz9_4
    try clear hfz9_5
    try clear hx250_0
    try clear hx250_1
    try clear hx250_2
    try clear hx251_0
    try clear hx251_1
    try clear hx251_2
    try clear hx252_0
    try clear hx252_1
    try clear hx252_2
    try clear p2
    try clear p250
    try clear p251
    try clear p252
    try clear p6
    try clear q2
    try clear q250
    try clear q251
    try clear q252
    obtain ⟨x5_2, x7_2, rfl, rfl, HA, HK2, BK249, HB⟩ := hrel
    cases gk with
    | zero => exact absurd HA.out (by simp [yb5.l1])
    | succ k2 =>
     have H := HA.out
     clear HA
     simp only [yb5.l1] at H
     by_cases c19 : x7_2 < (l0_4.length : Int)
     ·rw [if_pos c19] at H
      have c19b0 : decide (x7_2 < (l0_4.length : Int)) = true := decide_eq_true c19
      clear c19
      by_cases c20 : x5_2 ≤ a1
      ·rw [if_pos c20] at H
       have c20b0 : decide (x5_2 ≤ a1) = true := decide_eq_true c20
       clear c20
       by_cases c21 : 0 ≤ x7_2
       rotate_left 1
       ·rw [if_neg c21] at H
        exact absurd H (by simp)
       rw [if_pos c21] at H
       have c21b0 : decide (0 ≤ x7_2) = true := decide_eq_true c21
       clear c21
       replace H := Option.bind_eq_some_iff.mp H
       obtain ⟨t254, A220, H⟩ := H
       replace H : (yb5.l1 k2 a1 (wrap64 (x5_2 + t254)) (wrap64 (x7_2 + 1)) a0_0 a0_1 a0_2 l0_3 l0_4 a0_5) = some r := H
       have A22 := Aside0.mk A220
       clear A220
       have H' := Aside0.mk H
       clear H
       obtain ⟨hcz23_0, hcz23_1, hcz23_2, hcz23_3, hcz23_4, hcz23_5, hfz23_0, hfz23_1, hfz23_2, hfz23_3, hfz23_4, hfz23_5⟩ := bx6 BK249.out
       have p253 : 0 ≤ (x7_2 : Int) := of_decide_eq_true (by first | (with_reducible assumption) | assumption)
       have q253 : x7_2 < (l0_4.length : Int) := of_decide_eq_true (by first | (with_reducible assumption) | assumption)
       obtain ⟨ad253, A253_3, c253_3, A253_4, c253_4, e253, hx253_0, hx253_1, hx253_2, hx253_3, hx253_4, hx253_5, hl253_3, hi253_3, hl253_4, hi253_4⟩ := atNd HR0_4.out x7_2 p253 q253
       cases e253
       replace hx253_0 := cup HB.out hx253_0
       replace hx253_1 := cup HB.out hx253_1
       replace hx253_2 := cup HB.out hx253_2
       replace hx253_3 := cup HB.out hx253_3
       replace hx253_4 := cup HB.out hx253_4
       replace hx253_5 := cup HB.out hx253_5
       have HR253_3 := Aside0.mk hi253_3
       have HC253_3 := Aside0.mk hl253_3
       clear hi253_3 hl253_3
       have HR253_4 := Aside0.mk hi253_4
       have HC253_4 := Aside0.mk hl253_4
       clear hi253_4 hl253_4
       replace p253 := eq_true p253
       replace q253 := eq_true q253
       go_wp2_with (first | (go_at_call 31; (with_reducible refine (ih k2 (by have := HJ6.out; have := HK2.out; omega) ((rdNd l0_4 x7_2).f0) ((rdNd l0_4 x7_2).f1.f0) ((rdNd l0_4 x7_2).f1.f1) _ _ ((rdNd l0_4 x7_2).f2) _ _ ((rdNd l0_4 x7_2).f3) ((rdNd l0_4 x7_2).f4) (wrap64 (a1 - x5_2)) t254 _ ?side1 ?side2 ?side3 ?side4 A22.out).mono ?_); (case side1 => repeat (first | exact (Kd.yc3 HR253_3.out HB.out) | (with_reducible refine Kd.C_alloc ?_ _) | (with_reducible refine Kd.C_drewN ?_ _) | (with_reducible refine Kd.C_drew ?_))); (case side2 => exact HC253_3.out); (case side3 => repeat (first | exact (Kd.yc3 HR253_4.out HB.out) | (with_reducible refine Kd.C_alloc ?_ _) | (with_reducible refine Kd.C_drewN ?_ _) | (with_reducible refine Kd.C_drew ?_))); (case side4 => exact HC253_4.out); rintro e w24 ⟨rfl, hb⟩; have n0_ := Aside0.mk (yb9 (g := gb249) (o := .cells #[.int .i64 a0_0, .string a0_1, .string a0_2, .slice A0_3 l0_3.length c0_3, .slice (some ad253) l0_4.length c0_4, .string a0_5] 27 (0, 0)) (by (with_reducible repeat (first | refine ya8 ?_ _ | refine ya9 ?_ | refine blk_alloc ?_ _)); exact BK249.out) hb); have n1_ := Aside0.mk (ya7 (by repeat (first | (with_reducible first | exact HB.out | apply ya2 | apply ya0 | apply ya1 | refine ya6 ?_ GE249.out) | exact HB.out)) hb); clear BK249; clear HB; have BK249 := n0_; have HB := n1_; clear n0_ n1_; (try clear hb); (try clear hb2); (try clear hk); (try clear hi)))
       repeat (go_quiet (first | (go_at_call 31; (with_reducible refine (ih k2 (by have := HJ6.out; have := HK2.out; omega) ((rdNd l0_4 x7_2).f0) ((rdNd l0_4 x7_2).f1.f0) ((rdNd l0_4 x7_2).f1.f1) _ _ ((rdNd l0_4 x7_2).f2) _ _ ((rdNd l0_4 x7_2).f3) ((rdNd l0_4 x7_2).f4) (wrap64 (a1 - x5_2)) t254 _ ?side1 ?side2 ?side3 ?side4 A22.out).mono ?_); (case side1 => repeat (first | exact (Kd.yc3 HR253_3.out HB.out) | (with_reducible refine Kd.C_alloc ?_ _) | (with_reducible refine Kd.C_drewN ?_ _) | (with_reducible refine Kd.C_drew ?_))); (case side2 => exact HC253_3.out); (case side3 => repeat (first | exact (Kd.yc3 HR253_4.out HB.out) | (with_reducible refine Kd.C_alloc ?_ _) | (with_reducible refine Kd.C_drewN ?_ _) | (with_reducible refine Kd.C_drew ?_))); (case side4 => exact HC253_4.out); rintro e w24 ⟨rfl, hb⟩; have n0_ := Aside0.mk (yb9 (g := gb249) (o := .cells #[.int .i64 a0_0, .string a0_1, .string a0_2, .slice A0_3 l0_3.length c0_3, .slice (some ad253) l0_4.length c0_4, .string a0_5] 27 (0, 0)) (by (with_reducible repeat (first | refine ya8 ?_ _ | refine ya9 ?_ | refine blk_alloc ?_ _)); exact BK249.out) hb); have n1_ := Aside0.mk (ya7 (by repeat (first | (with_reducible first | exact HB.out | apply ya2 | apply ya0 | apply ya1 | refine ya6 ?_ GE249.out) | exact HB.out)) hb); clear BK249; clear HB; have BK249 := n0_; have HB := n1_; clear n0_ n1_; (try clear hb); (try clear hb2); (try clear hk); (try clear hi))); try go_wp2_with (first | (go_at_call 31; (with_reducible refine (ih k2 (by have := HJ6.out; have := HK2.out; omega) ((rdNd l0_4 x7_2).f0) ((rdNd l0_4 x7_2).f1.f0) ((rdNd l0_4 x7_2).f1.f1) _ _ ((rdNd l0_4 x7_2).f2) _ _ ((rdNd l0_4 x7_2).f3) ((rdNd l0_4 x7_2).f4) (wrap64 (a1 - x5_2)) t254 _ ?side1 ?side2 ?side3 ?side4 A22.out).mono ?_); (case side1 => repeat (first | exact (Kd.yc3 HR253_3.out HB.out) | (with_reducible refine Kd.C_alloc ?_ _) | (with_reducible refine Kd.C_drewN ?_ _) | (with_reducible refine Kd.C_drew ?_))); (case side2 => exact HC253_3.out); (case side3 => repeat (first | exact (Kd.yc3 HR253_4.out HB.out) | (with_reducible refine Kd.C_alloc ?_ _) | (with_reducible refine Kd.C_drewN ?_ _) | (with_reducible refine Kd.C_drew ?_))); (case side4 => exact HC253_4.out); rintro e w24 ⟨rfl, hb⟩; have n0_ := Aside0.mk (yb9 (g := gb249) (o := .cells #[.int .i64 a0_0, .string a0_1, .string a0_2, .slice A0_3 l0_3.length c0_3, .slice (some ad253) l0_4.length c0_4, .string a0_5] 27 (0, 0)) (by (with_reducible repeat (first | refine ya8 ?_ _ | refine ya9 ?_ | refine blk_alloc ?_ _)); exact BK249.out) hb); have n1_ := Aside0.mk (ya7 (by repeat (first | (with_reducible first | exact HB.out | apply ya2 | apply ya0 | apply ya1 | refine ya6 ?_ GE249.out) | exact HB.out)) hb); clear BK249; clear HB; have BK249 := n0_; have HB := n1_; clear n0_ n1_; (try clear hb); (try clear hb2); (try clear hk); (try clear hi))))
       go_roundg k2
       case measure => have := HJ6.out; have := HK2.out; omega
       case rel => exact ⟨(wrap64 (x5_2 + t254)), (wrap64 (x7_2 + 1)), (by first | rfl | (simp; done) | (simp [*]; done)), (by first | rfl | (simp; done) | (simp [*]; done)), H', ⟨by have := HJ6.out; have := HK2.out; omega⟩, ⟨by (with_reducible repeat (first | refine ya8 ?_ _ | refine ya9 ?_ | refine blk_alloc ?_ _)); exact BK249.out⟩, ⟨by repeat (first | (with_reducible first | exact HB.out | apply ya2 | apply ya0 | apply ya1 | refine ya6 ?_ GE249.out) | exact HB.out)⟩⟩
      ·rw [if_neg c20] at H
       have c20b0 : decide (x5_2 ≤ a1) = false := decide_eq_false c20
       clear c20
       obtain rfl := Option.some.inj H
       obtain ⟨hcz25_0, hcz25_1, hcz25_2, hcz25_3, hcz25_4, hcz25_5, hfz25_0, hfz25_1, hfz25_2, hfz25_3, hfz25_4, hfz25_5⟩ := bx6 BK249.out
       go_wp2
       repeat (go_quiet (fail); try go_wp2)
       go_ret
       exact ⟨by first | rfl | (simp [yb3, yb2] <;> rfl) | (simp only [← hji3, ← hji4, ← hji5, ← hji6]; first | rfl | (simp [yb3, yb2] <;> rfl)) | (simp [*, yb3, yb2] <;> rfl), by repeat (first | (with_reducible first | exact HB.out | apply ya2 | apply ya0 | apply ya1 | refine ya6 ?_ GE249.out) | exact HB.out)⟩
     ·rw [if_neg c19] at H
      have c19b0 : decide (x7_2 < (l0_4.length : Int)) = false := decide_eq_false c19
      clear c19
      obtain rfl := Option.some.inj H
      obtain ⟨hcz26_0, hcz26_1, hcz26_2, hcz26_3, hcz26_4, hcz26_5, hfz26_0, hfz26_1, hfz26_2, hfz26_3, hfz26_4, hfz26_5⟩ := bx6 BK249.out
      go_wp2
      repeat (go_quiet (fail); try go_wp2)
      go_ret
      exact ⟨by first | rfl | (simp [yb3, yb2] <;> rfl) | (simp only [← hji3, ← hji4, ← hji5, ← hji6]; first | rfl | (simp [yb3, yb2] <;> rfl)) | (simp [*, yb3, yb2] <;> rfl), by repeat (first | (with_reducible first | exact HB.out | apply ya2 | apply ya0 | apply ya1 | refine ya6 ?_ GE249.out) | exact HB.out)⟩

def yg2.f (k : Nat) (a0_0 : Int) (a0_1 : ByteArray) (a0_2 : ByteArray) (l0_3 : List (At)) (l0_4 : List (Nd)) (a0_5 : ByteArray) : Option (Bool) := (yb5.f k a0_0 a0_1 a0_2 l0_3 l0_4 a0_5 30000).bind fun t256 => (some (decide (t256 ≤ 30000)))
set_option maxHeartbeats 8000000 in
set_option maxRecDepth 100000 in
theorem yg2.calls (k : Nat) (a0_0 : Int) (a0_1 : ByteArray) (a0_2 : ByteArray) (A0_3 : Option Addr) (c0_3 : Nat) (l0_3 : List (At)) (A0_4 : Option Addr) (c0_4 : Nat) (l0_4 : List (Nd)) (a0_5 : ByteArray) (r : Bool) (w : World) (hr0_3 : Kd.C kAt w A0_3 l0_3.length l0_3) (hc0_3 : l0_3.length ≤ c0_3) (hr0_4 : Kd.C kNd w A0_4 l0_4.length l0_4) (hc0_4 : l0_4.length ≤ c0_4) (h : yg2.f k a0_0 a0_1 a0_2 l0_3 l0_4 a0_5 = some r) :
  Calls Tryd.prog 12 #[.agg #[.int .i64 a0_0, .string a0_1, .string a0_2, .slice A0_3 l0_3.length c0_3, .slice A0_4 l0_4.length c0_4, .string a0_5]] w fun e w' => e = .returned (.bool r) ∧ Below w.heap.size w w' := by
 have hu27 := Tryd.underlying27
 have HR0_3 := Aside0.mk hr0_3
 have HC0_3 := Aside0.mk hc0_3
 clear hr0_3 hc0_3
 have HR0_4 := Aside0.mk hr0_4
 have HC0_4 := Aside0.mk hc0_4
 clear hr0_4 hc0_4
 have HB := Aside0.mk (Below.refl w.heap.size w)
 have H : ((yb5.f k a0_0 a0_1 a0_2 l0_3 l0_4 a0_5 30000).bind fun t256 => (some (decide (t256 ≤ 30000)))) = some r := h
 clear h
 replace H := Option.bind_eq_some_iff.mp H
 obtain ⟨t256, A20, H⟩ := H
 replace H : (some (decide (t256 ≤ 30000))) = some r := H
 have A2 := Aside0.mk A20
 clear A20
 obtain rfl := Option.some.inj H
 go_enter Tryd.func12, Tryd.ntmps12
 go_wp2_with (first | ((with_reducible refine yd2 (N := 1) rfl ?_); refine yd3 ?hg (N := 1) ?hd (cs := #[.int .i64 a0_0, .string a0_1, .string a0_2, .slice A0_3 l0_3.length c0_3, .slice A0_4 l0_4.length c0_4, .string a0_5]) (t := 27) ?hr ?_; (case hd => rfl); (case hg => rfl); (case hr => first | (go_simp; done) | (go_simp; rfl)); intro gb255 hg w3 hbox hb; have n0_ := Aside0.mk (ya7 (by repeat (first | (with_reducible first | exact HB.out | apply ya2 | apply ya0 | apply ya1) | exact HB.out)) hb); have n1_ := Aside0.mk (hbox); have n2_ := Aside0.mk ((by rw [hg]; exact (yb4 (by repeat (first | (with_reducible first | exact HB.out | apply ya2 | apply ya0 | apply ya1) | exact HB.out))) : w.heap.size ≤ gb255)); have n3_ := Aside0.mk ((by rw [hg]; exact (yb4 (by repeat (first | (with_reducible first | exact HB.out | apply ya2 | apply ya0 | apply ya1) | exact HB.out))) : w.heap.size ≤ gb255)); clear HB; have HB := n0_; have BK255 := n1_; have GW255 := n2_; have GE255 := n3_; clear n0_ n1_ n2_ n3_; clear hb hbox hg; obtain ⟨hcz4_0, hcz4_1, hcz4_2, hcz4_3, hcz4_4, hcz4_5, hfz4_0, hfz4_1, hfz4_2, hfz4_3, hfz4_4, hfz4_5⟩ := bx6 BK255.out) | ((with_reducible refine yc6 (f := 31) rfl ?_); refine goesL_ (some 4) rfl rfl Tryd.func31 (by kernel_rfl) rfl #[.agg #[.int .i64 a0_0, .string a0_1, .string a0_2, .slice A0_3 l0_3.length c0_3, .slice A0_4 l0_4.length c0_4, .string a0_5], .int .i64 30000] rfl (by (try simp only [List.map_toArray, List.map_cons, List.map_nil]); first | done | rfl | (simp only [List.length_drop, List.length_take]; rfl) | (simp only [ByteArray.size_extract]; rfl)) ?_; (with_reducible refine (yb5.calls k a0_0 a0_1 a0_2 _ _ l0_3 _ _ l0_4 a0_5 30000 t256 _ ?side1 ?side2 ?side3 ?side4 A2.out).mono ?_); (case side1 => repeat (first | exact (Kd.yc3 HR0_3.out HB.out) | (with_reducible refine Kd.C_alloc ?_ _) | (with_reducible refine Kd.C_drewN ?_ _) | (with_reducible refine Kd.C_drew ?_))); (case side2 => exact HC0_3.out); (case side3 => repeat (first | exact (Kd.yc3 HR0_4.out HB.out) | (with_reducible refine Kd.C_alloc ?_ _) | (with_reducible refine Kd.C_drewN ?_ _) | (with_reducible refine Kd.C_drew ?_))); (case side4 => exact HC0_4.out); rintro e w5 ⟨rfl, hb⟩; refine ⟨_, rfl, ?_⟩; have n0_ := Aside0.mk (yb9 (g := gb255) (o := .cells #[.int .i64 a0_0, .string a0_1, .string a0_2, .slice A0_3 l0_3.length c0_3, .slice A0_4 l0_4.length c0_4, .string a0_5] 27 (0, 0)) (by (with_reducible repeat (first | refine ya8 ?_ _ | refine ya9 ?_ | refine blk_alloc ?_ _)); exact BK255.out) hb); have n1_ := Aside0.mk (ya7 (by repeat (first | (with_reducible first | exact HB.out | apply ya2 | apply ya0 | apply ya1 | refine ya6 ?_ GE255.out) | exact HB.out)) hb); clear BK255; clear HB; have BK255 := n0_; have HB := n1_; clear n0_ n1_; (try clear hb); (try clear hb2); (try clear hk); (try clear hi)))
 go_ret
 exact ⟨by first | rfl | (simp [yb3, yb2] <;> rfl) | (simp [*, yb3, yb2] <;> rfl), by repeat (first | (with_reducible first | exact HB.out | apply ya2 | apply ya0 | apply ya1 | refine ya6 ?_ GE255.out) | exact HB.out)⟩

end Go.Proofs.YtffpbhbiamkkpaaDoor.PR
