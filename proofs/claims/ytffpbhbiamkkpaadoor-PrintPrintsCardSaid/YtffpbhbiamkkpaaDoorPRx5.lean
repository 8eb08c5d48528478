import Derived.Test.YtffpbhbiamkkpaaDoorM5
import Derived.Test.YtffpbhbiamkkpaaDoorPRx3
import Derived.Test.YtffpbhbiamkkpaaDoorPRx4
import Derived.Test.YtffpbhbiamkkpaaDoorPRx5d
import Derived.Test.YtffpbhbiamkkpaaDoorM7
-- PRINTED by print.py (a twelfth state) out of the translation. Not trusted: Lean checks it.
namespace Go.Proofs.YtffpbhbiamkkpaaDoor.PR
open Go.Proofs.YtffpbhbiamkkpaaDoor.ND
open Go.RowKit Go.Proofs.YtffpbhbiamkkpaaDoorW.PrintWords Go.Proofs.YtffpbhbiamkkpaaDoorW.PrintLast Go.Proofs.YtffpbhbiamkkpaaDoorW.PrintMore
attribute [local go_sem] yf9 yf7 yg5 yg4 ye9 ye8 yf8 yf6   -- for this text's walks alone
set_option linter.unusedVariables false
set_option linter.unusedSimpArgs false

attribute [local go_sem high] eqA23
set_option maxHeartbeats 8000000 in
set_option maxRecDepth 100000 in
theorem ya4.calls (k : Nat) : ∀ (a0_0 : Int) (a0_1 : ByteArray) (a0_2 : ByteArray) (A0_3 : Option Addr) (c0_3 : Nat) (l0_3 : List (At)) (A0_4 : Option Addr) (c0_4 : Nat) (l0_4 : List (Nd)) (a0_5 : ByteArray) (r : Bool) (w : World) (hr0_3 : Kd.C kAt w A0_3 l0_3.length l0_3) (hc0_3 : l0_3.length ≤ c0_3) (hr0_4 : Kd.C kNd w A0_4 l0_4.length l0_4) (hc0_4 : l0_4.length ≤ c0_4) (h : ya4.f k a0_0 a0_1 a0_2 l0_3 l0_4 a0_5 = some r),
  Calls Tryd.prog 71 #[.agg #[.int .i64 a0_0, .string a0_1, .string a0_2, .slice A0_3 l0_3.length c0_3, .slice A0_4 l0_4.length c0_4, .string a0_5]] w fun e w' => e = .returned (.bool r) ∧ Below w.heap.size w w' := by
 induction k using Nat.strongRecOn with
 | _ k ih =>
 intro a0_0 a0_1 a0_2 A0_3 c0_3 l0_3 A0_4 c0_4 l0_4 a0_5 r w hr0_3 hc0_3 hr0_4 hc0_4 h
 cases k with
 | zero => exact absurd h (by simp [ya4.f])
 | succ k =>
 simp only [ya4.f] at h
 have hu27 := Tryd.underlying27
 have hu23 := Tryd.underlying23
 have hu63 := Tryd.underlying63
 have HR0_3 := Aside0.mk hr0_3
 have HC0_3 := Aside0.mk hc0_3
 clear hr0_3 hc0_3
 have HR0_4 := Aside0.mk hr0_4
 have HC0_4 := Aside0.mk hc0_4
 clear hr0_4 hc0_4
 have HB := Aside0.mk (Below.refl w.heap.size w)
 have H : (if a0_0 = 2 then (if a0_5.toList = ([] : List UInt8) then (some false) else ((yb6.f k a0_5).bind fun t128 => (if t128 = true then (if (a0_1.toList == ([] : List UInt8) && (a0_2.toList == ([] : List UInt8))) = true then (if (l0_3.length : Int) = 0 then (some ((l0_4.length : Int) == 0)) else (some false)) else (some false)) else (some false)))) else (if a0_0 = 1 then (if a0_5.toList = ([] : List UInt8) then ((yc5.f k a0_1 a0_2).bind fun t129 => (if t129 = true then (ya4.j0 k (decide ((l0_3.length : Int) > 32)) a0_0 a0_1 a0_2 l0_3 l0_4 a0_5) else (ya4.j0 k true a0_0 a0_1 a0_2 l0_3 l0_4 a0_5))) else (ya4.j0 k true a0_0 a0_1 a0_2 l0_3 l0_4 a0_5)) else (ya4.j0 k true a0_0 a0_1 a0_2 l0_3 l0_4 a0_5))) = some r := h
 clear h
 by_cases c2 : a0_0 = 2
 ·rw [if_pos c2] at H
  have c2b0 : (a0_0 == 2) = true := beq_iff_eq.mpr c2
  have c2b1 : (a0_0 != 2) = false := bne_eq_false_iff_eq.mpr c2
  clear c2
  by_cases c3 : a0_5.toList = ([] : List UInt8)
  ·rw [if_pos c3] at H
   have c3b0 : (a0_5.toList == ([] : List UInt8)) = true := beq_iff_eq.mpr c3
   have c3b1 : (a0_5.toList != ([] : List UInt8)) = false := bne_eq_false_iff_eq.mpr c3
   clear c3
   obtain rfl := Option.some.inj H
   go_enter Tryd.func71, Tryd.ntmps71
   go_wp2_with (first | ((with_reducible refine yd2 (N := 1) rfl ?_); (try (refine yd8 (by rfl) ?_; dsimp only)); refine yd3 ?hg (N := 1) ?hd (cs := #[.int .i64 a0_0, .string a0_1, .string a0_2, .slice A0_3 l0_3.length c0_3, .slice A0_4 l0_4.length c0_4, .string a0_5]) (t := 27) ?hr ?_; (case hd => rfl); (case hg => rfl); (case hr => first | (go_simp; done) | (go_simp; rfl)); intro gb127 hg w4 hbox hb; have n0_ := Aside0.mk (ya7 (by repeat (first | (with_reducible first | exact HB.out | apply ya2 | apply ya0 | apply ya1) | exact HB.out)) hb); have n1_ := Aside0.mk (hbox); have n2_ := Aside0.mk ((by rw [hg]; exact (yb4 (by repeat (first | (with_reducible first | exact HB.out | apply ya2 | apply ya0 | apply ya1) | exact HB.out))) : w.heap.size ≤ gb127)); have n3_ := Aside0.mk ((by rw [hg]; exact (yb4 (by repeat (first | (with_reducible first | exact HB.out | apply ya2 | apply ya0 | apply ya1) | exact HB.out))) : w.heap.size ≤ gb127)); clear HB; have HB := n0_; have BK127 := n1_; have GW127 := n2_; have GE127 := n3_; clear n0_ n1_ n2_ n3_; clear hb hbox hg; obtain ⟨hcz5_0, hcz5_1, hcz5_2, hcz5_3, hcz5_4, hcz5_5, hfz5_0, hfz5_1, hfz5_2, hfz5_3, hfz5_4, hfz5_5⟩ := bx6 BK127.out))
   repeat (go_quiet (first | ((with_reducible refine yd2 (N := 1) rfl ?_); (try (refine yd8 (by rfl) ?_; dsimp only)); refine yd3 ?hg (N := 1) ?hd (cs := #[.int .i64 a0_0, .string a0_1, .string a0_2, .slice A0_3 l0_3.length c0_3, .slice A0_4 l0_4.length c0_4, .string a0_5]) (t := 27) ?hr ?_; (case hd => rfl); (case hg => rfl); (case hr => first | (go_simp; done) | (go_simp; rfl)); intro gb127 hg w4 hbox hb; have n0_ := Aside0.mk (ya7 (by repeat (first | (with_reducible first | exact HB.out | apply ya2 | apply ya0 | apply ya1) | exact HB.out)) hb); have n1_ := Aside0.mk (hbox); have n2_ := Aside0.mk ((by rw [hg]; exact (yb4 (by repeat (first | (with_reducible first | exact HB.out | apply ya2 | apply ya0 | apply ya1) | exact HB.out))) : w.heap.size ≤ gb127)); have n3_ := Aside0.mk ((by rw [hg]; exact (yb4 (by repeat (first | (with_reducible first | exact HB.out | apply ya2 | apply ya0 | apply ya1) | exact HB.out))) : w.heap.size ≤ gb127)); clear HB; have HB := n0_; have BK127 := n1_; have GW127 := n2_; have GE127 := n3_; clear n0_ n1_ n2_ n3_; clear hb hbox hg; obtain ⟨hcz5_0, hcz5_1, hcz5_2, hcz5_3, hcz5_4, hcz5_5, hfz5_0, hfz5_1, hfz5_2, hfz5_3, hfz5_4, hfz5_5⟩ := bx6 BK127.out)); try go_wp2_with (first | ((with_reducible refine yd2 (N := 1) rfl ?_); (try (refine yd8 (by rfl) ?_; dsimp only)); refine yd3 ?hg (N := 1) ?hd (cs := #[.int .i64 a0_0, .string a0_1, .string a0_2, .slice A0_3 l0_3.length c0_3, .slice A0_4 l0_4.length c0_4, .string a0_5]) (t := 27) ?hr ?_; (case hd => rfl); (case hg => rfl); (case hr => first | (go_simp; done) | (go_simp; rfl)); intro gb127 hg w4 hbox hb; have n0_ := Aside0.mk (ya7 (by repeat (first | (with_reducible first | exact HB.out | apply ya2 | apply ya0 | apply ya1) | exact HB.out)) hb); have n1_ := Aside0.mk (hbox); have n2_ := Aside0.mk ((by rw [hg]; exact (yb4 (by repeat (first | (with_reducible first | exact HB.out | apply ya2 | apply ya0 | apply ya1) | exact HB.out))) : w.heap.size ≤ gb127)); have n3_ := Aside0.mk ((by rw [hg]; exact (yb4 (by repeat (first | (with_reducible first | exact HB.out | apply ya2 | apply ya0 | apply ya1) | exact HB.out))) : w.heap.size ≤ gb127)); clear HB; have HB := n0_; have BK127 := n1_; have GW127 := n2_; have GE127 := n3_; clear n0_ n1_ n2_ n3_; clear hb hbox hg; obtain ⟨hcz5_0, hcz5_1, hcz5_2, hcz5_3, hcz5_4, hcz5_5, hfz5_0, hfz5_1, hfz5_2, hfz5_3, hfz5_4, hfz5_5⟩ := bx6 BK127.out)))
   go_ret
   exact ⟨by first | rfl | (simp [yb3, yb2] <;> rfl) | (simp [*, yb3, yb2] <;> rfl), by repeat (first | (with_reducible first | exact HB.out | apply ya2 | apply ya0 | apply ya1 | refine ya6 ?_ GE127.out) | exact HB.out)⟩
  rw [if_neg c3] at H
  have c3b0 : (a0_5.toList == ([] : List UInt8)) = false := beq_eq_false_iff_ne.mpr c3
  have c3b1 : (a0_5.toList != ([] : List UInt8)) = true := bne_iff_ne.mpr c3
  replace H := Option.bind_eq_some_iff.mp H
  obtain ⟨t128, A60, H⟩ := H
  replace H : (if t128 = true then (if (a0_1.toList == ([] : List UInt8) && (a0_2.toList == ([] : List UInt8))) = true then (if (l0_3.length : Int) = 0 then (some ((l0_4.length : Int) == 0)) else (some false)) else (some false)) else (some false)) = some r := H
  have A6 := Aside0.mk A60
  clear A60
  by_cases c7 : t128 = true
  rotate_left 1
  ·replace c7 := Bool.eq_false_iff.mpr c7
   subst c7
   have H1 : (some false) = some r := by rw [if_neg (show ¬ (false = true) by decide)] at H; exact H
   clear H
   have H := H1
   clear H1
   obtain rfl := Option.some.inj H
   go_enter Tryd.func71, Tryd.ntmps71
   go_wp2_with (first | ((with_reducible refine yd2 (N := 1) rfl ?_); (try (refine yd8 (by rfl) ?_; dsimp only)); refine yd3 ?hg (N := 1) ?hd (cs := #[.int .i64 a0_0, .string a0_1, .string a0_2, .slice A0_3 l0_3.length c0_3, .slice A0_4 l0_4.length c0_4, .string a0_5]) (t := 27) ?hr ?_; (case hd => rfl); (case hg => rfl); (case hr => first | (go_simp; done) | (go_simp; rfl)); intro gb127 hg w22 hbox hb; have n0_ := Aside0.mk (ya7 (by repeat (first | (with_reducible first | exact HB.out | apply ya2 | apply ya0 | apply ya1) | exact HB.out)) hb); have n1_ := Aside0.mk (hbox); have n2_ := Aside0.mk ((by rw [hg]; exact (yb4 (by repeat (first | (with_reducible first | exact HB.out | apply ya2 | apply ya0 | apply ya1) | exact HB.out))) : w.heap.size ≤ gb127)); have n3_ := Aside0.mk ((by rw [hg]; exact (yb4 (by repeat (first | (with_reducible first | exact HB.out | apply ya2 | apply ya0 | apply ya1) | exact HB.out))) : w.heap.size ≤ gb127)); clear HB; have HB := n0_; have BK127 := n1_; have GW127 := n2_; have GE127 := n3_; clear n0_ n1_ n2_ n3_; clear hb hbox hg; obtain ⟨hcz23_0, hcz23_1, hcz23_2, hcz23_3, hcz23_4, hcz23_5, hfz23_0, hfz23_1, hfz23_2, hfz23_3, hfz23_4, hfz23_5⟩ := bx6 BK127.out) | (go_at_call 108; (with_reducible refine (yb6.calls k a0_5 false _ A6.out).mono ?_); rintro e w24 ⟨rfl, hb⟩; have n0_ := Aside0.mk (yb9 (g := gb127) (o := .cells #[.int .i64 a0_0, .string a0_1, .string a0_2, .slice A0_3 l0_3.length c0_3, .slice A0_4 l0_4.length c0_4, .string a0_5] 27 (0, 0)) (by (with_reducible repeat (first | refine ya8 ?_ _ | refine ya9 ?_ | refine blk_alloc ?_ _)); exact BK127.out) hb); have n1_ := Aside0.mk (ya7 (by repeat (first | (with_reducible first | exact HB.out | apply ya2 | apply ya0 | apply ya1 | refine ya6 ?_ GE127.out) | exact HB.out)) hb); clear BK127; clear HB; have BK127 := n0_; have HB := n1_; clear n0_ n1_; (try clear hb); (try clear hb2); (try clear hk); (try clear hi)))
   repeat (go_quiet (first | ((with_reducible refine yd2 (N := 1) rfl ?_); (try (refine yd8 (by rfl) ?_; dsimp only)); refine yd3 ?hg (N := 1) ?hd (cs := #[.int .i64 a0_0, .string a0_1, .string a0_2, .slice A0_3 l0_3.length c0_3, .slice A0_4 l0_4.length c0_4, .string a0_5]) (t := 27) ?hr ?_; (case hd => rfl); (case hg => rfl); (case hr => first | (go_simp; done) | (go_simp; rfl)); intro gb127 hg w22 hbox hb; have n0_ := Aside0.mk (ya7 (by repeat (first | (with_reducible first | exact HB.out | apply ya2 | apply ya0 | apply ya1) | exact HB.out)) hb); have n1_ := Aside0.mk (hbox); have n2_ := Aside0.mk ((by rw [hg]; exact (yb4 (by repeat (first | (with_reducible first | exact HB.out | apply ya2 | apply ya0 | apply ya1) | exact HB.out))) : w.heap.size ≤ gb127)); have n3_ := Aside0.mk ((by rw [hg]; exact (yb4 (by repeat (first | (with_reducible first | exact HB.out | apply ya2 | apply ya0 | apply ya1) | exact HB.out))) : w.heap.size ≤ gb127)); clear HB; have HB := n0_; have BK127 := n1_; have GW127 := n2_; have GE127 := n3_; clear n0_ n1_ n2_ n3_; clear hb hbox hg; obtain ⟨hcz23_0, hcz23_1, hcz23_2, hcz23_3, hcz23_4, hcz23_5, hfz23_0, hfz23_1, hfz23_2, hfz23_3, hfz23_4, hfz23_5⟩ := bx6 BK127.out) | (go_at_call 108; (with_reducible refine (yb6.calls k a0_5 false _ A6.out).mono ?_); rintro e w24 ⟨rfl, hb⟩; have n0_ := Aside0.mk (yb9 (g := gb127) (o := .cells #[.int .i64 a0_0, .string a0_1, .string a0_2, .slice A0_3 l0_3.length c0_3, .slice A0_4 l0_4.length c0_4, .string a0_5] 27 (0, 0)) (by (with_reducible repeat (first | refine ya8 ?_ _ | refine ya9 ?_ | refine blk_alloc ?_ _)); exact BK127.out) hb); have n1_ := Aside0.mk (ya7 (by repeat (first | (with_reducible first | exact HB.out | apply ya2 | apply ya0 | apply ya1 | refine ya6 ?_ GE127.out) | exact HB.out)) hb); clear BK127; clear HB; have BK127 := n0_; have HB := n1_; clear n0_ n1_; (try clear hb); (try clear hb2); (try clear hk); (try clear hi))); try go_wp2_with (first | ((with_reducible refine yd2 (N := 1) rfl ?_); (try (refine yd8 (by rfl) ?_; dsimp only)); refine yd3 ?hg (N := 1) ?hd (cs := #[.int .i64 a0_0, .string a0_1, .string a0_2, .slice A0_3 l0_3.length c0_3, .slice A0_4 l0_4.length c0_4, .string a0_5]) (t := 27) ?hr ?_; (case hd => rfl); (case hg => rfl); (case hr => first | (go_simp; done) | (go_simp; rfl)); intro gb127 hg w22 hbox hb; have n0_ := Aside0.mk (ya7 (by repeat (first | (with_reducible first | exact HB.out | apply ya2 | apply ya0 | apply ya1) | exact HB.out)) hb); have n1_ := Aside0.mk (hbox); have n2_ := Aside0.mk ((by rw [hg]; exact (yb4 (by repeat (first | (with_reducible first | exact HB.out | apply ya2 | apply ya0 | apply ya1) | exact HB.out))) : w.heap.size ≤ gb127)); have n3_ := Aside0.mk ((by rw [hg]; exact (yb4 (by repeat (first | (with_reducible first | exact HB.out | apply ya2 | apply ya0 | apply ya1) | exact HB.out))) : w.heap.size ≤ gb127)); clear HB; have HB := n0_; have BK127 := n1_; have GW127 := n2_; have GE127 := n3_; clear n0_ n1_ n2_ n3_; clear hb hbox hg; obtain ⟨hcz23_0, hcz23_1, hcz23_2, hcz23_3, hcz23_4, hcz23_5, hfz23_0, hfz23_1, hfz23_2, hfz23_3, hfz23_4, hfz23_5⟩ := bx6 BK127.out) | (go_at_call 108; (with_reducible refine (yb6.calls k a0_5 false _ A6.out).mono ?_); rintro e w24 ⟨rfl, hb⟩; have n0_ := Aside0.mk (yb9 (g := gb127) (o := .cells #[.int .i64 a0_0, .string a0_1, .string a0_2, .slice A0_3 l0_3.length c0_3, .slice A0_4 l0_4.length c0_4, .string a0_5] 27 (0, 0)) (by (with_reducible repeat (first | refine ya8 ?_ _ | refine ya9 ?_ | refine blk_alloc ?_ _)); exact BK127.out) hb); have n1_ := Aside0.mk (ya7 (by repeat (first | (with_reducible first | exact HB.out | apply ya2 | apply ya0 | apply ya1 | refine ya6 ?_ GE127.out) | exact HB.out)) hb); clear BK127; clear HB; have BK127 := n0_; have HB := n1_; clear n0_ n1_; (try clear hb); (try clear hb2); (try clear hk); (try clear hi))))
   go_ret
   exact ⟨by first | rfl | (simp [yb3, yb2] <;> rfl) | (simp [*, yb3, yb2] <;> rfl), by repeat (first | (with_reducible first | exact HB.out | apply ya2 | apply ya0 | apply ya1 | refine ya6 ?_ GE127.out) | exact HB.out)⟩
  subst c7
  have H1 : (if (a0_1.toList == ([] : List UInt8) && (a0_2.toList == ([] : List UInt8))) = true then (if (l0_3.length : Int) = 0 then (some ((l0_4.length : Int) == 0)) else (some false)) else (some false)) = some r := by rw [if_pos rfl] at H; exact H
  clear H
  have H := H1
  clear H1
  by_cases c8 : (a0_1.toList == ([] : List UInt8) && (a0_2.toList == ([] : List UInt8))) = true
  rotate_left 1
  ·rw [if_neg c8] at H
   have c8b0 : (a0_1.toList == ([] : List UInt8) && (a0_2.toList == ([] : List UInt8))) = false := by simpa using c8
   (try (have c8b1 : decide (a0_1.toList = ([] : List UInt8) && (a0_2.toList == ([] : List UInt8))) = false := by simpa using c8))
   (try (have c8b2 : (a0_1.toList == ([] : List UInt8) && (a0_2.toList == ([] : List UInt8))) = false := by simpa using c8))
   (try (have c8b4 : (a0_1.toList = ([] : List UInt8) ∧ a0_2.toList = ([] : List UInt8)) = False := eq_false (by simpa using c8b0)))
   (try (have c8b3 : ¬ (a0_1.toList = ([] : List UInt8) && (a0_2.toList == ([] : List UInt8))) := by simpa using c8))
   clear c8
   obtain rfl := Option.some.inj H
   go_enter Tryd.func71, Tryd.ntmps71
   go_wp2_with (first | ((with_reducible refine yd2 (N := 1) rfl ?_); (try (refine yd8 (by rfl) ?_; dsimp only)); refine yd3 ?hg (N := 1) ?hd (cs := #[.int .i64 a0_0, .string a0_1, .string a0_2, .slice A0_3 l0_3.length c0_3, .slice A0_4 l0_4.length c0_4, .string a0_5]) (t := 27) ?hr ?_; (case hd => rfl); (case hg => rfl); (case hr => first | (go_simp; done) | (go_simp; rfl)); intro gb127 hg w18 hbox hb; have n0_ := Aside0.mk (ya7 (by repeat (first | (with_reducible first | exact HB.out | apply ya2 | apply ya0 | apply ya1) | exact HB.out)) hb); have n1_ := Aside0.mk (hbox); have n2_ := Aside0.mk ((by rw [hg]; exact (yb4 (by repeat (first | (with_reducible first | exact HB.out | apply ya2 | apply ya0 | apply ya1) | exact HB.out))) : w.heap.size ≤ gb127)); have n3_ := Aside0.mk ((by rw [hg]; exact (yb4 (by repeat (first | (with_reducible first | exact HB.out | apply ya2 | apply ya0 | apply ya1) | exact HB.out))) : w.heap.size ≤ gb127)); clear HB; have HB := n0_; have BK127 := n1_; have GW127 := n2_; have GE127 := n3_; clear n0_ n1_ n2_ n3_; clear hb hbox hg; obtain ⟨hcz19_0, hcz19_1, hcz19_2, hcz19_3, hcz19_4, hcz19_5, hfz19_0, hfz19_1, hfz19_2, hfz19_3, hfz19_4, hfz19_5⟩ := bx6 BK127.out) | (go_at_call 108; (with_reducible refine (yb6.calls k a0_5 true _ A6.out).mono ?_); rintro e w20 ⟨rfl, hb⟩; have n0_ := Aside0.mk (yb9 (g := gb127) (o := .cells #[.int .i64 a0_0, .string a0_1, .string a0_2, .slice A0_3 l0_3.length c0_3, .slice A0_4 l0_4.length c0_4, .string a0_5] 27 (0, 0)) (by (with_reducible repeat (first | refine ya8 ?_ _ | refine ya9 ?_ | refine blk_alloc ?_ _)); exact BK127.out) hb); have n1_ := Aside0.mk (ya7 (by repeat (first | (with_reducible first | exact HB.out | apply ya2 | apply ya0 | apply ya1 | refine ya6 ?_ GE127.out) | exact HB.out)) hb); clear BK127; clear HB; have BK127 := n0_; have HB := n1_; clear n0_ n1_; (try clear hb); (try clear hb2); (try clear hk); (try clear hi); obtain ⟨hcz21_0, hcz21_1, hcz21_2, hcz21_3, hcz21_4, hcz21_5, hfz21_0, hfz21_1, hfz21_2, hfz21_3, hfz21_4, hfz21_5⟩ := bx6 BK127.out))
   repeat (go_quiet (first | ((with_reducible refine yd2 (N := 1) rfl ?_); (try (refine yd8 (by rfl) ?_; dsimp only)); refine yd3 ?hg (N := 1) ?hd (cs := #[.int .i64 a0_0, .string a0_1, .string a0_2, .slice A0_3 l0_3.length c0_3, .slice A0_4 l0_4.length c0_4, .string a0_5]) (t := 27) ?hr ?_; (case hd => rfl); (case hg => rfl); (case hr => first | (go_simp; done) | (go_simp; rfl)); intro gb127 hg w18 hbox hb; have n0_ := Aside0.mk (ya7 (by repeat (first | (with_reducible first | exact HB.out | apply ya2 | apply ya0 | apply ya1) | exact HB.out)) hb); have n1_ := Aside0.mk (hbox); have n2_ := Aside0.mk ((by rw [hg]; exact (yb4 (by repeat (first | (with_reducible first | exact HB.out | apply ya2 | apply ya0 | apply ya1) | exact HB.out))) : w.heap.size ≤ gb127)); have n3_ := Aside0.mk ((by rw [hg]; exact (yb4 (by repeat (first | (with_reducible first | exact HB.out | apply ya2 | apply ya0 | apply ya1) | exact HB.out))) : w.heap.size ≤ gb127)); clear HB; have HB := n0_; have BK127 := n1_; have GW127 := n2_; have GE127 := n3_; clear n0_ n1_ n2_ n3_; clear hb hbox hg; obtain ⟨hcz19_0, hcz19_1, hcz19_2, hcz19_3, hcz19_4, hcz19_5, hfz19_0, hfz19_1, hfz19_2, hfz19_3, hfz19_4, hfz19_5⟩ := bx6 BK127.out) | (go_at_call 108; (with_reducible refine (yb6.calls k a0_5 true _ A6.out).mono ?_); rintro e w20 ⟨rfl, hb⟩; have n0_ := Aside0.mk (yb9 (g := gb127) (o := .cells #[.int .i64 a0_0, .string a0_1, .string a0_2, .slice A0_3 l0_3.length c0_3, .slice A0_4 l0_4.length c0_4, .string a0_5] 27 (0, 0)) (by (with_reducible repeat (first | refine ya8 ?_ _ | refine ya9 ?_ | refine blk_alloc ?_ _)); exact BK127.out) hb); have n1_ := Aside0.mk (ya7 (by repeat (first | (with_reducible first | exact HB.out | apply ya2 | apply ya0 | apply ya1 | refine ya6 ?_ GE127.out) | exact HB.out)) hb); clear BK127; clear HB; have BK127 := n0_; have HB := n1_; clear n0_ n1_; (try clear hb); (try clear hb2); (try clear hk); (try clear hi); obtain ⟨hcz21_0, hcz21_1, hcz21_2, hcz21_3, hcz21_4, hcz21_5, hfz21_0, hfz21_1, hfz21_2, hfz21_3, hfz21_4, hfz21_5⟩ := bx6 BK127.out)); try go_wp2_with (first | ((with_reducible refine yd2 (N := 1) rfl ?_); (try (refine yd8 (by rfl) ?_; dsimp only)); refine yd3 ?hg (N := 1) ?hd (cs := #[.int .i64 a0_0, .string a0_1, .string a0_2, .slice A0_3 l0_3.length c0_3, .slice A0_4 l0_4.length c0_4, .string a0_5]) (t := 27) ?hr ?_; (case hd => rfl); (case hg => rfl); (case hr => first | (go_simp; done) | (go_simp; rfl)); intro gb127 hg w18 hbox hb; have n0_ := Aside0.mk (ya7 (by repeat (first | (with_reducible first | exact HB.out | apply ya2 | apply ya0 | apply ya1) | exact HB.out)) hb); have n1_ := Aside0.mk (hbox); have n2_ := Aside0.mk ((by rw [hg]; exact (yb4 (by repeat (first | (with_reducible first | exact HB.out | apply ya2 | apply ya0 | apply ya1) | exact HB.out))) : w.heap.size ≤ gb127)); have n3_ := Aside0.mk ((by rw [hg]; exact (yb4 (by repeat (first | (with_reducible first | exact HB.out | apply ya2 | apply ya0 | apply ya1) | exact HB.out))) : w.heap.size ≤ gb127)); clear HB; have HB := n0_; have BK127 := n1_; have GW127 := n2_; have GE127 := n3_; clear n0_ n1_ n2_ n3_; clear hb hbox hg; obtain ⟨hcz19_0, hcz19_1, hcz19_2, hcz19_3, hcz19_4, hcz19_5, hfz19_0, hfz19_1, hfz19_2, hfz19_3, hfz19_4, hfz19_5⟩ := bx6 BK127.out) | (go_at_call 108; (with_reducible refine (yb6.calls k a0_5 true _ A6.out).mono ?_); rintro e w20 ⟨rfl, hb⟩; have n0_ := Aside0.mk (yb9 (g := gb127) (o := .cells #[.int .i64 a0_0, .string a0_1, .string a0_2, .slice A0_3 l0_3.length c0_3, .slice A0_4 l0_4.length c0_4, .string a0_5] 27 (0, 0)) (by (with_reducible repeat (first | refine ya8 ?_ _ | refine ya9 ?_ | refine blk_alloc ?_ _)); exact BK127.out) hb); have n1_ := Aside0.mk (ya7 (by repeat (first | (with_reducible first | exact HB.out | apply ya2 | apply ya0 | apply ya1 | refine ya6 ?_ GE127.out) | exact HB.out)) hb); clear BK127; clear HB; have BK127 := n0_; have HB := n1_; clear n0_ n1_; (try clear hb); (try clear hb2); (try clear hk); (try clear hi); obtain ⟨hcz21_0, hcz21_1, hcz21_2, hcz21_3, hcz21_4, hcz21_5, hfz21_0, hfz21_1, hfz21_2, hfz21_3, hfz21_4, hfz21_5⟩ := bx6 BK127.out)))
   go_ret
   exact ⟨by first | rfl | (simp [yb3, yb2] <;> rfl) | (simp [*, yb3, yb2] <;> rfl), by repeat (first | (with_reducible first | exact HB.out | apply ya2 | apply ya0 | apply ya1 | refine ya6 ?_ GE127.out) | exact HB.out)⟩
  rw [if_pos c8] at H
  have c8b0 : (a0_1.toList == ([] : List UInt8) && (a0_2.toList == ([] : List UInt8))) = true := c8
  (try (have c8b1 : decide (a0_1.toList = ([] : List UInt8) && (a0_2.toList == ([] : List UInt8))) = true := by simpa using c8))
  (try (have c8b2 : (a0_1.toList == ([] : List UInt8) && (a0_2.toList == ([] : List UInt8))) = true := by simpa using c8))
  (try (have c8b4 : (a0_1.toList = ([] : List UInt8) ∧ a0_2.toList = ([] : List UInt8)) = True := eq_true (by simpa using c8b0)))
  clear c8
  by_cases c9 : (l0_3.length : Int) = 0
  rotate_left 1
  ·rw [if_neg c9] at H
   have c9b0 : ((l0_3.length : Int) == 0) = false := beq_eq_false_iff_ne.mpr c9
   have c9b1 : ((l0_3.length : Int) != 0) = true := bne_iff_ne.mpr c9
   have c9b2 : ¬ (l0_3 = []) := fun h_ => c9 (by rw [h_]; rfl)
   obtain rfl := Option.some.inj H
   go_enter Tryd.func71, Tryd.ntmps71
   go_wp2_with (first | ((with_reducible refine yd2 (N := 1) rfl ?_); (try (refine yd8 (by rfl) ?_; dsimp only)); refine yd3 ?hg (N := 1) ?hd (cs := #[.int .i64 a0_0, .string a0_1, .string a0_2, .slice A0_3 l0_3.length c0_3, .slice A0_4 l0_4.length c0_4, .string a0_5]) (t := 27) ?hr ?_; (case hd => rfl); (case hg => rfl); (case hr => first | (go_simp; done) | (go_simp; rfl)); intro gb127 hg w14 hbox hb; have n0_ := Aside0.mk (ya7 (by repeat (first | (with_reducible first | exact HB.out | apply ya2 | apply ya0 | apply ya1) | exact HB.out)) hb); have n1_ := Aside0.mk (hbox); have n2_ := Aside0.mk ((by rw [hg]; exact (yb4 (by repeat (first | (with_reducible first | exact HB.out | apply ya2 | apply ya0 | apply ya1) | exact HB.out))) : w.heap.size ≤ gb127)); have n3_ := Aside0.mk ((by rw [hg]; exact (yb4 (by repeat (first | (with_reducible first | exact HB.out | apply ya2 | apply ya0 | apply ya1) | exact HB.out))) : w.heap.size ≤ gb127)); clear HB; have HB := n0_; have BK127 := n1_; have GW127 := n2_; have GE127 := n3_; clear n0_ n1_ n2_ n3_; clear hb hbox hg; obtain ⟨hcz15_0, hcz15_1, hcz15_2, hcz15_3, hcz15_4, hcz15_5, hfz15_0, hfz15_1, hfz15_2, hfz15_3, hfz15_4, hfz15_5⟩ := bx6 BK127.out) | (go_at_call 108; (with_reducible refine (yb6.calls k a0_5 true _ A6.out).mono ?_); rintro e w16 ⟨rfl, hb⟩; have n0_ := Aside0.mk (yb9 (g := gb127) (o := .cells #[.int .i64 a0_0, .string a0_1, .string a0_2, .slice A0_3 l0_3.length c0_3, .slice A0_4 l0_4.length c0_4, .string a0_5] 27 (0, 0)) (by (with_reducible repeat (first | refine ya8 ?_ _ | refine ya9 ?_ | refine blk_alloc ?_ _)); exact BK127.out) hb); have n1_ := Aside0.mk (ya7 (by repeat (first | (with_reducible first | exact HB.out | apply ya2 | apply ya0 | apply ya1 | refine ya6 ?_ GE127.out) | exact HB.out)) hb); clear BK127; clear HB; have BK127 := n0_; have HB := n1_; clear n0_ n1_; (try clear hb); (try clear hb2); (try clear hk); (try clear hi); obtain ⟨hcz17_0, hcz17_1, hcz17_2, hcz17_3, hcz17_4, hcz17_5, hfz17_0, hfz17_1, hfz17_2, hfz17_3, hfz17_4, hfz17_5⟩ := bx6 BK127.out))
   repeat (go_quiet (first | ((with_reducible refine yd2 (N := 1) rfl ?_); (try (refine yd8 (by rfl) ?_; dsimp only)); refine yd3 ?hg (N := 1) ?hd (cs := #[.int .i64 a0_0, .string a0_1, .string a0_2, .slice A0_3 l0_3.length c0_3, .slice A0_4 l0_4.length c0_4, .string a0_5]) (t := 27) ?hr ?_; (case hd => rfl); (case hg => rfl); (case hr => first | (go_simp; done) | (go_simp; rfl)); intro gb127 hg w14 hbox hb; have n0_ := Aside0.mk (ya7 (by repeat (first | (with_reducible first | exact HB.out | apply ya2 | apply ya0 | apply ya1) | exact HB.out)) hb); have n1_ := Aside0.mk (hbox); have n2_ := Aside0.mk ((by rw [hg]; exact (yb4 (by repeat (first | (with_reducible first | exact HB.out | apply ya2 | apply ya0 | apply ya1) | exact HB.out))) : w.heap.size ≤ gb127)); have n3_ := Aside0.mk ((by rw [hg]; exact (yb4 (by repeat (first | (with_reducible first | exact HB.out | apply ya2 | apply ya0 | apply ya1) | exact HB.out))) : w.heap.size ≤ gb127)); clear HB; have HB := n0_; have BK127 := n1_; have GW127 := n2_; have GE127 := n3_; clear n0_ n1_ n2_ n3_; clear hb hbox hg; obtain ⟨hcz15_0, hcz15_1, hcz15_2, hcz15_3, hcz15_4, hcz15_5, hfz15_0, hfz15_1, hfz15_2, hfz15_3, hfz15_4, hfz15_5⟩ := bx6 BK127.out) | (go_at_call 108; (with_reducible refine (yb6.calls k a0_5 true _ A6.out).mono ?_); rintro e w16 ⟨rfl, hb⟩; have n0_ := Aside0.mk (yb9 (g := gb127) (o := .cells #[.int .i64 a0_0, .string a0_1, .string a0_2, .slice A0_3 l0_3.length c0_3, .slice A0_4 l0_4.length c0_4, .string a0_5] 27 (0, 0)) (by (with_reducible repeat (first | refine ya8 ?_ _ | refine ya9 ?_ | refine blk_alloc ?_ _)); exact BK127.out) hb); have n1_ := Aside0.mk (ya7 (by repeat (first | (with_reducible first | exact HB.out | apply ya2 | apply ya0 | apply ya1 | refine ya6 ?_ GE127.out) | exact HB.out)) hb); clear BK127; clear HB; have BK127 := n0_; have HB := n1_; clear n0_ n1_; (try clear hb); (try clear hb2); (try clear hk); (try clear hi); obtain ⟨hcz17_0, hcz17_1, hcz17_2, hcz17_3, hcz17_4, hcz17_5, hfz17_0, hfz17_1, hfz17_2, hfz17_3, hfz17_4, hfz17_5⟩ := bx6 BK127.out)); try go_wp2_with (first | ((with_reducible refine yd2 (N := 1) rfl ?_); (try (refine yd8 (by rfl) ?_; dsimp only)); refine yd3 ?hg (N := 1) ?hd (cs := #[.int .i64 a0_0, .string a0_1, .string a0_2, .slice A0_3 l0_3.length c0_3, .slice A0_4 l0_4.length c0_4, .string a0_5]) (t := 27) ?hr ?_; (case hd => rfl); (case hg => rfl); (case hr => first | (go_simp; done) | (go_simp; rfl)); intro gb127 hg w14 hbox hb; have n0_ := Aside0.mk (ya7 (by repeat (first | (with_reducible first | exact HB.out | apply ya2 | apply ya0 | apply ya1) | exact HB.out)) hb); have n1_ := Aside0.mk (hbox); have n2_ := Aside0.mk ((by rw [hg]; exact (yb4 (by repeat (first | (with_reducible first | exact HB.out | apply ya2 | apply ya0 | apply ya1) | exact HB.out))) : w.heap.size ≤ gb127)); have n3_ := Aside0.mk ((by rw [hg]; exact (yb4 (by repeat (first | (with_reducible first | exact HB.out | apply ya2 | apply ya0 | apply ya1) | exact HB.out))) : w.heap.size ≤ gb127)); clear HB; have HB := n0_; have BK127 := n1_; have GW127 := n2_; have GE127 := n3_; clear n0_ n1_ n2_ n3_; clear hb hbox hg; obtain ⟨hcz15_0, hcz15_1, hcz15_2, hcz15_3, hcz15_4, hcz15_5, hfz15_0, hfz15_1, hfz15_2, hfz15_3, hfz15_4, hfz15_5⟩ := bx6 BK127.out) | (go_at_call 108; (with_reducible refine (yb6.calls k a0_5 true _ A6.out).mono ?_); rintro e w16 ⟨rfl, hb⟩; have n0_ := Aside0.mk (yb9 (g := gb127) (o := .cells #[.int .i64 a0_0, .string a0_1, .string a0_2, .slice A0_3 l0_3.length c0_3, .slice A0_4 l0_4.length c0_4, .string a0_5] 27 (0, 0)) (by (with_reducible repeat (first | refine ya8 ?_ _ | refine ya9 ?_ | refine blk_alloc ?_ _)); exact BK127.out) hb); have n1_ := Aside0.mk (ya7 (by repeat (first | (with_reducible first | exact HB.out | apply ya2 | apply ya0 | apply ya1 | refine ya6 ?_ GE127.out) | exact HB.out)) hb); clear BK127; clear HB; have BK127 := n0_; have HB := n1_; clear n0_ n1_; (try clear hb); (try clear hb2); (try clear hk); (try clear hi); obtain ⟨hcz17_0, hcz17_1, hcz17_2, hcz17_3, hcz17_4, hcz17_5, hfz17_0, hfz17_1, hfz17_2, hfz17_3, hfz17_4, hfz17_5⟩ := bx6 BK127.out)))
   go_ret
   exact ⟨by first | rfl | (simp [yb3, yb2] <;> rfl) | (simp [*, yb3, yb2] <;> rfl), by repeat (first | (with_reducible first | exact HB.out | apply ya2 | apply ya0 | apply ya1 | refine ya6 ?_ GE127.out) | exact HB.out)⟩
  rw [if_pos c9] at H
  have c9b0 : ((l0_3.length : Int) == 0) = true := beq_iff_eq.mpr c9
  have c9b1 : ((l0_3.length : Int) != 0) = false := bne_eq_false_iff_eq.mpr c9
  have c9b3 : l0_3 = [] := List.length_eq_zero_iff.1 (by omega)
  clear c9
  obtain rfl := Option.some.inj H
  go_enter Tryd.func71, Tryd.ntmps71
  go_wp2_with (first | ((with_reducible refine yd2 (N := 1) rfl ?_); (try (refine yd8 (by rfl) ?_; dsimp only)); refine yd3 ?hg (N := 1) ?hd (cs := #[.int .i64 a0_0, .string a0_1, .string a0_2, .slice A0_3 l0_3.length c0_3, .slice A0_4 l0_4.length c0_4, .string a0_5]) (t := 27) ?hr ?_; (case hd => rfl); (case hg => rfl); (case hr => first | (go_simp; done) | (go_simp; rfl)); intro gb127 hg w10 hbox hb; have n0_ := Aside0.mk (ya7 (by repeat (first | (with_reducible first | exact HB.out | apply ya2 | apply ya0 | apply ya1) | exact HB.out)) hb); have n1_ := Aside0.mk (hbox); have n2_ := Aside0.mk ((by rw [hg]; exact (yb4 (by repeat (first | (with_reducible first | exact HB.out | apply ya2 | apply ya0 | apply ya1) | exact HB.out))) : w.heap.size ≤ gb127)); have n3_ := Aside0.mk ((by rw [hg]; exact (yb4 (by repeat (first | (with_reducible first | exact HB.out | apply ya2 | apply ya0 | apply ya1) | exact HB.out))) : w.heap.size ≤ gb127)); clear HB; have HB := n0_; have BK127 := n1_; have GW127 := n2_; have GE127 := n3_; clear n0_ n1_ n2_ n3_; clear hb hbox hg; obtain ⟨hcz11_0, hcz11_1, hcz11_2, hcz11_3, hcz11_4, hcz11_5, hfz11_0, hfz11_1, hfz11_2, hfz11_3, hfz11_4, hfz11_5⟩ := bx6 BK127.out) | (go_at_call 108; (with_reducible refine (yb6.calls k a0_5 true _ A6.out).mono ?_); rintro e w12 ⟨rfl, hb⟩; have n0_ := Aside0.mk (yb9 (g := gb127) (o := .cells #[.int .i64 a0_0, .string a0_1, .string a0_2, .slice A0_3 l0_3.length c0_3, .slice A0_4 l0_4.length c0_4, .string a0_5] 27 (0, 0)) (by (with_reducible repeat (first | refine ya8 ?_ _ | refine ya9 ?_ | refine blk_alloc ?_ _)); exact BK127.out) hb); have n1_ := Aside0.mk (ya7 (by repeat (first | (with_reducible first | exact HB.out | apply ya2 | apply ya0 | apply ya1 | refine ya6 ?_ GE127.out) | exact HB.out)) hb); clear BK127; clear HB; have BK127 := n0_; have HB := n1_; clear n0_ n1_; (try clear hb); (try clear hb2); (try clear hk); (try clear hi); obtain ⟨hcz13_0, hcz13_1, hcz13_2, hcz13_3, hcz13_4, hcz13_5, hfz13_0, hfz13_1, hfz13_2, hfz13_3, hfz13_4, hfz13_5⟩ := bx6 BK127.out))
  repeat (go_quiet (first | ((with_reducible refine yd2 (N := 1) rfl ?_); (try (refine yd8 (by rfl) ?_; dsimp only)); refine yd3 ?hg (N := 1) ?hd (cs := #[.int .i64 a0_0, .string a0_1, .string a0_2, .slice A0_3 l0_3.length c0_3, .slice A0_4 l0_4.length c0_4, .string a0_5]) (t := 27) ?hr ?_; (case hd => rfl); (case hg => rfl); (case hr => first | (go_simp; done) | (go_simp; rfl)); intro gb127 hg w10 hbox hb; have n0_ := Aside0.mk (ya7 (by repeat (first | (with_reducible first | exact HB.out | apply ya2 | apply ya0 | apply ya1) | exact HB.out)) hb); have n1_ := Aside0.mk (hbox); have n2_ := Aside0.mk ((by rw [hg]; exact (yb4 (by repeat (first | (with_reducible first | exact HB.out | apply ya2 | apply ya0 | apply ya1) | exact HB.out))) : w.heap.size ≤ gb127)); have n3_ := Aside0.mk ((by rw [hg]; exact (yb4 (by repeat (first | (with_reducible first | exact HB.out | apply ya2 | apply ya0 | apply ya1) | exact HB.out))) : w.heap.size ≤ gb127)); clear HB; have HB := n0_; have BK127 := n1_; have GW127 := n2_; have GE127 := n3_; clear n0_ n1_ n2_ n3_; clear hb hbox hg; obtain ⟨hcz11_0, hcz11_1, hcz11_2, hcz11_3, hcz11_4, hcz11_5, hfz11_0, hfz11_1, hfz11_2, hfz11_3, hfz11_4, hfz11_5⟩ := bx6 BK127.out) | (go_at_call 108; (with_reducible refine (yb6.calls k a0_5 true _ A6.out).mono ?_); rintro e w12 ⟨rfl, hb⟩; have n0_ := Aside0.mk (yb9 (g := gb127) (o := .cells #[.int .i64 a0_0, .string a0_1, .string a0_2, .slice A0_3 l0_3.length c0_3, .slice A0_4 l0_4.length c0_4, .string a0_5] 27 (0, 0)) (by (with_reducible repeat (first | refine ya8 ?_ _ | refine ya9 ?_ | refine blk_alloc ?_ _)); exact BK127.out) hb); have n1_ := Aside0.mk (ya7 (by repeat (first | (with_reducible first | exact HB.out | apply ya2 | apply ya0 | apply ya1 | refine ya6 ?_ GE127.out) | exact HB.out)) hb); clear BK127; clear HB; have BK127 := n0_; have HB := n1_; clear n0_ n1_; (try clear hb); (try clear hb2); (try clear hk); (try clear hi); obtain ⟨hcz13_0, hcz13_1, hcz13_2, hcz13_3, hcz13_4, hcz13_5, hfz13_0, hfz13_1, hfz13_2, hfz13_3, hfz13_4, hfz13_5⟩ := bx6 BK127.out)); try go_wp2_with (first | ((with_reducible refine yd2 (N := 1) rfl ?_); (try (refine yd8 (by rfl) ?_; dsimp only)); refine yd3 ?hg (N := 1) ?hd (cs := #[.int .i64 a0_0, .string a0_1, .string a0_2, .slice A0_3 l0_3.length c0_3, .slice A0_4 l0_4.length c0_4, .string a0_5]) (t := 27) ?hr ?_; (case hd => rfl); (case hg => rfl); (case hr => first | (go_simp; done) | (go_simp; rfl)); intro gb127 hg w10 hbox hb; have n0_ := Aside0.mk (ya7 (by repeat (first | (with_reducible first | exact HB.out | apply ya2 | apply ya0 | apply ya1) | exact HB.out)) hb); have n1_ := Aside0.mk (hbox); have n2_ := Aside0.mk ((by rw [hg]; exact (yb4 (by repeat (first | (with_reducible first | exact HB.out | apply ya2 | apply ya0 | apply ya1) | exact HB.out))) : w.heap.size ≤ gb127)); have n3_ := Aside0.mk ((by rw [hg]; exact (yb4 (by repeat (first | (with_reducible first | exact HB.out | apply ya2 | apply ya0 | apply ya1) | exact HB.out))) : w.heap.size ≤ gb127)); clear HB; have HB := n0_; have BK127 := n1_; have GW127 := n2_; have GE127 := n3_; clear n0_ n1_ n2_ n3_; clear hb hbox hg; obtain ⟨hcz11_0, hcz11_1, hcz11_2, hcz11_3, hcz11_4, hcz11_5, hfz11_0, hfz11_1, hfz11_2, hfz11_3, hfz11_4, hfz11_5⟩ := bx6 BK127.out) | (go_at_call 108; (with_reducible refine (yb6.calls k a0_5 true _ A6.out).mono ?_); rintro e w12 ⟨rfl, hb⟩; have n0_ := Aside0.mk (yb9 (g := gb127) (o := .cells #[.int .i64 a0_0, .string a0_1, .string a0_2, .slice A0_3 l0_3.length c0_3, .slice A0_4 l0_4.length c0_4, .string a0_5] 27 (0, 0)) (by (with_reducible repeat (first | refine ya8 ?_ _ | refine ya9 ?_ | refine blk_alloc ?_ _)); exact BK127.out) hb); have n1_ := Aside0.mk (ya7 (by repeat (first | (with_reducible first | exact HB.out | apply ya2 | apply ya0 | apply ya1 | refine ya6 ?_ GE127.out) | exact HB.out)) hb); clear BK127; clear HB; have BK127 := n0_; have HB := n1_; clear n0_ n1_; (try clear hb); (try clear hb2); (try clear hk); (try clear hi); obtain ⟨hcz13_0, hcz13_1, hcz13_2, hcz13_3, hcz13_4, hcz13_5, hfz13_0, hfz13_1, hfz13_2, hfz13_3, hfz13_4, hfz13_5⟩ := bx6 BK127.out)))
  go_ret
  exact ⟨by first | rfl | (simp [yb3, yb2] <;> rfl) | (simp [*, yb3, yb2] <;> rfl), by repeat (first | (with_reducible first | exact HB.out | apply ya2 | apply ya0 | apply ya1 | refine ya6 ?_ GE127.out) | exact HB.out)⟩
 ·rw [if_neg c2] at H
  have c2b0 : (a0_0 == 2) = false := beq_eq_false_iff_ne.mpr c2
  have c2b1 : (a0_0 != 2) = true := bne_iff_ne.mpr c2
  have HC25 := Aside0.mk H
  clear H
  go_enter Tryd.func71, Tryd.ntmps71
  go_upto_region 3 with (first | ((with_reducible refine yd2 (N := 1) rfl ?_); (try (refine yd8 (by rfl) ?_; dsimp only)); refine yd3 ?hg (N := 1) ?hd (cs := #[.int .i64 a0_0, .string a0_1, .string a0_2, .slice A0_3 l0_3.length c0_3, .slice A0_4 l0_4.length c0_4, .string a0_5]) (t := 27) ?hr ?_; (case hd => rfl); (case hg => rfl); (case hr => first | (go_simp; done) | (go_simp; rfl)); intro gb127 hg w26 hbox hb; have n0_ := Aside0.mk (ya7 (by repeat (first | (with_reducible first | exact HB.out | apply ya2 | apply ya0 | apply ya1) | exact HB.out)) hb); have n1_ := Aside0.mk (hbox); have n2_ := Aside0.mk ((by rw [hg]; exact (yb4 (by repeat (first | (with_reducible first | exact HB.out | apply ya2 | apply ya0 | apply ya1) | exact HB.out))) : w.heap.size ≤ gb127)); have n3_ := Aside0.mk ((by rw [hg]; exact (yb4 (by repeat (first | (with_reducible first | exact HB.out | apply ya2 | apply ya0 | apply ya1) | exact HB.out))) : w.heap.size ≤ gb127)); clear HB; have HB := n0_; have BK127 := n1_; have GW127 := n2_; have GE127 := n3_; clear n0_ n1_ n2_ n3_; clear hb hbox hg; obtain ⟨hcz27_0, hcz27_1, hcz27_2, hcz27_3, hcz27_4, hcz27_5, hfz27_0, hfz27_1, hfz27_2, hfz27_3, hfz27_4, hfz27_5⟩ := bx6 BK127.out))
  repeat (go_quiet (first | ((with_reducible refine yd2 (N := 1) rfl ?_); (try (refine yd8 (by rfl) ?_; dsimp only)); refine yd3 ?hg (N := 1) ?hd (cs := #[.int .i64 a0_0, .string a0_1, .string a0_2, .slice A0_3 l0_3.length c0_3, .slice A0_4 l0_4.length c0_4, .string a0_5]) (t := 27) ?hr ?_; (case hd => rfl); (case hg => rfl); (case hr => first | (go_simp; done) | (go_simp; rfl)); intro gb127 hg w26 hbox hb; have n0_ := Aside0.mk (ya7 (by repeat (first | (with_reducible first | exact HB.out | apply ya2 | apply ya0 | apply ya1) | exact HB.out)) hb); have n1_ := Aside0.mk (hbox); have n2_ := Aside0.mk ((by rw [hg]; exact (yb4 (by repeat (first | (with_reducible first | exact HB.out | apply ya2 | apply ya0 | apply ya1) | exact HB.out))) : w.heap.size ≤ gb127)); have n3_ := Aside0.mk ((by rw [hg]; exact (yb4 (by repeat (first | (with_reducible first | exact HB.out | apply ya2 | apply ya0 | apply ya1) | exact HB.out))) : w.heap.size ≤ gb127)); clear HB; have HB := n0_; have BK127 := n1_; have GW127 := n2_; have GE127 := n3_; clear n0_ n1_ n2_ n3_; clear hb hbox hg; obtain ⟨hcz27_0, hcz27_1, hcz27_2, hcz27_3, hcz27_4, hcz27_5, hfz27_0, hfz27_1, hfz27_2, hfz27_3, hfz27_4, hfz27_5⟩ := bx6 BK127.out)); go_upto_region 3 with (first | ((with_reducible refine yd2 (N := 1) rfl ?_); (try (refine yd8 (by rfl) ?_; dsimp only)); refine yd3 ?hg (N := 1) ?hd (cs := #[.int .i64 a0_0, .string a0_1, .string a0_2, .slice A0_3 l0_3.length c0_3, .slice A0_4 l0_4.length c0_4, .string a0_5]) (t := 27) ?hr ?_; (case hd => rfl); (case hg => rfl); (case hr => first | (go_simp; done) | (go_simp; rfl)); intro gb127 hg w26 hbox hb; have n0_ := Aside0.mk (ya7 (by repeat (first | (with_reducible first | exact HB.out | apply ya2 | apply ya0 | apply ya1) | exact HB.out)) hb); have n1_ := Aside0.mk (hbox); have n2_ := Aside0.mk ((by rw [hg]; exact (yb4 (by repeat (first | (with_reducible first | exact HB.out | apply ya2 | apply ya0 | apply ya1) | exact HB.out))) : w.heap.size ≤ gb127)); have n3_ := Aside0.mk ((by rw [hg]; exact (yb4 (by repeat (first | (with_reducible first | exact HB.out | apply ya2 | apply ya0 | apply ya1) | exact HB.out))) : w.heap.size ≤ gb127)); clear HB; have HB := n0_; have BK127 := n1_; have GW127 := n2_; have GE127 := n3_; clear n0_ n1_ n2_ n3_; clear hb hbox hg; obtain ⟨hcz27_0, hcz27_1, hcz27_2, hcz27_3, hcz27_4, hcz27_5, hfz27_0, hfz27_1, hfz27_2, hfz27_3, hfz27_4, hfz27_5⟩ := bx6 BK127.out)))
  (try simp only [Act.put, zA, zB, zC])
  go_cut [55] (fun v55 wc => ∃ (kq : Nat) (x55_24 : Bool), v55 = .bool x55_24 ∧ Aside0 (ya4.j0 kq x55_24 a0_0 a0_1 a0_2 l0_3 l0_4 a0_5 = some r) ∧ Aside0 (kq ≤ k) ∧ Aside0 (wc.heap[gb127]? = some (.cells #[.int .i64 a0_0, .string a0_1, .string a0_2, (.slice A0_3 l0_3.length c0_3), (.slice A0_4 l0_4.length c0_4), .string a0_5] 27 (0, 0))) ∧ Aside0 (Below w.heap.size w wc))
  case first =>
   have H := HC25.out
   clear HC25
   by_cases c28 : a0_0 = 1
   ·rw [if_pos c28] at H
    have c28b0 : (a0_0 == 1) = true := beq_iff_eq.mpr c28
    have c28b1 : (a0_0 != 1) = false := bne_eq_false_iff_eq.mpr c28
    clear c28
    (first | rw [c28b0] | (simp only [i64_w, i32_w]; rw [c28b0]) | skip)
    by_cases c29 : a0_5.toList = ([] : List UInt8)
    ·rw [if_pos c29] at H
     have c29b0 : (a0_5.toList == ([] : List UInt8)) = true := beq_iff_eq.mpr c29
     have c29b1 : (a0_5.toList != ([] : List UInt8)) = false := bne_eq_false_iff_eq.mpr c29
     clear c29
     replace H := Option.bind_eq_some_iff.mp H
     obtain ⟨t129, A300, H⟩ := H
     replace H : (if t129 = true then (ya4.j0 k (decide ((l0_3.length : Int) > 32)) a0_0 a0_1 a0_2 l0_3 l0_4 a0_5) else (ya4.j0 k true a0_0 a0_1 a0_2 l0_3 l0_4 a0_5)) = some r := H
     have A30 := Aside0.mk A300
     clear A300
     by_cases c31 : t129 = true
     ·subst c31
      have H1 : (ya4.j0 k (decide ((l0_3.length : Int) > 32)) a0_0 a0_1 a0_2 l0_3 l0_4 a0_5) = some r := by rw [if_pos rfl] at H; exact H
      clear H
      have H := H1
      clear H1
      have H' := Aside0.mk H
      clear H
      obtain ⟨hcz32_0, hcz32_1, hcz32_2, hcz32_3, hcz32_4, hcz32_5, hfz32_0, hfz32_1, hfz32_2, hfz32_3, hfz32_4, hfz32_5⟩ := bx6 BK127.out
      go_wp2_with (first | (go_at_call 109; (with_reducible refine (yc5.calls k a0_1 a0_2 true _ A30.out).mono ?_); rintro e w33 ⟨rfl, hb⟩; have n0_ := Aside0.mk (yb9 (g := gb127) (o := .cells #[.int .i64 a0_0, .string a0_1, .string a0_2, .slice A0_3 l0_3.length c0_3, .slice A0_4 l0_4.length c0_4, .string a0_5] 27 (0, 0)) (by (with_reducible repeat (first | refine ya8 ?_ _ | refine ya9 ?_ | refine blk_alloc ?_ _)); exact BK127.out) hb); have n1_ := Aside0.mk (ya7 (by repeat (first | (with_reducible first | exact HB.out | apply ya2 | apply ya0 | apply ya1 | refine ya6 ?_ GE127.out) | exact HB.out)) hb); clear BK127; clear HB; have BK127 := n0_; have HB := n1_; clear n0_ n1_; (try clear hb); (try clear hb2); (try clear hk); (try clear hi); obtain ⟨hcz34_0, hcz34_1, hcz34_2, hcz34_3, hcz34_4, hcz34_5, hfz34_0, hfz34_1, hfz34_2, hfz34_3, hfz34_4, hfz34_5⟩ := bx6 BK127.out))
      repeat (go_quiet (first | (go_at_call 109; (with_reducible refine (yc5.calls k a0_1 a0_2 true _ A30.out).mono ?_); rintro e w33 ⟨rfl, hb⟩; have n0_ := Aside0.mk (yb9 (g := gb127) (o := .cells #[.int .i64 a0_0, .string a0_1, .string a0_2, .slice A0_3 l0_3.length c0_3, .slice A0_4 l0_4.length c0_4, .string a0_5] 27 (0, 0)) (by (with_reducible repeat (first | refine ya8 ?_ _ | refine ya9 ?_ | refine blk_alloc ?_ _)); exact BK127.out) hb); have n1_ := Aside0.mk (ya7 (by repeat (first | (with_reducible first | exact HB.out | apply ya2 | apply ya0 | apply ya1 | refine ya6 ?_ GE127.out) | exact HB.out)) hb); clear BK127; clear HB; have BK127 := n0_; have HB := n1_; clear n0_ n1_; (try clear hb); (try clear hb2); (try clear hk); (try clear hi); obtain ⟨hcz34_0, hcz34_1, hcz34_2, hcz34_3, hcz34_4, hcz34_5, hfz34_0, hfz34_1, hfz34_2, hfz34_3, hfz34_4, hfz34_5⟩ := bx6 BK127.out)); try go_wp2_with (first | (go_at_call 109; (with_reducible refine (yc5.calls k a0_1 a0_2 true _ A30.out).mono ?_); rintro e w33 ⟨rfl, hb⟩; have n0_ := Aside0.mk (yb9 (g := gb127) (o := .cells #[.int .i64 a0_0, .string a0_1, .string a0_2, .slice A0_3 l0_3.length c0_3, .slice A0_4 l0_4.length c0_4, .string a0_5] 27 (0, 0)) (by (with_reducible repeat (first | refine ya8 ?_ _ | refine ya9 ?_ | refine blk_alloc ?_ _)); exact BK127.out) hb); have n1_ := Aside0.mk (ya7 (by repeat (first | (with_reducible first | exact HB.out | apply ya2 | apply ya0 | apply ya1 | refine ya6 ?_ GE127.out) | exact HB.out)) hb); clear BK127; clear HB; have BK127 := n0_; have HB := n1_; clear n0_ n1_; (try clear hb); (try clear hb2); (try clear hk); (try clear hi); obtain ⟨hcz34_0, hcz34_1, hcz34_2, hcz34_3, hcz34_4, hcz34_5, hfz34_0, hfz34_1, hfz34_2, hfz34_3, hfz34_4, hfz34_5⟩ := bx6 BK127.out)))
      go_meet
      case rel => exact ⟨_, (decide ((l0_3.length : Int) > 32)), (by first | rfl | (simp; done) | (simp [*]; done)), H', ⟨by first | omega | exact Nat.le_refl _⟩, ⟨by (with_reducible repeat (first | refine ya8 ?_ _ | refine ya9 ?_ | refine blk_alloc ?_ _)); exact BK127.out⟩, ⟨by repeat (first | (with_reducible first | exact HB.out | apply ya2 | apply ya0 | apply ya1 | refine ya6 ?_ GE127.out) | exact HB.out)⟩⟩
     ·replace c31 := Bool.eq_false_iff.mpr c31
      subst c31
      have H1 : (ya4.j0 k true a0_0 a0_1 a0_2 l0_3 l0_4 a0_5) = some r := by rw [if_neg (show ¬ (false = true) by decide)] at H; exact H
      clear H
      have H := H1
      clear H1
      have H' := Aside0.mk H
      clear H
      obtain ⟨hcz35_0, hcz35_1, hcz35_2, hcz35_3, hcz35_4, hcz35_5, hfz35_0, hfz35_1, hfz35_2, hfz35_3, hfz35_4, hfz35_5⟩ := bx6 BK127.out
      go_wp2_with (first | (go_at_call 109; (with_reducible refine (yc5.calls k a0_1 a0_2 false _ A30.out).mono ?_); rintro e w36 ⟨rfl, hb⟩; have n0_ := Aside0.mk (yb9 (g := gb127) (o := .cells #[.int .i64 a0_0, .string a0_1, .string a0_2, .slice A0_3 l0_3.length c0_3, .slice A0_4 l0_4.length c0_4, .string a0_5] 27 (0, 0)) (by (with_reducible repeat (first | refine ya8 ?_ _ | refine ya9 ?_ | refine blk_alloc ?_ _)); exact BK127.out) hb); have n1_ := Aside0.mk (ya7 (by repeat (first | (with_reducible first | exact HB.out | apply ya2 | apply ya0 | apply ya1 | refine ya6 ?_ GE127.out) | exact HB.out)) hb); clear BK127; clear HB; have BK127 := n0_; have HB := n1_; clear n0_ n1_; (try clear hb); (try clear hb2); (try clear hk); (try clear hi)))
      repeat (go_quiet (first | (go_at_call 109; (with_reducible refine (yc5.calls k a0_1 a0_2 false _ A30.out).mono ?_); rintro e w36 ⟨rfl, hb⟩; have n0_ := Aside0.mk (yb9 (g := gb127) (o := .cells #[.int .i64 a0_0, .string a0_1, .string a0_2, .slice A0_3 l0_3.length c0_3, .slice A0_4 l0_4.length c0_4, .string a0_5] 27 (0, 0)) (by (with_reducible repeat (first | refine ya8 ?_ _ | refine ya9 ?_ | refine blk_alloc ?_ _)); exact BK127.out) hb); have n1_ := Aside0.mk (ya7 (by repeat (first | (with_reducible first | exact HB.out | apply ya2 | apply ya0 | apply ya1 | refine ya6 ?_ GE127.out) | exact HB.out)) hb); clear BK127; clear HB; have BK127 := n0_; have HB := n1_; clear n0_ n1_; (try clear hb); (try clear hb2); (try clear hk); (try clear hi))); try go_wp2_with (first | (go_at_call 109; (with_reducible refine (yc5.calls k a0_1 a0_2 false _ A30.out).mono ?_); rintro e w36 ⟨rfl, hb⟩; have n0_ := Aside0.mk (yb9 (g := gb127) (o := .cells #[.int .i64 a0_0, .string a0_1, .string a0_2, .slice A0_3 l0_3.length c0_3, .slice A0_4 l0_4.length c0_4, .string a0_5] 27 (0, 0)) (by (with_reducible repeat (first | refine ya8 ?_ _ | refine ya9 ?_ | refine blk_alloc ?_ _)); exact BK127.out) hb); have n1_ := Aside0.mk (ya7 (by repeat (first | (with_reducible first | exact HB.out | apply ya2 | apply ya0 | apply ya1 | refine ya6 ?_ GE127.out) | exact HB.out)) hb); clear BK127; clear HB; have BK127 := n0_; have HB := n1_; clear n0_ n1_; (try clear hb); (try clear hb2); (try clear hk); (try clear hi))))
      go_meet
      case rel => exact ⟨_, (true), (by first | rfl | (simp; done) | (simp [*]; done)), H', ⟨by first | omega | exact Nat.le_refl _⟩, ⟨by (with_reducible repeat (first | refine ya8 ?_ _ | refine ya9 ?_ | refine blk_alloc ?_ _)); exact BK127.out⟩, ⟨by repeat (first | (with_reducible first | exact HB.out | apply ya2 | apply ya0 | apply ya1 | refine ya6 ?_ GE127.out) | exact HB.out)⟩⟩
    ·rw [if_neg c29] at H
     have c29b0 : (a0_5.toList == ([] : List UInt8)) = false := beq_eq_false_iff_ne.mpr c29
     have c29b1 : (a0_5.toList != ([] : List UInt8)) = true := bne_iff_ne.mpr c29
     have H' := Aside0.mk H
     clear H
     obtain ⟨hcz37_0, hcz37_1, hcz37_2, hcz37_3, hcz37_4, hcz37_5, hfz37_0, hfz37_1, hfz37_2, hfz37_3, hfz37_4, hfz37_5⟩ := bx6 BK127.out
     go_wp2
     repeat (go_quiet (fail); try go_wp2)
     go_meet
     case rel => exact ⟨_, (true), (by first | rfl | (simp; done) | (simp [*]; done)), H', ⟨by first | omega | exact Nat.le_refl _⟩, ⟨by (with_reducible repeat (first | refine ya8 ?_ _ | refine ya9 ?_ | refine blk_alloc ?_ _)); exact BK127.out⟩, ⟨by repeat (first | (with_reducible first | exact HB.out | apply ya2 | apply ya0 | apply ya1 | refine ya6 ?_ GE127.out) | exact HB.out)⟩⟩
   ·rw [if_neg c28] at H
    have c28b0 : (a0_0 == 1) = false := beq_eq_false_iff_ne.mpr c28
    have c28b1 : (a0_0 != 1) = true := bne_iff_ne.mpr c28
    (first | rw [c28b0] | (simp only [i64_w, i32_w]; rw [c28b0]) | skip)
    have H' := Aside0.mk H
    clear H
    obtain ⟨hcz38_0, hcz38_1, hcz38_2, hcz38_3, hcz38_4, hcz38_5, hfz38_0, hfz38_1, hfz38_2, hfz38_3, hfz38_4, hfz38_5⟩ := bx6 BK127.out
    go_wp2
    repeat (go_quiet (fail); try go_wp2)
    go_meet
    case rel => exact ⟨_, (true), (by first | rfl | (simp; done) | (simp [*]; done)), H', ⟨by first | omega | exact Nat.le_refl _⟩, ⟨by (with_reducible repeat (first | refine ya8 ?_ _ | refine ya9 ?_ | refine blk_alloc ?_ _)); exact BK127.out⟩, ⟨by repeat (first | (with_reducible first | exact HB.out | apply ya2 | apply ya0 | apply ya1 | refine ya6 ?_ GE127.out) | exact HB.out)⟩⟩
  case rest =>
   clear HC25
   try clear c2
   try clear c2b0
   try clear c2b1
   try clear p2
   try clear c3
   try clear c3b0
   try clear c3b1
   try clear c7
   try clear c8
   try clear c8b0
   try clear c8b1
   try clear c8b2
   try clear c9
   try clear c9b0
   try clear c9b1
   try clear c9b2
   try clear c28
   try clear c28b0
   try clear c28b1
   try clear c29
   try clear c29b0
   try clear c29b1
   try clear c31
   try clear hcz11_0
   try clear hcz11_1
   try clear hcz11_2
   try clear hcz11_3
   try clear hcz11_4
   try clear hcz11_5
   try clear hcz13_0
   try clear hcz13_1
   try clear hcz13_2
   try clear hcz13_3
   try clear hcz13_4
   try clear hcz13_5
   try clear hcz15_0
   try clear hcz15_1
   try clear hcz15_2
   try clear hcz15_3
   try clear hcz15_4
   try clear hcz15_5
   try clear hcz17_0
   try clear hcz17_1
   try clear hcz17_2
   try clear hcz17_3
   try clear hcz17_4
   try clear hcz17_5
   try clear hcz19_0
   try clear hcz19_1
   try clear hcz19_2
   try clear hcz19_3
   try clear hcz19_4
   try clear hcz19_5
   try clear hcz21_0
   try clear hcz21_1
   try clear hcz21_2
   try clear hcz21_3
   try clear hcz21_4
   try clear hcz21_5
   try clear hcz23_0
   try clear hcz23_1
   try clear hcz23_2
   try clear hcz23_3
   try clear hcz23_4
   try clear hcz23_5
   try clear hcz27_0
   try clear hcz27_1
   try clear hcz27_2
   try clear hcz27_3
   try clear hcz27_4
   try clear hcz27_5
   try clear hcz32_0
   try clear hcz32_1
   try clear hcz32_2
   try clear hcz32_3
   try clear hcz32_4
   try clear hcz32_5
   try clear hcz34_0
   try clear hcz34_1
   try clear hcz34_2
   try clear hcz34_3
   try clear hcz34_4
   try clear hcz34_5
   try clear hcz35_0
   try clear hcz35_1
   try clear hcz35_2
   try clear hcz35_3
   try clear hcz35_4
   try clear hcz35_5
   try clear hcz37_0
   try clear hcz37_1
   try clear hcz37_2
   try clear hcz37_3
   try clear hcz37_4
   try clear hcz37_5
   try clear hcz38_0
   try clear hcz38_1
   try clear hcz38_2
   try clear hcz38_3
   try clear hcz38_4
   try clear hcz38_5
   try clear hcz5_0
   try clear hcz5_1
   try clear hcz5_2
   try clear hcz5_3
   try clear hcz5_4
   try clear hcz5_5
   try clear hfz11_0
   try clear hfz11_1
   try clear hfz11_2
   try clear hfz11_3
   try clear hfz11_4
   try clear hfz11_5
   try clear hfz13_0
   try clear hfz13_1
   try clear hfz13_2
   try clear hfz13_3
   try clear hfz13_4
   try clear hfz13_5
   try clear hfz15_0
   try clear hfz15_1
   try clear hfz15_2
   try clear hfz15_3
   try clear hfz15_4
   try clear hfz15_5
   try clear hfz17_0
   try clear hfz17_1
   try clear hfz17_2
   try clear hfz17_3
   try clear hfz17_4
   try clear hfz17_5
   try clear hfz19_0
   try clear hfz19_1
   try clear hfz19_2
   try clear hfz19_3
   try clear hfz19_4
   try clear hfz19_5
   try clear hfz21_0
   try clear hfz21_1
   try clear hfz21_2
   try clear hfz21_3
   try clear hfz21_4
   try clear hfz21_5
   try clear hfz23_0
   try clear hfz23_1
   try clear hfz23_2
   try clear hfz23_3
   try clear hfz23_4
   try clear hfz23_5
   try clear hfz27_0
   try clear hfz27_1
   try clear hfz27_2
   try clear hfz27_3
   try clear hfz27_4
   try clear hfz27_5
   try clear hfz32_0
   try clear hfz32_1
   try clear hfz32_2
   try clear hfz32_3
   try clear hfz32_4
   try clear hfz32_5
   try clear hfz34_0
   try clear hfz34_1
   try clear hfz34_2
   try clear hfz34_3
   try clear hfz34_4
   try clear hfz34_5
   try clear hfz35_0
   try clear hfz35_1
   try clear hfz35_2
   try clear hfz35_3
   try clear hfz35_4
   try clear hfz35_5
   try clear hfz37_0
   try clear hfz37_1
   try clear hfz37_2
   try clear hfz37_3
   try clear hfz37_4
   try clear hfz37_5
   try clear hfz38_0
   try clear hfz38_1
   try clear hfz38_2
   try clear hfz38_3
   try clear hfz38_4
   try clear hfz38_5
   try clear hfz5_0
   try clear hfz5_1
   try clear hfz5_2
   try clear hfz5_3
   try clear hfz5_4
   try clear hfz5_5
   obtain ⟨kq, x55_24, rfl, HA, HJ24, BK127, HB⟩ := hcut
   cases kq with
   | zero => exact absurd HA.out (by simp [ya4.j0])
   | succ kj24 =>
    have H := HA.out
    clear HA
    simp only [ya4.j0] at H
    by_cases c39 : x55_24 = true
    ·subst c39
     have H1 : (some false) = some r := by rw [if_pos rfl] at H; exact H
     clear H
     have H := H1
     clear H1
     obtain rfl := Option.some.inj H
     go_wp2
     repeat (go_quiet (fail); try go_wp2)
     go_ret
     exact ⟨by first | rfl | (simp [yb3, yb2] <;> rfl) | (simp [*, yb3, yb2] <;> rfl), by repeat (first | (with_reducible first | exact HB.out | apply ya2 | apply ya0 | apply ya1 | refine ya6 ?_ GE127.out) | exact HB.out)⟩
    replace c39 := Bool.eq_false_iff.mpr c39
    subst c39
    have H1 : (ya4.l0 kj24 0 a0_0 a0_1 a0_2 l0_3 l0_4 a0_5) = some r := by rw [if_neg (show ¬ (false = true) by decide)] at H; exact H
    clear H
    have H := H1
    clear H1
    have H' := Aside0.mk H
    clear H
    go_wp2
    repeat (go_quiet (fail); try go_wp2)
    go_loopg [3] kj24 (fun kq v3 w' => ∃ (x3_2 : Int), v3 = .int .i64 x3_2 ∧ Aside0 (ya4.l0 kq x3_2 a0_0 a0_1 a0_2 l0_3 l0_4 a0_5 = some r) ∧ Aside0 (kq ≤ kj24) ∧ Aside0 (w'.heap[gb127]? = some (.cells #[.int .i64 a0_0, .string a0_1, .string a0_2, (.slice A0_3 l0_3.length c0_3), (.slice A0_4 l0_4.length c0_4), .string a0_5] 27 (0, 0))) ∧ Aside0 (Below w.heap.size w w'))
    case atStart => exact ⟨(0), (by first | rfl | (simp; done) | (simp [*]; done)), H', ⟨Nat.le_refl _⟩, ⟨by (with_reducible repeat (first | refine ya8 ?_ _ | refine ya9 ?_ | refine blk_alloc ?_ _)); exact BK127.out⟩, ⟨by repeat (first | (with_reducible first | exact HB.out | apply ya2 | apply ya0 | apply ya1 | refine ya6 ?_ GE127.out) | exact HB.out)⟩⟩
    case round =>
     clear H'
     try clear c2
     try clear c2b0
     try clear c2b1
     try clear p2
     try clear c3
     try clear c3b0
     try clear c3b1
     try clear c7
     try clear c8
     try clear c8b0
     try clear c8b1
     try clear c8b2
     try clear c9
     try clear c9b0
     try clear c9b1
     try clear c9b2
     try clear c28
     try clear c28b0
     try clear c28b1
     try clear c29
     try clear c29b0
     try clear c29b1
     try clear c31
     try clear c39
     try clear hcz11_0
     try clear hcz11_1
     try clear hcz11_2
     try clear hcz11_3
     try clear hcz11_4
     try clear hcz11_5
     try clear hcz13_0
     try clear hcz13_1
     try clear hcz13_2
     try clear hcz13_3
     try clear hcz13_4
     try clear hcz13_5
     try clear hcz15_0
     try clear hcz15_1
     try clear hcz15_2
     try clear hcz15_3
     try clear hcz15_4
     try clear hcz15_5
     try clear hcz17_0
     try clear hcz17_1
     try clear hcz17_2
     try clear hcz17_3
     try clear hcz17_4
     try clear hcz17_5
     try clear hcz19_0
     try clear hcz19_1
     try clear hcz19_2
     try clear hcz19_3
     try clear hcz19_4
     try clear hcz19_5
     try clear hcz21_0
     try clear hcz21_1
     try clear hcz21_2
     try clear hcz21_3
     try clear hcz21_4
     try clear hcz21_5
     try clear hcz23_0
     try clear hcz23_1
     try clear hcz23_2
     try clear hcz23_3
     try clear hcz23_4
     try clear hcz23_5
     try clear hcz27_0
     try clear hcz27_1
     try clear hcz27_2
     try clear hcz27_3
     try clear hcz27_4
     try clear hcz27_5
     try clear hcz32_0
     try clear hcz32_1
     try clear hcz32_2
     try clear hcz32_3
     try clear hcz32_4
     try clear hcz32_5
     try clear hcz34_0
     try clear hcz34_1
     try clear hcz34_2
     try clear hcz34_3
     try clear hcz34_4
     try clear hcz34_5
     try clear hcz35_0
     try clear hcz35_1
     try clear hcz35_2
     try clear hcz35_3
     try clear hcz35_4
     try clear hcz35_5
     try clear hcz37_0
     try clear hcz37_1
     try clear hcz37_2
     try clear hcz37_3
     try clear hcz37_4
     try clear hcz37_5
     try clear hcz38_0
     try clear hcz38_1
     try clear hcz38_2
     try clear hcz38_3
     try clear hcz38_4
     try clear hcz38_5
     try clear hcz5_0
     try clear hcz5_1
     try clear hcz5_2
     try clear hcz5_3
     try clear hcz5_4
     try clear hcz5_5
     try clear hfz11_0
     try clear hfz11_1
     try clear hfz11_2
     try clear hfz11_3
     try clear hfz11_4
     try clear hfz11_5
     try clear hfz13_0
     try clear hfz13_1
     try clear hfz13_2
     try clear hfz13_3
     try clear hfz13_4
     try clear hfz13_5
     try clear hfz15_0
     try clear hfz15_1
     try clear hfz15_2
     try clear hfz15_3
     try clear hfz15_4
     try clear hfz15_5
     try clear hfz17_0
     try clear hfz17_1
     try clear hfz17_2
     try clear hfz17_3
     try clear hfz17_4
     try clear hfz17_5
     try clear hfz19_0
     try clear hfz19_1
     try clear hfz19_2
     try clear hfz19_3
     try clear hfz19_4
     try clear hfz19_5
     try clear hfz21_0
     try clear hfz21_1
     try clear hfz21_2
     try clear hfz21_3
     try clear hfz21_4
     try clear hfz21_5
     try clear hfz23_0
     try clear hfz23_1
     try clear hfz23_2
     try clear hfz23_3
     try clear hfz23_4
     try clear hfz23_5
     try clear hfz27_0
     try clear hfz27_1
     try clear hfz27_2
     try clear hfz27_3
     try clear hfz27_4
     try clear hfz27_5
     try clear hfz32_0
     try clear hfz32_1
     try clear hfz32_2
     try clear hfz32_3
     try clear hfz32_4
     try clear hfz32_5
     try clear hfz34_0
     try clear hfz34_1
     try clear hfz34_2
     try clear hfz34_3
     try clear hfz34_4
     try clear hfz34_5
     try clear hfz35_0
     try clear hfz35_1
     try clear hfz35_2
     try clear hfz35_3
     try clear hfz35_4
     try clear hfz35_5
     try clear hfz37_0
     try clear hfz37_1
     try clear hfz37_2
     try clear hfz37_3
     try clear hfz37_4
     try clear hfz37_5
     try clear hfz38_0
     try clear hfz38_1
     try clear hfz38_2
     try clear hfz38_3
     try clear hfz38_4
     try clear hfz38_5
     try clear hfz5_0
     try clear hfz5_1
     try clear hfz5_2
     try clear hfz5_3
     try clear hfz5_4
     try clear hfz5_5
     try clear p2
     obtain ⟨x3_2, rfl, HA, HK2, BK127, HB⟩ := hrel
     cases gk with
     | zero => exact absurd HA.out (by simp [ya4.l0])
     | succ k2 =>
      have H := HA.out
      clear HA
      simp only [ya4.l0] at H
      by_cases c40 : x3_2 < (l0_3.length : Int)
      ·rw [if_pos c40] at H
       have c40b0 : decide (x3_2 < (l0_3.length : Int)) = true := decide_eq_true c40
       clear c40
       by_cases c41 : 0 ≤ x3_2
       rotate_left 1
       ·rw [if_neg c41] at H
        exact absurd H (by simp)
       rw [if_pos c41] at H
       have c41b0 : decide (0 ≤ x3_2) = true := decide_eq_true c41
       clear c41
       have HC42 := Aside0.mk H
       clear H
       obtain ⟨hcz43_0, hcz43_1, hcz43_2, hcz43_3, hcz43_4, hcz43_5, hfz43_0, hfz43_1, hfz43_2, hfz43_3, hfz43_4, hfz43_5⟩ := bx6 BK127.out
       have p130 : 0 ≤ (x3_2 : Int) := of_decide_eq_true (by first | (with_reducible assumption) | assumption)
       have q130 : x3_2 < (l0_3.length : Int) := of_decide_eq_true (by first | (with_reducible assumption) | assumption)
       obtain ⟨ad130, e130, hx130_0, hx130_1, hx130_2⟩ := atAt HR0_3.out x3_2 p130 q130
       cases e130
       replace hx130_0 := cup HB.out hx130_0
       replace hx130_1 := cup HB.out hx130_1
       replace hx130_2 := cup HB.out hx130_2
       replace p130 := eq_true p130
       replace q130 := eq_true q130
       go_upto_region 9 with (first | ((with_reducible refine yd2 (N := 4) rfl ?_); (try (refine yd8 (by rfl) ?_; dsimp only)); refine yd3 ?hg (N := 4) ?hd (cs := #[.string (⟨#[]⟩ : ByteArray), .string (⟨#[]⟩ : ByteArray), .string (⟨#[]⟩ : ByteArray)]) (t := 63) ?hr ?_; (case hd => rfl); (case hg => rfl); (case hr => first | (go_simp; done) | (go_simp; rfl)); intro gb131 hg w44 hbox hb; have n0_ := Aside0.mk (yb9 (g := gb127) (o := .cells #[.int .i64 a0_0, .string a0_1, .string a0_2, .slice (some ad130) l0_3.length c0_3, .slice A0_4 l0_4.length c0_4, .string a0_5] 27 (0, 0)) (by (with_reducible repeat (first | refine ya8 ?_ _ | refine ya9 ?_ | refine blk_alloc ?_ _)); exact BK127.out) hb); have n1_ := Aside0.mk (ya7 (by repeat (first | (with_reducible first | exact HB.out | apply ya2 | apply ya0 | apply ya1 | refine ya6 ?_ GE127.out) | exact HB.out)) hb); have n2_ := Aside0.mk (hbox); have n3_ := Aside0.mk ((by rw [hg]; exact (yb4 (by repeat (first | (with_reducible first | exact HB.out | apply ya2 | apply ya0 | apply ya1 | refine ya6 ?_ GE127.out) | exact HB.out))) : w.heap.size ≤ gb131)); have n4_ := Aside0.mk ((by rw [hg]; exact (yb4 (by repeat (first | (with_reducible first | exact HB.out | apply ya2 | apply ya0 | apply ya1 | refine ya6 ?_ GE127.out) | exact HB.out))) : w.heap.size ≤ gb131)); have n5_ := Aside0.mk ((by rw [hg]; exact Nat.ne_of_lt (blk_lt (g := gb127) (o := .cells #[.int .i64 a0_0, .string a0_1, .string a0_2, .slice (some ad130) l0_3.length c0_3, .slice A0_4 l0_4.length c0_4, .string a0_5] 27 (0, 0)) (by (with_reducible repeat (first | refine ya8 ?_ _ | refine ya9 ?_ | refine blk_alloc ?_ _)); exact BK127.out)) : gb127 ≠ gb131)); have n6_ := Aside0.mk ((by rw [hg]; exact Nat.ne_of_gt (blk_lt (g := gb127) (o := .cells #[.int .i64 a0_0, .string a0_1, .string a0_2, .slice (some ad130) l0_3.length c0_3, .slice A0_4 l0_4.length c0_4, .string a0_5] 27 (0, 0)) (by (with_reducible repeat (first | refine ya8 ?_ _ | refine ya9 ?_ | refine blk_alloc ?_ _)); exact BK127.out)) : gb131 ≠ gb127)); clear BK127; clear HB; have BK127 := n0_; have HB := n1_; have BK131 := n2_; have GW131 := n3_; have GE131 := n4_; have NB127_131 := n5_; have NB131_127 := n6_; clear n0_ n1_ n2_ n3_ n4_ n5_ n6_; clear hb hbox hg; have hnb45 := NB131_127.out; have hnc45 := NB127_131.out; obtain ⟨hcz46_0, hcz46_1, hcz46_2, hfz46_0, hfz46_1, hfz46_2⟩ := bx3 BK131.out))
       repeat (go_quiet (first | ((with_reducible refine yd2 (N := 4) rfl ?_); (try (refine yd8 (by rfl) ?_; dsimp only)); refine yd3 ?hg (N := 4) ?hd (cs := #[.string (⟨#[]⟩ : ByteArray), .string (⟨#[]⟩ : ByteArray), .string (⟨#[]⟩ : ByteArray)]) (t := 63) ?hr ?_; (case hd => rfl); (case hg => rfl); (case hr => first | (go_simp; done) | (go_simp; rfl)); intro gb131 hg w44 hbox hb; have n0_ := Aside0.mk (yb9 (g := gb127) (o := .cells #[.int .i64 a0_0, .string a0_1, .string a0_2, .slice (some ad130) l0_3.length c0_3, .slice A0_4 l0_4.length c0_4, .string a0_5] 27 (0, 0)) (by (with_reducible repeat (first | refine ya8 ?_ _ | refine ya9 ?_ | refine blk_alloc ?_ _)); exact BK127.out) hb); have n1_ := Aside0.mk (ya7 (by repeat (first | (with_reducible first | exact HB.out | apply ya2 | apply ya0 | apply ya1 | refine ya6 ?_ GE127.out) | exact HB.out)) hb); have n2_ := Aside0.mk (hbox); have n3_ := Aside0.mk ((by rw [hg]; exact (yb4 (by repeat (first | (with_reducible first | exact HB.out | apply ya2 | apply ya0 | apply ya1 | refine ya6 ?_ GE127.out) | exact HB.out))) : w.heap.size ≤ gb131)); have n4_ := Aside0.mk ((by rw [hg]; exact (yb4 (by repeat (first | (with_reducible first | exact HB.out | apply ya2 | apply ya0 | apply ya1 | refine ya6 ?_ GE127.out) | exact HB.out))) : w.heap.size ≤ gb131)); have n5_ := Aside0.mk ((by rw [hg]; exact Nat.ne_of_lt (blk_lt (g := gb127) (o := .cells #[.int .i64 a0_0, .string a0_1, .string a0_2, .slice (some ad130) l0_3.length c0_3, .slice A0_4 l0_4.length c0_4, .string a0_5] 27 (0, 0)) (by (with_reducible repeat (first | refine ya8 ?_ _ | refine ya9 ?_ | refine blk_alloc ?_ _)); exact BK127.out)) : gb127 ≠ gb131)); have n6_ := Aside0.mk ((by rw [hg]; exact Nat.ne_of_gt (blk_lt (g := gb127) (o := .cells #[.int .i64 a0_0, .string a0_1, .string a0_2, .slice (some ad130) l0_3.length c0_3, .slice A0_4 l0_4.length c0_4, .string a0_5] 27 (0, 0)) (by (with_reducible repeat (first | refine ya8 ?_ _ | refine ya9 ?_ | refine blk_alloc ?_ _)); exact BK127.out)) : gb131 ≠ gb127)); clear BK127; clear HB; have BK127 := n0_; have HB := n1_; have BK131 := n2_; have GW131 := n3_; have GE131 := n4_; have NB127_131 := n5_; have NB131_127 := n6_; clear n0_ n1_ n2_ n3_ n4_ n5_ n6_; clear hb hbox hg; have hnb45 := NB131_127.out; have hnc45 := NB127_131.out; obtain ⟨hcz46_0, hcz46_1, hcz46_2, hfz46_0, hfz46_1, hfz46_2⟩ := bx3 BK131.out)); go_upto_region 9 with (first | ((with_reducible refine yd2 (N := 4) rfl ?_); (try (refine yd8 (by rfl) ?_; dsimp only)); refine yd3 ?hg (N := 4) ?hd (cs := #[.string (⟨#[]⟩ : ByteArray), .string (⟨#[]⟩ : ByteArray), .string (⟨#[]⟩ : ByteArray)]) (t := 63) ?hr ?_; (case hd => rfl); (case hg => rfl); (case hr => first | (go_simp; done) | (go_simp; rfl)); intro gb131 hg w44 hbox hb; have n0_ := Aside0.mk (yb9 (g := gb127) (o := .cells #[.int .i64 a0_0, .string a0_1, .string a0_2, .slice (some ad130) l0_3.length c0_3, .slice A0_4 l0_4.length c0_4, .string a0_5] 27 (0, 0)) (by (with_reducible repeat (first | refine ya8 ?_ _ | refine ya9 ?_ | refine blk_alloc ?_ _)); exact BK127.out) hb); have n1_ := Aside0.mk (ya7 (by repeat (first | (with_reducible first | exact HB.out | apply ya2 | apply ya0 | apply ya1 | refine ya6 ?_ GE127.out) | exact HB.out)) hb); have n2_ := Aside0.mk (hbox); have n3_ := Aside0.mk ((by rw [hg]; exact (yb4 (by repeat (first | (with_reducible first | exact HB.out | apply ya2 | apply ya0 | apply ya1 | refine ya6 ?_ GE127.out) | exact HB.out))) : w.heap.size ≤ gb131)); have n4_ := Aside0.mk ((by rw [hg]; exact (yb4 (by repeat (first | (with_reducible first | exact HB.out | apply ya2 | apply ya0 | apply ya1 | refine ya6 ?_ GE127.out) | exact HB.out))) : w.heap.size ≤ gb131)); have n5_ := Aside0.mk ((by rw [hg]; exact Nat.ne_of_lt (blk_lt (g := gb127) (o := .cells #[.int .i64 a0_0, .string a0_1, .string a0_2, .slice (some ad130) l0_3.length c0_3, .slice A0_4 l0_4.length c0_4, .string a0_5] 27 (0, 0)) (by (with_reducible repeat (first | refine ya8 ?_ _ | refine ya9 ?_ | refine blk_alloc ?_ _)); exact BK127.out)) : gb127 ≠ gb131)); have n6_ := Aside0.mk ((by rw [hg]; exact Nat.ne_of_gt (blk_lt (g := gb127) (o := .cells #[.int .i64 a0_0, .string a0_1, .string a0_2, .slice (some ad130) l0_3.length c0_3, .slice A0_4 l0_4.length c0_4, .string a0_5] 27 (0, 0)) (by (with_reducible repeat (first | refine ya8 ?_ _ | refine ya9 ?_ | refine blk_alloc ?_ _)); exact BK127.out)) : gb131 ≠ gb127)); clear BK127; clear HB; have BK127 := n0_; have HB := n1_; have BK131 := n2_; have GW131 := n3_; have GE131 := n4_; have NB127_131 := n5_; have NB131_127 := n6_; clear n0_ n1_ n2_ n3_ n4_ n5_ n6_; clear hb hbox hg; have hnb45 := NB131_127.out; have hnc45 := NB127_131.out; obtain ⟨hcz46_0, hcz46_1, hcz46_2, hfz46_0, hfz46_1, hfz46_2⟩ := bx3 BK131.out)))
       (try simp only [Act.put, zA, zB, zC])
       go_cut [89] (fun v89 wc => ∃ (kq : Nat) (x89_41 : Bool), v89 = .bool x89_41 ∧ Aside0 (ya4.j2 kq x3_2 x89_41 a0_0 a0_1 a0_2 l0_3 l0_4 a0_5 ((rdAt l0_3 x3_2).f0.f0) ((rdAt l0_3 x3_2).f0.f1) ((rdAt l0_3 x3_2).f1) = some r) ∧ Aside0 (kq ≤ k2) ∧ Aside0 (wc.heap[gb127]? = some (.cells #[.int .i64 a0_0, .string a0_1, .string a0_2, (.slice (some ad130) l0_3.length c0_3), (.slice A0_4 l0_4.length c0_4), .string a0_5] 27 (0, 0))) ∧ Aside0 (wc.heap[gb131]? = some (.cells #[.string ((rdAt l0_3 x3_2).f0.f0), .string ((rdAt l0_3 x3_2).f0.f1), .string ((rdAt l0_3 x3_2).f1)] 63 (0, 0))) ∧ Aside0 (Below w.heap.size w wc))
       case first =>
        have H := HC42.out
        clear HC42
        replace H := Option.bind_eq_some_iff.mp H
        obtain ⟨t132, A470, H⟩ := H
        replace H : (if t132 = true then ((yb6.f k2 ((rdAt l0_3 x3_2).f1)).bind fun t133 => (if t133 = true then (if ((rdAt l0_3 x3_2).f0.f0).toList = ([] : List UInt8) then (ya4.j2 k2 x3_2 (((rdAt l0_3 x3_2).f0.f1).toList == ([120, 109, 108, 110, 115] : List UInt8)) a0_0 a0_1 a0_2 l0_3 l0_4 a0_5 ((rdAt l0_3 x3_2).f0.f0) ((rdAt l0_3 x3_2).f0.f1) ((rdAt l0_3 x3_2).f1)) else (ya4.j2 k2 x3_2 false a0_0 a0_1 a0_2 l0_3 l0_4 a0_5 ((rdAt l0_3 x3_2).f0.f0) ((rdAt l0_3 x3_2).f0.f1) ((rdAt l0_3 x3_2).f1))) else (ya4.j2 k2 x3_2 true a0_0 a0_1 a0_2 l0_3 l0_4 a0_5 ((rdAt l0_3 x3_2).f0.f0) ((rdAt l0_3 x3_2).f0.f1) ((rdAt l0_3 x3_2).f1)))) else (ya4.j2 k2 x3_2 true a0_0 a0_1 a0_2 l0_3 l0_4 a0_5 ((rdAt l0_3 x3_2).f0.f0) ((rdAt l0_3 x3_2).f0.f1) ((rdAt l0_3 x3_2).f1))) = some r := H
        have A47 := Aside0.mk A470
        clear A470
        by_cases c48 : t132 = true
        ·subst c48
         have H1 : ((yb6.f k2 ((rdAt l0_3 x3_2).f1)).bind fun t133 => (if t133 = true then (if ((rdAt l0_3 x3_2).f0.f0).toList = ([] : List UInt8) then (ya4.j2 k2 x3_2 (((rdAt l0_3 x3_2).f0.f1).toList == ([120, 109, 108, 110, 115] : List UInt8)) a0_0 a0_1 a0_2 l0_3 l0_4 a0_5 ((rdAt l0_3 x3_2).f0.f0) ((rdAt l0_3 x3_2).f0.f1) ((rdAt l0_3 x3_2).f1)) else (ya4.j2 k2 x3_2 false a0_0 a0_1 a0_2 l0_3 l0_4 a0_5 ((rdAt l0_3 x3_2).f0.f0) ((rdAt l0_3 x3_2).f0.f1) ((rdAt l0_3 x3_2).f1))) else (ya4.j2 k2 x3_2 true a0_0 a0_1 a0_2 l0_3 l0_4 a0_5 ((rdAt l0_3 x3_2).f0.f0) ((rdAt l0_3 x3_2).f0.f1) ((rdAt l0_3 x3_2).f1)))) = some r := by rw [if_pos rfl] at H; exact H
         clear H
         have H := H1
         clear H1
         replace H := Option.bind_eq_some_iff.mp H
         obtain ⟨t133, A490, H⟩ := H
         replace H : (if t133 = true then (if ((rdAt l0_3 x3_2).f0.f0).toList = ([] : List UInt8) then (ya4.j2 k2 x3_2 (((rdAt l0_3 x3_2).f0.f1).toList == ([120, 109, 108, 110, 115] : List UInt8)) a0_0 a0_1 a0_2 l0_3 l0_4 a0_5 ((rdAt l0_3 x3_2).f0.f0) ((rdAt l0_3 x3_2).f0.f1) ((rdAt l0_3 x3_2).f1)) else (ya4.j2 k2 x3_2 false a0_0 a0_1 a0_2 l0_3 l0_4 a0_5 ((rdAt l0_3 x3_2).f0.f0) ((rdAt l0_3 x3_2).f0.f1) ((rdAt l0_3 x3_2).f1))) else (ya4.j2 k2 x3_2 true a0_0 a0_1 a0_2 l0_3 l0_4 a0_5 ((rdAt l0_3 x3_2).f0.f0) ((rdAt l0_3 x3_2).f0.f1) ((rdAt l0_3 x3_2).f1))) = some r := H
         have A49 := Aside0.mk A490
         clear A490
         by_cases c50 : t133 = true
         ·subst c50
          have H1 : (if ((rdAt l0_3 x3_2).f0.f0).toList = ([] : List UInt8) then (ya4.j2 k2 x3_2 (((rdAt l0_3 x3_2).f0.f1).toList == ([120, 109, 108, 110, 115] : List UInt8)) a0_0 a0_1 a0_2 l0_3 l0_4 a0_5 ((rdAt l0_3 x3_2).f0.f0) ((rdAt l0_3 x3_2).f0.f1) ((rdAt l0_3 x3_2).f1)) else (ya4.j2 k2 x3_2 false a0_0 a0_1 a0_2 l0_3 l0_4 a0_5 ((rdAt l0_3 x3_2).f0.f0) ((rdAt l0_3 x3_2).f0.f1) ((rdAt l0_3 x3_2).f1))) = some r := by rw [if_pos rfl] at H; exact H
          clear H
          have H := H1
          clear H1
          by_cases c51 : ((rdAt l0_3 x3_2).f0.f0).toList = ([] : List UInt8)
          ·rw [if_pos c51] at H
           have c51b0 : (((rdAt l0_3 x3_2).f0.f0).toList == ([] : List UInt8)) = true := beq_iff_eq.mpr c51
           have c51b1 : (((rdAt l0_3 x3_2).f0.f0).toList != ([] : List UInt8)) = false := bne_eq_false_iff_eq.mpr c51
           clear c51
           (first | rw [c51b0] | (simp only [i64_w, i32_w]; rw [c51b0]) | skip)
           have H' := Aside0.mk H
           clear H
           have hnb52 := NB131_127.out
           have hnc52 := NB127_131.out
           obtain ⟨hcz53_0, hcz53_1, hcz53_2, hfz53_0, hfz53_1, hfz53_2⟩ := bx3 BK131.out
           go_wp2_with (first | (go_at_call 109; (with_reducible refine (yc5.calls k2 ((rdAt l0_3 x3_2).f0.f0) ((rdAt l0_3 x3_2).f0.f1) true _ A47.out).mono ?_); rintro e w54 ⟨rfl, hb⟩; have n0_ := Aside0.mk (yb9 (g := gb127) (o := .cells #[.int .i64 a0_0, .string a0_1, .string a0_2, .slice (some ad130) l0_3.length c0_3, .slice A0_4 l0_4.length c0_4, .string a0_5] 27 (0, 0)) (by (repeat (first | (with_reducible first | refine ya8 ?_ _ | refine ya9 ?_ | refine blk_alloc ?_ _) | refine yj0 ?_ NB127_131.out _)); exact BK127.out) hb); have n1_ := Aside0.mk (yb9 (g := gb131) (o := .cells #[.string ((rdAt l0_3 x3_2).f0.f0), .string ((rdAt l0_3 x3_2).f0.f1), .string ((rdAt l0_3 x3_2).f1)] 63 (0, 0)) (by (with_reducible repeat (first | refine ya8 ?_ _ | refine ya9 ?_ | refine blk_alloc ?_ _)); refine ye4 (cs := #[.string ((rdAt l0_3 x3_2).f0.f0), .string ((rdAt l0_3 x3_2).f0.f1), .string (⟨#[]⟩ : ByteArray)]) ?_ 2 _ rfl; (with_reducible repeat (first | refine ya8 ?_ _ | refine ya9 ?_ | refine blk_alloc ?_ _)); refine ye4 (cs := #[.string ((rdAt l0_3 x3_2).f0.f0), .string (⟨#[]⟩ : ByteArray), .string (⟨#[]⟩ : ByteArray)]) ?_ 1 _ rfl; (with_reducible repeat (first | refine ya8 ?_ _ | refine ya9 ?_ | refine blk_alloc ?_ _)); refine ye4 (cs := #[.string (⟨#[]⟩ : ByteArray), .string (⟨#[]⟩ : ByteArray), .string (⟨#[]⟩ : ByteArray)]) ?_ 0 _ rfl; (with_reducible repeat (first | refine ya8 ?_ _ | refine ya9 ?_ | refine blk_alloc ?_ _)); exact BK131.out) hb); have n2_ := Aside0.mk (ya7 (by repeat (first | (with_reducible first | exact HB.out | apply ya2 | apply ya0 | apply ya1 | refine ya6 ?_ GE127.out | refine ya6 ?_ GE131.out) | exact HB.out)) hb); clear BK127; clear BK131; clear HB; have BK127 := n0_; have BK131 := n1_; have HB := n2_; clear n0_ n1_ n2_; (try clear hb); (try clear hb2); (try clear hk); (try clear hi); obtain ⟨hcz55_0, hcz55_1, hcz55_2, hfz55_0, hfz55_1, hfz55_2⟩ := bx3 BK131.out) | (go_at_call 108; (with_reducible refine (yb6.calls k2 ((rdAt l0_3 x3_2).f1) true _ A49.out).mono ?_); rintro e w56 ⟨rfl, hb⟩; have n0_ := Aside0.mk (yb9 (g := gb127) (o := .cells #[.int .i64 a0_0, .string a0_1, .string a0_2, .slice (some ad130) l0_3.length c0_3, .slice A0_4 l0_4.length c0_4, .string a0_5] 27 (0, 0)) (by (with_reducible repeat (first | refine ya8 ?_ _ | refine ya9 ?_ | refine blk_alloc ?_ _)); exact BK127.out) hb); have n1_ := Aside0.mk (yb9 (g := gb131) (o := .cells #[.string ((rdAt l0_3 x3_2).f0.f0), .string ((rdAt l0_3 x3_2).f0.f1), .string ((rdAt l0_3 x3_2).f1)] 63 (0, 0)) (by (with_reducible repeat (first | refine ya8 ?_ _ | refine ya9 ?_ | refine blk_alloc ?_ _)); exact BK131.out) hb); have n2_ := Aside0.mk (ya7 (by repeat (first | (with_reducible first | exact HB.out | apply ya2 | apply ya0 | apply ya1 | refine ya6 ?_ GE127.out | refine ya6 ?_ GE131.out) | exact HB.out)) hb); clear BK127; clear BK131; clear HB; have BK127 := n0_; have BK131 := n1_; have HB := n2_; clear n0_ n1_ n2_; (try clear hb); (try clear hb2); (try clear hk); (try clear hi); obtain ⟨hcz57_0, hcz57_1, hcz57_2, hfz57_0, hfz57_1, hfz57_2⟩ := bx3 BK131.out))
           repeat (go_quiet (first | (go_at_call 109; (with_reducible refine (yc5.calls k2 ((rdAt l0_3 x3_2).f0.f0) ((rdAt l0_3 x3_2).f0.f1) true _ A47.out).mono ?_); rintro e w54 ⟨rfl, hb⟩; have n0_ := Aside0.mk (yb9 (g := gb127) (o := .cells #[.int .i64 a0_0, .string a0_1, .string a0_2, .slice (some ad130) l0_3.length c0_3, .slice A0_4 l0_4.length c0_4, .string a0_5] 27 (0, 0)) (by (repeat (first | (with_reducible first | refine ya8 ?_ _ | refine ya9 ?_ | refine blk_alloc ?_ _) | refine yj0 ?_ NB127_131.out _)); exact BK127.out) hb); have n1_ := Aside0.mk (yb9 (g := gb131) (o := .cells #[.string ((rdAt l0_3 x3_2).f0.f0), .string ((rdAt l0_3 x3_2).f0.f1), .string ((rdAt l0_3 x3_2).f1)] 63 (0, 0)) (by (with_reducible repeat (first | refine ya8 ?_ _ | refine ya9 ?_ | refine blk_alloc ?_ _)); refine ye4 (cs := #[.string ((rdAt l0_3 x3_2).f0.f0), .string ((rdAt l0_3 x3_2).f0.f1), .string (⟨#[]⟩ : ByteArray)]) ?_ 2 _ rfl; (with_reducible repeat (first | refine ya8 ?_ _ | refine ya9 ?_ | refine blk_alloc ?_ _)); refine ye4 (cs := #[.string ((rdAt l0_3 x3_2).f0.f0), .string (⟨#[]⟩ : ByteArray), .string (⟨#[]⟩ : ByteArray)]) ?_ 1 _ rfl; (with_reducible repeat (first | refine ya8 ?_ _ | refine ya9 ?_ | refine blk_alloc ?_ _)); refine ye4 (cs := #[.string (⟨#[]⟩ : ByteArray), .string (⟨#[]⟩ : ByteArray), .string (⟨#[]⟩ : ByteArray)]) ?_ 0 _ rfl; (with_reducible repeat (first | refine ya8 ?_ _ | refine ya9 ?_ | refine blk_alloc ?_ _)); exact BK131.out) hb); have n2_ := Aside0.mk (ya7 (by repeat (first | (with_reducible first | exact HB.out | apply ya2 | apply ya0 | apply ya1 | refine ya6 ?_ GE127.out | refine ya6 ?_ GE131.out) | exact HB.out)) hb); clear BK127; clear BK131; clear HB; have BK127 := n0_; have BK131 := n1_; have HB := n2_; clear n0_ n1_ n2_; (try clear hb); (try clear hb2); (try clear hk); (try clear hi); obtain ⟨hcz55_0, hcz55_1, hcz55_2, hfz55_0, hfz55_1, hfz55_2⟩ := bx3 BK131.out) | (go_at_call 108; (with_reducible refine (yb6.calls k2 ((rdAt l0_3 x3_2).f1) true _ A49.out).mono ?_); rintro e w56 ⟨rfl, hb⟩; have n0_ := Aside0.mk (yb9 (g := gb127) (o := .cells #[.int .i64 a0_0, .string a0_1, .string a0_2, .slice (some ad130) l0_3.length c0_3, .slice A0_4 l0_4.length c0_4, .string a0_5] 27 (0, 0)) (by (with_reducible repeat (first | refine ya8 ?_ _ | refine ya9 ?_ | refine blk_alloc ?_ _)); exact BK127.out) hb); have n1_ := Aside0.mk (yb9 (g := gb131) (o := .cells #[.string ((rdAt l0_3 x3_2).f0.f0), .string ((rdAt l0_3 x3_2).f0.f1), .string ((rdAt l0_3 x3_2).f1)] 63 (0, 0)) (by (with_reducible repeat (first | refine ya8 ?_ _ | refine ya9 ?_ | refine blk_alloc ?_ _)); exact BK131.out) hb); have n2_ := Aside0.mk (ya7 (by repeat (first | (with_reducible first | exact HB.out | apply ya2 | apply ya0 | apply ya1 | refine ya6 ?_ GE127.out | refine ya6 ?_ GE131.out) | exact HB.out)) hb); clear BK127; clear BK131; clear HB; have BK127 := n0_; have BK131 := n1_; have HB := n2_; clear n0_ n1_ n2_; (try clear hb); (try clear hb2); (try clear hk); (try clear hi); obtain ⟨hcz57_0, hcz57_1, hcz57_2, hfz57_0, hfz57_1, hfz57_2⟩ := bx3 BK131.out)); try go_wp2_with (first | (go_at_call 109; (with_reducible refine (yc5.calls k2 ((rdAt l0_3 x3_2).f0.f0) ((rdAt l0_3 x3_2).f0.f1) true _ A47.out).mono ?_); rintro e w54 ⟨rfl, hb⟩; have n0_ := Aside0.mk (yb9 (g := gb127) (o := .cells #[.int .i64 a0_0, .string a0_1, .string a0_2, .slice (some ad130) l0_3.length c0_3, .slice A0_4 l0_4.length c0_4, .string a0_5] 27 (0, 0)) (by (repeat (first | (with_reducible first | refine ya8 ?_ _ | refine ya9 ?_ | refine blk_alloc ?_ _) | refine yj0 ?_ NB127_131.out _)); exact BK127.out) hb); have n1_ := Aside0.mk (yb9 (g := gb131) (o := .cells #[.string ((rdAt l0_3 x3_2).f0.f0), .string ((rdAt l0_3 x3_2).f0.f1), .string ((rdAt l0_3 x3_2).f1)] 63 (0, 0)) (by (with_reducible repeat (first | refine ya8 ?_ _ | refine ya9 ?_ | refine blk_alloc ?_ _)); refine ye4 (cs := #[.string ((rdAt l0_3 x3_2).f0.f0), .string ((rdAt l0_3 x3_2).f0.f1), .string (⟨#[]⟩ : ByteArray)]) ?_ 2 _ rfl; (with_reducible repeat (first | refine ya8 ?_ _ | refine ya9 ?_ | refine blk_alloc ?_ _)); refine ye4 (cs := #[.string ((rdAt l0_3 x3_2).f0.f0), .string (⟨#[]⟩ : ByteArray), .string (⟨#[]⟩ : ByteArray)]) ?_ 1 _ rfl; (with_reducible repeat (first | refine ya8 ?_ _ | refine ya9 ?_ | refine blk_alloc ?_ _)); refine ye4 (cs := #[.string (⟨#[]⟩ : ByteArray), .string (⟨#[]⟩ : ByteArray), .string (⟨#[]⟩ : ByteArray)]) ?_ 0 _ rfl; (with_reducible repeat (first | refine ya8 ?_ _ | refine ya9 ?_ | refine blk_alloc ?_ _)); exact BK131.out) hb); have n2_ := Aside0.mk (ya7 (by repeat (first | (with_reducible first | exact HB.out | apply ya2 | apply ya0 | apply ya1 | refine ya6 ?_ GE127.out | refine ya6 ?_ GE131.out) | exact HB.out)) hb); clear BK127; clear BK131; clear HB; have BK127 := n0_; have BK131 := n1_; have HB := n2_; clear n0_ n1_ n2_; (try clear hb); (try clear hb2); (try clear hk); (try clear hi); obtain ⟨hcz55_0, hcz55_1, hcz55_2, hfz55_0, hfz55_1, hfz55_2⟩ := bx3 BK131.out) | (go_at_call 108; (with_reducible refine (yb6.calls k2 ((rdAt l0_3 x3_2).f1) true _ A49.out).mono ?_); rintro e w56 ⟨rfl, hb⟩; have n0_ := Aside0.mk (yb9 (g := gb127) (o := .cells #[.int .i64 a0_0, .string a0_1, .string a0_2, .slice (some ad130) l0_3.length c0_3, .slice A0_4 l0_4.length c0_4, .string a0_5] 27 (0, 0)) (by (with_reducible repeat (first | refine ya8 ?_ _ | refine ya9 ?_ | refine blk_alloc ?_ _)); exact BK127.out) hb); have n1_ := Aside0.mk (yb9 (g := gb131) (o := .cells #[.string ((rdAt l0_3 x3_2).f0.f0), .string ((rdAt l0_3 x3_2).f0.f1), .string ((rdAt l0_3 x3_2).f1)] 63 (0, 0)) (by (with_reducible repeat (first | refine ya8 ?_ _ | refine ya9 ?_ | refine blk_alloc ?_ _)); exact BK131.out) hb); have n2_ := Aside0.mk (ya7 (by repeat (first | (with_reducible first | exact HB.out | apply ya2 | apply ya0 | apply ya1 | refine ya6 ?_ GE127.out | refine ya6 ?_ GE131.out) | exact HB.out)) hb); clear BK127; clear BK131; clear HB; have BK127 := n0_; have BK131 := n1_; have HB := n2_; clear n0_ n1_ n2_; (try clear hb); (try clear hb2); (try clear hk); (try clear hi); obtain ⟨hcz57_0, hcz57_1, hcz57_2, hfz57_0, hfz57_1, hfz57_2⟩ := bx3 BK131.out)))
           go_meet
           case rel => exact ⟨_, ((((rdAt l0_3 x3_2).f0.f1).toList == ([120, 109, 108, 110, 115] : List UInt8))), (by first | rfl | (simp; done) | (simp [*]; done)), H', ⟨by have := HJ24.out; have := HK2.out; first | omega | exact Nat.le_refl _⟩, ⟨by (with_reducible repeat (first | refine ya8 ?_ _ | refine ya9 ?_ | refine blk_alloc ?_ _)); exact BK127.out⟩, ⟨by (with_reducible repeat (first | refine ya8 ?_ _ | refine ya9 ?_ | refine blk_alloc ?_ _)); exact BK131.out⟩, ⟨by repeat (first | (with_reducible first | exact HB.out | apply ya2 | apply ya0 | apply ya1 | refine ya6 ?_ GE127.out | refine ya6 ?_ GE131.out) | exact HB.out)⟩⟩
          ·rw [if_neg c51] at H
           have c51b0 : (((rdAt l0_3 x3_2).f0.f0).toList == ([] : List UInt8)) = false := beq_eq_false_iff_ne.mpr c51
           have c51b1 : (((rdAt l0_3 x3_2).f0.f0).toList != ([] : List UInt8)) = true := bne_iff_ne.mpr c51
           (first | rw [c51b0] | (simp only [i64_w, i32_w]; rw [c51b0]) | skip)
           have H' := Aside0.mk H
           clear H
           have hnb58 := NB131_127.out
           have hnc58 := NB127_131.out
           obtain ⟨hcz59_0, hcz59_1, hcz59_2, hfz59_0, hfz59_1, hfz59_2⟩ := bx3 BK131.out
           go_wp2_with (first | (go_at_call 109; (with_reducible refine (yc5.calls k2 ((rdAt l0_3 x3_2).f0.f0) ((rdAt l0_3 x3_2).f0.f1) true _ A47.out).mono ?_); rintro e w60 ⟨rfl, hb⟩; have n0_ := Aside0.mk (yb9 (g := gb127) (o := .cells #[.int .i64 a0_0, .string a0_1, .string a0_2, .slice (some ad130) l0_3.length c0_3, .slice A0_4 l0_4.length c0_4, .string a0_5] 27 (0, 0)) (by (repeat (first | (with_reducible first | refine ya8 ?_ _ | refine ya9 ?_ | refine blk_alloc ?_ _) | refine yj0 ?_ NB127_131.out _)); exact BK127.out) hb); have n1_ := Aside0.mk (yb9 (g := gb131) (o := .cells #[.string ((rdAt l0_3 x3_2).f0.f0), .string ((rdAt l0_3 x3_2).f0.f1), .string ((rdAt l0_3 x3_2).f1)] 63 (0, 0)) (by (with_reducible repeat (first | refine ya8 ?_ _ | refine ya9 ?_ | refine blk_alloc ?_ _)); refine ye4 (cs := #[.string ((rdAt l0_3 x3_2).f0.f0), .string ((rdAt l0_3 x3_2).f0.f1), .string (⟨#[]⟩ : ByteArray)]) ?_ 2 _ rfl; (with_reducible repeat (first | refine ya8 ?_ _ | refine ya9 ?_ | refine blk_alloc ?_ _)); refine ye4 (cs := #[.string ((rdAt l0_3 x3_2).f0.f0), .string (⟨#[]⟩ : ByteArray), .string (⟨#[]⟩ : ByteArray)]) ?_ 1 _ rfl; (with_reducible repeat (first | refine ya8 ?_ _ | refine ya9 ?_ | refine blk_alloc ?_ _)); refine ye4 (cs := #[.string (⟨#[]⟩ : ByteArray), .string (⟨#[]⟩ : ByteArray), .string (⟨#[]⟩ : ByteArray)]) ?_ 0 _ rfl; (with_reducible repeat (first | refine ya8 ?_ _ | refine ya9 ?_ | refine blk_alloc ?_ _)); exact BK131.out) hb); have n2_ := Aside0.mk (ya7 (by repeat (first | (with_reducible first | exact HB.out | apply ya2 | apply ya0 | apply ya1 | refine ya6 ?_ GE127.out | refine ya6 ?_ GE131.out) | exact HB.out)) hb); clear BK127; clear BK131; clear HB; have BK127 := n0_; have BK131 := n1_; have HB := n2_; clear n0_ n1_ n2_; (try clear hb); (try clear hb2); (try clear hk); (try clear hi); obtain ⟨hcz61_0, hcz61_1, hcz61_2, hfz61_0, hfz61_1, hfz61_2⟩ := bx3 BK131.out) | (go_at_call 108; (with_reducible refine (yb6.calls k2 ((rdAt l0_3 x3_2).f1) true _ A49.out).mono ?_); rintro e w62 ⟨rfl, hb⟩; have n0_ := Aside0.mk (yb9 (g := gb127) (o := .cells #[.int .i64 a0_0, .string a0_1, .string a0_2, .slice (some ad130) l0_3.length c0_3, .slice A0_4 l0_4.length c0_4, .string a0_5] 27 (0, 0)) (by (with_reducible repeat (first | refine ya8 ?_ _ | refine ya9 ?_ | refine blk_alloc ?_ _)); exact BK127.out) hb); have n1_ := Aside0.mk (yb9 (g := gb131) (o := .cells #[.string ((rdAt l0_3 x3_2).f0.f0), .string ((rdAt l0_3 x3_2).f0.f1), .string ((rdAt l0_3 x3_2).f1)] 63 (0, 0)) (by (with_reducible repeat (first | refine ya8 ?_ _ | refine ya9 ?_ | refine blk_alloc ?_ _)); exact BK131.out) hb); have n2_ := Aside0.mk (ya7 (by repeat (first | (with_reducible first | exact HB.out | apply ya2 | apply ya0 | apply ya1 | refine ya6 ?_ GE127.out | refine ya6 ?_ GE131.out) | exact HB.out)) hb); clear BK127; clear BK131; clear HB; have BK127 := n0_; have BK131 := n1_; have HB := n2_; clear n0_ n1_ n2_; (try clear hb); (try clear hb2); (try clear hk); (try clear hi); obtain ⟨hcz63_0, hcz63_1, hcz63_2, hfz63_0, hfz63_1, hfz63_2⟩ := bx3 BK131.out))
           repeat (go_quiet (first | (go_at_call 109; (with_reducible refine (yc5.calls k2 ((rdAt l0_3 x3_2).f0.f0) ((rdAt l0_3 x3_2).f0.f1) true _ A47.out).mono ?_); rintro e w60 ⟨rfl, hb⟩; have n0_ := Aside0.mk (yb9 (g := gb127) (o := .cells #[.int .i64 a0_0, .string a0_1, .string a0_2, .slice (some ad130) l0_3.length c0_3, .slice A0_4 l0_4.length c0_4, .string a0_5] 27 (0, 0)) (by (repeat (first | (with_reducible first | refine ya8 ?_ _ | refine ya9 ?_ | refine blk_alloc ?_ _) | refine yj0 ?_ NB127_131.out _)); exact BK127.out) hb); have n1_ := Aside0.mk (yb9 (g := gb131) (o := .cells #[.string ((rdAt l0_3 x3_2).f0.f0), .string ((rdAt l0_3 x3_2).f0.f1), .string ((rdAt l0_3 x3_2).f1)] 63 (0, 0)) (by (with_reducible repeat (first | refine ya8 ?_ _ | refine ya9 ?_ | refine blk_alloc ?_ _)); refine ye4 (cs := #[.string ((rdAt l0_3 x3_2).f0.f0), .string ((rdAt l0_3 x3_2).f0.f1), .string (⟨#[]⟩ : ByteArray)]) ?_ 2 _ rfl; (with_reducible repeat (first | refine ya8 ?_ _ | refine ya9 ?_ | refine blk_alloc ?_ _)); refine ye4 (cs := #[.string ((rdAt l0_3 x3_2).f0.f0), .string (⟨#[]⟩ : ByteArray), .string (⟨#[]⟩ : ByteArray)]) ?_ 1 _ rfl; (with_reducible repeat (first | refine ya8 ?_ _ | refine ya9 ?_ | refine blk_alloc ?_ _)); refine ye4 (cs := #[.string (⟨#[]⟩ : ByteArray), .string (⟨#[]⟩ : ByteArray), .string (⟨#[]⟩ : ByteArray)]) ?_ 0 _ rfl; (with_reducible repeat (first | refine ya8 ?_ _ | refine ya9 ?_ | refine blk_alloc ?_ _)); exact BK131.out) hb); have n2_ := Aside0.mk (ya7 (by repeat (first | (with_reducible first | exact HB.out | apply ya2 | apply ya0 | apply ya1 | refine ya6 ?_ GE127.out | refine ya6 ?_ GE131.out) | exact HB.out)) hb); clear BK127; clear BK131; clear HB; have BK127 := n0_; have BK131 := n1_; have HB := n2_; clear n0_ n1_ n2_; (try clear hb); (try clear hb2); (try clear hk); (try clear hi); obtain ⟨hcz61_0, hcz61_1, hcz61_2, hfz61_0, hfz61_1, hfz61_2⟩ := bx3 BK131.out) | (go_at_call 108; (with_reducible refine (yb6.calls k2 ((rdAt l0_3 x3_2).f1) true _ A49.out).mono ?_); rintro e w62 ⟨rfl, hb⟩; have n0_ := Aside0.mk (yb9 (g := gb127) (o := .cells #[.int .i64 a0_0, .string a0_1, .string a0_2, .slice (some ad130) l0_3.length c0_3, .slice A0_4 l0_4.length c0_4, .string a0_5] 27 (0, 0)) (by (with_reducible repeat (first | refine ya8 ?_ _ | refine ya9 ?_ | refine blk_alloc ?_ _)); exact BK127.out) hb); have n1_ := Aside0.mk (yb9 (g := gb131) (o := .cells #[.string ((rdAt l0_3 x3_2).f0.f0), .string ((rdAt l0_3 x3_2).f0.f1), .string ((rdAt l0_3 x3_2).f1)] 63 (0, 0)) (by (with_reducible repeat (first | refine ya8 ?_ _ | refine ya9 ?_ | refine blk_alloc ?_ _)); exact BK131.out) hb); have n2_ := Aside0.mk (ya7 (by repeat (first | (with_reducible first | exact HB.out | apply ya2 | apply ya0 | apply ya1 | refine ya6 ?_ GE127.out | refine ya6 ?_ GE131.out) | exact HB.out)) hb); clear BK127; clear BK131; clear HB; have BK127 := n0_; have BK131 := n1_; have HB := n2_; clear n0_ n1_ n2_; (try clear hb); (try clear hb2); (try clear hk); (try clear hi); obtain ⟨hcz63_0, hcz63_1, hcz63_2, hfz63_0, hfz63_1, hfz63_2⟩ := bx3 BK131.out)); try go_wp2_with (first | (go_at_call 109; (with_reducible refine (yc5.calls k2 ((rdAt l0_3 x3_2).f0.f0) ((rdAt l0_3 x3_2).f0.f1) true _ A47.out).mono ?_); rintro e w60 ⟨rfl, hb⟩; have n0_ := Aside0.mk (yb9 (g := gb127) (o := .cells #[.int .i64 a0_0, .string a0_1, .string a0_2, .slice (some ad130) l0_3.length c0_3, .slice A0_4 l0_4.length c0_4, .string a0_5] 27 (0, 0)) (by (repeat (first | (with_reducible first | refine ya8 ?_ _ | refine ya9 ?_ | refine blk_alloc ?_ _) | refine yj0 ?_ NB127_131.out _)); exact BK127.out) hb); have n1_ := Aside0.mk (yb9 (g := gb131) (o := .cells #[.string ((rdAt l0_3 x3_2).f0.f0), .string ((rdAt l0_3 x3_2).f0.f1), .string ((rdAt l0_3 x3_2).f1)] 63 (0, 0)) (by (with_reducible repeat (first | refine ya8 ?_ _ | refine ya9 ?_ | refine blk_alloc ?_ _)); refine ye4 (cs := #[.string ((rdAt l0_3 x3_2).f0.f0), .string ((rdAt l0_3 x3_2).f0.f1), .string (⟨#[]⟩ : ByteArray)]) ?_ 2 _ rfl; (with_reducible repeat (first | refine ya8 ?_ _ | refine ya9 ?_ | refine blk_alloc ?_ _)); refine ye4 (cs := #[.string ((rdAt l0_3 x3_2).f0.f0), .string (⟨#[]⟩ : ByteArray), .string (⟨#[]⟩ : ByteArray)]) ?_ 1 _ rfl; (with_reducible repeat (first | refine ya8 ?_ _ | refine ya9 ?_ | refine blk_alloc ?_ _)); refine ye4 (cs := #[.string (⟨#[]⟩ : ByteArray), .string (⟨#[]⟩ : ByteArray), .string (⟨#[]⟩ : ByteArray)]) ?_ 0 _ rfl; (with_reducible repeat (first | refine ya8 ?_ _ | refine ya9 ?_ | refine blk_alloc ?_ _)); exact BK131.out) hb); have n2_ := Aside0.mk (ya7 (by repeat (first | (with_reducible first | exact HB.out | apply ya2 | apply ya0 | apply ya1 | refine ya6 ?_ GE127.out | refine ya6 ?_ GE131.out) | exact HB.out)) hb); clear BK127; clear BK131; clear HB; have BK127 := n0_; have BK131 := n1_; have HB := n2_; clear n0_ n1_ n2_; (try clear hb); (try clear hb2); (try clear hk); (try clear hi); obtain ⟨hcz61_0, hcz61_1, hcz61_2, hfz61_0, hfz61_1, hfz61_2⟩ := bx3 BK131.out) | (go_at_call 108; (with_reducible refine (yb6.calls k2 ((rdAt l0_3 x3_2).f1) true _ A49.out).mono ?_); rintro e w62 ⟨rfl, hb⟩; have n0_ := Aside0.mk (yb9 (g := gb127) (o := .cells #[.int .i64 a0_0, .string a0_1, .string a0_2, .slice (some ad130) l0_3.length c0_3, .slice A0_4 l0_4.length c0_4, .string a0_5] 27 (0, 0)) (by (with_reducible repeat (first | refine ya8 ?_ _ | refine ya9 ?_ | refine blk_alloc ?_ _)); exact BK127.out) hb); have n1_ := Aside0.mk (yb9 (g := gb131) (o := .cells #[.string ((rdAt l0_3 x3_2).f0.f0), .string ((rdAt l0_3 x3_2).f0.f1), .string ((rdAt l0_3 x3_2).f1)] 63 (0, 0)) (by (with_reducible repeat (first | refine ya8 ?_ _ | refine ya9 ?_ | refine blk_alloc ?_ _)); exact BK131.out) hb); have n2_ := Aside0.mk (ya7 (by repeat (first | (with_reducible first | exact HB.out | apply ya2 | apply ya0 | apply ya1 | refine ya6 ?_ GE127.out | refine ya6 ?_ GE131.out) | exact HB.out)) hb); clear BK127; clear BK131; clear HB; have BK127 := n0_; have BK131 := n1_; have HB := n2_; clear n0_ n1_ n2_; (try clear hb); (try clear hb2); (try clear hk); (try clear hi); obtain ⟨hcz63_0, hcz63_1, hcz63_2, hfz63_0, hfz63_1, hfz63_2⟩ := bx3 BK131.out)))
           go_meet
           case rel => exact ⟨_, (false), (by first | rfl | (simp; done) | (simp [*]; done)), H', ⟨by have := HJ24.out; have := HK2.out; first | omega | exact Nat.le_refl _⟩, ⟨by (with_reducible repeat (first | refine ya8 ?_ _ | refine ya9 ?_ | refine blk_alloc ?_ _)); exact BK127.out⟩, ⟨by (with_reducible repeat (first | refine ya8 ?_ _ | refine ya9 ?_ | refine blk_alloc ?_ _)); exact BK131.out⟩, ⟨by repeat (first | (with_reducible first | exact HB.out | apply ya2 | apply ya0 | apply ya1 | refine ya6 ?_ GE127.out | refine ya6 ?_ GE131.out) | exact HB.out)⟩⟩
         ·replace c50 := Bool.eq_false_iff.mpr c50
          subst c50
          have H1 : (ya4.j2 k2 x3_2 true a0_0 a0_1 a0_2 l0_3 l0_4 a0_5 ((rdAt l0_3 x3_2).f0.f0) ((rdAt l0_3 x3_2).f0.f1) ((rdAt l0_3 x3_2).f1)) = some r := by rw [if_neg (show ¬ (false = true) by decide)] at H; exact H
          clear H
          have H := H1
          clear H1
          have H' := Aside0.mk H
          clear H
          have hnb64 := NB131_127.out
          have hnc64 := NB127_131.out
          obtain ⟨hcz65_0, hcz65_1, hcz65_2, hfz65_0, hfz65_1, hfz65_2⟩ := bx3 BK131.out
          go_wp2_with (first | (go_at_call 109; (with_reducible refine (yc5.calls k2 ((rdAt l0_3 x3_2).f0.f0) ((rdAt l0_3 x3_2).f0.f1) true _ A47.out).mono ?_); rintro e w66 ⟨rfl, hb⟩; have n0_ := Aside0.mk (yb9 (g := gb127) (o := .cells #[.int .i64 a0_0, .string a0_1, .string a0_2, .slice (some ad130) l0_3.length c0_3, .slice A0_4 l0_4.length c0_4, .string a0_5] 27 (0, 0)) (by (repeat (first | (with_reducible first | refine ya8 ?_ _ | refine ya9 ?_ | refine blk_alloc ?_ _) | refine yj0 ?_ NB127_131.out _)); exact BK127.out) hb); have n1_ := Aside0.mk (yb9 (g := gb131) (o := .cells #[.string ((rdAt l0_3 x3_2).f0.f0), .string ((rdAt l0_3 x3_2).f0.f1), .string ((rdAt l0_3 x3_2).f1)] 63 (0, 0)) (by (with_reducible repeat (first | refine ya8 ?_ _ | refine ya9 ?_ | refine blk_alloc ?_ _)); refine ye4 (cs := #[.string ((rdAt l0_3 x3_2).f0.f0), .string ((rdAt l0_3 x3_2).f0.f1), .string (⟨#[]⟩ : ByteArray)]) ?_ 2 _ rfl; (with_reducible repeat (first | refine ya8 ?_ _ | refine ya9 ?_ | refine blk_alloc ?_ _)); refine ye4 (cs := #[.string ((rdAt l0_3 x3_2).f0.f0), .string (⟨#[]⟩ : ByteArray), .string (⟨#[]⟩ : ByteArray)]) ?_ 1 _ rfl; (with_reducible repeat (first | refine ya8 ?_ _ | refine ya9 ?_ | refine blk_alloc ?_ _)); refine ye4 (cs := #[.string (⟨#[]⟩ : ByteArray), .string (⟨#[]⟩ : ByteArray), .string (⟨#[]⟩ : ByteArray)]) ?_ 0 _ rfl; (with_reducible repeat (first | refine ya8 ?_ _ | refine ya9 ?_ | refine blk_alloc ?_ _)); exact BK131.out) hb); have n2_ := Aside0.mk (ya7 (by repeat (first | (with_reducible first | exact HB.out | apply ya2 | apply ya0 | apply ya1 | refine ya6 ?_ GE127.out | refine ya6 ?_ GE131.out) | exact HB.out)) hb); clear BK127; clear BK131; clear HB; have BK127 := n0_; have BK131 := n1_; have HB := n2_; clear n0_ n1_ n2_; (try clear hb); (try clear hb2); (try clear hk); (try clear hi); obtain ⟨hcz67_0, hcz67_1, hcz67_2, hfz67_0, hfz67_1, hfz67_2⟩ := bx3 BK131.out) | (go_at_call 108; (with_reducible refine (yb6.calls k2 ((rdAt l0_3 x3_2).f1) false _ A49.out).mono ?_); rintro e w68 ⟨rfl, hb⟩; have n0_ := Aside0.mk (yb9 (g := gb127) (o := .cells #[.int .i64 a0_0, .string a0_1, .string a0_2, .slice (some ad130) l0_3.length c0_3, .slice A0_4 l0_4.length c0_4, .string a0_5] 27 (0, 0)) (by (with_reducible repeat (first | refine ya8 ?_ _ | refine ya9 ?_ | refine blk_alloc ?_ _)); exact BK127.out) hb); have n1_ := Aside0.mk (yb9 (g := gb131) (o := .cells #[.string ((rdAt l0_3 x3_2).f0.f0), .string ((rdAt l0_3 x3_2).f0.f1), .string ((rdAt l0_3 x3_2).f1)] 63 (0, 0)) (by (with_reducible repeat (first | refine ya8 ?_ _ | refine ya9 ?_ | refine blk_alloc ?_ _)); exact BK131.out) hb); have n2_ := Aside0.mk (ya7 (by repeat (first | (with_reducible first | exact HB.out | apply ya2 | apply ya0 | apply ya1 | refine ya6 ?_ GE127.out | refine ya6 ?_ GE131.out) | exact HB.out)) hb); clear BK127; clear BK131; clear HB; have BK127 := n0_; have BK131 := n1_; have HB := n2_; clear n0_ n1_ n2_; (try clear hb); (try clear hb2); (try clear hk); (try clear hi)))
          repeat (go_quiet (first | (go_at_call 109; (with_reducible refine (yc5.calls k2 ((rdAt l0_3 x3_2).f0.f0) ((rdAt l0_3 x3_2).f0.f1) true _ A47.out).mono ?_); rintro e w66 ⟨rfl, hb⟩; have n0_ := Aside0.mk (yb9 (g := gb127) (o := .cells #[.int .i64 a0_0, .string a0_1, .string a0_2, .slice (some ad130) l0_3.length c0_3, .slice A0_4 l0_4.length c0_4, .string a0_5] 27 (0, 0)) (by (repeat (first | (with_reducible first | refine ya8 ?_ _ | refine ya9 ?_ | refine blk_alloc ?_ _) | refine yj0 ?_ NB127_131.out _)); exact BK127.out) hb); have n1_ := Aside0.mk (yb9 (g := gb131) (o := .cells #[.string ((rdAt l0_3 x3_2).f0.f0), .string ((rdAt l0_3 x3_2).f0.f1), .string ((rdAt l0_3 x3_2).f1)] 63 (0, 0)) (by (with_reducible repeat (first | refine ya8 ?_ _ | refine ya9 ?_ | refine blk_alloc ?_ _)); refine ye4 (cs := #[.string ((rdAt l0_3 x3_2).f0.f0), .string ((rdAt l0_3 x3_2).f0.f1), .string (⟨#[]⟩ : ByteArray)]) ?_ 2 _ rfl; (with_reducible repeat (first | refine ya8 ?_ _ | refine ya9 ?_ | refine blk_alloc ?_ _)); refine ye4 (cs := #[.string ((rdAt l0_3 x3_2).f0.f0), .string (⟨#[]⟩ : ByteArray), .string (⟨#[]⟩ : ByteArray)]) ?_ 1 _ rfl; (with_reducible repeat (first | refine ya8 ?_ _ | refine ya9 ?_ | refine blk_alloc ?_ _)); refine ye4 (cs := #[.string (⟨#[]⟩ : ByteArray), .string (⟨#[]⟩ : ByteArray), .string (⟨#[]⟩ : ByteArray)]) ?_ 0 _ rfl; (with_reducible repeat (first | refine ya8 ?_ _ | refine ya9 ?_ | refine blk_alloc ?_ _)); exact BK131.out) hb); have n2_ := Aside0.mk (ya7 (by repeat (first | (with_reducible first | exact HB.out | apply ya2 | apply ya0 | apply ya1 | refine ya6 ?_ GE127.out | refine ya6 ?_ GE131.out) | exact HB.out)) hb); clear BK127; clear BK131; clear HB; have BK127 := n0_; have BK131 := n1_; have HB := n2_; clear n0_ n1_ n2_; (try clear hb); (try clear hb2); (try clear hk); (try clear hi); obtain ⟨hcz67_0, hcz67_1, hcz67_2, hfz67_0, hfz67_1, hfz67_2⟩ := bx3 BK131.out) | (go_at_call 108; (with_reducible refine (yb6.calls k2 ((rdAt l0_3 x3_2).f1) false _ A49.out).mono ?_); rintro e w68 ⟨rfl, hb⟩; have n0_ := Aside0.mk (yb9 (g := gb127) (o := .cells #[.int .i64 a0_0, .string a0_1, .string a0_2, .slice (some ad130) l0_3.length c0_3, .slice A0_4 l0_4.length c0_4, .string a0_5] 27 (0, 0)) (by (with_reducible repeat (first | refine ya8 ?_ _ | refine ya9 ?_ | refine blk_alloc ?_ _)); exact BK127.out) hb); have n1_ := Aside0.mk (yb9 (g := gb131) (o := .cells #[.string ((rdAt l0_3 x3_2).f0.f0), .string ((rdAt l0_3 x3_2).f0.f1), .string ((rdAt l0_3 x3_2).f1)] 63 (0, 0)) (by (with_reducible repeat (first | refine ya8 ?_ _ | refine ya9 ?_ | refine blk_alloc ?_ _)); exact BK131.out) hb); have n2_ := Aside0.mk (ya7 (by repeat (first | (with_reducible first | exact HB.out | apply ya2 | apply ya0 | apply ya1 | refine ya6 ?_ GE127.out | refine ya6 ?_ GE131.out) | exact HB.out)) hb); clear BK127; clear BK131; clear HB; have BK127 := n0_; have BK131 := n1_; have HB := n2_; clear n0_ n1_ n2_; (try clear hb); (try clear hb2); (try clear hk); (try clear hi))); try go_wp2_with (first | (go_at_call 109; (with_reducible refine (yc5.calls k2 ((rdAt l0_3 x3_2).f0.f0) ((rdAt l0_3 x3_2).f0.f1) true _ A47.out).mono ?_); rintro e w66 ⟨rfl, hb⟩; have n0_ := Aside0.mk (yb9 (g := gb127) (o := .cells #[.int .i64 a0_0, .string a0_1, .string a0_2, .slice (some ad130) l0_3.length c0_3, .slice A0_4 l0_4.length c0_4, .string a0_5] 27 (0, 0)) (by (repeat (first | (with_reducible first | refine ya8 ?_ _ | refine ya9 ?_ | refine blk_alloc ?_ _) | refine yj0 ?_ NB127_131.out _)); exact BK127.out) hb); have n1_ := Aside0.mk (yb9 (g := gb131) (o := .cells #[.string ((rdAt l0_3 x3_2).f0.f0), .string ((rdAt l0_3 x3_2).f0.f1), .string ((rdAt l0_3 x3_2).f1)] 63 (0, 0)) (by (with_reducible repeat (first | refine ya8 ?_ _ | refine ya9 ?_ | refine blk_alloc ?_ _)); refine ye4 (cs := #[.string ((rdAt l0_3 x3_2).f0.f0), .string ((rdAt l0_3 x3_2).f0.f1), .string (⟨#[]⟩ : ByteArray)]) ?_ 2 _ rfl; (with_reducible repeat (first | refine ya8 ?_ _ | refine ya9 ?_ | refine blk_alloc ?_ _)); refine ye4 (cs := #[.string ((rdAt l0_3 x3_2).f0.f0), .string (⟨#[]⟩ : ByteArray), .string (⟨#[]⟩ : ByteArray)]) ?_ 1 _ rfl; (with_reducible repeat (first | refine ya8 ?_ _ | refine ya9 ?_ | refine blk_alloc ?_ _)); refine ye4 (cs := #[.string (⟨#[]⟩ : ByteArray), .string (⟨#[]⟩ : ByteArray), .string (⟨#[]⟩ : ByteArray)]) ?_ 0 _ rfl; (with_reducible repeat (first | refine ya8 ?_ _ | refine ya9 ?_ | refine blk_alloc ?_ _)); exact BK131.out) hb); have n2_ := Aside0.mk (ya7 (by repeat (first | (with_reducible first | exact HB.out | apply ya2 | apply ya0 | apply ya1 | refine ya6 ?_ GE127.out | refine ya6 ?_ GE131.out) | exact HB.out)) hb); clear BK127; clear BK131; clear HB; have BK127 := n0_; have BK131 := n1_; have HB := n2_; clear n0_ n1_ n2_; (try clear hb); (try clear hb2); (try clear hk); (try clear hi); obtain ⟨hcz67_0, hcz67_1, hcz67_2, hfz67_0, hfz67_1, hfz67_2⟩ := bx3 BK131.out) | (go_at_call 108; (with_reducible refine (yb6.calls k2 ((rdAt l0_3 x3_2).f1) false _ A49.out).mono ?_); rintro e w68 ⟨rfl, hb⟩; have n0_ := Aside0.mk (yb9 (g := gb127) (o := .cells #[.int .i64 a0_0, .string a0_1, .string a0_2, .slice (some ad130) l0_3.length c0_3, .slice A0_4 l0_4.length c0_4, .string a0_5] 27 (0, 0)) (by (with_reducible repeat (first | refine ya8 ?_ _ | refine ya9 ?_ | refine blk_alloc ?_ _)); exact BK127.out) hb); have n1_ := Aside0.mk (yb9 (g := gb131) (o := .cells #[.string ((rdAt l0_3 x3_2).f0.f0), .string ((rdAt l0_3 x3_2).f0.f1), .string ((rdAt l0_3 x3_2).f1)] 63 (0, 0)) (by (with_reducible repeat (first | refine ya8 ?_ _ | refine ya9 ?_ | refine blk_alloc ?_ _)); exact BK131.out) hb); have n2_ := Aside0.mk (ya7 (by repeat (first | (with_reducible first | exact HB.out | apply ya2 | apply ya0 | apply ya1 | refine ya6 ?_ GE127.out | refine ya6 ?_ GE131.out) | exact HB.out)) hb); clear BK127; clear BK131; clear HB; have BK127 := n0_; have BK131 := n1_; have HB := n2_; clear n0_ n1_ n2_; (try clear hb); (try clear hb2); (try clear hk); (try clear hi))))
          go_meet
          case rel => exact ⟨_, (true), (by first | rfl | (simp; done) | (simp [*]; done)), H', ⟨by have := HJ24.out; have := HK2.out; first | omega | exact Nat.le_refl _⟩, ⟨by (with_reducible repeat (first | refine ya8 ?_ _ | refine ya9 ?_ | refine blk_alloc ?_ _)); exact BK127.out⟩, ⟨by (with_reducible repeat (first | refine ya8 ?_ _ | refine ya9 ?_ | refine blk_alloc ?_ _)); exact BK131.out⟩, ⟨by repeat (first | (with_reducible first | exact HB.out | apply ya2 | apply ya0 | apply ya1 | refine ya6 ?_ GE127.out | refine ya6 ?_ GE131.out) | exact HB.out)⟩⟩
        ·replace c48 := Bool.eq_false_iff.mpr c48
         subst c48
         have H1 : (ya4.j2 k2 x3_2 true a0_0 a0_1 a0_2 l0_3 l0_4 a0_5 ((rdAt l0_3 x3_2).f0.f0) ((rdAt l0_3 x3_2).f0.f1) ((rdAt l0_3 x3_2).f1)) = some r := by rw [if_neg (show ¬ (false = true) by decide)] at H; exact H
         clear H
         have H := H1
         clear H1
         have H' := Aside0.mk H
         clear H
         have hnb69 := NB131_127.out
         have hnc69 := NB127_131.out
         obtain ⟨hcz70_0, hcz70_1, hcz70_2, hfz70_0, hfz70_1, hfz70_2⟩ := bx3 BK131.out
         go_wp2_with (first | (go_at_call 109; (with_reducible refine (yc5.calls k2 ((rdAt l0_3 x3_2).f0.f0) ((rdAt l0_3 x3_2).f0.f1) false _ A47.out).mono ?_); rintro e w71 ⟨rfl, hb⟩; have n0_ := Aside0.mk (yb9 (g := gb127) (o := .cells #[.int .i64 a0_0, .string a0_1, .string a0_2, .slice (some ad130) l0_3.length c0_3, .slice A0_4 l0_4.length c0_4, .string a0_5] 27 (0, 0)) (by (repeat (first | (with_reducible first | refine ya8 ?_ _ | refine ya9 ?_ | refine blk_alloc ?_ _) | refine yj0 ?_ NB127_131.out _)); exact BK127.out) hb); have n1_ := Aside0.mk (yb9 (g := gb131) (o := .cells #[.string ((rdAt l0_3 x3_2).f0.f0), .string ((rdAt l0_3 x3_2).f0.f1), .string ((rdAt l0_3 x3_2).f1)] 63 (0, 0)) (by (with_reducible repeat (first | refine ya8 ?_ _ | refine ya9 ?_ | refine blk_alloc ?_ _)); refine ye4 (cs := #[.string ((rdAt l0_3 x3_2).f0.f0), .string ((rdAt l0_3 x3_2).f0.f1), .string (⟨#[]⟩ : ByteArray)]) ?_ 2 _ rfl; (with_reducible repeat (first | refine ya8 ?_ _ | refine ya9 ?_ | refine blk_alloc ?_ _)); refine ye4 (cs := #[.string ((rdAt l0_3 x3_2).f0.f0), .string (⟨#[]⟩ : ByteArray), .string (⟨#[]⟩ : ByteArray)]) ?_ 1 _ rfl; (with_reducible repeat (first | refine ya8 ?_ _ | refine ya9 ?_ | refine blk_alloc ?_ _)); refine ye4 (cs := #[.string (⟨#[]⟩ : ByteArray), .string (⟨#[]⟩ : ByteArray), .string (⟨#[]⟩ : ByteArray)]) ?_ 0 _ rfl; (with_reducible repeat (first | refine ya8 ?_ _ | refine ya9 ?_ | refine blk_alloc ?_ _)); exact BK131.out) hb); have n2_ := Aside0.mk (ya7 (by repeat (first | (with_reducible first | exact HB.out | apply ya2 | apply ya0 | apply ya1 | refine ya6 ?_ GE127.out | refine ya6 ?_ GE131.out) | exact HB.out)) hb); clear BK127; clear BK131; clear HB; have BK127 := n0_; have BK131 := n1_; have HB := n2_; clear n0_ n1_ n2_; (try clear hb); (try clear hb2); (try clear hk); (try clear hi)))
         repeat (go_quiet (first | (go_at_call 109; (with_reducible refine (yc5.calls k2 ((rdAt l0_3 x3_2).f0.f0) ((rdAt l0_3 x3_2).f0.f1) false _ A47.out).mono ?_); rintro e w71 ⟨rfl, hb⟩; have n0_ := Aside0.mk (yb9 (g := gb127) (o := .cells #[.int .i64 a0_0, .string a0_1, .string a0_2, .slice (some ad130) l0_3.length c0_3, .slice A0_4 l0_4.length c0_4, .string a0_5] 27 (0, 0)) (by (repeat (first | (with_reducible first | refine ya8 ?_ _ | refine ya9 ?_ | refine blk_alloc ?_ _) | refine yj0 ?_ NB127_131.out _)); exact BK127.out) hb); have n1_ := Aside0.mk (yb9 (g := gb131) (o := .cells #[.string ((rdAt l0_3 x3_2).f0.f0), .string ((rdAt l0_3 x3_2).f0.f1), .string ((rdAt l0_3 x3_2).f1)] 63 (0, 0)) (by (with_reducible repeat (first | refine ya8 ?_ _ | refine ya9 ?_ | refine blk_alloc ?_ _)); refine ye4 (cs := #[.string ((rdAt l0_3 x3_2).f0.f0), .string ((rdAt l0_3 x3_2).f0.f1), .string (⟨#[]⟩ : ByteArray)]) ?_ 2 _ rfl; (with_reducible repeat (first | refine ya8 ?_ _ | refine ya9 ?_ | refine blk_alloc ?_ _)); refine ye4 (cs := #[.string ((rdAt l0_3 x3_2).f0.f0), .string (⟨#[]⟩ : ByteArray), .string (⟨#[]⟩ : ByteArray)]) ?_ 1 _ rfl; (with_reducible repeat (first | refine ya8 ?_ _ | refine ya9 ?_ | refine blk_alloc ?_ _)); refine ye4 (cs := #[.string (⟨#[]⟩ : ByteArray), .string (⟨#[]⟩ : ByteArray), .string (⟨#[]⟩ : ByteArray)]) ?_ 0 _ rfl; (with_reducible repeat (first | refine ya8 ?_ _ | refine ya9 ?_ | refine blk_alloc ?_ _)); exact BK131.out) hb); have n2_ := Aside0.mk (ya7 (by repeat (first | (with_reducible first | exact HB.out | apply ya2 | apply ya0 | apply ya1 | refine ya6 ?_ GE127.out | refine ya6 ?_ GE131.out) | exact HB.out)) hb); clear BK127; clear BK131; clear HB; have BK127 := n0_; have BK131 := n1_; have HB := n2_; clear n0_ n1_ n2_; (try clear hb); (try clear hb2); (try clear hk); (try clear hi))); try go_wp2_with (first | (go_at_call 109; (with_reducible refine (yc5.calls k2 ((rdAt l0_3 x3_2).f0.f0) ((rdAt l0_3 x3_2).f0.f1) false _ A47.out).mono ?_); rintro e w71 ⟨rfl, hb⟩; have n0_ := Aside0.mk (yb9 (g := gb127) (o := .cells #[.int .i64 a0_0, .string a0_1, .string a0_2, .slice (some ad130) l0_3.length c0_3, .slice A0_4 l0_4.length c0_4, .string a0_5] 27 (0, 0)) (by (repeat (first | (with_reducible first | refine ya8 ?_ _ | refine ya9 ?_ | refine blk_alloc ?_ _) | refine yj0 ?_ NB127_131.out _)); exact BK127.out) hb); have n1_ := Aside0.mk (yb9 (g := gb131) (o := .cells #[.string ((rdAt l0_3 x3_2).f0.f0), .string ((rdAt l0_3 x3_2).f0.f1), .string ((rdAt l0_3 x3_2).f1)] 63 (0, 0)) (by (with_reducible repeat (first | refine ya8 ?_ _ | refine ya9 ?_ | refine blk_alloc ?_ _)); refine ye4 (cs := #[.string ((rdAt l0_3 x3_2).f0.f0), .string ((rdAt l0_3 x3_2).f0.f1), .string (⟨#[]⟩ : ByteArray)]) ?_ 2 _ rfl; (with_reducible repeat (first | refine ya8 ?_ _ | refine ya9 ?_ | refine blk_alloc ?_ _)); refine ye4 (cs := #[.string ((rdAt l0_3 x3_2).f0.f0), .string (⟨#[]⟩ : ByteArray), .string (⟨#[]⟩ : ByteArray)]) ?_ 1 _ rfl; (with_reducible repeat (first | refine ya8 ?_ _ | refine ya9 ?_ | refine blk_alloc ?_ _)); refine ye4 (cs := #[.string (⟨#[]⟩ : ByteArray), .string (⟨#[]⟩ : ByteArray), .string (⟨#[]⟩ : ByteArray)]) ?_ 0 _ rfl; (with_reducible repeat (first | refine ya8 ?_ _ | refine ya9 ?_ | refine blk_alloc ?_ _)); exact BK131.out) hb); have n2_ := Aside0.mk (ya7 (by repeat (first | (with_reducible first | exact HB.out | apply ya2 | apply ya0 | apply ya1 | refine ya6 ?_ GE127.out | refine ya6 ?_ GE131.out) | exact HB.out)) hb); clear BK127; clear BK131; clear HB; have BK127 := n0_; have BK131 := n1_; have HB := n2_; clear n0_ n1_ n2_; (try clear hb); (try clear hb2); (try clear hk); (try clear hi))))
         go_meet
         case rel => exact ⟨_, (true), (by first | rfl | (simp; done) | (simp [*]; done)), H', ⟨by have := HJ24.out; have := HK2.out; first | omega | exact Nat.le_refl _⟩, ⟨by (with_reducible repeat (first | refine ya8 ?_ _ | refine ya9 ?_ | refine blk_alloc ?_ _)); exact BK127.out⟩, ⟨by (with_reducible repeat (first | refine ya8 ?_ _ | refine ya9 ?_ | refine blk_alloc ?_ _)); exact BK131.out⟩, ⟨by repeat (first | (with_reducible first | exact HB.out | apply ya2 | apply ya0 | apply ya1 | refine ya6 ?_ GE127.out | refine ya6 ?_ GE131.out) | exact HB.out)⟩⟩
       case rest =>
        clear HC42
        try clear p1
        try clear q1
        try clear hx1
        try clear c2
        try clear c2b0
        try clear c2b1
        try clear p2
        try clear c3
        try clear c3b0
        try clear c3b1
        try clear c4
        try clear c5
        try clear c6
        try clear c7
        try clear c8
        try clear c8b0
        try clear c8b1
        try clear c8b2
        try clear c9
        try clear c9b0
        try clear c9b1
        try clear c9b2
        try clear p13
        try clear q13
        try clear hx13
        try clear c28
        try clear c28b0
        try clear c28b1
        try clear c29
        try clear c29b0
        try clear c29b1
        try clear c31
        try clear c39
        try clear c40
        try clear c40b0
        try clear c41
        try clear c41b0
        try clear c45
        try clear c48
        try clear c50
        try clear c51
        try clear c51b0
        try clear c51b1
        try clear c52
        try clear c58
        try clear c64
        try clear c69
        try clear hcz11_0
        try clear hcz11_1
        try clear hcz11_2
        try clear hcz11_3
        try clear hcz11_4
        try clear hcz11_5
        try clear hcz13_0
        try clear hcz13_1
        try clear hcz13_2
        try clear hcz13_3
        try clear hcz13_4
        try clear hcz13_5
        try clear hcz15_0
        try clear hcz15_1
        try clear hcz15_2
        try clear hcz15_3
        try clear hcz15_4
        try clear hcz15_5
        try clear hcz17_0
        try clear hcz17_1
        try clear hcz17_2
        try clear hcz17_3
        try clear hcz17_4
        try clear hcz17_5
        try clear hcz19_0
        try clear hcz19_1
        try clear hcz19_2
        try clear hcz19_3
        try clear hcz19_4
        try clear hcz19_5
        try clear hcz21_0
        try clear hcz21_1
        try clear hcz21_2
        try clear hcz21_3
        try clear hcz21_4
        try clear hcz21_5
        try clear hcz23_0
        try clear hcz23_1
        try clear hcz23_2
        try clear hcz23_3
        try clear hcz23_4
        try clear hcz23_5
        try clear hcz27_0
        try clear hcz27_1
        try clear hcz27_2
        try clear hcz27_3
        try clear hcz27_4
        try clear hcz27_5
        try clear hcz32_0
        try clear hcz32_1
        try clear hcz32_2
        try clear hcz32_3
        try clear hcz32_4
        try clear hcz32_5
        try clear hcz34_0
        try clear hcz34_1
        try clear hcz34_2
        try clear hcz34_3
        try clear hcz34_4
        try clear hcz34_5
        try clear hcz35_0
        try clear hcz35_1
        try clear hcz35_2
        try clear hcz35_3
        try clear hcz35_4
        try clear hcz35_5
        try clear hcz37_0
        try clear hcz37_1
        try clear hcz37_2
        try clear hcz37_3
        try clear hcz37_4
        try clear hcz37_5
        try clear hcz38_0
        try clear hcz38_1
        try clear hcz38_2
        try clear hcz38_3
        try clear hcz38_4
        try clear hcz38_5
        try clear hcz43_0
        try clear hcz43_1
        try clear hcz43_2
        try clear hcz43_3
        try clear hcz43_4
        try clear hcz43_5
        try clear hcz46_0
        try clear hcz46_1
        try clear hcz46_2
        try clear hcz53_0
        try clear hcz53_1
        try clear hcz53_2
        try clear hcz55_0
        try clear hcz55_1
        try clear hcz55_2
        try clear hcz57_0
        try clear hcz57_1
        try clear hcz57_2
        try clear hcz59_0
        try clear hcz59_1
        try clear hcz59_2
        try clear hcz5_0
        try clear hcz5_1
        try clear hcz5_2
        try clear hcz5_3
        try clear hcz5_4
        try clear hcz5_5
        try clear hcz61_0
        try clear hcz61_1
        try clear hcz61_2
        try clear hcz63_0
        try clear hcz63_1
        try clear hcz63_2
        try clear hcz65_0
        try clear hcz65_1
        try clear hcz65_2
        try clear hcz67_0
        try clear hcz67_1
        try clear hcz67_2
        try clear hcz70_0
        try clear hcz70_1
        try clear hcz70_2
        try clear hfz11_0
        try clear hfz11_1
        try clear hfz11_2
        try clear hfz11_3
        try clear hfz11_4
        try clear hfz11_5
        try clear hfz13_0
        try clear hfz13_1
        try clear hfz13_2
        try clear hfz13_3
        try clear hfz13_4
        try clear hfz13_5
        try clear hfz15_0
        try clear hfz15_1
        try clear hfz15_2
        try clear hfz15_3
        try clear hfz15_4
        try clear hfz15_5
        try clear hfz17_0
        try clear hfz17_1
        try clear hfz17_2
        try clear hfz17_3
        try clear hfz17_4
        try clear hfz17_5
        try clear hfz19_0
        try clear hfz19_1
        try clear hfz19_2
        try clear hfz19_3
        try clear hfz19_4
        try clear hfz19_5
        try clear hfz21_0
        try clear hfz21_1
        try clear hfz21_2
        try clear hfz21_3
        try clear hfz21_4
        try clear hfz21_5
        try clear hfz23_0
        try clear hfz23_1
        try clear hfz23_2
        try clear hfz23_3
        try clear hfz23_4
        try clear hfz23_5
        try clear hfz27_0
        try clear hfz27_1
        try clear hfz27_2
        try clear hfz27_3
        try clear hfz27_4
        try clear hfz27_5
        try clear hfz32_0
        try clear hfz32_1
        try clear hfz32_2
        try clear hfz32_3
        try clear hfz32_4
        try clear hfz32_5
        try clear hfz34_0
        try clear hfz34_1
        try clear hfz34_2
        try clear hfz34_3
        try clear hfz34_4
        try clear hfz34_5
        try clear hfz35_0
        try clear hfz35_1
        try clear hfz35_2
        try clear hfz35_3
        try clear hfz35_4
        try clear hfz35_5
        try clear hfz37_0
        try clear hfz37_1
        try clear hfz37_2
        try clear hfz37_3
        try clear hfz37_4
        try clear hfz37_5
        try clear hfz38_0
        try clear hfz38_1
        try clear hfz38_2
        try clear hfz38_3
        try clear hfz38_4
        try clear hfz38_5
        try clear hfz43_0
        try clear hfz43_1
        try clear hfz43_2
        try clear hfz43_3
        try clear hfz43_4
        try clear hfz43_5
        try clear hfz46_0
        try clear hfz46_1
        try clear hfz46_2
        try clear hfz53_0
        try clear hfz53_1
        try clear hfz53_2
        try clear hfz55_0
        try clear hfz55_1
        try clear hfz55_2
        try clear hfz57_0
        try clear hfz57_1
        try clear hfz57_2
        try clear hfz59_0
        try clear hfz59_1
        try clear hfz59_2
        try clear hfz5_0
        try clear hfz5_1
        try clear hfz5_2
        try clear hfz5_3
        try clear hfz5_4
        try clear hfz5_5
        try clear hfz61_0
        try clear hfz61_1
        try clear hfz61_2
        try clear hfz63_0
        try clear hfz63_1
        try clear hfz63_2
        try clear hfz65_0
        try clear hfz65_1
        try clear hfz65_2
        try clear hfz67_0
        try clear hfz67_1
        try clear hfz67_2
        try clear hfz70_0
        try clear hfz70_1
        try clear hfz70_2
        try clear hx130_0
        try clear hx130_1
        try clear hx130_2
        try clear p130
        try clear p2
        try clear q130
        obtain ⟨kq, x89_41, rfl, HA, HJ41, BK127, BK131, HB⟩ := hcut
        cases kq with
        | zero => exact absurd HA.out (by simp [ya4.j2])
        | succ kj41 =>
         have H := HA.out
         clear HA
         simp only [ya4.j2] at H
         by_cases c72 : x89_41 = true
         ·subst c72
          have H1 : (some false) = some r := by rw [if_pos rfl] at H; exact H
          clear H
          have H := H1
          clear H1
          obtain rfl := Option.some.inj H
          go_wp2
          repeat (go_quiet (fail); try go_wp2)
          go_ret
          exact ⟨by first | rfl | (simp [yb3, yb2] <;> rfl) | (simp [*, yb3, yb2] <;> rfl), by repeat (first | (with_reducible first | exact HB.out | apply ya2 | apply ya0 | apply ya1 | refine ya6 ?_ GE127.out | refine ya6 ?_ GE131.out) | exact HB.out)⟩
         replace c72 := Bool.eq_false_iff.mpr c72
         subst c72
         have H1 : (ya4.l1 kj41 x3_2 0 a0_0 a0_1 a0_2 l0_3 l0_4 a0_5 ((rdAt l0_3 x3_2).f0.f0) ((rdAt l0_3 x3_2).f0.f1) ((rdAt l0_3 x3_2).f1)) = some r := by rw [if_neg (show ¬ (false = true) by decide)] at H; exact H
         clear H
         have H := H1
         clear H1
         have H' := Aside0.mk H
         clear H
         go_wp2
         repeat (go_quiet (fail); try go_wp2)
         go_loopg [5] kj41 (fun kq v5 w' => ∃ (x5_4 : Int), v5 = .int .i64 x5_4 ∧ Aside0 (ya4.l1 kq x3_2 x5_4 a0_0 a0_1 a0_2 l0_3 l0_4 a0_5 ((rdAt l0_3 x3_2).f0.f0) ((rdAt l0_3 x3_2).f0.f1) ((rdAt l0_3 x3_2).f1) = some r) ∧ Aside0 (kq ≤ kj41) ∧ Aside0 (w'.heap[gb127]? = some (.cells #[.int .i64 a0_0, .string a0_1, .string a0_2, (.slice (some ad130) l0_3.length c0_3), (.slice A0_4 l0_4.length c0_4), .string a0_5] 27 (0, 0))) ∧ Aside0 (w'.heap[gb131]? = some (.cells #[.string ((rdAt l0_3 x3_2).f0.f0), .string ((rdAt l0_3 x3_2).f0.f1), .string ((rdAt l0_3 x3_2).f1)] 63 (0, 0))) ∧ Aside0 (Below w.heap.size w w'))
         case atStart => exact ⟨(0), (by first | rfl | (simp; done) | (simp [*]; done)), H', ⟨Nat.le_refl _⟩, ⟨by (with_reducible repeat (first | refine ya8 ?_ _ | refine ya9 ?_ | refine blk_alloc ?_ _)); exact BK127.out⟩, ⟨by (with_reducible repeat (first | refine ya8 ?_ _ | refine ya9 ?_ | refine blk_alloc ?_ _)); exact BK131.out⟩, ⟨by repeat (first | (with_reducible first | exact HB.out | apply ya2 | apply ya0 | apply ya1 | refine ya6 ?_ GE127.out | refine ya6 ?_ GE131.out) | exact HB.out)⟩⟩
         case round =>
          clear H'
          try clear p1
          try clear q1
          try clear hx1
          try clear c2
          try clear c2b0
          try clear c2b1
          try clear p2
          try clear c3
          try clear c3b0
          try clear c3b1
          try clear c4
          try clear c5
          try clear c6
          try clear c7
          try clear c8
          try clear c8b0
          try clear c8b1
          try clear c8b2
          try clear c9
          try clear c9b0
          try clear c9b1
          try clear c9b2
          try clear p13
          try clear q13
          try clear hx13
          try clear c28
          try clear c28b0
          try clear c28b1
          try clear c29
          try clear c29b0
          try clear c29b1
          try clear c31
          try clear c39
          try clear c40
          try clear c40b0
          try clear c41
          try clear c41b0
          try clear c45
          try clear c48
          try clear c50
          try clear c51
          try clear c51b0
          try clear c51b1
          try clear c52
          try clear c58
          try clear c64
          try clear c69
          try clear c72
          try clear hcz11_0
          try clear hcz11_1
          try clear hcz11_2
          try clear hcz11_3
          try clear hcz11_4
          try clear hcz11_5
          try clear hcz13_0
          try clear hcz13_1
          try clear hcz13_2
          try clear hcz13_3
          try clear hcz13_4
          try clear hcz13_5
          try clear hcz15_0
          try clear hcz15_1
          try clear hcz15_2
          try clear hcz15_3
          try clear hcz15_4
          try clear hcz15_5
          try clear hcz17_0
          try clear hcz17_1
          try clear hcz17_2
          try clear hcz17_3
          try clear hcz17_4
          try clear hcz17_5
          try clear hcz19_0
          try clear hcz19_1
          try clear hcz19_2
          try clear hcz19_3
          try clear hcz19_4
          try clear hcz19_5
          try clear hcz21_0
          try clear hcz21_1
          try clear hcz21_2
          try clear hcz21_3
          try clear hcz21_4
          try clear hcz21_5
          try clear hcz23_0
          try clear hcz23_1
          try clear hcz23_2
          try clear hcz23_3
          try clear hcz23_4
          try clear hcz23_5
          try clear hcz27_0
          try clear hcz27_1
          try clear hcz27_2
          try clear hcz27_3
          try clear hcz27_4
          try clear hcz27_5
          try clear hcz32_0
          try clear hcz32_1
          try clear hcz32_2
          try clear hcz32_3
          try clear hcz32_4
          try clear hcz32_5
          try clear hcz34_0
          try clear hcz34_1
          try clear hcz34_2
          try clear hcz34_3
          try clear hcz34_4
          try clear hcz34_5
          try clear hcz35_0
          try clear hcz35_1
          try clear hcz35_2
          try clear hcz35_3
          try clear hcz35_4
          try clear hcz35_5
          try clear hcz37_0
          try clear hcz37_1
          try clear hcz37_2
          try clear hcz37_3
          try clear hcz37_4
          try clear hcz37_5
          try clear hcz38_0
          try clear hcz38_1
          try clear hcz38_2
          try clear hcz38_3
          try clear hcz38_4
          try clear hcz38_5
          try clear hcz43_0
          try clear hcz43_1
          try clear hcz43_2
          try clear hcz43_3
          try clear hcz43_4
          try clear hcz43_5
          try clear hcz46_0
          try clear hcz46_1
          try clear hcz46_2
          try clear hcz53_0
          try clear hcz53_1
          try clear hcz53_2
          try clear hcz55_0
          try clear hcz55_1
          try clear hcz55_2
          try clear hcz57_0
          try clear hcz57_1
          try clear hcz57_2
          try clear hcz59_0
          try clear hcz59_1
          try clear hcz59_2
          try clear hcz5_0
          try clear hcz5_1
          try clear hcz5_2
          try clear hcz5_3
          try clear hcz5_4
          try clear hcz5_5
          try clear hcz61_0
          try clear hcz61_1
          try clear hcz61_2
          try clear hcz63_0
          try clear hcz63_1
          try clear hcz63_2
          try clear hcz65_0
          try clear hcz65_1
          try clear hcz65_2
          try clear hcz67_0
          try clear hcz67_1
          try clear hcz67_2
          try clear hcz70_0
          try clear hcz70_1
          try clear hcz70_2
          try clear hfz11_0
          try clear hfz11_1
          try clear hfz11_2
          try clear hfz11_3
          try clear hfz11_4
          try clear hfz11_5
          try clear hfz13_0
          try clear hfz13_1
          try clear hfz13_2
          try clear hfz13_3
          try clear hfz13_4
          try clear hfz13_5
          try clear hfz15_0
          try clear hfz15_1
          try clear hfz15_2
          try clear hfz15_3
          try clear hfz15_4
          try clear hfz15_5
          try clear hfz17_0
          try clear hfz17_1
          try clear hfz17_2
          try clear hfz17_3
          try clear hfz17_4
          try clear hfz17_5
          try clear hfz19_0
          try clear hfz19_1
          try clear hfz19_2
          try clear hfz19_3
          try clear hfz19_4
          try clear hfz19_5
          try clear hfz21_0
          try clear hfz21_1
          try clear hfz21_2
          try clear hfz21_3
          try clear hfz21_4
          try clear hfz21_5
          try clear hfz23_0
          try clear hfz23_1
          try clear hfz23_2
          try clear hfz23_3
          try clear hfz23_4
          try clear hfz23_5
          try clear hfz27_0
          try clear hfz27_1
          try clear hfz27_2
          try clear hfz27_3
          try clear hfz27_4
          try clear hfz27_5
          try clear hfz32_0
          try clear hfz32_1
          try clear hfz32_2
          try clear hfz32_3
          try clear hfz32_4
          try clear hfz32_5
          try clear hfz34_0
          try clear hfz34_1
          try clear hfz34_2
          try clear hfz34_3
          try clear hfz34_4
          try clear hfz34_5
          try clear hfz35_0
          try clear hfz35_1
          try clear hfz35_2
          try clear hfz35_3
          try clear hfz35_4
          try clear hfz35_5
          try clear hfz37_0
          try clear hfz37_1
          try clear hfz37_2
          try clear hfz37_3
          try clear hfz37_4
          try clear hfz37_5
          try clear hfz38_0
          try clear hfz38_1
          try clear hfz38_2
          try clear hfz38_3
          try clear hfz38_4
          try clear hfz38_5
          try clear hfz43_0
          try clear hfz43_1
          try clear hfz43_2
          try clear hfz43_3
          try clear hfz43_4
          try clear hfz43_5
          try clear hfz46_0
          try clear hfz46_1
          try clear hfz46_2
          try clear hfz53_0
          try clear hfz53_1
          try clear hfz53_2
          try clear hfz55_0
          try clear hfz55_1
          try clear hfz55_2
          try clear hfz57_0
          try clear hfz57_1
          try clear hfz57_2
          try clear hfz59_0
          try clear hfz59_1
          try clear hfz59_2
          try clear hfz5_0
          try clear hfz5_1
          try clear hfz5_2
          try clear hfz5_3
          try clear hfz5_4
          try clear hfz5_5
          try clear hfz61_0
          try clear hfz61_1
          try clear hfz61_2
          try clear hfz63_0
          try clear hfz63_1
          try clear hfz63_2
          try clear hfz65_0
          try clear hfz65_1
          try clear hfz65_2
          try clear hfz67_0
          try clear hfz67_1
          try clear hfz67_2
          try clear hfz70_0
          try clear hfz70_1
          try clear hfz70_2
          try clear hx130_0
          try clear hx130_1
          try clear hx130_2
          try clear p1
          try clear p13
          try clear p130
          try clear p2
          try clear q1
          try clear q13
          try clear q130
          obtain ⟨x5_4, rfl, HA, HK4, BK127, BK131, HB⟩ := hrel
          cases gk with
          | zero => exact absurd HA.out (by simp [ya4.l1])
          | succ k4 =>
           have H := HA.out
           clear HA
           simp only [ya4.l1] at H
           by_cases c73 : x5_4 < x3_2
           rotate_left 1
           ·rw [if_neg c73] at H
            have c73b0 : decide (x5_4 < x3_2) = false := decide_eq_false c73
            clear c73
            have H' := Aside0.mk H
            clear H
            go_wp2
            repeat (go_quiet (fail); try go_wp2)
            go_roundg k4
            case measure => have := HJ24.out; have := HK2.out; have := HJ41.out; have := HK4.out; omega
            case rel => exact ⟨(wrap64 (x3_2 + 1)), (by first | rfl | (simp; done) | (simp [*]; done)), H', ⟨by have := HJ24.out; have := HK2.out; have := HJ41.out; have := HK4.out; omega⟩, ⟨by (with_reducible repeat (first | refine ya8 ?_ _ | refine ya9 ?_ | refine blk_alloc ?_ _)); exact BK127.out⟩, ⟨by repeat (first | (with_reducible first | exact HB.out | apply ya2 | apply ya0 | apply ya1 | refine ya6 ?_ GE127.out | refine ya6 ?_ GE131.out) | exact HB.out)⟩⟩
           rw [if_pos c73] at H
           have c73b0 : decide (x5_4 < x3_2) = true := decide_eq_true c73
           clear c73
           by_cases c74 : 0 ≤ x5_4
           rotate_left 1
           ·rw [if_neg c74] at H
            exact absurd H (by simp)
           rw [if_pos c74] at H
           have c74b0 : decide (0 ≤ x5_4) = true := decide_eq_true c74
           clear c74
           by_cases c75 : x5_4 < (l0_3.length : Int)
           rotate_left 1
           ·rw [if_neg c75] at H
            exact absurd H (by simp)
           rw [if_pos c75] at H
           have c75b0 : decide (x5_4 < (l0_3.length : Int)) = true := decide_eq_true c75
           clear c75
           by_cases c76 : ((((rdAt l0_3 x5_4).f0.f0).toList) == ((rdAt l0_3 x3_2).f0.f0).toList && ((((rdAt l0_3 x5_4).f0.f1).toList) == ((rdAt l0_3 x3_2).f0.f1).toList)) = true
           ·rw [if_pos c76] at H
            have c76b0 : ((((rdAt l0_3 x5_4).f0.f0).toList) == ((rdAt l0_3 x3_2).f0.f0).toList && ((((rdAt l0_3 x5_4).f0.f1).toList) == ((rdAt l0_3 x3_2).f0.f1).toList)) = true := c76
            (try (have c76b1 : decide ((((rdAt l0_3 x5_4).f0.f0).toList) = ((rdAt l0_3 x3_2).f0.f0).toList && ((((rdAt l0_3 x5_4).f0.f1).toList) == ((rdAt l0_3 x3_2).f0.f1).toList)) = true := by simpa using c76))
            (try (have c76b2 : ((((rdAt l0_3 x5_4).f0.f0).toList) == ((rdAt l0_3 x3_2).f0.f0).toList && ((((rdAt l0_3 x5_4).f0.f1).toList) == ((rdAt l0_3 x3_2).f0.f1).toList)) = true := by simpa using c76))
            (try (have c76b4 : ((((rdAt l0_3 x5_4).f0.f0).toList) = ((rdAt l0_3 x3_2).f0.f0).toList ∧ (((rdAt l0_3 x5_4).f0.f1).toList) = ((rdAt l0_3 x3_2).f0.f1).toList) = True := eq_true (by simpa using c76b0)))
            clear c76
            obtain rfl := Option.some.inj H
            have hnb77 := NB127_131.out
            have hnc77 := NB131_127.out
            obtain ⟨hcz78_0, hcz78_1, hcz78_2, hcz78_3, hcz78_4, hcz78_5, hfz78_0, hfz78_1, hfz78_2, hfz78_3, hfz78_4, hfz78_5⟩ := bx6 BK127.out
            have p134 : 0 ≤ (x5_4 : Int) := of_decide_eq_true (by first | (with_reducible assumption) | assumption)
            have q134 : x5_4 < (l0_3.length : Int) := of_decide_eq_true (by first | (with_reducible assumption) | assumption)
            obtain ⟨ad134, e134, hx134_0, hx134_1, hx134_2⟩ := atAt HR0_3.out x5_4 p134 q134
            obtain rfl : ad130 = ad134 := (by injection e134)
            replace hx134_0 := cup HB.out hx134_0
            replace hx134_1 := cup HB.out hx134_1
            replace hx134_2 := cup HB.out hx134_2
            replace p134 := eq_true p134
            replace q134 := eq_true q134
            obtain ⟨hcz79_0, hcz79_1, hcz79_2, hfz79_0, hfz79_1, hfz79_2⟩ := bx3 BK131.out
            go_wp2
            repeat (go_quiet (fail); try go_wp2)
            go_ret
            exact ⟨by first | rfl | (simp [yb3, yb2] <;> rfl) | (simp [*, yb3, yb2] <;> rfl), by repeat (first | (with_reducible first | exact HB.out | apply ya2 | apply ya0 | apply ya1 | refine ya6 ?_ GE127.out | refine ya6 ?_ GE131.out) | exact HB.out)⟩
           ·rw [if_neg c76] at H
            have c76b0 : ((((rdAt l0_3 x5_4).f0.f0).toList) == ((rdAt l0_3 x3_2).f0.f0).toList && ((((rdAt l0_3 x5_4).f0.f1).toList) == ((rdAt l0_3 x3_2).f0.f1).toList)) = false := by simpa using c76
            (try (have c76b1 : decide ((((rdAt l0_3 x5_4).f0.f0).toList) = ((rdAt l0_3 x3_2).f0.f0).toList && ((((rdAt l0_3 x5_4).f0.f1).toList) == ((rdAt l0_3 x3_2).f0.f1).toList)) = false := by simpa using c76))
            (try (have c76b2 : ((((rdAt l0_3 x5_4).f0.f0).toList) == ((rdAt l0_3 x3_2).f0.f0).toList && ((((rdAt l0_3 x5_4).f0.f1).toList) == ((rdAt l0_3 x3_2).f0.f1).toList)) = false := by simpa using c76))
            (try (have c76b4 : ((((rdAt l0_3 x5_4).f0.f0).toList) = ((rdAt l0_3 x3_2).f0.f0).toList ∧ (((rdAt l0_3 x5_4).f0.f1).toList) = ((rdAt l0_3 x3_2).f0.f1).toList) = False := eq_false (by simpa using c76b0)))
            (try (have c76b3 : ¬ ((((rdAt l0_3 x5_4).f0.f0).toList) = ((rdAt l0_3 x3_2).f0.f0).toList && ((((rdAt l0_3 x5_4).f0.f1).toList) == ((rdAt l0_3 x3_2).f0.f1).toList)) := by simpa using c76))
            clear c76
            have H' := Aside0.mk H
            clear H
            have hnb80 := NB127_131.out
            have hnc80 := NB131_127.out
            obtain ⟨hcz81_0, hcz81_1, hcz81_2, hcz81_3, hcz81_4, hcz81_5, hfz81_0, hfz81_1, hfz81_2, hfz81_3, hfz81_4, hfz81_5⟩ := bx6 BK127.out
            have p134 : 0 ≤ (x5_4 : Int) := of_decide_eq_true (by first | (with_reducible assumption) | assumption)
            have q134 : x5_4 < (l0_3.length : Int) := of_decide_eq_true (by first | (with_reducible assumption) | assumption)
            obtain ⟨ad134, e134, hx134_0, hx134_1, hx134_2⟩ := atAt HR0_3.out x5_4 p134 q134
            obtain rfl : ad130 = ad134 := (by injection e134)
            replace hx134_0 := cup HB.out hx134_0
            replace hx134_1 := cup HB.out hx134_1
            replace hx134_2 := cup HB.out hx134_2
            replace p134 := eq_true p134
            replace q134 := eq_true q134
            obtain ⟨hcz82_0, hcz82_1, hcz82_2, hfz82_0, hfz82_1, hfz82_2⟩ := bx3 BK131.out
            go_wp2
            repeat (go_quiet (fail); try go_wp2)
            go_roundg k4
            case measure => have := HJ24.out; have := HK2.out; have := HJ41.out; have := HK4.out; omega
            case rel => exact ⟨(wrap64 (x5_4 + 1)), (by first | rfl | (simp; done) | (simp [*]; done)), H', ⟨by have := HJ24.out; have := HK2.out; have := HJ41.out; have := HK4.out; omega⟩, ⟨by (with_reducible repeat (first | refine ya8 ?_ _ | refine ya9 ?_ | refine blk_alloc ?_ _)); exact BK127.out⟩, ⟨by (with_reducible repeat (first | refine ya8 ?_ _ | refine ya9 ?_ | refine blk_alloc ?_ _)); exact BK131.out⟩, ⟨by repeat (first | (with_reducible first | exact HB.out | apply ya2 | apply ya0 | apply ya1 | refine ya6 ?_ GE127.out | refine ya6 ?_ GE131.out) | exact HB.out)⟩⟩
      ·rw [if_neg c40] at H
       have c40b0 : decide (x3_2 < (l0_3.length : Int)) = false := decide_eq_false c40
       clear c40
       have H' := Aside0.mk H
       clear H
       obtain ⟨hcz83_0, hcz83_1, hcz83_2, hcz83_3, hcz83_4, hcz83_5, hfz83_0, hfz83_1, hfz83_2, hfz83_3, hfz83_4, hfz83_5⟩ := bx6 BK127.out
       go_wp2
       repeat (go_quiet (fail); try go_wp2)
       go_loopg [6] k2 (fun kq v6 w' => ∃ (x6_3 : Int), v6 = .int .i64 x6_3 ∧ Aside0 (ya4.l2 kq x6_3 a0_0 a0_1 a0_2 l0_3 l0_4 a0_5 = some r) ∧ Aside0 (kq ≤ k2) ∧ Aside0 (w'.heap[gb127]? = some (.cells #[.int .i64 a0_0, .string a0_1, .string a0_2, (.slice A0_3 l0_3.length c0_3), (.slice A0_4 l0_4.length c0_4), .string a0_5] 27 (0, 0))) ∧ Aside0 (Below w.heap.size w w'))
       case atStart => exact ⟨(0), (by first | rfl | (simp; done) | (simp [*]; done)), H', ⟨Nat.le_refl _⟩, ⟨by (with_reducible repeat (first | refine ya8 ?_ _ | refine ya9 ?_ | refine blk_alloc ?_ _)); exact BK127.out⟩, ⟨by repeat (first | (with_reducible first | exact HB.out | apply ya2 | apply ya0 | apply ya1 | refine ya6 ?_ GE127.out) | exact HB.out)⟩⟩
       case round =>
        clear H'
        try clear p1
        try clear q1
        try clear hx1
        try clear c2
        try clear c2b0
        try clear c2b1
        try clear p2
        try clear c3
        try clear c3b0
        try clear c3b1
        try clear c4
        try clear c5
        try clear c6
        try clear p6
        try clear c7
        try clear c8
        try clear c8b0
        try clear c8b1
        try clear c8b2
        try clear c9
        try clear c9b0
        try clear c9b1
        try clear c9b2
        try clear p13
        try clear q13
        try clear hx13
        try clear c28
        try clear c28b0
        try clear c28b1
        try clear c29
        try clear c29b0
        try clear c29b1
        try clear c31
        try clear c39
        try clear c40
        try clear c40b0
        try clear c41
        try clear c41b0
        try clear c45
        try clear c48
        try clear c50
        try clear c51
        try clear c51b0
        try clear c51b1
        try clear c52
        try clear c58
        try clear c64
        try clear p64
        try clear c69
        try clear c72
        try clear c73
        try clear c73b0
        try clear c74
        try clear c74b0
        try clear c75
        try clear c75b0
        try clear c76
        try clear c76b0
        try clear c76b1
        try clear c76b2
        try clear c77
        try clear c80
        try clear hcz11_0
        try clear hcz11_1
        try clear hcz11_2
        try clear hcz11_3
        try clear hcz11_4
        try clear hcz11_5
        try clear hcz13_0
        try clear hcz13_1
        try clear hcz13_2
        try clear hcz13_3
        try clear hcz13_4
        try clear hcz13_5
        try clear hcz15_0
        try clear hcz15_1
        try clear hcz15_2
        try clear hcz15_3
        try clear hcz15_4
        try clear hcz15_5
        try clear hcz17_0
        try clear hcz17_1
        try clear hcz17_2
        try clear hcz17_3
        try clear hcz17_4
        try clear hcz17_5
        try clear hcz19_0
        try clear hcz19_1
        try clear hcz19_2
        try clear hcz19_3
        try clear hcz19_4
        try clear hcz19_5
        try clear hcz21_0
        try clear hcz21_1
        try clear hcz21_2
        try clear hcz21_3
        try clear hcz21_4
        try clear hcz21_5
        try clear hcz23_0
        try clear hcz23_1
        try clear hcz23_2
        try clear hcz23_3
        try clear hcz23_4
        try clear hcz23_5
        try clear hcz27_0
        try clear hcz27_1
        try clear hcz27_2
        try clear hcz27_3
        try clear hcz27_4
        try clear hcz27_5
        try clear hcz32_0
        try clear hcz32_1
        try clear hcz32_2
        try clear hcz32_3
        try clear hcz32_4
        try clear hcz32_5
        try clear hcz34_0
        try clear hcz34_1
        try clear hcz34_2
        try clear hcz34_3
        try clear hcz34_4
        try clear hcz34_5
        try clear hcz35_0
        try clear hcz35_1
        try clear hcz35_2
        try clear hcz35_3
        try clear hcz35_4
        try clear hcz35_5
        try clear hcz37_0
        try clear hcz37_1
        try clear hcz37_2
        try clear hcz37_3
        try clear hcz37_4
        try clear hcz37_5
        try clear hcz38_0
        try clear hcz38_1
        try clear hcz38_2
        try clear hcz38_3
        try clear hcz38_4
        try clear hcz38_5
        try clear hcz43_0
        try clear hcz43_1
        try clear hcz43_2
        try clear hcz43_3
        try clear hcz43_4
        try clear hcz43_5
        try clear hcz46_0
        try clear hcz46_1
        try clear hcz46_2
        try clear hcz53_0
        try clear hcz53_1
        try clear hcz53_2
        try clear hcz55_0
        try clear hcz55_1
        try clear hcz55_2
        try clear hcz57_0
        try clear hcz57_1
        try clear hcz57_2
        try clear hcz59_0
        try clear hcz59_1
        try clear hcz59_2
        try clear hcz5_0
        try clear hcz5_1
        try clear hcz5_2
        try clear hcz5_3
        try clear hcz5_4
        try clear hcz5_5
        try clear hcz61_0
        try clear hcz61_1
        try clear hcz61_2
        try clear hcz63_0
        try clear hcz63_1
        try clear hcz63_2
        try clear hcz65_0
        try clear hcz65_1
        try clear hcz65_2
        try clear hcz67_0
        try clear hcz67_1
        try clear hcz67_2
        try clear hcz70_0
        try clear hcz70_1
        try clear hcz70_2
        try clear hcz78_0
        try clear hcz78_1
        try clear hcz78_2
        try clear hcz78_3
        try clear hcz78_4
        try clear hcz78_5
        try clear hcz79_0
        try clear hcz79_1
        try clear hcz79_2
        try clear hcz81_0
        try clear hcz81_1
        try clear hcz81_2
        try clear hcz81_3
        try clear hcz81_4
        try clear hcz81_5
        try clear hcz82_0
        try clear hcz82_1
        try clear hcz82_2
        try clear hcz83_0
        try clear hcz83_1
        try clear hcz83_2
        try clear hcz83_3
        try clear hcz83_4
        try clear hcz83_5
        try clear hfz11_0
        try clear hfz11_1
        try clear hfz11_2
        try clear hfz11_3
        try clear hfz11_4
        try clear hfz11_5
        try clear hfz13_0
        try clear hfz13_1
        try clear hfz13_2
        try clear hfz13_3
        try clear hfz13_4
        try clear hfz13_5
        try clear hfz15_0
        try clear hfz15_1
        try clear hfz15_2
        try clear hfz15_3
        try clear hfz15_4
        try clear hfz15_5
        try clear hfz17_0
        try clear hfz17_1
        try clear hfz17_2
        try clear hfz17_3
        try clear hfz17_4
        try clear hfz17_5
        try clear hfz19_0
        try clear hfz19_1
        try clear hfz19_2
        try clear hfz19_3
        try clear hfz19_4
        try clear hfz19_5
        try clear hfz21_0
        try clear hfz21_1
        try clear hfz21_2
        try clear hfz21_3
        try clear hfz21_4
        try clear hfz21_5
        try clear hfz23_0
        try clear hfz23_1
        try clear hfz23_2
        try clear hfz23_3
        try clear hfz23_4
        try clear hfz23_5
        try clear hfz27_0
        try clear hfz27_1
        try clear hfz27_2
        try clear hfz27_3
        try clear hfz27_4
        try clear hfz27_5
        try clear hfz32_0
        try clear hfz32_1
        try clear hfz32_2
        try clear hfz32_3
        try clear hfz32_4
        try clear hfz32_5
        try clear hfz34_0
        try clear hfz34_1
        try clear hfz34_2
        try clear hfz34_3
        try clear hfz34_4
        try clear hfz34_5
        try clear hfz35_0
        try clear hfz35_1
        try clear hfz35_2
        try clear hfz35_3
        try clear hfz35_4
        try clear hfz35_5
        try clear hfz37_0
        try clear hfz37_1
        try clear hfz37_2
        try clear hfz37_3
        try clear hfz37_4
        try clear hfz37_5
        try clear hfz38_0
        try clear hfz38_1
        try clear hfz38_2
        try clear hfz38_3
        try clear hfz38_4
        try clear hfz38_5
        try clear hfz43_0
        try clear hfz43_1
        try clear hfz43_2
        try clear hfz43_3
        try clear hfz43_4
        try clear hfz43_5
        try clear hfz46_0
        try clear hfz46_1
        try clear hfz46_2
        try clear hfz53_0
        try clear hfz53_1
        try clear hfz53_2
        try clear hfz55_0
        try clear hfz55_1
        try clear hfz55_2
        try clear hfz57_0
        try clear hfz57_1
        try clear hfz57_2
        try clear hfz59_0
        try clear hfz59_1
        try clear hfz59_2
        try clear hfz5_0
        try clear hfz5_1
        try clear hfz5_2
        try clear hfz5_3
        try clear hfz5_4
        try clear hfz5_5
        try clear hfz61_0
        try clear hfz61_1
        try clear hfz61_2
        try clear hfz63_0
        try clear hfz63_1
        try clear hfz63_2
        try clear hfz65_0
        try clear hfz65_1
        try clear hfz65_2
        try clear hfz67_0
        try clear hfz67_1
        try clear hfz67_2
        try clear hfz70_0
        try clear hfz70_1
        try clear hfz70_2
        try clear hfz78_0
        try clear hfz78_1
        try clear hfz78_2
        try clear hfz78_3
        try clear hfz78_4
        try clear hfz78_5
        try clear hfz79_0
        try clear hfz79_1
        try clear hfz79_2
        try clear hfz81_0
        try clear hfz81_1
        try clear hfz81_2
        try clear hfz81_3
        try clear hfz81_4
        try clear hfz81_5
        try clear hfz82_0
        try clear hfz82_1
        try clear hfz82_2
        try clear hfz83_0
        try clear hfz83_1
        try clear hfz83_2
        try clear hfz83_3
        try clear hfz83_4
        try clear hfz83_5
        try clear hx130_0
        try clear hx130_1
        try clear hx130_2
        try clear hx134_0
        try clear hx134_1
        try clear hx134_2
        try clear p1
        try clear p13
        try clear p130
        try clear p134
        try clear p2
        try clear q1
        try clear q13
        try clear q130
        try clear q134
        obtain ⟨x6_3, rfl, HA, HK3, BK127, HB⟩ := hrel
        cases gk with
        | zero => exact absurd HA.out (by simp [ya4.l2])
        | succ k3 =>
         have H := HA.out
         clear HA
         simp only [ya4.l2] at H
         by_cases c84 : x6_3 < (l0_4.length : Int)
         ·rw [if_pos c84] at H
          have c84b0 : decide (x6_3 < (l0_4.length : Int)) = true := decide_eq_true c84
          clear c84
          by_cases c85 : 0 ≤ x6_3
          rotate_left 1
          ·rw [if_neg c85] at H
           exact absurd H (by simp)
          rw [if_pos c85] at H
          have c85b0 : decide (0 ≤ x6_3) = true := decide_eq_true c85
          clear c85
          replace H := Option.bind_eq_some_iff.mp H
          obtain ⟨t136, A860, H⟩ := H
          replace H : (if t136 = true then (if x6_3 > 0 then (if ((rdNd l0_4 x6_3).f0) = 2 then (if 0 ≤ (wrap64 (x6_3 - 1)) then (if (wrap64 (x6_3 - 1)) < (l0_4.length : Int) then (if ((rdNd l0_4 (wrap64 (x6_3 - 1))).f0) = 2 then (some false) else (ya4.l2 k3 (wrap64 (x6_3 + 1)) a0_0 a0_1 a0_2 l0_3 l0_4 a0_5)) else (none)) else (none)) else (ya4.l2 k3 (wrap64 (x6_3 + 1)) a0_0 a0_1 a0_2 l0_3 l0_4 a0_5)) else (ya4.l2 k3 (wrap64 (x6_3 + 1)) a0_0 a0_1 a0_2 l0_3 l0_4 a0_5)) else (some false)) = some r := H
          have A86 := Aside0.mk A860
          clear A860
          by_cases c87 : t136 = true
          ·subst c87
           have H1 : (if x6_3 > 0 then (if ((rdNd l0_4 x6_3).f0) = 2 then (if 0 ≤ (wrap64 (x6_3 - 1)) then (if (wrap64 (x6_3 - 1)) < (l0_4.length : Int) then (if ((rdNd l0_4 (wrap64 (x6_3 - 1))).f0) = 2 then (some false) else (ya4.l2 k3 (wrap64 (x6_3 + 1)) a0_0 a0_1 a0_2 l0_3 l0_4 a0_5)) else (none)) else (none)) else (ya4.l2 k3 (wrap64 (x6_3 + 1)) a0_0 a0_1 a0_2 l0_3 l0_4 a0_5)) else (ya4.l2 k3 (wrap64 (x6_3 + 1)) a0_0 a0_1 a0_2 l0_3 l0_4 a0_5)) = some r := by rw [if_pos rfl] at H; exact H
           clear H
           have H := H1
           clear H1
           by_cases c88 : x6_3 > 0
           ·rw [if_pos c88] at H
            have c88b0 : decide (0 < x6_3) = true := decide_eq_true c88
            clear c88
            by_cases c89 : ((rdNd l0_4 x6_3).f0) = 2
            ·rw [if_pos c89] at H
             have c89b0 : (((rdNd l0_4 x6_3).f0) == 2) = true := beq_iff_eq.mpr c89
             have c89b1 : (((rdNd l0_4 x6_3).f0) != 2) = false := bne_eq_false_iff_eq.mpr c89
             clear c89
             obtain ⟨ji90, hji90⟩ : ∃ j_ : Int, (wrap64 (x6_3 - 1)) = j_ := ⟨_, rfl⟩
             replace H : (if 0 ≤ (ji90) then (if (ji90) < (l0_4.length : Int) then (if ((rdNd l0_4 (ji90)).f0) = 2 then (some false) else (ya4.l2 k3 (wrap64 (x6_3 + 1)) a0_0 a0_1 a0_2 l0_3 l0_4 a0_5)) else (none)) else (none)) = some r := by first | (rw [hji90] at H; exact H) | (simp only [hji90] at H ⊢; exact H)
             (try rw [hji90] at A86)
             have hji90w : (IntKind.i64.wrap (x6_3 - 1)) = ji90 := (i64_w _).trans hji90
             by_cases c91 : 0 ≤ (ji90)
             rotate_left 1
             ·rw [if_neg c91] at H
              exact absurd H (by simp)
             rw [if_pos c91] at H
             have c91b0 : decide (0 ≤ (ji90)) = true := decide_eq_true c91
             clear c91
             by_cases c92 : (ji90) < (l0_4.length : Int)
             rotate_left 1
             ·rw [if_neg c92] at H
              exact absurd H (by simp)
             rw [if_pos c92] at H
             have c92b0 : decide ((ji90) < (l0_4.length : Int)) = true := decide_eq_true c92
             clear c92
             by_cases c93 : ((rdNd l0_4 (ji90)).f0) = 2
             ·rw [if_pos c93] at H
              have c93b0 : (((rdNd l0_4 (ji90)).f0) == 2) = true := beq_iff_eq.mpr c93
              have c93b1 : (((rdNd l0_4 (ji90)).f0) != 2) = false := bne_eq_false_iff_eq.mpr c93
              clear c93
              obtain rfl := Option.some.inj H
              obtain ⟨hcz94_0, hcz94_1, hcz94_2, hcz94_3, hcz94_4, hcz94_5, hfz94_0, hfz94_1, hfz94_2, hfz94_3, hfz94_4, hfz94_5⟩ := bx6 BK127.out
              have p135 : 0 ≤ (x6_3 : Int) := of_decide_eq_true (by first | (with_reducible assumption) | assumption)
              have q135 : x6_3 < (l0_4.length : Int) := of_decide_eq_true (by first | (with_reducible assumption) | assumption)
              obtain ⟨ad135, A135_3, c135_3, A135_4, c135_4, e135, hx135_0, hx135_1, hx135_2, hx135_3, hx135_4, hx135_5, hl135_3, hi135_3, hl135_4, hi135_4⟩ := atNd HR0_4.out x6_3 p135 q135
              cases e135
              replace hx135_0 := cup HB.out hx135_0
              replace hx135_1 := cup HB.out hx135_1
              replace hx135_2 := cup HB.out hx135_2
              replace hx135_3 := cup HB.out hx135_3
              replace hx135_4 := cup HB.out hx135_4
              replace hx135_5 := cup HB.out hx135_5
              have HR135_3 := Aside0.mk hi135_3
              have HC135_3 := Aside0.mk hl135_3
              clear hi135_3 hl135_3
              have HR135_4 := Aside0.mk hi135_4
              have HC135_4 := Aside0.mk hl135_4
              clear hi135_4 hl135_4
              replace p135 := eq_true p135
              replace q135 := eq_true q135
              go_wp2_with (first | (go_at_call 71; (with_reducible refine (ih k3 (by have := HJ24.out; have := HK2.out; have := HK3.out; omega) ((rdNd l0_4 x6_3).f0) ((rdNd l0_4 x6_3).f1.f0) ((rdNd l0_4 x6_3).f1.f1) _ _ ((rdNd l0_4 x6_3).f2) _ _ ((rdNd l0_4 x6_3).f3) ((rdNd l0_4 x6_3).f4) true _ ?side1 ?side2 ?side3 ?side4 A86.out).mono ?_); (case side1 => repeat (first | exact (Kd.yc3 HR135_3.out HB.out) | (with_reducible refine Kd.C_alloc ?_ _) | (with_reducible refine Kd.C_drewN ?_ _) | (with_reducible refine Kd.C_drew ?_))); (case side2 => exact HC135_3.out); (case side3 => repeat (first | exact (Kd.yc3 HR135_4.out HB.out) | (with_reducible refine Kd.C_alloc ?_ _) | (with_reducible refine Kd.C_drewN ?_ _) | (with_reducible refine Kd.C_drew ?_))); (case side4 => exact HC135_4.out); rintro e w95 ⟨rfl, hb⟩; have n0_ := Aside0.mk (yb9 (g := gb127) (o := .cells #[.int .i64 a0_0, .string a0_1, .string a0_2, .slice A0_3 l0_3.length c0_3, .slice (some ad135) l0_4.length c0_4, .string a0_5] 27 (0, 0)) (by (with_reducible repeat (first | refine ya8 ?_ _ | refine ya9 ?_ | refine blk_alloc ?_ _)); exact BK127.out) hb); have n1_ := Aside0.mk (ya7 (by repeat (first | (with_reducible first | exact HB.out | apply ya2 | apply ya0 | apply ya1 | refine ya6 ?_ GE127.out) | exact HB.out)) hb); clear BK127; clear HB; have BK127 := n0_; have HB := n1_; clear n0_ n1_; (try clear hb); (try clear hb2); (try clear hk); (try clear hi); obtain ⟨hcz96_0, hcz96_1, hcz96_2, hcz96_3, hcz96_4, hcz96_5, hfz96_0, hfz96_1, hfz96_2, hfz96_3, hfz96_4, hfz96_5⟩ := bx6 BK127.out; have p137 : 0 ≤ (x6_3 : Int) := of_decide_eq_true (by first | (with_reducible assumption) | assumption); have q137 : x6_3 < (l0_4.length : Int) := of_decide_eq_true (by first | (with_reducible assumption) | assumption); obtain ⟨ad137, A137_3, c137_3, A137_4, c137_4, e137, hx137_0, hx137_1, hx137_2, hx137_3, hx137_4, hx137_5, hl137_3, hi137_3, hl137_4, hi137_4⟩ := atNd HR0_4.out x6_3 p137 q137; obtain rfl : ad135 = ad137 := (by injection e137); replace hx137_0 := cup HB.out hx137_0; replace hx137_1 := cup HB.out hx137_1; replace hx137_2 := cup HB.out hx137_2; replace hx137_3 := cup HB.out hx137_3; replace hx137_4 := cup HB.out hx137_4; replace hx137_5 := cup HB.out hx137_5; have HR137_3 := Aside0.mk hi137_3; have HC137_3 := Aside0.mk hl137_3; clear hi137_3 hl137_3; have HR137_4 := Aside0.mk hi137_4; have HC137_4 := Aside0.mk hl137_4; clear hi137_4 hl137_4; replace p137 := eq_true p137; replace q137 := eq_true q137; have p138 : 0 ≤ ((ji90) : Int) := of_decide_eq_true (by first | (with_reducible assumption) | assumption); have q138 : (ji90) < (l0_4.length : Int) := of_decide_eq_true (by first | (with_reducible assumption) | assumption); obtain ⟨ad138, A138_3, c138_3, A138_4, c138_4, e138, hx138_0, hx138_1, hx138_2, hx138_3, hx138_4, hx138_5, hl138_3, hi138_3, hl138_4, hi138_4⟩ := atNd HR0_4.out (ji90) p138 q138; obtain rfl : ad135 = ad138 := (by injection e138); replace hx138_0 := cup HB.out hx138_0; replace hx138_1 := cup HB.out hx138_1; replace hx138_2 := cup HB.out hx138_2; replace hx138_3 := cup HB.out hx138_3; replace hx138_4 := cup HB.out hx138_4; replace hx138_5 := cup HB.out hx138_5; have HR138_3 := Aside0.mk hi138_3; have HC138_3 := Aside0.mk hl138_3; clear hi138_3 hl138_3; have HR138_4 := Aside0.mk hi138_4; have HC138_4 := Aside0.mk hl138_4; clear hi138_4 hl138_4; replace p138 := eq_true p138; replace q138 := eq_true q138))
              repeat (go_quiet (first | (go_at_call 71; (with_reducible refine (ih k3 (by have := HJ24.out; have := HK2.out; have := HK3.out; omega) ((rdNd l0_4 x6_3).f0) ((rdNd l0_4 x6_3).f1.f0) ((rdNd l0_4 x6_3).f1.f1) _ _ ((rdNd l0_4 x6_3).f2) _ _ ((rdNd l0_4 x6_3).f3) ((rdNd l0_4 x6_3).f4) true _ ?side1 ?side2 ?side3 ?side4 A86.out).mono ?_); (case side1 => repeat (first | exact (Kd.yc3 HR135_3.out HB.out) | (with_reducible refine Kd.C_alloc ?_ _) | (with_reducible refine Kd.C_drewN ?_ _) | (with_reducible refine Kd.C_drew ?_))); (case side2 => exact HC135_3.out); (case side3 => repeat (first | exact (Kd.yc3 HR135_4.out HB.out) | (with_reducible refine Kd.C_alloc ?_ _) | (with_reducible refine Kd.C_drewN ?_ _) | (with_reducible refine Kd.C_drew ?_))); (case side4 => exact HC135_4.out); rintro e w95 ⟨rfl, hb⟩; have n0_ := Aside0.mk (yb9 (g := gb127) (o := .cells #[.int .i64 a0_0, .string a0_1, .string a0_2, .slice A0_3 l0_3.length c0_3, .slice (some ad135) l0_4.length c0_4, .string a0_5] 27 (0, 0)) (by (with_reducible repeat (first | refine ya8 ?_ _ | refine ya9 ?_ | refine blk_alloc ?_ _)); exact BK127.out) hb); have n1_ := Aside0.mk (ya7 (by repeat (first | (with_reducible first | exact HB.out | apply ya2 | apply ya0 | apply ya1 | refine ya6 ?_ GE127.out) | exact HB.out)) hb); clear BK127; clear HB; have BK127 := n0_; have HB := n1_; clear n0_ n1_; (try clear hb); (try clear hb2); (try clear hk); (try clear hi); obtain ⟨hcz96_0, hcz96_1, hcz96_2, hcz96_3, hcz96_4, hcz96_5, hfz96_0, hfz96_1, hfz96_2, hfz96_3, hfz96_4, hfz96_5⟩ := bx6 BK127.out; have p137 : 0 ≤ (x6_3 : Int) := of_decide_eq_true (by first | (with_reducible assumption) | assumption); have q137 : x6_3 < (l0_4.length : Int) := of_decide_eq_true (by first | (with_reducible assumption) | assumption); obtain ⟨ad137, A137_3, c137_3, A137_4, c137_4, e137, hx137_0, hx137_1, hx137_2, hx137_3, hx137_4, hx137_5, hl137_3, hi137_3, hl137_4, hi137_4⟩ := atNd HR0_4.out x6_3 p137 q137; obtain rfl : ad135 = ad137 := (by injection e137); replace hx137_0 := cup HB.out hx137_0; replace hx137_1 := cup HB.out hx137_1; replace hx137_2 := cup HB.out hx137_2; replace hx137_3 := cup HB.out hx137_3; replace hx137_4 := cup HB.out hx137_4; replace hx137_5 := cup HB.out hx137_5; have HR137_3 := Aside0.mk hi137_3; have HC137_3 := Aside0.mk hl137_3; clear hi137_3 hl137_3; have HR137_4 := Aside0.mk hi137_4; have HC137_4 := Aside0.mk hl137_4; clear hi137_4 hl137_4; replace p137 := eq_true p137; replace q137 := eq_true q137; have p138 : 0 ≤ ((ji90) : Int) := of_decide_eq_true (by first | (with_reducible assumption) | assumption); have q138 : (ji90) < (l0_4.length : Int) := of_decide_eq_true (by first | (with_reducible assumption) | assumption); obtain ⟨ad138, A138_3, c138_3, A138_4, c138_4, e138, hx138_0, hx138_1, hx138_2, hx138_3, hx138_4, hx138_5, hl138_3, hi138_3, hl138_4, hi138_4⟩ := atNd HR0_4.out (ji90) p138 q138; obtain rfl : ad135 = ad138 := (by injection e138); replace hx138_0 := cup HB.out hx138_0; replace hx138_1 := cup HB.out hx138_1; replace hx138_2 := cup HB.out hx138_2; replace hx138_3 := cup HB.out hx138_3; replace hx138_4 := cup HB.out hx138_4; replace hx138_5 := cup HB.out hx138_5; have HR138_3 := Aside0.mk hi138_3; have HC138_3 := Aside0.mk hl138_3; clear hi138_3 hl138_3; have HR138_4 := Aside0.mk hi138_4; have HC138_4 := Aside0.mk hl138_4; clear hi138_4 hl138_4; replace p138 := eq_true p138; replace q138 := eq_true q138)); try go_wp2_with (first | (go_at_call 71; (with_reducible refine (ih k3 (by have := HJ24.out; have := HK2.out; have := HK3.out; omega) ((rdNd l0_4 x6_3).f0) ((rdNd l0_4 x6_3).f1.f0) ((rdNd l0_4 x6_3).f1.f1) _ _ ((rdNd l0_4 x6_3).f2) _ _ ((rdNd l0_4 x6_3).f3) ((rdNd l0_4 x6_3).f4) true _ ?side1 ?side2 ?side3 ?side4 A86.out).mono ?_); (case side1 => repeat (first | exact (Kd.yc3 HR135_3.out HB.out) | (with_reducible refine Kd.C_alloc ?_ _) | (with_reducible refine Kd.C_drewN ?_ _) | (with_reducible refine Kd.C_drew ?_))); (case side2 => exact HC135_3.out); (case side3 => repeat (first | exact (Kd.yc3 HR135_4.out HB.out) | (with_reducible refine Kd.C_alloc ?_ _) | (with_reducible refine Kd.C_drewN ?_ _) | (with_reducible refine Kd.C_drew ?_))); (case side4 => exact HC135_4.out); rintro e w95 ⟨rfl, hb⟩; have n0_ := Aside0.mk (yb9 (g := gb127) (o := .cells #[.int .i64 a0_0, .string a0_1, .string a0_2, .slice A0_3 l0_3.length c0_3, .slice (some ad135) l0_4.length c0_4, .string a0_5] 27 (0, 0)) (by (with_reducible repeat (first | refine ya8 ?_ _ | refine ya9 ?_ | refine blk_alloc ?_ _)); exact BK127.out) hb); have n1_ := Aside0.mk (ya7 (by repeat (first | (with_reducible first | exact HB.out | apply ya2 | apply ya0 | apply ya1 | refine ya6 ?_ GE127.out) | exact HB.out)) hb); clear BK127; clear HB; have BK127 := n0_; have HB := n1_; clear n0_ n1_; (try clear hb); (try clear hb2); (try clear hk); (try clear hi); obtain ⟨hcz96_0, hcz96_1, hcz96_2, hcz96_3, hcz96_4, hcz96_5, hfz96_0, hfz96_1, hfz96_2, hfz96_3, hfz96_4, hfz96_5⟩ := bx6 BK127.out; have p137 : 0 ≤ (x6_3 : Int) := of_decide_eq_true (by first | (with_reducible assumption) | assumption); have q137 : x6_3 < (l0_4.length : Int) := of_decide_eq_true (by first | (with_reducible assumption) | assumption); obtain ⟨ad137, A137_3, c137_3, A137_4, c137_4, e137, hx137_0, hx137_1, hx137_2, hx137_3, hx137_4, hx137_5, hl137_3, hi137_3, hl137_4, hi137_4⟩ := atNd HR0_4.out x6_3 p137 q137; obtain rfl : ad135 = ad137 := (by injection e137); replace hx137_0 := cup HB.out hx137_0; replace hx137_1 := cup HB.out hx137_1; replace hx137_2 := cup HB.out hx137_2; replace hx137_3 := cup HB.out hx137_3; replace hx137_4 := cup HB.out hx137_4; replace hx137_5 := cup HB.out hx137_5; have HR137_3 := Aside0.mk hi137_3; have HC137_3 := Aside0.mk hl137_3; clear hi137_3 hl137_3; have HR137_4 := Aside0.mk hi137_4; have HC137_4 := Aside0.mk hl137_4; clear hi137_4 hl137_4; replace p137 := eq_true p137; replace q137 := eq_true q137; have p138 : 0 ≤ ((ji90) : Int) := of_decide_eq_true (by first | (with_reducible assumption) | assumption); have q138 : (ji90) < (l0_4.length : Int) := of_decide_eq_true (by first | (with_reducible assumption) | assumption); obtain ⟨ad138, A138_3, c138_3, A138_4, c138_4, e138, hx138_0, hx138_1, hx138_2, hx138_3, hx138_4, hx138_5, hl138_3, hi138_3, hl138_4, hi138_4⟩ := atNd HR0_4.out (ji90) p138 q138; obtain rfl : ad135 = ad138 := (by injection e138); replace hx138_0 := cup HB.out hx138_0; replace hx138_1 := cup HB.out hx138_1; replace hx138_2 := cup HB.out hx138_2; replace hx138_3 := cup HB.out hx138_3; replace hx138_4 := cup HB.out hx138_4; replace hx138_5 := cup HB.out hx138_5; have HR138_3 := Aside0.mk hi138_3; have HC138_3 := Aside0.mk hl138_3; clear hi138_3 hl138_3; have HR138_4 := Aside0.mk hi138_4; have HC138_4 := Aside0.mk hl138_4; clear hi138_4 hl138_4; replace p138 := eq_true p138; replace q138 := eq_true q138)))
              go_ret
              exact ⟨by first | rfl | (simp [yb3, yb2] <;> rfl) | (simp only [← hji90]; first | rfl | (simp [yb3, yb2] <;> rfl)) | (simp [*, yb3, yb2] <;> rfl), by repeat (first | (with_reducible first | exact HB.out | apply ya2 | apply ya0 | apply ya1 | refine ya6 ?_ GE127.out) | exact HB.out)⟩
             ·rw [if_neg c93] at H
              have c93b0 : (((rdNd l0_4 (ji90)).f0) == 2) = false := beq_eq_false_iff_ne.mpr c93
              have c93b1 : (((rdNd l0_4 (ji90)).f0) != 2) = true := bne_iff_ne.mpr c93
              have H' := Aside0.mk H
              clear H
              obtain ⟨hcz97_0, hcz97_1, hcz97_2, hcz97_3, hcz97_4, hcz97_5, hfz97_0, hfz97_1, hfz97_2, hfz97_3, hfz97_4, hfz97_5⟩ := bx6 BK127.out
              have p135 : 0 ≤ (x6_3 : Int) := of_decide_eq_true (by first | (with_reducible assumption) | assumption)
              have q135 : x6_3 < (l0_4.length : Int) := of_decide_eq_true (by first | (with_reducible assumption) | assumption)
              obtain ⟨ad135, A135_3, c135_3, A135_4, c135_4, e135, hx135_0, hx135_1, hx135_2, hx135_3, hx135_4, hx135_5, hl135_3, hi135_3, hl135_4, hi135_4⟩ := atNd HR0_4.out x6_3 p135 q135
              cases e135
              replace hx135_0 := cup HB.out hx135_0
              replace hx135_1 := cup HB.out hx135_1
              replace hx135_2 := cup HB.out hx135_2
              replace hx135_3 := cup HB.out hx135_3
              replace hx135_4 := cup HB.out hx135_4
              replace hx135_5 := cup HB.out hx135_5
              have HR135_3 := Aside0.mk hi135_3
              have HC135_3 := Aside0.mk hl135_3
              clear hi135_3 hl135_3
              have HR135_4 := Aside0.mk hi135_4
              have HC135_4 := Aside0.mk hl135_4
              clear hi135_4 hl135_4
              replace p135 := eq_true p135
              replace q135 := eq_true q135
              go_wp2_with (first | (go_at_call 71; (with_reducible refine (ih k3 (by have := HJ24.out; have := HK2.out; have := HK3.out; omega) ((rdNd l0_4 x6_3).f0) ((rdNd l0_4 x6_3).f1.f0) ((rdNd l0_4 x6_3).f1.f1) _ _ ((rdNd l0_4 x6_3).f2) _ _ ((rdNd l0_4 x6_3).f3) ((rdNd l0_4 x6_3).f4) true _ ?side1 ?side2 ?side3 ?side4 A86.out).mono ?_); (case side1 => repeat (first | exact (Kd.yc3 HR135_3.out HB.out) | (with_reducible refine Kd.C_alloc ?_ _) | (with_reducible refine Kd.C_drewN ?_ _) | (with_reducible refine Kd.C_drew ?_))); (case side2 => exact HC135_3.out); (case side3 => repeat (first | exact (Kd.yc3 HR135_4.out HB.out) | (with_reducible refine Kd.C_alloc ?_ _) | (with_reducible refine Kd.C_drewN ?_ _) | (with_reducible refine Kd.C_drew ?_))); (case side4 => exact HC135_4.out); rintro e w98 ⟨rfl, hb⟩; have n0_ := Aside0.mk (yb9 (g := gb127) (o := .cells #[.int .i64 a0_0, .string a0_1, .string a0_2, .slice A0_3 l0_3.length c0_3, .slice (some ad135) l0_4.length c0_4, .string a0_5] 27 (0, 0)) (by (with_reducible repeat (first | refine ya8 ?_ _ | refine ya9 ?_ | refine blk_alloc ?_ _)); exact BK127.out) hb); have n1_ := Aside0.mk (ya7 (by repeat (first | (with_reducible first | exact HB.out | apply ya2 | apply ya0 | apply ya1 | refine ya6 ?_ GE127.out) | exact HB.out)) hb); clear BK127; clear HB; have BK127 := n0_; have HB := n1_; clear n0_ n1_; (try clear hb); (try clear hb2); (try clear hk); (try clear hi); obtain ⟨hcz99_0, hcz99_1, hcz99_2, hcz99_3, hcz99_4, hcz99_5, hfz99_0, hfz99_1, hfz99_2, hfz99_3, hfz99_4, hfz99_5⟩ := bx6 BK127.out; have p137 : 0 ≤ (x6_3 : Int) := of_decide_eq_true (by first | (with_reducible assumption) | assumption); have q137 : x6_3 < (l0_4.length : Int) := of_decide_eq_true (by first | (with_reducible assumption) | assumption); obtain ⟨ad137, A137_3, c137_3, A137_4, c137_4, e137, hx137_0, hx137_1, hx137_2, hx137_3, hx137_4, hx137_5, hl137_3, hi137_3, hl137_4, hi137_4⟩ := atNd HR0_4.out x6_3 p137 q137; obtain rfl : ad135 = ad137 := (by injection e137); replace hx137_0 := cup HB.out hx137_0; replace hx137_1 := cup HB.out hx137_1; replace hx137_2 := cup HB.out hx137_2; replace hx137_3 := cup HB.out hx137_3; replace hx137_4 := cup HB.out hx137_4; replace hx137_5 := cup HB.out hx137_5; have HR137_3 := Aside0.mk hi137_3; have HC137_3 := Aside0.mk hl137_3; clear hi137_3 hl137_3; have HR137_4 := Aside0.mk hi137_4; have HC137_4 := Aside0.mk hl137_4; clear hi137_4 hl137_4; replace p137 := eq_true p137; replace q137 := eq_true q137; have p138 : 0 ≤ ((ji90) : Int) := of_decide_eq_true (by first | (with_reducible assumption) | assumption); have q138 : (ji90) < (l0_4.length : Int) := of_decide_eq_true (by first | (with_reducible assumption) | assumption); obtain ⟨ad138, A138_3, c138_3, A138_4, c138_4, e138, hx138_0, hx138_1, hx138_2, hx138_3, hx138_4, hx138_5, hl138_3, hi138_3, hl138_4, hi138_4⟩ := atNd HR0_4.out (ji90) p138 q138; obtain rfl : ad135 = ad138 := (by injection e138); replace hx138_0 := cup HB.out hx138_0; replace hx138_1 := cup HB.out hx138_1; replace hx138_2 := cup HB.out hx138_2; replace hx138_3 := cup HB.out hx138_3; replace hx138_4 := cup HB.out hx138_4; replace hx138_5 := cup HB.out hx138_5; have HR138_3 := Aside0.mk hi138_3; have HC138_3 := Aside0.mk hl138_3; clear hi138_3 hl138_3; have HR138_4 := Aside0.mk hi138_4; have HC138_4 := Aside0.mk hl138_4; clear hi138_4 hl138_4; replace p138 := eq_true p138; replace q138 := eq_true q138))
              repeat (go_quiet (first | (go_at_call 71; (with_reducible refine (ih k3 (by have := HJ24.out; have := HK2.out; have := HK3.out; omega) ((rdNd l0_4 x6_3).f0) ((rdNd l0_4 x6_3).f1.f0) ((rdNd l0_4 x6_3).f1.f1) _ _ ((rdNd l0_4 x6_3).f2) _ _ ((rdNd l0_4 x6_3).f3) ((rdNd l0_4 x6_3).f4) true _ ?side1 ?side2 ?side3 ?side4 A86.out).mono ?_); (case side1 => repeat (first | exact (Kd.yc3 HR135_3.out HB.out) | (with_reducible refine Kd.C_alloc ?_ _) | (with_reducible refine Kd.C_drewN ?_ _) | (with_reducible refine Kd.C_drew ?_))); (case side2 => exact HC135_3.out); (case side3 => repeat (first | exact (Kd.yc3 HR135_4.out HB.out) | (with_reducible refine Kd.C_alloc ?_ _) | (with_reducible refine Kd.C_drewN ?_ _) | (with_reducible refine Kd.C_drew ?_))); (case side4 => exact HC135_4.out); rintro e w98 ⟨rfl, hb⟩; have n0_ := Aside0.mk (yb9 (g := gb127) (o := .cells #[.int .i64 a0_0, .string a0_1, .string a0_2, .slice A0_3 l0_3.length c0_3, .slice (some ad135) l0_4.length c0_4, .string a0_5] 27 (0, 0)) (by (with_reducible repeat (first | refine ya8 ?_ _ | refine ya9 ?_ | refine blk_alloc ?_ _)); exact BK127.out) hb); have n1_ := Aside0.mk (ya7 (by repeat (first | (with_reducible first | exact HB.out | apply ya2 | apply ya0 | apply ya1 | refine ya6 ?_ GE127.out) | exact HB.out)) hb); clear BK127; clear HB; have BK127 := n0_; have HB := n1_; clear n0_ n1_; (try clear hb); (try clear hb2); (try clear hk); (try clear hi); obtain ⟨hcz99_0, hcz99_1, hcz99_2, hcz99_3, hcz99_4, hcz99_5, hfz99_0, hfz99_1, hfz99_2, hfz99_3, hfz99_4, hfz99_5⟩ := bx6 BK127.out; have p137 : 0 ≤ (x6_3 : Int) := of_decide_eq_true (by first | (with_reducible assumption) | assumption); have q137 : x6_3 < (l0_4.length : Int) := of_decide_eq_true (by first | (with_reducible assumption) | assumption); obtain ⟨ad137, A137_3, c137_3, A137_4, c137_4, e137, hx137_0, hx137_1, hx137_2, hx137_3, hx137_4, hx137_5, hl137_3, hi137_3, hl137_4, hi137_4⟩ := atNd HR0_4.out x6_3 p137 q137; obtain rfl : ad135 = ad137 := (by injection e137); replace hx137_0 := cup HB.out hx137_0; replace hx137_1 := cup HB.out hx137_1; replace hx137_2 := cup HB.out hx137_2; replace hx137_3 := cup HB.out hx137_3; replace hx137_4 := cup HB.out hx137_4; replace hx137_5 := cup HB.out hx137_5; have HR137_3 := Aside0.mk hi137_3; have HC137_3 := Aside0.mk hl137_3; clear hi137_3 hl137_3; have HR137_4 := Aside0.mk hi137_4; have HC137_4 := Aside0.mk hl137_4; clear hi137_4 hl137_4; replace p137 := eq_true p137; replace q137 := eq_true q137; have p138 : 0 ≤ ((ji90) : Int) := of_decide_eq_true (by first | (with_reducible assumption) | assumption); have q138 : (ji90) < (l0_4.length : Int) := of_decide_eq_true (by first | (with_reducible assumption) | assumption); obtain ⟨ad138, A138_3, c138_3, A138_4, c138_4, e138, hx138_0, hx138_1, hx138_2, hx138_3, hx138_4, hx138_5, hl138_3, hi138_3, hl138_4, hi138_4⟩ := atNd HR0_4.out (ji90) p138 q138; obtain rfl : ad135 = ad138 := (by injection e138); replace hx138_0 := cup HB.out hx138_0; replace hx138_1 := cup HB.out hx138_1; replace hx138_2 := cup HB.out hx138_2; replace hx138_3 := cup HB.out hx138_3; replace hx138_4 := cup HB.out hx138_4; replace hx138_5 := cup HB.out hx138_5; have HR138_3 := Aside0.mk hi138_3; have HC138_3 := Aside0.mk hl138_3; clear hi138_3 hl138_3; have HR138_4 := Aside0.mk hi138_4; have HC138_4 := Aside0.mk hl138_4; clear hi138_4 hl138_4; replace p138 := eq_true p138; replace q138 := eq_true q138)); try go_wp2_with (first | (go_at_call 71; (with_reducible refine (ih k3 (by have := HJ24.out; have := HK2.out; have := HK3.out; omega) ((rdNd l0_4 x6_3).f0) ((rdNd l0_4 x6_3).f1.f0) ((rdNd l0_4 x6_3).f1.f1) _ _ ((rdNd l0_4 x6_3).f2) _ _ ((rdNd l0_4 x6_3).f3) ((rdNd l0_4 x6_3).f4) true _ ?side1 ?side2 ?side3 ?side4 A86.out).mono ?_); (case side1 => repeat (first | exact (Kd.yc3 HR135_3.out HB.out) | (with_reducible refine Kd.C_alloc ?_ _) | (with_reducible refine Kd.C_drewN ?_ _) | (with_reducible refine Kd.C_drew ?_))); (case side2 => exact HC135_3.out); (case side3 => repeat (first | exact (Kd.yc3 HR135_4.out HB.out) | (with_reducible refine Kd.C_alloc ?_ _) | (with_reducible refine Kd.C_drewN ?_ _) | (with_reducible refine Kd.C_drew ?_))); (case side4 => exact HC135_4.out); rintro e w98 ⟨rfl, hb⟩; have n0_ := Aside0.mk (yb9 (g := gb127) (o := .cells #[.int .i64 a0_0, .string a0_1, .string a0_2, .slice A0_3 l0_3.length c0_3, .slice (some ad135) l0_4.length c0_4, .string a0_5] 27 (0, 0)) (by (with_reducible repeat (first | refine ya8 ?_ _ | refine ya9 ?_ | refine blk_alloc ?_ _)); exact BK127.out) hb); have n1_ := Aside0.mk (ya7 (by repeat (first | (with_reducible first | exact HB.out | apply ya2 | apply ya0 | apply ya1 | refine ya6 ?_ GE127.out) | exact HB.out)) hb); clear BK127; clear HB; have BK127 := n0_; have HB := n1_; clear n0_ n1_; (try clear hb); (try clear hb2); (try clear hk); (try clear hi); obtain ⟨hcz99_0, hcz99_1, hcz99_2, hcz99_3, hcz99_4, hcz99_5, hfz99_0, hfz99_1, hfz99_2, hfz99_3, hfz99_4, hfz99_5⟩ := bx6 BK127.out; have p137 : 0 ≤ (x6_3 : Int) := of_decide_eq_true (by first | (with_reducible assumption) | assumption); have q137 : x6_3 < (l0_4.length : Int) := of_decide_eq_true (by first | (with_reducible assumption) | assumption); obtain ⟨ad137, A137_3, c137_3, A137_4, c137_4, e137, hx137_0, hx137_1, hx137_2, hx137_3, hx137_4, hx137_5, hl137_3, hi137_3, hl137_4, hi137_4⟩ := atNd HR0_4.out x6_3 p137 q137; obtain rfl : ad135 = ad137 := (by injection e137); replace hx137_0 := cup HB.out hx137_0; replace hx137_1 := cup HB.out hx137_1; replace hx137_2 := cup HB.out hx137_2; replace hx137_3 := cup HB.out hx137_3; replace hx137_4 := cup HB.out hx137_4; replace hx137_5 := cup HB.out hx137_5; have HR137_3 := Aside0.mk hi137_3; have HC137_3 := Aside0.mk hl137_3; clear hi137_3 hl137_3; have HR137_4 := Aside0.mk hi137_4; have HC137_4 := Aside0.mk hl137_4; clear hi137_4 hl137_4; replace p137 := eq_true p137; replace q137 := eq_true q137; have p138 : 0 ≤ ((ji90) : Int) := of_decide_eq_true (by first | (with_reducible assumption) | assumption); have q138 : (ji90) < (l0_4.length : Int) := of_decide_eq_true (by first | (with_reducible assumption) | assumption); obtain ⟨ad138, A138_3, c138_3, A138_4, c138_4, e138, hx138_0, hx138_1, hx138_2, hx138_3, hx138_4, hx138_5, hl138_3, hi138_3, hl138_4, hi138_4⟩ := atNd HR0_4.out (ji90) p138 q138; obtain rfl : ad135 = ad138 := (by injection e138); replace hx138_0 := cup HB.out hx138_0; replace hx138_1 := cup HB.out hx138_1; replace hx138_2 := cup HB.out hx138_2; replace hx138_3 := cup HB.out hx138_3; replace hx138_4 := cup HB.out hx138_4; replace hx138_5 := cup HB.out hx138_5; have HR138_3 := Aside0.mk hi138_3; have HC138_3 := Aside0.mk hl138_3; clear hi138_3 hl138_3; have HR138_4 := Aside0.mk hi138_4; have HC138_4 := Aside0.mk hl138_4; clear hi138_4 hl138_4; replace p138 := eq_true p138; replace q138 := eq_true q138)))
              go_roundg k3
              case measure => have := HJ24.out; have := HK2.out; have := HK3.out; omega
              case rel => exact ⟨(wrap64 (x6_3 + 1)), (by first | rfl | (simp; done) | (simp [*]; done)), H', ⟨by have := HJ24.out; have := HK2.out; have := HK3.out; omega⟩, ⟨by (with_reducible repeat (first | refine ya8 ?_ _ | refine ya9 ?_ | refine blk_alloc ?_ _)); exact BK127.out⟩, ⟨by repeat (first | (with_reducible first | exact HB.out | apply ya2 | apply ya0 | apply ya1 | refine ya6 ?_ GE127.out) | exact HB.out)⟩⟩
            ·rw [if_neg c89] at H
             have c89b0 : (((rdNd l0_4 x6_3).f0) == 2) = false := beq_eq_false_iff_ne.mpr c89
             have c89b1 : (((rdNd l0_4 x6_3).f0) != 2) = true := bne_iff_ne.mpr c89
             have H' := Aside0.mk H
             clear H
             obtain ⟨hcz100_0, hcz100_1, hcz100_2, hcz100_3, hcz100_4, hcz100_5, hfz100_0, hfz100_1, hfz100_2, hfz100_3, hfz100_4, hfz100_5⟩ := bx6 BK127.out
             have p135 : 0 ≤ (x6_3 : Int) := of_decide_eq_true (by first | (with_reducible assumption) | assumption)
             have q135 : x6_3 < (l0_4.length : Int) := of_decide_eq_true (by first | (with_reducible assumption) | assumption)
             obtain ⟨ad135, A135_3, c135_3, A135_4, c135_4, e135, hx135_0, hx135_1, hx135_2, hx135_3, hx135_4, hx135_5, hl135_3, hi135_3, hl135_4, hi135_4⟩ := atNd HR0_4.out x6_3 p135 q135
             cases e135
             replace hx135_0 := cup HB.out hx135_0
             replace hx135_1 := cup HB.out hx135_1
             replace hx135_2 := cup HB.out hx135_2
             replace hx135_3 := cup HB.out hx135_3
             replace hx135_4 := cup HB.out hx135_4
             replace hx135_5 := cup HB.out hx135_5
             have HR135_3 := Aside0.mk hi135_3
             have HC135_3 := Aside0.mk hl135_3
             clear hi135_3 hl135_3
             have HR135_4 := Aside0.mk hi135_4
             have HC135_4 := Aside0.mk hl135_4
             clear hi135_4 hl135_4
             replace p135 := eq_true p135
             replace q135 := eq_true q135
             go_wp2_with (first | (go_at_call 71; (with_reducible refine (ih k3 (by have := HJ24.out; have := HK2.out; have := HK3.out; omega) ((rdNd l0_4 x6_3).f0) ((rdNd l0_4 x6_3).f1.f0) ((rdNd l0_4 x6_3).f1.f1) _ _ ((rdNd l0_4 x6_3).f2) _ _ ((rdNd l0_4 x6_3).f3) ((rdNd l0_4 x6_3).f4) true _ ?side1 ?side2 ?side3 ?side4 A86.out).mono ?_); (case side1 => repeat (first | exact (Kd.yc3 HR135_3.out HB.out) | (with_reducible refine Kd.C_alloc ?_ _) | (with_reducible refine Kd.C_drewN ?_ _) | (with_reducible refine Kd.C_drew ?_))); (case side2 => exact HC135_3.out); (case side3 => repeat (first | exact (Kd.yc3 HR135_4.out HB.out) | (with_reducible refine Kd.C_alloc ?_ _) | (with_reducible refine Kd.C_drewN ?_ _) | (with_reducible refine Kd.C_drew ?_))); (case side4 => exact HC135_4.out); rintro e w101 ⟨rfl, hb⟩; have n0_ := Aside0.mk (yb9 (g := gb127) (o := .cells #[.int .i64 a0_0, .string a0_1, .string a0_2, .slice A0_3 l0_3.length c0_3, .slice (some ad135) l0_4.length c0_4, .string a0_5] 27 (0, 0)) (by (with_reducible repeat (first | refine ya8 ?_ _ | refine ya9 ?_ | refine blk_alloc ?_ _)); exact BK127.out) hb); have n1_ := Aside0.mk (ya7 (by repeat (first | (with_reducible first | exact HB.out | apply ya2 | apply ya0 | apply ya1 | refine ya6 ?_ GE127.out) | exact HB.out)) hb); clear BK127; clear HB; have BK127 := n0_; have HB := n1_; clear n0_ n1_; (try clear hb); (try clear hb2); (try clear hk); (try clear hi); obtain ⟨hcz102_0, hcz102_1, hcz102_2, hcz102_3, hcz102_4, hcz102_5, hfz102_0, hfz102_1, hfz102_2, hfz102_3, hfz102_4, hfz102_5⟩ := bx6 BK127.out; have p137 : 0 ≤ (x6_3 : Int) := of_decide_eq_true (by first | (with_reducible assumption) | assumption); have q137 : x6_3 < (l0_4.length : Int) := of_decide_eq_true (by first | (with_reducible assumption) | assumption); obtain ⟨ad137, A137_3, c137_3, A137_4, c137_4, e137, hx137_0, hx137_1, hx137_2, hx137_3, hx137_4, hx137_5, hl137_3, hi137_3, hl137_4, hi137_4⟩ := atNd HR0_4.out x6_3 p137 q137; obtain rfl : ad135 = ad137 := (by injection e137); replace hx137_0 := cup HB.out hx137_0; replace hx137_1 := cup HB.out hx137_1; replace hx137_2 := cup HB.out hx137_2; replace hx137_3 := cup HB.out hx137_3; replace hx137_4 := cup HB.out hx137_4; replace hx137_5 := cup HB.out hx137_5; have HR137_3 := Aside0.mk hi137_3; have HC137_3 := Aside0.mk hl137_3; clear hi137_3 hl137_3; have HR137_4 := Aside0.mk hi137_4; have HC137_4 := Aside0.mk hl137_4; clear hi137_4 hl137_4; replace p137 := eq_true p137; replace q137 := eq_true q137))
             repeat (go_quiet (first | (go_at_call 71; (with_reducible refine (ih k3 (by have := HJ24.out; have := HK2.out; have := HK3.out; omega) ((rdNd l0_4 x6_3).f0) ((rdNd l0_4 x6_3).f1.f0) ((rdNd l0_4 x6_3).f1.f1) _ _ ((rdNd l0_4 x6_3).f2) _ _ ((rdNd l0_4 x6_3).f3) ((rdNd l0_4 x6_3).f4) true _ ?side1 ?side2 ?side3 ?side4 A86.out).mono ?_); (case side1 => repeat (first | exact (Kd.yc3 HR135_3.out HB.out) | (with_reducible refine Kd.C_alloc ?_ _) | (with_reducible refine Kd.C_drewN ?_ _) | (with_reducible refine Kd.C_drew ?_))); (case side2 => exact HC135_3.out); (case side3 => repeat (first | exact (Kd.yc3 HR135_4.out HB.out) | (with_reducible refine Kd.C_alloc ?_ _) | (with_reducible refine Kd.C_drewN ?_ _) | (with_reducible refine Kd.C_drew ?_))); (case side4 => exact HC135_4.out); rintro e w101 ⟨rfl, hb⟩; have n0_ := Aside0.mk (yb9 (g := gb127) (o := .cells #[.int .i64 a0_0, .string a0_1, .string a0_2, .slice A0_3 l0_3.length c0_3, .slice (some ad135) l0_4.length c0_4, .string a0_5] 27 (0, 0)) (by (with_reducible repeat (first | refine ya8 ?_ _ | refine ya9 ?_ | refine blk_alloc ?_ _)); exact BK127.out) hb); have n1_ := Aside0.mk (ya7 (by repeat (first | (with_reducible first | exact HB.out | apply ya2 | apply ya0 | apply ya1 | refine ya6 ?_ GE127.out) | exact HB.out)) hb); clear BK127; clear HB; have BK127 := n0_; have HB := n1_; clear n0_ n1_; (try clear hb); (try clear hb2); (try clear hk); (try clear hi); obtain ⟨hcz102_0, hcz102_1, hcz102_2, hcz102_3, hcz102_4, hcz102_5, hfz102_0, hfz102_1, hfz102_2, hfz102_3, hfz102_4, hfz102_5⟩ := bx6 BK127.out; have p137 : 0 ≤ (x6_3 : Int) := of_decide_eq_true (by first | (with_reducible assumption) | assumption); have q137 : x6_3 < (l0_4.length : Int) := of_decide_eq_true (by first | (with_reducible assumption) | assumption); obtain ⟨ad137, A137_3, c137_3, A137_4, c137_4, e137, hx137_0, hx137_1, hx137_2, hx137_3, hx137_4, hx137_5, hl137_3, hi137_3, hl137_4, hi137_4⟩ := atNd HR0_4.out x6_3 p137 q137; obtain rfl : ad135 = ad137 := (by injection e137); replace hx137_0 := cup HB.out hx137_0; replace hx137_1 := cup HB.out hx137_1; replace hx137_2 := cup HB.out hx137_2; replace hx137_3 := cup HB.out hx137_3; replace hx137_4 := cup HB.out hx137_4; replace hx137_5 := cup HB.out hx137_5; have HR137_3 := Aside0.mk hi137_3; have HC137_3 := Aside0.mk hl137_3; clear hi137_3 hl137_3; have HR137_4 := Aside0.mk hi137_4; have HC137_4 := Aside0.mk hl137_4; clear hi137_4 hl137_4; replace p137 := eq_true p137; replace q137 := eq_true q137)); try go_wp2_with (first | (go_at_call 71; (with_reducible refine (ih k3 (by have := HJ24.out; have := HK2.out; have := HK3.out; omega) ((rdNd l0_4 x6_3).f0) ((rdNd l0_4 x6_3).f1.f0) ((rdNd l0_4 x6_3).f1.f1) _ _ ((rdNd l0_4 x6_3).f2) _ _ ((rdNd l0_4 x6_3).f3) ((rdNd l0_4 x6_3).f4) true _ ?side1 ?side2 ?side3 ?side4 A86.out).mono ?_); (case side1 => repeat (first | exact (Kd.yc3 HR135_3.out HB.out) | (with_reducible refine Kd.C_alloc ?_ _) | (with_reducible refine Kd.C_drewN ?_ _) | (with_reducible refine Kd.C_drew ?_))); (case side2 => exact HC135_3.out); (case side3 => repeat (first | exact (Kd.yc3 HR135_4.out HB.out) | (with_reducible refine Kd.C_alloc ?_ _) | (with_reducible refine Kd.C_drewN ?_ _) | (with_reducible refine Kd.C_drew ?_))); (case side4 => exact HC135_4.out); rintro e w101 ⟨rfl, hb⟩; have n0_ := Aside0.mk (yb9 (g := gb127) (o := .cells #[.int .i64 a0_0, .string a0_1, .string a0_2, .slice A0_3 l0_3.length c0_3, .slice (some ad135) l0_4.length c0_4, .string a0_5] 27 (0, 0)) (by (with_reducible repeat (first | refine ya8 ?_ _ | refine ya9 ?_ | refine blk_alloc ?_ _)); exact BK127.out) hb); have n1_ := Aside0.mk (ya7 (by repeat (first | (with_reducible first | exact HB.out | apply ya2 | apply ya0 | apply ya1 | refine ya6 ?_ GE127.out) | exact HB.out)) hb); clear BK127; clear HB; have BK127 := n0_; have HB := n1_; clear n0_ n1_; (try clear hb); (try clear hb2); (try clear hk); (try clear hi); obtain ⟨hcz102_0, hcz102_1, hcz102_2, hcz102_3, hcz102_4, hcz102_5, hfz102_0, hfz102_1, hfz102_2, hfz102_3, hfz102_4, hfz102_5⟩ := bx6 BK127.out; have p137 : 0 ≤ (x6_3 : Int) := of_decide_eq_true (by first | (with_reducible assumption) | assumption); have q137 : x6_3 < (l0_4.length : Int) := of_decide_eq_true (by first | (with_reducible assumption) | assumption); obtain ⟨ad137, A137_3, c137_3, A137_4, c137_4, e137, hx137_0, hx137_1, hx137_2, hx137_3, hx137_4, hx137_5, hl137_3, hi137_3, hl137_4, hi137_4⟩ := atNd HR0_4.out x6_3 p137 q137; obtain rfl : ad135 = ad137 := (by injection e137); replace hx137_0 := cup HB.out hx137_0; replace hx137_1 := cup HB.out hx137_1; replace hx137_2 := cup HB.out hx137_2; replace hx137_3 := cup HB.out hx137_3; replace hx137_4 := cup HB.out hx137_4; replace hx137_5 := cup HB.out hx137_5; have HR137_3 := Aside0.mk hi137_3; have HC137_3 := Aside0.mk hl137_3; clear hi137_3 hl137_3; have HR137_4 := Aside0.mk hi137_4; have HC137_4 := Aside0.mk hl137_4; clear hi137_4 hl137_4; replace p137 := eq_true p137; replace q137 := eq_true q137)))
             go_roundg k3
             case measure => have := HJ24.out; have := HK2.out; have := HK3.out; omega
             case rel => exact ⟨(wrap64 (x6_3 + 1)), (by first | rfl | (simp; done) | (simp [*]; done)), H', ⟨by have := HJ24.out; have := HK2.out; have := HK3.out; omega⟩, ⟨by (with_reducible repeat (first | refine ya8 ?_ _ | refine ya9 ?_ | refine blk_alloc ?_ _)); exact BK127.out⟩, ⟨by repeat (first | (with_reducible first | exact HB.out | apply ya2 | apply ya0 | apply ya1 | refine ya6 ?_ GE127.out) | exact HB.out)⟩⟩
           ·rw [if_neg c88] at H
            have c88b0 : decide (0 < x6_3) = false := decide_eq_false c88
            clear c88
            have H' := Aside0.mk H
            clear H
            obtain ⟨hcz103_0, hcz103_1, hcz103_2, hcz103_3, hcz103_4, hcz103_5, hfz103_0, hfz103_1, hfz103_2, hfz103_3, hfz103_4, hfz103_5⟩ := bx6 BK127.out
            have p135 : 0 ≤ (x6_3 : Int) := of_decide_eq_true (by first | (with_reducible assumption) | assumption)
            have q135 : x6_3 < (l0_4.length : Int) := of_decide_eq_true (by first | (with_reducible assumption) | assumption)
            obtain ⟨ad135, A135_3, c135_3, A135_4, c135_4, e135, hx135_0, hx135_1, hx135_2, hx135_3, hx135_4, hx135_5, hl135_3, hi135_3, hl135_4, hi135_4⟩ := atNd HR0_4.out x6_3 p135 q135
            cases e135
            replace hx135_0 := cup HB.out hx135_0
            replace hx135_1 := cup HB.out hx135_1
            replace hx135_2 := cup HB.out hx135_2
            replace hx135_3 := cup HB.out hx135_3
            replace hx135_4 := cup HB.out hx135_4
            replace hx135_5 := cup HB.out hx135_5
            have HR135_3 := Aside0.mk hi135_3
            have HC135_3 := Aside0.mk hl135_3
            clear hi135_3 hl135_3
            have HR135_4 := Aside0.mk hi135_4
            have HC135_4 := Aside0.mk hl135_4
            clear hi135_4 hl135_4
            replace p135 := eq_true p135
            replace q135 := eq_true q135
            go_wp2_with (first | (go_at_call 71; (with_reducible refine (ih k3 (by have := HJ24.out; have := HK2.out; have := HK3.out; omega) ((rdNd l0_4 x6_3).f0) ((rdNd l0_4 x6_3).f1.f0) ((rdNd l0_4 x6_3).f1.f1) _ _ ((rdNd l0_4 x6_3).f2) _ _ ((rdNd l0_4 x6_3).f3) ((rdNd l0_4 x6_3).f4) true _ ?side1 ?side2 ?side3 ?side4 A86.out).mono ?_); (case side1 => repeat (first | exact (Kd.yc3 HR135_3.out HB.out) | (with_reducible refine Kd.C_alloc ?_ _) | (with_reducible refine Kd.C_drewN ?_ _) | (with_reducible refine Kd.C_drew ?_))); (case side2 => exact HC135_3.out); (case side3 => repeat (first | exact (Kd.yc3 HR135_4.out HB.out) | (with_reducible refine Kd.C_alloc ?_ _) | (with_reducible refine Kd.C_drewN ?_ _) | (with_reducible refine Kd.C_drew ?_))); (case side4 => exact HC135_4.out); rintro e w104 ⟨rfl, hb⟩; have n0_ := Aside0.mk (yb9 (g := gb127) (o := .cells #[.int .i64 a0_0, .string a0_1, .string a0_2, .slice A0_3 l0_3.length c0_3, .slice (some ad135) l0_4.length c0_4, .string a0_5] 27 (0, 0)) (by (with_reducible repeat (first | refine ya8 ?_ _ | refine ya9 ?_ | refine blk_alloc ?_ _)); exact BK127.out) hb); have n1_ := Aside0.mk (ya7 (by repeat (first | (with_reducible first | exact HB.out | apply ya2 | apply ya0 | apply ya1 | refine ya6 ?_ GE127.out) | exact HB.out)) hb); clear BK127; clear HB; have BK127 := n0_; have HB := n1_; clear n0_ n1_; (try clear hb); (try clear hb2); (try clear hk); (try clear hi)))
            repeat (go_quiet (first | (go_at_call 71; (with_reducible refine (ih k3 (by have := HJ24.out; have := HK2.out; have := HK3.out; omega) ((rdNd l0_4 x6_3).f0) ((rdNd l0_4 x6_3).f1.f0) ((rdNd l0_4 x6_3).f1.f1) _ _ ((rdNd l0_4 x6_3).f2) _ _ ((rdNd l0_4 x6_3).f3) ((rdNd l0_4 x6_3).f4) true _ ?side1 ?side2 ?side3 ?side4 A86.out).mono ?_); (case side1 => repeat (first | exact (Kd.yc3 HR135_3.out HB.out) | (with_reducible refine Kd.C_alloc ?_ _) | (with_reducible refine Kd.C_drewN ?_ _) | (with_reducible refine Kd.C_drew ?_))); (case side2 => exact HC135_3.out); (case side3 => repeat (first | exact (Kd.yc3 HR135_4.out HB.out) | (with_reducible refine Kd.C_alloc ?_ _) | (with_reducible refine Kd.C_drewN ?_ _) | (with_reducible refine Kd.C_drew ?_))); (case side4 => exact HC135_4.out); rintro e w104 ⟨rfl, hb⟩; have n0_ := Aside0.mk (yb9 (g := gb127) (o := .cells #[.int .i64 a0_0, .string a0_1, .string a0_2, .slice A0_3 l0_3.length c0_3, .slice (some ad135) l0_4.length c0_4, .string a0_5] 27 (0, 0)) (by (with_reducible repeat (first | refine ya8 ?_ _ | refine ya9 ?_ | refine blk_alloc ?_ _)); exact BK127.out) hb); have n1_ := Aside0.mk (ya7 (by repeat (first | (with_reducible first | exact HB.out | apply ya2 | apply ya0 | apply ya1 | refine ya6 ?_ GE127.out) | exact HB.out)) hb); clear BK127; clear HB; have BK127 := n0_; have HB := n1_; clear n0_ n1_; (try clear hb); (try clear hb2); (try clear hk); (try clear hi))); try go_wp2_with (first | (go_at_call 71; (with_reducible refine (ih k3 (by have := HJ24.out; have := HK2.out; have := HK3.out; omega) ((rdNd l0_4 x6_3).f0) ((rdNd l0_4 x6_3).f1.f0) ((rdNd l0_4 x6_3).f1.f1) _ _ ((rdNd l0_4 x6_3).f2) _ _ ((rdNd l0_4 x6_3).f3) ((rdNd l0_4 x6_3).f4) true _ ?side1 ?side2 ?side3 ?side4 A86.out).mono ?_); (case side1 => repeat (first | exact (Kd.yc3 HR135_3.out HB.out) | (with_reducible refine Kd.C_alloc ?_ _) | (with_reducible refine Kd.C_drewN ?_ _) | (with_reducible refine Kd.C_drew ?_))); (case side2 => exact HC135_3.out); (case side3 => repeat (first | exact (Kd.yc3 HR135_4.out HB.out) | (with_reducible refine Kd.C_alloc ?_ _) | (with_reducible refine Kd.C_drewN ?_ _) | (with_reducible refine Kd.C_drew ?_))); (case side4 => exact HC135_4.out); rintro e w104 ⟨rfl, hb⟩; have n0_ := Aside0.mk (yb9 (g := gb127) (o := .cells #[.int .i64 a0_0, .string a0_1, .string a0_2, .slice A0_3 l0_3.length c0_3, .slice (some ad135) l0_4.length c0_4, .string a0_5] 27 (0, 0)) (by (with_reducible repeat (first | refine ya8 ?_ _ | refine ya9 ?_ | refine blk_alloc ?_ _)); exact BK127.out) hb); have n1_ := Aside0.mk (ya7 (by repeat (first | (with_reducible first | exact HB.out | apply ya2 | apply ya0 | apply ya1 | refine ya6 ?_ GE127.out) | exact HB.out)) hb); clear BK127; clear HB; have BK127 := n0_; have HB := n1_; clear n0_ n1_; (try clear hb); (try clear hb2); (try clear hk); (try clear hi))))
            go_roundg k3
            case measure => have := HJ24.out; have := HK2.out; have := HK3.out; omega
            case rel => exact ⟨(wrap64 (x6_3 + 1)), (by first | rfl | (simp; done) | (simp [*]; done)), H', ⟨by have := HJ24.out; have := HK2.out; have := HK3.out; omega⟩, ⟨by (with_reducible repeat (first | refine ya8 ?_ _ | refine ya9 ?_ | refine blk_alloc ?_ _)); exact BK127.out⟩, ⟨by repeat (first | (with_reducible first | exact HB.out | apply ya2 | apply ya0 | apply ya1 | refine ya6 ?_ GE127.out) | exact HB.out)⟩⟩
          ·replace c87 := Bool.eq_false_iff.mpr c87
           subst c87
           have H1 : (some false) = some r := by rw [if_neg (show ¬ (false = true) by decide)] at H; exact H
           clear H
           have H := H1
           clear H1
           obtain rfl := Option.some.inj H
           obtain ⟨hcz105_0, hcz105_1, hcz105_2, hcz105_3, hcz105_4, hcz105_5, hfz105_0, hfz105_1, hfz105_2, hfz105_3, hfz105_4, hfz105_5⟩ := bx6 BK127.out
           have p135 : 0 ≤ (x6_3 : Int) := of_decide_eq_true (by first | (with_reducible assumption) | assumption)
           have q135 : x6_3 < (l0_4.length : Int) := of_decide_eq_true (by first | (with_reducible assumption) | assumption)
           obtain ⟨ad135, A135_3, c135_3, A135_4, c135_4, e135, hx135_0, hx135_1, hx135_2, hx135_3, hx135_4, hx135_5, hl135_3, hi135_3, hl135_4, hi135_4⟩ := atNd HR0_4.out x6_3 p135 q135
           cases e135
           replace hx135_0 := cup HB.out hx135_0
           replace hx135_1 := cup HB.out hx135_1
           replace hx135_2 := cup HB.out hx135_2
           replace hx135_3 := cup HB.out hx135_3
           replace hx135_4 := cup HB.out hx135_4
           replace hx135_5 := cup HB.out hx135_5
           have HR135_3 := Aside0.mk hi135_3
           have HC135_3 := Aside0.mk hl135_3
           clear hi135_3 hl135_3
           have HR135_4 := Aside0.mk hi135_4
           have HC135_4 := Aside0.mk hl135_4
           clear hi135_4 hl135_4
           replace p135 := eq_true p135
           replace q135 := eq_true q135
           go_wp2_with (first | (go_at_call 71; (with_reducible refine (ih k3 (by have := HJ24.out; have := HK2.out; have := HK3.out; omega) ((rdNd l0_4 x6_3).f0) ((rdNd l0_4 x6_3).f1.f0) ((rdNd l0_4 x6_3).f1.f1) _ _ ((rdNd l0_4 x6_3).f2) _ _ ((rdNd l0_4 x6_3).f3) ((rdNd l0_4 x6_3).f4) false _ ?side1 ?side2 ?side3 ?side4 A86.out).mono ?_); (case side1 => repeat (first | exact (Kd.yc3 HR135_3.out HB.out) | (with_reducible refine Kd.C_alloc ?_ _) | (with_reducible refine Kd.C_drewN ?_ _) | (with_reducible refine Kd.C_drew ?_))); (case side2 => exact HC135_3.out); (case side3 => repeat (first | exact (Kd.yc3 HR135_4.out HB.out) | (with_reducible refine Kd.C_alloc ?_ _) | (with_reducible refine Kd.C_drewN ?_ _) | (with_reducible refine Kd.C_drew ?_))); (case side4 => exact HC135_4.out); rintro e w106 ⟨rfl, hb⟩; have n0_ := Aside0.mk (yb9 (g := gb127) (o := .cells #[.int .i64 a0_0, .string a0_1, .string a0_2, .slice A0_3 l0_3.length c0_3, .slice (some ad135) l0_4.length c0_4, .string a0_5] 27 (0, 0)) (by (with_reducible repeat (first | refine ya8 ?_ _ | refine ya9 ?_ | refine blk_alloc ?_ _)); exact BK127.out) hb); have n1_ := Aside0.mk (ya7 (by repeat (first | (with_reducible first | exact HB.out | apply ya2 | apply ya0 | apply ya1 | refine ya6 ?_ GE127.out) | exact HB.out)) hb); clear BK127; clear HB; have BK127 := n0_; have HB := n1_; clear n0_ n1_; (try clear hb); (try clear hb2); (try clear hk); (try clear hi)))
           repeat (go_quiet (first | (go_at_call 71; (with_reducible refine (ih k3 (by have := HJ24.out; have := HK2.out; have := HK3.out; omega) ((rdNd l0_4 x6_3).f0) ((rdNd l0_4 x6_3).f1.f0) ((rdNd l0_4 x6_3).f1.f1) _ _ ((rdNd l0_4 x6_3).f2) _ _ ((rdNd l0_4 x6_3).f3) ((rdNd l0_4 x6_3).f4) false _ ?side1 ?side2 ?side3 ?side4 A86.out).mono ?_); (case side1 => repeat (first | exact (Kd.yc3 HR135_3.out HB.out) | (with_reducible refine Kd.C_alloc ?_ _) | (with_reducible refine Kd.C_drewN ?_ _) | (with_reducible refine Kd.C_drew ?_))); (case side2 => exact HC135_3.out); (case side3 => repeat (first | exact (Kd.yc3 HR135_4.out HB.out) | (with_reducible refine Kd.C_alloc ?_ _) | (with_reducible refine Kd.C_drewN ?_ _) | (with_reducible refine Kd.C_drew ?_))); (case side4 => exact HC135_4.out); rintro e w106 ⟨rfl, hb⟩; have n0_ := Aside0.mk (yb9 (g := gb127) (o := .cells #[.int .i64 a0_0, .string a0_1, .string a0_2, .slice A0_3 l0_3.length c0_3, .slice (some ad135) l0_4.length c0_4, .string a0_5] 27 (0, 0)) (by (with_reducible repeat (first | refine ya8 ?_ _ | refine ya9 ?_ | refine blk_alloc ?_ _)); exact BK127.out) hb); have n1_ := Aside0.mk (ya7 (by repeat (first | (with_reducible first | exact HB.out | apply ya2 | apply ya0 | apply ya1 | refine ya6 ?_ GE127.out) | exact HB.out)) hb); clear BK127; clear HB; have BK127 := n0_; have HB := n1_; clear n0_ n1_; (try clear hb); (try clear hb2); (try clear hk); (try clear hi))); try go_wp2_with (first | (go_at_call 71; (with_reducible refine (ih k3 (by have := HJ24.out; have := HK2.out; have := HK3.out; omega) ((rdNd l0_4 x6_3).f0) ((rdNd l0_4 x6_3).f1.f0) ((rdNd l0_4 x6_3).f1.f1) _ _ ((rdNd l0_4 x6_3).f2) _ _ ((rdNd l0_4 x6_3).f3) ((rdNd l0_4 x6_3).f4) false _ ?side1 ?side2 ?side3 ?side4 A86.out).mono ?_); (case side1 => repeat (first | exact (Kd.yc3 HR135_3.out HB.out) | (with_reducible refine Kd.C_alloc ?_ _) | (with_reducible refine Kd.C_drewN ?_ _) | (with_reducible refine Kd.C_drew ?_))); (case side2 => exact HC135_3.out); (case side3 => repeat (first | exact (Kd.yc3 HR135_4.out HB.out) | (with_reducible refine Kd.C_alloc ?_ _) | (with_reducible refine Kd.C_drewN ?_ _) | (with_reducible refine Kd.C_drew ?_))); (case side4 => exact HC135_4.out); rintro e w106 ⟨rfl, hb⟩; have n0_ := Aside0.mk (yb9 (g := gb127) (o := .cells #[.int .i64 a0_0, .string a0_1, .string a0_2, .slice A0_3 l0_3.length c0_3, .slice (some ad135) l0_4.length c0_4, .string a0_5] 27 (0, 0)) (by (with_reducible repeat (first | refine ya8 ?_ _ | refine ya9 ?_ | refine blk_alloc ?_ _)); exact BK127.out) hb); have n1_ := Aside0.mk (ya7 (by repeat (first | (with_reducible first | exact HB.out | apply ya2 | apply ya0 | apply ya1 | refine ya6 ?_ GE127.out) | exact HB.out)) hb); clear BK127; clear HB; have BK127 := n0_; have HB := n1_; clear n0_ n1_; (try clear hb); (try clear hb2); (try clear hk); (try clear hi))))
           go_ret
           exact ⟨by first | rfl | (simp [yb3, yb2] <;> rfl) | (simp [*, yb3, yb2] <;> rfl), by repeat (first | (with_reducible first | exact HB.out | apply ya2 | apply ya0 | apply ya1 | refine ya6 ?_ GE127.out) | exact HB.out)⟩
         ·rw [if_neg c84] at H
          have c84b0 : decide (x6_3 < (l0_4.length : Int)) = false := decide_eq_false c84
          clear c84
          obtain rfl := Option.some.inj H
          obtain ⟨hcz107_0, hcz107_1, hcz107_2, hcz107_3, hcz107_4, hcz107_5, hfz107_0, hfz107_1, hfz107_2, hfz107_3, hfz107_4, hfz107_5⟩ := bx6 BK127.out
          go_wp2
          repeat (go_quiet (fail); try go_wp2)
          go_ret
          exact ⟨by first | rfl | (simp [yb3, yb2] <;> rfl) | (simp [*, yb3, yb2] <;> rfl), by repeat (first | (with_reducible first | exact HB.out | apply ya2 | apply ya0 | apply ya1 | refine ya6 ?_ GE127.out) | exact HB.out)⟩

end Go.Proofs.YtffpbhbiamkkpaaDoor.PR
