import Derived.Test.YtidkjifilgjgfaaDoorPLx0
import Derived.Test.YtidkjifilgjgfaaDoorPLx1
-- PRINTED by print.py (a twelfth state) out of the translation. Not trusted: Lean checks it.
namespace Go.Proofs.YtidkjifilgjgfaaDoor.PL
open Go.RowKit Go.Proofs.YtidkjifilgjgfaaDoorW.PrintWords Go.Proofs.YtidkjifilgjgfaaDoorW.PrintLast Go.Proofs.YtidkjifilgjgfaaDoorW.PrintMore
attribute [local go_sem] yg8 yg6 yh9 yh8 yf9 yf8 yg7 yg5   -- for this text's walks alone
set_option linter.unusedVariables false
set_option linter.unusedSimpArgs false

def yk6.f (k : Nat) (a0_0 : ByteArray) (a0_1 : ByteArray) (a0_2 : ByteArray) (a0_3 : ByteArray) (a0_4 : Int) (l0_5 : List ByteArray) (a0_6 : Int) : Option (Bool) := if a0_1.toList = ([] : List UInt8) then (if a0_4 ≥ 0 then (if a0_4 ≤ 1000 then (if a0_4 = 0 then (if a0_0.toList = ([] : List UInt8) then (some false) else ((yb6.f k a0_3).bind fun t113 => (if t113 = true then ((yb6.f k a0_2).bind fun t114 => (if t114 = true then ((yc2.f k l0_5).bind fun t115 => (if t115 = true then (some (decide (a0_6 ≤ 4294967295))) else (some false))) else (some false))) else (some false)))) else (if a0_0.toList = ([] : List UInt8) then (some false) else (if a0_2.toList = ([] : List UInt8) then (some false) else ((yb6.f k a0_3).bind fun t116 => (if t116 = true then ((yb6.f k a0_2).bind fun t117 => (if t117 = true then ((yc2.f k l0_5).bind fun t118 => (if t118 = true then (some (decide (a0_6 ≤ 4294967295))) else (some false))) else (some false))) else (some false)))))) else (if a0_0.toList = ([] : List UInt8) then (some false) else (some false))) else (if a0_0.toList = ([] : List UInt8) then (some false) else (some false))) else (if a0_1.toList = ([111, 112, 101, 110] : List UInt8) then (if a0_4 ≥ 0 then (if a0_4 ≤ 1000 then (if a0_4 = 0 then (if a0_0.toList = ([] : List UInt8) then (some false) else ((yb6.f k a0_3).bind fun t119 => (if t119 = true then ((yb6.f k a0_2).bind fun t120 => (if t120 = true then ((yc2.f k l0_5).bind fun t121 => (if t121 = true then (some (decide (a0_6 ≤ 4294967295))) else (some false))) else (some false))) else (some false)))) else (if a0_0.toList = ([] : List UInt8) then (some false) else (if a0_2.toList = ([] : List UInt8) then (some false) else ((yb6.f k a0_3).bind fun t122 => (if t122 = true then ((yb6.f k a0_2).bind fun t123 => (if t123 = true then ((yc2.f k l0_5).bind fun t124 => (if t124 = true then (some (decide (a0_6 ≤ 4294967295))) else (some false))) else (some false))) else (some false)))))) else (if a0_0.toList = ([] : List UInt8) then (some false) else (some false))) else (if a0_0.toList = ([] : List UInt8) then (some false) else (some false))) else (if a0_4 ≥ 0 then (if a0_4 ≤ 1000 then (if a0_4 = 0 then (if a0_0.toList = ([] : List UInt8) then (some false) else (if a0_1.toList = ([99, 108, 111, 115, 101, 100] : List UInt8) then ((yb6.f k a0_3).bind fun t125 => (if t125 = true then ((yb6.f k a0_2).bind fun t126 => (if t126 = true then ((yc2.f k l0_5).bind fun t127 => (if t127 = true then (some (decide (a0_6 ≤ 4294967295))) else (some false))) else (some false))) else (some false))) else (some false))) else (if a0_0.toList = ([] : List UInt8) then (some false) else (if a0_1.toList = ([99, 108, 111, 115, 101, 100] : List UInt8) then (if a0_2.toList = ([] : List UInt8) then (some false) else ((yb6.f k a0_3).bind fun t128 => (if t128 = true then ((yb6.f k a0_2).bind fun t129 => (if t129 = true then ((yc2.f k l0_5).bind fun t130 => (if t130 = true then (some (decide (a0_6 ≤ 4294967295))) else (some false))) else (some false))) else (some false)))) else (some false)))) else (if a0_0.toList = ([] : List UInt8) then (some false) else (if a0_1.toList = ([99, 108, 111, 115, 101, 100] : List UInt8) then (some false) else (some false)))) else (if a0_0.toList = ([] : List UInt8) then (some false) else (if a0_1.toList = ([99, 108, 111, 115, 101, 100] : List UInt8) then (some false) else (some false)))))
set_option maxHeartbeats 8000000 in
set_option maxRecDepth 100000 in
theorem yk6.calls (k : Nat) (a0_0 : ByteArray) (a0_1 : ByteArray) (a0_2 : ByteArray) (a0_3 : ByteArray) (a0_4 : Int) (A0_5 : Option Addr) (c0_5 : Nat) (l0_5 : List ByteArray) (a0_6 : Int) (r : Bool) (w : World) (hr0_5 : Kd.C Kd.string w A0_5 l0_5.length l0_5) (hc0_5 : l0_5.length ≤ c0_5) (h : yk6.f k a0_0 a0_1 a0_2 a0_3 a0_4 l0_5 a0_6 = some r) :
  Calls Tryd.prog 23 #[.agg #[.string a0_0, .string a0_1, .string a0_2, .string a0_3, .int .i64 a0_4, .slice A0_5 l0_5.length c0_5, .int .u64 a0_6]] w fun e w' => e = .returned (.bool r) ∧ Below w.heap.size w w' := by
 have hu38 := Tryd.underlying38
 have HR0_5 := Aside0.mk hr0_5
 have HC0_5 := Aside0.mk hc0_5
 clear hr0_5 hc0_5
 have HB := Aside0.mk (Below.refl w.heap.size w)
 have H : (if a0_1.toList = ([] : List UInt8) then (if a0_4 ≥ 0 then (if a0_4 ≤ 1000 then (if a0_4 = 0 then (if a0_0.toList = ([] : List UInt8) then (some false) else ((yb6.f k a0_3).bind fun t113 => (if t113 = true then ((yb6.f k a0_2).bind fun t114 => (if t114 = true then ((yc2.f k l0_5).bind fun t115 => (if t115 = true then (some (decide (a0_6 ≤ 4294967295))) else (some false))) else (some false))) else (some false)))) else (if a0_0.toList = ([] : List UInt8) then (some false) else (if a0_2.toList = ([] : List UInt8) then (some false) else ((yb6.f k a0_3).bind fun t116 => (if t116 = true then ((yb6.f k a0_2).bind fun t117 => (if t117 = true then ((yc2.f k l0_5).bind fun t118 => (if t118 = true then (some (decide (a0_6 ≤ 4294967295))) else (some false))) else (some false))) else (some false)))))) else (if a0_0.toList = ([] : List UInt8) then (some false) else (some false))) else (if a0_0.toList = ([] : List UInt8) then (some false) else (some false))) else (if a0_1.toList = ([111, 112, 101, 110] : List UInt8) then (if a0_4 ≥ 0 then (if a0_4 ≤ 1000 then (if a0_4 = 0 then (if a0_0.toList = ([] : List UInt8) then (some false) else ((yb6.f k a0_3).bind fun t119 => (if t119 = true then ((yb6.f k a0_2).bind fun t120 => (if t120 = true then ((yc2.f k l0_5).bind fun t121 => (if t121 = true then (some (decide (a0_6 ≤ 4294967295))) else (some false))) else (some false))) else (some false)))) else (if a0_0.toList = ([] : List UInt8) then (some false) else (if a0_2.toList = ([] : List UInt8) then (some false) else ((yb6.f k a0_3).bind fun t122 => (if t122 = true then ((yb6.f k a0_2).bind fun t123 => (if t123 = true then ((yc2.f k l0_5).bind fun t124 => (if t124 = true then (some (decide (a0_6 ≤ 4294967295))) else (some false))) else (some false))) else (some false)))))) else (if a0_0.toList = ([] : List UInt8) then (some false) else (some false))) else (if a0_0.toList = ([] : List UInt8) then (some false) else (some false))) else (if a0_4 ≥ 0 then (if a0_4 ≤ 1000 then (if a0_4 = 0 then (if a0_0.toList = ([] : List UInt8) then (some false) else (if a0_1.toList = ([99, 108, 111, 115, 101, 100] : List UInt8) then ((yb6.f k a0_3).bind fun t125 => (if t125 = true then ((yb6.f k a0_2).bind fun t126 => (if t126 = true then ((yc2.f k l0_5).bind fun t127 => (if t127 = true then (some (decide (a0_6 ≤ 4294967295))) else (some false))) else (some false))) else (some false))) else (some false))) else (if a0_0.toList = ([] : List UInt8) then (some false) else (if a0_1.toList = ([99, 108, 111, 115, 101, 100] : List UInt8) then (if a0_2.toList = ([] : List UInt8) then (some false) else ((yb6.f k a0_3).bind fun t128 => (if t128 = true then ((yb6.f k a0_2).bind fun t129 => (if t129 = true then ((yc2.f k l0_5).bind fun t130 => (if t130 = true then (some (decide (a0_6 ≤ 4294967295))) else (some false))) else (some false))) else (some false)))) else (some false)))) else (if a0_0.toList = ([] : List UInt8) then (some false) else (if a0_1.toList = ([99, 108, 111, 115, 101, 100] : List UInt8) then (some false) else (some false)))) else (if a0_0.toList = ([] : List UInt8) then (some false) else (if a0_1.toList = ([99, 108, 111, 115, 101, 100] : List UInt8) then (some false) else (some false)))))) = some r := h
 clear h
 by_cases c2 : a0_1.toList = ([] : List UInt8)
 ·rw [if_pos c2] at H
  have c2b0 : (a0_1.toList == ([] : List UInt8)) = true := beq_iff_eq.mpr c2
  have c2b1 : (a0_1.toList != ([] : List UInt8)) = false := bne_eq_false_iff_eq.mpr c2
  clear c2
  by_cases c3 : a0_4 ≥ 0
  ·rw [if_pos c3] at H
   have c3b0 : decide (0 ≤ a0_4) = true := decide_eq_true c3
   clear c3
   by_cases c4 : a0_4 ≤ 1000
   ·rw [if_pos c4] at H
    have c4b0 : decide (a0_4 ≤ 1000) = true := decide_eq_true c4
    clear c4
    by_cases c5 : a0_4 = 0
    ·rw [if_pos c5] at H
     have c5b0 : (a0_4 == 0) = true := beq_iff_eq.mpr c5
     have c5b1 : (a0_4 != 0) = false := bne_eq_false_iff_eq.mpr c5
     clear c5
     by_cases c6 : a0_0.toList = ([] : List UInt8)
     ·rw [if_pos c6] at H
      have c6b0 : (a0_0.toList == ([] : List UInt8)) = true := beq_iff_eq.mpr c6
      have c6b1 : (a0_0.toList != ([] : List UInt8)) = false := bne_eq_false_iff_eq.mpr c6
      clear c6
      obtain rfl := Option.some.inj H
      go_enter Tryd.func23, Tryd.ntmps23
      go_wp2_with (first | ((with_reducible refine yc1 (N := 1) rfl ?_); refine yb9 ?hg (N := 1) ?hd (cs := #[.string a0_0, .string a0_1, .string a0_2, .string a0_3, .int .i64 a0_4, .slice A0_5 l0_5.length c0_5, .int .u64 a0_6]) (t := 38) ?hr ?_; (case hd => rfl); (case hg => rfl); (case hr => first | (go_simp; done) | (go_simp; rfl)); intro gb112 hg w7 hbox hb; have n0_ := Aside0.mk (yb1 (by repeat (first | (with_reducible first | exact HB.out | apply ya2 | apply ya0 | apply ya1) | exact HB.out)) hb); have n1_ := Aside0.mk (hbox); have n2_ := Aside0.mk ((by rw [hg]; exact (ya7 (by repeat (first | (with_reducible first | exact HB.out | apply ya2 | apply ya0 | apply ya1) | exact HB.out))) : w.heap.size ≤ gb112)); have n3_ := Aside0.mk ((by rw [hg]; exact (ya7 (by repeat (first | (with_reducible first | exact HB.out | apply ya2 | apply ya0 | apply ya1) | exact HB.out))) : w.heap.size ≤ gb112)); clear HB; have HB := n0_; have BK112 := n1_; have GW112 := n2_; have GE112 := n3_; clear n0_ n1_ n2_ n3_; clear hb hbox hg; obtain ⟨hcz8_0, hcz8_1, hcz8_2, hcz8_3, hcz8_4, hcz8_5, hcz8_6, hfz8_0, hfz8_1, hfz8_2, hfz8_3, hfz8_4, hfz8_5, hfz8_6⟩ := bx7 BK112.out))
      go_ret
      exact ⟨by first | rfl | (simp [yb0, ya9] <;> rfl) | (simp [*, yb0, ya9] <;> rfl), by repeat (first | (with_reducible first | exact HB.out | apply ya2 | apply ya0 | apply ya1 | refine ya3 ?_ GE112.out) | exact HB.out)⟩
     rw [if_neg c6] at H
     have c6b0 : (a0_0.toList == ([] : List UInt8)) = false := beq_eq_false_iff_ne.mpr c6
     have c6b1 : (a0_0.toList != ([] : List UInt8)) = true := bne_iff_ne.mpr c6
     replace H := Option.bind_eq_some_iff.mp H
     obtain ⟨t113, A90, H⟩ := H
     replace H : (if t113 = true then ((yb6.f k a0_2).bind fun t114 => (if t114 = true then ((yc2.f k l0_5).bind fun t115 => (if t115 = true then (some (decide (a0_6 ≤ 4294967295))) else (some false))) else (some false))) else (some false)) = some r := H
     have A9 := Aside0.mk A90
     clear A90
     by_cases c10 : t113 = true
     rotate_left 1
     ·replace c10 := Bool.eq_false_iff.mpr c10
      subst c10
      have H1 : (some false) = some r := by rw [if_neg (show ¬ (false = true) by decide)] at H; exact H
      clear H
      have H := H1
      clear H1
      obtain rfl := Option.some.inj H
      go_enter Tryd.func23, Tryd.ntmps23
      go_wp2_with (first | ((with_reducible refine yc1 (N := 1) rfl ?_); refine yb9 ?hg (N := 1) ?hd (cs := #[.string a0_0, .string a0_1, .string a0_2, .string a0_3, .int .i64 a0_4, .slice A0_5 l0_5.length c0_5, .int .u64 a0_6]) (t := 38) ?hr ?_; (case hd => rfl); (case hg => rfl); (case hr => first | (go_simp; done) | (go_simp; rfl)); intro gb112 hg w21 hbox hb; have n0_ := Aside0.mk (yb1 (by repeat (first | (with_reducible first | exact HB.out | apply ya2 | apply ya0 | apply ya1) | exact HB.out)) hb); have n1_ := Aside0.mk (hbox); have n2_ := Aside0.mk ((by rw [hg]; exact (ya7 (by repeat (first | (with_reducible first | exact HB.out | apply ya2 | apply ya0 | apply ya1) | exact HB.out))) : w.heap.size ≤ gb112)); have n3_ := Aside0.mk ((by rw [hg]; exact (ya7 (by repeat (first | (with_reducible first | exact HB.out | apply ya2 | apply ya0 | apply ya1) | exact HB.out))) : w.heap.size ≤ gb112)); clear HB; have HB := n0_; have BK112 := n1_; have GW112 := n2_; have GE112 := n3_; clear n0_ n1_ n2_ n3_; clear hb hbox hg; obtain ⟨hcz22_0, hcz22_1, hcz22_2, hcz22_3, hcz22_4, hcz22_5, hcz22_6, hfz22_0, hfz22_1, hfz22_2, hfz22_3, hfz22_4, hfz22_5, hfz22_6⟩ := bx7 BK112.out) | (go_at_call 37; (with_reducible refine (yb6.calls k a0_3 false _ A9.out).mono ?_); rintro e w' ⟨rfl, ⟨nd, rfl⟩⟩))
      go_ret
      exact ⟨by first | rfl | (simp [yb0, ya9] <;> rfl) | (simp [*, yb0, ya9] <;> rfl), by repeat (first | (with_reducible first | exact HB.out | apply ya2 | apply ya0 | apply ya1 | refine ya3 ?_ GE112.out) | exact HB.out)⟩
     subst c10
     have H1 : ((yb6.f k a0_2).bind fun t114 => (if t114 = true then ((yc2.f k l0_5).bind fun t115 => (if t115 = true then (some (decide (a0_6 ≤ 4294967295))) else (some false))) else (some false))) = some r := by rw [if_pos rfl] at H; exact H
     clear H
     have H := H1
     clear H1
     replace H := Option.bind_eq_some_iff.mp H
     obtain ⟨t114, A110, H⟩ := H
     replace H : (if t114 = true then ((yc2.f k l0_5).bind fun t115 => (if t115 = true then (some (decide (a0_6 ≤ 4294967295))) else (some false))) else (some false)) = some r := H
     have A11 := Aside0.mk A110
     clear A110
     by_cases c12 : t114 = true
     rotate_left 1
     ·replace c12 := Bool.eq_false_iff.mpr c12
      subst c12
      have H1 : (some false) = some r := by rw [if_neg (show ¬ (false = true) by decide)] at H; exact H
      clear H
      have H := H1
      clear H1
      obtain rfl := Option.some.inj H
      go_enter Tryd.func23, Tryd.ntmps23
      go_wp2_with (first | ((with_reducible refine yc1 (N := 1) rfl ?_); refine yb9 ?hg (N := 1) ?hd (cs := #[.string a0_0, .string a0_1, .string a0_2, .string a0_3, .int .i64 a0_4, .slice A0_5 l0_5.length c0_5, .int .u64 a0_6]) (t := 38) ?hr ?_; (case hd => rfl); (case hg => rfl); (case hr => first | (go_simp; done) | (go_simp; rfl)); intro gb112 hg w19 hbox hb; have n0_ := Aside0.mk (yb1 (by repeat (first | (with_reducible first | exact HB.out | apply ya2 | apply ya0 | apply ya1) | exact HB.out)) hb); have n1_ := Aside0.mk (hbox); have n2_ := Aside0.mk ((by rw [hg]; exact (ya7 (by repeat (first | (with_reducible first | exact HB.out | apply ya2 | apply ya0 | apply ya1) | exact HB.out))) : w.heap.size ≤ gb112)); have n3_ := Aside0.mk ((by rw [hg]; exact (ya7 (by repeat (first | (with_reducible first | exact HB.out | apply ya2 | apply ya0 | apply ya1) | exact HB.out))) : w.heap.size ≤ gb112)); clear HB; have HB := n0_; have BK112 := n1_; have GW112 := n2_; have GE112 := n3_; clear n0_ n1_ n2_ n3_; clear hb hbox hg; obtain ⟨hcz20_0, hcz20_1, hcz20_2, hcz20_3, hcz20_4, hcz20_5, hcz20_6, hfz20_0, hfz20_1, hfz20_2, hfz20_3, hfz20_4, hfz20_5, hfz20_6⟩ := bx7 BK112.out) | (go_at_call 37; (with_reducible refine (yb6.calls k a0_3 true _ A9.out).mono ?_); rintro e w' ⟨rfl, ⟨nd, rfl⟩⟩) | (go_at_call 37; (with_reducible refine (yb6.calls k a0_2 false _ A11.out).mono ?_); rintro e w' ⟨rfl, ⟨nd, rfl⟩⟩))
      go_ret
      exact ⟨by first | rfl | (simp [yb0, ya9] <;> rfl) | (simp [*, yb0, ya9] <;> rfl), by repeat (first | (with_reducible first | exact HB.out | apply ya2 | apply ya0 | apply ya1 | refine ya3 ?_ GE112.out) | exact HB.out)⟩
     subst c12
     have H1 : ((yc2.f k l0_5).bind fun t115 => (if t115 = true then (some (decide (a0_6 ≤ 4294967295))) else (some false))) = some r := by rw [if_pos rfl] at H; exact H
     clear H
     have H := H1
     clear H1
     replace H := Option.bind_eq_some_iff.mp H
     obtain ⟨t115, A130, H⟩ := H
     replace H : (if t115 = true then (some (decide (a0_6 ≤ 4294967295))) else (some false)) = some r := H
     have A13 := Aside0.mk A130
     clear A130
     by_cases c14 : t115 = true
     ·subst c14
      have H1 : (some (decide (a0_6 ≤ 4294967295))) = some r := by rw [if_pos rfl] at H; exact H
      clear H
      have H := H1
      clear H1
      obtain rfl := Option.some.inj H
      go_enter Tryd.func23, Tryd.ntmps23
      go_wp2_with (first | ((with_reducible refine yc1 (N := 1) rfl ?_); refine yb9 ?hg (N := 1) ?hd (cs := #[.string a0_0, .string a0_1, .string a0_2, .string a0_3, .int .i64 a0_4, .slice A0_5 l0_5.length c0_5, .int .u64 a0_6]) (t := 38) ?hr ?_; (case hd => rfl); (case hg => rfl); (case hr => first | (go_simp; done) | (go_simp; rfl)); intro gb112 hg w15 hbox hb; have n0_ := Aside0.mk (yb1 (by repeat (first | (with_reducible first | exact HB.out | apply ya2 | apply ya0 | apply ya1) | exact HB.out)) hb); have n1_ := Aside0.mk (hbox); have n2_ := Aside0.mk ((by rw [hg]; exact (ya7 (by repeat (first | (with_reducible first | exact HB.out | apply ya2 | apply ya0 | apply ya1) | exact HB.out))) : w.heap.size ≤ gb112)); have n3_ := Aside0.mk ((by rw [hg]; exact (ya7 (by repeat (first | (with_reducible first | exact HB.out | apply ya2 | apply ya0 | apply ya1) | exact HB.out))) : w.heap.size ≤ gb112)); clear HB; have HB := n0_; have BK112 := n1_; have GW112 := n2_; have GE112 := n3_; clear n0_ n1_ n2_ n3_; clear hb hbox hg; obtain ⟨hcz16_0, hcz16_1, hcz16_2, hcz16_3, hcz16_4, hcz16_5, hcz16_6, hfz16_0, hfz16_1, hfz16_2, hfz16_3, hfz16_4, hfz16_5, hfz16_6⟩ := bx7 BK112.out) | (go_at_call 37; (with_reducible refine (yb6.calls k a0_3 true _ A9.out).mono ?_); rintro e w' ⟨rfl, ⟨nd, rfl⟩⟩) | (go_at_call 37; (with_reducible refine (yb6.calls k a0_2 true _ A11.out).mono ?_); rintro e w' ⟨rfl, ⟨nd, rfl⟩⟩) | (go_at_call 24; (with_reducible refine (yc2.calls k _ _ l0_5 true _ ?side1 ?side2 A13.out).mono ?_); (case side1 => repeat (first | exact (Kd.yc4 HR0_5.out (by repeat (first | (with_reducible first | exact HB.out | apply ya2 | apply ya0 | apply ya1 | refine ya3 ?_ GE112.out) | exact HB.out))) | (with_reducible refine Kd.yd2 ?_ _) | (with_reducible refine Kd.C_drewN ?_ _) | (with_reducible refine Kd.C_drew ?_))); (case side2 => exact HC0_5.out); rintro e w' ⟨rfl, ⟨nd, rfl⟩⟩))
      go_ret
      exact ⟨by first | rfl | (simp [yb0, ya9] <;> rfl) | (simp [*, yb0, ya9] <;> rfl), by repeat (first | (with_reducible first | exact HB.out | apply ya2 | apply ya0 | apply ya1 | refine ya3 ?_ GE112.out) | exact HB.out)⟩
     replace c14 := Bool.eq_false_iff.mpr c14
     subst c14
     have H1 : (some false) = some r := by rw [if_neg (show ¬ (false = true) by decide)] at H; exact H
     clear H
     have H := H1
     clear H1
     obtain rfl := Option.some.inj H
     go_enter Tryd.func23, Tryd.ntmps23
     go_wp2_with (first | ((with_reducible refine yc1 (N := 1) rfl ?_); refine yb9 ?hg (N := 1) ?hd (cs := #[.string a0_0, .string a0_1, .string a0_2, .string a0_3, .int .i64 a0_4, .slice A0_5 l0_5.length c0_5, .int .u64 a0_6]) (t := 38) ?hr ?_; (case hd => rfl); (case hg => rfl); (case hr => first | (go_simp; done) | (go_simp; rfl)); intro gb112 hg w17 hbox hb; have n0_ := Aside0.mk (yb1 (by repeat (first | (with_reducible first | exact HB.out | apply ya2 | apply ya0 | apply ya1) | exact HB.out)) hb); have n1_ := Aside0.mk (hbox); have n2_ := Aside0.mk ((by rw [hg]; exact (ya7 (by repeat (first | (with_reducible first | exact HB.out | apply ya2 | apply ya0 | apply ya1) | exact HB.out))) : w.heap.size ≤ gb112)); have n3_ := Aside0.mk ((by rw [hg]; exact (ya7 (by repeat (first | (with_reducible first | exact HB.out | apply ya2 | apply ya0 | apply ya1) | exact HB.out))) : w.heap.size ≤ gb112)); clear HB; have HB := n0_; have BK112 := n1_; have GW112 := n2_; have GE112 := n3_; clear n0_ n1_ n2_ n3_; clear hb hbox hg; obtain ⟨hcz18_0, hcz18_1, hcz18_2, hcz18_3, hcz18_4, hcz18_5, hcz18_6, hfz18_0, hfz18_1, hfz18_2, hfz18_3, hfz18_4, hfz18_5, hfz18_6⟩ := bx7 BK112.out) | (go_at_call 37; (with_reducible refine (yb6.calls k a0_3 true _ A9.out).mono ?_); rintro e w' ⟨rfl, ⟨nd, rfl⟩⟩) | (go_at_call 37; (with_reducible refine (yb6.calls k a0_2 true _ A11.out).mono ?_); rintro e w' ⟨rfl, ⟨nd, rfl⟩⟩) | (go_at_call 24; (with_reducible refine (yc2.calls k _ _ l0_5 false _ ?side1 ?side2 A13.out).mono ?_); (case side1 => repeat (first | exact (Kd.yc4 HR0_5.out (by repeat (first | (with_reducible first | exact HB.out | apply ya2 | apply ya0 | apply ya1 | refine ya3 ?_ GE112.out) | exact HB.out))) | (with_reducible refine Kd.yd2 ?_ _) | (with_reducible refine Kd.C_drewN ?_ _) | (with_reducible refine Kd.C_drew ?_))); (case side2 => exact HC0_5.out); rintro e w' ⟨rfl, ⟨nd, rfl⟩⟩))
     go_ret
     exact ⟨by first | rfl | (simp [yb0, ya9] <;> rfl) | (simp [*, yb0, ya9] <;> rfl), by repeat (first | (with_reducible first | exact HB.out | apply ya2 | apply ya0 | apply ya1 | refine ya3 ?_ GE112.out) | exact HB.out)⟩
    ·rw [if_neg c5] at H
     have c5b0 : (a0_4 == 0) = false := beq_eq_false_iff_ne.mpr c5
     have c5b1 : (a0_4 != 0) = true := bne_iff_ne.mpr c5
     by_cases c23 : a0_0.toList = ([] : List UInt8)
     ·rw [if_pos c23] at H
      have c23b0 : (a0_0.toList == ([] : List UInt8)) = true := beq_iff_eq.mpr c23
      have c23b1 : (a0_0.toList != ([] : List UInt8)) = false := bne_eq_false_iff_eq.mpr c23
      clear c23
      obtain rfl := Option.some.inj H
      go_enter Tryd.func23, Tryd.ntmps23
      go_wp2_with (first | ((with_reducible refine yc1 (N := 1) rfl ?_); refine yb9 ?hg (N := 1) ?hd (cs := #[.string a0_0, .string a0_1, .string a0_2, .string a0_3, .int .i64 a0_4, .slice A0_5 l0_5.length c0_5, .int .u64 a0_6]) (t := 38) ?hr ?_; (case hd => rfl); (case hg => rfl); (case hr => first | (go_simp; done) | (go_simp; rfl)); intro gb112 hg w24 hbox hb; have n0_ := Aside0.mk (yb1 (by repeat (first | (with_reducible first | exact HB.out | apply ya2 | apply ya0 | apply ya1) | exact HB.out)) hb); have n1_ := Aside0.mk (hbox); have n2_ := Aside0.mk ((by rw [hg]; exact (ya7 (by repeat (first | (with_reducible first | exact HB.out | apply ya2 | apply ya0 | apply ya1) | exact HB.out))) : w.heap.size ≤ gb112)); have n3_ := Aside0.mk ((by rw [hg]; exact (ya7 (by repeat (first | (with_reducible first | exact HB.out | apply ya2 | apply ya0 | apply ya1) | exact HB.out))) : w.heap.size ≤ gb112)); clear HB; have HB := n0_; have BK112 := n1_; have GW112 := n2_; have GE112 := n3_; clear n0_ n1_ n2_ n3_; clear hb hbox hg; obtain ⟨hcz25_0, hcz25_1, hcz25_2, hcz25_3, hcz25_4, hcz25_5, hcz25_6, hfz25_0, hfz25_1, hfz25_2, hfz25_3, hfz25_4, hfz25_5, hfz25_6⟩ := bx7 BK112.out))
      go_ret
      exact ⟨by first | rfl | (simp [yb0, ya9] <;> rfl) | (simp [*, yb0, ya9] <;> rfl), by repeat (first | (with_reducible first | exact HB.out | apply ya2 | apply ya0 | apply ya1 | refine ya3 ?_ GE112.out) | exact HB.out)⟩
     rw [if_neg c23] at H
     have c23b0 : (a0_0.toList == ([] : List UInt8)) = false := beq_eq_false_iff_ne.mpr c23
     have c23b1 : (a0_0.toList != ([] : List UInt8)) = true := bne_iff_ne.mpr c23
     by_cases c26 : a0_2.toList = ([] : List UInt8)
     ·rw [if_pos c26] at H
      have c26b0 : (a0_2.toList == ([] : List UInt8)) = true := beq_iff_eq.mpr c26
      have c26b1 : (a0_2.toList != ([] : List UInt8)) = false := bne_eq_false_iff_eq.mpr c26
      clear c26
      obtain rfl := Option.some.inj H
      go_enter Tryd.func23, Tryd.ntmps23
      go_wp2_with (first | ((with_reducible refine yc1 (N := 1) rfl ?_); refine yb9 ?hg (N := 1) ?hd (cs := #[.string a0_0, .string a0_1, .string a0_2, .string a0_3, .int .i64 a0_4, .slice A0_5 l0_5.length c0_5, .int .u64 a0_6]) (t := 38) ?hr ?_; (case hd => rfl); (case hg => rfl); (case hr => first | (go_simp; done) | (go_simp; rfl)); intro gb112 hg w27 hbox hb; have n0_ := Aside0.mk (yb1 (by repeat (first | (with_reducible first | exact HB.out | apply ya2 | apply ya0 | apply ya1) | exact HB.out)) hb); have n1_ := Aside0.mk (hbox); have n2_ := Aside0.mk ((by rw [hg]; exact (ya7 (by repeat (first | (with_reducible first | exact HB.out | apply ya2 | apply ya0 | apply ya1) | exact HB.out))) : w.heap.size ≤ gb112)); have n3_ := Aside0.mk ((by rw [hg]; exact (ya7 (by repeat (first | (with_reducible first | exact HB.out | apply ya2 | apply ya0 | apply ya1) | exact HB.out))) : w.heap.size ≤ gb112)); clear HB; have HB := n0_; have BK112 := n1_; have GW112 := n2_; have GE112 := n3_; clear n0_ n1_ n2_ n3_; clear hb hbox hg; obtain ⟨hcz28_0, hcz28_1, hcz28_2, hcz28_3, hcz28_4, hcz28_5, hcz28_6, hfz28_0, hfz28_1, hfz28_2, hfz28_3, hfz28_4, hfz28_5, hfz28_6⟩ := bx7 BK112.out))
      go_ret
      exact ⟨by first | rfl | (simp [yb0, ya9] <;> rfl) | (simp [*, yb0, ya9] <;> rfl), by repeat (first | (with_reducible first | exact HB.out | apply ya2 | apply ya0 | apply ya1 | refine ya3 ?_ GE112.out) | exact HB.out)⟩
     rw [if_neg c26] at H
     have c26b0 : (a0_2.toList == ([] : List UInt8)) = false := beq_eq_false_iff_ne.mpr c26
     have c26b1 : (a0_2.toList != ([] : List UInt8)) = true := bne_iff_ne.mpr c26
     replace H := Option.bind_eq_some_iff.mp H
     obtain ⟨t116, A290, H⟩ := H
     replace H : (if t116 = true then ((yb6.f k a0_2).bind fun t117 => (if t117 = true then ((yc2.f k l0_5).bind fun t118 => (if t118 = true then (some (decide (a0_6 ≤ 4294967295))) else (some false))) else (some false))) else (some false)) = some r := H
     have A29 := Aside0.mk A290
     clear A290
     by_cases c30 : t116 = true
     rotate_left 1
     ·replace c30 := Bool.eq_false_iff.mpr c30
      subst c30
      have H1 : (some false) = some r := by rw [if_neg (show ¬ (false = true) by decide)] at H; exact H
      clear H
      have H := H1
      clear H1
      obtain rfl := Option.some.inj H
      go_enter Tryd.func23, Tryd.ntmps23
      go_wp2_with (first | ((with_reducible refine yc1 (N := 1) rfl ?_); refine yb9 ?hg (N := 1) ?hd (cs := #[.string a0_0, .string a0_1, .string a0_2, .string a0_3, .int .i64 a0_4, .slice A0_5 l0_5.length c0_5, .int .u64 a0_6]) (t := 38) ?hr ?_; (case hd => rfl); (case hg => rfl); (case hr => first | (go_simp; done) | (go_simp; rfl)); intro gb112 hg w41 hbox hb; have n0_ := Aside0.mk (yb1 (by repeat (first | (with_reducible first | exact HB.out | apply ya2 | apply ya0 | apply ya1) | exact HB.out)) hb); have n1_ := Aside0.mk (hbox); have n2_ := Aside0.mk ((by rw [hg]; exact (ya7 (by repeat (first | (with_reducible first | exact HB.out | apply ya2 | apply ya0 | apply ya1) | exact HB.out))) : w.heap.size ≤ gb112)); have n3_ := Aside0.mk ((by rw [hg]; exact (ya7 (by repeat (first | (with_reducible first | exact HB.out | apply ya2 | apply ya0 | apply ya1) | exact HB.out))) : w.heap.size ≤ gb112)); clear HB; have HB := n0_; have BK112 := n1_; have GW112 := n2_; have GE112 := n3_; clear n0_ n1_ n2_ n3_; clear hb hbox hg; obtain ⟨hcz42_0, hcz42_1, hcz42_2, hcz42_3, hcz42_4, hcz42_5, hcz42_6, hfz42_0, hfz42_1, hfz42_2, hfz42_3, hfz42_4, hfz42_5, hfz42_6⟩ := bx7 BK112.out) | (go_at_call 37; (with_reducible refine (yb6.calls k a0_3 false _ A29.out).mono ?_); rintro e w' ⟨rfl, ⟨nd, rfl⟩⟩))
      go_ret
      exact ⟨by first | rfl | (simp [yb0, ya9] <;> rfl) | (simp [*, yb0, ya9] <;> rfl), by repeat (first | (with_reducible first | exact HB.out | apply ya2 | apply ya0 | apply ya1 | refine ya3 ?_ GE112.out) | exact HB.out)⟩
     subst c30
     have H1 : ((yb6.f k a0_2).bind fun t117 => (if t117 = true then ((yc2.f k l0_5).bind fun t118 => (if t118 = true then (some (decide (a0_6 ≤ 4294967295))) else (some false))) else (some false))) = some r := by rw [if_pos rfl] at H; exact H
     clear H
     have H := H1
     clear H1
     replace H := Option.bind_eq_some_iff.mp H
     obtain ⟨t117, A310, H⟩ := H
     replace H : (if t117 = true then ((yc2.f k l0_5).bind fun t118 => (if t118 = true then (some (decide (a0_6 ≤ 4294967295))) else (some false))) else (some false)) = some r := H
     have A31 := Aside0.mk A310
     clear A310
     by_cases c32 : t117 = true
     rotate_left 1
     ·replace c32 := Bool.eq_false_iff.mpr c32
      subst c32
      have H1 : (some false) = some r := by rw [if_neg (show ¬ (false = true) by decide)] at H; exact H
      clear H
      have H := H1
      clear H1
      obtain rfl := Option.some.inj H
      go_enter Tryd.func23, Tryd.ntmps23
      go_wp2_with (first | ((with_reducible refine yc1 (N := 1) rfl ?_); refine yb9 ?hg (N := 1) ?hd (cs := #[.string a0_0, .string a0_1, .string a0_2, .string a0_3, .int .i64 a0_4, .slice A0_5 l0_5.length c0_5, .int .u64 a0_6]) (t := 38) ?hr ?_; (case hd => rfl); (case hg => rfl); (case hr => first | (go_simp; done) | (go_simp; rfl)); intro gb112 hg w39 hbox hb; have n0_ := Aside0.mk (yb1 (by repeat (first | (with_reducible first | exact HB.out | apply ya2 | apply ya0 | apply ya1) | exact HB.out)) hb); have n1_ := Aside0.mk (hbox); have n2_ := Aside0.mk ((by rw [hg]; exact (ya7 (by repeat (first | (with_reducible first | exact HB.out | apply ya2 | apply ya0 | apply ya1) | exact HB.out))) : w.heap.size ≤ gb112)); have n3_ := Aside0.mk ((by rw [hg]; exact (ya7 (by repeat (first | (with_reducible first | exact HB.out | apply ya2 | apply ya0 | apply ya1) | exact HB.out))) : w.heap.size ≤ gb112)); clear HB; have HB := n0_; have BK112 := n1_; have GW112 := n2_; have GE112 := n3_; clear n0_ n1_ n2_ n3_; clear hb hbox hg; obtain ⟨hcz40_0, hcz40_1, hcz40_2, hcz40_3, hcz40_4, hcz40_5, hcz40_6, hfz40_0, hfz40_1, hfz40_2, hfz40_3, hfz40_4, hfz40_5, hfz40_6⟩ := bx7 BK112.out) | (go_at_call 37; (with_reducible refine (yb6.calls k a0_3 true _ A29.out).mono ?_); rintro e w' ⟨rfl, ⟨nd, rfl⟩⟩) | (go_at_call 37; (with_reducible refine (yb6.calls k a0_2 false _ A31.out).mono ?_); rintro e w' ⟨rfl, ⟨nd, rfl⟩⟩))
      go_ret
      exact ⟨by first | rfl | (simp [yb0, ya9] <;> rfl) | (simp [*, yb0, ya9] <;> rfl), by repeat (first | (with_reducible first | exact HB.out | apply ya2 | apply ya0 | apply ya1 | refine ya3 ?_ GE112.out) | exact HB.out)⟩
     subst c32
     have H1 : ((yc2.f k l0_5).bind fun t118 => (if t118 = true then (some (decide (a0_6 ≤ 4294967295))) else (some false))) = some r := by rw [if_pos rfl] at H; exact H
     clear H
     have H := H1
     clear H1
     replace H := Option.bind_eq_some_iff.mp H
     obtain ⟨t118, A330, H⟩ := H
     replace H : (if t118 = true then (some (decide (a0_6 ≤ 4294967295))) else (some false)) = some r := H
     have A33 := Aside0.mk A330
     clear A330
     by_cases c34 : t118 = true
     ·subst c34
      have H1 : (some (decide (a0_6 ≤ 4294967295))) = some r := by rw [if_pos rfl] at H; exact H
      clear H
      have H := H1
      clear H1
      obtain rfl := Option.some.inj H
      go_enter Tryd.func23, Tryd.ntmps23
      go_wp2_with (first | ((with_reducible refine yc1 (N := 1) rfl ?_); refine yb9 ?hg (N := 1) ?hd (cs := #[.string a0_0, .string a0_1, .string a0_2, .string a0_3, .int .i64 a0_4, .slice A0_5 l0_5.length c0_5, .int .u64 a0_6]) (t := 38) ?hr ?_; (case hd => rfl); (case hg => rfl); (case hr => first | (go_simp; done) | (go_simp; rfl)); intro gb112 hg w35 hbox hb; have n0_ := Aside0.mk (yb1 (by repeat (first | (with_reducible first | exact HB.out | apply ya2 | apply ya0 | apply ya1) | exact HB.out)) hb); have n1_ := Aside0.mk (hbox); have n2_ := Aside0.mk ((by rw [hg]; exact (ya7 (by repeat (first | (with_reducible first | exact HB.out | apply ya2 | apply ya0 | apply ya1) | exact HB.out))) : w.heap.size ≤ gb112)); have n3_ := Aside0.mk ((by rw [hg]; exact (ya7 (by repeat (first | (with_reducible first | exact HB.out | apply ya2 | apply ya0 | apply ya1) | exact HB.out))) : w.heap.size ≤ gb112)); clear HB; have HB := n0_; have BK112 := n1_; have GW112 := n2_; have GE112 := n3_; clear n0_ n1_ n2_ n3_; clear hb hbox hg; obtain ⟨hcz36_0, hcz36_1, hcz36_2, hcz36_3, hcz36_4, hcz36_5, hcz36_6, hfz36_0, hfz36_1, hfz36_2, hfz36_3, hfz36_4, hfz36_5, hfz36_6⟩ := bx7 BK112.out) | (go_at_call 37; (with_reducible refine (yb6.calls k a0_3 true _ A29.out).mono ?_); rintro e w' ⟨rfl, ⟨nd, rfl⟩⟩) | (go_at_call 37; (with_reducible refine (yb6.calls k a0_2 true _ A31.out).mono ?_); rintro e w' ⟨rfl, ⟨nd, rfl⟩⟩) | (go_at_call 24; (with_reducible refine (yc2.calls k _ _ l0_5 true _ ?side1 ?side2 A33.out).mono ?_); (case side1 => repeat (first | exact (Kd.yc4 HR0_5.out (by repeat (first | (with_reducible first | exact HB.out | apply ya2 | apply ya0 | apply ya1 | refine ya3 ?_ GE112.out) | exact HB.out))) | (with_reducible refine Kd.yd2 ?_ _) | (with_reducible refine Kd.C_drewN ?_ _) | (with_reducible refine Kd.C_drew ?_))); (case side2 => exact HC0_5.out); rintro e w' ⟨rfl, ⟨nd, rfl⟩⟩))
      go_ret
      exact ⟨by first | rfl | (simp [yb0, ya9] <;> rfl) | (simp [*, yb0, ya9] <;> rfl), by repeat (first | (with_reducible first | exact HB.out | apply ya2 | apply ya0 | apply ya1 | refine ya3 ?_ GE112.out) | exact HB.out)⟩
     replace c34 := Bool.eq_false_iff.mpr c34
     subst c34
     have H1 : (some false) = some r := by rw [if_neg (show ¬ (false = true) by decide)] at H; exact H
     clear H
     have H := H1
     clear H1
     obtain rfl := Option.some.inj H
     go_enter Tryd.func23, Tryd.ntmps23
     go_wp2_with (first | ((with_reducible refine yc1 (N := 1) rfl ?_); refine yb9 ?hg (N := 1) ?hd (cs := #[.string a0_0, .string a0_1, .string a0_2, .string a0_3, .int .i64 a0_4, .slice A0_5 l0_5.length c0_5, .int .u64 a0_6]) (t := 38) ?hr ?_; (case hd => rfl); (case hg => rfl); (case hr => first | (go_simp; done) | (go_simp; rfl)); intro gb112 hg w37 hbox hb; have n0_ := Aside0.mk (yb1 (by repeat (first | (with_reducible first | exact HB.out | apply ya2 | apply ya0 | apply ya1) | exact HB.out)) hb); have n1_ := Aside0.mk (hbox); have n2_ := Aside0.mk ((by rw [hg]; exact (ya7 (by repeat (first | (with_reducible first | exact HB.out | apply ya2 | apply ya0 | apply ya1) | exact HB.out))) : w.heap.size ≤ gb112)); have n3_ := Aside0.mk ((by rw [hg]; exact (ya7 (by repeat (first | (with_reducible first | exact HB.out | apply ya2 | apply ya0 | apply ya1) | exact HB.out))) : w.heap.size ≤ gb112)); clear HB; have HB := n0_; have BK112 := n1_; have GW112 := n2_; have GE112 := n3_; clear n0_ n1_ n2_ n3_; clear hb hbox hg; obtain ⟨hcz38_0, hcz38_1, hcz38_2, hcz38_3, hcz38_4, hcz38_5, hcz38_6, hfz38_0, hfz38_1, hfz38_2, hfz38_3, hfz38_4, hfz38_5, hfz38_6⟩ := bx7 BK112.out) | (go_at_call 37; (with_reducible refine (yb6.calls k a0_3 true _ A29.out).mono ?_); rintro e w' ⟨rfl, ⟨nd, rfl⟩⟩) | (go_at_call 37; (with_reducible refine (yb6.calls k a0_2 true _ A31.out).mono ?_); rintro e w' ⟨rfl, ⟨nd, rfl⟩⟩) | (go_at_call 24; (with_reducible refine (yc2.calls k _ _ l0_5 false _ ?side1 ?side2 A33.out).mono ?_); (case side1 => repeat (first | exact (Kd.yc4 HR0_5.out (by repeat (first | (with_reducible first | exact HB.out | apply ya2 | apply ya0 | apply ya1 | refine ya3 ?_ GE112.out) | exact HB.out))) | (with_reducible refine Kd.yd2 ?_ _) | (with_reducible refine Kd.C_drewN ?_ _) | (with_reducible refine Kd.C_drew ?_))); (case side2 => exact HC0_5.out); rintro e w' ⟨rfl, ⟨nd, rfl⟩⟩))
     go_ret
     exact ⟨by first | rfl | (simp [yb0, ya9] <;> rfl) | (simp [*, yb0, ya9] <;> rfl), by repeat (first | (with_reducible first | exact HB.out | apply ya2 | apply ya0 | apply ya1 | refine ya3 ?_ GE112.out) | exact HB.out)⟩
   ·rw [if_neg c4] at H
    have c4b0 : decide (a0_4 ≤ 1000) = false := decide_eq_false c4
    clear c4
    by_cases c43 : a0_0.toList = ([] : List UInt8)
    rotate_left 1
    ·rw [if_neg c43] at H
     have c43b0 : (a0_0.toList == ([] : List UInt8)) = false := beq_eq_false_iff_ne.mpr c43
     have c43b1 : (a0_0.toList != ([] : List UInt8)) = true := bne_iff_ne.mpr c43
     obtain rfl := Option.some.inj H
     go_enter Tryd.func23, Tryd.ntmps23
     go_wp2_with (first | ((with_reducible refine yc1 (N := 1) rfl ?_); refine yb9 ?hg (N := 1) ?hd (cs := #[.string a0_0, .string a0_1, .string a0_2, .string a0_3, .int .i64 a0_4, .slice A0_5 l0_5.length c0_5, .int .u64 a0_6]) (t := 38) ?hr ?_; (case hd => rfl); (case hg => rfl); (case hr => first | (go_simp; done) | (go_simp; rfl)); intro gb112 hg w46 hbox hb; have n0_ := Aside0.mk (yb1 (by repeat (first | (with_reducible first | exact HB.out | apply ya2 | apply ya0 | apply ya1) | exact HB.out)) hb); have n1_ := Aside0.mk (hbox); have n2_ := Aside0.mk ((by rw [hg]; exact (ya7 (by repeat (first | (with_reducible first | exact HB.out | apply ya2 | apply ya0 | apply ya1) | exact HB.out))) : w.heap.size ≤ gb112)); have n3_ := Aside0.mk ((by rw [hg]; exact (ya7 (by repeat (first | (with_reducible first | exact HB.out | apply ya2 | apply ya0 | apply ya1) | exact HB.out))) : w.heap.size ≤ gb112)); clear HB; have HB := n0_; have BK112 := n1_; have GW112 := n2_; have GE112 := n3_; clear n0_ n1_ n2_ n3_; clear hb hbox hg; obtain ⟨hcz47_0, hcz47_1, hcz47_2, hcz47_3, hcz47_4, hcz47_5, hcz47_6, hfz47_0, hfz47_1, hfz47_2, hfz47_3, hfz47_4, hfz47_5, hfz47_6⟩ := bx7 BK112.out))
     go_ret
     exact ⟨by first | rfl | (simp [yb0, ya9] <;> rfl) | (simp [*, yb0, ya9] <;> rfl), by repeat (first | (with_reducible first | exact HB.out | apply ya2 | apply ya0 | apply ya1 | refine ya3 ?_ GE112.out) | exact HB.out)⟩
    rw [if_pos c43] at H
    have c43b0 : (a0_0.toList == ([] : List UInt8)) = true := beq_iff_eq.mpr c43
    have c43b1 : (a0_0.toList != ([] : List UInt8)) = false := bne_eq_false_iff_eq.mpr c43
    clear c43
    obtain rfl := Option.some.inj H
    go_enter Tryd.func23, Tryd.ntmps23
    go_wp2_with (first | ((with_reducible refine yc1 (N := 1) rfl ?_); refine yb9 ?hg (N := 1) ?hd (cs := #[.string a0_0, .string a0_1, .string a0_2, .string a0_3, .int .i64 a0_4, .slice A0_5 l0_5.length c0_5, .int .u64 a0_6]) (t := 38) ?hr ?_; (case hd => rfl); (case hg => rfl); (case hr => first | (go_simp; done) | (go_simp; rfl)); intro gb112 hg w44 hbox hb; have n0_ := Aside0.mk (yb1 (by repeat (first | (with_reducible first | exact HB.out | apply ya2 | apply ya0 | apply ya1) | exact HB.out)) hb); have n1_ := Aside0.mk (hbox); have n2_ := Aside0.mk ((by rw [hg]; exact (ya7 (by repeat (first | (with_reducible first | exact HB.out | apply ya2 | apply ya0 | apply ya1) | exact HB.out))) : w.heap.size ≤ gb112)); have n3_ := Aside0.mk ((by rw [hg]; exact (ya7 (by repeat (first | (with_reducible first | exact HB.out | apply ya2 | apply ya0 | apply ya1) | exact HB.out))) : w.heap.size ≤ gb112)); clear HB; have HB := n0_; have BK112 := n1_; have GW112 := n2_; have GE112 := n3_; clear n0_ n1_ n2_ n3_; clear hb hbox hg; obtain ⟨hcz45_0, hcz45_1, hcz45_2, hcz45_3, hcz45_4, hcz45_5, hcz45_6, hfz45_0, hfz45_1, hfz45_2, hfz45_3, hfz45_4, hfz45_5, hfz45_6⟩ := bx7 BK112.out))
    go_ret
    exact ⟨by first | rfl | (simp [yb0, ya9] <;> rfl) | (simp [*, yb0, ya9] <;> rfl), by repeat (first | (with_reducible first | exact HB.out | apply ya2 | apply ya0 | apply ya1 | refine ya3 ?_ GE112.out) | exact HB.out)⟩
  ·rw [if_neg c3] at H
   have c3b0 : decide (0 ≤ a0_4) = false := decide_eq_false c3
   clear c3
   by_cases c48 : a0_0.toList = ([] : List UInt8)
   rotate_left 1
   ·rw [if_neg c48] at H
    have c48b0 : (a0_0.toList == ([] : List UInt8)) = false := beq_eq_false_iff_ne.mpr c48
    have c48b1 : (a0_0.toList != ([] : List UInt8)) = true := bne_iff_ne.mpr c48
    obtain rfl := Option.some.inj H
    go_enter Tryd.func23, Tryd.ntmps23
    go_wp2_with (first | ((with_reducible refine yc1 (N := 1) rfl ?_); refine yb9 ?hg (N := 1) ?hd (cs := #[.string a0_0, .string a0_1, .string a0_2, .string a0_3, .int .i64 a0_4, .slice A0_5 l0_5.length c0_5, .int .u64 a0_6]) (t := 38) ?hr ?_; (case hd => rfl); (case hg => rfl); (case hr => first | (go_simp; done) | (go_simp; rfl)); intro gb112 hg w51 hbox hb; have n0_ := Aside0.mk (yb1 (by repeat (first | (with_reducible first | exact HB.out | apply ya2 | apply ya0 | apply ya1) | exact HB.out)) hb); have n1_ := Aside0.mk (hbox); have n2_ := Aside0.mk ((by rw [hg]; exact (ya7 (by repeat (first | (with_reducible first | exact HB.out | apply ya2 | apply ya0 | apply ya1) | exact HB.out))) : w.heap.size ≤ gb112)); have n3_ := Aside0.mk ((by rw [hg]; exact (ya7 (by repeat (first | (with_reducible first | exact HB.out | apply ya2 | apply ya0 | apply ya1) | exact HB.out))) : w.heap.size ≤ gb112)); clear HB; have HB := n0_; have BK112 := n1_; have GW112 := n2_; have GE112 := n3_; clear n0_ n1_ n2_ n3_; clear hb hbox hg; obtain ⟨hcz52_0, hcz52_1, hcz52_2, hcz52_3, hcz52_4, hcz52_5, hcz52_6, hfz52_0, hfz52_1, hfz52_2, hfz52_3, hfz52_4, hfz52_5, hfz52_6⟩ := bx7 BK112.out))
    go_ret
    exact ⟨by first | rfl | (simp [yb0, ya9] <;> rfl) | (simp [*, yb0, ya9] <;> rfl), by repeat (first | (with_reducible first | exact HB.out | apply ya2 | apply ya0 | apply ya1 | refine ya3 ?_ GE112.out) | exact HB.out)⟩
   rw [if_pos c48] at H
   have c48b0 : (a0_0.toList == ([] : List UInt8)) = true := beq_iff_eq.mpr c48
   have c48b1 : (a0_0.toList != ([] : List UInt8)) = false := bne_eq_false_iff_eq.mpr c48
   clear c48
   obtain rfl := Option.some.inj H
   go_enter Tryd.func23, Tryd.ntmps23
   go_wp2_with (first | ((with_reducible refine yc1 (N := 1) rfl ?_); refine yb9 ?hg (N := 1) ?hd (cs := #[.string a0_0, .string a0_1, .string a0_2, .string a0_3, .int .i64 a0_4, .slice A0_5 l0_5.length c0_5, .int .u64 a0_6]) (t := 38) ?hr ?_; (case hd => rfl); (case hg => rfl); (case hr => first | (go_simp; done) | (go_simp; rfl)); intro gb112 hg w49 hbox hb; have n0_ := Aside0.mk (yb1 (by repeat (first | (with_reducible first | exact HB.out | apply ya2 | apply ya0 | apply ya1) | exact HB.out)) hb); have n1_ := Aside0.mk (hbox); have n2_ := Aside0.mk ((by rw [hg]; exact (ya7 (by repeat (first | (with_reducible first | exact HB.out | apply ya2 | apply ya0 | apply ya1) | exact HB.out))) : w.heap.size ≤ gb112)); have n3_ := Aside0.mk ((by rw [hg]; exact (ya7 (by repeat (first | (with_reducible first | exact HB.out | apply ya2 | apply ya0 | apply ya1) | exact HB.out))) : w.heap.size ≤ gb112)); clear HB; have HB := n0_; have BK112 := n1_; have GW112 := n2_; have GE112 := n3_; clear n0_ n1_ n2_ n3_; clear hb hbox hg; obtain ⟨hcz50_0, hcz50_1, hcz50_2, hcz50_3, hcz50_4, hcz50_5, hcz50_6, hfz50_0, hfz50_1, hfz50_2, hfz50_3, hfz50_4, hfz50_5, hfz50_6⟩ := bx7 BK112.out))
   go_ret
   exact ⟨by first | rfl | (simp [yb0, ya9] <;> rfl) | (simp [*, yb0, ya9] <;> rfl), by repeat (first | (with_reducible first | exact HB.out | apply ya2 | apply ya0 | apply ya1 | refine ya3 ?_ GE112.out) | exact HB.out)⟩
 ·rw [if_neg c2] at H
  have c2b0 : (a0_1.toList == ([] : List UInt8)) = false := beq_eq_false_iff_ne.mpr c2
  have c2b1 : (a0_1.toList != ([] : List UInt8)) = true := bne_iff_ne.mpr c2
  by_cases c53 : a0_1.toList = ([111, 112, 101, 110] : List UInt8)
  ·rw [if_pos c53] at H
   have c53b0 : (a0_1.toList == ([111, 112, 101, 110] : List UInt8)) = true := beq_iff_eq.mpr c53
   have c53b1 : (a0_1.toList != ([111, 112, 101, 110] : List UInt8)) = false := bne_eq_false_iff_eq.mpr c53
   clear c53
   by_cases c54 : a0_4 ≥ 0
   ·rw [if_pos c54] at H
    have c54b0 : decide (0 ≤ a0_4) = true := decide_eq_true c54
    clear c54
    by_cases c55 : a0_4 ≤ 1000
    ·rw [if_pos c55] at H
     have c55b0 : decide (a0_4 ≤ 1000) = true := decide_eq_true c55
     clear c55
     by_cases c56 : a0_4 = 0
     ·rw [if_pos c56] at H
      have c56b0 : (a0_4 == 0) = true := beq_iff_eq.mpr c56
      have c56b1 : (a0_4 != 0) = false := bne_eq_false_iff_eq.mpr c56
      clear c56
      by_cases c57 : a0_0.toList = ([] : List UInt8)
      ·rw [if_pos c57] at H
       have c57b0 : (a0_0.toList == ([] : List UInt8)) = true := beq_iff_eq.mpr c57
       have c57b1 : (a0_0.toList != ([] : List UInt8)) = false := bne_eq_false_iff_eq.mpr c57
       clear c57
       obtain rfl := Option.some.inj H
       go_enter Tryd.func23, Tryd.ntmps23
       go_wp2_with (first | ((with_reducible refine yc1 (N := 1) rfl ?_); refine yb9 ?hg (N := 1) ?hd (cs := #[.string a0_0, .string a0_1, .string a0_2, .string a0_3, .int .i64 a0_4, .slice A0_5 l0_5.length c0_5, .int .u64 a0_6]) (t := 38) ?hr ?_; (case hd => rfl); (case hg => rfl); (case hr => first | (go_simp; done) | (go_simp; rfl)); intro gb112 hg w58 hbox hb; have n0_ := Aside0.mk (yb1 (by repeat (first | (with_reducible first | exact HB.out | apply ya2 | apply ya0 | apply ya1) | exact HB.out)) hb); have n1_ := Aside0.mk (hbox); have n2_ := Aside0.mk ((by rw [hg]; exact (ya7 (by repeat (first | (with_reducible first | exact HB.out | apply ya2 | apply ya0 | apply ya1) | exact HB.out))) : w.heap.size ≤ gb112)); have n3_ := Aside0.mk ((by rw [hg]; exact (ya7 (by repeat (first | (with_reducible first | exact HB.out | apply ya2 | apply ya0 | apply ya1) | exact HB.out))) : w.heap.size ≤ gb112)); clear HB; have HB := n0_; have BK112 := n1_; have GW112 := n2_; have GE112 := n3_; clear n0_ n1_ n2_ n3_; clear hb hbox hg; obtain ⟨hcz59_0, hcz59_1, hcz59_2, hcz59_3, hcz59_4, hcz59_5, hcz59_6, hfz59_0, hfz59_1, hfz59_2, hfz59_3, hfz59_4, hfz59_5, hfz59_6⟩ := bx7 BK112.out))
       go_ret
       exact ⟨by first | rfl | (simp [yb0, ya9] <;> rfl) | (simp [*, yb0, ya9] <;> rfl), by repeat (first | (with_reducible first | exact HB.out | apply ya2 | apply ya0 | apply ya1 | refine ya3 ?_ GE112.out) | exact HB.out)⟩
      rw [if_neg c57] at H
      have c57b0 : (a0_0.toList == ([] : List UInt8)) = false := beq_eq_false_iff_ne.mpr c57
      have c57b1 : (a0_0.toList != ([] : List UInt8)) = true := bne_iff_ne.mpr c57
      replace H := Option.bind_eq_some_iff.mp H
      obtain ⟨t119, A600, H⟩ := H
      replace H : (if t119 = true then ((yb6.f k a0_2).bind fun t120 => (if t120 = true then ((yc2.f k l0_5).bind fun t121 => (if t121 = true then (some (decide (a0_6 ≤ 4294967295))) else (some false))) else (some false))) else (some false)) = some r := H
      have A60 := Aside0.mk A600
      clear A600
      by_cases c61 : t119 = true
      rotate_left 1
      ·replace c61 := Bool.eq_false_iff.mpr c61
       subst c61
       have H1 : (some false) = some r := by rw [if_neg (show ¬ (false = true) by decide)] at H; exact H
       clear H
       have H := H1
       clear H1
       obtain rfl := Option.some.inj H
       go_enter Tryd.func23, Tryd.ntmps23
       go_wp2_with (first | ((with_reducible refine yc1 (N := 1) rfl ?_); refine yb9 ?hg (N := 1) ?hd (cs := #[.string a0_0, .string a0_1, .string a0_2, .string a0_3, .int .i64 a0_4, .slice A0_5 l0_5.length c0_5, .int .u64 a0_6]) (t := 38) ?hr ?_; (case hd => rfl); (case hg => rfl); (case hr => first | (go_simp; done) | (go_simp; rfl)); intro gb112 hg w72 hbox hb; have n0_ := Aside0.mk (yb1 (by repeat (first | (with_reducible first | exact HB.out | apply ya2 | apply ya0 | apply ya1) | exact HB.out)) hb); have n1_ := Aside0.mk (hbox); have n2_ := Aside0.mk ((by rw [hg]; exact (ya7 (by repeat (first | (with_reducible first | exact HB.out | apply ya2 | apply ya0 | apply ya1) | exact HB.out))) : w.heap.size ≤ gb112)); have n3_ := Aside0.mk ((by rw [hg]; exact (ya7 (by repeat (first | (with_reducible first | exact HB.out | apply ya2 | apply ya0 | apply ya1) | exact HB.out))) : w.heap.size ≤ gb112)); clear HB; have HB := n0_; have BK112 := n1_; have GW112 := n2_; have GE112 := n3_; clear n0_ n1_ n2_ n3_; clear hb hbox hg; obtain ⟨hcz73_0, hcz73_1, hcz73_2, hcz73_3, hcz73_4, hcz73_5, hcz73_6, hfz73_0, hfz73_1, hfz73_2, hfz73_3, hfz73_4, hfz73_5, hfz73_6⟩ := bx7 BK112.out) | (go_at_call 37; (with_reducible refine (yb6.calls k a0_3 false _ A60.out).mono ?_); rintro e w' ⟨rfl, ⟨nd, rfl⟩⟩))
       go_ret
       exact ⟨by first | rfl | (simp [yb0, ya9] <;> rfl) | (simp [*, yb0, ya9] <;> rfl), by repeat (first | (with_reducible first | exact HB.out | apply ya2 | apply ya0 | apply ya1 | refine ya3 ?_ GE112.out) | exact HB.out)⟩
      subst c61
      have H1 : ((yb6.f k a0_2).bind fun t120 => (if t120 = true then ((yc2.f k l0_5).bind fun t121 => (if t121 = true then (some (decide (a0_6 ≤ 4294967295))) else (some false))) else (some false))) = some r := by rw [if_pos rfl] at H; exact H
      clear H
      have H := H1
      clear H1
      replace H := Option.bind_eq_some_iff.mp H
      obtain ⟨t120, A620, H⟩ := H
      replace H : (if t120 = true then ((yc2.f k l0_5).bind fun t121 => (if t121 = true then (some (decide (a0_6 ≤ 4294967295))) else (some false))) else (some false)) = some r := H
      have A62 := Aside0.mk A620
      clear A620
      by_cases c63 : t120 = true
      rotate_left 1
      ·replace c63 := Bool.eq_false_iff.mpr c63
       subst c63
       have H1 : (some false) = some r := by rw [if_neg (show ¬ (false = true) by decide)] at H; exact H
       clear H
       have H := H1
       clear H1
       obtain rfl := Option.some.inj H
       go_enter Tryd.func23, Tryd.ntmps23
       go_wp2_with (first | ((with_reducible refine yc1 (N := 1) rfl ?_); refine yb9 ?hg (N := 1) ?hd (cs := #[.string a0_0, .string a0_1, .string a0_2, .string a0_3, .int .i64 a0_4, .slice A0_5 l0_5.length c0_5, .int .u64 a0_6]) (t := 38) ?hr ?_; (case hd => rfl); (case hg => rfl); (case hr => first | (go_simp; done) | (go_simp; rfl)); intro gb112 hg w70 hbox hb; have n0_ := Aside0.mk (yb1 (by repeat (first | (with_reducible first | exact HB.out | apply ya2 | apply ya0 | apply ya1) | exact HB.out)) hb); have n1_ := Aside0.mk (hbox); have n2_ := Aside0.mk ((by rw [hg]; exact (ya7 (by repeat (first | (with_reducible first | exact HB.out | apply ya2 | apply ya0 | apply ya1) | exact HB.out))) : w.heap.size ≤ gb112)); have n3_ := Aside0.mk ((by rw [hg]; exact (ya7 (by repeat (first | (with_reducible first | exact HB.out | apply ya2 | apply ya0 | apply ya1) | exact HB.out))) : w.heap.size ≤ gb112)); clear HB; have HB := n0_; have BK112 := n1_; have GW112 := n2_; have GE112 := n3_; clear n0_ n1_ n2_ n3_; clear hb hbox hg; obtain ⟨hcz71_0, hcz71_1, hcz71_2, hcz71_3, hcz71_4, hcz71_5, hcz71_6, hfz71_0, hfz71_1, hfz71_2, hfz71_3, hfz71_4, hfz71_5, hfz71_6⟩ := bx7 BK112.out) | (go_at_call 37; (with_reducible refine (yb6.calls k a0_3 true _ A60.out).mono ?_); rintro e w' ⟨rfl, ⟨nd, rfl⟩⟩) | (go_at_call 37; (with_reducible refine (yb6.calls k a0_2 false _ A62.out).mono ?_); rintro e w' ⟨rfl, ⟨nd, rfl⟩⟩))
       go_ret
       exact ⟨by first | rfl | (simp [yb0, ya9] <;> rfl) | (simp [*, yb0, ya9] <;> rfl), by repeat (first | (with_reducible first | exact HB.out | apply ya2 | apply ya0 | apply ya1 | refine ya3 ?_ GE112.out) | exact HB.out)⟩
      subst c63
      have H1 : ((yc2.f k l0_5).bind fun t121 => (if t121 = true then (some (decide (a0_6 ≤ 4294967295))) else (some false))) = some r := by rw [if_pos rfl] at H; exact H
      clear H
      have H := H1
      clear H1
      replace H := Option.bind_eq_some_iff.mp H
      obtain ⟨t121, A640, H⟩ := H
      replace H : (if t121 = true then (some (decide (a0_6 ≤ 4294967295))) else (some false)) = some r := H
      have A64 := Aside0.mk A640
      clear A640
      by_cases c65 : t121 = true
      ·subst c65
       have H1 : (some (decide (a0_6 ≤ 4294967295))) = some r := by rw [if_pos rfl] at H; exact H
       clear H
       have H := H1
       clear H1
       obtain rfl := Option.some.inj H
       go_enter Tryd.func23, Tryd.ntmps23
       go_wp2_with (first | ((with_reducible refine yc1 (N := 1) rfl ?_); refine yb9 ?hg (N := 1) ?hd (cs := #[.string a0_0, .string a0_1, .string a0_2, .string a0_3, .int .i64 a0_4, .slice A0_5 l0_5.length c0_5, .int .u64 a0_6]) (t := 38) ?hr ?_; (case hd => rfl); (case hg => rfl); (case hr => first | (go_simp; done) | (go_simp; rfl)); intro gb112 hg w66 hbox hb; have n0_ := Aside0.mk (yb1 (by repeat (first | (with_reducible first | exact HB.out | apply ya2 | apply ya0 | apply ya1) | exact HB.out)) hb); have n1_ := Aside0.mk (hbox); have n2_ := Aside0.mk ((by rw [hg]; exact (ya7 (by repeat (first | (with_reducible first | exact HB.out | apply ya2 | apply ya0 | apply ya1) | exact HB.out))) : w.heap.size ≤ gb112)); have n3_ := Aside0.mk ((by rw [hg]; exact (ya7 (by repeat (first | (with_reducible first | exact HB.out | apply ya2 | apply ya0 | apply ya1) | exact HB.out))) : w.heap.size ≤ gb112)); clear HB; have HB := n0_; have BK112 := n1_; have GW112 := n2_; have GE112 := n3_; clear n0_ n1_ n2_ n3_; clear hb hbox hg; obtain ⟨hcz67_0, hcz67_1, hcz67_2, hcz67_3, hcz67_4, hcz67_5, hcz67_6, hfz67_0, hfz67_1, hfz67_2, hfz67_3, hfz67_4, hfz67_5, hfz67_6⟩ := bx7 BK112.out) | (go_at_call 37; (with_reducible refine (yb6.calls k a0_3 true _ A60.out).mono ?_); rintro e w' ⟨rfl, ⟨nd, rfl⟩⟩) | (go_at_call 37; (with_reducible refine (yb6.calls k a0_2 true _ A62.out).mono ?_); rintro e w' ⟨rfl, ⟨nd, rfl⟩⟩) | (go_at_call 24; (with_reducible refine (yc2.calls k _ _ l0_5 true _ ?side1 ?side2 A64.out).mono ?_); (case side1 => repeat (first | exact (Kd.yc4 HR0_5.out (by repeat (first | (with_reducible first | exact HB.out | apply ya2 | apply ya0 | apply ya1 | refine ya3 ?_ GE112.out) | exact HB.out))) | (with_reducible refine Kd.yd2 ?_ _) | (with_reducible refine Kd.C_drewN ?_ _) | (with_reducible refine Kd.C_drew ?_))); (case side2 => exact HC0_5.out); rintro e w' ⟨rfl, ⟨nd, rfl⟩⟩))
       go_ret
       exact ⟨by first | rfl | (simp [yb0, ya9] <;> rfl) | (simp [*, yb0, ya9] <;> rfl), by repeat (first | (with_reducible first | exact HB.out | apply ya2 | apply ya0 | apply ya1 | refine ya3 ?_ GE112.out) | exact HB.out)⟩
      replace c65 := Bool.eq_false_iff.mpr c65
      subst c65
      have H1 : (some false) = some r := by rw [if_neg (show ¬ (false = true) by decide)] at H; exact H
      clear H
      have H := H1
      clear H1
      obtain rfl := Option.some.inj H
      go_enter Tryd.func23, Tryd.ntmps23
      go_wp2_with (first | ((with_reducible refine yc1 (N := 1) rfl ?_); refine yb9 ?hg (N := 1) ?hd (cs := #[.string a0_0, .string a0_1, .string a0_2, .string a0_3, .int .i64 a0_4, .slice A0_5 l0_5.length c0_5, .int .u64 a0_6]) (t := 38) ?hr ?_; (case hd => rfl); (case hg => rfl); (case hr => first | (go_simp; done) | (go_simp; rfl)); intro gb112 hg w68 hbox hb; have n0_ := Aside0.mk (yb1 (by repeat (first | (with_reducible first | exact HB.out | apply ya2 | apply ya0 | apply ya1) | exact HB.out)) hb); have n1_ := Aside0.mk (hbox); have n2_ := Aside0.mk ((by rw [hg]; exact (ya7 (by repeat (first | (with_reducible first | exact HB.out | apply ya2 | apply ya0 | apply ya1) | exact HB.out))) : w.heap.size ≤ gb112)); have n3_ := Aside0.mk ((by rw [hg]; exact (ya7 (by repeat (first | (with_reducible first | exact HB.out | apply ya2 | apply ya0 | apply ya1) | exact HB.out))) : w.heap.size ≤ gb112)); clear HB; have HB := n0_; have BK112 := n1_; have GW112 := n2_; have GE112 := n3_; clear n0_ n1_ n2_ n3_; clear hb hbox hg; obtain ⟨hcz69_0, hcz69_1, hcz69_2, hcz69_3, hcz69_4, hcz69_5, hcz69_6, hfz69_0, hfz69_1, hfz69_2, hfz69_3, hfz69_4, hfz69_5, hfz69_6⟩ := bx7 BK112.out) | (go_at_call 37; (with_reducible refine (yb6.calls k a0_3 true _ A60.out).mono ?_); rintro e w' ⟨rfl, ⟨nd, rfl⟩⟩) | (go_at_call 37; (with_reducible refine (yb6.calls k a0_2 true _ A62.out).mono ?_); rintro e w' ⟨rfl, ⟨nd, rfl⟩⟩) | (go_at_call 24; (with_reducible refine (yc2.calls k _ _ l0_5 false _ ?side1 ?side2 A64.out).mono ?_); (case side1 => repeat (first | exact (Kd.yc4 HR0_5.out (by repeat (first | (with_reducible first | exact HB.out | apply ya2 | apply ya0 | apply ya1 | refine ya3 ?_ GE112.out) | exact HB.out))) | (with_reducible refine Kd.yd2 ?_ _) | (with_reducible refine Kd.C_drewN ?_ _) | (with_reducible refine Kd.C_drew ?_))); (case side2 => exact HC0_5.out); rintro e w' ⟨rfl, ⟨nd, rfl⟩⟩))
      go_ret
      exact ⟨by first | rfl | (simp [yb0, ya9] <;> rfl) | (simp [*, yb0, ya9] <;> rfl), by repeat (first | (with_reducible first | exact HB.out | apply ya2 | apply ya0 | apply ya1 | refine ya3 ?_ GE112.out) | exact HB.out)⟩
     ·rw [if_neg c56] at H
      have c56b0 : (a0_4 == 0) = false := beq_eq_false_iff_ne.mpr c56
      have c56b1 : (a0_4 != 0) = true := bne_iff_ne.mpr c56
      by_cases c74 : a0_0.toList = ([] : List UInt8)
      ·rw [if_pos c74] at H
       have c74b0 : (a0_0.toList == ([] : List UInt8)) = true := beq_iff_eq.mpr c74
       have c74b1 : (a0_0.toList != ([] : List UInt8)) = false := bne_eq_false_iff_eq.mpr c74
       clear c74
       obtain rfl := Option.some.inj H
       go_enter Tryd.func23, Tryd.ntmps23
       go_wp2_with (first | ((with_reducible refine yc1 (N := 1) rfl ?_); refine yb9 ?hg (N := 1) ?hd (cs := #[.string a0_0, .string a0_1, .string a0_2, .string a0_3, .int .i64 a0_4, .slice A0_5 l0_5.length c0_5, .int .u64 a0_6]) (t := 38) ?hr ?_; (case hd => rfl); (case hg => rfl); (case hr => first | (go_simp; done) | (go_simp; rfl)); intro gb112 hg w75 hbox hb; have n0_ := Aside0.mk (yb1 (by repeat (first | (with_reducible first | exact HB.out | apply ya2 | apply ya0 | apply ya1) | exact HB.out)) hb); have n1_ := Aside0.mk (hbox); have n2_ := Aside0.mk ((by rw [hg]; exact (ya7 (by repeat (first | (with_reducible first | exact HB.out | apply ya2 | apply ya0 | apply ya1) | exact HB.out))) : w.heap.size ≤ gb112)); have n3_ := Aside0.mk ((by rw [hg]; exact (ya7 (by repeat (first | (with_reducible first | exact HB.out | apply ya2 | apply ya0 | apply ya1) | exact HB.out))) : w.heap.size ≤ gb112)); clear HB; have HB := n0_; have BK112 := n1_; have GW112 := n2_; have GE112 := n3_; clear n0_ n1_ n2_ n3_; clear hb hbox hg; obtain ⟨hcz76_0, hcz76_1, hcz76_2, hcz76_3, hcz76_4, hcz76_5, hcz76_6, hfz76_0, hfz76_1, hfz76_2, hfz76_3, hfz76_4, hfz76_5, hfz76_6⟩ := bx7 BK112.out))
       go_ret
       exact ⟨by first | rfl | (simp [yb0, ya9] <;> rfl) | (simp [*, yb0, ya9] <;> rfl), by repeat (first | (with_reducible first | exact HB.out | apply ya2 | apply ya0 | apply ya1 | refine ya3 ?_ GE112.out) | exact HB.out)⟩
      rw [if_neg c74] at H
      have c74b0 : (a0_0.toList == ([] : List UInt8)) = false := beq_eq_false_iff_ne.mpr c74
      have c74b1 : (a0_0.toList != ([] : List UInt8)) = true := bne_iff_ne.mpr c74
      by_cases c77 : a0_2.toList = ([] : List UInt8)
      ·rw [if_pos c77] at H
       have c77b0 : (a0_2.toList == ([] : List UInt8)) = true := beq_iff_eq.mpr c77
       have c77b1 : (a0_2.toList != ([] : List UInt8)) = false := bne_eq_false_iff_eq.mpr c77
       clear c77
       obtain rfl := Option.some.inj H
       go_enter Tryd.func23, Tryd.ntmps23
       go_wp2_with (first | ((with_reducible refine yc1 (N := 1) rfl ?_); refine yb9 ?hg (N := 1) ?hd (cs := #[.string a0_0, .string a0_1, .string a0_2, .string a0_3, .int .i64 a0_4, .slice A0_5 l0_5.length c0_5, .int .u64 a0_6]) (t := 38) ?hr ?_; (case hd => rfl); (case hg => rfl); (case hr => first | (go_simp; done) | (go_simp; rfl)); intro gb112 hg w78 hbox hb; have n0_ := Aside0.mk (yb1 (by repeat (first | (with_reducible first | exact HB.out | apply ya2 | apply ya0 | apply ya1) | exact HB.out)) hb); have n1_ := Aside0.mk (hbox); have n2_ := Aside0.mk ((by rw [hg]; exact (ya7 (by repeat (first | (with_reducible first | exact HB.out | apply ya2 | apply ya0 | apply ya1) | exact HB.out))) : w.heap.size ≤ gb112)); have n3_ := Aside0.mk ((by rw [hg]; exact (ya7 (by repeat (first | (with_reducible first | exact HB.out | apply ya2 | apply ya0 | apply ya1) | exact HB.out))) : w.heap.size ≤ gb112)); clear HB; have HB := n0_; have BK112 := n1_; have GW112 := n2_; have GE112 := n3_; clear n0_ n1_ n2_ n3_; clear hb hbox hg; obtain ⟨hcz79_0, hcz79_1, hcz79_2, hcz79_3, hcz79_4, hcz79_5, hcz79_6, hfz79_0, hfz79_1, hfz79_2, hfz79_3, hfz79_4, hfz79_5, hfz79_6⟩ := bx7 BK112.out))
       go_ret
       exact ⟨by first | rfl | (simp [yb0, ya9] <;> rfl) | (simp [*, yb0, ya9] <;> rfl), by repeat (first | (with_reducible first | exact HB.out | apply ya2 | apply ya0 | apply ya1 | refine ya3 ?_ GE112.out) | exact HB.out)⟩
      rw [if_neg c77] at H
      have c77b0 : (a0_2.toList == ([] : List UInt8)) = false := beq_eq_false_iff_ne.mpr c77
      have c77b1 : (a0_2.toList != ([] : List UInt8)) = true := bne_iff_ne.mpr c77
      replace H := Option.bind_eq_some_iff.mp H
      obtain ⟨t122, A800, H⟩ := H
      replace H : (if t122 = true then ((yb6.f k a0_2).bind fun t123 => (if t123 = true then ((yc2.f k l0_5).bind fun t124 => (if t124 = true then (some (decide (a0_6 ≤ 4294967295))) else (some false))) else (some false))) else (some false)) = some r := H
      have A80 := Aside0.mk A800
      clear A800
      by_cases c81 : t122 = true
      rotate_left 1
      ·replace c81 := Bool.eq_false_iff.mpr c81
       subst c81
       have H1 : (some false) = some r := by rw [if_neg (show ¬ (false = true) by decide)] at H; exact H
       clear H
       have H := H1
       clear H1
       obtain rfl := Option.some.inj H
       go_enter Tryd.func23, Tryd.ntmps23
       go_wp2_with (first | ((with_reducible refine yc1 (N := 1) rfl ?_); refine yb9 ?hg (N := 1) ?hd (cs := #[.string a0_0, .string a0_1, .string a0_2, .string a0_3, .int .i64 a0_4, .slice A0_5 l0_5.length c0_5, .int .u64 a0_6]) (t := 38) ?hr ?_; (case hd => rfl); (case hg => rfl); (case hr => first | (go_simp; done) | (go_simp; rfl)); intro gb112 hg w92 hbox hb; have n0_ := Aside0.mk (yb1 (by repeat (first | (with_reducible first | exact HB.out | apply ya2 | apply ya0 | apply ya1) | exact HB.out)) hb); have n1_ := Aside0.mk (hbox); have n2_ := Aside0.mk ((by rw [hg]; exact (ya7 (by repeat (first | (with_reducible first | exact HB.out | apply ya2 | apply ya0 | apply ya1) | exact HB.out))) : w.heap.size ≤ gb112)); have n3_ := Aside0.mk ((by rw [hg]; exact (ya7 (by repeat (first | (with_reducible first | exact HB.out | apply ya2 | apply ya0 | apply ya1) | exact HB.out))) : w.heap.size ≤ gb112)); clear HB; have HB := n0_; have BK112 := n1_; have GW112 := n2_; have GE112 := n3_; clear n0_ n1_ n2_ n3_; clear hb hbox hg; obtain ⟨hcz93_0, hcz93_1, hcz93_2, hcz93_3, hcz93_4, hcz93_5, hcz93_6, hfz93_0, hfz93_1, hfz93_2, hfz93_3, hfz93_4, hfz93_5, hfz93_6⟩ := bx7 BK112.out) | (go_at_call 37; (with_reducible refine (yb6.calls k a0_3 false _ A80.out).mono ?_); rintro e w' ⟨rfl, ⟨nd, rfl⟩⟩))
       go_ret
       exact ⟨by first | rfl | (simp [yb0, ya9] <;> rfl) | (simp [*, yb0, ya9] <;> rfl), by repeat (first | (with_reducible first | exact HB.out | apply ya2 | apply ya0 | apply ya1 | refine ya3 ?_ GE112.out) | exact HB.out)⟩
      subst c81
      have H1 : ((yb6.f k a0_2).bind fun t123 => (if t123 = true then ((yc2.f k l0_5).bind fun t124 => (if t124 = true then (some (decide (a0_6 ≤ 4294967295))) else (some false))) else (some false))) = some r := by rw [if_pos rfl] at H; exact H
      clear H
      have H := H1
      clear H1
      replace H := Option.bind_eq_some_iff.mp H
      obtain ⟨t123, A820, H⟩ := H
      replace H : (if t123 = true then ((yc2.f k l0_5).bind fun t124 => (if t124 = true then (some (decide (a0_6 ≤ 4294967295))) else (some false))) else (some false)) = some r := H
      have A82 := Aside0.mk A820
      clear A820
      by_cases c83 : t123 = true
      rotate_left 1
      ·replace c83 := Bool.eq_false_iff.mpr c83
       subst c83
       have H1 : (some false) = some r := by rw [if_neg (show ¬ (false = true) by decide)] at H; exact H
       clear H
       have H := H1
       clear H1
       obtain rfl := Option.some.inj H
       go_enter Tryd.func23, Tryd.ntmps23
       go_wp2_with (first | ((with_reducible refine yc1 (N := 1) rfl ?_); refine yb9 ?hg (N := 1) ?hd (cs := #[.string a0_0, .string a0_1, .string a0_2, .string a0_3, .int .i64 a0_4, .slice A0_5 l0_5.length c0_5, .int .u64 a0_6]) (t := 38) ?hr ?_; (case hd => rfl); (case hg => rfl); (case hr => first | (go_simp; done) | (go_simp; rfl)); intro gb112 hg w90 hbox hb; have n0_ := Aside0.mk (yb1 (by repeat (first | (with_reducible first | exact HB.out | apply ya2 | apply ya0 | apply ya1) | exact HB.out)) hb); have n1_ := Aside0.mk (hbox); have n2_ := Aside0.mk ((by rw [hg]; exact (ya7 (by repeat (first | (with_reducible first | exact HB.out | apply ya2 | apply ya0 | apply ya1) | exact HB.out))) : w.heap.size ≤ gb112)); have n3_ := Aside0.mk ((by rw [hg]; exact (ya7 (by repeat (first | (with_reducible first | exact HB.out | apply ya2 | apply ya0 | apply ya1) | exact HB.out))) : w.heap.size ≤ gb112)); clear HB; have HB := n0_; have BK112 := n1_; have GW112 := n2_; have GE112 := n3_; clear n0_ n1_ n2_ n3_; clear hb hbox hg; obtain ⟨hcz91_0, hcz91_1, hcz91_2, hcz91_3, hcz91_4, hcz91_5, hcz91_6, hfz91_0, hfz91_1, hfz91_2, hfz91_3, hfz91_4, hfz91_5, hfz91_6⟩ := bx7 BK112.out) | (go_at_call 37; (with_reducible refine (yb6.calls k a0_3 true _ A80.out).mono ?_); rintro e w' ⟨rfl, ⟨nd, rfl⟩⟩) | (go_at_call 37; (with_reducible refine (yb6.calls k a0_2 false _ A82.out).mono ?_); rintro e w' ⟨rfl, ⟨nd, rfl⟩⟩))
       go_ret
       exact ⟨by first | rfl | (simp [yb0, ya9] <;> rfl) | (simp [*, yb0, ya9] <;> rfl), by repeat (first | (with_reducible first | exact HB.out | apply ya2 | apply ya0 | apply ya1 | refine ya3 ?_ GE112.out) | exact HB.out)⟩
      subst c83
      have H1 : ((yc2.f k l0_5).bind fun t124 => (if t124 = true then (some (decide (a0_6 ≤ 4294967295))) else (some false))) = some r := by rw [if_pos rfl] at H; exact H
      clear H
      have H := H1
      clear H1
      replace H := Option.bind_eq_some_iff.mp H
      obtain ⟨t124, A840, H⟩ := H
      replace H : (if t124 = true then (some (decide (a0_6 ≤ 4294967295))) else (some false)) = some r := H
      have A84 := Aside0.mk A840
      clear A840
      by_cases c85 : t124 = true
      ·subst c85
       have H1 : (some (decide (a0_6 ≤ 4294967295))) = some r := by rw [if_pos rfl] at H; exact H
       clear H
       have H := H1
       clear H1
       obtain rfl := Option.some.inj H
       go_enter Tryd.func23, Tryd.ntmps23
       go_wp2_with (first | ((with_reducible refine yc1 (N := 1) rfl ?_); refine yb9 ?hg (N := 1) ?hd (cs := #[.string a0_0, .string a0_1, .string a0_2, .string a0_3, .int .i64 a0_4, .slice A0_5 l0_5.length c0_5, .int .u64 a0_6]) (t := 38) ?hr ?_; (case hd => rfl); (case hg => rfl); (case hr => first | (go_simp; done) | (go_simp; rfl)); intro gb112 hg w86 hbox hb; have n0_ := Aside0.mk (yb1 (by repeat (first | (with_reducible first | exact HB.out | apply ya2 | apply ya0 | apply ya1) | exact HB.out)) hb); have n1_ := Aside0.mk (hbox); have n2_ := Aside0.mk ((by rw [hg]; exact (ya7 (by repeat (first | (with_reducible first | exact HB.out | apply ya2 | apply ya0 | apply ya1) | exact HB.out))) : w.heap.size ≤ gb112)); have n3_ := Aside0.mk ((by rw [hg]; exact (ya7 (by repeat (first | (with_reducible first | exact HB.out | apply ya2 | apply ya0 | apply ya1) | exact HB.out))) : w.heap.size ≤ gb112)); clear HB; have HB := n0_; have BK112 := n1_; have GW112 := n2_; have GE112 := n3_; clear n0_ n1_ n2_ n3_; clear hb hbox hg; obtain ⟨hcz87_0, hcz87_1, hcz87_2, hcz87_3, hcz87_4, hcz87_5, hcz87_6, hfz87_0, hfz87_1, hfz87_2, hfz87_3, hfz87_4, hfz87_5, hfz87_6⟩ := bx7 BK112.out) | (go_at_call 37; (with_reducible refine (yb6.calls k a0_3 true _ A80.out).mono ?_); rintro e w' ⟨rfl, ⟨nd, rfl⟩⟩) | (go_at_call 37; (with_reducible refine (yb6.calls k a0_2 true _ A82.out).mono ?_); rintro e w' ⟨rfl, ⟨nd, rfl⟩⟩) | (go_at_call 24; (with_reducible refine (yc2.calls k _ _ l0_5 true _ ?side1 ?side2 A84.out).mono ?_); (case side1 => repeat (first | exact (Kd.yc4 HR0_5.out (by repeat (first | (with_reducible first | exact HB.out | apply ya2 | apply ya0 | apply ya1 | refine ya3 ?_ GE112.out) | exact HB.out))) | (with_reducible refine Kd.yd2 ?_ _) | (with_reducible refine Kd.C_drewN ?_ _) | (with_reducible refine Kd.C_drew ?_))); (case side2 => exact HC0_5.out); rintro e w' ⟨rfl, ⟨nd, rfl⟩⟩))
       go_ret
       exact ⟨by first | rfl | (simp [yb0, ya9] <;> rfl) | (simp [*, yb0, ya9] <;> rfl), by repeat (first | (with_reducible first | exact HB.out | apply ya2 | apply ya0 | apply ya1 | refine ya3 ?_ GE112.out) | exact HB.out)⟩
      replace c85 := Bool.eq_false_iff.mpr c85
      subst c85
      have H1 : (some false) = some r := by rw [if_neg (show ¬ (false = true) by decide)] at H; exact H
      clear H
      have H := H1
      clear H1
      obtain rfl := Option.some.inj H
      go_enter Tryd.func23, Tryd.ntmps23
      go_wp2_with (first | ((with_reducible refine yc1 (N := 1) rfl ?_); refine yb9 ?hg (N := 1) ?hd (cs := #[.string a0_0, .string a0_1, .string a0_2, .string a0_3, .int .i64 a0_4, .slice A0_5 l0_5.length c0_5, .int .u64 a0_6]) (t := 38) ?hr ?_; (case hd => rfl); (case hg => rfl); (case hr => first | (go_simp; done) | (go_simp; rfl)); intro gb112 hg w88 hbox hb; have n0_ := Aside0.mk (yb1 (by repeat (first | (with_reducible first | exact HB.out | apply ya2 | apply ya0 | apply ya1) | exact HB.out)) hb); have n1_ := Aside0.mk (hbox); have n2_ := Aside0.mk ((by rw [hg]; exact (ya7 (by repeat (first | (with_reducible first | exact HB.out | apply ya2 | apply ya0 | apply ya1) | exact HB.out))) : w.heap.size ≤ gb112)); have n3_ := Aside0.mk ((by rw [hg]; exact (ya7 (by repeat (first | (with_reducible first | exact HB.out | apply ya2 | apply ya0 | apply ya1) | exact HB.out))) : w.heap.size ≤ gb112)); clear HB; have HB := n0_; have BK112 := n1_; have GW112 := n2_; have GE112 := n3_; clear n0_ n1_ n2_ n3_; clear hb hbox hg; obtain ⟨hcz89_0, hcz89_1, hcz89_2, hcz89_3, hcz89_4, hcz89_5, hcz89_6, hfz89_0, hfz89_1, hfz89_2, hfz89_3, hfz89_4, hfz89_5, hfz89_6⟩ := bx7 BK112.out) | (go_at_call 37; (with_reducible refine (yb6.calls k a0_3 true _ A80.out).mono ?_); rintro e w' ⟨rfl, ⟨nd, rfl⟩⟩) | (go_at_call 37; (with_reducible refine (yb6.calls k a0_2 true _ A82.out).mono ?_); rintro e w' ⟨rfl, ⟨nd, rfl⟩⟩) | (go_at_call 24; (with_reducible refine (yc2.calls k _ _ l0_5 false _ ?side1 ?side2 A84.out).mono ?_); (case side1 => repeat (first | exact (Kd.yc4 HR0_5.out (by repeat (first | (with_reducible first | exact HB.out | apply ya2 | apply ya0 | apply ya1 | refine ya3 ?_ GE112.out) | exact HB.out))) | (with_reducible refine Kd.yd2 ?_ _) | (with_reducible refine Kd.C_drewN ?_ _) | (with_reducible refine Kd.C_drew ?_))); (case side2 => exact HC0_5.out); rintro e w' ⟨rfl, ⟨nd, rfl⟩⟩))
      go_ret
      exact ⟨by first | rfl | (simp [yb0, ya9] <;> rfl) | (simp [*, yb0, ya9] <;> rfl), by repeat (first | (with_reducible first | exact HB.out | apply ya2 | apply ya0 | apply ya1 | refine ya3 ?_ GE112.out) | exact HB.out)⟩
    ·rw [if_neg c55] at H
     have c55b0 : decide (a0_4 ≤ 1000) = false := decide_eq_false c55
     clear c55
     by_cases c94 : a0_0.toList = ([] : List UInt8)
     rotate_left 1
     ·rw [if_neg c94] at H
      have c94b0 : (a0_0.toList == ([] : List UInt8)) = false := beq_eq_false_iff_ne.mpr c94
      have c94b1 : (a0_0.toList != ([] : List UInt8)) = true := bne_iff_ne.mpr c94
      obtain rfl := Option.some.inj H
      go_enter Tryd.func23, Tryd.ntmps23
      go_wp2_with (first | ((with_reducible refine yc1 (N := 1) rfl ?_); refine yb9 ?hg (N := 1) ?hd (cs := #[.string a0_0, .string a0_1, .string a0_2, .string a0_3, .int .i64 a0_4, .slice A0_5 l0_5.length c0_5, .int .u64 a0_6]) (t := 38) ?hr ?_; (case hd => rfl); (case hg => rfl); (case hr => first | (go_simp; done) | (go_simp; rfl)); intro gb112 hg w97 hbox hb; have n0_ := Aside0.mk (yb1 (by repeat (first | (with_reducible first | exact HB.out | apply ya2 | apply ya0 | apply ya1) | exact HB.out)) hb); have n1_ := Aside0.mk (hbox); have n2_ := Aside0.mk ((by rw [hg]; exact (ya7 (by repeat (first | (with_reducible first | exact HB.out | apply ya2 | apply ya0 | apply ya1) | exact HB.out))) : w.heap.size ≤ gb112)); have n3_ := Aside0.mk ((by rw [hg]; exact (ya7 (by repeat (first | (with_reducible first | exact HB.out | apply ya2 | apply ya0 | apply ya1) | exact HB.out))) : w.heap.size ≤ gb112)); clear HB; have HB := n0_; have BK112 := n1_; have GW112 := n2_; have GE112 := n3_; clear n0_ n1_ n2_ n3_; clear hb hbox hg; obtain ⟨hcz98_0, hcz98_1, hcz98_2, hcz98_3, hcz98_4, hcz98_5, hcz98_6, hfz98_0, hfz98_1, hfz98_2, hfz98_3, hfz98_4, hfz98_5, hfz98_6⟩ := bx7 BK112.out))
      go_ret
      exact ⟨by first | rfl | (simp [yb0, ya9] <;> rfl) | (simp [*, yb0, ya9] <;> rfl), by repeat (first | (with_reducible first | exact HB.out | apply ya2 | apply ya0 | apply ya1 | refine ya3 ?_ GE112.out) | exact HB.out)⟩
     rw [if_pos c94] at H
     have c94b0 : (a0_0.toList == ([] : List UInt8)) = true := beq_iff_eq.mpr c94
     have c94b1 : (a0_0.toList != ([] : List UInt8)) = false := bne_eq_false_iff_eq.mpr c94
     clear c94
     obtain rfl := Option.some.inj H
     go_enter Tryd.func23, Tryd.ntmps23
     go_wp2_with (first | ((with_reducible refine yc1 (N := 1) rfl ?_); refine yb9 ?hg (N := 1) ?hd (cs := #[.string a0_0, .string a0_1, .string a0_2, .string a0_3, .int .i64 a0_4, .slice A0_5 l0_5.length c0_5, .int .u64 a0_6]) (t := 38) ?hr ?_; (case hd => rfl); (case hg => rfl); (case hr => first | (go_simp; done) | (go_simp; rfl)); intro gb112 hg w95 hbox hb; have n0_ := Aside0.mk (yb1 (by repeat (first | (with_reducible first | exact HB.out | apply ya2 | apply ya0 | apply ya1) | exact HB.out)) hb); have n1_ := Aside0.mk (hbox); have n2_ := Aside0.mk ((by rw [hg]; exact (ya7 (by repeat (first | (with_reducible first | exact HB.out | apply ya2 | apply ya0 | apply ya1) | exact HB.out))) : w.heap.size ≤ gb112)); have n3_ := Aside0.mk ((by rw [hg]; exact (ya7 (by repeat (first | (with_reducible first | exact HB.out | apply ya2 | apply ya0 | apply ya1) | exact HB.out))) : w.heap.size ≤ gb112)); clear HB; have HB := n0_; have BK112 := n1_; have GW112 := n2_; have GE112 := n3_; clear n0_ n1_ n2_ n3_; clear hb hbox hg; obtain ⟨hcz96_0, hcz96_1, hcz96_2, hcz96_3, hcz96_4, hcz96_5, hcz96_6, hfz96_0, hfz96_1, hfz96_2, hfz96_3, hfz96_4, hfz96_5, hfz96_6⟩ := bx7 BK112.out))
     go_ret
     exact ⟨by first | rfl | (simp [yb0, ya9] <;> rfl) | (simp [*, yb0, ya9] <;> rfl), by repeat (first | (with_reducible first | exact HB.out | apply ya2 | apply ya0 | apply ya1 | refine ya3 ?_ GE112.out) | exact HB.out)⟩
   ·rw [if_neg c54] at H
    have c54b0 : decide (0 ≤ a0_4) = false := decide_eq_false c54
    clear c54
    by_cases c99 : a0_0.toList = ([] : List UInt8)
    rotate_left 1
    ·rw [if_neg c99] at H
     have c99b0 : (a0_0.toList == ([] : List UInt8)) = false := beq_eq_false_iff_ne.mpr c99
     have c99b1 : (a0_0.toList != ([] : List UInt8)) = true := bne_iff_ne.mpr c99
     obtain rfl := Option.some.inj H
     go_enter Tryd.func23, Tryd.ntmps23
     go_wp2_with (first | ((with_reducible refine yc1 (N := 1) rfl ?_); refine yb9 ?hg (N := 1) ?hd (cs := #[.string a0_0, .string a0_1, .string a0_2, .string a0_3, .int .i64 a0_4, .slice A0_5 l0_5.length c0_5, .int .u64 a0_6]) (t := 38) ?hr ?_; (case hd => rfl); (case hg => rfl); (case hr => first | (go_simp; done) | (go_simp; rfl)); intro gb112 hg w102 hbox hb; have n0_ := Aside0.mk (yb1 (by repeat (first | (with_reducible first | exact HB.out | apply ya2 | apply ya0 | apply ya1) | exact HB.out)) hb); have n1_ := Aside0.mk (hbox); have n2_ := Aside0.mk ((by rw [hg]; exact (ya7 (by repeat (first | (with_reducible first | exact HB.out | apply ya2 | apply ya0 | apply ya1) | exact HB.out))) : w.heap.size ≤ gb112)); have n3_ := Aside0.mk ((by rw [hg]; exact (ya7 (by repeat (first | (with_reducible first | exact HB.out | apply ya2 | apply ya0 | apply ya1) | exact HB.out))) : w.heap.size ≤ gb112)); clear HB; have HB := n0_; have BK112 := n1_; have GW112 := n2_; have GE112 := n3_; clear n0_ n1_ n2_ n3_; clear hb hbox hg; obtain ⟨hcz103_0, hcz103_1, hcz103_2, hcz103_3, hcz103_4, hcz103_5, hcz103_6, hfz103_0, hfz103_1, hfz103_2, hfz103_3, hfz103_4, hfz103_5, hfz103_6⟩ := bx7 BK112.out))
     go_ret
     exact ⟨by first | rfl | (simp [yb0, ya9] <;> rfl) | (simp [*, yb0, ya9] <;> rfl), by repeat (first | (with_reducible first | exact HB.out | apply ya2 | apply ya0 | apply ya1 | refine ya3 ?_ GE112.out) | exact HB.out)⟩
    rw [if_pos c99] at H
    have c99b0 : (a0_0.toList == ([] : List UInt8)) = true := beq_iff_eq.mpr c99
    have c99b1 : (a0_0.toList != ([] : List UInt8)) = false := bne_eq_false_iff_eq.mpr c99
    clear c99
    obtain rfl := Option.some.inj H
    go_enter Tryd.func23, Tryd.ntmps23
    go_wp2_with (first | ((with_reducible refine yc1 (N := 1) rfl ?_); refine yb9 ?hg (N := 1) ?hd (cs := #[.string a0_0, .string a0_1, .string a0_2, .string a0_3, .int .i64 a0_4, .slice A0_5 l0_5.length c0_5, .int .u64 a0_6]) (t := 38) ?hr ?_; (case hd => rfl); (case hg => rfl); (case hr => first | (go_simp; done) | (go_simp; rfl)); intro gb112 hg w100 hbox hb; have n0_ := Aside0.mk (yb1 (by repeat (first | (with_reducible first | exact HB.out | apply ya2 | apply ya0 | apply ya1) | exact HB.out)) hb); have n1_ := Aside0.mk (hbox); have n2_ := Aside0.mk ((by rw [hg]; exact (ya7 (by repeat (first | (with_reducible first | exact HB.out | apply ya2 | apply ya0 | apply ya1) | exact HB.out))) : w.heap.size ≤ gb112)); have n3_ := Aside0.mk ((by rw [hg]; exact (ya7 (by repeat (first | (with_reducible first | exact HB.out | apply ya2 | apply ya0 | apply ya1) | exact HB.out))) : w.heap.size ≤ gb112)); clear HB; have HB := n0_; have BK112 := n1_; have GW112 := n2_; have GE112 := n3_; clear n0_ n1_ n2_ n3_; clear hb hbox hg; obtain ⟨hcz101_0, hcz101_1, hcz101_2, hcz101_3, hcz101_4, hcz101_5, hcz101_6, hfz101_0, hfz101_1, hfz101_2, hfz101_3, hfz101_4, hfz101_5, hfz101_6⟩ := bx7 BK112.out))
    go_ret
    exact ⟨by first | rfl | (simp [yb0, ya9] <;> rfl) | (simp [*, yb0, ya9] <;> rfl), by repeat (first | (with_reducible first | exact HB.out | apply ya2 | apply ya0 | apply ya1 | refine ya3 ?_ GE112.out) | exact HB.out)⟩
  ·rw [if_neg c53] at H
   have c53b0 : (a0_1.toList == ([111, 112, 101, 110] : List UInt8)) = false := beq_eq_false_iff_ne.mpr c53
   have c53b1 : (a0_1.toList != ([111, 112, 101, 110] : List UInt8)) = true := bne_iff_ne.mpr c53
   by_cases c104 : a0_4 ≥ 0
   ·rw [if_pos c104] at H
    have c104b0 : decide (0 ≤ a0_4) = true := decide_eq_true c104
    clear c104
    by_cases c105 : a0_4 ≤ 1000
    ·rw [if_pos c105] at H
     have c105b0 : decide (a0_4 ≤ 1000) = true := decide_eq_true c105
     clear c105
     by_cases c106 : a0_4 = 0
     ·rw [if_pos c106] at H
      have c106b0 : (a0_4 == 0) = true := beq_iff_eq.mpr c106
      have c106b1 : (a0_4 != 0) = false := bne_eq_false_iff_eq.mpr c106
      clear c106
      by_cases c107 : a0_0.toList = ([] : List UInt8)
      ·rw [if_pos c107] at H
       have c107b0 : (a0_0.toList == ([] : List UInt8)) = true := beq_iff_eq.mpr c107
       have c107b1 : (a0_0.toList != ([] : List UInt8)) = false := bne_eq_false_iff_eq.mpr c107
       clear c107
       obtain rfl := Option.some.inj H
       go_enter Tryd.func23, Tryd.ntmps23
       go_wp2_with (first | ((with_reducible refine yc1 (N := 1) rfl ?_); refine yb9 ?hg (N := 1) ?hd (cs := #[.string a0_0, .string a0_1, .string a0_2, .string a0_3, .int .i64 a0_4, .slice A0_5 l0_5.length c0_5, .int .u64 a0_6]) (t := 38) ?hr ?_; (case hd => rfl); (case hg => rfl); (case hr => first | (go_simp; done) | (go_simp; rfl)); intro gb112 hg w108 hbox hb; have n0_ := Aside0.mk (yb1 (by repeat (first | (with_reducible first | exact HB.out | apply ya2 | apply ya0 | apply ya1) | exact HB.out)) hb); have n1_ := Aside0.mk (hbox); have n2_ := Aside0.mk ((by rw [hg]; exact (ya7 (by repeat (first | (with_reducible first | exact HB.out | apply ya2 | apply ya0 | apply ya1) | exact HB.out))) : w.heap.size ≤ gb112)); have n3_ := Aside0.mk ((by rw [hg]; exact (ya7 (by repeat (first | (with_reducible first | exact HB.out | apply ya2 | apply ya0 | apply ya1) | exact HB.out))) : w.heap.size ≤ gb112)); clear HB; have HB := n0_; have BK112 := n1_; have GW112 := n2_; have GE112 := n3_; clear n0_ n1_ n2_ n3_; clear hb hbox hg; obtain ⟨hcz109_0, hcz109_1, hcz109_2, hcz109_3, hcz109_4, hcz109_5, hcz109_6, hfz109_0, hfz109_1, hfz109_2, hfz109_3, hfz109_4, hfz109_5, hfz109_6⟩ := bx7 BK112.out))
       go_ret
       exact ⟨by first | rfl | (simp [yb0, ya9] <;> rfl) | (simp [*, yb0, ya9] <;> rfl), by repeat (first | (with_reducible first | exact HB.out | apply ya2 | apply ya0 | apply ya1 | refine ya3 ?_ GE112.out) | exact HB.out)⟩
      rw [if_neg c107] at H
      have c107b0 : (a0_0.toList == ([] : List UInt8)) = false := beq_eq_false_iff_ne.mpr c107
      have c107b1 : (a0_0.toList != ([] : List UInt8)) = true := bne_iff_ne.mpr c107
      by_cases c110 : a0_1.toList = ([99, 108, 111, 115, 101, 100] : List UInt8)
      rotate_left 1
      ·rw [if_neg c110] at H
       have c110b0 : (a0_1.toList == ([99, 108, 111, 115, 101, 100] : List UInt8)) = false := beq_eq_false_iff_ne.mpr c110
       have c110b1 : (a0_1.toList != ([99, 108, 111, 115, 101, 100] : List UInt8)) = true := bne_iff_ne.mpr c110
       obtain rfl := Option.some.inj H
       go_enter Tryd.func23, Tryd.ntmps23
       go_wp2_with (first | ((with_reducible refine yc1 (N := 1) rfl ?_); refine yb9 ?hg (N := 1) ?hd (cs := #[.string a0_0, .string a0_1, .string a0_2, .string a0_3, .int .i64 a0_4, .slice A0_5 l0_5.length c0_5, .int .u64 a0_6]) (t := 38) ?hr ?_; (case hd => rfl); (case hg => rfl); (case hr => first | (go_simp; done) | (go_simp; rfl)); intro gb112 hg w125 hbox hb; have n0_ := Aside0.mk (yb1 (by repeat (first | (with_reducible first | exact HB.out | apply ya2 | apply ya0 | apply ya1) | exact HB.out)) hb); have n1_ := Aside0.mk (hbox); have n2_ := Aside0.mk ((by rw [hg]; exact (ya7 (by repeat (first | (with_reducible first | exact HB.out | apply ya2 | apply ya0 | apply ya1) | exact HB.out))) : w.heap.size ≤ gb112)); have n3_ := Aside0.mk ((by rw [hg]; exact (ya7 (by repeat (first | (with_reducible first | exact HB.out | apply ya2 | apply ya0 | apply ya1) | exact HB.out))) : w.heap.size ≤ gb112)); clear HB; have HB := n0_; have BK112 := n1_; have GW112 := n2_; have GE112 := n3_; clear n0_ n1_ n2_ n3_; clear hb hbox hg; obtain ⟨hcz126_0, hcz126_1, hcz126_2, hcz126_3, hcz126_4, hcz126_5, hcz126_6, hfz126_0, hfz126_1, hfz126_2, hfz126_3, hfz126_4, hfz126_5, hfz126_6⟩ := bx7 BK112.out))
       go_ret
       exact ⟨by first | rfl | (simp [yb0, ya9] <;> rfl) | (simp [*, yb0, ya9] <;> rfl), by repeat (first | (with_reducible first | exact HB.out | apply ya2 | apply ya0 | apply ya1 | refine ya3 ?_ GE112.out) | exact HB.out)⟩
      rw [if_pos c110] at H
      have c110b0 : (a0_1.toList == ([99, 108, 111, 115, 101, 100] : List UInt8)) = true := beq_iff_eq.mpr c110
      have c110b1 : (a0_1.toList != ([99, 108, 111, 115, 101, 100] : List UInt8)) = false := bne_eq_false_iff_eq.mpr c110
      clear c110
      replace H := Option.bind_eq_some_iff.mp H
      obtain ⟨t125, A1110, H⟩ := H
      replace H : (if t125 = true then ((yb6.f k a0_2).bind fun t126 => (if t126 = true then ((yc2.f k l0_5).bind fun t127 => (if t127 = true then (some (decide (a0_6 ≤ 4294967295))) else (some false))) else (some false))) else (some false)) = some r := H
      have A111 := Aside0.mk A1110
      clear A1110
      by_cases c112 : t125 = true
      rotate_left 1
      ·replace c112 := Bool.eq_false_iff.mpr c112
       subst c112
       have H1 : (some false) = some r := by rw [if_neg (show ¬ (false = true) by decide)] at H; exact H
       clear H
       have H := H1
       clear H1
       obtain rfl := Option.some.inj H
       go_enter Tryd.func23, Tryd.ntmps23
       go_wp2_with (first | ((with_reducible refine yc1 (N := 1) rfl ?_); refine yb9 ?hg (N := 1) ?hd (cs := #[.string a0_0, .string a0_1, .string a0_2, .string a0_3, .int .i64 a0_4, .slice A0_5 l0_5.length c0_5, .int .u64 a0_6]) (t := 38) ?hr ?_; (case hd => rfl); (case hg => rfl); (case hr => first | (go_simp; done) | (go_simp; rfl)); intro gb112 hg w123 hbox hb; have n0_ := Aside0.mk (yb1 (by repeat (first | (with_reducible first | exact HB.out | apply ya2 | apply ya0 | apply ya1) | exact HB.out)) hb); have n1_ := Aside0.mk (hbox); have n2_ := Aside0.mk ((by rw [hg]; exact (ya7 (by repeat (first | (with_reducible first | exact HB.out | apply ya2 | apply ya0 | apply ya1) | exact HB.out))) : w.heap.size ≤ gb112)); have n3_ := Aside0.mk ((by rw [hg]; exact (ya7 (by repeat (first | (with_reducible first | exact HB.out | apply ya2 | apply ya0 | apply ya1) | exact HB.out))) : w.heap.size ≤ gb112)); clear HB; have HB := n0_; have BK112 := n1_; have GW112 := n2_; have GE112 := n3_; clear n0_ n1_ n2_ n3_; clear hb hbox hg; obtain ⟨hcz124_0, hcz124_1, hcz124_2, hcz124_3, hcz124_4, hcz124_5, hcz124_6, hfz124_0, hfz124_1, hfz124_2, hfz124_3, hfz124_4, hfz124_5, hfz124_6⟩ := bx7 BK112.out) | (go_at_call 37; (with_reducible refine (yb6.calls k a0_3 false _ A111.out).mono ?_); rintro e w' ⟨rfl, ⟨nd, rfl⟩⟩))
       go_ret
       exact ⟨by first | rfl | (simp [yb0, ya9] <;> rfl) | (simp [*, yb0, ya9] <;> rfl), by repeat (first | (with_reducible first | exact HB.out | apply ya2 | apply ya0 | apply ya1 | refine ya3 ?_ GE112.out) | exact HB.out)⟩
      subst c112
      have H1 : ((yb6.f k a0_2).bind fun t126 => (if t126 = true then ((yc2.f k l0_5).bind fun t127 => (if t127 = true then (some (decide (a0_6 ≤ 4294967295))) else (some false))) else (some false))) = some r := by rw [if_pos rfl] at H; exact H
      clear H
      have H := H1
      clear H1
      replace H := Option.bind_eq_some_iff.mp H
      obtain ⟨t126, A1130, H⟩ := H
      replace H : (if t126 = true then ((yc2.f k l0_5).bind fun t127 => (if t127 = true then (some (decide (a0_6 ≤ 4294967295))) else (some false))) else (some false)) = some r := H
      have A113 := Aside0.mk A1130
      clear A1130
      by_cases c114 : t126 = true
      rotate_left 1
      ·replace c114 := Bool.eq_false_iff.mpr c114
       subst c114
       have H1 : (some false) = some r := by rw [if_neg (show ¬ (false = true) by decide)] at H; exact H
       clear H
       have H := H1
       clear H1
       obtain rfl := Option.some.inj H
       go_enter Tryd.func23, Tryd.ntmps23
       go_wp2_with (first | ((with_reducible refine yc1 (N := 1) rfl ?_); refine yb9 ?hg (N := 1) ?hd (cs := #[.string a0_0, .string a0_1, .string a0_2, .string a0_3, .int .i64 a0_4, .slice A0_5 l0_5.length c0_5, .int .u64 a0_6]) (t := 38) ?hr ?_; (case hd => rfl); (case hg => rfl); (case hr => first | (go_simp; done) | (go_simp; rfl)); intro gb112 hg w121 hbox hb; have n0_ := Aside0.mk (yb1 (by repeat (first | (with_reducible first | exact HB.out | apply ya2 | apply ya0 | apply ya1) | exact HB.out)) hb); have n1_ := Aside0.mk (hbox); have n2_ := Aside0.mk ((by rw [hg]; exact (ya7 (by repeat (first | (with_reducible first | exact HB.out | apply ya2 | apply ya0 | apply ya1) | exact HB.out))) : w.heap.size ≤ gb112)); have n3_ := Aside0.mk ((by rw [hg]; exact (ya7 (by repeat (first | (with_reducible first | exact HB.out | apply ya2 | apply ya0 | apply ya1) | exact HB.out))) : w.heap.size ≤ gb112)); clear HB; have HB := n0_; have BK112 := n1_; have GW112 := n2_; have GE112 := n3_; clear n0_ n1_ n2_ n3_; clear hb hbox hg; obtain ⟨hcz122_0, hcz122_1, hcz122_2, hcz122_3, hcz122_4, hcz122_5, hcz122_6, hfz122_0, hfz122_1, hfz122_2, hfz122_3, hfz122_4, hfz122_5, hfz122_6⟩ := bx7 BK112.out) | (go_at_call 37; (with_reducible refine (yb6.calls k a0_3 true _ A111.out).mono ?_); rintro e w' ⟨rfl, ⟨nd, rfl⟩⟩) | (go_at_call 37; (with_reducible refine (yb6.calls k a0_2 false _ A113.out).mono ?_); rintro e w' ⟨rfl, ⟨nd, rfl⟩⟩))
       go_ret
       exact ⟨by first | rfl | (simp [yb0, ya9] <;> rfl) | (simp [*, yb0, ya9] <;> rfl), by repeat (first | (with_reducible first | exact HB.out | apply ya2 | apply ya0 | apply ya1 | refine ya3 ?_ GE112.out) | exact HB.out)⟩
      subst c114
      have H1 : ((yc2.f k l0_5).bind fun t127 => (if t127 = true then (some (decide (a0_6 ≤ 4294967295))) else (some false))) = some r := by rw [if_pos rfl] at H; exact H
      clear H
      have H := H1
      clear H1
      replace H := Option.bind_eq_some_iff.mp H
      obtain ⟨t127, A1150, H⟩ := H
      replace H : (if t127 = true then (some (decide (a0_6 ≤ 4294967295))) else (some false)) = some r := H
      have A115 := Aside0.mk A1150
      clear A1150
      by_cases c116 : t127 = true
      ·subst c116
       have H1 : (some (decide (a0_6 ≤ 4294967295))) = some r := by rw [if_pos rfl] at H; exact H
       clear H
       have H := H1
       clear H1
       obtain rfl := Option.some.inj H
       go_enter Tryd.func23, Tryd.ntmps23
       go_wp2_with (first | ((with_reducible refine yc1 (N := 1) rfl ?_); refine yb9 ?hg (N := 1) ?hd (cs := #[.string a0_0, .string a0_1, .string a0_2, .string a0_3, .int .i64 a0_4, .slice A0_5 l0_5.length c0_5, .int .u64 a0_6]) (t := 38) ?hr ?_; (case hd => rfl); (case hg => rfl); (case hr => first | (go_simp; done) | (go_simp; rfl)); intro gb112 hg w117 hbox hb; have n0_ := Aside0.mk (yb1 (by repeat (first | (with_reducible first | exact HB.out | apply ya2 | apply ya0 | apply ya1) | exact HB.out)) hb); have n1_ := Aside0.mk (hbox); have n2_ := Aside0.mk ((by rw [hg]; exact (ya7 (by repeat (first | (with_reducible first | exact HB.out | apply ya2 | apply ya0 | apply ya1) | exact HB.out))) : w.heap.size ≤ gb112)); have n3_ := Aside0.mk ((by rw [hg]; exact (ya7 (by repeat (first | (with_reducible first | exact HB.out | apply ya2 | apply ya0 | apply ya1) | exact HB.out))) : w.heap.size ≤ gb112)); clear HB; have HB := n0_; have BK112 := n1_; have GW112 := n2_; have GE112 := n3_; clear n0_ n1_ n2_ n3_; clear hb hbox hg; obtain ⟨hcz118_0, hcz118_1, hcz118_2, hcz118_3, hcz118_4, hcz118_5, hcz118_6, hfz118_0, hfz118_1, hfz118_2, hfz118_3, hfz118_4, hfz118_5, hfz118_6⟩ := bx7 BK112.out) | (go_at_call 37; (with_reducible refine (yb6.calls k a0_3 true _ A111.out).mono ?_); rintro e w' ⟨rfl, ⟨nd, rfl⟩⟩) | (go_at_call 37; (with_reducible refine (yb6.calls k a0_2 true _ A113.out).mono ?_); rintro e w' ⟨rfl, ⟨nd, rfl⟩⟩) | (go_at_call 24; (with_reducible refine (yc2.calls k _ _ l0_5 true _ ?side1 ?side2 A115.out).mono ?_); (case side1 => repeat (first | exact (Kd.yc4 HR0_5.out (by repeat (first | (with_reducible first | exact HB.out | apply ya2 | apply ya0 | apply ya1 | refine ya3 ?_ GE112.out) | exact HB.out))) | (with_reducible refine Kd.yd2 ?_ _) | (with_reducible refine Kd.C_drewN ?_ _) | (with_reducible refine Kd.C_drew ?_))); (case side2 => exact HC0_5.out); rintro e w' ⟨rfl, ⟨nd, rfl⟩⟩))
       go_ret
       exact ⟨by first | rfl | (simp [yb0, ya9] <;> rfl) | (simp [*, yb0, ya9] <;> rfl), by repeat (first | (with_reducible first | exact HB.out | apply ya2 | apply ya0 | apply ya1 | refine ya3 ?_ GE112.out) | exact HB.out)⟩
      replace c116 := Bool.eq_false_iff.mpr c116
      subst c116
      have H1 : (some false) = some r := by rw [if_neg (show ¬ (false = true) by decide)] at H; exact H
      clear H
      have H := H1
      clear H1
      obtain rfl := Option.some.inj H
      go_enter Tryd.func23, Tryd.ntmps23
      go_wp2_with (first | ((with_reducible refine yc1 (N := 1) rfl ?_); refine yb9 ?hg (N := 1) ?hd (cs := #[.string a0_0, .string a0_1, .string a0_2, .string a0_3, .int .i64 a0_4, .slice A0_5 l0_5.length c0_5, .int .u64 a0_6]) (t := 38) ?hr ?_; (case hd => rfl); (case hg => rfl); (case hr => first | (go_simp; done) | (go_simp; rfl)); intro gb112 hg w119 hbox hb; have n0_ := Aside0.mk (yb1 (by repeat (first | (with_reducible first | exact HB.out | apply ya2 | apply ya0 | apply ya1) | exact HB.out)) hb); have n1_ := Aside0.mk (hbox); have n2_ := Aside0.mk ((by rw [hg]; exact (ya7 (by repeat (first | (with_reducible first | exact HB.out | apply ya2 | apply ya0 | apply ya1) | exact HB.out))) : w.heap.size ≤ gb112)); have n3_ := Aside0.mk ((by rw [hg]; exact (ya7 (by repeat (first | (with_reducible first | exact HB.out | apply ya2 | apply ya0 | apply ya1) | exact HB.out))) : w.heap.size ≤ gb112)); clear HB; have HB := n0_; have BK112 := n1_; have GW112 := n2_; have GE112 := n3_; clear n0_ n1_ n2_ n3_; clear hb hbox hg; obtain ⟨hcz120_0, hcz120_1, hcz120_2, hcz120_3, hcz120_4, hcz120_5, hcz120_6, hfz120_0, hfz120_1, hfz120_2, hfz120_3, hfz120_4, hfz120_5, hfz120_6⟩ := bx7 BK112.out) | (go_at_call 37; (with_reducible refine (yb6.calls k a0_3 true _ A111.out).mono ?_); rintro e w' ⟨rfl, ⟨nd, rfl⟩⟩) | (go_at_call 37; (with_reducible refine (yb6.calls k a0_2 true _ A113.out).mono ?_); rintro e w' ⟨rfl, ⟨nd, rfl⟩⟩) | (go_at_call 24; (with_reducible refine (yc2.calls k _ _ l0_5 false _ ?side1 ?side2 A115.out).mono ?_); (case side1 => repeat (first | exact (Kd.yc4 HR0_5.out (by repeat (first | (with_reducible first | exact HB.out | apply ya2 | apply ya0 | apply ya1 | refine ya3 ?_ GE112.out) | exact HB.out))) | (with_reducible refine Kd.yd2 ?_ _) | (with_reducible refine Kd.C_drewN ?_ _) | (with_reducible refine Kd.C_drew ?_))); (case side2 => exact HC0_5.out); rintro e w' ⟨rfl, ⟨nd, rfl⟩⟩))
      go_ret
      exact ⟨by first | rfl | (simp [yb0, ya9] <;> rfl) | (simp [*, yb0, ya9] <;> rfl), by repeat (first | (with_reducible first | exact HB.out | apply ya2 | apply ya0 | apply ya1 | refine ya3 ?_ GE112.out) | exact HB.out)⟩
     ·rw [if_neg c106] at H
      have c106b0 : (a0_4 == 0) = false := beq_eq_false_iff_ne.mpr c106
      have c106b1 : (a0_4 != 0) = true := bne_iff_ne.mpr c106
      by_cases c127 : a0_0.toList = ([] : List UInt8)
      ·rw [if_pos c127] at H
       have c127b0 : (a0_0.toList == ([] : List UInt8)) = true := beq_iff_eq.mpr c127
       have c127b1 : (a0_0.toList != ([] : List UInt8)) = false := bne_eq_false_iff_eq.mpr c127
       clear c127
       obtain rfl := Option.some.inj H
       go_enter Tryd.func23, Tryd.ntmps23
       go_wp2_with (first | ((with_reducible refine yc1 (N := 1) rfl ?_); refine yb9 ?hg (N := 1) ?hd (cs := #[.string a0_0, .string a0_1, .string a0_2, .string a0_3, .int .i64 a0_4, .slice A0_5 l0_5.length c0_5, .int .u64 a0_6]) (t := 38) ?hr ?_; (case hd => rfl); (case hg => rfl); (case hr => first | (go_simp; done) | (go_simp; rfl)); intro gb112 hg w128 hbox hb; have n0_ := Aside0.mk (yb1 (by repeat (first | (with_reducible first | exact HB.out | apply ya2 | apply ya0 | apply ya1) | exact HB.out)) hb); have n1_ := Aside0.mk (hbox); have n2_ := Aside0.mk ((by rw [hg]; exact (ya7 (by repeat (first | (with_reducible first | exact HB.out | apply ya2 | apply ya0 | apply ya1) | exact HB.out))) : w.heap.size ≤ gb112)); have n3_ := Aside0.mk ((by rw [hg]; exact (ya7 (by repeat (first | (with_reducible first | exact HB.out | apply ya2 | apply ya0 | apply ya1) | exact HB.out))) : w.heap.size ≤ gb112)); clear HB; have HB := n0_; have BK112 := n1_; have GW112 := n2_; have GE112 := n3_; clear n0_ n1_ n2_ n3_; clear hb hbox hg; obtain ⟨hcz129_0, hcz129_1, hcz129_2, hcz129_3, hcz129_4, hcz129_5, hcz129_6, hfz129_0, hfz129_1, hfz129_2, hfz129_3, hfz129_4, hfz129_5, hfz129_6⟩ := bx7 BK112.out))
       go_ret
       exact ⟨by first | rfl | (simp [yb0, ya9] <;> rfl) | (simp [*, yb0, ya9] <;> rfl), by repeat (first | (with_reducible first | exact HB.out | apply ya2 | apply ya0 | apply ya1 | refine ya3 ?_ GE112.out) | exact HB.out)⟩
      rw [if_neg c127] at H
      have c127b0 : (a0_0.toList == ([] : List UInt8)) = false := beq_eq_false_iff_ne.mpr c127
      have c127b1 : (a0_0.toList != ([] : List UInt8)) = true := bne_iff_ne.mpr c127
      by_cases c130 : a0_1.toList = ([99, 108, 111, 115, 101, 100] : List UInt8)
      rotate_left 1
      ·rw [if_neg c130] at H
       have c130b0 : (a0_1.toList == ([99, 108, 111, 115, 101, 100] : List UInt8)) = false := beq_eq_false_iff_ne.mpr c130
       have c130b1 : (a0_1.toList != ([99, 108, 111, 115, 101, 100] : List UInt8)) = true := bne_iff_ne.mpr c130
       obtain rfl := Option.some.inj H
       go_enter Tryd.func23, Tryd.ntmps23
       go_wp2_with (first | ((with_reducible refine yc1 (N := 1) rfl ?_); refine yb9 ?hg (N := 1) ?hd (cs := #[.string a0_0, .string a0_1, .string a0_2, .string a0_3, .int .i64 a0_4, .slice A0_5 l0_5.length c0_5, .int .u64 a0_6]) (t := 38) ?hr ?_; (case hd => rfl); (case hg => rfl); (case hr => first | (go_simp; done) | (go_simp; rfl)); intro gb112 hg w148 hbox hb; have n0_ := Aside0.mk (yb1 (by repeat (first | (with_reducible first | exact HB.out | apply ya2 | apply ya0 | apply ya1) | exact HB.out)) hb); have n1_ := Aside0.mk (hbox); have n2_ := Aside0.mk ((by rw [hg]; exact (ya7 (by repeat (first | (with_reducible first | exact HB.out | apply ya2 | apply ya0 | apply ya1) | exact HB.out))) : w.heap.size ≤ gb112)); have n3_ := Aside0.mk ((by rw [hg]; exact (ya7 (by repeat (first | (with_reducible first | exact HB.out | apply ya2 | apply ya0 | apply ya1) | exact HB.out))) : w.heap.size ≤ gb112)); clear HB; have HB := n0_; have BK112 := n1_; have GW112 := n2_; have GE112 := n3_; clear n0_ n1_ n2_ n3_; clear hb hbox hg; obtain ⟨hcz149_0, hcz149_1, hcz149_2, hcz149_3, hcz149_4, hcz149_5, hcz149_6, hfz149_0, hfz149_1, hfz149_2, hfz149_3, hfz149_4, hfz149_5, hfz149_6⟩ := bx7 BK112.out))
       go_ret
       exact ⟨by first | rfl | (simp [yb0, ya9] <;> rfl) | (simp [*, yb0, ya9] <;> rfl), by repeat (first | (with_reducible first | exact HB.out | apply ya2 | apply ya0 | apply ya1 | refine ya3 ?_ GE112.out) | exact HB.out)⟩
      rw [if_pos c130] at H
      have c130b0 : (a0_1.toList == ([99, 108, 111, 115, 101, 100] : List UInt8)) = true := beq_iff_eq.mpr c130
      have c130b1 : (a0_1.toList != ([99, 108, 111, 115, 101, 100] : List UInt8)) = false := bne_eq_false_iff_eq.mpr c130
      clear c130
      by_cases c131 : a0_2.toList = ([] : List UInt8)
      ·rw [if_pos c131] at H
       have c131b0 : (a0_2.toList == ([] : List UInt8)) = true := beq_iff_eq.mpr c131
       have c131b1 : (a0_2.toList != ([] : List UInt8)) = false := bne_eq_false_iff_eq.mpr c131
       clear c131
       obtain rfl := Option.some.inj H
       go_enter Tryd.func23, Tryd.ntmps23
       go_wp2_with (first | ((with_reducible refine yc1 (N := 1) rfl ?_); refine yb9 ?hg (N := 1) ?hd (cs := #[.string a0_0, .string a0_1, .string a0_2, .string a0_3, .int .i64 a0_4, .slice A0_5 l0_5.length c0_5, .int .u64 a0_6]) (t := 38) ?hr ?_; (case hd => rfl); (case hg => rfl); (case hr => first | (go_simp; done) | (go_simp; rfl)); intro gb112 hg w132 hbox hb; have n0_ := Aside0.mk (yb1 (by repeat (first | (with_reducible first | exact HB.out | apply ya2 | apply ya0 | apply ya1) | exact HB.out)) hb); have n1_ := Aside0.mk (hbox); have n2_ := Aside0.mk ((by rw [hg]; exact (ya7 (by repeat (first | (with_reducible first | exact HB.out | apply ya2 | apply ya0 | apply ya1) | exact HB.out))) : w.heap.size ≤ gb112)); have n3_ := Aside0.mk ((by rw [hg]; exact (ya7 (by repeat (first | (with_reducible first | exact HB.out | apply ya2 | apply ya0 | apply ya1) | exact HB.out))) : w.heap.size ≤ gb112)); clear HB; have HB := n0_; have BK112 := n1_; have GW112 := n2_; have GE112 := n3_; clear n0_ n1_ n2_ n3_; clear hb hbox hg; obtain ⟨hcz133_0, hcz133_1, hcz133_2, hcz133_3, hcz133_4, hcz133_5, hcz133_6, hfz133_0, hfz133_1, hfz133_2, hfz133_3, hfz133_4, hfz133_5, hfz133_6⟩ := bx7 BK112.out))
       go_ret
       exact ⟨by first | rfl | (simp [yb0, ya9] <;> rfl) | (simp [*, yb0, ya9] <;> rfl), by repeat (first | (with_reducible first | exact HB.out | apply ya2 | apply ya0 | apply ya1 | refine ya3 ?_ GE112.out) | exact HB.out)⟩
      rw [if_neg c131] at H
      have c131b0 : (a0_2.toList == ([] : List UInt8)) = false := beq_eq_false_iff_ne.mpr c131
      have c131b1 : (a0_2.toList != ([] : List UInt8)) = true := bne_iff_ne.mpr c131
      replace H := Option.bind_eq_some_iff.mp H
      obtain ⟨t128, A1340, H⟩ := H
      replace H : (if t128 = true then ((yb6.f k a0_2).bind fun t129 => (if t129 = true then ((yc2.f k l0_5).bind fun t130 => (if t130 = true then (some (decide (a0_6 ≤ 4294967295))) else (some false))) else (some false))) else (some false)) = some r := H
      have A134 := Aside0.mk A1340
      clear A1340
      by_cases c135 : t128 = true
      rotate_left 1
      ·replace c135 := Bool.eq_false_iff.mpr c135
       subst c135
       have H1 : (some false) = some r := by rw [if_neg (show ¬ (false = true) by decide)] at H; exact H
       clear H
       have H := H1
       clear H1
       obtain rfl := Option.some.inj H
       go_enter Tryd.func23, Tryd.ntmps23
       go_wp2_with (first | ((with_reducible refine yc1 (N := 1) rfl ?_); refine yb9 ?hg (N := 1) ?hd (cs := #[.string a0_0, .string a0_1, .string a0_2, .string a0_3, .int .i64 a0_4, .slice A0_5 l0_5.length c0_5, .int .u64 a0_6]) (t := 38) ?hr ?_; (case hd => rfl); (case hg => rfl); (case hr => first | (go_simp; done) | (go_simp; rfl)); intro gb112 hg w146 hbox hb; have n0_ := Aside0.mk (yb1 (by repeat (first | (with_reducible first | exact HB.out | apply ya2 | apply ya0 | apply ya1) | exact HB.out)) hb); have n1_ := Aside0.mk (hbox); have n2_ := Aside0.mk ((by rw [hg]; exact (ya7 (by repeat (first | (with_reducible first | exact HB.out | apply ya2 | apply ya0 | apply ya1) | exact HB.out))) : w.heap.size ≤ gb112)); have n3_ := Aside0.mk ((by rw [hg]; exact (ya7 (by repeat (first | (with_reducible first | exact HB.out | apply ya2 | apply ya0 | apply ya1) | exact HB.out))) : w.heap.size ≤ gb112)); clear HB; have HB := n0_; have BK112 := n1_; have GW112 := n2_; have GE112 := n3_; clear n0_ n1_ n2_ n3_; clear hb hbox hg; obtain ⟨hcz147_0, hcz147_1, hcz147_2, hcz147_3, hcz147_4, hcz147_5, hcz147_6, hfz147_0, hfz147_1, hfz147_2, hfz147_3, hfz147_4, hfz147_5, hfz147_6⟩ := bx7 BK112.out) | (go_at_call 37; (with_reducible refine (yb6.calls k a0_3 false _ A134.out).mono ?_); rintro e w' ⟨rfl, ⟨nd, rfl⟩⟩))
       go_ret
       exact ⟨by first | rfl | (simp [yb0, ya9] <;> rfl) | (simp [*, yb0, ya9] <;> rfl), by repeat (first | (with_reducible first | exact HB.out | apply ya2 | apply ya0 | apply ya1 | refine ya3 ?_ GE112.out) | exact HB.out)⟩
      subst c135
      have H1 : ((yb6.f k a0_2).bind fun t129 => (if t129 = true then ((yc2.f k l0_5).bind fun t130 => (if t130 = true then (some (decide (a0_6 ≤ 4294967295))) else (some false))) else (some false))) = some r := by rw [if_pos rfl] at H; exact H
      clear H
      have H := H1
      clear H1
      replace H := Option.bind_eq_some_iff.mp H
      obtain ⟨t129, A1360, H⟩ := H
      replace H : (if t129 = true then ((yc2.f k l0_5).bind fun t130 => (if t130 = true then (some (decide (a0_6 ≤ 4294967295))) else (some false))) else (some false)) = some r := H
      have A136 := Aside0.mk A1360
      clear A1360
      by_cases c137 : t129 = true
      rotate_left 1
      ·replace c137 := Bool.eq_false_iff.mpr c137
       subst c137
       have H1 : (some false) = some r := by rw [if_neg (show ¬ (false = true) by decide)] at H; exact H
       clear H
       have H := H1
       clear H1
       obtain rfl := Option.some.inj H
       go_enter Tryd.func23, Tryd.ntmps23
       go_wp2_with (first | ((with_reducible refine yc1 (N := 1) rfl ?_); refine yb9 ?hg (N := 1) ?hd (cs := #[.string a0_0, .string a0_1, .string a0_2, .string a0_3, .int .i64 a0_4, .slice A0_5 l0_5.length c0_5, .int .u64 a0_6]) (t := 38) ?hr ?_; (case hd => rfl); (case hg => rfl); (case hr => first | (go_simp; done) | (go_simp; rfl)); intro gb112 hg w144 hbox hb; have n0_ := Aside0.mk (yb1 (by repeat (first | (with_reducible first | exact HB.out | apply ya2 | apply ya0 | apply ya1) | exact HB.out)) hb); have n1_ := Aside0.mk (hbox); have n2_ := Aside0.mk ((by rw [hg]; exact (ya7 (by repeat (first | (with_reducible first | exact HB.out | apply ya2 | apply ya0 | apply ya1) | exact HB.out))) : w.heap.size ≤ gb112)); have n3_ := Aside0.mk ((by rw [hg]; exact (ya7 (by repeat (first | (with_reducible first | exact HB.out | apply ya2 | apply ya0 | apply ya1) | exact HB.out))) : w.heap.size ≤ gb112)); clear HB; have HB := n0_; have BK112 := n1_; have GW112 := n2_; have GE112 := n3_; clear n0_ n1_ n2_ n3_; clear hb hbox hg; obtain ⟨hcz145_0, hcz145_1, hcz145_2, hcz145_3, hcz145_4, hcz145_5, hcz145_6, hfz145_0, hfz145_1, hfz145_2, hfz145_3, hfz145_4, hfz145_5, hfz145_6⟩ := bx7 BK112.out) | (go_at_call 37; (with_reducible refine (yb6.calls k a0_3 true _ A134.out).mono ?_); rintro e w' ⟨rfl, ⟨nd, rfl⟩⟩) | (go_at_call 37; (with_reducible refine (yb6.calls k a0_2 false _ A136.out).mono ?_); rintro e w' ⟨rfl, ⟨nd, rfl⟩⟩))
       go_ret
       exact ⟨by first | rfl | (simp [yb0, ya9] <;> rfl) | (simp [*, yb0, ya9] <;> rfl), by repeat (first | (with_reducible first | exact HB.out | apply ya2 | apply ya0 | apply ya1 | refine ya3 ?_ GE112.out) | exact HB.out)⟩
      subst c137
      have H1 : ((yc2.f k l0_5).bind fun t130 => (if t130 = true then (some (decide (a0_6 ≤ 4294967295))) else (some false))) = some r := by rw [if_pos rfl] at H; exact H
      clear H
      have H := H1
      clear H1
      replace H := Option.bind_eq_some_iff.mp H
      obtain ⟨t130, A1380, H⟩ := H
      replace H : (if t130 = true then (some (decide (a0_6 ≤ 4294967295))) else (some false)) = some r := H
      have A138 := Aside0.mk A1380
      clear A1380
      by_cases c139 : t130 = true
      ·subst c139
       have H1 : (some (decide (a0_6 ≤ 4294967295))) = some r := by rw [if_pos rfl] at H; exact H
       clear H
       have H := H1
       clear H1
       obtain rfl := Option.some.inj H
       go_enter Tryd.func23, Tryd.ntmps23
       go_wp2_with (first | ((with_reducible refine yc1 (N := 1) rfl ?_); refine yb9 ?hg (N := 1) ?hd (cs := #[.string a0_0, .string a0_1, .string a0_2, .string a0_3, .int .i64 a0_4, .slice A0_5 l0_5.length c0_5, .int .u64 a0_6]) (t := 38) ?hr ?_; (case hd => rfl); (case hg => rfl); (case hr => first | (go_simp; done) | (go_simp; rfl)); intro gb112 hg w140 hbox hb; have n0_ := Aside0.mk (yb1 (by repeat (first | (with_reducible first | exact HB.out | apply ya2 | apply ya0 | apply ya1) | exact HB.out)) hb); have n1_ := Aside0.mk (hbox); have n2_ := Aside0.mk ((by rw [hg]; exact (ya7 (by repeat (first | (with_reducible first | exact HB.out | apply ya2 | apply ya0 | apply ya1) | exact HB.out))) : w.heap.size ≤ gb112)); have n3_ := Aside0.mk ((by rw [hg]; exact (ya7 (by repeat (first | (with_reducible first | exact HB.out | apply ya2 | apply ya0 | apply ya1) | exact HB.out))) : w.heap.size ≤ gb112)); clear HB; have HB := n0_; have BK112 := n1_; have GW112 := n2_; have GE112 := n3_; clear n0_ n1_ n2_ n3_; clear hb hbox hg; obtain ⟨hcz141_0, hcz141_1, hcz141_2, hcz141_3, hcz141_4, hcz141_5, hcz141_6, hfz141_0, hfz141_1, hfz141_2, hfz141_3, hfz141_4, hfz141_5, hfz141_6⟩ := bx7 BK112.out) | (go_at_call 37; (with_reducible refine (yb6.calls k a0_3 true _ A134.out).mono ?_); rintro e w' ⟨rfl, ⟨nd, rfl⟩⟩) | (go_at_call 37; (with_reducible refine (yb6.calls k a0_2 true _ A136.out).mono ?_); rintro e w' ⟨rfl, ⟨nd, rfl⟩⟩) | (go_at_call 24; (with_reducible refine (yc2.calls k _ _ l0_5 true _ ?side1 ?side2 A138.out).mono ?_); (case side1 => repeat (first | exact (Kd.yc4 HR0_5.out (by repeat (first | (with_reducible first | exact HB.out | apply ya2 | apply ya0 | apply ya1 | refine ya3 ?_ GE112.out) | exact HB.out))) | (with_reducible refine Kd.yd2 ?_ _) | (with_reducible refine Kd.C_drewN ?_ _) | (with_reducible refine Kd.C_drew ?_))); (case side2 => exact HC0_5.out); rintro e w' ⟨rfl, ⟨nd, rfl⟩⟩))
       go_ret
       exact ⟨by first | rfl | (simp [yb0, ya9] <;> rfl) | (simp [*, yb0, ya9] <;> rfl), by repeat (first | (with_reducible first | exact HB.out | apply ya2 | apply ya0 | apply ya1 | refine ya3 ?_ GE112.out) | exact HB.out)⟩
      replace c139 := Bool.eq_false_iff.mpr c139
      subst c139
      have H1 : (some false) = some r := by rw [if_neg (show ¬ (false = true) by decide)] at H; exact H
      clear H
      have H := H1
      clear H1
      obtain rfl := Option.some.inj H
      go_enter Tryd.func23, Tryd.ntmps23
      go_wp2_with (first | ((with_reducible refine yc1 (N := 1) rfl ?_); refine yb9 ?hg (N := 1) ?hd (cs := #[.string a0_0, .string a0_1, .string a0_2, .string a0_3, .int .i64 a0_4, .slice A0_5 l0_5.length c0_5, .int .u64 a0_6]) (t := 38) ?hr ?_; (case hd => rfl); (case hg => rfl); (case hr => first | (go_simp; done) | (go_simp; rfl)); intro gb112 hg w142 hbox hb; have n0_ := Aside0.mk (yb1 (by repeat (first | (with_reducible first | exact HB.out | apply ya2 | apply ya0 | apply ya1) | exact HB.out)) hb); have n1_ := Aside0.mk (hbox); have n2_ := Aside0.mk ((by rw [hg]; exact (ya7 (by repeat (first | (with_reducible first | exact HB.out | apply ya2 | apply ya0 | apply ya1) | exact HB.out))) : w.heap.size ≤ gb112)); have n3_ := Aside0.mk ((by rw [hg]; exact (ya7 (by repeat (first | (with_reducible first | exact HB.out | apply ya2 | apply ya0 | apply ya1) | exact HB.out))) : w.heap.size ≤ gb112)); clear HB; have HB := n0_; have BK112 := n1_; have GW112 := n2_; have GE112 := n3_; clear n0_ n1_ n2_ n3_; clear hb hbox hg; obtain ⟨hcz143_0, hcz143_1, hcz143_2, hcz143_3, hcz143_4, hcz143_5, hcz143_6, hfz143_0, hfz143_1, hfz143_2, hfz143_3, hfz143_4, hfz143_5, hfz143_6⟩ := bx7 BK112.out) | (go_at_call 37; (with_reducible refine (yb6.calls k a0_3 true _ A134.out).mono ?_); rintro e w' ⟨rfl, ⟨nd, rfl⟩⟩) | (go_at_call 37; (with_reducible refine (yb6.calls k a0_2 true _ A136.out).mono ?_); rintro e w' ⟨rfl, ⟨nd, rfl⟩⟩) | (go_at_call 24; (with_reducible refine (yc2.calls k _ _ l0_5 false _ ?side1 ?side2 A138.out).mono ?_); (case side1 => repeat (first | exact (Kd.yc4 HR0_5.out (by repeat (first | (with_reducible first | exact HB.out | apply ya2 | apply ya0 | apply ya1 | refine ya3 ?_ GE112.out) | exact HB.out))) | (with_reducible refine Kd.yd2 ?_ _) | (with_reducible refine Kd.C_drewN ?_ _) | (with_reducible refine Kd.C_drew ?_))); (case side2 => exact HC0_5.out); rintro e w' ⟨rfl, ⟨nd, rfl⟩⟩))
      go_ret
      exact ⟨by first | rfl | (simp [yb0, ya9] <;> rfl) | (simp [*, yb0, ya9] <;> rfl), by repeat (first | (with_reducible first | exact HB.out | apply ya2 | apply ya0 | apply ya1 | refine ya3 ?_ GE112.out) | exact HB.out)⟩
    ·rw [if_neg c105] at H
     have c105b0 : decide (a0_4 ≤ 1000) = false := decide_eq_false c105
     clear c105
     by_cases c150 : a0_0.toList = ([] : List UInt8)
     ·rw [if_pos c150] at H
      have c150b0 : (a0_0.toList == ([] : List UInt8)) = true := beq_iff_eq.mpr c150
      have c150b1 : (a0_0.toList != ([] : List UInt8)) = false := bne_eq_false_iff_eq.mpr c150
      clear c150
      obtain rfl := Option.some.inj H
      go_enter Tryd.func23, Tryd.ntmps23
      go_wp2_with (first | ((with_reducible refine yc1 (N := 1) rfl ?_); refine yb9 ?hg (N := 1) ?hd (cs := #[.string a0_0, .string a0_1, .string a0_2, .string a0_3, .int .i64 a0_4, .slice A0_5 l0_5.length c0_5, .int .u64 a0_6]) (t := 38) ?hr ?_; (case hd => rfl); (case hg => rfl); (case hr => first | (go_simp; done) | (go_simp; rfl)); intro gb112 hg w151 hbox hb; have n0_ := Aside0.mk (yb1 (by repeat (first | (with_reducible first | exact HB.out | apply ya2 | apply ya0 | apply ya1) | exact HB.out)) hb); have n1_ := Aside0.mk (hbox); have n2_ := Aside0.mk ((by rw [hg]; exact (ya7 (by repeat (first | (with_reducible first | exact HB.out | apply ya2 | apply ya0 | apply ya1) | exact HB.out))) : w.heap.size ≤ gb112)); have n3_ := Aside0.mk ((by rw [hg]; exact (ya7 (by repeat (first | (with_reducible first | exact HB.out | apply ya2 | apply ya0 | apply ya1) | exact HB.out))) : w.heap.size ≤ gb112)); clear HB; have HB := n0_; have BK112 := n1_; have GW112 := n2_; have GE112 := n3_; clear n0_ n1_ n2_ n3_; clear hb hbox hg; obtain ⟨hcz152_0, hcz152_1, hcz152_2, hcz152_3, hcz152_4, hcz152_5, hcz152_6, hfz152_0, hfz152_1, hfz152_2, hfz152_3, hfz152_4, hfz152_5, hfz152_6⟩ := bx7 BK112.out))
      go_ret
      exact ⟨by first | rfl | (simp [yb0, ya9] <;> rfl) | (simp [*, yb0, ya9] <;> rfl), by repeat (first | (with_reducible first | exact HB.out | apply ya2 | apply ya0 | apply ya1 | refine ya3 ?_ GE112.out) | exact HB.out)⟩
     rw [if_neg c150] at H
     have c150b0 : (a0_0.toList == ([] : List UInt8)) = false := beq_eq_false_iff_ne.mpr c150
     have c150b1 : (a0_0.toList != ([] : List UInt8)) = true := bne_iff_ne.mpr c150
     by_cases c153 : a0_1.toList = ([99, 108, 111, 115, 101, 100] : List UInt8)
     rotate_left 1
     ·rw [if_neg c153] at H
      have c153b0 : (a0_1.toList == ([99, 108, 111, 115, 101, 100] : List UInt8)) = false := beq_eq_false_iff_ne.mpr c153
      have c153b1 : (a0_1.toList != ([99, 108, 111, 115, 101, 100] : List UInt8)) = true := bne_iff_ne.mpr c153
      obtain rfl := Option.some.inj H
      go_enter Tryd.func23, Tryd.ntmps23
      go_wp2_with (first | ((with_reducible refine yc1 (N := 1) rfl ?_); refine yb9 ?hg (N := 1) ?hd (cs := #[.string a0_0, .string a0_1, .string a0_2, .string a0_3, .int .i64 a0_4, .slice A0_5 l0_5.length c0_5, .int .u64 a0_6]) (t := 38) ?hr ?_; (case hd => rfl); (case hg => rfl); (case hr => first | (go_simp; done) | (go_simp; rfl)); intro gb112 hg w156 hbox hb; have n0_ := Aside0.mk (yb1 (by repeat (first | (with_reducible first | exact HB.out | apply ya2 | apply ya0 | apply ya1) | exact HB.out)) hb); have n1_ := Aside0.mk (hbox); have n2_ := Aside0.mk ((by rw [hg]; exact (ya7 (by repeat (first | (with_reducible first | exact HB.out | apply ya2 | apply ya0 | apply ya1) | exact HB.out))) : w.heap.size ≤ gb112)); have n3_ := Aside0.mk ((by rw [hg]; exact (ya7 (by repeat (first | (with_reducible first | exact HB.out | apply ya2 | apply ya0 | apply ya1) | exact HB.out))) : w.heap.size ≤ gb112)); clear HB; have HB := n0_; have BK112 := n1_; have GW112 := n2_; have GE112 := n3_; clear n0_ n1_ n2_ n3_; clear hb hbox hg; obtain ⟨hcz157_0, hcz157_1, hcz157_2, hcz157_3, hcz157_4, hcz157_5, hcz157_6, hfz157_0, hfz157_1, hfz157_2, hfz157_3, hfz157_4, hfz157_5, hfz157_6⟩ := bx7 BK112.out))
      go_ret
      exact ⟨by first | rfl | (simp [yb0, ya9] <;> rfl) | (simp [*, yb0, ya9] <;> rfl), by repeat (first | (with_reducible first | exact HB.out | apply ya2 | apply ya0 | apply ya1 | refine ya3 ?_ GE112.out) | exact HB.out)⟩
     rw [if_pos c153] at H
     have c153b0 : (a0_1.toList == ([99, 108, 111, 115, 101, 100] : List UInt8)) = true := beq_iff_eq.mpr c153
     have c153b1 : (a0_1.toList != ([99, 108, 111, 115, 101, 100] : List UInt8)) = false := bne_eq_false_iff_eq.mpr c153
     clear c153
     obtain rfl := Option.some.inj H
     go_enter Tryd.func23, Tryd.ntmps23
     go_wp2_with (first | ((with_reducible refine yc1 (N := 1) rfl ?_); refine yb9 ?hg (N := 1) ?hd (cs := #[.string a0_0, .string a0_1, .string a0_2, .string a0_3, .int .i64 a0_4, .slice A0_5 l0_5.length c0_5, .int .u64 a0_6]) (t := 38) ?hr ?_; (case hd => rfl); (case hg => rfl); (case hr => first | (go_simp; done) | (go_simp; rfl)); intro gb112 hg w154 hbox hb; have n0_ := Aside0.mk (yb1 (by repeat (first | (with_reducible first | exact HB.out | apply ya2 | apply ya0 | apply ya1) | exact HB.out)) hb); have n1_ := Aside0.mk (hbox); have n2_ := Aside0.mk ((by rw [hg]; exact (ya7 (by repeat (first | (with_reducible first | exact HB.out | apply ya2 | apply ya0 | apply ya1) | exact HB.out))) : w.heap.size ≤ gb112)); have n3_ := Aside0.mk ((by rw [hg]; exact (ya7 (by repeat (first | (with_reducible first | exact HB.out | apply ya2 | apply ya0 | apply ya1) | exact HB.out))) : w.heap.size ≤ gb112)); clear HB; have HB := n0_; have BK112 := n1_; have GW112 := n2_; have GE112 := n3_; clear n0_ n1_ n2_ n3_; clear hb hbox hg; obtain ⟨hcz155_0, hcz155_1, hcz155_2, hcz155_3, hcz155_4, hcz155_5, hcz155_6, hfz155_0, hfz155_1, hfz155_2, hfz155_3, hfz155_4, hfz155_5, hfz155_6⟩ := bx7 BK112.out))
     go_ret
     exact ⟨by first | rfl | (simp [yb0, ya9] <;> rfl) | (simp [*, yb0, ya9] <;> rfl), by repeat (first | (with_reducible first | exact HB.out | apply ya2 | apply ya0 | apply ya1 | refine ya3 ?_ GE112.out) | exact HB.out)⟩
   ·rw [if_neg c104] at H
    have c104b0 : decide (0 ≤ a0_4) = false := decide_eq_false c104
    clear c104
    by_cases c158 : a0_0.toList = ([] : List UInt8)
    ·rw [if_pos c158] at H
     have c158b0 : (a0_0.toList == ([] : List UInt8)) = true := beq_iff_eq.mpr c158
     have c158b1 : (a0_0.toList != ([] : List UInt8)) = false := bne_eq_false_iff_eq.mpr c158
     clear c158
     obtain rfl := Option.some.inj H
     go_enter Tryd.func23, Tryd.ntmps23
     go_wp2_with (first | ((with_reducible refine yc1 (N := 1) rfl ?_); refine yb9 ?hg (N := 1) ?hd (cs := #[.string a0_0, .string a0_1, .string a0_2, .string a0_3, .int .i64 a0_4, .slice A0_5 l0_5.length c0_5, .int .u64 a0_6]) (t := 38) ?hr ?_; (case hd => rfl); (case hg => rfl); (case hr => first | (go_simp; done) | (go_simp; rfl)); intro gb112 hg w159 hbox hb; have n0_ := Aside0.mk (yb1 (by repeat (first | (with_reducible first | exact HB.out | apply ya2 | apply ya0 | apply ya1) | exact HB.out)) hb); have n1_ := Aside0.mk (hbox); have n2_ := Aside0.mk ((by rw [hg]; exact (ya7 (by repeat (first | (with_reducible first | exact HB.out | apply ya2 | apply ya0 | apply ya1) | exact HB.out))) : w.heap.size ≤ gb112)); have n3_ := Aside0.mk ((by rw [hg]; exact (ya7 (by repeat (first | (with_reducible first | exact HB.out | apply ya2 | apply ya0 | apply ya1) | exact HB.out))) : w.heap.size ≤ gb112)); clear HB; have HB := n0_; have BK112 := n1_; have GW112 := n2_; have GE112 := n3_; clear n0_ n1_ n2_ n3_; clear hb hbox hg; obtain ⟨hcz160_0, hcz160_1, hcz160_2, hcz160_3, hcz160_4, hcz160_5, hcz160_6, hfz160_0, hfz160_1, hfz160_2, hfz160_3, hfz160_4, hfz160_5, hfz160_6⟩ := bx7 BK112.out))
     go_ret
     exact ⟨by first | rfl | (simp [yb0, ya9] <;> rfl) | (simp [*, yb0, ya9] <;> rfl), by repeat (first | (with_reducible first | exact HB.out | apply ya2 | apply ya0 | apply ya1 | refine ya3 ?_ GE112.out) | exact HB.out)⟩
    rw [if_neg c158] at H
    have c158b0 : (a0_0.toList == ([] : List UInt8)) = false := beq_eq_false_iff_ne.mpr c158
    have c158b1 : (a0_0.toList != ([] : List UInt8)) = true := bne_iff_ne.mpr c158
    by_cases c161 : a0_1.toList = ([99, 108, 111, 115, 101, 100] : List UInt8)
    rotate_left 1
    ·rw [if_neg c161] at H
     have c161b0 : (a0_1.toList == ([99, 108, 111, 115, 101, 100] : List UInt8)) = false := beq_eq_false_iff_ne.mpr c161
     have c161b1 : (a0_1.toList != ([99, 108, 111, 115, 101, 100] : List UInt8)) = true := bne_iff_ne.mpr c161
     obtain rfl := Option.some.inj H
     go_enter Tryd.func23, Tryd.ntmps23
     go_wp2_with (first | ((with_reducible refine yc1 (N := 1) rfl ?_); refine yb9 ?hg (N := 1) ?hd (cs := #[.string a0_0, .string a0_1, .string a0_2, .string a0_3, .int .i64 a0_4, .slice A0_5 l0_5.length c0_5, .int .u64 a0_6]) (t := 38) ?hr ?_; (case hd => rfl); (case hg => rfl); (case hr => first | (go_simp; done) | (go_simp; rfl)); intro gb112 hg w164 hbox hb; have n0_ := Aside0.mk (yb1 (by repeat (first | (with_reducible first | exact HB.out | apply ya2 | apply ya0 | apply ya1) | exact HB.out)) hb); have n1_ := Aside0.mk (hbox); have n2_ := Aside0.mk ((by rw [hg]; exact (ya7 (by repeat (first | (with_reducible first | exact HB.out | apply ya2 | apply ya0 | apply ya1) | exact HB.out))) : w.heap.size ≤ gb112)); have n3_ := Aside0.mk ((by rw [hg]; exact (ya7 (by repeat (first | (with_reducible first | exact HB.out | apply ya2 | apply ya0 | apply ya1) | exact HB.out))) : w.heap.size ≤ gb112)); clear HB; have HB := n0_; have BK112 := n1_; have GW112 := n2_; have GE112 := n3_; clear n0_ n1_ n2_ n3_; clear hb hbox hg; obtain ⟨hcz165_0, hcz165_1, hcz165_2, hcz165_3, hcz165_4, hcz165_5, hcz165_6, hfz165_0, hfz165_1, hfz165_2, hfz165_3, hfz165_4, hfz165_5, hfz165_6⟩ := bx7 BK112.out))
     go_ret
     exact ⟨by first | rfl | (simp [yb0, ya9] <;> rfl) | (simp [*, yb0, ya9] <;> rfl), by repeat (first | (with_reducible first | exact HB.out | apply ya2 | apply ya0 | apply ya1 | refine ya3 ?_ GE112.out) | exact HB.out)⟩

    rw [if_pos c161] at H
    have c161b0 : (a0_1.toList == ([99, 108, 111, 115, 101, 100] : List UInt8)) = true := beq_iff_eq.mpr c161
    have c161b1 : (a0_1.toList != ([99, 108, 111, 115, 101, 100] : List UInt8)) = false := bne_eq_false_iff_eq.mpr c161
    clear c161
    obtain rfl := Option.some.inj H
    go_enter Tryd.func23, Tryd.ntmps23
    go_wp2_with (first | ((with_reducible refine yc1 (N := 1) rfl ?_); refine yb9 ?hg (N := 1) ?hd (cs := #[.string a0_0, .string a0_1, .string a0_2, .string a0_3, .int .i64 a0_4, .slice A0_5 l0_5.length c0_5, .int .u64 a0_6]) (t := 38) ?hr ?_; (case hd => rfl); (case hg => rfl); (case hr => first | (go_simp; done) | (go_simp; rfl)); intro gb112 hg w162 hbox hb; have n0_ := Aside0.mk (yb1 (by repeat (first | (with_reducible first | exact HB.out | apply ya2 | apply ya0 | apply ya1) | exact HB.out)) hb); have n1_ := Aside0.mk (hbox); have n2_ := Aside0.mk ((by rw [hg]; exact (ya7 (by repeat (first | (with_reducible first | exact HB.out | apply ya2 | apply ya0 | apply ya1) | exact HB.out))) : w.heap.size ≤ gb112)); have n3_ := Aside0.mk ((by rw [hg]; exact (ya7 (by repeat (first | (with_reducible first | exact HB.out | apply ya2 | apply ya0 | apply ya1) | exact HB.out))) : w.heap.size ≤ gb112)); clear HB; have HB := n0_; have BK112 := n1_; have GW112 := n2_; have GE112 := n3_; clear n0_ n1_ n2_ n3_; clear hb hbox hg; obtain ⟨hcz163_0, hcz163_1, hcz163_2, hcz163_3, hcz163_4, hcz163_5, hcz163_6, hfz163_0, hfz163_1, hfz163_2, hfz163_3, hfz163_4, hfz163_5, hfz163_6⟩ := bx7 BK112.out))
    go_ret
    exact ⟨by first | rfl | (simp [yb0, ya9] <;> rfl) | (simp [*, yb0, ya9] <;> rfl), by repeat (first | (with_reducible first | exact HB.out | apply ya2 | apply ya0 | apply ya1 | refine ya3 ?_ GE112.out) | exact HB.out)⟩
def pidf_f.f (a0 : ByteArray) : Option (ByteArray × ByteArray) := some ((⟨#[117, 114, 110, 58, 105, 101, 116, 102, 58, 112, 97, 114, 97, 109, 115, 58, 120, 109, 108, 58, 110, 115, 58, 112, 105, 100, 102]⟩ : ByteArray), a0)
set_option maxHeartbeats 8000000 in
set_option maxRecDepth 100000 in
theorem pidf_f.calls (a0 : ByteArray) (r1 : ByteArray) (r2 : ByteArray) (w : World) (h : pidf_f.f a0 = some (r1, r2)) :
  Calls Tryd.prog 28 #[.string a0] w fun e w' => e = .returned (.agg #[.string r1, .string r2]) ∧ Below w.heap.size w w' := by
 have hu50 := Tryd.underlying50
 have HB := Aside0.mk (Below.refl w.heap.size w)
 have H : (some ((⟨#[117, 114, 110, 58, 105, 101, 116, 102, 58, 112, 97, 114, 97, 109, 115, 58, 120, 109, 108, 58, 110, 115, 58, 112, 105, 100, 102]⟩ : ByteArray), a0)) = some (r1, r2) := h
 clear h
 simp only [Option.some.injEq, Prod.mk.injEq] at H
 obtain ⟨rfl, rfl⟩ := H
 go_enter Tryd.func28, Tryd.ntmps28
 go_wp2_with (first | ((with_reducible refine yc1 (N := 2) rfl ?_); refine yb9 ?hg (N := 2) ?hd (cs := #[.string (⟨#[]⟩ : ByteArray), .string (⟨#[]⟩ : ByteArray)]) (t := 50) ?hr ?_; (case hd => rfl); (case hg => rfl); (case hr => first | (go_simp; done) | (go_simp; rfl)); intro gb131 hg w2 hbox hb; have n0_ := Aside0.mk (yb1 (by repeat (first | (with_reducible first | exact HB.out | apply ya2 | apply ya0 | apply ya1) | exact HB.out)) hb); have n1_ := Aside0.mk (hbox); have n2_ := Aside0.mk ((by rw [hg]; exact (ya7 (by repeat (first | (with_reducible first | exact HB.out | apply ya2 | apply ya0 | apply ya1) | exact HB.out))) : w.heap.size ≤ gb131)); have n3_ := Aside0.mk ((by rw [hg]; exact (ya7 (by repeat (first | (with_reducible first | exact HB.out | apply ya2 | apply ya0 | apply ya1) | exact HB.out))) : w.heap.size ≤ gb131)); clear HB; have HB := n0_; have BK131 := n1_; have GW131 := n2_; have GE131 := n3_; clear n0_ n1_ n2_ n3_; clear hb hbox hg; obtain ⟨hcz3_0, hcz3_1, hfz3_0, hfz3_1⟩ := bx2 BK131.out))
 refine bodyPost_ret (results_cell_row rfl _ _ gb131 50 #[.string (⟨#[117, 114, 110, 58, 105, 101, 116, 102, 58, 112, 97, 114, 97, 109, 115, 58, 120, 109, 108, 58, 110, 115, 58, 112, 105, 100, 102]⟩ : ByteArray), .string a0] (0, 0) _ rfl (by (with_reducible repeat (first | refine ya5 ?_ _ | refine ya6 ?_ | refine ya4 ?_ _)); refine yc7 (cs := #[.string (⟨#[117, 114, 110, 58, 105, 101, 116, 102, 58, 112, 97, 114, 97, 109, 115, 58, 120, 109, 108, 58, 110, 115, 58, 112, 105, 100, 102]⟩ : ByteArray), .string (⟨#[]⟩ : ByteArray)]) ?_ 1 _ rfl; (with_reducible repeat (first | refine ya5 ?_ _ | refine ya6 ?_ | refine ya4 ?_ _)); refine yc7 (cs := #[.string (⟨#[]⟩ : ByteArray), .string (⟨#[]⟩ : ByteArray)]) ?_ 0 _ rfl; (with_reducible repeat (first | refine ya5 ?_ _ | refine ya6 ?_ | refine ya4 ?_ _)); exact BK131.out) Tryd.underlying50 rfl (by kernel_rfl)) rfl ?_
 exact ⟨by first | rfl | (simp [yb0, ya9] <;> rfl) | (simp [*, yb0, ya9] <;> rfl), by repeat (first | (with_reducible first | exact HB.out | apply ya2 | apply ya0 | apply ya1 | refine ya3 ?_ GE131.out) | exact HB.out)⟩

def yn9.f  : Option (ByteArray × ByteArray) := some ((⟨#[117, 114, 110, 58, 105, 101, 116, 102, 58, 112, 97, 114, 97, 109, 115, 58, 120, 109, 108, 58, 110, 115, 58, 112, 105, 100, 102, 58, 114, 112, 105, 100]⟩ : ByteArray), (⟨#[99, 108, 97, 115, 115]⟩ : ByteArray))
set_option maxHeartbeats 8000000 in
set_option maxRecDepth 100000 in
theorem yn9.calls  (r1 : ByteArray) (r2 : ByteArray) (w : World) (h : yn9.f  = some (r1, r2)) :
  Calls Tryd.prog 38 #[] w fun e w' => e = .returned (.agg #[.string r1, .string r2]) ∧ Below w.heap.size w w' := by
 have hu50 := Tryd.underlying50
 have HB := Aside0.mk (Below.refl w.heap.size w)
 have H : (some ((⟨#[117, 114, 110, 58, 105, 101, 116, 102, 58, 112, 97, 114, 97, 109, 115, 58, 120, 109, 108, 58, 110, 115, 58, 112, 105, 100, 102, 58, 114, 112, 105, 100]⟩ : ByteArray), (⟨#[99, 108, 97, 115, 115]⟩ : ByteArray))) = some (r1, r2) := h
 clear h
 simp only [Option.some.injEq, Prod.mk.injEq] at H
 obtain ⟨rfl, rfl⟩ := H
 go_enter Tryd.func38, Tryd.ntmps38
 go_wp2_with (first | ((with_reducible refine yc1 (N := 0) rfl ?_); refine yb9 ?hg (N := 0) ?hd (cs := #[.string (⟨#[]⟩ : ByteArray), .string (⟨#[]⟩ : ByteArray)]) (t := 50) ?hr ?_; (case hd => rfl); (case hg => rfl); (case hr => first | (go_simp; done) | (go_simp; rfl)); intro gb132 hg w1 hbox hb; have n0_ := Aside0.mk (yb1 (by repeat (first | (with_reducible first | exact HB.out | apply ya2 | apply ya0 | apply ya1) | exact HB.out)) hb); have n1_ := Aside0.mk (hbox); have n2_ := Aside0.mk ((by rw [hg]; exact (ya7 (by repeat (first | (with_reducible first | exact HB.out | apply ya2 | apply ya0 | apply ya1) | exact HB.out))) : w.heap.size ≤ gb132)); have n3_ := Aside0.mk ((by rw [hg]; exact (ya7 (by repeat (first | (with_reducible first | exact HB.out | apply ya2 | apply ya0 | apply ya1) | exact HB.out))) : w.heap.size ≤ gb132)); clear HB; have HB := n0_; have BK132 := n1_; have GW132 := n2_; have GE132 := n3_; clear n0_ n1_ n2_ n3_; clear hb hbox hg; obtain ⟨hcz2_0, hcz2_1, hfz2_0, hfz2_1⟩ := bx2 BK132.out))
 refine bodyPost_ret (results_cell_row rfl _ _ gb132 50 #[.string (⟨#[117, 114, 110, 58, 105, 101, 116, 102, 58, 112, 97, 114, 97, 109, 115, 58, 120, 109, 108, 58, 110, 115, 58, 112, 105, 100, 102, 58, 114, 112, 105, 100]⟩ : ByteArray), .string (⟨#[99, 108, 97, 115, 115]⟩ : ByteArray)] (0, 0) _ rfl (by (with_reducible repeat (first | refine ya5 ?_ _ | refine ya6 ?_ | refine ya4 ?_ _)); refine yc7 (cs := #[.string (⟨#[117, 114, 110, 58, 105, 101, 116, 102, 58, 112, 97, 114, 97, 109, 115, 58, 120, 109, 108, 58, 110, 115, 58, 112, 105, 100, 102, 58, 114, 112, 105, 100]⟩ : ByteArray), .string (⟨#[]⟩ : ByteArray)]) ?_ 1 _ rfl; (with_reducible repeat (first | refine ya5 ?_ _ | refine ya6 ?_ | refine ya4 ?_ _)); refine yc7 (cs := #[.string (⟨#[]⟩ : ByteArray), .string (⟨#[]⟩ : ByteArray)]) ?_ 0 _ rfl; (with_reducible repeat (first | refine ya5 ?_ _ | refine ya6 ?_ | refine ya4 ?_ _)); exact BK132.out) Tryd.underlying50 rfl (by kernel_rfl)) rfl ?_
 exact ⟨by first | rfl | (simp [yb0, ya9] <;> rfl) | (simp [*, yb0, ya9] <;> rfl), by repeat (first | (with_reducible first | exact HB.out | apply ya2 | apply ya0 | apply ya1 | refine ya3 ?_ GE132.out) | exact HB.out)⟩

end Go.Proofs.YtidkjifilgjgfaaDoor.PL
