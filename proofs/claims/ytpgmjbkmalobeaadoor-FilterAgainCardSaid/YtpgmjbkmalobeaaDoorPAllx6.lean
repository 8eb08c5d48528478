-- PRINTED by print.py (a twelfth state) out of the translation. Not trusted: Lean checks it.
import Derived.Test.YtpgmjbkmalobeaaDoorPAllx0
namespace Go.Proofs.YtpgmjbkmalobeaaDoor.PAll
open Go.RowKit Go.Proofs.YtpgmjbkmalobeaaDoorW.PrintWords Go.Proofs.YtpgmjbkmalobeaaDoorW.PrintLast Go.Proofs.YtpgmjbkmalobeaaDoorW.PrintMore
attribute [local go_sem] max2_int min2_int max_two min_two max_three min_three max_four min_four   -- for this text's walks alone
set_option linter.unusedVariables false
set_option linter.unusedSimpArgs false

/-! ### watchbillref09_Same: function 14 -/
def watchbillref09_Same.l0 : Nat → List ByteArray → List ByteArray → Int → Option (Bool)
  | 0, _, _, _ => none
  | k + 1, x0, x1, x5 => if x5 < (x0.length : Int) then (if 0 ≤ x5 then (if x5 < (x1.length : Int) then (if (rdOf ByteArray.empty x0 x5).toList = (rdOf ByteArray.empty x1 x5).toList then (watchbillref09_Same.l0 k x0 x1 (wrap64 (x5 + 1))) else (some false)) else (none)) else (none)) else (some true)
def watchbillref09_Same.f (k : Nat) (l0 : List ByteArray) (l1 : List ByteArray) : Option (Bool) := if (l0.length : Int) = (l1.length : Int) then (watchbillref09_Same.l0 k l0 l1 0) else (some false)
theorem watchbillref09_Same.mono_l : ∀ k, (∀ y0 y1 y2, LeO (watchbillref09_Same.l0 k y0 y1 y2) (watchbillref09_Same.l0 (k + 1) y0 y1 y2))
  | 0 => fun _ _ _ r h => by simp [watchbillref09_Same.l0] at h
  | k + 1 => by
    have ih0 := watchbillref09_Same.mono_l k
    · intro y0 y1 y2
      unfold watchbillref09_Same.l0
      repeat' first
      | (with_reducible exact ih0 _ _ _)
      | (with_reducible exact LeO.refl _)
      | (with_reducible exact LeO.none _)
      | (with_reducible refine LeO.ite ?_ ?_)
      | (with_reducible refine LeO.bind ?_ (fun _ => ?_))
      | exact ih0 _ _ _
      | exact LeO.none _
      | refine LeO.ite ?_ ?_
      | refine LeO.bind ?_ (fun _ => ?_)
theorem watchbillref09_Same.mono : ∀ a0 a1 k, LeO (watchbillref09_Same.f k a0 a1) (watchbillref09_Same.f (k + 1) a0 a1) := by
  intro a0 a1 k
  have ih0 := watchbillref09_Same.mono_l k
  unfold watchbillref09_Same.f
  repeat' first
      | (with_reducible exact ih0 _ _ _)
      | (with_reducible exact LeO.refl _)
      | (with_reducible exact LeO.none _)
      | (with_reducible refine LeO.ite ?_ ?_)
      | (with_reducible refine LeO.bind ?_ (fun _ => ?_))
      | exact ih0 _ _ _
      | exact LeO.none _
      | refine LeO.ite ?_ ?_
      | refine LeO.bind ?_ (fun _ => ?_)
set_option maxHeartbeats 8000000 in
set_option maxRecDepth 100000 in
theorem watchbillref09_Same.calls (k : Nat) (A0 : Option Addr) (c0 : Nat) (l0 : List ByteArray) (A1 : Option Addr) (c1 : Nat) (l1 : List ByteArray) (r : Bool) (w : World) (hr0 : Kd.C Kd.string w A0 l0.length l0) (hc0 : l0.length ≤ c0) (hr1 : Kd.C Kd.string w A1 l1.length l1) (hc1 : l1.length ≤ c1) (h : watchbillref09_Same.f k l0 l1 = some r) :
    Calls Tryd.prog 14 #[.slice A0 l0.length c0, .slice A1 l1.length c1] w fun e w' => e = .returned (.bool r) ∧ Drawn0 w w' := by
  have HR0 := Aside0.mk hr0
  have HC0 := Aside0.mk hc0
  clear hr0 hc0
  have HR1 := Aside0.mk hr1
  have HC1 := Aside0.mk hc1
  clear hr1 hc1
  have H : (if (l0.length : Int) = (l1.length : Int) then (watchbillref09_Same.l0 k l0 l1 0) else (some false)) = some r := h
  clear h
  by_cases c3 : (l0.length : Int) = (l1.length : Int)
  rotate_left 1
  · rw [if_neg c3] at H
    have c3b0 : ((l0.length : Int) == (l1.length : Int)) = false := beq_eq_false_iff_ne.mpr c3
    have c3b1 : ((l0.length : Int) != (l1.length : Int)) = true := bne_iff_ne.mpr c3
    have c3b2 : (l0.length == l1.length) = false := by first | simpa using c3 | (simp at c3 ⊢; omega)
    obtain rfl := Option.some.inj H
    go_enter Tryd.func14, Tryd.ntmps14
    go_wp2
    repeat (go_quiet (fail); try go_wp2)
    go_ret
    exact ⟨by first | rfl | (simp; done) | (simp [*]; done), by repeat (first | exact Drawn0.refl _ | apply Drawn0.step)⟩

  rw [if_pos c3] at H
  have c3b0 : ((l0.length : Int) == (l1.length : Int)) = true := beq_iff_eq.mpr c3
  have c3b1 : ((l0.length : Int) != (l1.length : Int)) = false := bne_eq_false_iff_eq.mpr c3
  have c3b2 : (l0.length == l1.length) = true := by first | simpa using c3 | (simp at c3 ⊢; omega)
  clear c3
  have H' := Aside0.mk H
  clear H
  go_enter Tryd.func14, Tryd.ntmps14
  go_wp2
  repeat (go_quiet (fail); try go_wp2)
  go_loopg [5] k (fun kq v5 w' => ∃ (x5_1 : Int), v5 = .int .i64 x5_1 ∧ Aside0 (watchbillref09_Same.l0 kq l0 l1 x5_1 = some r) ∧ Aside0 (kq ≤ k) ∧ Drawn0 w w')
  case atStart => exact ⟨(0), (by first | rfl | (simp; done) | (simp [*]; done)), H', ⟨Nat.le_refl _⟩, by repeat (first | exact Drawn0.refl _ | apply Drawn0.step)⟩
  case round =>
    clear H'
    try clear c1
    try clear p2
    try clear c3
    try clear c3b0
    try clear c3b1
    try clear c3b2
    obtain ⟨x5_1, rfl, HA, HK1, ⟨m1, rfl⟩⟩ := hrel
    cases gk with
    | zero => exact absurd HA.out (by simp [watchbillref09_Same.l0])
    | succ k1 =>
      have H := HA.out
      clear HA
      simp only [watchbillref09_Same.l0] at H
      by_cases c4 : x5_1 < (l0.length : Int)
      rotate_left 1
      · rw [if_neg c4] at H
        have c4b0 : decide (x5_1 < (l0.length : Int)) = false := decide_eq_false c4
        clear c4
        obtain rfl := Option.some.inj H
        go_wp2
        repeat (go_quiet (fail); try go_wp2)
        go_ret
        exact ⟨by first | rfl | (simp; done) | (simp [*]; done), by repeat (first | exact Drawn0.refl _ | apply Drawn0.step)⟩
      rw [if_pos c4] at H
      have c4b0 : decide (x5_1 < (l0.length : Int)) = true := decide_eq_true c4
      clear c4
      by_cases c5 : 0 ≤ x5_1
      rotate_left 1
      · rw [if_neg c5] at H
        exact absurd H (by simp)
      rw [if_pos c5] at H
      have c5b0 : decide (0 ≤ x5_1) = true := decide_eq_true c5
      clear c5
      by_cases c6 : x5_1 < (l1.length : Int)
      rotate_left 1
      · rw [if_neg c6] at H
        exact absurd H (by simp)
      rw [if_pos c6] at H
      have c6b0 : decide (x5_1 < (l1.length : Int)) = true := decide_eq_true c6
      clear c6
      by_cases c7 : (rdOf ByteArray.empty l0 x5_1).toList = (rdOf ByteArray.empty l1 x5_1).toList
      · rw [if_pos c7] at H
        have c7b0 : ((rdOf ByteArray.empty l0 x5_1).toList == (rdOf ByteArray.empty l1 x5_1).toList) = true := beq_iff_eq.mpr c7
        have c7b1 : ((rdOf ByteArray.empty l0 x5_1).toList != (rdOf ByteArray.empty l1 x5_1).toList) = false := bne_eq_false_iff_eq.mpr c7
        clear c7
        have H' := Aside0.mk H
        clear H
        have p190 : 0 ≤ (x5_1 : Int) := of_decide_eq_true (by first | (with_reducible assumption) | assumption)
        have q190 : x5_1 < (l0.length : Int) := of_decide_eq_true (by first | (with_reducible assumption) | assumption)
        obtain ⟨ad190, e190, hx190_0⟩ := Kd.at_string HR0.out x5_1 p190 q190
        cases e190
        replace p190 := eq_true p190
        replace q190 := eq_true q190
        have p191 : 0 ≤ (x5_1 : Int) := of_decide_eq_true (by first | (with_reducible assumption) | assumption)
        have q191 : x5_1 < (l1.length : Int) := of_decide_eq_true (by first | (with_reducible assumption) | assumption)
        obtain ⟨ad191, e191, hx191_0⟩ := Kd.at_string HR1.out x5_1 p191 q191
        cases e191
        replace p191 := eq_true p191
        replace q191 := eq_true q191
        go_wp2
        repeat (go_quiet (fail); try go_wp2)
        go_roundg k1
        case measure => have := HK1.out; omega
        case rel => exact ⟨(wrap64 (x5_1 + 1)), (by first | rfl | (simp; done) | (simp [*]; done)), H', ⟨by have := HK1.out; omega⟩, by repeat (first | exact Drawn0.refl _ | apply Drawn0.step)⟩
      · rw [if_neg c7] at H
        have c7b0 : ((rdOf ByteArray.empty l0 x5_1).toList == (rdOf ByteArray.empty l1 x5_1).toList) = false := beq_eq_false_iff_ne.mpr c7
        have c7b1 : ((rdOf ByteArray.empty l0 x5_1).toList != (rdOf ByteArray.empty l1 x5_1).toList) = true := bne_iff_ne.mpr c7
        obtain rfl := Option.some.inj H
        have p190 : 0 ≤ (x5_1 : Int) := of_decide_eq_true (by first | (with_reducible assumption) | assumption)
        have q190 : x5_1 < (l0.length : Int) := of_decide_eq_true (by first | (with_reducible assumption) | assumption)
        obtain ⟨ad190, e190, hx190_0⟩ := Kd.at_string HR0.out x5_1 p190 q190
        cases e190
        replace p190 := eq_true p190
        replace q190 := eq_true q190
        have p191 : 0 ≤ (x5_1 : Int) := of_decide_eq_true (by first | (with_reducible assumption) | assumption)
        have q191 : x5_1 < (l1.length : Int) := of_decide_eq_true (by first | (with_reducible assumption) | assumption)
        obtain ⟨ad191, e191, hx191_0⟩ := Kd.at_string HR1.out x5_1 p191 q191
        cases e191
        replace p191 := eq_true p191
        replace q191 := eq_true q191
        go_wp2
        repeat (go_quiet (fail); try go_wp2)
        go_ret
        exact ⟨by first | rfl | (simp; done) | (simp [*]; done), by repeat (first | exact Drawn0.refl _ | apply Drawn0.step)⟩
/-! ### watchbillref20_One: function 15 -/
def watchbillref20_One.f (k : Nat) (a0_0 : ByteArray) (a0_1 : ByteArray) (a0_2 : ByteArray) (a0_3 : ByteArray) (a0_4 : Int) (l0_5 : List ByteArray) (a0_6 : Int) (a1_0 : ByteArray) (a1_1 : ByteArray) (a1_2 : ByteArray) (a1_3 : ByteArray) (a1_4 : Int) (l1_5 : List ByteArray) (a1_6 : Int) : Option (Bool) := if a0_0.toList = a1_0.toList then (if a0_1.toList = a1_1.toList then (if a0_2.toList = a1_2.toList then (if a0_3.toList = a1_3.toList then (if a0_4 = a1_4 then (if a0_6 = a1_6 then ((watchbillref09_Same.f k l0_5 l1_5).bind fun t194 => (some t194)) else (some false)) else (some false)) else (some false)) else (some false)) else (some false)) else (some false)
theorem watchbillref20_One.mono : ∀ a0 a1 a2 a3 a4 a5 a6 a7 a8 a9 a10 a11 a12 a13 k, LeO (watchbillref20_One.f k a0 a1 a2 a3 a4 a5 a6 a7 a8 a9 a10 a11 a12 a13) (watchbillref20_One.f (k + 1) a0 a1 a2 a3 a4 a5 a6 a7 a8 a9 a10 a11 a12 a13) := by
  intro a0 a1 a2 a3 a4 a5 a6 a7 a8 a9 a10 a11 a12 a13 k
  unfold watchbillref20_One.f
  repeat' first
      | (with_reducible exact watchbillref09_Same.mono _ _ _)
      | (with_reducible exact LeO.refl _)
      | (with_reducible exact LeO.none _)
      | (with_reducible refine LeO.ite ?_ ?_)
      | (with_reducible refine LeO.bind ?_ (fun _ => ?_))
      | exact watchbillref09_Same.mono _ _ _
      | exact LeO.none _
      | refine LeO.ite ?_ ?_
      | refine LeO.bind ?_ (fun _ => ?_)
set_option maxHeartbeats 8000000 in
set_option maxRecDepth 100000 in
theorem watchbillref20_One.calls (k : Nat) (a0_0 : ByteArray) (a0_1 : ByteArray) (a0_2 : ByteArray) (a0_3 : ByteArray) (a0_4 : Int) (A0_5 : Option Addr) (c0_5 : Nat) (l0_5 : List ByteArray) (a0_6 : Int) (a1_0 : ByteArray) (a1_1 : ByteArray) (a1_2 : ByteArray) (a1_3 : ByteArray) (a1_4 : Int) (A1_5 : Option Addr) (c1_5 : Nat) (l1_5 : List ByteArray) (a1_6 : Int) (r : Bool) (w : World) (hr0_5 : Kd.C Kd.string w A0_5 l0_5.length l0_5) (hc0_5 : l0_5.length ≤ c0_5) (hr1_5 : Kd.C Kd.string w A1_5 l1_5.length l1_5) (hc1_5 : l1_5.length ≤ c1_5) (h : watchbillref20_One.f k a0_0 a0_1 a0_2 a0_3 a0_4 l0_5 a0_6 a1_0 a1_1 a1_2 a1_3 a1_4 l1_5 a1_6 = some r) :
    Calls Tryd.prog 15 #[.agg #[.string a0_0, .string a0_1, .string a0_2, .string a0_3, .int .i64 a0_4, .slice A0_5 l0_5.length c0_5, .int .u64 a0_6], .agg #[.string a1_0, .string a1_1, .string a1_2, .string a1_3, .int .i64 a1_4, .slice A1_5 l1_5.length c1_5, .int .u64 a1_6]] w fun e w' => e = .returned (.bool r) ∧ Below w.heap.size w w' := by
  have hu38 := Tryd.underlying38
  have HR0_5 := Aside0.mk hr0_5
  have HC0_5 := Aside0.mk hc0_5
  clear hr0_5 hc0_5
  have HR1_5 := Aside0.mk hr1_5
  have HC1_5 := Aside0.mk hc1_5
  clear hr1_5 hc1_5
  have HB := Aside0.mk (Below.refl w.heap.size w)
  have H : (if a0_0.toList = a1_0.toList then (if a0_1.toList = a1_1.toList then (if a0_2.toList = a1_2.toList then (if a0_3.toList = a1_3.toList then (if a0_4 = a1_4 then (if a0_6 = a1_6 then ((watchbillref09_Same.f k l0_5 l1_5).bind fun t194 => (some t194)) else (some false)) else (some false)) else (some false)) else (some false)) else (some false)) else (some false)) = some r := h
  clear h
  by_cases c3 : a0_0.toList = a1_0.toList
  rotate_left 1
  · rw [if_neg c3] at H
    have c3b0 : (a0_0.toList == a1_0.toList) = false := beq_eq_false_iff_ne.mpr c3
    have c3b1 : (a0_0.toList != a1_0.toList) = true := bne_iff_ne.mpr c3
    obtain rfl := Option.some.inj H
    go_enter Tryd.func15, Tryd.ntmps15
    go_wp2_with (first | ((with_reducible refine gate_dst (N := 2) rfl ?_); refine box_event ?hg (N := 2) ?hd (cs := #[.string a0_0, .string a0_1, .string a0_2, .string a0_3, .int .i64 a0_4, .slice A0_5 l0_5.length c0_5, .int .u64 a0_6]) (t := 38) ?hr ?_; (case hd => rfl); (case hg => rfl); (case hr => first | (go_simp; done) | (go_simp; rfl)); intro gb192 hg w40 hbox hb; have n0_ := Aside0.mk (below_step (by repeat (first | (with_reducible first | exact HB.out | apply below_alloc | apply pw_below_drewN | apply below_drew1) | exact HB.out)) hb); have n1_ := Aside0.mk (hbox); have n2_ := Aside0.mk ((by rw [hg]; exact (below_size (by repeat (first | (with_reducible first | exact HB.out | apply below_alloc | apply pw_below_drewN | apply below_drew1) | exact HB.out))) : w.heap.size ≤ gb192)); have n3_ := Aside0.mk ((by rw [hg]; exact (below_size (by repeat (first | (with_reducible first | exact HB.out | apply below_alloc | apply pw_below_drewN | apply below_drew1) | exact HB.out))) : w.heap.size ≤ gb192)); clear HB; have HB := n0_; have BK192 := n1_; have GW192 := n2_; have GE192 := n3_; clear n0_ n1_ n2_ n3_; clear hb hbox hg) | ((with_reducible refine gate_dst (N := 3) rfl ?_); refine box_event ?hg (N := 3) ?hd (cs := #[.string a1_0, .string a1_1, .string a1_2, .string a1_3, .int .i64 a1_4, .slice A1_5 l1_5.length c1_5, .int .u64 a1_6]) (t := 38) ?hr ?_; (case hd => rfl); (case hg => rfl); (case hr => first | (go_simp; done) | (go_simp; rfl)); intro gb193 hg w41 hbox hb; have n0_ := Aside0.mk (blk_below (g := gb192) (o := .cells #[.string a0_0, .string a0_1, .string a0_2, .string a0_3, .int .i64 a0_4, .slice A0_5 l0_5.length c0_5, .int .u64 a0_6] 38 (0, 0)) (by (with_reducible repeat (first | refine blk_drewN ?_ _ | refine blk_drew ?_ | refine blk_alloc ?_ _)); exact BK192.out) hb); have n1_ := Aside0.mk (below_step (by repeat (first | (with_reducible first | exact HB.out | apply below_alloc | apply pw_below_drewN | apply below_drew1 | refine below_set ?_ GE192.out) | exact HB.out)) hb); have n2_ := Aside0.mk (hbox); have n3_ := Aside0.mk ((by rw [hg]; exact (below_size (by repeat (first | (with_reducible first | exact HB.out | apply below_alloc | apply pw_below_drewN | apply below_drew1 | refine below_set ?_ GE192.out) | exact HB.out))) : w.heap.size ≤ gb193)); have n4_ := Aside0.mk ((by rw [hg]; exact (below_size (by repeat (first | (with_reducible first | exact HB.out | apply below_alloc | apply pw_below_drewN | apply below_drew1 | refine below_set ?_ GE192.out) | exact HB.out))) : w.heap.size ≤ gb193)); have n5_ := Aside0.mk ((by rw [hg]; exact Nat.ne_of_lt (blk_lt (g := gb192) (o := .cells #[.string a0_0, .string a0_1, .string a0_2, .string a0_3, .int .i64 a0_4, .slice A0_5 l0_5.length c0_5, .int .u64 a0_6] 38 (0, 0)) (by (with_reducible repeat (first | refine blk_drewN ?_ _ | refine blk_drew ?_ | refine blk_alloc ?_ _)); exact BK192.out)) : gb192 ≠ gb193)); have n6_ := Aside0.mk ((by rw [hg]; exact Nat.ne_of_gt (blk_lt (g := gb192) (o := .cells #[.string a0_0, .string a0_1, .string a0_2, .string a0_3, .int .i64 a0_4, .slice A0_5 l0_5.length c0_5, .int .u64 a0_6] 38 (0, 0)) (by (with_reducible repeat (first | refine blk_drewN ?_ _ | refine blk_drew ?_ | refine blk_alloc ?_ _)); exact BK192.out)) : gb193 ≠ gb192)); clear BK192; clear HB; have BK192 := n0_; have HB := n1_; have BK193 := n2_; have GW193 := n3_; have GE193 := n4_; have NB192_193 := n5_; have NB193_192 := n6_; clear n0_ n1_ n2_ n3_ n4_ n5_ n6_; clear hb hbox hg; have hnb42 := NB192_193.out; have hnc42 := NB193_192.out; have hcz43_0 : w41.cell? ⟨gb192, 0, none⟩ = some (.string a0_0) := (blk_cell BK192.out 0).trans rfl; have hcz43_1 : w41.cell? ⟨gb192, 1, none⟩ = some (.string a0_1) := (blk_cell BK192.out 1).trans rfl; have hcz43_2 : w41.cell? ⟨gb192, 2, none⟩ = some (.string a0_2) := (blk_cell BK192.out 2).trans rfl; have hcz43_3 : w41.cell? ⟨gb192, 3, none⟩ = some (.string a0_3) := (blk_cell BK192.out 3).trans rfl; have hcz43_4 : w41.cell? ⟨gb192, 4, none⟩ = some (.int .i64 a0_4) := (blk_cell BK192.out 4).trans rfl; have hcz43_5 : w41.cell? ⟨gb192, 5, none⟩ = some (.slice A0_5 l0_5.length c0_5) := (blk_cell BK192.out 5).trans rfl; have hcz43_6 : w41.cell? ⟨gb192, 6, none⟩ = some (.int .u64 a0_6) := (blk_cell BK192.out 6).trans rfl; have hfz43_0 := blk_frozen BK192.out 0; have hfz43_1 := blk_frozen BK192.out 1; have hfz43_2 := blk_frozen BK192.out 2; have hfz43_3 := blk_frozen BK192.out 3; have hfz43_4 := blk_frozen BK192.out 4; have hfz43_5 := blk_frozen BK192.out 5; have hfz43_6 := blk_frozen BK192.out 6; have hcz44_0 : w41.cell? ⟨gb193, 0, none⟩ = some (.string a1_0) := (blk_cell BK193.out 0).trans rfl; have hcz44_1 : w41.cell? ⟨gb193, 1, none⟩ = some (.string a1_1) := (blk_cell BK193.out 1).trans rfl; have hcz44_2 : w41.cell? ⟨gb193, 2, none⟩ = some (.string a1_2) := (blk_cell BK193.out 2).trans rfl; have hcz44_3 : w41.cell? ⟨gb193, 3, none⟩ = some (.string a1_3) := (blk_cell BK193.out 3).trans rfl; have hcz44_4 : w41.cell? ⟨gb193, 4, none⟩ = some (.int .i64 a1_4) := (blk_cell BK193.out 4).trans rfl; have hcz44_5 : w41.cell? ⟨gb193, 5, none⟩ = some (.slice A1_5 l1_5.length c1_5) := (blk_cell BK193.out 5).trans rfl; have hcz44_6 : w41.cell? ⟨gb193, 6, none⟩ = some (.int .u64 a1_6) := (blk_cell BK193.out 6).trans rfl; have hfz44_0 := blk_frozen BK193.out 0; have hfz44_1 := blk_frozen BK193.out 1; have hfz44_2 := blk_frozen BK193.out 2; have hfz44_3 := blk_frozen BK193.out 3; have hfz44_4 := blk_frozen BK193.out 4; have hfz44_5 := blk_frozen BK193.out 5; have hfz44_6 := blk_frozen BK193.out 6))
    go_ret
    exact ⟨by first | rfl | (simp [errW_none, errW_some] <;> rfl) | (simp [*, errW_none, errW_some] <;> rfl), by repeat (first | (with_reducible first | exact HB.out | apply below_alloc | apply pw_below_drewN | apply below_drew1 | refine below_set ?_ GE192.out | refine below_set ?_ GE193.out) | exact HB.out)⟩

  rw [if_pos c3] at H
  have c3b0 : (a0_0.toList == a1_0.toList) = true := beq_iff_eq.mpr c3
  have c3b1 : (a0_0.toList != a1_0.toList) = false := bne_eq_false_iff_eq.mpr c3
  clear c3
  by_cases c4 : a0_1.toList = a1_1.toList
  rotate_left 1
  · rw [if_neg c4] at H
    have c4b0 : (a0_1.toList == a1_1.toList) = false := beq_eq_false_iff_ne.mpr c4
    have c4b1 : (a0_1.toList != a1_1.toList) = true := bne_iff_ne.mpr c4
    obtain rfl := Option.some.inj H
    go_enter Tryd.func15, Tryd.ntmps15
    go_wp2_with (first | ((with_reducible refine gate_dst (N := 2) rfl ?_); refine box_event ?hg (N := 2) ?hd (cs := #[.string a0_0, .string a0_1, .string a0_2, .string a0_3, .int .i64 a0_4, .slice A0_5 l0_5.length c0_5, .int .u64 a0_6]) (t := 38) ?hr ?_; (case hd => rfl); (case hg => rfl); (case hr => first | (go_simp; done) | (go_simp; rfl)); intro gb192 hg w35 hbox hb; have n0_ := Aside0.mk (below_step (by repeat (first | (with_reducible first | exact HB.out | apply below_alloc | apply pw_below_drewN | apply below_drew1) | exact HB.out)) hb); have n1_ := Aside0.mk (hbox); have n2_ := Aside0.mk ((by rw [hg]; exact (below_size (by repeat (first | (with_reducible first | exact HB.out | apply below_alloc | apply pw_below_drewN | apply below_drew1) | exact HB.out))) : w.heap.size ≤ gb192)); have n3_ := Aside0.mk ((by rw [hg]; exact (below_size (by repeat (first | (with_reducible first | exact HB.out | apply below_alloc | apply pw_below_drewN | apply below_drew1) | exact HB.out))) : w.heap.size ≤ gb192)); clear HB; have HB := n0_; have BK192 := n1_; have GW192 := n2_; have GE192 := n3_; clear n0_ n1_ n2_ n3_; clear hb hbox hg) | ((with_reducible refine gate_dst (N := 3) rfl ?_); refine box_event ?hg (N := 3) ?hd (cs := #[.string a1_0, .string a1_1, .string a1_2, .string a1_3, .int .i64 a1_4, .slice A1_5 l1_5.length c1_5, .int .u64 a1_6]) (t := 38) ?hr ?_; (case hd => rfl); (case hg => rfl); (case hr => first | (go_simp; done) | (go_simp; rfl)); intro gb193 hg w36 hbox hb; have n0_ := Aside0.mk (blk_below (g := gb192) (o := .cells #[.string a0_0, .string a0_1, .string a0_2, .string a0_3, .int .i64 a0_4, .slice A0_5 l0_5.length c0_5, .int .u64 a0_6] 38 (0, 0)) (by (with_reducible repeat (first | refine blk_drewN ?_ _ | refine blk_drew ?_ | refine blk_alloc ?_ _)); exact BK192.out) hb); have n1_ := Aside0.mk (below_step (by repeat (first | (with_reducible first | exact HB.out | apply below_alloc | apply pw_below_drewN | apply below_drew1 | refine below_set ?_ GE192.out) | exact HB.out)) hb); have n2_ := Aside0.mk (hbox); have n3_ := Aside0.mk ((by rw [hg]; exact (below_size (by repeat (first | (with_reducible first | exact HB.out | apply below_alloc | apply pw_below_drewN | apply below_drew1 | refine below_set ?_ GE192.out) | exact HB.out))) : w.heap.size ≤ gb193)); have n4_ := Aside0.mk ((by rw [hg]; exact (below_size (by repeat (first | (with_reducible first | exact HB.out | apply below_alloc | apply pw_below_drewN | apply below_drew1 | refine below_set ?_ GE192.out) | exact HB.out))) : w.heap.size ≤ gb193)); have n5_ := Aside0.mk ((by rw [hg]; exact Nat.ne_of_lt (blk_lt (g := gb192) (o := .cells #[.string a0_0, .string a0_1, .string a0_2, .string a0_3, .int .i64 a0_4, .slice A0_5 l0_5.length c0_5, .int .u64 a0_6] 38 (0, 0)) (by (with_reducible repeat (first | refine blk_drewN ?_ _ | refine blk_drew ?_ | refine blk_alloc ?_ _)); exact BK192.out)) : gb192 ≠ gb193)); have n6_ := Aside0.mk ((by rw [hg]; exact Nat.ne_of_gt (blk_lt (g := gb192) (o := .cells #[.string a0_0, .string a0_1, .string a0_2, .string a0_3, .int .i64 a0_4, .slice A0_5 l0_5.length c0_5, .int .u64 a0_6] 38 (0, 0)) (by (with_reducible repeat (first | refine blk_drewN ?_ _ | refine blk_drew ?_ | refine blk_alloc ?_ _)); exact BK192.out)) : gb193 ≠ gb192)); clear BK192; clear HB; have BK192 := n0_; have HB := n1_; have BK193 := n2_; have GW193 := n3_; have GE193 := n4_; have NB192_193 := n5_; have NB193_192 := n6_; clear n0_ n1_ n2_ n3_ n4_ n5_ n6_; clear hb hbox hg; have hnb37 := NB192_193.out; have hnc37 := NB193_192.out; have hcz38_0 : w36.cell? ⟨gb192, 0, none⟩ = some (.string a0_0) := (blk_cell BK192.out 0).trans rfl; have hcz38_1 : w36.cell? ⟨gb192, 1, none⟩ = some (.string a0_1) := (blk_cell BK192.out 1).trans rfl; have hcz38_2 : w36.cell? ⟨gb192, 2, none⟩ = some (.string a0_2) := (blk_cell BK192.out 2).trans rfl; have hcz38_3 : w36.cell? ⟨gb192, 3, none⟩ = some (.string a0_3) := (blk_cell BK192.out 3).trans rfl; have hcz38_4 : w36.cell? ⟨gb192, 4, none⟩ = some (.int .i64 a0_4) := (blk_cell BK192.out 4).trans rfl; have hcz38_5 : w36.cell? ⟨gb192, 5, none⟩ = some (.slice A0_5 l0_5.length c0_5) := (blk_cell BK192.out 5).trans rfl; have hcz38_6 : w36.cell? ⟨gb192, 6, none⟩ = some (.int .u64 a0_6) := (blk_cell BK192.out 6).trans rfl; have hfz38_0 := blk_frozen BK192.out 0; have hfz38_1 := blk_frozen BK192.out 1; have hfz38_2 := blk_frozen BK192.out 2; have hfz38_3 := blk_frozen BK192.out 3; have hfz38_4 := blk_frozen BK192.out 4; have hfz38_5 := blk_frozen BK192.out 5; have hfz38_6 := blk_frozen BK192.out 6; have hcz39_0 : w36.cell? ⟨gb193, 0, none⟩ = some (.string a1_0) := (blk_cell BK193.out 0).trans rfl; have hcz39_1 : w36.cell? ⟨gb193, 1, none⟩ = some (.string a1_1) := (blk_cell BK193.out 1).trans rfl; have hcz39_2 : w36.cell? ⟨gb193, 2, none⟩ = some (.string a1_2) := (blk_cell BK193.out 2).trans rfl; have hcz39_3 : w36.cell? ⟨gb193, 3, none⟩ = some (.string a1_3) := (blk_cell BK193.out 3).trans rfl; have hcz39_4 : w36.cell? ⟨gb193, 4, none⟩ = some (.int .i64 a1_4) := (blk_cell BK193.out 4).trans rfl; have hcz39_5 : w36.cell? ⟨gb193, 5, none⟩ = some (.slice A1_5 l1_5.length c1_5) := (blk_cell BK193.out 5).trans rfl; have hcz39_6 : w36.cell? ⟨gb193, 6, none⟩ = some (.int .u64 a1_6) := (blk_cell BK193.out 6).trans rfl; have hfz39_0 := blk_frozen BK193.out 0; have hfz39_1 := blk_frozen BK193.out 1; have hfz39_2 := blk_frozen BK193.out 2; have hfz39_3 := blk_frozen BK193.out 3; have hfz39_4 := blk_frozen BK193.out 4; have hfz39_5 := blk_frozen BK193.out 5; have hfz39_6 := blk_frozen BK193.out 6))
    go_ret
    exact ⟨by first | rfl | (simp [errW_none, errW_some] <;> rfl) | (simp [*, errW_none, errW_some] <;> rfl), by repeat (first | (with_reducible first | exact HB.out | apply below_alloc | apply pw_below_drewN | apply below_drew1 | refine below_set ?_ GE192.out | refine below_set ?_ GE193.out) | exact HB.out)⟩
  rw [if_pos c4] at H
  have c4b0 : (a0_1.toList == a1_1.toList) = true := beq_iff_eq.mpr c4
  have c4b1 : (a0_1.toList != a1_1.toList) = false := bne_eq_false_iff_eq.mpr c4
  clear c4
  by_cases c5 : a0_2.toList = a1_2.toList
  rotate_left 1
  · rw [if_neg c5] at H
    have c5b0 : (a0_2.toList == a1_2.toList) = false := beq_eq_false_iff_ne.mpr c5
    have c5b1 : (a0_2.toList != a1_2.toList) = true := bne_iff_ne.mpr c5
    obtain rfl := Option.some.inj H
    go_enter Tryd.func15, Tryd.ntmps15
    go_wp2_with (first | ((with_reducible refine gate_dst (N := 2) rfl ?_); refine box_event ?hg (N := 2) ?hd (cs := #[.string a0_0, .string a0_1, .string a0_2, .string a0_3, .int .i64 a0_4, .slice A0_5 l0_5.length c0_5, .int .u64 a0_6]) (t := 38) ?hr ?_; (case hd => rfl); (case hg => rfl); (case hr => first | (go_simp; done) | (go_simp; rfl)); intro gb192 hg w30 hbox hb; have n0_ := Aside0.mk (below_step (by repeat (first | (with_reducible first | exact HB.out | apply below_alloc | apply pw_below_drewN | apply below_drew1) | exact HB.out)) hb); have n1_ := Aside0.mk (hbox); have n2_ := Aside0.mk ((by rw [hg]; exact (below_size (by repeat (first | (with_reducible first | exact HB.out | apply below_alloc | apply pw_below_drewN | apply below_drew1) | exact HB.out))) : w.heap.size ≤ gb192)); have n3_ := Aside0.mk ((by rw [hg]; exact (below_size (by repeat (first | (with_reducible first | exact HB.out | apply below_alloc | apply pw_below_drewN | apply below_drew1) | exact HB.out))) : w.heap.size ≤ gb192)); clear HB; have HB := n0_; have BK192 := n1_; have GW192 := n2_; have GE192 := n3_; clear n0_ n1_ n2_ n3_; clear hb hbox hg) | ((with_reducible refine gate_dst (N := 3) rfl ?_); refine box_event ?hg (N := 3) ?hd (cs := #[.string a1_0, .string a1_1, .string a1_2, .string a1_3, .int .i64 a1_4, .slice A1_5 l1_5.length c1_5, .int .u64 a1_6]) (t := 38) ?hr ?_; (case hd => rfl); (case hg => rfl); (case hr => first | (go_simp; done) | (go_simp; rfl)); intro gb193 hg w31 hbox hb; have n0_ := Aside0.mk (blk_below (g := gb192) (o := .cells #[.string a0_0, .string a0_1, .string a0_2, .string a0_3, .int .i64 a0_4, .slice A0_5 l0_5.length c0_5, .int .u64 a0_6] 38 (0, 0)) (by (with_reducible repeat (first | refine blk_drewN ?_ _ | refine blk_drew ?_ | refine blk_alloc ?_ _)); exact BK192.out) hb); have n1_ := Aside0.mk (below_step (by repeat (first | (with_reducible first | exact HB.out | apply below_alloc | apply pw_below_drewN | apply below_drew1 | refine below_set ?_ GE192.out) | exact HB.out)) hb); have n2_ := Aside0.mk (hbox); have n3_ := Aside0.mk ((by rw [hg]; exact (below_size (by repeat (first | (with_reducible first | exact HB.out | apply below_alloc | apply pw_below_drewN | apply below_drew1 | refine below_set ?_ GE192.out) | exact HB.out))) : w.heap.size ≤ gb193)); have n4_ := Aside0.mk ((by rw [hg]; exact (below_size (by repeat (first | (with_reducible first | exact HB.out | apply below_alloc | apply pw_below_drewN | apply below_drew1 | refine below_set ?_ GE192.out) | exact HB.out))) : w.heap.size ≤ gb193)); have n5_ := Aside0.mk ((by rw [hg]; exact Nat.ne_of_lt (blk_lt (g := gb192) (o := .cells #[.string a0_0, .string a0_1, .string a0_2, .string a0_3, .int .i64 a0_4, .slice A0_5 l0_5.length c0_5, .int .u64 a0_6] 38 (0, 0)) (by (with_reducible repeat (first | refine blk_drewN ?_ _ | refine blk_drew ?_ | refine blk_alloc ?_ _)); exact BK192.out)) : gb192 ≠ gb193)); have n6_ := Aside0.mk ((by rw [hg]; exact Nat.ne_of_gt (blk_lt (g := gb192) (o := .cells #[.string a0_0, .string a0_1, .string a0_2, .string a0_3, .int .i64 a0_4, .slice A0_5 l0_5.length c0_5, .int .u64 a0_6] 38 (0, 0)) (by (with_reducible repeat (first | refine blk_drewN ?_ _ | refine blk_drew ?_ | refine blk_alloc ?_ _)); exact BK192.out)) : gb193 ≠ gb192)); clear BK192; clear HB; have BK192 := n0_; have HB := n1_; have BK193 := n2_; have GW193 := n3_; have GE193 := n4_; have NB192_193 := n5_; have NB193_192 := n6_; clear n0_ n1_ n2_ n3_ n4_ n5_ n6_; clear hb hbox hg; have hnb32 := NB192_193.out; have hnc32 := NB193_192.out; have hcz33_0 : w31.cell? ⟨gb192, 0, none⟩ = some (.string a0_0) := (blk_cell BK192.out 0).trans rfl; have hcz33_1 : w31.cell? ⟨gb192, 1, none⟩ = some (.string a0_1) := (blk_cell BK192.out 1).trans rfl; have hcz33_2 : w31.cell? ⟨gb192, 2, none⟩ = some (.string a0_2) := (blk_cell BK192.out 2).trans rfl; have hcz33_3 : w31.cell? ⟨gb192, 3, none⟩ = some (.string a0_3) := (blk_cell BK192.out 3).trans rfl; have hcz33_4 : w31.cell? ⟨gb192, 4, none⟩ = some (.int .i64 a0_4) := (blk_cell BK192.out 4).trans rfl; have hcz33_5 : w31.cell? ⟨gb192, 5, none⟩ = some (.slice A0_5 l0_5.length c0_5) := (blk_cell BK192.out 5).trans rfl; have hcz33_6 : w31.cell? ⟨gb192, 6, none⟩ = some (.int .u64 a0_6) := (blk_cell BK192.out 6).trans rfl; have hfz33_0 := blk_frozen BK192.out 0; have hfz33_1 := blk_frozen BK192.out 1; have hfz33_2 := blk_frozen BK192.out 2; have hfz33_3 := blk_frozen BK192.out 3; have hfz33_4 := blk_frozen BK192.out 4; have hfz33_5 := blk_frozen BK192.out 5; have hfz33_6 := blk_frozen BK192.out 6; have hcz34_0 : w31.cell? ⟨gb193, 0, none⟩ = some (.string a1_0) := (blk_cell BK193.out 0).trans rfl; have hcz34_1 : w31.cell? ⟨gb193, 1, none⟩ = some (.string a1_1) := (blk_cell BK193.out 1).trans rfl; have hcz34_2 : w31.cell? ⟨gb193, 2, none⟩ = some (.string a1_2) := (blk_cell BK193.out 2).trans rfl; have hcz34_3 : w31.cell? ⟨gb193, 3, none⟩ = some (.string a1_3) := (blk_cell BK193.out 3).trans rfl; have hcz34_4 : w31.cell? ⟨gb193, 4, none⟩ = some (.int .i64 a1_4) := (blk_cell BK193.out 4).trans rfl; have hcz34_5 : w31.cell? ⟨gb193, 5, none⟩ = some (.slice A1_5 l1_5.length c1_5) := (blk_cell BK193.out 5).trans rfl; have hcz34_6 : w31.cell? ⟨gb193, 6, none⟩ = some (.int .u64 a1_6) := (blk_cell BK193.out 6).trans rfl; have hfz34_0 := blk_frozen BK193.out 0; have hfz34_1 := blk_frozen BK193.out 1; have hfz34_2 := blk_frozen BK193.out 2; have hfz34_3 := blk_frozen BK193.out 3; have hfz34_4 := blk_frozen BK193.out 4; have hfz34_5 := blk_frozen BK193.out 5; have hfz34_6 := blk_frozen BK193.out 6))
    go_ret
    exact ⟨by first | rfl | (simp [errW_none, errW_some] <;> rfl) | (simp [*, errW_none, errW_some] <;> rfl), by repeat (first | (with_reducible first | exact HB.out | apply below_alloc | apply pw_below_drewN | apply below_drew1 | refine below_set ?_ GE192.out | refine below_set ?_ GE193.out) | exact HB.out)⟩
  rw [if_pos c5] at H
  have c5b0 : (a0_2.toList == a1_2.toList) = true := beq_iff_eq.mpr c5
  have c5b1 : (a0_2.toList != a1_2.toList) = false := bne_eq_false_iff_eq.mpr c5
  clear c5
  by_cases c6 : a0_3.toList = a1_3.toList
  rotate_left 1
  · rw [if_neg c6] at H
    have c6b0 : (a0_3.toList == a1_3.toList) = false := beq_eq_false_iff_ne.mpr c6
    have c6b1 : (a0_3.toList != a1_3.toList) = true := bne_iff_ne.mpr c6
    obtain rfl := Option.some.inj H
    go_enter Tryd.func15, Tryd.ntmps15
    go_wp2_with (first | ((with_reducible refine gate_dst (N := 2) rfl ?_); refine box_event ?hg (N := 2) ?hd (cs := #[.string a0_0, .string a0_1, .string a0_2, .string a0_3, .int .i64 a0_4, .slice A0_5 l0_5.length c0_5, .int .u64 a0_6]) (t := 38) ?hr ?_; (case hd => rfl); (case hg => rfl); (case hr => first | (go_simp; done) | (go_simp; rfl)); intro gb192 hg w25 hbox hb; have n0_ := Aside0.mk (below_step (by repeat (first | (with_reducible first | exact HB.out | apply below_alloc | apply pw_below_drewN | apply below_drew1) | exact HB.out)) hb); have n1_ := Aside0.mk (hbox); have n2_ := Aside0.mk ((by rw [hg]; exact (below_size (by repeat (first | (with_reducible first | exact HB.out | apply below_alloc | apply pw_below_drewN | apply below_drew1) | exact HB.out))) : w.heap.size ≤ gb192)); have n3_ := Aside0.mk ((by rw [hg]; exact (below_size (by repeat (first | (with_reducible first | exact HB.out | apply below_alloc | apply pw_below_drewN | apply below_drew1) | exact HB.out))) : w.heap.size ≤ gb192)); clear HB; have HB := n0_; have BK192 := n1_; have GW192 := n2_; have GE192 := n3_; clear n0_ n1_ n2_ n3_; clear hb hbox hg) | ((with_reducible refine gate_dst (N := 3) rfl ?_); refine box_event ?hg (N := 3) ?hd (cs := #[.string a1_0, .string a1_1, .string a1_2, .string a1_3, .int .i64 a1_4, .slice A1_5 l1_5.length c1_5, .int .u64 a1_6]) (t := 38) ?hr ?_; (case hd => rfl); (case hg => rfl); (case hr => first | (go_simp; done) | (go_simp; rfl)); intro gb193 hg w26 hbox hb; have n0_ := Aside0.mk (blk_below (g := gb192) (o := .cells #[.string a0_0, .string a0_1, .string a0_2, .string a0_3, .int .i64 a0_4, .slice A0_5 l0_5.length c0_5, .int .u64 a0_6] 38 (0, 0)) (by (with_reducible repeat (first | refine blk_drewN ?_ _ | refine blk_drew ?_ | refine blk_alloc ?_ _)); exact BK192.out) hb); have n1_ := Aside0.mk (below_step (by repeat (first | (with_reducible first | exact HB.out | apply below_alloc | apply pw_below_drewN | apply below_drew1 | refine below_set ?_ GE192.out) | exact HB.out)) hb); have n2_ := Aside0.mk (hbox); have n3_ := Aside0.mk ((by rw [hg]; exact (below_size (by repeat (first | (with_reducible first | exact HB.out | apply below_alloc | apply pw_below_drewN | apply below_drew1 | refine below_set ?_ GE192.out) | exact HB.out))) : w.heap.size ≤ gb193)); have n4_ := Aside0.mk ((by rw [hg]; exact (below_size (by repeat (first | (with_reducible first | exact HB.out | apply below_alloc | apply pw_below_drewN | apply below_drew1 | refine below_set ?_ GE192.out) | exact HB.out))) : w.heap.size ≤ gb193)); have n5_ := Aside0.mk ((by rw [hg]; exact Nat.ne_of_lt (blk_lt (g := gb192) (o := .cells #[.string a0_0, .string a0_1, .string a0_2, .string a0_3, .int .i64 a0_4, .slice A0_5 l0_5.length c0_5, .int .u64 a0_6] 38 (0, 0)) (by (with_reducible repeat (first | refine blk_drewN ?_ _ | refine blk_drew ?_ | refine blk_alloc ?_ _)); exact BK192.out)) : gb192 ≠ gb193)); have n6_ := Aside0.mk ((by rw [hg]; exact Nat.ne_of_gt (blk_lt (g := gb192) (o := .cells #[.string a0_0, .string a0_1, .string a0_2, .string a0_3, .int .i64 a0_4, .slice A0_5 l0_5.length c0_5, .int .u64 a0_6] 38 (0, 0)) (by (with_reducible repeat (first | refine blk_drewN ?_ _ | refine blk_drew ?_ | refine blk_alloc ?_ _)); exact BK192.out)) : gb193 ≠ gb192)); clear BK192; clear HB; have BK192 := n0_; have HB := n1_; have BK193 := n2_; have GW193 := n3_; have GE193 := n4_; have NB192_193 := n5_; have NB193_192 := n6_; clear n0_ n1_ n2_ n3_ n4_ n5_ n6_; clear hb hbox hg; have hnb27 := NB192_193.out; have hnc27 := NB193_192.out; have hcz28_0 : w26.cell? ⟨gb192, 0, none⟩ = some (.string a0_0) := (blk_cell BK192.out 0).trans rfl; have hcz28_1 : w26.cell? ⟨gb192, 1, none⟩ = some (.string a0_1) := (blk_cell BK192.out 1).trans rfl; have hcz28_2 : w26.cell? ⟨gb192, 2, none⟩ = some (.string a0_2) := (blk_cell BK192.out 2).trans rfl; have hcz28_3 : w26.cell? ⟨gb192, 3, none⟩ = some (.string a0_3) := (blk_cell BK192.out 3).trans rfl; have hcz28_4 : w26.cell? ⟨gb192, 4, none⟩ = some (.int .i64 a0_4) := (blk_cell BK192.out 4).trans rfl; have hcz28_5 : w26.cell? ⟨gb192, 5, none⟩ = some (.slice A0_5 l0_5.length c0_5) := (blk_cell BK192.out 5).trans rfl; have hcz28_6 : w26.cell? ⟨gb192, 6, none⟩ = some (.int .u64 a0_6) := (blk_cell BK192.out 6).trans rfl; have hfz28_0 := blk_frozen BK192.out 0; have hfz28_1 := blk_frozen BK192.out 1; have hfz28_2 := blk_frozen BK192.out 2; have hfz28_3 := blk_frozen BK192.out 3; have hfz28_4 := blk_frozen BK192.out 4; have hfz28_5 := blk_frozen BK192.out 5; have hfz28_6 := blk_frozen BK192.out 6; have hcz29_0 : w26.cell? ⟨gb193, 0, none⟩ = some (.string a1_0) := (blk_cell BK193.out 0).trans rfl; have hcz29_1 : w26.cell? ⟨gb193, 1, none⟩ = some (.string a1_1) := (blk_cell BK193.out 1).trans rfl; have hcz29_2 : w26.cell? ⟨gb193, 2, none⟩ = some (.string a1_2) := (blk_cell BK193.out 2).trans rfl; have hcz29_3 : w26.cell? ⟨gb193, 3, none⟩ = some (.string a1_3) := (blk_cell BK193.out 3).trans rfl; have hcz29_4 : w26.cell? ⟨gb193, 4, none⟩ = some (.int .i64 a1_4) := (blk_cell BK193.out 4).trans rfl; have hcz29_5 : w26.cell? ⟨gb193, 5, none⟩ = some (.slice A1_5 l1_5.length c1_5) := (blk_cell BK193.out 5).trans rfl; have hcz29_6 : w26.cell? ⟨gb193, 6, none⟩ = some (.int .u64 a1_6) := (blk_cell BK193.out 6).trans rfl; have hfz29_0 := blk_frozen BK193.out 0; have hfz29_1 := blk_frozen BK193.out 1; have hfz29_2 := blk_frozen BK193.out 2; have hfz29_3 := blk_frozen BK193.out 3; have hfz29_4 := blk_frozen BK193.out 4; have hfz29_5 := blk_frozen BK193.out 5; have hfz29_6 := blk_frozen BK193.out 6))
    go_ret
    exact ⟨by first | rfl | (simp [errW_none, errW_some] <;> rfl) | (simp [*, errW_none, errW_some] <;> rfl), by repeat (first | (with_reducible first | exact HB.out | apply below_alloc | apply pw_below_drewN | apply below_drew1 | refine below_set ?_ GE192.out | refine below_set ?_ GE193.out) | exact HB.out)⟩
  rw [if_pos c6] at H
  have c6b0 : (a0_3.toList == a1_3.toList) = true := beq_iff_eq.mpr c6
  have c6b1 : (a0_3.toList != a1_3.toList) = false := bne_eq_false_iff_eq.mpr c6
  clear c6
  by_cases c7 : a0_4 = a1_4
  rotate_left 1
  · rw [if_neg c7] at H
    have c7b0 : (a0_4 == a1_4) = false := beq_eq_false_iff_ne.mpr c7
    have c7b1 : (a0_4 != a1_4) = true := bne_iff_ne.mpr c7
    obtain rfl := Option.some.inj H
    go_enter Tryd.func15, Tryd.ntmps15
    go_wp2_with (first | ((with_reducible refine gate_dst (N := 2) rfl ?_); refine box_event ?hg (N := 2) ?hd (cs := #[.string a0_0, .string a0_1, .string a0_2, .string a0_3, .int .i64 a0_4, .slice A0_5 l0_5.length c0_5, .int .u64 a0_6]) (t := 38) ?hr ?_; (case hd => rfl); (case hg => rfl); (case hr => first | (go_simp; done) | (go_simp; rfl)); intro gb192 hg w20 hbox hb; have n0_ := Aside0.mk (below_step (by repeat (first | (with_reducible first | exact HB.out | apply below_alloc | apply pw_below_drewN | apply below_drew1) | exact HB.out)) hb); have n1_ := Aside0.mk (hbox); have n2_ := Aside0.mk ((by rw [hg]; exact (below_size (by repeat (first | (with_reducible first | exact HB.out | apply below_alloc | apply pw_below_drewN | apply below_drew1) | exact HB.out))) : w.heap.size ≤ gb192)); have n3_ := Aside0.mk ((by rw [hg]; exact (below_size (by repeat (first | (with_reducible first | exact HB.out | apply below_alloc | apply pw_below_drewN | apply below_drew1) | exact HB.out))) : w.heap.size ≤ gb192)); clear HB; have HB := n0_; have BK192 := n1_; have GW192 := n2_; have GE192 := n3_; clear n0_ n1_ n2_ n3_; clear hb hbox hg) | ((with_reducible refine gate_dst (N := 3) rfl ?_); refine box_event ?hg (N := 3) ?hd (cs := #[.string a1_0, .string a1_1, .string a1_2, .string a1_3, .int .i64 a1_4, .slice A1_5 l1_5.length c1_5, .int .u64 a1_6]) (t := 38) ?hr ?_; (case hd => rfl); (case hg => rfl); (case hr => first | (go_simp; done) | (go_simp; rfl)); intro gb193 hg w21 hbox hb; have n0_ := Aside0.mk (blk_below (g := gb192) (o := .cells #[.string a0_0, .string a0_1, .string a0_2, .string a0_3, .int .i64 a0_4, .slice A0_5 l0_5.length c0_5, .int .u64 a0_6] 38 (0, 0)) (by (with_reducible repeat (first | refine blk_drewN ?_ _ | refine blk_drew ?_ | refine blk_alloc ?_ _)); exact BK192.out) hb); have n1_ := Aside0.mk (below_step (by repeat (first | (with_reducible first | exact HB.out | apply below_alloc | apply pw_below_drewN | apply below_drew1 | refine below_set ?_ GE192.out) | exact HB.out)) hb); have n2_ := Aside0.mk (hbox); have n3_ := Aside0.mk ((by rw [hg]; exact (below_size (by repeat (first | (with_reducible first | exact HB.out | apply below_alloc | apply pw_below_drewN | apply below_drew1 | refine below_set ?_ GE192.out) | exact HB.out))) : w.heap.size ≤ gb193)); have n4_ := Aside0.mk ((by rw [hg]; exact (below_size (by repeat (first | (with_reducible first | exact HB.out | apply below_alloc | apply pw_below_drewN | apply below_drew1 | refine below_set ?_ GE192.out) | exact HB.out))) : w.heap.size ≤ gb193)); have n5_ := Aside0.mk ((by rw [hg]; exact Nat.ne_of_lt (blk_lt (g := gb192) (o := .cells #[.string a0_0, .string a0_1, .string a0_2, .string a0_3, .int .i64 a0_4, .slice A0_5 l0_5.length c0_5, .int .u64 a0_6] 38 (0, 0)) (by (with_reducible repeat (first | refine blk_drewN ?_ _ | refine blk_drew ?_ | refine blk_alloc ?_ _)); exact BK192.out)) : gb192 ≠ gb193)); have n6_ := Aside0.mk ((by rw [hg]; exact Nat.ne_of_gt (blk_lt (g := gb192) (o := .cells #[.string a0_0, .string a0_1, .string a0_2, .string a0_3, .int .i64 a0_4, .slice A0_5 l0_5.length c0_5, .int .u64 a0_6] 38 (0, 0)) (by (with_reducible repeat (first | refine blk_drewN ?_ _ | refine blk_drew ?_ | refine blk_alloc ?_ _)); exact BK192.out)) : gb193 ≠ gb192)); clear BK192; clear HB; have BK192 := n0_; have HB := n1_; have BK193 := n2_; have GW193 := n3_; have GE193 := n4_; have NB192_193 := n5_; have NB193_192 := n6_; clear n0_ n1_ n2_ n3_ n4_ n5_ n6_; clear hb hbox hg; have hnb22 := NB192_193.out; have hnc22 := NB193_192.out; have hcz23_0 : w21.cell? ⟨gb192, 0, none⟩ = some (.string a0_0) := (blk_cell BK192.out 0).trans rfl; have hcz23_1 : w21.cell? ⟨gb192, 1, none⟩ = some (.string a0_1) := (blk_cell BK192.out 1).trans rfl; have hcz23_2 : w21.cell? ⟨gb192, 2, none⟩ = some (.string a0_2) := (blk_cell BK192.out 2).trans rfl; have hcz23_3 : w21.cell? ⟨gb192, 3, none⟩ = some (.string a0_3) := (blk_cell BK192.out 3).trans rfl; have hcz23_4 : w21.cell? ⟨gb192, 4, none⟩ = some (.int .i64 a0_4) := (blk_cell BK192.out 4).trans rfl; have hcz23_5 : w21.cell? ⟨gb192, 5, none⟩ = some (.slice A0_5 l0_5.length c0_5) := (blk_cell BK192.out 5).trans rfl; have hcz23_6 : w21.cell? ⟨gb192, 6, none⟩ = some (.int .u64 a0_6) := (blk_cell BK192.out 6).trans rfl; have hfz23_0 := blk_frozen BK192.out 0; have hfz23_1 := blk_frozen BK192.out 1; have hfz23_2 := blk_frozen BK192.out 2; have hfz23_3 := blk_frozen BK192.out 3; have hfz23_4 := blk_frozen BK192.out 4; have hfz23_5 := blk_frozen BK192.out 5; have hfz23_6 := blk_frozen BK192.out 6; have hcz24_0 : w21.cell? ⟨gb193, 0, none⟩ = some (.string a1_0) := (blk_cell BK193.out 0).trans rfl; have hcz24_1 : w21.cell? ⟨gb193, 1, none⟩ = some (.string a1_1) := (blk_cell BK193.out 1).trans rfl; have hcz24_2 : w21.cell? ⟨gb193, 2, none⟩ = some (.string a1_2) := (blk_cell BK193.out 2).trans rfl; have hcz24_3 : w21.cell? ⟨gb193, 3, none⟩ = some (.string a1_3) := (blk_cell BK193.out 3).trans rfl; have hcz24_4 : w21.cell? ⟨gb193, 4, none⟩ = some (.int .i64 a1_4) := (blk_cell BK193.out 4).trans rfl; have hcz24_5 : w21.cell? ⟨gb193, 5, none⟩ = some (.slice A1_5 l1_5.length c1_5) := (blk_cell BK193.out 5).trans rfl; have hcz24_6 : w21.cell? ⟨gb193, 6, none⟩ = some (.int .u64 a1_6) := (blk_cell BK193.out 6).trans rfl; have hfz24_0 := blk_frozen BK193.out 0; have hfz24_1 := blk_frozen BK193.out 1; have hfz24_2 := blk_frozen BK193.out 2; have hfz24_3 := blk_frozen BK193.out 3; have hfz24_4 := blk_frozen BK193.out 4; have hfz24_5 := blk_frozen BK193.out 5; have hfz24_6 := blk_frozen BK193.out 6))
    go_ret
    exact ⟨by first | rfl | (simp [errW_none, errW_some] <;> rfl) | (simp [*, errW_none, errW_some] <;> rfl), by repeat (first | (with_reducible first | exact HB.out | apply below_alloc | apply pw_below_drewN | apply below_drew1 | refine below_set ?_ GE192.out | refine below_set ?_ GE193.out) | exact HB.out)⟩
  rw [if_pos c7] at H
  have c7b0 : (a0_4 == a1_4) = true := beq_iff_eq.mpr c7
  have c7b1 : (a0_4 != a1_4) = false := bne_eq_false_iff_eq.mpr c7
  clear c7
  by_cases c8 : a0_6 = a1_6
  rotate_left 1
  · rw [if_neg c8] at H
    have c8b0 : (a0_6 == a1_6) = false := beq_eq_false_iff_ne.mpr c8
    have c8b1 : (a0_6 != a1_6) = true := bne_iff_ne.mpr c8
    obtain rfl := Option.some.inj H
    go_enter Tryd.func15, Tryd.ntmps15
    go_wp2_with (first | ((with_reducible refine gate_dst (N := 2) rfl ?_); refine box_event ?hg (N := 2) ?hd (cs := #[.string a0_0, .string a0_1, .string a0_2, .string a0_3, .int .i64 a0_4, .slice A0_5 l0_5.length c0_5, .int .u64 a0_6]) (t := 38) ?hr ?_; (case hd => rfl); (case hg => rfl); (case hr => first | (go_simp; done) | (go_simp; rfl)); intro gb192 hg w15 hbox hb; have n0_ := Aside0.mk (below_step (by repeat (first | (with_reducible first | exact HB.out | apply below_alloc | apply pw_below_drewN | apply below_drew1) | exact HB.out)) hb); have n1_ := Aside0.mk (hbox); have n2_ := Aside0.mk ((by rw [hg]; exact (below_size (by repeat (first | (with_reducible first | exact HB.out | apply below_alloc | apply pw_below_drewN | apply below_drew1) | exact HB.out))) : w.heap.size ≤ gb192)); have n3_ := Aside0.mk ((by rw [hg]; exact (below_size (by repeat (first | (with_reducible first | exact HB.out | apply below_alloc | apply pw_below_drewN | apply below_drew1) | exact HB.out))) : w.heap.size ≤ gb192)); clear HB; have HB := n0_; have BK192 := n1_; have GW192 := n2_; have GE192 := n3_; clear n0_ n1_ n2_ n3_; clear hb hbox hg) | ((with_reducible refine gate_dst (N := 3) rfl ?_); refine box_event ?hg (N := 3) ?hd (cs := #[.string a1_0, .string a1_1, .string a1_2, .string a1_3, .int .i64 a1_4, .slice A1_5 l1_5.length c1_5, .int .u64 a1_6]) (t := 38) ?hr ?_; (case hd => rfl); (case hg => rfl); (case hr => first | (go_simp; done) | (go_simp; rfl)); intro gb193 hg w16 hbox hb; have n0_ := Aside0.mk (blk_below (g := gb192) (o := .cells #[.string a0_0, .string a0_1, .string a0_2, .string a0_3, .int .i64 a0_4, .slice A0_5 l0_5.length c0_5, .int .u64 a0_6] 38 (0, 0)) (by (with_reducible repeat (first | refine blk_drewN ?_ _ | refine blk_drew ?_ | refine blk_alloc ?_ _)); exact BK192.out) hb); have n1_ := Aside0.mk (below_step (by repeat (first | (with_reducible first | exact HB.out | apply below_alloc | apply pw_below_drewN | apply below_drew1 | refine below_set ?_ GE192.out) | exact HB.out)) hb); have n2_ := Aside0.mk (hbox); have n3_ := Aside0.mk ((by rw [hg]; exact (below_size (by repeat (first | (with_reducible first | exact HB.out | apply below_alloc | apply pw_below_drewN | apply below_drew1 | refine below_set ?_ GE192.out) | exact HB.out))) : w.heap.size ≤ gb193)); have n4_ := Aside0.mk ((by rw [hg]; exact (below_size (by repeat (first | (with_reducible first | exact HB.out | apply below_alloc | apply pw_below_drewN | apply below_drew1 | refine below_set ?_ GE192.out) | exact HB.out))) : w.heap.size ≤ gb193)); have n5_ := Aside0.mk ((by rw [hg]; exact Nat.ne_of_lt (blk_lt (g := gb192) (o := .cells #[.string a0_0, .string a0_1, .string a0_2, .string a0_3, .int .i64 a0_4, .slice A0_5 l0_5.length c0_5, .int .u64 a0_6] 38 (0, 0)) (by (with_reducible repeat (first | refine blk_drewN ?_ _ | refine blk_drew ?_ | refine blk_alloc ?_ _)); exact BK192.out)) : gb192 ≠ gb193)); have n6_ := Aside0.mk ((by rw [hg]; exact Nat.ne_of_gt (blk_lt (g := gb192) (o := .cells #[.string a0_0, .string a0_1, .string a0_2, .string a0_3, .int .i64 a0_4, .slice A0_5 l0_5.length c0_5, .int .u64 a0_6] 38 (0, 0)) (by (with_reducible repeat (first | refine blk_drewN ?_ _ | refine blk_drew ?_ | refine blk_alloc ?_ _)); exact BK192.out)) : gb193 ≠ gb192)); clear BK192; clear HB; have BK192 := n0_; have HB := n1_; have BK193 := n2_; have GW193 := n3_; have GE193 := n4_; have NB192_193 := n5_; have NB193_192 := n6_; clear n0_ n1_ n2_ n3_ n4_ n5_ n6_; clear hb hbox hg; have hnb17 := NB192_193.out; have hnc17 := NB193_192.out; have hcz18_0 : w16.cell? ⟨gb192, 0, none⟩ = some (.string a0_0) := (blk_cell BK192.out 0).trans rfl; have hcz18_1 : w16.cell? ⟨gb192, 1, none⟩ = some (.string a0_1) := (blk_cell BK192.out 1).trans rfl; have hcz18_2 : w16.cell? ⟨gb192, 2, none⟩ = some (.string a0_2) := (blk_cell BK192.out 2).trans rfl; have hcz18_3 : w16.cell? ⟨gb192, 3, none⟩ = some (.string a0_3) := (blk_cell BK192.out 3).trans rfl; have hcz18_4 : w16.cell? ⟨gb192, 4, none⟩ = some (.int .i64 a0_4) := (blk_cell BK192.out 4).trans rfl; have hcz18_5 : w16.cell? ⟨gb192, 5, none⟩ = some (.slice A0_5 l0_5.length c0_5) := (blk_cell BK192.out 5).trans rfl; have hcz18_6 : w16.cell? ⟨gb192, 6, none⟩ = some (.int .u64 a0_6) := (blk_cell BK192.out 6).trans rfl; have hfz18_0 := blk_frozen BK192.out 0; have hfz18_1 := blk_frozen BK192.out 1; have hfz18_2 := blk_frozen BK192.out 2; have hfz18_3 := blk_frozen BK192.out 3; have hfz18_4 := blk_frozen BK192.out 4; have hfz18_5 := blk_frozen BK192.out 5; have hfz18_6 := blk_frozen BK192.out 6; have hcz19_0 : w16.cell? ⟨gb193, 0, none⟩ = some (.string a1_0) := (blk_cell BK193.out 0).trans rfl; have hcz19_1 : w16.cell? ⟨gb193, 1, none⟩ = some (.string a1_1) := (blk_cell BK193.out 1).trans rfl; have hcz19_2 : w16.cell? ⟨gb193, 2, none⟩ = some (.string a1_2) := (blk_cell BK193.out 2).trans rfl; have hcz19_3 : w16.cell? ⟨gb193, 3, none⟩ = some (.string a1_3) := (blk_cell BK193.out 3).trans rfl; have hcz19_4 : w16.cell? ⟨gb193, 4, none⟩ = some (.int .i64 a1_4) := (blk_cell BK193.out 4).trans rfl; have hcz19_5 : w16.cell? ⟨gb193, 5, none⟩ = some (.slice A1_5 l1_5.length c1_5) := (blk_cell BK193.out 5).trans rfl; have hcz19_6 : w16.cell? ⟨gb193, 6, none⟩ = some (.int .u64 a1_6) := (blk_cell BK193.out 6).trans rfl; have hfz19_0 := blk_frozen BK193.out 0; have hfz19_1 := blk_frozen BK193.out 1; have hfz19_2 := blk_frozen BK193.out 2; have hfz19_3 := blk_frozen BK193.out 3; have hfz19_4 := blk_frozen BK193.out 4; have hfz19_5 := blk_frozen BK193.out 5; have hfz19_6 := blk_frozen BK193.out 6))
    go_ret
    exact ⟨by first | rfl | (simp [errW_none, errW_some] <;> rfl) | (simp [*, errW_none, errW_some] <;> rfl), by repeat (first | (with_reducible first | exact HB.out | apply below_alloc | apply pw_below_drewN | apply below_drew1 | refine below_set ?_ GE192.out | refine below_set ?_ GE193.out) | exact HB.out)⟩
  rw [if_pos c8] at H
  have c8b0 : (a0_6 == a1_6) = true := beq_iff_eq.mpr c8
  have c8b1 : (a0_6 != a1_6) = false := bne_eq_false_iff_eq.mpr c8
  clear c8
  replace H := Option.bind_eq_some_iff.mp H
  obtain ⟨t194, A90, H⟩ := H
  replace H : (some t194) = some r := H
  have A9 := Aside0.mk A90
  clear A90
  obtain rfl := Option.some.inj H
  go_enter Tryd.func15, Tryd.ntmps15
  go_wp2_with (first | ((with_reducible refine gate_dst (N := 2) rfl ?_); refine box_event ?hg (N := 2) ?hd (cs := #[.string a0_0, .string a0_1, .string a0_2, .string a0_3, .int .i64 a0_4, .slice A0_5 l0_5.length c0_5, .int .u64 a0_6]) (t := 38) ?hr ?_; (case hd => rfl); (case hg => rfl); (case hr => first | (go_simp; done) | (go_simp; rfl)); intro gb192 hg w10 hbox hb; have n0_ := Aside0.mk (below_step (by repeat (first | (with_reducible first | exact HB.out | apply below_alloc | apply pw_below_drewN | apply below_drew1) | exact HB.out)) hb); have n1_ := Aside0.mk (hbox); have n2_ := Aside0.mk ((by rw [hg]; exact (below_size (by repeat (first | (with_reducible first | exact HB.out | apply below_alloc | apply pw_below_drewN | apply below_drew1) | exact HB.out))) : w.heap.size ≤ gb192)); have n3_ := Aside0.mk ((by rw [hg]; exact (below_size (by repeat (first | (with_reducible first | exact HB.out | apply below_alloc | apply pw_below_drewN | apply below_drew1) | exact HB.out))) : w.heap.size ≤ gb192)); clear HB; have HB := n0_; have BK192 := n1_; have GW192 := n2_; have GE192 := n3_; clear n0_ n1_ n2_ n3_; clear hb hbox hg) | ((with_reducible refine gate_dst (N := 3) rfl ?_); refine box_event ?hg (N := 3) ?hd (cs := #[.string a1_0, .string a1_1, .string a1_2, .string a1_3, .int .i64 a1_4, .slice A1_5 l1_5.length c1_5, .int .u64 a1_6]) (t := 38) ?hr ?_; (case hd => rfl); (case hg => rfl); (case hr => first | (go_simp; done) | (go_simp; rfl)); intro gb193 hg w11 hbox hb; have n0_ := Aside0.mk (blk_below (g := gb192) (o := .cells #[.string a0_0, .string a0_1, .string a0_2, .string a0_3, .int .i64 a0_4, .slice A0_5 l0_5.length c0_5, .int .u64 a0_6] 38 (0, 0)) (by (with_reducible repeat (first | refine blk_drewN ?_ _ | refine blk_drew ?_ | refine blk_alloc ?_ _)); exact BK192.out) hb); have n1_ := Aside0.mk (below_step (by repeat (first | (with_reducible first | exact HB.out | apply below_alloc | apply pw_below_drewN | apply below_drew1 | refine below_set ?_ GE192.out) | exact HB.out)) hb); have n2_ := Aside0.mk (hbox); have n3_ := Aside0.mk ((by rw [hg]; exact (below_size (by repeat (first | (with_reducible first | exact HB.out | apply below_alloc | apply pw_below_drewN | apply below_drew1 | refine below_set ?_ GE192.out) | exact HB.out))) : w.heap.size ≤ gb193)); have n4_ := Aside0.mk ((by rw [hg]; exact (below_size (by repeat (first | (with_reducible first | exact HB.out | apply below_alloc | apply pw_below_drewN | apply below_drew1 | refine below_set ?_ GE192.out) | exact HB.out))) : w.heap.size ≤ gb193)); have n5_ := Aside0.mk ((by rw [hg]; exact Nat.ne_of_lt (blk_lt (g := gb192) (o := .cells #[.string a0_0, .string a0_1, .string a0_2, .string a0_3, .int .i64 a0_4, .slice A0_5 l0_5.length c0_5, .int .u64 a0_6] 38 (0, 0)) (by (with_reducible repeat (first | refine blk_drewN ?_ _ | refine blk_drew ?_ | refine blk_alloc ?_ _)); exact BK192.out)) : gb192 ≠ gb193)); have n6_ := Aside0.mk ((by rw [hg]; exact Nat.ne_of_gt (blk_lt (g := gb192) (o := .cells #[.string a0_0, .string a0_1, .string a0_2, .string a0_3, .int .i64 a0_4, .slice A0_5 l0_5.length c0_5, .int .u64 a0_6] 38 (0, 0)) (by (with_reducible repeat (first | refine blk_drewN ?_ _ | refine blk_drew ?_ | refine blk_alloc ?_ _)); exact BK192.out)) : gb193 ≠ gb192)); clear BK192; clear HB; have BK192 := n0_; have HB := n1_; have BK193 := n2_; have GW193 := n3_; have GE193 := n4_; have NB192_193 := n5_; have NB193_192 := n6_; clear n0_ n1_ n2_ n3_ n4_ n5_ n6_; clear hb hbox hg; have hnb12 := NB192_193.out; have hnc12 := NB193_192.out; have hcz13_0 : w11.cell? ⟨gb192, 0, none⟩ = some (.string a0_0) := (blk_cell BK192.out 0).trans rfl; have hcz13_1 : w11.cell? ⟨gb192, 1, none⟩ = some (.string a0_1) := (blk_cell BK192.out 1).trans rfl; have hcz13_2 : w11.cell? ⟨gb192, 2, none⟩ = some (.string a0_2) := (blk_cell BK192.out 2).trans rfl; have hcz13_3 : w11.cell? ⟨gb192, 3, none⟩ = some (.string a0_3) := (blk_cell BK192.out 3).trans rfl; have hcz13_4 : w11.cell? ⟨gb192, 4, none⟩ = some (.int .i64 a0_4) := (blk_cell BK192.out 4).trans rfl; have hcz13_5 : w11.cell? ⟨gb192, 5, none⟩ = some (.slice A0_5 l0_5.length c0_5) := (blk_cell BK192.out 5).trans rfl; have hcz13_6 : w11.cell? ⟨gb192, 6, none⟩ = some (.int .u64 a0_6) := (blk_cell BK192.out 6).trans rfl; have hfz13_0 := blk_frozen BK192.out 0; have hfz13_1 := blk_frozen BK192.out 1; have hfz13_2 := blk_frozen BK192.out 2; have hfz13_3 := blk_frozen BK192.out 3; have hfz13_4 := blk_frozen BK192.out 4; have hfz13_5 := blk_frozen BK192.out 5; have hfz13_6 := blk_frozen BK192.out 6; have hcz14_0 : w11.cell? ⟨gb193, 0, none⟩ = some (.string a1_0) := (blk_cell BK193.out 0).trans rfl; have hcz14_1 : w11.cell? ⟨gb193, 1, none⟩ = some (.string a1_1) := (blk_cell BK193.out 1).trans rfl; have hcz14_2 : w11.cell? ⟨gb193, 2, none⟩ = some (.string a1_2) := (blk_cell BK193.out 2).trans rfl; have hcz14_3 : w11.cell? ⟨gb193, 3, none⟩ = some (.string a1_3) := (blk_cell BK193.out 3).trans rfl; have hcz14_4 : w11.cell? ⟨gb193, 4, none⟩ = some (.int .i64 a1_4) := (blk_cell BK193.out 4).trans rfl; have hcz14_5 : w11.cell? ⟨gb193, 5, none⟩ = some (.slice A1_5 l1_5.length c1_5) := (blk_cell BK193.out 5).trans rfl; have hcz14_6 : w11.cell? ⟨gb193, 6, none⟩ = some (.int .u64 a1_6) := (blk_cell BK193.out 6).trans rfl; have hfz14_0 := blk_frozen BK193.out 0; have hfz14_1 := blk_frozen BK193.out 1; have hfz14_2 := blk_frozen BK193.out 2; have hfz14_3 := blk_frozen BK193.out 3; have hfz14_4 := blk_frozen BK193.out 4; have hfz14_5 := blk_frozen BK193.out 5; have hfz14_6 := blk_frozen BK193.out 6) | (go_at_call 14; (with_reducible refine (watchbillref09_Same.calls k _ _ l0_5 _ _ l1_5 t194 _ ?side1 ?side2 ?side3 ?side4 A9.out).mono ?_); (case side1 => repeat (first | exact (Kd.C_below HR0_5.out HB.out) | (with_reducible refine Kd.C_alloc ?_ _) | (with_reducible refine Kd.C_drewN ?_ _) | (with_reducible refine Kd.C_drew ?_))); (case side2 => exact HC0_5.out); (case side3 => repeat (first | exact (Kd.C_below HR1_5.out HB.out) | (with_reducible refine Kd.C_alloc ?_ _) | (with_reducible refine Kd.C_drewN ?_ _) | (with_reducible refine Kd.C_drew ?_))); (case side4 => exact HC1_5.out); rintro e w' ⟨rfl, ⟨nd, rfl⟩⟩))
  go_ret
  exact ⟨by first | rfl | (simp [errW_none, errW_some] <;> rfl) | (simp [*, errW_none, errW_some] <;> rfl), by repeat (first | (with_reducible first | exact HB.out | apply below_alloc | apply pw_below_drewN | apply below_drew1 | refine below_set ?_ GE192.out | refine below_set ?_ GE193.out) | exact HB.out)⟩
end Go.Proofs.YtpgmjbkmalobeaaDoor.PAll
