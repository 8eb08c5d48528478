-- PRINTED by print.py (a twelfth state) out of the translation. Not trusted: Lean checks it.
import Derived.Test.YtpgmjbkmalobeaaDoorPAllx0
import Derived.Test.YtpgmjbkmalobeaaDoorPAllx2
import Derived.Test.YtpgmjbkmalobeaaDoorPAllx3
import Derived.Test.YtpgmjbkmalobeaaDoorPAllx5
import Derived.Test.YtpgmjbkmalobeaaDoorPAllx7
import Derived.Test.YtpgmjbkmalobeaaDoorPAllx8d
namespace Go.Proofs.YtpgmjbkmalobeaaDoor.PAll
open Go.RowKit Go.Proofs.YtpgmjbkmalobeaaDoorW.PrintWords Go.Proofs.YtpgmjbkmalobeaaDoorW.PrintLast Go.Proofs.YtpgmjbkmalobeaaDoorW.PrintMore
attribute [local go_sem] max2_int min2_int max_two min_two max_three min_three max_four min_four   -- for this text's walks alone
set_option linter.unusedVariables false
set_option linter.unusedSimpArgs false

set_option maxHeartbeats 8000000 in
set_option maxRecDepth 100000 in
theorem watchbilllaw23_FilterAgain.calls (k : Nat) (a0_0 : Int) (a0_1 : Bool) (A0_2 : Option Addr) (c0_2 : Nat) (l0_2 : List ByteArray) (a0_3 : Bool) (a0_4 : Bool) (a1_0 : ByteArray) (A1_1 : Option Addr) (c1_1 : Nat) (l1_1 : List (S38)) (A1_2 : Option Addr) (c1_2 : Nat) (l1_2 : List ByteArray) (r : Bool) (w : World) (hr0_2 : Kd.C Kd.string w A0_2 l0_2.length l0_2) (hc0_2 : l0_2.length ≤ c0_2) (hr1_1 : Kd.C k38 w A1_1 l1_1.length l1_1) (hc1_1 : l1_1.length ≤ c1_1) (hr1_2 : Kd.C Kd.string w A1_2 l1_2.length l1_2) (hc1_2 : l1_2.length ≤ c1_2) (h : watchbilllaw23_FilterAgain.f k a0_0 a0_1 l0_2 a0_3 a0_4 a1_0 l1_1 l1_2 = some r) :
    Calls Tryd.prog 4 #[.agg #[.int .i64 a0_0, .bool a0_1, .slice A0_2 l0_2.length c0_2, .bool a0_3, .bool a0_4], .agg #[.string a1_0, .slice A1_1 l1_1.length c1_1, .slice A1_2 l1_2.length c1_2]] w fun e w' => e = .returned (.bool r) ∧ Below w.heap.size w w' := by
  have hu24 := Tryd.underlying24
  have hu27 := Tryd.underlying27
  have hu38 := Tryd.underlying38
  have HR0_2 := Aside0.mk hr0_2
  have HC0_2 := Aside0.mk hc0_2
  clear hr0_2 hc0_2
  have HR1_1 := Aside0.mk hr1_1
  have HC1_1 := Aside0.mk hc1_1
  clear hr1_1 hc1_1
  have HR1_2 := Aside0.mk hr1_2
  have HC1_2 := Aside0.mk hc1_2
  clear hr1_2 hc1_2
  have HB := Aside0.mk (Below.refl w.heap.size w)
  have H : ((watchbilllaw23_awake.f k).bind fun t203 => (if t203 = true then ((watchbilllaw20_Few.f k a1_0 l1_1 l1_2).bind fun t204 => (if t204 = true then ((watchbilllaw23_few.f a0_0 a0_1 l0_2 a0_3 a0_4).bind fun t205 => (watchbilllaw23_FilterAgain.j0 k (!t205) a0_0 a0_1 l0_2 a0_3 a0_4 a1_0 l1_1 l1_2)) else (watchbilllaw23_FilterAgain.j0 k true a0_0 a0_1 l0_2 a0_3 a0_4 a1_0 l1_1 l1_2))) else (none))) = some r := h
  clear h
  replace H := Option.bind_eq_some_iff.mp H
  obtain ⟨t203, A30, H⟩ := H
  replace H : (if t203 = true then ((watchbilllaw20_Few.f k a1_0 l1_1 l1_2).bind fun t204 => (if t204 = true then ((watchbilllaw23_few.f a0_0 a0_1 l0_2 a0_3 a0_4).bind fun t205 => (watchbilllaw23_FilterAgain.j0 k (!t205) a0_0 a0_1 l0_2 a0_3 a0_4 a1_0 l1_1 l1_2)) else (watchbilllaw23_FilterAgain.j0 k true a0_0 a0_1 l0_2 a0_3 a0_4 a1_0 l1_1 l1_2))) else (none)) = some r := H
  have A3 := Aside0.mk A30
  clear A30
  by_cases c4 : t203 = true
  rotate_left 1
  · replace c4 := Bool.eq_false_iff.mpr c4
    subst c4
    have H1 : (none) = some r := by rw [if_neg (show ¬ (false = true) by decide)] at H; exact H
    clear H
    have H := H1
    clear H1
    exact absurd H (by simp)

  subst c4
  have H1 : ((watchbilllaw20_Few.f k a1_0 l1_1 l1_2).bind fun t204 => (if t204 = true then ((watchbilllaw23_few.f a0_0 a0_1 l0_2 a0_3 a0_4).bind fun t205 => (watchbilllaw23_FilterAgain.j0 k (!t205) a0_0 a0_1 l0_2 a0_3 a0_4 a1_0 l1_1 l1_2)) else (watchbilllaw23_FilterAgain.j0 k true a0_0 a0_1 l0_2 a0_3 a0_4 a1_0 l1_1 l1_2))) = some r := by rw [if_pos rfl] at H; exact H
  clear H
  have H := H1
  clear H1
  have HC5 := Aside0.mk H
  clear H
  go_enter Tryd.func4, Tryd.ntmps4
  go_upto_region 3 with (first | ((with_reducible refine gate_dst (N := 2) rfl ?_); (try (refine gate_guard (by rfl) ?_; dsimp only)); refine box_event ?hg (N := 2) ?hd (cs := #[.int .i64 a0_0, .bool a0_1, .slice A0_2 l0_2.length c0_2, .bool a0_3, .bool a0_4]) (t := 24) ?hr ?_; (case hd => rfl); (case hg => rfl); (case hr => first | (go_simp; done) | (go_simp; rfl)); intro gb201 hg w6 hbox hb; have n0_ := Aside0.mk (below_step (by repeat (first | (with_reducible first | exact HB.out | apply below_alloc | apply pw_below_drewN | apply below_drew1) | exact HB.out)) hb); have n1_ := Aside0.mk (hbox); have n2_ := Aside0.mk ((by rw [hg]; exact (below_size (by repeat (first | (with_reducible first | exact HB.out | apply below_alloc | apply pw_below_drewN | apply below_drew1) | exact HB.out))) : w.heap.size ≤ gb201)); have n3_ := Aside0.mk ((by rw [hg]; exact (below_size (by repeat (first | (with_reducible first | exact HB.out | apply below_alloc | apply pw_below_drewN | apply below_drew1) | exact HB.out))) : w.heap.size ≤ gb201)); clear HB; have HB := n0_; have BK201 := n1_; have GW201 := n2_; have GE201 := n3_; clear n0_ n1_ n2_ n3_; clear hb hbox hg) | ((with_reducible refine gate_dst (N := 3) rfl ?_); (try (refine gate_guard (by rfl) ?_; dsimp only)); refine box_event ?hg (N := 3) ?hd (cs := #[.string a1_0, .slice A1_1 l1_1.length c1_1, .slice A1_2 l1_2.length c1_2]) (t := 27) ?hr ?_; (case hd => rfl); (case hg => rfl); (case hr => first | (go_simp; done) | (go_simp; rfl)); intro gb202 hg w7 hbox hb; have n0_ := Aside0.mk (blk_below (g := gb201) (o := .cells #[.int .i64 a0_0, .bool a0_1, .slice A0_2 l0_2.length c0_2, .bool a0_3, .bool a0_4] 24 (0, 0)) (by (with_reducible repeat (first | refine blk_drewN ?_ _ | refine blk_drew ?_ | refine blk_alloc ?_ _)); exact BK201.out) hb); have n1_ := Aside0.mk (below_step (by repeat (first | (with_reducible first | exact HB.out | apply below_alloc | apply pw_below_drewN | apply below_drew1 | refine below_set ?_ GE201.out) | exact HB.out)) hb); have n2_ := Aside0.mk (hbox); have n3_ := Aside0.mk ((by rw [hg]; exact (below_size (by repeat (first | (with_reducible first | exact HB.out | apply below_alloc | apply pw_below_drewN | apply below_drew1 | refine below_set ?_ GE201.out) | exact HB.out))) : w.heap.size ≤ gb202)); have n4_ := Aside0.mk ((by rw [hg]; exact (below_size (by repeat (first | (with_reducible first | exact HB.out | apply below_alloc | apply pw_below_drewN | apply below_drew1 | refine below_set ?_ GE201.out) | exact HB.out))) : w.heap.size ≤ gb202)); have n5_ := Aside0.mk ((by rw [hg]; exact Nat.ne_of_lt (blk_lt (g := gb201) (o := .cells #[.int .i64 a0_0, .bool a0_1, .slice A0_2 l0_2.length c0_2, .bool a0_3, .bool a0_4] 24 (0, 0)) (by (with_reducible repeat (first | refine blk_drewN ?_ _ | refine blk_drew ?_ | refine blk_alloc ?_ _)); exact BK201.out)) : gb201 ≠ gb202)); have n6_ := Aside0.mk ((by rw [hg]; exact Nat.ne_of_gt (blk_lt (g := gb201) (o := .cells #[.int .i64 a0_0, .bool a0_1, .slice A0_2 l0_2.length c0_2, .bool a0_3, .bool a0_4] 24 (0, 0)) (by (with_reducible repeat (first | refine blk_drewN ?_ _ | refine blk_drew ?_ | refine blk_alloc ?_ _)); exact BK201.out)) : gb202 ≠ gb201)); clear BK201; clear HB; have BK201 := n0_; have HB := n1_; have BK202 := n2_; have GW202 := n3_; have GE202 := n4_; have NB201_202 := n5_; have NB202_201 := n6_; clear n0_ n1_ n2_ n3_ n4_ n5_ n6_; clear hb hbox hg) | ((with_reducible refine gate_callee (f := 5) rfl ?_); refine goesL_ (some 11) rfl rfl Tryd.func5 (by kernel_rfl) rfl #[] rfl (by (try simp only [List.map_toArray, List.map_cons, List.map_nil]); first | done | rfl | (simp only [List.length_drop, List.length_take]; rfl)) ?_; (with_reducible refine (watchbilllaw23_awake.calls k  true _ A3.out).mono ?_); rintro e w8 ⟨rfl, hb⟩; refine ⟨_, rfl, ?_⟩; have n0_ := Aside0.mk (blk_below (g := gb201) (o := .cells #[.int .i64 a0_0, .bool a0_1, .slice A0_2 l0_2.length c0_2, .bool a0_3, .bool a0_4] 24 (0, 0)) (by (with_reducible repeat (first | refine blk_drewN ?_ _ | refine blk_drew ?_ | refine blk_alloc ?_ _)); exact BK201.out) hb); have n1_ := Aside0.mk (blk_below (g := gb202) (o := .cells #[.string a1_0, .slice A1_1 l1_1.length c1_1, .slice A1_2 l1_2.length c1_2] 27 (0, 0)) (by (with_reducible repeat (first | refine blk_drewN ?_ _ | refine blk_drew ?_ | refine blk_alloc ?_ _)); exact BK202.out) hb); have n2_ := Aside0.mk (below_step (by repeat (first | (with_reducible first | exact HB.out | apply below_alloc | apply pw_below_drewN | apply below_drew1 | refine below_set ?_ GE201.out | refine below_set ?_ GE202.out) | exact HB.out)) hb); clear BK201; clear BK202; clear HB; have BK201 := n0_; have BK202 := n1_; have HB := n2_; clear n0_ n1_ n2_; (try clear hb); (try clear hb2); (try clear hk); (try clear hi)))
  (try simp only [Act.put, zA, zB, zC])
  go_cut [20] (fun v20 wc => ∃ (kq : Nat) (x20_4 : Bool), v20 = .bool x20_4 ∧ Aside0 (watchbilllaw23_FilterAgain.j0 kq x20_4 a0_0 a0_1 l0_2 a0_3 a0_4 a1_0 l1_1 l1_2 = some r) ∧ Aside0 (kq ≤ k) ∧ Aside0 (wc.heap[gb201]? = some (.cells #[.int .i64 a0_0, .bool a0_1, (.slice A0_2 l0_2.length c0_2), .bool a0_3, .bool a0_4] 24 (0, 0))) ∧ Aside0 (wc.heap[gb202]? = some (.cells #[.string a1_0, (.slice A1_1 l1_1.length c1_1), (.slice A1_2 l1_2.length c1_2)] 27 (0, 0))) ∧ Aside0 (Below w.heap.size w wc))
  case first =>
    have H := HC5.out
    clear HC5
    replace H := Option.bind_eq_some_iff.mp H
    obtain ⟨t204, A90, H⟩ := H
    replace H : (if t204 = true then ((watchbilllaw23_few.f a0_0 a0_1 l0_2 a0_3 a0_4).bind fun t205 => (watchbilllaw23_FilterAgain.j0 k (!t205) a0_0 a0_1 l0_2 a0_3 a0_4 a1_0 l1_1 l1_2)) else (watchbilllaw23_FilterAgain.j0 k true a0_0 a0_1 l0_2 a0_3 a0_4 a1_0 l1_1 l1_2)) = some r := H
    have A9 := Aside0.mk A90
    clear A90
    by_cases c10 : t204 = true
    · subst c10
      have H1 : ((watchbilllaw23_few.f a0_0 a0_1 l0_2 a0_3 a0_4).bind fun t205 => (watchbilllaw23_FilterAgain.j0 k (!t205) a0_0 a0_1 l0_2 a0_3 a0_4 a1_0 l1_1 l1_2)) = some r := by rw [if_pos rfl] at H; exact H
      clear H
      have H := H1
      clear H1
      replace H := Option.bind_eq_some_iff.mp H
      obtain ⟨t205, A110, H⟩ := H
      replace H : (watchbilllaw23_FilterAgain.j0 k (!t205) a0_0 a0_1 l0_2 a0_3 a0_4 a1_0 l1_1 l1_2) = some r := H
      have A11 := Aside0.mk A110
      clear A110
      have H' := Aside0.mk H
      clear H
      have hnb12 := NB202_201.out
      have hnc12 := NB201_202.out
      have hcz13_0 : w8.cell? ⟨gb202, 0, none⟩ = some (.string a1_0) := (blk_cell BK202.out 0).trans rfl
      have hcz13_1 : w8.cell? ⟨gb202, 1, none⟩ = some (.slice A1_1 l1_1.length c1_1) := (blk_cell BK202.out 1).trans rfl
      have hcz13_2 : w8.cell? ⟨gb202, 2, none⟩ = some (.slice A1_2 l1_2.length c1_2) := (blk_cell BK202.out 2).trans rfl
      have hfz13_0 := blk_frozen BK202.out 0
      have hfz13_1 := blk_frozen BK202.out 1
      have hfz13_2 := blk_frozen BK202.out 2
      go_wp2_with (first | ((with_reducible refine gate_callee (f := 6) rfl ?_); refine goesL_ (some 14) rfl rfl Tryd.func6 (by kernel_rfl) rfl #[.agg #[.string a1_0, .slice A1_1 l1_1.length c1_1, .slice A1_2 l1_2.length c1_2]] rfl (by (try simp only [List.map_toArray, List.map_cons, List.map_nil]); first | done | rfl | (simp only [List.length_drop, List.length_take]; rfl)) ?_; (with_reducible refine (watchbilllaw20_Few.calls k a1_0 _ _ l1_1 _ _ l1_2 true _ ?side1 ?side2 ?side3 ?side4 A9.out).mono ?_); (case side1 => repeat (first | exact (Kd.C_below HR1_1.out HB.out) | (with_reducible refine Kd.C_alloc ?_ _) | (with_reducible refine Kd.C_drewN ?_ _) | (with_reducible refine Kd.C_drew ?_))); (case side2 => exact HC1_1.out); (case side3 => repeat (first | exact (Kd.C_below HR1_2.out HB.out) | (with_reducible refine Kd.C_alloc ?_ _) | (with_reducible refine Kd.C_drewN ?_ _) | (with_reducible refine Kd.C_drew ?_))); (case side4 => exact HC1_2.out); rintro e w14 ⟨rfl, hb⟩; refine ⟨_, rfl, ?_⟩; have n0_ := Aside0.mk (blk_below (g := gb201) (o := .cells #[.int .i64 a0_0, .bool a0_1, .slice A0_2 l0_2.length c0_2, .bool a0_3, .bool a0_4] 24 (0, 0)) (by (with_reducible repeat (first | refine blk_drewN ?_ _ | refine blk_drew ?_ | refine blk_alloc ?_ _)); exact BK201.out) hb); have n1_ := Aside0.mk (blk_below (g := gb202) (o := .cells #[.string a1_0, .slice A1_1 l1_1.length c1_1, .slice A1_2 l1_2.length c1_2] 27 (0, 0)) (by (with_reducible repeat (first | refine blk_drewN ?_ _ | refine blk_drew ?_ | refine blk_alloc ?_ _)); exact BK202.out) hb); have n2_ := Aside0.mk (below_step (by repeat (first | (with_reducible first | exact HB.out | apply below_alloc | apply pw_below_drewN | apply below_drew1 | refine below_set ?_ GE201.out | refine below_set ?_ GE202.out) | exact HB.out)) hb); clear BK201; clear BK202; clear HB; have BK201 := n0_; have BK202 := n1_; have HB := n2_; clear n0_ n1_ n2_; (try clear hb); (try clear hb2); (try clear hk); (try clear hi); have hcz15_0 : w14.cell? ⟨gb201, 0, none⟩ = some (.int .i64 a0_0) := (blk_cell BK201.out 0).trans rfl; have hcz15_1 : w14.cell? ⟨gb201, 1, none⟩ = some (.bool a0_1) := (blk_cell BK201.out 1).trans rfl; have hcz15_2 : w14.cell? ⟨gb201, 2, none⟩ = some (.slice A0_2 l0_2.length c0_2) := (blk_cell BK201.out 2).trans rfl; have hcz15_3 : w14.cell? ⟨gb201, 3, none⟩ = some (.bool a0_3) := (blk_cell BK201.out 3).trans rfl; have hcz15_4 : w14.cell? ⟨gb201, 4, none⟩ = some (.bool a0_4) := (blk_cell BK201.out 4).trans rfl; have hfz15_0 := blk_frozen BK201.out 0; have hfz15_1 := blk_frozen BK201.out 1; have hfz15_2 := blk_frozen BK201.out 2; have hfz15_3 := blk_frozen BK201.out 3; have hfz15_4 := blk_frozen BK201.out 4) | (go_at_call 7; (with_reducible refine (watchbilllaw23_few.calls a0_0 a0_1 _ _ l0_2 a0_3 a0_4 t205 _ ?side1 ?side2 A11.out).mono ?_); (case side1 => repeat (first | exact (Kd.C_below HR0_2.out HB.out) | (with_reducible refine Kd.C_alloc ?_ _) | (with_reducible refine Kd.C_drewN ?_ _) | (with_reducible refine Kd.C_drew ?_))); (case side2 => exact HC0_2.out); rintro e w16 ⟨rfl, hb⟩; have n0_ := Aside0.mk (blk_below (g := gb201) (o := .cells #[.int .i64 a0_0, .bool a0_1, .slice A0_2 l0_2.length c0_2, .bool a0_3, .bool a0_4] 24 (0, 0)) (by (with_reducible repeat (first | refine blk_drewN ?_ _ | refine blk_drew ?_ | refine blk_alloc ?_ _)); exact BK201.out) hb); have n1_ := Aside0.mk (blk_below (g := gb202) (o := .cells #[.string a1_0, .slice A1_1 l1_1.length c1_1, .slice A1_2 l1_2.length c1_2] 27 (0, 0)) (by (with_reducible repeat (first | refine blk_drewN ?_ _ | refine blk_drew ?_ | refine blk_alloc ?_ _)); exact BK202.out) hb); have n2_ := Aside0.mk (below_step (by repeat (first | (with_reducible first | exact HB.out | apply below_alloc | apply pw_below_drewN | apply below_drew1 | refine below_set ?_ GE201.out | refine below_set ?_ GE202.out) | exact HB.out)) hb); clear BK201; clear BK202; clear HB; have BK201 := n0_; have BK202 := n1_; have HB := n2_; clear n0_ n1_ n2_; (try clear hb); (try clear hb2); (try clear hk); (try clear hi)))
      go_meet
      case rel => exact ⟨_, (!t205), (by first | rfl | (simp; done) | (simp [*]; done)), H', ⟨by first | omega | exact Nat.le_refl _⟩, ⟨by (with_reducible repeat (first | refine blk_drewN ?_ _ | refine blk_drew ?_ | refine blk_alloc ?_ _)); exact BK201.out⟩, ⟨by (with_reducible repeat (first | refine blk_drewN ?_ _ | refine blk_drew ?_ | refine blk_alloc ?_ _)); exact BK202.out⟩, ⟨by repeat (first | (with_reducible first | exact HB.out | apply below_alloc | apply pw_below_drewN | apply below_drew1 | refine below_set ?_ GE201.out | refine below_set ?_ GE202.out) | exact HB.out)⟩⟩
    · replace c10 := Bool.eq_false_iff.mpr c10
      subst c10
      have H1 : (watchbilllaw23_FilterAgain.j0 k true a0_0 a0_1 l0_2 a0_3 a0_4 a1_0 l1_1 l1_2) = some r := by rw [if_neg (show ¬ (false = true) by decide)] at H; exact H
      clear H
      have H := H1
      clear H1
      have H' := Aside0.mk H
      clear H
      have hnb17 := NB202_201.out
      have hnc17 := NB201_202.out
      have hcz18_0 : w8.cell? ⟨gb202, 0, none⟩ = some (.string a1_0) := (blk_cell BK202.out 0).trans rfl
      have hcz18_1 : w8.cell? ⟨gb202, 1, none⟩ = some (.slice A1_1 l1_1.length c1_1) := (blk_cell BK202.out 1).trans rfl
      have hcz18_2 : w8.cell? ⟨gb202, 2, none⟩ = some (.slice A1_2 l1_2.length c1_2) := (blk_cell BK202.out 2).trans rfl
      have hfz18_0 := blk_frozen BK202.out 0
      have hfz18_1 := blk_frozen BK202.out 1
      have hfz18_2 := blk_frozen BK202.out 2
      go_wp2_with (first | ((with_reducible refine gate_callee (f := 6) rfl ?_); refine goesL_ (some 14) rfl rfl Tryd.func6 (by kernel_rfl) rfl #[.agg #[.string a1_0, .slice A1_1 l1_1.length c1_1, .slice A1_2 l1_2.length c1_2]] rfl (by (try simp only [List.map_toArray, List.map_cons, List.map_nil]); first | done | rfl | (simp only [List.length_drop, List.length_take]; rfl)) ?_; (with_reducible refine (watchbilllaw20_Few.calls k a1_0 _ _ l1_1 _ _ l1_2 false _ ?side1 ?side2 ?side3 ?side4 A9.out).mono ?_); (case side1 => repeat (first | exact (Kd.C_below HR1_1.out HB.out) | (with_reducible refine Kd.C_alloc ?_ _) | (with_reducible refine Kd.C_drewN ?_ _) | (with_reducible refine Kd.C_drew ?_))); (case side2 => exact HC1_1.out); (case side3 => repeat (first | exact (Kd.C_below HR1_2.out HB.out) | (with_reducible refine Kd.C_alloc ?_ _) | (with_reducible refine Kd.C_drewN ?_ _) | (with_reducible refine Kd.C_drew ?_))); (case side4 => exact HC1_2.out); rintro e w19 ⟨rfl, hb⟩; refine ⟨_, rfl, ?_⟩; have n0_ := Aside0.mk (blk_below (g := gb201) (o := .cells #[.int .i64 a0_0, .bool a0_1, .slice A0_2 l0_2.length c0_2, .bool a0_3, .bool a0_4] 24 (0, 0)) (by (with_reducible repeat (first | refine blk_drewN ?_ _ | refine blk_drew ?_ | refine blk_alloc ?_ _)); exact BK201.out) hb); have n1_ := Aside0.mk (blk_below (g := gb202) (o := .cells #[.string a1_0, .slice A1_1 l1_1.length c1_1, .slice A1_2 l1_2.length c1_2] 27 (0, 0)) (by (with_reducible repeat (first | refine blk_drewN ?_ _ | refine blk_drew ?_ | refine blk_alloc ?_ _)); exact BK202.out) hb); have n2_ := Aside0.mk (below_step (by repeat (first | (with_reducible first | exact HB.out | apply below_alloc | apply pw_below_drewN | apply below_drew1 | refine below_set ?_ GE201.out | refine below_set ?_ GE202.out) | exact HB.out)) hb); clear BK201; clear BK202; clear HB; have BK201 := n0_; have BK202 := n1_; have HB := n2_; clear n0_ n1_ n2_; (try clear hb); (try clear hb2); (try clear hk); (try clear hi)))
      go_meet
      case rel => exact ⟨_, (true), (by first | rfl | (simp; done) | (simp [*]; done)), H', ⟨by first | omega | exact Nat.le_refl _⟩, ⟨by (with_reducible repeat (first | refine blk_drewN ?_ _ | refine blk_drew ?_ | refine blk_alloc ?_ _)); exact BK201.out⟩, ⟨by (with_reducible repeat (first | refine blk_drewN ?_ _ | refine blk_drew ?_ | refine blk_alloc ?_ _)); exact BK202.out⟩, ⟨by repeat (first | (with_reducible first | exact HB.out | apply below_alloc | apply pw_below_drewN | apply below_drew1 | refine below_set ?_ GE201.out | refine below_set ?_ GE202.out) | exact HB.out)⟩⟩
  case rest =>
    clear HC5
    try clear c1
    try clear p2
    try clear c4
    try clear c5
    try clear c6
    try clear c10
    try clear c12
    try clear c17
    try clear hcz13_0
    try clear hcz13_1
    try clear hcz13_2
    try clear hcz15_0
    try clear hcz15_1
    try clear hcz15_2
    try clear hcz15_3
    try clear hcz15_4
    try clear hcz18_0
    try clear hcz18_1
    try clear hcz18_2
    try clear hfz13_0
    try clear hfz13_1
    try clear hfz13_2
    try clear hfz15_0
    try clear hfz15_1
    try clear hfz15_2
    try clear hfz15_3
    try clear hfz15_4
    try clear hfz18_0
    try clear hfz18_1
    try clear hfz18_2
    obtain ⟨kq, x20_4, rfl, HA, HJ4, BK201, BK202, HB⟩ := hcut
    cases kq with
    | zero => exact absurd HA.out (by simp [watchbilllaw23_FilterAgain.j0])
    | succ kj4 =>
      have H := HA.out
      clear HA
      simp only [watchbilllaw23_FilterAgain.j0] at H
      by_cases c20 : x20_4 = true
      · subst c20
        have H1 : (some true) = some r := by rw [if_pos rfl] at H; exact H
        clear H
        have H := H1
        clear H1
        obtain rfl := Option.some.inj H
        go_wp2
        go_ret
        exact ⟨by first | rfl | (simp [errW_none, errW_some] <;> rfl) | (simp [*, errW_none, errW_some] <;> rfl), by repeat (first | (with_reducible first | exact HB.out | apply below_alloc | apply pw_below_drewN | apply below_drew1 | refine below_set ?_ GE201.out | refine below_set ?_ GE202.out) | exact HB.out)⟩
      replace c20 := Bool.eq_false_iff.mpr c20
      subst c20
      have H1 : ((filter_Apply.f kj4 a0_0 a0_1 l0_2 a0_3 a0_4 a1_0 l1_1 l1_2).bind fun bt206 => ((filter_Apply.f kj4 a0_0 a0_1 l0_2 a0_3 a0_4 bt206.1 bt206.2.1 bt206.2.2).bind fun bt214 => ((watchbillref20_Same.f kj4 bt214.1 bt214.2.1 bt214.2.2 bt206.1 bt206.2.1 bt206.2.2).bind fun t221 => (if t221 = true then (watchbilllaw23_FilterAgain.j1 kj4 false a0_0 a0_1 l0_2 a0_3 a0_4 a1_0 l1_1 l1_2 bt206.1 bt206.2.1 bt206.2.2) else (watchbilllaw23_FilterAgain.j1 kj4 (a0_0 == 3) a0_0 a0_1 l0_2 a0_3 a0_4 a1_0 l1_1 l1_2 bt206.1 bt206.2.1 bt206.2.2))))) = some r := by rw [if_neg (show ¬ (false = true) by decide)] at H; exact H
      clear H
      have H := H1
      clear H1
      replace H := Option.bind_eq_some_iff.mp H
      obtain ⟨⟨t206, t207, t210⟩, A210, H⟩ := H
      replace H : ((filter_Apply.f kj4 a0_0 a0_1 l0_2 a0_3 a0_4 t206 t207 t210).bind fun bt214 => ((watchbillref20_Same.f kj4 bt214.1 bt214.2.1 bt214.2.2 t206 t207 t210).bind fun t221 => (if t221 = true then (watchbilllaw23_FilterAgain.j1 kj4 false a0_0 a0_1 l0_2 a0_3 a0_4 a1_0 l1_1 l1_2 t206 t207 t210) else (watchbilllaw23_FilterAgain.j1 kj4 (a0_0 == 3) a0_0 a0_1 l0_2 a0_3 a0_4 a1_0 l1_1 l1_2 t206 t207 t210)))) = some r := H
      have A21 := Aside0.mk A210
      clear A210
      have HC22 := Aside0.mk H
      clear H
      have hnb23 := NB201_202.out
      have hnc23 := NB202_201.out
      have hcz24_0 : wc.cell? ⟨gb201, 0, none⟩ = some (.int .i64 a0_0) := (blk_cell BK201.out 0).trans rfl
      have hcz24_1 : wc.cell? ⟨gb201, 1, none⟩ = some (.bool a0_1) := (blk_cell BK201.out 1).trans rfl
      have hcz24_2 : wc.cell? ⟨gb201, 2, none⟩ = some (.slice A0_2 l0_2.length c0_2) := (blk_cell BK201.out 2).trans rfl
      have hcz24_3 : wc.cell? ⟨gb201, 3, none⟩ = some (.bool a0_3) := (blk_cell BK201.out 3).trans rfl
      have hcz24_4 : wc.cell? ⟨gb201, 4, none⟩ = some (.bool a0_4) := (blk_cell BK201.out 4).trans rfl
      have hfz24_0 := blk_frozen BK201.out 0
      have hfz24_1 := blk_frozen BK201.out 1
      have hfz24_2 := blk_frozen BK201.out 2
      have hfz24_3 := blk_frozen BK201.out 3
      have hfz24_4 := blk_frozen BK201.out 4
      have hcz25_0 : wc.cell? ⟨gb202, 0, none⟩ = some (.string a1_0) := (blk_cell BK202.out 0).trans rfl
      have hcz25_1 : wc.cell? ⟨gb202, 1, none⟩ = some (.slice A1_1 l1_1.length c1_1) := (blk_cell BK202.out 1).trans rfl
      have hcz25_2 : wc.cell? ⟨gb202, 2, none⟩ = some (.slice A1_2 l1_2.length c1_2) := (blk_cell BK202.out 2).trans rfl
      have hfz25_0 := blk_frozen BK202.out 0
      have hfz25_1 := blk_frozen BK202.out 1
      have hfz25_2 := blk_frozen BK202.out 2
      go_upto_region 6 with (first | ((with_reducible refine gate_callee (f := 10) rfl ?_); refine goesL_ (some 23) rfl rfl Tryd.func10 (by kernel_rfl) rfl #[.agg #[.int .i64 a0_0, .bool a0_1, .slice A0_2 l0_2.length c0_2, .bool a0_3, .bool a0_4], .agg #[.string a1_0, .slice A1_1 l1_1.length c1_1, .slice A1_2 l1_2.length c1_2]] rfl (by (try simp only [List.map_toArray, List.map_cons, List.map_nil]); first | done | rfl | (simp only [List.length_drop, List.length_take]; rfl)) ?_; (with_reducible refine (filter_Apply.calls kj4 a0_0 a0_1 _ _ l0_2 a0_3 a0_4 a1_0 _ _ l1_1 _ _ l1_2 t206 t207 t210 _ ?side1 ?side2 ?side3 ?side4 ?side5 ?side6 A21.out).mono ?_); (case side1 => repeat (first | exact (Kd.C_below HR0_2.out HB.out) | (with_reducible refine Kd.C_alloc ?_ _) | (with_reducible refine Kd.C_drewN ?_ _) | (with_reducible refine Kd.C_drew ?_))); (case side2 => exact HC0_2.out); (case side3 => repeat (first | exact (Kd.C_below HR1_1.out HB.out) | (with_reducible refine Kd.C_alloc ?_ _) | (with_reducible refine Kd.C_drewN ?_ _) | (with_reducible refine Kd.C_drew ?_))); (case side4 => exact HC1_1.out); (case side5 => repeat (first | exact (Kd.C_below HR1_2.out HB.out) | (with_reducible refine Kd.C_alloc ?_ _) | (with_reducible refine Kd.C_drewN ?_ _) | (with_reducible refine Kd.C_drew ?_))); (case side6 => exact HC1_2.out); rintro e w26 ⟨v208, v211, rfl, ho0, ho1, hb⟩; refine ⟨_, rfl, ?_⟩; have n0_ := Aside0.mk (Kd.S_lower ho0 (below_size (by repeat (first | (with_reducible first | exact HB.out | apply below_alloc | apply pw_below_drewN | apply below_drew1 | refine below_set ?_ GE201.out | refine below_set ?_ GE202.out) | exact HB.out)))); have n1_ := Aside0.mk (Kd.R_lower ho1 (below_size (by repeat (first | (with_reducible first | exact HB.out | apply below_alloc | apply pw_below_drewN | apply below_drew1 | refine below_set ?_ GE201.out | refine below_set ?_ GE202.out) | exact HB.out)))); have n2_ := Aside0.mk (blk_below (g := gb201) (o := .cells #[.int .i64 a0_0, .bool a0_1, .slice A0_2 l0_2.length c0_2, .bool a0_3, .bool a0_4] 24 (0, 0)) (by (with_reducible repeat (first | refine blk_drewN ?_ _ | refine blk_drew ?_ | refine blk_alloc ?_ _)); exact BK201.out) hb); have n3_ := Aside0.mk (blk_below (g := gb202) (o := .cells #[.string a1_0, .slice A1_1 l1_1.length c1_1, .slice A1_2 l1_2.length c1_2] 27 (0, 0)) (by (with_reducible repeat (first | refine blk_drewN ?_ _ | refine blk_drew ?_ | refine blk_alloc ?_ _)); exact BK202.out) hb); have n4_ := Aside0.mk (below_step (by repeat (first | (with_reducible first | exact HB.out | apply below_alloc | apply pw_below_drewN | apply below_drew1 | refine below_set ?_ GE201.out | refine below_set ?_ GE202.out) | exact HB.out)) hb); clear BK201; clear BK202; clear HB; have HO209 := n0_; have HO212 := n1_; have BK201 := n2_; have BK202 := n3_; have HB := n4_; clear n0_ n1_ n2_ n3_ n4_; (try clear hb); (try clear hb2); (try clear hk); (try clear hi); (try clear ho0); (try clear ho1)) | ((with_reducible refine gate_dst (N := 5) rfl ?_); (try (refine gate_guard (by rfl) ?_; dsimp only)); refine box_event ?hg (N := 5) ?hd (cs := #[.string (⟨#[]⟩ : ByteArray), .slice none 0 0, .slice none 0 0]) (t := 27) ?hr ?_; (case hd => rfl); (case hg => rfl); (case hr => first | (go_simp; done) | (go_simp; rfl)); intro gb213 hg w27 hbox hb; have n0_ := Aside0.mk (Kd.S_below (by (with_reducible repeat (first | apply Kd.S_alloc | apply Kd.S_drewN | apply Kd.S_drew)); exact HO209.out) hb); have n1_ := Aside0.mk (Kd.R_below (by (with_reducible repeat (first | apply Kd.R_alloc | apply Kd.R_drewN | apply Kd.R_drew)); exact HO212.out) hb); have n2_ := Aside0.mk (blk_below (g := gb201) (o := .cells #[.int .i64 a0_0, .bool a0_1, .slice A0_2 l0_2.length c0_2, .bool a0_3, .bool a0_4] 24 (0, 0)) (by (with_reducible repeat (first | refine blk_drewN ?_ _ | refine blk_drew ?_ | refine blk_alloc ?_ _)); exact BK201.out) hb); have n3_ := Aside0.mk (blk_below (g := gb202) (o := .cells #[.string a1_0, .slice A1_1 l1_1.length c1_1, .slice A1_2 l1_2.length c1_2] 27 (0, 0)) (by (with_reducible repeat (first | refine blk_drewN ?_ _ | refine blk_drew ?_ | refine blk_alloc ?_ _)); exact BK202.out) hb); have n4_ := Aside0.mk (below_step (by repeat (first | (with_reducible first | exact HB.out | apply below_alloc | apply pw_below_drewN | apply below_drew1 | refine below_set ?_ GE201.out | refine below_set ?_ GE202.out) | exact HB.out)) hb); have n5_ := Aside0.mk (hbox); have n6_ := Aside0.mk ((by rw [hg]; exact (below_size (by repeat (first | (with_reducible first | exact HB.out | apply below_alloc | apply pw_below_drewN | apply below_drew1 | refine below_set ?_ GE201.out | refine below_set ?_ GE202.out) | exact HB.out))) : w.heap.size ≤ gb213)); have n7_ := Aside0.mk ((by rw [hg]; exact (below_size (by repeat (first | (with_reducible first | exact HB.out | apply below_alloc | apply pw_below_drewN | apply below_drew1 | refine below_set ?_ GE201.out | refine below_set ?_ GE202.out) | exact HB.out))) : w.heap.size ≤ gb213)); have n8_ := Aside0.mk ((by rw [hg]; exact Nat.ne_of_lt (blk_lt (g := gb201) (o := .cells #[.int .i64 a0_0, .bool a0_1, .slice A0_2 l0_2.length c0_2, .bool a0_3, .bool a0_4] 24 (0, 0)) (by (with_reducible repeat (first | refine blk_drewN ?_ _ | refine blk_drew ?_ | refine blk_alloc ?_ _)); exact BK201.out)) : gb201 ≠ gb213)); have n9_ := Aside0.mk ((by rw [hg]; exact Nat.ne_of_gt (blk_lt (g := gb201) (o := .cells #[.int .i64 a0_0, .bool a0_1, .slice A0_2 l0_2.length c0_2, .bool a0_3, .bool a0_4] 24 (0, 0)) (by (with_reducible repeat (first | refine blk_drewN ?_ _ | refine blk_drew ?_ | refine blk_alloc ?_ _)); exact BK201.out)) : gb213 ≠ gb201)); have n10_ := Aside0.mk ((by rw [hg]; exact Nat.ne_of_lt (blk_lt (g := gb202) (o := .cells #[.string a1_0, .slice A1_1 l1_1.length c1_1, .slice A1_2 l1_2.length c1_2] 27 (0, 0)) (by (with_reducible repeat (first | refine blk_drewN ?_ _ | refine blk_drew ?_ | refine blk_alloc ?_ _)); exact BK202.out)) : gb202 ≠ gb213)); have n11_ := Aside0.mk ((by rw [hg]; exact Nat.ne_of_gt (blk_lt (g := gb202) (o := .cells #[.string a1_0, .slice A1_1 l1_1.length c1_1, .slice A1_2 l1_2.length c1_2] 27 (0, 0)) (by (with_reducible repeat (first | refine blk_drewN ?_ _ | refine blk_drew ?_ | refine blk_alloc ?_ _)); exact BK202.out)) : gb213 ≠ gb202)); clear HO209; clear HO212; clear BK201; clear BK202; clear HB; have HO209 := n0_; have HO212 := n1_; have BK201 := n2_; have BK202 := n3_; have HB := n4_; have BK213 := n5_; have GW213 := n6_; have GE213 := n7_; have NB201_213 := n8_; have NB213_201 := n9_; have NB202_213 := n10_; have NB213_202 := n11_; clear n0_ n1_ n2_ n3_ n4_ n5_ n6_ n7_ n8_ n9_ n10_ n11_; clear hb hbox hg; have hnb28 := NB213_201.out; have hnc28 := NB201_213.out; have hnb29 := NB213_202.out; have hnc29 := NB202_213.out; have hcz30_0 : w27.cell? ⟨gb213, 0, none⟩ = some (.string (⟨#[]⟩ : ByteArray)) := (blk_cell BK213.out 0).trans rfl; have hcz30_1 : w27.cell? ⟨gb213, 1, none⟩ = some (.slice none 0 0) := (blk_cell BK213.out 1).trans rfl; have hcz30_2 : w27.cell? ⟨gb213, 2, none⟩ = some (.slice none 0 0) := (blk_cell BK213.out 2).trans rfl; have hfz30_0 := blk_frozen BK213.out 0; have hfz30_1 := blk_frozen BK213.out 1; have hfz30_2 := blk_frozen BK213.out 2; obtain ⟨Ao31, co31, eo31⟩ := Kd.S_slice HO209.out; subst eo31; obtain ⟨Ao32, co32, eo32⟩ := Kd.R_slice HO212.out; subst eo32))
      (try simp only [Act.put, zA, zB, zC])
      go_cut [34] (fun v34 wc => ∃ (kq : Nat) (x34_21 : Bool), v34 = .bool x34_21 ∧ Aside0 (watchbilllaw23_FilterAgain.j1 kq x34_21 a0_0 a0_1 l0_2 a0_3 a0_4 a1_0 l1_1 l1_2 t206 t207 t210 = some r) ∧ Aside0 (kq ≤ kj4) ∧ Aside0 (Kd.S k38 38 wc w.heap.size (fun k_ => some k_ ≠ ((.slice Ao32 t210.length co32) : Value).ownBlock) (.slice Ao31 t207.length co31) t207) ∧ Aside0 (Kd.R Kd.string 9 wc w.heap.size (fun _ => True) (.slice Ao32 t210.length co32) t210) ∧ Aside0 (wc.heap[gb201]? = some (.cells #[.int .i64 a0_0, .bool a0_1, (.slice A0_2 l0_2.length c0_2), .bool a0_3, .bool a0_4] 24 (0, 0))) ∧ Aside0 (wc.heap[gb202]? = some (.cells #[.string a1_0, (.slice A1_1 l1_1.length c1_1), (.slice A1_2 l1_2.length c1_2)] 27 (0, 0))) ∧ Aside0 (wc.heap[gb213]? = some (.cells #[.string t206, (.slice Ao31 t207.length co31), (.slice Ao32 t210.length co32)] 27 (0, 0))) ∧ Aside0 (Below w.heap.size w wc))
      case first =>
        have H := HC22.out
        clear HC22
        replace H := Option.bind_eq_some_iff.mp H
        obtain ⟨⟨t214, t215, t218⟩, A330, H⟩ := H
        replace H : ((watchbillref20_Same.f kj4 t214 t215 t218 t206 t207 t210).bind fun t221 => (if t221 = true then (watchbilllaw23_FilterAgain.j1 kj4 false a0_0 a0_1 l0_2 a0_3 a0_4 a1_0 l1_1 l1_2 t206 t207 t210) else (watchbilllaw23_FilterAgain.j1 kj4 (a0_0 == 3) a0_0 a0_1 l0_2 a0_3 a0_4 a1_0 l1_1 l1_2 t206 t207 t210))) = some r := H
        have A33 := Aside0.mk A330
        clear A330
        replace H := Option.bind_eq_some_iff.mp H
        obtain ⟨t221, A340, H⟩ := H
        replace H : (if t221 = true then (watchbilllaw23_FilterAgain.j1 kj4 false a0_0 a0_1 l0_2 a0_3 a0_4 a1_0 l1_1 l1_2 t206 t207 t210) else (watchbilllaw23_FilterAgain.j1 kj4 (a0_0 == 3) a0_0 a0_1 l0_2 a0_3 a0_4 a1_0 l1_1 l1_2 t206 t207 t210)) = some r := H
        have A34 := Aside0.mk A340
        clear A340
        by_cases c35 : t221 = true
        · subst c35
          have H1 : (watchbilllaw23_FilterAgain.j1 kj4 false a0_0 a0_1 l0_2 a0_3 a0_4 a1_0 l1_1 l1_2 t206 t207 t210) = some r := by rw [if_pos rfl] at H; exact H
          clear H
          have H := H1
          clear H1
          have H' := Aside0.mk H
          clear H
          try go_wp2
          have n0_ : Aside0 (Kd.S k38 38 (((w27.setCell ⟨gb213, 0, none⟩ (.string t206)).setCell ⟨gb213, 1, none⟩ (.slice Ao31 t207.length co31)).setCell ⟨gb213, 2, none⟩ (.slice Ao32 t210.length co32)) w.heap.size (fun k_ => some k_ ≠ (.slice Ao32 t210.length co32 : Value).ownBlock) (.slice Ao31 t207.length co31) t207) := ⟨by (with_reducible repeat (first | apply Kd.S_alloc | apply Kd.S_drewN | apply Kd.S_drew)); exact Kd.S_mono (Kd.S_far (p := ⟨gb213, 2, none⟩) (Kd.S_far (p := ⟨gb213, 1, none⟩) (Kd.S_far (p := ⟨gb213, 0, none⟩) (Kd.S_types HO209.out BK213.out (by decide)) (fun _ hk => hk.2) (.string t206)) (fun _ hk => hk.2) (.slice Ao31 t207.length co31)) (fun _ hk => hk.2) (.slice Ao32 t210.length co32)) (fun _ hk => hk.1)⟩
          have n1_ : Aside0 (Kd.R Kd.string 9 (((w27.setCell ⟨gb213, 0, none⟩ (.string t206)).setCell ⟨gb213, 1, none⟩ (.slice Ao31 t207.length co31)).setCell ⟨gb213, 2, none⟩ (.slice Ao32 t210.length co32)) w.heap.size (fun _ => True) (.slice Ao32 t210.length co32) t210) := ⟨by (with_reducible repeat (first | apply Kd.R_alloc | apply Kd.R_drewN | apply Kd.R_drew)); exact Kd.R_mono (Kd.R_far (p := ⟨gb213, 2, none⟩) (Kd.R_far (p := ⟨gb213, 1, none⟩) (Kd.R_far (p := ⟨gb213, 0, none⟩) (Kd.R_types HO212.out BK213.out (by decide)) (fun _ hk => hk.2) (.string t206)) (fun _ hk => hk.2) (.slice Ao31 t207.length co31)) (fun _ hk => hk.2) (.slice Ao32 t210.length co32)) (fun _ hk => trivial)⟩
          have n2_ : Aside0 ((((w27.setCell ⟨gb213, 0, none⟩ (.string t206)).setCell ⟨gb213, 1, none⟩ (.slice Ao31 t207.length co31)).setCell ⟨gb213, 2, none⟩ (.slice Ao32 t210.length co32)).heap[gb201]? = some (.cells #[.int .i64 a0_0, .bool a0_1, .slice A0_2 l0_2.length c0_2, .bool a0_3, .bool a0_4] 24 (0, 0))) := ⟨by (repeat (first | (with_reducible first | refine blk_drewN ?_ _ | refine blk_drew ?_ | refine blk_alloc ?_ _) | refine blk_far ?_ NB201_213.out _)); exact BK201.out⟩
          have n3_ : Aside0 ((((w27.setCell ⟨gb213, 0, none⟩ (.string t206)).setCell ⟨gb213, 1, none⟩ (.slice Ao31 t207.length co31)).setCell ⟨gb213, 2, none⟩ (.slice Ao32 t210.length co32)).heap[gb202]? = some (.cells #[.string a1_0, .slice A1_1 l1_1.length c1_1, .slice A1_2 l1_2.length c1_2] 27 (0, 0))) := ⟨by (repeat (first | (with_reducible first | refine blk_drewN ?_ _ | refine blk_drew ?_ | refine blk_alloc ?_ _) | refine blk_far ?_ NB202_213.out _)); exact BK202.out⟩
          have n4_ : Aside0 ((((w27.setCell ⟨gb213, 0, none⟩ (.string t206)).setCell ⟨gb213, 1, none⟩ (.slice Ao31 t207.length co31)).setCell ⟨gb213, 2, none⟩ (.slice Ao32 t210.length co32)).heap[gb213]? = some (.cells #[.string t206, .slice Ao31 t207.length co31, .slice Ao32 t210.length co32] 27 (0, 0))) := ⟨by (with_reducible repeat (first | refine blk_drewN ?_ _ | refine blk_drew ?_ | refine blk_alloc ?_ _)); refine blk_put (cs := #[.string t206, .slice Ao31 t207.length co31, .slice none 0 0]) ?_ 2 _ rfl; (with_reducible repeat (first | refine blk_drewN ?_ _ | refine blk_drew ?_ | refine blk_alloc ?_ _)); refine blk_put (cs := #[.string t206, .slice none 0 0, .slice none 0 0]) ?_ 1 _ rfl; (with_reducible repeat (first | refine blk_drewN ?_ _ | refine blk_drew ?_ | refine blk_alloc ?_ _)); refine blk_put (cs := #[.string (⟨#[]⟩ : ByteArray), .slice none 0 0, .slice none 0 0]) ?_ 0 _ rfl; (with_reducible repeat (first | refine blk_drewN ?_ _ | refine blk_drew ?_ | refine blk_alloc ?_ _)); exact BK213.out⟩
          have n5_ : Aside0 (Below w.heap.size w (((w27.setCell ⟨gb213, 0, none⟩ (.string t206)).setCell ⟨gb213, 1, none⟩ (.slice Ao31 t207.length co31)).setCell ⟨gb213, 2, none⟩ (.slice Ao32 t210.length co32))) := ⟨by repeat (first | (with_reducible first | exact HB.out | apply below_alloc | apply pw_below_drewN | apply below_drew1 | refine below_set ?_ GE201.out | refine below_set ?_ GE202.out | refine below_set ?_ GE213.out) | exact HB.out)⟩
          (try clear HO209)
          (try clear HO212)
          (try clear BK201)
          (try clear BK202)
          (try clear BK213)
          (try clear HB)
          generalize (((w27.setCell ⟨gb213, 0, none⟩ (.string t206)).setCell ⟨gb213, 1, none⟩ (.slice Ao31 t207.length co31)).setCell ⟨gb213, 2, none⟩ (.slice Ao32 t210.length co32)) = w36 at n0_ n1_ n2_ n3_ n4_ n5_ ⊢
          have HO209 := n0_
          have HO212 := n1_
          have BK201 := n2_
          have BK202 := n3_
          have BK213 := n4_
          have HB := n5_
          clear n0_ n1_ n2_ n3_ n4_ n5_
          have n0_ := Aside0.mk (Kd.S_drew HO209.out)
          have n1_ := Aside0.mk (Kd.R_drew HO212.out)
          have n2_ := Aside0.mk (blk_drew BK201.out)
          have n3_ := Aside0.mk (blk_drew BK202.out)
          have n4_ := Aside0.mk (blk_drew BK213.out)
          have n5_ := Aside0.mk (below_drew1 HB.out)
          clear HO209
          clear HO212
          clear BK201
          clear BK202
          clear BK213
          clear HB
          have HO209 := n0_
          have HO212 := n1_
          have BK201 := n2_
          have BK202 := n3_
          have BK213 := n4_
          have HB := n5_
          clear n0_ n1_ n2_ n3_ n4_ n5_
          refine start_ (n := 11) (S := fun w' => w'.cell? ⟨gb201, 0, none⟩ = some (.int .i64 a0_0) ∧ w'.cell? ⟨gb201, 1, none⟩ = some (.bool a0_1) ∧ w'.cell? ⟨gb201, 2, none⟩ = some (.slice A0_2 l0_2.length c0_2) ∧ w'.cell? ⟨gb201, 3, none⟩ = some (.bool a0_3) ∧ w'.cell? ⟨gb201, 4, none⟩ = some (.bool a0_4) ∧ w'.cell? ⟨gb213, 0, none⟩ = some (.string t206) ∧ w'.cell? ⟨gb213, 1, none⟩ = some (.slice Ao31 t207.length co31) ∧ w'.cell? ⟨gb213, 2, none⟩ = some (.slice Ao32 t210.length co32)) (ds := []) #[false, false, false, false, false, false, false, false, false, false, false] (by kernel_rfl) rfl rfl ⟨(blk_cell BK201.out 0).trans rfl, (blk_cell BK201.out 1).trans rfl, (blk_cell BK201.out 2).trans rfl, (blk_cell BK201.out 3).trans rfl, (blk_cell BK201.out 4).trans rfl, (blk_cell BK213.out 0).trans rfl, (blk_cell BK213.out 1).trans rfl, (blk_cell BK213.out 2).trans rfl⟩ (fun hHeld => ?_); refine with_tabW watchbilllaw23_FilterAgain.tab6 watchbilllaw23_FilterAgain.bits6 (fun HT_ HW_ => ?_)
          generalize w36.drew = w37 at HO209 HO212 BK201 BK202 BK213 HB hHeld ⊢
          refine take_ (i := 0) (N := some 24) (v := ?_) (a' := ?_) #[true, false, false, false, false, false, false, false, false, false, false] rfl rfl (take_ofW HT_.out HW_.out (by kernel_rfl)) (fun _ _ _ h => h) (Or.inl ⟨by rfl, ?_⟩) hHeld ?_ ?_
          rotate_left
          · rintro w' ⟨s0, s1, s2, s3, s4, s5, s6, s7⟩
            go_simp
            with_reducible rfl
          rotate_left
          · simp only [Act.put, zA, zB, zC, i64_w, i32_w]
            rfl
          refine take_ (i := 1) (N := some 25) (v := ?_) (a' := ?_) #[true, true, false, false, false, false, false, false, false, false, false] rfl rfl (take_ofW HT_.out HW_.out (by kernel_rfl)) (fun _ _ _ h => h) (Or.inl ⟨by rfl, ?_⟩) hHeld ?_ ?_
          rotate_left
          · rintro w' ⟨s0, s1, s2, s3, s4, s5, s6, s7⟩
            go_simp
            with_reducible rfl
          rotate_left
          · simp only [Act.put, zA, zB, zC, i64_w, i32_w]
            rfl
          refine take_ (i := 3) (N := some 27) (v := ?_) (a' := ?_) #[true, true, false, true, false, false, false, false, false, false, false] rfl rfl (take_ofW HT_.out HW_.out (by kernel_rfl)) (fun _ _ _ h => h) (Or.inl ⟨by rfl, ?_⟩) hHeld ?_ ?_
          rotate_left
          · rintro w' ⟨s0, s1, s2, s3, s4, s5, s6, s7⟩
            go_simp
            with_reducible rfl
          rotate_left
          · simp only [Act.put, zA, zB, zC, i64_w, i32_w]
            rfl
          refine one_ (i := 2) (N := some 26) #[true, true, true, true, false, false, false, false, false, false, false] rfl rfl (one_of HT_.out (by kernel_rfl)) (by decide) (fun K hK => ?_)
          refine goes_ Tryd.func10 (by kernel_rfl) rfl #[.agg #[.int .i64 a0_0, .bool a0_1, .slice A0_2 l0_2.length c0_2, .bool a0_3, .bool a0_4], .agg #[.string t206, .slice Ao31 t207.length co31, .slice Ao32 t210.length co32]] (by rfl) rfl rfl (by (try simp only [List.map_toArray, List.map_cons, List.map_nil]); first | done | rfl | (simp only [List.length_drop, List.length_take]; rfl)) ?_
          with_reducible refine (filter_Apply.calls kj4 a0_0 a0_1 _ _ l0_2 a0_3 a0_4 t206 _ _ t207 _ _ t210 t214 t215 t218 _ ?side1 ?side2 ?side3 ?side4 ?side5 ?side6 A33.out).mono ?_
          (case side1 => repeat (first | exact (Kd.C_below HR0_2.out HB.out) | (with_reducible refine Kd.C_alloc ?_ _) | (with_reducible refine Kd.C_drewN ?_ _) | (with_reducible refine Kd.C_drew ?_)))
          (case side2 => exact HC0_2.out)
          (case side3 => repeat (first | exact (Kd.S_reads' HO209.out).2.2 | (with_reducible refine Kd.C_alloc ?_ _) | (with_reducible refine Kd.C_drewN ?_ _) | (with_reducible refine Kd.C_drew ?_)))
          (case side4 => exact (Kd.S_reads' HO209.out).2.1)
          (case side5 => repeat (first | exact (Kd.R_reads' HO212.out).2.2 | (with_reducible refine Kd.C_alloc ?_ _) | (with_reducible refine Kd.C_drewN ?_ _) | (with_reducible refine Kd.C_drew ?_)))
          (case side6 => exact (Kd.R_reads' HO212.out).2.1)
          rintro e w38 ⟨v216, v219, rfl, ho0, ho1, hb⟩
          refine ⟨_, rfl, ?_⟩
          have n0_ := Aside0.mk (Kd.S_mono (Kd.S_told (Kd.S_told (Kd.S_old (by (with_reducible repeat (first | apply Kd.S_alloc | apply Kd.S_drewN | apply Kd.S_drew)); exact HO209.out) hb) (Kd.S_base ho0)) (Kd.R_base ho1)) (fun _ h_ => h_.1))
          have n1_ := Aside0.mk (Kd.R_elder' (by (with_reducible repeat (first | apply Kd.R_alloc | apply Kd.R_drewN | apply Kd.R_drew)); exact HO212.out) (Kd.R_base ho1) hb)
          have n2_ := Aside0.mk (Kd.S_lower (Kd.S_new' (Kd.S_new' ho0 (Kd.S_lt (by (with_reducible repeat (first | apply Kd.S_alloc | apply Kd.S_drewN | apply Kd.S_drew)); exact HO209.out))) (Kd.R_lt (by (with_reducible repeat (first | apply Kd.R_alloc | apply Kd.R_drewN | apply Kd.R_drew)); exact HO212.out))) (below_size (by repeat (first | (with_reducible first | exact HB.out | apply below_alloc | apply pw_below_drewN | apply below_drew1 | refine below_set ?_ GE201.out | refine below_set ?_ GE202.out | refine below_set ?_ GE213.out) | exact HB.out))))
          have n3_ := Aside0.mk (Kd.R_lower (Kd.R_new' ho1 (Kd.R_lt (by (with_reducible repeat (first | apply Kd.R_alloc | apply Kd.R_drewN | apply Kd.R_drew)); exact HO212.out))) (below_size (by repeat (first | (with_reducible first | exact HB.out | apply below_alloc | apply pw_below_drewN | apply below_drew1 | refine below_set ?_ GE201.out | refine below_set ?_ GE202.out | refine below_set ?_ GE213.out) | exact HB.out))))
          have n4_ := Aside0.mk (blk_below (g := gb201) (o := .cells #[.int .i64 a0_0, .bool a0_1, .slice A0_2 l0_2.length c0_2, .bool a0_3, .bool a0_4] 24 (0, 0)) (by (with_reducible repeat (first | refine blk_drewN ?_ _ | refine blk_drew ?_ | refine blk_alloc ?_ _)); exact BK201.out) hb)
          have n5_ := Aside0.mk (blk_below (g := gb202) (o := .cells #[.string a1_0, .slice A1_1 l1_1.length c1_1, .slice A1_2 l1_2.length c1_2] 27 (0, 0)) (by (with_reducible repeat (first | refine blk_drewN ?_ _ | refine blk_drew ?_ | refine blk_alloc ?_ _)); exact BK202.out) hb)
          have n6_ := Aside0.mk (blk_below (g := gb213) (o := .cells #[.string t206, .slice Ao31 t207.length co31, .slice Ao32 t210.length co32] 27 (0, 0)) (by (with_reducible repeat (first | refine blk_drewN ?_ _ | refine blk_drew ?_ | refine blk_alloc ?_ _)); exact BK213.out) hb)
          have n7_ := Aside0.mk (below_step (by repeat (first | (with_reducible first | exact HB.out | apply below_alloc | apply pw_below_drewN | apply below_drew1 | refine below_set ?_ GE201.out | refine below_set ?_ GE202.out | refine below_set ?_ GE213.out) | exact HB.out)) hb)
          clear HO209
          clear HO212
          clear BK201
          clear BK202
          clear BK213
          clear HB
          have HO209 := n0_
          have HO212 := n1_
          have HO217 := n2_
          have HO220 := n3_
          have BK201 := n4_
          have BK202 := n5_
          have BK213 := n6_
          have HB := n7_
          clear n0_ n1_ n2_ n3_ n4_ n5_ n6_ n7_
          (try clear hb)
          (try clear hb2)
          (try clear hk)
          (try clear hi)
          (try clear ho0)
          (try clear ho1)
          obtain ⟨Ao39, co39, eo39⟩ := Kd.S_slice HO217.out
          (first | subst eo39 | (injection eo39 with f1_ f2_ f3_; have f4_ := f1_.symm; have f5_ := f3_.symm; clear f1_ f2_ f3_; subst f4_; subst f5_))
          obtain ⟨Ao40, co40, eo40⟩ := Kd.R_slice HO220.out
          (first | subst eo40 | (injection eo40 with f1_ f2_ f3_; have f4_ := f1_.symm; have f5_ := f3_.symm; clear f1_ f2_ f3_; subst f4_; subst f5_))
          refine hK.out _ _ ⟨(blk_cell BK201.out 0).trans rfl, (blk_cell BK201.out 1).trans rfl, (blk_cell BK201.out 2).trans rfl, (blk_cell BK201.out 3).trans rfl, (blk_cell BK201.out 4).trans rfl, (blk_cell BK213.out 0).trans rfl, (blk_cell BK213.out 1).trans rfl, (blk_cell BK213.out 2).trans rfl⟩ (fun hHeld => ?_)
          clear hK K
          refine norm_ (a' := ?_) ?_ ?_
          rotate_left
          · show Act.put _ (some 26) _ = _
            simp only [Act.put, zA, zB, zC, i64_w, i32_w]
            rfl
          refine one_ (i := 4) (N := some 28) #[true, true, true, true, true, false, false, false, false, false, false] rfl rfl (one_of HT_.out (by kernel_rfl)) (by decide) (fun K hK => ?_)
          refine goes_ Tryd.func9 (by kernel_rfl) rfl #[.agg #[.string t214, .slice Ao39 t215.length co39, .slice Ao40 t218.length co40], .agg #[.string t206, .slice Ao31 t207.length co31, .slice Ao32 t210.length co32]] (by rfl) rfl rfl (by (try simp only [List.map_toArray, List.map_cons, List.map_nil]); first | done | rfl | (simp only [List.length_drop, List.length_take]; rfl)) ?_
          with_reducible refine (watchbillref20_Same.calls kj4 t214 _ _ t215 _ _ t218 t206 _ _ t207 _ _ t210 true _ ?side1 ?side2 ?side3 ?side4 ?side5 ?side6 ?side7 ?side8 A34.out).mono ?_
          (case side1 => repeat (first | exact (Kd.S_reads' HO217.out).2.2 | (with_reducible refine Kd.C_alloc ?_ _) | (with_reducible refine Kd.C_drewN ?_ _) | (with_reducible refine Kd.C_drew ?_)))
          (case side2 => exact (Kd.S_reads' HO217.out).2.1)
          (case side3 => repeat (first | exact (Kd.R_reads' HO220.out).2.2 | (with_reducible refine Kd.C_alloc ?_ _) | (with_reducible refine Kd.C_drewN ?_ _) | (with_reducible refine Kd.C_drew ?_)))
          (case side4 => exact (Kd.R_reads' HO220.out).2.1)
          (case side5 => repeat (first | exact (Kd.S_reads' HO209.out).2.2 | (with_reducible refine Kd.C_alloc ?_ _) | (with_reducible refine Kd.C_drewN ?_ _) | (with_reducible refine Kd.C_drew ?_)))
          (case side6 => exact (Kd.S_reads' HO209.out).2.1)
          (case side7 => repeat (first | exact (Kd.R_reads' HO212.out).2.2 | (with_reducible refine Kd.C_alloc ?_ _) | (with_reducible refine Kd.C_drewN ?_ _) | (with_reducible refine Kd.C_drew ?_)))
          (case side8 => exact (Kd.R_reads' HO212.out).2.1)
          rintro e w41 ⟨rfl, hb⟩
          refine ⟨_, rfl, ?_⟩
          have n0_ := Aside0.mk (Kd.S_below (by (with_reducible repeat (first | apply Kd.S_alloc | apply Kd.S_drewN | apply Kd.S_drew)); exact HO209.out) hb)
          have n1_ := Aside0.mk (Kd.R_below (by (with_reducible repeat (first | apply Kd.R_alloc | apply Kd.R_drewN | apply Kd.R_drew)); exact HO212.out) hb)
          have n2_ := Aside0.mk (Kd.S_below (by (with_reducible repeat (first | apply Kd.S_alloc | apply Kd.S_drewN | apply Kd.S_drew)); exact HO217.out) hb)
          have n3_ := Aside0.mk (Kd.R_below (by (with_reducible repeat (first | apply Kd.R_alloc | apply Kd.R_drewN | apply Kd.R_drew)); exact HO220.out) hb)
          have n4_ := Aside0.mk (blk_below (g := gb201) (o := .cells #[.int .i64 a0_0, .bool a0_1, .slice A0_2 l0_2.length c0_2, .bool a0_3, .bool a0_4] 24 (0, 0)) (by (with_reducible repeat (first | refine blk_drewN ?_ _ | refine blk_drew ?_ | refine blk_alloc ?_ _)); exact BK201.out) hb)
          have n5_ := Aside0.mk (blk_below (g := gb202) (o := .cells #[.string a1_0, .slice A1_1 l1_1.length c1_1, .slice A1_2 l1_2.length c1_2] 27 (0, 0)) (by (with_reducible repeat (first | refine blk_drewN ?_ _ | refine blk_drew ?_ | refine blk_alloc ?_ _)); exact BK202.out) hb)
          have n6_ := Aside0.mk (blk_below (g := gb213) (o := .cells #[.string t206, .slice Ao31 t207.length co31, .slice Ao32 t210.length co32] 27 (0, 0)) (by (with_reducible repeat (first | refine blk_drewN ?_ _ | refine blk_drew ?_ | refine blk_alloc ?_ _)); exact BK213.out) hb)
          have n7_ := Aside0.mk (below_step (by repeat (first | (with_reducible first | exact HB.out | apply below_alloc | apply pw_below_drewN | apply below_drew1 | refine below_set ?_ GE201.out | refine below_set ?_ GE202.out | refine below_set ?_ GE213.out) | exact HB.out)) hb)
          clear HO209
          clear HO212
          clear HO217
          clear HO220
          clear BK201
          clear BK202
          clear BK213
          clear HB
          have HO209 := n0_
          have HO212 := n1_
          have HO217 := n2_
          have HO220 := n3_
          have BK201 := n4_
          have BK202 := n5_
          have BK213 := n6_
          have HB := n7_
          clear n0_ n1_ n2_ n3_ n4_ n5_ n6_ n7_
          (try clear hb)
          (try clear hb2)
          (try clear hk)
          (try clear hi)
          refine hK.out _ _ ⟨(blk_cell BK201.out 0).trans rfl, (blk_cell BK201.out 1).trans rfl, (blk_cell BK201.out 2).trans rfl, (blk_cell BK201.out 3).trans rfl, (blk_cell BK201.out 4).trans rfl, (blk_cell BK213.out 0).trans rfl, (blk_cell BK213.out 1).trans rfl, (blk_cell BK213.out 2).trans rfl⟩ (fun hHeld => ?_)
          clear hK K
          refine norm_ (a' := ?_) ?_ ?_
          rotate_left
          · show Act.put _ (some 28) _ = _
            simp only [Act.put, zA, zB, zC, i64_w, i32_w]
            rfl
          refine pure_ (i := 5) (N := some 29) (v := ?_) (a' := ?_) #[true, true, true, true, true, true, false, false, false, false, false] rfl rfl (any_of HT_.out (by kernel_rfl)) (fun _ _ _ h => h) (Or.inl ⟨by rfl, ?_⟩) ?_ ?_
          rotate_left
          · intro w'
            go_simp
            with_reducible rfl
          rotate_left
          · simp only [Act.put, zA, zB, zC, i64_w, i32_w]
            rfl
          refine pure_ (i := 6) (N := some 30) (v := ?_) (a' := ?_) #[true, true, true, true, true, true, true, false, false, false, false] rfl rfl (any_of HT_.out (by kernel_rfl)) (fun _ _ _ h => h) (Or.inl ⟨by rfl, ?_⟩) ?_ ?_
          rotate_left
          · intro w'
            go_simp
            with_reducible rfl
          rotate_left
          · simp only [Act.put, zA, zB, zC, i64_w, i32_w]
            rfl
          refine pure_ (i := 7) (N := some 31) (v := undef) (a' := ?_) #[true, true, true, true, true, true, true, true, false, false, false] rfl rfl (any_of HT_.out (by kernel_rfl)) (fun _ _ _ h => h) (Or.inr ⟨by rfl, rfl⟩) ?_ ?_
          rotate_left
          · simp only [Act.put, zA, zB, zC, i64_w, i32_w]
            rfl
          refine pure_ (i := 8) (N := some 32) (v := undef) (a' := ?_) #[true, true, true, true, true, true, true, true, true, false, false] rfl rfl (any_of HT_.out (by kernel_rfl)) (fun _ _ _ h => h) (Or.inr ⟨by rfl, rfl⟩) ?_ ?_
          rotate_left
          · simp only [Act.put, zA, zB, zC, i64_w, i32_w]
            rfl
          refine pure_ (i := 9) (N := some 33) (v := undef) (a' := ?_) #[true, true, true, true, true, true, true, true, true, true, false] rfl rfl (any_of HT_.out (by kernel_rfl)) (fun _ _ _ h => h) (Or.inr ⟨by rfl, rfl⟩) ?_ ?_
          rotate_left
          · simp only [Act.put, zA, zB, zC, i64_w, i32_w]
            rfl
          refine pure_ (i := 10) (N := some 34) (v := ?_) (a' := ?_) #[true, true, true, true, true, true, true, true, true, true, true] rfl rfl (any_of HT_.out (by kernel_rfl)) (fun _ _ _ h => h) (Or.inl ⟨by rfl, ?_⟩) ?_ ?_
          rotate_left
          · intro w'
            go_simp
            with_reducible rfl
          rotate_left
          · simp only [Act.put, zA, zB, zC, i64_w, i32_w]
            rfl
          refine done_ (done_of HT_.out (by kernel_rfl)) ?_
          try go_wp2
          go_meet
          case rel => exact ⟨_, (false), (by first | rfl | (simp; done) | (simp [*]; done)), H', ⟨by have := HJ4.out; first | omega | exact Nat.le_refl _⟩, ⟨by (with_reducible repeat (first | apply Kd.S_alloc | apply Kd.S_drewN | apply Kd.S_drew)); exact Kd.S_mono HO209.out (fun _ hk => hk.1.1)⟩, ⟨by (with_reducible repeat (first | apply Kd.R_alloc | apply Kd.R_drewN | apply Kd.R_drew)); exact Kd.R_mono HO212.out (fun _ hk => trivial)⟩, ⟨by (with_reducible repeat (first | refine blk_drewN ?_ _ | refine blk_drew ?_ | refine blk_alloc ?_ _)); exact BK201.out⟩, ⟨by (with_reducible repeat (first | refine blk_drewN ?_ _ | refine blk_drew ?_ | refine blk_alloc ?_ _)); exact BK202.out⟩, ⟨by (with_reducible repeat (first | refine blk_drewN ?_ _ | refine blk_drew ?_ | refine blk_alloc ?_ _)); exact BK213.out⟩, ⟨by repeat (first | (with_reducible first | exact HB.out | apply below_alloc | apply pw_below_drewN | apply below_drew1 | refine below_set ?_ GE201.out | refine below_set ?_ GE202.out | refine below_set ?_ GE213.out) | exact HB.out)⟩⟩
        · replace c35 := Bool.eq_false_iff.mpr c35
          subst c35
          have H1 : (watchbilllaw23_FilterAgain.j1 kj4 (a0_0 == 3) a0_0 a0_1 l0_2 a0_3 a0_4 a1_0 l1_1 l1_2 t206 t207 t210) = some r := by rw [if_neg (show ¬ (false = true) by decide)] at H; exact H
          clear H
          have H := H1
          clear H1
          have H' := Aside0.mk H
          clear H
          try go_wp2
          have n0_ : Aside0 (Kd.S k38 38 (((w27.setCell ⟨gb213, 0, none⟩ (.string t206)).setCell ⟨gb213, 1, none⟩ (.slice Ao31 t207.length co31)).setCell ⟨gb213, 2, none⟩ (.slice Ao32 t210.length co32)) w.heap.size (fun k_ => some k_ ≠ (.slice Ao32 t210.length co32 : Value).ownBlock) (.slice Ao31 t207.length co31) t207) := ⟨by (with_reducible repeat (first | apply Kd.S_alloc | apply Kd.S_drewN | apply Kd.S_drew)); exact Kd.S_mono (Kd.S_far (p := ⟨gb213, 2, none⟩) (Kd.S_far (p := ⟨gb213, 1, none⟩) (Kd.S_far (p := ⟨gb213, 0, none⟩) (Kd.S_types HO209.out BK213.out (by decide)) (fun _ hk => hk.2) (.string t206)) (fun _ hk => hk.2) (.slice Ao31 t207.length co31)) (fun _ hk => hk.2) (.slice Ao32 t210.length co32)) (fun _ hk => hk.1)⟩
          have n1_ : Aside0 (Kd.R Kd.string 9 (((w27.setCell ⟨gb213, 0, none⟩ (.string t206)).setCell ⟨gb213, 1, none⟩ (.slice Ao31 t207.length co31)).setCell ⟨gb213, 2, none⟩ (.slice Ao32 t210.length co32)) w.heap.size (fun _ => True) (.slice Ao32 t210.length co32) t210) := ⟨by (with_reducible repeat (first | apply Kd.R_alloc | apply Kd.R_drewN | apply Kd.R_drew)); exact Kd.R_mono (Kd.R_far (p := ⟨gb213, 2, none⟩) (Kd.R_far (p := ⟨gb213, 1, none⟩) (Kd.R_far (p := ⟨gb213, 0, none⟩) (Kd.R_types HO212.out BK213.out (by decide)) (fun _ hk => hk.2) (.string t206)) (fun _ hk => hk.2) (.slice Ao31 t207.length co31)) (fun _ hk => hk.2) (.slice Ao32 t210.length co32)) (fun _ hk => trivial)⟩
          have n2_ : Aside0 ((((w27.setCell ⟨gb213, 0, none⟩ (.string t206)).setCell ⟨gb213, 1, none⟩ (.slice Ao31 t207.length co31)).setCell ⟨gb213, 2, none⟩ (.slice Ao32 t210.length co32)).heap[gb201]? = some (.cells #[.int .i64 a0_0, .bool a0_1, .slice A0_2 l0_2.length c0_2, .bool a0_3, .bool a0_4] 24 (0, 0))) := ⟨by (repeat (first | (with_reducible first | refine blk_drewN ?_ _ | refine blk_drew ?_ | refine blk_alloc ?_ _) | refine blk_far ?_ NB201_213.out _)); exact BK201.out⟩
          have n3_ : Aside0 ((((w27.setCell ⟨gb213, 0, none⟩ (.string t206)).setCell ⟨gb213, 1, none⟩ (.slice Ao31 t207.length co31)).setCell ⟨gb213, 2, none⟩ (.slice Ao32 t210.length co32)).heap[gb202]? = some (.cells #[.string a1_0, .slice A1_1 l1_1.length c1_1, .slice A1_2 l1_2.length c1_2] 27 (0, 0))) := ⟨by (repeat (first | (with_reducible first | refine blk_drewN ?_ _ | refine blk_drew ?_ | refine blk_alloc ?_ _) | refine blk_far ?_ NB202_213.out _)); exact BK202.out⟩
          have n4_ : Aside0 ((((w27.setCell ⟨gb213, 0, none⟩ (.string t206)).setCell ⟨gb213, 1, none⟩ (.slice Ao31 t207.length co31)).setCell ⟨gb213, 2, none⟩ (.slice Ao32 t210.length co32)).heap[gb213]? = some (.cells #[.string t206, .slice Ao31 t207.length co31, .slice Ao32 t210.length co32] 27 (0, 0))) := ⟨by (with_reducible repeat (first | refine blk_drewN ?_ _ | refine blk_drew ?_ | refine blk_alloc ?_ _)); refine blk_put (cs := #[.string t206, .slice Ao31 t207.length co31, .slice none 0 0]) ?_ 2 _ rfl; (with_reducible repeat (first | refine blk_drewN ?_ _ | refine blk_drew ?_ | refine blk_alloc ?_ _)); refine blk_put (cs := #[.string t206, .slice none 0 0, .slice none 0 0]) ?_ 1 _ rfl; (with_reducible repeat (first | refine blk_drewN ?_ _ | refine blk_drew ?_ | refine blk_alloc ?_ _)); refine blk_put (cs := #[.string (⟨#[]⟩ : ByteArray), .slice none 0 0, .slice none 0 0]) ?_ 0 _ rfl; (with_reducible repeat (first | refine blk_drewN ?_ _ | refine blk_drew ?_ | refine blk_alloc ?_ _)); exact BK213.out⟩
          have n5_ : Aside0 (Below w.heap.size w (((w27.setCell ⟨gb213, 0, none⟩ (.string t206)).setCell ⟨gb213, 1, none⟩ (.slice Ao31 t207.length co31)).setCell ⟨gb213, 2, none⟩ (.slice Ao32 t210.length co32))) := ⟨by repeat (first | (with_reducible first | exact HB.out | apply below_alloc | apply pw_below_drewN | apply below_drew1 | refine below_set ?_ GE201.out | refine below_set ?_ GE202.out | refine below_set ?_ GE213.out) | exact HB.out)⟩
          (try clear HO209)
          (try clear HO212)
          (try clear BK201)
          (try clear BK202)
          (try clear BK213)
          (try clear HB)
          generalize (((w27.setCell ⟨gb213, 0, none⟩ (.string t206)).setCell ⟨gb213, 1, none⟩ (.slice Ao31 t207.length co31)).setCell ⟨gb213, 2, none⟩ (.slice Ao32 t210.length co32)) = w42 at n0_ n1_ n2_ n3_ n4_ n5_ ⊢
          have HO209 := n0_
          have HO212 := n1_
          have BK201 := n2_
          have BK202 := n3_
          have BK213 := n4_
          have HB := n5_
          clear n0_ n1_ n2_ n3_ n4_ n5_
          have n0_ := Aside0.mk (Kd.S_drew HO209.out)
          have n1_ := Aside0.mk (Kd.R_drew HO212.out)
          have n2_ := Aside0.mk (blk_drew BK201.out)
          have n3_ := Aside0.mk (blk_drew BK202.out)
          have n4_ := Aside0.mk (blk_drew BK213.out)
          have n5_ := Aside0.mk (below_drew1 HB.out)
          clear HO209
          clear HO212
          clear BK201
          clear BK202
          clear BK213
          clear HB
          have HO209 := n0_
          have HO212 := n1_
          have BK201 := n2_
          have BK202 := n3_
          have BK213 := n4_
          have HB := n5_
          clear n0_ n1_ n2_ n3_ n4_ n5_
          refine start_ (n := 11) (S := fun w' => w'.cell? ⟨gb201, 0, none⟩ = some (.int .i64 a0_0) ∧ w'.cell? ⟨gb201, 1, none⟩ = some (.bool a0_1) ∧ w'.cell? ⟨gb201, 2, none⟩ = some (.slice A0_2 l0_2.length c0_2) ∧ w'.cell? ⟨gb201, 3, none⟩ = some (.bool a0_3) ∧ w'.cell? ⟨gb201, 4, none⟩ = some (.bool a0_4) ∧ w'.cell? ⟨gb213, 0, none⟩ = some (.string t206) ∧ w'.cell? ⟨gb213, 1, none⟩ = some (.slice Ao31 t207.length co31) ∧ w'.cell? ⟨gb213, 2, none⟩ = some (.slice Ao32 t210.length co32)) (ds := []) #[false, false, false, false, false, false, false, false, false, false, false] (by kernel_rfl) rfl rfl ⟨(blk_cell BK201.out 0).trans rfl, (blk_cell BK201.out 1).trans rfl, (blk_cell BK201.out 2).trans rfl, (blk_cell BK201.out 3).trans rfl, (blk_cell BK201.out 4).trans rfl, (blk_cell BK213.out 0).trans rfl, (blk_cell BK213.out 1).trans rfl, (blk_cell BK213.out 2).trans rfl⟩ (fun hHeld => ?_); refine with_tabW watchbilllaw23_FilterAgain.tab6 watchbilllaw23_FilterAgain.bits6 (fun HT_ HW_ => ?_)
          generalize w42.drew = w43 at HO209 HO212 BK201 BK202 BK213 HB hHeld ⊢
          refine take_ (i := 0) (N := some 24) (v := ?_) (a' := ?_) #[true, false, false, false, false, false, false, false, false, false, false] rfl rfl (take_ofW HT_.out HW_.out (by kernel_rfl)) (fun _ _ _ h => h) (Or.inl ⟨by rfl, ?_⟩) hHeld ?_ ?_
          rotate_left
          · rintro w' ⟨s0, s1, s2, s3, s4, s5, s6, s7⟩
            go_simp
            with_reducible rfl
          rotate_left
          · simp only [Act.put, zA, zB, zC, i64_w, i32_w]
            rfl
          refine take_ (i := 1) (N := some 25) (v := ?_) (a' := ?_) #[true, true, false, false, false, false, false, false, false, false, false] rfl rfl (take_ofW HT_.out HW_.out (by kernel_rfl)) (fun _ _ _ h => h) (Or.inl ⟨by rfl, ?_⟩) hHeld ?_ ?_
          rotate_left
          · rintro w' ⟨s0, s1, s2, s3, s4, s5, s6, s7⟩
            go_simp
            with_reducible rfl
          rotate_left
          · simp only [Act.put, zA, zB, zC, i64_w, i32_w]
            rfl
          refine take_ (i := 3) (N := some 27) (v := ?_) (a' := ?_) #[true, true, false, true, false, false, false, false, false, false, false] rfl rfl (take_ofW HT_.out HW_.out (by kernel_rfl)) (fun _ _ _ h => h) (Or.inl ⟨by rfl, ?_⟩) hHeld ?_ ?_
          rotate_left
          · rintro w' ⟨s0, s1, s2, s3, s4, s5, s6, s7⟩
            go_simp
            with_reducible rfl
          rotate_left
          · simp only [Act.put, zA, zB, zC, i64_w, i32_w]
            rfl
          refine one_ (i := 2) (N := some 26) #[true, true, true, true, false, false, false, false, false, false, false] rfl rfl (one_of HT_.out (by kernel_rfl)) (by decide) (fun K hK => ?_)
          refine goes_ Tryd.func10 (by kernel_rfl) rfl #[.agg #[.int .i64 a0_0, .bool a0_1, .slice A0_2 l0_2.length c0_2, .bool a0_3, .bool a0_4], .agg #[.string t206, .slice Ao31 t207.length co31, .slice Ao32 t210.length co32]] (by rfl) rfl rfl (by (try simp only [List.map_toArray, List.map_cons, List.map_nil]); first | done | rfl | (simp only [List.length_drop, List.length_take]; rfl)) ?_
          with_reducible refine (filter_Apply.calls kj4 a0_0 a0_1 _ _ l0_2 a0_3 a0_4 t206 _ _ t207 _ _ t210 t214 t215 t218 _ ?side1 ?side2 ?side3 ?side4 ?side5 ?side6 A33.out).mono ?_
          (case side1 => repeat (first | exact (Kd.C_below HR0_2.out HB.out) | (with_reducible refine Kd.C_alloc ?_ _) | (with_reducible refine Kd.C_drewN ?_ _) | (with_reducible refine Kd.C_drew ?_)))
          (case side2 => exact HC0_2.out)
          (case side3 => repeat (first | exact (Kd.S_reads' HO209.out).2.2 | (with_reducible refine Kd.C_alloc ?_ _) | (with_reducible refine Kd.C_drewN ?_ _) | (with_reducible refine Kd.C_drew ?_)))
          (case side4 => exact (Kd.S_reads' HO209.out).2.1)
          (case side5 => repeat (first | exact (Kd.R_reads' HO212.out).2.2 | (with_reducible refine Kd.C_alloc ?_ _) | (with_reducible refine Kd.C_drewN ?_ _) | (with_reducible refine Kd.C_drew ?_)))
          (case side6 => exact (Kd.R_reads' HO212.out).2.1)
          rintro e w44 ⟨v216, v219, rfl, ho0, ho1, hb⟩
          refine ⟨_, rfl, ?_⟩
          have n0_ := Aside0.mk (Kd.S_mono (Kd.S_told (Kd.S_told (Kd.S_old (by (with_reducible repeat (first | apply Kd.S_alloc | apply Kd.S_drewN | apply Kd.S_drew)); exact HO209.out) hb) (Kd.S_base ho0)) (Kd.R_base ho1)) (fun _ h_ => h_.1))
          have n1_ := Aside0.mk (Kd.R_elder' (by (with_reducible repeat (first | apply Kd.R_alloc | apply Kd.R_drewN | apply Kd.R_drew)); exact HO212.out) (Kd.R_base ho1) hb)
          have n2_ := Aside0.mk (Kd.S_lower (Kd.S_new' (Kd.S_new' ho0 (Kd.S_lt (by (with_reducible repeat (first | apply Kd.S_alloc | apply Kd.S_drewN | apply Kd.S_drew)); exact HO209.out))) (Kd.R_lt (by (with_reducible repeat (first | apply Kd.R_alloc | apply Kd.R_drewN | apply Kd.R_drew)); exact HO212.out))) (below_size (by repeat (first | (with_reducible first | exact HB.out | apply below_alloc | apply pw_below_drewN | apply below_drew1 | refine below_set ?_ GE201.out | refine below_set ?_ GE202.out | refine below_set ?_ GE213.out) | exact HB.out))))
          have n3_ := Aside0.mk (Kd.R_lower (Kd.R_new' ho1 (Kd.R_lt (by (with_reducible repeat (first | apply Kd.R_alloc | apply Kd.R_drewN | apply Kd.R_drew)); exact HO212.out))) (below_size (by repeat (first | (with_reducible first | exact HB.out | apply below_alloc | apply pw_below_drewN | apply below_drew1 | refine below_set ?_ GE201.out | refine below_set ?_ GE202.out | refine below_set ?_ GE213.out) | exact HB.out))))
          have n4_ := Aside0.mk (blk_below (g := gb201) (o := .cells #[.int .i64 a0_0, .bool a0_1, .slice A0_2 l0_2.length c0_2, .bool a0_3, .bool a0_4] 24 (0, 0)) (by (with_reducible repeat (first | refine blk_drewN ?_ _ | refine blk_drew ?_ | refine blk_alloc ?_ _)); exact BK201.out) hb)
          have n5_ := Aside0.mk (blk_below (g := gb202) (o := .cells #[.string a1_0, .slice A1_1 l1_1.length c1_1, .slice A1_2 l1_2.length c1_2] 27 (0, 0)) (by (with_reducible repeat (first | refine blk_drewN ?_ _ | refine blk_drew ?_ | refine blk_alloc ?_ _)); exact BK202.out) hb)
          have n6_ := Aside0.mk (blk_below (g := gb213) (o := .cells #[.string t206, .slice Ao31 t207.length co31, .slice Ao32 t210.length co32] 27 (0, 0)) (by (with_reducible repeat (first | refine blk_drewN ?_ _ | refine blk_drew ?_ | refine blk_alloc ?_ _)); exact BK213.out) hb)
          have n7_ := Aside0.mk (below_step (by repeat (first | (with_reducible first | exact HB.out | apply below_alloc | apply pw_below_drewN | apply below_drew1 | refine below_set ?_ GE201.out | refine below_set ?_ GE202.out | refine below_set ?_ GE213.out) | exact HB.out)) hb)
          clear HO209
          clear HO212
          clear BK201
          clear BK202
          clear BK213
          clear HB
          have HO209 := n0_
          have HO212 := n1_
          have HO217 := n2_
          have HO220 := n3_
          have BK201 := n4_
          have BK202 := n5_
          have BK213 := n6_
          have HB := n7_
          clear n0_ n1_ n2_ n3_ n4_ n5_ n6_ n7_
          (try clear hb)
          (try clear hb2)
          (try clear hk)
          (try clear hi)
          (try clear ho0)
          (try clear ho1)
          obtain ⟨Ao45, co45, eo45⟩ := Kd.S_slice HO217.out
          (first | subst eo45 | (injection eo45 with f1_ f2_ f3_; have f4_ := f1_.symm; have f5_ := f3_.symm; clear f1_ f2_ f3_; subst f4_; subst f5_))
          obtain ⟨Ao46, co46, eo46⟩ := Kd.R_slice HO220.out
          (first | subst eo46 | (injection eo46 with f1_ f2_ f3_; have f4_ := f1_.symm; have f5_ := f3_.symm; clear f1_ f2_ f3_; subst f4_; subst f5_))
          refine hK.out _ _ ⟨(blk_cell BK201.out 0).trans rfl, (blk_cell BK201.out 1).trans rfl, (blk_cell BK201.out 2).trans rfl, (blk_cell BK201.out 3).trans rfl, (blk_cell BK201.out 4).trans rfl, (blk_cell BK213.out 0).trans rfl, (blk_cell BK213.out 1).trans rfl, (blk_cell BK213.out 2).trans rfl⟩ (fun hHeld => ?_)
          clear hK K
          refine norm_ (a' := ?_) ?_ ?_
          rotate_left
          · show Act.put _ (some 26) _ = _
            simp only [Act.put, zA, zB, zC, i64_w, i32_w]
            rfl
          refine one_ (i := 4) (N := some 28) #[true, true, true, true, true, false, false, false, false, false, false] rfl rfl (one_of HT_.out (by kernel_rfl)) (by decide) (fun K hK => ?_)
          refine goes_ Tryd.func9 (by kernel_rfl) rfl #[.agg #[.string t214, .slice Ao45 t215.length co45, .slice Ao46 t218.length co46], .agg #[.string t206, .slice Ao31 t207.length co31, .slice Ao32 t210.length co32]] (by rfl) rfl rfl (by (try simp only [List.map_toArray, List.map_cons, List.map_nil]); first | done | rfl | (simp only [List.length_drop, List.length_take]; rfl)) ?_
          with_reducible refine (watchbillref20_Same.calls kj4 t214 _ _ t215 _ _ t218 t206 _ _ t207 _ _ t210 false _ ?side1 ?side2 ?side3 ?side4 ?side5 ?side6 ?side7 ?side8 A34.out).mono ?_
          (case side1 => repeat (first | exact (Kd.S_reads' HO217.out).2.2 | (with_reducible refine Kd.C_alloc ?_ _) | (with_reducible refine Kd.C_drewN ?_ _) | (with_reducible refine Kd.C_drew ?_)))
          (case side2 => exact (Kd.S_reads' HO217.out).2.1)
          (case side3 => repeat (first | exact (Kd.R_reads' HO220.out).2.2 | (with_reducible refine Kd.C_alloc ?_ _) | (with_reducible refine Kd.C_drewN ?_ _) | (with_reducible refine Kd.C_drew ?_)))
          (case side4 => exact (Kd.R_reads' HO220.out).2.1)
          (case side5 => repeat (first | exact (Kd.S_reads' HO209.out).2.2 | (with_reducible refine Kd.C_alloc ?_ _) | (with_reducible refine Kd.C_drewN ?_ _) | (with_reducible refine Kd.C_drew ?_)))
          (case side6 => exact (Kd.S_reads' HO209.out).2.1)
          (case side7 => repeat (first | exact (Kd.R_reads' HO212.out).2.2 | (with_reducible refine Kd.C_alloc ?_ _) | (with_reducible refine Kd.C_drewN ?_ _) | (with_reducible refine Kd.C_drew ?_)))
          (case side8 => exact (Kd.R_reads' HO212.out).2.1)
          rintro e w47 ⟨rfl, hb⟩
          refine ⟨_, rfl, ?_⟩
          have n0_ := Aside0.mk (Kd.S_below (by (with_reducible repeat (first | apply Kd.S_alloc | apply Kd.S_drewN | apply Kd.S_drew)); exact HO209.out) hb)
          have n1_ := Aside0.mk (Kd.R_below (by (with_reducible repeat (first | apply Kd.R_alloc | apply Kd.R_drewN | apply Kd.R_drew)); exact HO212.out) hb)
          have n2_ := Aside0.mk (Kd.S_below (by (with_reducible repeat (first | apply Kd.S_alloc | apply Kd.S_drewN | apply Kd.S_drew)); exact HO217.out) hb)
          have n3_ := Aside0.mk (Kd.R_below (by (with_reducible repeat (first | apply Kd.R_alloc | apply Kd.R_drewN | apply Kd.R_drew)); exact HO220.out) hb)
          have n4_ := Aside0.mk (blk_below (g := gb201) (o := .cells #[.int .i64 a0_0, .bool a0_1, .slice A0_2 l0_2.length c0_2, .bool a0_3, .bool a0_4] 24 (0, 0)) (by (with_reducible repeat (first | refine blk_drewN ?_ _ | refine blk_drew ?_ | refine blk_alloc ?_ _)); exact BK201.out) hb)
          have n5_ := Aside0.mk (blk_below (g := gb202) (o := .cells #[.string a1_0, .slice A1_1 l1_1.length c1_1, .slice A1_2 l1_2.length c1_2] 27 (0, 0)) (by (with_reducible repeat (first | refine blk_drewN ?_ _ | refine blk_drew ?_ | refine blk_alloc ?_ _)); exact BK202.out) hb)
          have n6_ := Aside0.mk (blk_below (g := gb213) (o := .cells #[.string t206, .slice Ao31 t207.length co31, .slice Ao32 t210.length co32] 27 (0, 0)) (by (with_reducible repeat (first | refine blk_drewN ?_ _ | refine blk_drew ?_ | refine blk_alloc ?_ _)); exact BK213.out) hb)
          have n7_ := Aside0.mk (below_step (by repeat (first | (with_reducible first | exact HB.out | apply below_alloc | apply pw_below_drewN | apply below_drew1 | refine below_set ?_ GE201.out | refine below_set ?_ GE202.out | refine below_set ?_ GE213.out) | exact HB.out)) hb)
          clear HO209
          clear HO212
          clear HO217
          clear HO220
          clear BK201
          clear BK202
          clear BK213
          clear HB
          have HO209 := n0_
          have HO212 := n1_
          have HO217 := n2_
          have HO220 := n3_
          have BK201 := n4_
          have BK202 := n5_
          have BK213 := n6_
          have HB := n7_
          clear n0_ n1_ n2_ n3_ n4_ n5_ n6_ n7_
          (try clear hb)
          (try clear hb2)
          (try clear hk)
          (try clear hi)
          refine hK.out _ _ ⟨(blk_cell BK201.out 0).trans rfl, (blk_cell BK201.out 1).trans rfl, (blk_cell BK201.out 2).trans rfl, (blk_cell BK201.out 3).trans rfl, (blk_cell BK201.out 4).trans rfl, (blk_cell BK213.out 0).trans rfl, (blk_cell BK213.out 1).trans rfl, (blk_cell BK213.out 2).trans rfl⟩ (fun hHeld => ?_)
          clear hK K
          refine norm_ (a' := ?_) ?_ ?_
          rotate_left
          · show Act.put _ (some 28) _ = _
            simp only [Act.put, zA, zB, zC, i64_w, i32_w]
            rfl
          refine pure_ (i := 5) (N := some 29) (v := ?_) (a' := ?_) #[true, true, true, true, true, true, false, false, false, false, false] rfl rfl (any_of HT_.out (by kernel_rfl)) (fun _ _ _ h => h) (Or.inl ⟨by rfl, ?_⟩) ?_ ?_
          rotate_left
          · intro w'
            go_simp
            with_reducible rfl
          rotate_left
          · simp only [Act.put, zA, zB, zC, i64_w, i32_w]
            rfl
          refine pure_ (i := 6) (N := some 30) (v := ?_) (a' := ?_) #[true, true, true, true, true, true, true, false, false, false, false] rfl rfl (any_of HT_.out (by kernel_rfl)) (fun _ _ _ h => h) (Or.inl ⟨by rfl, ?_⟩) ?_ ?_
          rotate_left
          · intro w'
            go_simp
            with_reducible rfl
          rotate_left
          · simp only [Act.put, zA, zB, zC, i64_w, i32_w]
            rfl
          refine pure_ (i := 7) (N := some 31) (v := ?_) (a' := ?_) #[true, true, true, true, true, true, true, true, false, false, false] rfl rfl (any_of HT_.out (by kernel_rfl)) (fun _ _ _ h => h) (Or.inl ⟨by rfl, ?_⟩) ?_ ?_
          rotate_left
          · intro w'
            go_simp
            with_reducible rfl
          rotate_left
          · simp only [Act.put, zA, zB, zC, i64_w, i32_w]
            rfl
          refine take_ (i := 8) (N := some 32) (v := ?_) (a' := ?_) #[true, true, true, true, true, true, true, true, true, false, false] rfl rfl (take_ofW HT_.out HW_.out (by kernel_rfl)) (fun _ _ _ h => h) (Or.inl ⟨by rfl, ?_⟩) hHeld ?_ ?_
          rotate_left
          · rintro w' ⟨s0, s1, s2, s3, s4, s5, s6, s7⟩
            go_simp
            with_reducible rfl
          rotate_left
          · simp only [Act.put, zA, zB, zC, i64_w, i32_w]
            rfl
          refine pure_ (i := 9) (N := some 33) (v := ?_) (a' := ?_) #[true, true, true, true, true, true, true, true, true, true, false] rfl rfl (any_of HT_.out (by kernel_rfl)) (fun _ _ _ h => h) (Or.inl ⟨by rfl, ?_⟩) ?_ ?_
          rotate_left
          · intro w'
            go_simp
            with_reducible rfl
          rotate_left
          · simp only [Act.put, zA, zB, zC, i64_w, i32_w]
            rfl
          refine pure_ (i := 10) (N := some 34) (v := ?_) (a' := ?_) #[true, true, true, true, true, true, true, true, true, true, true] rfl rfl (any_of HT_.out (by kernel_rfl)) (fun _ _ _ h => h) (Or.inl ⟨by rfl, ?_⟩) ?_ ?_
          rotate_left
          · intro w'
            go_simp
            with_reducible rfl
          rotate_left
          · simp only [Act.put, zA, zB, zC, i64_w, i32_w]
            rfl
          refine done_ (done_of HT_.out (by kernel_rfl)) ?_
          try go_wp2
          go_meet
          case rel => exact ⟨_, ((a0_0 == 3)), (by first | rfl | (simp; done) | (simp [*]; done)), H', ⟨by have := HJ4.out; first | omega | exact Nat.le_refl _⟩, ⟨by (with_reducible repeat (first | apply Kd.S_alloc | apply Kd.S_drewN | apply Kd.S_drew)); exact Kd.S_mono HO209.out (fun _ hk => hk.1.1)⟩, ⟨by (with_reducible repeat (first | apply Kd.R_alloc | apply Kd.R_drewN | apply Kd.R_drew)); exact Kd.R_mono HO212.out (fun _ hk => trivial)⟩, ⟨by (with_reducible repeat (first | refine blk_drewN ?_ _ | refine blk_drew ?_ | refine blk_alloc ?_ _)); exact BK201.out⟩, ⟨by (with_reducible repeat (first | refine blk_drewN ?_ _ | refine blk_drew ?_ | refine blk_alloc ?_ _)); exact BK202.out⟩, ⟨by (with_reducible repeat (first | refine blk_drewN ?_ _ | refine blk_drew ?_ | refine blk_alloc ?_ _)); exact BK213.out⟩, ⟨by repeat (first | (with_reducible first | exact HB.out | apply below_alloc | apply pw_below_drewN | apply below_drew1 | refine below_set ?_ GE201.out | refine below_set ?_ GE202.out | refine below_set ?_ GE213.out) | exact HB.out)⟩⟩
      case rest =>
        clear HC22
        try clear c1
        try clear c2
        try clear p2
        try clear c3
        try clear c4
        try clear c5
        try clear c6
        try clear c9
        try clear c10
        try clear c12
        try clear c17
        try clear c20
        try clear c23
        try clear c28
        try clear c29
        try clear c35
        try clear hcz13_0
        try clear hcz13_1
        try clear hcz13_2
        try clear hcz15_0
        try clear hcz15_1
        try clear hcz15_2
        try clear hcz15_3
        try clear hcz15_4
        try clear hcz18_0
        try clear hcz18_1
        try clear hcz18_2
        try clear hcz24_0
        try clear hcz24_1
        try clear hcz24_2
        try clear hcz24_3
        try clear hcz24_4
        try clear hcz25_0
        try clear hcz25_1
        try clear hcz25_2
        try clear hcz30_0
        try clear hcz30_1
        try clear hcz30_2
        try clear hfz13_0
        try clear hfz13_1
        try clear hfz13_2
        try clear hfz15_0
        try clear hfz15_1
        try clear hfz15_2
        try clear hfz15_3
        try clear hfz15_4
        try clear hfz18_0
        try clear hfz18_1
        try clear hfz18_2
        try clear hfz24_0
        try clear hfz24_1
        try clear hfz24_2
        try clear hfz24_3
        try clear hfz24_4
        try clear hfz25_0
        try clear hfz25_1
        try clear hfz25_2
        try clear hfz30_0
        try clear hfz30_1
        try clear hfz30_2
        try clear p2
        obtain ⟨kq, x34_21, rfl, HA, HJ21, HO_214001, HO_214002, BK201, BK202, BK213, HB⟩ := hcut
        cases kq with
        | zero => exact absurd HA.out (by simp [watchbilllaw23_FilterAgain.j1])
        | succ kj21 =>
          have H := HA.out
          clear HA
          simp only [watchbilllaw23_FilterAgain.j1] at H
          by_cases c48 : x34_21 = true
          · subst c48
            have H1 : (none) = some r := by rw [if_pos rfl] at H; exact H
            clear H
            have H := H1
            clear H1
            exact absurd H (by simp)
          replace c48 := Bool.eq_false_iff.mpr c48
          subst c48
          have H1 : (watchbilllaw23_FilterAgain.l0 kj21 0 a0_0 a0_1 l0_2 a0_3 a0_4 a1_0 l1_1 l1_2 t206 t207 t210) = some r := by rw [if_neg (show ¬ (false = true) by decide)] at H; exact H
          clear H
          have H := H1
          clear H1
          have H' := Aside0.mk H
          clear H
          go_wp2
          go_loopg [6] kj21 (fun kq v6 w' => ∃ (x6_3 : Int), v6 = .int .i64 x6_3 ∧ Aside0 (watchbilllaw23_FilterAgain.l0 kq x6_3 a0_0 a0_1 l0_2 a0_3 a0_4 a1_0 l1_1 l1_2 t206 t207 t210 = some r) ∧ Aside0 (kq ≤ kj21) ∧ Aside0 (Kd.S k38 38 w' w.heap.size (fun k_ => some k_ ≠ ((.slice Ao32 t210.length co32) : Value).ownBlock) (.slice Ao31 t207.length co31) t207) ∧ Aside0 (Kd.R Kd.string 9 w' w.heap.size (fun _ => True) (.slice Ao32 t210.length co32) t210) ∧ Aside0 (w'.heap[gb201]? = some (.cells #[.int .i64 a0_0, .bool a0_1, (.slice A0_2 l0_2.length c0_2), .bool a0_3, .bool a0_4] 24 (0, 0))) ∧ Aside0 (w'.heap[gb202]? = some (.cells #[.string a1_0, (.slice A1_1 l1_1.length c1_1), (.slice A1_2 l1_2.length c1_2)] 27 (0, 0))) ∧ Aside0 (w'.heap[gb213]? = some (.cells #[.string t206, (.slice Ao31 t207.length co31), (.slice Ao32 t210.length co32)] 27 (0, 0))) ∧ Aside0 (Below w.heap.size w w'))
          case atStart => exact ⟨(0), (by first | rfl | (simp; done) | (simp [*]; done)), H', ⟨Nat.le_refl _⟩, ⟨by (with_reducible repeat (first | apply Kd.S_alloc | apply Kd.S_drewN | apply Kd.S_drew)); exact HO_214001.out⟩, ⟨by (with_reducible repeat (first | apply Kd.R_alloc | apply Kd.R_drewN | apply Kd.R_drew)); exact HO_214002.out⟩, ⟨by (with_reducible repeat (first | refine blk_drewN ?_ _ | refine blk_drew ?_ | refine blk_alloc ?_ _)); exact BK201.out⟩, ⟨by (with_reducible repeat (first | refine blk_drewN ?_ _ | refine blk_drew ?_ | refine blk_alloc ?_ _)); exact BK202.out⟩, ⟨by (with_reducible repeat (first | refine blk_drewN ?_ _ | refine blk_drew ?_ | refine blk_alloc ?_ _)); exact BK213.out⟩, ⟨by repeat (first | (with_reducible first | exact HB.out | apply below_alloc | apply pw_below_drewN | apply below_drew1 | refine below_set ?_ GE201.out | refine below_set ?_ GE202.out | refine below_set ?_ GE213.out) | exact HB.out)⟩⟩
          case round =>
            clear H'
            try clear c1
            try clear c2
            try clear p2
            try clear c3
            try clear c4
            try clear c5
            try clear c6
            try clear c9
            try clear c10
            try clear c12
            try clear c17
            try clear c20
            try clear c23
            try clear c28
            try clear c29
            try clear c35
            try clear c48
            try clear hcz13_0
            try clear hcz13_1
            try clear hcz13_2
            try clear hcz15_0
            try clear hcz15_1
            try clear hcz15_2
            try clear hcz15_3
            try clear hcz15_4
            try clear hcz18_0
            try clear hcz18_1
            try clear hcz18_2
            try clear hcz24_0
            try clear hcz24_1
            try clear hcz24_2
            try clear hcz24_3
            try clear hcz24_4
            try clear hcz25_0
            try clear hcz25_1
            try clear hcz25_2
            try clear hcz30_0
            try clear hcz30_1
            try clear hcz30_2
            try clear hfz13_0
            try clear hfz13_1
            try clear hfz13_2
            try clear hfz15_0
            try clear hfz15_1
            try clear hfz15_2
            try clear hfz15_3
            try clear hfz15_4
            try clear hfz18_0
            try clear hfz18_1
            try clear hfz18_2
            try clear hfz24_0
            try clear hfz24_1
            try clear hfz24_2
            try clear hfz24_3
            try clear hfz24_4
            try clear hfz25_0
            try clear hfz25_1
            try clear hfz25_2
            try clear hfz30_0
            try clear hfz30_1
            try clear hfz30_2
            try clear p2
            obtain ⟨x6_3, rfl, HA, HK3, HO_214001, HO_214002, BK201, BK202, BK213, HB⟩ := hrel
            cases gk with
            | zero => exact absurd HA.out (by simp [watchbilllaw23_FilterAgain.l0])
            | succ k3 =>
              have H := HA.out
              clear HA
              simp only [watchbilllaw23_FilterAgain.l0] at H
              by_cases c49 : x6_3 < (t207.length : Int)
              · rw [if_pos c49] at H
                have c49b0 : decide (x6_3 < (t207.length : Int)) = true := decide_eq_true c49
                clear c49
                by_cases c50 : 0 ≤ x6_3
                rotate_left 1
                · rw [if_neg c50] at H
                  exact absurd H (by simp)
                rw [if_pos c50] at H
                have c50b0 : decide (0 ≤ x6_3) = true := decide_eq_true c50
                clear c50
                have HC51 := Aside0.mk H
                clear H
                have hnb52 := NB213_201.out
                have hnc52 := NB201_213.out
                have hnb53 := NB213_202.out
                have hnc53 := NB202_213.out
                have hcz54_0 : wr.cell? ⟨gb213, 0, none⟩ = some (.string t206) := (blk_cell BK213.out 0).trans rfl
                have hcz54_1 : wr.cell? ⟨gb213, 1, none⟩ = some (.slice Ao31 t207.length co31) := (blk_cell BK213.out 1).trans rfl
                have hcz54_2 : wr.cell? ⟨gb213, 2, none⟩ = some (.slice Ao32 t210.length co32) := (blk_cell BK213.out 2).trans rfl
                have hfz54_0 := blk_frozen BK213.out 0
                have hfz54_1 := blk_frozen BK213.out 1
                have hfz54_2 := blk_frozen BK213.out 2
                have p231 : 0 ≤ (x6_3 : Int) := of_decide_eq_true (by first | (with_reducible assumption) | assumption)
                have q231 : x6_3 < (t207.length : Int) := of_decide_eq_true (by first | (with_reducible assumption) | assumption)
                obtain ⟨ad231, A231_5, c231_5, e231, hx231_0, hx231_1, hx231_2, hx231_3, hx231_4, hx231_5, hx231_6, hl231_5, hi231_5⟩ := at_T38 (Kd.S_reads' HO_214001.out).2.2 x6_3 p231 q231
                cases e231
                obtain ⟨ce231, hce231, hMe231, hcc231⟩ := Kd.S_get HO_214001.out z38 x6_3 p231 (by first | exact q231 | exact of_decide_eq_true (by first | (with_reducible assumption) | assumption) | (have e_ := (Kd.S_reads' HO_214001.out).1; omega))
                obtain ⟨ve231_5, rfl, ge231_5⟩ := k38_openM hMe231
                have hv231_5 := hcc231 5 _ rfl
                rw [add_field _ _ 5 (by omega)] at hv231_5
                replace hv231_5 := Option.some.inj (hv231_5.symm.trans hx231_5)
                rw [hv231_5] at ge231_5
                have HL231_5 := Aside0.mk (show Kd.R Kd.string 9 _ _ _ _ ((rd_T38 t207 x6_3).f5) from ge231_5)
                clear hv231_5 ge231_5
                clear hcc231 hce231
                have HR231_5 := Aside0.mk hi231_5
                have HC231_5 := Aside0.mk hl231_5
                clear hi231_5 hl231_5
                replace p231 := eq_true p231
                replace q231 := eq_true q231
                go_upto_region 12 with (first | ((with_reducible refine gate_dst (N := 7) rfl ?_); (try (refine gate_guard (by rfl) ?_; dsimp only)); refine box_event ?hg (N := 7) ?hd (cs := #[.string (⟨#[]⟩ : ByteArray), .string (⟨#[]⟩ : ByteArray), .string (⟨#[]⟩ : ByteArray), .string (⟨#[]⟩ : ByteArray), .int .i64 0, .slice none 0 0, .int .u64 0]) (t := 38) ?hr ?_; (case hd => rfl); (case hg => rfl); (case hr => first | (go_simp; done) | (go_simp; rfl)); intro gb232 hg w55 hbox hb; have n0_ := Aside0.mk (Kd.S_below (Kd.S_elderB (by (with_reducible repeat (first | apply Kd.S_alloc | apply Kd.S_drewN | apply Kd.S_drew)); exact HO_214001.out) gb232 (Nat.le_of_eq hg.symm)) hb); have n1_ := Aside0.mk (Kd.R_below (by (with_reducible repeat (first | apply Kd.R_alloc | apply Kd.R_drewN | apply Kd.R_drew)); exact HO_214002.out) hb); have n2_ := Aside0.mk (Kd.R_below (by (with_reducible repeat (first | apply Kd.R_alloc | apply Kd.R_drewN | apply Kd.R_drew)); exact HL231_5.out) hb); have n3_ := Aside0.mk (blk_below (g := gb201) (o := .cells #[.int .i64 a0_0, .bool a0_1, .slice A0_2 l0_2.length c0_2, .bool a0_3, .bool a0_4] 24 (0, 0)) (by (with_reducible repeat (first | refine blk_drewN ?_ _ | refine blk_drew ?_ | refine blk_alloc ?_ _)); exact BK201.out) hb); have n4_ := Aside0.mk (blk_below (g := gb202) (o := .cells #[.string a1_0, .slice A1_1 l1_1.length c1_1, .slice A1_2 l1_2.length c1_2] 27 (0, 0)) (by (with_reducible repeat (first | refine blk_drewN ?_ _ | refine blk_drew ?_ | refine blk_alloc ?_ _)); exact BK202.out) hb); have n5_ := Aside0.mk (blk_below (g := gb213) (o := .cells #[.string t206, .slice (some ad231) t207.length co31, .slice Ao32 t210.length co32] 27 (0, 0)) (by (with_reducible repeat (first | refine blk_drewN ?_ _ | refine blk_drew ?_ | refine blk_alloc ?_ _)); exact BK213.out) hb); have n6_ := Aside0.mk (Kd.C_below (by repeat (first | (with_reducible exact HR231_5.out) | (with_reducible refine Kd.C_alloc ?_ _) | (with_reducible refine Kd.C_drewN ?_ _) | (with_reducible refine Kd.C_drew ?_) | exact HR231_5.out)) hb); have n7_ := Aside0.mk (below_step (by repeat (first | (with_reducible first | exact HB.out | apply below_alloc | apply pw_below_drewN | apply below_drew1 | refine below_set ?_ GE201.out | refine below_set ?_ GE202.out | refine below_set ?_ GE213.out) | exact HB.out)) hb); have n8_ := Aside0.mk (hbox); have n9_ := Aside0.mk ((by rw [hg]; exact (below_size (by repeat (first | (with_reducible first | exact HB.out | apply below_alloc | apply pw_below_drewN | apply below_drew1 | refine below_set ?_ GE201.out | refine below_set ?_ GE202.out | refine below_set ?_ GE213.out) | exact HB.out))) : w.heap.size ≤ gb232)); have n10_ := Aside0.mk ((by rw [hg]; exact (below_size (by repeat (first | (with_reducible first | exact HB.out | apply below_alloc | apply pw_below_drewN | apply below_drew1 | refine below_set ?_ GE201.out | refine below_set ?_ GE202.out | refine below_set ?_ GE213.out) | exact HB.out))) : w.heap.size ≤ gb232)); have n11_ := Aside0.mk ((by rw [hg]; exact Nat.ne_of_lt (blk_lt (g := gb201) (o := .cells #[.int .i64 a0_0, .bool a0_1, .slice A0_2 l0_2.length c0_2, .bool a0_3, .bool a0_4] 24 (0, 0)) (by (with_reducible repeat (first | refine blk_drewN ?_ _ | refine blk_drew ?_ | refine blk_alloc ?_ _)); exact BK201.out)) : gb201 ≠ gb232)); have n12_ := Aside0.mk ((by rw [hg]; exact Nat.ne_of_gt (blk_lt (g := gb201) (o := .cells #[.int .i64 a0_0, .bool a0_1, .slice A0_2 l0_2.length c0_2, .bool a0_3, .bool a0_4] 24 (0, 0)) (by (with_reducible repeat (first | refine blk_drewN ?_ _ | refine blk_drew ?_ | refine blk_alloc ?_ _)); exact BK201.out)) : gb232 ≠ gb201)); have n13_ := Aside0.mk ((by rw [hg]; exact Nat.ne_of_lt (blk_lt (g := gb202) (o := .cells #[.string a1_0, .slice A1_1 l1_1.length c1_1, .slice A1_2 l1_2.length c1_2] 27 (0, 0)) (by (with_reducible repeat (first | refine blk_drewN ?_ _ | refine blk_drew ?_ | refine blk_alloc ?_ _)); exact BK202.out)) : gb202 ≠ gb232)); have n14_ := Aside0.mk ((by rw [hg]; exact Nat.ne_of_gt (blk_lt (g := gb202) (o := .cells #[.string a1_0, .slice A1_1 l1_1.length c1_1, .slice A1_2 l1_2.length c1_2] 27 (0, 0)) (by (with_reducible repeat (first | refine blk_drewN ?_ _ | refine blk_drew ?_ | refine blk_alloc ?_ _)); exact BK202.out)) : gb232 ≠ gb202)); have n15_ := Aside0.mk ((by rw [hg]; exact Nat.ne_of_lt (blk_lt (g := gb213) (o := .cells #[.string t206, .slice (some ad231) t207.length co31, .slice Ao32 t210.length co32] 27 (0, 0)) (by (with_reducible repeat (first | refine blk_drewN ?_ _ | refine blk_drew ?_ | refine blk_alloc ?_ _)); exact BK213.out)) : gb213 ≠ gb232)); have n16_ := Aside0.mk ((by rw [hg]; exact Nat.ne_of_gt (blk_lt (g := gb213) (o := .cells #[.string t206, .slice (some ad231) t207.length co31, .slice Ao32 t210.length co32] 27 (0, 0)) (by (with_reducible repeat (first | refine blk_drewN ?_ _ | refine blk_drew ?_ | refine blk_alloc ?_ _)); exact BK213.out)) : gb232 ≠ gb213)); clear HO_214001; clear HO_214002; clear HL231_5; clear BK201; clear BK202; clear BK213; clear HR231_5; clear HB; have HO_214001 := n0_; have HO_214002 := n1_; have HL231_5 := n2_; have BK201 := n3_; have BK202 := n4_; have BK213 := n5_; have HR231_5 := n6_; have HB := n7_; have BK232 := n8_; have GW232 := n9_; have GE232 := n10_; have NB201_232 := n11_; have NB232_201 := n12_; have NB202_232 := n13_; have NB232_202 := n14_; have NB213_232 := n15_; have NB232_213 := n16_; clear n0_ n1_ n2_ n3_ n4_ n5_ n6_ n7_ n8_ n9_ n10_ n11_ n12_ n13_ n14_ n15_ n16_; clear hb hbox hg; have hnb56 := NB232_201.out; have hnc56 := NB201_232.out; have hnb57 := NB232_202.out; have hnc57 := NB202_232.out; have hnb58 := NB232_213.out; have hnc58 := NB213_232.out; have hcz59_0 : w55.cell? ⟨gb232, 0, none⟩ = some (.string (⟨#[]⟩ : ByteArray)) := (blk_cell BK232.out 0).trans rfl; have hcz59_1 : w55.cell? ⟨gb232, 1, none⟩ = some (.string (⟨#[]⟩ : ByteArray)) := (blk_cell BK232.out 1).trans rfl; have hcz59_2 : w55.cell? ⟨gb232, 2, none⟩ = some (.string (⟨#[]⟩ : ByteArray)) := (blk_cell BK232.out 2).trans rfl; have hcz59_3 : w55.cell? ⟨gb232, 3, none⟩ = some (.string (⟨#[]⟩ : ByteArray)) := (blk_cell BK232.out 3).trans rfl; have hcz59_4 : w55.cell? ⟨gb232, 4, none⟩ = some (.int .i64 0) := (blk_cell BK232.out 4).trans rfl; have hcz59_5 : w55.cell? ⟨gb232, 5, none⟩ = some (.slice none 0 0) := (blk_cell BK232.out 5).trans rfl; have hcz59_6 : w55.cell? ⟨gb232, 6, none⟩ = some (.int .u64 0) := (blk_cell BK232.out 6).trans rfl; have hfz59_0 := blk_frozen BK232.out 0; have hfz59_1 := blk_frozen BK232.out 1; have hfz59_2 := blk_frozen BK232.out 2; have hfz59_3 := blk_frozen BK232.out 3; have hfz59_4 := blk_frozen BK232.out 4; have hfz59_5 := blk_frozen BK232.out 5; have hfz59_6 := blk_frozen BK232.out 6))
                (try simp only [Act.put, zA, zB, zC])
                go_cut [70] (fun v70 wc => ∃ (kq : Nat) (x70_50 : Bool), v70 = .bool x70_50 ∧ Aside0 (watchbilllaw23_FilterAgain.j3 kq x6_3 x70_50 a0_0 a0_1 l0_2 a0_3 a0_4 a1_0 l1_1 l1_2 t206 t207 t210 ((rd_T38 t207 x6_3).f0) ((rd_T38 t207 x6_3).f1) ((rd_T38 t207 x6_3).f2) ((rd_T38 t207 x6_3).f3) ((rd_T38 t207 x6_3).f4) ((rd_T38 t207 x6_3).f6) = some r) ∧ Aside0 (kq ≤ k3) ∧ Aside0 (Kd.S k38 38 wc w.heap.size (fun k_ => some k_ ≠ ((.slice Ao32 t210.length co32) : Value).ownBlock ∧ k_ ≠ gb232) (.slice (some ad231) t207.length co31) t207) ∧ Aside0 (Kd.R Kd.string 9 wc w.heap.size (fun _ => True) (.slice Ao32 t210.length co32) t210) ∧ Aside0 (wc.heap[gb201]? = some (.cells #[.int .i64 a0_0, .bool a0_1, (.slice A0_2 l0_2.length c0_2), .bool a0_3, .bool a0_4] 24 (0, 0))) ∧ Aside0 (wc.heap[gb202]? = some (.cells #[.string a1_0, (.slice A1_1 l1_1.length c1_1), (.slice A1_2 l1_2.length c1_2)] 27 (0, 0))) ∧ Aside0 (wc.heap[gb213]? = some (.cells #[.string t206, (.slice (some ad231) t207.length co31), (.slice Ao32 t210.length co32)] 27 (0, 0))) ∧ Aside0 (wc.heap[gb232]? = some (.cells #[.string ((rd_T38 t207 x6_3).f0), .string ((rd_T38 t207 x6_3).f1), .string ((rd_T38 t207 x6_3).f2), .string ((rd_T38 t207 x6_3).f3), .int .i64 ((rd_T38 t207 x6_3).f4), (.slice A231_5 ((rd_T38 t207 x6_3).f5).length c231_5), .int .u64 ((rd_T38 t207 x6_3).f6)] 38 (0, 0))) ∧ Aside0 (Kd.C Kd.string wc A231_5 ((rd_T38 t207 x6_3).f5).length ((rd_T38 t207 x6_3).f5)) ∧ Aside0 (Below w.heap.size w wc))
                case first =>
                  have H := HC51.out
                  clear HC51
                  by_cases c60 : a0_3 = true
                  · subst c60
                    have H1 : (if a0_4 = true then (watchbilllaw23_FilterAgain.j3 k3 x6_3 false a0_0 a0_1 l0_2 true a0_4 a1_0 l1_1 l1_2 t206 t207 t210 ((rd_T38 t207 x6_3).f0) ((rd_T38 t207 x6_3).f1) ((rd_T38 t207 x6_3).f2) ((rd_T38 t207 x6_3).f3) ((rd_T38 t207 x6_3).f4) ((rd_T38 t207 x6_3).f6)) else (if ((rd_T38 t207 x6_3).f2).toList = ([] : List UInt8) then (watchbilllaw23_FilterAgain.j3 k3 x6_3 (((rd_T38 t207 x6_3).f4) != 0) a0_0 a0_1 l0_2 true a0_4 a1_0 l1_1 l1_2 t206 t207 t210 ((rd_T38 t207 x6_3).f0) ((rd_T38 t207 x6_3).f1) ((rd_T38 t207 x6_3).f2) ((rd_T38 t207 x6_3).f3) ((rd_T38 t207 x6_3).f4) ((rd_T38 t207 x6_3).f6)) else (watchbilllaw23_FilterAgain.j3 k3 x6_3 true a0_0 a0_1 l0_2 true a0_4 a1_0 l1_1 l1_2 t206 t207 t210 ((rd_T38 t207 x6_3).f0) ((rd_T38 t207 x6_3).f1) ((rd_T38 t207 x6_3).f2) ((rd_T38 t207 x6_3).f3) ((rd_T38 t207 x6_3).f4) ((rd_T38 t207 x6_3).f6)))) = some r := by rw [if_pos rfl] at H; exact H
                    clear H
                    have H := H1
                    clear H1
                    by_cases c61 : a0_4 = true
                    · subst c61
                      have H1 : (watchbilllaw23_FilterAgain.j3 k3 x6_3 false a0_0 a0_1 l0_2 true true a1_0 l1_1 l1_2 t206 t207 t210 ((rd_T38 t207 x6_3).f0) ((rd_T38 t207 x6_3).f1) ((rd_T38 t207 x6_3).f2) ((rd_T38 t207 x6_3).f3) ((rd_T38 t207 x6_3).f4) ((rd_T38 t207 x6_3).f6)) = some r := by rw [if_pos rfl] at H; exact H
                      clear H
                      have H := H1
                      clear H1
                      have H' := Aside0.mk H
                      clear H
                      have hnb62 := NB201_202.out
                      have hnc62 := NB202_201.out
                      have hnb63 := NB201_213.out
                      have hnc63 := NB213_201.out
                      have hnb64 := NB201_232.out
                      have hnc64 := NB232_201.out
                      have hcz65_0 : w55.cell? ⟨gb201, 0, none⟩ = some (.int .i64 a0_0) := (blk_cell BK201.out 0).trans rfl
                      have hcz65_1 : w55.cell? ⟨gb201, 1, none⟩ = some (.bool a0_1) := (blk_cell BK201.out 1).trans rfl
                      have hcz65_2 : w55.cell? ⟨gb201, 2, none⟩ = some (.slice A0_2 l0_2.length c0_2) := (blk_cell BK201.out 2).trans rfl
                      have hcz65_3 : w55.cell? ⟨gb201, 3, none⟩ = some (.bool true) := (blk_cell BK201.out 3).trans rfl
                      have hcz65_4 : w55.cell? ⟨gb201, 4, none⟩ = some (.bool true) := (blk_cell BK201.out 4).trans rfl
                      have hfz65_0 := blk_frozen BK201.out 0
                      have hfz65_1 := blk_frozen BK201.out 1
                      have hfz65_2 := blk_frozen BK201.out 2
                      have hfz65_3 := blk_frozen BK201.out 3
                      have hfz65_4 := blk_frozen BK201.out 4
                      go_wp2
                      go_meet
                      case rel => exact ⟨_, (false), (by first | rfl | (simp; done) | (simp [*]; done)), H', ⟨by have := HJ4.out; have := HJ21.out; have := HK3.out; first | omega | exact Nat.le_refl _⟩, ⟨by (with_reducible repeat (first | apply Kd.S_alloc | apply Kd.S_drewN | apply Kd.S_drew)); exact Kd.S_mono (Kd.S_far (p := ⟨gb232, 6, none⟩) (Kd.S_far (p := ⟨gb232, 5, none⟩) (Kd.S_far (p := ⟨gb232, 4, none⟩) (Kd.S_far (p := ⟨gb232, 3, none⟩) (Kd.S_far (p := ⟨gb232, 2, none⟩) (Kd.S_far (p := ⟨gb232, 1, none⟩) (Kd.S_far (p := ⟨gb232, 0, none⟩) (Kd.S_mono HO_214001.out (fun k_ hk => (⟨hk, hk.2⟩ : _ ∧ k_ ≠ gb232))) (fun _ hk => hk.2) (.string ((rd_T38 t207 x6_3).f0))) (fun _ hk => hk.2) (.string ((rd_T38 t207 x6_3).f1))) (fun _ hk => hk.2) (.string ((rd_T38 t207 x6_3).f2))) (fun _ hk => hk.2) (.string ((rd_T38 t207 x6_3).f3))) (fun _ hk => hk.2) (.int .i64 ((rd_T38 t207 x6_3).f4))) (fun _ hk => hk.2) (.slice A231_5 ((rd_T38 t207 x6_3).f5).length c231_5)) (fun _ hk => hk.2) (.int .u64 ((rd_T38 t207 x6_3).f6))) (fun _ hk => ⟨hk.1.1, hk.1.2⟩)⟩, ⟨by (with_reducible repeat (first | apply Kd.R_alloc | apply Kd.R_drewN | apply Kd.R_drew)); exact Kd.R_mono (Kd.R_far (p := ⟨gb232, 6, none⟩) (Kd.R_far (p := ⟨gb232, 5, none⟩) (Kd.R_far (p := ⟨gb232, 4, none⟩) (Kd.R_far (p := ⟨gb232, 3, none⟩) (Kd.R_far (p := ⟨gb232, 2, none⟩) (Kd.R_far (p := ⟨gb232, 1, none⟩) (Kd.R_far (p := ⟨gb232, 0, none⟩) (Kd.R_types HO_214002.out BK232.out (by decide)) (fun _ hk => hk.2) (.string ((rd_T38 t207 x6_3).f0))) (fun _ hk => hk.2) (.string ((rd_T38 t207 x6_3).f1))) (fun _ hk => hk.2) (.string ((rd_T38 t207 x6_3).f2))) (fun _ hk => hk.2) (.string ((rd_T38 t207 x6_3).f3))) (fun _ hk => hk.2) (.int .i64 ((rd_T38 t207 x6_3).f4))) (fun _ hk => hk.2) (.slice A231_5 ((rd_T38 t207 x6_3).f5).length c231_5)) (fun _ hk => hk.2) (.int .u64 ((rd_T38 t207 x6_3).f6))) (fun _ hk => trivial)⟩, ⟨by (repeat (first | (with_reducible first | refine blk_drewN ?_ _ | refine blk_drew ?_ | refine blk_alloc ?_ _) | refine blk_far ?_ NB201_232.out _)); exact BK201.out⟩, ⟨by (repeat (first | (with_reducible first | refine blk_drewN ?_ _ | refine blk_drew ?_ | refine blk_alloc ?_ _) | refine blk_far ?_ NB202_232.out _)); exact BK202.out⟩, ⟨by (repeat (first | (with_reducible first | refine blk_drewN ?_ _ | refine blk_drew ?_ | refine blk_alloc ?_ _) | refine blk_far ?_ NB213_232.out _)); exact BK213.out⟩, ⟨by (with_reducible repeat (first | refine blk_drewN ?_ _ | refine blk_drew ?_ | refine blk_alloc ?_ _)); refine blk_put (cs := #[.string ((rd_T38 t207 x6_3).f0), .string ((rd_T38 t207 x6_3).f1), .string ((rd_T38 t207 x6_3).f2), .string ((rd_T38 t207 x6_3).f3), .int .i64 ((rd_T38 t207 x6_3).f4), .slice A231_5 ((rd_T38 t207 x6_3).f5).length c231_5, .int .u64 0]) ?_ 6 _ rfl; (with_reducible repeat (first | refine blk_drewN ?_ _ | refine blk_drew ?_ | refine blk_alloc ?_ _)); refine blk_put (cs := #[.string ((rd_T38 t207 x6_3).f0), .string ((rd_T38 t207 x6_3).f1), .string ((rd_T38 t207 x6_3).f2), .string ((rd_T38 t207 x6_3).f3), .int .i64 ((rd_T38 t207 x6_3).f4), .slice none 0 0, .int .u64 0]) ?_ 5 _ rfl; (with_reducible repeat (first | refine blk_drewN ?_ _ | refine blk_drew ?_ | refine blk_alloc ?_ _)); refine blk_put (cs := #[.string ((rd_T38 t207 x6_3).f0), .string ((rd_T38 t207 x6_3).f1), .string ((rd_T38 t207 x6_3).f2), .string ((rd_T38 t207 x6_3).f3), .int .i64 0, .slice none 0 0, .int .u64 0]) ?_ 4 _ rfl; (with_reducible repeat (first | refine blk_drewN ?_ _ | refine blk_drew ?_ | refine blk_alloc ?_ _)); refine blk_put (cs := #[.string ((rd_T38 t207 x6_3).f0), .string ((rd_T38 t207 x6_3).f1), .string ((rd_T38 t207 x6_3).f2), .string (⟨#[]⟩ : ByteArray), .int .i64 0, .slice none 0 0, .int .u64 0]) ?_ 3 _ rfl; (with_reducible repeat (first | refine blk_drewN ?_ _ | refine blk_drew ?_ | refine blk_alloc ?_ _)); refine blk_put (cs := #[.string ((rd_T38 t207 x6_3).f0), .string ((rd_T38 t207 x6_3).f1), .string (⟨#[]⟩ : ByteArray), .string (⟨#[]⟩ : ByteArray), .int .i64 0, .slice none 0 0, .int .u64 0]) ?_ 2 _ rfl; (with_reducible repeat (first | refine blk_drewN ?_ _ | refine blk_drew ?_ | refine blk_alloc ?_ _)); refine blk_put (cs := #[.string ((rd_T38 t207 x6_3).f0), .string (⟨#[]⟩ : ByteArray), .string (⟨#[]⟩ : ByteArray), .string (⟨#[]⟩ : ByteArray), .int .i64 0, .slice none 0 0, .int .u64 0]) ?_ 1 _ rfl; (with_reducible repeat (first | refine blk_drewN ?_ _ | refine blk_drew ?_ | refine blk_alloc ?_ _)); refine blk_put (cs := #[.string (⟨#[]⟩ : ByteArray), .string (⟨#[]⟩ : ByteArray), .string (⟨#[]⟩ : ByteArray), .string (⟨#[]⟩ : ByteArray), .int .i64 0, .slice none 0 0, .int .u64 0]) ?_ 0 _ rfl; (with_reducible repeat (first | refine blk_drewN ?_ _ | refine blk_drew ?_ | refine blk_alloc ?_ _)); exact BK232.out⟩, ⟨(Kd.R_reads' (by (with_reducible repeat (first | apply Kd.R_alloc | apply Kd.R_drewN | apply Kd.R_drew)); exact (Kd.R_mono (Kd.R_far (p := ⟨gb232, 6, none⟩) (Kd.R_far (p := ⟨gb232, 5, none⟩) (Kd.R_far (p := ⟨gb232, 4, none⟩) (Kd.R_far (p := ⟨gb232, 3, none⟩) (Kd.R_far (p := ⟨gb232, 2, none⟩) (Kd.R_far (p := ⟨gb232, 1, none⟩) (Kd.R_far (p := ⟨gb232, 0, none⟩) (Kd.R_types HL231_5.out BK232.out (by decide)) (fun _ hk => hk.2) (.string ((rd_T38 t207 x6_3).f0))) (fun _ hk => hk.2) (.string ((rd_T38 t207 x6_3).f1))) (fun _ hk => hk.2) (.string ((rd_T38 t207 x6_3).f2))) (fun _ hk => hk.2) (.string ((rd_T38 t207 x6_3).f3))) (fun _ hk => hk.2) (.int .i64 ((rd_T38 t207 x6_3).f4))) (fun _ hk => hk.2) (.slice A231_5 ((rd_T38 t207 x6_3).f5).length c231_5)) (fun _ hk => hk.2) (.int .u64 ((rd_T38 t207 x6_3).f6))) (fun _ h_ => h_.1)))).2.2⟩, ⟨by repeat (first | (with_reducible first | exact HB.out | apply below_alloc | apply pw_below_drewN | apply below_drew1 | refine below_set ?_ GE201.out | refine below_set ?_ GE202.out | refine below_set ?_ GE213.out | refine below_set ?_ GE232.out) | exact HB.out)⟩⟩
                    · replace c61 := Bool.eq_false_iff.mpr c61
                      subst c61
                      have H1 : (if ((rd_T38 t207 x6_3).f2).toList = ([] : List UInt8) then (watchbilllaw23_FilterAgain.j3 k3 x6_3 (((rd_T38 t207 x6_3).f4) != 0) a0_0 a0_1 l0_2 true false a1_0 l1_1 l1_2 t206 t207 t210 ((rd_T38 t207 x6_3).f0) ((rd_T38 t207 x6_3).f1) ((rd_T38 t207 x6_3).f2) ((rd_T38 t207 x6_3).f3) ((rd_T38 t207 x6_3).f4) ((rd_T38 t207 x6_3).f6)) else (watchbilllaw23_FilterAgain.j3 k3 x6_3 true a0_0 a0_1 l0_2 true false a1_0 l1_1 l1_2 t206 t207 t210 ((rd_T38 t207 x6_3).f0) ((rd_T38 t207 x6_3).f1) ((rd_T38 t207 x6_3).f2) ((rd_T38 t207 x6_3).f3) ((rd_T38 t207 x6_3).f4) ((rd_T38 t207 x6_3).f6))) = some r := by rw [if_neg (show ¬ (false = true) by decide)] at H; exact H
                      clear H
                      have H := H1
                      clear H1
                      by_cases c66 : ((rd_T38 t207 x6_3).f2).toList = ([] : List UInt8)
                      · rw [if_pos c66] at H
                        have c66b0 : (((rd_T38 t207 x6_3).f2).toList == ([] : List UInt8)) = true := beq_iff_eq.mpr c66
                        have c66b1 : (((rd_T38 t207 x6_3).f2).toList != ([] : List UInt8)) = false := bne_eq_false_iff_eq.mpr c66
                        clear c66
                        (first | rw [c66b0] | (simp only [i64_w, i32_w]; rw [c66b0]) | skip)
                        have H' := Aside0.mk H
                        clear H
                        have hnb67 := NB201_202.out
                        have hnc67 := NB202_201.out
                        have hnb68 := NB201_213.out
                        have hnc68 := NB213_201.out
                        have hnb69 := NB201_232.out
                        have hnc69 := NB232_201.out
                        have hcz70_0 : w55.cell? ⟨gb201, 0, none⟩ = some (.int .i64 a0_0) := (blk_cell BK201.out 0).trans rfl
                        have hcz70_1 : w55.cell? ⟨gb201, 1, none⟩ = some (.bool a0_1) := (blk_cell BK201.out 1).trans rfl
                        have hcz70_2 : w55.cell? ⟨gb201, 2, none⟩ = some (.slice A0_2 l0_2.length c0_2) := (blk_cell BK201.out 2).trans rfl
                        have hcz70_3 : w55.cell? ⟨gb201, 3, none⟩ = some (.bool true) := (blk_cell BK201.out 3).trans rfl
                        have hcz70_4 : w55.cell? ⟨gb201, 4, none⟩ = some (.bool false) := (blk_cell BK201.out 4).trans rfl
                        have hfz70_0 := blk_frozen BK201.out 0
                        have hfz70_1 := blk_frozen BK201.out 1
                        have hfz70_2 := blk_frozen BK201.out 2
                        have hfz70_3 := blk_frozen BK201.out 3
                        have hfz70_4 := blk_frozen BK201.out 4
                        have hnb71 := NB232_202.out
                        have hnc71 := NB202_232.out
                        have hnb72 := NB232_213.out
                        have hnc72 := NB213_232.out
                        have hcz73_0 : w55.cell? ⟨gb232, 0, none⟩ = some (.string (⟨#[]⟩ : ByteArray)) := (blk_cell BK232.out 0).trans rfl
                        have hcz73_1 : w55.cell? ⟨gb232, 1, none⟩ = some (.string (⟨#[]⟩ : ByteArray)) := (blk_cell BK232.out 1).trans rfl
                        have hcz73_2 : w55.cell? ⟨gb232, 2, none⟩ = some (.string (⟨#[]⟩ : ByteArray)) := (blk_cell BK232.out 2).trans rfl
                        have hcz73_3 : w55.cell? ⟨gb232, 3, none⟩ = some (.string (⟨#[]⟩ : ByteArray)) := (blk_cell BK232.out 3).trans rfl
                        have hcz73_4 : w55.cell? ⟨gb232, 4, none⟩ = some (.int .i64 0) := (blk_cell BK232.out 4).trans rfl
                        have hcz73_5 : w55.cell? ⟨gb232, 5, none⟩ = some (.slice none 0 0) := (blk_cell BK232.out 5).trans rfl
                        have hcz73_6 : w55.cell? ⟨gb232, 6, none⟩ = some (.int .u64 0) := (blk_cell BK232.out 6).trans rfl
                        have hfz73_0 := blk_frozen BK232.out 0
                        have hfz73_1 := blk_frozen BK232.out 1
                        have hfz73_2 := blk_frozen BK232.out 2
                        have hfz73_3 := blk_frozen BK232.out 3
                        have hfz73_4 := blk_frozen BK232.out 4
                        have hfz73_5 := blk_frozen BK232.out 5
                        have hfz73_6 := blk_frozen BK232.out 6
                        go_wp2
                        go_meet
                        case rel => exact ⟨_, ((((rd_T38 t207 x6_3).f4) != 0)), (by first | rfl | (simp; done) | (simp [*]; done)), H', ⟨by have := HJ4.out; have := HJ21.out; have := HK3.out; first | omega | exact Nat.le_refl _⟩, ⟨by (with_reducible repeat (first | apply Kd.S_alloc | apply Kd.S_drewN | apply Kd.S_drew)); exact Kd.S_mono (Kd.S_far (p := ⟨gb232, 6, none⟩) (Kd.S_far (p := ⟨gb232, 5, none⟩) (Kd.S_far (p := ⟨gb232, 4, none⟩) (Kd.S_far (p := ⟨gb232, 3, none⟩) (Kd.S_far (p := ⟨gb232, 2, none⟩) (Kd.S_far (p := ⟨gb232, 1, none⟩) (Kd.S_far (p := ⟨gb232, 0, none⟩) (Kd.S_mono HO_214001.out (fun k_ hk => (⟨hk, hk.2⟩ : _ ∧ k_ ≠ gb232))) (fun _ hk => hk.2) (.string ((rd_T38 t207 x6_3).f0))) (fun _ hk => hk.2) (.string ((rd_T38 t207 x6_3).f1))) (fun _ hk => hk.2) (.string ((rd_T38 t207 x6_3).f2))) (fun _ hk => hk.2) (.string ((rd_T38 t207 x6_3).f3))) (fun _ hk => hk.2) (.int .i64 ((rd_T38 t207 x6_3).f4))) (fun _ hk => hk.2) (.slice A231_5 ((rd_T38 t207 x6_3).f5).length c231_5)) (fun _ hk => hk.2) (.int .u64 ((rd_T38 t207 x6_3).f6))) (fun _ hk => ⟨hk.1.1, hk.1.2⟩)⟩, ⟨by (with_reducible repeat (first | apply Kd.R_alloc | apply Kd.R_drewN | apply Kd.R_drew)); exact Kd.R_mono (Kd.R_far (p := ⟨gb232, 6, none⟩) (Kd.R_far (p := ⟨gb232, 5, none⟩) (Kd.R_far (p := ⟨gb232, 4, none⟩) (Kd.R_far (p := ⟨gb232, 3, none⟩) (Kd.R_far (p := ⟨gb232, 2, none⟩) (Kd.R_far (p := ⟨gb232, 1, none⟩) (Kd.R_far (p := ⟨gb232, 0, none⟩) (Kd.R_types HO_214002.out BK232.out (by decide)) (fun _ hk => hk.2) (.string ((rd_T38 t207 x6_3).f0))) (fun _ hk => hk.2) (.string ((rd_T38 t207 x6_3).f1))) (fun _ hk => hk.2) (.string ((rd_T38 t207 x6_3).f2))) (fun _ hk => hk.2) (.string ((rd_T38 t207 x6_3).f3))) (fun _ hk => hk.2) (.int .i64 ((rd_T38 t207 x6_3).f4))) (fun _ hk => hk.2) (.slice A231_5 ((rd_T38 t207 x6_3).f5).length c231_5)) (fun _ hk => hk.2) (.int .u64 ((rd_T38 t207 x6_3).f6))) (fun _ hk => trivial)⟩, ⟨by (repeat (first | (with_reducible first | refine blk_drewN ?_ _ | refine blk_drew ?_ | refine blk_alloc ?_ _) | refine blk_far ?_ NB201_232.out _)); exact BK201.out⟩, ⟨by (repeat (first | (with_reducible first | refine blk_drewN ?_ _ | refine blk_drew ?_ | refine blk_alloc ?_ _) | refine blk_far ?_ NB202_232.out _)); exact BK202.out⟩, ⟨by (repeat (first | (with_reducible first | refine blk_drewN ?_ _ | refine blk_drew ?_ | refine blk_alloc ?_ _) | refine blk_far ?_ NB213_232.out _)); exact BK213.out⟩, ⟨by (with_reducible repeat (first | refine blk_drewN ?_ _ | refine blk_drew ?_ | refine blk_alloc ?_ _)); refine blk_put (cs := #[.string ((rd_T38 t207 x6_3).f0), .string ((rd_T38 t207 x6_3).f1), .string ((rd_T38 t207 x6_3).f2), .string ((rd_T38 t207 x6_3).f3), .int .i64 ((rd_T38 t207 x6_3).f4), .slice A231_5 ((rd_T38 t207 x6_3).f5).length c231_5, .int .u64 0]) ?_ 6 _ rfl; (with_reducible repeat (first | refine blk_drewN ?_ _ | refine blk_drew ?_ | refine blk_alloc ?_ _)); refine blk_put (cs := #[.string ((rd_T38 t207 x6_3).f0), .string ((rd_T38 t207 x6_3).f1), .string ((rd_T38 t207 x6_3).f2), .string ((rd_T38 t207 x6_3).f3), .int .i64 ((rd_T38 t207 x6_3).f4), .slice none 0 0, .int .u64 0]) ?_ 5 _ rfl; (with_reducible repeat (first | refine blk_drewN ?_ _ | refine blk_drew ?_ | refine blk_alloc ?_ _)); refine blk_put (cs := #[.string ((rd_T38 t207 x6_3).f0), .string ((rd_T38 t207 x6_3).f1), .string ((rd_T38 t207 x6_3).f2), .string ((rd_T38 t207 x6_3).f3), .int .i64 0, .slice none 0 0, .int .u64 0]) ?_ 4 _ rfl; (with_reducible repeat (first | refine blk_drewN ?_ _ | refine blk_drew ?_ | refine blk_alloc ?_ _)); refine blk_put (cs := #[.string ((rd_T38 t207 x6_3).f0), .string ((rd_T38 t207 x6_3).f1), .string ((rd_T38 t207 x6_3).f2), .string (⟨#[]⟩ : ByteArray), .int .i64 0, .slice none 0 0, .int .u64 0]) ?_ 3 _ rfl; (with_reducible repeat (first | refine blk_drewN ?_ _ | refine blk_drew ?_ | refine blk_alloc ?_ _)); refine blk_put (cs := #[.string ((rd_T38 t207 x6_3).f0), .string ((rd_T38 t207 x6_3).f1), .string (⟨#[]⟩ : ByteArray), .string (⟨#[]⟩ : ByteArray), .int .i64 0, .slice none 0 0, .int .u64 0]) ?_ 2 _ rfl; (with_reducible repeat (first | refine blk_drewN ?_ _ | refine blk_drew ?_ | refine blk_alloc ?_ _)); refine blk_put (cs := #[.string ((rd_T38 t207 x6_3).f0), .string (⟨#[]⟩ : ByteArray), .string (⟨#[]⟩ : ByteArray), .string (⟨#[]⟩ : ByteArray), .int .i64 0, .slice none 0 0, .int .u64 0]) ?_ 1 _ rfl; (with_reducible repeat (first | refine blk_drewN ?_ _ | refine blk_drew ?_ | refine blk_alloc ?_ _)); refine blk_put (cs := #[.string (⟨#[]⟩ : ByteArray), .string (⟨#[]⟩ : ByteArray), .string (⟨#[]⟩ : ByteArray), .string (⟨#[]⟩ : ByteArray), .int .i64 0, .slice none 0 0, .int .u64 0]) ?_ 0 _ rfl; (with_reducible repeat (first | refine blk_drewN ?_ _ | refine blk_drew ?_ | refine blk_alloc ?_ _)); exact BK232.out⟩, ⟨(Kd.R_reads' (by (with_reducible repeat (first | apply Kd.R_alloc | apply Kd.R_drewN | apply Kd.R_drew)); exact (Kd.R_mono (Kd.R_far (p := ⟨gb232, 6, none⟩) (Kd.R_far (p := ⟨gb232, 5, none⟩) (Kd.R_far (p := ⟨gb232, 4, none⟩) (Kd.R_far (p := ⟨gb232, 3, none⟩) (Kd.R_far (p := ⟨gb232, 2, none⟩) (Kd.R_far (p := ⟨gb232, 1, none⟩) (Kd.R_far (p := ⟨gb232, 0, none⟩) (Kd.R_types HL231_5.out BK232.out (by decide)) (fun _ hk => hk.2) (.string ((rd_T38 t207 x6_3).f0))) (fun _ hk => hk.2) (.string ((rd_T38 t207 x6_3).f1))) (fun _ hk => hk.2) (.string ((rd_T38 t207 x6_3).f2))) (fun _ hk => hk.2) (.string ((rd_T38 t207 x6_3).f3))) (fun _ hk => hk.2) (.int .i64 ((rd_T38 t207 x6_3).f4))) (fun _ hk => hk.2) (.slice A231_5 ((rd_T38 t207 x6_3).f5).length c231_5)) (fun _ hk => hk.2) (.int .u64 ((rd_T38 t207 x6_3).f6))) (fun _ h_ => h_.1)))).2.2⟩, ⟨by repeat (first | (with_reducible first | exact HB.out | apply below_alloc | apply pw_below_drewN | apply below_drew1 | refine below_set ?_ GE201.out | refine below_set ?_ GE202.out | refine below_set ?_ GE213.out | refine below_set ?_ GE232.out) | exact HB.out)⟩⟩
                      · rw [if_neg c66] at H
                        have c66b0 : (((rd_T38 t207 x6_3).f2).toList == ([] : List UInt8)) = false := beq_eq_false_iff_ne.mpr c66
                        have c66b1 : (((rd_T38 t207 x6_3).f2).toList != ([] : List UInt8)) = true := bne_iff_ne.mpr c66
                        (first | rw [c66b0] | (simp only [i64_w, i32_w]; rw [c66b0]) | skip)
                        have H' := Aside0.mk H
                        clear H
                        have hnb74 := NB201_202.out
                        have hnc74 := NB202_201.out
                        have hnb75 := NB201_213.out
                        have hnc75 := NB213_201.out
                        have hnb76 := NB201_232.out
                        have hnc76 := NB232_201.out
                        have hcz77_0 : w55.cell? ⟨gb201, 0, none⟩ = some (.int .i64 a0_0) := (blk_cell BK201.out 0).trans rfl
                        have hcz77_1 : w55.cell? ⟨gb201, 1, none⟩ = some (.bool a0_1) := (blk_cell BK201.out 1).trans rfl
                        have hcz77_2 : w55.cell? ⟨gb201, 2, none⟩ = some (.slice A0_2 l0_2.length c0_2) := (blk_cell BK201.out 2).trans rfl
                        have hcz77_3 : w55.cell? ⟨gb201, 3, none⟩ = some (.bool true) := (blk_cell BK201.out 3).trans rfl
                        have hcz77_4 : w55.cell? ⟨gb201, 4, none⟩ = some (.bool false) := (blk_cell BK201.out 4).trans rfl
                        have hfz77_0 := blk_frozen BK201.out 0
                        have hfz77_1 := blk_frozen BK201.out 1
                        have hfz77_2 := blk_frozen BK201.out 2
                        have hfz77_3 := blk_frozen BK201.out 3
                        have hfz77_4 := blk_frozen BK201.out 4
                        have hnb78 := NB232_202.out
                        have hnc78 := NB202_232.out
                        have hnb79 := NB232_213.out
                        have hnc79 := NB213_232.out
                        have hcz80_0 : w55.cell? ⟨gb232, 0, none⟩ = some (.string (⟨#[]⟩ : ByteArray)) := (blk_cell BK232.out 0).trans rfl
                        have hcz80_1 : w55.cell? ⟨gb232, 1, none⟩ = some (.string (⟨#[]⟩ : ByteArray)) := (blk_cell BK232.out 1).trans rfl
                        have hcz80_2 : w55.cell? ⟨gb232, 2, none⟩ = some (.string (⟨#[]⟩ : ByteArray)) := (blk_cell BK232.out 2).trans rfl
                        have hcz80_3 : w55.cell? ⟨gb232, 3, none⟩ = some (.string (⟨#[]⟩ : ByteArray)) := (blk_cell BK232.out 3).trans rfl
                        have hcz80_4 : w55.cell? ⟨gb232, 4, none⟩ = some (.int .i64 0) := (blk_cell BK232.out 4).trans rfl
                        have hcz80_5 : w55.cell? ⟨gb232, 5, none⟩ = some (.slice none 0 0) := (blk_cell BK232.out 5).trans rfl
                        have hcz80_6 : w55.cell? ⟨gb232, 6, none⟩ = some (.int .u64 0) := (blk_cell BK232.out 6).trans rfl
                        have hfz80_0 := blk_frozen BK232.out 0
                        have hfz80_1 := blk_frozen BK232.out 1
                        have hfz80_2 := blk_frozen BK232.out 2
                        have hfz80_3 := blk_frozen BK232.out 3
                        have hfz80_4 := blk_frozen BK232.out 4
                        have hfz80_5 := blk_frozen BK232.out 5
                        have hfz80_6 := blk_frozen BK232.out 6
                        go_wp2
                        go_meet
                        case rel => exact ⟨_, (true), (by first | rfl | (simp; done) | (simp [*]; done)), H', ⟨by have := HJ4.out; have := HJ21.out; have := HK3.out; first | omega | exact Nat.le_refl _⟩, ⟨by (with_reducible repeat (first | apply Kd.S_alloc | apply Kd.S_drewN | apply Kd.S_drew)); exact Kd.S_mono (Kd.S_far (p := ⟨gb232, 6, none⟩) (Kd.S_far (p := ⟨gb232, 5, none⟩) (Kd.S_far (p := ⟨gb232, 4, none⟩) (Kd.S_far (p := ⟨gb232, 3, none⟩) (Kd.S_far (p := ⟨gb232, 2, none⟩) (Kd.S_far (p := ⟨gb232, 1, none⟩) (Kd.S_far (p := ⟨gb232, 0, none⟩) (Kd.S_mono HO_214001.out (fun k_ hk => (⟨hk, hk.2⟩ : _ ∧ k_ ≠ gb232))) (fun _ hk => hk.2) (.string ((rd_T38 t207 x6_3).f0))) (fun _ hk => hk.2) (.string ((rd_T38 t207 x6_3).f1))) (fun _ hk => hk.2) (.string ((rd_T38 t207 x6_3).f2))) (fun _ hk => hk.2) (.string ((rd_T38 t207 x6_3).f3))) (fun _ hk => hk.2) (.int .i64 ((rd_T38 t207 x6_3).f4))) (fun _ hk => hk.2) (.slice A231_5 ((rd_T38 t207 x6_3).f5).length c231_5)) (fun _ hk => hk.2) (.int .u64 ((rd_T38 t207 x6_3).f6))) (fun _ hk => ⟨hk.1.1, hk.1.2⟩)⟩, ⟨by (with_reducible repeat (first | apply Kd.R_alloc | apply Kd.R_drewN | apply Kd.R_drew)); exact Kd.R_mono (Kd.R_far (p := ⟨gb232, 6, none⟩) (Kd.R_far (p := ⟨gb232, 5, none⟩) (Kd.R_far (p := ⟨gb232, 4, none⟩) (Kd.R_far (p := ⟨gb232, 3, none⟩) (Kd.R_far (p := ⟨gb232, 2, none⟩) (Kd.R_far (p := ⟨gb232, 1, none⟩) (Kd.R_far (p := ⟨gb232, 0, none⟩) (Kd.R_types HO_214002.out BK232.out (by decide)) (fun _ hk => hk.2) (.string ((rd_T38 t207 x6_3).f0))) (fun _ hk => hk.2) (.string ((rd_T38 t207 x6_3).f1))) (fun _ hk => hk.2) (.string ((rd_T38 t207 x6_3).f2))) (fun _ hk => hk.2) (.string ((rd_T38 t207 x6_3).f3))) (fun _ hk => hk.2) (.int .i64 ((rd_T38 t207 x6_3).f4))) (fun _ hk => hk.2) (.slice A231_5 ((rd_T38 t207 x6_3).f5).length c231_5)) (fun _ hk => hk.2) (.int .u64 ((rd_T38 t207 x6_3).f6))) (fun _ hk => trivial)⟩, ⟨by (repeat (first | (with_reducible first | refine blk_drewN ?_ _ | refine blk_drew ?_ | refine blk_alloc ?_ _) | refine blk_far ?_ NB201_232.out _)); exact BK201.out⟩, ⟨by (repeat (first | (with_reducible first | refine blk_drewN ?_ _ | refine blk_drew ?_ | refine blk_alloc ?_ _) | refine blk_far ?_ NB202_232.out _)); exact BK202.out⟩, ⟨by (repeat (first | (with_reducible first | refine blk_drewN ?_ _ | refine blk_drew ?_ | refine blk_alloc ?_ _) | refine blk_far ?_ NB213_232.out _)); exact BK213.out⟩, ⟨by (with_reducible repeat (first | refine blk_drewN ?_ _ | refine blk_drew ?_ | refine blk_alloc ?_ _)); refine blk_put (cs := #[.string ((rd_T38 t207 x6_3).f0), .string ((rd_T38 t207 x6_3).f1), .string ((rd_T38 t207 x6_3).f2), .string ((rd_T38 t207 x6_3).f3), .int .i64 ((rd_T38 t207 x6_3).f4), .slice A231_5 ((rd_T38 t207 x6_3).f5).length c231_5, .int .u64 0]) ?_ 6 _ rfl; (with_reducible repeat (first | refine blk_drewN ?_ _ | refine blk_drew ?_ | refine blk_alloc ?_ _)); refine blk_put (cs := #[.string ((rd_T38 t207 x6_3).f0), .string ((rd_T38 t207 x6_3).f1), .string ((rd_T38 t207 x6_3).f2), .string ((rd_T38 t207 x6_3).f3), .int .i64 ((rd_T38 t207 x6_3).f4), .slice none 0 0, .int .u64 0]) ?_ 5 _ rfl; (with_reducible repeat (first | refine blk_drewN ?_ _ | refine blk_drew ?_ | refine blk_alloc ?_ _)); refine blk_put (cs := #[.string ((rd_T38 t207 x6_3).f0), .string ((rd_T38 t207 x6_3).f1), .string ((rd_T38 t207 x6_3).f2), .string ((rd_T38 t207 x6_3).f3), .int .i64 0, .slice none 0 0, .int .u64 0]) ?_ 4 _ rfl; (with_reducible repeat (first | refine blk_drewN ?_ _ | refine blk_drew ?_ | refine blk_alloc ?_ _)); refine blk_put (cs := #[.string ((rd_T38 t207 x6_3).f0), .string ((rd_T38 t207 x6_3).f1), .string ((rd_T38 t207 x6_3).f2), .string (⟨#[]⟩ : ByteArray), .int .i64 0, .slice none 0 0, .int .u64 0]) ?_ 3 _ rfl; (with_reducible repeat (first | refine blk_drewN ?_ _ | refine blk_drew ?_ | refine blk_alloc ?_ _)); refine blk_put (cs := #[.string ((rd_T38 t207 x6_3).f0), .string ((rd_T38 t207 x6_3).f1), .string (⟨#[]⟩ : ByteArray), .string (⟨#[]⟩ : ByteArray), .int .i64 0, .slice none 0 0, .int .u64 0]) ?_ 2 _ rfl; (with_reducible repeat (first | refine blk_drewN ?_ _ | refine blk_drew ?_ | refine blk_alloc ?_ _)); refine blk_put (cs := #[.string ((rd_T38 t207 x6_3).f0), .string (⟨#[]⟩ : ByteArray), .string (⟨#[]⟩ : ByteArray), .string (⟨#[]⟩ : ByteArray), .int .i64 0, .slice none 0 0, .int .u64 0]) ?_ 1 _ rfl; (with_reducible repeat (first | refine blk_drewN ?_ _ | refine blk_drew ?_ | refine blk_alloc ?_ _)); refine blk_put (cs := #[.string (⟨#[]⟩ : ByteArray), .string (⟨#[]⟩ : ByteArray), .string (⟨#[]⟩ : ByteArray), .string (⟨#[]⟩ : ByteArray), .int .i64 0, .slice none 0 0, .int .u64 0]) ?_ 0 _ rfl; (with_reducible repeat (first | refine blk_drewN ?_ _ | refine blk_drew ?_ | refine blk_alloc ?_ _)); exact BK232.out⟩, ⟨(Kd.R_reads' (by (with_reducible repeat (first | apply Kd.R_alloc | apply Kd.R_drewN | apply Kd.R_drew)); exact (Kd.R_mono (Kd.R_far (p := ⟨gb232, 6, none⟩) (Kd.R_far (p := ⟨gb232, 5, none⟩) (Kd.R_far (p := ⟨gb232, 4, none⟩) (Kd.R_far (p := ⟨gb232, 3, none⟩) (Kd.R_far (p := ⟨gb232, 2, none⟩) (Kd.R_far (p := ⟨gb232, 1, none⟩) (Kd.R_far (p := ⟨gb232, 0, none⟩) (Kd.R_types HL231_5.out BK232.out (by decide)) (fun _ hk => hk.2) (.string ((rd_T38 t207 x6_3).f0))) (fun _ hk => hk.2) (.string ((rd_T38 t207 x6_3).f1))) (fun _ hk => hk.2) (.string ((rd_T38 t207 x6_3).f2))) (fun _ hk => hk.2) (.string ((rd_T38 t207 x6_3).f3))) (fun _ hk => hk.2) (.int .i64 ((rd_T38 t207 x6_3).f4))) (fun _ hk => hk.2) (.slice A231_5 ((rd_T38 t207 x6_3).f5).length c231_5)) (fun _ hk => hk.2) (.int .u64 ((rd_T38 t207 x6_3).f6))) (fun _ h_ => h_.1)))).2.2⟩, ⟨by repeat (first | (with_reducible first | exact HB.out | apply below_alloc | apply pw_below_drewN | apply below_drew1 | refine below_set ?_ GE201.out | refine below_set ?_ GE202.out | refine below_set ?_ GE213.out | refine below_set ?_ GE232.out) | exact HB.out)⟩⟩
                  · replace c60 := Bool.eq_false_iff.mpr c60
                    subst c60
                    have H1 : (if (((rd_T38 t207 x6_3).f5).length : Int) > 0 then (watchbilllaw23_FilterAgain.j3 k3 x6_3 true a0_0 a0_1 l0_2 false a0_4 a1_0 l1_1 l1_2 t206 t207 t210 ((rd_T38 t207 x6_3).f0) ((rd_T38 t207 x6_3).f1) ((rd_T38 t207 x6_3).f2) ((rd_T38 t207 x6_3).f3) ((rd_T38 t207 x6_3).f4) ((rd_T38 t207 x6_3).f6)) else (if a0_4 = true then (watchbilllaw23_FilterAgain.j3 k3 x6_3 false a0_0 a0_1 l0_2 false a0_4 a1_0 l1_1 l1_2 t206 t207 t210 ((rd_T38 t207 x6_3).f0) ((rd_T38 t207 x6_3).f1) ((rd_T38 t207 x6_3).f2) ((rd_T38 t207 x6_3).f3) ((rd_T38 t207 x6_3).f4) ((rd_T38 t207 x6_3).f6)) else (if ((rd_T38 t207 x6_3).f2).toList = ([] : List UInt8) then (watchbilllaw23_FilterAgain.j3 k3 x6_3 (((rd_T38 t207 x6_3).f4) != 0) a0_0 a0_1 l0_2 false a0_4 a1_0 l1_1 l1_2 t206 t207 t210 ((rd_T38 t207 x6_3).f0) ((rd_T38 t207 x6_3).f1) ((rd_T38 t207 x6_3).f2) ((rd_T38 t207 x6_3).f3) ((rd_T38 t207 x6_3).f4) ((rd_T38 t207 x6_3).f6)) else (watchbilllaw23_FilterAgain.j3 k3 x6_3 true a0_0 a0_1 l0_2 false a0_4 a1_0 l1_1 l1_2 t206 t207 t210 ((rd_T38 t207 x6_3).f0) ((rd_T38 t207 x6_3).f1) ((rd_T38 t207 x6_3).f2) ((rd_T38 t207 x6_3).f3) ((rd_T38 t207 x6_3).f4) ((rd_T38 t207 x6_3).f6))))) = some r := by rw [if_neg (show ¬ (false = true) by decide)] at H; exact H
                    clear H
                    have H := H1
                    clear H1
                    by_cases c81 : (((rd_T38 t207 x6_3).f5).length : Int) > 0
                    · rw [if_pos c81] at H
                      have c81b0 : decide (0 < (((rd_T38 t207 x6_3).f5).length : Int)) = true := decide_eq_true c81
                      have c81b1 : decide (0 < ((rd_T38 t207 x6_3).f5).length) = true := decide_eq_true (by omega)
                      clear c81
                      have H' := Aside0.mk H
                      clear H
                      have hnb82 := NB201_202.out
                      have hnc82 := NB202_201.out
                      have hnb83 := NB201_213.out
                      have hnc83 := NB213_201.out
                      have hnb84 := NB201_232.out
                      have hnc84 := NB232_201.out
                      have hcz85_0 : w55.cell? ⟨gb201, 0, none⟩ = some (.int .i64 a0_0) := (blk_cell BK201.out 0).trans rfl
                      have hcz85_1 : w55.cell? ⟨gb201, 1, none⟩ = some (.bool a0_1) := (blk_cell BK201.out 1).trans rfl
                      have hcz85_2 : w55.cell? ⟨gb201, 2, none⟩ = some (.slice A0_2 l0_2.length c0_2) := (blk_cell BK201.out 2).trans rfl
                      have hcz85_3 : w55.cell? ⟨gb201, 3, none⟩ = some (.bool false) := (blk_cell BK201.out 3).trans rfl
                      have hcz85_4 : w55.cell? ⟨gb201, 4, none⟩ = some (.bool a0_4) := (blk_cell BK201.out 4).trans rfl
                      have hfz85_0 := blk_frozen BK201.out 0
                      have hfz85_1 := blk_frozen BK201.out 1
                      have hfz85_2 := blk_frozen BK201.out 2
                      have hfz85_3 := blk_frozen BK201.out 3
                      have hfz85_4 := blk_frozen BK201.out 4
                      have hnb86 := NB232_202.out
                      have hnc86 := NB202_232.out
                      have hnb87 := NB232_213.out
                      have hnc87 := NB213_232.out
                      have hcz88_0 : w55.cell? ⟨gb232, 0, none⟩ = some (.string (⟨#[]⟩ : ByteArray)) := (blk_cell BK232.out 0).trans rfl
                      have hcz88_1 : w55.cell? ⟨gb232, 1, none⟩ = some (.string (⟨#[]⟩ : ByteArray)) := (blk_cell BK232.out 1).trans rfl
                      have hcz88_2 : w55.cell? ⟨gb232, 2, none⟩ = some (.string (⟨#[]⟩ : ByteArray)) := (blk_cell BK232.out 2).trans rfl
                      have hcz88_3 : w55.cell? ⟨gb232, 3, none⟩ = some (.string (⟨#[]⟩ : ByteArray)) := (blk_cell BK232.out 3).trans rfl
                      have hcz88_4 : w55.cell? ⟨gb232, 4, none⟩ = some (.int .i64 0) := (blk_cell BK232.out 4).trans rfl
                      have hcz88_5 : w55.cell? ⟨gb232, 5, none⟩ = some (.slice none 0 0) := (blk_cell BK232.out 5).trans rfl
                      have hcz88_6 : w55.cell? ⟨gb232, 6, none⟩ = some (.int .u64 0) := (blk_cell BK232.out 6).trans rfl
                      have hfz88_0 := blk_frozen BK232.out 0
                      have hfz88_1 := blk_frozen BK232.out 1
                      have hfz88_2 := blk_frozen BK232.out 2
                      have hfz88_3 := blk_frozen BK232.out 3
                      have hfz88_4 := blk_frozen BK232.out 4
                      have hfz88_5 := blk_frozen BK232.out 5
                      have hfz88_6 := blk_frozen BK232.out 6
                      go_wp2
                      go_meet
                      case rel => exact ⟨_, (true), (by first | rfl | (simp; done) | (simp [*]; done)), H', ⟨by have := HJ4.out; have := HJ21.out; have := HK3.out; first | omega | exact Nat.le_refl _⟩, ⟨by (with_reducible repeat (first | apply Kd.S_alloc | apply Kd.S_drewN | apply Kd.S_drew)); exact Kd.S_mono (Kd.S_far (p := ⟨gb232, 6, none⟩) (Kd.S_far (p := ⟨gb232, 5, none⟩) (Kd.S_far (p := ⟨gb232, 4, none⟩) (Kd.S_far (p := ⟨gb232, 3, none⟩) (Kd.S_far (p := ⟨gb232, 2, none⟩) (Kd.S_far (p := ⟨gb232, 1, none⟩) (Kd.S_far (p := ⟨gb232, 0, none⟩) (Kd.S_mono HO_214001.out (fun k_ hk => (⟨hk, hk.2⟩ : _ ∧ k_ ≠ gb232))) (fun _ hk => hk.2) (.string ((rd_T38 t207 x6_3).f0))) (fun _ hk => hk.2) (.string ((rd_T38 t207 x6_3).f1))) (fun _ hk => hk.2) (.string ((rd_T38 t207 x6_3).f2))) (fun _ hk => hk.2) (.string ((rd_T38 t207 x6_3).f3))) (fun _ hk => hk.2) (.int .i64 ((rd_T38 t207 x6_3).f4))) (fun _ hk => hk.2) (.slice A231_5 ((rd_T38 t207 x6_3).f5).length c231_5)) (fun _ hk => hk.2) (.int .u64 ((rd_T38 t207 x6_3).f6))) (fun _ hk => ⟨hk.1.1, hk.1.2⟩)⟩, ⟨by (with_reducible repeat (first | apply Kd.R_alloc | apply Kd.R_drewN | apply Kd.R_drew)); exact Kd.R_mono (Kd.R_far (p := ⟨gb232, 6, none⟩) (Kd.R_far (p := ⟨gb232, 5, none⟩) (Kd.R_far (p := ⟨gb232, 4, none⟩) (Kd.R_far (p := ⟨gb232, 3, none⟩) (Kd.R_far (p := ⟨gb232, 2, none⟩) (Kd.R_far (p := ⟨gb232, 1, none⟩) (Kd.R_far (p := ⟨gb232, 0, none⟩) (Kd.R_types HO_214002.out BK232.out (by decide)) (fun _ hk => hk.2) (.string ((rd_T38 t207 x6_3).f0))) (fun _ hk => hk.2) (.string ((rd_T38 t207 x6_3).f1))) (fun _ hk => hk.2) (.string ((rd_T38 t207 x6_3).f2))) (fun _ hk => hk.2) (.string ((rd_T38 t207 x6_3).f3))) (fun _ hk => hk.2) (.int .i64 ((rd_T38 t207 x6_3).f4))) (fun _ hk => hk.2) (.slice A231_5 ((rd_T38 t207 x6_3).f5).length c231_5)) (fun _ hk => hk.2) (.int .u64 ((rd_T38 t207 x6_3).f6))) (fun _ hk => trivial)⟩, ⟨by (repeat (first | (with_reducible first | refine blk_drewN ?_ _ | refine blk_drew ?_ | refine blk_alloc ?_ _) | refine blk_far ?_ NB201_232.out _)); exact BK201.out⟩, ⟨by (repeat (first | (with_reducible first | refine blk_drewN ?_ _ | refine blk_drew ?_ | refine blk_alloc ?_ _) | refine blk_far ?_ NB202_232.out _)); exact BK202.out⟩, ⟨by (repeat (first | (with_reducible first | refine blk_drewN ?_ _ | refine blk_drew ?_ | refine blk_alloc ?_ _) | refine blk_far ?_ NB213_232.out _)); exact BK213.out⟩, ⟨by (with_reducible repeat (first | refine blk_drewN ?_ _ | refine blk_drew ?_ | refine blk_alloc ?_ _)); refine blk_put (cs := #[.string ((rd_T38 t207 x6_3).f0), .string ((rd_T38 t207 x6_3).f1), .string ((rd_T38 t207 x6_3).f2), .string ((rd_T38 t207 x6_3).f3), .int .i64 ((rd_T38 t207 x6_3).f4), .slice A231_5 ((rd_T38 t207 x6_3).f5).length c231_5, .int .u64 0]) ?_ 6 _ rfl; (with_reducible repeat (first | refine blk_drewN ?_ _ | refine blk_drew ?_ | refine blk_alloc ?_ _)); refine blk_put (cs := #[.string ((rd_T38 t207 x6_3).f0), .string ((rd_T38 t207 x6_3).f1), .string ((rd_T38 t207 x6_3).f2), .string ((rd_T38 t207 x6_3).f3), .int .i64 ((rd_T38 t207 x6_3).f4), .slice none 0 0, .int .u64 0]) ?_ 5 _ rfl; (with_reducible repeat (first | refine blk_drewN ?_ _ | refine blk_drew ?_ | refine blk_alloc ?_ _)); refine blk_put (cs := #[.string ((rd_T38 t207 x6_3).f0), .string ((rd_T38 t207 x6_3).f1), .string ((rd_T38 t207 x6_3).f2), .string ((rd_T38 t207 x6_3).f3), .int .i64 0, .slice none 0 0, .int .u64 0]) ?_ 4 _ rfl; (with_reducible repeat (first | refine blk_drewN ?_ _ | refine blk_drew ?_ | refine blk_alloc ?_ _)); refine blk_put (cs := #[.string ((rd_T38 t207 x6_3).f0), .string ((rd_T38 t207 x6_3).f1), .string ((rd_T38 t207 x6_3).f2), .string (⟨#[]⟩ : ByteArray), .int .i64 0, .slice none 0 0, .int .u64 0]) ?_ 3 _ rfl; (with_reducible repeat (first | refine blk_drewN ?_ _ | refine blk_drew ?_ | refine blk_alloc ?_ _)); refine blk_put (cs := #[.string ((rd_T38 t207 x6_3).f0), .string ((rd_T38 t207 x6_3).f1), .string (⟨#[]⟩ : ByteArray), .string (⟨#[]⟩ : ByteArray), .int .i64 0, .slice none 0 0, .int .u64 0]) ?_ 2 _ rfl; (with_reducible repeat (first | refine blk_drewN ?_ _ | refine blk_drew ?_ | refine blk_alloc ?_ _)); refine blk_put (cs := #[.string ((rd_T38 t207 x6_3).f0), .string (⟨#[]⟩ : ByteArray), .string (⟨#[]⟩ : ByteArray), .string (⟨#[]⟩ : ByteArray), .int .i64 0, .slice none 0 0, .int .u64 0]) ?_ 1 _ rfl; (with_reducible repeat (first | refine blk_drewN ?_ _ | refine blk_drew ?_ | refine blk_alloc ?_ _)); refine blk_put (cs := #[.string (⟨#[]⟩ : ByteArray), .string (⟨#[]⟩ : ByteArray), .string (⟨#[]⟩ : ByteArray), .string (⟨#[]⟩ : ByteArray), .int .i64 0, .slice none 0 0, .int .u64 0]) ?_ 0 _ rfl; (with_reducible repeat (first | refine blk_drewN ?_ _ | refine blk_drew ?_ | refine blk_alloc ?_ _)); exact BK232.out⟩, ⟨(Kd.R_reads' (by (with_reducible repeat (first | apply Kd.R_alloc | apply Kd.R_drewN | apply Kd.R_drew)); exact (Kd.R_mono (Kd.R_far (p := ⟨gb232, 6, none⟩) (Kd.R_far (p := ⟨gb232, 5, none⟩) (Kd.R_far (p := ⟨gb232, 4, none⟩) (Kd.R_far (p := ⟨gb232, 3, none⟩) (Kd.R_far (p := ⟨gb232, 2, none⟩) (Kd.R_far (p := ⟨gb232, 1, none⟩) (Kd.R_far (p := ⟨gb232, 0, none⟩) (Kd.R_types HL231_5.out BK232.out (by decide)) (fun _ hk => hk.2) (.string ((rd_T38 t207 x6_3).f0))) (fun _ hk => hk.2) (.string ((rd_T38 t207 x6_3).f1))) (fun _ hk => hk.2) (.string ((rd_T38 t207 x6_3).f2))) (fun _ hk => hk.2) (.string ((rd_T38 t207 x6_3).f3))) (fun _ hk => hk.2) (.int .i64 ((rd_T38 t207 x6_3).f4))) (fun _ hk => hk.2) (.slice A231_5 ((rd_T38 t207 x6_3).f5).length c231_5)) (fun _ hk => hk.2) (.int .u64 ((rd_T38 t207 x6_3).f6))) (fun _ h_ => h_.1)))).2.2⟩, ⟨by repeat (first | (with_reducible first | exact HB.out | apply below_alloc | apply pw_below_drewN | apply below_drew1 | refine below_set ?_ GE201.out | refine below_set ?_ GE202.out | refine below_set ?_ GE213.out | refine below_set ?_ GE232.out) | exact HB.out)⟩⟩
                    · rw [if_neg c81] at H
                      have c81b0 : decide (0 < (((rd_T38 t207 x6_3).f5).length : Int)) = false := decide_eq_false c81
                      have c81b1 : decide (0 < ((rd_T38 t207 x6_3).f5).length) = false := decide_eq_false (by omega)
                      clear c81
                      by_cases c89 : a0_4 = true
                      · subst c89
                        have H1 : (watchbilllaw23_FilterAgain.j3 k3 x6_3 false a0_0 a0_1 l0_2 false true a1_0 l1_1 l1_2 t206 t207 t210 ((rd_T38 t207 x6_3).f0) ((rd_T38 t207 x6_3).f1) ((rd_T38 t207 x6_3).f2) ((rd_T38 t207 x6_3).f3) ((rd_T38 t207 x6_3).f4) ((rd_T38 t207 x6_3).f6)) = some r := by rw [if_pos rfl] at H; exact H
                        clear H
                        have H := H1
                        clear H1
                        have H' := Aside0.mk H
                        clear H
                        have hnb90 := NB201_202.out
                        have hnc90 := NB202_201.out
                        have hnb91 := NB201_213.out
                        have hnc91 := NB213_201.out
                        have hnb92 := NB201_232.out
                        have hnc92 := NB232_201.out
                        have hcz93_0 : w55.cell? ⟨gb201, 0, none⟩ = some (.int .i64 a0_0) := (blk_cell BK201.out 0).trans rfl
                        have hcz93_1 : w55.cell? ⟨gb201, 1, none⟩ = some (.bool a0_1) := (blk_cell BK201.out 1).trans rfl
                        have hcz93_2 : w55.cell? ⟨gb201, 2, none⟩ = some (.slice A0_2 l0_2.length c0_2) := (blk_cell BK201.out 2).trans rfl
                        have hcz93_3 : w55.cell? ⟨gb201, 3, none⟩ = some (.bool false) := (blk_cell BK201.out 3).trans rfl
                        have hcz93_4 : w55.cell? ⟨gb201, 4, none⟩ = some (.bool true) := (blk_cell BK201.out 4).trans rfl
                        have hfz93_0 := blk_frozen BK201.out 0
                        have hfz93_1 := blk_frozen BK201.out 1
                        have hfz93_2 := blk_frozen BK201.out 2
                        have hfz93_3 := blk_frozen BK201.out 3
                        have hfz93_4 := blk_frozen BK201.out 4
                        have hnb94 := NB232_202.out
                        have hnc94 := NB202_232.out
                        have hnb95 := NB232_213.out
                        have hnc95 := NB213_232.out
                        have hcz96_0 : w55.cell? ⟨gb232, 0, none⟩ = some (.string (⟨#[]⟩ : ByteArray)) := (blk_cell BK232.out 0).trans rfl
                        have hcz96_1 : w55.cell? ⟨gb232, 1, none⟩ = some (.string (⟨#[]⟩ : ByteArray)) := (blk_cell BK232.out 1).trans rfl
                        have hcz96_2 : w55.cell? ⟨gb232, 2, none⟩ = some (.string (⟨#[]⟩ : ByteArray)) := (blk_cell BK232.out 2).trans rfl
                        have hcz96_3 : w55.cell? ⟨gb232, 3, none⟩ = some (.string (⟨#[]⟩ : ByteArray)) := (blk_cell BK232.out 3).trans rfl
                        have hcz96_4 : w55.cell? ⟨gb232, 4, none⟩ = some (.int .i64 0) := (blk_cell BK232.out 4).trans rfl
                        have hcz96_5 : w55.cell? ⟨gb232, 5, none⟩ = some (.slice none 0 0) := (blk_cell BK232.out 5).trans rfl
                        have hcz96_6 : w55.cell? ⟨gb232, 6, none⟩ = some (.int .u64 0) := (blk_cell BK232.out 6).trans rfl
                        have hfz96_0 := blk_frozen BK232.out 0
                        have hfz96_1 := blk_frozen BK232.out 1
                        have hfz96_2 := blk_frozen BK232.out 2
                        have hfz96_3 := blk_frozen BK232.out 3
                        have hfz96_4 := blk_frozen BK232.out 4
                        have hfz96_5 := blk_frozen BK232.out 5
                        have hfz96_6 := blk_frozen BK232.out 6
                        go_wp2
                        go_meet
                        case rel => exact ⟨_, (false), (by first | rfl | (simp; done) | (simp [*]; done)), H', ⟨by have := HJ4.out; have := HJ21.out; have := HK3.out; first | omega | exact Nat.le_refl _⟩, ⟨by (with_reducible repeat (first | apply Kd.S_alloc | apply Kd.S_drewN | apply Kd.S_drew)); exact Kd.S_mono (Kd.S_far (p := ⟨gb232, 6, none⟩) (Kd.S_far (p := ⟨gb232, 5, none⟩) (Kd.S_far (p := ⟨gb232, 4, none⟩) (Kd.S_far (p := ⟨gb232, 3, none⟩) (Kd.S_far (p := ⟨gb232, 2, none⟩) (Kd.S_far (p := ⟨gb232, 1, none⟩) (Kd.S_far (p := ⟨gb232, 0, none⟩) (Kd.S_mono HO_214001.out (fun k_ hk => (⟨hk, hk.2⟩ : _ ∧ k_ ≠ gb232))) (fun _ hk => hk.2) (.string ((rd_T38 t207 x6_3).f0))) (fun _ hk => hk.2) (.string ((rd_T38 t207 x6_3).f1))) (fun _ hk => hk.2) (.string ((rd_T38 t207 x6_3).f2))) (fun _ hk => hk.2) (.string ((rd_T38 t207 x6_3).f3))) (fun _ hk => hk.2) (.int .i64 ((rd_T38 t207 x6_3).f4))) (fun _ hk => hk.2) (.slice A231_5 ((rd_T38 t207 x6_3).f5).length c231_5)) (fun _ hk => hk.2) (.int .u64 ((rd_T38 t207 x6_3).f6))) (fun _ hk => ⟨hk.1.1, hk.1.2⟩)⟩, ⟨by (with_reducible repeat (first | apply Kd.R_alloc | apply Kd.R_drewN | apply Kd.R_drew)); exact Kd.R_mono (Kd.R_far (p := ⟨gb232, 6, none⟩) (Kd.R_far (p := ⟨gb232, 5, none⟩) (Kd.R_far (p := ⟨gb232, 4, none⟩) (Kd.R_far (p := ⟨gb232, 3, none⟩) (Kd.R_far (p := ⟨gb232, 2, none⟩) (Kd.R_far (p := ⟨gb232, 1, none⟩) (Kd.R_far (p := ⟨gb232, 0, none⟩) (Kd.R_types HO_214002.out BK232.out (by decide)) (fun _ hk => hk.2) (.string ((rd_T38 t207 x6_3).f0))) (fun _ hk => hk.2) (.string ((rd_T38 t207 x6_3).f1))) (fun _ hk => hk.2) (.string ((rd_T38 t207 x6_3).f2))) (fun _ hk => hk.2) (.string ((rd_T38 t207 x6_3).f3))) (fun _ hk => hk.2) (.int .i64 ((rd_T38 t207 x6_3).f4))) (fun _ hk => hk.2) (.slice A231_5 ((rd_T38 t207 x6_3).f5).length c231_5)) (fun _ hk => hk.2) (.int .u64 ((rd_T38 t207 x6_3).f6))) (fun _ hk => trivial)⟩, ⟨by (repeat (first | (with_reducible first | refine blk_drewN ?_ _ | refine blk_drew ?_ | refine blk_alloc ?_ _) | refine blk_far ?_ NB201_232.out _)); exact BK201.out⟩, ⟨by (repeat (first | (with_reducible first | refine blk_drewN ?_ _ | refine blk_drew ?_ | refine blk_alloc ?_ _) | refine blk_far ?_ NB202_232.out _)); exact BK202.out⟩, ⟨by (repeat (first | (with_reducible first | refine blk_drewN ?_ _ | refine blk_drew ?_ | refine blk_alloc ?_ _) | refine blk_far ?_ NB213_232.out _)); exact BK213.out⟩, ⟨by (with_reducible repeat (first | refine blk_drewN ?_ _ | refine blk_drew ?_ | refine blk_alloc ?_ _)); refine blk_put (cs := #[.string ((rd_T38 t207 x6_3).f0), .string ((rd_T38 t207 x6_3).f1), .string ((rd_T38 t207 x6_3).f2), .string ((rd_T38 t207 x6_3).f3), .int .i64 ((rd_T38 t207 x6_3).f4), .slice A231_5 ((rd_T38 t207 x6_3).f5).length c231_5, .int .u64 0]) ?_ 6 _ rfl; (with_reducible repeat (first | refine blk_drewN ?_ _ | refine blk_drew ?_ | refine blk_alloc ?_ _)); refine blk_put (cs := #[.string ((rd_T38 t207 x6_3).f0), .string ((rd_T38 t207 x6_3).f1), .string ((rd_T38 t207 x6_3).f2), .string ((rd_T38 t207 x6_3).f3), .int .i64 ((rd_T38 t207 x6_3).f4), .slice none 0 0, .int .u64 0]) ?_ 5 _ rfl; (with_reducible repeat (first | refine blk_drewN ?_ _ | refine blk_drew ?_ | refine blk_alloc ?_ _)); refine blk_put (cs := #[.string ((rd_T38 t207 x6_3).f0), .string ((rd_T38 t207 x6_3).f1), .string ((rd_T38 t207 x6_3).f2), .string ((rd_T38 t207 x6_3).f3), .int .i64 0, .slice none 0 0, .int .u64 0]) ?_ 4 _ rfl; (with_reducible repeat (first | refine blk_drewN ?_ _ | refine blk_drew ?_ | refine blk_alloc ?_ _)); refine blk_put (cs := #[.string ((rd_T38 t207 x6_3).f0), .string ((rd_T38 t207 x6_3).f1), .string ((rd_T38 t207 x6_3).f2), .string (⟨#[]⟩ : ByteArray), .int .i64 0, .slice none 0 0, .int .u64 0]) ?_ 3 _ rfl; (with_reducible repeat (first | refine blk_drewN ?_ _ | refine blk_drew ?_ | refine blk_alloc ?_ _)); refine blk_put (cs := #[.string ((rd_T38 t207 x6_3).f0), .string ((rd_T38 t207 x6_3).f1), .string (⟨#[]⟩ : ByteArray), .string (⟨#[]⟩ : ByteArray), .int .i64 0, .slice none 0 0, .int .u64 0]) ?_ 2 _ rfl; (with_reducible repeat (first | refine blk_drewN ?_ _ | refine blk_drew ?_ | refine blk_alloc ?_ _)); refine blk_put (cs := #[.string ((rd_T38 t207 x6_3).f0), .string (⟨#[]⟩ : ByteArray), .string (⟨#[]⟩ : ByteArray), .string (⟨#[]⟩ : ByteArray), .int .i64 0, .slice none 0 0, .int .u64 0]) ?_ 1 _ rfl; (with_reducible repeat (first | refine blk_drewN ?_ _ | refine blk_drew ?_ | refine blk_alloc ?_ _)); refine blk_put (cs := #[.string (⟨#[]⟩ : ByteArray), .string (⟨#[]⟩ : ByteArray), .string (⟨#[]⟩ : ByteArray), .string (⟨#[]⟩ : ByteArray), .int .i64 0, .slice none 0 0, .int .u64 0]) ?_ 0 _ rfl; (with_reducible repeat (first | refine blk_drewN ?_ _ | refine blk_drew ?_ | refine blk_alloc ?_ _)); exact BK232.out⟩, ⟨(Kd.R_reads' (by (with_reducible repeat (first | apply Kd.R_alloc | apply Kd.R_drewN | apply Kd.R_drew)); exact (Kd.R_mono (Kd.R_far (p := ⟨gb232, 6, none⟩) (Kd.R_far (p := ⟨gb232, 5, none⟩) (Kd.R_far (p := ⟨gb232, 4, none⟩) (Kd.R_far (p := ⟨gb232, 3, none⟩) (Kd.R_far (p := ⟨gb232, 2, none⟩) (Kd.R_far (p := ⟨gb232, 1, none⟩) (Kd.R_far (p := ⟨gb232, 0, none⟩) (Kd.R_types HL231_5.out BK232.out (by decide)) (fun _ hk => hk.2) (.string ((rd_T38 t207 x6_3).f0))) (fun _ hk => hk.2) (.string ((rd_T38 t207 x6_3).f1))) (fun _ hk => hk.2) (.string ((rd_T38 t207 x6_3).f2))) (fun _ hk => hk.2) (.string ((rd_T38 t207 x6_3).f3))) (fun _ hk => hk.2) (.int .i64 ((rd_T38 t207 x6_3).f4))) (fun _ hk => hk.2) (.slice A231_5 ((rd_T38 t207 x6_3).f5).length c231_5)) (fun _ hk => hk.2) (.int .u64 ((rd_T38 t207 x6_3).f6))) (fun _ h_ => h_.1)))).2.2⟩, ⟨by repeat (first | (with_reducible first | exact HB.out | apply below_alloc | apply pw_below_drewN | apply below_drew1 | refine below_set ?_ GE201.out | refine below_set ?_ GE202.out | refine below_set ?_ GE213.out | refine below_set ?_ GE232.out) | exact HB.out)⟩⟩
                      · replace c89 := Bool.eq_false_iff.mpr c89
                        subst c89
                        have H1 : (if ((rd_T38 t207 x6_3).f2).toList = ([] : List UInt8) then (watchbilllaw23_FilterAgain.j3 k3 x6_3 (((rd_T38 t207 x6_3).f4) != 0) a0_0 a0_1 l0_2 false false a1_0 l1_1 l1_2 t206 t207 t210 ((rd_T38 t207 x6_3).f0) ((rd_T38 t207 x6_3).f1) ((rd_T38 t207 x6_3).f2) ((rd_T38 t207 x6_3).f3) ((rd_T38 t207 x6_3).f4) ((rd_T38 t207 x6_3).f6)) else (watchbilllaw23_FilterAgain.j3 k3 x6_3 true a0_0 a0_1 l0_2 false false a1_0 l1_1 l1_2 t206 t207 t210 ((rd_T38 t207 x6_3).f0) ((rd_T38 t207 x6_3).f1) ((rd_T38 t207 x6_3).f2) ((rd_T38 t207 x6_3).f3) ((rd_T38 t207 x6_3).f4) ((rd_T38 t207 x6_3).f6))) = some r := by rw [if_neg (show ¬ (false = true) by decide)] at H; exact H
                        clear H
                        have H := H1
                        clear H1
                        by_cases c97 : ((rd_T38 t207 x6_3).f2).toList = ([] : List UInt8)
                        · rw [if_pos c97] at H
                          have c97b0 : (((rd_T38 t207 x6_3).f2).toList == ([] : List UInt8)) = true := beq_iff_eq.mpr c97
                          have c97b1 : (((rd_T38 t207 x6_3).f2).toList != ([] : List UInt8)) = false := bne_eq_false_iff_eq.mpr c97
                          clear c97
                          have H' := Aside0.mk H
                          clear H
                          have hnb98 := NB201_202.out
                          have hnc98 := NB202_201.out
                          have hnb99 := NB201_213.out
                          have hnc99 := NB213_201.out
                          have hnb100 := NB201_232.out
                          have hnc100 := NB232_201.out
                          have hcz101_0 : w55.cell? ⟨gb201, 0, none⟩ = some (.int .i64 a0_0) := (blk_cell BK201.out 0).trans rfl
                          have hcz101_1 : w55.cell? ⟨gb201, 1, none⟩ = some (.bool a0_1) := (blk_cell BK201.out 1).trans rfl
                          have hcz101_2 : w55.cell? ⟨gb201, 2, none⟩ = some (.slice A0_2 l0_2.length c0_2) := (blk_cell BK201.out 2).trans rfl
                          have hcz101_3 : w55.cell? ⟨gb201, 3, none⟩ = some (.bool false) := (blk_cell BK201.out 3).trans rfl
                          have hcz101_4 : w55.cell? ⟨gb201, 4, none⟩ = some (.bool false) := (blk_cell BK201.out 4).trans rfl
                          have hfz101_0 := blk_frozen BK201.out 0
                          have hfz101_1 := blk_frozen BK201.out 1
                          have hfz101_2 := blk_frozen BK201.out 2
                          have hfz101_3 := blk_frozen BK201.out 3
                          have hfz101_4 := blk_frozen BK201.out 4
                          have hnb102 := NB232_202.out
                          have hnc102 := NB202_232.out
                          have hnb103 := NB232_213.out
                          have hnc103 := NB213_232.out
                          have hcz104_0 : w55.cell? ⟨gb232, 0, none⟩ = some (.string (⟨#[]⟩ : ByteArray)) := (blk_cell BK232.out 0).trans rfl
                          have hcz104_1 : w55.cell? ⟨gb232, 1, none⟩ = some (.string (⟨#[]⟩ : ByteArray)) := (blk_cell BK232.out 1).trans rfl
                          have hcz104_2 : w55.cell? ⟨gb232, 2, none⟩ = some (.string (⟨#[]⟩ : ByteArray)) := (blk_cell BK232.out 2).trans rfl
                          have hcz104_3 : w55.cell? ⟨gb232, 3, none⟩ = some (.string (⟨#[]⟩ : ByteArray)) := (blk_cell BK232.out 3).trans rfl
                          have hcz104_4 : w55.cell? ⟨gb232, 4, none⟩ = some (.int .i64 0) := (blk_cell BK232.out 4).trans rfl
                          have hcz104_5 : w55.cell? ⟨gb232, 5, none⟩ = some (.slice none 0 0) := (blk_cell BK232.out 5).trans rfl
                          have hcz104_6 : w55.cell? ⟨gb232, 6, none⟩ = some (.int .u64 0) := (blk_cell BK232.out 6).trans rfl
                          have hfz104_0 := blk_frozen BK232.out 0
                          have hfz104_1 := blk_frozen BK232.out 1
                          have hfz104_2 := blk_frozen BK232.out 2
                          have hfz104_3 := blk_frozen BK232.out 3
                          have hfz104_4 := blk_frozen BK232.out 4
                          have hfz104_5 := blk_frozen BK232.out 5
                          have hfz104_6 := blk_frozen BK232.out 6
                          go_wp2
                          go_meet
                          case rel => exact ⟨_, ((((rd_T38 t207 x6_3).f4) != 0)), (by first | rfl | (simp; done) | (simp [*]; done)), H', ⟨by have := HJ4.out; have := HJ21.out; have := HK3.out; first | omega | exact Nat.le_refl _⟩, ⟨by (with_reducible repeat (first | apply Kd.S_alloc | apply Kd.S_drewN | apply Kd.S_drew)); exact Kd.S_mono (Kd.S_far (p := ⟨gb232, 6, none⟩) (Kd.S_far (p := ⟨gb232, 5, none⟩) (Kd.S_far (p := ⟨gb232, 4, none⟩) (Kd.S_far (p := ⟨gb232, 3, none⟩) (Kd.S_far (p := ⟨gb232, 2, none⟩) (Kd.S_far (p := ⟨gb232, 1, none⟩) (Kd.S_far (p := ⟨gb232, 0, none⟩) (Kd.S_mono HO_214001.out (fun k_ hk => (⟨hk, hk.2⟩ : _ ∧ k_ ≠ gb232))) (fun _ hk => hk.2) (.string ((rd_T38 t207 x6_3).f0))) (fun _ hk => hk.2) (.string ((rd_T38 t207 x6_3).f1))) (fun _ hk => hk.2) (.string ((rd_T38 t207 x6_3).f2))) (fun _ hk => hk.2) (.string ((rd_T38 t207 x6_3).f3))) (fun _ hk => hk.2) (.int .i64 ((rd_T38 t207 x6_3).f4))) (fun _ hk => hk.2) (.slice A231_5 ((rd_T38 t207 x6_3).f5).length c231_5)) (fun _ hk => hk.2) (.int .u64 ((rd_T38 t207 x6_3).f6))) (fun _ hk => ⟨hk.1.1, hk.1.2⟩)⟩, ⟨by (with_reducible repeat (first | apply Kd.R_alloc | apply Kd.R_drewN | apply Kd.R_drew)); exact Kd.R_mono (Kd.R_far (p := ⟨gb232, 6, none⟩) (Kd.R_far (p := ⟨gb232, 5, none⟩) (Kd.R_far (p := ⟨gb232, 4, none⟩) (Kd.R_far (p := ⟨gb232, 3, none⟩) (Kd.R_far (p := ⟨gb232, 2, none⟩) (Kd.R_far (p := ⟨gb232, 1, none⟩) (Kd.R_far (p := ⟨gb232, 0, none⟩) (Kd.R_types HO_214002.out BK232.out (by decide)) (fun _ hk => hk.2) (.string ((rd_T38 t207 x6_3).f0))) (fun _ hk => hk.2) (.string ((rd_T38 t207 x6_3).f1))) (fun _ hk => hk.2) (.string ((rd_T38 t207 x6_3).f2))) (fun _ hk => hk.2) (.string ((rd_T38 t207 x6_3).f3))) (fun _ hk => hk.2) (.int .i64 ((rd_T38 t207 x6_3).f4))) (fun _ hk => hk.2) (.slice A231_5 ((rd_T38 t207 x6_3).f5).length c231_5)) (fun _ hk => hk.2) (.int .u64 ((rd_T38 t207 x6_3).f6))) (fun _ hk => trivial)⟩, ⟨by (repeat (first | (with_reducible first | refine blk_drewN ?_ _ | refine blk_drew ?_ | refine blk_alloc ?_ _) | refine blk_far ?_ NB201_232.out _)); exact BK201.out⟩, ⟨by (repeat (first | (with_reducible first | refine blk_drewN ?_ _ | refine blk_drew ?_ | refine blk_alloc ?_ _) | refine blk_far ?_ NB202_232.out _)); exact BK202.out⟩, ⟨by (repeat (first | (with_reducible first | refine blk_drewN ?_ _ | refine blk_drew ?_ | refine blk_alloc ?_ _) | refine blk_far ?_ NB213_232.out _)); exact BK213.out⟩, ⟨by (with_reducible repeat (first | refine blk_drewN ?_ _ | refine blk_drew ?_ | refine blk_alloc ?_ _)); refine blk_put (cs := #[.string ((rd_T38 t207 x6_3).f0), .string ((rd_T38 t207 x6_3).f1), .string ((rd_T38 t207 x6_3).f2), .string ((rd_T38 t207 x6_3).f3), .int .i64 ((rd_T38 t207 x6_3).f4), .slice A231_5 ((rd_T38 t207 x6_3).f5).length c231_5, .int .u64 0]) ?_ 6 _ rfl; (with_reducible repeat (first | refine blk_drewN ?_ _ | refine blk_drew ?_ | refine blk_alloc ?_ _)); refine blk_put (cs := #[.string ((rd_T38 t207 x6_3).f0), .string ((rd_T38 t207 x6_3).f1), .string ((rd_T38 t207 x6_3).f2), .string ((rd_T38 t207 x6_3).f3), .int .i64 ((rd_T38 t207 x6_3).f4), .slice none 0 0, .int .u64 0]) ?_ 5 _ rfl; (with_reducible repeat (first | refine blk_drewN ?_ _ | refine blk_drew ?_ | refine blk_alloc ?_ _)); refine blk_put (cs := #[.string ((rd_T38 t207 x6_3).f0), .string ((rd_T38 t207 x6_3).f1), .string ((rd_T38 t207 x6_3).f2), .string ((rd_T38 t207 x6_3).f3), .int .i64 0, .slice none 0 0, .int .u64 0]) ?_ 4 _ rfl; (with_reducible repeat (first | refine blk_drewN ?_ _ | refine blk_drew ?_ | refine blk_alloc ?_ _)); refine blk_put (cs := #[.string ((rd_T38 t207 x6_3).f0), .string ((rd_T38 t207 x6_3).f1), .string ((rd_T38 t207 x6_3).f2), .string (⟨#[]⟩ : ByteArray), .int .i64 0, .slice none 0 0, .int .u64 0]) ?_ 3 _ rfl; (with_reducible repeat (first | refine blk_drewN ?_ _ | refine blk_drew ?_ | refine blk_alloc ?_ _)); refine blk_put (cs := #[.string ((rd_T38 t207 x6_3).f0), .string ((rd_T38 t207 x6_3).f1), .string (⟨#[]⟩ : ByteArray), .string (⟨#[]⟩ : ByteArray), .int .i64 0, .slice none 0 0, .int .u64 0]) ?_ 2 _ rfl; (with_reducible repeat (first | refine blk_drewN ?_ _ | refine blk_drew ?_ | refine blk_alloc ?_ _)); refine blk_put (cs := #[.string ((rd_T38 t207 x6_3).f0), .string (⟨#[]⟩ : ByteArray), .string (⟨#[]⟩ : ByteArray), .string (⟨#[]⟩ : ByteArray), .int .i64 0, .slice none 0 0, .int .u64 0]) ?_ 1 _ rfl; (with_reducible repeat (first | refine blk_drewN ?_ _ | refine blk_drew ?_ | refine blk_alloc ?_ _)); refine blk_put (cs := #[.string (⟨#[]⟩ : ByteArray), .string (⟨#[]⟩ : ByteArray), .string (⟨#[]⟩ : ByteArray), .string (⟨#[]⟩ : ByteArray), .int .i64 0, .slice none 0 0, .int .u64 0]) ?_ 0 _ rfl; (with_reducible repeat (first | refine blk_drewN ?_ _ | refine blk_drew ?_ | refine blk_alloc ?_ _)); exact BK232.out⟩, ⟨(Kd.R_reads' (by (with_reducible repeat (first | apply Kd.R_alloc | apply Kd.R_drewN | apply Kd.R_drew)); exact (Kd.R_mono (Kd.R_far (p := ⟨gb232, 6, none⟩) (Kd.R_far (p := ⟨gb232, 5, none⟩) (Kd.R_far (p := ⟨gb232, 4, none⟩) (Kd.R_far (p := ⟨gb232, 3, none⟩) (Kd.R_far (p := ⟨gb232, 2, none⟩) (Kd.R_far (p := ⟨gb232, 1, none⟩) (Kd.R_far (p := ⟨gb232, 0, none⟩) (Kd.R_types HL231_5.out BK232.out (by decide)) (fun _ hk => hk.2) (.string ((rd_T38 t207 x6_3).f0))) (fun _ hk => hk.2) (.string ((rd_T38 t207 x6_3).f1))) (fun _ hk => hk.2) (.string ((rd_T38 t207 x6_3).f2))) (fun _ hk => hk.2) (.string ((rd_T38 t207 x6_3).f3))) (fun _ hk => hk.2) (.int .i64 ((rd_T38 t207 x6_3).f4))) (fun _ hk => hk.2) (.slice A231_5 ((rd_T38 t207 x6_3).f5).length c231_5)) (fun _ hk => hk.2) (.int .u64 ((rd_T38 t207 x6_3).f6))) (fun _ h_ => h_.1)))).2.2⟩, ⟨by repeat (first | (with_reducible first | exact HB.out | apply below_alloc | apply pw_below_drewN | apply below_drew1 | refine below_set ?_ GE201.out | refine below_set ?_ GE202.out | refine below_set ?_ GE213.out | refine below_set ?_ GE232.out) | exact HB.out)⟩⟩
                        · rw [if_neg c97] at H
                          have c97b0 : (((rd_T38 t207 x6_3).f2).toList == ([] : List UInt8)) = false := beq_eq_false_iff_ne.mpr c97
                          have c97b1 : (((rd_T38 t207 x6_3).f2).toList != ([] : List UInt8)) = true := bne_iff_ne.mpr c97
                          have H' := Aside0.mk H
                          clear H
                          have hnb105 := NB201_202.out
                          have hnc105 := NB202_201.out
                          have hnb106 := NB201_213.out
                          have hnc106 := NB213_201.out
                          have hnb107 := NB201_232.out
                          have hnc107 := NB232_201.out
                          have hcz108_0 : w55.cell? ⟨gb201, 0, none⟩ = some (.int .i64 a0_0) := (blk_cell BK201.out 0).trans rfl
                          have hcz108_1 : w55.cell? ⟨gb201, 1, none⟩ = some (.bool a0_1) := (blk_cell BK201.out 1).trans rfl
                          have hcz108_2 : w55.cell? ⟨gb201, 2, none⟩ = some (.slice A0_2 l0_2.length c0_2) := (blk_cell BK201.out 2).trans rfl
                          have hcz108_3 : w55.cell? ⟨gb201, 3, none⟩ = some (.bool false) := (blk_cell BK201.out 3).trans rfl
                          have hcz108_4 : w55.cell? ⟨gb201, 4, none⟩ = some (.bool false) := (blk_cell BK201.out 4).trans rfl
                          have hfz108_0 := blk_frozen BK201.out 0
                          have hfz108_1 := blk_frozen BK201.out 1
                          have hfz108_2 := blk_frozen BK201.out 2
                          have hfz108_3 := blk_frozen BK201.out 3
                          have hfz108_4 := blk_frozen BK201.out 4
                          have hnb109 := NB232_202.out
                          have hnc109 := NB202_232.out
                          have hnb110 := NB232_213.out
                          have hnc110 := NB213_232.out
                          have hcz111_0 : w55.cell? ⟨gb232, 0, none⟩ = some (.string (⟨#[]⟩ : ByteArray)) := (blk_cell BK232.out 0).trans rfl
                          have hcz111_1 : w55.cell? ⟨gb232, 1, none⟩ = some (.string (⟨#[]⟩ : ByteArray)) := (blk_cell BK232.out 1).trans rfl
                          have hcz111_2 : w55.cell? ⟨gb232, 2, none⟩ = some (.string (⟨#[]⟩ : ByteArray)) := (blk_cell BK232.out 2).trans rfl
                          have hcz111_3 : w55.cell? ⟨gb232, 3, none⟩ = some (.string (⟨#[]⟩ : ByteArray)) := (blk_cell BK232.out 3).trans rfl
                          have hcz111_4 : w55.cell? ⟨gb232, 4, none⟩ = some (.int .i64 0) := (blk_cell BK232.out 4).trans rfl
                          have hcz111_5 : w55.cell? ⟨gb232, 5, none⟩ = some (.slice none 0 0) := (blk_cell BK232.out 5).trans rfl
                          have hcz111_6 : w55.cell? ⟨gb232, 6, none⟩ = some (.int .u64 0) := (blk_cell BK232.out 6).trans rfl
                          have hfz111_0 := blk_frozen BK232.out 0
                          have hfz111_1 := blk_frozen BK232.out 1
                          have hfz111_2 := blk_frozen BK232.out 2
                          have hfz111_3 := blk_frozen BK232.out 3
                          have hfz111_4 := blk_frozen BK232.out 4
                          have hfz111_5 := blk_frozen BK232.out 5
                          have hfz111_6 := blk_frozen BK232.out 6
                          go_wp2
                          go_meet
                          case rel => exact ⟨_, (true), (by first | rfl | (simp; done) | (simp [*]; done)), H', ⟨by have := HJ4.out; have := HJ21.out; have := HK3.out; first | omega | exact Nat.le_refl _⟩, ⟨by (with_reducible repeat (first | apply Kd.S_alloc | apply Kd.S_drewN | apply Kd.S_drew)); exact Kd.S_mono (Kd.S_far (p := ⟨gb232, 6, none⟩) (Kd.S_far (p := ⟨gb232, 5, none⟩) (Kd.S_far (p := ⟨gb232, 4, none⟩) (Kd.S_far (p := ⟨gb232, 3, none⟩) (Kd.S_far (p := ⟨gb232, 2, none⟩) (Kd.S_far (p := ⟨gb232, 1, none⟩) (Kd.S_far (p := ⟨gb232, 0, none⟩) (Kd.S_mono HO_214001.out (fun k_ hk => (⟨hk, hk.2⟩ : _ ∧ k_ ≠ gb232))) (fun _ hk => hk.2) (.string ((rd_T38 t207 x6_3).f0))) (fun _ hk => hk.2) (.string ((rd_T38 t207 x6_3).f1))) (fun _ hk => hk.2) (.string ((rd_T38 t207 x6_3).f2))) (fun _ hk => hk.2) (.string ((rd_T38 t207 x6_3).f3))) (fun _ hk => hk.2) (.int .i64 ((rd_T38 t207 x6_3).f4))) (fun _ hk => hk.2) (.slice A231_5 ((rd_T38 t207 x6_3).f5).length c231_5)) (fun _ hk => hk.2) (.int .u64 ((rd_T38 t207 x6_3).f6))) (fun _ hk => ⟨hk.1.1, hk.1.2⟩)⟩, ⟨by (with_reducible repeat (first | apply Kd.R_alloc | apply Kd.R_drewN | apply Kd.R_drew)); exact Kd.R_mono (Kd.R_far (p := ⟨gb232, 6, none⟩) (Kd.R_far (p := ⟨gb232, 5, none⟩) (Kd.R_far (p := ⟨gb232, 4, none⟩) (Kd.R_far (p := ⟨gb232, 3, none⟩) (Kd.R_far (p := ⟨gb232, 2, none⟩) (Kd.R_far (p := ⟨gb232, 1, none⟩) (Kd.R_far (p := ⟨gb232, 0, none⟩) (Kd.R_types HO_214002.out BK232.out (by decide)) (fun _ hk => hk.2) (.string ((rd_T38 t207 x6_3).f0))) (fun _ hk => hk.2) (.string ((rd_T38 t207 x6_3).f1))) (fun _ hk => hk.2) (.string ((rd_T38 t207 x6_3).f2))) (fun _ hk => hk.2) (.string ((rd_T38 t207 x6_3).f3))) (fun _ hk => hk.2) (.int .i64 ((rd_T38 t207 x6_3).f4))) (fun _ hk => hk.2) (.slice A231_5 ((rd_T38 t207 x6_3).f5).length c231_5)) (fun _ hk => hk.2) (.int .u64 ((rd_T38 t207 x6_3).f6))) (fun _ hk => trivial)⟩, ⟨by (repeat (first | (with_reducible first | refine blk_drewN ?_ _ | refine blk_drew ?_ | refine blk_alloc ?_ _) | refine blk_far ?_ NB201_232.out _)); exact BK201.out⟩, ⟨by (repeat (first | (with_reducible first | refine blk_drewN ?_ _ | refine blk_drew ?_ | refine blk_alloc ?_ _) | refine blk_far ?_ NB202_232.out _)); exact BK202.out⟩, ⟨by (repeat (first | (with_reducible first | refine blk_drewN ?_ _ | refine blk_drew ?_ | refine blk_alloc ?_ _) | refine blk_far ?_ NB213_232.out _)); exact BK213.out⟩, ⟨by (with_reducible repeat (first | refine blk_drewN ?_ _ | refine blk_drew ?_ | refine blk_alloc ?_ _)); refine blk_put (cs := #[.string ((rd_T38 t207 x6_3).f0), .string ((rd_T38 t207 x6_3).f1), .string ((rd_T38 t207 x6_3).f2), .string ((rd_T38 t207 x6_3).f3), .int .i64 ((rd_T38 t207 x6_3).f4), .slice A231_5 ((rd_T38 t207 x6_3).f5).length c231_5, .int .u64 0]) ?_ 6 _ rfl; (with_reducible repeat (first | refine blk_drewN ?_ _ | refine blk_drew ?_ | refine blk_alloc ?_ _)); refine blk_put (cs := #[.string ((rd_T38 t207 x6_3).f0), .string ((rd_T38 t207 x6_3).f1), .string ((rd_T38 t207 x6_3).f2), .string ((rd_T38 t207 x6_3).f3), .int .i64 ((rd_T38 t207 x6_3).f4), .slice none 0 0, .int .u64 0]) ?_ 5 _ rfl; (with_reducible repeat (first | refine blk_drewN ?_ _ | refine blk_drew ?_ | refine blk_alloc ?_ _)); refine blk_put (cs := #[.string ((rd_T38 t207 x6_3).f0), .string ((rd_T38 t207 x6_3).f1), .string ((rd_T38 t207 x6_3).f2), .string ((rd_T38 t207 x6_3).f3), .int .i64 0, .slice none 0 0, .int .u64 0]) ?_ 4 _ rfl; (with_reducible repeat (first | refine blk_drewN ?_ _ | refine blk_drew ?_ | refine blk_alloc ?_ _)); refine blk_put (cs := #[.string ((rd_T38 t207 x6_3).f0), .string ((rd_T38 t207 x6_3).f1), .string ((rd_T38 t207 x6_3).f2), .string (⟨#[]⟩ : ByteArray), .int .i64 0, .slice none 0 0, .int .u64 0]) ?_ 3 _ rfl; (with_reducible repeat (first | refine blk_drewN ?_ _ | refine blk_drew ?_ | refine blk_alloc ?_ _)); refine blk_put (cs := #[.string ((rd_T38 t207 x6_3).f0), .string ((rd_T38 t207 x6_3).f1), .string (⟨#[]⟩ : ByteArray), .string (⟨#[]⟩ : ByteArray), .int .i64 0, .slice none 0 0, .int .u64 0]) ?_ 2 _ rfl; (with_reducible repeat (first | refine blk_drewN ?_ _ | refine blk_drew ?_ | refine blk_alloc ?_ _)); refine blk_put (cs := #[.string ((rd_T38 t207 x6_3).f0), .string (⟨#[]⟩ : ByteArray), .string (⟨#[]⟩ : ByteArray), .string (⟨#[]⟩ : ByteArray), .int .i64 0, .slice none 0 0, .int .u64 0]) ?_ 1 _ rfl; (with_reducible repeat (first | refine blk_drewN ?_ _ | refine blk_drew ?_ | refine blk_alloc ?_ _)); refine blk_put (cs := #[.string (⟨#[]⟩ : ByteArray), .string (⟨#[]⟩ : ByteArray), .string (⟨#[]⟩ : ByteArray), .string (⟨#[]⟩ : ByteArray), .int .i64 0, .slice none 0 0, .int .u64 0]) ?_ 0 _ rfl; (with_reducible repeat (first | refine blk_drewN ?_ _ | refine blk_drew ?_ | refine blk_alloc ?_ _)); exact BK232.out⟩, ⟨(Kd.R_reads' (by (with_reducible repeat (first | apply Kd.R_alloc | apply Kd.R_drewN | apply Kd.R_drew)); exact (Kd.R_mono (Kd.R_far (p := ⟨gb232, 6, none⟩) (Kd.R_far (p := ⟨gb232, 5, none⟩) (Kd.R_far (p := ⟨gb232, 4, none⟩) (Kd.R_far (p := ⟨gb232, 3, none⟩) (Kd.R_far (p := ⟨gb232, 2, none⟩) (Kd.R_far (p := ⟨gb232, 1, none⟩) (Kd.R_far (p := ⟨gb232, 0, none⟩) (Kd.R_types HL231_5.out BK232.out (by decide)) (fun _ hk => hk.2) (.string ((rd_T38 t207 x6_3).f0))) (fun _ hk => hk.2) (.string ((rd_T38 t207 x6_3).f1))) (fun _ hk => hk.2) (.string ((rd_T38 t207 x6_3).f2))) (fun _ hk => hk.2) (.string ((rd_T38 t207 x6_3).f3))) (fun _ hk => hk.2) (.int .i64 ((rd_T38 t207 x6_3).f4))) (fun _ hk => hk.2) (.slice A231_5 ((rd_T38 t207 x6_3).f5).length c231_5)) (fun _ hk => hk.2) (.int .u64 ((rd_T38 t207 x6_3).f6))) (fun _ h_ => h_.1)))).2.2⟩, ⟨by repeat (first | (with_reducible first | exact HB.out | apply below_alloc | apply pw_below_drewN | apply below_drew1 | refine below_set ?_ GE201.out | refine below_set ?_ GE202.out | refine below_set ?_ GE213.out | refine below_set ?_ GE232.out) | exact HB.out)⟩⟩
                case rest =>
                  clear HC51
                  try clear c1
                  try clear c2
                  try clear p2
                  try clear q2
                  try clear hx2
                  try clear c3
                  try clear c4
                  try clear c5
                  try clear c6
                  try clear c7
                  try clear c8
                  try clear c9
                  try clear c10
                  try clear c11
                  try clear c12
                  try clear c17
                  try clear c20
                  try clear c23
                  try clear p23
                  try clear q23
                  try clear hx23
                  try clear c28
                  try clear c29
                  try clear c35
                  try clear c48
                  try clear c49
                  try clear c49b0
                  try clear c50
                  try clear c50b0
                  try clear c52
                  try clear c53
                  try clear c56
                  try clear c57
                  try clear c58
                  try clear c60
                  try clear c61
                  try clear c62
                  try clear c63
                  try clear c64
                  try clear c66
                  try clear c66b0
                  try clear c66b1
                  try clear c67
                  try clear c68
                  try clear c69
                  try clear c71
                  try clear c72
                  try clear c74
                  try clear c75
                  try clear c76
                  try clear c78
                  try clear c79
                  try clear c81
                  try clear c81b0
                  try clear c81b1
                  try clear c82
                  try clear c83
                  try clear c84
                  try clear c86
                  try clear c87
                  try clear c89
                  try clear c90
                  try clear c91
                  try clear c92
                  try clear c94
                  try clear c95
                  try clear c97
                  try clear c97b0
                  try clear c97b1
                  try clear c98
                  try clear c99
                  try clear c100
                  try clear c102
                  try clear c103
                  try clear c105
                  try clear c106
                  try clear c107
                  try clear c109
                  try clear c110
                  try clear hcz101_0
                  try clear hcz101_1
                  try clear hcz101_2
                  try clear hcz101_3
                  try clear hcz101_4
                  try clear hcz104_0
                  try clear hcz104_1
                  try clear hcz104_2
                  try clear hcz104_3
                  try clear hcz104_4
                  try clear hcz104_5
                  try clear hcz104_6
                  try clear hcz108_0
                  try clear hcz108_1
                  try clear hcz108_2
                  try clear hcz108_3
                  try clear hcz108_4
                  try clear hcz111_0
                  try clear hcz111_1
                  try clear hcz111_2
                  try clear hcz111_3
                  try clear hcz111_4
                  try clear hcz111_5
                  try clear hcz111_6
                  try clear hcz13_0
                  try clear hcz13_1
                  try clear hcz13_2
                  try clear hcz15_0
                  try clear hcz15_1
                  try clear hcz15_2
                  try clear hcz15_3
                  try clear hcz15_4
                  try clear hcz18_0
                  try clear hcz18_1
                  try clear hcz18_2
                  try clear hcz24_0
                  try clear hcz24_1
                  try clear hcz24_2
                  try clear hcz24_3
                  try clear hcz24_4
                  try clear hcz25_0
                  try clear hcz25_1
                  try clear hcz25_2
                  try clear hcz30_0
                  try clear hcz30_1
                  try clear hcz30_2
                  try clear hcz54_0
                  try clear hcz54_1
                  try clear hcz54_2
                  try clear hcz59_0
                  try clear hcz59_1
                  try clear hcz59_2
                  try clear hcz59_3
                  try clear hcz59_4
                  try clear hcz59_5
                  try clear hcz59_6
                  try clear hcz65_0
                  try clear hcz65_1
                  try clear hcz65_2
                  try clear hcz65_3
                  try clear hcz65_4
                  try clear hcz70_0
                  try clear hcz70_1
                  try clear hcz70_2
                  try clear hcz70_3
                  try clear hcz70_4
                  try clear hcz73_0
                  try clear hcz73_1
                  try clear hcz73_2
                  try clear hcz73_3
                  try clear hcz73_4
                  try clear hcz73_5
                  try clear hcz73_6
                  try clear hcz77_0
                  try clear hcz77_1
                  try clear hcz77_2
                  try clear hcz77_3
                  try clear hcz77_4
                  try clear hcz80_0
                  try clear hcz80_1
                  try clear hcz80_2
                  try clear hcz80_3
                  try clear hcz80_4
                  try clear hcz80_5
                  try clear hcz80_6
                  try clear hcz85_0
                  try clear hcz85_1
                  try clear hcz85_2
                  try clear hcz85_3
                  try clear hcz85_4
                  try clear hcz88_0
                  try clear hcz88_1
                  try clear hcz88_2
                  try clear hcz88_3
                  try clear hcz88_4
                  try clear hcz88_5
                  try clear hcz88_6
                  try clear hcz93_0
                  try clear hcz93_1
                  try clear hcz93_2
                  try clear hcz93_3
                  try clear hcz93_4
                  try clear hcz96_0
                  try clear hcz96_1
                  try clear hcz96_2
                  try clear hcz96_3
                  try clear hcz96_4
                  try clear hcz96_5
                  try clear hcz96_6
                  try clear hfz101_0
                  try clear hfz101_1
                  try clear hfz101_2
                  try clear hfz101_3
                  try clear hfz101_4
                  try clear hfz104_0
                  try clear hfz104_1
                  try clear hfz104_2
                  try clear hfz104_3
                  try clear hfz104_4
                  try clear hfz104_5
                  try clear hfz104_6
                  try clear hfz108_0
                  try clear hfz108_1
                  try clear hfz108_2
                  try clear hfz108_3
                  try clear hfz108_4
                  try clear hfz111_0
                  try clear hfz111_1
                  try clear hfz111_2
                  try clear hfz111_3
                  try clear hfz111_4
                  try clear hfz111_5
                  try clear hfz111_6
                  try clear hfz13_0
                  try clear hfz13_1
                  try clear hfz13_2
                  try clear hfz15_0
                  try clear hfz15_1
                  try clear hfz15_2
                  try clear hfz15_3
                  try clear hfz15_4
                  try clear hfz18_0
                  try clear hfz18_1
                  try clear hfz18_2
                  try clear hfz24_0
                  try clear hfz24_1
                  try clear hfz24_2
                  try clear hfz24_3
                  try clear hfz24_4
                  try clear hfz25_0
                  try clear hfz25_1
                  try clear hfz25_2
                  try clear hfz30_0
                  try clear hfz30_1
                  try clear hfz30_2
                  try clear hfz54_0
                  try clear hfz54_1
                  try clear hfz54_2
                  try clear hfz59_0
                  try clear hfz59_1
                  try clear hfz59_2
                  try clear hfz59_3
                  try clear hfz59_4
                  try clear hfz59_5
                  try clear hfz59_6
                  try clear hfz65_0
                  try clear hfz65_1
                  try clear hfz65_2
                  try clear hfz65_3
                  try clear hfz65_4
                  try clear hfz70_0
                  try clear hfz70_1
                  try clear hfz70_2
                  try clear hfz70_3
                  try clear hfz70_4
                  try clear hfz73_0
                  try clear hfz73_1
                  try clear hfz73_2
                  try clear hfz73_3
                  try clear hfz73_4
                  try clear hfz73_5
                  try clear hfz73_6
                  try clear hfz77_0
                  try clear hfz77_1
                  try clear hfz77_2
                  try clear hfz77_3
                  try clear hfz77_4
                  try clear hfz80_0
                  try clear hfz80_1
                  try clear hfz80_2
                  try clear hfz80_3
                  try clear hfz80_4
                  try clear hfz80_5
                  try clear hfz80_6
                  try clear hfz85_0
                  try clear hfz85_1
                  try clear hfz85_2
                  try clear hfz85_3
                  try clear hfz85_4
                  try clear hfz88_0
                  try clear hfz88_1
                  try clear hfz88_2
                  try clear hfz88_3
                  try clear hfz88_4
                  try clear hfz88_5
                  try clear hfz88_6
                  try clear hfz93_0
                  try clear hfz93_1
                  try clear hfz93_2
                  try clear hfz93_3
                  try clear hfz93_4
                  try clear hfz96_0
                  try clear hfz96_1
                  try clear hfz96_2
                  try clear hfz96_3
                  try clear hfz96_4
                  try clear hfz96_5
                  try clear hfz96_6
                  try clear hx231_0
                  try clear hx231_1
                  try clear hx231_2
                  try clear hx231_3
                  try clear hx231_4
                  try clear hx231_5
                  try clear hx231_6
                  try clear p2
                  try clear p231
                  try clear q231
                  obtain ⟨kq, x70_50, rfl, HA, HJ50, HO_214001, HO_214002, BK201, BK202, BK213, BK232, HR231_5, HB⟩ := hcut
                  cases kq with
                  | zero => exact absurd HA.out (by simp [watchbilllaw23_FilterAgain.j3])
                  | succ kj50 =>
                    have H := HA.out
                    clear HA
                    simp only [watchbilllaw23_FilterAgain.j3] at H
                    by_cases c112 : x70_50 = true
                    · subst c112
                      have H1 : (none) = some r := by rw [if_pos rfl] at H; exact H
                      clear H
                      have H := H1
                      clear H1
                      exact absurd H (by simp)
                    replace c112 := Bool.eq_false_iff.mpr c112
                    subst c112
                    have H1 : (if a0_1 = true then (watchbilllaw23_FilterAgain.j4 kj50 x6_3 true a0_0 a0_1 l0_2 a0_3 a0_4 a1_0 l1_1 l1_2 t206 t207 t210 ((rd_T38 t207 x6_3).f0) ((rd_T38 t207 x6_3).f1) ((rd_T38 t207 x6_3).f2) ((rd_T38 t207 x6_3).f3) ((rd_T38 t207 x6_3).f4) ((rd_T38 t207 x6_3).f6)) else (watchbilllaw23_FilterAgain.j4 kj50 x6_3 (a0_0 != 3) a0_0 a0_1 l0_2 a0_3 a0_4 a1_0 l1_1 l1_2 t206 t207 t210 ((rd_T38 t207 x6_3).f0) ((rd_T38 t207 x6_3).f1) ((rd_T38 t207 x6_3).f2) ((rd_T38 t207 x6_3).f3) ((rd_T38 t207 x6_3).f4) ((rd_T38 t207 x6_3).f6))) = some r := by rw [if_neg (show ¬ (false = true) by decide)] at H; exact H
                    clear H
                    have H := H1
                    clear H1
                    have HC113 := Aside0.mk H
                    clear H
                    go_upto_region 14 with (fail)
                    go_cut [8] (fun v8 wc => ∃ (kq : Nat) (x8_112 : Bool), v8 = .bool x8_112 ∧ Aside0 (watchbilllaw23_FilterAgain.j4 kq x6_3 x8_112 a0_0 a0_1 l0_2 a0_3 a0_4 a1_0 l1_1 l1_2 t206 t207 t210 ((rd_T38 t207 x6_3).f0) ((rd_T38 t207 x6_3).f1) ((rd_T38 t207 x6_3).f2) ((rd_T38 t207 x6_3).f3) ((rd_T38 t207 x6_3).f4) ((rd_T38 t207 x6_3).f6) = some r) ∧ Aside0 (kq ≤ kj50) ∧ Aside0 (Kd.S k38 38 wc w.heap.size (fun k_ => some k_ ≠ ((.slice Ao32 t210.length co32) : Value).ownBlock ∧ k_ ≠ gb232) (.slice (some ad231) t207.length co31) t207) ∧ Aside0 (Kd.R Kd.string 9 wc w.heap.size (fun _ => True) (.slice Ao32 t210.length co32) t210) ∧ Aside0 (wc.heap[gb201]? = some (.cells #[.int .i64 a0_0, .bool a0_1, (.slice A0_2 l0_2.length c0_2), .bool a0_3, .bool a0_4] 24 (0, 0))) ∧ Aside0 (wc.heap[gb202]? = some (.cells #[.string a1_0, (.slice A1_1 l1_1.length c1_1), (.slice A1_2 l1_2.length c1_2)] 27 (0, 0))) ∧ Aside0 (wc.heap[gb213]? = some (.cells #[.string t206, (.slice (some ad231) t207.length co31), (.slice Ao32 t210.length co32)] 27 (0, 0))) ∧ Aside0 (wc.heap[gb232]? = some (.cells #[.string ((rd_T38 t207 x6_3).f0), .string ((rd_T38 t207 x6_3).f1), .string ((rd_T38 t207 x6_3).f2), .string ((rd_T38 t207 x6_3).f3), .int .i64 ((rd_T38 t207 x6_3).f4), (.slice A231_5 ((rd_T38 t207 x6_3).f5).length c231_5), .int .u64 ((rd_T38 t207 x6_3).f6)] 38 (0, 0))) ∧ Aside0 (Kd.C Kd.string wc A231_5 ((rd_T38 t207 x6_3).f5).length ((rd_T38 t207 x6_3).f5)) ∧ Aside0 (Below w.heap.size w wc))
                    case first =>
                      have H := HC113.out
                      clear HC113
                      by_cases c114 : a0_1 = true
                      · subst c114
                        have H1 : (watchbilllaw23_FilterAgain.j4 kj50 x6_3 true a0_0 true l0_2 a0_3 a0_4 a1_0 l1_1 l1_2 t206 t207 t210 ((rd_T38 t207 x6_3).f0) ((rd_T38 t207 x6_3).f1) ((rd_T38 t207 x6_3).f2) ((rd_T38 t207 x6_3).f3) ((rd_T38 t207 x6_3).f4) ((rd_T38 t207 x6_3).f6)) = some r := by rw [if_pos rfl] at H; exact H
                        clear H
                        have H := H1
                        clear H1
                        have H' := Aside0.mk H
                        clear H
                        have hnb115 := NB201_202.out
                        have hnc115 := NB202_201.out
                        have hnb116 := NB201_213.out
                        have hnc116 := NB213_201.out
                        have hnb117 := NB201_232.out
                        have hnc117 := NB232_201.out
                        have hcz118_0 : wc.cell? ⟨gb201, 0, none⟩ = some (.int .i64 a0_0) := (blk_cell BK201.out 0).trans rfl
                        have hcz118_1 : wc.cell? ⟨gb201, 1, none⟩ = some (.bool true) := (blk_cell BK201.out 1).trans rfl
                        have hcz118_2 : wc.cell? ⟨gb201, 2, none⟩ = some (.slice A0_2 l0_2.length c0_2) := (blk_cell BK201.out 2).trans rfl
                        have hcz118_3 : wc.cell? ⟨gb201, 3, none⟩ = some (.bool a0_3) := (blk_cell BK201.out 3).trans rfl
                        have hcz118_4 : wc.cell? ⟨gb201, 4, none⟩ = some (.bool a0_4) := (blk_cell BK201.out 4).trans rfl
                        have hfz118_0 := blk_frozen BK201.out 0
                        have hfz118_1 := blk_frozen BK201.out 1
                        have hfz118_2 := blk_frozen BK201.out 2
                        have hfz118_3 := blk_frozen BK201.out 3
                        have hfz118_4 := blk_frozen BK201.out 4
                        go_wp2
                        go_meet
                        case rel => exact ⟨_, (true), (by first | rfl | (simp; done) | (simp [*]; done)), H', ⟨by have := HJ4.out; have := HJ21.out; have := HK3.out; have := HJ50.out; first | omega | exact Nat.le_refl _⟩, ⟨by (with_reducible repeat (first | apply Kd.S_alloc | apply Kd.S_drewN | apply Kd.S_drew)); exact HO_214001.out⟩, ⟨by (with_reducible repeat (first | apply Kd.R_alloc | apply Kd.R_drewN | apply Kd.R_drew)); exact HO_214002.out⟩, ⟨by (with_reducible repeat (first | refine blk_drewN ?_ _ | refine blk_drew ?_ | refine blk_alloc ?_ _)); exact BK201.out⟩, ⟨by (with_reducible repeat (first | refine blk_drewN ?_ _ | refine blk_drew ?_ | refine blk_alloc ?_ _)); exact BK202.out⟩, ⟨by (with_reducible repeat (first | refine blk_drewN ?_ _ | refine blk_drew ?_ | refine blk_alloc ?_ _)); exact BK213.out⟩, ⟨by (with_reducible repeat (first | refine blk_drewN ?_ _ | refine blk_drew ?_ | refine blk_alloc ?_ _)); exact BK232.out⟩, ⟨by repeat (first | (with_reducible exact HR231_5.out) | (with_reducible refine Kd.C_alloc ?_ _) | (with_reducible refine Kd.C_drewN ?_ _) | (with_reducible refine Kd.C_drew ?_) | exact HR231_5.out)⟩, ⟨by repeat (first | (with_reducible first | exact HB.out | apply below_alloc | apply pw_below_drewN | apply below_drew1 | refine below_set ?_ GE201.out | refine below_set ?_ GE202.out | refine below_set ?_ GE213.out | refine below_set ?_ GE232.out) | exact HB.out)⟩⟩
                      · replace c114 := Bool.eq_false_iff.mpr c114
                        subst c114
                        have H1 : (watchbilllaw23_FilterAgain.j4 kj50 x6_3 (a0_0 != 3) a0_0 false l0_2 a0_3 a0_4 a1_0 l1_1 l1_2 t206 t207 t210 ((rd_T38 t207 x6_3).f0) ((rd_T38 t207 x6_3).f1) ((rd_T38 t207 x6_3).f2) ((rd_T38 t207 x6_3).f3) ((rd_T38 t207 x6_3).f4) ((rd_T38 t207 x6_3).f6)) = some r := by rw [if_neg (show ¬ (false = true) by decide)] at H; exact H
                        clear H
                        have H := H1
                        clear H1
                        have H' := Aside0.mk H
                        clear H
                        have hnb119 := NB201_202.out
                        have hnc119 := NB202_201.out
                        have hnb120 := NB201_213.out
                        have hnc120 := NB213_201.out
                        have hnb121 := NB201_232.out
                        have hnc121 := NB232_201.out
                        have hcz122_0 : wc.cell? ⟨gb201, 0, none⟩ = some (.int .i64 a0_0) := (blk_cell BK201.out 0).trans rfl
                        have hcz122_1 : wc.cell? ⟨gb201, 1, none⟩ = some (.bool false) := (blk_cell BK201.out 1).trans rfl
                        have hcz122_2 : wc.cell? ⟨gb201, 2, none⟩ = some (.slice A0_2 l0_2.length c0_2) := (blk_cell BK201.out 2).trans rfl
                        have hcz122_3 : wc.cell? ⟨gb201, 3, none⟩ = some (.bool a0_3) := (blk_cell BK201.out 3).trans rfl
                        have hcz122_4 : wc.cell? ⟨gb201, 4, none⟩ = some (.bool a0_4) := (blk_cell BK201.out 4).trans rfl
                        have hfz122_0 := blk_frozen BK201.out 0
                        have hfz122_1 := blk_frozen BK201.out 1
                        have hfz122_2 := blk_frozen BK201.out 2
                        have hfz122_3 := blk_frozen BK201.out 3
                        have hfz122_4 := blk_frozen BK201.out 4
                        go_wp2
                        go_meet
                        case rel => exact ⟨_, ((a0_0 != 3)), (by first | rfl | (simp; done) | (simp [*]; done)), H', ⟨by have := HJ4.out; have := HJ21.out; have := HK3.out; have := HJ50.out; first | omega | exact Nat.le_refl _⟩, ⟨by (with_reducible repeat (first | apply Kd.S_alloc | apply Kd.S_drewN | apply Kd.S_drew)); exact HO_214001.out⟩, ⟨by (with_reducible repeat (first | apply Kd.R_alloc | apply Kd.R_drewN | apply Kd.R_drew)); exact HO_214002.out⟩, ⟨by (with_reducible repeat (first | refine blk_drewN ?_ _ | refine blk_drew ?_ | refine blk_alloc ?_ _)); exact BK201.out⟩, ⟨by (with_reducible repeat (first | refine blk_drewN ?_ _ | refine blk_drew ?_ | refine blk_alloc ?_ _)); exact BK202.out⟩, ⟨by (with_reducible repeat (first | refine blk_drewN ?_ _ | refine blk_drew ?_ | refine blk_alloc ?_ _)); exact BK213.out⟩, ⟨by (with_reducible repeat (first | refine blk_drewN ?_ _ | refine blk_drew ?_ | refine blk_alloc ?_ _)); exact BK232.out⟩, ⟨by repeat (first | (with_reducible exact HR231_5.out) | (with_reducible refine Kd.C_alloc ?_ _) | (with_reducible refine Kd.C_drewN ?_ _) | (with_reducible refine Kd.C_drew ?_) | exact HR231_5.out)⟩, ⟨by repeat (first | (with_reducible first | exact HB.out | apply below_alloc | apply pw_below_drewN | apply below_drew1 | refine below_set ?_ GE201.out | refine below_set ?_ GE202.out | refine below_set ?_ GE213.out | refine below_set ?_ GE232.out) | exact HB.out)⟩⟩
                    case rest =>
                      clear HC113
                      try clear c1
                      try clear c2
                      try clear p2
                      try clear q2
                      try clear hx2
                      try clear c3
                      try clear c4
                      try clear c5
                      try clear c6
                      try clear c7
                      try clear c8
                      try clear c9
                      try clear c10
                      try clear c11
                      try clear c12
                      try clear c17
                      try clear c20
                      try clear c23
                      try clear p23
                      try clear q23
                      try clear hx23
                      try clear c28
                      try clear c29
                      try clear c35
                      try clear c48
                      try clear c49
                      try clear c49b0
                      try clear c50
                      try clear c50b0
                      try clear c52
                      try clear c53
                      try clear c56
                      try clear c57
                      try clear c58
                      try clear c60
                      try clear c61
                      try clear c62
                      try clear c63
                      try clear c64
                      try clear c66
                      try clear c66b0
                      try clear c66b1
                      try clear c67
                      try clear c68
                      try clear c69
                      try clear c71
                      try clear c72
                      try clear c74
                      try clear c75
                      try clear c76
                      try clear c78
                      try clear c79
                      try clear c81
                      try clear c81b0
                      try clear c81b1
                      try clear c82
                      try clear c83
                      try clear c84
                      try clear c86
                      try clear c87
                      try clear c89
                      try clear c90
                      try clear c91
                      try clear c92
                      try clear c94
                      try clear c95
                      try clear c97
                      try clear c97b0
                      try clear c97b1
                      try clear c98
                      try clear c99
                      try clear c100
                      try clear c102
                      try clear c103
                      try clear c105
                      try clear c106
                      try clear c107
                      try clear c109
                      try clear c110
                      try clear c112
                      try clear c114
                      try clear c115
                      try clear c116
                      try clear c117
                      try clear c119
                      try clear c120
                      try clear c121
                      try clear hcz101_0
                      try clear hcz101_1
                      try clear hcz101_2
                      try clear hcz101_3
                      try clear hcz101_4
                      try clear hcz104_0
                      try clear hcz104_1
                      try clear hcz104_2
                      try clear hcz104_3
                      try clear hcz104_4
                      try clear hcz104_5
                      try clear hcz104_6
                      try clear hcz108_0
                      try clear hcz108_1
                      try clear hcz108_2
                      try clear hcz108_3
                      try clear hcz108_4
                      try clear hcz111_0
                      try clear hcz111_1
                      try clear hcz111_2
                      try clear hcz111_3
                      try clear hcz111_4
                      try clear hcz111_5
                      try clear hcz111_6
                      try clear hcz118_0
                      try clear hcz118_1
                      try clear hcz118_2
                      try clear hcz118_3
                      try clear hcz118_4
                      try clear hcz122_0
                      try clear hcz122_1
                      try clear hcz122_2
                      try clear hcz122_3
                      try clear hcz122_4
                      try clear hcz13_0
                      try clear hcz13_1
                      try clear hcz13_2
                      try clear hcz15_0
                      try clear hcz15_1
                      try clear hcz15_2
                      try clear hcz15_3
                      try clear hcz15_4
                      try clear hcz18_0
                      try clear hcz18_1
                      try clear hcz18_2
                      try clear hcz24_0
                      try clear hcz24_1
                      try clear hcz24_2
                      try clear hcz24_3
                      try clear hcz24_4
                      try clear hcz25_0
                      try clear hcz25_1
                      try clear hcz25_2
                      try clear hcz30_0
                      try clear hcz30_1
                      try clear hcz30_2
                      try clear hcz54_0
                      try clear hcz54_1
                      try clear hcz54_2
                      try clear hcz59_0
                      try clear hcz59_1
                      try clear hcz59_2
                      try clear hcz59_3
                      try clear hcz59_4
                      try clear hcz59_5
                      try clear hcz59_6
                      try clear hcz65_0
                      try clear hcz65_1
                      try clear hcz65_2
                      try clear hcz65_3
                      try clear hcz65_4
                      try clear hcz70_0
                      try clear hcz70_1
                      try clear hcz70_2
                      try clear hcz70_3
                      try clear hcz70_4
                      try clear hcz73_0
                      try clear hcz73_1
                      try clear hcz73_2
                      try clear hcz73_3
                      try clear hcz73_4
                      try clear hcz73_5
                      try clear hcz73_6
                      try clear hcz77_0
                      try clear hcz77_1
                      try clear hcz77_2
                      try clear hcz77_3
                      try clear hcz77_4
                      try clear hcz80_0
                      try clear hcz80_1
                      try clear hcz80_2
                      try clear hcz80_3
                      try clear hcz80_4
                      try clear hcz80_5
                      try clear hcz80_6
                      try clear hcz85_0
                      try clear hcz85_1
                      try clear hcz85_2
                      try clear hcz85_3
                      try clear hcz85_4
                      try clear hcz88_0
                      try clear hcz88_1
                      try clear hcz88_2
                      try clear hcz88_3
                      try clear hcz88_4
                      try clear hcz88_5
                      try clear hcz88_6
                      try clear hcz93_0
                      try clear hcz93_1
                      try clear hcz93_2
                      try clear hcz93_3
                      try clear hcz93_4
                      try clear hcz96_0
                      try clear hcz96_1
                      try clear hcz96_2
                      try clear hcz96_3
                      try clear hcz96_4
                      try clear hcz96_5
                      try clear hcz96_6
                      try clear hfz101_0
                      try clear hfz101_1
                      try clear hfz101_2
                      try clear hfz101_3
                      try clear hfz101_4
                      try clear hfz104_0
                      try clear hfz104_1
                      try clear hfz104_2
                      try clear hfz104_3
                      try clear hfz104_4
                      try clear hfz104_5
                      try clear hfz104_6
                      try clear hfz108_0
                      try clear hfz108_1
                      try clear hfz108_2
                      try clear hfz108_3
                      try clear hfz108_4
                      try clear hfz111_0
                      try clear hfz111_1
                      try clear hfz111_2
                      try clear hfz111_3
                      try clear hfz111_4
                      try clear hfz111_5
                      try clear hfz111_6
                      try clear hfz118_0
                      try clear hfz118_1
                      try clear hfz118_2
                      try clear hfz118_3
                      try clear hfz118_4
                      try clear hfz122_0
                      try clear hfz122_1
                      try clear hfz122_2
                      try clear hfz122_3
                      try clear hfz122_4
                      try clear hfz13_0
                      try clear hfz13_1
                      try clear hfz13_2
                      try clear hfz15_0
                      try clear hfz15_1
                      try clear hfz15_2
                      try clear hfz15_3
                      try clear hfz15_4
                      try clear hfz18_0
                      try clear hfz18_1
                      try clear hfz18_2
                      try clear hfz24_0
                      try clear hfz24_1
                      try clear hfz24_2
                      try clear hfz24_3
                      try clear hfz24_4
                      try clear hfz25_0
                      try clear hfz25_1
                      try clear hfz25_2
                      try clear hfz30_0
                      try clear hfz30_1
                      try clear hfz30_2
                      try clear hfz54_0
                      try clear hfz54_1
                      try clear hfz54_2
                      try clear hfz59_0
                      try clear hfz59_1
                      try clear hfz59_2
                      try clear hfz59_3
                      try clear hfz59_4
                      try clear hfz59_5
                      try clear hfz59_6
                      try clear hfz65_0
                      try clear hfz65_1
                      try clear hfz65_2
                      try clear hfz65_3
                      try clear hfz65_4
                      try clear hfz70_0
                      try clear hfz70_1
                      try clear hfz70_2
                      try clear hfz70_3
                      try clear hfz70_4
                      try clear hfz73_0
                      try clear hfz73_1
                      try clear hfz73_2
                      try clear hfz73_3
                      try clear hfz73_4
                      try clear hfz73_5
                      try clear hfz73_6
                      try clear hfz77_0
                      try clear hfz77_1
                      try clear hfz77_2
                      try clear hfz77_3
                      try clear hfz77_4
                      try clear hfz80_0
                      try clear hfz80_1
                      try clear hfz80_2
                      try clear hfz80_3
                      try clear hfz80_4
                      try clear hfz80_5
                      try clear hfz80_6
                      try clear hfz85_0
                      try clear hfz85_1
                      try clear hfz85_2
                      try clear hfz85_3
                      try clear hfz85_4
                      try clear hfz88_0
                      try clear hfz88_1
                      try clear hfz88_2
                      try clear hfz88_3
                      try clear hfz88_4
                      try clear hfz88_5
                      try clear hfz88_6
                      try clear hfz93_0
                      try clear hfz93_1
                      try clear hfz93_2
                      try clear hfz93_3
                      try clear hfz93_4
                      try clear hfz96_0
                      try clear hfz96_1
                      try clear hfz96_2
                      try clear hfz96_3
                      try clear hfz96_4
                      try clear hfz96_5
                      try clear hfz96_6
                      try clear hx231_0
                      try clear hx231_1
                      try clear hx231_2
                      try clear hx231_3
                      try clear hx231_4
                      try clear hx231_5
                      try clear hx231_6
                      try clear p2
                      try clear p23
                      try clear p231
                      try clear q2
                      try clear q23
                      try clear q231
                      obtain ⟨kq, x8_112, rfl, HA, HJ112, HO_214001, HO_214002, BK201, BK202, BK213, BK232, HR231_5, HB⟩ := hcut
                      cases kq with
                      | zero => exact absurd HA.out (by simp [watchbilllaw23_FilterAgain.j4])
                      | succ kj112 =>
                        have H := HA.out
                        clear HA
                        simp only [watchbilllaw23_FilterAgain.j4] at H
                        have H' := Aside0.mk H
                        clear H
                        go_wp2
                        go_loopg [8, 9] kj112 (fun kq v8 v9 w' => ∃ (x8_6 : Bool) (x9_6 : Int), v8 = .bool x8_6 ∧ v9 = .int .i64 x9_6 ∧ Aside0 (watchbilllaw23_FilterAgain.l1 kq x6_3 x8_6 x9_6 a0_0 a0_1 l0_2 a0_3 a0_4 a1_0 l1_1 l1_2 t206 t207 t210 ((rd_T38 t207 x6_3).f0) ((rd_T38 t207 x6_3).f1) ((rd_T38 t207 x6_3).f2) ((rd_T38 t207 x6_3).f3) ((rd_T38 t207 x6_3).f4) ((rd_T38 t207 x6_3).f6) = some r) ∧ Aside0 (kq ≤ kj112) ∧ Aside0 (Kd.S k38 38 w' w.heap.size (fun k_ => some k_ ≠ ((.slice Ao32 t210.length co32) : Value).ownBlock ∧ k_ ≠ gb232) (.slice (some ad231) t207.length co31) t207) ∧ Aside0 (Kd.R Kd.string 9 w' w.heap.size (fun _ => True) (.slice Ao32 t210.length co32) t210) ∧ Aside0 (w'.heap[gb201]? = some (.cells #[.int .i64 a0_0, .bool a0_1, (.slice A0_2 l0_2.length c0_2), .bool a0_3, .bool a0_4] 24 (0, 0))) ∧ Aside0 (w'.heap[gb202]? = some (.cells #[.string a1_0, (.slice A1_1 l1_1.length c1_1), (.slice A1_2 l1_2.length c1_2)] 27 (0, 0))) ∧ Aside0 (w'.heap[gb213]? = some (.cells #[.string t206, (.slice (some ad231) t207.length co31), (.slice Ao32 t210.length co32)] 27 (0, 0))) ∧ Aside0 (w'.heap[gb232]? = some (.cells #[.string ((rd_T38 t207 x6_3).f0), .string ((rd_T38 t207 x6_3).f1), .string ((rd_T38 t207 x6_3).f2), .string ((rd_T38 t207 x6_3).f3), .int .i64 ((rd_T38 t207 x6_3).f4), (.slice A231_5 ((rd_T38 t207 x6_3).f5).length c231_5), .int .u64 ((rd_T38 t207 x6_3).f6)] 38 (0, 0))) ∧ Aside0 (Kd.C Kd.string w' A231_5 ((rd_T38 t207 x6_3).f5).length ((rd_T38 t207 x6_3).f5)) ∧ Aside0 (Below w.heap.size w w'))
                        case atStart => exact ⟨(x8_112), (0), (by first | rfl | (simp; done) | (simp [*]; done)), (by first | rfl | (simp; done) | (simp [*]; done)), H', ⟨Nat.le_refl _⟩, ⟨by (with_reducible repeat (first | apply Kd.S_alloc | apply Kd.S_drewN | apply Kd.S_drew)); exact HO_214001.out⟩, ⟨by (with_reducible repeat (first | apply Kd.R_alloc | apply Kd.R_drewN | apply Kd.R_drew)); exact HO_214002.out⟩, ⟨by (with_reducible repeat (first | refine blk_drewN ?_ _ | refine blk_drew ?_ | refine blk_alloc ?_ _)); exact BK201.out⟩, ⟨by (with_reducible repeat (first | refine blk_drewN ?_ _ | refine blk_drew ?_ | refine blk_alloc ?_ _)); exact BK202.out⟩, ⟨by (with_reducible repeat (first | refine blk_drewN ?_ _ | refine blk_drew ?_ | refine blk_alloc ?_ _)); exact BK213.out⟩, ⟨by (with_reducible repeat (first | refine blk_drewN ?_ _ | refine blk_drew ?_ | refine blk_alloc ?_ _)); exact BK232.out⟩, ⟨by repeat (first | (with_reducible exact HR231_5.out) | (with_reducible refine Kd.C_alloc ?_ _) | (with_reducible refine Kd.C_drewN ?_ _) | (with_reducible refine Kd.C_drew ?_) | exact HR231_5.out)⟩, ⟨by repeat (first | (with_reducible first | exact HB.out | apply below_alloc | apply pw_below_drewN | apply below_drew1 | refine below_set ?_ GE201.out | refine below_set ?_ GE202.out | refine below_set ?_ GE213.out | refine below_set ?_ GE232.out) | exact HB.out)⟩⟩
                        case round =>
                          clear H'
                          try clear c1
                          try clear c2
                          try clear p2
                          try clear q2
                          try clear hx2
                          try clear c3
                          try clear c4
                          try clear c5
                          try clear c6
                          try clear c7
                          try clear c8
                          try clear c9
                          try clear c10
                          try clear c11
                          try clear c12
                          try clear c17
                          try clear c20
                          try clear c23
                          try clear p23
                          try clear q23
                          try clear hx23
                          try clear c28
                          try clear c29
                          try clear c35
                          try clear c48
                          try clear c49
                          try clear c49b0
                          try clear c50
                          try clear c50b0
                          try clear c52
                          try clear c53
                          try clear c56
                          try clear c57
                          try clear c58
                          try clear c60
                          try clear c61
                          try clear c62
                          try clear c63
                          try clear c64
                          try clear c66
                          try clear c66b0
                          try clear c66b1
                          try clear c67
                          try clear c68
                          try clear c69
                          try clear c71
                          try clear c72
                          try clear c74
                          try clear c75
                          try clear c76
                          try clear c78
                          try clear c79
                          try clear c81
                          try clear c81b0
                          try clear c81b1
                          try clear c82
                          try clear c83
                          try clear c84
                          try clear c86
                          try clear c87
                          try clear c89
                          try clear c90
                          try clear c91
                          try clear c92
                          try clear c94
                          try clear c95
                          try clear c97
                          try clear c97b0
                          try clear c97b1
                          try clear c98
                          try clear c99
                          try clear c100
                          try clear c102
                          try clear c103
                          try clear c105
                          try clear c106
                          try clear c107
                          try clear c109
                          try clear c110
                          try clear c112
                          try clear c114
                          try clear c115
                          try clear c116
                          try clear c117
                          try clear c119
                          try clear c120
                          try clear c121
                          try clear hcz101_0
                          try clear hcz101_1
                          try clear hcz101_2
                          try clear hcz101_3
                          try clear hcz101_4
                          try clear hcz104_0
                          try clear hcz104_1
                          try clear hcz104_2
                          try clear hcz104_3
                          try clear hcz104_4
                          try clear hcz104_5
                          try clear hcz104_6
                          try clear hcz108_0
                          try clear hcz108_1
                          try clear hcz108_2
                          try clear hcz108_3
                          try clear hcz108_4
                          try clear hcz111_0
                          try clear hcz111_1
                          try clear hcz111_2
                          try clear hcz111_3
                          try clear hcz111_4
                          try clear hcz111_5
                          try clear hcz111_6
                          try clear hcz118_0
                          try clear hcz118_1
                          try clear hcz118_2
                          try clear hcz118_3
                          try clear hcz118_4
                          try clear hcz122_0
                          try clear hcz122_1
                          try clear hcz122_2
                          try clear hcz122_3
                          try clear hcz122_4
                          try clear hcz13_0
                          try clear hcz13_1
                          try clear hcz13_2
                          try clear hcz15_0
                          try clear hcz15_1
                          try clear hcz15_2
                          try clear hcz15_3
                          try clear hcz15_4
                          try clear hcz18_0
                          try clear hcz18_1
                          try clear hcz18_2
                          try clear hcz24_0
                          try clear hcz24_1
                          try clear hcz24_2
                          try clear hcz24_3
                          try clear hcz24_4
                          try clear hcz25_0
                          try clear hcz25_1
                          try clear hcz25_2
                          try clear hcz30_0
                          try clear hcz30_1
                          try clear hcz30_2
                          try clear hcz54_0
                          try clear hcz54_1
                          try clear hcz54_2
                          try clear hcz59_0
                          try clear hcz59_1
                          try clear hcz59_2
                          try clear hcz59_3
                          try clear hcz59_4
                          try clear hcz59_5
                          try clear hcz59_6
                          try clear hcz65_0
                          try clear hcz65_1
                          try clear hcz65_2
                          try clear hcz65_3
                          try clear hcz65_4
                          try clear hcz70_0
                          try clear hcz70_1
                          try clear hcz70_2
                          try clear hcz70_3
                          try clear hcz70_4
                          try clear hcz73_0
                          try clear hcz73_1
                          try clear hcz73_2
                          try clear hcz73_3
                          try clear hcz73_4
                          try clear hcz73_5
                          try clear hcz73_6
                          try clear hcz77_0
                          try clear hcz77_1
                          try clear hcz77_2
                          try clear hcz77_3
                          try clear hcz77_4
                          try clear hcz80_0
                          try clear hcz80_1
                          try clear hcz80_2
                          try clear hcz80_3
                          try clear hcz80_4
                          try clear hcz80_5
                          try clear hcz80_6
                          try clear hcz85_0
                          try clear hcz85_1
                          try clear hcz85_2
                          try clear hcz85_3
                          try clear hcz85_4
                          try clear hcz88_0
                          try clear hcz88_1
                          try clear hcz88_2
                          try clear hcz88_3
                          try clear hcz88_4
                          try clear hcz88_5
                          try clear hcz88_6
                          try clear hcz93_0
                          try clear hcz93_1
                          try clear hcz93_2
                          try clear hcz93_3
                          try clear hcz93_4
                          try clear hcz96_0
                          try clear hcz96_1
                          try clear hcz96_2
                          try clear hcz96_3
                          try clear hcz96_4
                          try clear hcz96_5
                          try clear hcz96_6
                          try clear hfz101_0
                          try clear hfz101_1
                          try clear hfz101_2
                          try clear hfz101_3
                          try clear hfz101_4
                          try clear hfz104_0
                          try clear hfz104_1
                          try clear hfz104_2
                          try clear hfz104_3
                          try clear hfz104_4
                          try clear hfz104_5
                          try clear hfz104_6
                          try clear hfz108_0
                          try clear hfz108_1
                          try clear hfz108_2
                          try clear hfz108_3
                          try clear hfz108_4
                          try clear hfz111_0
                          try clear hfz111_1
                          try clear hfz111_2
                          try clear hfz111_3
                          try clear hfz111_4
                          try clear hfz111_5
                          try clear hfz111_6
                          try clear hfz118_0
                          try clear hfz118_1
                          try clear hfz118_2
                          try clear hfz118_3
                          try clear hfz118_4
                          try clear hfz122_0
                          try clear hfz122_1
                          try clear hfz122_2
                          try clear hfz122_3
                          try clear hfz122_4
                          try clear hfz13_0
                          try clear hfz13_1
                          try clear hfz13_2
                          try clear hfz15_0
                          try clear hfz15_1
                          try clear hfz15_2
                          try clear hfz15_3
                          try clear hfz15_4
                          try clear hfz18_0
                          try clear hfz18_1
                          try clear hfz18_2
                          try clear hfz24_0
                          try clear hfz24_1
                          try clear hfz24_2
                          try clear hfz24_3
                          try clear hfz24_4
                          try clear hfz25_0
                          try clear hfz25_1
                          try clear hfz25_2
                          try clear hfz30_0
                          try clear hfz30_1
                          try clear hfz30_2
                          try clear hfz54_0
                          try clear hfz54_1
                          try clear hfz54_2
                          try clear hfz59_0
                          try clear hfz59_1
                          try clear hfz59_2
                          try clear hfz59_3
                          try clear hfz59_4
                          try clear hfz59_5
                          try clear hfz59_6
                          try clear hfz65_0
                          try clear hfz65_1
                          try clear hfz65_2
                          try clear hfz65_3
                          try clear hfz65_4
                          try clear hfz70_0
                          try clear hfz70_1
                          try clear hfz70_2
                          try clear hfz70_3
                          try clear hfz70_4
                          try clear hfz73_0
                          try clear hfz73_1
                          try clear hfz73_2
                          try clear hfz73_3
                          try clear hfz73_4
                          try clear hfz73_5
                          try clear hfz73_6
                          try clear hfz77_0
                          try clear hfz77_1
                          try clear hfz77_2
                          try clear hfz77_3
                          try clear hfz77_4
                          try clear hfz80_0
                          try clear hfz80_1
                          try clear hfz80_2
                          try clear hfz80_3
                          try clear hfz80_4
                          try clear hfz80_5
                          try clear hfz80_6
                          try clear hfz85_0
                          try clear hfz85_1
                          try clear hfz85_2
                          try clear hfz85_3
                          try clear hfz85_4
                          try clear hfz88_0
                          try clear hfz88_1
                          try clear hfz88_2
                          try clear hfz88_3
                          try clear hfz88_4
                          try clear hfz88_5
                          try clear hfz88_6
                          try clear hfz93_0
                          try clear hfz93_1
                          try clear hfz93_2
                          try clear hfz93_3
                          try clear hfz93_4
                          try clear hfz96_0
                          try clear hfz96_1
                          try clear hfz96_2
                          try clear hfz96_3
                          try clear hfz96_4
                          try clear hfz96_5
                          try clear hfz96_6
                          try clear hx231_0
                          try clear hx231_1
                          try clear hx231_2
                          try clear hx231_3
                          try clear hx231_4
                          try clear hx231_5
                          try clear hx231_6
                          try clear p2
                          try clear p23
                          try clear p231
                          try clear q2
                          try clear q23
                          try clear q231
                          obtain ⟨x8_6, x9_6, rfl, rfl, HA, HK6, HO_214001, HO_214002, BK201, BK202, BK213, BK232, HR231_5, HB⟩ := hrel
                          cases gk with
                          | zero => exact absurd HA.out (by simp [watchbilllaw23_FilterAgain.l1])
                          | succ k6 =>
                            have H := HA.out
                            clear HA
                            simp only [watchbilllaw23_FilterAgain.l1] at H
                            by_cases c123 : x9_6 < (l0_2.length : Int)
                            · rw [if_pos c123] at H
                              have c123b0 : decide (x9_6 < (l0_2.length : Int)) = true := decide_eq_true c123
                              clear c123
                              by_cases c124 : x8_6 = true
                              · subst c124
                                have H1 : (watchbilllaw23_FilterAgain.l1 k6 x6_3 true (wrap64 (x9_6 + 1)) a0_0 a0_1 l0_2 a0_3 a0_4 a1_0 l1_1 l1_2 t206 t207 t210 ((rd_T38 t207 x6_3).f0) ((rd_T38 t207 x6_3).f1) ((rd_T38 t207 x6_3).f2) ((rd_T38 t207 x6_3).f3) ((rd_T38 t207 x6_3).f4) ((rd_T38 t207 x6_3).f6)) = some r := by rw [if_pos rfl] at H; exact H
                                clear H
                                have H := H1
                                clear H1
                                have H' := Aside0.mk H
                                clear H
                                have hnb125 := NB201_202.out
                                have hnc125 := NB202_201.out
                                have hnb126 := NB201_213.out
                                have hnc126 := NB213_201.out
                                have hnb127 := NB201_232.out
                                have hnc127 := NB232_201.out
                                have hcz128_0 : wr.cell? ⟨gb201, 0, none⟩ = some (.int .i64 a0_0) := (blk_cell BK201.out 0).trans rfl
                                have hcz128_1 : wr.cell? ⟨gb201, 1, none⟩ = some (.bool a0_1) := (blk_cell BK201.out 1).trans rfl
                                have hcz128_2 : wr.cell? ⟨gb201, 2, none⟩ = some (.slice A0_2 l0_2.length c0_2) := (blk_cell BK201.out 2).trans rfl
                                have hcz128_3 : wr.cell? ⟨gb201, 3, none⟩ = some (.bool a0_3) := (blk_cell BK201.out 3).trans rfl
                                have hcz128_4 : wr.cell? ⟨gb201, 4, none⟩ = some (.bool a0_4) := (blk_cell BK201.out 4).trans rfl
                                have hfz128_0 := blk_frozen BK201.out 0
                                have hfz128_1 := blk_frozen BK201.out 1
                                have hfz128_2 := blk_frozen BK201.out 2
                                have hfz128_3 := blk_frozen BK201.out 3
                                have hfz128_4 := blk_frozen BK201.out 4
                                try go_wp2
                                have n0_ := Aside0.mk (Kd.S_drew HO_214001.out)
                                have n1_ := Aside0.mk (Kd.R_drew HO_214002.out)
                                have n2_ := Aside0.mk (blk_drew BK201.out)
                                have n3_ := Aside0.mk (blk_drew BK202.out)
                                have n4_ := Aside0.mk (blk_drew BK213.out)
                                have n5_ := Aside0.mk (blk_drew BK232.out)
                                have n6_ := Aside0.mk (Kd.C_drew HR231_5.out)
                                have n7_ := Aside0.mk (below_drew1 HB.out)
                                clear HO_214001
                                clear HO_214002
                                clear BK201
                                clear BK202
                                clear BK213
                                clear BK232
                                clear HR231_5
                                clear HB
                                have HO_214001 := n0_
                                have HO_214002 := n1_
                                have BK201 := n2_
                                have BK202 := n3_
                                have BK213 := n4_
                                have BK232 := n5_
                                have HR231_5 := n6_
                                have HB := n7_
                                clear n0_ n1_ n2_ n3_ n4_ n5_ n6_ n7_
                                refine start_ (n := 12) (S := fun w' => True) (ds := []) #[false, false, false, false, false, false, false, false, false, false, false, false] (by kernel_rfl) rfl rfl trivial (fun hHeld => ?_); refine with_tabW watchbilllaw23_FilterAgain.tab18 watchbilllaw23_FilterAgain.bits18 (fun HT_ HW_ => ?_)
                                generalize wr.drew = w129 at HO_214001 HO_214002 BK201 BK202 BK213 BK232 HR231_5 HB hHeld ⊢
                                refine pure_ (i := 0) (N := some 85) (v := ?_) (a' := ?_) #[true, false, false, false, false, false, false, false, false, false, false, false] rfl rfl (any_of HT_.out (by kernel_rfl)) (fun _ _ _ h => h) (Or.inl ⟨by rfl, ?_⟩) ?_ ?_
                                rotate_left
                                · intro w'
                                  go_simp
                                  with_reducible rfl
                                rotate_left
                                · simp only [Act.put, zA, zB, zC, i64_w, i32_w]
                                  rfl
                                refine pure_ (i := 1) (N := some 86) (v := ?_) (a' := ?_) #[true, true, false, false, false, false, false, false, false, false, false, false] rfl rfl (any_of HT_.out (by kernel_rfl)) (fun _ _ _ h => h) (Or.inl ⟨by rfl, ?_⟩) ?_ ?_
                                rotate_left
                                · intro w'
                                  go_simp
                                  with_reducible rfl
                                rotate_left
                                · simp only [Act.put, zA, zB, zC, i64_w, i32_w]
                                  rfl
                                refine pure_ (i := 2) (N := some 87) (v := undef) (a' := ?_) #[true, true, true, false, false, false, false, false, false, false, false, false] rfl rfl (any_of HT_.out (by kernel_rfl)) (fun _ _ _ h => h) (Or.inr ⟨by rfl, rfl⟩) ?_ ?_
                                rotate_left
                                · simp only [Act.put, zA, zB, zC, i64_w, i32_w]
                                  rfl
                                refine pure_ (i := 3) (N := some 88) (v := undef) (a' := ?_) #[true, true, true, true, false, false, false, false, false, false, false, false] rfl rfl (any_of HT_.out (by kernel_rfl)) (fun _ _ _ h => h) (Or.inr ⟨by rfl, rfl⟩) ?_ ?_
                                rotate_left
                                · simp only [Act.put, zA, zB, zC, i64_w, i32_w]
                                  rfl
                                refine pure_ (i := 4) (N := some 89) (v := undef) (a' := ?_) #[true, true, true, true, true, false, false, false, false, false, false, false] rfl rfl (any_of HT_.out (by kernel_rfl)) (fun _ _ _ h => h) (Or.inr ⟨by rfl, rfl⟩) ?_ ?_
                                rotate_left
                                · simp only [Act.put, zA, zB, zC, i64_w, i32_w]
                                  rfl
                                refine pure_ (i := 5) (N := some 90) (v := undef) (a' := ?_) #[true, true, true, true, true, true, false, false, false, false, false, false] rfl rfl (any_of HT_.out (by kernel_rfl)) (fun _ _ _ h => h) (Or.inr ⟨by rfl, rfl⟩) ?_ ?_
                                rotate_left
                                · simp only [Act.put, zA, zB, zC, i64_w, i32_w]
                                  rfl
                                refine pure_ (i := 6) (N := some 91) (v := undef) (a' := ?_) #[true, true, true, true, true, true, true, false, false, false, false, false] rfl rfl (any_of HT_.out (by kernel_rfl)) (fun _ _ _ h => h) (Or.inr ⟨by rfl, rfl⟩) ?_ ?_
                                rotate_left
                                · simp only [Act.put, zA, zB, zC, i64_w, i32_w]
                                  rfl
                                refine pure_ (i := 7) (N := some 92) (v := undef) (a' := ?_) #[true, true, true, true, true, true, true, true, false, false, false, false] rfl rfl (any_of HT_.out (by kernel_rfl)) (fun _ _ _ h => h) (Or.inr ⟨by rfl, rfl⟩) ?_ ?_
                                rotate_left
                                · simp only [Act.put, zA, zB, zC, i64_w, i32_w]
                                  rfl
                                refine pure_ (i := 8) (N := some 93) (v := undef) (a' := ?_) #[true, true, true, true, true, true, true, true, true, false, false, false] rfl rfl (any_of HT_.out (by kernel_rfl)) (fun _ _ _ h => h) (Or.inr ⟨by rfl, rfl⟩) ?_ ?_
                                rotate_left
                                · simp only [Act.put, zA, zB, zC, i64_w, i32_w]
                                  rfl
                                refine pure_ (i := 9) (N := some 94) (v := undef) (a' := ?_) #[true, true, true, true, true, true, true, true, true, true, false, false] rfl rfl (any_of HT_.out (by kernel_rfl)) (fun _ _ _ h => h) (Or.inr ⟨by rfl, rfl⟩) ?_ ?_
                                rotate_left
                                · simp only [Act.put, zA, zB, zC, i64_w, i32_w]
                                  rfl
                                refine pure_ (i := 10) (N := some 95) (v := ?_) (a' := ?_) #[true, true, true, true, true, true, true, true, true, true, true, false] rfl rfl (any_of HT_.out (by kernel_rfl)) (fun _ _ _ h => h) (Or.inl ⟨by rfl, ?_⟩) ?_ ?_
                                rotate_left
                                · intro w'
                                  go_simp
                                  with_reducible rfl
                                rotate_left
                                · simp only [Act.put, zA, zB, zC, i64_w, i32_w]
                                  rfl
                                refine pure_ (i := 11) (N := some 8) (v := ?_) (a' := ?_) #[true, true, true, true, true, true, true, true, true, true, true, true] rfl rfl (any_of HT_.out (by kernel_rfl)) (fun _ _ _ h => h) (Or.inl ⟨by rfl, ?_⟩) ?_ ?_
                                rotate_left
                                · intro w'
                                  go_simp
                                  with_reducible rfl
                                rotate_left
                                · simp only [Act.put, zA, zB, zC, i64_w, i32_w]
                                  rfl
                                refine done_ (done_of HT_.out (by kernel_rfl)) ?_
                                try go_wp2
                                go_roundg k6
                                case measure => have := HJ4.out; have := HJ21.out; have := HK3.out; have := HJ50.out; have := HJ112.out; have := HK6.out; omega
                                case rel => exact ⟨(true), (wrap64 (x9_6 + 1)), (by first | rfl | (simp; done) | (simp [*]; done)), (by first | rfl | (simp; done) | (simp [*]; done)), H', ⟨by have := HJ4.out; have := HJ21.out; have := HK3.out; have := HJ50.out; have := HJ112.out; have := HK6.out; omega⟩, ⟨by (with_reducible repeat (first | apply Kd.S_alloc | apply Kd.S_drewN | apply Kd.S_drew)); exact HO_214001.out⟩, ⟨by (with_reducible repeat (first | apply Kd.R_alloc | apply Kd.R_drewN | apply Kd.R_drew)); exact HO_214002.out⟩, ⟨by (with_reducible repeat (first | refine blk_drewN ?_ _ | refine blk_drew ?_ | refine blk_alloc ?_ _)); exact BK201.out⟩, ⟨by (with_reducible repeat (first | refine blk_drewN ?_ _ | refine blk_drew ?_ | refine blk_alloc ?_ _)); exact BK202.out⟩, ⟨by (with_reducible repeat (first | refine blk_drewN ?_ _ | refine blk_drew ?_ | refine blk_alloc ?_ _)); exact BK213.out⟩, ⟨by (with_reducible repeat (first | refine blk_drewN ?_ _ | refine blk_drew ?_ | refine blk_alloc ?_ _)); exact BK232.out⟩, ⟨by repeat (first | (with_reducible exact HR231_5.out) | (with_reducible refine Kd.C_alloc ?_ _) | (with_reducible refine Kd.C_drewN ?_ _) | (with_reducible refine Kd.C_drew ?_) | exact HR231_5.out)⟩, ⟨by repeat (first | (with_reducible first | exact HB.out | apply below_alloc | apply pw_below_drewN | apply below_drew1 | refine below_set ?_ GE201.out | refine below_set ?_ GE202.out | refine below_set ?_ GE213.out | refine below_set ?_ GE232.out) | exact HB.out)⟩⟩
                              · replace c124 := Bool.eq_false_iff.mpr c124
                                subst c124
                                have H1 : (if 0 ≤ x9_6 then (watchbilllaw23_FilterAgain.l1 k6 x6_3 ((rdOf ByteArray.empty l0_2 x9_6).toList == ((rd_T38 t207 x6_3).f3).toList) (wrap64 (x9_6 + 1)) a0_0 a0_1 l0_2 a0_3 a0_4 a1_0 l1_1 l1_2 t206 t207 t210 ((rd_T38 t207 x6_3).f0) ((rd_T38 t207 x6_3).f1) ((rd_T38 t207 x6_3).f2) ((rd_T38 t207 x6_3).f3) ((rd_T38 t207 x6_3).f4) ((rd_T38 t207 x6_3).f6)) else (none)) = some r := by rw [if_neg (show ¬ (false = true) by decide)] at H; exact H
                                clear H
                                have H := H1
                                clear H1
                                by_cases c130 : 0 ≤ x9_6
                                rotate_left 1
                                · rw [if_neg c130] at H
                                  exact absurd H (by simp)
                                rw [if_pos c130] at H
                                have c130b0 : decide (0 ≤ x9_6) = true := decide_eq_true c130
                                clear c130
                                have H' := Aside0.mk H
                                clear H
                                have hnb131 := NB201_202.out
                                have hnc131 := NB202_201.out
                                have hnb132 := NB201_213.out
                                have hnc132 := NB213_201.out
                                have hnb133 := NB201_232.out
                                have hnc133 := NB232_201.out
                                have hcz134_0 : wr.cell? ⟨gb201, 0, none⟩ = some (.int .i64 a0_0) := (blk_cell BK201.out 0).trans rfl
                                have hcz134_1 : wr.cell? ⟨gb201, 1, none⟩ = some (.bool a0_1) := (blk_cell BK201.out 1).trans rfl
                                have hcz134_2 : wr.cell? ⟨gb201, 2, none⟩ = some (.slice A0_2 l0_2.length c0_2) := (blk_cell BK201.out 2).trans rfl
                                have hcz134_3 : wr.cell? ⟨gb201, 3, none⟩ = some (.bool a0_3) := (blk_cell BK201.out 3).trans rfl
                                have hcz134_4 : wr.cell? ⟨gb201, 4, none⟩ = some (.bool a0_4) := (blk_cell BK201.out 4).trans rfl
                                have hfz134_0 := blk_frozen BK201.out 0
                                have hfz134_1 := blk_frozen BK201.out 1
                                have hfz134_2 := blk_frozen BK201.out 2
                                have hfz134_3 := blk_frozen BK201.out 3
                                have hfz134_4 := blk_frozen BK201.out 4
                                try go_wp2
                                have n0_ := Aside0.mk (Kd.S_drew HO_214001.out)
                                have n1_ := Aside0.mk (Kd.R_drew HO_214002.out)
                                have n2_ := Aside0.mk (blk_drew BK201.out)
                                have n3_ := Aside0.mk (blk_drew BK202.out)
                                have n4_ := Aside0.mk (blk_drew BK213.out)
                                have n5_ := Aside0.mk (blk_drew BK232.out)
                                have n6_ := Aside0.mk (Kd.C_drew HR231_5.out)
                                have n7_ := Aside0.mk (below_drew1 HB.out)
                                clear HO_214001
                                clear HO_214002
                                clear BK201
                                clear BK202
                                clear BK213
                                clear BK232
                                clear HR231_5
                                clear HB
                                have HO_214001 := n0_
                                have HO_214002 := n1_
                                have BK201 := n2_
                                have BK202 := n3_
                                have BK213 := n4_
                                have BK232 := n5_
                                have HR231_5 := n6_
                                have HB := n7_
                                clear n0_ n1_ n2_ n3_ n4_ n5_ n6_ n7_
                                have p233 : 0 ≤ (x9_6 : Int) := of_decide_eq_true (by first | (with_reducible assumption) | assumption)
                                have q233 : x9_6 < (l0_2.length : Int) := of_decide_eq_true (by first | (with_reducible assumption) | assumption)
                                obtain ⟨ad233, e233, hx233_0⟩ := Kd.at_string HR0_2.out x9_6 p233 q233
                                have hw233_0 := hx233_0
                                cases e233
                                replace hx233_0 := (HB.out.cell (World.block_lt_of_cell? w _ hx233_0)).trans hx233_0
                                replace p233 := eq_true p233
                                replace q233 := eq_true q233
                                refine start_ (n := 12) (S := fun w' => w'.cell? ⟨gb201, 0, none⟩ = some (.int .i64 a0_0) ∧ w'.cell? ⟨gb201, 1, none⟩ = some (.bool a0_1) ∧ w'.cell? ⟨gb201, 2, none⟩ = some (.slice (some ad233) l0_2.length c0_2) ∧ w'.cell? ⟨gb201, 3, none⟩ = some (.bool a0_3) ∧ w'.cell? ⟨gb201, 4, none⟩ = some (.bool a0_4) ∧ w'.cell? ⟨gb232, 0, none⟩ = some (.string ((rd_T38 t207 x6_3).f0)) ∧ w'.cell? ⟨gb232, 1, none⟩ = some (.string ((rd_T38 t207 x6_3).f1)) ∧ w'.cell? ⟨gb232, 2, none⟩ = some (.string ((rd_T38 t207 x6_3).f2)) ∧ w'.cell? ⟨gb232, 3, none⟩ = some (.string ((rd_T38 t207 x6_3).f3)) ∧ w'.cell? ⟨gb232, 4, none⟩ = some (.int .i64 ((rd_T38 t207 x6_3).f4)) ∧ w'.cell? ⟨gb232, 5, none⟩ = some (.slice A231_5 ((rd_T38 t207 x6_3).f5).length c231_5) ∧ w'.cell? ⟨gb232, 6, none⟩ = some (.int .u64 ((rd_T38 t207 x6_3).f6)) ∧ w'.cell? (ad233.add (x9_6).toNat) = some (.string (rdOf ByteArray.empty l0_2 x9_6))) (ds := []) #[false, false, false, false, false, false, false, false, false, false, false, false] (by kernel_rfl) rfl rfl ⟨(blk_cell BK201.out 0).trans rfl, (blk_cell BK201.out 1).trans rfl, (blk_cell BK201.out 2).trans rfl, (blk_cell BK201.out 3).trans rfl, (blk_cell BK201.out 4).trans rfl, (blk_cell BK232.out 0).trans rfl, (blk_cell BK232.out 1).trans rfl, (blk_cell BK232.out 2).trans rfl, (blk_cell BK232.out 3).trans rfl, (blk_cell BK232.out 4).trans rfl, (blk_cell BK232.out 5).trans rfl, (blk_cell BK232.out 6).trans rfl, ((HB.out.cell (World.block_lt_of_cell? w _ hw233_0)).trans hw233_0)⟩ (fun hHeld => ?_); refine with_tabW watchbilllaw23_FilterAgain.tab18 watchbilllaw23_FilterAgain.bits18 (fun HT_ HW_ => ?_)
                                generalize wr.drew = w135 at HO_214001 HO_214002 BK201 BK202 BK213 BK232 HR231_5 HB hx233_0 hHeld ⊢
                                refine pure_ (i := 0) (N := some 85) (v := ?_) (a' := ?_) #[true, false, false, false, false, false, false, false, false, false, false, false] rfl rfl (any_of HT_.out (by kernel_rfl)) (fun _ _ _ h => h) (Or.inl ⟨by rfl, ?_⟩) ?_ ?_
                                rotate_left
                                · intro w'
                                  go_simp
                                  with_reducible rfl
                                rotate_left
                                · simp only [Act.put, zA, zB, zC, i64_w, i32_w]
                                  rfl
                                refine pure_ (i := 1) (N := some 86) (v := ?_) (a' := ?_) #[true, true, false, false, false, false, false, false, false, false, false, false] rfl rfl (any_of HT_.out (by kernel_rfl)) (fun _ _ _ h => h) (Or.inl ⟨by rfl, ?_⟩) ?_ ?_
                                rotate_left
                                · intro w'
                                  go_simp
                                  with_reducible rfl
                                rotate_left
                                · simp only [Act.put, zA, zB, zC, i64_w, i32_w]
                                  rfl
                                refine pure_ (i := 2) (N := some 87) (v := ?_) (a' := ?_) #[true, true, true, false, false, false, false, false, false, false, false, false] rfl rfl (any_of HT_.out (by kernel_rfl)) (fun _ _ _ h => h) (Or.inl ⟨by rfl, ?_⟩) ?_ ?_
                                rotate_left
                                · intro w'
                                  go_simp
                                  with_reducible rfl
                                rotate_left
                                · simp only [Act.put, zA, zB, zC, i64_w, i32_w]
                                  rfl
                                refine pure_ (i := 4) (N := some 89) (v := ?_) (a' := ?_) #[true, true, true, false, true, false, false, false, false, false, false, false] rfl rfl (any_of HT_.out (by kernel_rfl)) (fun _ _ _ h => h) (Or.inl ⟨by rfl, ?_⟩) ?_ ?_
                                rotate_left
                                · intro w'
                                  go_simp
                                  with_reducible rfl
                                rotate_left
                                · simp only [Act.put, zA, zB, zC, i64_w, i32_w]
                                  rfl
                                refine pure_ (i := 7) (N := some 92) (v := ?_) (a' := ?_) #[true, true, true, false, true, false, false, true, false, false, false, false] rfl rfl (any_of HT_.out (by kernel_rfl)) (fun _ _ _ h => h) (Or.inl ⟨by rfl, ?_⟩) ?_ ?_
                                rotate_left
                                · intro w'
                                  go_simp
                                  with_reducible rfl
                                rotate_left
                                · simp only [Act.put, zA, zB, zC, i64_w, i32_w]
                                  rfl
                                refine take_ (i := 3) (N := some 88) (v := ?_) (a' := ?_) #[true, true, true, true, true, false, false, true, false, false, false, false] rfl rfl (take_ofW HT_.out HW_.out (by kernel_rfl)) (fun _ _ _ h => h) (Or.inl ⟨by rfl, ?_⟩) hHeld ?_ ?_
                                rotate_left
                                · rintro w' ⟨s0, s1, s2, s3, s4, s5, s6, s7, s8, s9, s10, s11, s12⟩
                                  go_simp
                                  with_reducible rfl
                                rotate_left
                                · simp only [Act.put, zA, zB, zC, i64_w, i32_w]
                                  rfl
                                refine pure_ (i := 5) (N := some 90) (v := ?_) (a' := ?_) #[true, true, true, true, true, true, false, true, false, false, false, false] rfl rfl (any_of HT_.out (by kernel_rfl)) (fun _ _ _ h => h) (Or.inl ⟨by rfl, ?_⟩) ?_ ?_
                                rotate_left
                                · intro w'
                                  go_simp
                                  with_reducible rfl
                                rotate_left
                                · simp only [Act.put, zA, zB, zC, i64_w, i32_w]
                                  rfl
                                refine take_ (i := 6) (N := some 91) (v := ?_) (a' := ?_) #[true, true, true, true, true, true, true, true, false, false, false, false] rfl rfl (take_ofW HT_.out HW_.out (by kernel_rfl)) (fun _ _ _ h => h) (Or.inl ⟨by rfl, ?_⟩) hHeld ?_ ?_
                                rotate_left
                                · rintro w' ⟨s0, s1, s2, s3, s4, s5, s6, s7, s8, s9, s10, s11, s12⟩
                                  go_simp
                                  with_reducible rfl
                                rotate_left
                                · simp only [Act.put, zA, zB, zC, i64_w, i32_w]
                                  rfl
                                refine take_ (i := 8) (N := some 93) (v := ?_) (a' := ?_) #[true, true, true, true, true, true, true, true, true, false, false, false] rfl rfl (take_ofW HT_.out HW_.out (by kernel_rfl)) (fun _ _ _ h => h) (Or.inl ⟨by rfl, ?_⟩) hHeld ?_ ?_
                                rotate_left
                                · rintro w' ⟨s0, s1, s2, s3, s4, s5, s6, s7, s8, s9, s10, s11, s12⟩
                                  go_simp
                                  with_reducible rfl
                                rotate_left
                                · simp only [Act.put, zA, zB, zC, i64_w, i32_w]
                                  rfl
                                refine pure_ (i := 9) (N := some 94) (v := ?_) (a' := ?_) #[true, true, true, true, true, true, true, true, true, true, false, false] rfl rfl (any_of HT_.out (by kernel_rfl)) (fun _ _ _ h => h) (Or.inl ⟨by rfl, ?_⟩) ?_ ?_
                                rotate_left
                                · intro w'
                                  go_simp
                                  with_reducible rfl
                                rotate_left
                                · simp only [Act.put, zA, zB, zC, i64_w, i32_w]
                                  rfl
                                refine pure_ (i := 10) (N := some 95) (v := ?_) (a' := ?_) #[true, true, true, true, true, true, true, true, true, true, true, false] rfl rfl (any_of HT_.out (by kernel_rfl)) (fun _ _ _ h => h) (Or.inl ⟨by rfl, ?_⟩) ?_ ?_
                                rotate_left
                                · intro w'
                                  go_simp
                                  with_reducible rfl
                                rotate_left
                                · simp only [Act.put, zA, zB, zC, i64_w, i32_w]
                                  rfl
                                refine pure_ (i := 11) (N := some 8) (v := ?_) (a' := ?_) #[true, true, true, true, true, true, true, true, true, true, true, true] rfl rfl (any_of HT_.out (by kernel_rfl)) (fun _ _ _ h => h) (Or.inl ⟨by rfl, ?_⟩) ?_ ?_
                                rotate_left
                                · intro w'
                                  go_simp
                                  with_reducible rfl
                                rotate_left
                                · simp only [Act.put, zA, zB, zC, i64_w, i32_w]
                                  rfl
                                refine done_ (done_of HT_.out (by kernel_rfl)) ?_
                                try go_wp2
                                go_roundg k6
                                case measure => have := HJ4.out; have := HJ21.out; have := HK3.out; have := HJ50.out; have := HJ112.out; have := HK6.out; omega
                                case rel => exact ⟨(((rdOf ByteArray.empty l0_2 x9_6).toList == ((rd_T38 t207 x6_3).f3).toList)), (wrap64 (x9_6 + 1)), (by first | rfl | (simp; done) | (simp [*]; done)), (by first | rfl | (simp; done) | (simp [*]; done)), H', ⟨by have := HJ4.out; have := HJ21.out; have := HK3.out; have := HJ50.out; have := HJ112.out; have := HK6.out; omega⟩, ⟨by (with_reducible repeat (first | apply Kd.S_alloc | apply Kd.S_drewN | apply Kd.S_drew)); exact HO_214001.out⟩, ⟨by (with_reducible repeat (first | apply Kd.R_alloc | apply Kd.R_drewN | apply Kd.R_drew)); exact HO_214002.out⟩, ⟨by (with_reducible repeat (first | refine blk_drewN ?_ _ | refine blk_drew ?_ | refine blk_alloc ?_ _)); exact BK201.out⟩, ⟨by (with_reducible repeat (first | refine blk_drewN ?_ _ | refine blk_drew ?_ | refine blk_alloc ?_ _)); exact BK202.out⟩, ⟨by (with_reducible repeat (first | refine blk_drewN ?_ _ | refine blk_drew ?_ | refine blk_alloc ?_ _)); exact BK213.out⟩, ⟨by (with_reducible repeat (first | refine blk_drewN ?_ _ | refine blk_drew ?_ | refine blk_alloc ?_ _)); exact BK232.out⟩, ⟨by repeat (first | (with_reducible exact HR231_5.out) | (with_reducible refine Kd.C_alloc ?_ _) | (with_reducible refine Kd.C_drewN ?_ _) | (with_reducible refine Kd.C_drew ?_) | exact HR231_5.out)⟩, ⟨by repeat (first | (with_reducible first | exact HB.out | apply below_alloc | apply pw_below_drewN | apply below_drew1 | refine below_set ?_ GE201.out | refine below_set ?_ GE202.out | refine below_set ?_ GE213.out | refine below_set ?_ GE232.out) | exact HB.out)⟩⟩
                            · rw [if_neg c123] at H
                              have c123b0 : decide (x9_6 < (l0_2.length : Int)) = false := decide_eq_false c123
                              clear c123
                              by_cases c136 : x8_6 = true
                              rotate_left 1
                              · replace c136 := Bool.eq_false_iff.mpr c136
                                subst c136
                                have H1 : (none) = some r := by rw [if_neg (show ¬ (false = true) by decide)] at H; exact H
                                clear H
                                have H := H1
                                clear H1
                                exact absurd H (by simp)
                              subst c136
                              have H1 : (watchbilllaw23_FilterAgain.l0 k6 (wrap64 (x6_3 + 1)) a0_0 a0_1 l0_2 a0_3 a0_4 a1_0 l1_1 l1_2 t206 t207 t210) = some r := by rw [if_pos rfl] at H; exact H
                              clear H
                              have H := H1
                              clear H1
                              have H' := Aside0.mk H
                              clear H
                              have hnb137 := NB201_202.out
                              have hnc137 := NB202_201.out
                              have hnb138 := NB201_213.out
                              have hnc138 := NB213_201.out
                              have hnb139 := NB201_232.out
                              have hnc139 := NB232_201.out
                              have hcz140_0 : wr.cell? ⟨gb201, 0, none⟩ = some (.int .i64 a0_0) := (blk_cell BK201.out 0).trans rfl
                              have hcz140_1 : wr.cell? ⟨gb201, 1, none⟩ = some (.bool a0_1) := (blk_cell BK201.out 1).trans rfl
                              have hcz140_2 : wr.cell? ⟨gb201, 2, none⟩ = some (.slice A0_2 l0_2.length c0_2) := (blk_cell BK201.out 2).trans rfl
                              have hcz140_3 : wr.cell? ⟨gb201, 3, none⟩ = some (.bool a0_3) := (blk_cell BK201.out 3).trans rfl
                              have hcz140_4 : wr.cell? ⟨gb201, 4, none⟩ = some (.bool a0_4) := (blk_cell BK201.out 4).trans rfl
                              have hfz140_0 := blk_frozen BK201.out 0
                              have hfz140_1 := blk_frozen BK201.out 1
                              have hfz140_2 := blk_frozen BK201.out 2
                              have hfz140_3 := blk_frozen BK201.out 3
                              have hfz140_4 := blk_frozen BK201.out 4
                              go_wp2
                              go_roundg k6
                              case measure => have := HJ4.out; have := HJ21.out; have := HK3.out; have := HJ50.out; have := HJ112.out; have := HK6.out; omega
                              case rel => exact ⟨(wrap64 (x6_3 + 1)), (by first | rfl | (simp; done) | (simp [*]; done)), H', ⟨by have := HJ4.out; have := HJ21.out; have := HK3.out; have := HJ50.out; have := HJ112.out; have := HK6.out; omega⟩, ⟨by (with_reducible repeat (first | apply Kd.S_alloc | apply Kd.S_drewN | apply Kd.S_drew)); exact Kd.S_mono HO_214001.out (fun _ hk => hk.1)⟩, ⟨by (with_reducible repeat (first | apply Kd.R_alloc | apply Kd.R_drewN | apply Kd.R_drew)); exact HO_214002.out⟩, ⟨by (with_reducible repeat (first | refine blk_drewN ?_ _ | refine blk_drew ?_ | refine blk_alloc ?_ _)); exact BK201.out⟩, ⟨by (with_reducible repeat (first | refine blk_drewN ?_ _ | refine blk_drew ?_ | refine blk_alloc ?_ _)); exact BK202.out⟩, ⟨by (with_reducible repeat (first | refine blk_drewN ?_ _ | refine blk_drew ?_ | refine blk_alloc ?_ _)); exact BK213.out⟩, ⟨by repeat (first | (with_reducible first | exact HB.out | apply below_alloc | apply pw_below_drewN | apply below_drew1 | refine below_set ?_ GE201.out | refine below_set ?_ GE202.out | refine below_set ?_ GE213.out | refine below_set ?_ GE232.out) | exact HB.out)⟩⟩
              · rw [if_neg c49] at H
                have c49b0 : decide (x6_3 < (t207.length : Int)) = false := decide_eq_false c49
                clear c49
                replace H := Option.bind_eq_some_iff.mp H
                obtain ⟨⟨t222, t223, t226⟩, A1410, H⟩ := H
                replace H : ((watchbillref20_Same.f k3 t222 t223 t226 a1_0 l1_1 l1_2).bind fun t230 => (if t230 = true then (if a0_3 = true then (some true) else (some ((t210.length : Int) == 0))) else (none))) = some r := H
                have A141 := Aside0.mk A1410
                clear A1410
                replace H := Option.bind_eq_some_iff.mp H
                obtain ⟨t230, A1420, H⟩ := H
                replace H : (if t230 = true then (if a0_3 = true then (some true) else (some ((t210.length : Int) == 0))) else (none)) = some r := H
                have A142 := Aside0.mk A1420
                clear A1420
                by_cases c143 : t230 = true
                rotate_left 1
                · replace c143 := Bool.eq_false_iff.mpr c143
                  subst c143
                  have H1 : (none) = some r := by rw [if_neg (show ¬ (false = true) by decide)] at H; exact H
                  clear H
                  have H := H1
                  clear H1
                  exact absurd H (by simp)
                subst c143
                have H1 : (if a0_3 = true then (some true) else (some ((t210.length : Int) == 0))) = some r := by rw [if_pos rfl] at H; exact H
                clear H
                have H := H1
                clear H1
                by_cases c144 : a0_3 = true
                · subst c144
                  have H1 : (some true) = some r := by rw [if_pos rfl] at H; exact H
                  clear H
                  have H := H1
                  clear H1
                  obtain rfl := Option.some.inj H
                  have hnb145 := NB213_201.out
                  have hnc145 := NB201_213.out
                  have hnb146 := NB213_202.out
                  have hnc146 := NB202_213.out
                  have hcz147_0 : wr.cell? ⟨gb213, 0, none⟩ = some (.string t206) := (blk_cell BK213.out 0).trans rfl
                  have hcz147_1 : wr.cell? ⟨gb213, 1, none⟩ = some (.slice Ao31 t207.length co31) := (blk_cell BK213.out 1).trans rfl
                  have hcz147_2 : wr.cell? ⟨gb213, 2, none⟩ = some (.slice Ao32 t210.length co32) := (blk_cell BK213.out 2).trans rfl
                  have hfz147_0 := blk_frozen BK213.out 0
                  have hfz147_1 := blk_frozen BK213.out 1
                  have hfz147_2 := blk_frozen BK213.out 2
                  have hnb148 := NB202_201.out
                  have hnc148 := NB201_202.out
                  have hcz149_0 : wr.cell? ⟨gb202, 0, none⟩ = some (.string a1_0) := (blk_cell BK202.out 0).trans rfl
                  have hcz149_1 : wr.cell? ⟨gb202, 1, none⟩ = some (.slice A1_1 l1_1.length c1_1) := (blk_cell BK202.out 1).trans rfl
                  have hcz149_2 : wr.cell? ⟨gb202, 2, none⟩ = some (.slice A1_2 l1_2.length c1_2) := (blk_cell BK202.out 2).trans rfl
                  have hfz149_0 := blk_frozen BK202.out 0
                  have hfz149_1 := blk_frozen BK202.out 1
                  have hfz149_2 := blk_frozen BK202.out 2
                  go_wp2_with (first | ((with_reducible refine gate_callee (f := 10) rfl ?_); refine goesL_ (some 100) rfl rfl Tryd.func10 (by kernel_rfl) rfl #[.agg #[.int .i64 3, .bool true, .slice none 0 0, .bool true, .bool true], .agg #[.string a1_0, .slice A1_1 l1_1.length c1_1, .slice A1_2 l1_2.length c1_2]] rfl (by (try simp only [List.map_toArray, List.map_cons, List.map_nil]); first | done | rfl | (simp only [List.length_drop, List.length_take]; rfl)) ?_; (refine (filter_Apply.calls k3 3 true _ _ ([] : List ByteArray) true true a1_0 _ _ l1_1 _ _ l1_2 t222 t223 t226 _ ?side1 ?side2 ?side3 ?side4 ?side5 ?side6 A141.out).mono ?_); (case side1 => exact Kd.C_nil _ _); (case side2 => exact Nat.le_refl _); (case side3 => repeat (first | exact (Kd.C_below HR1_1.out HB.out) | (with_reducible refine Kd.C_alloc ?_ _) | (with_reducible refine Kd.C_drewN ?_ _) | (with_reducible refine Kd.C_drew ?_))); (case side4 => exact HC1_1.out); (case side5 => repeat (first | exact (Kd.C_below HR1_2.out HB.out) | (with_reducible refine Kd.C_alloc ?_ _) | (with_reducible refine Kd.C_drewN ?_ _) | (with_reducible refine Kd.C_drew ?_))); (case side6 => exact HC1_2.out); rintro e w150 ⟨v224, v227, rfl, ho0, ho1, hb⟩; refine ⟨_, rfl, ?_⟩; have n0_ := Aside0.mk (Kd.S_mono (Kd.S_told (Kd.S_told (Kd.S_old (by (with_reducible repeat (first | apply Kd.S_alloc | apply Kd.S_drewN | apply Kd.S_drew)); exact HO_214001.out) hb) (Kd.S_base ho0)) (Kd.R_base ho1)) (fun _ h_ => h_.1)); have n1_ := Aside0.mk (Kd.R_elder' (by (with_reducible repeat (first | apply Kd.R_alloc | apply Kd.R_drewN | apply Kd.R_drew)); exact HO_214002.out) (Kd.R_base ho1) hb); have n2_ := Aside0.mk (Kd.S_lower (Kd.S_new' (Kd.S_new' ho0 (Kd.S_lt (by (with_reducible repeat (first | apply Kd.S_alloc | apply Kd.S_drewN | apply Kd.S_drew)); exact HO_214001.out))) (Kd.R_lt (by (with_reducible repeat (first | apply Kd.R_alloc | apply Kd.R_drewN | apply Kd.R_drew)); exact HO_214002.out))) (below_size (by repeat (first | (with_reducible first | exact HB.out | apply below_alloc | apply pw_below_drewN | apply below_drew1 | refine below_set ?_ GE201.out | refine below_set ?_ GE202.out | refine below_set ?_ GE213.out) | exact HB.out)))); have n3_ := Aside0.mk (Kd.R_lower (Kd.R_new' ho1 (Kd.R_lt (by (with_reducible repeat (first | apply Kd.R_alloc | apply Kd.R_drewN | apply Kd.R_drew)); exact HO_214002.out))) (below_size (by repeat (first | (with_reducible first | exact HB.out | apply below_alloc | apply pw_below_drewN | apply below_drew1 | refine below_set ?_ GE201.out | refine below_set ?_ GE202.out | refine below_set ?_ GE213.out) | exact HB.out)))); have n4_ := Aside0.mk (blk_below (g := gb201) (o := .cells #[.int .i64 a0_0, .bool a0_1, .slice A0_2 l0_2.length c0_2, .bool true, .bool a0_4] 24 (0, 0)) (by (with_reducible repeat (first | refine blk_drewN ?_ _ | refine blk_drew ?_ | refine blk_alloc ?_ _)); exact BK201.out) hb); have n5_ := Aside0.mk (blk_below (g := gb202) (o := .cells #[.string a1_0, .slice A1_1 l1_1.length c1_1, .slice A1_2 l1_2.length c1_2] 27 (0, 0)) (by (with_reducible repeat (first | refine blk_drewN ?_ _ | refine blk_drew ?_ | refine blk_alloc ?_ _)); exact BK202.out) hb); have n6_ := Aside0.mk (blk_below (g := gb213) (o := .cells #[.string t206, .slice Ao31 t207.length co31, .slice Ao32 t210.length co32] 27 (0, 0)) (by (with_reducible repeat (first | refine blk_drewN ?_ _ | refine blk_drew ?_ | refine blk_alloc ?_ _)); exact BK213.out) hb); have n7_ := Aside0.mk (below_step (by repeat (first | (with_reducible first | exact HB.out | apply below_alloc | apply pw_below_drewN | apply below_drew1 | refine below_set ?_ GE201.out | refine below_set ?_ GE202.out | refine below_set ?_ GE213.out) | exact HB.out)) hb); clear HO_214001; clear HO_214002; clear BK201; clear BK202; clear BK213; clear HB; have HO_214001 := n0_; have HO_214002 := n1_; have HO225 := n2_; have HO228 := n3_; have BK201 := n4_; have BK202 := n5_; have BK213 := n6_; have HB := n7_; clear n0_ n1_ n2_ n3_ n4_ n5_ n6_ n7_; (try clear hb); (try clear hb2); (try clear hk); (try clear hi); (try clear ho0); (try clear ho1)) | ((with_reducible refine gate_dst (N := 10) rfl ?_); (try (refine gate_guard (by rfl) ?_; dsimp only)); refine box_event ?hg (N := 10) ?hd (cs := #[.string (⟨#[]⟩ : ByteArray), .slice none 0 0, .slice none 0 0]) (t := 27) ?hr ?_; (case hd => rfl); (case hg => rfl); (case hr => first | (go_simp; done) | (go_simp; rfl)); intro gb229 hg w151 hbox hb; have n0_ := Aside0.mk (Kd.S_below (by (with_reducible repeat (first | apply Kd.S_alloc | apply Kd.S_drewN | apply Kd.S_drew)); exact HO_214001.out) hb); have n1_ := Aside0.mk (Kd.R_below (by (with_reducible repeat (first | apply Kd.R_alloc | apply Kd.R_drewN | apply Kd.R_drew)); exact HO_214002.out) hb); have n2_ := Aside0.mk (Kd.S_below (by (with_reducible repeat (first | apply Kd.S_alloc | apply Kd.S_drewN | apply Kd.S_drew)); exact HO225.out) hb); have n3_ := Aside0.mk (Kd.R_below (by (with_reducible repeat (first | apply Kd.R_alloc | apply Kd.R_drewN | apply Kd.R_drew)); exact HO228.out) hb); have n4_ := Aside0.mk (blk_below (g := gb201) (o := .cells #[.int .i64 a0_0, .bool a0_1, .slice A0_2 l0_2.length c0_2, .bool true, .bool a0_4] 24 (0, 0)) (by (with_reducible repeat (first | refine blk_drewN ?_ _ | refine blk_drew ?_ | refine blk_alloc ?_ _)); exact BK201.out) hb); have n5_ := Aside0.mk (blk_below (g := gb202) (o := .cells #[.string a1_0, .slice A1_1 l1_1.length c1_1, .slice A1_2 l1_2.length c1_2] 27 (0, 0)) (by (with_reducible repeat (first | refine blk_drewN ?_ _ | refine blk_drew ?_ | refine blk_alloc ?_ _)); exact BK202.out) hb); have n6_ := Aside0.mk (blk_below (g := gb213) (o := .cells #[.string t206, .slice Ao31 t207.length co31, .slice Ao32 t210.length co32] 27 (0, 0)) (by (with_reducible repeat (first | refine blk_drewN ?_ _ | refine blk_drew ?_ | refine blk_alloc ?_ _)); exact BK213.out) hb); have n7_ := Aside0.mk (below_step (by repeat (first | (with_reducible first | exact HB.out | apply below_alloc | apply pw_below_drewN | apply below_drew1 | refine below_set ?_ GE201.out | refine below_set ?_ GE202.out | refine below_set ?_ GE213.out) | exact HB.out)) hb); have n8_ := Aside0.mk (hbox); have n9_ := Aside0.mk ((by rw [hg]; exact (below_size (by repeat (first | (with_reducible first | exact HB.out | apply below_alloc | apply pw_below_drewN | apply below_drew1 | refine below_set ?_ GE201.out | refine below_set ?_ GE202.out | refine below_set ?_ GE213.out) | exact HB.out))) : w.heap.size ≤ gb229)); have n10_ := Aside0.mk ((by rw [hg]; exact (below_size (by repeat (first | (with_reducible first | exact HB.out | apply below_alloc | apply pw_below_drewN | apply below_drew1 | refine below_set ?_ GE201.out | refine below_set ?_ GE202.out | refine below_set ?_ GE213.out) | exact HB.out))) : w.heap.size ≤ gb229)); have n11_ := Aside0.mk ((by rw [hg]; exact Nat.ne_of_lt (blk_lt (g := gb201) (o := .cells #[.int .i64 a0_0, .bool a0_1, .slice A0_2 l0_2.length c0_2, .bool true, .bool a0_4] 24 (0, 0)) (by (with_reducible repeat (first | refine blk_drewN ?_ _ | refine blk_drew ?_ | refine blk_alloc ?_ _)); exact BK201.out)) : gb201 ≠ gb229)); have n12_ := Aside0.mk ((by rw [hg]; exact Nat.ne_of_gt (blk_lt (g := gb201) (o := .cells #[.int .i64 a0_0, .bool a0_1, .slice A0_2 l0_2.length c0_2, .bool true, .bool a0_4] 24 (0, 0)) (by (with_reducible repeat (first | refine blk_drewN ?_ _ | refine blk_drew ?_ | refine blk_alloc ?_ _)); exact BK201.out)) : gb229 ≠ gb201)); have n13_ := Aside0.mk ((by rw [hg]; exact Nat.ne_of_lt (blk_lt (g := gb202) (o := .cells #[.string a1_0, .slice A1_1 l1_1.length c1_1, .slice A1_2 l1_2.length c1_2] 27 (0, 0)) (by (with_reducible repeat (first | refine blk_drewN ?_ _ | refine blk_drew ?_ | refine blk_alloc ?_ _)); exact BK202.out)) : gb202 ≠ gb229)); have n14_ := Aside0.mk ((by rw [hg]; exact Nat.ne_of_gt (blk_lt (g := gb202) (o := .cells #[.string a1_0, .slice A1_1 l1_1.length c1_1, .slice A1_2 l1_2.length c1_2] 27 (0, 0)) (by (with_reducible repeat (first | refine blk_drewN ?_ _ | refine blk_drew ?_ | refine blk_alloc ?_ _)); exact BK202.out)) : gb229 ≠ gb202)); have n15_ := Aside0.mk ((by rw [hg]; exact Nat.ne_of_lt (blk_lt (g := gb213) (o := .cells #[.string t206, .slice Ao31 t207.length co31, .slice Ao32 t210.length co32] 27 (0, 0)) (by (with_reducible repeat (first | refine blk_drewN ?_ _ | refine blk_drew ?_ | refine blk_alloc ?_ _)); exact BK213.out)) : gb213 ≠ gb229)); have n16_ := Aside0.mk ((by rw [hg]; exact Nat.ne_of_gt (blk_lt (g := gb213) (o := .cells #[.string t206, .slice Ao31 t207.length co31, .slice Ao32 t210.length co32] 27 (0, 0)) (by (with_reducible repeat (first | refine blk_drewN ?_ _ | refine blk_drew ?_ | refine blk_alloc ?_ _)); exact BK213.out)) : gb229 ≠ gb213)); clear HO_214001; clear HO_214002; clear HO225; clear HO228; clear BK201; clear BK202; clear BK213; clear HB; have HO_214001 := n0_; have HO_214002 := n1_; have HO225 := n2_; have HO228 := n3_; have BK201 := n4_; have BK202 := n5_; have BK213 := n6_; have HB := n7_; have BK229 := n8_; have GW229 := n9_; have GE229 := n10_; have NB201_229 := n11_; have NB229_201 := n12_; have NB202_229 := n13_; have NB229_202 := n14_; have NB213_229 := n15_; have NB229_213 := n16_; clear n0_ n1_ n2_ n3_ n4_ n5_ n6_ n7_ n8_ n9_ n10_ n11_ n12_ n13_ n14_ n15_ n16_; clear hb hbox hg; have hnb152 := NB229_201.out; have hnc152 := NB201_229.out; have hnb153 := NB229_202.out; have hnc153 := NB202_229.out; have hnb154 := NB229_213.out; have hnc154 := NB213_229.out; have hcz155_0 : w151.cell? ⟨gb229, 0, none⟩ = some (.string (⟨#[]⟩ : ByteArray)) := (blk_cell BK229.out 0).trans rfl; have hcz155_1 : w151.cell? ⟨gb229, 1, none⟩ = some (.slice none 0 0) := (blk_cell BK229.out 1).trans rfl; have hcz155_2 : w151.cell? ⟨gb229, 2, none⟩ = some (.slice none 0 0) := (blk_cell BK229.out 2).trans rfl; have hfz155_0 := blk_frozen BK229.out 0; have hfz155_1 := blk_frozen BK229.out 1; have hfz155_2 := blk_frozen BK229.out 2; obtain ⟨Ao156, co156, eo156⟩ := Kd.S_slice HO225.out; subst eo156; obtain ⟨Ao157, co157, eo157⟩ := Kd.R_slice HO228.out; subst eo157; have hcz158_0 : w151.cell? ⟨gb202, 0, none⟩ = some (.string a1_0) := (blk_cell BK202.out 0).trans rfl; have hcz158_1 : w151.cell? ⟨gb202, 1, none⟩ = some (.slice A1_1 l1_1.length c1_1) := (blk_cell BK202.out 1).trans rfl; have hcz158_2 : w151.cell? ⟨gb202, 2, none⟩ = some (.slice A1_2 l1_2.length c1_2) := (blk_cell BK202.out 2).trans rfl; have hfz158_0 := blk_frozen BK202.out 0; have hfz158_1 := blk_frozen BK202.out 1; have hfz158_2 := blk_frozen BK202.out 2) | ((with_reducible refine gate_callee (f := 9) rfl ?_); refine goesL_ (some 103) rfl rfl Tryd.func9 (by kernel_rfl) rfl #[.agg #[.string t222, .slice Ao156 t223.length co156, .slice Ao157 t226.length co157], .agg #[.string a1_0, .slice A1_1 l1_1.length c1_1, .slice A1_2 l1_2.length c1_2]] rfl (by (try simp only [List.map_toArray, List.map_cons, List.map_nil]); first | done | rfl | (simp only [List.length_drop, List.length_take]; rfl)) ?_; (with_reducible refine (watchbillref20_Same.calls k3 t222 _ _ t223 _ _ t226 a1_0 _ _ l1_1 _ _ l1_2 true _ ?side1 ?side2 ?side3 ?side4 ?side5 ?side6 ?side7 ?side8 A142.out).mono ?_); (case side1 => refine (Kd.S_reads' (e := 38) (base := w.heap.size) (ok := fun k_ => ((some k_ ≠ (.slice Ao157 t226.length co157 : Value).ownBlock ∧ some k_ ≠ (.slice Ao31 t207.length co31 : Value).ownBlock) ∧ some k_ ≠ (.slice Ao32 t210.length co32 : Value).ownBlock)) (n := t223.length) (c := co156) ?_).2.2; exact (by (with_reducible repeat (first | apply Kd.S_alloc | apply Kd.S_drewN | apply Kd.S_drew)); exact (Kd.S_mono (Kd.S_far (p := ⟨gb229, 2, none⟩) (Kd.S_far (p := ⟨gb229, 1, none⟩) (Kd.S_far (p := ⟨gb229, 0, none⟩) (Kd.S_types HO225.out BK229.out (by decide)) (fun _ hk => hk.2) (.string t222)) (fun _ hk => hk.2) (.slice Ao156 t223.length co156)) (fun _ hk => hk.2) (.slice Ao157 t226.length co157)) (fun _ h_ => h_.1)))); (case side2 => exact (Kd.S_reads' HO225.out).2.1); (case side3 => refine (Kd.R_reads' (e := 9) (base := w.heap.size) (ok := fun k_ => (True ∧ some k_ ≠ (.slice Ao32 t210.length co32 : Value).ownBlock)) (n := t226.length) (c := co157) ?_).2.2; exact (by (with_reducible repeat (first | apply Kd.R_alloc | apply Kd.R_drewN | apply Kd.R_drew)); exact (Kd.R_mono (Kd.R_far (p := ⟨gb229, 2, none⟩) (Kd.R_far (p := ⟨gb229, 1, none⟩) (Kd.R_far (p := ⟨gb229, 0, none⟩) (Kd.R_types HO228.out BK229.out (by decide)) (fun _ hk => hk.2) (.string t222)) (fun _ hk => hk.2) (.slice Ao156 t223.length co156)) (fun _ hk => hk.2) (.slice Ao157 t226.length co157)) (fun _ h_ => h_.1)))); (case side4 => exact (Kd.R_reads' HO228.out).2.1); (case side5 => exact Kd.C_below HR1_1.out (by repeat (first | (with_reducible first | exact HB.out | apply below_alloc | apply pw_below_drewN | apply below_drew1 | refine below_set ?_ GE201.out | refine below_set ?_ GE202.out | refine below_set ?_ GE213.out | refine below_set ?_ GE229.out) | exact HB.out))); (case side6 => exact HC1_1.out); (case side7 => exact Kd.C_below HR1_2.out (by repeat (first | (with_reducible first | exact HB.out | apply below_alloc | apply pw_below_drewN | apply below_drew1 | refine below_set ?_ GE201.out | refine below_set ?_ GE202.out | refine below_set ?_ GE213.out | refine below_set ?_ GE229.out) | exact HB.out))); (case side8 => exact HC1_2.out); rintro e w159 ⟨rfl, hb⟩; refine ⟨_, rfl, ?_⟩; have n0_ := Aside0.mk (Kd.S_below (by (with_reducible repeat (first | apply Kd.S_alloc | apply Kd.S_drewN | apply Kd.S_drew)); exact (Kd.S_mono (Kd.S_far (p := ⟨gb229, 2, none⟩) (Kd.S_far (p := ⟨gb229, 1, none⟩) (Kd.S_far (p := ⟨gb229, 0, none⟩) (Kd.S_types HO_214001.out BK229.out (by decide)) (fun _ hk => hk.2) (.string t222)) (fun _ hk => hk.2) (.slice Ao156 t223.length co156)) (fun _ hk => hk.2) (.slice Ao157 t226.length co157)) (fun _ h_ => h_.1))) hb); have n1_ := Aside0.mk (Kd.R_below (by (with_reducible repeat (first | apply Kd.R_alloc | apply Kd.R_drewN | apply Kd.R_drew)); exact (Kd.R_mono (Kd.R_far (p := ⟨gb229, 2, none⟩) (Kd.R_far (p := ⟨gb229, 1, none⟩) (Kd.R_far (p := ⟨gb229, 0, none⟩) (Kd.R_types HO_214002.out BK229.out (by decide)) (fun _ hk => hk.2) (.string t222)) (fun _ hk => hk.2) (.slice Ao156 t223.length co156)) (fun _ hk => hk.2) (.slice Ao157 t226.length co157)) (fun _ h_ => h_.1))) hb); have n2_ := Aside0.mk (Kd.S_below (by (with_reducible repeat (first | apply Kd.S_alloc | apply Kd.S_drewN | apply Kd.S_drew)); exact (Kd.S_mono (Kd.S_far (p := ⟨gb229, 2, none⟩) (Kd.S_far (p := ⟨gb229, 1, none⟩) (Kd.S_far (p := ⟨gb229, 0, none⟩) (Kd.S_types HO225.out BK229.out (by decide)) (fun _ hk => hk.2) (.string t222)) (fun _ hk => hk.2) (.slice Ao156 t223.length co156)) (fun _ hk => hk.2) (.slice Ao157 t226.length co157)) (fun _ h_ => h_.1))) hb); have n3_ := Aside0.mk (Kd.R_below (by (with_reducible repeat (first | apply Kd.R_alloc | apply Kd.R_drewN | apply Kd.R_drew)); exact (Kd.R_mono (Kd.R_far (p := ⟨gb229, 2, none⟩) (Kd.R_far (p := ⟨gb229, 1, none⟩) (Kd.R_far (p := ⟨gb229, 0, none⟩) (Kd.R_types HO228.out BK229.out (by decide)) (fun _ hk => hk.2) (.string t222)) (fun _ hk => hk.2) (.slice Ao156 t223.length co156)) (fun _ hk => hk.2) (.slice Ao157 t226.length co157)) (fun _ h_ => h_.1))) hb); have n4_ := Aside0.mk (blk_below (g := gb201) (o := .cells #[.int .i64 a0_0, .bool a0_1, .slice A0_2 l0_2.length c0_2, .bool true, .bool a0_4] 24 (0, 0)) (by (repeat (first | (with_reducible first | refine blk_drewN ?_ _ | refine blk_drew ?_ | refine blk_alloc ?_ _) | refine blk_far ?_ NB201_229.out _)); exact BK201.out) hb); have n5_ := Aside0.mk (blk_below (g := gb202) (o := .cells #[.string a1_0, .slice A1_1 l1_1.length c1_1, .slice A1_2 l1_2.length c1_2] 27 (0, 0)) (by (repeat (first | (with_reducible first | refine blk_drewN ?_ _ | refine blk_drew ?_ | refine blk_alloc ?_ _) | refine blk_far ?_ NB202_229.out _)); exact BK202.out) hb); have n6_ := Aside0.mk (blk_below (g := gb213) (o := .cells #[.string t206, .slice Ao31 t207.length co31, .slice Ao32 t210.length co32] 27 (0, 0)) (by (repeat (first | (with_reducible first | refine blk_drewN ?_ _ | refine blk_drew ?_ | refine blk_alloc ?_ _) | refine blk_far ?_ NB213_229.out _)); exact BK213.out) hb); have n7_ := Aside0.mk (blk_below (g := gb229) (o := .cells #[.string t222, .slice Ao156 t223.length co156, .slice Ao157 t226.length co157] 27 (0, 0)) (by (with_reducible repeat (first | refine blk_drewN ?_ _ | refine blk_drew ?_ | refine blk_alloc ?_ _)); refine blk_put (cs := #[.string t222, .slice Ao156 t223.length co156, .slice none 0 0]) ?_ 2 _ rfl; (with_reducible repeat (first | refine blk_drewN ?_ _ | refine blk_drew ?_ | refine blk_alloc ?_ _)); refine blk_put (cs := #[.string t222, .slice none 0 0, .slice none 0 0]) ?_ 1 _ rfl; (with_reducible repeat (first | refine blk_drewN ?_ _ | refine blk_drew ?_ | refine blk_alloc ?_ _)); refine blk_put (cs := #[.string (⟨#[]⟩ : ByteArray), .slice none 0 0, .slice none 0 0]) ?_ 0 _ rfl; (with_reducible repeat (first | refine blk_drewN ?_ _ | refine blk_drew ?_ | refine blk_alloc ?_ _)); exact BK229.out) hb); have n8_ := Aside0.mk (below_step (by repeat (first | (with_reducible first | exact HB.out | apply below_alloc | apply pw_below_drewN | apply below_drew1 | refine below_set ?_ GE201.out | refine below_set ?_ GE202.out | refine below_set ?_ GE213.out | refine below_set ?_ GE229.out) | exact HB.out)) hb); clear HO_214001; clear HO_214002; clear HO225; clear HO228; clear BK201; clear BK202; clear BK213; clear BK229; clear HB; have HO_214001 := n0_; have HO_214002 := n1_; have HO225 := n2_; have HO228 := n3_; have BK201 := n4_; have BK202 := n5_; have BK213 := n6_; have BK229 := n7_; have HB := n8_; clear n0_ n1_ n2_ n3_ n4_ n5_ n6_ n7_ n8_; (try clear hb); (try clear hb2); (try clear hk); (try clear hi); have hcz160_0 : w159.cell? ⟨gb201, 0, none⟩ = some (.int .i64 a0_0) := (blk_cell BK201.out 0).trans rfl; have hcz160_1 : w159.cell? ⟨gb201, 1, none⟩ = some (.bool a0_1) := (blk_cell BK201.out 1).trans rfl; have hcz160_2 : w159.cell? ⟨gb201, 2, none⟩ = some (.slice A0_2 l0_2.length c0_2) := (blk_cell BK201.out 2).trans rfl; have hcz160_3 : w159.cell? ⟨gb201, 3, none⟩ = some (.bool true) := (blk_cell BK201.out 3).trans rfl; have hcz160_4 : w159.cell? ⟨gb201, 4, none⟩ = some (.bool a0_4) := (blk_cell BK201.out 4).trans rfl; have hfz160_0 := blk_frozen BK201.out 0; have hfz160_1 := blk_frozen BK201.out 1; have hfz160_2 := blk_frozen BK201.out 2; have hfz160_3 := blk_frozen BK201.out 3; have hfz160_4 := blk_frozen BK201.out 4))
                  go_ret
                  exact ⟨by first | rfl | (simp [errW_none, errW_some] <;> rfl) | (simp [*, errW_none, errW_some] <;> rfl), by repeat (first | (with_reducible first | exact HB.out | apply below_alloc | apply pw_below_drewN | apply below_drew1 | refine below_set ?_ GE201.out | refine below_set ?_ GE202.out | refine below_set ?_ GE213.out | refine below_set ?_ GE229.out) | exact HB.out)⟩
                · replace c144 := Bool.eq_false_iff.mpr c144
                  subst c144
                  have H1 : (some ((t210.length : Int) == 0)) = some r := by rw [if_neg (show ¬ (false = true) by decide)] at H; exact H
                  clear H
                  have H := H1
                  clear H1
                  obtain rfl := Option.some.inj H
                  have hnb161 := NB213_201.out
                  have hnc161 := NB201_213.out
                  have hnb162 := NB213_202.out
                  have hnc162 := NB202_213.out
                  have hcz163_0 : wr.cell? ⟨gb213, 0, none⟩ = some (.string t206) := (blk_cell BK213.out 0).trans rfl
                  have hcz163_1 : wr.cell? ⟨gb213, 1, none⟩ = some (.slice Ao31 t207.length co31) := (blk_cell BK213.out 1).trans rfl
                  have hcz163_2 : wr.cell? ⟨gb213, 2, none⟩ = some (.slice Ao32 t210.length co32) := (blk_cell BK213.out 2).trans rfl
                  have hfz163_0 := blk_frozen BK213.out 0
                  have hfz163_1 := blk_frozen BK213.out 1
                  have hfz163_2 := blk_frozen BK213.out 2
                  have hnb164 := NB202_201.out
                  have hnc164 := NB201_202.out
                  have hcz165_0 : wr.cell? ⟨gb202, 0, none⟩ = some (.string a1_0) := (blk_cell BK202.out 0).trans rfl
                  have hcz165_1 : wr.cell? ⟨gb202, 1, none⟩ = some (.slice A1_1 l1_1.length c1_1) := (blk_cell BK202.out 1).trans rfl
                  have hcz165_2 : wr.cell? ⟨gb202, 2, none⟩ = some (.slice A1_2 l1_2.length c1_2) := (blk_cell BK202.out 2).trans rfl
                  have hfz165_0 := blk_frozen BK202.out 0
                  have hfz165_1 := blk_frozen BK202.out 1
                  have hfz165_2 := blk_frozen BK202.out 2
                  go_wp2_with (first | ((with_reducible refine gate_callee (f := 10) rfl ?_); refine goesL_ (some 100) rfl rfl Tryd.func10 (by kernel_rfl) rfl #[.agg #[.int .i64 3, .bool true, .slice none 0 0, .bool true, .bool true], .agg #[.string a1_0, .slice A1_1 l1_1.length c1_1, .slice A1_2 l1_2.length c1_2]] rfl (by (try simp only [List.map_toArray, List.map_cons, List.map_nil]); first | done | rfl | (simp only [List.length_drop, List.length_take]; rfl)) ?_; (refine (filter_Apply.calls k3 3 true _ _ ([] : List ByteArray) true true a1_0 _ _ l1_1 _ _ l1_2 t222 t223 t226 _ ?side1 ?side2 ?side3 ?side4 ?side5 ?side6 A141.out).mono ?_); (case side1 => exact Kd.C_nil _ _); (case side2 => exact Nat.le_refl _); (case side3 => repeat (first | exact (Kd.C_below HR1_1.out HB.out) | (with_reducible refine Kd.C_alloc ?_ _) | (with_reducible refine Kd.C_drewN ?_ _) | (with_reducible refine Kd.C_drew ?_))); (case side4 => exact HC1_1.out); (case side5 => repeat (first | exact (Kd.C_below HR1_2.out HB.out) | (with_reducible refine Kd.C_alloc ?_ _) | (with_reducible refine Kd.C_drewN ?_ _) | (with_reducible refine Kd.C_drew ?_))); (case side6 => exact HC1_2.out); rintro e w166 ⟨v224, v227, rfl, ho0, ho1, hb⟩; refine ⟨_, rfl, ?_⟩; have n0_ := Aside0.mk (Kd.S_mono (Kd.S_told (Kd.S_told (Kd.S_old (by (with_reducible repeat (first | apply Kd.S_alloc | apply Kd.S_drewN | apply Kd.S_drew)); exact HO_214001.out) hb) (Kd.S_base ho0)) (Kd.R_base ho1)) (fun _ h_ => h_.1)); have n1_ := Aside0.mk (Kd.R_elder' (by (with_reducible repeat (first | apply Kd.R_alloc | apply Kd.R_drewN | apply Kd.R_drew)); exact HO_214002.out) (Kd.R_base ho1) hb); have n2_ := Aside0.mk (Kd.S_lower (Kd.S_new' (Kd.S_new' ho0 (Kd.S_lt (by (with_reducible repeat (first | apply Kd.S_alloc | apply Kd.S_drewN | apply Kd.S_drew)); exact HO_214001.out))) (Kd.R_lt (by (with_reducible repeat (first | apply Kd.R_alloc | apply Kd.R_drewN | apply Kd.R_drew)); exact HO_214002.out))) (below_size (by repeat (first | (with_reducible first | exact HB.out | apply below_alloc | apply pw_below_drewN | apply below_drew1 | refine below_set ?_ GE201.out | refine below_set ?_ GE202.out | refine below_set ?_ GE213.out) | exact HB.out)))); have n3_ := Aside0.mk (Kd.R_lower (Kd.R_new' ho1 (Kd.R_lt (by (with_reducible repeat (first | apply Kd.R_alloc | apply Kd.R_drewN | apply Kd.R_drew)); exact HO_214002.out))) (below_size (by repeat (first | (with_reducible first | exact HB.out | apply below_alloc | apply pw_below_drewN | apply below_drew1 | refine below_set ?_ GE201.out | refine below_set ?_ GE202.out | refine below_set ?_ GE213.out) | exact HB.out)))); have n4_ := Aside0.mk (blk_below (g := gb201) (o := .cells #[.int .i64 a0_0, .bool a0_1, .slice A0_2 l0_2.length c0_2, .bool false, .bool a0_4] 24 (0, 0)) (by (with_reducible repeat (first | refine blk_drewN ?_ _ | refine blk_drew ?_ | refine blk_alloc ?_ _)); exact BK201.out) hb); have n5_ := Aside0.mk (blk_below (g := gb202) (o := .cells #[.string a1_0, .slice A1_1 l1_1.length c1_1, .slice A1_2 l1_2.length c1_2] 27 (0, 0)) (by (with_reducible repeat (first | refine blk_drewN ?_ _ | refine blk_drew ?_ | refine blk_alloc ?_ _)); exact BK202.out) hb); have n6_ := Aside0.mk (blk_below (g := gb213) (o := .cells #[.string t206, .slice Ao31 t207.length co31, .slice Ao32 t210.length co32] 27 (0, 0)) (by (with_reducible repeat (first | refine blk_drewN ?_ _ | refine blk_drew ?_ | refine blk_alloc ?_ _)); exact BK213.out) hb); have n7_ := Aside0.mk (below_step (by repeat (first | (with_reducible first | exact HB.out | apply below_alloc | apply pw_below_drewN | apply below_drew1 | refine below_set ?_ GE201.out | refine below_set ?_ GE202.out | refine below_set ?_ GE213.out) | exact HB.out)) hb); clear HO_214001; clear HO_214002; clear BK201; clear BK202; clear BK213; clear HB; have HO_214001 := n0_; have HO_214002 := n1_; have HO225 := n2_; have HO228 := n3_; have BK201 := n4_; have BK202 := n5_; have BK213 := n6_; have HB := n7_; clear n0_ n1_ n2_ n3_ n4_ n5_ n6_ n7_; (try clear hb); (try clear hb2); (try clear hk); (try clear hi); (try clear ho0); (try clear ho1)) | ((with_reducible refine gate_dst (N := 10) rfl ?_); (try (refine gate_guard (by rfl) ?_; dsimp only)); refine box_event ?hg (N := 10) ?hd (cs := #[.string (⟨#[]⟩ : ByteArray), .slice none 0 0, .slice none 0 0]) (t := 27) ?hr ?_; (case hd => rfl); (case hg => rfl); (case hr => first | (go_simp; done) | (go_simp; rfl)); intro gb229 hg w167 hbox hb; have n0_ := Aside0.mk (Kd.S_below (by (with_reducible repeat (first | apply Kd.S_alloc | apply Kd.S_drewN | apply Kd.S_drew)); exact HO_214001.out) hb); have n1_ := Aside0.mk (Kd.R_below (by (with_reducible repeat (first | apply Kd.R_alloc | apply Kd.R_drewN | apply Kd.R_drew)); exact HO_214002.out) hb); have n2_ := Aside0.mk (Kd.S_below (by (with_reducible repeat (first | apply Kd.S_alloc | apply Kd.S_drewN | apply Kd.S_drew)); exact HO225.out) hb); have n3_ := Aside0.mk (Kd.R_below (by (with_reducible repeat (first | apply Kd.R_alloc | apply Kd.R_drewN | apply Kd.R_drew)); exact HO228.out) hb); have n4_ := Aside0.mk (blk_below (g := gb201) (o := .cells #[.int .i64 a0_0, .bool a0_1, .slice A0_2 l0_2.length c0_2, .bool false, .bool a0_4] 24 (0, 0)) (by (with_reducible repeat (first | refine blk_drewN ?_ _ | refine blk_drew ?_ | refine blk_alloc ?_ _)); exact BK201.out) hb); have n5_ := Aside0.mk (blk_below (g := gb202) (o := .cells #[.string a1_0, .slice A1_1 l1_1.length c1_1, .slice A1_2 l1_2.length c1_2] 27 (0, 0)) (by (with_reducible repeat (first | refine blk_drewN ?_ _ | refine blk_drew ?_ | refine blk_alloc ?_ _)); exact BK202.out) hb); have n6_ := Aside0.mk (blk_below (g := gb213) (o := .cells #[.string t206, .slice Ao31 t207.length co31, .slice Ao32 t210.length co32] 27 (0, 0)) (by (with_reducible repeat (first | refine blk_drewN ?_ _ | refine blk_drew ?_ | refine blk_alloc ?_ _)); exact BK213.out) hb); have n7_ := Aside0.mk (below_step (by repeat (first | (with_reducible first | exact HB.out | apply below_alloc | apply pw_below_drewN | apply below_drew1 | refine below_set ?_ GE201.out | refine below_set ?_ GE202.out | refine below_set ?_ GE213.out) | exact HB.out)) hb); have n8_ := Aside0.mk (hbox); have n9_ := Aside0.mk ((by rw [hg]; exact (below_size (by repeat (first | (with_reducible first | exact HB.out | apply below_alloc | apply pw_below_drewN | apply below_drew1 | refine below_set ?_ GE201.out | refine below_set ?_ GE202.out | refine below_set ?_ GE213.out) | exact HB.out))) : w.heap.size ≤ gb229)); have n10_ := Aside0.mk ((by rw [hg]; exact (below_size (by repeat (first | (with_reducible first | exact HB.out | apply below_alloc | apply pw_below_drewN | apply below_drew1 | refine below_set ?_ GE201.out | refine below_set ?_ GE202.out | refine below_set ?_ GE213.out) | exact HB.out))) : w.heap.size ≤ gb229)); have n11_ := Aside0.mk ((by rw [hg]; exact Nat.ne_of_lt (blk_lt (g := gb201) (o := .cells #[.int .i64 a0_0, .bool a0_1, .slice A0_2 l0_2.length c0_2, .bool false, .bool a0_4] 24 (0, 0)) (by (with_reducible repeat (first | refine blk_drewN ?_ _ | refine blk_drew ?_ | refine blk_alloc ?_ _)); exact BK201.out)) : gb201 ≠ gb229)); have n12_ := Aside0.mk ((by rw [hg]; exact Nat.ne_of_gt (blk_lt (g := gb201) (o := .cells #[.int .i64 a0_0, .bool a0_1, .slice A0_2 l0_2.length c0_2, .bool false, .bool a0_4] 24 (0, 0)) (by (with_reducible repeat (first | refine blk_drewN ?_ _ | refine blk_drew ?_ | refine blk_alloc ?_ _)); exact BK201.out)) : gb229 ≠ gb201)); have n13_ := Aside0.mk ((by rw [hg]; exact Nat.ne_of_lt (blk_lt (g := gb202) (o := .cells #[.string a1_0, .slice A1_1 l1_1.length c1_1, .slice A1_2 l1_2.length c1_2] 27 (0, 0)) (by (with_reducible repeat (first | refine blk_drewN ?_ _ | refine blk_drew ?_ | refine blk_alloc ?_ _)); exact BK202.out)) : gb202 ≠ gb229)); have n14_ := Aside0.mk ((by rw [hg]; exact Nat.ne_of_gt (blk_lt (g := gb202) (o := .cells #[.string a1_0, .slice A1_1 l1_1.length c1_1, .slice A1_2 l1_2.length c1_2] 27 (0, 0)) (by (with_reducible repeat (first | refine blk_drewN ?_ _ | refine blk_drew ?_ | refine blk_alloc ?_ _)); exact BK202.out)) : gb229 ≠ gb202)); have n15_ := Aside0.mk ((by rw [hg]; exact Nat.ne_of_lt (blk_lt (g := gb213) (o := .cells #[.string t206, .slice Ao31 t207.length co31, .slice Ao32 t210.length co32] 27 (0, 0)) (by (with_reducible repeat (first | refine blk_drewN ?_ _ | refine blk_drew ?_ | refine blk_alloc ?_ _)); exact BK213.out)) : gb213 ≠ gb229)); have n16_ := Aside0.mk ((by rw [hg]; exact Nat.ne_of_gt (blk_lt (g := gb213) (o := .cells #[.string t206, .slice Ao31 t207.length co31, .slice Ao32 t210.length co32] 27 (0, 0)) (by (with_reducible repeat (first | refine blk_drewN ?_ _ | refine blk_drew ?_ | refine blk_alloc ?_ _)); exact BK213.out)) : gb229 ≠ gb213)); clear HO_214001; clear HO_214002; clear HO225; clear HO228; clear BK201; clear BK202; clear BK213; clear HB; have HO_214001 := n0_; have HO_214002 := n1_; have HO225 := n2_; have HO228 := n3_; have BK201 := n4_; have BK202 := n5_; have BK213 := n6_; have HB := n7_; have BK229 := n8_; have GW229 := n9_; have GE229 := n10_; have NB201_229 := n11_; have NB229_201 := n12_; have NB202_229 := n13_; have NB229_202 := n14_; have NB213_229 := n15_; have NB229_213 := n16_; clear n0_ n1_ n2_ n3_ n4_ n5_ n6_ n7_ n8_ n9_ n10_ n11_ n12_ n13_ n14_ n15_ n16_; clear hb hbox hg; have hnb168 := NB229_201.out; have hnc168 := NB201_229.out; have hnb169 := NB229_202.out; have hnc169 := NB202_229.out; have hnb170 := NB229_213.out; have hnc170 := NB213_229.out; have hcz171_0 : w167.cell? ⟨gb229, 0, none⟩ = some (.string (⟨#[]⟩ : ByteArray)) := (blk_cell BK229.out 0).trans rfl; have hcz171_1 : w167.cell? ⟨gb229, 1, none⟩ = some (.slice none 0 0) := (blk_cell BK229.out 1).trans rfl; have hcz171_2 : w167.cell? ⟨gb229, 2, none⟩ = some (.slice none 0 0) := (blk_cell BK229.out 2).trans rfl; have hfz171_0 := blk_frozen BK229.out 0; have hfz171_1 := blk_frozen BK229.out 1; have hfz171_2 := blk_frozen BK229.out 2; obtain ⟨Ao172, co172, eo172⟩ := Kd.S_slice HO225.out; subst eo172; obtain ⟨Ao173, co173, eo173⟩ := Kd.R_slice HO228.out; subst eo173; have hcz174_0 : w167.cell? ⟨gb202, 0, none⟩ = some (.string a1_0) := (blk_cell BK202.out 0).trans rfl; have hcz174_1 : w167.cell? ⟨gb202, 1, none⟩ = some (.slice A1_1 l1_1.length c1_1) := (blk_cell BK202.out 1).trans rfl; have hcz174_2 : w167.cell? ⟨gb202, 2, none⟩ = some (.slice A1_2 l1_2.length c1_2) := (blk_cell BK202.out 2).trans rfl; have hfz174_0 := blk_frozen BK202.out 0; have hfz174_1 := blk_frozen BK202.out 1; have hfz174_2 := blk_frozen BK202.out 2) | ((with_reducible refine gate_callee (f := 9) rfl ?_); refine goesL_ (some 103) rfl rfl Tryd.func9 (by kernel_rfl) rfl #[.agg #[.string t222, .slice Ao172 t223.length co172, .slice Ao173 t226.length co173], .agg #[.string a1_0, .slice A1_1 l1_1.length c1_1, .slice A1_2 l1_2.length c1_2]] rfl (by (try simp only [List.map_toArray, List.map_cons, List.map_nil]); first | done | rfl | (simp only [List.length_drop, List.length_take]; rfl)) ?_; (with_reducible refine (watchbillref20_Same.calls k3 t222 _ _ t223 _ _ t226 a1_0 _ _ l1_1 _ _ l1_2 true _ ?side1 ?side2 ?side3 ?side4 ?side5 ?side6 ?side7 ?side8 A142.out).mono ?_); (case side1 => refine (Kd.S_reads' (e := 38) (base := w.heap.size) (ok := fun k_ => ((some k_ ≠ (.slice Ao173 t226.length co173 : Value).ownBlock ∧ some k_ ≠ (.slice Ao31 t207.length co31 : Value).ownBlock) ∧ some k_ ≠ (.slice Ao32 t210.length co32 : Value).ownBlock)) (n := t223.length) (c := co172) ?_).2.2; exact (by (with_reducible repeat (first | apply Kd.S_alloc | apply Kd.S_drewN | apply Kd.S_drew)); exact (Kd.S_mono (Kd.S_far (p := ⟨gb229, 2, none⟩) (Kd.S_far (p := ⟨gb229, 1, none⟩) (Kd.S_far (p := ⟨gb229, 0, none⟩) (Kd.S_types HO225.out BK229.out (by decide)) (fun _ hk => hk.2) (.string t222)) (fun _ hk => hk.2) (.slice Ao172 t223.length co172)) (fun _ hk => hk.2) (.slice Ao173 t226.length co173)) (fun _ h_ => h_.1)))); (case side2 => exact (Kd.S_reads' HO225.out).2.1); (case side3 => refine (Kd.R_reads' (e := 9) (base := w.heap.size) (ok := fun k_ => (True ∧ some k_ ≠ (.slice Ao32 t210.length co32 : Value).ownBlock)) (n := t226.length) (c := co173) ?_).2.2; exact (by (with_reducible repeat (first | apply Kd.R_alloc | apply Kd.R_drewN | apply Kd.R_drew)); exact (Kd.R_mono (Kd.R_far (p := ⟨gb229, 2, none⟩) (Kd.R_far (p := ⟨gb229, 1, none⟩) (Kd.R_far (p := ⟨gb229, 0, none⟩) (Kd.R_types HO228.out BK229.out (by decide)) (fun _ hk => hk.2) (.string t222)) (fun _ hk => hk.2) (.slice Ao172 t223.length co172)) (fun _ hk => hk.2) (.slice Ao173 t226.length co173)) (fun _ h_ => h_.1)))); (case side4 => exact (Kd.R_reads' HO228.out).2.1); (case side5 => exact Kd.C_below HR1_1.out (by repeat (first | (with_reducible first | exact HB.out | apply below_alloc | apply pw_below_drewN | apply below_drew1 | refine below_set ?_ GE201.out | refine below_set ?_ GE202.out | refine below_set ?_ GE213.out | refine below_set ?_ GE229.out) | exact HB.out))); (case side6 => exact HC1_1.out); (case side7 => exact Kd.C_below HR1_2.out (by repeat (first | (with_reducible first | exact HB.out | apply below_alloc | apply pw_below_drewN | apply below_drew1 | refine below_set ?_ GE201.out | refine below_set ?_ GE202.out | refine below_set ?_ GE213.out | refine below_set ?_ GE229.out) | exact HB.out))); (case side8 => exact HC1_2.out); rintro e w175 ⟨rfl, hb⟩; refine ⟨_, rfl, ?_⟩; have n0_ := Aside0.mk (Kd.S_below (by (with_reducible repeat (first | apply Kd.S_alloc | apply Kd.S_drewN | apply Kd.S_drew)); exact (Kd.S_mono (Kd.S_far (p := ⟨gb229, 2, none⟩) (Kd.S_far (p := ⟨gb229, 1, none⟩) (Kd.S_far (p := ⟨gb229, 0, none⟩) (Kd.S_types HO_214001.out BK229.out (by decide)) (fun _ hk => hk.2) (.string t222)) (fun _ hk => hk.2) (.slice Ao172 t223.length co172)) (fun _ hk => hk.2) (.slice Ao173 t226.length co173)) (fun _ h_ => h_.1))) hb); have n1_ := Aside0.mk (Kd.R_below (by (with_reducible repeat (first | apply Kd.R_alloc | apply Kd.R_drewN | apply Kd.R_drew)); exact (Kd.R_mono (Kd.R_far (p := ⟨gb229, 2, none⟩) (Kd.R_far (p := ⟨gb229, 1, none⟩) (Kd.R_far (p := ⟨gb229, 0, none⟩) (Kd.R_types HO_214002.out BK229.out (by decide)) (fun _ hk => hk.2) (.string t222)) (fun _ hk => hk.2) (.slice Ao172 t223.length co172)) (fun _ hk => hk.2) (.slice Ao173 t226.length co173)) (fun _ h_ => h_.1))) hb); have n2_ := Aside0.mk (Kd.S_below (by (with_reducible repeat (first | apply Kd.S_alloc | apply Kd.S_drewN | apply Kd.S_drew)); exact (Kd.S_mono (Kd.S_far (p := ⟨gb229, 2, none⟩) (Kd.S_far (p := ⟨gb229, 1, none⟩) (Kd.S_far (p := ⟨gb229, 0, none⟩) (Kd.S_types HO225.out BK229.out (by decide)) (fun _ hk => hk.2) (.string t222)) (fun _ hk => hk.2) (.slice Ao172 t223.length co172)) (fun _ hk => hk.2) (.slice Ao173 t226.length co173)) (fun _ h_ => h_.1))) hb); have n3_ := Aside0.mk (Kd.R_below (by (with_reducible repeat (first | apply Kd.R_alloc | apply Kd.R_drewN | apply Kd.R_drew)); exact (Kd.R_mono (Kd.R_far (p := ⟨gb229, 2, none⟩) (Kd.R_far (p := ⟨gb229, 1, none⟩) (Kd.R_far (p := ⟨gb229, 0, none⟩) (Kd.R_types HO228.out BK229.out (by decide)) (fun _ hk => hk.2) (.string t222)) (fun _ hk => hk.2) (.slice Ao172 t223.length co172)) (fun _ hk => hk.2) (.slice Ao173 t226.length co173)) (fun _ h_ => h_.1))) hb); have n4_ := Aside0.mk (blk_below (g := gb201) (o := .cells #[.int .i64 a0_0, .bool a0_1, .slice A0_2 l0_2.length c0_2, .bool false, .bool a0_4] 24 (0, 0)) (by (repeat (first | (with_reducible first | refine blk_drewN ?_ _ | refine blk_drew ?_ | refine blk_alloc ?_ _) | refine blk_far ?_ NB201_229.out _)); exact BK201.out) hb); have n5_ := Aside0.mk (blk_below (g := gb202) (o := .cells #[.string a1_0, .slice A1_1 l1_1.length c1_1, .slice A1_2 l1_2.length c1_2] 27 (0, 0)) (by (repeat (first | (with_reducible first | refine blk_drewN ?_ _ | refine blk_drew ?_ | refine blk_alloc ?_ _) | refine blk_far ?_ NB202_229.out _)); exact BK202.out) hb); have n6_ := Aside0.mk (blk_below (g := gb213) (o := .cells #[.string t206, .slice Ao31 t207.length co31, .slice Ao32 t210.length co32] 27 (0, 0)) (by (repeat (first | (with_reducible first | refine blk_drewN ?_ _ | refine blk_drew ?_ | refine blk_alloc ?_ _) | refine blk_far ?_ NB213_229.out _)); exact BK213.out) hb); have n7_ := Aside0.mk (blk_below (g := gb229) (o := .cells #[.string t222, .slice Ao172 t223.length co172, .slice Ao173 t226.length co173] 27 (0, 0)) (by (with_reducible repeat (first | refine blk_drewN ?_ _ | refine blk_drew ?_ | refine blk_alloc ?_ _)); refine blk_put (cs := #[.string t222, .slice Ao172 t223.length co172, .slice none 0 0]) ?_ 2 _ rfl; (with_reducible repeat (first | refine blk_drewN ?_ _ | refine blk_drew ?_ | refine blk_alloc ?_ _)); refine blk_put (cs := #[.string t222, .slice none 0 0, .slice none 0 0]) ?_ 1 _ rfl; (with_reducible repeat (first | refine blk_drewN ?_ _ | refine blk_drew ?_ | refine blk_alloc ?_ _)); refine blk_put (cs := #[.string (⟨#[]⟩ : ByteArray), .slice none 0 0, .slice none 0 0]) ?_ 0 _ rfl; (with_reducible repeat (first | refine blk_drewN ?_ _ | refine blk_drew ?_ | refine blk_alloc ?_ _)); exact BK229.out) hb); have n8_ := Aside0.mk (below_step (by repeat (first | (with_reducible first | exact HB.out | apply below_alloc | apply pw_below_drewN | apply below_drew1 | refine below_set ?_ GE201.out | refine below_set ?_ GE202.out | refine below_set ?_ GE213.out | refine below_set ?_ GE229.out) | exact HB.out)) hb); clear HO_214001; clear HO_214002; clear HO225; clear HO228; clear BK201; clear BK202; clear BK213; clear BK229; clear HB; have HO_214001 := n0_; have HO_214002 := n1_; have HO225 := n2_; have HO228 := n3_; have BK201 := n4_; have BK202 := n5_; have BK213 := n6_; have BK229 := n7_; have HB := n8_; clear n0_ n1_ n2_ n3_ n4_ n5_ n6_ n7_ n8_; (try clear hb); (try clear hb2); (try clear hk); (try clear hi); have hcz176_0 : w175.cell? ⟨gb201, 0, none⟩ = some (.int .i64 a0_0) := (blk_cell BK201.out 0).trans rfl; have hcz176_1 : w175.cell? ⟨gb201, 1, none⟩ = some (.bool a0_1) := (blk_cell BK201.out 1).trans rfl; have hcz176_2 : w175.cell? ⟨gb201, 2, none⟩ = some (.slice A0_2 l0_2.length c0_2) := (blk_cell BK201.out 2).trans rfl; have hcz176_3 : w175.cell? ⟨gb201, 3, none⟩ = some (.bool false) := (blk_cell BK201.out 3).trans rfl; have hcz176_4 : w175.cell? ⟨gb201, 4, none⟩ = some (.bool a0_4) := (blk_cell BK201.out 4).trans rfl; have hfz176_0 := blk_frozen BK201.out 0; have hfz176_1 := blk_frozen BK201.out 1; have hfz176_2 := blk_frozen BK201.out 2; have hfz176_3 := blk_frozen BK201.out 3; have hfz176_4 := blk_frozen BK201.out 4; have hcz177_0 : w175.cell? ⟨gb213, 0, none⟩ = some (.string t206) := (blk_cell BK213.out 0).trans rfl; have hcz177_1 : w175.cell? ⟨gb213, 1, none⟩ = some (.slice Ao31 t207.length co31) := (blk_cell BK213.out 1).trans rfl; have hcz177_2 : w175.cell? ⟨gb213, 2, none⟩ = some (.slice Ao32 t210.length co32) := (blk_cell BK213.out 2).trans rfl; have hfz177_0 := blk_frozen BK213.out 0; have hfz177_1 := blk_frozen BK213.out 1; have hfz177_2 := blk_frozen BK213.out 2))
                  go_ret
                  exact ⟨by first | rfl | (simp [errW_none, errW_some] <;> rfl) | (simp [*, errW_none, errW_some] <;> rfl), by repeat (first | (with_reducible first | exact HB.out | apply below_alloc | apply pw_below_drewN | apply below_drew1 | refine below_set ?_ GE201.out | refine below_set ?_ GE202.out | refine below_set ?_ GE213.out | refine below_set ?_ GE229.out) | exact HB.out)⟩
end Go.Proofs.YtpgmjbkmalobeaaDoor.PAll
