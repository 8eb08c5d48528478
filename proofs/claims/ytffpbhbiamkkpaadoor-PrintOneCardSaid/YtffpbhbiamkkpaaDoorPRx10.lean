import Derived.Test.YtffpbhbiamkkpaaDoorPRx0
import Derived.Test.YtffpbhbiamkkpaaDoorNd
-- PRINTED by print.py (a twelfth state) out of the translation. Not trusted: Lean checks it.
namespace Go.Proofs.YtffpbhbiamkkpaaDoor.PR
open Go.Proofs.YtffpbhbiamkkpaaDoor.ND
open Go.RowKit Go.Proofs.YtffpbhbiamkkpaaDoorW.PrintWords Go.Proofs.YtffpbhbiamkkpaaDoorW.PrintLast Go.Proofs.YtffpbhbiamkkpaaDoorW.PrintMore
attribute [local go_sem] max2_int min2_int max_two min_two max_three min_three max_four min_four   -- for this text's walks alone
set_option linter.unusedVariables false
set_option linter.unusedSimpArgs false

/-! ### watchbilllaw04_weigh: function 31 -/
mutual
def watchbilllaw04_weigh.j1 : Nat → Int → Int → Int → ByteArray → ByteArray → List (At) → List (Nd) → ByteArray → Option (Int)
  | 0, _, _, _, _, _, _, _, _ => none
  | k + 1, x1, x5, x250000, x250001, x250002, x250003, x250004, x250005 => watchbilllaw04_weigh.l1 k x1 x5 0 x250000 x250001 x250002 x250003 x250004 x250005
def watchbilllaw04_weigh.l1 : Nat → Int → Int → Int → Int → ByteArray → ByteArray → List (At) → List (Nd) → ByteArray → Option (Int)
  | 0, _, _, _, _, _, _, _, _, _ => none
  | k + 1, x1, x5, x7, x250000, x250001, x250002, x250003, x250004, x250005 => if x7 < (x250004.length : Int) then (if x5 ≤ x1 then (if 0 ≤ x7 then ((watchbilllaw04_weigh.f k ((rdNd x250004 x7).f0) ((rdNd x250004 x7).f1.f0) ((rdNd x250004 x7).f1.f1) ((rdNd x250004 x7).f2) ((rdNd x250004 x7).f3) ((rdNd x250004 x7).f4) (wrap64 (x1 - x5))).bind fun t254 => (watchbilllaw04_weigh.l1 k x1 (wrap64 (x5 + t254)) (wrap64 (x7 + 1)) x250000 x250001 x250002 x250003 x250004 x250005)) else (none)) else (some x5)) else (some x5)
def watchbilllaw04_weigh.l0 : Nat → Int → Int → Int → Int → ByteArray → ByteArray → List (At) → List (Nd) → ByteArray → Option (Int)
  | 0, _, _, _, _, _, _, _, _, _ => none
  | k + 1, x1, x5, x6, x250000, x250001, x250002, x250003, x250004, x250005 => if x6 < (x250003.length : Int) then (if x5 ≤ x1 then (if 0 ≤ x6 then (watchbilllaw04_weigh.l0 k x1 (wrap64 ((wrap64 ((wrap64 (x5 + (mn (((rdAt x250003 x6).f0.f0).size : Int) x1))) + (mn (((rdAt x250003 x6).f0.f1).size : Int) x1))) + (mn (((rdAt x250003 x6).f1).size : Int) x1))) (wrap64 (x6 + 1)) x250000 x250001 x250002 x250003 x250004 x250005) else (none)) else (watchbilllaw04_weigh.j1 k x1 x5 x250000 x250001 x250002 x250003 x250004 x250005)) else (watchbilllaw04_weigh.j1 k x1 x5 x250000 x250001 x250002 x250003 x250004 x250005)
def watchbilllaw04_weigh.f : Nat → Int → ByteArray → ByteArray → List (At) → List (Nd) → ByteArray → Int → Option (Int)
  | 0, _, _, _, _, _, _, _ => none
  | k + 1, a0_0, a0_1, a0_2, l0_3, l0_4, a0_5, a1 => watchbilllaw04_weigh.l0 k a1 (wrap64 ((wrap64 ((wrap64 ((wrap64 (1 + (mn (a0_5.size : Int) a1))) + (mn (a0_1.size : Int) a1))) + (mn (a0_2.size : Int) a1))) + (mn (l0_3.length : Int) a1))) 0 a0_0 a0_1 a0_2 l0_3 l0_4 a0_5
end
set_option maxHeartbeats 8000000 in
set_option maxRecDepth 100000 in
theorem watchbilllaw04_weigh.calls (k : Nat) : ∀ (a0_0 : Int) (a0_1 : ByteArray) (a0_2 : ByteArray) (A0_3 : Option Addr) (c0_3 : Nat) (l0_3 : List (At)) (A0_4 : Option Addr) (c0_4 : Nat) (l0_4 : List (Nd)) (a0_5 : ByteArray) (a1 : Int) (r : Int) (w : World) (hr0_3 : Kd.C kAt w A0_3 l0_3.length l0_3) (hc0_3 : l0_3.length ≤ c0_3) (hr0_4 : Kd.C kNd w A0_4 l0_4.length l0_4) (hc0_4 : l0_4.length ≤ c0_4) (h : watchbilllaw04_weigh.f k a0_0 a0_1 a0_2 l0_3 l0_4 a0_5 a1 = some r),
    Calls Tryd.prog 31 #[.agg #[.int .i64 a0_0, .string a0_1, .string a0_2, .slice A0_3 l0_3.length c0_3, .slice A0_4 l0_4.length c0_4, .string a0_5], .int .i64 a1] w fun e w' => e = .returned (.int .i64 r) ∧ Below w.heap.size w w' := by
  induction k using Nat.strongRecOn with
  | _ k ih =>
  intro a0_0 a0_1 a0_2 A0_3 c0_3 l0_3 A0_4 c0_4 l0_4 a0_5 a1 r w hr0_3 hc0_3 hr0_4 hc0_4 h
  cases k with
  | zero => exact absurd h (by simp [watchbilllaw04_weigh.f])
  | succ k =>
  simp only [watchbilllaw04_weigh.f] at h
  have hu27 := Tryd.underlying27
  have HR0_3 := Aside0.mk hr0_3
  have HC0_3 := Aside0.mk hc0_3
  clear hr0_3 hc0_3
  have HR0_4 := Aside0.mk hr0_4
  have HC0_4 := Aside0.mk hc0_4
  clear hr0_4 hc0_4
  have HB := Aside0.mk (Below.refl w.heap.size w)
  have H : (watchbilllaw04_weigh.l0 k a1 (wrap64 ((wrap64 ((wrap64 ((wrap64 (1 + (mn (a0_5.size : Int) a1))) + (mn (a0_1.size : Int) a1))) + (mn (a0_2.size : Int) a1))) + (mn (l0_3.length : Int) a1))) 0 a0_0 a0_1 a0_2 l0_3 l0_4 a0_5) = some r := h
  clear h
  obtain ⟨ji3, hji3⟩ : ∃ j_ : Int, (mn (a0_5.size : Int) a1) = j_ := ⟨_, rfl⟩
  replace H : (watchbilllaw04_weigh.l0 k a1 (wrap64 ((wrap64 ((wrap64 ((wrap64 (1 + (ji3))) + (mn (a0_1.size : Int) a1))) + (mn (a0_2.size : Int) a1))) + (mn (l0_3.length : Int) a1))) 0 a0_0 a0_1 a0_2 l0_3 l0_4 a0_5) = some r := by first | (rw [hji3] at H; exact H) | (simp only [hji3] at H ⊢; exact H)
  have hji3_ : (if a1 < (a0_5.size : Int) then a1 else (a0_5.size : Int)) = ji3 := hji3
  obtain ⟨ji4, hji4⟩ : ∃ j_ : Int, (mn (a0_1.size : Int) a1) = j_ := ⟨_, rfl⟩
  replace H : (watchbilllaw04_weigh.l0 k a1 (wrap64 ((wrap64 ((wrap64 ((wrap64 (1 + (ji3))) + (ji4))) + (mn (a0_2.size : Int) a1))) + (mn (l0_3.length : Int) a1))) 0 a0_0 a0_1 a0_2 l0_3 l0_4 a0_5) = some r := by first | (rw [hji4] at H; exact H) | (simp only [hji4] at H ⊢; exact H)
  have hji4_ : (if a1 < (a0_1.size : Int) then a1 else (a0_1.size : Int)) = ji4 := hji4
  obtain ⟨ji5, hji5⟩ : ∃ j_ : Int, (mn (a0_2.size : Int) a1) = j_ := ⟨_, rfl⟩
  replace H : (watchbilllaw04_weigh.l0 k a1 (wrap64 ((wrap64 ((wrap64 ((wrap64 (1 + (ji3))) + (ji4))) + (ji5))) + (mn (l0_3.length : Int) a1))) 0 a0_0 a0_1 a0_2 l0_3 l0_4 a0_5) = some r := by first | (rw [hji5] at H; exact H) | (simp only [hji5] at H ⊢; exact H)
  have hji5_ : (if a1 < (a0_2.size : Int) then a1 else (a0_2.size : Int)) = ji5 := hji5
  obtain ⟨ji6, hji6⟩ : ∃ j_ : Int, (mn (l0_3.length : Int) a1) = j_ := ⟨_, rfl⟩
  replace H : (watchbilllaw04_weigh.l0 k a1 (wrap64 ((wrap64 ((wrap64 ((wrap64 (1 + (ji3))) + (ji4))) + (ji5))) + (ji6))) 0 a0_0 a0_1 a0_2 l0_3 l0_4 a0_5) = some r := by first | (rw [hji6] at H; exact H) | (simp only [hji6] at H ⊢; exact H)
  have hji6_ : (if a1 < (l0_3.length : Int) then a1 else (l0_3.length : Int)) = ji6 := hji6
  have HC7 := Aside0.mk H
  clear H
  go_enter Tryd.func31, Tryd.ntmps31
  go_upto_block 0 with (first | ((with_reducible refine gate_dst (N := 2) rfl ?_); refine box_event ?hg (N := 2) ?hd (cs := #[.int .i64 a0_0, .string a0_1, .string a0_2, .slice A0_3 l0_3.length c0_3, .slice A0_4 l0_4.length c0_4, .string a0_5]) (t := 27) ?hr ?_; (case hd => rfl); (case hg => rfl); (case hr => first | (go_simp; done) | (go_simp; rfl)); intro gb249 hg w8 hbox hb; have n0_ := Aside0.mk (below_step (by repeat (first | (with_reducible first | exact HB.out | apply below_alloc | apply pw_below_drewN | apply below_drew1) | exact HB.out)) hb); have n1_ := Aside0.mk (hbox); have n2_ := Aside0.mk ((by rw [hg]; exact (below_size (by repeat (first | (with_reducible first | exact HB.out | apply below_alloc | apply pw_below_drewN | apply below_drew1) | exact HB.out))) : w.heap.size ≤ gb249)); have n3_ := Aside0.mk ((by rw [hg]; exact (below_size (by repeat (first | (with_reducible first | exact HB.out | apply below_alloc | apply pw_below_drewN | apply below_drew1) | exact HB.out))) : w.heap.size ≤ gb249)); clear HB; have HB := n0_; have BK249 := n1_; have GW249 := n2_; have GE249 := n3_; clear n0_ n1_ n2_ n3_; clear hb hbox hg; have hcz9_0 : w8.cell? ⟨gb249, 0, none⟩ = some (.int .i64 a0_0) := (blk_cell BK249.out 0).trans rfl; have hcz9_1 : w8.cell? ⟨gb249, 1, none⟩ = some (.string a0_1) := (blk_cell BK249.out 1).trans rfl; have hcz9_2 : w8.cell? ⟨gb249, 2, none⟩ = some (.string a0_2) := (blk_cell BK249.out 2).trans rfl; have hcz9_3 : w8.cell? ⟨gb249, 3, none⟩ = some (.slice A0_3 l0_3.length c0_3) := (blk_cell BK249.out 3).trans rfl; have hcz9_4 : w8.cell? ⟨gb249, 4, none⟩ = some (.slice A0_4 l0_4.length c0_4) := (blk_cell BK249.out 4).trans rfl; have hcz9_5 : w8.cell? ⟨gb249, 5, none⟩ = some (.string a0_5) := (blk_cell BK249.out 5).trans rfl; have hfz9_0 := blk_frozen BK249.out 0; have hfz9_1 := blk_frozen BK249.out 1; have hfz9_2 := blk_frozen BK249.out 2; have hfz9_3 := blk_frozen BK249.out 3; have hfz9_4 := blk_frozen BK249.out 4; have hfz9_5 := blk_frozen BK249.out 5))
  repeat (go_quiet (first | ((with_reducible refine gate_dst (N := 2) rfl ?_); refine box_event ?hg (N := 2) ?hd (cs := #[.int .i64 a0_0, .string a0_1, .string a0_2, .slice A0_3 l0_3.length c0_3, .slice A0_4 l0_4.length c0_4, .string a0_5]) (t := 27) ?hr ?_; (case hd => rfl); (case hg => rfl); (case hr => first | (go_simp; done) | (go_simp; rfl)); intro gb249 hg w8 hbox hb; have n0_ := Aside0.mk (below_step (by repeat (first | (with_reducible first | exact HB.out | apply below_alloc | apply pw_below_drewN | apply below_drew1) | exact HB.out)) hb); have n1_ := Aside0.mk (hbox); have n2_ := Aside0.mk ((by rw [hg]; exact (below_size (by repeat (first | (with_reducible first | exact HB.out | apply below_alloc | apply pw_below_drewN | apply below_drew1) | exact HB.out))) : w.heap.size ≤ gb249)); have n3_ := Aside0.mk ((by rw [hg]; exact (below_size (by repeat (first | (with_reducible first | exact HB.out | apply below_alloc | apply pw_below_drewN | apply below_drew1) | exact HB.out))) : w.heap.size ≤ gb249)); clear HB; have HB := n0_; have BK249 := n1_; have GW249 := n2_; have GE249 := n3_; clear n0_ n1_ n2_ n3_; clear hb hbox hg; have hcz9_0 : w8.cell? ⟨gb249, 0, none⟩ = some (.int .i64 a0_0) := (blk_cell BK249.out 0).trans rfl; have hcz9_1 : w8.cell? ⟨gb249, 1, none⟩ = some (.string a0_1) := (blk_cell BK249.out 1).trans rfl; have hcz9_2 : w8.cell? ⟨gb249, 2, none⟩ = some (.string a0_2) := (blk_cell BK249.out 2).trans rfl; have hcz9_3 : w8.cell? ⟨gb249, 3, none⟩ = some (.slice A0_3 l0_3.length c0_3) := (blk_cell BK249.out 3).trans rfl; have hcz9_4 : w8.cell? ⟨gb249, 4, none⟩ = some (.slice A0_4 l0_4.length c0_4) := (blk_cell BK249.out 4).trans rfl; have hcz9_5 : w8.cell? ⟨gb249, 5, none⟩ = some (.string a0_5) := (blk_cell BK249.out 5).trans rfl; have hfz9_0 := blk_frozen BK249.out 0; have hfz9_1 := blk_frozen BK249.out 1; have hfz9_2 := blk_frozen BK249.out 2; have hfz9_3 := blk_frozen BK249.out 3; have hfz9_4 := blk_frozen BK249.out 4; have hfz9_5 := blk_frozen BK249.out 5)); go_upto_block 0 with (first | ((with_reducible refine gate_dst (N := 2) rfl ?_); refine box_event ?hg (N := 2) ?hd (cs := #[.int .i64 a0_0, .string a0_1, .string a0_2, .slice A0_3 l0_3.length c0_3, .slice A0_4 l0_4.length c0_4, .string a0_5]) (t := 27) ?hr ?_; (case hd => rfl); (case hg => rfl); (case hr => first | (go_simp; done) | (go_simp; rfl)); intro gb249 hg w8 hbox hb; have n0_ := Aside0.mk (below_step (by repeat (first | (with_reducible first | exact HB.out | apply below_alloc | apply pw_below_drewN | apply below_drew1) | exact HB.out)) hb); have n1_ := Aside0.mk (hbox); have n2_ := Aside0.mk ((by rw [hg]; exact (below_size (by repeat (first | (with_reducible first | exact HB.out | apply below_alloc | apply pw_below_drewN | apply below_drew1) | exact HB.out))) : w.heap.size ≤ gb249)); have n3_ := Aside0.mk ((by rw [hg]; exact (below_size (by repeat (first | (with_reducible first | exact HB.out | apply below_alloc | apply pw_below_drewN | apply below_drew1) | exact HB.out))) : w.heap.size ≤ gb249)); clear HB; have HB := n0_; have BK249 := n1_; have GW249 := n2_; have GE249 := n3_; clear n0_ n1_ n2_ n3_; clear hb hbox hg; have hcz9_0 : w8.cell? ⟨gb249, 0, none⟩ = some (.int .i64 a0_0) := (blk_cell BK249.out 0).trans rfl; have hcz9_1 : w8.cell? ⟨gb249, 1, none⟩ = some (.string a0_1) := (blk_cell BK249.out 1).trans rfl; have hcz9_2 : w8.cell? ⟨gb249, 2, none⟩ = some (.string a0_2) := (blk_cell BK249.out 2).trans rfl; have hcz9_3 : w8.cell? ⟨gb249, 3, none⟩ = some (.slice A0_3 l0_3.length c0_3) := (blk_cell BK249.out 3).trans rfl; have hcz9_4 : w8.cell? ⟨gb249, 4, none⟩ = some (.slice A0_4 l0_4.length c0_4) := (blk_cell BK249.out 4).trans rfl; have hcz9_5 : w8.cell? ⟨gb249, 5, none⟩ = some (.string a0_5) := (blk_cell BK249.out 5).trans rfl; have hfz9_0 := blk_frozen BK249.out 0; have hfz9_1 := blk_frozen BK249.out 1; have hfz9_2 := blk_frozen BK249.out 2; have hfz9_3 := blk_frozen BK249.out 3; have hfz9_4 := blk_frozen BK249.out 4; have hfz9_5 := blk_frozen BK249.out 5)))
  (try simp only [Act.put, zA, zB, zC])
  go_cut [5] (fun v5 wc => ∃ (kq : Nat) (x5_6 : Int), v5 = .int .i64 x5_6 ∧ Aside0 (watchbilllaw04_weigh.j1 kq a1 x5_6 a0_0 a0_1 a0_2 l0_3 l0_4 a0_5 = some r) ∧ Aside0 (kq ≤ k) ∧ Aside0 (wc.heap[gb249]? = some (.cells #[.int .i64 a0_0, .string a0_1, .string a0_2, (.slice A0_3 l0_3.length c0_3), (.slice A0_4 l0_4.length c0_4), .string a0_5] 27 (0, 0))) ∧ Aside0 (Below w.heap.size w wc))
  case first =>
    have H := HC7.out
    clear HC7
    have H' := Aside0.mk H
    clear H
    go_wp2
    repeat (go_quiet (fail); try go_wp2)
    go_loopg [5, 6] k (fun kq v5 v6 w' => ∃ (x5_1 : Int) (x6_1 : Int), v5 = .int .i64 x5_1 ∧ v6 = .int .i64 x6_1 ∧ Aside0 (watchbilllaw04_weigh.l0 kq a1 x5_1 x6_1 a0_0 a0_1 a0_2 l0_3 l0_4 a0_5 = some r) ∧ Aside0 (kq ≤ k) ∧ Aside0 (w'.heap[gb249]? = some (.cells #[.int .i64 a0_0, .string a0_1, .string a0_2, (.slice A0_3 l0_3.length c0_3), (.slice A0_4 l0_4.length c0_4), .string a0_5] 27 (0, 0))) ∧ Aside0 (Below w.heap.size w w'))
    case atStart => exact ⟨(wrap64 ((wrap64 ((wrap64 ((wrap64 (1 + (ji3))) + (ji4))) + (ji5))) + (ji6))), (0), (by first | rfl | (simp; done) | (simp only [← hji3, ← hji4, ← hji5, ← hji6] <;> (first | rfl | simp)) | (simp [*]; done)), (by first | rfl | (simp; done) | (simp [*]; done)), H', ⟨Nat.le_refl _⟩, ⟨by (with_reducible repeat (first | refine blk_drewN ?_ _ | refine blk_drew ?_ | refine blk_alloc ?_ _)); exact BK249.out⟩, ⟨by repeat (first | (with_reducible first | exact HB.out | apply below_alloc | apply pw_below_drewN | apply below_drew1 | refine below_set ?_ GE249.out) | exact HB.out)⟩⟩
    case round =>
      clear H'
      try clear p2
      try clear c3
      try clear p6
      try clear hcz9_0
      try clear hcz9_1
      try clear hcz9_2
      try clear hcz9_3
      try clear hcz9_4
      try clear hcz9_5
      try clear hfz9_0
      try clear hfz9_1
      try clear hfz9_2
      try clear hfz9_3
      try clear hfz9_4
      try clear hfz9_5
      obtain ⟨x5_1, x6_1, rfl, rfl, HA, HK1, BK249, HB⟩ := hrel
      cases gk with
      | zero => exact absurd HA.out (by simp [watchbilllaw04_weigh.l0])
      | succ k1 =>
        have H := HA.out
        clear HA
        simp only [watchbilllaw04_weigh.l0] at H
        by_cases c10 : x6_1 < (l0_3.length : Int)
        · rw [if_pos c10] at H
          have c10b0 : decide (x6_1 < (l0_3.length : Int)) = true := decide_eq_true c10
          clear c10
          (first | rw [c10b0] | (simp only [i64_w, i32_w]; rw [c10b0]) | skip)
          by_cases c11 : x5_1 ≤ a1
          · rw [if_pos c11] at H
            have c11b0 : decide (x5_1 ≤ a1) = true := decide_eq_true c11
            clear c11
            by_cases c12 : 0 ≤ x6_1
            rotate_left 1
            · rw [if_neg c12] at H
              exact absurd H (by simp)
            rw [if_pos c12] at H
            have c12b0 : decide (0 ≤ x6_1) = true := decide_eq_true c12
            clear c12
            obtain ⟨ji13, hji13⟩ : ∃ j_ : Int, (mn (((rdAt l0_3 x6_1).f0.f0).size : Int) a1) = j_ := ⟨_, rfl⟩
            replace H : (watchbilllaw04_weigh.l0 k1 a1 (wrap64 ((wrap64 ((wrap64 (x5_1 + (ji13))) + (mn (((rdAt l0_3 x6_1).f0.f1).size : Int) a1))) + (mn (((rdAt l0_3 x6_1).f1).size : Int) a1))) (wrap64 (x6_1 + 1)) a0_0 a0_1 a0_2 l0_3 l0_4 a0_5) = some r := by first | (rw [hji13] at H; exact H) | (simp only [hji13] at H ⊢; exact H)
            have hji13_ : (if a1 < (((rdAt l0_3 x6_1).f0.f0).size : Int) then a1 else (((rdAt l0_3 x6_1).f0.f0).size : Int)) = ji13 := hji13
            obtain ⟨ji14, hji14⟩ : ∃ j_ : Int, (mn (((rdAt l0_3 x6_1).f0.f1).size : Int) a1) = j_ := ⟨_, rfl⟩
            replace H : (watchbilllaw04_weigh.l0 k1 a1 (wrap64 ((wrap64 ((wrap64 (x5_1 + (ji13))) + (ji14))) + (mn (((rdAt l0_3 x6_1).f1).size : Int) a1))) (wrap64 (x6_1 + 1)) a0_0 a0_1 a0_2 l0_3 l0_4 a0_5) = some r := by first | (rw [hji14] at H; exact H) | (simp only [hji14] at H ⊢; exact H)
            have hji14_ : (if a1 < (((rdAt l0_3 x6_1).f0.f1).size : Int) then a1 else (((rdAt l0_3 x6_1).f0.f1).size : Int)) = ji14 := hji14
            obtain ⟨ji15, hji15⟩ : ∃ j_ : Int, (mn (((rdAt l0_3 x6_1).f1).size : Int) a1) = j_ := ⟨_, rfl⟩
            replace H : (watchbilllaw04_weigh.l0 k1 a1 (wrap64 ((wrap64 ((wrap64 (x5_1 + (ji13))) + (ji14))) + (ji15))) (wrap64 (x6_1 + 1)) a0_0 a0_1 a0_2 l0_3 l0_4 a0_5) = some r := by first | (rw [hji15] at H; exact H) | (simp only [hji15] at H ⊢; exact H)
            have hji15_ : (if a1 < (((rdAt l0_3 x6_1).f1).size : Int) then a1 else (((rdAt l0_3 x6_1).f1).size : Int)) = ji15 := hji15
            have H' := Aside0.mk H
            clear H
            have hcz16_0 : wr.cell? ⟨gb249, 0, none⟩ = some (.int .i64 a0_0) := (blk_cell BK249.out 0).trans rfl
            have hcz16_1 : wr.cell? ⟨gb249, 1, none⟩ = some (.string a0_1) := (blk_cell BK249.out 1).trans rfl
            have hcz16_2 : wr.cell? ⟨gb249, 2, none⟩ = some (.string a0_2) := (blk_cell BK249.out 2).trans rfl
            have hcz16_3 : wr.cell? ⟨gb249, 3, none⟩ = some (.slice A0_3 l0_3.length c0_3) := (blk_cell BK249.out 3).trans rfl
            have hcz16_4 : wr.cell? ⟨gb249, 4, none⟩ = some (.slice A0_4 l0_4.length c0_4) := (blk_cell BK249.out 4).trans rfl
            have hcz16_5 : wr.cell? ⟨gb249, 5, none⟩ = some (.string a0_5) := (blk_cell BK249.out 5).trans rfl
            have hfz16_0 := blk_frozen BK249.out 0
            have hfz16_1 := blk_frozen BK249.out 1
            have hfz16_2 := blk_frozen BK249.out 2
            have hfz16_3 := blk_frozen BK249.out 3
            have hfz16_4 := blk_frozen BK249.out 4
            have hfz16_5 := blk_frozen BK249.out 5
            have p250 : 0 ≤ (x6_1 : Int) := of_decide_eq_true (by first | (with_reducible assumption) | assumption)
            have q250 : x6_1 < (l0_3.length : Int) := of_decide_eq_true (by first | (with_reducible assumption) | assumption)
            obtain ⟨ad250, e250, hx250_0, hx250_1, hx250_2⟩ := atAt HR0_3.out x6_1 p250 q250
            cases e250
            replace hx250_0 := (HB.out.cell (World.block_lt_of_cell? w _ hx250_0)).trans hx250_0
            replace hx250_1 := (HB.out.cell (World.block_lt_of_cell? w _ hx250_1)).trans hx250_1
            replace hx250_2 := (HB.out.cell (World.block_lt_of_cell? w _ hx250_2)).trans hx250_2
            replace p250 := eq_true p250
            replace q250 := eq_true q250
            have p251 : 0 ≤ (x6_1 : Int) := of_decide_eq_true (by first | (with_reducible assumption) | assumption)
            have q251 : x6_1 < (l0_3.length : Int) := of_decide_eq_true (by first | (with_reducible assumption) | assumption)
            obtain ⟨ad251, e251, hx251_0, hx251_1, hx251_2⟩ := atAt HR0_3.out x6_1 p251 q251
            obtain rfl : ad250 = ad251 := (by injection e251)
            replace hx251_0 := (HB.out.cell (World.block_lt_of_cell? w _ hx251_0)).trans hx251_0
            replace hx251_1 := (HB.out.cell (World.block_lt_of_cell? w _ hx251_1)).trans hx251_1
            replace hx251_2 := (HB.out.cell (World.block_lt_of_cell? w _ hx251_2)).trans hx251_2
            replace p251 := eq_true p251
            replace q251 := eq_true q251
            have p252 : 0 ≤ (x6_1 : Int) := of_decide_eq_true (by first | (with_reducible assumption) | assumption)
            have q252 : x6_1 < (l0_3.length : Int) := of_decide_eq_true (by first | (with_reducible assumption) | assumption)
            obtain ⟨ad252, e252, hx252_0, hx252_1, hx252_2⟩ := atAt HR0_3.out x6_1 p252 q252
            obtain rfl : ad250 = ad252 := (by injection e252)
            replace hx252_0 := (HB.out.cell (World.block_lt_of_cell? w _ hx252_0)).trans hx252_0
            replace hx252_1 := (HB.out.cell (World.block_lt_of_cell? w _ hx252_1)).trans hx252_1
            replace hx252_2 := (HB.out.cell (World.block_lt_of_cell? w _ hx252_2)).trans hx252_2
            replace p252 := eq_true p252
            replace q252 := eq_true q252
            go_wp2
            repeat (go_quiet (fail); try go_wp2)
            go_roundg k1
            case measure => have := HK1.out; omega
            case rel => exact ⟨(wrap64 ((wrap64 ((wrap64 (x5_1 + (ji13))) + (ji14))) + (ji15))), (wrap64 (x6_1 + 1)), (by first | rfl | (simp; done) | (simp only [← hji13, ← hji14, ← hji15] <;> (first | rfl | simp)) | (simp [*]; done)), (by first | rfl | (simp; done) | (simp [*]; done)), H', ⟨by have := HK1.out; omega⟩, ⟨by (with_reducible repeat (first | refine blk_drewN ?_ _ | refine blk_drew ?_ | refine blk_alloc ?_ _)); exact BK249.out⟩, ⟨by repeat (first | (with_reducible first | exact HB.out | apply below_alloc | apply pw_below_drewN | apply below_drew1 | refine below_set ?_ GE249.out) | exact HB.out)⟩⟩
          · rw [if_neg c11] at H
            have c11b0 : decide (x5_1 ≤ a1) = false := decide_eq_false c11
            clear c11
            have H' := Aside0.mk H
            clear H
            have hcz17_0 : wr.cell? ⟨gb249, 0, none⟩ = some (.int .i64 a0_0) := (blk_cell BK249.out 0).trans rfl
            have hcz17_1 : wr.cell? ⟨gb249, 1, none⟩ = some (.string a0_1) := (blk_cell BK249.out 1).trans rfl
            have hcz17_2 : wr.cell? ⟨gb249, 2, none⟩ = some (.string a0_2) := (blk_cell BK249.out 2).trans rfl
            have hcz17_3 : wr.cell? ⟨gb249, 3, none⟩ = some (.slice A0_3 l0_3.length c0_3) := (blk_cell BK249.out 3).trans rfl
            have hcz17_4 : wr.cell? ⟨gb249, 4, none⟩ = some (.slice A0_4 l0_4.length c0_4) := (blk_cell BK249.out 4).trans rfl
            have hcz17_5 : wr.cell? ⟨gb249, 5, none⟩ = some (.string a0_5) := (blk_cell BK249.out 5).trans rfl
            have hfz17_0 := blk_frozen BK249.out 0
            have hfz17_1 := blk_frozen BK249.out 1
            have hfz17_2 := blk_frozen BK249.out 2
            have hfz17_3 := blk_frozen BK249.out 3
            have hfz17_4 := blk_frozen BK249.out 4
            have hfz17_5 := blk_frozen BK249.out 5
            go_wp2
            repeat (go_quiet (fail); try go_wp2)
            go_meet
            case rel => exact ⟨_, (x5_1), (by first | rfl | (simp; done) | (simp [*]; done)), H', ⟨by have := HK1.out; first | omega | exact Nat.le_refl _⟩, ⟨by (with_reducible repeat (first | refine blk_drewN ?_ _ | refine blk_drew ?_ | refine blk_alloc ?_ _)); exact BK249.out⟩, ⟨by repeat (first | (with_reducible first | exact HB.out | apply below_alloc | apply pw_below_drewN | apply below_drew1 | refine below_set ?_ GE249.out) | exact HB.out)⟩⟩
        · rw [if_neg c10] at H
          have c10b0 : decide (x6_1 < (l0_3.length : Int)) = false := decide_eq_false c10
          clear c10
          (first | rw [c10b0] | (simp only [i64_w, i32_w]; rw [c10b0]) | skip)
          have H' := Aside0.mk H
          clear H
          have hcz18_0 : wr.cell? ⟨gb249, 0, none⟩ = some (.int .i64 a0_0) := (blk_cell BK249.out 0).trans rfl
          have hcz18_1 : wr.cell? ⟨gb249, 1, none⟩ = some (.string a0_1) := (blk_cell BK249.out 1).trans rfl
          have hcz18_2 : wr.cell? ⟨gb249, 2, none⟩ = some (.string a0_2) := (blk_cell BK249.out 2).trans rfl
          have hcz18_3 : wr.cell? ⟨gb249, 3, none⟩ = some (.slice A0_3 l0_3.length c0_3) := (blk_cell BK249.out 3).trans rfl
          have hcz18_4 : wr.cell? ⟨gb249, 4, none⟩ = some (.slice A0_4 l0_4.length c0_4) := (blk_cell BK249.out 4).trans rfl
          have hcz18_5 : wr.cell? ⟨gb249, 5, none⟩ = some (.string a0_5) := (blk_cell BK249.out 5).trans rfl
          have hfz18_0 := blk_frozen BK249.out 0
          have hfz18_1 := blk_frozen BK249.out 1
          have hfz18_2 := blk_frozen BK249.out 2
          have hfz18_3 := blk_frozen BK249.out 3
          have hfz18_4 := blk_frozen BK249.out 4
          have hfz18_5 := blk_frozen BK249.out 5
          go_wp2
          repeat (go_quiet (fail); try go_wp2)
          go_meet
          case rel => exact ⟨_, (x5_1), (by first | rfl | (simp; done) | (simp [*]; done)), H', ⟨by have := HK1.out; first | omega | exact Nat.le_refl _⟩, ⟨by (with_reducible repeat (first | refine blk_drewN ?_ _ | refine blk_drew ?_ | refine blk_alloc ?_ _)); exact BK249.out⟩, ⟨by repeat (first | (with_reducible first | exact HB.out | apply below_alloc | apply pw_below_drewN | apply below_drew1 | refine below_set ?_ GE249.out) | exact HB.out)⟩⟩
  case rest =>
    clear HC7
    try clear c1
    try clear p2
    try clear q2
    try clear hx2
    try clear c3
    try clear p6
    try clear c10
    try clear c10b0
    try clear c11
    try clear c11b0
    try clear c12
    try clear c12b0
    try clear hcz16_0
    try clear hcz16_1
    try clear hcz16_2
    try clear hcz16_3
    try clear hcz16_4
    try clear hcz16_5
    try clear hcz17_0
    try clear hcz17_1
    try clear hcz17_2
    try clear hcz17_3
    try clear hcz17_4
    try clear hcz17_5
    try clear hcz18_0
    try clear hcz18_1
    try clear hcz18_2
    try clear hcz18_3
    try clear hcz18_4
    try clear hcz18_5
    try clear hcz9_0
    try clear hcz9_1
    try clear hcz9_2
    try clear hcz9_3
    try clear hcz9_4
    try clear hcz9_5
    try clear hfz16_0
    try clear hfz16_1
    try clear hfz16_2
    try clear hfz16_3
    try clear hfz16_4
    try clear hfz16_5
    try clear hfz17_0
    try clear hfz17_1
    try clear hfz17_2
    try clear hfz17_3
    try clear hfz17_4
    try clear hfz17_5
    try clear hfz18_0
    try clear hfz18_1
    try clear hfz18_2
    try clear hfz18_3
    try clear hfz18_4
    try clear hfz18_5
    try clear hfz9_0
    try clear hfz9_1
    try clear hfz9_2
    try clear hfz9_3
    try clear hfz9_4
    try clear hfz9_5
    try clear hx250_0
    try clear hx250_1
    try clear hx250_2
    try clear hx251_0
    try clear hx251_1
    try clear hx251_2
    try clear hx252_0
    try clear hx252_1
    try clear hx252_2
    try clear p2
    try clear p250
    try clear p251
    try clear p252
    try clear p6
    try clear q250
    try clear q251
    try clear q252
    obtain ⟨kq, x5_6, rfl, HA, HJ6, BK249, HB⟩ := hcut
    cases kq with
    | zero => exact absurd HA.out (by simp [watchbilllaw04_weigh.j1])
    | succ kj6 =>
      have H := HA.out
      clear HA
      simp only [watchbilllaw04_weigh.j1] at H
      have H' := Aside0.mk H
      clear H
      go_wp2
      repeat (go_quiet (fail); try go_wp2)
      go_loopg [5, 7] kj6 (fun kq v5 v7 w' => ∃ (x5_2 : Int) (x7_2 : Int), v5 = .int .i64 x5_2 ∧ v7 = .int .i64 x7_2 ∧ Aside0 (watchbilllaw04_weigh.l1 kq a1 x5_2 x7_2 a0_0 a0_1 a0_2 l0_3 l0_4 a0_5 = some r) ∧ Aside0 (kq ≤ kj6) ∧ Aside0 (w'.heap[gb249]? = some (.cells #[.int .i64 a0_0, .string a0_1, .string a0_2, (.slice A0_3 l0_3.length c0_3), (.slice A0_4 l0_4.length c0_4), .string a0_5] 27 (0, 0))) ∧ Aside0 (Below w.heap.size w w'))
      case atStart => exact ⟨(x5_6), (0), (by first | rfl | (simp; done) | (simp [*]; done)), (by first | rfl | (simp; done) | (simp [*]; done)), H', ⟨Nat.le_refl _⟩, ⟨by (with_reducible repeat (first | refine blk_drewN ?_ _ | refine blk_drew ?_ | refine blk_alloc ?_ _)); exact BK249.out⟩, ⟨by repeat (first | (with_reducible first | exact HB.out | apply below_alloc | apply pw_below_drewN | apply below_drew1 | refine below_set ?_ GE249.out) | exact HB.out)⟩⟩
      case round =>
        clear H'
        try clear c1
        try clear p2
        try clear q2
        try clear hx2
        try clear c3
        try clear p6
        try clear c10
        try clear c10b0
        try clear c11
        try clear c11b0
        try clear c12
        try clear c12b0
        try clear hcz16_0
        try clear hcz16_1
        try clear hcz16_2
        try clear hcz16_3
        try clear hcz16_4
        try clear hcz16_5
        try clear hcz17_0
        try clear hcz17_1
        try clear hcz17_2
        try clear hcz17_3
        try clear hcz17_4
        try clear hcz17_5
        try clear hcz18_0
        try clear hcz18_1
        try clear hcz18_2
        try clear hcz18_3
        try clear hcz18_4
        try clear hcz18_5
        try clear hcz9_0
        try clear hcz9_1
        try clear hcz9_2
        try clear hcz9_3
        try clear hcz9_4
        try clear hcz9_5
        try clear hfz16_0
        try clear hfz16_1
        try clear hfz16_2
        try clear hfz16_3
        try clear hfz16_4
        try clear hfz16_5
        try clear hfz17_0
        try clear hfz17_1
        try clear hfz17_2
        try clear hfz17_3
        try clear hfz17_4
        try clear hfz17_5
        try clear hfz18_0
        try clear hfz18_1
        try clear hfz18_2
        try clear hfz18_3
        try clear hfz18_4
        try clear hfz18_5
        try clear hfz9_0
        try clear hfz9_1
        try clear hfz9_2
        try clear hfz9_3
        try clear hfz9_4
        try clear hfz9_5
        try clear hx250_0
        try clear hx250_1
        try clear hx250_2
        try clear hx251_0
        try clear hx251_1
        try clear hx251_2
        try clear hx252_0
        try clear hx252_1
        try clear hx252_2
        try clear p2
        try clear p250
        try clear p251
        try clear p252
        try clear p6
        try clear q2
        try clear q250
        try clear q251
        try clear q252
        obtain ⟨x5_2, x7_2, rfl, rfl, HA, HK2, BK249, HB⟩ := hrel
        cases gk with
        | zero => exact absurd HA.out (by simp [watchbilllaw04_weigh.l1])
        | succ k2 =>
          have H := HA.out
          clear HA
          simp only [watchbilllaw04_weigh.l1] at H
          by_cases c19 : x7_2 < (l0_4.length : Int)
          · rw [if_pos c19] at H
            have c19b0 : decide (x7_2 < (l0_4.length : Int)) = true := decide_eq_true c19
            clear c19
            by_cases c20 : x5_2 ≤ a1
            · rw [if_pos c20] at H
              have c20b0 : decide (x5_2 ≤ a1) = true := decide_eq_true c20
              clear c20
              by_cases c21 : 0 ≤ x7_2
              rotate_left 1
              · rw [if_neg c21] at H
                exact absurd H (by simp)
              rw [if_pos c21] at H
              have c21b0 : decide (0 ≤ x7_2) = true := decide_eq_true c21
              clear c21
              replace H := Option.bind_eq_some_iff.mp H
              obtain ⟨t254, A220, H⟩ := H
              replace H : (watchbilllaw04_weigh.l1 k2 a1 (wrap64 (x5_2 + t254)) (wrap64 (x7_2 + 1)) a0_0 a0_1 a0_2 l0_3 l0_4 a0_5) = some r := H
              have A22 := Aside0.mk A220
              clear A220
              have H' := Aside0.mk H
              clear H
              have hcz23_0 : wr.cell? ⟨gb249, 0, none⟩ = some (.int .i64 a0_0) := (blk_cell BK249.out 0).trans rfl
              have hcz23_1 : wr.cell? ⟨gb249, 1, none⟩ = some (.string a0_1) := (blk_cell BK249.out 1).trans rfl
              have hcz23_2 : wr.cell? ⟨gb249, 2, none⟩ = some (.string a0_2) := (blk_cell BK249.out 2).trans rfl
              have hcz23_3 : wr.cell? ⟨gb249, 3, none⟩ = some (.slice A0_3 l0_3.length c0_3) := (blk_cell BK249.out 3).trans rfl
              have hcz23_4 : wr.cell? ⟨gb249, 4, none⟩ = some (.slice A0_4 l0_4.length c0_4) := (blk_cell BK249.out 4).trans rfl
              have hcz23_5 : wr.cell? ⟨gb249, 5, none⟩ = some (.string a0_5) := (blk_cell BK249.out 5).trans rfl
              have hfz23_0 := blk_frozen BK249.out 0
              have hfz23_1 := blk_frozen BK249.out 1
              have hfz23_2 := blk_frozen BK249.out 2
              have hfz23_3 := blk_frozen BK249.out 3
              have hfz23_4 := blk_frozen BK249.out 4
              have hfz23_5 := blk_frozen BK249.out 5
              have p253 : 0 ≤ (x7_2 : Int) := of_decide_eq_true (by first | (with_reducible assumption) | assumption)
              have q253 : x7_2 < (l0_4.length : Int) := of_decide_eq_true (by first | (with_reducible assumption) | assumption)
              obtain ⟨ad253, A253_3, c253_3, A253_4, c253_4, e253, hx253_0, hx253_1, hx253_2, hx253_3, hx253_4, hx253_5, hl253_3, hi253_3, hl253_4, hi253_4⟩ := atNd HR0_4.out x7_2 p253 q253
              cases e253
              replace hx253_0 := (HB.out.cell (World.block_lt_of_cell? w _ hx253_0)).trans hx253_0
              replace hx253_1 := (HB.out.cell (World.block_lt_of_cell? w _ hx253_1)).trans hx253_1
              replace hx253_2 := (HB.out.cell (World.block_lt_of_cell? w _ hx253_2)).trans hx253_2
              replace hx253_3 := (HB.out.cell (World.block_lt_of_cell? w _ hx253_3)).trans hx253_3
              replace hx253_4 := (HB.out.cell (World.block_lt_of_cell? w _ hx253_4)).trans hx253_4
              replace hx253_5 := (HB.out.cell (World.block_lt_of_cell? w _ hx253_5)).trans hx253_5
              have HR253_3 := Aside0.mk hi253_3
              have HC253_3 := Aside0.mk hl253_3
              clear hi253_3 hl253_3
              have HR253_4 := Aside0.mk hi253_4
              have HC253_4 := Aside0.mk hl253_4
              clear hi253_4 hl253_4
              replace p253 := eq_true p253
              replace q253 := eq_true q253
              go_wp2_with (first | (go_at_call 31; (with_reducible refine (ih k2 (by have := HJ6.out; have := HK2.out; omega) ((rdNd l0_4 x7_2).f0) ((rdNd l0_4 x7_2).f1.f0) ((rdNd l0_4 x7_2).f1.f1) _ _ ((rdNd l0_4 x7_2).f2) _ _ ((rdNd l0_4 x7_2).f3) ((rdNd l0_4 x7_2).f4) (wrap64 (a1 - x5_2)) t254 _ ?side1 ?side2 ?side3 ?side4 A22.out).mono ?_); (case side1 => repeat (first | exact (Kd.C_below HR253_3.out HB.out) | (with_reducible refine Kd.C_alloc ?_ _) | (with_reducible refine Kd.C_drewN ?_ _) | (with_reducible refine Kd.C_drew ?_))); (case side2 => exact HC253_3.out); (case side3 => repeat (first | exact (Kd.C_below HR253_4.out HB.out) | (with_reducible refine Kd.C_alloc ?_ _) | (with_reducible refine Kd.C_drewN ?_ _) | (with_reducible refine Kd.C_drew ?_))); (case side4 => exact HC253_4.out); rintro e w24 ⟨rfl, hb⟩; have n0_ := Aside0.mk (blk_below (g := gb249) (o := .cells #[.int .i64 a0_0, .string a0_1, .string a0_2, .slice A0_3 l0_3.length c0_3, .slice (some ad253) l0_4.length c0_4, .string a0_5] 27 (0, 0)) (by (with_reducible repeat (first | refine blk_drewN ?_ _ | refine blk_drew ?_ | refine blk_alloc ?_ _)); exact BK249.out) hb); have n1_ := Aside0.mk (below_step (by repeat (first | (with_reducible first | exact HB.out | apply below_alloc | apply pw_below_drewN | apply below_drew1 | refine below_set ?_ GE249.out) | exact HB.out)) hb); clear BK249; clear HB; have BK249 := n0_; have HB := n1_; clear n0_ n1_; (try clear hb); (try clear hb2); (try clear hk); (try clear hi)))
              repeat (go_quiet (first | (go_at_call 31; (with_reducible refine (ih k2 (by have := HJ6.out; have := HK2.out; omega) ((rdNd l0_4 x7_2).f0) ((rdNd l0_4 x7_2).f1.f0) ((rdNd l0_4 x7_2).f1.f1) _ _ ((rdNd l0_4 x7_2).f2) _ _ ((rdNd l0_4 x7_2).f3) ((rdNd l0_4 x7_2).f4) (wrap64 (a1 - x5_2)) t254 _ ?side1 ?side2 ?side3 ?side4 A22.out).mono ?_); (case side1 => repeat (first | exact (Kd.C_below HR253_3.out HB.out) | (with_reducible refine Kd.C_alloc ?_ _) | (with_reducible refine Kd.C_drewN ?_ _) | (with_reducible refine Kd.C_drew ?_))); (case side2 => exact HC253_3.out); (case side3 => repeat (first | exact (Kd.C_below HR253_4.out HB.out) | (with_reducible refine Kd.C_alloc ?_ _) | (with_reducible refine Kd.C_drewN ?_ _) | (with_reducible refine Kd.C_drew ?_))); (case side4 => exact HC253_4.out); rintro e w24 ⟨rfl, hb⟩; have n0_ := Aside0.mk (blk_below (g := gb249) (o := .cells #[.int .i64 a0_0, .string a0_1, .string a0_2, .slice A0_3 l0_3.length c0_3, .slice (some ad253) l0_4.length c0_4, .string a0_5] 27 (0, 0)) (by (with_reducible repeat (first | refine blk_drewN ?_ _ | refine blk_drew ?_ | refine blk_alloc ?_ _)); exact BK249.out) hb); have n1_ := Aside0.mk (below_step (by repeat (first | (with_reducible first | exact HB.out | apply below_alloc | apply pw_below_drewN | apply below_drew1 | refine below_set ?_ GE249.out) | exact HB.out)) hb); clear BK249; clear HB; have BK249 := n0_; have HB := n1_; clear n0_ n1_; (try clear hb); (try clear hb2); (try clear hk); (try clear hi))); try go_wp2_with (first | (go_at_call 31; (with_reducible refine (ih k2 (by have := HJ6.out; have := HK2.out; omega) ((rdNd l0_4 x7_2).f0) ((rdNd l0_4 x7_2).f1.f0) ((rdNd l0_4 x7_2).f1.f1) _ _ ((rdNd l0_4 x7_2).f2) _ _ ((rdNd l0_4 x7_2).f3) ((rdNd l0_4 x7_2).f4) (wrap64 (a1 - x5_2)) t254 _ ?side1 ?side2 ?side3 ?side4 A22.out).mono ?_); (case side1 => repeat (first | exact (Kd.C_below HR253_3.out HB.out) | (with_reducible refine Kd.C_alloc ?_ _) | (with_reducible refine Kd.C_drewN ?_ _) | (with_reducible refine Kd.C_drew ?_))); (case side2 => exact HC253_3.out); (case side3 => repeat (first | exact (Kd.C_below HR253_4.out HB.out) | (with_reducible refine Kd.C_alloc ?_ _) | (with_reducible refine Kd.C_drewN ?_ _) | (with_reducible refine Kd.C_drew ?_))); (case side4 => exact HC253_4.out); rintro e w24 ⟨rfl, hb⟩; have n0_ := Aside0.mk (blk_below (g := gb249) (o := .cells #[.int .i64 a0_0, .string a0_1, .string a0_2, .slice A0_3 l0_3.length c0_3, .slice (some ad253) l0_4.length c0_4, .string a0_5] 27 (0, 0)) (by (with_reducible repeat (first | refine blk_drewN ?_ _ | refine blk_drew ?_ | refine blk_alloc ?_ _)); exact BK249.out) hb); have n1_ := Aside0.mk (below_step (by repeat (first | (with_reducible first | exact HB.out | apply below_alloc | apply pw_below_drewN | apply below_drew1 | refine below_set ?_ GE249.out) | exact HB.out)) hb); clear BK249; clear HB; have BK249 := n0_; have HB := n1_; clear n0_ n1_; (try clear hb); (try clear hb2); (try clear hk); (try clear hi))))
              go_roundg k2
              case measure => have := HJ6.out; have := HK2.out; omega
              case rel => exact ⟨(wrap64 (x5_2 + t254)), (wrap64 (x7_2 + 1)), (by first | rfl | (simp; done) | (simp [*]; done)), (by first | rfl | (simp; done) | (simp [*]; done)), H', ⟨by have := HJ6.out; have := HK2.out; omega⟩, ⟨by (with_reducible repeat (first | refine blk_drewN ?_ _ | refine blk_drew ?_ | refine blk_alloc ?_ _)); exact BK249.out⟩, ⟨by repeat (first | (with_reducible first | exact HB.out | apply below_alloc | apply pw_below_drewN | apply below_drew1 | refine below_set ?_ GE249.out) | exact HB.out)⟩⟩
            · rw [if_neg c20] at H
              have c20b0 : decide (x5_2 ≤ a1) = false := decide_eq_false c20
              clear c20
              obtain rfl := Option.some.inj H
              have hcz25_0 : wr.cell? ⟨gb249, 0, none⟩ = some (.int .i64 a0_0) := (blk_cell BK249.out 0).trans rfl
              have hcz25_1 : wr.cell? ⟨gb249, 1, none⟩ = some (.string a0_1) := (blk_cell BK249.out 1).trans rfl
              have hcz25_2 : wr.cell? ⟨gb249, 2, none⟩ = some (.string a0_2) := (blk_cell BK249.out 2).trans rfl
              have hcz25_3 : wr.cell? ⟨gb249, 3, none⟩ = some (.slice A0_3 l0_3.length c0_3) := (blk_cell BK249.out 3).trans rfl
              have hcz25_4 : wr.cell? ⟨gb249, 4, none⟩ = some (.slice A0_4 l0_4.length c0_4) := (blk_cell BK249.out 4).trans rfl
              have hcz25_5 : wr.cell? ⟨gb249, 5, none⟩ = some (.string a0_5) := (blk_cell BK249.out 5).trans rfl
              have hfz25_0 := blk_frozen BK249.out 0
              have hfz25_1 := blk_frozen BK249.out 1
              have hfz25_2 := blk_frozen BK249.out 2
              have hfz25_3 := blk_frozen BK249.out 3
              have hfz25_4 := blk_frozen BK249.out 4
              have hfz25_5 := blk_frozen BK249.out 5
              go_wp2
              repeat (go_quiet (fail); try go_wp2)
              go_ret
              exact ⟨by first | rfl | (simp [errW_none, errW_some] <;> rfl) | (simp only [← hji3, ← hji4, ← hji5, ← hji6]; first | rfl | (simp [errW_none, errW_some] <;> rfl)) | (simp [*, errW_none, errW_some] <;> rfl), by repeat (first | (with_reducible first | exact HB.out | apply below_alloc | apply pw_below_drewN | apply below_drew1 | refine below_set ?_ GE249.out) | exact HB.out)⟩
          · rw [if_neg c19] at H
            have c19b0 : decide (x7_2 < (l0_4.length : Int)) = false := decide_eq_false c19
            clear c19
            obtain rfl := Option.some.inj H
            have hcz26_0 : wr.cell? ⟨gb249, 0, none⟩ = some (.int .i64 a0_0) := (blk_cell BK249.out 0).trans rfl
            have hcz26_1 : wr.cell? ⟨gb249, 1, none⟩ = some (.string a0_1) := (blk_cell BK249.out 1).trans rfl
            have hcz26_2 : wr.cell? ⟨gb249, 2, none⟩ = some (.string a0_2) := (blk_cell BK249.out 2).trans rfl
            have hcz26_3 : wr.cell? ⟨gb249, 3, none⟩ = some (.slice A0_3 l0_3.length c0_3) := (blk_cell BK249.out 3).trans rfl
            have hcz26_4 : wr.cell? ⟨gb249, 4, none⟩ = some (.slice A0_4 l0_4.length c0_4) := (blk_cell BK249.out 4).trans rfl
            have hcz26_5 : wr.cell? ⟨gb249, 5, none⟩ = some (.string a0_5) := (blk_cell BK249.out 5).trans rfl
            have hfz26_0 := blk_frozen BK249.out 0
            have hfz26_1 := blk_frozen BK249.out 1
            have hfz26_2 := blk_frozen BK249.out 2
            have hfz26_3 := blk_frozen BK249.out 3
            have hfz26_4 := blk_frozen BK249.out 4
            have hfz26_5 := blk_frozen BK249.out 5
            go_wp2
            repeat (go_quiet (fail); try go_wp2)
            go_ret
            exact ⟨by first | rfl | (simp [errW_none, errW_some] <;> rfl) | (simp only [← hji3, ← hji4, ← hji5, ← hji6]; first | rfl | (simp [errW_none, errW_some] <;> rfl)) | (simp [*, errW_none, errW_some] <;> rfl), by repeat (first | (with_reducible first | exact HB.out | apply below_alloc | apply pw_below_drewN | apply below_drew1 | refine below_set ?_ GE249.out) | exact HB.out)⟩

/-! ### watchbilllaw04_Few: function 12 -/
def watchbilllaw04_Few.f (k : Nat) (a0_0 : Int) (a0_1 : ByteArray) (a0_2 : ByteArray) (l0_3 : List (At)) (l0_4 : List (Nd)) (a0_5 : ByteArray) : Option (Bool) := (watchbilllaw04_weigh.f k a0_0 a0_1 a0_2 l0_3 l0_4 a0_5 30000).bind fun t256 => (some (decide (t256 ≤ 30000)))
set_option maxHeartbeats 8000000 in
set_option maxRecDepth 100000 in
theorem watchbilllaw04_Few.calls (k : Nat) (a0_0 : Int) (a0_1 : ByteArray) (a0_2 : ByteArray) (A0_3 : Option Addr) (c0_3 : Nat) (l0_3 : List (At)) (A0_4 : Option Addr) (c0_4 : Nat) (l0_4 : List (Nd)) (a0_5 : ByteArray) (r : Bool) (w : World) (hr0_3 : Kd.C kAt w A0_3 l0_3.length l0_3) (hc0_3 : l0_3.length ≤ c0_3) (hr0_4 : Kd.C kNd w A0_4 l0_4.length l0_4) (hc0_4 : l0_4.length ≤ c0_4) (h : watchbilllaw04_Few.f k a0_0 a0_1 a0_2 l0_3 l0_4 a0_5 = some r) :
    Calls Tryd.prog 12 #[.agg #[.int .i64 a0_0, .string a0_1, .string a0_2, .slice A0_3 l0_3.length c0_3, .slice A0_4 l0_4.length c0_4, .string a0_5]] w fun e w' => e = .returned (.bool r) ∧ Below w.heap.size w w' := by
  have hu27 := Tryd.underlying27
  have HR0_3 := Aside0.mk hr0_3
  have HC0_3 := Aside0.mk hc0_3
  clear hr0_3 hc0_3
  have HR0_4 := Aside0.mk hr0_4
  have HC0_4 := Aside0.mk hc0_4
  clear hr0_4 hc0_4
  have HB := Aside0.mk (Below.refl w.heap.size w)
  have H : ((watchbilllaw04_weigh.f k a0_0 a0_1 a0_2 l0_3 l0_4 a0_5 30000).bind fun t256 => (some (decide (t256 ≤ 30000)))) = some r := h
  clear h
  replace H := Option.bind_eq_some_iff.mp H
  obtain ⟨t256, A20, H⟩ := H
  replace H : (some (decide (t256 ≤ 30000))) = some r := H
  have A2 := Aside0.mk A20
  clear A20
  obtain rfl := Option.some.inj H
  go_enter Tryd.func12, Tryd.ntmps12
  go_wp2_with (first | ((with_reducible refine gate_dst (N := 1) rfl ?_); refine box_event ?hg (N := 1) ?hd (cs := #[.int .i64 a0_0, .string a0_1, .string a0_2, .slice A0_3 l0_3.length c0_3, .slice A0_4 l0_4.length c0_4, .string a0_5]) (t := 27) ?hr ?_; (case hd => rfl); (case hg => rfl); (case hr => first | (go_simp; done) | (go_simp; rfl)); intro gb255 hg w3 hbox hb; have n0_ := Aside0.mk (below_step (by repeat (first | (with_reducible first | exact HB.out | apply below_alloc | apply pw_below_drewN | apply below_drew1) | exact HB.out)) hb); have n1_ := Aside0.mk (hbox); have n2_ := Aside0.mk ((by rw [hg]; exact (below_size (by repeat (first | (with_reducible first | exact HB.out | apply below_alloc | apply pw_below_drewN | apply below_drew1) | exact HB.out))) : w.heap.size ≤ gb255)); have n3_ := Aside0.mk ((by rw [hg]; exact (below_size (by repeat (first | (with_reducible first | exact HB.out | apply below_alloc | apply pw_below_drewN | apply below_drew1) | exact HB.out))) : w.heap.size ≤ gb255)); clear HB; have HB := n0_; have BK255 := n1_; have GW255 := n2_; have GE255 := n3_; clear n0_ n1_ n2_ n3_; clear hb hbox hg; have hcz4_0 : w3.cell? ⟨gb255, 0, none⟩ = some (.int .i64 a0_0) := (blk_cell BK255.out 0).trans rfl; have hcz4_1 : w3.cell? ⟨gb255, 1, none⟩ = some (.string a0_1) := (blk_cell BK255.out 1).trans rfl; have hcz4_2 : w3.cell? ⟨gb255, 2, none⟩ = some (.string a0_2) := (blk_cell BK255.out 2).trans rfl; have hcz4_3 : w3.cell? ⟨gb255, 3, none⟩ = some (.slice A0_3 l0_3.length c0_3) := (blk_cell BK255.out 3).trans rfl; have hcz4_4 : w3.cell? ⟨gb255, 4, none⟩ = some (.slice A0_4 l0_4.length c0_4) := (blk_cell BK255.out 4).trans rfl; have hcz4_5 : w3.cell? ⟨gb255, 5, none⟩ = some (.string a0_5) := (blk_cell BK255.out 5).trans rfl; have hfz4_0 := blk_frozen BK255.out 0; have hfz4_1 := blk_frozen BK255.out 1; have hfz4_2 := blk_frozen BK255.out 2; have hfz4_3 := blk_frozen BK255.out 3; have hfz4_4 := blk_frozen BK255.out 4; have hfz4_5 := blk_frozen BK255.out 5) | ((with_reducible refine gate_callee (f := 31) rfl ?_); refine goesL_ (some 4) rfl rfl Tryd.func31 (by kernel_rfl) rfl #[.agg #[.int .i64 a0_0, .string a0_1, .string a0_2, .slice A0_3 l0_3.length c0_3, .slice A0_4 l0_4.length c0_4, .string a0_5], .int .i64 30000] rfl (by (try simp only [List.map_toArray, List.map_cons, List.map_nil]); first | done | rfl | (simp only [List.length_drop, List.length_take]; rfl) | (simp only [ByteArray.size_extract]; rfl)) ?_; (with_reducible refine (watchbilllaw04_weigh.calls k a0_0 a0_1 a0_2 _ _ l0_3 _ _ l0_4 a0_5 30000 t256 _ ?side1 ?side2 ?side3 ?side4 A2.out).mono ?_); (case side1 => repeat (first | exact (Kd.C_below HR0_3.out HB.out) | (with_reducible refine Kd.C_alloc ?_ _) | (with_reducible refine Kd.C_drewN ?_ _) | (with_reducible refine Kd.C_drew ?_))); (case side2 => exact HC0_3.out); (case side3 => repeat (first | exact (Kd.C_below HR0_4.out HB.out) | (with_reducible refine Kd.C_alloc ?_ _) | (with_reducible refine Kd.C_drewN ?_ _) | (with_reducible refine Kd.C_drew ?_))); (case side4 => exact HC0_4.out); rintro e w5 ⟨rfl, hb⟩; refine ⟨_, rfl, ?_⟩; have n0_ := Aside0.mk (blk_below (g := gb255) (o := .cells #[.int .i64 a0_0, .string a0_1, .string a0_2, .slice A0_3 l0_3.length c0_3, .slice A0_4 l0_4.length c0_4, .string a0_5] 27 (0, 0)) (by (with_reducible repeat (first | refine blk_drewN ?_ _ | refine blk_drew ?_ | refine blk_alloc ?_ _)); exact BK255.out) hb); have n1_ := Aside0.mk (below_step (by repeat (first | (with_reducible first | exact HB.out | apply below_alloc | apply pw_below_drewN | apply below_drew1 | refine below_set ?_ GE255.out) | exact HB.out)) hb); clear BK255; clear HB; have BK255 := n0_; have HB := n1_; clear n0_ n1_; (try clear hb); (try clear hb2); (try clear hk); (try clear hi)))
  go_ret
  exact ⟨by first | rfl | (simp [errW_none, errW_some] <;> rfl) | (simp [*, errW_none, errW_some] <;> rfl), by repeat (first | (with_reducible first | exact HB.out | apply below_alloc | apply pw_below_drewN | apply below_drew1 | refine below_set ?_ GE255.out) | exact HB.out)⟩

end Go.Proofs.YtffpbhbiamkkpaaDoor.PR
