import Derived.Test.YtidkjifilgjgfaaDoorPAllx0
import Derived.Test.YtidkjifilgjgfaaDoorPAllx6
-- PRINTED by print.py (a twelfth state) out of the translation. Not trusted: Lean checks it.
namespace Go.Proofs.YtidkjifilgjgfaaDoor.PAll
open Go.RowKit Go.Proofs.YtidkjifilgjgfaaDoorW.PrintWords Go.Proofs.YtidkjifilgjgfaaDoorW.PrintLast Go.Proofs.YtidkjifilgjgfaaDoorW.PrintMore
attribute [local go_sem] yg8 yg6 yh9 yh8 yf9 yf8 yg7 yg5   -- for this text's walks alone
set_option linter.unusedVariables false
set_option linter.unusedSimpArgs false

/-! ### yb5: function 8 -/
mutual
def yb5.j0 : Nat → Bool → ByteArray → List (S38) → List ByteArray → ByteArray → List (S38) → List ByteArray → Option (Bool)
  | 0, _, _, _, _, _, _, _ => none
  | k + 1, x27, x196000, x196001, x196002, x197000, x197001, x197002 => if x27 = true then (some false) else (yb5.l0 k 0 x196000 x196001 x196002 x197000 x197001 x197002)
def yb5.l0 : Nat → Int → ByteArray → List (S38) → List ByteArray → ByteArray → List (S38) → List ByteArray → Option (Bool)
  | 0, _, _, _, _, _, _, _ => none
  | k + 1, x5, x196000, x196001, x196002, x197000, x197001, x197002 => if x5 < (x196001.length : Int) then (if 0 ≤ x5 then (if x5 < (x197001.length : Int) then ((ye6.f k ((rd_T38 x196001 x5).f0) ((rd_T38 x196001 x5).f1) ((rd_T38 x196001 x5).f2) ((rd_T38 x196001 x5).f3) ((rd_T38 x196001 x5).f4) ((rd_T38 x196001 x5).f5) ((rd_T38 x196001 x5).f6) ((rd_T38 x197001 x5).f0) ((rd_T38 x197001 x5).f1) ((rd_T38 x197001 x5).f2) ((rd_T38 x197001 x5).f3) ((rd_T38 x197001 x5).f4) ((rd_T38 x197001 x5).f5) ((rd_T38 x197001 x5).f6)).bind fun t200 => (if t200 = true then (yb5.l0 k (wrap64 (x5 + 1)) x196000 x196001 x196002 x197000 x197001 x197002) else (some false))) else (none)) else (none)) else (some true)
end
def yb5.f (k : Nat) (a0_0 : ByteArray) (l0_1 : List (S38)) (l0_2 : List ByteArray) (a1_0 : ByteArray) (l1_1 : List (S38)) (l1_2 : List ByteArray) : Option (Bool) := if a0_0.toList = a1_0.toList then (if (l0_1.length : Int) = (l1_1.length : Int) then ((yc9.f k l0_2 l1_2).bind fun t197 => (yb5.j0 k (!t197) a0_0 l0_1 l0_2 a1_0 l1_1 l1_2)) else (yb5.j0 k true a0_0 l0_1 l0_2 a1_0 l1_1 l1_2)) else (yb5.j0 k true a0_0 l0_1 l0_2 a1_0 l1_1 l1_2)
def yb5.T6 : Bool × List (List Nat × List Nat) := (true, [([], []), ([0], [0]), ([], []), ([1, 2], [1, 2]), ([3], [3]), ([], []), ([5], [5]), ([], []), ([6, 7], [6, 7]), ([8], [8]), ([4, 9], [4, 9]), ([10], [10])])
def yb5.B6 : List Nat := [0, 1, 0, 7, 15, 0, 32, 0, 224, 480, 1023, 2047]
theorem yb5.tab6 : rtab .any (opsOf Tryd.f8 6) = yb5.T6 := by kernel_rfl
theorem yb5.bits6 : yk2 yb5.T6.2 yb5.B6 = true := by kernel_rfl
set_option maxHeartbeats 8000000 in
set_option maxRecDepth 100000 in
theorem yb5.calls (k : Nat) (a0_0 : ByteArray) (A0_1 : Option Addr) (c0_1 : Nat) (l0_1 : List (S38)) (A0_2 : Option Addr) (c0_2 : Nat) (l0_2 : List ByteArray) (a1_0 : ByteArray) (A1_1 : Option Addr) (c1_1 : Nat) (l1_1 : List (S38)) (A1_2 : Option Addr) (c1_2 : Nat) (l1_2 : List ByteArray) (r : Bool) (w : World) (hr0_1 : Kd.C k38 w A0_1 l0_1.length l0_1) (hc0_1 : l0_1.length ≤ c0_1) (hr0_2 : Kd.C Kd.string w A0_2 l0_2.length l0_2) (hc0_2 : l0_2.length ≤ c0_2) (hr1_1 : Kd.C k38 w A1_1 l1_1.length l1_1) (hc1_1 : l1_1.length ≤ c1_1) (hr1_2 : Kd.C Kd.string w A1_2 l1_2.length l1_2) (hc1_2 : l1_2.length ≤ c1_2) (h : yb5.f k a0_0 l0_1 l0_2 a1_0 l1_1 l1_2 = some r) :
    Calls Tryd.prog 8 #[.agg #[.string a0_0, .slice A0_1 l0_1.length c0_1, .slice A0_2 l0_2.length c0_2], .agg #[.string a1_0, .slice A1_1 l1_1.length c1_1, .slice A1_2 l1_2.length c1_2]] w fun e w' => e = .returned (.bool r) ∧ Below w.heap.size w w' := by
  have hu27 := Tryd.underlying27
  have hu38 := Tryd.underlying38
  have HR0_1 := Aside0.mk hr0_1
  have HC0_1 := Aside0.mk hc0_1
  clear hr0_1 hc0_1
  have HR0_2 := Aside0.mk hr0_2
  have HC0_2 := Aside0.mk hc0_2
  clear hr0_2 hc0_2
  have HR1_1 := Aside0.mk hr1_1
  have HC1_1 := Aside0.mk hc1_1
  clear hr1_1 hc1_1
  have HR1_2 := Aside0.mk hr1_2
  have HC1_2 := Aside0.mk hc1_2
  clear hr1_2 hc1_2
  have HB := Aside0.mk (Below.refl w.heap.size w)
  have H : (if a0_0.toList = a1_0.toList then (if (l0_1.length : Int) = (l1_1.length : Int) then ((yc9.f k l0_2 l1_2).bind fun t197 => (yb5.j0 k (!t197) a0_0 l0_1 l0_2 a1_0 l1_1 l1_2)) else (yb5.j0 k true a0_0 l0_1 l0_2 a1_0 l1_1 l1_2)) else (yb5.j0 k true a0_0 l0_1 l0_2 a1_0 l1_1 l1_2)) = some r := h
  clear h
  have HC3 := Aside0.mk H
  clear H
  go_enter Tryd.func8, Tryd.ntmps8
  go_upto_region 1 with (first | ((with_reducible refine yc1 (N := 2) rfl ?_); (try (refine yh2 (by rfl) ?_; dsimp only)); refine yb9 ?hg (N := 2) ?hd (cs := #[.string a0_0, .slice A0_1 l0_1.length c0_1, .slice A0_2 l0_2.length c0_2]) (t := 27) ?hr ?_; (case hd => rfl); (case hg => rfl); (case hr => first | (go_simp; done) | (go_simp; rfl)); intro gb195 hg w4 hbox hb; have n0_ := Aside0.mk (yb1 (by repeat (first | (with_reducible first | exact HB.out | apply ya2 | apply ya0 | apply ya1) | exact HB.out)) hb); have n1_ := Aside0.mk (hbox); have n2_ := Aside0.mk ((by rw [hg]; exact (ya7 (by repeat (first | (with_reducible first | exact HB.out | apply ya2 | apply ya0 | apply ya1) | exact HB.out))) : w.heap.size ≤ gb195)); have n3_ := Aside0.mk ((by rw [hg]; exact (ya7 (by repeat (first | (with_reducible first | exact HB.out | apply ya2 | apply ya0 | apply ya1) | exact HB.out))) : w.heap.size ≤ gb195)); clear HB; have HB := n0_; have BK195 := n1_; have GW195 := n2_; have GE195 := n3_; clear n0_ n1_ n2_ n3_; clear hb hbox hg) | ((with_reducible refine yc1 (N := 3) rfl ?_); (try (refine yh2 (by rfl) ?_; dsimp only)); refine yb9 ?hg (N := 3) ?hd (cs := #[.string a1_0, .slice A1_1 l1_1.length c1_1, .slice A1_2 l1_2.length c1_2]) (t := 27) ?hr ?_; (case hd => rfl); (case hg => rfl); (case hr => first | (go_simp; done) | (go_simp; rfl)); intro gb196 hg w5 hbox hb; have n0_ := Aside0.mk (yb2 (g := gb195) (o := .cells #[.string a0_0, .slice A0_1 l0_1.length c0_1, .slice A0_2 l0_2.length c0_2] 27 (0, 0)) (by (with_reducible repeat (first | refine ya5 ?_ _ | refine ya6 ?_ | refine ya4 ?_ _)); exact BK195.out) hb); have n1_ := Aside0.mk (yb1 (by repeat (first | (with_reducible first | exact HB.out | apply ya2 | apply ya0 | apply ya1 | refine ya3 ?_ GE195.out) | exact HB.out)) hb); have n2_ := Aside0.mk (hbox); have n3_ := Aside0.mk ((by rw [hg]; exact (ya7 (by repeat (first | (with_reducible first | exact HB.out | apply ya2 | apply ya0 | apply ya1 | refine ya3 ?_ GE195.out) | exact HB.out))) : w.heap.size ≤ gb196)); have n4_ := Aside0.mk ((by rw [hg]; exact (ya7 (by repeat (first | (with_reducible first | exact HB.out | apply ya2 | apply ya0 | apply ya1 | refine ya3 ?_ GE195.out) | exact HB.out))) : w.heap.size ≤ gb196)); have n5_ := Aside0.mk ((by rw [hg]; exact Nat.ne_of_lt (blk_lt (g := gb195) (o := .cells #[.string a0_0, .slice A0_1 l0_1.length c0_1, .slice A0_2 l0_2.length c0_2] 27 (0, 0)) (by (with_reducible repeat (first | refine ya5 ?_ _ | refine ya6 ?_ | refine ya4 ?_ _)); exact BK195.out)) : gb195 ≠ gb196)); have n6_ := Aside0.mk ((by rw [hg]; exact Nat.ne_of_gt (blk_lt (g := gb195) (o := .cells #[.string a0_0, .slice A0_1 l0_1.length c0_1, .slice A0_2 l0_2.length c0_2] 27 (0, 0)) (by (with_reducible repeat (first | refine ya5 ?_ _ | refine ya6 ?_ | refine ya4 ?_ _)); exact BK195.out)) : gb196 ≠ gb195)); clear BK195; clear HB; have BK195 := n0_; have HB := n1_; have BK196 := n2_; have GW196 := n3_; have GE196 := n4_; have NB195_196 := n5_; have NB196_195 := n6_; clear n0_ n1_ n2_ n3_ n4_ n5_ n6_; clear hb hbox hg))
  (try simp only [Act.put, zA, zB, zC])
  go_cut [27] (fun v27 wc => ∃ (kq : Nat) (x27_2 : Bool), v27 = .bool x27_2 ∧ Aside0 (yb5.j0 kq x27_2 a0_0 l0_1 l0_2 a1_0 l1_1 l1_2 = some r) ∧ Aside0 (kq ≤ k) ∧ Aside0 (wc.heap[gb195]? = some (.cells #[.string a0_0, (.slice A0_1 l0_1.length c0_1), (.slice A0_2 l0_2.length c0_2)] 27 (0, 0))) ∧ Aside0 (wc.heap[gb196]? = some (.cells #[.string a1_0, (.slice A1_1 l1_1.length c1_1), (.slice A1_2 l1_2.length c1_2)] 27 (0, 0))) ∧ Aside0 (Below w.heap.size w wc))
  case first =>
    have H := HC3.out
    clear HC3
    by_cases c6 : a0_0.toList = a1_0.toList
    · rw [if_pos c6] at H
      have c6b0 : (a0_0.toList == a1_0.toList) = true := beq_iff_eq.mpr c6
      have c6b1 : (a0_0.toList != a1_0.toList) = false := bne_eq_false_iff_eq.mpr c6
      clear c6
      (first | rw [c6b0] | (simp only [i64_w, i32_w]; rw [c6b0]) | skip)
      by_cases c7 : (l0_1.length : Int) = (l1_1.length : Int)
      · rw [if_pos c7] at H
        have c7b0 : ((l0_1.length : Int) == (l1_1.length : Int)) = true := beq_iff_eq.mpr c7
        have c7b1 : ((l0_1.length : Int) != (l1_1.length : Int)) = false := bne_eq_false_iff_eq.mpr c7
        have c7b2 : (l0_1.length == l1_1.length) = true := by first | simpa using c7 | (simp at c7 ⊢; omega)
        clear c7
        replace H := Option.bind_eq_some_iff.mp H
        obtain ⟨t197, A80, H⟩ := H
        replace H : (yb5.j0 k (!t197) a0_0 l0_1 l0_2 a1_0 l1_1 l1_2) = some r := H
        have A8 := Aside0.mk A80
        clear A80
        have H' := Aside0.mk H
        clear H
        have hnb9 := NB195_196.out
        have hnc9 := NB196_195.out
        obtain ⟨hcz10_0, hcz10_1, hcz10_2, hfz10_0, hfz10_1, hfz10_2⟩ := bx3 BK195.out
        obtain ⟨hcz11_0, hcz11_1, hcz11_2, hfz11_0, hfz11_1, hfz11_2⟩ := bx3 BK196.out
        go_wp2_with (first | (go_at_call 13; (with_reducible refine (yc9.calls k _ _ l0_2 _ _ l1_2 t197 _ ?side1 ?side2 ?side3 ?side4 A8.out).mono ?_); (case side1 => repeat (first | exact (Kd.yc4 HR0_2.out HB.out) | (with_reducible refine Kd.yd2 ?_ _) | (with_reducible refine Kd.C_drewN ?_ _) | (with_reducible refine Kd.C_drew ?_))); (case side2 => exact HC0_2.out); (case side3 => repeat (first | exact (Kd.yc4 HR1_2.out HB.out) | (with_reducible refine Kd.yd2 ?_ _) | (with_reducible refine Kd.C_drewN ?_ _) | (with_reducible refine Kd.C_drew ?_))); (case side4 => exact HC1_2.out); rintro e w' ⟨rfl, ⟨nd, rfl⟩⟩))
        go_meet
        case rel => exact ⟨_, (!t197), (by first | rfl | (simp; done) | (simp [*]; done)), H', ⟨by first | omega | exact Nat.le_refl _⟩, ⟨by (with_reducible repeat (first | refine ya5 ?_ _ | refine ya6 ?_ | refine ya4 ?_ _)); exact BK195.out⟩, ⟨by (with_reducible repeat (first | refine ya5 ?_ _ | refine ya6 ?_ | refine ya4 ?_ _)); exact BK196.out⟩, ⟨by repeat (first | (with_reducible first | exact HB.out | apply ya2 | apply ya0 | apply ya1 | refine ya3 ?_ GE195.out | refine ya3 ?_ GE196.out) | exact HB.out)⟩⟩
      · rw [if_neg c7] at H
        have c7b0 : ((l0_1.length : Int) == (l1_1.length : Int)) = false := beq_eq_false_iff_ne.mpr c7
        have c7b1 : ((l0_1.length : Int) != (l1_1.length : Int)) = true := bne_iff_ne.mpr c7
        have c7b2 : (l0_1.length == l1_1.length) = false := by first | simpa using c7 | (simp at c7 ⊢; omega)
        have H' := Aside0.mk H
        clear H
        have hnb12 := NB195_196.out
        have hnc12 := NB196_195.out
        obtain ⟨hcz13_0, hcz13_1, hcz13_2, hfz13_0, hfz13_1, hfz13_2⟩ := bx3 BK195.out
        obtain ⟨hcz14_0, hcz14_1, hcz14_2, hfz14_0, hfz14_1, hfz14_2⟩ := bx3 BK196.out
        go_wp2
        go_meet
        case rel => exact ⟨_, (true), (by first | rfl | (simp; done) | (simp [*]; done)), H', ⟨by first | omega | exact Nat.le_refl _⟩, ⟨by (with_reducible repeat (first | refine ya5 ?_ _ | refine ya6 ?_ | refine ya4 ?_ _)); exact BK195.out⟩, ⟨by (with_reducible repeat (first | refine ya5 ?_ _ | refine ya6 ?_ | refine ya4 ?_ _)); exact BK196.out⟩, ⟨by repeat (first | (with_reducible first | exact HB.out | apply ya2 | apply ya0 | apply ya1 | refine ya3 ?_ GE195.out | refine ya3 ?_ GE196.out) | exact HB.out)⟩⟩
    · rw [if_neg c6] at H
      have c6b0 : (a0_0.toList == a1_0.toList) = false := beq_eq_false_iff_ne.mpr c6
      have c6b1 : (a0_0.toList != a1_0.toList) = true := bne_iff_ne.mpr c6
      (first | rw [c6b0] | (simp only [i64_w, i32_w]; rw [c6b0]) | skip)
      have H' := Aside0.mk H
      clear H
      have hnb15 := NB195_196.out
      have hnc15 := NB196_195.out
      obtain ⟨hcz16_0, hcz16_1, hcz16_2, hfz16_0, hfz16_1, hfz16_2⟩ := bx3 BK195.out
      obtain ⟨hcz17_0, hcz17_1, hcz17_2, hfz17_0, hfz17_1, hfz17_2⟩ := bx3 BK196.out
      go_wp2
      go_meet
      case rel => exact ⟨_, (true), (by first | rfl | (simp; done) | (simp [*]; done)), H', ⟨by first | omega | exact Nat.le_refl _⟩, ⟨by (with_reducible repeat (first | refine ya5 ?_ _ | refine ya6 ?_ | refine ya4 ?_ _)); exact BK195.out⟩, ⟨by (with_reducible repeat (first | refine ya5 ?_ _ | refine ya6 ?_ | refine ya4 ?_ _)); exact BK196.out⟩, ⟨by repeat (first | (with_reducible first | exact HB.out | apply ya2 | apply ya0 | apply ya1 | refine ya3 ?_ GE195.out | refine ya3 ?_ GE196.out) | exact HB.out)⟩⟩
  case rest =>
    clear HC3
    try clear c1
    try clear p2
    try clear c6
    try clear c6b0
    try clear c6b1
    try clear c7
    try clear c7b0
    try clear c7b1
    try clear c7b2
    try clear c8
    try clear c9
    try clear c12
    try clear c15
    try clear hcz10_0
    try clear hcz10_1
    try clear hcz10_2
    try clear hcz11_0
    try clear hcz11_1
    try clear hcz11_2
    try clear hcz13_0
    try clear hcz13_1
    try clear hcz13_2
    try clear hcz14_0
    try clear hcz14_1
    try clear hcz14_2
    try clear hcz16_0
    try clear hcz16_1
    try clear hcz16_2
    try clear hcz17_0
    try clear hcz17_1
    try clear hcz17_2
    try clear hfz10_0
    try clear hfz10_1
    try clear hfz10_2
    try clear hfz11_0
    try clear hfz11_1
    try clear hfz11_2
    try clear hfz13_0
    try clear hfz13_1
    try clear hfz13_2
    try clear hfz14_0
    try clear hfz14_1
    try clear hfz14_2
    try clear hfz16_0
    try clear hfz16_1
    try clear hfz16_2
    try clear hfz17_0
    try clear hfz17_1
    try clear hfz17_2
    obtain ⟨kq, x27_2, rfl, HA, HJ2, BK195, BK196, HB⟩ := hcut
    cases kq with
    | zero => exact absurd HA.out (by simp [yb5.j0])
    | succ kj2 =>
      have H := HA.out
      clear HA
      simp only [yb5.j0] at H
      by_cases c18 : x27_2 = true
      · subst c18
        have H1 : (some false) = some r := by rw [if_pos rfl] at H; exact H
        clear H
        have H := H1
        clear H1
        obtain rfl := Option.some.inj H
        go_wp2
        go_ret
        exact ⟨by first | rfl | (simp [yb0, ya9] <;> rfl) | (simp [*, yb0, ya9] <;> rfl), by repeat (first | (with_reducible first | exact HB.out | apply ya2 | apply ya0 | apply ya1 | refine ya3 ?_ GE195.out | refine ya3 ?_ GE196.out) | exact HB.out)⟩
      replace c18 := Bool.eq_false_iff.mpr c18
      subst c18
      have H1 : (yb5.l0 kj2 0 a0_0 l0_1 l0_2 a1_0 l1_1 l1_2) = some r := by rw [if_neg (show ¬ (false = true) by decide)] at H; exact H
      clear H
      have H := H1
      clear H1
      have H' := Aside0.mk H
      clear H
      go_wp2
      go_loopg [5] kj2 (fun kq v5 w' => ∃ (x5_2 : Int), v5 = .int .i64 x5_2 ∧ Aside0 (yb5.l0 kq x5_2 a0_0 l0_1 l0_2 a1_0 l1_1 l1_2 = some r) ∧ Aside0 (kq ≤ kj2) ∧ Aside0 (w'.heap[gb195]? = some (.cells #[.string a0_0, (.slice A0_1 l0_1.length c0_1), (.slice A0_2 l0_2.length c0_2)] 27 (0, 0))) ∧ Aside0 (w'.heap[gb196]? = some (.cells #[.string a1_0, (.slice A1_1 l1_1.length c1_1), (.slice A1_2 l1_2.length c1_2)] 27 (0, 0))) ∧ Aside0 (Below w.heap.size w w'))
      case atStart => exact ⟨(0), (by first | rfl | (simp; done) | (simp [*]; done)), H', ⟨Nat.le_refl _⟩, ⟨by (with_reducible repeat (first | refine ya5 ?_ _ | refine ya6 ?_ | refine ya4 ?_ _)); exact BK195.out⟩, ⟨by (with_reducible repeat (first | refine ya5 ?_ _ | refine ya6 ?_ | refine ya4 ?_ _)); exact BK196.out⟩, ⟨by repeat (first | (with_reducible first | exact HB.out | apply ya2 | apply ya0 | apply ya1 | refine ya3 ?_ GE195.out | refine ya3 ?_ GE196.out) | exact HB.out)⟩⟩
      case round =>
        clear H'
        try clear c1
        try clear p2
        try clear c6
        try clear c6b0
        try clear c6b1
        try clear c7
        try clear c7b0
        try clear c7b1
        try clear c7b2
        try clear c8
        try clear c9
        try clear c12
        try clear c15
        try clear c18
        try clear hcz10_0
        try clear hcz10_1
        try clear hcz10_2
        try clear hcz11_0
        try clear hcz11_1
        try clear hcz11_2
        try clear hcz13_0
        try clear hcz13_1
        try clear hcz13_2
        try clear hcz14_0
        try clear hcz14_1
        try clear hcz14_2
        try clear hcz16_0
        try clear hcz16_1
        try clear hcz16_2
        try clear hcz17_0
        try clear hcz17_1
        try clear hcz17_2
        try clear hfz10_0
        try clear hfz10_1
        try clear hfz10_2
        try clear hfz11_0
        try clear hfz11_1
        try clear hfz11_2
        try clear hfz13_0
        try clear hfz13_1
        try clear hfz13_2
        try clear hfz14_0
        try clear hfz14_1
        try clear hfz14_2
        try clear hfz16_0
        try clear hfz16_1
        try clear hfz16_2
        try clear hfz17_0
        try clear hfz17_1
        try clear hfz17_2
        try clear p2
        obtain ⟨x5_2, rfl, HA, HK2, BK195, BK196, HB⟩ := hrel
        cases gk with
        | zero => exact absurd HA.out (by simp [yb5.l0])
        | succ k2 =>
          have H := HA.out
          clear HA
          simp only [yb5.l0] at H
          by_cases c19 : x5_2 < (l0_1.length : Int)
          · rw [if_pos c19] at H
            have c19b0 : decide (x5_2 < (l0_1.length : Int)) = true := decide_eq_true c19
            clear c19
            by_cases c20 : 0 ≤ x5_2
            rotate_left 1
            · rw [if_neg c20] at H
              exact absurd H (by simp)
            rw [if_pos c20] at H
            have c20b0 : decide (0 ≤ x5_2) = true := decide_eq_true c20
            clear c20
            by_cases c21 : x5_2 < (l1_1.length : Int)
            rotate_left 1
            · rw [if_neg c21] at H
              exact absurd H (by simp)
            rw [if_pos c21] at H
            have c21b0 : decide (x5_2 < (l1_1.length : Int)) = true := decide_eq_true c21
            clear c21
            replace H := Option.bind_eq_some_iff.mp H
            obtain ⟨t200, A220, H⟩ := H
            replace H : (if t200 = true then (yb5.l0 k2 (wrap64 (x5_2 + 1)) a0_0 l0_1 l0_2 a1_0 l1_1 l1_2) else (some false)) = some r := H
            have A22 := Aside0.mk A220
            clear A220
            by_cases c23 : t200 = true
            · subst c23
              have H1 : (yb5.l0 k2 (wrap64 (x5_2 + 1)) a0_0 l0_1 l0_2 a1_0 l1_1 l1_2) = some r := by rw [if_pos rfl] at H; exact H
              clear H
              have H := H1
              clear H1
              have H' := Aside0.mk H
              clear H
              have hnb24 := NB195_196.out
              have hnc24 := NB196_195.out
              obtain ⟨hcz25_0, hcz25_1, hcz25_2, hfz25_0, hfz25_1, hfz25_2⟩ := bx3 BK195.out
              try go_wp2
              have n0_ := Aside0.mk (ya6 BK195.out)
              have n1_ := Aside0.mk (ya6 BK196.out)
              have n2_ := Aside0.mk (ya1 HB.out)
              clear BK195
              clear BK196
              clear HB
              have BK195 := n0_
              have BK196 := n1_
              have HB := n2_
              clear n0_ n1_ n2_
              have p198 : 0 ≤ (x5_2 : Int) := of_decide_eq_true (by first | (with_reducible assumption) | assumption)
              have q198 : x5_2 < (l0_1.length : Int) := of_decide_eq_true (by first | (with_reducible assumption) | assumption)
              obtain ⟨ad198, A198_5, c198_5, e198, hx198_0, hx198_1, hx198_2, hx198_3, hx198_4, hx198_5, hx198_6, hl198_5, hi198_5⟩ := at_T38 HR0_1.out x5_2 p198 q198
              have hw198_6 := hx198_6
              have hw198_5 := hx198_5
              have hw198_4 := hx198_4
              have hw198_3 := hx198_3
              have hw198_2 := hx198_2
              have hw198_1 := hx198_1
              have hw198_0 := hx198_0
              cases e198
              replace hx198_0 := cup HB.out hx198_0
              replace hx198_1 := cup HB.out hx198_1
              replace hx198_2 := cup HB.out hx198_2
              replace hx198_3 := cup HB.out hx198_3
              replace hx198_4 := cup HB.out hx198_4
              replace hx198_5 := cup HB.out hx198_5
              replace hx198_6 := cup HB.out hx198_6
              have HR198_5 := Aside0.mk hi198_5
              have HC198_5 := Aside0.mk hl198_5
              clear hi198_5 hl198_5
              replace p198 := eq_true p198
              replace q198 := eq_true q198
              have p199 : 0 ≤ (x5_2 : Int) := of_decide_eq_true (by first | (with_reducible assumption) | assumption)
              have q199 : x5_2 < (l1_1.length : Int) := of_decide_eq_true (by first | (with_reducible assumption) | assumption)
              obtain ⟨ad199, A199_5, c199_5, e199, hx199_0, hx199_1, hx199_2, hx199_3, hx199_4, hx199_5, hx199_6, hl199_5, hi199_5⟩ := at_T38 HR1_1.out x5_2 p199 q199
              have hw199_6 := hx199_6
              have hw199_5 := hx199_5
              have hw199_4 := hx199_4
              have hw199_3 := hx199_3
              have hw199_2 := hx199_2
              have hw199_1 := hx199_1
              have hw199_0 := hx199_0
              cases e199
              replace hx199_0 := cup HB.out hx199_0
              replace hx199_1 := cup HB.out hx199_1
              replace hx199_2 := cup HB.out hx199_2
              replace hx199_3 := cup HB.out hx199_3
              replace hx199_4 := cup HB.out hx199_4
              replace hx199_5 := cup HB.out hx199_5
              replace hx199_6 := cup HB.out hx199_6
              have HR199_5 := Aside0.mk hi199_5
              have HC199_5 := Aside0.mk hl199_5
              clear hi199_5 hl199_5
              replace p199 := eq_true p199
              replace q199 := eq_true q199
              refine start_ (n := 12) (S := fun w' => w'.cell? ⟨gb195, 0, none⟩ = some (.string a0_0) ∧ w'.cell? ⟨gb195, 1, none⟩ = some (.slice (some ad198) l0_1.length c0_1) ∧ w'.cell? ⟨gb195, 2, none⟩ = some (.slice A0_2 l0_2.length c0_2) ∧ w'.cell? ⟨gb196, 0, none⟩ = some (.string a1_0) ∧ w'.cell? ⟨gb196, 1, none⟩ = some (.slice (some ad199) l1_1.length c1_1) ∧ w'.cell? ⟨gb196, 2, none⟩ = some (.slice A1_2 l1_2.length c1_2) ∧ w'.cell? (ad198.add ((x5_2).toNat * 7)) = some (.string ((rd_T38 l0_1 x5_2).f0)) ∧ w'.cell? ⟨(ad198.add ((x5_2).toNat * 7)).block, (ad198.add ((x5_2).toNat * 7)).off + 1, none⟩ = some (.string ((rd_T38 l0_1 x5_2).f1)) ∧ w'.cell? ⟨(ad198.add ((x5_2).toNat * 7)).block, (ad198.add ((x5_2).toNat * 7)).off + 2, none⟩ = some (.string ((rd_T38 l0_1 x5_2).f2)) ∧ w'.cell? ⟨(ad198.add ((x5_2).toNat * 7)).block, (ad198.add ((x5_2).toNat * 7)).off + 3, none⟩ = some (.string ((rd_T38 l0_1 x5_2).f3)) ∧ w'.cell? ⟨(ad198.add ((x5_2).toNat * 7)).block, (ad198.add ((x5_2).toNat * 7)).off + 4, none⟩ = some (.int .i64 ((rd_T38 l0_1 x5_2).f4)) ∧ w'.cell? ⟨(ad198.add ((x5_2).toNat * 7)).block, (ad198.add ((x5_2).toNat * 7)).off + 5, none⟩ = some (.slice A198_5 ((rd_T38 l0_1 x5_2).f5).length c198_5) ∧ w'.cell? ⟨(ad198.add ((x5_2).toNat * 7)).block, (ad198.add ((x5_2).toNat * 7)).off + 6, none⟩ = some (.int .u64 ((rd_T38 l0_1 x5_2).f6)) ∧ w'.cell? (ad199.add ((x5_2).toNat * 7)) = some (.string ((rd_T38 l1_1 x5_2).f0)) ∧ w'.cell? ⟨(ad199.add ((x5_2).toNat * 7)).block, (ad199.add ((x5_2).toNat * 7)).off + 1, none⟩ = some (.string ((rd_T38 l1_1 x5_2).f1)) ∧ w'.cell? ⟨(ad199.add ((x5_2).toNat * 7)).block, (ad199.add ((x5_2).toNat * 7)).off + 2, none⟩ = some (.string ((rd_T38 l1_1 x5_2).f2)) ∧ w'.cell? ⟨(ad199.add ((x5_2).toNat * 7)).block, (ad199.add ((x5_2).toNat * 7)).off + 3, none⟩ = some (.string ((rd_T38 l1_1 x5_2).f3)) ∧ w'.cell? ⟨(ad199.add ((x5_2).toNat * 7)).block, (ad199.add ((x5_2).toNat * 7)).off + 4, none⟩ = some (.int .i64 ((rd_T38 l1_1 x5_2).f4)) ∧ w'.cell? ⟨(ad199.add ((x5_2).toNat * 7)).block, (ad199.add ((x5_2).toNat * 7)).off + 5, none⟩ = some (.slice A199_5 ((rd_T38 l1_1 x5_2).f5).length c199_5) ∧ w'.cell? ⟨(ad199.add ((x5_2).toNat * 7)).block, (ad199.add ((x5_2).toNat * 7)).off + 6, none⟩ = some (.int .u64 ((rd_T38 l1_1 x5_2).f6))) (ds := []) #[false, false, false, false, false, false, false, false, false, false, false, false] (by kernel_rfl) rfl rfl ⟨(yb3 BK195.out 0).trans rfl, (yb3 BK195.out 1).trans rfl, (yb3 BK195.out 2).trans rfl, (yb3 BK196.out 0).trans rfl, (yb3 BK196.out 1).trans rfl, (yb3 BK196.out 2).trans rfl, (cup HB.out hw198_0), (cup HB.out hw198_1), (cup HB.out hw198_2), (cup HB.out hw198_3), (cup HB.out hw198_4), (cup HB.out hw198_5), (cup HB.out hw198_6), (cup HB.out hw199_0), (cup HB.out hw199_1), (cup HB.out hw199_2), (cup HB.out hw199_3), (cup HB.out hw199_4), (cup HB.out hw199_5), (cup HB.out hw199_6)⟩ (fun hHeld => ?_); refine yi5 yb5.tab6 yb5.bits6 (fun HT_ HW_ => ?_)
              generalize wr.drew = w26 at BK195 BK196 HB HR198_5 HR199_5 hx198_0 hx198_1 hx198_2 hx198_3 hx198_4 hx198_5 hx198_6 hx199_0 hx199_1 hx199_2 hx199_3 hx199_4 hx199_5 hx199_6 hHeld ⊢
              refine pure_ (i := 0) (N := some 35) (v := ?_) (a' := ?_) #[true, false, false, false, false, false, false, false, false, false, false, false] rfl rfl (any_of HT_.out (by kernel_rfl)) (fun _ _ _ h => h) (Or.inl ⟨by rfl, ?_⟩) ?_ ?_
              rotate_left
              · intro w'
                go_simp
                with_reducible rfl
              rotate_left
              · simp only [Act.put, zA, zB, zC, i64_w, i32_w]
                rfl
              refine pure_ (i := 2) (N := some 37) (v := ?_) (a' := ?_) #[true, false, true, false, false, false, false, false, false, false, false, false] rfl rfl (any_of HT_.out (by kernel_rfl)) (fun _ _ _ h => h) (Or.inl ⟨by rfl, ?_⟩) ?_ ?_
              rotate_left
              · intro w'
                go_simp
                with_reducible rfl
              rotate_left
              · simp only [Act.put, zA, zB, zC, i64_w, i32_w]
                rfl
              refine pure_ (i := 5) (N := some 40) (v := ?_) (a' := ?_) #[true, false, true, false, false, true, false, false, false, false, false, false] rfl rfl (any_of HT_.out (by kernel_rfl)) (fun _ _ _ h => h) (Or.inl ⟨by rfl, ?_⟩) ?_ ?_
              rotate_left
              · intro w'
                go_simp
                with_reducible rfl
              rotate_left
              · simp only [Act.put, zA, zB, zC, i64_w, i32_w]
                rfl
              refine pure_ (i := 7) (N := some 42) (v := ?_) (a' := ?_) #[true, false, true, false, false, true, false, true, false, false, false, false] rfl rfl (any_of HT_.out (by kernel_rfl)) (fun _ _ _ h => h) (Or.inl ⟨by rfl, ?_⟩) ?_ ?_
              rotate_left
              · intro w'
                go_simp
                with_reducible rfl
              rotate_left
              · simp only [Act.put, zA, zB, zC, i64_w, i32_w]
                rfl
              refine take_ (i := 1) (N := some 36) (v := ?_) (a' := ?_) #[true, true, true, false, false, true, false, true, false, false, false, false] rfl rfl (ye1 HT_.out HW_.out (by kernel_rfl)) (fun _ _ _ h => h) (Or.inl ⟨by rfl, ?_⟩) hHeld ?_ ?_
              rotate_left
              · rintro w' ⟨s0, s1, s2, s3, s4, s5, s6, s7, s8, s9, s10, s11, s12, s13, s14, s15, s16, s17, s18, s19⟩
                go_simp
                with_reducible rfl
              rotate_left
              · simp only [Act.put, zA, zB, zC, i64_w, i32_w]
                rfl
              refine pure_ (i := 3) (N := some 38) (v := ?_) (a' := ?_) #[true, true, true, true, false, true, false, true, false, false, false, false] rfl rfl (any_of HT_.out (by kernel_rfl)) (fun _ _ _ h => h) (Or.inl ⟨by rfl, ?_⟩) ?_ ?_
              rotate_left
              · intro w'
                go_simp
                with_reducible rfl
              rotate_left
              · simp only [Act.put, zA, zB, zC, i64_w, i32_w]
                rfl
              refine take_ (i := 4) (N := some 39) (v := ?_) (a' := ?_) #[true, true, true, true, true, true, false, true, false, false, false, false] rfl rfl (ye1 HT_.out HW_.out (by kernel_rfl)) (fun _ _ _ h => h) (Or.inl ⟨by rfl, ?_⟩) hHeld ?_ ?_
              rotate_left
              · rintro w' ⟨s0, s1, s2, s3, s4, s5, s6, s7, s8, s9, s10, s11, s12, s13, s14, s15, s16, s17, s18, s19⟩
                go_simp
                with_reducible rfl
              rotate_left
              · simp only [Act.put, zA, zB, zC, i64_w, i32_w]
                rfl
              refine take_ (i := 6) (N := some 41) (v := ?_) (a' := ?_) #[true, true, true, true, true, true, true, true, false, false, false, false] rfl rfl (ye1 HT_.out HW_.out (by kernel_rfl)) (fun _ _ _ h => h) (Or.inl ⟨by rfl, ?_⟩) hHeld ?_ ?_
              rotate_left
              · rintro w' ⟨s0, s1, s2, s3, s4, s5, s6, s7, s8, s9, s10, s11, s12, s13, s14, s15, s16, s17, s18, s19⟩
                go_simp
                with_reducible rfl
              rotate_left
              · simp only [Act.put, zA, zB, zC, i64_w, i32_w]
                rfl
              refine pure_ (i := 8) (N := some 43) (v := ?_) (a' := ?_) #[true, true, true, true, true, true, true, true, true, false, false, false] rfl rfl (any_of HT_.out (by kernel_rfl)) (fun _ _ _ h => h) (Or.inl ⟨by rfl, ?_⟩) ?_ ?_
              rotate_left
              · intro w'
                go_simp
                with_reducible rfl
              rotate_left
              · simp only [Act.put, zA, zB, zC, i64_w, i32_w]
                rfl
              refine take_ (i := 9) (N := some 44) (v := ?_) (a' := ?_) #[true, true, true, true, true, true, true, true, true, true, false, false] rfl rfl (ye1 HT_.out HW_.out (by kernel_rfl)) (fun _ _ _ h => h) (Or.inl ⟨by rfl, ?_⟩) hHeld ?_ ?_
              rotate_left
              · rintro w' ⟨s0, s1, s2, s3, s4, s5, s6, s7, s8, s9, s10, s11, s12, s13, s14, s15, s16, s17, s18, s19⟩
                go_simp
                with_reducible rfl
              rotate_left
              · simp only [Act.put, zA, zB, zC, i64_w, i32_w]
                rfl
              refine one_ (i := 10) (N := some 45) #[true, true, true, true, true, true, true, true, true, true, true, false] rfl rfl (one_of HT_.out (by kernel_rfl)) (by decide) (fun K hK => ?_)
              refine goes_ Tryd.func14 (by kernel_rfl) rfl #[.agg #[.string ((rd_T38 l0_1 x5_2).f0), .string ((rd_T38 l0_1 x5_2).f1), .string ((rd_T38 l0_1 x5_2).f2), .string ((rd_T38 l0_1 x5_2).f3), .int .i64 ((rd_T38 l0_1 x5_2).f4), .slice A198_5 ((rd_T38 l0_1 x5_2).f5).length c198_5, .int .u64 ((rd_T38 l0_1 x5_2).f6)], .agg #[.string ((rd_T38 l1_1 x5_2).f0), .string ((rd_T38 l1_1 x5_2).f1), .string ((rd_T38 l1_1 x5_2).f2), .string ((rd_T38 l1_1 x5_2).f3), .int .i64 ((rd_T38 l1_1 x5_2).f4), .slice A199_5 ((rd_T38 l1_1 x5_2).f5).length c199_5, .int .u64 ((rd_T38 l1_1 x5_2).f6)]] (by rfl) rfl rfl (by (try simp only [List.map_toArray, List.map_cons, List.map_nil]); first | done | rfl | (simp only [List.length_drop, List.length_take]; rfl) | (simp only [ByteArray.size_extract]; rfl)) ?_
              with_reducible refine (ye6.calls k2 ((rd_T38 l0_1 x5_2).f0) ((rd_T38 l0_1 x5_2).f1) ((rd_T38 l0_1 x5_2).f2) ((rd_T38 l0_1 x5_2).f3) ((rd_T38 l0_1 x5_2).f4) _ _ ((rd_T38 l0_1 x5_2).f5) ((rd_T38 l0_1 x5_2).f6) ((rd_T38 l1_1 x5_2).f0) ((rd_T38 l1_1 x5_2).f1) ((rd_T38 l1_1 x5_2).f2) ((rd_T38 l1_1 x5_2).f3) ((rd_T38 l1_1 x5_2).f4) _ _ ((rd_T38 l1_1 x5_2).f5) ((rd_T38 l1_1 x5_2).f6) true _ ?side1 ?side2 ?side3 ?side4 A22.out).mono ?_
              (case side1 => repeat (first | exact (Kd.yc4 HR198_5.out HB.out) | (with_reducible refine Kd.yd2 ?_ _) | (with_reducible refine Kd.C_drewN ?_ _) | (with_reducible refine Kd.C_drew ?_)))
              (case side2 => exact HC198_5.out)
              (case side3 => repeat (first | exact (Kd.yc4 HR199_5.out HB.out) | (with_reducible refine Kd.yd2 ?_ _) | (with_reducible refine Kd.C_drewN ?_ _) | (with_reducible refine Kd.C_drew ?_)))
              (case side4 => exact HC199_5.out)
              rintro e w27 ⟨rfl, hb⟩
              refine ⟨_, rfl, ?_⟩
              have n0_ := Aside0.mk (yb2 (g := gb195) (o := .cells #[.string a0_0, .slice (some ad198) l0_1.length c0_1, .slice A0_2 l0_2.length c0_2] 27 (0, 0)) (by (with_reducible repeat (first | refine ya5 ?_ _ | refine ya6 ?_ | refine ya4 ?_ _)); exact BK195.out) hb)
              have n1_ := Aside0.mk (yb2 (g := gb196) (o := .cells #[.string a1_0, .slice (some ad199) l1_1.length c1_1, .slice A1_2 l1_2.length c1_2] 27 (0, 0)) (by (with_reducible repeat (first | refine ya5 ?_ _ | refine ya6 ?_ | refine ya4 ?_ _)); exact BK196.out) hb)
              have n2_ := Aside0.mk (yb1 (by repeat (first | (with_reducible first | exact HB.out | apply ya2 | apply ya0 | apply ya1 | refine ya3 ?_ GE195.out | refine ya3 ?_ GE196.out) | exact HB.out)) hb)
              clear BK195
              clear BK196
              clear HB
              have BK195 := n0_
              have BK196 := n1_
              have HB := n2_
              clear n0_ n1_ n2_
              (try clear hb)
              (try clear hb2)
              (try clear hk)
              (try clear hi)
              refine hK.out _ _ ⟨(yb3 BK195.out 0).trans rfl, (yb3 BK195.out 1).trans rfl, (yb3 BK195.out 2).trans rfl, (yb3 BK196.out 0).trans rfl, (yb3 BK196.out 1).trans rfl, (yb3 BK196.out 2).trans rfl, (cup HB.out hw198_0), (cup HB.out hw198_1), (cup HB.out hw198_2), (cup HB.out hw198_3), (cup HB.out hw198_4), (cup HB.out hw198_5), (cup HB.out hw198_6), (cup HB.out hw199_0), (cup HB.out hw199_1), (cup HB.out hw199_2), (cup HB.out hw199_3), (cup HB.out hw199_4), (cup HB.out hw199_5), (cup HB.out hw199_6)⟩ (fun hHeld => ?_)
              clear hK K
              refine norm_ (a' := ?_) ?_ ?_
              rotate_left
              · show Act.put _ (some 45) _ = _
                simp only [Act.put, zA, zB, zC, i64_w, i32_w]
                rfl
              refine pure_ (i := 11) (N := some 46) (v := ?_) (a' := ?_) #[true, true, true, true, true, true, true, true, true, true, true, true] rfl rfl (any_of HT_.out (by kernel_rfl)) (fun _ _ _ h => h) (Or.inl ⟨by rfl, ?_⟩) ?_ ?_
              rotate_left
              · intro w'
                go_simp
                with_reducible rfl
              rotate_left
              · simp only [Act.put, zA, zB, zC, i64_w, i32_w]
                rfl
              refine done_ (yk9 HT_.out (by kernel_rfl)) ?_
              try go_wp2
              go_roundg k2
              case measure => have := HJ2.out; have := HK2.out; omega
              case rel => exact ⟨(wrap64 (x5_2 + 1)), (by first | rfl | (simp; done) | (simp [*]; done)), H', ⟨by have := HJ2.out; have := HK2.out; omega⟩, ⟨by (with_reducible repeat (first | refine ya5 ?_ _ | refine ya6 ?_ | refine ya4 ?_ _)); exact BK195.out⟩, ⟨by (with_reducible repeat (first | refine ya5 ?_ _ | refine ya6 ?_ | refine ya4 ?_ _)); exact BK196.out⟩, ⟨by repeat (first | (with_reducible first | exact HB.out | apply ya2 | apply ya0 | apply ya1 | refine ya3 ?_ GE195.out | refine ya3 ?_ GE196.out) | exact HB.out)⟩⟩
            · replace c23 := Bool.eq_false_iff.mpr c23
              subst c23
              have H1 : (some false) = some r := by rw [if_neg (show ¬ (false = true) by decide)] at H; exact H
              clear H
              have H := H1
              clear H1
              obtain rfl := Option.some.inj H
              have hnb28 := NB195_196.out
              have hnc28 := NB196_195.out
              obtain ⟨hcz29_0, hcz29_1, hcz29_2, hfz29_0, hfz29_1, hfz29_2⟩ := bx3 BK195.out
              try go_wp2
              have n0_ := Aside0.mk (ya6 BK195.out)
              have n1_ := Aside0.mk (ya6 BK196.out)
              have n2_ := Aside0.mk (ya1 HB.out)
              clear BK195
              clear BK196
              clear HB
              have BK195 := n0_
              have BK196 := n1_
              have HB := n2_
              clear n0_ n1_ n2_
              have p198 : 0 ≤ (x5_2 : Int) := of_decide_eq_true (by first | (with_reducible assumption) | assumption)
              have q198 : x5_2 < (l0_1.length : Int) := of_decide_eq_true (by first | (with_reducible assumption) | assumption)
              obtain ⟨ad198, A198_5, c198_5, e198, hx198_0, hx198_1, hx198_2, hx198_3, hx198_4, hx198_5, hx198_6, hl198_5, hi198_5⟩ := at_T38 HR0_1.out x5_2 p198 q198
              have hw198_6 := hx198_6
              have hw198_5 := hx198_5
              have hw198_4 := hx198_4
              have hw198_3 := hx198_3
              have hw198_2 := hx198_2
              have hw198_1 := hx198_1
              have hw198_0 := hx198_0
              cases e198
              replace hx198_0 := cup HB.out hx198_0
              replace hx198_1 := cup HB.out hx198_1
              replace hx198_2 := cup HB.out hx198_2
              replace hx198_3 := cup HB.out hx198_3
              replace hx198_4 := cup HB.out hx198_4
              replace hx198_5 := cup HB.out hx198_5
              replace hx198_6 := cup HB.out hx198_6
              have HR198_5 := Aside0.mk hi198_5
              have HC198_5 := Aside0.mk hl198_5
              clear hi198_5 hl198_5
              replace p198 := eq_true p198
              replace q198 := eq_true q198
              have p199 : 0 ≤ (x5_2 : Int) := of_decide_eq_true (by first | (with_reducible assumption) | assumption)
              have q199 : x5_2 < (l1_1.length : Int) := of_decide_eq_true (by first | (with_reducible assumption) | assumption)
              obtain ⟨ad199, A199_5, c199_5, e199, hx199_0, hx199_1, hx199_2, hx199_3, hx199_4, hx199_5, hx199_6, hl199_5, hi199_5⟩ := at_T38 HR1_1.out x5_2 p199 q199
              have hw199_6 := hx199_6
              have hw199_5 := hx199_5
              have hw199_4 := hx199_4
              have hw199_3 := hx199_3
              have hw199_2 := hx199_2
              have hw199_1 := hx199_1
              have hw199_0 := hx199_0
              cases e199
              replace hx199_0 := cup HB.out hx199_0
              replace hx199_1 := cup HB.out hx199_1
              replace hx199_2 := cup HB.out hx199_2
              replace hx199_3 := cup HB.out hx199_3
              replace hx199_4 := cup HB.out hx199_4
              replace hx199_5 := cup HB.out hx199_5
              replace hx199_6 := cup HB.out hx199_6
              have HR199_5 := Aside0.mk hi199_5
              have HC199_5 := Aside0.mk hl199_5
              clear hi199_5 hl199_5
              replace p199 := eq_true p199
              replace q199 := eq_true q199
              refine start_ (n := 12) (S := fun w' => w'.cell? ⟨gb195, 0, none⟩ = some (.string a0_0) ∧ w'.cell? ⟨gb195, 1, none⟩ = some (.slice (some ad198) l0_1.length c0_1) ∧ w'.cell? ⟨gb195, 2, none⟩ = some (.slice A0_2 l0_2.length c0_2) ∧ w'.cell? ⟨gb196, 0, none⟩ = some (.string a1_0) ∧ w'.cell? ⟨gb196, 1, none⟩ = some (.slice (some ad199) l1_1.length c1_1) ∧ w'.cell? ⟨gb196, 2, none⟩ = some (.slice A1_2 l1_2.length c1_2) ∧ w'.cell? (ad198.add ((x5_2).toNat * 7)) = some (.string ((rd_T38 l0_1 x5_2).f0)) ∧ w'.cell? ⟨(ad198.add ((x5_2).toNat * 7)).block, (ad198.add ((x5_2).toNat * 7)).off + 1, none⟩ = some (.string ((rd_T38 l0_1 x5_2).f1)) ∧ w'.cell? ⟨(ad198.add ((x5_2).toNat * 7)).block, (ad198.add ((x5_2).toNat * 7)).off + 2, none⟩ = some (.string ((rd_T38 l0_1 x5_2).f2)) ∧ w'.cell? ⟨(ad198.add ((x5_2).toNat * 7)).block, (ad198.add ((x5_2).toNat * 7)).off + 3, none⟩ = some (.string ((rd_T38 l0_1 x5_2).f3)) ∧ w'.cell? ⟨(ad198.add ((x5_2).toNat * 7)).block, (ad198.add ((x5_2).toNat * 7)).off + 4, none⟩ = some (.int .i64 ((rd_T38 l0_1 x5_2).f4)) ∧ w'.cell? ⟨(ad198.add ((x5_2).toNat * 7)).block, (ad198.add ((x5_2).toNat * 7)).off + 5, none⟩ = some (.slice A198_5 ((rd_T38 l0_1 x5_2).f5).length c198_5) ∧ w'.cell? ⟨(ad198.add ((x5_2).toNat * 7)).block, (ad198.add ((x5_2).toNat * 7)).off + 6, none⟩ = some (.int .u64 ((rd_T38 l0_1 x5_2).f6)) ∧ w'.cell? (ad199.add ((x5_2).toNat * 7)) = some (.string ((rd_T38 l1_1 x5_2).f0)) ∧ w'.cell? ⟨(ad199.add ((x5_2).toNat * 7)).block, (ad199.add ((x5_2).toNat * 7)).off + 1, none⟩ = some (.string ((rd_T38 l1_1 x5_2).f1)) ∧ w'.cell? ⟨(ad199.add ((x5_2).toNat * 7)).block, (ad199.add ((x5_2).toNat * 7)).off + 2, none⟩ = some (.string ((rd_T38 l1_1 x5_2).f2)) ∧ w'.cell? ⟨(ad199.add ((x5_2).toNat * 7)).block, (ad199.add ((x5_2).toNat * 7)).off + 3, none⟩ = some (.string ((rd_T38 l1_1 x5_2).f3)) ∧ w'.cell? ⟨(ad199.add ((x5_2).toNat * 7)).block, (ad199.add ((x5_2).toNat * 7)).off + 4, none⟩ = some (.int .i64 ((rd_T38 l1_1 x5_2).f4)) ∧ w'.cell? ⟨(ad199.add ((x5_2).toNat * 7)).block, (ad199.add ((x5_2).toNat * 7)).off + 5, none⟩ = some (.slice A199_5 ((rd_T38 l1_1 x5_2).f5).length c199_5) ∧ w'.cell? ⟨(ad199.add ((x5_2).toNat * 7)).block, (ad199.add ((x5_2).toNat * 7)).off + 6, none⟩ = some (.int .u64 ((rd_T38 l1_1 x5_2).f6))) (ds := []) #[false, false, false, false, false, false, false, false, false, false, false, false] (by kernel_rfl) rfl rfl ⟨(yb3 BK195.out 0).trans rfl, (yb3 BK195.out 1).trans rfl, (yb3 BK195.out 2).trans rfl, (yb3 BK196.out 0).trans rfl, (yb3 BK196.out 1).trans rfl, (yb3 BK196.out 2).trans rfl, (cup HB.out hw198_0), (cup HB.out hw198_1), (cup HB.out hw198_2), (cup HB.out hw198_3), (cup HB.out hw198_4), (cup HB.out hw198_5), (cup HB.out hw198_6), (cup HB.out hw199_0), (cup HB.out hw199_1), (cup HB.out hw199_2), (cup HB.out hw199_3), (cup HB.out hw199_4), (cup HB.out hw199_5), (cup HB.out hw199_6)⟩ (fun hHeld => ?_); refine yi5 yb5.tab6 yb5.bits6 (fun HT_ HW_ => ?_)
              generalize wr.drew = w30 at BK195 BK196 HB HR198_5 HR199_5 hx198_0 hx198_1 hx198_2 hx198_3 hx198_4 hx198_5 hx198_6 hx199_0 hx199_1 hx199_2 hx199_3 hx199_4 hx199_5 hx199_6 hHeld ⊢
              refine pure_ (i := 0) (N := some 35) (v := ?_) (a' := ?_) #[true, false, false, false, false, false, false, false, false, false, false, false] rfl rfl (any_of HT_.out (by kernel_rfl)) (fun _ _ _ h => h) (Or.inl ⟨by rfl, ?_⟩) ?_ ?_
              rotate_left
              · intro w'
                go_simp
                with_reducible rfl
              rotate_left
              · simp only [Act.put, zA, zB, zC, i64_w, i32_w]
                rfl
              refine pure_ (i := 2) (N := some 37) (v := ?_) (a' := ?_) #[true, false, true, false, false, false, false, false, false, false, false, false] rfl rfl (any_of HT_.out (by kernel_rfl)) (fun _ _ _ h => h) (Or.inl ⟨by rfl, ?_⟩) ?_ ?_
              rotate_left
              · intro w'
                go_simp
                with_reducible rfl
              rotate_left
              · simp only [Act.put, zA, zB, zC, i64_w, i32_w]
                rfl
              refine pure_ (i := 5) (N := some 40) (v := ?_) (a' := ?_) #[true, false, true, false, false, true, false, false, false, false, false, false] rfl rfl (any_of HT_.out (by kernel_rfl)) (fun _ _ _ h => h) (Or.inl ⟨by rfl, ?_⟩) ?_ ?_
              rotate_left
              · intro w'
                go_simp
                with_reducible rfl
              rotate_left
              · simp only [Act.put, zA, zB, zC, i64_w, i32_w]
                rfl
              refine pure_ (i := 7) (N := some 42) (v := ?_) (a' := ?_) #[true, false, true, false, false, true, false, true, false, false, false, false] rfl rfl (any_of HT_.out (by kernel_rfl)) (fun _ _ _ h => h) (Or.inl ⟨by rfl, ?_⟩) ?_ ?_
              rotate_left
              · intro w'
                go_simp
                with_reducible rfl
              rotate_left
              · simp only [Act.put, zA, zB, zC, i64_w, i32_w]
                rfl
              refine take_ (i := 1) (N := some 36) (v := ?_) (a' := ?_) #[true, true, true, false, false, true, false, true, false, false, false, false] rfl rfl (ye1 HT_.out HW_.out (by kernel_rfl)) (fun _ _ _ h => h) (Or.inl ⟨by rfl, ?_⟩) hHeld ?_ ?_
              rotate_left
              · rintro w' ⟨s0, s1, s2, s3, s4, s5, s6, s7, s8, s9, s10, s11, s12, s13, s14, s15, s16, s17, s18, s19⟩
                go_simp
                with_reducible rfl
              rotate_left
              · simp only [Act.put, zA, zB, zC, i64_w, i32_w]
                rfl
              refine pure_ (i := 3) (N := some 38) (v := ?_) (a' := ?_) #[true, true, true, true, false, true, false, true, false, false, false, false] rfl rfl (any_of HT_.out (by kernel_rfl)) (fun _ _ _ h => h) (Or.inl ⟨by rfl, ?_⟩) ?_ ?_
              rotate_left
              · intro w'
                go_simp
                with_reducible rfl
              rotate_left
              · simp only [Act.put, zA, zB, zC, i64_w, i32_w]
                rfl
              refine take_ (i := 4) (N := some 39) (v := ?_) (a' := ?_) #[true, true, true, true, true, true, false, true, false, false, false, false] rfl rfl (ye1 HT_.out HW_.out (by kernel_rfl)) (fun _ _ _ h => h) (Or.inl ⟨by rfl, ?_⟩) hHeld ?_ ?_
              rotate_left
              · rintro w' ⟨s0, s1, s2, s3, s4, s5, s6, s7, s8, s9, s10, s11, s12, s13, s14, s15, s16, s17, s18, s19⟩
                go_simp
                with_reducible rfl
              rotate_left
              · simp only [Act.put, zA, zB, zC, i64_w, i32_w]
                rfl
              refine take_ (i := 6) (N := some 41) (v := ?_) (a' := ?_) #[true, true, true, true, true, true, true, true, false, false, false, false] rfl rfl (ye1 HT_.out HW_.out (by kernel_rfl)) (fun _ _ _ h => h) (Or.inl ⟨by rfl, ?_⟩) hHeld ?_ ?_
              rotate_left
              · rintro w' ⟨s0, s1, s2, s3, s4, s5, s6, s7, s8, s9, s10, s11, s12, s13, s14, s15, s16, s17, s18, s19⟩
                go_simp
                with_reducible rfl
              rotate_left
              · simp only [Act.put, zA, zB, zC, i64_w, i32_w]
                rfl
              refine pure_ (i := 8) (N := some 43) (v := ?_) (a' := ?_) #[true, true, true, true, true, true, true, true, true, false, false, false] rfl rfl (any_of HT_.out (by kernel_rfl)) (fun _ _ _ h => h) (Or.inl ⟨by rfl, ?_⟩) ?_ ?_
              rotate_left
              · intro w'
                go_simp
                with_reducible rfl
              rotate_left
              · simp only [Act.put, zA, zB, zC, i64_w, i32_w]
                rfl
              refine take_ (i := 9) (N := some 44) (v := ?_) (a' := ?_) #[true, true, true, true, true, true, true, true, true, true, false, false] rfl rfl (ye1 HT_.out HW_.out (by kernel_rfl)) (fun _ _ _ h => h) (Or.inl ⟨by rfl, ?_⟩) hHeld ?_ ?_
              rotate_left
              · rintro w' ⟨s0, s1, s2, s3, s4, s5, s6, s7, s8, s9, s10, s11, s12, s13, s14, s15, s16, s17, s18, s19⟩
                go_simp
                with_reducible rfl
              rotate_left
              · simp only [Act.put, zA, zB, zC, i64_w, i32_w]
                rfl
              refine one_ (i := 10) (N := some 45) #[true, true, true, true, true, true, true, true, true, true, true, false] rfl rfl (one_of HT_.out (by kernel_rfl)) (by decide) (fun K hK => ?_)
              refine goes_ Tryd.func14 (by kernel_rfl) rfl #[.agg #[.string ((rd_T38 l0_1 x5_2).f0), .string ((rd_T38 l0_1 x5_2).f1), .string ((rd_T38 l0_1 x5_2).f2), .string ((rd_T38 l0_1 x5_2).f3), .int .i64 ((rd_T38 l0_1 x5_2).f4), .slice A198_5 ((rd_T38 l0_1 x5_2).f5).length c198_5, .int .u64 ((rd_T38 l0_1 x5_2).f6)], .agg #[.string ((rd_T38 l1_1 x5_2).f0), .string ((rd_T38 l1_1 x5_2).f1), .string ((rd_T38 l1_1 x5_2).f2), .string ((rd_T38 l1_1 x5_2).f3), .int .i64 ((rd_T38 l1_1 x5_2).f4), .slice A199_5 ((rd_T38 l1_1 x5_2).f5).length c199_5, .int .u64 ((rd_T38 l1_1 x5_2).f6)]] (by rfl) rfl rfl (by (try simp only [List.map_toArray, List.map_cons, List.map_nil]); first | done | rfl | (simp only [List.length_drop, List.length_take]; rfl) | (simp only [ByteArray.size_extract]; rfl)) ?_
              with_reducible refine (ye6.calls k2 ((rd_T38 l0_1 x5_2).f0) ((rd_T38 l0_1 x5_2).f1) ((rd_T38 l0_1 x5_2).f2) ((rd_T38 l0_1 x5_2).f3) ((rd_T38 l0_1 x5_2).f4) _ _ ((rd_T38 l0_1 x5_2).f5) ((rd_T38 l0_1 x5_2).f6) ((rd_T38 l1_1 x5_2).f0) ((rd_T38 l1_1 x5_2).f1) ((rd_T38 l1_1 x5_2).f2) ((rd_T38 l1_1 x5_2).f3) ((rd_T38 l1_1 x5_2).f4) _ _ ((rd_T38 l1_1 x5_2).f5) ((rd_T38 l1_1 x5_2).f6) false _ ?side1 ?side2 ?side3 ?side4 A22.out).mono ?_
              (case side1 => repeat (first | exact (Kd.yc4 HR198_5.out HB.out) | (with_reducible refine Kd.yd2 ?_ _) | (with_reducible refine Kd.C_drewN ?_ _) | (with_reducible refine Kd.C_drew ?_)))
              (case side2 => exact HC198_5.out)
              (case side3 => repeat (first | exact (Kd.yc4 HR199_5.out HB.out) | (with_reducible refine Kd.yd2 ?_ _) | (with_reducible refine Kd.C_drewN ?_ _) | (with_reducible refine Kd.C_drew ?_)))
              (case side4 => exact HC199_5.out)
              rintro e w31 ⟨rfl, hb⟩
              refine ⟨_, rfl, ?_⟩
              have n0_ := Aside0.mk (yb2 (g := gb195) (o := .cells #[.string a0_0, .slice (some ad198) l0_1.length c0_1, .slice A0_2 l0_2.length c0_2] 27 (0, 0)) (by (with_reducible repeat (first | refine ya5 ?_ _ | refine ya6 ?_ | refine ya4 ?_ _)); exact BK195.out) hb)
              have n1_ := Aside0.mk (yb2 (g := gb196) (o := .cells #[.string a1_0, .slice (some ad199) l1_1.length c1_1, .slice A1_2 l1_2.length c1_2] 27 (0, 0)) (by (with_reducible repeat (first | refine ya5 ?_ _ | refine ya6 ?_ | refine ya4 ?_ _)); exact BK196.out) hb)
              have n2_ := Aside0.mk (yb1 (by repeat (first | (with_reducible first | exact HB.out | apply ya2 | apply ya0 | apply ya1 | refine ya3 ?_ GE195.out | refine ya3 ?_ GE196.out) | exact HB.out)) hb)
              clear BK195
              clear BK196
              clear HB
              have BK195 := n0_
              have BK196 := n1_
              have HB := n2_
              clear n0_ n1_ n2_
              (try clear hb)
              (try clear hb2)
              (try clear hk)
              (try clear hi)
              refine hK.out _ _ ⟨(yb3 BK195.out 0).trans rfl, (yb3 BK195.out 1).trans rfl, (yb3 BK195.out 2).trans rfl, (yb3 BK196.out 0).trans rfl, (yb3 BK196.out 1).trans rfl, (yb3 BK196.out 2).trans rfl, (cup HB.out hw198_0), (cup HB.out hw198_1), (cup HB.out hw198_2), (cup HB.out hw198_3), (cup HB.out hw198_4), (cup HB.out hw198_5), (cup HB.out hw198_6), (cup HB.out hw199_0), (cup HB.out hw199_1), (cup HB.out hw199_2), (cup HB.out hw199_3), (cup HB.out hw199_4), (cup HB.out hw199_5), (cup HB.out hw199_6)⟩ (fun hHeld => ?_)
              clear hK K
              refine norm_ (a' := ?_) ?_ ?_
              rotate_left
              · show Act.put _ (some 45) _ = _
                simp only [Act.put, zA, zB, zC, i64_w, i32_w]
                rfl
              refine pure_ (i := 11) (N := some 46) (v := ?_) (a' := ?_) #[true, true, true, true, true, true, true, true, true, true, true, true] rfl rfl (any_of HT_.out (by kernel_rfl)) (fun _ _ _ h => h) (Or.inl ⟨by rfl, ?_⟩) ?_ ?_
              rotate_left
              · intro w'
                go_simp
                with_reducible rfl
              rotate_left
              · simp only [Act.put, zA, zB, zC, i64_w, i32_w]
                rfl
              refine done_ (yk9 HT_.out (by kernel_rfl)) ?_
              try go_wp2
              go_ret
              exact ⟨by first | rfl | (simp [yb0, ya9] <;> rfl) | (simp [*, yb0, ya9] <;> rfl), by repeat (first | (with_reducible first | exact HB.out | apply ya2 | apply ya0 | apply ya1 | refine ya3 ?_ GE195.out | refine ya3 ?_ GE196.out) | exact HB.out)⟩
          · rw [if_neg c19] at H
            have c19b0 : decide (x5_2 < (l0_1.length : Int)) = false := decide_eq_false c19
            clear c19
            obtain rfl := Option.some.inj H
            have hnb32 := NB195_196.out
            have hnc32 := NB196_195.out
            obtain ⟨hcz33_0, hcz33_1, hcz33_2, hfz33_0, hfz33_1, hfz33_2⟩ := bx3 BK195.out
            go_wp2
            go_ret
            exact ⟨by first | rfl | (simp [yb0, ya9] <;> rfl) | (simp [*, yb0, ya9] <;> rfl), by repeat (first | (with_reducible first | exact HB.out | apply ya2 | apply ya0 | apply ya1 | refine ya3 ?_ GE195.out | refine ya3 ?_ GE196.out) | exact HB.out)⟩

end Go.Proofs.YtidkjifilgjgfaaDoor.PAll
