import Derived.Test.YtidkjifilgjgfaaDoorPAllx0
import Derived.Test.YtidkjifilgjgfaaDoorPAllx4
-- PRINTED by print.py (a twelfth state) out of the translation. Not trusted: Lean checks it.
namespace Go.Proofs.YtidkjifilgjgfaaDoor.PAll
open Go.RowKit Go.Proofs.YtidkjifilgjgfaaDoorW.PrintWords Go.Proofs.YtidkjifilgjgfaaDoorW.PrintLast Go.Proofs.YtidkjifilgjgfaaDoorW.PrintMore
attribute [local go_sem] yg8 yg6 yh9 yh8 yf9 yf8 yg7 yg5   -- for this text's walks alone
set_option linter.unusedVariables false
set_option linter.unusedSimpArgs false

/-! ### yb4: function 5 -/
def yb4.l0 : Nat → Int → Int → ByteArray → List (S38) → List ByteArray → Option (Bool)
  | 0, _, _, _, _, _ => none
  | k + 1, x3, x4, x185000, x185001, x185002 => if x4 < (x185001.length : Int) then (if x4 ≥ 40 then (some false) else (if 0 ≤ x4 then ((yc3.f k ((rd_T38 x185001 x4).f5) 20000).bind fun t188 => (if (wrap64 ((wrap64 ((wrap64 ((wrap64 ((wrap64 (x3 + (mn (((rd_T38 x185001 x4).f0).size : Int) 20000))) + (mn (((rd_T38 x185001 x4).f1).size : Int) 20000))) + (mn (((rd_T38 x185001 x4).f2).size : Int) 20000))) + (mn (((rd_T38 x185001 x4).f3).size : Int) 20000))) + t188)) > 20000 then (some false) else (yb4.l0 k (wrap64 ((wrap64 ((wrap64 ((wrap64 ((wrap64 (x3 + (mn (((rd_T38 x185001 x4).f0).size : Int) 20000))) + (mn (((rd_T38 x185001 x4).f1).size : Int) 20000))) + (mn (((rd_T38 x185001 x4).f2).size : Int) 20000))) + (mn (((rd_T38 x185001 x4).f3).size : Int) 20000))) + t188)) (wrap64 (x4 + 1)) x185000 x185001 x185002))) else (none))) else (some (decide (x3 ≤ 20000)))
def yb4.f (k : Nat) (a0_0 : ByteArray) (l0_1 : List (S38)) (l0_2 : List ByteArray) : Option (Bool) := (yc3.f k l0_2 20000).bind fun t185 => (yb4.l0 k (wrap64 ((mn (a0_0.size : Int) 20000) + t185)) 0 a0_0 l0_1 l0_2)
def yb4.T1 : Bool × List (List Nat × List Nat) := (true, [([], []), ([0], [0]), ([1], [1]), ([2], [2]), ([], []), ([4], [4]), ([5], [5]), ([3, 6], [3, 6]), ([7, 6, 0, 1, 2, 3, 4, 5, 6, 7], [7])])
def yb4.B1 : List Nat := [0, 1, 3, 7, 0, 16, 48, 127, 255]
theorem yb4.tab1 : rtab .any (opsOf Tryd.f5 1) = yb4.T1 := by kernel_rfl
theorem yb4.bits1 : yk2 yb4.T1.2 yb4.B1 = true := by kernel_rfl
def yb4.T8 : Bool × List (List Nat × List Nat) := (true, [([], []), ([], []), ([1], [1]), ([2], [2]), ([3], [3]), ([0, 4], [0, 4]), ([], []), ([6], [6]), ([7], [7]), ([8], [8]), ([5, 9], [5, 9]), ([], []), ([11], [11]), ([12], [12]), ([13], [13]), ([10, 14], [10, 14]), ([], []), ([16], [16]), ([17], [17]), ([18], [18]), ([15, 19], [15, 19]), ([], []), ([21], [21]), ([22], [22]), ([20, 23], [20, 23]), ([24, 23, 0, 1, 2, 3, 4, 5, 6, 7, 8, 9, 10, 11, 12, 13, 14, 15, 16, 17, 18, 19, 20, 21, 22, 23, 24], [0, 24])])
def yb4.B8 : List Nat := [0, 0, 2, 6, 14, 31, 0, 64, 192, 448, 1023, 0, 2048, 6144, 14336, 32767, 0, 65536, 196608, 458752, 1048575, 0, 2097152, 6291456, 16777215, 33554431]
theorem yb4.tab8 : rtab .any (opsOf Tryd.f5 8) = yb4.T8 := by kernel_rfl
theorem yb4.bits8 : yk2 yb4.T8.2 yb4.B8 = true := by kernel_rfl
set_option maxHeartbeats 8000000 in
set_option maxRecDepth 100000 in
theorem yb4.calls (k : Nat) (a0_0 : ByteArray) (A0_1 : Option Addr) (c0_1 : Nat) (l0_1 : List (S38)) (A0_2 : Option Addr) (c0_2 : Nat) (l0_2 : List ByteArray) (r : Bool) (w : World) (hr0_1 : Kd.C k38 w A0_1 l0_1.length l0_1) (hc0_1 : l0_1.length ≤ c0_1) (hr0_2 : Kd.C Kd.string w A0_2 l0_2.length l0_2) (hc0_2 : l0_2.length ≤ c0_2) (h : yb4.f k a0_0 l0_1 l0_2 = some r) :
    Calls Tryd.prog 5 #[.agg #[.string a0_0, .slice A0_1 l0_1.length c0_1, .slice A0_2 l0_2.length c0_2]] w fun e w' => e = .returned (.bool r) ∧ Below w.heap.size w w' := by
  have hu27 := Tryd.underlying27
  have hu38 := Tryd.underlying38
  have HR0_1 := Aside0.mk hr0_1
  have HC0_1 := Aside0.mk hc0_1
  clear hr0_1 hc0_1
  have HR0_2 := Aside0.mk hr0_2
  have HC0_2 := Aside0.mk hc0_2
  clear hr0_2 hc0_2
  have HB := Aside0.mk (Below.refl w.heap.size w)
  have H : ((yc3.f k l0_2 20000).bind fun t185 => (yb4.l0 k (wrap64 ((mn (a0_0.size : Int) 20000) + t185)) 0 a0_0 l0_1 l0_2)) = some r := h
  clear h
  obtain ⟨ji2, hji2⟩ : ∃ j_ : Int, (mn (a0_0.size : Int) 20000) = j_ := ⟨_, rfl⟩
  replace H : ((yc3.f k l0_2 20000).bind fun t185 => (yb4.l0 k (wrap64 ((ji2) + t185)) 0 a0_0 l0_1 l0_2)) = some r := by first | (rw [hji2] at H; exact H) | (simp only [hji2] at H ⊢; exact H)
  (try (have hji2h : ji2 ≤ 20000 := by (rw [← hji2]; unfold mn; (repeat' split) <;> omega)))
  (try (have hji2g : ji2 ≤ 64 := by omega))
  (try (have hji2l : 0 ≤ ji2 := by (rw [← hji2]; unfold mn; (repeat' split) <;> omega)))
  (try (have hji2m : 0 ≤ ji2 := by omega))
  have hji2_ : (if 20000 < (a0_0.size : Int) then 20000 else (a0_0.size : Int)) = ji2 := hji2
  replace H := Option.bind_eq_some_iff.mp H
  obtain ⟨t185, A30, H⟩ := H
  replace H : (yb4.l0 k (wrap64 ((ji2) + t185)) 0 a0_0 l0_1 l0_2) = some r := H
  have A3 := Aside0.mk A30
  clear A30
  have H' := Aside0.mk H
  clear H
  go_enter Tryd.func5, Tryd.ntmps5
  try go_wp2_with (first | ((with_reducible refine yc1 (N := 1) rfl ?_); refine yb9 ?hg (N := 1) ?hd (cs := #[.string a0_0, .slice A0_1 l0_1.length c0_1, .slice A0_2 l0_2.length c0_2]) (t := 27) ?hr ?_; (case hd => rfl); (case hg => rfl); (case hr => first | (go_simp; done) | (go_simp; rfl)); intro gb184 hg w4 hbox hb; have n0_ := Aside0.mk (yb1 (by repeat (first | (with_reducible first | exact HB.out | apply ya2 | apply ya0 | apply ya1) | exact HB.out)) hb); have n1_ := Aside0.mk (hbox); have n2_ := Aside0.mk ((by rw [hg]; exact (ya7 (by repeat (first | (with_reducible first | exact HB.out | apply ya2 | apply ya0 | apply ya1) | exact HB.out))) : w.heap.size ≤ gb184)); have n3_ := Aside0.mk ((by rw [hg]; exact (ya7 (by repeat (first | (with_reducible first | exact HB.out | apply ya2 | apply ya0 | apply ya1) | exact HB.out))) : w.heap.size ≤ gb184)); clear HB; have HB := n0_; have BK184 := n1_; have GW184 := n2_; have GE184 := n3_; clear n0_ n1_ n2_ n3_; clear hb hbox hg))
  have n0_ := Aside0.mk (ya6 BK184.out)
  have n1_ := Aside0.mk (ya1 HB.out)
  clear BK184
  clear HB
  have BK184 := n0_
  have HB := n1_
  clear n0_ n1_
  refine start_ (n := 9) (S := fun w' => w'.cell? ⟨gb184, 0, none⟩ = some (.string a0_0) ∧ w'.cell? ⟨gb184, 1, none⟩ = some (.slice A0_1 l0_1.length c0_1) ∧ w'.cell? ⟨gb184, 2, none⟩ = some (.slice A0_2 l0_2.length c0_2)) (ds := []) #[false, false, false, false, false, false, false, false, false] (by kernel_rfl) rfl rfl ⟨(yb3 BK184.out 0).trans rfl, (yb3 BK184.out 1).trans rfl, (yb3 BK184.out 2).trans rfl⟩ (fun hHeld => ?_); refine yi5 yb4.tab1 yb4.bits1 (fun HT_ HW_ => ?_)
  generalize w4.drew = w5 at BK184 HB hHeld ⊢
  refine pure_ (i := 0) (N := some 6) (v := ?_) (a' := ?_) #[true, false, false, false, false, false, false, false, false] rfl rfl (any_of HT_.out (by kernel_rfl)) (fun _ _ _ h => h) (Or.inl ⟨by rfl, ?_⟩) ?_ ?_
  rotate_left
  · intro w'
    go_simp
    with_reducible rfl
  rotate_left
  · simp only [Act.put, zA, zB, zC, i64_w, i32_w]
    rfl
  refine pure_ (i := 4) (N := some 10) (v := ?_) (a' := ?_) #[true, false, false, false, true, false, false, false, false] rfl rfl (any_of HT_.out (by kernel_rfl)) (fun _ _ _ h => h) (Or.inl ⟨by rfl, ?_⟩) ?_ ?_
  rotate_left
  · intro w'
    go_simp
    with_reducible rfl
  rotate_left
  · simp only [Act.put, zA, zB, zC, i64_w, i32_w]
    rfl
  refine take_ (i := 1) (N := some 7) (v := ?_) (a' := ?_) #[true, true, false, false, true, false, false, false, false] rfl rfl (ye1 HT_.out HW_.out (by kernel_rfl)) (fun _ _ _ h => h) (Or.inl ⟨by rfl, ?_⟩) hHeld ?_ ?_
  rotate_left
  · rintro w' ⟨s0, s1, s2⟩
    go_simp
    with_reducible rfl
  rotate_left
  · simp only [Act.put, zA, zB, zC, i64_w, i32_w]
    rfl
  refine pure_ (i := 2) (N := some 8) (v := ?_) (a' := ?_) #[true, true, true, false, true, false, false, false, false] rfl rfl (any_of HT_.out (by kernel_rfl)) (fun _ _ _ h => h) (Or.inl ⟨by rfl, ?_⟩) ?_ ?_
  rotate_left
  · intro w'
    go_simp
    with_reducible rfl
  rotate_left
  · simp only [Act.put, zA, zB, zC, i64_w, i32_w]
    rfl
  refine pure_ (i := 3) (N := some 9) (v := ?_) (a' := ?_) #[true, true, true, true, true, false, false, false, false] rfl rfl (any_of HT_.out (by kernel_rfl)) (fun _ _ _ h => h) (Or.inl ⟨by rfl, ?_⟩) ?_ ?_
  rotate_left
  · intro w'
    go_simp
    with_reducible rfl
  rotate_left
  · simp only [Act.put, zA, zB, zC, i64_w, i32_w]
    rfl
  refine take_ (i := 5) (N := some 11) (v := ?_) (a' := ?_) #[true, true, true, true, true, true, false, false, false] rfl rfl (ye1 HT_.out HW_.out (by kernel_rfl)) (fun _ _ _ h => h) (Or.inl ⟨by rfl, ?_⟩) hHeld ?_ ?_
  rotate_left
  · rintro w' ⟨s0, s1, s2⟩
    go_simp
    with_reducible rfl
  rotate_left
  · simp only [Act.put, zA, zB, zC, i64_w, i32_w]
    rfl
  refine one_ (i := 6) (N := some 12) #[true, true, true, true, true, true, true, false, false] rfl rfl (one_of HT_.out (by kernel_rfl)) (by decide) (fun K hK => ?_)
  refine goes_ Tryd.func11 (by kernel_rfl) rfl #[.slice A0_2 l0_2.length c0_2, .int .i64 20000] (by rfl) rfl rfl (by (try simp only [List.map_toArray, List.map_cons, List.map_nil]); first | done | rfl | (simp only [List.length_drop, List.length_take]; rfl) | (simp only [ByteArray.size_extract]; rfl)) ?_
  with_reducible refine (yc3.calls k _ _ l0_2 20000 t185 _ ?side1 ?side2 A3.out).mono ?_
  (case side1 => repeat (first | exact (Kd.yc4 HR0_2.out HB.out) | (with_reducible refine Kd.yd2 ?_ _) | (with_reducible refine Kd.C_drewN ?_ _) | (with_reducible refine Kd.C_drew ?_)))
  (case side2 => exact HC0_2.out)
  rintro e w6 ⟨rfl, hb⟩
  refine ⟨_, rfl, ?_⟩
  have n0_ := Aside0.mk (yb2 (g := gb184) (o := .cells #[.string a0_0, .slice A0_1 l0_1.length c0_1, .slice A0_2 l0_2.length c0_2] 27 (0, 0)) (by (with_reducible repeat (first | refine ya5 ?_ _ | refine ya6 ?_ | refine ya4 ?_ _)); exact BK184.out) hb)
  have n1_ := Aside0.mk (yb1 (by repeat (first | (with_reducible first | exact HB.out | apply ya2 | apply ya0 | apply ya1 | refine ya3 ?_ GE184.out) | exact HB.out)) hb)
  clear BK184
  clear HB
  have BK184 := n0_
  have HB := n1_
  clear n0_ n1_
  (try clear hb)
  (try clear hb2)
  (try clear hk)
  (try clear hi)
  refine hK.out _ _ ⟨(yb3 BK184.out 0).trans rfl, (yb3 BK184.out 1).trans rfl, (yb3 BK184.out 2).trans rfl⟩ (fun hHeld => ?_)
  clear hK K
  refine norm_ (a' := ?_) ?_ ?_
  rotate_left
  · show Act.put _ (some 12) _ = _
    simp only [Act.put, zA, zB, zC, i64_w, i32_w]
    rfl
  refine pure_ (i := 7) (N := some 13) (v := ?_) (a' := ?_) #[true, true, true, true, true, true, true, true, false] rfl rfl (any_of HT_.out (by kernel_rfl)) (fun _ _ _ h => h) (Or.inl ⟨by rfl, ?_⟩) ?_ ?_
  rotate_left
  · intro w'
    go_simp
    with_reducible rfl
  rotate_left
  · simp only [Act.put, zA, zB, zC, i64_w, i32_w]
    rfl
  refine pure_ (i := 8) (N := some 3) (v := ?_) (a' := ?_) #[true, true, true, true, true, true, true, true, true] rfl rfl (any_of HT_.out (by kernel_rfl)) (fun _ _ _ h => h) (Or.inl ⟨by rfl, ?_⟩) ?_ ?_
  rotate_left
  · intro w'
    go_simp
    with_reducible rfl
  rotate_left
  · simp only [Act.put, zA, zB, zC, i64_w, i32_w]
    rfl
  refine done_ (yk9 HT_.out (by kernel_rfl)) ?_
  try go_wp2
  go_loopg [3, 4] k (fun kq v3 v4 w' => ∃ (x3_1 : Int) (x4_1 : Int), v3 = .int .i64 x3_1 ∧ v4 = .int .i64 x4_1 ∧ Aside0 (yb4.l0 kq x3_1 x4_1 a0_0 l0_1 l0_2 = some r) ∧ Aside0 (kq ≤ k) ∧ Aside0 (w'.heap[gb184]? = some (.cells #[.string a0_0, (.slice A0_1 l0_1.length c0_1), (.slice A0_2 l0_2.length c0_2)] 27 (0, 0))) ∧ Aside0 (Below w.heap.size w w'))
  case atStart => exact ⟨(wrap64 ((ji2) + t185)), (0), (by first | rfl | (simp; done) | (simp only [← hji2] <;> (first | rfl | simp)) | (simp [*]; done)), (by first | rfl | (simp; done) | (simp [*]; done)), H', ⟨Nat.le_refl _⟩, ⟨by (with_reducible repeat (first | refine ya5 ?_ _ | refine ya6 ?_ | refine ya4 ?_ _)); exact BK184.out⟩, ⟨by repeat (first | (with_reducible first | exact HB.out | apply ya2 | apply ya0 | apply ya1 | refine ya3 ?_ GE184.out) | exact HB.out)⟩⟩
  case round =>
    clear H'
    try clear c1
    try clear p2
    try clear c5
    try clear p6
    obtain ⟨x3_1, x4_1, rfl, rfl, HA, HK1, BK184, HB⟩ := hrel
    cases gk with
    | zero => exact absurd HA.out (by simp [yb4.l0])
    | succ k1 =>
      have H := HA.out
      clear HA
      simp only [yb4.l0] at H
      by_cases c7 : x4_1 < (l0_1.length : Int)
      rotate_left 1
      · rw [if_neg c7] at H
        have c7b0 : decide (x4_1 < (l0_1.length : Int)) = false := decide_eq_false c7
        clear c7
        obtain rfl := Option.some.inj H
        obtain ⟨hcz31_0, hcz31_1, hcz31_2, hfz31_0, hfz31_1, hfz31_2⟩ := bx3 BK184.out
        go_wp2
        go_ret
        exact ⟨by first | rfl | (simp [yb0, ya9] <;> rfl) | (simp only [← hji2]; first | rfl | (simp [yb0, ya9] <;> rfl)) | (simp [*, yb0, ya9] <;> rfl), by repeat (first | (with_reducible first | exact HB.out | apply ya2 | apply ya0 | apply ya1 | refine ya3 ?_ GE184.out) | exact HB.out)⟩

      rw [if_pos c7] at H
      have c7b0 : decide (x4_1 < (l0_1.length : Int)) = true := decide_eq_true c7
      clear c7
      by_cases c8 : x4_1 ≥ 40
      · rw [if_pos c8] at H
        have c8b0 : decide (40 ≤ x4_1) = true := decide_eq_true c8
        clear c8
        obtain rfl := Option.some.inj H
        obtain ⟨hcz9_0, hcz9_1, hcz9_2, hfz9_0, hfz9_1, hfz9_2⟩ := bx3 BK184.out
        go_wp2
        go_ret
        exact ⟨by first | rfl | (simp [yb0, ya9] <;> rfl) | (simp only [← hji2]; first | rfl | (simp [yb0, ya9] <;> rfl)) | (simp [*, yb0, ya9] <;> rfl), by repeat (first | (with_reducible first | exact HB.out | apply ya2 | apply ya0 | apply ya1 | refine ya3 ?_ GE184.out) | exact HB.out)⟩
      rw [if_neg c8] at H
      have c8b0 : decide (40 ≤ x4_1) = false := decide_eq_false c8
      clear c8
      by_cases c10 : 0 ≤ x4_1
      rotate_left 1
      · rw [if_neg c10] at H
        exact absurd H (by simp)
      rw [if_pos c10] at H
      have c10b0 : decide (0 ≤ x4_1) = true := decide_eq_true c10
      clear c10
      obtain ⟨ji11, hji11⟩ : ∃ j_ : Int, (mn (((rd_T38 l0_1 x4_1).f0).size : Int) 20000) = j_ := ⟨_, rfl⟩
      replace H : ((yc3.f k1 ((rd_T38 l0_1 x4_1).f5) 20000).bind fun t188 => (if (wrap64 ((wrap64 ((wrap64 ((wrap64 ((wrap64 (x3_1 + (ji11))) + (mn (((rd_T38 l0_1 x4_1).f1).size : Int) 20000))) + (mn (((rd_T38 l0_1 x4_1).f2).size : Int) 20000))) + (mn (((rd_T38 l0_1 x4_1).f3).size : Int) 20000))) + t188)) > 20000 then (some false) else (yb4.l0 k1 (wrap64 ((wrap64 ((wrap64 ((wrap64 ((wrap64 (x3_1 + (ji11))) + (mn (((rd_T38 l0_1 x4_1).f1).size : Int) 20000))) + (mn (((rd_T38 l0_1 x4_1).f2).size : Int) 20000))) + (mn (((rd_T38 l0_1 x4_1).f3).size : Int) 20000))) + t188)) (wrap64 (x4_1 + 1)) a0_0 l0_1 l0_2))) = some r := by first | (rw [hji11] at H; exact H) | (simp only [hji11] at H ⊢; exact H)
      have hji11_ : (if 20000 < (((rd_T38 l0_1 x4_1).f0).size : Int) then 20000 else (((rd_T38 l0_1 x4_1).f0).size : Int)) = ji11 := hji11
      obtain ⟨ji12, hji12⟩ : ∃ j_ : Int, (mn (((rd_T38 l0_1 x4_1).f1).size : Int) 20000) = j_ := ⟨_, rfl⟩
      replace H : ((yc3.f k1 ((rd_T38 l0_1 x4_1).f5) 20000).bind fun t188 => (if (wrap64 ((wrap64 ((wrap64 ((wrap64 ((wrap64 (x3_1 + (ji11))) + (ji12))) + (mn (((rd_T38 l0_1 x4_1).f2).size : Int) 20000))) + (mn (((rd_T38 l0_1 x4_1).f3).size : Int) 20000))) + t188)) > 20000 then (some false) else (yb4.l0 k1 (wrap64 ((wrap64 ((wrap64 ((wrap64 ((wrap64 (x3_1 + (ji11))) + (ji12))) + (mn (((rd_T38 l0_1 x4_1).f2).size : Int) 20000))) + (mn (((rd_T38 l0_1 x4_1).f3).size : Int) 20000))) + t188)) (wrap64 (x4_1 + 1)) a0_0 l0_1 l0_2))) = some r := by first | (rw [hji12] at H; exact H) | (simp only [hji12] at H ⊢; exact H)
      have hji12_ : (if 20000 < (((rd_T38 l0_1 x4_1).f1).size : Int) then 20000 else (((rd_T38 l0_1 x4_1).f1).size : Int)) = ji12 := hji12
      obtain ⟨ji13, hji13⟩ : ∃ j_ : Int, (mn (((rd_T38 l0_1 x4_1).f2).size : Int) 20000) = j_ := ⟨_, rfl⟩
      replace H : ((yc3.f k1 ((rd_T38 l0_1 x4_1).f5) 20000).bind fun t188 => (if (wrap64 ((wrap64 ((wrap64 ((wrap64 ((wrap64 (x3_1 + (ji11))) + (ji12))) + (ji13))) + (mn (((rd_T38 l0_1 x4_1).f3).size : Int) 20000))) + t188)) > 20000 then (some false) else (yb4.l0 k1 (wrap64 ((wrap64 ((wrap64 ((wrap64 ((wrap64 (x3_1 + (ji11))) + (ji12))) + (ji13))) + (mn (((rd_T38 l0_1 x4_1).f3).size : Int) 20000))) + t188)) (wrap64 (x4_1 + 1)) a0_0 l0_1 l0_2))) = some r := by first | (rw [hji13] at H; exact H) | (simp only [hji13] at H ⊢; exact H)
      have hji13_ : (if 20000 < (((rd_T38 l0_1 x4_1).f2).size : Int) then 20000 else (((rd_T38 l0_1 x4_1).f2).size : Int)) = ji13 := hji13
      obtain ⟨ji14, hji14⟩ : ∃ j_ : Int, (mn (((rd_T38 l0_1 x4_1).f3).size : Int) 20000) = j_ := ⟨_, rfl⟩
      replace H : ((yc3.f k1 ((rd_T38 l0_1 x4_1).f5) 20000).bind fun t188 => (if (wrap64 ((wrap64 ((wrap64 ((wrap64 ((wrap64 (x3_1 + (ji11))) + (ji12))) + (ji13))) + (ji14))) + t188)) > 20000 then (some false) else (yb4.l0 k1 (wrap64 ((wrap64 ((wrap64 ((wrap64 ((wrap64 (x3_1 + (ji11))) + (ji12))) + (ji13))) + (ji14))) + t188)) (wrap64 (x4_1 + 1)) a0_0 l0_1 l0_2))) = some r := by first | (rw [hji14] at H; exact H) | (simp only [hji14] at H ⊢; exact H)
      have hji14_ : (if 20000 < (((rd_T38 l0_1 x4_1).f3).size : Int) then 20000 else (((rd_T38 l0_1 x4_1).f3).size : Int)) = ji14 := hji14
      replace H := Option.bind_eq_some_iff.mp H
      obtain ⟨t188, A150, H⟩ := H
      replace H : (if (wrap64 ((wrap64 ((wrap64 ((wrap64 ((wrap64 (x3_1 + (ji11))) + (ji12))) + (ji13))) + (ji14))) + t188)) > 20000 then (some false) else (yb4.l0 k1 (wrap64 ((wrap64 ((wrap64 ((wrap64 ((wrap64 (x3_1 + (ji11))) + (ji12))) + (ji13))) + (ji14))) + t188)) (wrap64 (x4_1 + 1)) a0_0 l0_1 l0_2)) = some r := H
      have A15 := Aside0.mk A150
      clear A150
      by_cases c16 : (wrap64 ((wrap64 ((wrap64 ((wrap64 ((wrap64 (x3_1 + (ji11))) + (ji12))) + (ji13))) + (ji14))) + t188)) > 20000
      · rw [if_pos c16] at H
        have c16b0 : decide (20000 < (wrap64 ((wrap64 ((wrap64 ((wrap64 ((wrap64 (x3_1 + (ji11))) + (ji12))) + (ji13))) + (ji14))) + t188))) = true := decide_eq_true c16
        clear c16
        obtain rfl := Option.some.inj H
        obtain ⟨hcz17_0, hcz17_1, hcz17_2, hfz17_0, hfz17_1, hfz17_2⟩ := bx3 BK184.out
        have p186 : 0 ≤ (x4_1 : Int) := of_decide_eq_true (by first | (with_reducible assumption) | assumption)
        have q186 : x4_1 < (l0_1.length : Int) := of_decide_eq_true (by first | (with_reducible assumption) | assumption)
        obtain ⟨ad186, A186_5, c186_5, e186, hx186_0, hx186_1, hx186_2, hx186_3, hx186_4, hx186_5, hx186_6, hl186_5, hi186_5⟩ := at_T38 HR0_1.out x4_1 p186 q186
        cases e186
        replace hx186_0 := cup HB.out hx186_0
        replace hx186_1 := cup HB.out hx186_1
        replace hx186_2 := cup HB.out hx186_2
        replace hx186_3 := cup HB.out hx186_3
        replace hx186_4 := cup HB.out hx186_4
        replace hx186_5 := cup HB.out hx186_5
        replace hx186_6 := cup HB.out hx186_6
        have HR186_5 := Aside0.mk hi186_5
        have HC186_5 := Aside0.mk hl186_5
        clear hi186_5 hl186_5
        replace p186 := eq_true p186
        replace q186 := eq_true q186
        try go_wp2_with (first | ((with_reducible refine yc1 (N := 5) rfl ?_); refine yb9 ?hg (N := 5) ?hd (cs := #[.string (⟨#[]⟩ : ByteArray), .string (⟨#[]⟩ : ByteArray), .string (⟨#[]⟩ : ByteArray), .string (⟨#[]⟩ : ByteArray), .int .i64 0, .slice none 0 0, .int .u64 0]) (t := 38) ?hr ?_; (case hd => rfl); (case hg => rfl); (case hr => first | (go_simp; done) | (go_simp; rfl)); intro gb187 hg w18 hbox hb; have n0_ := Aside0.mk (yb2 (g := gb184) (o := .cells #[.string a0_0, .slice (some ad186) l0_1.length c0_1, .slice A0_2 l0_2.length c0_2] 27 (0, 0)) (by (with_reducible repeat (first | refine ya5 ?_ _ | refine ya6 ?_ | refine ya4 ?_ _)); exact BK184.out) hb); have n1_ := Aside0.mk (yb1 (by repeat (first | (with_reducible first | exact HB.out | apply ya2 | apply ya0 | apply ya1 | refine ya3 ?_ GE184.out) | exact HB.out)) hb); have n2_ := Aside0.mk (hbox); have n3_ := Aside0.mk ((by rw [hg]; exact (ya7 (by repeat (first | (with_reducible first | exact HB.out | apply ya2 | apply ya0 | apply ya1 | refine ya3 ?_ GE184.out) | exact HB.out))) : w.heap.size ≤ gb187)); have n4_ := Aside0.mk ((by rw [hg]; exact (ya7 (by repeat (first | (with_reducible first | exact HB.out | apply ya2 | apply ya0 | apply ya1 | refine ya3 ?_ GE184.out) | exact HB.out))) : w.heap.size ≤ gb187)); have n5_ := Aside0.mk ((by rw [hg]; exact Nat.ne_of_lt (blk_lt (g := gb184) (o := .cells #[.string a0_0, .slice (some ad186) l0_1.length c0_1, .slice A0_2 l0_2.length c0_2] 27 (0, 0)) (by (with_reducible repeat (first | refine ya5 ?_ _ | refine ya6 ?_ | refine ya4 ?_ _)); exact BK184.out)) : gb184 ≠ gb187)); have n6_ := Aside0.mk ((by rw [hg]; exact Nat.ne_of_gt (blk_lt (g := gb184) (o := .cells #[.string a0_0, .slice (some ad186) l0_1.length c0_1, .slice A0_2 l0_2.length c0_2] 27 (0, 0)) (by (with_reducible repeat (first | refine ya5 ?_ _ | refine ya6 ?_ | refine ya4 ?_ _)); exact BK184.out)) : gb187 ≠ gb184)); clear BK184; clear HB; have BK184 := n0_; have HB := n1_; have BK187 := n2_; have GW187 := n3_; have GE187 := n4_; have NB184_187 := n5_; have NB187_184 := n6_; clear n0_ n1_ n2_ n3_ n4_ n5_ n6_; clear hb hbox hg; have hnb19 := NB187_184.out; have hnc19 := NB184_187.out; obtain ⟨hcz20_0, hcz20_1, hcz20_2, hcz20_3, hcz20_4, hcz20_5, hcz20_6, hfz20_0, hfz20_1, hfz20_2, hfz20_3, hfz20_4, hfz20_5, hfz20_6⟩ := bx7 BK187.out))
        have n0_ : Aside0 ((((((((w18.setCell ⟨gb187, 0, none⟩ (.string ((rd_T38 l0_1 x4_1).f0))).setCell ⟨gb187, 1, none⟩ (.string ((rd_T38 l0_1 x4_1).f1))).setCell ⟨gb187, 2, none⟩ (.string ((rd_T38 l0_1 x4_1).f2))).setCell ⟨gb187, 3, none⟩ (.string ((rd_T38 l0_1 x4_1).f3))).setCell ⟨gb187, 4, none⟩ (.int .i64 ((rd_T38 l0_1 x4_1).f4))).setCell ⟨gb187, 5, none⟩ (.slice A186_5 ((rd_T38 l0_1 x4_1).f5).length c186_5)).setCell ⟨gb187, 6, none⟩ (.int .u64 ((rd_T38 l0_1 x4_1).f6))).heap[gb184]? = some (.cells #[.string a0_0, .slice (some ad186) l0_1.length c0_1, .slice A0_2 l0_2.length c0_2] 27 (0, 0))) := ⟨by (repeat (first | (with_reducible first | refine ya5 ?_ _ | refine ya6 ?_ | refine ya4 ?_ _) | refine ye7 ?_ NB184_187.out _)); exact BK184.out⟩
        have n1_ : Aside0 ((((((((w18.setCell ⟨gb187, 0, none⟩ (.string ((rd_T38 l0_1 x4_1).f0))).setCell ⟨gb187, 1, none⟩ (.string ((rd_T38 l0_1 x4_1).f1))).setCell ⟨gb187, 2, none⟩ (.string ((rd_T38 l0_1 x4_1).f2))).setCell ⟨gb187, 3, none⟩ (.string ((rd_T38 l0_1 x4_1).f3))).setCell ⟨gb187, 4, none⟩ (.int .i64 ((rd_T38 l0_1 x4_1).f4))).setCell ⟨gb187, 5, none⟩ (.slice A186_5 ((rd_T38 l0_1 x4_1).f5).length c186_5)).setCell ⟨gb187, 6, none⟩ (.int .u64 ((rd_T38 l0_1 x4_1).f6))).heap[gb187]? = some (.cells #[.string ((rd_T38 l0_1 x4_1).f0), .string ((rd_T38 l0_1 x4_1).f1), .string ((rd_T38 l0_1 x4_1).f2), .string ((rd_T38 l0_1 x4_1).f3), .int .i64 ((rd_T38 l0_1 x4_1).f4), .slice A186_5 ((rd_T38 l0_1 x4_1).f5).length c186_5, .int .u64 ((rd_T38 l0_1 x4_1).f6)] 38 (0, 0))) := ⟨by (with_reducible repeat (first | refine ya5 ?_ _ | refine ya6 ?_ | refine ya4 ?_ _)); refine yc7 (cs := #[.string ((rd_T38 l0_1 x4_1).f0), .string ((rd_T38 l0_1 x4_1).f1), .string ((rd_T38 l0_1 x4_1).f2), .string ((rd_T38 l0_1 x4_1).f3), .int .i64 ((rd_T38 l0_1 x4_1).f4), .slice A186_5 ((rd_T38 l0_1 x4_1).f5).length c186_5, .int .u64 0]) ?_ 6 _ rfl; (with_reducible repeat (first | refine ya5 ?_ _ | refine ya6 ?_ | refine ya4 ?_ _)); refine yc7 (cs := #[.string ((rd_T38 l0_1 x4_1).f0), .string ((rd_T38 l0_1 x4_1).f1), .string ((rd_T38 l0_1 x4_1).f2), .string ((rd_T38 l0_1 x4_1).f3), .int .i64 ((rd_T38 l0_1 x4_1).f4), .slice none 0 0, .int .u64 0]) ?_ 5 _ rfl; (with_reducible repeat (first | refine ya5 ?_ _ | refine ya6 ?_ | refine ya4 ?_ _)); refine yc7 (cs := #[.string ((rd_T38 l0_1 x4_1).f0), .string ((rd_T38 l0_1 x4_1).f1), .string ((rd_T38 l0_1 x4_1).f2), .string ((rd_T38 l0_1 x4_1).f3), .int .i64 0, .slice none 0 0, .int .u64 0]) ?_ 4 _ rfl; (with_reducible repeat (first | refine ya5 ?_ _ | refine ya6 ?_ | refine ya4 ?_ _)); refine yc7 (cs := #[.string ((rd_T38 l0_1 x4_1).f0), .string ((rd_T38 l0_1 x4_1).f1), .string ((rd_T38 l0_1 x4_1).f2), .string (⟨#[]⟩ : ByteArray), .int .i64 0, .slice none 0 0, .int .u64 0]) ?_ 3 _ rfl; (with_reducible repeat (first | refine ya5 ?_ _ | refine ya6 ?_ | refine ya4 ?_ _)); refine yc7 (cs := #[.string ((rd_T38 l0_1 x4_1).f0), .string ((rd_T38 l0_1 x4_1).f1), .string (⟨#[]⟩ : ByteArray), .string (⟨#[]⟩ : ByteArray), .int .i64 0, .slice none 0 0, .int .u64 0]) ?_ 2 _ rfl; (with_reducible repeat (first | refine ya5 ?_ _ | refine ya6 ?_ | refine ya4 ?_ _)); refine yc7 (cs := #[.string ((rd_T38 l0_1 x4_1).f0), .string (⟨#[]⟩ : ByteArray), .string (⟨#[]⟩ : ByteArray), .string (⟨#[]⟩ : ByteArray), .int .i64 0, .slice none 0 0, .int .u64 0]) ?_ 1 _ rfl; (with_reducible repeat (first | refine ya5 ?_ _ | refine ya6 ?_ | refine ya4 ?_ _)); refine yc7 (cs := #[.string (⟨#[]⟩ : ByteArray), .string (⟨#[]⟩ : ByteArray), .string (⟨#[]⟩ : ByteArray), .string (⟨#[]⟩ : ByteArray), .int .i64 0, .slice none 0 0, .int .u64 0]) ?_ 0 _ rfl; (with_reducible repeat (first | refine ya5 ?_ _ | refine ya6 ?_ | refine ya4 ?_ _)); exact BK187.out⟩
        have n2_ : Aside0 (Below w.heap.size w (((((((w18.setCell ⟨gb187, 0, none⟩ (.string ((rd_T38 l0_1 x4_1).f0))).setCell ⟨gb187, 1, none⟩ (.string ((rd_T38 l0_1 x4_1).f1))).setCell ⟨gb187, 2, none⟩ (.string ((rd_T38 l0_1 x4_1).f2))).setCell ⟨gb187, 3, none⟩ (.string ((rd_T38 l0_1 x4_1).f3))).setCell ⟨gb187, 4, none⟩ (.int .i64 ((rd_T38 l0_1 x4_1).f4))).setCell ⟨gb187, 5, none⟩ (.slice A186_5 ((rd_T38 l0_1 x4_1).f5).length c186_5)).setCell ⟨gb187, 6, none⟩ (.int .u64 ((rd_T38 l0_1 x4_1).f6)))) := ⟨by repeat (first | (with_reducible first | exact HB.out | apply ya2 | apply ya0 | apply ya1 | refine ya3 ?_ GE184.out | refine ya3 ?_ GE187.out) | exact HB.out)⟩
        (try clear BK184)
        (try clear BK187)
        (try clear HB)
        generalize (((((((w18.setCell ⟨gb187, 0, none⟩ (.string ((rd_T38 l0_1 x4_1).f0))).setCell ⟨gb187, 1, none⟩ (.string ((rd_T38 l0_1 x4_1).f1))).setCell ⟨gb187, 2, none⟩ (.string ((rd_T38 l0_1 x4_1).f2))).setCell ⟨gb187, 3, none⟩ (.string ((rd_T38 l0_1 x4_1).f3))).setCell ⟨gb187, 4, none⟩ (.int .i64 ((rd_T38 l0_1 x4_1).f4))).setCell ⟨gb187, 5, none⟩ (.slice A186_5 ((rd_T38 l0_1 x4_1).f5).length c186_5)).setCell ⟨gb187, 6, none⟩ (.int .u64 ((rd_T38 l0_1 x4_1).f6))) = w21 at n0_ n1_ n2_ ⊢
        have BK184 := n0_
        have BK187 := n1_
        have HB := n2_
        clear n0_ n1_ n2_
        have n0_ := Aside0.mk (ya6 BK184.out)
        have n1_ := Aside0.mk (ya6 BK187.out)
        have n2_ := Aside0.mk (ya1 HB.out)
        clear BK184
        clear BK187
        clear HB
        have BK184 := n0_
        have BK187 := n1_
        have HB := n2_
        clear n0_ n1_ n2_
        refine start_ (n := 26) (S := fun w' => w'.cell? ⟨gb187, 0, none⟩ = some (.string ((rd_T38 l0_1 x4_1).f0)) ∧ w'.cell? ⟨gb187, 1, none⟩ = some (.string ((rd_T38 l0_1 x4_1).f1)) ∧ w'.cell? ⟨gb187, 2, none⟩ = some (.string ((rd_T38 l0_1 x4_1).f2)) ∧ w'.cell? ⟨gb187, 3, none⟩ = some (.string ((rd_T38 l0_1 x4_1).f3)) ∧ w'.cell? ⟨gb187, 4, none⟩ = some (.int .i64 ((rd_T38 l0_1 x4_1).f4)) ∧ w'.cell? ⟨gb187, 5, none⟩ = some (.slice A186_5 ((rd_T38 l0_1 x4_1).f5).length c186_5) ∧ w'.cell? ⟨gb187, 6, none⟩ = some (.int .u64 ((rd_T38 l0_1 x4_1).f6))) (ds := []) #[false, false, false, false, false, false, false, false, false, false, false, false, false, false, false, false, false, false, false, false, false, false, false, false, false, false] (by kernel_rfl) rfl rfl ⟨(yb3 BK187.out 0).trans rfl, (yb3 BK187.out 1).trans rfl, (yb3 BK187.out 2).trans rfl, (yb3 BK187.out 3).trans rfl, (yb3 BK187.out 4).trans rfl, (yb3 BK187.out 5).trans rfl, (yb3 BK187.out 6).trans rfl⟩ (fun hHeld => ?_); refine yi5 yb4.tab8 yb4.bits8 (fun HT_ HW_ => ?_)
        generalize w21.drew = w22 at BK184 BK187 HB hHeld ⊢
        refine pure_ (i := 0) (N := some 28) (v := ?_) (a' := ?_) #[true, false, false, false, false, false, false, false, false, false, false, false, false, false, false, false, false, false, false, false, false, false, false, false, false, false] rfl rfl (any_of HT_.out (by kernel_rfl)) (fun _ _ _ h => h) (Or.inl ⟨by rfl, ?_⟩) ?_ ?_
        rotate_left
        · intro w'
          go_simp
          with_reducible rfl
        rotate_left
        · simp only [Act.put, zA, zB, zC, i64_w, i32_w]
          rfl
        refine pure_ (i := 1) (N := some 29) (v := ?_) (a' := ?_) #[true, true, false, false, false, false, false, false, false, false, false, false, false, false, false, false, false, false, false, false, false, false, false, false, false, false] rfl rfl (any_of HT_.out (by kernel_rfl)) (fun _ _ _ h => h) (Or.inl ⟨by rfl, ?_⟩) ?_ ?_
        rotate_left
        · intro w'
          go_simp
          with_reducible rfl
        rotate_left
        · simp only [Act.put, zA, zB, zC, i64_w, i32_w]
          rfl
        refine pure_ (i := 6) (N := some 34) (v := ?_) (a' := ?_) #[true, true, false, false, false, false, true, false, false, false, false, false, false, false, false, false, false, false, false, false, false, false, false, false, false, false] rfl rfl (any_of HT_.out (by kernel_rfl)) (fun _ _ _ h => h) (Or.inl ⟨by rfl, ?_⟩) ?_ ?_
        rotate_left
        · intro w'
          go_simp
          with_reducible rfl
        rotate_left
        · simp only [Act.put, zA, zB, zC, i64_w, i32_w]
          rfl
        refine pure_ (i := 11) (N := some 39) (v := ?_) (a' := ?_) #[true, true, false, false, false, false, true, false, false, false, false, true, false, false, false, false, false, false, false, false, false, false, false, false, false, false] rfl rfl (any_of HT_.out (by kernel_rfl)) (fun _ _ _ h => h) (Or.inl ⟨by rfl, ?_⟩) ?_ ?_
        rotate_left
        · intro w'
          go_simp
          with_reducible rfl
        rotate_left
        · simp only [Act.put, zA, zB, zC, i64_w, i32_w]
          rfl
        refine pure_ (i := 16) (N := some 44) (v := ?_) (a' := ?_) #[true, true, false, false, false, false, true, false, false, false, false, true, false, false, false, false, true, false, false, false, false, false, false, false, false, false] rfl rfl (any_of HT_.out (by kernel_rfl)) (fun _ _ _ h => h) (Or.inl ⟨by rfl, ?_⟩) ?_ ?_
        rotate_left
        · intro w'
          go_simp
          with_reducible rfl
        rotate_left
        · simp only [Act.put, zA, zB, zC, i64_w, i32_w]
          rfl
        refine pure_ (i := 21) (N := some 49) (v := ?_) (a' := ?_) #[true, true, false, false, false, false, true, false, false, false, false, true, false, false, false, false, true, false, false, false, false, true, false, false, false, false] rfl rfl (any_of HT_.out (by kernel_rfl)) (fun _ _ _ h => h) (Or.inl ⟨by rfl, ?_⟩) ?_ ?_
        rotate_left
        · intro w'
          go_simp
          with_reducible rfl
        rotate_left
        · simp only [Act.put, zA, zB, zC, i64_w, i32_w]
          rfl
        refine take_ (i := 2) (N := some 30) (v := ?_) (a' := ?_) #[true, true, true, false, false, false, true, false, false, false, false, true, false, false, false, false, true, false, false, false, false, true, false, false, false, false] rfl rfl (ye1 HT_.out HW_.out (by kernel_rfl)) (fun _ _ _ h => h) (Or.inl ⟨by rfl, ?_⟩) hHeld ?_ ?_
        rotate_left
        · rintro w' ⟨s0, s1, s2, s3, s4, s5, s6⟩
          go_simp
          with_reducible rfl
        rotate_left
        · simp only [Act.put, zA, zB, zC, i64_w, i32_w]
          rfl
        refine pure_ (i := 3) (N := some 31) (v := ?_) (a' := ?_) #[true, true, true, true, false, false, true, false, false, false, false, true, false, false, false, false, true, false, false, false, false, true, false, false, false, false] rfl rfl (any_of HT_.out (by kernel_rfl)) (fun _ _ _ h => h) (Or.inl ⟨by rfl, ?_⟩) ?_ ?_
        rotate_left
        · intro w'
          go_simp
          with_reducible rfl
        rotate_left
        · simp only [Act.put, zA, zB, zC, i64_w, i32_w]
          rfl
        refine pure_ (i := 4) (N := some 32) (v := ?_) (a' := ?_) #[true, true, true, true, true, false, true, false, false, false, false, true, false, false, false, false, true, false, false, false, false, true, false, false, false, false] rfl rfl (any_of HT_.out (by kernel_rfl)) (fun _ _ _ h => h) (Or.inl ⟨by rfl, ?_⟩) ?_ ?_
        rotate_left
        · intro w'
          go_simp
          with_reducible rfl
        rotate_left
        · simp only [Act.put, zA, zB, zC, i64_w, i32_w]
          rfl
        refine pure_ (i := 5) (N := some 33) (v := ?_) (a' := ?_) #[true, true, true, true, true, true, true, false, false, false, false, true, false, false, false, false, true, false, false, false, false, true, false, false, false, false] rfl rfl (any_of HT_.out (by kernel_rfl)) (fun _ _ _ h => h) (Or.inl ⟨by rfl, ?_⟩) ?_ ?_
        rotate_left
        · intro w'
          go_simp
          with_reducible rfl
        rotate_left
        · simp only [Act.put, zA, zB, zC, i64_w, i32_w]
          rfl
        refine take_ (i := 7) (N := some 35) (v := ?_) (a' := ?_) #[true, true, true, true, true, true, true, true, false, false, false, true, false, false, false, false, true, false, false, false, false, true, false, false, false, false] rfl rfl (ye1 HT_.out HW_.out (by kernel_rfl)) (fun _ _ _ h => h) (Or.inl ⟨by rfl, ?_⟩) hHeld ?_ ?_
        rotate_left
        · rintro w' ⟨s0, s1, s2, s3, s4, s5, s6⟩
          go_simp
          with_reducible rfl
        rotate_left
        · simp only [Act.put, zA, zB, zC, i64_w, i32_w]
          rfl
        refine pure_ (i := 8) (N := some 36) (v := ?_) (a' := ?_) #[true, true, true, true, true, true, true, true, true, false, false, true, false, false, false, false, true, false, false, false, false, true, false, false, false, false] rfl rfl (any_of HT_.out (by kernel_rfl)) (fun _ _ _ h => h) (Or.inl ⟨by rfl, ?_⟩) ?_ ?_
        rotate_left
        · intro w'
          go_simp
          with_reducible rfl
        rotate_left
        · simp only [Act.put, zA, zB, zC, i64_w, i32_w]
          rfl
        refine pure_ (i := 9) (N := some 37) (v := ?_) (a' := ?_) #[true, true, true, true, true, true, true, true, true, true, false, true, false, false, false, false, true, false, false, false, false, true, false, false, false, false] rfl rfl (any_of HT_.out (by kernel_rfl)) (fun _ _ _ h => h) (Or.inl ⟨by rfl, ?_⟩) ?_ ?_
        rotate_left
        · intro w'
          go_simp
          with_reducible rfl
        rotate_left
        · simp only [Act.put, zA, zB, zC, i64_w, i32_w]
          rfl
        refine pure_ (i := 10) (N := some 38) (v := ?_) (a' := ?_) #[true, true, true, true, true, true, true, true, true, true, true, true, false, false, false, false, true, false, false, false, false, true, false, false, false, false] rfl rfl (any_of HT_.out (by kernel_rfl)) (fun _ _ _ h => h) (Or.inl ⟨by rfl, ?_⟩) ?_ ?_
        rotate_left
        · intro w'
          go_simp
          with_reducible rfl
        rotate_left
        · simp only [Act.put, zA, zB, zC, i64_w, i32_w]
          rfl
        refine take_ (i := 12) (N := some 40) (v := ?_) (a' := ?_) #[true, true, true, true, true, true, true, true, true, true, true, true, true, false, false, false, true, false, false, false, false, true, false, false, false, false] rfl rfl (ye1 HT_.out HW_.out (by kernel_rfl)) (fun _ _ _ h => h) (Or.inl ⟨by rfl, ?_⟩) hHeld ?_ ?_
        rotate_left
        · rintro w' ⟨s0, s1, s2, s3, s4, s5, s6⟩
          go_simp
          with_reducible rfl
        rotate_left
        · simp only [Act.put, zA, zB, zC, i64_w, i32_w]
          rfl
        refine pure_ (i := 13) (N := some 41) (v := ?_) (a' := ?_) #[true, true, true, true, true, true, true, true, true, true, true, true, true, true, false, false, true, false, false, false, false, true, false, false, false, false] rfl rfl (any_of HT_.out (by kernel_rfl)) (fun _ _ _ h => h) (Or.inl ⟨by rfl, ?_⟩) ?_ ?_
        rotate_left
        · intro w'
          go_simp
          with_reducible rfl
        rotate_left
        · simp only [Act.put, zA, zB, zC, i64_w, i32_w]
          rfl
        refine pure_ (i := 14) (N := some 42) (v := ?_) (a' := ?_) #[true, true, true, true, true, true, true, true, true, true, true, true, true, true, true, false, true, false, false, false, false, true, false, false, false, false] rfl rfl (any_of HT_.out (by kernel_rfl)) (fun _ _ _ h => h) (Or.inl ⟨by rfl, ?_⟩) ?_ ?_
        rotate_left
        · intro w'
          go_simp
          with_reducible rfl
        rotate_left
        · simp only [Act.put, zA, zB, zC, i64_w, i32_w]
          rfl
        refine pure_ (i := 15) (N := some 43) (v := ?_) (a' := ?_) #[true, true, true, true, true, true, true, true, true, true, true, true, true, true, true, true, true, false, false, false, false, true, false, false, false, false] rfl rfl (any_of HT_.out (by kernel_rfl)) (fun _ _ _ h => h) (Or.inl ⟨by rfl, ?_⟩) ?_ ?_
        rotate_left
        · intro w'
          go_simp
          with_reducible rfl
        rotate_left
        · simp only [Act.put, zA, zB, zC, i64_w, i32_w]
          rfl
        refine take_ (i := 17) (N := some 45) (v := ?_) (a' := ?_) #[true, true, true, true, true, true, true, true, true, true, true, true, true, true, true, true, true, true, false, false, false, true, false, false, false, false] rfl rfl (ye1 HT_.out HW_.out (by kernel_rfl)) (fun _ _ _ h => h) (Or.inl ⟨by rfl, ?_⟩) hHeld ?_ ?_
        rotate_left
        · rintro w' ⟨s0, s1, s2, s3, s4, s5, s6⟩
          go_simp
          with_reducible rfl
        rotate_left
        · simp only [Act.put, zA, zB, zC, i64_w, i32_w]
          rfl
        refine pure_ (i := 18) (N := some 46) (v := ?_) (a' := ?_) #[true, true, true, true, true, true, true, true, true, true, true, true, true, true, true, true, true, true, true, false, false, true, false, false, false, false] rfl rfl (any_of HT_.out (by kernel_rfl)) (fun _ _ _ h => h) (Or.inl ⟨by rfl, ?_⟩) ?_ ?_
        rotate_left
        · intro w'
          go_simp
          with_reducible rfl
        rotate_left
        · simp only [Act.put, zA, zB, zC, i64_w, i32_w]
          rfl
        refine pure_ (i := 19) (N := some 47) (v := ?_) (a' := ?_) #[true, true, true, true, true, true, true, true, true, true, true, true, true, true, true, true, true, true, true, true, false, true, false, false, false, false] rfl rfl (any_of HT_.out (by kernel_rfl)) (fun _ _ _ h => h) (Or.inl ⟨by rfl, ?_⟩) ?_ ?_
        rotate_left
        · intro w'
          go_simp
          with_reducible rfl
        rotate_left
        · simp only [Act.put, zA, zB, zC, i64_w, i32_w]
          rfl
        refine pure_ (i := 20) (N := some 48) (v := ?_) (a' := ?_) #[true, true, true, true, true, true, true, true, true, true, true, true, true, true, true, true, true, true, true, true, true, true, false, false, false, false] rfl rfl (any_of HT_.out (by kernel_rfl)) (fun _ _ _ h => h) (Or.inl ⟨by rfl, ?_⟩) ?_ ?_
        rotate_left
        · intro w'
          go_simp
          with_reducible rfl
        rotate_left
        · simp only [Act.put, zA, zB, zC, i64_w, i32_w]
          rfl
        refine take_ (i := 22) (N := some 50) (v := ?_) (a' := ?_) #[true, true, true, true, true, true, true, true, true, true, true, true, true, true, true, true, true, true, true, true, true, true, true, false, false, false] rfl rfl (ye1 HT_.out HW_.out (by kernel_rfl)) (fun _ _ _ h => h) (Or.inl ⟨by rfl, ?_⟩) hHeld ?_ ?_
        rotate_left
        · rintro w' ⟨s0, s1, s2, s3, s4, s5, s6⟩
          go_simp
          with_reducible rfl
        rotate_left
        · simp only [Act.put, zA, zB, zC, i64_w, i32_w]
          rfl
        refine one_ (i := 23) (N := some 51) #[true, true, true, true, true, true, true, true, true, true, true, true, true, true, true, true, true, true, true, true, true, true, true, true, false, false] rfl rfl (one_of HT_.out (by kernel_rfl)) (by decide) (fun K hK => ?_)
        refine goes_ Tryd.func11 (by kernel_rfl) rfl #[.slice A186_5 ((rd_T38 l0_1 x4_1).f5).length c186_5, .int .i64 20000] (by rfl) rfl rfl (by (try simp only [List.map_toArray, List.map_cons, List.map_nil]); first | done | rfl | (simp only [List.length_drop, List.length_take]; rfl) | (simp only [ByteArray.size_extract]; rfl)) ?_
        with_reducible refine (yc3.calls k1 _ _ ((rd_T38 l0_1 x4_1).f5) 20000 t188 _ ?side1 ?side2 A15.out).mono ?_
        (case side1 => repeat (first | exact (Kd.yc4 HR186_5.out HB.out) | (with_reducible refine Kd.yd2 ?_ _) | (with_reducible refine Kd.C_drewN ?_ _) | (with_reducible refine Kd.C_drew ?_)))
        (case side2 => exact HC186_5.out)
        rintro e w23 ⟨rfl, hb⟩
        refine ⟨_, rfl, ?_⟩
        have n0_ := Aside0.mk (yb2 (g := gb184) (o := .cells #[.string a0_0, .slice (some ad186) l0_1.length c0_1, .slice A0_2 l0_2.length c0_2] 27 (0, 0)) (by (with_reducible repeat (first | refine ya5 ?_ _ | refine ya6 ?_ | refine ya4 ?_ _)); exact BK184.out) hb)
        have n1_ := Aside0.mk (yb2 (g := gb187) (o := .cells #[.string ((rd_T38 l0_1 x4_1).f0), .string ((rd_T38 l0_1 x4_1).f1), .string ((rd_T38 l0_1 x4_1).f2), .string ((rd_T38 l0_1 x4_1).f3), .int .i64 ((rd_T38 l0_1 x4_1).f4), .slice A186_5 ((rd_T38 l0_1 x4_1).f5).length c186_5, .int .u64 ((rd_T38 l0_1 x4_1).f6)] 38 (0, 0)) (by (with_reducible repeat (first | refine ya5 ?_ _ | refine ya6 ?_ | refine ya4 ?_ _)); exact BK187.out) hb)
        have n2_ := Aside0.mk (yb1 (by repeat (first | (with_reducible first | exact HB.out | apply ya2 | apply ya0 | apply ya1 | refine ya3 ?_ GE184.out | refine ya3 ?_ GE187.out) | exact HB.out)) hb)
        clear BK184
        clear BK187
        clear HB
        have BK184 := n0_
        have BK187 := n1_
        have HB := n2_
        clear n0_ n1_ n2_
        (try clear hb)
        (try clear hb2)
        (try clear hk)
        (try clear hi)
        refine hK.out _ _ ⟨(yb3 BK187.out 0).trans rfl, (yb3 BK187.out 1).trans rfl, (yb3 BK187.out 2).trans rfl, (yb3 BK187.out 3).trans rfl, (yb3 BK187.out 4).trans rfl, (yb3 BK187.out 5).trans rfl, (yb3 BK187.out 6).trans rfl⟩ (fun hHeld => ?_)
        clear hK K
        refine norm_ (a' := ?_) ?_ ?_
        rotate_left
        · show Act.put _ (some 51) _ = _
          simp only [Act.put, zA, zB, zC, i64_w, i32_w]
          rfl
        refine pure_ (i := 24) (N := some 52) (v := ?_) (a' := ?_) #[true, true, true, true, true, true, true, true, true, true, true, true, true, true, true, true, true, true, true, true, true, true, true, true, true, false] rfl rfl (any_of HT_.out (by kernel_rfl)) (fun _ _ _ h => h) (Or.inl ⟨by rfl, ?_⟩) ?_ ?_
        rotate_left
        · intro w'
          go_simp
          with_reducible rfl
        rotate_left
        · simp only [Act.put, zA, zB, zC, i64_w, i32_w]
          rfl
        refine pure_ (i := 25) (N := some 3) (v := ?_) (a' := ?_) #[true, true, true, true, true, true, true, true, true, true, true, true, true, true, true, true, true, true, true, true, true, true, true, true, true, true] rfl rfl (any_of HT_.out (by kernel_rfl)) (fun _ _ _ h => h) (Or.inl ⟨by rfl, ?_⟩) ?_ ?_
        rotate_left
        · intro w'
          go_simp
          with_reducible rfl
        rotate_left
        · simp only [Act.put, zA, zB, zC, i64_w, i32_w]
          rfl
        refine done_ (yk9 HT_.out (by kernel_rfl)) ?_
        try go_wp2
        go_ret
        exact ⟨by first | rfl | (simp [yb0, ya9] <;> rfl) | (simp only [← hji2, ← hji11, ← hji12, ← hji13, ← hji14]; first | rfl | (simp [yb0, ya9] <;> rfl)) | (simp [*, yb0, ya9] <;> rfl), by repeat (first | (with_reducible first | exact HB.out | apply ya2 | apply ya0 | apply ya1 | refine ya3 ?_ GE184.out | refine ya3 ?_ GE187.out) | exact HB.out)⟩
      · rw [if_neg c16] at H
        have c16b0 : decide (20000 < (wrap64 ((wrap64 ((wrap64 ((wrap64 ((wrap64 (x3_1 + (ji11))) + (ji12))) + (ji13))) + (ji14))) + t188))) = false := decide_eq_false c16
        clear c16
        have H' := Aside0.mk H
        clear H
        obtain ⟨hcz24_0, hcz24_1, hcz24_2, hfz24_0, hfz24_1, hfz24_2⟩ := bx3 BK184.out
        have p186 : 0 ≤ (x4_1 : Int) := of_decide_eq_true (by first | (with_reducible assumption) | assumption)
        have q186 : x4_1 < (l0_1.length : Int) := of_decide_eq_true (by first | (with_reducible assumption) | assumption)
        obtain ⟨ad186, A186_5, c186_5, e186, hx186_0, hx186_1, hx186_2, hx186_3, hx186_4, hx186_5, hx186_6, hl186_5, hi186_5⟩ := at_T38 HR0_1.out x4_1 p186 q186
        cases e186
        replace hx186_0 := cup HB.out hx186_0
        replace hx186_1 := cup HB.out hx186_1
        replace hx186_2 := cup HB.out hx186_2
        replace hx186_3 := cup HB.out hx186_3
        replace hx186_4 := cup HB.out hx186_4
        replace hx186_5 := cup HB.out hx186_5
        replace hx186_6 := cup HB.out hx186_6
        have HR186_5 := Aside0.mk hi186_5
        have HC186_5 := Aside0.mk hl186_5
        clear hi186_5 hl186_5
        replace p186 := eq_true p186
        replace q186 := eq_true q186
        try go_wp2_with (first | ((with_reducible refine yc1 (N := 5) rfl ?_); refine yb9 ?hg (N := 5) ?hd (cs := #[.string (⟨#[]⟩ : ByteArray), .string (⟨#[]⟩ : ByteArray), .string (⟨#[]⟩ : ByteArray), .string (⟨#[]⟩ : ByteArray), .int .i64 0, .slice none 0 0, .int .u64 0]) (t := 38) ?hr ?_; (case hd => rfl); (case hg => rfl); (case hr => first | (go_simp; done) | (go_simp; rfl)); intro gb187 hg w25 hbox hb; have n0_ := Aside0.mk (yb2 (g := gb184) (o := .cells #[.string a0_0, .slice (some ad186) l0_1.length c0_1, .slice A0_2 l0_2.length c0_2] 27 (0, 0)) (by (with_reducible repeat (first | refine ya5 ?_ _ | refine ya6 ?_ | refine ya4 ?_ _)); exact BK184.out) hb); have n1_ := Aside0.mk (yb1 (by repeat (first | (with_reducible first | exact HB.out | apply ya2 | apply ya0 | apply ya1 | refine ya3 ?_ GE184.out) | exact HB.out)) hb); have n2_ := Aside0.mk (hbox); have n3_ := Aside0.mk ((by rw [hg]; exact (ya7 (by repeat (first | (with_reducible first | exact HB.out | apply ya2 | apply ya0 | apply ya1 | refine ya3 ?_ GE184.out) | exact HB.out))) : w.heap.size ≤ gb187)); have n4_ := Aside0.mk ((by rw [hg]; exact (ya7 (by repeat (first | (with_reducible first | exact HB.out | apply ya2 | apply ya0 | apply ya1 | refine ya3 ?_ GE184.out) | exact HB.out))) : w.heap.size ≤ gb187)); have n5_ := Aside0.mk ((by rw [hg]; exact Nat.ne_of_lt (blk_lt (g := gb184) (o := .cells #[.string a0_0, .slice (some ad186) l0_1.length c0_1, .slice A0_2 l0_2.length c0_2] 27 (0, 0)) (by (with_reducible repeat (first | refine ya5 ?_ _ | refine ya6 ?_ | refine ya4 ?_ _)); exact BK184.out)) : gb184 ≠ gb187)); have n6_ := Aside0.mk ((by rw [hg]; exact Nat.ne_of_gt (blk_lt (g := gb184) (o := .cells #[.string a0_0, .slice (some ad186) l0_1.length c0_1, .slice A0_2 l0_2.length c0_2] 27 (0, 0)) (by (with_reducible repeat (first | refine ya5 ?_ _ | refine ya6 ?_ | refine ya4 ?_ _)); exact BK184.out)) : gb187 ≠ gb184)); clear BK184; clear HB; have BK184 := n0_; have HB := n1_; have BK187 := n2_; have GW187 := n3_; have GE187 := n4_; have NB184_187 := n5_; have NB187_184 := n6_; clear n0_ n1_ n2_ n3_ n4_ n5_ n6_; clear hb hbox hg; have hnb26 := NB187_184.out; have hnc26 := NB184_187.out; obtain ⟨hcz27_0, hcz27_1, hcz27_2, hcz27_3, hcz27_4, hcz27_5, hcz27_6, hfz27_0, hfz27_1, hfz27_2, hfz27_3, hfz27_4, hfz27_5, hfz27_6⟩ := bx7 BK187.out))
        have n0_ : Aside0 ((((((((w25.setCell ⟨gb187, 0, none⟩ (.string ((rd_T38 l0_1 x4_1).f0))).setCell ⟨gb187, 1, none⟩ (.string ((rd_T38 l0_1 x4_1).f1))).setCell ⟨gb187, 2, none⟩ (.string ((rd_T38 l0_1 x4_1).f2))).setCell ⟨gb187, 3, none⟩ (.string ((rd_T38 l0_1 x4_1).f3))).setCell ⟨gb187, 4, none⟩ (.int .i64 ((rd_T38 l0_1 x4_1).f4))).setCell ⟨gb187, 5, none⟩ (.slice A186_5 ((rd_T38 l0_1 x4_1).f5).length c186_5)).setCell ⟨gb187, 6, none⟩ (.int .u64 ((rd_T38 l0_1 x4_1).f6))).heap[gb184]? = some (.cells #[.string a0_0, .slice (some ad186) l0_1.length c0_1, .slice A0_2 l0_2.length c0_2] 27 (0, 0))) := ⟨by (repeat (first | (with_reducible first | refine ya5 ?_ _ | refine ya6 ?_ | refine ya4 ?_ _) | refine ye7 ?_ NB184_187.out _)); exact BK184.out⟩
        have n1_ : Aside0 ((((((((w25.setCell ⟨gb187, 0, none⟩ (.string ((rd_T38 l0_1 x4_1).f0))).setCell ⟨gb187, 1, none⟩ (.string ((rd_T38 l0_1 x4_1).f1))).setCell ⟨gb187, 2, none⟩ (.string ((rd_T38 l0_1 x4_1).f2))).setCell ⟨gb187, 3, none⟩ (.string ((rd_T38 l0_1 x4_1).f3))).setCell ⟨gb187, 4, none⟩ (.int .i64 ((rd_T38 l0_1 x4_1).f4))).setCell ⟨gb187, 5, none⟩ (.slice A186_5 ((rd_T38 l0_1 x4_1).f5).length c186_5)).setCell ⟨gb187, 6, none⟩ (.int .u64 ((rd_T38 l0_1 x4_1).f6))).heap[gb187]? = some (.cells #[.string ((rd_T38 l0_1 x4_1).f0), .string ((rd_T38 l0_1 x4_1).f1), .string ((rd_T38 l0_1 x4_1).f2), .string ((rd_T38 l0_1 x4_1).f3), .int .i64 ((rd_T38 l0_1 x4_1).f4), .slice A186_5 ((rd_T38 l0_1 x4_1).f5).length c186_5, .int .u64 ((rd_T38 l0_1 x4_1).f6)] 38 (0, 0))) := ⟨by (with_reducible repeat (first | refine ya5 ?_ _ | refine ya6 ?_ | refine ya4 ?_ _)); refine yc7 (cs := #[.string ((rd_T38 l0_1 x4_1).f0), .string ((rd_T38 l0_1 x4_1).f1), .string ((rd_T38 l0_1 x4_1).f2), .string ((rd_T38 l0_1 x4_1).f3), .int .i64 ((rd_T38 l0_1 x4_1).f4), .slice A186_5 ((rd_T38 l0_1 x4_1).f5).length c186_5, .int .u64 0]) ?_ 6 _ rfl; (with_reducible repeat (first | refine ya5 ?_ _ | refine ya6 ?_ | refine ya4 ?_ _)); refine yc7 (cs := #[.string ((rd_T38 l0_1 x4_1).f0), .string ((rd_T38 l0_1 x4_1).f1), .string ((rd_T38 l0_1 x4_1).f2), .string ((rd_T38 l0_1 x4_1).f3), .int .i64 ((rd_T38 l0_1 x4_1).f4), .slice none 0 0, .int .u64 0]) ?_ 5 _ rfl; (with_reducible repeat (first | refine ya5 ?_ _ | refine ya6 ?_ | refine ya4 ?_ _)); refine yc7 (cs := #[.string ((rd_T38 l0_1 x4_1).f0), .string ((rd_T38 l0_1 x4_1).f1), .string ((rd_T38 l0_1 x4_1).f2), .string ((rd_T38 l0_1 x4_1).f3), .int .i64 0, .slice none 0 0, .int .u64 0]) ?_ 4 _ rfl; (with_reducible repeat (first | refine ya5 ?_ _ | refine ya6 ?_ | refine ya4 ?_ _)); refine yc7 (cs := #[.string ((rd_T38 l0_1 x4_1).f0), .string ((rd_T38 l0_1 x4_1).f1), .string ((rd_T38 l0_1 x4_1).f2), .string (⟨#[]⟩ : ByteArray), .int .i64 0, .slice none 0 0, .int .u64 0]) ?_ 3 _ rfl; (with_reducible repeat (first | refine ya5 ?_ _ | refine ya6 ?_ | refine ya4 ?_ _)); refine yc7 (cs := #[.string ((rd_T38 l0_1 x4_1).f0), .string ((rd_T38 l0_1 x4_1).f1), .string (⟨#[]⟩ : ByteArray), .string (⟨#[]⟩ : ByteArray), .int .i64 0, .slice none 0 0, .int .u64 0]) ?_ 2 _ rfl; (with_reducible repeat (first | refine ya5 ?_ _ | refine ya6 ?_ | refine ya4 ?_ _)); refine yc7 (cs := #[.string ((rd_T38 l0_1 x4_1).f0), .string (⟨#[]⟩ : ByteArray), .string (⟨#[]⟩ : ByteArray), .string (⟨#[]⟩ : ByteArray), .int .i64 0, .slice none 0 0, .int .u64 0]) ?_ 1 _ rfl; (with_reducible repeat (first | refine ya5 ?_ _ | refine ya6 ?_ | refine ya4 ?_ _)); refine yc7 (cs := #[.string (⟨#[]⟩ : ByteArray), .string (⟨#[]⟩ : ByteArray), .string (⟨#[]⟩ : ByteArray), .string (⟨#[]⟩ : ByteArray), .int .i64 0, .slice none 0 0, .int .u64 0]) ?_ 0 _ rfl; (with_reducible repeat (first | refine ya5 ?_ _ | refine ya6 ?_ | refine ya4 ?_ _)); exact BK187.out⟩
        have n2_ : Aside0 (Below w.heap.size w (((((((w25.setCell ⟨gb187, 0, none⟩ (.string ((rd_T38 l0_1 x4_1).f0))).setCell ⟨gb187, 1, none⟩ (.string ((rd_T38 l0_1 x4_1).f1))).setCell ⟨gb187, 2, none⟩ (.string ((rd_T38 l0_1 x4_1).f2))).setCell ⟨gb187, 3, none⟩ (.string ((rd_T38 l0_1 x4_1).f3))).setCell ⟨gb187, 4, none⟩ (.int .i64 ((rd_T38 l0_1 x4_1).f4))).setCell ⟨gb187, 5, none⟩ (.slice A186_5 ((rd_T38 l0_1 x4_1).f5).length c186_5)).setCell ⟨gb187, 6, none⟩ (.int .u64 ((rd_T38 l0_1 x4_1).f6)))) := ⟨by repeat (first | (with_reducible first | exact HB.out | apply ya2 | apply ya0 | apply ya1 | refine ya3 ?_ GE184.out | refine ya3 ?_ GE187.out) | exact HB.out)⟩
        (try clear BK184)
        (try clear BK187)
        (try clear HB)
        generalize (((((((w25.setCell ⟨gb187, 0, none⟩ (.string ((rd_T38 l0_1 x4_1).f0))).setCell ⟨gb187, 1, none⟩ (.string ((rd_T38 l0_1 x4_1).f1))).setCell ⟨gb187, 2, none⟩ (.string ((rd_T38 l0_1 x4_1).f2))).setCell ⟨gb187, 3, none⟩ (.string ((rd_T38 l0_1 x4_1).f3))).setCell ⟨gb187, 4, none⟩ (.int .i64 ((rd_T38 l0_1 x4_1).f4))).setCell ⟨gb187, 5, none⟩ (.slice A186_5 ((rd_T38 l0_1 x4_1).f5).length c186_5)).setCell ⟨gb187, 6, none⟩ (.int .u64 ((rd_T38 l0_1 x4_1).f6))) = w28 at n0_ n1_ n2_ ⊢
        have BK184 := n0_
        have BK187 := n1_
        have HB := n2_
        clear n0_ n1_ n2_
        have n0_ := Aside0.mk (ya6 BK184.out)
        have n1_ := Aside0.mk (ya6 BK187.out)
        have n2_ := Aside0.mk (ya1 HB.out)
        clear BK184
        clear BK187
        clear HB
        have BK184 := n0_
        have BK187 := n1_
        have HB := n2_
        clear n0_ n1_ n2_
        refine start_ (n := 26) (S := fun w' => w'.cell? ⟨gb187, 0, none⟩ = some (.string ((rd_T38 l0_1 x4_1).f0)) ∧ w'.cell? ⟨gb187, 1, none⟩ = some (.string ((rd_T38 l0_1 x4_1).f1)) ∧ w'.cell? ⟨gb187, 2, none⟩ = some (.string ((rd_T38 l0_1 x4_1).f2)) ∧ w'.cell? ⟨gb187, 3, none⟩ = some (.string ((rd_T38 l0_1 x4_1).f3)) ∧ w'.cell? ⟨gb187, 4, none⟩ = some (.int .i64 ((rd_T38 l0_1 x4_1).f4)) ∧ w'.cell? ⟨gb187, 5, none⟩ = some (.slice A186_5 ((rd_T38 l0_1 x4_1).f5).length c186_5) ∧ w'.cell? ⟨gb187, 6, none⟩ = some (.int .u64 ((rd_T38 l0_1 x4_1).f6))) (ds := []) #[false, false, false, false, false, false, false, false, false, false, false, false, false, false, false, false, false, false, false, false, false, false, false, false, false, false] (by kernel_rfl) rfl rfl ⟨(yb3 BK187.out 0).trans rfl, (yb3 BK187.out 1).trans rfl, (yb3 BK187.out 2).trans rfl, (yb3 BK187.out 3).trans rfl, (yb3 BK187.out 4).trans rfl, (yb3 BK187.out 5).trans rfl, (yb3 BK187.out 6).trans rfl⟩ (fun hHeld => ?_); refine yi5 yb4.tab8 yb4.bits8 (fun HT_ HW_ => ?_)
        generalize w28.drew = w29 at BK184 BK187 HB hHeld ⊢
        refine pure_ (i := 0) (N := some 28) (v := ?_) (a' := ?_) #[true, false, false, false, false, false, false, false, false, false, false, false, false, false, false, false, false, false, false, false, false, false, false, false, false, false] rfl rfl (any_of HT_.out (by kernel_rfl)) (fun _ _ _ h => h) (Or.inl ⟨by rfl, ?_⟩) ?_ ?_
        rotate_left
        · intro w'
          go_simp
          with_reducible rfl
        rotate_left
        · simp only [Act.put, zA, zB, zC, i64_w, i32_w]
          rfl
        refine pure_ (i := 1) (N := some 29) (v := ?_) (a' := ?_) #[true, true, false, false, false, false, false, false, false, false, false, false, false, false, false, false, false, false, false, false, false, false, false, false, false, false] rfl rfl (any_of HT_.out (by kernel_rfl)) (fun _ _ _ h => h) (Or.inl ⟨by rfl, ?_⟩) ?_ ?_
        rotate_left
        · intro w'
          go_simp
          with_reducible rfl
        rotate_left
        · simp only [Act.put, zA, zB, zC, i64_w, i32_w]
          rfl
        refine pure_ (i := 6) (N := some 34) (v := ?_) (a' := ?_) #[true, true, false, false, false, false, true, false, false, false, false, false, false, false, false, false, false, false, false, false, false, false, false, false, false, false] rfl rfl (any_of HT_.out (by kernel_rfl)) (fun _ _ _ h => h) (Or.inl ⟨by rfl, ?_⟩) ?_ ?_
        rotate_left
        · intro w'
          go_simp
          with_reducible rfl
        rotate_left
        · simp only [Act.put, zA, zB, zC, i64_w, i32_w]
          rfl
        refine pure_ (i := 11) (N := some 39) (v := ?_) (a' := ?_) #[true, true, false, false, false, false, true, false, false, false, false, true, false, false, false, false, false, false, false, false, false, false, false, false, false, false] rfl rfl (any_of HT_.out (by kernel_rfl)) (fun _ _ _ h => h) (Or.inl ⟨by rfl, ?_⟩) ?_ ?_
        rotate_left
        · intro w'
          go_simp
          with_reducible rfl
        rotate_left
        · simp only [Act.put, zA, zB, zC, i64_w, i32_w]
          rfl
        refine pure_ (i := 16) (N := some 44) (v := ?_) (a' := ?_) #[true, true, false, false, false, false, true, false, false, false, false, true, false, false, false, false, true, false, false, false, false, false, false, false, false, false] rfl rfl (any_of HT_.out (by kernel_rfl)) (fun _ _ _ h => h) (Or.inl ⟨by rfl, ?_⟩) ?_ ?_
        rotate_left
        · intro w'
          go_simp
          with_reducible rfl
        rotate_left
        · simp only [Act.put, zA, zB, zC, i64_w, i32_w]
          rfl
        refine pure_ (i := 21) (N := some 49) (v := ?_) (a' := ?_) #[true, true, false, false, false, false, true, false, false, false, false, true, false, false, false, false, true, false, false, false, false, true, false, false, false, false] rfl rfl (any_of HT_.out (by kernel_rfl)) (fun _ _ _ h => h) (Or.inl ⟨by rfl, ?_⟩) ?_ ?_
        rotate_left
        · intro w'
          go_simp
          with_reducible rfl
        rotate_left
        · simp only [Act.put, zA, zB, zC, i64_w, i32_w]
          rfl
        refine take_ (i := 2) (N := some 30) (v := ?_) (a' := ?_) #[true, true, true, false, false, false, true, false, false, false, false, true, false, false, false, false, true, false, false, false, false, true, false, false, false, false] rfl rfl (ye1 HT_.out HW_.out (by kernel_rfl)) (fun _ _ _ h => h) (Or.inl ⟨by rfl, ?_⟩) hHeld ?_ ?_
        rotate_left
        · rintro w' ⟨s0, s1, s2, s3, s4, s5, s6⟩
          go_simp
          with_reducible rfl
        rotate_left
        · simp only [Act.put, zA, zB, zC, i64_w, i32_w]
          rfl
        refine pure_ (i := 3) (N := some 31) (v := ?_) (a' := ?_) #[true, true, true, true, false, false, true, false, false, false, false, true, false, false, false, false, true, false, false, false, false, true, false, false, false, false] rfl rfl (any_of HT_.out (by kernel_rfl)) (fun _ _ _ h => h) (Or.inl ⟨by rfl, ?_⟩) ?_ ?_
        rotate_left
        · intro w'
          go_simp
          with_reducible rfl
        rotate_left
        · simp only [Act.put, zA, zB, zC, i64_w, i32_w]
          rfl
        refine pure_ (i := 4) (N := some 32) (v := ?_) (a' := ?_) #[true, true, true, true, true, false, true, false, false, false, false, true, false, false, false, false, true, false, false, false, false, true, false, false, false, false] rfl rfl (any_of HT_.out (by kernel_rfl)) (fun _ _ _ h => h) (Or.inl ⟨by rfl, ?_⟩) ?_ ?_
        rotate_left
        · intro w'
          go_simp
          with_reducible rfl
        rotate_left
        · simp only [Act.put, zA, zB, zC, i64_w, i32_w]
          rfl
        refine pure_ (i := 5) (N := some 33) (v := ?_) (a' := ?_) #[true, true, true, true, true, true, true, false, false, false, false, true, false, false, false, false, true, false, false, false, false, true, false, false, false, false] rfl rfl (any_of HT_.out (by kernel_rfl)) (fun _ _ _ h => h) (Or.inl ⟨by rfl, ?_⟩) ?_ ?_
        rotate_left
        · intro w'
          go_simp
          with_reducible rfl
        rotate_left
        · simp only [Act.put, zA, zB, zC, i64_w, i32_w]
          rfl
        refine take_ (i := 7) (N := some 35) (v := ?_) (a' := ?_) #[true, true, true, true, true, true, true, true, false, false, false, true, false, false, false, false, true, false, false, false, false, true, false, false, false, false] rfl rfl (ye1 HT_.out HW_.out (by kernel_rfl)) (fun _ _ _ h => h) (Or.inl ⟨by rfl, ?_⟩) hHeld ?_ ?_
        rotate_left
        · rintro w' ⟨s0, s1, s2, s3, s4, s5, s6⟩
          go_simp
          with_reducible rfl
        rotate_left
        · simp only [Act.put, zA, zB, zC, i64_w, i32_w]
          rfl
        refine pure_ (i := 8) (N := some 36) (v := ?_) (a' := ?_) #[true, true, true, true, true, true, true, true, true, false, false, true, false, false, false, false, true, false, false, false, false, true, false, false, false, false] rfl rfl (any_of HT_.out (by kernel_rfl)) (fun _ _ _ h => h) (Or.inl ⟨by rfl, ?_⟩) ?_ ?_
        rotate_left
        · intro w'
          go_simp
          with_reducible rfl
        rotate_left
        · simp only [Act.put, zA, zB, zC, i64_w, i32_w]
          rfl
        refine pure_ (i := 9) (N := some 37) (v := ?_) (a' := ?_) #[true, true, true, true, true, true, true, true, true, true, false, true, false, false, false, false, true, false, false, false, false, true, false, false, false, false] rfl rfl (any_of HT_.out (by kernel_rfl)) (fun _ _ _ h => h) (Or.inl ⟨by rfl, ?_⟩) ?_ ?_
        rotate_left
        · intro w'
          go_simp
          with_reducible rfl
        rotate_left
        · simp only [Act.put, zA, zB, zC, i64_w, i32_w]
          rfl
        refine pure_ (i := 10) (N := some 38) (v := ?_) (a' := ?_) #[true, true, true, true, true, true, true, true, true, true, true, true, false, false, false, false, true, false, false, false, false, true, false, false, false, false] rfl rfl (any_of HT_.out (by kernel_rfl)) (fun _ _ _ h => h) (Or.inl ⟨by rfl, ?_⟩) ?_ ?_
        rotate_left
        · intro w'
          go_simp
          with_reducible rfl
        rotate_left
        · simp only [Act.put, zA, zB, zC, i64_w, i32_w]
          rfl
        refine take_ (i := 12) (N := some 40) (v := ?_) (a' := ?_) #[true, true, true, true, true, true, true, true, true, true, true, true, true, false, false, false, true, false, false, false, false, true, false, false, false, false] rfl rfl (ye1 HT_.out HW_.out (by kernel_rfl)) (fun _ _ _ h => h) (Or.inl ⟨by rfl, ?_⟩) hHeld ?_ ?_
        rotate_left
        · rintro w' ⟨s0, s1, s2, s3, s4, s5, s6⟩
          go_simp
          with_reducible rfl
        rotate_left
        · simp only [Act.put, zA, zB, zC, i64_w, i32_w]
          rfl
        refine pure_ (i := 13) (N := some 41) (v := ?_) (a' := ?_) #[true, true, true, true, true, true, true, true, true, true, true, true, true, true, false, false, true, false, false, false, false, true, false, false, false, false] rfl rfl (any_of HT_.out (by kernel_rfl)) (fun _ _ _ h => h) (Or.inl ⟨by rfl, ?_⟩) ?_ ?_
        rotate_left
        · intro w'
          go_simp
          with_reducible rfl
        rotate_left
        · simp only [Act.put, zA, zB, zC, i64_w, i32_w]
          rfl
        refine pure_ (i := 14) (N := some 42) (v := ?_) (a' := ?_) #[true, true, true, true, true, true, true, true, true, true, true, true, true, true, true, false, true, false, false, false, false, true, false, false, false, false] rfl rfl (any_of HT_.out (by kernel_rfl)) (fun _ _ _ h => h) (Or.inl ⟨by rfl, ?_⟩) ?_ ?_
        rotate_left
        · intro w'
          go_simp
          with_reducible rfl
        rotate_left
        · simp only [Act.put, zA, zB, zC, i64_w, i32_w]
          rfl
        refine pure_ (i := 15) (N := some 43) (v := ?_) (a' := ?_) #[true, true, true, true, true, true, true, true, true, true, true, true, true, true, true, true, true, false, false, false, false, true, false, false, false, false] rfl rfl (any_of HT_.out (by kernel_rfl)) (fun _ _ _ h => h) (Or.inl ⟨by rfl, ?_⟩) ?_ ?_
        rotate_left
        · intro w'
          go_simp
          with_reducible rfl
        rotate_left
        · simp only [Act.put, zA, zB, zC, i64_w, i32_w]
          rfl
        refine take_ (i := 17) (N := some 45) (v := ?_) (a' := ?_) #[true, true, true, true, true, true, true, true, true, true, true, true, true, true, true, true, true, true, false, false, false, true, false, false, false, false] rfl rfl (ye1 HT_.out HW_.out (by kernel_rfl)) (fun _ _ _ h => h) (Or.inl ⟨by rfl, ?_⟩) hHeld ?_ ?_
        rotate_left
        · rintro w' ⟨s0, s1, s2, s3, s4, s5, s6⟩
          go_simp
          with_reducible rfl
        rotate_left
        · simp only [Act.put, zA, zB, zC, i64_w, i32_w]
          rfl
        refine pure_ (i := 18) (N := some 46) (v := ?_) (a' := ?_) #[true, true, true, true, true, true, true, true, true, true, true, true, true, true, true, true, true, true, true, false, false, true, false, false, false, false] rfl rfl (any_of HT_.out (by kernel_rfl)) (fun _ _ _ h => h) (Or.inl ⟨by rfl, ?_⟩) ?_ ?_
        rotate_left
        · intro w'
          go_simp
          with_reducible rfl
        rotate_left
        · simp only [Act.put, zA, zB, zC, i64_w, i32_w]
          rfl
        refine pure_ (i := 19) (N := some 47) (v := ?_) (a' := ?_) #[true, true, true, true, true, true, true, true, true, true, true, true, true, true, true, true, true, true, true, true, false, true, false, false, false, false] rfl rfl (any_of HT_.out (by kernel_rfl)) (fun _ _ _ h => h) (Or.inl ⟨by rfl, ?_⟩) ?_ ?_
        rotate_left
        · intro w'
          go_simp
          with_reducible rfl
        rotate_left
        · simp only [Act.put, zA, zB, zC, i64_w, i32_w]
          rfl
        refine pure_ (i := 20) (N := some 48) (v := ?_) (a' := ?_) #[true, true, true, true, true, true, true, true, true, true, true, true, true, true, true, true, true, true, true, true, true, true, false, false, false, false] rfl rfl (any_of HT_.out (by kernel_rfl)) (fun _ _ _ h => h) (Or.inl ⟨by rfl, ?_⟩) ?_ ?_
        rotate_left
        · intro w'
          go_simp
          with_reducible rfl
        rotate_left
        · simp only [Act.put, zA, zB, zC, i64_w, i32_w]
          rfl
        refine take_ (i := 22) (N := some 50) (v := ?_) (a' := ?_) #[true, true, true, true, true, true, true, true, true, true, true, true, true, true, true, true, true, true, true, true, true, true, true, false, false, false] rfl rfl (ye1 HT_.out HW_.out (by kernel_rfl)) (fun _ _ _ h => h) (Or.inl ⟨by rfl, ?_⟩) hHeld ?_ ?_
        rotate_left
        · rintro w' ⟨s0, s1, s2, s3, s4, s5, s6⟩
          go_simp
          with_reducible rfl
        rotate_left
        · simp only [Act.put, zA, zB, zC, i64_w, i32_w]
          rfl
        refine one_ (i := 23) (N := some 51) #[true, true, true, true, true, true, true, true, true, true, true, true, true, true, true, true, true, true, true, true, true, true, true, true, false, false] rfl rfl (one_of HT_.out (by kernel_rfl)) (by decide) (fun K hK => ?_)
        refine goes_ Tryd.func11 (by kernel_rfl) rfl #[.slice A186_5 ((rd_T38 l0_1 x4_1).f5).length c186_5, .int .i64 20000] (by rfl) rfl rfl (by (try simp only [List.map_toArray, List.map_cons, List.map_nil]); first | done | rfl | (simp only [List.length_drop, List.length_take]; rfl) | (simp only [ByteArray.size_extract]; rfl)) ?_
        with_reducible refine (yc3.calls k1 _ _ ((rd_T38 l0_1 x4_1).f5) 20000 t188 _ ?side1 ?side2 A15.out).mono ?_
        (case side1 => repeat (first | exact (Kd.yc4 HR186_5.out HB.out) | (with_reducible refine Kd.yd2 ?_ _) | (with_reducible refine Kd.C_drewN ?_ _) | (with_reducible refine Kd.C_drew ?_)))
        (case side2 => exact HC186_5.out)
        rintro e w30 ⟨rfl, hb⟩
        refine ⟨_, rfl, ?_⟩
        have n0_ := Aside0.mk (yb2 (g := gb184) (o := .cells #[.string a0_0, .slice (some ad186) l0_1.length c0_1, .slice A0_2 l0_2.length c0_2] 27 (0, 0)) (by (with_reducible repeat (first | refine ya5 ?_ _ | refine ya6 ?_ | refine ya4 ?_ _)); exact BK184.out) hb)
        have n1_ := Aside0.mk (yb2 (g := gb187) (o := .cells #[.string ((rd_T38 l0_1 x4_1).f0), .string ((rd_T38 l0_1 x4_1).f1), .string ((rd_T38 l0_1 x4_1).f2), .string ((rd_T38 l0_1 x4_1).f3), .int .i64 ((rd_T38 l0_1 x4_1).f4), .slice A186_5 ((rd_T38 l0_1 x4_1).f5).length c186_5, .int .u64 ((rd_T38 l0_1 x4_1).f6)] 38 (0, 0)) (by (with_reducible repeat (first | refine ya5 ?_ _ | refine ya6 ?_ | refine ya4 ?_ _)); exact BK187.out) hb)
        have n2_ := Aside0.mk (yb1 (by repeat (first | (with_reducible first | exact HB.out | apply ya2 | apply ya0 | apply ya1 | refine ya3 ?_ GE184.out | refine ya3 ?_ GE187.out) | exact HB.out)) hb)
        clear BK184
        clear BK187
        clear HB
        have BK184 := n0_
        have BK187 := n1_
        have HB := n2_
        clear n0_ n1_ n2_
        (try clear hb)
        (try clear hb2)
        (try clear hk)
        (try clear hi)
        refine hK.out _ _ ⟨(yb3 BK187.out 0).trans rfl, (yb3 BK187.out 1).trans rfl, (yb3 BK187.out 2).trans rfl, (yb3 BK187.out 3).trans rfl, (yb3 BK187.out 4).trans rfl, (yb3 BK187.out 5).trans rfl, (yb3 BK187.out 6).trans rfl⟩ (fun hHeld => ?_)
        clear hK K
        refine norm_ (a' := ?_) ?_ ?_
        rotate_left
        · show Act.put _ (some 51) _ = _
          simp only [Act.put, zA, zB, zC, i64_w, i32_w]
          rfl
        refine pure_ (i := 24) (N := some 52) (v := ?_) (a' := ?_) #[true, true, true, true, true, true, true, true, true, true, true, true, true, true, true, true, true, true, true, true, true, true, true, true, true, false] rfl rfl (any_of HT_.out (by kernel_rfl)) (fun _ _ _ h => h) (Or.inl ⟨by rfl, ?_⟩) ?_ ?_
        rotate_left
        · intro w'
          go_simp
          with_reducible rfl
        rotate_left
        · simp only [Act.put, zA, zB, zC, i64_w, i32_w]
          rfl
        refine pure_ (i := 25) (N := some 3) (v := ?_) (a' := ?_) #[true, true, true, true, true, true, true, true, true, true, true, true, true, true, true, true, true, true, true, true, true, true, true, true, true, true] rfl rfl (any_of HT_.out (by kernel_rfl)) (fun _ _ _ h => h) (Or.inl ⟨by rfl, ?_⟩) ?_ ?_
        rotate_left
        · intro w'
          go_simp
          with_reducible rfl
        rotate_left
        · simp only [Act.put, zA, zB, zC, i64_w, i32_w]
          rfl
        refine done_ (yk9 HT_.out (by kernel_rfl)) ?_
        try go_wp2
        go_roundg k1
        case measure => have := HK1.out; omega
        case rel => exact ⟨(wrap64 ((wrap64 ((wrap64 ((wrap64 ((wrap64 (x3_1 + (ji11))) + (ji12))) + (ji13))) + (ji14))) + t188)), (wrap64 (x4_1 + 1)), (by first | rfl | (simp; done) | (simp only [← hji11, ← hji12, ← hji13, ← hji14] <;> (first | rfl | simp)) | (simp [*]; done)), (by first | rfl | (simp; done) | (simp [*]; done)), H', ⟨by have := HK1.out; omega⟩, ⟨by (with_reducible repeat (first | refine ya5 ?_ _ | refine ya6 ?_ | refine ya4 ?_ _)); exact BK184.out⟩, ⟨by repeat (first | (with_reducible first | exact HB.out | apply ya2 | apply ya0 | apply ya1 | refine ya3 ?_ GE184.out | refine ya3 ?_ GE187.out) | exact HB.out)⟩⟩
/-! ### yd6: function 6 -/
def yd6.f (a0_0 : Int) (a0_1 : Bool) (l0_2 : List ByteArray) (a0_3 : Bool) (a0_4 : Bool) : Option (Bool) := some (decide ((l0_2.length : Int) ≤ 200))
set_option maxHeartbeats 8000000 in
set_option maxRecDepth 100000 in
theorem yd6.calls (a0_0 : Int) (a0_1 : Bool) (A0_2 : Option Addr) (c0_2 : Nat) (l0_2 : List ByteArray) (a0_3 : Bool) (a0_4 : Bool) (r : Bool) (w : World) (hr0_2 : Kd.C Kd.string w A0_2 l0_2.length l0_2) (hc0_2 : l0_2.length ≤ c0_2) (h : yd6.f a0_0 a0_1 l0_2 a0_3 a0_4 = some r) :
    Calls Tryd.prog 6 #[.agg #[.int .i64 a0_0, .bool a0_1, .slice A0_2 l0_2.length c0_2, .bool a0_3, .bool a0_4]] w fun e w' => e = .returned (.bool r) ∧ Below w.heap.size w w' := by
  have hu24 := Tryd.underlying24
  have HR0_2 := Aside0.mk hr0_2
  have HC0_2 := Aside0.mk hc0_2
  clear hr0_2 hc0_2
  have HB := Aside0.mk (Below.refl w.heap.size w)
  have H : (some (decide ((l0_2.length : Int) ≤ 200))) = some r := h
  clear h
  obtain rfl := Option.some.inj H
  go_enter Tryd.func6, Tryd.ntmps6
  go_wp2_with (first | ((with_reducible refine yc1 (N := 1) rfl ?_); refine yb9 ?hg (N := 1) ?hd (cs := #[.int .i64 a0_0, .bool a0_1, .slice A0_2 l0_2.length c0_2, .bool a0_3, .bool a0_4]) (t := 24) ?hr ?_; (case hd => rfl); (case hg => rfl); (case hr => first | (go_simp; done) | (go_simp; rfl)); intro gb189 hg w2 hbox hb; have n0_ := Aside0.mk (yb1 (by repeat (first | (with_reducible first | exact HB.out | apply ya2 | apply ya0 | apply ya1) | exact HB.out)) hb); have n1_ := Aside0.mk (hbox); have n2_ := Aside0.mk ((by rw [hg]; exact (ya7 (by repeat (first | (with_reducible first | exact HB.out | apply ya2 | apply ya0 | apply ya1) | exact HB.out))) : w.heap.size ≤ gb189)); have n3_ := Aside0.mk ((by rw [hg]; exact (ya7 (by repeat (first | (with_reducible first | exact HB.out | apply ya2 | apply ya0 | apply ya1) | exact HB.out))) : w.heap.size ≤ gb189)); clear HB; have HB := n0_; have BK189 := n1_; have GW189 := n2_; have GE189 := n3_; clear n0_ n1_ n2_ n3_; clear hb hbox hg; obtain ⟨hcz3_0, hcz3_1, hcz3_2, hcz3_3, hcz3_4, hfz3_0, hfz3_1, hfz3_2, hfz3_3, hfz3_4⟩ := bx5 BK189.out))
  go_ret
  exact ⟨by first | rfl | (simp [yb0, ya9] <;> rfl) | (simp [*, yb0, ya9] <;> rfl), by repeat (first | (with_reducible first | exact HB.out | apply ya2 | apply ya0 | apply ya1 | refine ya3 ?_ GE189.out) | exact HB.out)⟩

end Go.Proofs.YtidkjifilgjgfaaDoor.PAll
