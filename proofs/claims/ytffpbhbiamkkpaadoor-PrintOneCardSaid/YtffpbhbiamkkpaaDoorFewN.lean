/- Few of law 04: it always answers, and a tree that it calls few weighs at most 30000. -/
import Derived.Test.YtffpbhbiamkkpaaDoorRefName
import Derived.Test.YtffpbhbiamkkpaaDoorPNode
import Derived.Test.YtffpbhbiamkkpaaDoorPRx10
namespace Go.Proofs.YtffpbhbiamkkpaaDoor.PP
open Go Go.RowKit Go.Proofs.YtffpbhbiamkkpaaDoorW.PrintWords Go.Proofs.YtffpbhbiamkkpaaDoorW.PrintMore Go.Proofs.YtffpbhbiamkkpaaDoor.PR Go.Proofs.YtffpbhbiamkkpaaDoor.ND
open Go.Proofs.YtffpbhbiamkkpaaDoor.Prt (wt wts wA wAs)
set_option linter.unusedVariables false
def WP (n : Nd) (M : Int) : Prop := ∃ W : Int, (∃ K, ∀ k, K ≤ k → watchbilllaw04_weigh.f k n.f0 n.f1.f0 n.f1.f1 n.f2 n.f3 n.f4 M = some W) ∧ 1 ≤ W ∧ W ≤ 5 * M + 5 ∧ (W ≤ M → (wt n : Int) ≤ W)
theorem wts_take (l : List Nd) (i : Nat) (h : i < l.length) : wts (l.take (i + 1)) = wts (l.take i) + wt l[i] := by
  have app : ∀ a b : List Nd, wts (a ++ b) = wts a + wts b := by
    intro a
    induction a with
    | nil => intro b; simp [Prt.wts]
    | cons d a ih => intro b; rw [List.cons_append, Prt.wts, Prt.wts, ih]; omega
  rw [List.take_add_one, List.getElem?_eq_getElem h, app]
  simp [Prt.wts]
theorem wAs_take (l : List At) (i : Nat) (h : i < l.length) : wAs (l.take (i + 1)) = wAs (l.take i) + wA l[i] := by
  rw [List.take_add_one, List.getElem?_eq_getElem h]
  unfold Prt.wAs
  rw [List.map_append, List.sum_append]
  rfl
theorem rdNd_at (l : List Nd) (i : Nat) (h : i < l.length) : rdNd l (i : Int) = l[i] := by unfold rdNd; simp [h]
theorem rdAt_at (l : List At) (i : Nat) (h : i < l.length) : rdAt l (i : Int) = l[i] := by unfold rdAt; simp [h]
theorem w64s (x : Int) (h0 : -1000000000 ≤ x) (h1 : x ≤ 1000000000) : wrap64 x = x := PL.w64 x (by omega) (by omega)
def baseW (n : Nd) : Nat := 1 + n.f1.f0.size + n.f1.f1.size + n.f4.size
theorem wt_eq (n : Nd) : wt n = baseW n + wAs n.f2 + wts n.f3 := by
  obtain ⟨k, nm, t, c, x⟩ := n
  unfold wt baseW
  simp only
  omega
theorem w_kids (n : Nd) (M : Int) (hM0 : 0 ≤ M) (hM : M ≤ 30000) (hP : ∀ d ∈ n.f3, ∀ M', 0 ≤ M' → M' ≤ 30000 → WP d M') : ∀ (j i : Nat) (w : Int), n.f3.length - i ≤ j → i ≤ n.f3.length → (i : Int) + 1 ≤ w → w ≤ 5 * M + 5 → (w ≤ M → ((baseW n + wAs n.f2 + wts (n.f3.take i) : Nat) : Int) ≤ w) →
    ∃ W : Int, (∃ K, ∀ k, K ≤ k → watchbilllaw04_weigh.l1 k M w (i : Int) n.f0 n.f1.f0 n.f1.f1 n.f2 n.f3 n.f4 = some W) ∧ 1 ≤ W ∧ W ≤ 5 * M + 5 ∧ (W ≤ M → (wt n : Int) ≤ W) := by
  have stop : ∀ (i : Nat) (w : Int), i = n.f3.length → (i : Int) + 1 ≤ w → w ≤ 5 * M + 5 → (w ≤ M → ((baseW n + wAs n.f2 + wts (n.f3.take i) : Nat) : Int) ≤ w) →
      ∃ W : Int, (∃ K, ∀ k, K ≤ k → watchbilllaw04_weigh.l1 k M w (i : Int) n.f0 n.f1.f0 n.f1.f1 n.f2 n.f3 n.f4 = some W) ∧ 1 ≤ W ∧ W ≤ 5 * M + 5 ∧ (W ≤ M → (wt n : Int) ≤ W) := by
    intro i w hi h1 h2 h3
    refine ⟨w, ⟨1, fun k hk => ?_⟩, by omega, h2, fun h => ?_⟩
    · obtain ⟨k, rfl⟩ : ∃ m, k = m + 1 := ⟨k - 1, by omega⟩
      rw [watchbilllaw04_weigh.l1, if_neg (by omega)]
    · have := h3 h
      rw [wt_eq]
      rw [hi, List.take_length] at this
      exact this
  intro j
  induction j with
  | zero => intro i w hj hi h1 h2 h3; exact stop i w (by omega) h1 h2 h3
  | succ j ih =>
    intro i w hj hi h1 h2 h3
    by_cases hlt : i < n.f3.length
    · by_cases hw : w ≤ M
      · obtain ⟨W, ⟨K, hK⟩, w1, w2, w3⟩ := hP n.f3[i] (List.getElem_mem _) (M - w) (by omega) (by omega)
        obtain ⟨W', ⟨K', hK'⟩, v⟩ := ih (i + 1) (w + W) (by omega) (by omega) (by omega) (by omega) (fun h => by
          have := w3 (by omega)
          have := h3 hw
          rw [wts_take n.f3 i hlt]
          omega)
        refine ⟨W', ⟨K + K' + 1, fun k hk => ?_⟩, v⟩
        obtain ⟨k, rfl⟩ : ∃ m, k = m + 1 := ⟨k - 1, by omega⟩
        rw [watchbilllaw04_weigh.l1, if_pos (by omega), if_pos hw, if_pos (by omega), rdNd_at n.f3 i hlt, w64s (M - w) (by omega) (by omega), hK k (by omega), Option.bind_some, w64s (w + W) (by omega) (by omega), w64s ((i : Int) + 1) (by omega) (by omega)]
        exact hK' k (by omega)
      · refine ⟨w, ⟨1, fun k hk => ?_⟩, by omega, h2, fun h => absurd h hw⟩
        obtain ⟨k, rfl⟩ : ∃ m, k = m + 1 := ⟨k - 1, by omega⟩
        rw [watchbilllaw04_weigh.l1, if_pos (by omega), if_neg hw]
    · exact stop i w (by omega) h1 h2 h3
theorem mn_le (a b : Int) (h0 : 0 ≤ a) (h1 : 0 ≤ b) : 0 ≤ mn a b ∧ mn a b ≤ b ∧ mn a b ≤ a ∧ (mn a b < b → mn a b = a) := by
  unfold mn
  split <;> omega
theorem w_attrs (n : Nd) (M : Int) (hM0 : 0 ≤ M) (hM : M ≤ 30000) (hP : ∀ d ∈ n.f3, ∀ M', 0 ≤ M' → M' ≤ 30000 → WP d M') : ∀ (j i : Nat) (w : Int), n.f2.length - i ≤ j → i ≤ n.f2.length → 1 + mn (n.f2.length : Int) M ≤ w → w ≤ 5 * M + 5 → (w ≤ M → ((baseW n + n.f2.length + wAs (n.f2.take i) : Nat) : Int) ≤ w + i) →
    ∃ W : Int, (∃ K, ∀ k, K ≤ k → watchbilllaw04_weigh.l0 k M w (i : Int) n.f0 n.f1.f0 n.f1.f1 n.f2 n.f3 n.f4 = some W) ∧ 1 ≤ W ∧ W ≤ 5 * M + 5 ∧ (W ≤ M → (wt n : Int) ≤ W) := by
  have m0 := mn_le (n.f2.length : Int) M (by omega) hM0
  have go : ∀ (i : Nat) (w : Int), (i = n.f2.length ∨ ¬ w ≤ M) → i ≤ n.f2.length → 1 + mn (n.f2.length : Int) M ≤ w → w ≤ 5 * M + 5 → (w ≤ M → ((baseW n + n.f2.length + wAs (n.f2.take i) : Nat) : Int) ≤ w + i) →
      ∃ W : Int, (∃ K, ∀ k, K ≤ k → watchbilllaw04_weigh.l0 k M w (i : Int) n.f0 n.f1.f0 n.f1.f1 n.f2 n.f3 n.f4 = some W) ∧ 1 ≤ W ∧ W ≤ 5 * M + 5 ∧ (W ≤ M → (wt n : Int) ≤ W) := by
    intro i w hi hle h1 h2 h3
    obtain ⟨W, ⟨K, hK⟩, v⟩ := w_kids n M hM0 hM hP n.f3.length 0 w (by omega) (by omega) (by omega) h2 (fun h => by
      have := h3 h
      rcases hi with rfl | hi
      · rw [List.take_length] at this
        simp only [List.take_zero, Prt.wts]
        omega
      · exact absurd h hi)
    refine ⟨W, ⟨K + 2, fun k hk => ?_⟩, v⟩
    obtain ⟨k, rfl⟩ : ∃ m, k = m + 2 := ⟨k - 2, by omega⟩
    have e : watchbilllaw04_weigh.l0 (k + 2) M w (i : Int) n.f0 n.f1.f0 n.f1.f1 n.f2 n.f3 n.f4 = watchbilllaw04_weigh.j1 (k + 1) M w n.f0 n.f1.f0 n.f1.f1 n.f2 n.f3 n.f4 := by
      rw [watchbilllaw04_weigh.l0]
      rcases hi with hi | hi
      · rw [if_neg (by omega)]
      · by_cases c : (i : Int) < (n.f2.length : Int)
        · rw [if_pos c, if_neg hi]
        · rw [if_neg c]
    rw [e, watchbilllaw04_weigh.j1]
    exact hK k (by omega)
  intro j
  induction j with
  | zero => intro i w hj hi h1 h2 h3; exact go i w (Or.inl (by omega)) hi h1 h2 h3
  | succ j ih =>
    intro i w hj hi h1 h2 h3
    by_cases hlt : i < n.f2.length
    · by_cases hw : w ≤ M
      · have a0 := mn_le ((n.f2[i].f0.f0.size : Nat) : Int) M (by omega) hM0
        have a1 := mn_le ((n.f2[i].f0.f1.size : Nat) : Int) M (by omega) hM0
        have a2 := mn_le ((n.f2[i].f1.size : Nat) : Int) M (by omega) hM0
        obtain ⟨W', ⟨K', hK'⟩, v⟩ := ih (i + 1) (w + mn ((n.f2[i].f0.f0.size : Nat) : Int) M + mn ((n.f2[i].f0.f1.size : Nat) : Int) M + mn ((n.f2[i].f1.size : Nat) : Int) M) (by omega) (by omega) (by omega) (by omega) (fun h => by
          have := h3 hw
          have hA : wA n.f2[i] = 1 + n.f2[i].f0.f0.size + n.f2[i].f0.f1.size + n.f2[i].f1.size := rfl
          rw [wAs_take n.f2 i hlt, hA]
          omega)
        refine ⟨W', ⟨K' + 1, fun k hk => ?_⟩, v⟩
        obtain ⟨k, rfl⟩ : ∃ m, k = m + 1 := ⟨k - 1, by omega⟩
        rw [watchbilllaw04_weigh.l0, if_pos (by omega), if_pos hw, if_pos (by omega), rdAt_at n.f2 i hlt, w64s (w + mn ((n.f2[i].f0.f0.size : Nat) : Int) M) (by omega) (by omega), w64s (w + mn ((n.f2[i].f0.f0.size : Nat) : Int) M + mn ((n.f2[i].f0.f1.size : Nat) : Int) M) (by omega) (by omega), w64s (w + mn ((n.f2[i].f0.f0.size : Nat) : Int) M + mn ((n.f2[i].f0.f1.size : Nat) : Int) M + mn ((n.f2[i].f1.size : Nat) : Int) M) (by omega) (by omega), w64s ((i : Int) + 1) (by omega) (by omega)]
        exact hK' k (by omega)
      · exact go i w (Or.inr hw) hi h1 h2 h3
    · exact go i w (Or.inl (by omega)) hi h1 h2 h3
theorem wt_mem : ∀ (l : List Nd) (d : Nd), d ∈ l → wt d ≤ wts l
  | [], d, h => by cases h
  | e :: r, d, h => by
    rw [Prt.wts]
    rcases List.mem_cons.1 h with rfl | h
    · omega
    · have := wt_mem r d h; omega
theorem weigh_ev : ∀ (m : Nat) (n : Nd), wt n < m → ∀ M, 0 ≤ M → M ≤ 30000 → WP n M := by
  intro m
  induction m with
  | zero => intro n h; omega
  | succ m ih =>
    intro n hm M h0 h1
    have hP : ∀ d ∈ n.f3, ∀ M', 0 ≤ M' → M' ≤ 30000 → WP d M' := fun d hd M' a b => ih d (by
      have := wt_mem n.f3 d hd
      have e := wt_eq n
      unfold baseW at e
      omega) M' a b
    have a0 := mn_le ((n.f4.size : Nat) : Int) M (by omega) h0
    have a1 := mn_le ((n.f1.f0.size : Nat) : Int) M (by omega) h0
    have a2 := mn_le ((n.f1.f1.size : Nat) : Int) M (by omega) h0
    have a3 := mn_le ((n.f2.length : Nat) : Int) M (by omega) h0
    obtain ⟨W, ⟨K, hK⟩, v⟩ := w_attrs n M h0 h1 hP n.f2.length 0 (1 + mn ((n.f4.size : Nat) : Int) M + mn ((n.f1.f0.size : Nat) : Int) M + mn ((n.f1.f1.size : Nat) : Int) M + mn ((n.f2.length : Nat) : Int) M) (by omega) (by omega) (by omega) (by omega) (fun h => by
      simp only [List.take_zero, Prt.wAs, List.map_nil, List.sum_nil]
      unfold baseW
      omega)
    refine ⟨W, ⟨K + 1, fun k hk => ?_⟩, v⟩
    obtain ⟨k, rfl⟩ : ∃ m, k = m + 1 := ⟨k - 1, by omega⟩
    rw [watchbilllaw04_weigh.f, w64s (1 + mn ((n.f4.size : Nat) : Int) M) (by omega) (by omega), w64s (1 + mn ((n.f4.size : Nat) : Int) M + mn ((n.f1.f0.size : Nat) : Int) M) (by omega) (by omega), w64s (1 + mn ((n.f4.size : Nat) : Int) M + mn ((n.f1.f0.size : Nat) : Int) M + mn ((n.f1.f1.size : Nat) : Int) M) (by omega) (by omega), w64s (1 + mn ((n.f4.size : Nat) : Int) M + mn ((n.f1.f0.size : Nat) : Int) M + mn ((n.f1.f1.size : Nat) : Int) M + mn ((n.f2.length : Nat) : Int) M) (by omega) (by omega)]
    exact hK k (by omega)
/-- Few always answers; what it calls few weighs at most 30000. -/
theorem few_ev (n : Nd) : ∃ b k, watchbilllaw04_Few.f k n.f0 n.f1.f0 n.f1.f1 n.f2 n.f3 n.f4 = some b ∧ (b = true → wt n ≤ 30000) := by
  obtain ⟨W, ⟨K, hK⟩, w1, w2, w3⟩ := weigh_ev (wt n + 1) n (by omega) 30000 (by omega) (by omega)
  refine ⟨decide (W ≤ 30000), K, ?_, fun h => ?_⟩
  · unfold watchbilllaw04_Few.f
    rw [hK K (Nat.le_refl _), Option.bind_some]
  · have h := of_decide_eq_true h
    have := w3 h
    omega
end Go.Proofs.YtffpbhbiamkkpaaDoor.PP
