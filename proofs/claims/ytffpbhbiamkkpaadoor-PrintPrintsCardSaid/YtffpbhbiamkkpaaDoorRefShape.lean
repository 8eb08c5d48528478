/- The reference's shape, and its Right: tree's. -/
import Derived.Test.YtffpbhbiamkkpaaDoorRefRight
namespace Go.Proofs.YtffpbhbiamkkpaaDoor.PP
open Go Go.RowKit Go.Proofs.YtffpbhbiamkkpaaDoorW.PrintWords Go.Proofs.YtffpbhbiamkkpaaDoor.PR Go.Proofs.YtffpbhbiamkkpaaDoor.ND
open Go.Proofs.YtffpbhbiamkkpaaDoor.Prt (wt wts wA wAs)
open Go.Proofs.YtffpbhbiamkkpaaDoor.PG (signsB)
set_option linter.unusedVariables false
theorem key_same (x y : At) : ((x.f0.f0.toList == y.f0.f0.toList) && (x.f0.f1.toList == y.f0.f1.toList)) = true ↔ keyA x = keyA y := by
  unfold keyA
  rw [Bool.and_eq_true, beq_iff_eq, beq_iff_eq, Lib.toList_data, Lib.toList_data, Lib.toList_data, Lib.toList_data, Prod.mk.injEq]
section
variable (n : Nd) (hw : wt n ≤ 30000)
include hw
theorem yl5 : n.f2.length ≤ 30000 ∧ n.f3.length ≤ 30000 ∧ n.f4.size ≤ 30000 ∧ n.f1.f0.size ≤ 30000 ∧ n.f1.f1.size ≤ 30000 ∧ wAs n.f2 ≤ 30000 ∧ wts n.f3 ≤ 30000 := by
  have e := wt_eq n
  unfold baseW at e
  have h1 : ∀ l : List At, l.length ≤ wAs l := by
    intro l
    induction l with
    | nil => simp
    | cons a l ih => simp only [Prt.wAs, List.map_cons, List.sum_cons, List.length_cons] at ih ⊢; unfold wA at *; omega
  have h2 : ∀ l : List Nd, l.length ≤ wts l := by
    intro l
    induction l with
    | nil => simp
    | cons d l ih => rw [Prt.wts, List.length_cons]; have := wt_eq d; unfold baseW at this; omega
  have := h1 n.f2
  have := h2 n.f3
  omega
theorem at_few (a : At) (h : a ∈ n.f2) : a.f0.f0.size ≤ 30000 ∧ a.f0.f1.size ≤ 30000 ∧ a.f1.size ≤ 30000 := by
  have h1 : ∀ l : List At, a ∈ l → wA a ≤ wAs l := by
    intro l
    induction l with
    | nil => intro h; cases h
    | cons b l ih =>
      intro h
      simp only [Prt.wAs, List.map_cons, List.sum_cons] at ih ⊢
      rcases List.mem_cons.1 h with rfl | h
      · omega
      · have := ih h; omega
  have := h1 n.f2 h
  have := (yl5 n hw).2.2.2.2.2.1
  unfold wA at *
  omega
theorem inner_from (i : Nat) (hi : i < n.f2.length) (R : Bool) (h : ∃ K, ∀ k, K ≤ k → ya4.l0 k ((i + 1 : Nat) : Int) n.f0 n.f1.f0 n.f1.f1 n.f2 n.f3 n.f4 = some R) : ∀ (d j : Nat), i - j ≤ d → j ≤ i → (∀ q, (hq : q < j) → (hqi : j ≤ i) → keyA (n.f2[q]'(by omega)) ≠ keyA n.f2[i]) →
    ∃ K, ∀ k, K ≤ k → ya4.l1 k (i : Int) (j : Int) n.f0 n.f1.f0 n.f1.f1 n.f2 n.f3 n.f4 n.f2[i].f0.f0 n.f2[i].f0.f1 n.f2[i].f1 = some (if keyA n.f2[i] ∈ (n.f2.take i).map keyA then false else R) := by
  have lf := yl5 n hw
  have stop : ∀ j, j = i → (∀ q, (hq : q < j) → (hqi : j ≤ i) → keyA (n.f2[q]'(by omega)) ≠ keyA n.f2[i]) → ∃ K, ∀ k, K ≤ k → ya4.l1 k (i : Int) (j : Int) n.f0 n.f1.f0 n.f1.f1 n.f2 n.f3 n.f4 n.f2[i].f0.f0 n.f2[i].f0.f1 n.f2[i].f1 = some (if keyA n.f2[i] ∈ (n.f2.take i).map keyA then false else R) := by
    rintro j rfl hq
    obtain ⟨K, hK⟩ := h
    refine ⟨K + 1, fun k hk => ?_⟩
    obtain ⟨k, rfl⟩ : ∃ m, k = m + 1 := ⟨k - 1, by omega⟩
    have hn : ¬ keyA n.f2[j] ∈ (n.f2.take j).map keyA := by
      intro hm
      obtain ⟨a, ha, e⟩ := List.mem_map.1 hm
      obtain ⟨q, hql, rfl⟩ := List.getElem_of_mem ha
      rw [List.length_take] at hql
      rw [List.getElem_take] at e
      exact hq q (by omega) (Nat.le_refl _) e
    rw [ya4.l1, if_neg (by omega), if_neg hn, w64s ((j : Int) + 1) (by omega) (by omega)]
    exact hK k (by omega)
  intro d
  induction d with
  | zero => intro j hj hji hq; exact stop j (by omega) hq
  | succ d ih =>
    intro j hj hji hq
    by_cases hlt : j < i
    · have e := yl3 n.f2 j (by omega)
      by_cases c : keyA n.f2[j] = keyA n.f2[i]
      · refine ⟨1, fun k hk => ?_⟩
        obtain ⟨k, rfl⟩ : ∃ m, k = m + 1 := ⟨k - 1, by omega⟩
        have hm : keyA n.f2[i] ∈ (n.f2.take i).map keyA := by
          rw [← c]
          exact List.mem_map.2 ⟨n.f2[j], List.mem_take_iff_getElem.2 ⟨j, by omega, rfl⟩, rfl⟩
        rw [ya4.l1, if_pos (by omega), if_pos (by omega), if_pos (by omega), e, if_pos ((key_same _ _).2 c), if_pos hm]
      · obtain ⟨K, hK⟩ := ih (j + 1) (by omega) (by omega) (fun q hq1 hq2 => by
          by_cases e : q = j
          · subst e; exact c
          · exact hq q (by omega) hji)
        refine ⟨K + 1, fun k hk => ?_⟩
        obtain ⟨k, rfl⟩ : ∃ m, k = m + 1 := ⟨k - 1, by omega⟩
        rw [ya4.l1, if_pos (by omega), if_pos (by omega), if_pos (by omega), e, if_neg (fun h => c ((key_same _ _).1 h)), w64s ((j : Int) + 1) (by omega) (by omega)]
        exact hK k (by omega)
    · exact stop j (by omega) hq
theorem attrs_from (R : Bool) (h : ∃ K, ∀ k, K ≤ k → ya4.l2 k 0 n.f0 n.f1.f0 n.f1.f1 n.f2 n.f3 n.f4 = some R) : ∀ (d i : Nat), n.f2.length - i ≤ d → i ≤ n.f2.length →
    ∃ K, ∀ k, K ≤ k → ya4.l0 k (i : Int) n.f0 n.f1.f0 n.f1.f1 n.f2 n.f3 n.f4 = some (attrsF ((n.f2.take i).map keyA) (n.f2.drop i) && R) := by
  have lf := yl5 n hw
  have stop : ∀ i, i = n.f2.length → ∃ K, ∀ k, K ≤ k → ya4.l0 k (i : Int) n.f0 n.f1.f0 n.f1.f1 n.f2 n.f3 n.f4 = some (attrsF ((n.f2.take i).map keyA) (n.f2.drop i) && R) := by
    rintro i rfl
    obtain ⟨K, hK⟩ := h
    refine ⟨K + 1, fun k hk => ?_⟩
    obtain ⟨k, rfl⟩ : ∃ m, k = m + 1 := ⟨k - 1, by omega⟩
    rw [ya4.l0, if_neg (by omega), List.drop_length, attrsF, Bool.true_and]
    exact hK k (by omega)
  intro d
  induction d with
  | zero => intro i hd hi; exact stop i (by omega)
  | succ d ih =>
    intro i hd hi
    by_cases hlt : i < n.f2.length
    · have e := yl3 n.f2 i hlt
      have sz := at_few n hw n.f2[i] (List.getElem_mem _)
      obtain ⟨K1, h1⟩ := ref_named n.f2[i].f0 (by omega)
      obtain ⟨K2, h2⟩ := yp9 n.f2[i].f1 (by omega)
      obtain ⟨K3, h3⟩ := inner_from n hw i hlt _ (ih (i + 1) (by omega) (by omega)) i 0 (by omega) (by omega) (fun q hq => by omega)
      rw [attrsF_step n.f2 i hlt]
      refine ⟨K1 + K2 + K3 + 3, fun k hk => ?_⟩
      obtain ⟨k, rfl⟩ : ∃ m, k = m + 2 := ⟨k - 2, by omega⟩
      rw [ya4.l0, if_pos (by omega), if_pos (by omega), e, h1 (k + 1) (by omega), Option.bind_some]
      unfold okA
      cases hn : namedB n.f2[i].f0 with
      | false => rw [if_neg (by decide), ya4.j2, if_pos rfl]; rfl
      | true =>
        rw [if_pos rfl, h2 (k + 1) (by omega), Option.bind_some]
        cases hg : signsB n.f2[i].f1 with
        | false => rw [if_neg (by decide), ya4.j2, if_pos rfl]; rfl
        | true =>
          rw [if_pos rfl]
          have fin : ∀ b : Bool, b = yj7 n.f2[i].f0 → ya4.j2 (k + 1) (i : Int) b n.f0 n.f1.f0 n.f1.f1 n.f2 n.f3 n.f4 n.f2[i].f0.f0 n.f2[i].f0.f1 n.f2[i].f1 = some ((true && (true && (!yj7 n.f2[i].f0 && !decide (keyA n.f2[i] ∈ (n.f2.take i).map keyA))) && attrsF ((n.f2.take (i + 1)).map keyA) (n.f2.drop (i + 1))) && R) := by
            rintro b rfl
            rw [ya4.j2]
            cases hx : yj7 n.f2[i].f0 with
            | true => rw [if_pos rfl]; rfl
            | false =>
              rw [if_neg (by decide), show (0 : Int) = ((0 : Nat) : Int) from rfl, h3 k (by omega)]
              by_cases hm : keyA n.f2[i] ∈ (n.f2.take i).map keyA
              · rw [if_pos hm, decide_eq_true hm]; rfl
              · rw [if_neg hm, decide_eq_false hm]; rfl
          by_cases c : n.f2[i].f0.f0.toList = []
          · rw [if_pos c]
            exact fin _ (by unfold yj7; rw [c]; rfl)
          · rw [if_neg c]
            exact fin _ (by
              unfold yj7
              have : (n.f2[i].f0.f0.toList == []) = false := by simpa using c
              rw [this]
              rfl)
    · exact stop i (by omega)
def prevT (l : List Nd) (i : Nat) : Bool := match i with | 0 => false | j + 1 => decide ((rdNd l (j : Int)).f0 = 2)
omit hw in
theorem shNs_step (l : List Nd) (i : Nat) (h : i < l.length) (b : Bool) : shNs (l.drop i) b = (shN l[i] && (!(b && decide (l[i].f0 = 2)) && shNs (l.drop (i + 1)) (decide (l[i].f0 = 2)))) := by
  rw [List.drop_eq_getElem_cons h, shNs]
theorem kids_from (hP : ∀ d ∈ n.f3, ∃ K, ∀ k, K ≤ k → ya4.f k d.f0 d.f1.f0 d.f1.f1 d.f2 d.f3 d.f4 = some (shN d)) : ∀ (d i : Nat), n.f3.length - i ≤ d → i ≤ n.f3.length →
    ∃ K, ∀ k, K ≤ k → ya4.l2 k (i : Int) n.f0 n.f1.f0 n.f1.f1 n.f2 n.f3 n.f4 = some (shNs (n.f3.drop i) (prevT n.f3 i)) := by
  have lf := yl5 n hw
  have stop : ∀ i, i = n.f3.length → ∃ K, ∀ k, K ≤ k → ya4.l2 k (i : Int) n.f0 n.f1.f0 n.f1.f1 n.f2 n.f3 n.f4 = some (shNs (n.f3.drop i) (prevT n.f3 i)) := by
    rintro i rfl
    refine ⟨1, fun k hk => ?_⟩
    obtain ⟨k, rfl⟩ : ∃ m, k = m + 1 := ⟨k - 1, by omega⟩
    rw [ya4.l2, if_neg (by omega), List.drop_length, shNs]
  intro d
  induction d with
  | zero => intro i hd hi; exact stop i (by omega)
  | succ d ih =>
    intro i hd hi
    by_cases hlt : i < n.f3.length
    · have e := yq1 n.f3 i hlt
      obtain ⟨K1, h1⟩ := hP n.f3[i] (List.getElem_mem _)
      obtain ⟨K2, h2⟩ := ih (i + 1) (by omega) (by omega)
      have e2 : prevT n.f3 (i + 1) = decide (n.f3[i].f0 = 2) := by show decide ((rdNd n.f3 (i : Int)).f0 = 2) = _; rw [e]
      rw [e2] at h2
      refine ⟨K1 + K2 + 1, fun k hk => ?_⟩
      obtain ⟨k, rfl⟩ : ∃ m, k = m + 1 := ⟨k - 1, by omega⟩
      rw [ya4.l2, if_pos (by omega), if_pos (by omega), e, h1 k (by omega), Option.bind_some, shNs_step n.f3 i hlt, w64s ((i : Int) + 1) (by omega) (by omega)]
      have st : ya4.l2 k ((i : Int) + 1) n.f0 n.f1.f0 n.f1.f1 n.f2 n.f3 n.f4 = some (shNs (n.f3.drop (i + 1)) (decide (n.f3[i].f0 = 2))) := h2 k (by omega)
      rw [st]
      cases hs : shN n.f3[i] with
      | false => rfl
      | true =>
        rw [if_pos rfl]
        by_cases h0 : (i : Int) > 0
        · rw [if_pos h0]
          obtain ⟨j, rfl⟩ : ∃ j, i = j + 1 := ⟨i - 1, by omega⟩
          have e3 : prevT n.f3 (j + 1) = decide ((rdNd n.f3 (j : Int)).f0 = 2) := rfl
          rw [e3, w64s (((j + 1 : Nat) : Int) - 1) (by omega) (by omega), show ((j + 1 : Nat) : Int) - 1 = (j : Int) by omega]
          by_cases c1 : n.f3[j + 1].f0 = 2
          · rw [if_pos c1, if_pos (by omega), if_pos (by omega)]
            by_cases c2 : (rdNd n.f3 (j : Int)).f0 = 2
            · rw [if_pos c2, decide_eq_true c1, decide_eq_true c2]; rfl
            · rw [if_neg c2, decide_eq_false c2]; rfl
          · rw [if_neg c1, decide_eq_false c1, Bool.and_false]; rfl
        · rw [if_neg h0]
          obtain rfl : i = 0 := by omega
          rfl
    · exact stop i (by omega)
end
theorem shape_ev : ∀ (m : Nat) (n : Nd), cnt n < m → wt n ≤ 30000 → ∃ K, ∀ k, K ≤ k → ya4.f k n.f0 n.f1.f0 n.f1.f1 n.f2 n.f3 n.f4 = some (shN n) := by
  intro m
  induction m with
  | zero => intro n h; omega
  | succ m ih =>
    intro n hm hw
    have lf := yl5 n hw
    obtain ⟨K1, h1⟩ := yp9 n.f4 (by omega)
    obtain ⟨K2, h2⟩ := ref_named n.f1 (by omega)
    have hk := kids_from n hw (fun d hd => ih d (by have := ym6 n.f3 d hd; have := cnt_eq n; omega) (by have := wt_mem n.f3 d hd; omega)) n.f3.length 0 (by omega) (by omega)
    obtain ⟨K3, h3⟩ := attrs_from n hw _ hk n.f2.length 0 (by omega) (by omega)
    refine ⟨K1 + K2 + K3 + 3, fun k hk => ?_⟩
    obtain ⟨k, rfl⟩ : ∃ m, k = m + 2 := ⟨k - 2, by omega⟩
    have es : shN n = if n.f0 = 2 then (!(n.f4.toList == []) && (signsB n.f4 && ((n.f1.f0.toList == [] && n.f1.f1.toList == []) && decide (n.f2.length + n.f3.length = 0)))) else decide (n.f0 = 1) && (decide (n.f4.toList = []) && (namedB n.f1 && (attrsB n.f2 && shNs n.f3 false))) := by
      obtain ⟨k, nm, t, c, x⟩ := n
      rw [shN]
    rw [ya4.f, es]
    by_cases c1 : n.f0 = 2
    · rw [if_pos c1, if_pos c1]
      by_cases c2 : n.f4.toList = []
      · rw [if_pos c2, c2]; rfl
      · have : (n.f4.toList == []) = false := by simpa using c2
        rw [if_neg c2, this, h1 (k + 1) (by omega), Option.bind_some]
        cases signsB n.f4 with
        | false => rfl
        | true =>
          rw [if_pos rfl]
          cases (n.f1.f0.toList == [] && n.f1.f1.toList == []) with
          | false => rfl
          | true =>
            rw [if_pos rfl]
            by_cases c3 : (n.f2.length : Int) = 0
            · rw [if_pos c3]
              congr 1
              have : ((n.f3.length : Int) == 0) = decide (n.f2.length + n.f3.length = 0) := by
                by_cases c4 : n.f3.length = 0
                · rw [decide_eq_true (by omega)]; simp [c4]
                · rw [decide_eq_false (by omega)]; simpa using c4
              rw [this]
              rfl
            · rw [if_neg c3, decide_eq_false (by omega)]; rfl
    rw [if_neg c1, if_neg c1]
    have jt : ya4.j0 (k + 1) true n.f0 n.f1.f0 n.f1.f1 n.f2 n.f3 n.f4 = some false := by rw [ya4.j0, if_pos rfl]
    by_cases c2 : n.f0 = 1
    · rw [if_pos c2, decide_eq_true c2]
      by_cases c3 : n.f4.toList = []
      · rw [if_pos c3, decide_eq_true c3, h2 (k + 1) (by omega), Option.bind_some]
        cases namedB n.f1 with
        | false => rw [if_neg (by decide), jt]; rfl
        | true =>
          rw [if_pos rfl, ya4.j0]
          unfold attrsB
          by_cases c4 : n.f2.length ≤ 32
          · rw [if_neg (by rw [decide_eq_false (by omega)]; decide), decide_eq_true c4, show (0 : Int) = ((0 : Nat) : Int) from rfl, h3 k (by omega)]
            simp only [List.take_zero, List.map_nil, List.drop_zero, Bool.and_true, Bool.true_and]
            rfl
          · rw [if_pos (decide_eq_true (by omega)), decide_eq_false c4]
            simp
      · rw [if_neg c3, decide_eq_false c3, jt]; rfl
    · rw [if_neg c2, decide_eq_false c2, jt]; rfl
/-- The reference's Right. -/
theorem ref_right (n : Nd) (hw : wt n ≤ 30000) : ∃ K, ∀ k, K ≤ k → ye0.f k n.f0 n.f1.f0 n.f1.f1 n.f2 n.f3 n.f4 = some (rightB n) := by
  have hc : cnt n ≤ wt n := by
    have both : ∀ m : Nat, ∀ n : Nd, cnt n < m → cnt n ≤ wt n := by
      intro m
      induction m with
      | zero => intro n h; omega
      | succ m ih =>
        intro n hm
        have e1 := cnt_eq n
        have e2 := wt_eq n
        unfold baseW at e2
        have : ∀ l : List Nd, (∀ d ∈ l, cnt d ≤ wt d) → cnts l ≤ wts l := by
          intro l
          induction l with
          | nil => intro _; simp [cnts]
          | cons d l ihl =>
            intro h
            rw [cnts, Prt.wts]
            have := h d (by simp)
            have := ihl (fun d hd => h d (by simp [hd]))
            omega
        have := this n.f3 (fun d hd => ih d (by have := ym6 n.f3 d hd; omega))
        omega
    exact both (cnt n + 1) n (by omega)
  obtain ⟨W, ⟨K1, h1⟩, w1, w2, w3, w4⟩ := nodes_ev (cnt n + 1) n (by omega) 2000 (by omega) (by omega)
  obtain ⟨K2, h2⟩ := deep_ev (cnt n + 1) n (by omega) (by omega) 30 (by omega) (by omega)
  obtain ⟨K3, h3⟩ := shape_ev (cnt n + 1) n (by omega) hw
  refine ⟨K1 + K2 + K3, fun k hk => ?_⟩
  have hr := rightB_iff n
  unfold ye0.f
  rw [h1 k (by omega), h2 k (by omega), h3 k (by omega)]
  simp only [Option.bind_some]
  by_cases c1 : n.f0 = 1
  · rw [if_pos c1]
    by_cases c2 : W ≤ 2000
    · rw [if_pos c2]
      by_cases c3 : min (dp n : Int) (30 + 1) ≤ 24
      · rw [if_pos c3]
        congr 1
        cases hs : shN n with
        | true => exact (hr.2 ⟨c1, by have := w3.1 c2; omega, by omega, hs⟩).symm
        | false =>
          cases hb : rightB n with
          | false => rfl
          | true => have := (hr.1 hb).2.2.2; rw [hs] at this; cases this
      · rw [if_neg c3]
        congr 1
        cases hb : rightB n with
        | false => rfl
        | true => have := (hr.1 hb).2.2.1; omega
    · rw [if_neg c2]
      congr 1
      cases hb : rightB n with
      | false => rfl
      | true => have := (hr.1 hb).2.1; exact absurd (w3.2 (by omega)) c2
  · rw [if_neg c1]
    congr 1
    cases hb : rightB n with
    | false => rfl
    | true => exact absurd (hr.1 hb).1 c1
end Go.Proofs.YtffpbhbiamkkpaaDoor.PP
