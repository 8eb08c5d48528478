/- The reference's Right is tree's. -/
import Derived.Test.YtffpbhbiamkkpaaDoorRefEsc
import Derived.Test.YtffpbhbiamkkpaaDoorFewN
import Derived.Test.YtffpbhbiamkkpaaDoorRgt
namespace Go.Proofs.YtffpbhbiamkkpaaDoor.PP
open Go Go.RowKit Go.Proofs.YtffpbhbiamkkpaaDoorW.PrintWords Go.Proofs.YtffpbhbiamkkpaaDoor.PR Go.Proofs.YtffpbhbiamkkpaaDoor.ND
open Go.Proofs.YtffpbhbiamkkpaaDoor.Prt (wt wts wA wAs)
open Go.Proofs.YtffpbhbiamkkpaaDoor.PG (signsB)
set_option linter.unusedVariables false
mutual
def cnt : Nd → Nat
  | ⟨_, _, _, c, _⟩ => 1 + cnts c
def cnts : List Nd → Nat
  | [] => 0
  | d :: r => cnt d + cnts r
end
mutual
def dp : Nd → Nat
  | ⟨k, _, _, c, _⟩ => if k = 1 then 1 + dps c else 0
def dps : List Nd → Nat
  | [] => 0
  | d :: r => max (dp d) (dps r)
end
mutual
def shN : Nd → Bool
  | ⟨k, nm, t, c, x⟩ => if k = 2 then (!(x.toList == []) && (signsB x && ((nm.f0.toList == [] && nm.f1.toList == []) && decide (t.length + c.length = 0)))) else decide (k = 1) && (decide (x.toList = []) && (namedB nm && (attrsB t && shNs c false)))
/-- Nodes behind a text, or not. -/
def shNs : List Nd → Bool → Bool
  | [], _ => true
  | d :: r, b => shN d && (!(b && decide (d.f0 = 2)) && shNs r (decide (d.f0 = 2)))
end
theorem cnt_eq (n : Nd) : cnt n = 1 + cnts n.f3 := by obtain ⟨k, nm, t, c, x⟩ := n; rw [cnt]
theorem dp_eq (n : Nd) : dp n = if n.f0 = 1 then 1 + dps n.f3 else 0 := by obtain ⟨k, nm, t, c, x⟩ := n; rw [dp]
theorem cnt_pos (n : Nd) : 1 ≤ cnt n := by rw [cnt_eq]; omega
mutual
theorem right_iff : ∀ (n : Nd) (deep : Int) (text : Bool) (left : Int), ((rightN n deep text left).1 = true ↔ ((cnt n : Int) ≤ left ∧ (dp n = 0 ∨ deep + dp n ≤ 25) ∧ shN n = true ∧ ¬ (text = true ∧ n.f0 = 2))) ∧ ((rightN n deep text left).1 = true → (rightN n deep text left).2 = left - cnt n)
  | ⟨k, nm, t, c, x⟩, deep, text, left => by
    rw [rightN, cnt, dp, shN]
    by_cases h1 : left - 1 < 0
    · rw [if_pos h1]
      exact ⟨⟨fun h => (by cases h), fun h => (by have := h.1; omega)⟩, fun h => by cases h⟩
    rw [if_neg h1]
    by_cases h2 : k = 2
    · rw [if_pos h2, if_pos h2, if_neg (by omega)]
      have hc : (!text && (!(x.toList == []) && (signsB x && ((nm.f0.toList == [] && nm.f1.toList == []) && decide (t.length + c.length = 0))))) = true → c = [] := by
        intro h
        simp only [Bool.and_eq_true, decide_eq_true_eq] at h
        exact List.length_eq_zero_iff.1 (by omega)
      refine ⟨⟨fun h => ?_, fun h => ?_⟩, fun h => ?_⟩
      · have e := hc h
        obtain ⟨a, b⟩ := Bool.and_eq_true_iff.1 h
        rw [e, cnts]
        exact ⟨by omega, Or.inl rfl, by rw [e] at b; exact b, fun hh => by rw [hh.1] at a; cases a⟩
      · refine Bool.and_eq_true_iff.2 ⟨?_, h.2.2.1⟩
        cases text with
        | false => rfl
        | true => exact absurd ⟨rfl, h2⟩ h.2.2.2
      · have e := hc h
        rw [e, cnts]
        show left - 1 = _
        omega
    rw [if_neg h2, if_neg h2]
    by_cases h3 : k = 1 ∧ deep ≤ 24 ∧ x.toList = [] ∧ namedB nm = true ∧ attrsB t = true
    · have ih := rights_iff c (deep + 1) false (left - 1) (by omega)
      rw [if_pos h3, if_pos h3.1, decide_eq_true h3.1, decide_eq_true h3.2.2.1, h3.2.2.2.1, h3.2.2.2.2]
      refine ⟨⟨fun h => ?_, fun h => ?_⟩, fun h => ?_⟩
      · obtain ⟨a, b, d⟩ := ih.1.1 h
        exact ⟨by omega, Or.inr (by omega), by rw [d]; rfl, fun hh => h2 hh.2⟩
      · refine ih.1.2 ⟨by have := h.1; omega, ?_, ?_⟩
        · rcases h.2.1 with a | a <;> omega
        · have := h.2.2.1
          simpa using this
      · rw [ih.2 h]
        omega
    · rw [if_neg h3]
      refine ⟨⟨fun h => (by cases h), fun h => ?_⟩, fun h => by cases h⟩
      have hs := h.2.2.1
      simp only [Bool.and_eq_true, decide_eq_true_eq] at hs
      have hd := h.2.1
      rw [if_pos hs.1] at hd
      exact absurd ⟨hs.1, by omega, hs.2.1, hs.2.2.1, hs.2.2.2.1⟩ h3
theorem rights_iff : ∀ (l : List Nd) (deep : Int) (b : Bool) (left : Int), 0 ≤ left → ((yg9 l deep b left).1 = true ↔ ((cnts l : Int) ≤ left ∧ (dps l = 0 ∨ deep + dps l ≤ 25) ∧ shNs l b = true)) ∧ ((yg9 l deep b left).1 = true → (yg9 l deep b left).2 = left - cnts l)
  | [], deep, b, left, hl => by
    rw [yg9, cnts, dps, shNs]
    exact ⟨⟨fun _ => ⟨by omega, Or.inl rfl, rfl⟩, fun _ => rfl⟩, fun _ => by show left = _; omega⟩
  | d :: r, deep, b, left, hl => by
    have i1 := right_iff d deep b left
    rw [yg9, cnts, dps, shNs]
    by_cases c1 : (rightN d deep b left).1 = true
    · rw [if_pos c1, i1.2 c1]
      obtain ⟨a1, a2, a3, a4⟩ := i1.1.1 c1
      have i2 := rights_iff r deep (decide (d.f0 = 2)) (left - cnt d) (by omega)
      have e4 : (!(b && decide (d.f0 = 2))) = true := by
        cases b with
        | false => rfl
        | true => rw [decide_eq_false (fun h => a4 ⟨rfl, h⟩)]; rfl
      rw [a3, e4, Bool.true_and, Bool.true_and]
      refine ⟨i2.1.trans ⟨fun ⟨x, y, z⟩ => ⟨by omega, ?_, z⟩, fun ⟨x, y, z⟩ => ⟨by omega, ?_, z⟩⟩, fun h => by rw [i2.2 h]; omega⟩
      · rcases a2 with a2 | a2 <;> rcases y with y | y
        · exact Or.inl (by omega)
        · exact Or.inr (by omega)
        · exact Or.inr (by omega)
        · exact Or.inr (by omega)
      · rcases y with y | y
        · exact Or.inl (by omega)
        · exact Or.inr (by omega)
    · rw [if_neg c1]
      refine ⟨⟨fun h => (by cases h), fun ⟨x, y, z⟩ => absurd (i1.1.2 ⟨by omega, ?_, ?_, ?_⟩) c1⟩, fun h => by cases h⟩
      · rcases y with y | y
        · exact Or.inl (by omega)
        · exact Or.inr (by omega)
      · simp only [Bool.and_eq_true] at z
        exact z.1
      · simp only [Bool.and_eq_true] at z
        rintro ⟨rfl, h⟩
        rw [decide_eq_true h] at z
        exact absurd z.2.1 (by decide)
end
/-- Right, by parts. -/
theorem rightB_iff (n : Nd) : rightB n = true ↔ (n.f0 = 1 ∧ cnt n ≤ 2000 ∧ dp n ≤ 24 ∧ shN n = true) := by
  unfold rightB
  rw [Bool.and_eq_true, decide_eq_true_eq, (right_iff n 1 false 2000).1]
  constructor
  · rintro ⟨h, a, b, c, _⟩
    exact ⟨h, by omega, by rcases b with b | b <;> omega, c⟩
  · rintro ⟨h, a, b, c⟩
    exact ⟨h, by omega, Or.inr (by omega), c, fun hh => by cases hh.1⟩
/-- What Nodes says. -/
def NP (n : Nd) (M : Int) : Prop := ∃ W : Int, (∃ K, ∀ k, K ≤ k → yc4.f k n.f0 n.f1.f0 n.f1.f1 n.f2 n.f3 n.f4 M = some W) ∧ 1 ≤ W ∧ W ≤ 2 * M + 2 ∧ (W ≤ M ↔ (cnt n : Int) ≤ M) ∧ (W ≤ M → W = cnt n)
theorem cnts_take (l : List Nd) (i : Nat) (h : i < l.length) : cnts (l.take (i + 1)) = cnts (l.take i) + cnt l[i] := by
  have app : ∀ a b : List Nd, cnts (a ++ b) = cnts a + cnts b := by
    intro a
    induction a with
    | nil => intro b; simp [cnts]
    | cons d a ih => intro b; rw [List.cons_append, cnts, cnts, ih]; omega
  rw [List.take_add_one, List.getElem?_eq_getElem h, app]
  simp [cnts]
theorem cnts_mono (l : List Nd) (i : Nat) : cnts (l.take i) ≤ cnts l := by
  have app : ∀ a b : List Nd, cnts (a ++ b) = cnts a + cnts b := by
    intro a
    induction a with
    | nil => intro b; simp [cnts]
    | cons d a ih => intro b; rw [List.cons_append, cnts, cnts, ih]; omega
  have := app (l.take i) (l.drop i)
  rw [List.take_append_drop] at this
  omega
theorem n_kids (n : Nd) (M : Int) (hM0 : 0 ≤ M) (hM : M ≤ 2000) (hP : ∀ d ∈ n.f3, ∀ M', 0 ≤ M' → M' ≤ 2000 → NP d M') : ∀ (j i : Nat) (w : Int), n.f3.length - i ≤ j → i ≤ n.f3.length → (i : Int) + 1 ≤ w → w ≤ 2 * M + 2 → (w ≤ M ↔ ((1 + cnts (n.f3.take i) : Nat) : Int) ≤ M) → (w ≤ M → w = ((1 + cnts (n.f3.take i) : Nat) : Int)) →
    ∃ W : Int, (∃ K, ∀ k, K ≤ k → yc4.l0 k M w (i : Int) n.f0 n.f1.f0 n.f1.f1 n.f2 n.f3 n.f4 = some W) ∧ 1 ≤ W ∧ W ≤ 2 * M + 2 ∧ (W ≤ M ↔ (cnt n : Int) ≤ M) ∧ (W ≤ M → W = cnt n) := by
  have stop : ∀ (i : Nat) (w : Int), i = n.f3.length → (i : Int) + 1 ≤ w → w ≤ 2 * M + 2 → (w ≤ M ↔ ((1 + cnts (n.f3.take i) : Nat) : Int) ≤ M) → (w ≤ M → w = ((1 + cnts (n.f3.take i) : Nat) : Int)) →
      ∃ W : Int, (∃ K, ∀ k, K ≤ k → yc4.l0 k M w (i : Int) n.f0 n.f1.f0 n.f1.f1 n.f2 n.f3 n.f4 = some W) ∧ 1 ≤ W ∧ W ≤ 2 * M + 2 ∧ (W ≤ M ↔ (cnt n : Int) ≤ M) ∧ (W ≤ M → W = cnt n) := by
    intro i w hi h1 h2 h3 h4
    rw [hi, List.take_length, ← cnt_eq] at h3 h4
    refine ⟨w, ⟨1, fun k hk => ?_⟩, by omega, h2, h3, h4⟩
    obtain ⟨k, rfl⟩ : ∃ m, k = m + 1 := ⟨k - 1, by omega⟩
    rw [yc4.l0, if_neg (by omega)]
  intro j
  induction j with
  | zero => intro i w hj hi h1 h2 h3 h4; exact stop i w (by omega) h1 h2 h3 h4
  | succ j ih =>
    intro i w hj hi h1 h2 h3 h4
    by_cases hlt : i < n.f3.length
    · by_cases hw : w ≤ M
      · obtain ⟨W, ⟨K, hK⟩, w1, w2, w3, w4⟩ := hP n.f3[i] (List.getElem_mem _) (M - w) (by omega) (by omega)
        have e4 := h4 hw
        have et := cnts_take n.f3 i hlt
        obtain ⟨W', ⟨K', hK'⟩, v⟩ := ih (i + 1) (w + W) (by omega) (by omega) (by omega) (by omega) (by rw [et]; constructor <;> intro h <;> omega) (fun h => by have := w4 (by omega); rw [et]; omega)
        refine ⟨W', ⟨K + K' + 1, fun k hk => ?_⟩, v⟩
        obtain ⟨k, rfl⟩ : ∃ m, k = m + 1 := ⟨k - 1, by omega⟩
        rw [yc4.l0, if_pos (by omega), if_pos hw, if_pos (by omega), yq1 n.f3 i hlt, w64s (M - w) (by omega) (by omega), hK k (by omega), Option.bind_some, w64s (w + W) (by omega) (by omega), w64s ((i : Int) + 1) (by omega) (by omega)]
        exact hK' k (by omega)
      · have hm := cnts_mono n.f3 i
        have he := cnt_eq n
        refine ⟨w, ⟨1, fun k hk => ?_⟩, by omega, h2, ⟨fun h => absurd h hw, fun h => absurd (h3.2 (by omega)) hw⟩, fun h => absurd h hw⟩
        obtain ⟨k, rfl⟩ : ∃ m, k = m + 1 := ⟨k - 1, by omega⟩
        rw [yc4.l0, if_pos (by omega), if_neg hw]
    · exact stop i w (by omega) h1 h2 h3 h4
theorem ym6 : ∀ (l : List Nd) (d : Nd), d ∈ l → cnt d ≤ cnts l
  | [], d, h => by cases h
  | e :: r, d, h => by
    rw [cnts]
    rcases List.mem_cons.1 h with rfl | h
    · omega
    · have := ym6 r d h; omega
theorem nodes_ev : ∀ (m : Nat) (n : Nd), cnt n < m → ∀ M, 0 ≤ M → M ≤ 2000 → NP n M := by
  intro m
  induction m with
  | zero => intro n h; omega
  | succ m ih =>
    intro n hm M h0 h1
    have hP : ∀ d ∈ n.f3, ∀ M', 0 ≤ M' → M' ≤ 2000 → NP d M' := fun d hd M' a b => ih d (by
      have := ym6 n.f3 d hd
      have e := cnt_eq n
      omega) M' a b
    obtain ⟨W, ⟨K, hK⟩, v⟩ := n_kids n M h0 h1 hP n.f3.length 0 1 (by omega) (by omega) (by omega) (by omega) (by simp [cnts]) (fun h => by simp [cnts])
    refine ⟨W, ⟨K + 1, fun k hk => ?_⟩, v⟩
    obtain ⟨k, rfl⟩ : ∃ m, k = m + 1 := ⟨k - 1, by omega⟩
    rw [yc4.f]
    exact hK k (by omega)
/-- What Deep says. -/
def DP (n : Nd) (M : Int) : Prop := ∃ K, ∀ k, K ≤ k → yc1.f k n.f0 n.f1.f0 n.f1.f1 n.f2 n.f3 n.f4 M = some (min (dp n : Int) (M + 1))
theorem dps_take (l : List Nd) (i : Nat) (h : i < l.length) : dps (l.take (i + 1)) = max (dps (l.take i)) (dp l[i]) := by
  have app : ∀ a b : List Nd, dps (a ++ b) = max (dps a) (dps b) := by
    intro a
    induction a with
    | nil => intro b; simp [dps]
    | cons d a ih => intro b; rw [List.cons_append, dps, dps, ih]; omega
  rw [List.take_add_one, List.getElem?_eq_getElem h, app]
  simp [dps]
theorem d_kids (n : Nd) (M : Int) (hM0 : 0 ≤ M) (hM : M ≤ 100) (hk1 : n.f0 = 1) (hl : n.f3.length ≤ 100000000) (hP : ∀ d ∈ n.f3, DP d (M - 1)) : ∀ (j i : Nat), n.f3.length - i ≤ j → i ≤ n.f3.length →
    ∃ K, ∀ k, K ≤ k → yc1.l0 k M (min (dps (n.f3.take i) : Int) M) (i : Int) n.f0 n.f1.f0 n.f1.f1 n.f2 n.f3 n.f4 = some (min (dp n : Int) (M + 1)) := by
  have stop : ∀ (i : Nat), i = n.f3.length → ∃ K, ∀ k, K ≤ k → yc1.l0 k M (min (dps (n.f3.take i) : Int) M) (i : Int) n.f0 n.f1.f0 n.f1.f1 n.f2 n.f3 n.f4 = some (min (dp n : Int) (M + 1)) := by
    intro i hi
    refine ⟨1, fun k hk => ?_⟩
    obtain ⟨k, rfl⟩ : ∃ m, k = m + 1 := ⟨k - 1, by omega⟩
    have e := dp_eq n
    rw [if_pos hk1] at e
    rw [yc1.l0, if_neg (by omega), hi, List.take_length, w64s _ (by omega) (by omega), e]
    congr 1
    omega
  intro j
  induction j with
  | zero => intro i hj hi; exact stop i (by omega)
  | succ j ih =>
    intro i hj hi
    by_cases hlt : i < n.f3.length
    · obtain ⟨K, hK⟩ := hP n.f3[i] (List.getElem_mem _)
      obtain ⟨K', hK'⟩ := ih (i + 1) (by omega) (by omega)
      rw [dps_take n.f3 i hlt] at hK'
      refine ⟨K + K' + 1, fun k hk => ?_⟩
      obtain ⟨k, rfl⟩ : ∃ m, k = m + 1 := ⟨k - 1, by omega⟩
      have st := hK' k (by omega)
      rw [yc1.l0, if_pos (by omega), if_pos (by omega), yq1 n.f3 i hlt, w64s (M - 1) (by omega) (by omega), hK k (by omega), Option.bind_some, w64s ((i : Int) + 1) (by omega) (by omega)]
      by_cases c : min (dp n.f3[i] : Int) (M - 1 + 1) > min (dps (n.f3.take i) : Int) M
      · rw [if_pos c, ← st]
        congr 1
        omega
      · rw [if_neg c, ← st]
        congr 1
        omega
    · exact stop i (by omega)
theorem deep_ev : ∀ (m : Nat) (n : Nd), cnt n < m → cnt n ≤ 100000000 → ∀ M, -1 ≤ M → M ≤ 100 → DP n M := by
  intro m
  induction m with
  | zero => intro n h; omega
  | succ m ih =>
    intro n hm hc M h0 h1
    have e := dp_eq n
    by_cases hk1 : n.f0 = 1
    · rw [if_pos hk1] at e
      by_cases hM : M < 0
      · refine ⟨2, fun k hk => ?_⟩
        obtain ⟨k, rfl⟩ : ∃ m, k = m + 2 := ⟨k - 2, by omega⟩
        rw [yc1.f, if_pos hk1, decide_eq_true hM, yc1.j0, if_pos rfl]
        congr 1
        omega
      · have hl : n.f3.length ≤ cnts n.f3 := by
          have : ∀ l : List Nd, l.length ≤ cnts l := by
            intro l
            induction l with
            | nil => simp
            | cons d l ihl => rw [cnts, List.length_cons]; have := cnt_pos d; omega
          exact this _
        have ce := cnt_eq n
        obtain ⟨K, hK⟩ := d_kids n M (by omega) h1 hk1 (by omega) (fun d hd => ih d (by have := ym6 n.f3 d hd; omega) (by have := ym6 n.f3 d hd; omega) (M - 1) (by omega) (by omega)) n.f3.length 0 (by omega) (by omega)
        refine ⟨K + 2, fun k hk => ?_⟩
        obtain ⟨k, rfl⟩ : ∃ m, k = m + 2 := ⟨k - 2, by omega⟩
        have st := hK k (by omega)
        rw [yc1.f, if_pos hk1, decide_eq_false hM, yc1.j0, if_neg (by decide), ← st]
        congr 1
        simp [dps]
        omega
    · rw [if_neg hk1] at e
      refine ⟨2, fun k hk => ?_⟩
      obtain ⟨k, rfl⟩ : ∃ m, k = m + 2 := ⟨k - 2, by omega⟩
      rw [yc1.f, if_neg hk1, yc1.j0, if_pos rfl]
      congr 1
      omega
end Go.Proofs.YtffpbhbiamkkpaaDoor.PP
