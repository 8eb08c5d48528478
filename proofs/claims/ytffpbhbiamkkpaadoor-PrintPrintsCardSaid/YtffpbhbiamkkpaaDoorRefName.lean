/- The reference's signs and names are the program's. -/
import Derived.Test.YtffpbhbiamkkpaaDoorRefRune
import Derived.Test.YtffpbhbiamkkpaaDoorRgtA
import Derived.Test.YtffpbhbiamkkpaaDoorPRx4
namespace Go.Proofs.YtffpbhbiamkkpaaDoor.PP
open Go Go.RowKit Go.Proofs.YtffpbhbiamkkpaaDoorW.PrintWords Go.Proofs.YtffpbhbiamkkpaaDoor.PR Go.Proofs.YtffpbhbiamkkpaaDoor.ND
open Go.Proofs.YtffpbhbiamkkpaaDoor.PG (runeT yi4 yq6 startB partB nameL nameB yo3 signsB inS)
set_option linter.unusedVariables false
/-- From some number of rounds on the answer is r. -/
def Ev {α : Type} (F : Nat → Option α) (r : α) : Prop := ∃ K, ∀ k, K ≤ k → F k = some r
theorem ref_rune' (s : ByteArray) (i k : Nat) (hi : i < s.size) (hs : s.size ≤ 140737488351232) (hk : 30 ≤ k) : yb1.f k s i = some (runeT s i) := by
  obtain ⟨k, rfl⟩ : ∃ m, k = m + 30 := ⟨k - 30, by omega⟩
  show PV.yb1.f (k + 30) s i = _
  rw [Lx.ref_rune s i k hi hs, Lx.runeT_U s i hi hs]
theorem ref_charK (n : Int) (k : Nat) (hk : 12 ≤ k) : yd1.f k n = some (PL.charB n) := by
  obtain ⟨k, rfl⟩ : ∃ m, k = 12 + m := ⟨k - 12, by omega⟩
  exact PL.ref_char' n k
def inI (n : Int) : List Int → Bool
  | a :: b :: r => (decide (a ≤ n) && decide (n ≤ b)) || inI n r
  | _ => false
theorem in_from (n : Int) (l : List Int) (hl : l.length ≤ 1000) : ∀ (d i k : Nat), i ≤ 1000 → l.length - i ≤ d → d < k → PL.yb8.l0 k n l (i : Int) = some (inI n (l.drop i)) := by
  intro d
  induction d using Nat.strongRecOn with
  | _ d ih =>
    intro i k hi hd hk
    obtain ⟨k, rfl⟩ : ∃ m, k = m + 1 := ⟨k - 1, by omega⟩
    have e1 : wrap64 ((i : Int) + 1) = ((i + 1 : Nat) : Int) := by unfold wrap64; omega
    have e2 : wrap64 ((i : Int) + 2) = ((i + 2 : Nat) : Int) := by unfold wrap64; omega
    rw [PL.yb8.l0, e1]
    by_cases h : i + 1 < l.length
    · have r0 : rd l (i : Int) = l[i] := by unfold rd; simp [show i < l.length by omega]
      have r1 : rd l ((i + 1 : Nat) : Int) = l[i + 1] := by unfold rd; rw [Int.toNat_natCast, List.getD_eq_getElem?_getD, List.getElem?_eq_getElem h, Option.getD_some]
      have ed : l.drop i = l[i] :: l[i + 1] :: l.drop (i + 2) := by rw [List.drop_eq_getElem_cons (show i < l.length by omega), List.drop_eq_getElem_cons h]
      have st := ih (d - 2) (by omega) (i + 2) k (by omega) (by omega) (by omega)
      rw [if_pos (by omega), if_pos (by omega), if_pos (by omega), r0, e2, ed]
      unfold inI
      by_cases c1 : n ≥ l[i]
      · rw [if_pos c1, if_pos (by omega), r1]
        by_cases c2 : n ≤ l[i + 1]
        · rw [if_pos c2, decide_eq_true c1, decide_eq_true c2]; rfl
        · rw [if_neg c2, st, decide_eq_false c2, Bool.and_false, Bool.false_or]
      · rw [if_neg c1, st, decide_eq_false c1, Bool.false_and, Bool.false_or]
    · rw [if_neg (by omega)]
      have : inI n (l.drop i) = false := by
        match hq : l.drop i with
        | [] => rfl
        | [a] => rfl
        | a :: b :: r =>
          have := congrArg List.length hq
          rw [List.length_drop] at this
          simp at this
          omega
      rw [this]
theorem in_f (n : Int) (l : List Int) (hl : l.length ≤ 1000) (k : Nat) (hk : l.length < k) : yb8.f k n l = some (inI n l) := by
  have := in_from n l hl l.length 0 k (by omega) (by omega) hk
  rw [List.drop_zero] at this
  exact this
theorem ref_start (n : Int) (k : Nat) (hk : 50 ≤ k) : yd4.f k n = some (startB n) := by
  unfold yd4.f
  rw [in_f n _ (by decide) k (by simp; omega), Option.bind_some]
  rfl
theorem ref_part (n : Int) (k : Nat) (hk : 50 ≤ k) : yd7.f k n = some (partB n) := by
  unfold yd7.f
  rw [ref_start n k hk, Option.bind_some]
  unfold partB
  cases h : startB n with
  | true => rw [if_pos rfl]; rfl
  | false =>
    rw [if_neg (by decide), in_f n _ (by decide) k (by simp; omega), Option.bind_some, Bool.false_or]
    unfold inS
    by_cases c1 : n = 45
    · rw [if_pos c1, c1]; rfl
    rw [if_neg c1]
    by_cases c2 : n = 46
    · rw [if_pos c2, c2]; rfl
    rw [if_neg c2]
    have : (decide ((45 : Int) ≤ n) && decide (n ≤ 46)) = false := by
      rw [Bool.and_eq_false_iff]
      by_cases c : 45 ≤ n
      · exact Or.inr (decide_eq_false (by omega))
      · exact Or.inl (decide_eq_false c)
    simp only [List.any_cons, this, Bool.false_or, inI, List.any_nil]
theorem signs_both (s : ByteArray) (hs : s.size ≤ 140737488351232) : ∀ (d i k k' : Nat), s.size - i ≤ d → i ≤ s.size → d + 13 ≤ k → d + 40 ≤ k' → ∃ b, PG.ye3.l0 k s i = some b ∧ yb6.l0 k' s i = some b := by
  intro d
  induction d with
  | zero =>
    intro i k k' hd hi hk hk'
    obtain ⟨k, rfl⟩ : ∃ m, k = m + 1 := ⟨k - 1, by omega⟩
    obtain ⟨k', rfl⟩ : ∃ m, k' = m + 1 := ⟨k' - 1, by omega⟩
    exact ⟨true, by rw [PG.ye3.l0, if_neg (by omega)], by rw [yb6.l0, if_neg (by omega)]⟩
  | succ d ih =>
    intro i k k' hd hi hk hk'
    by_cases hlt : i < s.size
    · obtain ⟨k, rfl⟩ : ∃ m, k = m + 1 := ⟨k - 1, by omega⟩
      obtain ⟨k', rfl⟩ : ∃ m, k' = m + 1 := ⟨k' - 1, by omega⟩
      obtain ⟨e, hn, hb⟩ := yi4 s i hs
      rw [PG.ye3.l0, yb6.l0, if_pos (by omega), if_pos (by omega), e, ref_rune' s i k' hlt hs (by omega), Option.bind_some, Option.bind_some]
      by_cases hz : (runeT s i).2 = 0
      · exact ⟨false, by rw [if_pos hz], by rw [if_pos hz]⟩
      obtain ⟨_, hb1, _⟩ := hb hz
      obtain ⟨n, hn⟩ : ∃ n : Nat, (runeT s i).2 = (n : Int) := ⟨(runeT s i).2.toNat, by omega⟩
      have hc1 : PG.yg0.f k (runeT s i).1 = some (PL.charB (runeT s i).1) := yq6 _ k (by omega)
      rw [if_neg hz, if_neg hz, hc1, ref_charK _ k' (by omega), Option.bind_some, Option.bind_some]
      cases hc : PL.charB (runeT s i).1 with
      | false => exact ⟨false, rfl, rfl⟩
      | true =>
        obtain ⟨b, h1, h2⟩ := ih (i + n) k k' (by omega) (by omega) (by omega) (by omega)
        rw [if_pos rfl, if_pos rfl, hn, PL.w64 _ (by omega) (by omega)]
        exact ⟨b, h1, h2⟩
    · exact ih i k k' (by omega) hi (by omega) (by omega)
theorem yp9 (s : ByteArray) (hs : s.size ≤ 140737488351232) : ∃ K, ∀ k, K ≤ k → yb6.f k s = some (signsB s) := by
  refine ⟨s.size + 40, fun k hk => ?_⟩
  obtain ⟨b, h1, h2⟩ := signs_both s hs s.size 0 (s.size + 20) k (by omega) (by omega) (by omega) (by omega)
  have e : PG.ye3.f (s.size + 20) s = some b := h1
  have : signsB s = b := by unfold PG.signsB; rw [e]; rfl
  rw [this]
  exact h2
theorem start_part {n : Int} (h : startB n = true) : partB n = true := by unfold partB; rw [h]; rfl
theorem name_from (s : ByteArray) (hs : s.size ≤ 64) : ∀ (d i k m : Nat), s.size - i ≤ d → i ≤ s.size → d + 60 ≤ k → d < m → yc2.l0 k s i = some (nameL m s i (decide (i = 0))) := by
  intro d
  induction d with
  | zero =>
    intro i k m hd hi hk hm
    obtain ⟨k, rfl⟩ : ∃ m, k = m + 1 := ⟨k - 1, by omega⟩
    obtain ⟨m, rfl⟩ : ∃ q, m = q + 1 := ⟨m - 1, by omega⟩
    rw [yc2.l0, if_neg (by omega), nameL, if_neg (by omega)]
  | succ d ih =>
    intro i k m hd hi hk hm
    by_cases hlt : i < s.size
    · obtain ⟨k, rfl⟩ : ∃ m, k = m + 1 := ⟨k - 1, by omega⟩
      obtain ⟨m, rfl⟩ : ∃ q, m = q + 1 := ⟨m - 1, by omega⟩
      obtain ⟨e, hn, hb⟩ := yi4 s i (by omega)
      rw [yc2.l0, if_pos (by omega), ref_rune' s i k hlt (by omega) (by omega), Option.bind_some, yo3 m s i _ (by omega)]
      by_cases hz : (runeT s i).2 = 0
      · rw [if_pos hz, if_pos hz]
      obtain ⟨_, hb1, _⟩ := hb hz
      obtain ⟨n, hn⟩ : ∃ n : Nat, (runeT s i).2 = (n : Int) := ⟨(runeT s i).2.toNat, by omega⟩
      have st := ih (i + n) k m (by omega) (by omega) (by omega) (by omega)
      rw [show decide (i + n = 0) = false from decide_eq_false (by omega), Int.natCast_add] at st
      rw [if_neg hz, if_neg hz, ref_start _ k (by omega), ref_part _ k (by omega), hn, PL.w64 _ (by omega) (by omega)]
      simp only [Option.bind_some]
      by_cases h0 : i = 0
      · rw [if_pos (by omega), decide_eq_true h0, if_pos rfl]
        cases hsB : startB (runeT s i).1 with
        | true =>
          rw [if_pos rfl, if_pos (start_part hsB), if_pos rfl, st]
        | false => rfl
      · have e0 : (if decide (i = 0) = true then startB (runeT s i).1 else partB (runeT s i).1) = partB (runeT s i).1 := by rw [decide_eq_false h0]; rfl
        rw [if_neg (by omega), e0]
        cases hpB : partB (runeT s i).1 with
        | true => rw [if_pos rfl, if_pos rfl, st]
        | false => rfl
    · exact ih i k m (by omega) hi (by omega) (by omega)
theorem ref_name (s : ByteArray) (k : Nat) (hk : 130 ≤ k) : yc2.f k s = some (nameB s) := by
  obtain ⟨k, rfl⟩ : ∃ m, k = m + 1 := ⟨k - 1, by omega⟩
  unfold yc2.f nameB
  by_cases h0 : s.size = 0
  · rw [if_pos (by omega), if_pos h0, yc2.j0, if_pos rfl]
  rw [if_neg (by omega), if_neg h0, yc2.j0]
  by_cases h1 : 64 < s.size
  · rw [if_pos h1, if_pos (decide_eq_true (by omega))]
  · rw [if_neg h1, if_neg (by rw [decide_eq_false (by omega)]; decide)]
    exact name_from s (by omega) s.size 0 k 65 (by omega) (by omega) (by omega) (by omega)
theorem ref_named (n : Nm) (hs : n.f0.size ≤ 140737488351232) : ∃ K, ∀ k, K ≤ k → yc5.f k n.f0 n.f1 = some (namedB n) := by
  obtain ⟨K, hK⟩ := yp9 n.f0 hs
  refine ⟨K + 130, fun k hk => ?_⟩
  unfold yc5.f namedB
  rw [ref_name n.f1 k (by omega), hK k (by omega), Option.bind_some, Option.bind_some]
  cases nameB n.f1 with
  | false => rfl
  | true =>
    cases signsB n.f0 with
    | false => rfl
    | true => rfl
end Go.Proofs.YtffpbhbiamkkpaaDoor.PP
