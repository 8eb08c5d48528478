/- strings.ReplaceAll of one byte, and of 13 10, byte by byte. No program in sight. -/
import Derived.Test.YtffpbhbiamkkpaaDoorUL
import Derived.Lib.Replace
import Derived.Lib.CountLaws
namespace Go.Plain
open Go.Lib
theorem count_nil (old : List UInt8) (h : old ≠ []) : count [] old = 0 := by
  apply count_miss
  unfold index
  cases old with
  | nil => exact absurd rfl h
  | cons a t => rfl
theorem repl_nil (old new : List UInt8) (h : old ≠ []) : replaceAll [] old new = [] := by
  unfold replaceAll replace
  split
  · rfl
  · unfold replaceNum
    rw [if_pos (Or.inl (by decide)), count_nil old h]
    rfl
theorem repl_hit (old new : List UInt8) (hne : old ≠ new) (h : old ≠ []) (s : List UInt8) (hp : old.isPrefixOf s = true) :
    replaceAll s old new = new ++ replaceAll (s.drop old.length) old new := by
  have hi : index s old = ((0 : Nat) : Int) := by
    cases s with
    | nil => cases old with
      | nil => exact absurd rfl h
      | cons a t => exact absurd hp (by simp)
    | cons b l => unfold index; rw [if_pos hp]; rfl
  have hb : (old == new) = false := by simpa using hne
  have hc := count_hit h hi
  unfold replaceAll replace replaceNum
  rw [hb]
  simp only [Bool.false_eq_true, if_false]
  rw [if_pos (Or.inl (by decide)), if_pos (Or.inl (by decide)), hc, Nat.add_comm, replaceK_hit old new _ s 0 hi]
  simp
theorem repl_miss (old new : List UInt8) (hne : old ≠ new) (h : old ≠ []) (b : UInt8) (l : List UInt8) (hp : old.isPrefixOf (b :: l) = false) :
    replaceAll (b :: l) old new = b :: replaceAll l old new := by
  have hb : (old == new) = false := by simpa using hne
  have e : index (b :: l) old = if index l old == -1 then -1 else index l old + 1 := by
    conv => lhs; unfold index
    rw [hp]
    simp
  unfold replaceAll replace replaceNum
  rw [hb]
  simp only [Bool.false_eq_true, if_false]
  rw [if_pos (Or.inl (by decide)), if_pos (Or.inl (by decide))]
  by_cases hm : index l old = -1
  · rw [hm] at e
    have e' : index (b :: l) old = -1 := by rw [e]; rfl
    rw [count_miss hm, count_miss e']
    rfl
  · have hge := index_ge l old
    obtain ⟨i, hi⟩ := Int.eq_ofNat_of_zero_le (show 0 ≤ index l old by omega)
    have e' : index (b :: l) old = ((i + 1 : Nat) : Int) := by
      rw [e, hi]
      have : ((i : Int) == -1) = false := beq_eq_false_iff_ne.2 (by omega)
      simp [this]
    rw [count_hit h e', count_hit h hi]
    have hd : (b :: l).drop (i + 1 + old.length) = l.drop (i + old.length) := by
      rw [show i + 1 + old.length = (i + old.length) + 1 by omega, List.drop_succ_cons]
    rw [hd, Nat.add_comm 1, replaceK_hit old new _ l i hi, replaceK_hit old new _ (b :: l) (i + 1) e', hd]
    simp
/-- One byte for another. -/
theorem repl_one (c d : UInt8) (hcd : c ≠ d) : ∀ s : List UInt8, replaceAll s [c] [d] = s.map (fun x => if x = c then d else x)
  | [] => repl_nil _ _ (by simp)
  | b :: l => by
    by_cases hb : b = c
    · subst hb
      rw [repl_hit [b] [d] (by simpa using hcd) (by simp) _ (by simp)]
      simp [repl_one b d hcd l]
    · rw [repl_miss [c] [d] (by simpa using hcd) (by simp) b l (by simp [List.isPrefixOf]; exact fun h => hb h.symm), repl_one c d hcd l]
      simp [hb]
theorem repl_crlf : ∀ s : List UInt8, replaceAll s [13, 10] [10] = crlf s
  | [] => repl_nil _ _ (by simp)
  | [b] => by
    rw [repl_miss _ _ (by simp) (by simp) b [] (by simp [List.isPrefixOf]), repl_nil _ _ (by simp)]
    rfl
  | b :: c :: l => by
    unfold crlf
    by_cases h : b = 13 ∧ c = 10
    · rw [if_pos h]
      obtain ⟨rfl, rfl⟩ := h
      rw [repl_hit _ _ (by simp) (by simp) _ (by simp)]
      simp [repl_crlf l]
    · rw [if_neg h, repl_miss _ _ (by simp) (by simp) b (c :: l) ?_, repl_crlf (c :: l)]
      simp only [List.isPrefixOf, Bool.and_true]
      rcases Bool.eq_false_or_eq_true ((13 : UInt8) == b && (10 : UInt8) == c) with h' | h'
      · simp only [Bool.and_eq_true, beq_iff_eq] at h'
        exact absurd ⟨h'.1.symm, h'.2.symm⟩ h
      · exact h'
end Go.Plain
