/- An escaped text stands for itself, and has no < and no quote that would end it. No program in sight. -/
import Derived.Test.YtffpbhbiamkkpaaDoorEsc
namespace Go.Proofs.YtffpbhbiamkkpaaDoor.Esc
open Go.RowKit Go.Proofs.YtffpbhbiamkkpaaDoorW.PrintWords Go.Proofs.YtffpbhbiamkkpaaDoorW.PrintLast Go.Proofs.YtffpbhbiamkkpaaDoorW.PrintMore Go.Plain
set_option linter.unusedVariables false
theorem ref_cons (R : List UInt8 → List UInt8) (attr : Bool) (d i : Nat) (l t : List UInt8) (c : UInt8) (h : 59 ∉ l) (hr : R l = [c]) : uL R attr (d + 1) i (38 :: (l ++ 59 :: t)) = (uL R attr d (i + (l.length + 1) + 1) t).map (c :: ·) := by
  have hi : Lib.indexByte (38 :: (l ++ 59 :: t)) 59 = (l.length : Int) + 1 := by
    have := PL.index_at 59 (38 :: l) (by simpa using h) t
    simpa using this
  rw [uL, if_pos rfl, hi, if_neg (by omega)]
  have e1 : ((l.length : Int) + 1).toNat - 1 = l.length := by omega
  have e2 : ((l.length : Int) + 1).toNat = l.length + 1 := by omega
  rw [e1, List.take_left, hr, if_neg (by simp), e2]
  have e3 : (38 :: (l ++ 59 :: t)).drop (l.length + 1 + 1) = t := by
    rw [List.drop_succ_cons, ← List.drop_drop, List.drop_left]; rfl
  rw [e3]
  rfl
theorem plain_cons (R : List UInt8 → List UInt8) (attr : Bool) (d i : Nat) (t : List UInt8) (c : UInt8) (h1 : c ≠ 38) (h2 : c ≠ 13) (h3 : blk attr c = c) : uL R attr (d + 1) i (c :: t) = (uL R attr d (i + 1) t).map (c :: ·) := by
  rw [uL, if_neg h1, if_neg (fun h => h2 h.1), if_neg h2, h3]
theorem esc_cons (attr : Bool) (c : UInt8) (l : List UInt8) : esc attr (c :: l) = escB attr c ++ esc attr l := by simp [esc]
theorem escB_pos (attr : Bool) (c : UInt8) : 1 ≤ (escB attr c).length := by
  unfold escB
  repeat' split
  all_goals simp
/-- What a byte's piece is: a reference to it, or itself. -/
theorem escB_kind (attr : Bool) (c : UInt8) : (∃ r, escB attr c = 38 :: (r ++ [59]) ∧ 59 ∉ r ∧ PL.refL r = [c]) ∨ (escB attr c = [c] ∧ c ≠ 38 ∧ c ≠ 13 ∧ blk attr c = c) := by
  rcases cases8 c with rfl | rfl | rfl | rfl | rfl | rfl | rfl | hne
  · exact Or.inl ⟨[97, 109, 112], by cases attr <;> rfl, by decide, by decide +kernel⟩
  · exact Or.inl ⟨[108, 116], by cases attr <;> rfl, by decide, by decide +kernel⟩
  · cases attr
    · exact Or.inl ⟨[103, 116], by decide, by decide, by decide +kernel⟩
    · exact Or.inr ⟨by decide, by decide, by decide, by decide⟩
  · cases attr
    · exact Or.inr ⟨by decide, by decide, by decide, by decide⟩
    · exact Or.inl ⟨[113, 117, 111, 116], by decide, by decide, by decide +kernel⟩
  · exact Or.inl ⟨[35, 49, 51], by cases attr <;> decide, by decide, by decide +kernel⟩
  · cases attr
    · exact Or.inr ⟨by decide, by decide, by decide, by decide⟩
    · exact Or.inl ⟨[35, 57], by decide, by decide, by decide +kernel⟩
  · cases attr
    · exact Or.inr ⟨by decide, by decide, by decide, by decide⟩
    · exact Or.inl ⟨[35, 49, 48], by decide, by decide, by decide +kernel⟩
  · obtain ⟨h1, h2, h3, h4, h5, h6, h7⟩ := hne
    exact Or.inr ⟨escB_plain attr c ⟨h1, h2, h3, h4, h5, h6, h7⟩, h1, h5, by unfold blk; rw [if_neg (fun h => h.2.elim h6 h7)]⟩
theorem esc_back (attr : Bool) : ∀ (l : List UInt8) (d i : Nat), (esc attr l).length ≤ d → uL PL.refL attr d i (esc attr l) = .ok l
  | [], d, i, _ => by cases d <;> rfl
  | c :: l, d, i, h => by
    rw [esc_cons] at h ⊢
    rw [List.length_append] at h
    have hp := escB_pos attr c
    obtain ⟨d, rfl⟩ : ∃ e, d = e + 1 := ⟨d - 1, by omega⟩
    rcases escB_kind attr c with ⟨r, he, h59, hr⟩ | ⟨he, h1, h2, h3⟩
    · rw [he] at h ⊢
      have e : 38 :: (r ++ [59]) ++ esc attr l = 38 :: (r ++ 59 :: esc attr l) := by simp
      rw [e, ref_cons _ attr d i r _ c h59 hr, esc_back attr l d _ (by simp at h; omega)]
      rfl
    · rw [he] at h ⊢
      rw [List.singleton_append, plain_cons _ attr d i _ c h1 h2 h3, esc_back attr l d _ (by simp at h; omega)]
      rfl
/-- No byte that would end it. -/
theorem esc_mem (attr : Bool) (l : List UInt8) : ∀ b ∈ esc attr l, b ≠ 60 ∧ b ≠ 13 ∧ (attr = true → b ≠ 34 ∧ b ≠ 9 ∧ b ≠ 10) ∧ (attr = false → b ≠ 62) := by
  intro b hb
  obtain ⟨c, hc, hb⟩ := List.mem_flatMap.1 hb
  have key : ∀ (attr : Bool) (c b : UInt8), b ∈ escB attr c → b ≠ 60 ∧ b ≠ 13 ∧ (attr = true → b ≠ 34 ∧ b ≠ 9 ∧ b ≠ 10) ∧ (attr = false → b ≠ 62) := by
    intro attr c b hb
    rcases cases8 c with rfl | rfl | rfl | rfl | rfl | rfl | rfl | hne
    all_goals try (cases attr <;> (simp [escB] at hb; rcases hb with rfl | rfl | rfl | rfl | rfl | rfl <;> decide))
    all_goals try (cases attr <;> (simp [escB] at hb; rcases hb with rfl | rfl | rfl | rfl | rfl <;> decide))
    rw [escB_plain attr c hne] at hb
    obtain rfl := List.mem_singleton.1 hb
    exact ⟨hne.2.1, hne.2.2.2.2.1, fun _ => ⟨hne.2.2.2.1, hne.2.2.2.2.2.1, hne.2.2.2.2.2.2⟩, fun _ => hne.2.2.1⟩
  exact key attr c b hb
theorem esc_long (attr : Bool) : ∀ l : List UInt8, l.length ≤ (esc attr l).length
  | [] => by simp [esc]
  | c :: l => by
    have := esc_long attr l
    have := escB_pos attr c
    rw [esc_cons, List.length_append, List.length_cons]
    omega
end Go.Proofs.YtffpbhbiamkkpaaDoor.Esc
