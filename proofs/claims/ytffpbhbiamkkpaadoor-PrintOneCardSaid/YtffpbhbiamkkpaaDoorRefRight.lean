/- The reference's Right is tree's. -/
import Derived.Test.YtffpbhbiamkkpaaDoorRefName
import Derived.Test.YtffpbhbiamkkpaaDoorEsc
import Derived.Test.YtffpbhbiamkkpaaDoorPRx0
import Derived.Test.YtffpbhbiamkkpaaDoorNd
import Derived.Test.YtffpbhbiamkkpaaDoorFewN
import Derived.Test.YtffpbhbiamkkpaaDoorRgt
namespace Go.Proofs.YtffpbhbiamkkpaaDoor.PP
open Go Go.RowKit Go.Proofs.YtffpbhbiamkkpaaDoorW.PrintWords Go.Proofs.YtffpbhbiamkkpaaDoor.PR Go.Proofs.YtffpbhbiamkkpaaDoor.ND
open Go.Proofs.YtffpbhbiamkkpaaDoor.Prt (wt wts wA wAs)
open Go.Proofs.YtffpbhbiamkkpaaDoor.PG (signsB)
set_option linter.unusedVariables false
mutual
def cnt : Nd → Nat
  | ⟨_, _, _, c, _⟩ => 1 + cnts c
def cnts : List Nd → Nat
  | [] => 0
  | d :: r => cnt d + cnts r
end
mutual
def dp : Nd → Nat
  | ⟨k, _, _, c, _⟩ => if k = 1 then 1 + dps c else 0
def dps : List Nd → Nat
  | [] => 0
  | d :: r => max (dp d) (dps r)
end
mutual
def shN : Nd → Bool
  | ⟨k, nm, t, c, x⟩ => if k = 2 then (!(x.toList == []) && (signsB x && ((nm.f0.toList == [] && nm.f1.toList == []) && decide (t.length + c.length = 0)))) else decide (k = 1) && (decide (x.toList = []) && (namedB nm && (attrsB t && shNs c false)))
/-- Nodes behind a text, or not. -/
def shNs : List Nd → Bool → Bool
  | [], _ => true
  | d :: r, b => shN d && (!(b && decide (d.f0 = 2)) && shNs r (decide (d.f0 = 2)))
end
mutual
theorem right_iff : ∀ (n : Nd) (deep : Int) (text : Bool) (left : Int), ((rightN n deep text left).1 = true ↔ ((cnt n : Int) ≤ left ∧ (dp n = 0 ∨ deep + dp n ≤ 25) ∧ shN n = true ∧ ¬ (text = true ∧ n.f0 = 2))) ∧ ((rightN n deep text left).1 = true → (rightN n deep text left).2 = left - cnt n)
  | ⟨k, nm, t, c, x⟩, deep, text, left => by
    rw [rightN, cnt, dp, shN]
    by_cases h1 : left - 1 < 0
    · rw [if_pos h1]
      exact ⟨⟨fun h => (by cases h), fun h => (by have := h.1; omega)⟩, fun h => by cases h⟩
    rw [if_neg h1]
    by_cases h2 : k = 2
    · rw [if_pos h2, if_pos h2, if_neg (by omega)]
      have hc : (!text && (!(x.toList == []) && (signsB x && ((nm.f0.toList == [] && nm.f1.toList == []) && decide (t.length + c.length = 0))))) = true → c = [] := by
        intro h
        simp only [Bool.and_eq_true, decide_eq_true_eq] at h
        exact List.length_eq_zero_iff.1 (by omega)
      refine ⟨⟨fun h => ?_, fun h => ?_⟩, fun h => ?_⟩
      · have e := hc h
        obtain ⟨a, b⟩ := Bool.and_eq_true_iff.1 h
        rw [e, cnts]
        exact ⟨by omega, Or.inl rfl, by rw [e] at b; exact b, fun hh => by rw [hh.1] at a; cases a⟩
      · refine Bool.and_eq_true_iff.2 ⟨?_, h.2.2.1⟩
        cases text with
        | false => rfl
        | true => exact absurd ⟨rfl, h2⟩ h.2.2.2
      · have e := hc h
        rw [e, cnts]
        show left - 1 = _
        omega
    rw [if_neg h2, if_neg h2]
    by_cases h3 : k = 1 ∧ deep ≤ 24 ∧ x.toList = [] ∧ namedB nm = true ∧ attrsB t = true
    · have ih := rights_iff c (deep + 1) false (left - 1) (by omega)
      rw [if_pos h3, if_pos h3.1, decide_eq_true h3.1, decide_eq_true h3.2.2.1, h3.2.2.2.1, h3.2.2.2.2]
      refine ⟨⟨fun h => ?_, fun h => ?_⟩, fun h => ?_⟩
      · obtain ⟨a, b, d⟩ := ih.1.1 h
        exact ⟨by omega, Or.inr (by omega), by rw [d]; rfl, fun hh => h2 hh.2⟩
      · refine ih.1.2 ⟨by have := h.1; omega, ?_, ?_⟩
        · rcases h.2.1 with a | a <;> omega
        · have := h.2.2.1
          simpa using this
      · rw [ih.2 h]
        omega
    · rw [if_neg h3]
      refine ⟨⟨fun h => (by cases h), fun h => ?_⟩, fun h => by cases h⟩
      have hs := h.2.2.1
      simp only [Bool.and_eq_true, decide_eq_true_eq] at hs
      have hd := h.2.1
      rw [if_pos hs.1] at hd
      exact absurd ⟨hs.1, by omega, hs.2.1, hs.2.2.1, hs.2.2.2.1⟩ h3
theorem rights_iff : ∀ (l : List Nd) (deep : Int) (b : Bool) (left : Int), 0 ≤ left → ((rightNs l deep b left).1 = true ↔ ((cnts l : Int) ≤ left ∧ (dps l = 0 ∨ deep + dps l ≤ 25) ∧ shNs l b = true)) ∧ ((rightNs l deep b left).1 = true → (rightNs l deep b left).2 = left - cnts l)
  | [], deep, b, left, hl => by
    rw [rightNs, cnts, dps, shNs]
    exact ⟨⟨fun _ => ⟨by omega, Or.inl rfl, rfl⟩, fun _ => rfl⟩, fun _ => by show left = _; omega⟩
  | d :: r, deep, b, left, hl => by
    have i1 := right_iff d deep b left
    rw [rightNs, cnts, dps, shNs]
    by_cases c1 : (rightN d deep b left).1 = true
    · rw [if_pos c1, i1.2 c1]
      obtain ⟨a1, a2, a3, a4⟩ := i1.1.1 c1
      have i2 := rights_iff r deep (decide (d.f0 = 2)) (left - cnt d) (by omega)
      have e4 : (!(b && decide (d.f0 = 2))) = true := by
        cases b with
        | false => rfl
        | true => rw [decide_eq_false (fun h => a4 ⟨rfl, h⟩)]; rfl
      rw [a3, e4, Bool.true_and, Bool.true_and]
      refine ⟨i2.1.trans ⟨fun ⟨x, y, z⟩ => ⟨by omega, ?_, z⟩, fun ⟨x, y, z⟩ => ⟨by omega, ?_, z⟩⟩, fun h => by rw [i2.2 h]; omega⟩
      · rcases a2 with a2 | a2 <;> rcases y with y | y
        · exact Or.inl (by omega)
        · exact Or.inr (by omega)
        · exact Or.inr (by omega)
        · exact Or.inr (by omega)
      · rcases y with y | y
        · exact Or.inl (by omega)
        · exact Or.inr (by omega)
    · rw [if_neg c1]
      refine ⟨⟨fun h => (by cases h), fun ⟨x, y, z⟩ => absurd (i1.1.2 ⟨by omega, ?_, ?_, ?_⟩) c1⟩, fun h => by cases h⟩
      · rcases y with y | y
        · exact Or.inl (by omega)
        · exact Or.inr (by omega)
      · simp only [Bool.and_eq_true] at z
        exact z.1
      · simp only [Bool.and_eq_true] at z
        rintro ⟨rfl, h⟩
        rw [decide_eq_true h] at z
        exact absurd z.2.1 (by decide)
end
/-- Right, by parts. -/
theorem rightB_iff (n : Nd) : rightB n = true ↔ (n.f0 = 1 ∧ cnt n ≤ 2000 ∧ dp n ≤ 24 ∧ shN n = true) := by
  unfold rightB
  rw [Bool.and_eq_true, decide_eq_true_eq, (right_iff n 1 false 2000).1]
  constructor
  · rintro ⟨h, a, b, c, _⟩
    exact ⟨h, by omega, by rcases b with b | b <;> omega, c⟩
  · rintro ⟨h, a, b, c⟩
    exact ⟨h, by omega, Or.inr (by omega), c, fun hh => by cases hh.1⟩
end Go.Proofs.YtffpbhbiamkkpaaDoor.PP
