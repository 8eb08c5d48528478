/- What lex's small functions, and the document's, come to: signs, digits, a reference's inner part. -/
import Derived.Test.YtffpbhbiamkkpaaDoorPLx0
import Derived.Test.YtffpbhbiamkkpaaDoorPLx1
import Derived.Test.YtffpbhbiamkkpaaDoorPLx2
import Derived.Test.YtffpbhbiamkkpaaDoorPLx4
namespace Go.Proofs.YtffpbhbiamkkpaaDoor.PL
open Go.RowKit Go.Proofs.YtffpbhbiamkkpaaDoorW.PrintWords Go.Proofs.YtffpbhbiamkkpaaDoorW.PrintLast Go.Proofs.YtffpbhbiamkkpaaDoorW.PrintMore
set_option linter.unusedVariables false
def charB (n : Int) : Bool := decide (n = 9 ∨ n = 10 ∨ n = 13 ∨ (32 ≤ n ∧ n ≤ 55295) ∨ (57344 ≤ n ∧ n ≤ 65533) ∨ (65536 ≤ n ∧ n ≤ 1114111))
theorem w64 (x : Int) (h0 : -9223372036854775808 ≤ x) (h1 : x ≤ 9223372036854775807) : wrap64 x = x := by
  unfold wrap64
  omega
theorem w64_1 : wrap64 1 = 1 := w64 _ (by omega) (by omega)
theorem w64_2 : wrap64 2 = 2 := w64 _ (by omega) (by omega)
theorem w64_3 : wrap64 3 = 3 := w64 _ (by omega) (by omega)
theorem w64_4 : wrap64 4 = 4 := w64 _ (by omega) (by omega)
theorem w64_5 : wrap64 5 = 5 := w64 _ (by omega) (by omega)
theorem utf_char (n : Int) : utf_Char.f 11 n = some (charB n) := by
  unfold utf_Char.f utf_within.f charB
  simp [utf_within.l0, w64_1, w64_2, w64_3, w64_4, w64_5, rd_T102]
  repeat' split
  all_goals first | (simp; omega) | omega | (exfalso; omega) | skip
/-- A number's sign. -/
def numS (base : Int) (u : ByteArray) : ByteArray :=
  match lex_digs base 0 (bytesOf u) with
  | none => ⟨#[]⟩
  | some n => if u.toList = [] then ⟨#[]⟩ else if charB n = true then strOfNums (utf_Put_bytes n) else ⟨#[]⟩
def begins (t p : ByteArray) : Bool := decide (p.size ≤ t.size) && ((t.extract 0 p.size).toList == p.toList)
/-- What a reference's inner part stands for. -/
def refS (t : ByteArray) : ByteArray :=
  if t.toList = ([108, 116] : List UInt8) then ⟨#[60]⟩ else if t.toList = ([103, 116] : List UInt8) then ⟨#[62]⟩
  else if t.toList = ([97, 109, 112] : List UInt8) then ⟨#[38]⟩ else if t.toList = ([113, 117, 111, 116] : List UInt8) then ⟨#[34]⟩
  else if t.toList = ([97, 112, 111, 115] : List UInt8) then ⟨#[39]⟩
  else if begins t ⟨#[35, 120]⟩ = true then numS 16 (t.extract 2 t.size)
  else if begins t ⟨#[35]⟩ = true then numS 10 (t.extract 1 t.size) else ⟨#[]⟩
theorem cut_f (t p : ByteArray) : strings_CutPrefix.f t p = some (if begins t p = true then (t.extract p.size t.size, true) else (t, false)) := by
  unfold strings_CutPrefix.f stringslite_CutPrefix.f stringslite_HasPrefix.f begins
  by_cases h : p.size ≤ t.size
  · rw [if_pos (by omega), if_pos (by omega), if_pos (by omega), decide_eq_true h, Bool.true_and, Option.bind_some]
    cases hb : (t.extract 0 ((p.size : Nat) : Int).toNat).toList == p.toList with
    | true =>
      simp only [Int.toNat_natCast] at hb
      rw [if_pos rfl, if_pos (by omega), if_pos (by omega), Option.bind_some, hb]
      simp
    | false =>
      simp only [Int.toNat_natCast] at hb
      rw [if_neg (by decide), Option.bind_some, hb]
      simp
  · rw [if_neg (by omega), Option.bind_some, decide_eq_false h]
    simp
theorem scalar_char (n : Int) (h : charB n = true) : utf_scalar.f n = some true ∧ 0 ≤ n ∧ n ≤ 1114111 := by
  have hc : n = 9 ∨ n = 10 ∨ n = 13 ∨ (32 ≤ n ∧ n ≤ 55295) ∨ (57344 ≤ n ∧ n ≤ 65533) ∨ (65536 ≤ n ∧ n ≤ 1114111) := by simpa [charB] using h
  refine ⟨?_, by omega, by omega⟩
  unfold utf_scalar.f
  rw [if_pos (by omega)]
  by_cases h1 : n < 55296
  · rw [if_pos h1]
  · rw [if_neg h1, if_pos (by omega), decide_eq_true (by omega)]
theorem put_f (n : Int) (h : charB n = true) : utf_Put.f n = some (strOfNums (utf_Put_bytes n)) := by
  obtain ⟨h1, h2, h3⟩ := scalar_char n h
  unfold utf_Put.f
  rw [h1, Option.bind_some, if_pos rfl, if_pos ⟨h2, h3⟩]
theorem j0_f (n : Int) (ok : Bool) : lex_reference.j0 12 n ok = some (if ok = true then (if charB n = true then strOfNums (utf_Put_bytes n) else ⟨#[]⟩) else ⟨#[]⟩) := by
  rw [lex_reference.j0]
  cases ok with
  | false => rfl
  | true =>
    rw [if_pos rfl, if_pos rfl, utf_char, Option.bind_some]
    by_cases h : charB n = true
    · rw [if_pos h, if_pos h, put_f n h]
      rfl
    · rw [if_neg h, if_neg h]
theorem digits_f (u : ByteArray) (hu : u.size ≤ 140737488351232) (base : Int) (hb : base = 10 ∨ base = 16) :
    ((lex_digits.f u base).bind fun b => lex_reference.j0 12 b.1 b.2) = some (numS base u) := by
  unfold lex_digits.f numS
  rw [if_pos (by omega), if_pos (by omega), if_pos (by omega)]
  cases lex_digs base 0 (bytesOf u) with
  | none => rw [Option.bind_some, j0_f]; rfl
  | some n =>
    simp only [Option.bind_some]
    rw [j0_f]
    by_cases hu : u.toList = []
    · rw [if_pos hu, hu]; rfl
    · rw [if_neg hu, if_pos (by cases h : u.toList with | nil => exact absurd h hu | cons a b => rfl)]
theorem lex_ref (t : ByteArray) (ht : t.size ≤ 140737488351232) : lex_reference.f 12 t = some (refS t) := by
  unfold lex_reference.f refS
  by_cases h1 : t.toList = ([108, 116] : List UInt8)
  · rw [if_pos h1, if_pos h1]
  rw [if_neg h1, if_neg h1]
  by_cases h2 : t.toList = ([103, 116] : List UInt8)
  · rw [if_pos h2, if_pos h2]
  rw [if_neg h2, if_neg h2]
  by_cases h3 : t.toList = ([97, 109, 112] : List UInt8)
  · rw [if_pos h3, if_pos h3]
  rw [if_neg h3, if_neg h3]
  by_cases h4 : t.toList = ([113, 117, 111, 116] : List UInt8)
  · rw [if_pos h4, if_pos h4]
  rw [if_neg h4, if_neg h4]
  by_cases h5 : t.toList = ([97, 112, 111, 115] : List UInt8)
  · rw [if_pos h5, if_pos h5]
  rw [if_neg h5, if_neg h5, cut_f, Option.bind_some]
  have hx : ∀ a b : Nat, (t.extract a b).size ≤ 140737488351232 := fun a b => by
    rw [ByteArray.size_extract]; omega
  by_cases h6 : begins t ⟨#[35, 120]⟩ = true
  · rw [if_pos h6, if_pos h6]
    simp only [if_true]
    exact digits_f _ (hx _ _) 16 (Or.inr rfl)
  rw [if_neg h6, if_neg h6]
  simp only [Bool.false_eq_true, if_false]
  rw [cut_f, Option.bind_some]
  by_cases h7 : begins t ⟨#[35]⟩ = true
  · rw [if_pos h7, if_pos h7]
    simp only [if_true]
    exact digits_f _ (hx _ _) 10 (Or.inl rfl)
  rw [if_neg h7, if_neg h7]
  simp only [Bool.false_eq_true, if_false]
  rw [j0_f]
  rfl
def namesL : List ByteArray := [⟨#[108, 116]⟩, ⟨#[60]⟩, ⟨#[103, 116]⟩, ⟨#[62]⟩, ⟨#[97, 109, 112]⟩, ⟨#[38]⟩, ⟨#[113, 117, 111, 116]⟩, ⟨#[34]⟩, ⟨#[97, 112, 111, 115]⟩, ⟨#[39]⟩]
theorem ref_step (k : Nat) (x1 x6 : Int) (t : ByteArray) (i : Nat) (hi : i + 1 < 10) : watchbillref03_reference.l0 (k + 1) x1 x6 t namesL i = if (rdOf ByteArray.empty namesL i).toList = t.toList then some (rdOf ByteArray.empty namesL ((i + 1 : Nat) : Int), wrap64 (x6 + 1)) else watchbillref03_reference.l0 k x1 x6 t namesL ((i + 2 : Nat) : Int) := by
  have hl : (namesL.length : Int) = 10 := rfl
  have e1 : wrap64 ((i : Int) + 1) = ((i + 1 : Nat) : Int) := by rw [w64 _ (by omega) (by omega)]; omega
  have e2 : wrap64 ((i : Int) + 2) = ((i + 2 : Nat) : Int) := by rw [w64 _ (by omega) (by omega)]; omega
  rw [watchbillref03_reference.l0, hl, e1, e2, if_pos (by omega), if_pos (by omega), if_pos (by omega), if_pos (show (0 : Int) ≤ ((i + 1 : Nat) : Int) by omega)]
end Go.Proofs.YtffpbhbiamkkpaaDoor.PL
