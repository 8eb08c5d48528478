/- What lex's small functions, and the document's, come to: signs, digits, a reference's inner part. -/
import Derived.Test.YtffpbhbiamkkpaaDoorPLx0
import Derived.Test.YtffpbhbiamkkpaaDoorPLx1
-- PRINTED by print.py (a twelfth state) out of the translation. Not trusted: Lean checks it.
namespace Go.Proofs.YtffpbhbiamkkpaaDoor.PL
open Go.RowKit Go.Proofs.YtffpbhbiamkkpaaDoorW.PrintWords Go.Proofs.YtffpbhbiamkkpaaDoorW.PrintLast Go.Proofs.YtffpbhbiamkkpaaDoorW.PrintMore
attribute [local go_sem] max2_int min2_int max_two min_two max_three min_three max_four min_four   -- for this text's walks alone
set_option linter.unusedVariables false
set_option linter.unusedSimpArgs false

/-! ### lex_Unescape: function 21 -/
-- 48 49
theorem lex_Unescape_cells (l : List UInt8) (p : ByteArray) : Lib.byteCells (l ++ p.data.toList) = Lib.byteCells l ++ Lib.strCells p := by simp [Lib.byteCells, Lib.strCells]
theorem lex_Unescape_kept {T e : TypeId} {B b : Nat} {bs : List Value} {w w1 : World} (h : Lib.IsBuilder T e B b bs w) (hb : Below w.heap.size w w1) : Lib.IsBuilder T e B b bs w1 := by
  have key : ∀ p, Lib.BuilderAt T e B b p bs w → Lib.BuilderAt T e B b p bs w1 := by
    rintro p h
    have hlt := h.lt
    obtain ⟨hB, v, hbk, hown, hne⟩ := h
    exact ⟨hB, v, (hb.block b hlt).trans hbk, hown.kept (row := none) ⟨hb.os, hb.tape, hb.output, hb.size, fun k hk _ => hb.block k hk⟩ (by simp; exact Classical.em _), hne⟩
  exact h.imp (key _) (key _)
end Go.Proofs.YtffpbhbiamkkpaaDoor.PL
namespace Go.Proofs.YtffpbhbiamkkpaaDoor.PL
open Go.RowKit Go.Proofs.YtffpbhbiamkkpaaDoorW.PrintWords Go.Proofs.YtffpbhbiamkkpaaDoorW.PrintLast Go.Proofs.YtffpbhbiamkkpaaDoorW.PrintMore
set_option linter.unusedVariables false
def charB (n : Int) : Bool := decide (n = 9 ∨ n = 10 ∨ n = 13 ∨ (32 ≤ n ∧ n ≤ 55295) ∨ (57344 ≤ n ∧ n ≤ 65533) ∨ (65536 ≤ n ∧ n ≤ 1114111))
theorem w64 (x : Int) (h0 : -9223372036854775808 ≤ x) (h1 : x ≤ 9223372036854775807) : wrap64 x = x := by
  unfold wrap64
  omega
theorem w64_1 : wrap64 1 = 1 := w64 _ (by omega) (by omega)
theorem w64_2 : wrap64 2 = 2 := w64 _ (by omega) (by omega)
theorem w64_3 : wrap64 3 = 3 := w64 _ (by omega) (by omega)
theorem w64_4 : wrap64 4 = 4 := w64 _ (by omega) (by omega)
theorem w64_5 : wrap64 5 = 5 := w64 _ (by omega) (by omega)
theorem utf_char (n : Int) : utf_Char.f 11 n = some (charB n) := by
  unfold utf_Char.f utf_within.f charB
  simp [utf_within.l0, w64_1, w64_2, w64_3, w64_4, w64_5, rd_T102]
  repeat' split
  all_goals first | (simp; omega) | omega | (exfalso; omega) | skip
/-- A number's sign. -/
def numS (base : Int) (u : ByteArray) : ByteArray :=
  match lex_digs base 0 (bytesOf u) with
  | none => ⟨#[]⟩
  | some n => if u.toList = [] then ⟨#[]⟩ else if charB n = true then strOfNums (utf_Put_bytes n) else ⟨#[]⟩
def begins (t p : ByteArray) : Bool := decide (p.size ≤ t.size) && ((t.extract 0 p.size).toList == p.toList)
/-- What a reference's inner part stands for. -/
def refS (t : ByteArray) : ByteArray :=
  if t.toList = ([108, 116] : List UInt8) then ⟨#[60]⟩ else if t.toList = ([103, 116] : List UInt8) then ⟨#[62]⟩
  else if t.toList = ([97, 109, 112] : List UInt8) then ⟨#[38]⟩ else if t.toList = ([113, 117, 111, 116] : List UInt8) then ⟨#[34]⟩
  else if t.toList = ([97, 112, 111, 115] : List UInt8) then ⟨#[39]⟩
  else if begins t ⟨#[35, 120]⟩ = true then numS 16 (t.extract 2 t.size)
  else if begins t ⟨#[35]⟩ = true then numS 10 (t.extract 1 t.size) else ⟨#[]⟩
end Go.Proofs.YtffpbhbiamkkpaaDoor.PL
