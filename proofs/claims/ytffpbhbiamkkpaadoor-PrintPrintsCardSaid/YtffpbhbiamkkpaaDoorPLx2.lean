import Derived.Test.YtffpbhbiamkkpaaDoorPLx0
import Derived.Test.YtffpbhbiamkkpaaDoorPLx1
-- PRINTED by print.py (a twelfth state) out of the translation. Not trusted: Lean checks it.
namespace Go.Proofs.YtffpbhbiamkkpaaDoor.PL
open Go.RowKit Go.Proofs.YtffpbhbiamkkpaaDoorW.PrintWords Go.Proofs.YtffpbhbiamkkpaaDoorW.PrintLast Go.Proofs.YtffpbhbiamkkpaaDoorW.PrintMore
attribute [local go_sem] yf9 yf7 yg5 yg4 ye9 ye8 yf8 yf6   -- for this text's walks alone
set_option linter.unusedVariables false
set_option linter.unusedSimpArgs false

-- 48 49
theorem lex_Unescape_cells (l : List UInt8) (p : ByteArray) : Lib.byteCells (l ++ p.data.toList) = Lib.byteCells l ++ Lib.strCells p := by simp [Lib.byteCells, Lib.strCells]
theorem yh7 {T e : TypeId} {B b : Nat} {bs : List Value} {w w1 : World} (h : Lib.IsBuilder T e B b bs w) (hb : Below w.heap.size w w1) : Lib.IsBuilder T e B b bs w1 := by
 have key : ∀ p, Lib.BuilderAt T e B b p bs w → Lib.BuilderAt T e B b p bs w1 := by
  rintro p h
  have hlt := h.lt
  obtain ⟨hB, v, hbk, hown, hne⟩ := h
  exact ⟨hB, v, (hb.block b hlt).trans hbk, hown.kept (row := none) ⟨hb.os, hb.tape, hb.output, hb.size, fun k hk _ => hb.block k hk⟩ (by simp; exact Classical.em _), hne⟩
 exact h.imp (key _) (key _)
end Go.Proofs.YtffpbhbiamkkpaaDoor.PL
