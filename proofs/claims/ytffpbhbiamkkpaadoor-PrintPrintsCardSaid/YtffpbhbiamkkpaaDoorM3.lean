/- What lex's small functions, and the document's, come to: signs, digits, a reference's inner part. -/
import Derived.Test.YtffpbhbiamkkpaaDoorPLx0
import Derived.Test.YtffpbhbiamkkpaaDoorPLx1
import Derived.Test.YtffpbhbiamkkpaaDoorPLx2
import Derived.Test.YtffpbhbiamkkpaaDoorPLx3
import Derived.Lib.IndexLaws
import Derived.Lib.Replace
import Derived.Lib.CountLaws
import Derived.Lib.SplitLaws
namespace Go.Proofs.YtffpbhbiamkkpaaDoor.PL
open Go.RowKit Go.Proofs.YtffpbhbiamkkpaaDoorW.PrintWords Go.Proofs.YtffpbhbiamkkpaaDoorW.PrintLast Go.Proofs.YtffpbhbiamkkpaaDoorW.PrintMore
set_option linter.unusedVariables false
def charB (n : Int) : Bool := decide (n = 9 ∨ n = 10 ∨ n = 13 ∨ (32 ≤ n ∧ n ≤ 55295) ∨ (57344 ≤ n ∧ n ≤ 65533) ∨ (65536 ≤ n ∧ n ≤ 1114111))
theorem w64 (x : Int) (h0 : -9223372036854775808 ≤ x) (h1 : x ≤ 9223372036854775807) : wrap64 x = x := by
  unfold wrap64
  omega
theorem w64_1 : wrap64 1 = 1 := w64 _ (by omega) (by omega)
theorem w64_2 : wrap64 2 = 2 := w64 _ (by omega) (by omega)
theorem w64_3 : wrap64 3 = 3 := w64 _ (by omega) (by omega)
theorem w64_4 : wrap64 4 = 4 := w64 _ (by omega) (by omega)
theorem w64_5 : wrap64 5 = 5 := w64 _ (by omega) (by omega)
theorem w64_6 : wrap64 6 = 6 := w64 _ (by omega) (by omega)
theorem w64_7 : wrap64 7 = 7 := w64 _ (by omega) (by omega)
theorem utf_char (n : Int) : yg0.f 11 n = some (charB n) := by
  unfold yg0.f yc9.f charB
  simp [yc9.l0, w64_1, w64_2, w64_3, w64_4, w64_5, yg1]
  repeat' split
  all_goals first | (simp; omega) | omega | (exfalso; omega) | skip
theorem ref_char (n : Int) : yd1.f 12 n = some (charB n) := by
  unfold yd1.f yb8.f charB
  simp [yb8.l0, w64_1, w64_2, w64_3, w64_4, w64_5, w64_6, w64_7, rd]
  repeat' split
  all_goals first | (simp; omega) | omega | (exfalso; omega) | skip
end Go.Proofs.YtffpbhbiamkkpaaDoor.PL
namespace Go.Proofs.YtffpbhbiamkkpaaDoor.PL
open Go.RowKit Go.Proofs.YtffpbhbiamkkpaaDoorW.PrintWords Go.Proofs.YtffpbhbiamkkpaaDoorW.PrintLast Go.Proofs.YtffpbhbiamkkpaaDoorW.PrintMore
set_option linter.unusedVariables false
theorem ref_char' (n : Int) (k : Nat) : yd1.f (12 + k) n = some (charB n) := by
  induction k with
  | zero => exact ref_char n
  | succ k ih => exact yd1.mono n (12 + k) _ ih
end Go.Proofs.YtffpbhbiamkkpaaDoor.PL
namespace Go.Proofs.YtffpbhbiamkkpaaDoor.PL
open Go.RowKit Go.Proofs.YtffpbhbiamkkpaaDoorW.PrintWords Go.Proofs.YtffpbhbiamkkpaaDoorW.PrintLast Go.Proofs.YtffpbhbiamkkpaaDoorW.PrintMore
set_option linter.unusedVariables false
theorem mk_size (l : List UInt8) : (⟨l.toArray⟩ : ByteArray).size = l.length := by rw [Lib.size_eq]
end Go.Proofs.YtffpbhbiamkkpaaDoor.PL
