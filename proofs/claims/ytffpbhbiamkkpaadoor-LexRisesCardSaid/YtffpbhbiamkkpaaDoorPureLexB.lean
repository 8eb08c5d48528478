/- The document's reference comes to what lex's does. -/
import Derived.Test.YtffpbhbiamkkpaaDoorPureLexA
namespace Go.Proofs.YtffpbhbiamkkpaaDoor.PL
open Go.RowKit Go.Proofs.YtffpbhbiamkkpaaDoorW.PrintWords Go.Proofs.YtffpbhbiamkkpaaDoorW.PrintLast Go.Proofs.YtffpbhbiamkkpaaDoorW.PrintMore
set_option linter.unusedVariables false
theorem strOfNums_size (l : List Int) : (strOfNums l).size = l.length := by
  rw [Lib.size_eq]
  unfold strOfNums
  simp
end Go.Proofs.YtffpbhbiamkkpaaDoor.PL
