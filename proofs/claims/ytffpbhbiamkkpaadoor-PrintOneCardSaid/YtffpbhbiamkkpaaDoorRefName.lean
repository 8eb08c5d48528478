/- The reference's signs and names are the program's. -/
import Derived.Test.YtffpbhbiamkkpaaDoorRefRune
import Derived.Test.YtffpbhbiamkkpaaDoorRgtA
import Derived.Test.YtffpbhbiamkkpaaDoorPRx0
import Derived.Test.YtffpbhbiamkkpaaDoorNd
namespace Go.Proofs.YtffpbhbiamkkpaaDoor.PP
open Go Go.RowKit Go.Proofs.YtffpbhbiamkkpaaDoorW.PrintWords Go.Proofs.YtffpbhbiamkkpaaDoor.PR Go.Proofs.YtffpbhbiamkkpaaDoor.ND
open Go.Proofs.YtffpbhbiamkkpaaDoor.PG (runeT rune_ends char_eq startB partB nameL nameB nameL_step signsB inS)
set_option linter.unusedVariables false
theorem start_part {n : Int} (h : startB n = true) : partB n = true := by unfold partB; rw [h]; rfl
end Go.Proofs.YtffpbhbiamkkpaaDoor.PP
