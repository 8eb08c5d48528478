/- Equal, Same of the reference's trees and Same of attributes: two nodes of one content are told so. -/
import Derived.Test.YtffpbhbiamkkpaaDoorCln
import Derived.Test.YtffpbhbiamkkpaaDoorRgt
import Derived.WalkKit
import Derived.WalkSpells
import Derived.Deep.RegionLaw
import Derived.Deep.RegionHeld3
import Derived.Deep.LoopGhost
import Derived.Deep.QuietTactic
import Derived.Deep.RegionWith
import Derived.IntWalk
import Derived.StillTailTactics
namespace Go.Proofs.YtffpbhbiamkkpaaDoor.ND
open Go Go.RowKit Go.Proofs.YtffpbhbiamkkpaaDoorW.PrintWords Go.Proofs.YtffpbhbiamkkpaaDoorW.PrintLast Go.Proofs.YtffpbhbiamkkpaaDoorW.PrintMore
set_option linter.unusedVariables false
theorem decS (a b : ByteArray) : ((a.toList == b.toList) = true ∧ (a.toList = b.toList) = True) ∨ ((a.toList == b.toList) = false ∧ (a.toList = b.toList) = False) := by
  by_cases h : a.toList = b.toList
  · exact Or.inl ⟨by simpa using h, eq_true h⟩
  · exact Or.inr ⟨by simpa using h, eq_false h⟩
end Go.Proofs.YtffpbhbiamkkpaaDoor.ND
