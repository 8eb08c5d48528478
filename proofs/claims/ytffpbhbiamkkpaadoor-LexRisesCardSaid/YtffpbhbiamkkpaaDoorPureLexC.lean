/- The document's reference at a place of a text. -/
import Derived.Test.YtffpbhbiamkkpaaDoorPureLexB
import Derived.Test.YtffpbhbiamkkpaaDoorUL
namespace Go.Proofs.YtffpbhbiamkkpaaDoor.PL
open Go.RowKit Go.Proofs.YtffpbhbiamkkpaaDoorW.PrintWords Go.Proofs.YtffpbhbiamkkpaaDoorW.PrintLast Go.Proofs.YtffpbhbiamkkpaaDoorW.PrintMore
set_option linter.unusedVariables false
/-- What an inner part stands for, as bytes. -/
def refL (l : List UInt8) : List UInt8 := (refS ⟨l.toArray⟩).data.toList
theorem refS_le (t : ByteArray) : (refS t).size ≤ 4 := by
  have hn : ∀ base u, (numS base u).size ≤ 4 := by
    intro base u
    unfold numS
    split
    · decide
    · split
      · decide
      · split
        · rw [strOfNums_size]
          unfold utf_Put_bytes
          split
          · simp
          · split
            · simp
            · split <;> simp
        · decide
  unfold refS
  repeat' split
  all_goals first | exact hn _ _ | decide
end Go.Proofs.YtffpbhbiamkkpaaDoor.PL
