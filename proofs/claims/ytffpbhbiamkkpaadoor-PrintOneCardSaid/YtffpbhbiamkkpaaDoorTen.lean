/- The table of tens, strconv.Itoa by the shelf's contract. -/
import Derived.Test.YtffpbhbiamkkpaaDoorShelfI
import Derived.Test.YtffpbhbiamkkpaaDoorProg
import Derived.WalkKit
import Derived.Deep.QuietTactic
import Derived.Lib.AppendIntMem
import Derived.Lib.LaidTab
import Derived.Lib.SmallJoins
import Derived.Lib.ItoaNum
namespace Go.Proofs.YtffpbhbiamkkpaaDoor.Refs
open Go.RowKit
set_option linter.unusedVariables false
/-- The table of tens. -/
abbrev Tens (w : World) : Prop := Lib.TabIs Tryd.prog w "internal/strconv.uint64pow10" .u64 Lib.pow10Tab
theorem tens_below {w w' : World} (h : Tens w) (hb : Below w.heap.size w w') : Tens w' :=
  Go.Joins.var_stays (g := 0) (by kernel_rfl) h hb (Nat.le_refl _)
theorem itoa_calls (u : Nat) (hu : u < 2147483648) (w : World) (h : Tens w) : Calls Tryd.prog 27 #[.int .i64 (u : Int)] w fun e w' => e = .returned (.string ⟨(Lib.itoa (u : Int)).toArray⟩) ∧ Below w.heap.size w w' := by
  refine (Tryd.ShelfI_strconv_Itoa (u : Int) (by omega) (by omega) w h).mono ?_
  rintro e w' ⟨he, k, os, rfl⟩
  exact ⟨he, Lib.below_grow _ w (Nat.le_refl _) k os⟩
end Go.Proofs.YtffpbhbiamkkpaaDoor.Refs
