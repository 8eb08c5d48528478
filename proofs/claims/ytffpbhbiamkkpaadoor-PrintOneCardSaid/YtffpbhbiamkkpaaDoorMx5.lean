/- What lex.Tokens answers: it always answers; its tokens rise; what is wrong lies in the document. -/
import Derived.Test.YtffpbhbiamkkpaaDoorPUx1
import Derived.Lib.Strings
import Derived.Deep.QuietTactic
import Derived.BigQuiet
import Derived.Deep.LoopGhost
import Derived.Test.YtffpbhbiamkkpaaDoorMx4
import Derived.Lib.IndexMore
import Derived.IntWalk
import Derived.Test.YtffpbhbiamkkpaaDoorMx3
import Derived.Test.YtffpbhbiamkkpaaDoorWWords
import Derived.Test.YtffpbhbiamkkpaaDoorWLast
import Derived.WalkMore
import Derived.Test.YtffpbhbiamkkpaaDoorNam
import Derived.Shelf.Strings.Builder1
import Derived.Shelf.Strings.Builder2
import Derived.Shelf.Small.Utf8
import Derived.Shelf.Small.Bits
import Derived.Shelf.Small.Strs
import Derived.Shelf.Small.Wraps
import Derived.Shelf.Strings.BuilderF
import Derived.Shelf.Strings.BuilderK
import Derived.Shelf.Strings.BuilderRune
import Derived.Shelf.Strings.Builder2Cap
import Derived.Shelf.Strconv.Itoa0
import Derived.Shelf.Strconv.Itoa1
import Derived.Shelf.LaysM
import Derived.Shelf.Strconv.Itoa2
import Derived.Shelf.Strconv.Itoa3
import Derived.Shelf.Strconv.Itoa4
import Derived.Shelf.Strings.Search1
import Derived.Shelf.Strings.Search2
import Derived.Shelf.Strings.Search3
import Derived.Shelf.Strings.Count
import Derived.Shelf.Strings.Shaped
import Derived.Shelf.Strings.Prefix
import Derived.Shelf.Strings.Split
import Derived.Shelf.Strings.Replace
import Derived.Shelf.Strings.SplitShaped
import Derived.Shelf.Strings.RuneCount
import Derived.Shelf.Unicode.DecodeSlow
import Derived.Shelf.Unicode.DecodeAny
import Derived.Shelf.Strings.MapAny
import Derived.Shelf.Strings.BuilderCap
import Derived.Shelf.Strings.MapGrows
import Derived.Test.YtffpbhbiamkkpaaDoorProg
import Derived.Deep.RegionHeld3
import Derived.StillTailTactics
import Derived.Recover
import Derived.RegionTactic
import Derived.ChangeAlike
import Derived.KernelRfl
import Derived.Defers
import Derived.Lib.EndianBits
namespace Go.Proofs.YtffpbhbiamkkpaaDoor.Lx
open Go.RowKit Go.Proofs.YtffpbhbiamkkpaaDoor.PU Go.Proofs.YtffpbhbiamkkpaaDoorW.PrintWords
open Go.Proofs.YtffpbhbiamkkpaaDoor.PG (runeT rune_ends char_eq)
set_option linter.unusedVariables false
theorem bt_data (s : ByteArray) (i : Nat) (h : i < s.data.toList.length) : bt s i = ((s.data.toList[i]).toNat : Int) := by
  have h' : i < s.size := by rw [Lib.size_eq]; exact h
  unfold bt
  rw [Int.toNat_natCast, dif_pos h']
  rfl
end Go.Proofs.YtffpbhbiamkkpaaDoor.Lx
namespace Go.Proofs.YtffpbhbiamkkpaaDoor.Lx
open Go.RowKit Go.Proofs.YtffpbhbiamkkpaaDoor.PU Go.Proofs.YtffpbhbiamkkpaaDoorW.PrintWords
open Go.Proofs.YtffpbhbiamkkpaaDoor.PG (runeT rune_ends char_eq)
set_option linter.unusedVariables false
theorem and31 : ∀ x : Fin 256, Go.bits .and .u8 ((x.val : Nat) : Int) 31 = ((x.val % 32 : Nat) : Int) := by decide +kernel
theorem and15 : ∀ x : Fin 256, Go.bits .and .u8 ((x.val : Nat) : Int) 15 = ((x.val % 16 : Nat) : Int) := by decide +kernel
theorem and7 : ∀ x : Fin 256, Go.bits .and .u8 ((x.val : Nat) : Int) 7 = ((x.val % 8 : Nat) : Int) := by decide +kernel
theorem wraps_i32 (n : Int) (h₀ : 0 ≤ n) (h₁ : n < 2 ^ 31) : IntKind.i32.wrap n = n := by
  simp [IntKind.wrap, IntKind.bits, IntKind.signed]
  omega
theorem i32_join (x y : Int) (h0 : 0 ≤ x) (h1 : x < 16777216) (h2 : 0 ≤ y) (h3 : y < 64) : bits .or .i32 (wrap32 (x * 64)) y = x * 64 + y := by
  have e : wrap32 (x * 64) = x * 64 := by unfold wrap32; omega
  rw [e]
  exact bits_join .i32 31 (by decide) wraps_i32 6 (x * 64) y (by omega) (by omega) (by omega) h2 (by omega) (by omega)
theorem fold_step (r d : Int) (l : List Int) (h0 : 0 ≤ r) (h1 : r < 16777216) (h2 : d / 64 = 2) : runeFold r (d :: l) = runeFold (r * 64 + d % 64) l := by
  rw [runeFold, if_pos h2, i32_join r (d % 64) h0 h1 (by omega) (by omega)]
end Go.Proofs.YtffpbhbiamkkpaaDoor.Lx
