/-
  DERIVED: THE SHELF's CONTRACTS AT THIS DUMP, IN PLAIN WORDS (tools/lay-plain.mjs out of 'TrydShelf.lean', which tools/lay-shelf.mjs wrote): THE SAME DECLARATIONS UNDER THE SAME NAMES: 'import', 'namespace', 'open', 'def', 'theorem' AND NOTHING ELSE: no command of the shelf's: FOR A HAND-IN. Each laying: the table of numbers ('.._ren') and one theorem, a field a fact of the dump's own or the kernel's comparison; each contract: ONE APPLICATION.
-/
import Derived.Shelf.Strings.Builder1
import Derived.Shelf.Small.Bits
import Derived.Shelf.Small.Strs
import Derived.Shelf.Strings.BuilderF
import Derived.Shelf.Strings.BuilderK
import Derived.Shelf.Strconv.Itoa0
import Derived.Shelf.Strconv.Itoa1
import Derived.Shelf.LaysM
import Derived.Shelf.Strconv.Itoa2
import Derived.Shelf.Strconv.Itoa3
import Derived.Shelf.Strings.BuilderCap
import Derived.Test.YtidkjifilgjgfaaDoorProg
import Derived.Shelf.SlSortCmp.WholeK
namespace Go.Proofs
open Go.Shelf
def Tryd.ShelfClays106_ren : Go.Shelf.Ren := ⟨fun | 106 => 68 | 213 => 83 | 265 => 95 | n => n, fun | 9 => 9 | 3 => 3 | n => n, fun | n => n⟩
theorem Tryd.ShelfClays106 : Go.Proofs.Lays.n106 Tryd.prog Tryd.ShelfClays106_ren := {
  mixed := by kernel_rfl
  f106 := Tryd.func68.trans (congrArg some (by kernel_rfl))
  f213 := Tryd.func83.trans (congrArg some (by kernel_rfl))
  f265 := Tryd.func95.trans (congrArg some (by kernel_rfl))
  t3 := Tryd.underlying3
  a3 := Tryd.isAgg3
  z3 := Tryd.sizeOf3
  v3 := Tryd.zeroValue3
  t9 := Tryd.underlying9
  a9 := Tryd.isAgg9
  z9 := Tryd.sizeOf9
  v9 := Tryd.zeroValue9 }
open Go.RowKit in
/-- strings.Compare: "Compare returns an integer comparing two strings lexicographically. The result will be 0 if a == b, -1 if a < b, and +1 if a > b.": IT RETURNS 'Lib.compareBytes a b'; the world is as it was. (LAID: no walk: one application.) -/
theorem Tryd.strings_Compare (a b : ByteArray) (w : World) :
    Calls Tryd.prog 68 #[.string a, .string b] w fun e w' => e = .returned (.int .i64 (Lib.compareBytes a.data.toList b.data.toList)) ∧ w' = w := Any.strings_Compare Tryd.ShelfClays106 a b w
end Go.Proofs
namespace Go.Proofs
open Go.Shelf
def Tryd.SortA_lay_ren : Go.Shelf.Ren := ⟨fun | 6 => 66 | 15 => 82 | 14 => 81 | 28 => 94 | 29 => 70 | 20 => 86 | 21 => 87 | 22 => 88 | 23 => 89 | 24 => 90 | 25 => 91 | 26 => 92 | 27 => 93 | 46 => 96 | 47 => 97 | 48 => 98 | 49 => 99 | 50 => 100 | 57 => 101 | n => n, fun | 22 => 51 | 24 => 84 | 25 => 119 | 3 => 3 | 39 => 126 | 0 => 0 | 53 => 123 | 55 => 36 | 4 => 4 | 46 => 141 | 45 => 140 | 50 => 145 | 5 => 5 | 9 => 9 | 66 => 149 | 70 => 89 | 76 => 154 | 77 => 155 | n => n, fun | n => n⟩
theorem Tryd.SortA_lay : Go.Proofs.SlLaysF0.n6 Tryd.prog Tryd.SortA_lay_ren := {
  mixed := by kernel_rfl
  f6 := ⟨Tryd.f66.name, by decide, Tryd.func66.trans (congrArg some (by kernel_rfl))⟩
  f14 := ⟨Tryd.f81.name, by decide, Tryd.func81.trans (congrArg some (by kernel_rfl))⟩
  f15 := Tryd.func82.trans (congrArg some (by kernel_rfl))
  f20 := ⟨Tryd.f86.name, by decide, Tryd.func86.trans (congrArg some (by kernel_rfl))⟩
  f21 := ⟨Tryd.f87.name, by decide, Tryd.func87.trans (congrArg some (by kernel_rfl))⟩
  f22 := ⟨Tryd.f88.name, by decide, Tryd.func88.trans (congrArg some (by kernel_rfl))⟩
  f23 := ⟨Tryd.f89.name, by decide, Tryd.func89.trans (congrArg some (by kernel_rfl))⟩
  f24 := ⟨Tryd.f90.name, by decide, Tryd.func90.trans (congrArg some (by kernel_rfl))⟩
  f25 := ⟨Tryd.f91.name, by decide, Tryd.func91.trans (congrArg some (by kernel_rfl))⟩
  f26 := ⟨Tryd.f92.name, by decide, Tryd.func92.trans (congrArg some (by kernel_rfl))⟩
  f27 := ⟨Tryd.f93.name, by decide, Tryd.func93.trans (congrArg some (by kernel_rfl))⟩
  f28 := Tryd.func94.trans (congrArg some (by kernel_rfl))
  f29 := Tryd.func70.trans (congrArg some (by kernel_rfl))
  f46 := ⟨Tryd.f96.name, by decide, Tryd.func96.trans (congrArg some (by kernel_rfl))⟩
  f47 := Tryd.func97.trans (congrArg some (by kernel_rfl))
  f48 := Tryd.func98.trans (congrArg some (by kernel_rfl))
  f49 := ⟨Tryd.f99.name, by decide, Tryd.func99.trans (congrArg some (by kernel_rfl))⟩
  f50 := ⟨Tryd.f100.name, by decide, Tryd.func100.trans (congrArg some (by kernel_rfl))⟩
  f57 := ⟨Tryd.f101.name, by decide, Tryd.func101.trans (congrArg some (by kernel_rfl))⟩
  t0 := Tryd.underlying0
  a0 := Tryd.isAgg0
  z0 := Tryd.sizeOf0
  v0 := Tryd.zeroValue0
  t3 := Tryd.underlying3
  a3 := Tryd.isAgg3
  z3 := Tryd.sizeOf3
  v3 := Tryd.zeroValue3
  t4 := Tryd.underlying4
  a4 := Tryd.isAgg4
  z4 := Tryd.sizeOf4
  v4 := Tryd.zeroValue4
  t5 := Tryd.underlying5
  a5 := Tryd.isAgg5
  z5 := Tryd.sizeOf5
  v5 := Tryd.zeroValue5
  t9 := Tryd.underlying9
  a9 := Tryd.isAgg9
  z9 := Tryd.sizeOf9
  v9 := Tryd.zeroValue9
  t22 := Tryd.underlying51
  a22 := Tryd.isAgg51
  z22 := Tryd.sizeOf51
  v22 := Tryd.zeroValue51
  t25 := Tryd.underlying119
  a25 := Tryd.isAgg119
  z25 := Tryd.sizeOf119
  v25 := Tryd.zeroValue119
  t39 := Tryd.underlying126
  a39 := Tryd.isAgg126
  z39 := Tryd.sizeOf126
  v39 := Tryd.zeroValue126
  t45 := Tryd.underlying140
  a45 := Tryd.isAgg140
  z45 := Tryd.sizeOf140
  v45 := Tryd.zeroValue140
  t46 := Tryd.underlying141
  a46 := Tryd.isAgg141
  z46 := Tryd.sizeOf141
  v46 := Tryd.zeroValue141
  t50 := Tryd.underlying145
  a50 := Tryd.isAgg145
  z50 := Tryd.sizeOf145
  v50 := Tryd.zeroValue145
  t53 := Tryd.underlying123
  a53 := Tryd.isAgg123
  z53 := Tryd.sizeOf123
  v53 := Tryd.zeroValue123
  t55 := Tryd.underlying36
  a55 := Tryd.isAgg36
  z55 := Tryd.sizeOf36
  v55 := Tryd.zeroValue36
  t66 := Tryd.underlying149
  a66 := Tryd.isAgg149
  z66 := Tryd.sizeOf149
  v66 := Tryd.zeroValue149
  t70 := Tryd.underlying89
  a70 := Tryd.isAgg89
  z70 := Tryd.sizeOf89
  v70 := Tryd.zeroValue89
  t76 := Tryd.underlying154
  a76 := Tryd.isAgg154
  z76 := Tryd.sizeOf154
  v76 := Tryd.zeroValue154
  t77 := Tryd.underlying155
  a77 := Tryd.isAgg155
  z77 := Tryd.sizeOf155
  v77 := Tryd.zeroValue155 }
end Go.Proofs
