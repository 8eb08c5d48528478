/-
  DERIVED: THE SHELF's CONTRACTS AT THIS DUMP, IN PLAIN WORDS (tools/lay-plain.mjs out of 'TrydShelf.lean', which tools/lay-shelf.mjs wrote): THE SAME DECLARATIONS UNDER THE SAME NAMES: 'import', 'namespace', 'open', 'def', 'theorem' AND NOTHING ELSE: no command of the shelf's: FOR A HAND-IN. Each laying: the table of numbers ('.._ren') and one theorem, a field a fact of the dump's own or the kernel's comparison; each contract: ONE APPLICATION.
-/
import Derived.Shelf.SlSortCmp.WholeK
import Derived.Test.YtffpbhbiamkkpaaDoorProg
namespace Go.Proofs
open Go.Shelf
def Tryd.SortA_lay_ren : Go.Shelf.Ren := ⟨fun | 6 => 76 | 15 => 113 | 14 => 112 | 28 => 147 | 29 => 132 | 20 => 139 | 21 => 140 | 22 => 141 | 23 => 142 | 24 => 143 | 25 => 144 | 26 => 145 | 27 => 146 | 46 => 160 | 47 => 161 | 48 => 162 | 49 => 163 | 50 => 164 | 57 => 176 | n => n, fun | 22 => 24 | 24 => 63 | 25 => 114 | 3 => 3 | 39 => 104 | 0 => 0 | 53 => 157 | 55 => 128 | 4 => 4 | 46 => 162 | 45 => 161 | 50 => 166 | 5 => 5 | 9 => 9 | 66 => 173 | 70 => 106 | 76 => 182 | 77 => 97 | n => n, fun | n => n⟩
theorem Tryd.SortA_lay : Go.Proofs.SlLaysF0.n6 Tryd.prog Tryd.SortA_lay_ren := {
  mixed := by kernel_rfl
  f6 := ⟨Tryd.f76.name, by decide, Tryd.func76.trans (congrArg some (by kernel_rfl))⟩
  f14 := ⟨Tryd.f112.name, by decide, Tryd.func112.trans (congrArg some (by kernel_rfl))⟩
  f15 := Tryd.func113.trans (congrArg some (by kernel_rfl))
  f20 := ⟨Tryd.f139.name, by decide, Tryd.func139.trans (congrArg some (by kernel_rfl))⟩
  f21 := ⟨Tryd.f140.name, by decide, Tryd.func140.trans (congrArg some (by kernel_rfl))⟩
  f22 := ⟨Tryd.f141.name, by decide, Tryd.func141.trans (congrArg some (by kernel_rfl))⟩
  f23 := ⟨Tryd.f142.name, by decide, Tryd.func142.trans (congrArg some (by kernel_rfl))⟩
  f24 := ⟨Tryd.f143.name, by decide, Tryd.func143.trans (congrArg some (by kernel_rfl))⟩
  f25 := ⟨Tryd.f144.name, by decide, Tryd.func144.trans (congrArg some (by kernel_rfl))⟩
  f26 := ⟨Tryd.f145.name, by decide, Tryd.func145.trans (congrArg some (by kernel_rfl))⟩
  f27 := ⟨Tryd.f146.name, by decide, Tryd.func146.trans (congrArg some (by kernel_rfl))⟩
  f28 := Tryd.func147.trans (congrArg some (by kernel_rfl))
  f29 := Tryd.func132.trans (congrArg some (by kernel_rfl))
  f46 := ⟨Tryd.f160.name, by decide, Tryd.func160.trans (congrArg some (by kernel_rfl))⟩
  f47 := Tryd.func161.trans (congrArg some (by kernel_rfl))
  f48 := Tryd.func162.trans (congrArg some (by kernel_rfl))
  f49 := ⟨Tryd.f163.name, by decide, Tryd.func163.trans (congrArg some (by kernel_rfl))⟩
  f50 := ⟨Tryd.f164.name, by decide, Tryd.func164.trans (congrArg some (by kernel_rfl))⟩
  f57 := ⟨Tryd.f176.name, by decide, Tryd.func176.trans (congrArg some (by kernel_rfl))⟩
  t0 := Tryd.underlying0
  a0 := Tryd.isAgg0
  z0 := Tryd.sizeOf0
  v0 := Tryd.zeroValue0
  t3 := Tryd.underlying3
  a3 := Tryd.isAgg3
  z3 := Tryd.sizeOf3
  v3 := Tryd.zeroValue3
  t4 := Tryd.underlying4
  a4 := Tryd.isAgg4
  z4 := Tryd.sizeOf4
  v4 := Tryd.zeroValue4
  t5 := Tryd.underlying5
  a5 := Tryd.isAgg5
  z5 := Tryd.sizeOf5
  v5 := Tryd.zeroValue5
  t9 := Tryd.underlying9
  a9 := Tryd.isAgg9
  z9 := Tryd.sizeOf9
  v9 := Tryd.zeroValue9
  t22 := Tryd.underlying24
  a22 := Tryd.isAgg24
  z22 := Tryd.sizeOf24
  v22 := Tryd.zeroValue24
  t25 := Tryd.underlying114
  a25 := Tryd.isAgg114
  z25 := Tryd.sizeOf114
  v25 := Tryd.zeroValue114
  t39 := Tryd.underlying104
  a39 := Tryd.isAgg104
  z39 := Tryd.sizeOf104
  v39 := Tryd.zeroValue104
  t45 := Tryd.underlying161
  a45 := Tryd.isAgg161
  z45 := Tryd.sizeOf161
  v45 := Tryd.zeroValue161
  t46 := Tryd.underlying162
  a46 := Tryd.isAgg162
  z46 := Tryd.sizeOf162
  v46 := Tryd.zeroValue162
  t50 := Tryd.underlying166
  a50 := Tryd.isAgg166
  z50 := Tryd.sizeOf166
  v50 := Tryd.zeroValue166
  t53 := Tryd.underlying157
  a53 := Tryd.isAgg157
  z53 := Tryd.sizeOf157
  v53 := Tryd.zeroValue157
  t55 := Tryd.underlying128
  a55 := Tryd.isAgg128
  z55 := Tryd.sizeOf128
  v55 := Tryd.zeroValue128
  t66 := Tryd.underlying173
  a66 := Tryd.isAgg173
  z66 := Tryd.sizeOf173
  v66 := Tryd.zeroValue173
  t70 := Tryd.underlying106
  a70 := Tryd.isAgg106
  z70 := Tryd.sizeOf106
  v70 := Tryd.zeroValue106
  t76 := Tryd.underlying182
  a76 := Tryd.isAgg182
  z76 := Tryd.sizeOf182
  v76 := Tryd.zeroValue182
  t77 := Tryd.underlying97
  a77 := Tryd.isAgg97
  z77 := Tryd.sizeOf97
  v77 := Tryd.zeroValue97 }
end Go.Proofs
