/-
  DERIVED: THE SHELF's CONTRACTS AT THIS DUMP, IN PLAIN WORDS (tools/lay-plain.mjs out of 'TrydShelf.lean', which tools/lay-shelf.mjs wrote): THE SAME DECLARATIONS UNDER THE SAME NAMES: 'import', 'namespace', 'open', 'def', 'theorem' AND NOTHING ELSE: no command of the shelf's: FOR A HAND-IN. Each laying: the table of numbers ('.._ren') and one theorem, a field a fact of the dump's own or the kernel's comparison; each contract: ONE APPLICATION.
-/
import Derived.Shelf.Strings.Builder1
import Derived.Shelf.Strings.Builder2
import Derived.Shelf.Small.Utf8
import Derived.Shelf.Small.Bits
import Derived.Shelf.Small.Strs
import Derived.Shelf.Small.Wraps
import Derived.Shelf.Strings.BuilderF
import Derived.Shelf.Strings.BuilderK
import Derived.Shelf.Strings.BuilderRune
import Derived.Shelf.Strings.Builder2Cap
import Derived.Shelf.Strconv.Itoa0
import Derived.Shelf.Strconv.Itoa1
import Derived.Shelf.LaysM
import Derived.Shelf.Strconv.Itoa2
import Derived.Shelf.Strconv.Itoa3
import Derived.Shelf.Strconv.Itoa4
import Derived.Shelf.Strings.Search1
import Derived.Shelf.Strings.Search2
import Derived.Shelf.Strings.Search3
import Derived.Shelf.Strings.Count
import Derived.Shelf.Strings.Shaped
import Derived.Shelf.Strings.Prefix
import Derived.Shelf.Strings.Split
import Derived.Shelf.Strings.Replace
import Derived.Shelf.Strings.SplitShaped
import Derived.Shelf.Strings.RuneCount
import Derived.Shelf.Unicode.DecodeSlow
import Derived.Shelf.Unicode.DecodeAny
import Derived.Shelf.Strings.MapAny
import Derived.Shelf.Strings.BuilderCap
import Derived.Test.YtffpbhbiamkkpaaDoorProg
import Derived.Shelf.SlSortCmp.WholeK
import Derived.Maps.StringElems
import Derived.Maps.OwnSet
import Derived.Maps.Views
import Derived.WideKeyElems3
import Derived.KernelRfl
import Derived.WalkKit
import Derived.Deep.QuietTactic
import Derived.Lib.AppendIntMem
import Derived.Lib.LaidTab
import Derived.Lib.SmallJoins
import Derived.Lib.ItoaNum
namespace Go.Proofs
open Go.Shelf
def Tryd.ShelfClays106_ren : Go.Shelf.Ren := ⟨fun | 106 => 137 | 213 => 157 | 265 => 175 | n => n, fun | 9 => 9 | 3 => 3 | n => n, fun | n => n⟩
theorem Tryd.ShelfClays106 : Go.Proofs.Lays.n106 Tryd.prog Tryd.ShelfClays106_ren := {
  mixed := by kernel_rfl
  f106 := Tryd.func137.trans (congrArg some (by kernel_rfl))
  f213 := Tryd.func157.trans (congrArg some (by kernel_rfl))
  f265 := Tryd.func175.trans (congrArg some (by kernel_rfl))
  t3 := Tryd.underlying3
  a3 := Tryd.isAgg3
  z3 := Tryd.sizeOf3
  v3 := Tryd.zeroValue3
  t9 := Tryd.underlying9
  a9 := Tryd.isAgg9
  z9 := Tryd.sizeOf9
  v9 := Tryd.zeroValue9 }
open Go.RowKit in
/-- strings.Compare: "Compare returns an integer comparing two strings lexicographically. The result will be 0 if a == b, -1 if a < b, and +1 if a > b.": IT RETURNS 'Lib.compareBytes a b'; the world is as it was. (LAID: no walk: one application.) -/
theorem Tryd.strings_Compare (a b : ByteArray) (w : World) :
    Calls Tryd.prog 137 #[.string a, .string b] w fun e w' => e = .returned (.int .i64 (Lib.compareBytes a.data.toList b.data.toList)) ∧ w' = w := Any.strings_Compare Tryd.ShelfClays106 a b w
end Go.Proofs
namespace Go.Proofs
open Go.Shelf
def Tryd.ShelfIlaysM171_ren : Go.Shelf.Ren := ⟨fun | 171 => 27 | 243 => 60 | 246 => 61 | 283 => 100 | 284 => 101 | 285 => 102 | 286 => 103 | 129 => 132 | 317 => 131 | 318 => 133 | 319 => 134 | 320 => 135 | 337 => 155 | 338 => 156 | n => n, fun | 3 => 3 | 9 => 9 | 2 => 2 | 4 => 4 | 171 => 127 | 0 => 0 | 53 => 128 | 37 => 69 | 5 => 5 | 173 => 131 | 212 => 156 | 51 => 157 | 20 => 20 | 213 => 158 | 46 => 104 | 232 => 180 | 233 => 181 | n => n, fun | 17 => 0 | 18 => 2 | 19 => 3 | n => n⟩
theorem Tryd.ShelfIlaysM171 : Go.Proofs.LaysM.n171 Tryd.prog Tryd.ShelfIlaysM171_ren := {
  mixed := by kernel_rfl
  f129 := Tryd.func132.trans (congrArg some (by kernel_rfl))
  f171 := Tryd.func27.trans (congrArg some (by kernel_rfl))
  f243 := Tryd.func60.trans (congrArg some (by kernel_rfl))
  f246 := Tryd.func61.trans (congrArg some (by kernel_rfl))
  f283 := Tryd.func100.trans (congrArg some (by kernel_rfl))
  f284 := Tryd.func101.trans (congrArg some (by kernel_rfl))
  f285 := Tryd.func102.trans (congrArg some (by kernel_rfl))
  f286 := Tryd.func103.trans (congrArg some (by kernel_rfl))
  f317 := Tryd.func131.trans (congrArg some (by kernel_rfl))
  f318 := Tryd.func133.trans (congrArg some (by kernel_rfl))
  f319 := Tryd.func134.trans (congrArg some (by kernel_rfl))
  f320 := Tryd.func135.trans (congrArg some (by kernel_rfl))
  f337 := Tryd.func155.trans (congrArg some (by kernel_rfl))
  f338 := Tryd.func156.trans (congrArg some (by kernel_rfl))
  t0 := Tryd.underlying0
  a0 := Tryd.isAgg0
  z0 := Tryd.sizeOf0
  v0 := Tryd.zeroValue0
  t2 := Tryd.underlying2
  a2 := Tryd.isAgg2
  z2 := Tryd.sizeOf2
  v2 := Tryd.zeroValue2
  t3 := Tryd.underlying3
  a3 := Tryd.isAgg3
  z3 := Tryd.sizeOf3
  v3 := Tryd.zeroValue3
  t4 := Tryd.underlying4
  a4 := Tryd.isAgg4
  z4 := Tryd.sizeOf4
  v4 := Tryd.zeroValue4
  t5 := Tryd.underlying5
  a5 := Tryd.isAgg5
  z5 := Tryd.sizeOf5
  v5 := Tryd.zeroValue5
  t9 := Tryd.underlying9
  a9 := Tryd.isAgg9
  z9 := Tryd.sizeOf9
  v9 := Tryd.zeroValue9
  t20 := Tryd.underlying20
  a20 := Tryd.isAgg20
  z20 := Tryd.sizeOf20
  v20 := Tryd.zeroValue20
  t37 := Tryd.underlying69
  a37 := Tryd.isAgg69
  z37 := Tryd.sizeOf69
  v37 := Tryd.zeroValue69
  t46 := Tryd.underlying104
  a46 := Tryd.isAgg104
  z46 := Tryd.sizeOf104
  v46 := Tryd.zeroValue104
  t51 := Tryd.underlying157
  a51 := Tryd.isAgg157
  z51 := Tryd.sizeOf157
  v51 := Tryd.zeroValue157
  t53 := Tryd.underlying128
  a53 := Tryd.isAgg128
  z53 := Tryd.sizeOf128
  v53 := Tryd.zeroValue128
  t171 := Tryd.underlying127
  a171 := Tryd.isAgg127
  z171 := Tryd.sizeOf127
  v171 := Tryd.zeroValue127
  t173 := Tryd.underlying131
  a173 := Tryd.isAgg131
  z173 := Tryd.sizeOf131
  v173 := Tryd.zeroValue131
  t212 := Tryd.underlying156
  a212 := Tryd.isAgg156
  z212 := Tryd.sizeOf156
  v212 := Tryd.zeroValue156
  t213 := Tryd.underlying158
  a213 := Tryd.isAgg158
  z213 := Tryd.sizeOf158
  t232 := Tryd.underlying180
  a232 := Tryd.isAgg180
  z232 := Tryd.sizeOf180
  v232 := Tryd.zeroValue180
  t233 := Tryd.underlying181
  a233 := Tryd.isAgg181
  z233 := Tryd.sizeOf181
  v233 := Tryd.zeroValue181
  g17 := by kernel_rfl
  g18 := by kernel_rfl
  g19 := by kernel_rfl
  i0 := by kernel_rfl
  i2 := by kernel_rfl
  i3 := by kernel_rfl
  i4 := by kernel_rfl
  i5 := by kernel_rfl
  i9 := by kernel_rfl
  i20 := by kernel_rfl
  i37 := by kernel_rfl
  i46 := by kernel_rfl
  i51 := by kernel_rfl
  i53 := by kernel_rfl
  i171 := by kernel_rfl
  i173 := by kernel_rfl
  i212 := by kernel_rfl
  i232 := by kernel_rfl
  i233 := by kernel_rfl
  m17 := by kernel_rfl
  m18 := by kernel_rfl
  m19 := by kernel_rfl }
open Go.RowKit Go.Sort Go.Lib in
/-- strconv.Itoa: "Itoa is equivalent to FormatInt(int64(i), 10).": i's DECIMAL NUMERAL ('Lib.itoa': a '-' where i is negative, then the digits), FOR EVERY int. The world behind the call: the world before it, new blocks behind the heap (the library's 'var a [24]byte'), draws. (LAID: no walk: one application.) -/
theorem Tryd.ShelfI_strconv_Itoa (n : Int) (h0 : -9223372036854775808 ≤ n) (h1 : n ≤ 9223372036854775807) (w : World) (htab : Lib.TabIs Tryd.prog w "internal/strconv.uint64pow10" .u64 Lib.pow10Tab) :
    Calls Tryd.prog 27 #[.int .i64 n] w fun e w' => e = .returned (.string ⟨(Lib.itoa n).toArray⟩) ∧ ∃ k os, w' = grow (w.drewN k) os := Any.strconv_Itoa Tryd.ShelfIlaysM171 n h0 h1 w htab
end Go.Proofs
namespace Go.Proofs
open Go.Shelf
def Tryd.lays169_ren : Go.Shelf.Ren := ⟨fun | 169 => 37 | n => n, fun | 70 => 68 | 9 => 9 | 0 => 0 | 72 => 71 | 37 => 69 | 127 => 110 | 3 => 3 | 5 => 5 | n => n, fun | n => n⟩
theorem Tryd.lays169 : Go.Proofs.Lays.n169 Tryd.prog Tryd.lays169_ren := {
  mixed := by kernel_rfl
  f169 := Tryd.func37.trans (congrArg some (by kernel_rfl))
  t0 := Tryd.underlying0
  a0 := Tryd.isAgg0
  z0 := Tryd.sizeOf0
  v0 := Tryd.zeroValue0
  t3 := Tryd.underlying3
  a3 := Tryd.isAgg3
  z3 := Tryd.sizeOf3
  v3 := Tryd.zeroValue3
  t9 := Tryd.underlying9
  a9 := Tryd.isAgg9
  z9 := Tryd.sizeOf9
  v9 := Tryd.zeroValue9
  t37 := Tryd.underlying69
  a37 := Tryd.isAgg69
  z37 := Tryd.sizeOf69
  v37 := Tryd.zeroValue69
  t70 := Tryd.underlying68
  a70 := Tryd.isAgg68
  z70 := Tryd.sizeOf68
  v70 := Tryd.zeroValue68
  t72 := Tryd.underlying71
  a72 := Tryd.isAgg71
  z72 := Tryd.sizeOf71
  v72 := Tryd.zeroValue71
  t127 := Tryd.underlying110
  a127 := Tryd.isAgg110
  z127 := Tryd.sizeOf110
  v127 := Tryd.zeroValue110 }
theorem Tryd.Builder_Extra_169 : Builder.Extra Tryd.prog Tryd.lays169_ren := {
  sizeBuilder := by kernel_rfl
  liesBuilder := by kernel_rfl
  t5 := Tryd.underlying5
  a5 := Tryd.isAgg5
  z5 := Tryd.sizeOf5
  v5 := Tryd.zeroValue5
  infoByte := by kernel_rfl
  cellsByte := by kernel_rfl
  sizeByte := by kernel_rfl
  neB5 := by decide }
open Go.RowKit in
/-- (*strings.Builder).String: "String returns the accumulated string.": WHATEVER THE BUILDER HOLDS. (LAID: no walk: one application.) -/
theorem Tryd.Builder_String_any (B b : Nat) (l : List UInt8) (w : World) (h : Lib.IsBuilder 71 5 B b (Lib.byteCells l) w) (hBw : B ≤ w.heap.size) :
    Calls Tryd.prog 37 #[.pointer (some ⟨b, 0, none⟩)] w fun e w' => e = .returned (.string ⟨l.toArray⟩) ∧ Below B w w' := Any.Builder_String_any Tryd.lays169 Tryd.Builder_Extra_169 B b l w h hBw
end Go.Proofs
namespace Go.Proofs
open Go.Shelf
def Tryd.SortA_lay_ren : Go.Shelf.Ren := ⟨fun | 6 => 76 | 15 => 113 | 14 => 112 | 28 => 147 | 29 => 132 | 20 => 139 | 21 => 140 | 22 => 141 | 23 => 142 | 24 => 143 | 25 => 144 | 26 => 145 | 27 => 146 | 46 => 160 | 47 => 161 | 48 => 162 | 49 => 163 | 50 => 164 | 57 => 176 | n => n, fun | 22 => 24 | 24 => 63 | 25 => 114 | 3 => 3 | 39 => 104 | 0 => 0 | 53 => 157 | 55 => 128 | 4 => 4 | 46 => 162 | 45 => 161 | 50 => 166 | 5 => 5 | 9 => 9 | 66 => 173 | 70 => 106 | 76 => 182 | 77 => 97 | n => n, fun | n => n⟩
theorem Tryd.SortA_lay : Go.Proofs.SlLaysF0.n6 Tryd.prog Tryd.SortA_lay_ren := {
  mixed := by kernel_rfl
  f6 := ⟨Tryd.f76.name, by decide, Tryd.func76.trans (congrArg some (by kernel_rfl))⟩
  f14 := ⟨Tryd.f112.name, by decide, Tryd.func112.trans (congrArg some (by kernel_rfl))⟩
  f15 := Tryd.func113.trans (congrArg some (by kernel_rfl))
  f20 := ⟨Tryd.f139.name, by decide, Tryd.func139.trans (congrArg some (by kernel_rfl))⟩
  f21 := ⟨Tryd.f140.name, by decide, Tryd.func140.trans (congrArg some (by kernel_rfl))⟩
  f22 := ⟨Tryd.f141.name, by decide, Tryd.func141.trans (congrArg some (by kernel_rfl))⟩
  f23 := ⟨Tryd.f142.name, by decide, Tryd.func142.trans (congrArg some (by kernel_rfl))⟩
  f24 := ⟨Tryd.f143.name, by decide, Tryd.func143.trans (congrArg some (by kernel_rfl))⟩
  f25 := ⟨Tryd.f144.name, by decide, Tryd.func144.trans (congrArg some (by kernel_rfl))⟩
  f26 := ⟨Tryd.f145.name, by decide, Tryd.func145.trans (congrArg some (by kernel_rfl))⟩
  f27 := ⟨Tryd.f146.name, by decide, Tryd.func146.trans (congrArg some (by kernel_rfl))⟩
  f28 := Tryd.func147.trans (congrArg some (by kernel_rfl))
  f29 := Tryd.func132.trans (congrArg some (by kernel_rfl))
  f46 := ⟨Tryd.f160.name, by decide, Tryd.func160.trans (congrArg some (by kernel_rfl))⟩
  f47 := Tryd.func161.trans (congrArg some (by kernel_rfl))
  f48 := Tryd.func162.trans (congrArg some (by kernel_rfl))
  f49 := ⟨Tryd.f163.name, by decide, Tryd.func163.trans (congrArg some (by kernel_rfl))⟩
  f50 := ⟨Tryd.f164.name, by decide, Tryd.func164.trans (congrArg some (by kernel_rfl))⟩
  f57 := ⟨Tryd.f176.name, by decide, Tryd.func176.trans (congrArg some (by kernel_rfl))⟩
  t0 := Tryd.underlying0
  a0 := Tryd.isAgg0
  z0 := Tryd.sizeOf0
  v0 := Tryd.zeroValue0
  t3 := Tryd.underlying3
  a3 := Tryd.isAgg3
  z3 := Tryd.sizeOf3
  v3 := Tryd.zeroValue3
  t4 := Tryd.underlying4
  a4 := Tryd.isAgg4
  z4 := Tryd.sizeOf4
  v4 := Tryd.zeroValue4
  t5 := Tryd.underlying5
  a5 := Tryd.isAgg5
  z5 := Tryd.sizeOf5
  v5 := Tryd.zeroValue5
  t9 := Tryd.underlying9
  a9 := Tryd.isAgg9
  z9 := Tryd.sizeOf9
  v9 := Tryd.zeroValue9
  t22 := Tryd.underlying24
  a22 := Tryd.isAgg24
  z22 := Tryd.sizeOf24
  v22 := Tryd.zeroValue24
  t25 := Tryd.underlying114
  a25 := Tryd.isAgg114
  z25 := Tryd.sizeOf114
  v25 := Tryd.zeroValue114
  t39 := Tryd.underlying104
  a39 := Tryd.isAgg104
  z39 := Tryd.sizeOf104
  v39 := Tryd.zeroValue104
  t45 := Tryd.underlying161
  a45 := Tryd.isAgg161
  z45 := Tryd.sizeOf161
  v45 := Tryd.zeroValue161
  t46 := Tryd.underlying162
  a46 := Tryd.isAgg162
  z46 := Tryd.sizeOf162
  v46 := Tryd.zeroValue162
  t50 := Tryd.underlying166
  a50 := Tryd.isAgg166
  z50 := Tryd.sizeOf166
  v50 := Tryd.zeroValue166
  t53 := Tryd.underlying157
  a53 := Tryd.isAgg157
  z53 := Tryd.sizeOf157
  v53 := Tryd.zeroValue157
  t55 := Tryd.underlying128
  a55 := Tryd.isAgg128
  z55 := Tryd.sizeOf128
  v55 := Tryd.zeroValue128
  t66 := Tryd.underlying173
  a66 := Tryd.isAgg173
  z66 := Tryd.sizeOf173
  v66 := Tryd.zeroValue173
  t70 := Tryd.underlying106
  a70 := Tryd.isAgg106
  z70 := Tryd.sizeOf106
  v70 := Tryd.zeroValue106
  t76 := Tryd.underlying182
  a76 := Tryd.isAgg182
  z76 := Tryd.sizeOf182
  v76 := Tryd.zeroValue182
  t77 := Tryd.underlying97
  a77 := Tryd.isAgg97
  z77 := Tryd.sizeOf97
  v77 := Tryd.zeroValue97 }
end Go.Proofs
namespace Go.Proofs.YtffpbhbiamkkpaaDoor.Mp
open Go Go.RowKit Go.ChangeMaps Go.MapKept Go.WideShapes
open Go.Maps (Keyed IsMap Tidy)
set_option linter.unusedVariables false
section
variable {P : Program} {w : World} {k t e : TypeId} {b n : Nat} {D : DataW Unit} {key : Value} {kl : Lit}
theorem str_eq {c c' : ByteArray} (h : c.data.toList = c'.data.toList) : c = c' := by
  cases c; cases c'
  exact congrArg ByteArray.mk (Array.toList_inj.1 h)
theorem look_str (h : w.ownsMap P k (plainElem P e) b n D) (K : Keyed P k) (ht : P.underlying t = some (.map k e)) (he : P.underlying e = some .string) (hz : (zeroValue e).run P w = .ok (.string ⟨#[]⟩) w)
    (hkey : keyOf P k key = some kl) (c : ByteArray) (hc : D.atKey kl (.lit (.string [])) = .lit (.string c.data.toList)) :
    (Instr.lookup t (.map (some b)) key false).run P w = .ok (.string c) w := by
  obtain ⟨v, ps, hrun, hv⟩ := h.lookup K ht hz (plainElem_string he (s := ⟨#[]⟩) (by decide)) hkey
  obtain ⟨c', rfl, hc', _⟩ := plainElem_string_inv he hv
  have e1 := congrArg Prod.fst hc'
  have e0 : (DataW.lit (.string []) : DataW Unit) = .lit (.string (⟨#[]⟩ : ByteArray).data.toList) := rfl
  rw [e0] at hc
  rw [hc] at e1
  injection e1 with e2
  injection e2 with e3
  obtain rfl := str_eq e3
  exact hrun
theorem look_str_ok (h : w.ownsMap P k (plainElem P e) b n D) (K : Keyed P k) (ht : P.underlying t = some (.map k e)) (he : P.underlying e = some .string) (hz : (zeroValue e).run P w = .ok (.string ⟨#[]⟩) w)
    (hkey : keyOf P k key = some kl) (c : ByteArray) (hh : Bool) (hc : D.atKey kl (.lit (.string [])) = .lit (.string c.data.toList)) (hb : Maps.has D kl = hh) :
    (Instr.lookup t (.map (some b)) key true).run P w = .ok (.tuple #[.string c, .bool hh]) w := by
  obtain ⟨v, ps, hrun, hv⟩ := h.look_ok K ht hz (plainElem_string he (s := ⟨#[]⟩) (by decide)) hkey
  obtain ⟨c', rfl, hc', _⟩ := plainElem_string_inv he hv
  have e1 := congrArg Prod.fst hc'
  have e0 : (DataW.lit (.string []) : DataW Unit) = .lit (.string (⟨#[]⟩ : ByteArray).data.toList) := rfl
  rw [e0] at hc
  rw [hc] at e1
  injection e1 with e2
  injection e2 with e3
  obtain rfl := str_eq e3
  rw [hb] at hrun
  exact hrun
theorem bool_inv {e : TypeId} (he : P.underlying e = some .bool) {v : Value} {z : DataW Unit × List MemPlace} (h : plainElem P e v = some z) : ∃ b : Bool, v = .bool b ∧ z = (.lit (.bool b), []) := by
  unfold plainElem at h
  rw [he] at h
  cases v <;> simp at h
  exact ⟨_, rfl, h.symm⟩
theorem look_bool (h : w.ownsMap P k (plainElem P e) b n D) (K : Keyed P k) (ht : P.underlying t = some (.map k e)) (he : P.underlying e = some .bool) (hz : (zeroValue e).run P w = .ok (.bool false) w)
    (hkey : keyOf P k key = some kl) (c : Bool) (hc : D.atKey kl (.lit (.bool false)) = .lit (.bool c)) :
    (Instr.lookup t (.map (some b)) key false).run P w = .ok (.bool c) w := by
  obtain ⟨v, ps, hrun, hv⟩ := h.lookup K ht hz (plainElem_bool he false) hkey
  obtain ⟨c', rfl, hc'⟩ := bool_inv he hv
  have e1 := congrArg Prod.fst hc'
  rw [hc] at e1
  injection e1 with e2
  injection e2 with e3
  subst e3
  exact hrun
end
end Go.Proofs.YtffpbhbiamkkpaaDoor.Mp
namespace Go.Proofs.YtffpbhbiamkkpaaDoor.Refs
open Go.RowKit
set_option linter.unusedVariables false
/-- The table of tens. -/
abbrev Tens (w : World) : Prop := Lib.TabIs Tryd.prog w "internal/strconv.uint64pow10" .u64 Lib.pow10Tab
theorem yf3 {w w' : World} (h : Tens w) (hb : Below w.heap.size w w') : Tens w' :=
  Go.Joins.var_stays (g := 0) (by kernel_rfl) h hb (Nat.le_refl _)
theorem itoa_calls (u : Nat) (hu : u < 2147483648) (w : World) (h : Tens w) : Calls Tryd.prog 27 #[.int .i64 (u : Int)] w fun e w' => e = .returned (.string ⟨(Lib.itoa (u : Int)).toArray⟩) ∧ Below w.heap.size w w' := by
  refine (Tryd.ShelfI_strconv_Itoa (u : Int) (by omega) (by omega) w h).mono ?_
  rintro e w' ⟨he, k, os, rfl⟩
  exact ⟨he, Lib.below_grow _ w (Nat.le_refl _) k os⟩
end Go.Proofs.YtffpbhbiamkkpaaDoor.Refs
