/- Maps that the call itself has made, with strings or bools as elements: what a look-up, with and without ok, comes to. -/
import Derived.Test.YtidkjifilgjgfaaDoorProg
import Derived.Maps.StringElems
import Derived.Maps.OwnSet
import Derived.Maps.Views
import Derived.WideKeyElems3
import Derived.KernelRfl
import Derived.Test.YtidkjifilgjgfaaDoorMx12
import Derived.DeepKeys4
import Derived.Test.YtidkjifilgjgfaaDoorMx14
import Derived.Test.YtidkjifilgjgfaaDoorMx9
import Derived.Below
import Derived.Deep.Draws
import Derived.Deep.AppendLies
import Derived.Maps.AppendAt
import Derived.OwnWalk
import Derived.Laws.BytesArg
import Derived.Laws.MakeOwn
import Derived.Laws.OwnMore
import Derived.Deep.OwnRows
import Derived.Tactics
import Derived.Lib.ConvBytes
import Derived.Laws.Slices
import Derived.WalkKit
import Derived.RowKit3
import Derived.Deep.LoopGhost
import Derived.Deep.QuietTactic
import Derived.BigQuiet
import Derived.WideLaws
import Derived.Deep.DeepCutAuto
import Derived.Deep.CutBlock
import Derived.Deep.RegionHeld3
import Derived.Laws.Rows
import Derived.Lib.AppendStr
import Derived.ArgAppend
import Derived.Laws.IdiomCopy
import Derived.OrdersHeld
import Derived.Laws.BitsLemmas
import Derived.RowKit
import Derived.Test.YtidkjifilgjgfaaDoorPLx1
import Derived.Test.YtidkjifilgjgfaaDoorWWords
import Derived.Test.YtidkjifilgjgfaaDoorWLast
import Derived.Test.YtidkjifilgjgfaaDoorWTab
import Derived.Test.YtidkjifilgjgfaaDoorWApart
import Derived.Test.YtidkjifilgjgfaaDoorMx15
import Derived.Laws.StructEq
import Derived.Test.YtidkjifilgjgfaaDoorMx11
namespace Go.Proofs.YtidkjifilgjgfaaDoor.Mp
open Go Go.RowKit Go.ChangeMaps Go.MapKept Go.WideShapes
open Go.Maps (Keyed IsMap Tidy)
set_option linter.unusedVariables false
section
variable {P : Program} {w : World} {k t e : TypeId} {b n : Nat} {D : DataW Unit} {key : Value} {kl : Lit}
theorem str_eq {c c' : ByteArray} (h : c.data.toList = c'.data.toList) : c = c' := by
  cases c; cases c'
  exact congrArg ByteArray.mk (Array.toList_inj.1 h)
theorem look_str (h : w.ownsMap P k (plainElem P e) b n D) (K : Keyed P k) (ht : P.underlying t = some (.map k e)) (he : P.underlying e = some .string) (hz : (zeroValue e).run P w = .ok (.string ⟨#[]⟩) w)
    (hkey : keyOf P k key = some kl) (c : ByteArray) (hc : D.atKey kl (.lit (.string [])) = .lit (.string c.data.toList)) :
    (Instr.lookup t (.map (some b)) key false).run P w = .ok (.string c) w := by
  obtain ⟨v, ps, hrun, hv⟩ := h.lookup K ht hz (plainElem_string he (s := ⟨#[]⟩) (by decide)) hkey
  obtain ⟨c', rfl, hc', _⟩ := plainElem_string_inv he hv
  have e1 := congrArg Prod.fst hc'
  have e0 : (DataW.lit (.string []) : DataW Unit) = .lit (.string (⟨#[]⟩ : ByteArray).data.toList) := rfl
  rw [e0] at hc
  rw [hc] at e1
  injection e1 with e2
  injection e2 with e3
  obtain rfl := str_eq e3
  exact hrun
theorem look_str_ok (h : w.ownsMap P k (plainElem P e) b n D) (K : Keyed P k) (ht : P.underlying t = some (.map k e)) (he : P.underlying e = some .string) (hz : (zeroValue e).run P w = .ok (.string ⟨#[]⟩) w)
    (hkey : keyOf P k key = some kl) (c : ByteArray) (hh : Bool) (hc : D.atKey kl (.lit (.string [])) = .lit (.string c.data.toList)) (hb : Maps.has D kl = hh) :
    (Instr.lookup t (.map (some b)) key true).run P w = .ok (.tuple #[.string c, .bool hh]) w := by
  obtain ⟨v, ps, hrun, hv⟩ := h.look_ok K ht hz (plainElem_string he (s := ⟨#[]⟩) (by decide)) hkey
  obtain ⟨c', rfl, hc', _⟩ := plainElem_string_inv he hv
  have e1 := congrArg Prod.fst hc'
  have e0 : (DataW.lit (.string []) : DataW Unit) = .lit (.string (⟨#[]⟩ : ByteArray).data.toList) := rfl
  rw [e0] at hc
  rw [hc] at e1
  injection e1 with e2
  injection e2 with e3
  obtain rfl := str_eq e3
  rw [hb] at hrun
  exact hrun
theorem bool_inv {e : TypeId} (he : P.underlying e = some .bool) {v : Value} {z : DataW Unit × List MemPlace} (h : plainElem P e v = some z) : ∃ b : Bool, v = .bool b ∧ z = (.lit (.bool b), []) := by
  unfold plainElem at h
  rw [he] at h
  cases v <;> simp at h
  exact ⟨_, rfl, h.symm⟩
theorem look_bool (h : w.ownsMap P k (plainElem P e) b n D) (K : Keyed P k) (ht : P.underlying t = some (.map k e)) (he : P.underlying e = some .bool) (hz : (zeroValue e).run P w = .ok (.bool false) w)
    (hkey : keyOf P k key = some kl) (c : Bool) (hc : D.atKey kl (.lit (.bool false)) = .lit (.bool c)) :
    (Instr.lookup t (.map (some b)) key false).run P w = .ok (.bool c) w := by
  obtain ⟨v, ps, hrun, hv⟩ := h.lookup K ht hz (plainElem_bool he false) hkey
  obtain ⟨c', rfl, hc'⟩ := bool_inv he hv
  have e1 := congrArg Prod.fst hc'
  rw [hc] at e1
  injection e1 with e2
  injection e2 with e3
  subst e3
  exact hrun
end
end Go.Proofs.YtidkjifilgjgfaaDoor.Mp
namespace Go.Proofs.YtidkjifilgjgfaaDoor.ND
open Go Go.RowKit Go.Proofs.YtidkjifilgjgfaaDoorW.PrintWords Go.Maps
set_option linter.unusedVariables false
theorem laidOutP : laidOutB Tryd.prog = true := by kernel_rfl
theorem keyedN : Keyed Tryd.prog 50 := Keyed.of_law (deep_law_laid laidOutP (m := 2) (by omega) (of_decide_eq_true (by kernel_rfl)) (by kernel_rfl) (by rw [Tryd.underlying50]))
def klN (x : Nm) : Lit := .string (keyBytes [.string x.f0.data.toList, .string x.f1.data.toList])
def valN (x : Nm) : Value := .agg #[.string x.f0, .string x.f1]
theorem keyN (x : Nm) (h0 : x.f0.size ≤ maxLen) (h1 : x.f1.size ≤ maxLen) : keyOf Tryd.prog 50 (valN x) = some (klN x) := by
  unfold keyOf valN klN
  rw [Tryd.underlying50]
  have e1 : Tryd.prog.keyType 50 = true := by kernel_rfl
  have e2 : Value.formed Tryd.prog 50 (.agg #[.string x.f0, .string x.f1]) = true := by
    unfold Value.formed
    rw [Tryd.underlying50]
    have : Tryd.prog.cellsOf 50 = 2 := by kernel_rfl
    simp [this]
  have e3 : Tryd.prog.keyLits (Tryd.prog.types.size + 1) 50 (Value.agg #[.string x.f0, .string x.f1]).cells.toList = some [.string x.f0.data.toList, .string x.f1.data.toList] := by
    obtain ⟨d, hd⟩ : ∃ d, Tryd.prog.types.size = d + 1 := ⟨Tryd.prog.types.size - 1, by have : 0 < Tryd.prog.types.size := of_decide_eq_true (by kernel_rfl); omega⟩
    rw [hd]
    have c1 : Tryd.prog.cellsOf 50 = 2 := by kernel_rfl
    have c2 : Tryd.prog.cellsOf 9 = 1 := by kernel_rfl
    have hs := Tryd.underlying9
    unfold Program.keyLits
    rw [Tryd.underlying50]
    simp [Value.cells, c1, c2, Program.keyLits, hs, h0, h1]
  simp only [e1, e2, e3, Bool.and_self, if_true, Option.map_some]
theorem klN_inj (x y : Nm) (hx : x.f0.size ≤ maxLen ∧ x.f1.size ≤ maxLen) (hy : y.f0.size ≤ maxLen ∧ y.f1.size ≤ maxLen) (h : klN x = klN y) : x.f0 = y.f0 ∧ x.f1 = y.f1 := by
  have h1 := keyN x hx.1 hx.2
  have h2 := keyN y hy.1 hy.2
  rw [h] at h1
  have e := keyedN.inj h1 h2
  unfold valN at e
  injection e with e
  have e1 := congrArg (fun a : Array Value => a.toList) e
  simp only [List.cons.injEq, Value.string.injEq, and_true] at e1
  exact e1
end Go.Proofs.YtidkjifilgjgfaaDoor.ND
namespace Go.Proofs.YtidkjifilgjgfaaDoor
open Go.RowKit Go.Proofs.YtidkjifilgjgfaaDoorW.PrintWords Go.Proofs.YtidkjifilgjgfaaDoorW.PrintLast Go.Proofs.YtidkjifilgjgfaaDoorW.PrintMore
def MT (w : World) : Prop := Refs.Tens w
theorem MT.below {w w1 : World} (h : MT w) (hb : Below w.heap.size w w1) : MT w1 := Refs.yf2 h hb
end Go.Proofs.YtidkjifilgjgfaaDoor
-- PRINTED by print.py (a twelfth state) out of the translation. Not trusted: Lean checks it.
namespace Go.Proofs.YtidkjifilgjgfaaDoor.PU
open Go.RowKit Go.Proofs.YtidkjifilgjgfaaDoorW.PrintWords Go.Proofs.YtidkjifilgjgfaaDoorW.PrintLast Go.Proofs.YtidkjifilgjgfaaDoorW.PrintMore
attribute [local go_sem] yg8 yg6 yh9 yh8 yf9 yf8 yg7 yg5   -- for this text's walks alone
set_option linter.unusedVariables false
set_option linter.unusedSimpArgs false



def errW : Option Int → Value
 | none => .nilIface
 | some c => .iface 0 (.int .i64 c)
theorem yb0 : errW none = .nilIface := rfl
theorem ya9 (c : Int) : errW (some c) = .iface 0 (.int .i64 c) := rfl

-- the values' own types

end Go.Proofs.YtidkjifilgjgfaaDoor.PU
