/- A name as a map's key. -/
import Derived.Test.YtffpbhbiamkkpaaDoorMx8
import Derived.Test.YtffpbhbiamkkpaaDoorNd
import Derived.DeepKeys4
import Derived.Test.YtffpbhbiamkkpaaDoorProg
import Derived.Below
import Derived.Deep.Draws
import Derived.Deep.AppendLies
import Derived.Maps.AppendAt
import Derived.OwnWalk
import Derived.Laws.BytesArg
import Derived.Laws.MakeOwn
import Derived.Laws.OwnMore
import Derived.Deep.OwnRows
import Derived.Tactics
import Derived.Lib.ConvBytes
import Derived.Laws.Slices
import Derived.WalkKit
import Derived.KernelRfl
import Derived.RowKit3
import Derived.Deep.LoopGhost
import Derived.Deep.QuietTactic
import Derived.BigQuiet
import Derived.WideLaws
import Derived.Deep.DeepCutAuto
import Derived.Deep.CutBlock
import Derived.Deep.RegionHeld3
import Derived.Laws.Rows
import Derived.Lib.AppendStr
import Derived.ArgAppend
import Derived.Laws.IdiomCopy
import Derived.OrdersHeld
import Derived.Laws.BitsLemmas
import Derived.RowKit
import Derived.Test.YtffpbhbiamkkpaaDoorShelf
import Derived.Test.YtffpbhbiamkkpaaDoorPLx1
import Derived.Test.YtffpbhbiamkkpaaDoorWWords
import Derived.Test.YtffpbhbiamkkpaaDoorWLast
import Derived.Laws.StructEq
import Derived.Test.YtffpbhbiamkkpaaDoorWMore
namespace Go.Proofs.YtffpbhbiamkkpaaDoor.ND
open Go Go.RowKit Go.Proofs.YtffpbhbiamkkpaaDoorW.PrintWords Go.Maps
set_option linter.unusedVariables false
theorem laidOutP : laidOutB Tryd.prog = true := by kernel_rfl
theorem keyedN : Keyed Tryd.prog 23 := Keyed.of_law (deep_law_laid laidOutP (m := 2) (by omega) (of_decide_eq_true (by kernel_rfl)) (by kernel_rfl) (by rw [Tryd.underlying23]))
def klN (x : Nm) : Lit := .string (keyBytes [.string x.f0.data.toList, .string x.f1.data.toList])
def valN (x : Nm) : Value := .agg #[.string x.f0, .string x.f1]
theorem keyN (x : Nm) (h0 : x.f0.size ≤ maxLen) (h1 : x.f1.size ≤ maxLen) : keyOf Tryd.prog 23 (valN x) = some (klN x) := by
  unfold keyOf valN klN
  rw [Tryd.underlying23]
  have e1 : Tryd.prog.keyType 23 = true := by kernel_rfl
  have e2 : Value.formed Tryd.prog 23 (.agg #[.string x.f0, .string x.f1]) = true := by
    unfold Value.formed
    rw [Tryd.underlying23]
    have : Tryd.prog.cellsOf 23 = 2 := by kernel_rfl
    simp [this]
  have e3 : Tryd.prog.keyLits (Tryd.prog.types.size + 1) 23 (Value.agg #[.string x.f0, .string x.f1]).cells.toList = some [.string x.f0.data.toList, .string x.f1.data.toList] := by
    obtain ⟨d, hd⟩ : ∃ d, Tryd.prog.types.size = d + 1 := ⟨Tryd.prog.types.size - 1, by have : 0 < Tryd.prog.types.size := of_decide_eq_true (by kernel_rfl); omega⟩
    rw [hd]
    have c1 : Tryd.prog.cellsOf 23 = 2 := by kernel_rfl
    have c2 : Tryd.prog.cellsOf 9 = 1 := by kernel_rfl
    have hs := Tryd.underlying9
    unfold Program.keyLits
    rw [Tryd.underlying23]
    simp [Value.cells, c1, c2, Program.keyLits, hs, h0, h1]
  simp only [e1, e2, e3, Bool.and_self, if_true, Option.map_some]
theorem klN_inj (x y : Nm) (hx : x.f0.size ≤ maxLen ∧ x.f1.size ≤ maxLen) (hy : y.f0.size ≤ maxLen ∧ y.f1.size ≤ maxLen) (h : klN x = klN y) : x.f0 = y.f0 ∧ x.f1 = y.f1 := by
  have h1 := keyN x hx.1 hx.2
  have h2 := keyN y hy.1 hy.2
  rw [h] at h1
  have e := keyedN.inj h1 h2
  unfold valN at e
  injection e with e
  have e1 := congrArg (fun a : Array Value => a.toList) e
  simp only [List.cons.injEq, Value.string.injEq, and_true] at e1
  exact e1
end Go.Proofs.YtffpbhbiamkkpaaDoor.ND
-- PRINTED by print.py (a twelfth state) out of the translation. Not trusted: Lean checks it.
namespace Go.Proofs.YtffpbhbiamkkpaaDoor.PU
open Go.RowKit Go.Proofs.YtffpbhbiamkkpaaDoorW.PrintWords Go.Proofs.YtffpbhbiamkkpaaDoorW.PrintLast Go.Proofs.YtffpbhbiamkkpaaDoorW.PrintMore
attribute [local go_sem] max2_int min2_int max_two min_two max_three min_three max_four min_four   -- for this text's walks alone
set_option linter.unusedVariables false
set_option linter.unusedSimpArgs false



def errW : Option Int → Value
  | none => .nilIface
  | some c => .iface 0 (.int .i64 c)
theorem errW_none : errW none = .nilIface := rfl
theorem errW_some (c : Int) : errW (some c) = .iface 0 (.int .i64 c) := rfl

-- the values' own types

theorem zA {α : Type} (l : List α) (i : Nat) (a : α) : l.toArray.setIfInBounds i a = (l.set i a).toArray := List.setIfInBounds_toArray l i a
theorem zB {α : Type} (x : α) (xs : List α) (a : α) : (x :: xs).set 0 a = a :: xs := List.set_cons_zero
theorem zC {α : Type} (x : α) (xs : List α) (n : Nat) (a : α) : (x :: xs).set (n + 1) a = x :: xs.set n a := List.set_cons_succ
end Go.Proofs.YtffpbhbiamkkpaaDoor.PU
