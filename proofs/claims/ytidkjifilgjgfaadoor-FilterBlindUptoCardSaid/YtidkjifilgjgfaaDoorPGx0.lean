import Derived.Test.YtidkjifilgjgfaaDoorProg
import Derived.Below
import Derived.Deep.Draws
import Derived.Deep.AppendLies
import Derived.Maps.AppendAt
import Derived.OwnWalk
import Derived.Laws.BytesArg
import Derived.Laws.MakeOwn
import Derived.Laws.OwnMore
import Derived.Deep.OwnRows
import Derived.Tactics
import Derived.Lib.ConvBytes
import Derived.Laws.Slices
import Derived.WalkKit
import Derived.KernelRfl
import Derived.RowKit3
import Derived.Deep.LoopGhost
import Derived.Deep.QuietTactic
import Derived.BigQuiet
import Derived.WideLaws
import Derived.Deep.DeepCutAuto
import Derived.Deep.CutBlock
import Derived.Deep.RegionHeld3
import Derived.Laws.Rows
import Derived.Lib.AppendStr
import Derived.ArgAppend
import Derived.Laws.IdiomCopy
import Derived.OrdersHeld
import Derived.Laws.BitsLemmas
import Derived.RowKit
import Derived.Test.YtidkjifilgjgfaaDoorPUx1
import Derived.Test.YtidkjifilgjgfaaDoorPLx1
import Derived.Test.YtidkjifilgjgfaaDoorWWords
import Derived.Test.YtidkjifilgjgfaaDoorWLast
import Derived.Test.YtidkjifilgjgfaaDoorWTab
import Derived.Test.YtidkjifilgjgfaaDoorWApart
import Derived.Test.YtidkjifilgjgfaaDoorMx15
import Derived.Laws.StructEq
import Derived.Test.YtidkjifilgjgfaaDoorMx11
import Derived.Test.YtidkjifilgjgfaaDoorMx9
-- PRINTED by print.py (a twelfth state) out of the translation. Not trusted: Lean checks it.
namespace Go.Proofs.YtidkjifilgjgfaaDoor.PG
open Go.RowKit Go.Proofs.YtidkjifilgjgfaaDoorW.PrintWords Go.Proofs.YtidkjifilgjgfaaDoorW.PrintLast Go.Proofs.YtidkjifilgjgfaaDoorW.PrintMore
attribute [local go_sem] yg8 yg6 yh9 yh8 yf9 yf8 yg7 yg5   -- for this text's walks alone
set_option linter.unusedVariables false
set_option linter.unusedSimpArgs false



def errW : Option Int → Value
 | none => .nilIface
 | some c => .iface 0 (.int .i64 c)
theorem yb0 : errW none = .nilIface := rfl
theorem ya9 (c : Int) : errW (some c) = .iface 0 (.int .i64 c) := rfl

structure S133 where
 f0 : Int
 f1 : Int
def z133 : S133 := ⟨(0 : Int), (0 : Int)⟩
def k133 : Kd S133 := Kd.iso (Kd.pair (Kd.int .i32) (Kd.int .i32)) (fun x : S133 => (x.f0, x.f1))
theorem yq7 {w : World} {x : S133} {cs : List Value} (h : k133.K w x cs) : cs = [.int .i32 x.f0, .int .i32 x.f1] := by
 obtain ⟨_, _, rfl, rfl, rfl⟩ := h
 exact rfl
theorem yf0 (w : World) (base : Nat) (ok : Nat → Prop) (x : S133)  : k133.M w base ok x [.int .i32 x.f0, .int .i32 x.f1] := ⟨[.int .i32 x.f0], [.int .i32 x.f1], rfl, rfl, rfl⟩
def yg1 (xs : List S133) (i : Int) : S133 := xs.getD i.toNat z133
theorem ym5 {w : World} {A : Option Addr} {n : Nat} {xs : List S133} (h : Kd.C k133 w A n xs) (i : Int) (h0 : 0 ≤ i) (h1 : i < n) : ∃ ad , A = some ad ∧ w.cell? (ad.add (i.toNat * 2)) = some (.int .i32 (yg1 xs i).f0) ∧ w.cell? ⟨(ad.add (i.toNat * 2)).block, (ad.add (i.toNat * 2)).off + 1, none⟩ = some (.int .i32 (yg1 xs i).f1) := by
 obtain ⟨ad, c, e, _, hK, hc0⟩ := Kd.C_get h z133 i h0 h1
 have hc : ∀ j u, c[j]? = some u → w.cell? (ad.add (i.toNat * 2 + j)) = some u := hc0
 obtain rfl := yq7 hK
 exact ⟨ad, e, hc 0 _ rfl, by rw [← ye4 _ _ 1 (by omega)]; exact hc 1 _ rfl⟩

end Go.Proofs.YtidkjifilgjgfaaDoor.PG
