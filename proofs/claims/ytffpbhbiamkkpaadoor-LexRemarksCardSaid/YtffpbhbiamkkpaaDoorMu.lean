/- What the whole lexer asks of its world: the library's variable holds some number, and utf8's two tables are as they are laid. -/
import Derived.Test.YtffpbhbiamkkpaaDoorLxJ
namespace Go.Proofs.YtffpbhbiamkkpaaDoor
open Go.RowKit
def MU (w : World) : Prop := ML w ∧ Lx.U8 w
theorem MU.below {w w1 : World} (h : MU w) (hb : Below w.heap.size w w1) : MU w1 := ⟨h.1.below hb, Utf8Tabs_below h.2 hb⟩
theorem MU.drew {w : World} (h : MU w) : MU w.drew := h
theorem MU.drewN {w : World} (h : MU w) (n : Nat) : MU (w.drewN n) := h
theorem MU.alloc {w : World} (h : MU w) (o : Obj) : MU (w.alloc o) := h.below ((Below.refl _ _).alloc (Nat.le_refl _) o)
end Go.Proofs.YtffpbhbiamkkpaaDoor
