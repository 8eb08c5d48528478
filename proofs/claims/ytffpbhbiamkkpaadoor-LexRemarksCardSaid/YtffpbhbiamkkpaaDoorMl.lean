/- The one package-level variable of the library that the lexer's road reads without its value mattering: it holds some number. -/
import Derived.Test.YtffpbhbiamkkpaaDoorProg
import Derived.WalkKit
import Derived.Deep.QuietTactic
namespace Go.Proofs.YtffpbhbiamkkpaaDoor
open Go.RowKit
/-- internal/bytealg.MaxLen holds some number. -/
def ML (w : World) : Prop := ∃ m : Int, w.cell? ⟨1, 0, none⟩ = some (.int .i64 m)
theorem ML.lt {w : World} (h : ML w) : 1 < w.heap.size := by
  obtain ⟨m, h⟩ := h
  rcases Nat.lt_or_ge 1 w.heap.size with h' | h'
  · exact h'
  · simp [World.cell?, Array.getElem?_eq_none h'] at h
theorem ML.below {w w1 : World} (h : ML w) (hb : Below w.heap.size w w1) : ML w1 := by
  obtain ⟨m, hm⟩ := h
  exact ⟨m, (hb.cell (p := ⟨1, 0, none⟩) (ML.lt ⟨m, hm⟩)).trans hm⟩
theorem ML.drew {w : World} (h : ML w) : ML w.drew := h
theorem ML.drewN {w : World} (h : ML w) (n : Nat) : ML (w.drewN n) := h
theorem ML.alloc {w : World} (h : ML w) (o : Obj) : ML (w.alloc o) := h.below ((Below.refl _ _).alloc (Nat.le_refl _) o)
end Go.Proofs.YtffpbhbiamkkpaaDoor
