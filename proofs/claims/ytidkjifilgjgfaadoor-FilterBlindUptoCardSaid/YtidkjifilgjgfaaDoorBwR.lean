/- Worlds that come of one another by calls that make memory: Bw; a frame whose slots are letters. -/
import Derived.Test.YtidkjifilgjgfaaDoorWWords
import Derived.Test.YtidkjifilgjgfaaDoorWLast
import Derived.Test.YtidkjifilgjgfaaDoorMx9
import Derived.WalkKit
import Derived.WalkSpells
import Derived.KernelRfl
import Derived.Deep.WholeRow
import Derived.Lib.Builder
namespace Go
theorem yi4 {P : Program} {c : Code} {Q Q' : Exit → Act → World → Prop} {a : Act} {w : World} (h : c.wp P Q a w) (hq : ∀ e a w, Q e a w → Q' e a w) : c.wp P Q' a w :=
  fun b k cs => let ⟨e, a', w', q, r⟩ := h b k cs; ⟨e, a', w', hq _ _ _ q, r⟩
end Go
namespace Go.Proofs.YtidkjifilgjgfaaDoor.Pd
open Go Go.RowKit Go.Proofs.YtidkjifilgjgfaaDoorW.PrintWords Go.Proofs.YtidkjifilgjgfaaDoorW.PrintLast Go.Proofs.YtidkjifilgjgfaaDoorW.PrintMore
set_option linter.unusedVariables false
theorem ye3 (w : World) (o : Obj) : (w.alloc o).heap.size = w.heap.size + 1 := by simp
theorem yi9 (w : World) : w.drew.heap.size = w.heap.size := rfl
/-- b comes of a: what a holds stands. -/
def Bw (a b : World) : Prop := Below a.heap.size a b
theorem Bw.refl (a : World) : Bw a a := Below.refl _ _
theorem Bw.size {a b : World} (h : Bw a b) : a.heap.size ≤ b.heap.size := Below.size h
theorem Bw.trans {a b c : World} (h : Bw a b) (h2 : Bw b c) : Bw a c := Below.trans h (Below.mono h2 h.size)
theorem Bw.alloc {a b : World} (h : Bw a b) (o : Obj) : Bw a (b.alloc o) := Below.alloc h h.size o
theorem Bw.drew {a b : World} (h : Bw a b) : Bw a b.drew := ym1 h
theorem Bw.drewN {a b : World} (h : Bw a b) (n : Nat) : Bw a (b.drewN n) := ya0 h n
theorem Bw.set {a b : World} (h : Bw a b) (p : Addr) (u : Value) (hp : a.heap.size ≤ p.block) : Bw a (b.setCell p u) := Below.setCell h hp u
theorem Bw.cell {a b : World} (h : Bw a b) {p : Addr} {v : Value} (hc : a.cell? p = some v) : b.cell? p = some v := yd3 h hc
theorem Bw.block {a b : World} (h : Bw a b) {k : Nat} {o : Obj} (hk : a.heap[k]? = some o) : b.heap[k]? = some o := (Below.block h k (blk_lt hk)).trans hk
theorem Bw.last {a b : World} {o : Obj} (h : Bw (a.alloc o) b) : b.heap[a.heap.size]? = some o := h.block (heap_alloc_last a o)
theorem Bw.lastd {a b : World} {o : Obj} (h : Bw (a.alloc o).drew b) : b.heap[a.heap.size]? = some o := h.block (Bw.block (Bw.drew (Bw.refl _)) (heap_alloc_last a o))
theorem Bw.last2 {a b : World} {o o' : Obj} (h : Bw ((a.alloc o).alloc o') b) : b.heap[a.heap.size]? = some o := h.block (Bw.block ((Bw.refl _).alloc o') (heap_alloc_last a o))
theorem box6 {W : World} {g : Nat} {t : TypeId} {v0 v1 v2 v3 v4 v5 : Value} (h : W.heap[g]? = some (.cells #[v0, v1, v2, v3, v4, v5] t (0, 0))) : W.cell? ⟨g, 0, none⟩ = some v0 ∧ W.cell? ⟨g, 1, none⟩ = some v1 ∧ W.cell? ⟨g, 2, none⟩ = some v2 ∧ W.cell? ⟨g, 3, none⟩ = some v3 ∧ W.cell? ⟨g, 4, none⟩ = some v4 ∧ W.cell? ⟨g, 5, none⟩ = some v5 := by
  refine ⟨?_, ?_, ?_, ?_, ?_, ?_⟩ <;> (rw [Lib.cell_of_heap h]; rfl)
theorem box7 {W : World} {g : Nat} {t : TypeId} {v0 v1 v2 v3 v4 v5 v6 : Value} (h : W.heap[g]? = some (.cells #[v0, v1, v2, v3, v4, v5, v6] t (0, 0))) : W.cell? ⟨g, 0, none⟩ = some v0 ∧ W.cell? ⟨g, 1, none⟩ = some v1 ∧ W.cell? ⟨g, 2, none⟩ = some v2 ∧ W.cell? ⟨g, 3, none⟩ = some v3 ∧ W.cell? ⟨g, 4, none⟩ = some v4 ∧ W.cell? ⟨g, 5, none⟩ = some v5 ∧ W.cell? ⟨g, 6, none⟩ = some v6 := by
  refine ⟨?_, ?_, ?_, ?_, ?_, ?_, ?_⟩ <;> (rw [Lib.cell_of_heap h]; rfl)
theorem fr6 {W : World} {g : Nat} {t : TypeId} {cs : Array Value} (h : W.heap[g]? = some (.cells cs t (0, 0))) : W.frozen? ⟨g, 0, none⟩ = false ∧ W.frozen? ⟨g, 1, none⟩ = false ∧ W.frozen? ⟨g, 2, none⟩ = false ∧ W.frozen? ⟨g, 3, none⟩ = false ∧ W.frozen? ⟨g, 4, none⟩ = false ∧ W.frozen? ⟨g, 5, none⟩ = false :=
  ⟨yd4 h 0, yd4 h 1, yd4 h 2, yd4 h 3, yd4 h 4, yd4 h 5⟩
section
variable {α : Type} {d : Kd α} {e base base' : Nat} {ok ok' : Nat → Prop} {a b : World} {v : Value} {xs : List α}
/-- A row of one's own, in a world that came of its own. -/
theorem Bw.row (h : Bw a b) (hR : d.R e a base ok v xs) (hb : base' ≤ base) (hok : ∀ k, ok k → base ≤ k → k < a.heap.size → ok' k) : d.R e b base' ok' v xs :=
  Kd.ye5 (Kd.yg9 (Kd.R_mono (Kd.yj1 hR) (fun k hk => hok k hk.1 hk.2.1 hk.2.2.1)) hb) h
end
end Go.Proofs.YtidkjifilgjgfaaDoor.Pd
