/- What the lexer gives up with is caught: the deferred closure of Tokens. -/
import Derived.Test.YtffpbhbiamkkpaaDoorLxA
import Derived.Recover
import Derived.RegionTactic
import Derived.ChangeAlike
import Derived.KernelRfl
namespace Go.Proofs.YtffpbhbiamkkpaaDoor.Lx
open Go.RowKit Go.Proofs.YtffpbhbiamkkpaaDoorW.PrintWords Go.Proofs.YtffpbhbiamkkpaaDoorW.PrintLast Go.Proofs.YtffpbhbiamkkpaaDoorW.PrintMore Go.Proofs.YtffpbhbiamkkpaaDoor.PU
set_option linter.unusedVariables false
set_option linter.unusedSimpArgs false

theorem alloc_frozen (w : World) (o : Obj) (p : Addr) (h : p.block < w.heap.size) : (w.alloc o).frozen? p = w.frozen? p := by
  unfold World.frozen?
  rw [Below.heap_alloc w o p.block h]
/-- But for the three results' blocks nothing of what was there has turned. -/
structure Far3 (w : World) (B : Nat) (w' : World) : Prop where
  os : w'.os = w.os
  tape : w'.tape = w.tape
  output : w'.output = w.output
  size : w.heap.size ≤ w'.heap.size
  old : ∀ k, k < w.heap.size → k ≠ B → k ≠ B + 1 → k ≠ B + 2 → w'.heap[k]? = w.heap[k]?
theorem Far3.refl (w : World) (B : Nat) : Far3 w B w := ⟨rfl, rfl, rfl, Nat.le_refl _, fun _ _ _ _ _ => rfl⟩
theorem Far3.alloc {w w' : World} {B : Nat} (h : Far3 w B w') (o : Obj) : Far3 w B (w'.alloc o) :=
  ⟨h.os, h.tape, h.output, by have := h.size; simp; omega, fun k hk a b c => (Below.heap_alloc w' o k (by have := h.size; omega)).trans (h.old k hk a b c)⟩
theorem Far3.drew {w w' : World} {B : Nat} (h : Far3 w B w') : Far3 w B w'.drew := ⟨h.os, h.tape, h.output, h.size, h.old⟩
theorem Far3.set {w w' : World} {B : Nat} (h : Far3 w B w') (b : Nat) (v : Value) (hb : b = B ∨ b = B + 1 ∨ b = B + 2) : Far3 w B (w'.setCell ⟨b, 0, none⟩ v) :=
  ⟨h.os, h.tape, h.output, by simpa [World.setCell] using h.size, fun k hk x y z => (Below.heap_setCell w' _ _ k (by show k ≠ b; omega)).trans (h.old k hk x y z)⟩
/-- Behind the closure: the three results are these. -/
structure Caught (w : World) (B : Nat) (v : Value) (a c : Int) (w' : World) : Prop where
  far : Far3 w B w'
  c0 : w'.cell? ⟨B, 0, none⟩ = some v
  c1 : w'.cell? ⟨B + 1, 0, none⟩ = some (.int .i64 a)
  c2 : w'.cell? ⟨B + 2, 0, none⟩ = some (.int .i64 c)

theorem ta0 (w : World) : (Instr.typeAssert Value.nilIface 20 91 true).run Tryd.prog w = .ok (.tuple #[.agg #[.int .i64 0, .int .i64 0], .bool false]) w := by kernel_rfl
theorem ta1 (a c : Int) (w : World) : (Instr.typeAssert (.iface 91 (.agg #[.int .i64 a, .int .i64 c])) 20 91 true).run Tryd.prog w = .ok (.tuple #[.agg #[.int .i64 a, .int .i64 c], .bool true]) w := by kernel_rfl
set_option maxHeartbeats 2000000 in
set_option maxRecDepth 100000 in
theorem catch_idle (B : Nat) (w : World) :
    CallsD Tryd.prog 53 #[.pointer (some ⟨B, 0, none⟩), .pointer (some ⟨B + 1, 0, none⟩), .pointer (some ⟨B + 2, 0, none⟩)] .returning w fun e u' w' =>
      e = .returned (.tuple #[]) ∧ u' = .returning ∧ Below w.heap.size w w' := by
  refine callsD_of_wpS Tryd.func53 rfl fun c₀ cs hu => ?_
  apply wpS_seq
  apply wpS_region
  simp [wpOpsS, go_sem, ta0, recoverD, hu, Tryd.ntmps53, Exit.thenS]
  refine wpS_of_wp ?_
  simp only [List.length_cons, List.length_nil, Nat.reduceAdd, Nat.reduceSub, Array.replicate_succ, Array.replicate_zero, List.push_toArray, List.append_toArray, List.nil_append, List.cons_append, List.setIfInBounds_toArray, List.set_cons_zero, List.set_cons_succ]
  go_wp2
  cases c₀
  simp only at hu
  subst hu
  refine ⟨rfl, .returning, rfl, .tuple #[], results_none rfl _ _ _, rfl, rfl, ?_⟩
  exact (Below.refl _ _).alloc (Nat.le_refl _) _

set_option maxHeartbeats 4000000 in
set_option maxRecDepth 100000 in
theorem catch_panicking (B : Nat) (a c : Int) (vl : Value) (a0 c0 : Int) (older : List PanicEntry) (w : World) (hl : w.cell? ⟨B, 0, none⟩ = some vl) (ha : w.cell? ⟨B + 1, 0, none⟩ = some (.int .i64 a0)) (hc : w.cell? ⟨B + 2, 0, none⟩ = some (.int .i64 c0))
    (fl : w.frozen? ⟨B, 0, none⟩ = false) (fa : w.frozen? ⟨B + 1, 0, none⟩ = false) (fc : w.frozen? ⟨B + 2, 0, none⟩ = false) :
    CallsD Tryd.prog 53 #[.pointer (some ⟨B, 0, none⟩), .pointer (some ⟨B + 1, 0, none⟩), .pointer (some ⟨B + 2, 0, none⟩)] (.panicking ({ v := .iface 91 (.agg #[.int .i64 a, .int .i64 c]), recovered := false } :: older)) w fun e u' w' =>
      e = .returned (.tuple #[]) ∧ u' = .panicking ({ v := .iface 91 (.agg #[.int .i64 a, .int .i64 c]), recovered := true } :: older) ∧ Caught w B (.slice none 0 0) a c w' := by
  have hlt : B + 2 < w.heap.size := World.block_lt_of_cell? w _ hc
  refine callsD_of_wpS Tryd.func53 rfl fun c₀ cs hu => ?_
  apply wpS_seq
  apply wpS_region
  simp [wpOpsS, go_sem, ta1, recoverD, hu, Tryd.ntmps53, Exit.thenS]
  refine wpS_of_wp ?_
  simp only [List.length_cons, List.length_nil, Nat.reduceAdd, Nat.reduceSub, Array.replicate_succ, Array.replicate_zero, List.push_toArray, List.append_toArray, List.nil_append, List.cons_append, List.setIfInBounds_toArray, List.set_cons_zero, List.set_cons_succ]
  have ne1 := eq_false (show ¬ B = w.heap.size by omega)
  have ne2 := eq_false (show ¬ B + 1 = w.heap.size by omega)
  have ne3 := eq_false (show ¬ B + 2 = w.heap.size by omega)
  have pl : ∀ o : Obj, (w.alloc o).cell? ⟨B, 0, none⟩ = some vl := fun o => by rw [World.cell?_alloc_past _ _ _ (by show B < _; omega)]; exact hl
  have pa : ∀ o : Obj, (w.alloc o).cell? ⟨B + 1, 0, none⟩ = some (.int .i64 a0) := fun o => by rw [World.cell?_alloc_past _ _ _ (by show B + 1 < _; omega)]; exact ha
  have pc : ∀ o : Obj, (w.alloc o).cell? ⟨B + 2, 0, none⟩ = some (.int .i64 c0) := fun o => by rw [World.cell?_alloc_past _ _ _ (by show B + 2 < _; omega)]; exact hc
  have rl : ∀ o : Obj, (w.alloc o).frozen? ⟨B, 0, none⟩ = false := fun o => by rw [alloc_frozen _ _ _ (by show B < _; omega)]; exact fl
  have ra : ∀ o : Obj, (w.alloc o).frozen? ⟨B + 1, 0, none⟩ = false := fun o => by rw [alloc_frozen _ _ _ (by show B + 1 < _; omega)]; exact fa
  have rc : ∀ o : Obj, (w.alloc o).frozen? ⟨B + 2, 0, none⟩ = false := fun o => by rw [alloc_frozen _ _ _ (by show B + 2 < _; omega)]; exact fc
  go_wp2
  go_region
  all_goals
    refine ⟨rfl, _, rfl, .tuple #[], results_none rfl _ _ _, rfl, rfl, ?_, ?_, ?_, ?_⟩
    · repeat (first | exact Far3.refl _ _ | apply Far3.drew | apply Far3.alloc | (refine Far3.set ?_ _ _ (by omega)))
    · go_simp
    · go_simp
    · go_simp
end Go.Proofs.YtffpbhbiamkkpaaDoor.Lx
