/- strings.Builder's writes with a frame for the blocks above it: a block that isn't the builder's and holds no bytes is as it was (Fr). -/
import Derived.Test.YtidkjifilgjgfaaDoorBld
namespace Go.Proofs.YtidkjifilgjgfaaDoor.Bld
open Go.RowKit
set_option linter.unusedVariables false
/-- Whatever block is not b's and holds no bytes is as it was. -/
def Fr (b : Nat) (w w' : World) : Prop := ∀ k o, k ≠ b → (∀ cs z, o ≠ .cells cs 5 z) → w.heap[k]? = some o → w'.heap[k]? = some o
theorem Fr.refl (b : Nat) (w : World) : Fr b w w := fun _ _ _ _ h => h
theorem Fr.trans {b : Nat} {w w1 w2 : World} (h : Fr b w w1) (k : Fr b w1 w2) : Fr b w w2 := fun i o h1 h2 h3 => k i o h1 h2 (h i o h1 h2 h3)
theorem Fr.below {b : Nat} {w w' : World} (h : Below w.heap.size w w') : Fr b w w' := fun i o _ _ h3 => (h.block i (by rcases Nat.lt_or_ge i w.heap.size with h' | h'; exact h'; simp [Array.getElem?_eq_none h'] at h3)).trans h3
theorem Fr.alloc {b : Nat} {w w' : World} (h : Fr b w w') (o : Obj) : Fr b w (w'.alloc o) := h.trans (Fr.below ((Below.refl _ _).alloc (Nat.le_refl _) o))
theorem Fr.cells {b : Nat} {w w' : World} (h : Fr b w w') {k : Nat} {cs : Array Value} {T : TypeId} {z : Nat × Nat} (hk : k ≠ b) (hT : T ≠ 5) (hc : w.heap[k]? = some (.cells cs T z)) : w'.heap[k]? = some (.cells cs T z) :=
  h k _ hk (fun cs' z' e => hT (by injection e)) hc
theorem own_off {w : World} {B : Nat} {v : Value} {n : Nat} {xs : List Value} {k : Nat} {o : Obj} (hown : w.ownsRow B 5 1 v n xs) (ho : ∀ cs z, o ≠ .cells cs 5 z) (hk : w.heap[k]? = some o) : v.ownBlock ≠ some k := by
  rcases hown.2 with ⟨rfl, _⟩ | ⟨g, cap, cur, rfl, _, hg, _⟩
  · simp [Value.ownBlock]
  · intro h
    simp only [Value.ownBlock, Option.some.injEq] at h
    subst h
    rw [hg] at hk
    exact ho _ _ (Option.some.inj hk).symm
set_option maxHeartbeats 1000000 in
set_option maxRecDepth 100000 in
theorem writeString2 (T : TypeId) (hT : Home T) (B b : Nat) (bs : List Value) (s : ByteArray) (w : World) (h : Lib.IsBuilder T 5 B b bs w) (hlen : bs.length + s.size ≤ 140737488355328) (hBw : B ≤ w.heap.size) :
    Calls Tryd.prog 52 #[.pointer (some ⟨b, 0, none⟩), .string s] w fun e w' => e = .returned (.tuple #[.int .i64 s.size, .nilIface]) ∧ (Lib.BuilderAt T 5 B b (.pointer (some ⟨b, 0, none⟩)) (bs ++ Lib.strCells s) w' ∧ Below B w w' ∧ Fr b w w') := by
  obtain ⟨i0, hi, hz0, hz1, hz2⟩ := info_parts info_b
  go_enter Tryd.func52, Tryd.ntmps52
  go_wp2_with (go_at_call 64; refine (copyCheck T hT B b bs _ h).mono ?_)
  rintro e w1 ⟨rfl, h1, hb1, hk1⟩
  obtain ⟨hB, v, hbk, hown, hne⟩ := h1
  have c0 : w1.cell? ⟨b, 0, none⟩ = some (.pointer (some ⟨b, 0, none⟩)) := by rw [Lib.cell_of_heap hbk]; rfl
  have c1 : w1.cell? ⟨b, 1, none⟩ = some v := by rw [Lib.cell_of_heap hbk]; rfl
  go_wp2_with (at_builtin; refine Lib.wpList_append_own_string _ rfl _ _ 71 9 rfl B 5 i0 Tryd.underlying71 Tryd.underlying9 hi hz0 hz1 hz2 _ _ _ rfl hown s rfl ?c3 ?c4 ?c5 ?_)
  case c3 => unfold maxLen; omega
  case c4 => omega
  case c5 => have := hb1.size; omega
  intro v' w2 hown' hgrow _
  have hlt : b < w1.heap.size := by
    rcases Nat.lt_or_ge b w1.heap.size with h' | h'
    · exact h'
    · simp [Array.getElem?_eq_none h'] at hbk
  have hb2 : w2.heap[b]? = some (.cells #[.pointer (some ⟨b, 0, none⟩), v] T (0, 0)) := by
    rw [hgrow.block b hlt (fun e => hne e.symm)]
    exact hbk
  have d0 : w2.cell? ⟨b, 0, none⟩ = some (.pointer (some ⟨b, 0, none⟩)) := by rw [Lib.cell_of_heap hb2]; rfl
  have d1 : w2.cell? ⟨b, 1, none⟩ = some v := by rw [Lib.cell_of_heap hb2]; rfl
  have f1 : w2.frozen? ⟨b, 1, none⟩ = false := Lib.frozen_of_heap hb2 1
  obtain ⟨ao, n', cap, rfl⟩ : ∃ ao n' cap, v' = .slice ao n' cap := by
    rcases hown'.2 with ⟨hv, _⟩ | ⟨g, cap, cur, hv, _⟩
    · exact ⟨_, _, _, hv⟩
    · exact ⟨_, _, _, hv⟩
  go_wp2
  go_ret2
  refine ⟨rfl, ?_, ?_, ?_⟩
  · exact Lib.BuilderAt.put (T := T) (e := 5) hB hb2 (bs' := bs ++ Lib.strCells s) (by simpa [Lib.strCells_length] using hown') hT.ne
  · exact (hb1.grown hgrow (by have := hb1.size; omega) (fun k hk => (hown.lt k hk).1)).setCell (p := ⟨b, 1, none⟩) hB _
  · intro k o hkb hT' hk
    have hks : k < w.heap.size := by
      rcases Nat.lt_or_ge k w.heap.size with h' | h'
      · exact h'
      · simp [Array.getElem?_eq_none h'] at hk
    have e1 := (hk1 k hks hkb).trans hk
    have hks1 : k < w1.heap.size := Nat.lt_of_lt_of_le hks hb1.size
    have e2 := (hgrow.block k hks1 (fun e => own_off hown hT' e1 e.symm)).trans e1
    exact (Below.heap_setCell _ _ _ _ hkb).trans e2
set_option maxHeartbeats 1000000 in
set_option maxRecDepth 100000 in
theorem len2 (T : TypeId) (B b : Nat) (bs : List Value) (w : World) (h : Lib.IsBuilder T 5 B b bs w) :
    Calls Tryd.prog 33 #[.pointer (some ⟨b, 0, none⟩)] w fun e w' => e = .returned (.int .i64 bs.length) ∧ w = w' := by
  obtain ⟨v, hbk, hown⟩ : ∃ v, (∃ p, w.heap[b]? = some (.cells #[p, v] T (0, 0))) ∧ w.ownsRow B 5 1 v bs.length bs := by
    rcases h with ⟨_, v, h1, h2, _⟩ | ⟨_, v, h1, h2, _⟩
    · exact ⟨v, ⟨_, h1⟩, h2⟩
    · exact ⟨v, ⟨_, h1⟩, h2⟩
  obtain ⟨p, hbk⟩ := hbk
  have c0 : w.cell? ⟨b, 0, none⟩ = some p := by rw [Lib.cell_of_heap hbk]; rfl
  have c1 : w.cell? ⟨b, 1, none⟩ = some v := by rw [Lib.cell_of_heap hbk]; rfl
  obtain ⟨ao, cap, rfl⟩ : ∃ ao cap, v = .slice ao bs.length cap := by
    rcases hown.2 with ⟨hv, h0⟩ | ⟨g, cap, cur, hv, _⟩
    · exact ⟨none, 0, by rw [hv, h0]⟩
    · exact ⟨_, _, hv⟩
  clear hown hbk h
  go_enter Tryd.func33, Tryd.ntmps33
  go_wp2
  go_ret
  exact ⟨rfl, rfl⟩
end Go.Proofs.YtidkjifilgjgfaaDoor.Bld
