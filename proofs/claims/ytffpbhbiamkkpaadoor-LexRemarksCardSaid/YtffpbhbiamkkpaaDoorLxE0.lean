/- The lexer's start tags: what they come to; the state at a label. -/
import Derived.Test.YtffpbhbiamkkpaaDoorLxC
import Derived.WalkMore
namespace Go
/-- By a goto: K; else as Q. -/
def Exit.to (K : Nat → Act → World → Prop) (Q : Exit → Act → World → Prop) : Exit → Act → World → Prop
  | .goto l, a, w => K l a w
  | e, a, w => Q e a w
theorem wp_mono_q {P : Program} {c : Code} {Q Q' : Exit → Act → World → Prop} {a : Act} {w : World} (h : c.wp P Q a w) (hq : ∀ e a w, Q e a w → Q' e a w) : c.wp P Q' a w :=
  fun b k cs => let ⟨e, a', w', q, r⟩ := h b k cs; ⟨e, a', w', hq _ _ _ q, r⟩
/-- A scope with several labels; K l n: what holds at a jump to label l, n: a measure that falls. -/
theorem wp_scope_to {P : Program} {c : Code} {a : Act} {w : World} {Q : Exit → Act → World → Prop} (K : Nat → Nat → Act → World → Prop)
    (pass : ∀ l n a w, K l n a w → ∃ r, findLabel c l = some r ∧ r.wp P (Exit.to (fun l' a' w' => ∃ n', n' < n ∧ K l' n' a' w') Q) a w)
    (first : c.wp P (Exit.to (fun l a w => ∃ n, K l n a w) Q) a w) : (Code.scope c).wp P Q a w := by
  intro b k cs
  have key : ∀ n l a w, K l n a w → ∃ r, findLabel c l = some r ∧ ∃ e a' w', Q e a' w' ∧ Arrives P (lone (b.at a (.code r :: .inScope c :: k)) cs w) b k cs e a' w' := by
    intro n
    induction n using Nat.strongRecOn with
    | _ n ih =>
      intro l a w hK
      obtain ⟨r, hr, hp⟩ := pass l n a w hK
      refine ⟨r, hr, ?_⟩
      obtain ⟨e, a₁, w₁, hq, harr⟩ := hp b (.inScope c :: k) cs
      cases e with
      | normal => exact ⟨.normal, a₁, w₁, hq, Steps.trans harr (.one step_inScope)⟩
      | exit id => exact ⟨.exit id, a₁, w₁, hq, fun k' hk => harr k' (by simp [exitTo, hk])⟩
      | goto l' =>
        obtain ⟨n', hn', hK'⟩ := hq
        obtain ⟨r', hr', e₂, a₂, w₂, hq₂, harr₂⟩ := ih n' hn' l' a₁ w₁ hK'
        have hg : gotoIn l' (.inScope c :: k) = some (.code r' :: .inScope c :: k) := by simp [gotoIn, hr']
        exact ⟨e₂, a₂, w₂, hq₂, .of_steps (harr _ hg) harr₂⟩
      | ret => exact ⟨_, a₁, w₁, hq, harr⟩
      | panic ch => exact ⟨_, a₁, w₁, hq, harr⟩
      | outgrown => exact ⟨_, a₁, w₁, hq, harr⟩
  obtain ⟨e, a₁, w₁, hq, harr⟩ := first b (.inScope c :: k) cs
  cases e with
  | normal => exact ⟨.normal, a₁, w₁, hq, .head step_scope (Steps.trans harr (.one step_inScope))⟩
  | exit id => exact ⟨.exit id, a₁, w₁, hq, fun k' hk => .head step_scope (harr k' (by simp [exitTo, hk]))⟩
  | goto l' =>
    obtain ⟨n', hK'⟩ := hq
    obtain ⟨r', hr', e₂, a₂, w₂, hq₂, harr₂⟩ := key n' l' a₁ w₁ hK'
    have hg : gotoIn l' (.inScope c :: k) = some (.code r' :: .inScope c :: k) := by simp [gotoIn, hr']
    exact ⟨e₂, a₂, w₂, hq₂, .of_steps (.head step_scope (harr _ hg)) harr₂⟩
  | ret => exact ⟨_, a₁, w₁, hq, .of_steps (.one step_scope) harr⟩
  | panic ch => exact ⟨_, a₁, w₁, hq, .of_steps (.one step_scope) harr⟩
  | outgrown => exact ⟨_, a₁, w₁, hq, .of_steps (.one step_scope) harr⟩
end Go
namespace Go.Proofs.YtffpbhbiamkkpaaDoor.Lx
open Go.RowKit Go.Proofs.YtffpbhbiamkkpaaDoorW.PrintWords Go.Proofs.YtffpbhbiamkkpaaDoorW.PrintLast Go.Proofs.YtffpbhbiamkkpaaDoorW.PrintMore Go.Proofs.YtffpbhbiamkkpaaDoor.PU
set_option linter.unusedVariables false

abbrev sSlGt : ByteArray := ⟨#[47, 62]⟩
abbrev sSl : ByteArray := ⟨#[47]⟩
abbrev sEq : ByteArray := ⟨#[61]⟩
abbrev sQ : ByteArray := ⟨#[34]⟩
abbrev sA : ByteArray := ⟨#[39]⟩
/-- An attribute at place j: it and the place behind; or what is wrong. -/
def attrS (s : ByteArray) (start j : Nat) : Option (Except (Int × Int) (Raw × Nat)) :=
  match wordS s start j with
  | .error (a, c) => some (.error ((a : Int), c))
  | .ok k =>
    if skip blankB s k = s.size then some (.error (start, 2))
    else if nextB s (skip blankB s k) sEq = false then some (.error ((skip blankB s k : Nat), 4))
    else if skip blankB s (skip blankB s k + 1) = s.size then some (.error (start, 2))
    else if nextB s (skip blankB s (skip blankB s k + 1)) sQ = false ∧ nextB s (skip blankB s (skip blankB s k + 1)) sA = false then some (.error ((skip blankB s (skip blankB s k + 1) : Nat), 4))
    else (valueS s start (skip blankB s (skip blankB s k + 1))).map fun r => match r with
      | .error e => .error e
      | .ok (v, q) => .ok (⟨s.extract j k, v⟩, q)
/-- A tag from behind its name, or an attribute, on: its kind, its attributes, the place behind. -/
def tagL (s : ByteArray) (start : Nat) : Nat → Nat → List Raw → Option (Except (Int × Int) (Int × List Raw × Nat))
  | 0, _, _ => none
  | d + 1, i, l =>
    if skip blankB s i = s.size then some (.error (start, 2))
    else if nextB s (skip blankB s i) sGt = true then some (.ok (1, l, skip blankB s i + 1))
    else if nextB s (skip blankB s i) sSlGt = true then some (.ok (3, l, skip blankB s i + 2))
    else if nextB s (skip blankB s i) sSl = true then (if skip blankB s i + 1 = s.size then some (.error (start, 2)) else some (.error ((skip blankB s i + 1 : Nat), 4)))
    else if partB (bt s (skip blankB s i : Nat)) = false ∨ skip blankB s i = i then some (.error ((skip blankB s i : Nat), 4))
    else if l.length = 65 then some (.error ((skip blankB s i : Nat), 3))
    else (attrS s start (skip blankB s i)).bind fun r => match r with
      | .error e => some (.error e)
      | .ok (x, q) => tagL s start d q (l ++ [x])
def tagS (s : ByteArray) (i : Nat) : Option (Except (Int × Int) (Tok × Nat)) :=
  match wordS s i (i + 1) with
  | .error (a, c) => some (.error ((a : Int), c))
  | .ok k => (tagL s i (s.size + 1) k []).map fun r => match r with
    | .error e => .error e
    | .ok (kind, l, j) => .ok (⟨kind, i, s.extract (i + 1) k, l, ⟨#[]⟩⟩, j)

theorem valueS_le {s : ByteArray} {start i : Nat} {u : ByteArray} {q : Nat} (h : valueS s start i = some (.ok (u, q))) : q ≤ s.size := by
  unfold valueS at h
  split at h
  · cases h
  · rename_i h0
    have h1 := Go.Plain.index_lt h0
    rw [List.length_drop, ← Lib.size_eq s] at h1
    split at h
    · cases h
    · obtain ⟨⟨t, a, c⟩, _, h⟩ := Option.map_eq_some_iff.1 h
      simp only at h
      split at h
      · cases h; omega
      · cases h
theorem wordS_le {s : ByteArray} {start i k : Nat} (hi : i ≤ s.size) (h : wordS s start i = .ok k) : k ≤ s.size := by
  unfold wordS at h
  split at h
  · cases h
  · split at h
    · cases h
    · cases h; exact (skip_le partB s i hi).2
/-- The tag's variables at blocks w.heap.size and the next one; all else as it was but for the lexer's place. -/
structure TagSt (w : World) (g : Nat) (s : ByteArray) (start i : Nat) (v : Value) (kind : Int) (name : ByteArray) (l : List Raw) (x0 x1 : ByteArray) (wr : World) : Prop where
  mv : Moved g w wr s i v
  bt : ∃ va, wr.heap[w.heap.size]? = some (.cells #[.int .i64 kind, .int .i64 (start : Int), .string name, va, .string ⟨#[]⟩] 50 (0, 0)) ∧ kRaw.R 86 wr (w.heap.size + 2) (fun _ => True) va l
  ba : wr.heap[w.heap.size + 1]? = some (.cells #[.string x0, .string x1] 86 (0, 0))
  lt : g < w.heap.size
theorem At.drewN {w : World} {g : Nat} {s : ByteArray} {i : Nat} {v : Value} (h : At w g s i v) (n : Nat) : At (w.drewN n) g s i v := h
theorem At.drew {w : World} {g : Nat} {s : ByteArray} {i : Nat} {v : Value} (h : At w g s i v) : At w.drew g s i v := h
section
variable {w wr wr' : World} {g : Nat} {s : ByteArray} {start i j : Nat} {v : Value} {kind : Int} {name x0 x1 : ByteArray} {l : List Raw}
theorem TagSt.moved (h : TagSt w g s start i v kind name l x0 x1 wr) (m : Moved g wr wr' s j v) : TagSt w g s start j v kind name l x0 x1 wr' := by
  obtain ⟨mv, ⟨va, hb, hR⟩, ha, hg⟩ := h
  refine ⟨mv.trans m, ⟨va, (m.old _ (blk_lt hb) (by omega)).trans hb, Kd.R_step (Kd.R_bound hR) (fun k hk hlt => m.old k hlt (by have := hk.2.1; omega)) |> fun h => Kd.R_mono h (fun _ _ => trivial)⟩, (m.old _ (blk_lt ha) (by omega)).trans ha, hg⟩
theorem TagSt.drewN (h : TagSt w g s start i v kind name l x0 x1 wr) (n : Nat) : TagSt w g s start i v kind name l x0 x1 (wr.drewN n) := h.moved (h.mv.me.moved.drewN n)
theorem TagSt.drew (h : TagSt w g s start i v kind name l x0 x1 wr) : TagSt w g s start i v kind name l x0 x1 wr.drew := h.moved h.mv.me.moved.drew
theorem TagSt.setAt (h : TagSt w g s start i v kind name l x0 x1 wr) {q : Int} {j : Nat} (hq : q = (j : Int)) : TagSt w g s start j v kind name l x0 x1 (wr.setCell ⟨g, 1, none⟩ (.int .i64 q)) := h.moved (h.mv.me.moved.set hq)
theorem Moved.setFar (h : Moved g w wr s i v) {p : Addr} (hp : w.heap.size ≤ p.block) (hg : g < w.heap.size) (u : Value) : Moved g w (wr.setCell p u) s i v :=
  ⟨h.os, h.tape, h.output, by simpa [World.setCell] using h.size, fun k hk hne => (Below.heap_setCell _ _ _ _ (by omega)).trans (h.old k hk hne), (Below.heap_setCell _ _ _ _ (by omega)).trans h.me⟩
theorem TagSt.setA0 (h : TagSt w g s start i v kind name l x0 x1 wr) (x : ByteArray) : TagSt w g s start i v kind name l x x1 (wr.setCell ⟨w.heap.size + 1, 0, none⟩ (.string x)) := by
  obtain ⟨mv, ⟨va, hb, hR⟩, ha, hg⟩ := h
  exact ⟨mv.setFar (by show _ ≤ w.heap.size + 1; omega) hg _, ⟨va, blk_far hb (by show w.heap.size ≠ w.heap.size + 1; omega) _, Kd.R_mono (Kd.R_far (p := ⟨w.heap.size + 1, 0, none⟩) (Kd.R_bound hR) (fun k hk => by have := hk.2.1; show k ≠ w.heap.size + 1; omega) _) (fun _ _ => trivial)⟩, (blk_set ha 0 _).trans rfl, hg⟩
theorem TagSt.setA1 (h : TagSt w g s start i v kind name l x0 x1 wr) (x : ByteArray) : TagSt w g s start i v kind name l x0 x (wr.setCell ⟨w.heap.size + 1, 1, none⟩ (.string x)) := by
  obtain ⟨mv, ⟨va, hb, hR⟩, ha, hg⟩ := h
  exact ⟨mv.setFar (by show _ ≤ w.heap.size + 1; omega) hg _, ⟨va, blk_far hb (by show w.heap.size ≠ w.heap.size + 1; omega) _, Kd.R_mono (Kd.R_far (p := ⟨w.heap.size + 1, 1, none⟩) (Kd.R_bound hR) (fun k hk => by have := hk.2.1; show k ≠ w.heap.size + 1; omega) _) (fun _ _ => trivial)⟩, (blk_set ha 1 _).trans rfl, hg⟩
theorem TagSt.setKind (h : TagSt w g s start i v kind name l x0 x1 wr) (x : Int) : TagSt w g s start i v x name l x0 x1 (wr.setCell ⟨w.heap.size, 0, none⟩ (.int .i64 x)) := by
  obtain ⟨mv, ⟨va, hb, hR⟩, ha, hg⟩ := h
  exact ⟨mv.setFar (by show _ ≤ w.heap.size; omega) hg _, ⟨va, (blk_set hb 0 _).trans rfl, Kd.R_mono (Kd.R_far (p := ⟨w.heap.size, 0, none⟩) (Kd.R_bound hR) (fun k hk => by have := hk.2.1; show k ≠ w.heap.size; omega) _) (fun _ _ => trivial)⟩, blk_far ha (by show w.heap.size + 1 ≠ w.heap.size; omega) _, hg⟩
theorem TagSt.setName (h : TagSt w g s start i v kind name l x0 x1 wr) (x : ByteArray) : TagSt w g s start i v kind x l x0 x1 (wr.setCell ⟨w.heap.size, 2, none⟩ (.string x)) := by
  obtain ⟨mv, ⟨va, hb, hR⟩, ha, hg⟩ := h
  exact ⟨mv.setFar (by show _ ≤ w.heap.size; omega) hg _, ⟨va, (blk_set hb 2 _).trans rfl, Kd.R_mono (Kd.R_far (p := ⟨w.heap.size, 2, none⟩) (Kd.R_bound hR) (fun k hk => by have := hk.2.1; show k ≠ w.heap.size; omega) _) (fun _ _ => trivial)⟩, blk_far ha (by show w.heap.size + 1 ≠ w.heap.size; omega) _, hg⟩
/-- What the walk reads of it. -/
theorem TagSt.facts (h : TagSt w g s start i v kind name l x0 x1 wr) : ∃ va, wr.cell? ⟨g, 0, none⟩ = some (.string s) ∧ wr.cell? ⟨g, 1, none⟩ = some (.int .i64 i) ∧ wr.cell? ⟨g, 2, none⟩ = some v ∧ (∀ q, wr.frozen? ⟨g, q, none⟩ = false) ∧
    wr.cell? ⟨w.heap.size, 0, none⟩ = some (.int .i64 kind) ∧ wr.cell? ⟨w.heap.size, 1, none⟩ = some (.int .i64 (start : Int)) ∧ wr.cell? ⟨w.heap.size, 2, none⟩ = some (.string name) ∧ wr.cell? ⟨w.heap.size, 3, none⟩ = some va ∧ (∀ q, wr.frozen? ⟨w.heap.size, q, none⟩ = false) ∧
    wr.cell? ⟨w.heap.size + 1, 0, none⟩ = some (.string x0) ∧ wr.cell? ⟨w.heap.size + 1, 1, none⟩ = some (.string x1) ∧ (∀ q, wr.frozen? ⟨w.heap.size + 1, q, none⟩ = false) ∧ (∃ A c, va = .slice A l.length c) ∧
    wr.heap[w.heap.size]? = some (.cells #[.int .i64 kind, .int .i64 (start : Int), .string name, va, .string ⟨#[]⟩] 50 (0, 0)) ∧ kRaw.R 86 wr (w.heap.size + 2) (fun _ => True) va l := by
  obtain ⟨mv, ⟨va, hb, hR⟩, ha, hg⟩ := h
  exact ⟨va, mv.me.c0, mv.me.c1, mv.me.c2, mv.me.f0, (blk_cell hb 0).trans rfl, (blk_cell hb 1).trans rfl, (blk_cell hb 2).trans rfl, (blk_cell hb 3).trans rfl, blk_frozen hb, (blk_cell ha 0).trans rfl, (blk_cell ha 1).trans rfl, blk_frozen ha, Kd.R_slice hR, hb, hR⟩
end
theorem R_drewN {α : Type} {d : Kd α} {e : Nat} {w : World} {base : Nat} {ok : Nat → Prop} {v : Value} {xs : List α} (h : d.R e w base ok v xs) (n : Nat) : d.R e (w.drewN n) base ok v xs := Kd.R_step h (fun _ _ _ => rfl)
theorem R_drew {α : Type} {d : Kd α} {e : Nat} {w : World} {base : Nat} {ok : Nat → Prop} {v : Value} {xs : List α} (h : d.R e w base ok v xs) : d.R e w.drew base ok v xs := Kd.R_step h (fun _ _ _ => rfl)
section
variable {ops : Array Oper} {rest : List Oper} {o : Oper} {a : Act} {Q : Exit → Act → World → Prop}
theorem raw_after {w wr w1 : World} {g : Nat} {s : ByteArray} {start i : Nat} {v : Value} {kind : Int} {name x0 x1 : ByteArray} {l : List Raw} (h : TagSt w g s start i v kind name l x0 x1 wr) {va v1 : Value} {l' : List Raw}
    (hb : wr.heap[w.heap.size]? = some (.cells #[.int .i64 kind, .int .i64 (start : Int), .string name, va, .string ⟨#[]⟩] 50 (0, 0))) (hR : kRaw.R 86 wr (w.heap.size + 2) (fun _ => True) va l)
    (hR1 : kRaw.R 86 w1 (w.heap.size + 2) (fun _ => True) v1 l') (hg1 : wr.grownBy w1 va.ownBlock) :
    w1.heap[w.heap.size]? = some (.cells #[.int .i64 kind, .int .i64 (start : Int), .string name, va, .string ⟨#[]⟩] 50 (0, 0)) ∧ At w1 g s i v ∧ TagSt w g s start i v kind name l' x0 x1 (w1.setCell ⟨w.heap.size, 3, none⟩ v1) := by
  obtain ⟨mv, _, ha, hg⟩ := h
  have hne : ∀ k, k < w.heap.size + 2 → some k ≠ va.ownBlock := fun k hk e => by have := Kd.R_base hR k e.symm; omega
  have hb1 := (hg1.block _ (blk_lt hb) (hne _ (by omega))).trans hb
  have hat : At w1 g s i v := (hg1.block _ (blk_lt mv.me) (hne _ (by omega))).trans mv.me
  have mv1 : Moved g w w1 s i v := ⟨hg1.os.trans mv.os, hg1.tape.trans mv.tape, hg1.output.trans mv.output, Nat.le_trans mv.size hg1.size, fun k hk hn => (hg1.block k (by have := mv.size; omega) (hne k (by omega))).trans (mv.old k hk hn), hat⟩
  refine ⟨hb1, hat, mv1.setFar (by show _ ≤ w.heap.size; omega) hg _, ⟨v1, (blk_set hb1 3 _).trans rfl, Kd.R_mono (Kd.R_far (p := ⟨w.heap.size, 3, none⟩) (Kd.R_bound hR1) (fun k hk => by have := hk.2.1; show k ≠ w.heap.size; omega) _) (fun _ _ => trivial)⟩, ?_, hg⟩
  exact blk_far ((hg1.block _ (blk_lt ha) (hne _ (by omega))).trans ha) (by show w.heap.size + 1 ≠ w.heap.size; omega) _
theorem push_raw {w wr : World} {g : Nat} {s : ByteArray} {start i : Nat} {v : Value} {kind : Int} {name x0 x1 : ByteArray} {l : List Raw} {va : Value} (n u : ByteArray) (hgd : o.guard = none) (x y : Operand)
    (ho : o.op = .call { callee := .builtin .append, args := #[x, y], argTypes := #[48, 48] }) (hx : a.eval x = va) (hy : a.eval y = .slice (some ⟨wr.heap.size, 0, none⟩) 1 1)
    (hl : l.length < 1000000) (h : TagSt w g s start i v kind name l x0 x1 wr)
    (hb : wr.heap[w.heap.size]? = some (.cells #[.int .i64 kind, .int .i64 (start : Int), .string name, va, .string ⟨#[]⟩] 50 (0, 0))) (hR : kRaw.R 86 wr (w.heap.size + 2) (fun _ => True) va l)
    (hk : ∀ A m c w1, w1.heap[w.heap.size]? = some (.cells #[.int .i64 kind, .int .i64 (start : Int), .string name, va, .string ⟨#[]⟩] 50 (0, 0)) → TagSt w g s start i v kind name (l ++ [⟨n, u⟩]) x0 x1 (w1.setCell ⟨w.heap.size, 3, none⟩ (.slice A m c)) → wpList Tryd.prog ops Q rest (a.put o.dst (.slice A m c)) w1) :
    wpList Tryd.prog ops Q (o :: rest) a (wr.alloc (.cells [Value.string n, Value.string u].toArray 86)) := by
  have ha := h.ba
  have hsz := blk_lt ha
  refine Kd.R_append kRaw (w0 := wr) (w.heap.size + 2) hgd x y 48 86 _ 32 ho Tryd.underlying48 infoRaw rfl (by decide) (by omega) va l ⟨n, u⟩ _ (fun _ => True) (fun _ => False) hx hy (kRaw_mk wr _ _ ⟨n, u⟩) (fun _ h => h.elim) (fun _ _ => trivial) hR (Below.refl _ _) (by omega) (by omega) ?_
  intro v1 w1 hR1 _ hg1 _
  obtain ⟨A, c, rfl⟩ := Kd.R_slice hR1
  obtain ⟨h1, _, h3⟩ := raw_after h hb hR hR1 hg1
  exact hk _ _ _ _ h1 h3
theorem push_raw1 {w wr : World} {g : Nat} {s : ByteArray} {start i : Nat} {v : Value} {kind : Int} {name x0 x1 : ByteArray} {l : List Raw} {va : Value} (n u : ByteArray) (hgd : o.guard = none) (x y : Operand)
    (ho : o.op = .call { callee := .builtin .append, args := #[x, y], argTypes := #[48, 48] }) (hx : a.eval x = va) (hy : a.eval y = .slice (some ⟨wr.heap.size, 0, none⟩) 1 1)
    (hl : l.length < 1000000) (h : TagSt w g s start i v kind name l x0 x1 wr)
    (hb : wr.heap[w.heap.size]? = some (.cells #[.int .i64 kind, .int .i64 (start : Int), .string name, va, .string ⟨#[]⟩] 50 (0, 0))) (hR : kRaw.R 86 wr (w.heap.size + 2) (fun _ => True) va l)
    (hk : ∀ A m c w1, w1.heap[w.heap.size]? = some (.cells #[.int .i64 kind, .int .i64 (start : Int), .string name, va, .string ⟨#[]⟩] 50 (0, 0)) → TagSt w g s start i v kind name (l ++ [⟨n, u⟩]) x0 u (w1.setCell ⟨w.heap.size, 3, none⟩ (.slice A m c)) → wpList Tryd.prog ops Q rest (a.put o.dst (.slice A m c)) w1) :
    wpList Tryd.prog ops Q (o :: rest) a ((wr.setCell ⟨w.heap.size + 1, 1, none⟩ (.string u)).alloc (.cells [Value.string n, Value.string u].toArray 86)) :=
  push_raw n u hgd x y ho hx (hy.trans (by simp [World.setCell])) hl (h.setA1 u) (blk_far hb (by show w.heap.size ≠ w.heap.size + 1; omega) _) (Kd.R_mono (Kd.R_far (p := ⟨w.heap.size + 1, 1, none⟩) (Kd.R_bound hR) (fun k hk => by have := hk.2.1; show k ≠ w.heap.size + 1; omega) _) (fun _ _ => trivial)) hk
theorem push_tok_step {Kc : Act → World → Prop} {w0 W : World} {g : Nat} {s : ByteArray} {j : Nat} {v : Value} {l : List Tok} (t : Tok) (cs : List Value) (okp : Nat → Prop) (hw : Region.wanted o (yielded ops a.tmps) = true) (x y : Operand)
    (ho : o.op = .call { callee := .builtin .append, args := #[x, y], argTypes := #[45, 45] }) (hx : a.eval x = v) (hy : a.eval y = .slice (some ⟨W.heap.size, 0, none⟩) 1 1)
    (hp : kTok.M W w0.heap.size okp t cs) (hokp : ∀ k, okp k → k ≠ g ∧ some k ≠ v.ownBlock)
    (hg : w0.heap.size ≤ g) {w : World} (hbw : Below w0.heap.size w0 w) (hSw : kTok.S 50 w w0.heap.size (fun k => k ≠ g ∧ ¬ okp k) v l) (hl : l.length < 1000000) (hm : Moved g w W s j v)
    (h : ∀ A n c w1, At w1 g s j v → Held w0 g s j (l ++ [t]) (w1.setCell ⟨g, 2, none⟩ (.slice A n c)) → Kc (a.put o.dst (.slice A n c)) w1) :
    if Region.wanted o (yielded ops a.tmps) = true then Oper.wp Tryd.prog o a (W.alloc (.cells cs.toArray 50)) Kc Q else Kc (a.put o.dst undef) (W.alloc (.cells cs.toArray 50)) := by
  have hat := hm.me
  have hb := hm.belowB hbw hg
  have hS := hm.toks hSw (fun _ h => h.1)
  refine Kd.S_append_step kTok (w0 := w0) w0.heap.size hw x y 45 50 _ 72 ho Tryd.underlying45 infoTok rfl (by decide) (by omega) v l t cs (fun k => k ≠ g) okp hx hy hp hokp (fun k hk => by have := blk_lt hat; omega) hS hb hb.size (by omega) ?_
  intro v1 w1 hS1 hb1 hg1 _
  obtain ⟨A, c, rfl⟩ := Kd.S_slice hS1
  obtain ⟨h1, h2⟩ := held_after hg hat hS hS1 hb1 hg1
  exact h _ _ _ _ h1 h2
theorem push_tok_drew {Kc : Act → World → Prop} {w0 W : World} {g : Nat} {s : ByteArray} {j : Nat} {v : Value} {l : List Tok} (t : Tok) (cs : List Value) (okp : Nat → Prop) (hw : Region.wanted o (yielded ops a.tmps) = true) (x y : Operand)
    (ho : o.op = .call { callee := .builtin .append, args := #[x, y], argTypes := #[45, 45] }) (hx : a.eval x = v) (hy : a.eval y = .slice (some ⟨W.heap.size, 0, none⟩) 1 1)
    (hp : kTok.M W w0.heap.size okp t cs) (hokp : ∀ k, okp k → k ≠ g ∧ some k ≠ v.ownBlock)
    (hg : w0.heap.size ≤ g) {w : World} (hbw : Below w0.heap.size w0 w) (hSw : kTok.S 50 w w0.heap.size (fun k => k ≠ g ∧ ¬ okp k) v l) (hl : l.length < 1000000) (hm : Moved g w W s j v)
    (h : ∀ A n c w1, At w1 g s j v → Held w0 g s j (l ++ [t]) (w1.setCell ⟨g, 2, none⟩ (.slice A n c)) → Kc (a.put o.dst (.slice A n c)) w1) :
    if Region.wanted o (yielded ops a.tmps) = true then Oper.wp Tryd.prog o a (W.alloc (.cells cs.toArray 50)).drew Kc Q else Kc (a.put o.dst undef) (W.alloc (.cells cs.toArray 50)).drew :=
  push_tok_step (W := W.drew) t cs okp hw x y ho hx hy (kTok.M_move (fun _ _ => rfl) hp) hokp hg hbw hSw hl hm.drew h
end
end Go.Proofs.YtffpbhbiamkkpaaDoor.Lx
