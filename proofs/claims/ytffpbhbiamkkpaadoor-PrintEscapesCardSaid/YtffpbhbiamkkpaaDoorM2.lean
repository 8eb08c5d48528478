/- strings.Builder's writes with a frame for the blocks above it: a block that isn't the builder's and holds no bytes is as it was (Fr). -/
import Derived.Test.YtffpbhbiamkkpaaDoorBld
import Derived.Test.YtffpbhbiamkkpaaDoorShelfI
import Derived.Test.YtffpbhbiamkkpaaDoorMl
import Derived.Lib.AppendIntMem
import Derived.Lib.LaidTab
import Derived.Lib.SmallJoins
import Derived.Lib.ItoaNum
import Derived.Test.YtffpbhbiamkkpaaDoorM1
namespace Go.Proofs.YtffpbhbiamkkpaaDoor.Bld
open Go.RowKit
set_option linter.unusedVariables false
/-- Whatever block is not b's and holds no bytes is as it was. -/
def Fr (b : Nat) (w w' : World) : Prop := ∀ k o, k ≠ b → (∀ cs z, o ≠ .cells cs 5 z) → w.heap[k]? = some o → w'.heap[k]? = some o
theorem Fr.refl (b : Nat) (w : World) : Fr b w w := fun _ _ _ _ h => h
theorem Fr.trans {b : Nat} {w w1 w2 : World} (h : Fr b w w1) (k : Fr b w1 w2) : Fr b w w2 := fun i o h1 h2 h3 => k i o h1 h2 (h i o h1 h2 h3)
theorem Fr.below {b : Nat} {w w' : World} (h : Below w.heap.size w w') : Fr b w w' := fun i o _ _ h3 => (h.block i (by rcases Nat.lt_or_ge i w.heap.size with h' | h'; exact h'; simp [Array.getElem?_eq_none h'] at h3)).trans h3
theorem Fr.alloc {b : Nat} {w w' : World} (h : Fr b w w') (o : Obj) : Fr b w (w'.alloc o) := h.trans (Fr.below ((Below.refl _ _).alloc (Nat.le_refl _) o))
theorem Fr.cells {b : Nat} {w w' : World} (h : Fr b w w') {k : Nat} {cs : Array Value} {T : TypeId} {z : Nat × Nat} (hk : k ≠ b) (hT : T ≠ 5) (hc : w.heap[k]? = some (.cells cs T z)) : w'.heap[k]? = some (.cells cs T z) :=
  h k _ hk (fun cs' z' e => hT (by injection e)) hc
theorem own_off {w : World} {B : Nat} {v : Value} {n : Nat} {xs : List Value} {k : Nat} {o : Obj} (hown : w.ownsRow B 5 1 v n xs) (ho : ∀ cs z, o ≠ .cells cs 5 z) (hk : w.heap[k]? = some o) : v.ownBlock ≠ some k := by
  rcases hown.2 with ⟨rfl, _⟩ | ⟨g, cap, cur, rfl, _, hg, _⟩
  · simp [Value.ownBlock]
  · intro h
    simp only [Value.ownBlock, Option.some.injEq] at h
    subst h
    rw [hg] at hk
    exact ho _ _ (Option.some.inj hk).symm
theorem cells_off {T : TypeId} (hT : T ≠ 5) {cs : Array Value} {z : Nat × Nat} : ∀ cs' z', Obj.cells cs T z ≠ .cells cs' 5 z' := fun cs' z' e => hT (by injection e)
set_option maxHeartbeats 1000000 in
set_option maxRecDepth 100000 in
theorem writeString2 (T : TypeId) (hT : Home T) (B b : Nat) (bs : List Value) (s : ByteArray) (w : World) (h : Lib.IsBuilder T 5 B b bs w) (hlen : bs.length + s.size ≤ 140737488355328) (hBw : B ≤ w.heap.size) :
    Calls Tryd.prog 40 #[.pointer (some ⟨b, 0, none⟩), .string s] w fun e w' => e = .returned (.tuple #[.int .i64 s.size, .nilIface]) ∧ (Lib.BuilderAt T 5 B b (.pointer (some ⟨b, 0, none⟩)) (bs ++ Lib.strCells s) w' ∧ Below B w w' ∧ Fr b w w') := by
  obtain ⟨i0, hi, hz0, hz1, hz2⟩ := info_parts info_b
  go_enter Tryd.func40, Tryd.ntmps40
  go_wp2_with (go_at_call 75; refine (copyCheck T hT B b bs _ h).mono ?_)
  rintro e w1 ⟨rfl, h1, hb1, hk1⟩
  obtain ⟨hB, v, hbk, hown, hne⟩ := h1
  have c0 : w1.cell? ⟨b, 0, none⟩ = some (.pointer (some ⟨b, 0, none⟩)) := by rw [Lib.cell_of_heap hbk]; rfl
  have c1 : w1.cell? ⟨b, 1, none⟩ = some v := by rw [Lib.cell_of_heap hbk]; rfl
  go_wp2_with (at_builtin; refine Lib.wpList_append_own_string _ rfl _ _ 69 9 rfl B 5 i0 Tryd.underlying69 Tryd.underlying9 hi hz0 hz1 hz2 _ _ _ rfl hown s rfl ?c3 ?c4 ?c5 ?_)
  case c3 => unfold maxLen; omega
  case c4 => omega
  case c5 => have := hb1.size; omega
  intro v' w2 hown' hgrow _
  have hlt : b < w1.heap.size := by
    rcases Nat.lt_or_ge b w1.heap.size with h' | h'
    · exact h'
    · simp [Array.getElem?_eq_none h'] at hbk
  have hb2 : w2.heap[b]? = some (.cells #[.pointer (some ⟨b, 0, none⟩), v] T (0, 0)) := by
    rw [hgrow.block b hlt (fun e => hne e.symm)]
    exact hbk
  have d0 : w2.cell? ⟨b, 0, none⟩ = some (.pointer (some ⟨b, 0, none⟩)) := by rw [Lib.cell_of_heap hb2]; rfl
  have d1 : w2.cell? ⟨b, 1, none⟩ = some v := by rw [Lib.cell_of_heap hb2]; rfl
  have f1 : w2.frozen? ⟨b, 1, none⟩ = false := Lib.frozen_of_heap hb2 1
  obtain ⟨ao, n', cap, rfl⟩ : ∃ ao n' cap, v' = .slice ao n' cap := by
    rcases hown'.2 with ⟨hv, _⟩ | ⟨g, cap, cur, hv, _⟩
    · exact ⟨_, _, _, hv⟩
    · exact ⟨_, _, _, hv⟩
  go_wp2
  go_ret2
  refine ⟨rfl, ?_, ?_, ?_⟩
  · exact Lib.BuilderAt.put (T := T) (e := 5) hB hb2 (bs' := bs ++ Lib.strCells s) (by simpa [Lib.strCells_length] using hown') hT.ne
  · exact (hb1.grown hgrow (by have := hb1.size; omega) (fun k hk => (hown.lt k hk).1)).setCell (p := ⟨b, 1, none⟩) hB _
  · intro k o hkb hT' hk
    have hks : k < w.heap.size := by
      rcases Nat.lt_or_ge k w.heap.size with h' | h'
      · exact h'
      · simp [Array.getElem?_eq_none h'] at hk
    have e1 := (hk1 k hks hkb).trans hk
    have hks1 : k < w1.heap.size := Nat.lt_of_lt_of_le hks hb1.size
    have e2 := (hgrow.block k hks1 (fun e => own_off hown hT' e1 e.symm)).trans e1
    exact (Below.heap_setCell _ _ _ _ hkb).trans e2
set_option maxHeartbeats 1000000 in
set_option maxRecDepth 100000 in
theorem writeByte2 (T : TypeId) (hT : Home T) (B b : Nat) (bs : List Value) (c : Int) (w : World) (h : Lib.IsBuilder T 5 B b bs w) (hlen : bs.length + 1 ≤ 140737488355328) (hBw : B ≤ w.heap.size) :
    Calls Tryd.prog 41 #[.pointer (some ⟨b, 0, none⟩), .int .u8 c] w fun e w' => e = .returned .nilIface ∧ (Lib.BuilderAt T 5 B b (.pointer (some ⟨b, 0, none⟩)) (bs ++ [.int .u8 c]) w' ∧ Below B w w' ∧ Fr b w w') := by
  obtain ⟨i0, hi, hz0, hz1, hz2⟩ := info_parts info_b
  go_enter Tryd.func41, Tryd.ntmps41
  go_wp2_with (go_at_call 75; refine (copyCheck T hT B b bs _ h).mono ?_)
  rintro e w1 ⟨rfl, h1, hb1, hk1⟩
  obtain ⟨hB, v, hbk, hown, hne⟩ := h1
  have c0 : w1.cell? ⟨b, 0, none⟩ = some (.pointer (some ⟨b, 0, none⟩)) := by rw [Lib.cell_of_heap hbk]; rfl
  have c1 : w1.cell? ⟨b, 1, none⟩ = some v := by rw [Lib.cell_of_heap hbk]; rfl
  go_wp2_with (at_builtin; refine wpList_append_own _ rfl _ _ 69 rfl B 5 i0 (.int .u8 0) 1 1 Tryd.underlying69 hi hz0 hz1 hz2 rfl (by decide) _ _ _ rfl (hown.alloc _) ⟨w1.heap.size, 0, none⟩ 1 1 [.int .u8 c] rfl rfl ?c1 ?c2 ?c3 ?c4 ?c5 ?_)
  case c1 =>
    intro j u hj
    match j, hj with
    | 0, hj => simp at hj; subst hj; simp [Addr.add]
  case c2 => intro u hu; simp at hu; subst hu; rfl
  case c3 => unfold maxLen; omega
  case c4 => omega
  case c5 => have := hb1.size; simp; omega
  intro v' w2 hown' hgrow _
  have hlt : b < w1.heap.size := by
    rcases Nat.lt_or_ge b w1.heap.size with h' | h'
    · exact h'
    · simp [Array.getElem?_eq_none h'] at hbk
  have hb2 : w2.heap[b]? = some (.cells #[.pointer (some ⟨b, 0, none⟩), v] T (0, 0)) := by
    rw [hgrow.block b (by simp; omega) (fun e => hne e.symm), Lib.alloc_old w1 _ b hlt]
    exact hbk
  have d0 : w2.cell? ⟨b, 0, none⟩ = some (.pointer (some ⟨b, 0, none⟩)) := by rw [Lib.cell_of_heap hb2]; rfl
  have d1 : w2.cell? ⟨b, 1, none⟩ = some v := by rw [Lib.cell_of_heap hb2]; rfl
  have f1 : w2.frozen? ⟨b, 1, none⟩ = false := Lib.frozen_of_heap hb2 1
  obtain ⟨g, cap, rfl⟩ : ∃ g cap, v' = .slice (some ⟨g, 0, none⟩) (bs.length + 1) cap := by
    rcases hown'.2 with ⟨_, h0⟩ | ⟨g, cap, cur, hv, _⟩
    · omega
    · exact ⟨g, cap, hv⟩
  go_wp2
  go_ret
  refine ⟨rfl, ?_, ?_, ?_⟩
  · exact Lib.BuilderAt.put (T := T) (e := 5) hB hb2 (bs' := bs ++ [.int .u8 c]) (by simpa using hown') hT.ne
  · exact ((hb1.alloc (by have := hb1.size; omega) _).grown hgrow (by have := hb1.size; simp; omega) (fun k hk => (hown.lt k hk).1)).setCell (p := ⟨b, 1, none⟩) hB _
  · intro k o hkb hT' hk
    have hks : k < w.heap.size := by
      rcases Nat.lt_or_ge k w.heap.size with h' | h'
      · exact h'
      · simp [Array.getElem?_eq_none h'] at hk
    have e1 := (hk1 k hks hkb).trans hk
    have hks1 : k < w1.heap.size := Nat.lt_of_lt_of_le hks hb1.size
    have e3 := (Below.heap_alloc w1 (.cells #[.int .u8 c] 5) k hks1).trans e1
    have e2 := (hgrow.block k (Nat.lt_of_lt_of_le hks1 (by show _ ≤ (w1.heap.push _).size; rw [Array.size_push]; omega)) (fun e => own_off hown hT' e1 e.symm)).trans e3
    exact (Below.heap_setCell _ _ _ _ hkb).trans e2
set_option maxHeartbeats 1000000 in
set_option maxRecDepth 100000 in
theorem len2 (T : TypeId) (B b : Nat) (bs : List Value) (w : World) (h : Lib.IsBuilder T 5 B b bs w) :
    Calls Tryd.prog 36 #[.pointer (some ⟨b, 0, none⟩)] w fun e w' => e = .returned (.int .i64 bs.length) ∧ w = w' := by
  obtain ⟨v, hbk, hown⟩ : ∃ v, (∃ p, w.heap[b]? = some (.cells #[p, v] T (0, 0))) ∧ w.ownsRow B 5 1 v bs.length bs := by
    rcases h with ⟨_, v, h1, h2, _⟩ | ⟨_, v, h1, h2, _⟩
    · exact ⟨v, ⟨_, h1⟩, h2⟩
    · exact ⟨v, ⟨_, h1⟩, h2⟩
  obtain ⟨p, hbk⟩ := hbk
  have c0 : w.cell? ⟨b, 0, none⟩ = some p := by rw [Lib.cell_of_heap hbk]; rfl
  have c1 : w.cell? ⟨b, 1, none⟩ = some v := by rw [Lib.cell_of_heap hbk]; rfl
  obtain ⟨ao, cap, rfl⟩ : ∃ ao cap, v = .slice ao bs.length cap := by
    rcases hown.2 with ⟨hv, h0⟩ | ⟨g, cap, cur, hv, _⟩
    · exact ⟨none, 0, by rw [hv, h0]⟩
    · exact ⟨_, _, hv⟩
  clear hown hbk h
  go_enter Tryd.func36, Tryd.ntmps36
  go_wp2
  go_ret
  exact ⟨rfl, rfl⟩
end Go.Proofs.YtffpbhbiamkkpaaDoor.Bld
/- The table of tens, strconv.Itoa by the shelf's contract. -/
namespace Go.Proofs.YtffpbhbiamkkpaaDoor.Refs
open Go.RowKit
set_option linter.unusedVariables false
/-- The table of tens. -/
abbrev Tens (w : World) : Prop := Lib.TabIs Tryd.prog w "internal/strconv.uint64pow10" .u64 Lib.pow10Tab
theorem tens_below {w w' : World} (h : Tens w) (hb : Below w.heap.size w w') : Tens w' :=
  Go.Joins.var_stays (g := 0) (by kernel_rfl) h hb (Nat.le_refl _)
theorem itoa_calls (u : Nat) (hu : u < 2147483648) (w : World) (h : Tens w) : Calls Tryd.prog 27 #[.int .i64 (u : Int)] w fun e w' => e = .returned (.string ⟨(Lib.itoa (u : Int)).toArray⟩) ∧ Below w.heap.size w w' := by
  refine (Tryd.ShelfI_strconv_Itoa (u : Int) (by omega) (by omega) w h).mono ?_
  rintro e w' ⟨he, k, os, rfl⟩
  exact ⟨he, Lib.below_grow _ w (Nat.le_refl _) k os⟩
/-- The world has what is asked of it: some number, and the table of tens. -/
structure RdyT (w : World) : Prop where
  ml : ML w
  tens : Tens w
theorem RdyT.below {w w1 : World} (h : RdyT w) (hb : Below w.heap.size w w1) : RdyT w1 := ⟨h.ml.below hb, tens_below h.tens hb⟩
end Go.Proofs.YtffpbhbiamkkpaaDoor.Refs
/- print.Escape: byte by byte. -/
namespace Go.Proofs.YtffpbhbiamkkpaaDoor.Esc
open Go.RowKit Go.Proofs.YtffpbhbiamkkpaaDoorW.PrintWords Go.Proofs.YtffpbhbiamkkpaaDoorW.PrintLast Go.Proofs.YtffpbhbiamkkpaaDoorW.PrintMore Go.Plain
set_option linter.unusedVariables false
/-- A byte, escaped. -/
def escB (attr : Bool) (c : UInt8) : List UInt8 :=
  if c = 38 then [38, 97, 109, 112, 59] else if c = 60 then [38, 108, 116, 59] else if c = 62 ∧ attr = false then [38, 103, 116, 59]
  else if c = 34 ∧ attr = true then [38, 113, 117, 111, 116, 59] else if c = 13 then [38, 35, 49, 51, 59]
  else if c = 9 ∧ attr = true then [38, 35, 57, 59] else if c = 10 ∧ attr = true then [38, 35, 49, 48, 59] else [c]
def esc (attr : Bool) (l : List UInt8) : List UInt8 := l.flatMap (escB attr)
theorem escB_len (attr : Bool) (c : UInt8) : (escB attr c).length ≤ 6 := by
  unfold escB
  repeat' split
  all_goals simp
theorem esc_len (attr : Bool) : ∀ l : List UInt8, (esc attr l).length ≤ 6 * l.length
  | [] => by simp [esc]
  | c :: l => by
    have := esc_len attr l
    have := escB_len attr c
    simp [esc] at *
    omega
theorem take_succ (l : List UInt8) (i : Nat) (h : i < l.length) : l.take (i + 1) = l.take i ++ [l[i]] := by rw [List.take_add_one, List.getElem?_eq_getElem h]; rfl
theorem esc_step (attr : Bool) (l : List UInt8) (i : Nat) (h : i < l.length) : esc attr (l.take (i + 1)) = esc attr (l.take i) ++ escB attr l[i] := by
  unfold esc
  rw [take_succ l i h, List.flatMap_append]
  simp only [List.flatMap_cons, List.flatMap_nil, List.append_nil]
abbrev BD (b : Nat) (l : List UInt8) (w : World) : Prop := Lib.IsBuilder 71 5 b b (Lib.byteCells l) w
theorem ws (b : Nat) (l : List UInt8) (s : List UInt8) (w : World) (h : BD b l w) (hl : l.length ≤ 6000000) (hs : s.length ≤ 6) (hb : b ≤ w.heap.size) :
    Calls Tryd.prog 40 #[.pointer (some ⟨b, 0, none⟩), .string ⟨s.toArray⟩] w fun e w' => e = .returned (.tuple #[.int .i64 ((⟨s.toArray⟩ : ByteArray).size), .nilIface]) ∧ (BD b (l ++ s) w' ∧ Below b w w') := by
  refine (Bld.writeString 71 Bld.home_builder b b (Lib.byteCells l) ⟨s.toArray⟩ w h (by rw [PL.mk_size]; simp only [Lib.byteCells, List.length_map]; omega) hb).mono ?_
  rintro e w' ⟨he, hd, hbl⟩
  refine ⟨he, Or.inr ?_, hbl⟩
  have e := PL.lex_Unescape_cells l ⟨s.toArray⟩
  rw [show (⟨s.toArray⟩ : ByteArray).data.toList = s from rfl] at e
  rw [e]; exact hd
theorem wb (b : Nat) (l : List UInt8) (c : UInt8) (x : Int) (hx : (c.toNat : Int) = x) (w : World) (h : BD b l w) (hl : l.length ≤ 6000000) (hb : b ≤ w.heap.size) :
    Calls Tryd.prog 41 #[.pointer (some ⟨b, 0, none⟩), .int .u8 x] w fun e w' => e = .returned .nilIface ∧ (BD b (l ++ [c]) w' ∧ Below b w w') := by
  subst hx
  refine (Bld.writeByte 71 Bld.home_builder b b (Lib.byteCells l) (c.toNat : Int) w h (by simp only [Lib.byteCells, List.length_map]; omega) hb).mono ?_
  rintro e w' ⟨he, hd, hbl⟩
  refine ⟨he, Or.inr ?_, hbl⟩
  have e : Lib.byteCells (l ++ [c]) = Lib.byteCells l ++ [.int .u8 (c.toNat : Int)] := by simp [Lib.byteCells]
  rw [e]; exact hd

theorem itoa_13 : Lib.itoa 13 = [49, 51] := by decide +kernel
theorem itoa_9 : Lib.itoa 9 = [57] := by decide +kernel
theorem itoa_10 : Lib.itoa 10 = [49, 48] := by decide +kernel
theorem itoa_to (n : Nat) (x : Int) (hx : (n : Int) = x) (l : List UInt8) (hl : Lib.itoa x = l) (hn : n < 2147483648) (w : World) (h : Refs.Tens w) : Calls Tryd.prog 27 #[.int .i64 x] w fun e w' => e = .returned (.string ⟨l.toArray⟩) ∧ Below w.heap.size w w' := by
  subst hx
  rw [← hl]; exact Refs.itoa_calls n hn w h
theorem cases8 (c : UInt8) : c = 38 ∨ c = 60 ∨ c = 62 ∨ c = 34 ∨ c = 13 ∨ c = 9 ∨ c = 10 ∨ (c ≠ 38 ∧ c ≠ 60 ∧ c ≠ 62 ∧ c ≠ 34 ∧ c ≠ 13 ∧ c ≠ 9 ∧ c ≠ 10) := by
  by_cases h1 : c = 38
  · exact Or.inl h1
  by_cases h2 : c = 60
  · exact Or.inr (Or.inl h2)
  by_cases h3 : c = 62
  · exact Or.inr (Or.inr (Or.inl h3))
  by_cases h4 : c = 34
  · exact Or.inr (Or.inr (Or.inr (Or.inl h4)))
  by_cases h5 : c = 13
  · exact Or.inr (Or.inr (Or.inr (Or.inr (Or.inl h5))))
  by_cases h6 : c = 9
  · exact Or.inr (Or.inr (Or.inr (Or.inr (Or.inr (Or.inl h6)))))
  by_cases h7 : c = 10
  · exact Or.inr (Or.inr (Or.inr (Or.inr (Or.inr (Or.inr (Or.inl h7))))))
  exact Or.inr (Or.inr (Or.inr (Or.inr (Or.inr (Or.inr (Or.inr ⟨h1, h2, h3, h4, h5, h6, h7⟩))))))
theorem escB_plain (attr : Bool) (c : UInt8) (h : c ≠ 38 ∧ c ≠ 60 ∧ c ≠ 62 ∧ c ≠ 34 ∧ c ≠ 13 ∧ c ≠ 9 ∧ c ≠ 10) : escB attr c = [c] := by
  obtain ⟨h1, h2, h3, h4, h5, h6, h7⟩ := h
  simp [escB, h1, h2, h3, h4, h5, h6, h7]
set_option maxHeartbeats 4000000 in
set_option maxRecDepth 100000 in

theorem escape_calls (s : ByteArray) (attr : Bool) (w : World) (h : Refs.Tens w) (hs : s.size ≤ 900000) :
    Calls Tryd.prog 16 #[.string s, .bool attr] w fun e w' => e = .returned (.string ⟨(esc attr s.data.toList).toArray⟩) ∧ Below w.heap.size w w' := by
  have HT := Aside0.mk h
  clear h
  have hB0 : BD w.heap.size [] (w.alloc (.cells #[.pointer none, .slice none 0 0] 71)) := by
    refine Or.inl ⟨Nat.le_refl _, .slice none 0 0, heap_alloc_last w _, ?_, by simp [Value.ownBlock]⟩
    exact ⟨rfl, Or.inl ⟨rfl, rfl⟩⟩
  have HB0 := Aside0.mk hB0
  clear hB0
  go_enter Tryd.func16, Tryd.ntmps16
  go_wp2
  go_loopg [10] s.size (fun m v10 wr => ∃ i : Nat, v10 = .int .i64 (i : Int) ∧ i ≤ s.size ∧ Aside0 (m = s.size - i) ∧ Aside0 (BD w.heap.size (esc attr (s.data.toList.take i)) wr) ∧ Aside0 (Below w.heap.size w wr))
  case atStart => exact ⟨0, rfl, Nat.zero_le _, ⟨rfl⟩, HB0, ⟨(Below.refl _ _).alloc (Nat.le_refl _) _⟩⟩
  case round =>
    obtain ⟨i, rfl, hi, HM, HBD, HB⟩ := hrel
    by_cases hlt : i < s.size
    · have q1 := eq_true (show (i : Int) < (s.size : Int) by omega)
      obtain ⟨j, hj⟩ : ∃ j, j = i + 1 := ⟨_, rfl⟩
      have f1 : (i : Int) + 1 = (j : Int) := by omega
      have f2 : IntKind.i64.wrap (j : Int) = (j : Int) := IntWalk.i64_in _ (by omega)
      have q2 := eq_true (show (0 : Int) ≤ (i : Int) by omega)
      have q3 := eq_true hlt
      have hl : i < s.data.toList.length := by rw [← Lib.size_eq]; exact hlt
      obtain ⟨c, hc⟩ : ∃ c, c = s.data.toList[i] := ⟨_, rfl⟩
      have hg : ∀ h, s[i]'h = c := fun h => by rw [hc, Array.getElem_toList]; rfl
      obtain ⟨A, hA⟩ : ∃ A, A = esc attr (s.data.toList.take i) := ⟨_, rfl⟩
      have hst := esc_step attr s.data.toList i hl
      rw [← hj, ← hc, ← hA] at hst
      have hal : A.length ≤ 6000000 := by
        have := esc_len attr (s.data.toList.take i)
        rw [List.length_take, ← hA] at this
        omega
      rw [← hA] at HBD
      have HA := Aside0.mk hst
      have HAL := Aside0.mk hal
      have HJ := Aside0.mk hj
      have HS := Aside0.mk HB.out.size
      clear hc hA hst hal hj hl
      rcases cases8 c with rfl | rfl | rfl | rfl | rfl | rfl | rfl | hne
      · cases attr
        · have HE := Aside0.mk (show escB false 38 = [38, 97, 109, 112, 59] by decide)
          go_wp2_with (go_at_call 40; (with_reducible refine (ws w.heap.size A _ _ HBD.out HAL.out (by decide) HS.out).mono ?_); rintro e w2 ⟨rfl, hbd2, hb2⟩)
          go_roundg (s.size - j)
          · exact ⟨j, rfl, by have := HJ.out; omega, Aside0.mk rfl, Aside0.mk (by rw [HA.out, HE.out]; exact hbd2), Aside0.mk (HB.out.trans hb2)⟩
          · have := HJ.out; have := HM.out; omega
        · have HE := Aside0.mk (show escB true 38 = [38, 97, 109, 112, 59] by decide)
          go_wp2_with (go_at_call 40; (with_reducible refine (ws w.heap.size A _ _ HBD.out HAL.out (by decide) HS.out).mono ?_); rintro e w2 ⟨rfl, hbd2, hb2⟩)
          go_roundg (s.size - j)
          · exact ⟨j, rfl, by have := HJ.out; omega, Aside0.mk rfl, Aside0.mk (by rw [HA.out, HE.out]; exact hbd2), Aside0.mk (HB.out.trans hb2)⟩
          · have := HJ.out; have := HM.out; omega
      · cases attr
        · have HE := Aside0.mk (show escB false 60 = [38, 108, 116, 59] by decide)
          go_wp2_with (go_at_call 40; (with_reducible refine (ws w.heap.size A _ _ HBD.out HAL.out (by decide) HS.out).mono ?_); rintro e w2 ⟨rfl, hbd2, hb2⟩)
          go_roundg (s.size - j)
          · exact ⟨j, rfl, by have := HJ.out; omega, Aside0.mk rfl, Aside0.mk (by rw [HA.out, HE.out]; exact hbd2), Aside0.mk (HB.out.trans hb2)⟩
          · have := HJ.out; have := HM.out; omega
        · have HE := Aside0.mk (show escB true 60 = [38, 108, 116, 59] by decide)
          go_wp2_with (go_at_call 40; (with_reducible refine (ws w.heap.size A _ _ HBD.out HAL.out (by decide) HS.out).mono ?_); rintro e w2 ⟨rfl, hbd2, hb2⟩)
          go_roundg (s.size - j)
          · exact ⟨j, rfl, by have := HJ.out; omega, Aside0.mk rfl, Aside0.mk (by rw [HA.out, HE.out]; exact hbd2), Aside0.mk (HB.out.trans hb2)⟩
          · have := HJ.out; have := HM.out; omega
      · cases attr
        · have HE := Aside0.mk (show escB false 62 = [38, 103, 116, 59] by decide)
          go_wp2_with (go_at_call 40; (with_reducible refine (ws w.heap.size A _ _ HBD.out HAL.out (by decide) HS.out).mono ?_); rintro e w2 ⟨rfl, hbd2, hb2⟩)
          go_roundg (s.size - j)
          · exact ⟨j, rfl, by have := HJ.out; omega, Aside0.mk rfl, Aside0.mk (by rw [HA.out, HE.out]; exact hbd2), Aside0.mk (HB.out.trans hb2)⟩
          · have := HJ.out; have := HM.out; omega
        · have HE := Aside0.mk (show escB true 62 = [62] by decide)
          go_wp2_with (go_at_call 41; (with_reducible refine (wb w.heap.size A 62 _ (by decide) _ HBD.out HAL.out HS.out).mono ?_); rintro e w2 ⟨rfl, hbd2, hb2⟩)
          go_roundg (s.size - j)
          · exact ⟨j, rfl, by have := HJ.out; omega, Aside0.mk rfl, Aside0.mk (by rw [HA.out, HE.out]; exact hbd2), Aside0.mk (HB.out.trans hb2)⟩
          · have := HJ.out; have := HM.out; omega
      · cases attr
        · have HE := Aside0.mk (show escB false 34 = [34] by decide)
          go_wp2_with (go_at_call 41; (with_reducible refine (wb w.heap.size A 34 _ (by decide) _ HBD.out HAL.out HS.out).mono ?_); rintro e w2 ⟨rfl, hbd2, hb2⟩)
          go_roundg (s.size - j)
          · exact ⟨j, rfl, by have := HJ.out; omega, Aside0.mk rfl, Aside0.mk (by rw [HA.out, HE.out]; exact hbd2), Aside0.mk (HB.out.trans hb2)⟩
          · have := HJ.out; have := HM.out; omega
        · have HE := Aside0.mk (show escB true 34 = [38, 113, 117, 111, 116, 59] by decide)
          go_wp2_with (go_at_call 40; (with_reducible refine (ws w.heap.size A _ _ HBD.out HAL.out (by decide) HS.out).mono ?_); rintro e w2 ⟨rfl, hbd2, hb2⟩)
          go_roundg (s.size - j)
          · exact ⟨j, rfl, by have := HJ.out; omega, Aside0.mk rfl, Aside0.mk (by rw [HA.out, HE.out]; exact hbd2), Aside0.mk (HB.out.trans hb2)⟩
          · have := HJ.out; have := HM.out; omega
      · cases attr
        · have HE := Aside0.mk (show escB false 13 = [38, 35, 49, 51, 59] by decide)
          have HI := Aside0.mk (fun W h => itoa_to 13 13 rfl [49, 51] itoa_13 (by decide) W h)
          have g1 : (⟨#[38, 35]⟩ ++ ⟨#[49, 51]⟩ : ByteArray) = ⟨#[38, 35, 49, 51]⟩ := rfl
          have g2 : (⟨#[38, 35, 49, 51]⟩ ++ ⟨#[59]⟩ : ByteArray) = ⟨#[38, 35, 49, 51, 59]⟩ := rfl
          go_wp2_with (first | (go_at_call 27; (with_reducible refine (HI.out _ (Refs.tens_below HT.out HB.out)).mono ?_); rintro e w1 ⟨rfl, hb1⟩) | (go_at_call 40; (with_reducible refine (ws w.heap.size A _ _ (PL.lex_Unescape_kept HBD.out hb1) HAL.out (by decide) (Nat.le_trans HS.out hb1.size)).mono ?_); rintro e w2 ⟨rfl, hbd2, hb2⟩))
          go_roundg (s.size - j)
          · exact ⟨j, rfl, by have := HJ.out; omega, Aside0.mk rfl, Aside0.mk (by rw [HA.out, HE.out]; exact hbd2), Aside0.mk (HB.out.trans ((hb1.mono HS.out).trans hb2))⟩
          · have := HJ.out; have := HM.out; omega
        · have HE := Aside0.mk (show escB true 13 = [38, 35, 49, 51, 59] by decide)
          have HI := Aside0.mk (fun W h => itoa_to 13 13 rfl [49, 51] itoa_13 (by decide) W h)
          have g1 : (⟨#[38, 35]⟩ ++ ⟨#[49, 51]⟩ : ByteArray) = ⟨#[38, 35, 49, 51]⟩ := rfl
          have g2 : (⟨#[38, 35, 49, 51]⟩ ++ ⟨#[59]⟩ : ByteArray) = ⟨#[38, 35, 49, 51, 59]⟩ := rfl
          go_wp2_with (first | (go_at_call 27; (with_reducible refine (HI.out _ (Refs.tens_below HT.out HB.out)).mono ?_); rintro e w1 ⟨rfl, hb1⟩) | (go_at_call 40; (with_reducible refine (ws w.heap.size A _ _ (PL.lex_Unescape_kept HBD.out hb1) HAL.out (by decide) (Nat.le_trans HS.out hb1.size)).mono ?_); rintro e w2 ⟨rfl, hbd2, hb2⟩))
          go_roundg (s.size - j)
          · exact ⟨j, rfl, by have := HJ.out; omega, Aside0.mk rfl, Aside0.mk (by rw [HA.out, HE.out]; exact hbd2), Aside0.mk (HB.out.trans ((hb1.mono HS.out).trans hb2))⟩
          · have := HJ.out; have := HM.out; omega
      · cases attr
        · have HE := Aside0.mk (show escB false 9 = [9] by decide)
          go_wp2_with (go_at_call 41; (with_reducible refine (wb w.heap.size A 9 _ (by decide) _ HBD.out HAL.out HS.out).mono ?_); rintro e w2 ⟨rfl, hbd2, hb2⟩)
          go_roundg (s.size - j)
          · exact ⟨j, rfl, by have := HJ.out; omega, Aside0.mk rfl, Aside0.mk (by rw [HA.out, HE.out]; exact hbd2), Aside0.mk (HB.out.trans hb2)⟩
          · have := HJ.out; have := HM.out; omega
        · have HE := Aside0.mk (show escB true 9 = [38, 35, 57, 59] by decide)
          have HI := Aside0.mk (fun W h => itoa_to 9 9 rfl [57] itoa_9 (by decide) W h)
          have g1 : (⟨#[38, 35]⟩ ++ ⟨#[57]⟩ : ByteArray) = ⟨#[38, 35, 57]⟩ := rfl
          have g2 : (⟨#[38, 35, 57]⟩ ++ ⟨#[59]⟩ : ByteArray) = ⟨#[38, 35, 57, 59]⟩ := rfl
          go_wp2_with (first | (go_at_call 27; (with_reducible refine (HI.out _ (Refs.tens_below HT.out HB.out)).mono ?_); rintro e w1 ⟨rfl, hb1⟩) | (go_at_call 40; (with_reducible refine (ws w.heap.size A _ _ (PL.lex_Unescape_kept HBD.out hb1) HAL.out (by decide) (Nat.le_trans HS.out hb1.size)).mono ?_); rintro e w2 ⟨rfl, hbd2, hb2⟩))
          go_roundg (s.size - j)
          · exact ⟨j, rfl, by have := HJ.out; omega, Aside0.mk rfl, Aside0.mk (by rw [HA.out, HE.out]; exact hbd2), Aside0.mk (HB.out.trans ((hb1.mono HS.out).trans hb2))⟩
          · have := HJ.out; have := HM.out; omega
      · cases attr
        · have HE := Aside0.mk (show escB false 10 = [10] by decide)
          go_wp2_with (go_at_call 41; (with_reducible refine (wb w.heap.size A 10 _ (by decide) _ HBD.out HAL.out HS.out).mono ?_); rintro e w2 ⟨rfl, hbd2, hb2⟩)
          go_roundg (s.size - j)
          · exact ⟨j, rfl, by have := HJ.out; omega, Aside0.mk rfl, Aside0.mk (by rw [HA.out, HE.out]; exact hbd2), Aside0.mk (HB.out.trans hb2)⟩
          · have := HJ.out; have := HM.out; omega
        · have HE := Aside0.mk (show escB true 10 = [38, 35, 49, 48, 59] by decide)
          have HI := Aside0.mk (fun W h => itoa_to 10 10 rfl [49, 48] itoa_10 (by decide) W h)
          have g1 : (⟨#[38, 35]⟩ ++ ⟨#[49, 48]⟩ : ByteArray) = ⟨#[38, 35, 49, 48]⟩ := rfl
          have g2 : (⟨#[38, 35, 49, 48]⟩ ++ ⟨#[59]⟩ : ByteArray) = ⟨#[38, 35, 49, 48, 59]⟩ := rfl
          go_wp2_with (first | (go_at_call 27; (with_reducible refine (HI.out _ (Refs.tens_below HT.out HB.out)).mono ?_); rintro e w1 ⟨rfl, hb1⟩) | (go_at_call 40; (with_reducible refine (ws w.heap.size A _ _ (PL.lex_Unescape_kept HBD.out hb1) HAL.out (by decide) (Nat.le_trans HS.out hb1.size)).mono ?_); rintro e w2 ⟨rfl, hbd2, hb2⟩))
          go_roundg (s.size - j)
          · exact ⟨j, rfl, by have := HJ.out; omega, Aside0.mk rfl, Aside0.mk (by rw [HA.out, HE.out]; exact hbd2), Aside0.mk (HB.out.trans ((hb1.mono HS.out).trans hb2))⟩
          · have := HJ.out; have := HM.out; omega
      · have HE := Aside0.mk (escB_plain attr c hne)
        have n0 : ((c.toNat : Int) = 38) = False := eq_false (fun h => hne.1 (UInt8.toNat_inj.1 (show c.toNat = 38 by omega)))
        have m0 : (c.toNat = 38) = False := eq_false (fun h => hne.1 (UInt8.toNat_inj.1 h))
        have l0 : ((c.toNat : Int) == 38) = false := beq_eq_false_iff_ne.2 (fun h => n0.mp h)
        have k0 : decide ((c.toNat : Int) = 38) = false := decide_eq_false (fun h => n0.mp h)
        have n1 : ((c.toNat : Int) = 60) = False := eq_false (fun h => hne.2.1 (UInt8.toNat_inj.1 (show c.toNat = 60 by omega)))
        have m1 : (c.toNat = 60) = False := eq_false (fun h => hne.2.1 (UInt8.toNat_inj.1 h))
        have l1 : ((c.toNat : Int) == 60) = false := beq_eq_false_iff_ne.2 (fun h => n1.mp h)
        have k1 : decide ((c.toNat : Int) = 60) = false := decide_eq_false (fun h => n1.mp h)
        have n2 : ((c.toNat : Int) = 62) = False := eq_false (fun h => hne.2.2.1 (UInt8.toNat_inj.1 (show c.toNat = 62 by omega)))
        have m2 : (c.toNat = 62) = False := eq_false (fun h => hne.2.2.1 (UInt8.toNat_inj.1 h))
        have l2 : ((c.toNat : Int) == 62) = false := beq_eq_false_iff_ne.2 (fun h => n2.mp h)
        have k2 : decide ((c.toNat : Int) = 62) = false := decide_eq_false (fun h => n2.mp h)
        have n3 : ((c.toNat : Int) = 34) = False := eq_false (fun h => hne.2.2.2.1 (UInt8.toNat_inj.1 (show c.toNat = 34 by omega)))
        have m3 : (c.toNat = 34) = False := eq_false (fun h => hne.2.2.2.1 (UInt8.toNat_inj.1 h))
        have l3 : ((c.toNat : Int) == 34) = false := beq_eq_false_iff_ne.2 (fun h => n3.mp h)
        have k3 : decide ((c.toNat : Int) = 34) = false := decide_eq_false (fun h => n3.mp h)
        have n4 : ((c.toNat : Int) = 13) = False := eq_false (fun h => hne.2.2.2.2.1 (UInt8.toNat_inj.1 (show c.toNat = 13 by omega)))
        have m4 : (c.toNat = 13) = False := eq_false (fun h => hne.2.2.2.2.1 (UInt8.toNat_inj.1 h))
        have l4 : ((c.toNat : Int) == 13) = false := beq_eq_false_iff_ne.2 (fun h => n4.mp h)
        have k4 : decide ((c.toNat : Int) = 13) = false := decide_eq_false (fun h => n4.mp h)
        have n5 : ((c.toNat : Int) = 9) = False := eq_false (fun h => hne.2.2.2.2.2.1 (UInt8.toNat_inj.1 (show c.toNat = 9 by omega)))
        have m5 : (c.toNat = 9) = False := eq_false (fun h => hne.2.2.2.2.2.1 (UInt8.toNat_inj.1 h))
        have l5 : ((c.toNat : Int) == 9) = false := beq_eq_false_iff_ne.2 (fun h => n5.mp h)
        have k5 : decide ((c.toNat : Int) = 9) = false := decide_eq_false (fun h => n5.mp h)
        have n6 : ((c.toNat : Int) = 10) = False := eq_false (fun h => hne.2.2.2.2.2.2 (UInt8.toNat_inj.1 (show c.toNat = 10 by omega)))
        have m6 : (c.toNat = 10) = False := eq_false (fun h => hne.2.2.2.2.2.2 (UInt8.toNat_inj.1 h))
        have l6 : ((c.toNat : Int) == 10) = false := beq_eq_false_iff_ne.2 (fun h => n6.mp h)
        have k6 : decide ((c.toNat : Int) = 10) = false := decide_eq_false (fun h => n6.mp h)
        clear hne
        go_wp2_with (go_at_call 41; (with_reducible refine (wb w.heap.size A c _ rfl _ HBD.out HAL.out HS.out).mono ?_); rintro e w2 ⟨rfl, hbd2, hb2⟩)
        go_roundg (s.size - j)
        · exact ⟨j, rfl, by have := HJ.out; omega, Aside0.mk rfl, Aside0.mk (by rw [HA.out, HE.out]; exact hbd2), Aside0.mk (HB.out.trans hb2)⟩
        · have := HJ.out; have := HM.out; omega
    · have q1 := eq_false (show ¬ (i : Int) < (s.size : Int) by omega)
      have HR := Aside0.mk (show esc attr (s.data.toList.take i) = esc attr s.data.toList by rw [List.take_of_length_le (by rw [← Lib.size_eq]; omega)])
      go_wp2_with (go_at_call 37; (with_reducible refine (Tryd.Builder_String_any w.heap.size w.heap.size (esc attr (s.data.toList.take i)) _ HBD.out (by have := HB.out.size; omega)).mono ?_); rintro e w5 ⟨rfl, hb5⟩)
      go_ret
      refine ⟨?_, HB.out.trans (hb5.mono (Nat.le_refl _))⟩
      rw [HR.out]
      rfl
end Go.Proofs.YtffpbhbiamkkpaaDoor.Esc
/- An escaped text stands for itself, and has no < and no quote that would end it. No program in sight. -/
namespace Go.Proofs.YtffpbhbiamkkpaaDoor.Esc
open Go.RowKit Go.Proofs.YtffpbhbiamkkpaaDoorW.PrintWords Go.Proofs.YtffpbhbiamkkpaaDoorW.PrintLast Go.Proofs.YtffpbhbiamkkpaaDoorW.PrintMore Go.Plain
set_option linter.unusedVariables false
theorem ref_cons (R : List UInt8 → List UInt8) (attr : Bool) (d i : Nat) (l t : List UInt8) (c : UInt8) (h : 59 ∉ l) (hr : R l = [c]) : uL R attr (d + 1) i (38 :: (l ++ 59 :: t)) = (uL R attr d (i + (l.length + 1) + 1) t).map (c :: ·) := by
  have hi : Lib.indexByte (38 :: (l ++ 59 :: t)) 59 = (l.length : Int) + 1 := by
    have := PL.index_at 59 (38 :: l) (by simpa using h) t
    simpa using this
  rw [uL, if_pos rfl, hi, if_neg (by omega)]
  have e1 : ((l.length : Int) + 1).toNat - 1 = l.length := by omega
  have e2 : ((l.length : Int) + 1).toNat = l.length + 1 := by omega
  rw [e1, List.take_left, hr, if_neg (by simp), e2]
  have e3 : (38 :: (l ++ 59 :: t)).drop (l.length + 1 + 1) = t := by
    rw [List.drop_succ_cons, ← List.drop_drop, List.drop_left]; rfl
  rw [e3]
  rfl
theorem plain_cons (R : List UInt8 → List UInt8) (attr : Bool) (d i : Nat) (t : List UInt8) (c : UInt8) (h1 : c ≠ 38) (h2 : c ≠ 13) (h3 : blk attr c = c) : uL R attr (d + 1) i (c :: t) = (uL R attr d (i + 1) t).map (c :: ·) := by
  rw [uL, if_neg h1, if_neg (fun h => h2 h.1), if_neg h2, h3]
theorem esc_cons (attr : Bool) (c : UInt8) (l : List UInt8) : esc attr (c :: l) = escB attr c ++ esc attr l := by simp [esc]
theorem escB_pos (attr : Bool) (c : UInt8) : 1 ≤ (escB attr c).length := by
  unfold escB
  repeat' split
  all_goals simp
/-- What a byte's piece is: a reference to it, or itself. -/
theorem escB_kind (attr : Bool) (c : UInt8) : (∃ r, escB attr c = 38 :: (r ++ [59]) ∧ 59 ∉ r ∧ PL.refL r = [c]) ∨ (escB attr c = [c] ∧ c ≠ 38 ∧ c ≠ 13 ∧ blk attr c = c) := by
  rcases cases8 c with rfl | rfl | rfl | rfl | rfl | rfl | rfl | hne
  · exact Or.inl ⟨[97, 109, 112], by cases attr <;> rfl, by decide, by decide +kernel⟩
  · exact Or.inl ⟨[108, 116], by cases attr <;> rfl, by decide, by decide +kernel⟩
  · cases attr
    · exact Or.inl ⟨[103, 116], by decide, by decide, by decide +kernel⟩
    · exact Or.inr ⟨by decide, by decide, by decide, by decide⟩
  · cases attr
    · exact Or.inr ⟨by decide, by decide, by decide, by decide⟩
    · exact Or.inl ⟨[113, 117, 111, 116], by decide, by decide, by decide +kernel⟩
  · exact Or.inl ⟨[35, 49, 51], by cases attr <;> decide, by decide, by decide +kernel⟩
  · cases attr
    · exact Or.inr ⟨by decide, by decide, by decide, by decide⟩
    · exact Or.inl ⟨[35, 57], by decide, by decide, by decide +kernel⟩
  · cases attr
    · exact Or.inr ⟨by decide, by decide, by decide, by decide⟩
    · exact Or.inl ⟨[35, 49, 48], by decide, by decide, by decide +kernel⟩
  · obtain ⟨h1, h2, h3, h4, h5, h6, h7⟩ := hne
    exact Or.inr ⟨escB_plain attr c ⟨h1, h2, h3, h4, h5, h6, h7⟩, h1, h5, by unfold blk; rw [if_neg (fun h => h.2.elim h6 h7)]⟩
theorem esc_back (attr : Bool) : ∀ (l : List UInt8) (d i : Nat), (esc attr l).length ≤ d → uL PL.refL attr d i (esc attr l) = .ok l
  | [], d, i, _ => by cases d <;> rfl
  | c :: l, d, i, h => by
    rw [esc_cons] at h ⊢
    rw [List.length_append] at h
    have hp := escB_pos attr c
    obtain ⟨d, rfl⟩ : ∃ e, d = e + 1 := ⟨d - 1, by omega⟩
    rcases escB_kind attr c with ⟨r, he, h59, hr⟩ | ⟨he, h1, h2, h3⟩
    · rw [he] at h ⊢
      have e : 38 :: (r ++ [59]) ++ esc attr l = 38 :: (r ++ 59 :: esc attr l) := by simp
      rw [e, ref_cons _ attr d i r _ c h59 hr, esc_back attr l d _ (by simp at h; omega)]
      rfl
    · rw [he] at h ⊢
      rw [List.singleton_append, plain_cons _ attr d i _ c h1 h2 h3, esc_back attr l d _ (by simp at h; omega)]
      rfl
/-- No byte that would end it. -/
theorem esc_mem (attr : Bool) (l : List UInt8) : ∀ b ∈ esc attr l, b ≠ 60 ∧ b ≠ 13 ∧ (attr = true → b ≠ 34 ∧ b ≠ 9 ∧ b ≠ 10) ∧ (attr = false → b ≠ 62) := by
  intro b hb
  obtain ⟨c, hc, hb⟩ := List.mem_flatMap.1 hb
  have key : ∀ (attr : Bool) (c b : UInt8), b ∈ escB attr c → b ≠ 60 ∧ b ≠ 13 ∧ (attr = true → b ≠ 34 ∧ b ≠ 9 ∧ b ≠ 10) ∧ (attr = false → b ≠ 62) := by
    intro attr c b hb
    rcases cases8 c with rfl | rfl | rfl | rfl | rfl | rfl | rfl | hne
    all_goals try (cases attr <;> (simp [escB] at hb; rcases hb with rfl | rfl | rfl | rfl | rfl | rfl <;> decide))
    all_goals try (cases attr <;> (simp [escB] at hb; rcases hb with rfl | rfl | rfl | rfl | rfl <;> decide))
    rw [escB_plain attr c hne] at hb
    obtain rfl := List.mem_singleton.1 hb
    exact ⟨hne.2.1, hne.2.2.2.2.1, fun _ => ⟨hne.2.2.2.1, hne.2.2.2.2.2.1, hne.2.2.2.2.2.2⟩, fun _ => hne.2.2.1⟩
  exact key attr c b hb
theorem esc_long (attr : Bool) : ∀ l : List UInt8, l.length ≤ (esc attr l).length
  | [] => by simp [esc]
  | c :: l => by
    have := esc_long attr l
    have := escB_pos attr c
    rw [esc_cons, List.length_append, List.length_cons]
    omega
end Go.Proofs.YtffpbhbiamkkpaaDoor.Esc
