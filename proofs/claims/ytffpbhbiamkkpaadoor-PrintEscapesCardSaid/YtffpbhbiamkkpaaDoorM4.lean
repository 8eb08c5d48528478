/- print's printer: put. -/
import Derived.Test.YtffpbhbiamkkpaaDoorM2
import Derived.Test.YtffpbhbiamkkpaaDoorM3
import Derived.Lib.ItoaLen
import Derived.Carry
namespace Go.Proofs.YtffpbhbiamkkpaaDoor.Prt
open Go.RowKit Go.Proofs.YtffpbhbiamkkpaaDoorW.PrintWords Go.Proofs.YtffpbhbiamkkpaaDoorW.PrintLast Go.Proofs.YtffpbhbiamkkpaaDoorW.PrintMore Go.Plain
set_option linter.unusedVariables false
theorem home_printer : Bld.Home 73 := ⟨by decide, by kernel_rfl⟩
abbrev PD (B b : Nat) (l : List UInt8) (w : World) : Prop := Lib.IsBuilder 73 5 B b (Lib.byteCells l) w
def cat (l : List ByteArray) : List UInt8 := l.flatMap fun s => s.data.toList
set_option maxHeartbeats 2000000 in
set_option maxRecDepth 100000 in
theorem put_calls (B b sb so cap : Nat) (l : List ByteArray) (bs : List UInt8) (cs : Array Value) (z : Nat × Nat) (w : World) (h : PD B b bs w) (hB : B ≤ w.heap.size)
    (hl : l.length ≤ 1000) (hz : bs.length + (cat l).length ≤ 100000000) (hsb : sb ≠ b) (hblk : w.heap[sb]? = some (.cells cs 9 z)) (hcell : ∀ k (h : k < l.length), w.cell? ⟨sb, so + k, none⟩ = some (.string l[k])) :
    Calls Tryd.prog 66 #[.pointer (some ⟨b, 0, none⟩), .slice (some ⟨sb, so, none⟩) l.length cap] w fun e w' => e = .returned (.tuple #[]) ∧ PD B b (bs ++ cat l) w' ∧ Below B w w' ∧ Bld.Fr b w w' := by
  have HD := Aside0.mk h
  have HC := Aside0.mk hcell
  have HK := Aside0.mk hblk
  clear h hcell hblk
  go_enter Tryd.func66, Tryd.ntmps66
  go_wp2
  go_loopg [8] l.length (fun m v8 wr => ∃ i : Nat, v8 = .int .i64 (i : Int) ∧ i ≤ l.length ∧ Aside0 (m = l.length - i) ∧ Aside0 (PD B b (bs ++ cat (l.take i)) wr) ∧ Aside0 (Below B w wr) ∧ Aside0 (Bld.Fr b w wr))
  case atStart => exact ⟨0, rfl, Nat.zero_le _, ⟨rfl⟩, ⟨by simpa [cat] using HD.out⟩, ⟨Below.refl _ _⟩, ⟨Bld.Fr.refl _ _⟩⟩
  case round =>
    obtain ⟨i, rfl, hi, HM, HP, HB, HF⟩ := hrel
    by_cases hlt : i < l.length
    · have q1 := eq_true (show (i : Int) < (l.length : Int) by omega)
      have q2 := eq_true (show (0 : Int) ≤ (i : Int) by omega)
      have hblk := HF.out.cells hsb (by decide) HK.out
      obtain ⟨s, hs⟩ : ∃ s, s = l[i] := ⟨_, rfl⟩
      have hc : wr.cell? ⟨sb, so + i, none⟩ = some (.string s) := by
        rw [hs, ← HC.out i hlt]
        exact (Lib.cell_of_heap hblk _).trans (Lib.cell_of_heap HK.out _).symm
      obtain ⟨j, hj⟩ : ∃ j, j = i + 1 := ⟨_, rfl⟩
      have f1 : (i : Int) + 1 = (j : Int) := by omega
      have f2 : IntKind.i64.wrap (j : Int) = (j : Int) := IntWalk.i64_in _ (by omega)
      have hcat : cat (l.take j) = cat (l.take i) ++ s.data.toList := by
        unfold cat
        rw [hj, List.take_add_one, List.getElem?_eq_getElem hlt, List.flatMap_append, hs]
        simp only [Option.toList_some, List.flatMap_cons, List.flatMap_nil, List.append_nil]
      have HH := Aside0.mk hcat
      have hle : (cat (l.take i)).length + s.size ≤ (cat l).length := by
        have e : cat l = cat (l.take j) ++ cat (l.drop j) := by unfold cat; rw [← List.flatMap_append, List.take_append_drop]
        have := congrArg List.length e
        rw [hcat] at this
        simp only [List.length_append, ← Lib.size_eq] at this
        omega
      have HL := Aside0.mk hle
      have HJ := Aside0.mk hj
      clear hs hj hcat hle hblk
      go_wp2_with (go_at_call 40; (with_reducible refine (Bld.writeString2 73 home_printer B b (Lib.byteCells (bs ++ cat (l.take i))) s _ HP.out (by have := HL.out; simp only [Lib.byteCells, List.length_map, List.length_append]; omega) (Nat.le_trans hB HB.out.size)).mono ?_); rintro e w2 ⟨rfl, hd, hb2, hf2⟩)
      go_roundg (l.length - j)
      · refine ⟨j, rfl, by have := HJ.out; omega, ⟨rfl⟩, ⟨Or.inr ?_⟩, ⟨HB.out.trans hb2⟩, ⟨HF.out.trans hf2⟩⟩
        rw [HH.out, ← List.append_assoc, PL.lex_Unescape_cells]
        exact hd
      · have := HJ.out; have := HM.out; omega
    · have q1 := eq_false (show ¬ (i : Int) < (l.length : Int) by omega)
      obtain rfl : i = l.length := by omega
      have HQ := HP.out
      rw [List.take_length] at HQ
      have HP := Aside0.mk HQ
      clear HQ
      go_wp2
      go_end0
      exact ⟨rfl, HP.out, HB.out, HF.out⟩
/-- An attribute's bytes. -/
def attrO (name value : List UInt8) : List UInt8 := 32 :: name ++ [61, 34] ++ Esc.esc true value ++ [34]
theorem PD.below {B b : Nat} {l : List UInt8} {w w' : World} (h : PD B b l w) (hb : Below w.heap.size w w') : PD B b l w' := by
  have go : ∀ p, Lib.BuilderAt 73 5 B b p (Lib.byteCells l) w → Lib.BuilderAt 73 5 B b p (Lib.byteCells l) w' := by
    rintro p ⟨h0, v, h1, h2, h3⟩
    exact ⟨h0, v, (hb.block b (blk_lt h1)).trans h1, pw_own_below h2 hb, h3⟩
  rcases h with h | h
  · exact Or.inl (go _ h)
  · exact Or.inr (go _ h)
theorem PD.lt {B b : Nat} {l : List UInt8} {w : World} (h : PD B b l w) : b < w.heap.size := by
  rcases h with ⟨_, v, h1, _⟩ | ⟨_, v, h1, _⟩ <;> exact blk_lt h1
theorem PD.base {B b : Nat} {l : List UInt8} {w : World} (h : PD B b l w) : B ≤ b := by
  rcases h with ⟨h1, _⟩ | ⟨h1, _⟩ <;> exact h1
/-- put of texts that stand in a slice that has just been made. -/
theorem put_new (B b : Nat) (l : List ByteArray) (bs : List UInt8) (w : World) (n H : Nat) (cs : Array Value) (h : PD B b bs w) (hH : H = w.heap.size) (hn : n = l.length) (hcs : cs = (l.map Value.string).toArray)
    (hl : l.length ≤ 1000) (hz : bs.length + (cat l).length ≤ 100000000) :
    Calls Tryd.prog 66 #[.pointer (some ⟨b, 0, none⟩), .slice (some ⟨H, 0, none⟩) n n] (w.alloc (.cells cs 9)) fun e w' => e = .returned (.tuple #[]) ∧ PD B b (bs ++ cat l) w' ∧ Below B w w' ∧ Bld.Fr b w w' := by
  subst hn hcs hH
  have hb := h.lt
  have hB := h.base
  have hA : Below w.heap.size w (w.alloc (.cells (l.map Value.string).toArray 9)) := (Below.refl _ _).alloc (Nat.le_refl _) _
  refine (put_calls B b w.heap.size 0 l.length l bs _ (0, 0) _ (h.below hA) (by have := hA.size; omega) hl hz (by omega) (heap_alloc_last w _) ?_).mono ?_
  · intro k hk
    rw [Lib.cell_of_heap (heap_alloc_last w _)]
    simp [hk]
  · rintro e w' ⟨he, hd, hbl, hf⟩
    exact ⟨he, hd, (hA.mono (by omega)).trans hbl, (Bld.Fr.below hA).trans hf⟩
set_option maxHeartbeats 2000000 in
set_option maxRecDepth 100000 in
theorem attr_calls (B b : Nat) (name value : ByteArray) (bs : List UInt8) (w : World) (h : PD B b bs w) (hbw : b < w.heap.size) (hB : B ≤ w.heap.size) (ht : Refs.Tens w) (hs : value.size ≤ 900000) (hn : name.size ≤ 900000) (hz : bs.length ≤ 90000000) :
    Calls Tryd.prog 67 #[.pointer (some ⟨b, 0, none⟩), .string name, .string value] w fun e w' => e = .returned (.tuple #[]) ∧ PD B b (bs ++ attrO name.data.toList value.data.toList) w' ∧ Below B w w' ∧ Bld.Fr b w w' := by
  have HD := Aside0.mk h
  have HT := Aside0.mk ht
  have hl := Esc.esc_len true value.data.toList
  rw [← Lib.size_eq] at hl
  obtain ⟨E, hE⟩ : ∃ E, E = Esc.esc true value.data.toList := ⟨_, rfl⟩
  rw [← hE] at hl
  have HE := Aside0.mk hE
  clear h ht hE
  go_enter Tryd.func67, Tryd.ntmps67
  go_wp2_with fail
  refine (Esc.escape_calls value true w HT.out hs).mono ?_
  rintro e w1 ⟨rfl, hb1⟩
  rw [← HE.out]
  have HB1 := Aside0.mk hb1
  clear hb1
  go_wp2_with fail
  refine (put_new B b [⟨#[32]⟩, name, ⟨#[61, 34]⟩, ⟨E.toArray⟩, ⟨#[34]⟩] bs w1 5 _ _ (HD.out.below HB1.out) rfl rfl rfl (by simp) (by simp [cat]; omega)).mono ?_
  rintro e w2 ⟨rfl, hd, hb2, hf2⟩
  go_wp2
  go_end0
  refine ⟨rfl, ?_, (HB1.out.mono hB).trans hb2, (Bld.Fr.below HB1.out).trans hf2⟩
  have e : cat [⟨#[32]⟩, name, ⟨#[61, 34]⟩, ⟨E.toArray⟩, ⟨#[34]⟩] = attrO name.data.toList value.data.toList := by
    unfold attrO cat
    rw [← HE.out]
    simp
  rw [← e]
  exact hd
end Go.Proofs.YtffpbhbiamkkpaaDoor.Prt
/- What print writes of an element's attributes, and of a tree: plain lists of bytes. -/
namespace Go.Proofs.YtffpbhbiamkkpaaDoor.Prt
open Go.RowKit Go.Proofs.YtffpbhbiamkkpaaDoor.ND
open Go.Maps (Keyed IsMap Tidy)
set_option linter.unusedVariables false
abbrev L := List UInt8
def sXML : L := [104, 116, 116, 112, 58, 47, 47, 119, 119, 119, 46, 119, 51, 46, 111, 114, 103, 47, 88, 77, 76, 47, 49, 57, 57, 56, 47, 110, 97, 109, 101, 115, 112, 97, 99, 101]
def sXmlC : L := [120, 109, 108, 58]
def sXmlns : L := [120, 109, 108, 110, 115]
def pos : List L → L → Option Nat
  | [], _ => none
  | a :: p, s => if a = s then some 0 else (pos p s).map (· + 1)
theorem pos_none : ∀ (p : List L) (s : L), s ∉ p → pos p s = none
  | [], _, _ => rfl
  | a :: p, s, h => by
    have h1 : ¬ a = s := fun e => h (by simp [e])
    unfold pos
    rw [if_neg h1, pos_none p s (fun k => h (by simp [k]))]
    rfl
theorem pos_some : ∀ (p : List L) (s : L), s ∈ p → ∃ i, pos p s = some i ∧ i < p.length
  | [], _, h => by simp at h
  | a :: p, s, h => by
    unfold pos
    by_cases e : a = s
    · exact ⟨0, by rw [if_pos e], by simp⟩
    · rcases List.mem_cons.1 h with h | h
      · exact absurd h.symm e
      · obtain ⟨i, h1, h2⟩ := pos_some p s h
        exact ⟨i + 1, by rw [if_neg e, h1]; rfl, by simp; omega⟩
theorem pos_snoc_old : ∀ (p : List L) (x s : L) (i : Nat), pos p s = some i → pos (p ++ [x]) s = some i
  | [], _, _, _, h => by simp [pos] at h
  | a :: p, x, s, i, h => by
    unfold pos at h
    rw [List.cons_append]
    unfold pos
    by_cases e : a = s
    · rw [if_pos e] at h ⊢; exact h
    · rw [if_neg e] at h ⊢
      obtain ⟨j, hj, rfl⟩ := Option.map_eq_some_iff.1 h
      rw [pos_snoc_old p x s j hj]
      rfl
theorem pos_snoc_new : ∀ (p : List L) (x : L), x ∉ p → pos (p ++ [x]) x = some p.length
  | [], x, _ => by simp [pos]
  | a :: p, x, h => by
    rw [List.cons_append]
    unfold pos
    rw [if_neg (fun e => h (by simp [e])), pos_snoc_new p x (fun k => h (by simp [k]))]
    rfl
/-- The prefix of a space, with its colon; none: it has none yet. -/
def prefOf (p : List L) (s : L) : Option L := if s = [] then some [] else if s = sXML then some sXmlC else (pos p s).map fun i => 110 :: Lib.itoa ((i : Int) + 1) ++ [58]
def spc (a : At) : L := a.f0.f0.data.toList
def loc (a : At) : L := a.f0.f1.data.toList
def declStep (st : List L × L) (a : At) : List L × L :=
  if (prefOf st.1 (spc a)).isSome then st else (st.1 ++ [spc a], st.2 ++ attrO ([120, 109, 108, 110, 115, 58] ++ (110 :: Lib.itoa ((st.1.length : Int) + 1))) (spc a))
def decls (l : List At) : List L × L := l.foldl declStep ([], [])
def attO (p : List L) (a : At) : L := attrO ((prefOf p (spc a)).getD [] ++ loc a) a.f1.data.toList
def attsO (p : List L) (l : List At) : L := l.flatMap (attO p)
/-- The attributes of an element, as they are written; l: rising. -/
def attrsO (l : List At) : L := (decls l).2 ++ attsO (decls l).1 l
theorem decls_snoc (l : List At) (a : At) : decls (l ++ [a]) = declStep (decls l) a := by simp [decls]
theorem attsO_snoc (p : List L) (l : List At) (a : At) : attsO p (l ++ [a]) = attsO p l ++ attO p a := by simp [attsO]
mutual
def nodeO : Nd → L → L
  | ⟨k, n, t, c, x⟩, space =>
    if k = 2 then Esc.esc false x.data.toList else
    let sp := n.f0.data.toList
    let tag := if sp = sXML then sXmlC ++ n.f1.data.toList else n.f1.data.toList
    let ns := if sp ≠ sXML ∧ sp ≠ space then attrO sXmlns sp else []
    let space' := if sp ≠ sXML ∧ sp ≠ space then sp else space
    let head := 60 :: tag ++ ns ++ attrsO (srt t)
    match c with
    | [] => head ++ [47, 62]
    | d :: r => head ++ [62] ++ nodesO (d :: r) space' ++ ([60, 47] ++ tag ++ [62])
def nodesO : List Nd → L → L
  | [], _ => []
  | d :: r, space => nodeO d space ++ nodesO r space
end
/-- How a map of prefixes reads. -/
structure MRel (p : List L) (D : DataW Unit) : Prop where
  at_ : ∀ s : L, D.atKey (.string s) (.lit (.string [])) = .lit (.string ((prefOf p s).getD []))
  has_ : ∀ s : L, Maps.has D (.string s) = (prefOf p s).isSome
  size_ : Maps.size D = 2 + p.length
theorem prefOf_snoc (p : List L) (x s : L) (hx : prefOf p x = none) : prefOf (p ++ [x]) s = if s = x then some (110 :: Lib.itoa ((p.length : Int) + 1) ++ [58]) else prefOf p s := by
  unfold prefOf at hx ⊢
  by_cases e0 : x = []
  · simp [e0] at hx
  by_cases e1 : x = sXML
  · rw [if_neg e0, if_pos e1] at hx; simp at hx
  rw [if_neg e0, if_neg e1] at hx
  have hp : pos p x = none := by
    cases h : pos p x with
    | none => rfl
    | some i => rw [h] at hx; simp at hx
  have hm : x ∉ p := fun h => by
    obtain ⟨i, hi, _⟩ := pos_some p x h
    rw [hp] at hi
    cases hi
  by_cases e : s = x
  · subst e
    rw [if_pos rfl, if_neg e0, if_neg e1, pos_snoc_new p s hm]
    rfl
  · rw [if_neg e]
    have hs : pos (p ++ [x]) s = pos p s := by
      cases h : pos p s with
      | some i => exact pos_snoc_old p x s i h
      | none =>
        refine pos_none _ _ (fun k => ?_)
        rcases List.mem_append.1 k with k | k
        · obtain ⟨i, hi, _⟩ := pos_some p s k
          rw [h] at hi
          cases hi
        · exact e (by simpa using k)
    rw [hs]
theorem lit_key (s : L) : WideAt.IsKeyLit (.string s) := trivial
theorem MRel.base : MRel [] (((DataW.map []).put (.string []) (.lit (.string []))).put (.string sXML) (.lit (.string sXmlC))) := by
  have hX : (Lit.string []) ≠ .string sXML := by simp [sXML]
  have h0 : IsMap (DataW.map [] : DataW Unit) := Maps.isMap_empty
  refine ⟨fun s => ?_, fun s => ?_, ?_⟩
  · by_cases e1 : s = sXML
    · subst e1
      rw [Maps.atKey_put_same (h0.put _ _) (lit_key _)]
      rfl
    · rw [Maps.atKey_put_other (by simpa using e1)]
      by_cases e0 : s = []
      · subst e0
        rw [Maps.atKey_put_same h0 (lit_key _)]
        rfl
      · rw [Maps.atKey_put_other (by simpa using e0)]
        unfold prefOf
        rw [if_neg e0, if_neg e1]
        rfl
  · by_cases e1 : s = sXML
    · subst e1
      rw [Maps.has_put_same (h0.put _ _) (lit_key _)]
      rfl
    · rw [Maps.has_put_other (by simpa using e1)]
      by_cases e0 : s = []
      · subst e0
        rw [Maps.has_put_same h0 (lit_key _)]
        rfl
      · rw [Maps.has_put_other (by simpa using e0)]
        unfold prefOf
        rw [if_neg e0, if_neg e1]
        rfl
  · rfl
theorem MRel.put {p : List L} {D : DataW Unit} (h : MRel p D) (ht : Tidy D) (s : L) (hs : prefOf p s = none) : MRel (p ++ [s]) (D.put (.string s) (.lit (.string (110 :: Lib.itoa ((p.length : Int) + 1) ++ [58])))) := by
  refine ⟨fun s' => ?_, fun s' => ?_, ?_⟩
  · rw [prefOf_snoc p s s' hs]
    by_cases e : s' = s
    · subst e
      rw [if_pos rfl, Maps.atKey_put_same ht.isMap (lit_key _)]
      rfl
    · rw [if_neg e, Maps.atKey_put_other (by simpa using e)]
      exact h.at_ s'
  · rw [prefOf_snoc p s s' hs]
    by_cases e : s' = s
    · subst e
      rw [if_pos rfl, Maps.has_put_same ht.isMap (lit_key _)]
      rfl
    · rw [if_neg e, Maps.has_put_other (by simpa using e)]
      exact h.has_ s'
  · rw [Maps.size_put ht, h.has_ s, hs]
    simp [h.size_]
    omega
end Go.Proofs.YtffpbhbiamkkpaaDoor.Prt
/- print's printer: attrs (declarations and attributes of an element). -/
namespace Go.Proofs.YtffpbhbiamkkpaaDoor.Prt
open Go.RowKit Go.Proofs.YtffpbhbiamkkpaaDoorW.PrintWords Go.Proofs.YtffpbhbiamkkpaaDoorW.PrintLast Go.Proofs.YtffpbhbiamkkpaaDoorW.PrintMore Go.Plain Go.Proofs.YtffpbhbiamkkpaaDoor.ND
open Go.Maps (Keyed IsMap Tidy)
set_option linter.unusedVariables false
def SortedSaid : Prop := ∀ (A0 : Option Addr) (c0 : Nat) (l : List At) (w : World), kAt.C w A0 l.length l → l.length ≤ c0 → l.length ≤ 100000 → Apart l →
  Calls Tryd.prog 107 #[.slice A0 l.length c0] w fun e w' => ∃ v, e = .returned v ∧ kAt.R 63 w' w.heap.size (fun _ => True) v (srt l) ∧ Below w.heap.size w w'
def MP (mb n : Nat) (D : DataW Unit) (w : World) : Prop := w.ownsMap Tryd.prog 9 (plainElem Tryd.prog 9) mb n D
theorem keyedS : Keyed Tryd.prog 9 := Maps.string_keyed Tryd.underlying9
theorem MP.fr {mb n b : Nat} {D : DataW Unit} {w w' : World} (h : MP mb n D w) (hne : mb ≠ b) (hf : Bld.Fr b w w') : MP mb n D w' := by
  obtain ⟨es, clock, hb, r⟩ := h
  exact ⟨es, clock, hf mb _ hne (fun _ _ e => by cases e) hb, r⟩
theorem MP.below {mb n : Nat} {D : DataW Unit} {w w' : World} (h : MP mb n D w) (hb : Below w.heap.size w w') : MP mb n D w' := by
  obtain ⟨es, clock, hk, r⟩ := h
  exact ⟨es, clock, (hb.block mb (blk_lt hk)).trans hk, r⟩
theorem MP.mono' {mb n n' : Nat} {D : DataW Unit} {w : World} (h : MP mb n D w) (hn : n ≤ n') : MP mb n' D w := World.ownsMap.mono h hn
theorem MP.lt {mb n : Nat} {D : DataW Unit} {w : World} (h : MP mb n D w) : mb < w.heap.size := World.ownsMap.lt h
theorem MP.tidy {mb n : Nat} {D : DataW Unit} {w : World} (h : MP mb n D w) : Tidy D := World.ownsMap.tidy h keyedS
theorem MP.put {mb n : Nat} {D : DataW Unit} {w : World} (h : MP mb n D w) (hn : n < maxLen) (k c : ByteArray) (hk : k.size ≤ maxLen) (hc : c.size ≤ maxLen) :
    ∃ w', (Instr.mapUpdate 136 (.map (some mb)) (.string k) (.string c)).run Tryd.prog w = .ok () w' ∧ MP mb (n + 1) (D.put (.string k.data.toList) (.lit (.string c.data.toList))) w' ∧ w.grownBy w' (some mb) :=
  World.ownsMap.update h keyedS Tryd.underlying136 hn (Go.WideMaps.keyOf_string_mk Tryd.underlying9 hk) (plainElem_string Tryd.underlying9 hc)
theorem MP.look_ok {mb n : Nat} {D : DataW Unit} {w : World} (h : MP mb n D w) (k c : ByteArray) (hh : Bool) (hk : k.size ≤ maxLen) (hc : D.atKey (.string k.data.toList) (.lit (.string [])) = .lit (.string c.data.toList)) (hb : Maps.has D (.string k.data.toList) = hh) :
    (Instr.lookup 136 (.map (some mb)) (.string k) true).run Tryd.prog w = .ok (.tuple #[.string c, .bool hh]) w :=
  Mp.look_str_ok h keyedS Tryd.underlying136 Tryd.underlying9 (Tryd.zeroValue9 _) (Go.WideMaps.keyOf_string_mk Tryd.underlying9 hk) c hh hc hb
theorem MP.look {mb n : Nat} {D : DataW Unit} {w : World} (h : MP mb n D w) (k c : ByteArray) (hk : k.size ≤ maxLen) (hc : D.atKey (.string k.data.toList) (.lit (.string [])) = .lit (.string c.data.toList)) :
    (Instr.lookup 136 (.map (some mb)) (.string k) false).run Tryd.prog w = .ok (.string c) w :=
  Mp.look_str h keyedS Tryd.underlying136 Tryd.underlying9 (Tryd.zeroValue9 _) (Go.WideMaps.keyOf_string_mk Tryd.underlying9 hk) c hc
theorem MP.len {mb n : Nat} {D : DataW Unit} {w : World} (h : MP mb n D w) (N : Nat) (hN : Maps.size D = N) : (Builtin.len_ #[136] 3 #[.map (some mb)]).run Tryd.prog w = .ok (.int .i64 (N : Int)) w := by
  subst hN
  exact World.ownsMap.len h Tryd.underlying136 _
theorem PD.grown {B b mb n : Nat} {l : L} {D : DataW Unit} {w w' : World} (h : PD B b l w) (hm : MP mb n D w) (hg : w.grownBy w' (some mb)) : PD B b l w' := by
  obtain ⟨es, clock, hmb, _⟩ := hm
  have go : ∀ p, Lib.BuilderAt 73 5 B b p (Lib.byteCells l) w → Lib.BuilderAt 73 5 B b p (Lib.byteCells l) w' := by
    rintro p ⟨h0, v, h1, h2, h3⟩
    have hne : b ≠ mb := fun e => by subst e; rw [h1] at hmb; cases hmb
    exact ⟨h0, v, (hg.block b (blk_lt h1) (by simpa using hne)).trans h1, own_other h2 hg (Or.inr (Bld.own_off h2 (fun _ _ e => by cases e) hmb)), h3⟩
  rcases h with h | h
  · exact Or.inl (go _ h)
  · exact Or.inr (go _ h)
/-- A row of attributes under the printer's writes. -/
theorem row_fr {B b base : Nat} {l : L} {v : Value} {xs : List At} {w w' : World} (h : kAt.R 63 w base (fun _ => True) v xs) (hp : PD B b l w) (hf : Bld.Fr b w w') : kAt.R 63 w' base (fun _ => True) v xs := by
  refine Kd.R_mono (Kd.R_step (Kd.R_bound h) ?_) (fun _ _ => trivial)
  rintro k ⟨_, _, hk, q, hq, cells, hc⟩ _
  have hq' : q = 63 := by
    rcases List.mem_cons.1 hq with h | h
    · exact h
    · exact absurd h (by simp [kAt, kNm, Kd.iso, Kd.pair, Kd.string, Kd.scalar])
  subst hq'
  have hb : ∃ v' p, w.heap[b]? = some (.cells #[p, v'] 73 (0, 0)) := by
    rcases hp with ⟨_, v, h1, _⟩ | ⟨_, v, h1, _⟩
    · exact ⟨_, _, h1⟩
    · exact ⟨_, _, h1⟩
  obtain ⟨_, _, hb⟩ := hb
  rw [hf.cells (k := k) (T := 63) (fun e => by subst e; rw [hc] at hb; injection (Option.some.inj hb) with _ e _; exact absurd e (by decide)) (by decide) hc, hc]
theorem row_grown {base mb n : Nat} {D : DataW Unit} {v : Value} {xs : List At} {w w' : World} (h : kAt.R 63 w base (fun _ => True) v xs) (hm : MP mb n D w) (hg : w.grownBy w' (some mb)) : kAt.R 63 w' base (fun _ => True) v xs := by
  refine Kd.R_mono (Kd.R_step (Kd.R_bound h) ?_) (fun _ _ => trivial)
  rintro k ⟨_, _, hk, q, hq, cells, hc⟩ _
  obtain ⟨es, clock, hmb, _⟩ := hm
  exact hg.block k hk (fun e => by cases e; rw [hc] at hmb; cases hmb)
theorem Fr_grown {b mb : Nat} {w w1 w2 : World} (h : Bld.Fr b w w1) (hg : w1.grownBy w2 (some mb)) (hm : w.heap.size ≤ mb) : Bld.Fr b w w2 := fun k o h1 h2 h3 =>
  have h4 := h k o h1 h2 h3
  (hg.block k (blk_lt h4) (by have := blk_lt h3; simp; omega)).trans h4
def wA (a : At) : Nat := 1 + a.f0.f0.size + a.f0.f1.size + a.f1.size
def wAs (l : List At) : Nat := (l.map wA).sum
theorem spc_len (a : At) : (spc a).length = a.f0.f0.size := (Lib.size_eq _).symm
theorem loc_len (a : At) : (loc a).length = a.f0.f1.size := (Lib.size_eq _).symm
theorem attrO_len (n v : L) : (attrO n v).length ≤ 4 + n.length + 6 * v.length := by
  have := Esc.esc_len true v
  unfold attrO
  simp
  omega
theorem itoa_len' (n : Nat) (h : n ≤ 1000000) : (Lib.itoa ((n : Int) + 1)).length ≤ 21 := Lib.itoa_length_le _ (by omega) (by omega)
theorem declStep_len (st : List L × L) (a : At) (h : st.1.length ≤ 1000000) : (declStep st a).1.length ≤ st.1.length + 1 ∧ (declStep st a).2.length ≤ st.2.length + 40 * wA a := by
  unfold declStep
  split
  · exact ⟨by omega, by omega⟩
  · have h1 := attrO_len ([120, 109, 108, 110, 115, 58] ++ (110 :: Lib.itoa ((st.1.length : Int) + 1))) (spc a)
    have h2 := itoa_len' st.1.length h
    have h3 := spc_len a
    simp only [List.length_append, List.length_cons, List.length_nil] at *
    unfold wA
    omega
theorem decls_len : ∀ (l : List At) (st : List L × L), st.1.length + l.length ≤ 1000000 → (l.foldl declStep st).1.length ≤ st.1.length + l.length ∧ (l.foldl declStep st).2.length ≤ st.2.length + 40 * wAs l
  | [], st, _ => by simp [wAs]
  | a :: l, st, h => by
    have h1 := declStep_len st a (by simp at h; omega)
    have h2 := decls_len l (declStep st a) (by simp at h; omega)
    have e : wAs (a :: l) = wA a + wAs l := by simp [wAs]
    rw [List.foldl_cons, e]
    simp at h ⊢
    omega
theorem prefOf_len (p : List L) (s : L) (hp : p.length ≤ 1000000) : ((prefOf p s).getD []).length ≤ 23 := by
  unfold prefOf
  by_cases e0 : s = []
  · simp [e0]
  by_cases e1 : s = sXML
  · rw [if_neg e0, if_pos e1]; simp [sXmlC]
  rw [if_neg e0, if_neg e1]
  cases h : pos p s with
  | none => simp
  | some i =>
    have hm : s ∈ p := by
      by_cases k : s ∈ p
      · exact k
      · rw [pos_none p s k] at h; cases h
    obtain ⟨i', h1, h2⟩ := pos_some p s hm
    rw [h] at h1
    obtain rfl := Option.some.inj h1
    have := itoa_len' i (by omega)
    simp
    omega
theorem attO_len (p : List L) (a : At) (hp : p.length ≤ 1000000) : (attO p a).length ≤ 40 * wA a := by
  have h1 := attrO_len ((prefOf p (spc a)).getD [] ++ loc a) a.f1.data.toList
  have h2 := prefOf_len p (spc a) hp
  have h3 := loc_len a
  have h4 := Lib.size_eq a.f1
  unfold attO wA
  simp only [List.length_append] at h1
  omega
theorem attsO_len (p : List L) (hp : p.length ≤ 1000000) : ∀ l : List At, (attsO p l).length ≤ 40 * wAs l
  | [] => by simp [attsO]
  | a :: l => by
    have h1 := attO_len p a hp
    have h2 := attsO_len p hp l
    have e : wAs (a :: l) = wA a + wAs l := by simp [wAs]
    have e2 : attsO p (a :: l) = attO p a ++ attsO p l := rfl
    rw [e, e2, List.length_append]
    omega
theorem wAs_take (l : List At) (i : Nat) : wAs (l.take i) ≤ wAs l := by
  have e : wAs l = wAs (l.take i) + wAs (l.drop i) := by unfold wAs; rw [← List.sum_append, ← List.map_append, List.take_append_drop]
  omega
theorem wAs_mem {l : List At} {a : At} (h : a ∈ l) : wA a ≤ wAs l := by
  unfold wAs
  induction l with
  | nil => simp at h
  | cons b l ih =>
    simp only [List.map_cons, List.sum_cons]
    rcases List.mem_cons.1 h with rfl | h
    · omega
    · have := ih h; omega
theorem wAs_perm {l l' : List At} (p : l.Perm l') : wAs l = wAs l' := by
  unfold wAs
  exact (p.map wA).sum_nat
set_option maxHeartbeats 4000000 in
set_option maxRecDepth 100000 in
theorem attrs_calls (hS : SortedSaid) (b : Nat) (A0 : Option Addr) (c0 : Nat) (l : List At) (bs : L) (w0 w : World) (h : PD w0.heap.size b bs w) (h0 : Below w0.heap.size w0 w) (ht : Refs.Tens w0)
    (hC : kAt.C w0 A0 l.length l) (hc : l.length ≤ c0) (hap : Apart l) (hl : l.length ≤ 100000) (hz : bs.length + 80 * wAs l ≤ 90000000) (hw : wAs l ≤ 800000) :
    Calls Tryd.prog 68 #[.pointer (some ⟨b, 0, none⟩), .slice A0 l.length c0] w fun e w' => e = .returned (.tuple #[]) ∧ PD w0.heap.size b (bs ++ attrsO (srt l)) w' ∧ Below w0.heap.size w0 w' ∧ Bld.Fr b w w' := by
  have hsz : w0.heap.size ≤ w.heap.size := h0.size
  obtain ⟨ls, hls⟩ : ∃ ls, ls = srt l := ⟨_, rfl⟩
  have hn : ls.length = l.length := by rw [hls]; exact (srt_perm l).length_eq
  have hw' : wAs ls = wAs l := by rw [hls]; exact wAs_perm (srt_perm l)
  have hsort := hS A0 c0 l w (Kd.C_below hC h0) hc hl hap
  rw [← hls] at hsort ⊢
  rw [← hw'] at hz hw
  have HS := Aside0.mk hsort
  have HP := Aside0.mk h
  have H0 := Aside0.mk h0
  have HT := Aside0.mk ht
  rw [← hn] at hl
  clear hsort h h0 ht hls hw' hC hap hn
  have hmm := @run_makeMap Tryd.prog
  go_enter Tryd.func68, Tryd.ntmps68
  go_wp2_with fail
  refine HS.out.mono ?_
  rintro e w1 ⟨v, rfl, hr, hb1⟩
  obtain ⟨A, c, rfl, hlc, -⟩ := Kd.R_reads hr
  have HR := Aside0.mk hr
  have HB1 := Aside0.mk hb1
  clear hr hb1
  have m0 : MP w1.heap.size 0 (.map []) (w1.alloc (.map #[] 0)) := World.ownsMap_made w1 Tryd.prog 9 (plainElem Tryd.prog 9)
  obtain ⟨w2, hr2, o2, g2⟩ := m0.put (by decide) ⟨#[]⟩ ⟨#[]⟩ (by decide) (by decide)
  obtain ⟨w3, hr3, o3, g3⟩ := o2.put (by decide) ⟨sXML.toArray⟩ ⟨sXmlC.toArray⟩ (by decide) (by decide)
  have O3 : Aside0 (MP w1.heap.size 2 (((DataW.map []).put (.string []) (.lit (.string []))).put (.string sXML) (.lit (.string sXmlC))) w3) := ⟨o3⟩
  have hF : Bld.Fr b w w3 := Fr_grown (Fr_grown ((Bld.Fr.below HB1.out).alloc _) g2 HB1.out.size) g3 HB1.out.size
  have hB : Below w0.heap.size w0 w3 := by
    have hb0 : Below w0.heap.size w0 w1 := H0.out.trans (HB1.out.mono hsz)
    exact ((hb0.alloc hb0.size _).grown g2 (by have := hb0.size; simp; omega) (fun k hk => by have := hb0.size; cases hk; omega)).grown g3 (by have := hb0.size; have := g2.size; simp at this; omega) (fun k hk => by have := hb0.size; cases hk; omega)
  have hPD : PD w0.heap.size b bs w3 := (((HP.out.below HB1.out).below ((Below.refl _ _).alloc (Nat.le_refl _) _)).grown m0 g2).grown o2 g3
  have hRow : kAt.R 63 w3 w.heap.size (fun _ => True) (.slice A ls.length c) ls := row_grown (row_grown (Kd.R_alloc HR.out _) m0 g2) o2 g3
  have HF3 := Aside0.mk hF
  have HB3 := Aside0.mk hB
  have HP3 := Aside0.mk hPD
  have HR3 := Aside0.mk hRow
  have hmb : w1.heap.size ≠ b := by have := HP.out.lt; have := HB1.out.size; omega
  clear hF hB hPD hRow g2 g3 o2 o3 m0
  unfold sXML sXmlC at hr3
  go_wp2_with fail
  go_loopg [18] ls.length (fun m v18 wr => ∃ j : Nat, v18 = .int .i64 (j : Int) ∧ j ≤ ls.length ∧ Aside0 (m = ls.length - j) ∧ ∃ D, Aside0 (MP w1.heap.size (2 + j) D wr ∧ MRel (decls (ls.take j)).1 D ∧ PD w0.heap.size b (bs ++ (decls (ls.take j)).2) wr ∧ Below w0.heap.size w0 wr ∧ Bld.Fr b w wr ∧ kAt.R 63 wr w.heap.size (fun _ => True) (.slice A ls.length c) ls))
  case atStart => exact ⟨0, rfl, Nat.zero_le _, ⟨rfl⟩, _, ⟨O3.out, MRel.base, by simpa [decls] using HP3.out, HB3.out, HF3.out, HR3.out⟩⟩
  case round =>
    obtain ⟨j, rfl, hj, HM, D, HI⟩ := hrel
    by_cases hlt : j < ls.length
    · obtain ⟨hm, hrl, hp, hb0, hfr, hrow⟩ := HI.out
      obtain ⟨ad, eA, k0, k1, k2⟩ := atAt (Kd.R_reads' hrow).2.2 (j : Int) (by omega) (by omega)
      have q1 := eq_true (show (j : Int) < (ls.length : Int) by omega)
      have q2 := eq_true (show (0 : Int) ≤ (j : Int) by omega)
      have hu := Tryd.underlying24
      obtain ⟨a, ha⟩ : ∃ a, a = rdAt ls (j : Int) := ⟨_, rfl⟩
      rw [← ha] at k0 k1 k2
      simp only [Int.toNat_natCast] at k0 k1 k2
      have HA : Aside0 (a = ls[j]) := ⟨by rw [ha]; simp [rdAt, hlt]⟩
      clear ha
      subst eA
      obtain ⟨i, hi⟩ : ∃ i, i = j + 1 := ⟨_, rfl⟩
      have f1 : (j : Int) + 1 = (i : Int) := by omega
      have f2 : IntKind.i64.wrap (i : Int) = (i : Int) := IntWalk.i64_in _ (by omega)
      have HI' := Aside0.mk hi
      clear hi hm hrl hp hb0 hfr hrow
      obtain ⟨hm, hrl, hp, hb0, hfr, hrow⟩ := HI.out
      have hwa : wA a ≤ wAs ls := by rw [HA.out]; exact wAs_mem (List.getElem_mem _)
      have hks : a.f0.f0.size ≤ maxLen := by unfold wA at hwa; unfold maxLen; omega
      have hA1 : Below wr.heap.size wr (wr.alloc (.cells #[.string a.f0.f0, .string a.f0.f1, .string a.f1] 63)) := (Below.refl _ _).alloc (Nat.le_refl _) _
      have hat := hrl.at_ (spc a)
      have hhas := hrl.has_ (spc a)
      cases hpr : prefOf (decls (ls.take j)).1 (spc a) with
      | some c1 =>
        rw [hpr] at hat hhas
        have hlk := (hm.below hA1).look_ok a.f0.f0 ⟨c1.toArray⟩ true hks hat hhas
        have HPR := Aside0.mk hpr
        have HA1 := Aside0.mk hA1
        clear hm hrl hp hb0 hfr hrow hat hhas hpr hA1
        go_wp2_with fail
        have hst : decls (ls.take i) = decls (ls.take j) := by
          have e1 : ls.take i = ls.take j ++ [a] := by rw [HI'.out, List.take_add_one, List.getElem?_eq_getElem hlt, HA.out]; rfl
          rw [e1, decls_snoc]
          unfold declStep
          rw [HPR.out]
          rfl
        have HST := Aside0.mk hst
        clear hst
        go_roundg (ls.length - i)
        · refine ⟨i, rfl, by have := HI'.out; omega, ⟨rfl⟩, D, ⟨(HI.out.1.below HA1.out).mono' (by have := HI'.out; omega), ?_, ?_, HI.out.2.2.2.1.alloc HI.out.2.2.2.1.size _, HI.out.2.2.2.2.1.alloc _, Kd.R_alloc HI.out.2.2.2.2.2 _⟩⟩
          · rw [HST.out]; exact HI.out.2.1
          · rw [HST.out]; exact HI.out.2.2.1.below HA1.out
        · have := HI'.out; have := HM.out; omega
      | none =>
        rw [hpr] at hat hhas
        have hlk := (hm.below hA1).look_ok a.f0.f0 ⟨#[]⟩ false hks hat hhas
        obtain ⟨N2, hN2⟩ : ∃ N2, N2 = 2 + (decls (ls.take j)).1.length := ⟨_, rfl⟩
        obtain ⟨N1, hN1⟩ : ∃ N1, N1 = (decls (ls.take j)).1.length + 1 := ⟨_, rfl⟩
        have hql : (decls (ls.take j)).1.length ≤ ls.length := by
          have := (decls_len (ls.take j) ([], []) (by simp; omega)).1
          simp at this
          unfold decls
          omega
        have hlen := (hm.below hA1).len N2 (by rw [hrl.size_, hN2])
        have f3 : (N2 : Int) - 1 = (N1 : Int) := by omega
        have f4 : IntKind.i64.wrap (N1 : Int) = (N1 : Int) := IntWalk.i64_in _ (by omega)
        have hN1b : N1 ≤ 200000 := by omega
        have HN1 := Aside0.mk hN1
        have hbw : b < wr.heap.size := hp.lt
        have hmw : w1.heap.size < wr.heap.size := hm.lt
        have HPR := Aside0.mk hpr
        have HA1 := Aside0.mk hA1
        clear hm hrl hp hb0 hfr hrow hat hhas hN2 hN1 hpr hA1
        go_wp2_with fail
        refine (Refs.itoa_calls N1 (by omega) _ (Refs.tens_below HT.out ((HI.out.2.2.2.1).alloc (HI.out.2.2.2.1).size _))).mono ?_
        rintro e w4 ⟨rfl, hb4⟩
        have hb4' := HA1.out.trans (hb4.mono HA1.out.size)
        have hk4 : w4.heap[wr.heap.size]? = some (.cells #[.string a.f0.f0, .string a.f0.f1, .string a.f1] 63 (0, 0)) := (hb4.block wr.heap.size (by simp)).trans (heap_alloc_last wr _)
        have g0 : w4.cell? ⟨wr.heap.size, 0, none⟩ = some (.string a.f0.f0) := by rw [Lib.cell_of_heap hk4]; rfl
        obtain ⟨I, hI⟩ : ∃ I : ByteArray, I = ⟨(Lib.itoa (N1 : Int)).toArray⟩ := ⟨_, rfl⟩
        rw [← hI]
        have hIs : I.size ≤ 21 := by rw [hI, Lib.size_eq]; exact Lib.itoa_length_le (N1 : Int) (by omega) (by omega)
        have hIz : ((⟨#[110]⟩ ++ I) ++ ⟨#[58]⟩ : ByteArray).size = 1 + I.size + 1 := by rw [ByteArray.size_append, ByteArray.size_append]; rfl
        have HI2 := Aside0.mk hI
        obtain ⟨w5, hr5, o5, g5⟩ := (HI.out.1.below hb4').put (by unfold maxLen; omega) a.f0.f0 ((⟨#[110]⟩ ++ I) ++ ⟨#[58]⟩) hks (by rw [hIz]; unfold maxLen; omega)
        have hk5 := (g5.block wr.heap.size (blk_lt hk4) (by simp; omega)).trans hk4
        have g0' : w5.cell? ⟨wr.heap.size, 0, none⟩ = some (.string a.f0.f0) := by rw [Lib.cell_of_heap hk5]; rfl
        have hP5 : PD w0.heap.size b (bs ++ (decls (ls.take j)).2) w5 := ((HI.out.2.2.1).below hb4').grown (HI.out.1.below hb4') g5
        have hF5 : Bld.Fr b w w5 := Fr_grown ((HI.out.2.2.2.2.1).trans (Bld.Fr.below hb4')) g5 HB1.out.size
        have h04 : Below w0.heap.size w0 w4 := (HI.out.2.2.2.1).trans (hb4'.mono (HI.out.2.2.2.1).size)
        have h05 : Below w0.heap.size w0 w5 := h04.grown g5 h04.size (fun k hk => by cases hk; have := HB1.out.size; omega)
        have hR5 : kAt.R 63 w5 w.heap.size (fun _ => True) (.slice (some ad) ls.length c) ls := row_grown (Kd.R_below HI.out.2.2.2.2.2 hb4') (HI.out.1.below hb4') g5
        have HP5 := Aside0.mk hP5
        have HF5 := Aside0.mk hF5
        have H05 := Aside0.mk h05
        have HR5 := Aside0.mk hR5
        have HO5 := Aside0.mk o5
        clear hlen hlk hI hIz hk4 hk5 hP5 hF5 h04 h05 hR5 o5 g5
        go_wp2_with fail
        have hdl : (decls (ls.take j)).2.length ≤ 40 * wAs ls := by
          have h1 := (decls_len (ls.take j) ([], []) (by simp; omega)).2
          have h2 := wAs_take ls j
          unfold decls
          simp at h1
          omega
        refine (attr_calls w0.heap.size b _ a.f0.f0 (bs ++ (decls (ls.take j)).2) w5 HP5.out HP5.out.lt H05.out.size (Refs.tens_below HT.out H05.out) (by unfold wA at hwa; omega) ?hnm (by rw [List.length_append]; omega)).mono ?_
        case hnm =>
          rw [ByteArray.size_append, ByteArray.size_append]
          show 6 + (1 + I.size) ≤ 900000
          omega
        rintro e w6 ⟨rfl, hp6, hb6, hf6⟩
        have hD : ((⟨#[110]⟩ ++ I) ++ ⟨#[58]⟩ : ByteArray).data.toList = 110 :: Lib.itoa (((decls (ls.take j)).1.length : Int) + 1) ++ [58] := by
          rw [HI2.out, HN1.out]
          simp
        have hst : decls (ls.take i) = ((decls (ls.take j)).1 ++ [spc a], (decls (ls.take j)).2 ++ attrO ([120, 109, 108, 110, 115, 58] ++ (110 :: Lib.itoa (((decls (ls.take j)).1.length : Int) + 1))) (spc a)) := by
          have e1 : ls.take i = ls.take j ++ [a] := by rw [HI'.out, List.take_add_one, List.getElem?_eq_getElem hlt, HA.out]; rfl
          rw [e1, decls_snoc]
          unfold declStep
          rw [HPR.out]
          rfl
        have HST := Aside0.mk hst
        have HD := Aside0.mk hD
        have HP6 := Aside0.mk hp6
        have HB6 := Aside0.mk hb6
        have HF6 := Aside0.mk hf6
        clear hst hD hp6 hb6 hf6 hr5 g0 g0'
        go_wp2_with fail
        go_roundg (ls.length - i)
        · refine ⟨i, rfl, by have := HI'.out; omega, ⟨rfl⟩, _, ⟨HO5.out.fr hmb HF6.out |>.mono' (by have := HI'.out; omega), ?_, ?_, H05.out.trans HB6.out, HF5.out.trans HF6.out, row_fr HR5.out HP5.out HF6.out⟩⟩
          · rw [HST.out, HD.out]
            exact MRel.put HI.out.2.1 HI.out.1.tidy (spc a) HPR.out
          · rw [HST.out, ← List.append_assoc]
            have e := HP6.out
            rw [HI2.out, HN1.out] at e
            simpa [spc] using e
        · have := HI'.out; have := HM.out; omega
    · have q1 := eq_false (show ¬ (j : Int) < (ls.length : Int) by omega)
      obtain rfl : j = ls.length := by omega
      have hI := HI.out
      rw [List.take_length] at hI
      obtain ⟨P, hP⟩ : ∃ P, P = decls ls := ⟨_, rfl⟩
      have HPL : P.1.length ≤ 100000 ∧ P.2.length ≤ 40 * wAs ls := by
        have := decls_len ls ([], []) (by simp; omega)
        rw [hP]
        unfold decls
        simp at this
        omega
      rw [← hP] at hI
      have HI := Aside0.mk hI
      have HP' := Aside0.mk hP
      clear hI hP
      go_wp2_with fail
      obtain ⟨wo, rfl⟩ : ∃ wo : World, wo = wr := ⟨_, rfl⟩
      go_loopg [53] ls.length (fun m v53 wr => ∃ j : Nat, v53 = .int .i64 (j : Int) ∧ j ≤ ls.length ∧ Aside0 (m = ls.length - j) ∧ Aside0 (MP w1.heap.size (2 + ls.length) D wr ∧ PD w0.heap.size b (bs ++ P.2 ++ attsO P.1 (ls.take j)) wr ∧ Below w0.heap.size w0 wr ∧ Bld.Fr b w wr ∧ kAt.R 63 wr w.heap.size (fun _ => True) (.slice A ls.length c) ls))
      case atStart => exact ⟨0, rfl, Nat.zero_le _, ⟨rfl⟩, ⟨HI.out.1, by simpa [attsO] using HI.out.2.2.1, HI.out.2.2.2.1, HI.out.2.2.2.2.1, HI.out.2.2.2.2.2⟩⟩
      case round =>
        obtain ⟨j, rfl, hj, HM2, HJ⟩ := hrel
        by_cases hlt : j < ls.length
        · obtain ⟨hm, hp, hb0, hfr, hrow⟩ := HJ.out
          obtain ⟨ad, eA, k0, k1, k2⟩ := atAt (Kd.R_reads' hrow).2.2 (j : Int) (by omega) (by omega)
          have q1 := eq_true (show (j : Int) < (ls.length : Int) by omega)
          have q2 := eq_true (show (0 : Int) ≤ (j : Int) by omega)
          obtain ⟨a, ha⟩ : ∃ a, a = rdAt ls (j : Int) := ⟨_, rfl⟩
          rw [← ha] at k0 k1 k2
          simp only [Int.toNat_natCast] at k0 k1 k2
          have HA : Aside0 (a = ls[j]) := ⟨by rw [ha]; simp [rdAt, hlt]⟩
          clear ha
          subst eA
          obtain ⟨i, hi⟩ : ∃ i, i = j + 1 := ⟨_, rfl⟩
          have f1 : (j : Int) + 1 = (i : Int) := by omega
          have f2 : IntKind.i64.wrap (i : Int) = (i : Int) := IntWalk.i64_in _ (by omega)
          have HI' := Aside0.mk hi
          have hwa : wA a ≤ wAs ls := by rw [HA.out]; exact wAs_mem (List.getElem_mem _)
          have hks : a.f0.f0.size ≤ maxLen := by unfold wA at hwa; unfold maxLen; omega
          have hA1 : Below wr.heap.size wr (wr.alloc (.cells #[.string a.f0.f0, .string a.f0.f1, .string a.f1] 63)) := (Below.refl _ _).alloc (Nat.le_refl _) _
          obtain ⟨pf, hpf⟩ : ∃ pf : ByteArray, pf = ⟨((prefOf P.1 (spc a)).getD []).toArray⟩ := ⟨_, rfl⟩
          have hlk := (hm.below hA1).look a.f0.f0 pf hks (by rw [hpf]; exact HI.out.2.1.at_ (spc a))
          have hpl := prefOf_len P.1 (spc a) (by omega)
          have hps : pf.size ≤ 23 := by rw [hpf, Lib.size_eq]; exact hpl
          have hal : a.f0.f1.size ≤ 800000 := by unfold wA at hwa; omega
          have HPF := Aside0.mk hpf
          have HA1 := Aside0.mk hA1
          have hst : attsO P.1 (ls.take i) = attsO P.1 (ls.take j) ++ attO P.1 a := by
            have e1 : ls.take i = ls.take j ++ [a] := by rw [HI'.out, List.take_add_one, List.getElem?_eq_getElem hlt, HA.out]; rfl
            rw [e1, attsO_snoc]
          have HST := Aside0.mk hst
          have hatl : (attsO P.1 (ls.take j)).length ≤ 40 * wAs ls := by
            have h1 := attsO_len P.1 (by omega) (ls.take j)
            have h2 := wAs_take ls j
            omega
          clear hi hm hp hb0 hfr hrow hpf hA1 hst hpl
          go_wp2_with fail
          have hP7 := HJ.out.2.1.below HA1.out
          have h07 : Below w0.heap.size w0 (wr.alloc (.cells #[.string a.f0.f0, .string a.f0.f1, .string a.f1] 63)) := HJ.out.2.2.1.alloc HJ.out.2.2.1.size _
          refine (attr_calls w0.heap.size b _ a.f1 (bs ++ P.2 ++ attsO P.1 (ls.take j)) _ hP7 hP7.lt h07.size (Refs.tens_below HT.out h07) (by unfold wA at hwa; omega) (by rw [ByteArray.size_append]; omega) (by rw [List.length_append, List.length_append]; omega)).mono ?_
          rintro e w6 ⟨rfl, hp6, hb6, hf6⟩
          have HP6 := Aside0.mk hp6
          have HB6 := Aside0.mk hb6
          have HF6 := Aside0.mk hf6
          have HP7 := Aside0.mk hP7
          have H07 := Aside0.mk h07
          clear hp6 hb6 hf6 hP7 h07 hlk k0 k1 k2
          go_wp2_with fail
          go_roundg (ls.length - i)
          · refine ⟨i, rfl, by have := HI'.out; omega, ⟨rfl⟩, ⟨(HJ.out.1.below HA1.out).fr hmb HF6.out, ?_, H07.out.trans HB6.out, (HJ.out.2.2.2.1.alloc _).trans HF6.out, row_fr (Kd.R_alloc HJ.out.2.2.2.2 _) HP7.out HF6.out⟩⟩
            rw [HST.out, ← List.append_assoc]
            have e := HP6.out
            rw [HPF.out] at e
            simpa [attO, loc] using e
          · have := HI'.out; have := HM2.out; omega
        · have q1 := eq_false (show ¬ (j : Int) < (ls.length : Int) by omega)
          obtain rfl : j = ls.length := by omega
          have hJ := HJ.out
          rw [List.take_length] at hJ
          have HJ := Aside0.mk hJ
          clear hJ
          go_wp2_with fail
          go_end0
          refine ⟨rfl, ?_, HJ.out.2.2.1, HJ.out.2.2.2.1⟩
          unfold attrsO
          rw [← HP'.out, ← List.append_assoc]
          exact HJ.out.2.1
end Go.Proofs.YtffpbhbiamkkpaaDoor.Prt
/- print's printer: node (a tree's bytes), by induction on how much the tree is. -/
namespace Go.Proofs.YtffpbhbiamkkpaaDoor.Prt
open Go.RowKit Go.Proofs.YtffpbhbiamkkpaaDoorW.PrintWords Go.Proofs.YtffpbhbiamkkpaaDoorW.PrintLast Go.Proofs.YtffpbhbiamkkpaaDoorW.PrintMore Go.Plain Go.Proofs.YtffpbhbiamkkpaaDoor.ND
set_option linter.unusedVariables false
theorem eqL {a : ByteArray} {l : L} (h : a.data.toList = l) : (a.toList == l) = true := by rw [Lib.toList_data, h]; simp
theorem neL {a : ByteArray} {l : L} (h : a.data.toList ≠ l) : (a.toList == l) = false := by rw [Lib.toList_data]; simpa using h
theorem neS {a b : ByteArray} (h : a.data.toList ≠ b.data.toList) : (a.toList == b.toList) = false := by rw [Lib.toList_data, Lib.toList_data]; simpa using h
theorem eqS {a b : ByteArray} (h : a.data.toList = b.data.toList) : (a.toList == b.toList) = true := by rw [Lib.toList_data, Lib.toList_data, h]; simp
mutual
def wt : Nd → Nat
  | ⟨_, n, t, c, x⟩ => 1 + n.f0.size + n.f1.size + wAs t + wts c + x.size
def wts : List Nd → Nat
  | [] => 0
  | d :: r => wt d + wts r
end
mutual
def okN : Nd → Prop
  | ⟨_, _, t, c, _⟩ => Apart t ∧ okNs c
def okNs : List Nd → Prop
  | [] => True
  | d :: r => okN d ∧ okNs r
end
/-- What a node's bytes are made of. -/
def bodyO (kids : List Nd) (sp tag : L) : L := match kids with | [] => [47, 62] | d :: r => [62] ++ nodesO (d :: r) sp ++ ([60, 47] ++ tag ++ [62])
theorem nodeO_elem (k : Int) (nm : Nm) (t : List At) (kids : List Nd) (x : ByteArray) (space : L) (hk : k ≠ 2) :
    nodeO ⟨k, nm, t, kids, x⟩ space = 60 :: (if nm.f0.data.toList = sXML then sXmlC ++ nm.f1.data.toList else nm.f1.data.toList) ++ (if nm.f0.data.toList ≠ sXML ∧ nm.f0.data.toList ≠ space then attrO sXmlns nm.f0.data.toList else []) ++ attrsO (srt t)
      ++ bodyO kids (if nm.f0.data.toList ≠ sXML ∧ nm.f0.data.toList ≠ space then nm.f0.data.toList else space) (if nm.f0.data.toList = sXML then sXmlC ++ nm.f1.data.toList else nm.f1.data.toList) := by
  unfold nodeO
  rw [if_neg hk]
  cases kids with
  | nil => simp only [bodyO]
  | cons d r => simp only [bodyO, List.append_assoc]
theorem wts_get : ∀ (l : List Nd) (i : Nat) (h : i < l.length), wt l[i] ≤ wts l
  | d :: r, 0, _ => by simp [wts]
  | d :: r, i + 1, h => by have := wts_get r i (by simpa using h); simp [wts]; omega
theorem okNs_get : ∀ (l : List Nd) (i : Nat) (h : i < l.length), okNs l → okN l[i]
  | d :: r, 0, _, h => h.1
  | d :: r, i + 1, hi, h => okNs_get r i (by simpa using hi) h.2
theorem wts_take : ∀ (l : List Nd) (i : Nat), wts (l.take i) ≤ wts l
  | [], _ => by simp [wts]
  | d :: r, 0 => by simp [wts]
  | d :: r, i + 1 => by have := wts_take r i; simp [wts]; omega
theorem wts_snoc : ∀ (l : List Nd) (d : Nd), wts (l ++ [d]) = wts l + wt d
  | [], d => by simp [wts]
  | a :: l, d => by simp [wts, wts_snoc l d]; omega
theorem nodesO_snoc : ∀ (l : List Nd) (d : Nd) (s : L), nodesO (l ++ [d]) s = nodesO l s ++ nodeO d s
  | [], d, s => by simp [nodesO]
  | a :: l, d, s => by simp [nodesO, nodesO_snoc l d s]
theorem attrsO_len (l : List At) (h : l.length ≤ 1000000) : (attrsO l).length ≤ 80 * wAs l := by
  have h1 := decls_len l ([], []) (by simpa using h)
  have h2 := attsO_len (decls l).1 (by unfold decls; simp at h1; omega) l
  unfold attrsO
  unfold decls at *
  simp at h1 ⊢
  omega
theorem wAs_len : ∀ l : List At, l.length ≤ wAs l
  | [] => by simp [wAs]
  | a :: l => by have := wAs_len l; simp [wAs, wA] at *; omega
mutual
theorem nodeO_len : ∀ (n : Nd) (s : L), wt n ≤ 1000000 → (nodeO n s).length ≤ 80 * wt n
  | ⟨k, n, t, c, x⟩, s, h => by
    have h1 := Esc.esc_len false x.data.toList
    have h2 := Lib.size_eq x
    have h3 := Lib.size_eq n.f0
    have h4 := Lib.size_eq n.f1
    have h5 := attrO_len sXmlns n.f0.data.toList
    have h6 := wAs_perm (srt_perm t)
    have h7 := wAs_len (srt t)
    unfold wt at h
    have h8 := attrsO_len (srt t) (by omega)
    have h9 : ∀ s', (nodesO c s').length ≤ 80 * wts c := fun s' => nodesO_len c s' (by omega)
    have hX : sXmlC.length = 4 := rfl
    have hN : sXmlns.length = 5 := rfl
    unfold nodeO wt
    split
    · omega
    · have ht : (if n.f0.data.toList = sXML then sXmlC ++ n.f1.data.toList else n.f1.data.toList).length ≤ 4 + n.f1.size := by split <;> (try simp only [List.length_append]) <;> omega
      have hn : (if n.f0.data.toList ≠ sXML ∧ n.f0.data.toList ≠ s then attrO sXmlns n.f0.data.toList else []).length ≤ 9 + 6 * n.f0.size := by split <;> (try simp only [List.length_nil]) <;> omega
      cases c with
      | nil => simp only [List.length_append, List.length_cons, List.length_nil]; omega
      | cons d r =>
        have := h9 (if n.f0.data.toList ≠ sXML ∧ n.f0.data.toList ≠ s then n.f0.data.toList else s)
        simp only [List.length_append, List.length_cons, List.length_nil]
        omega
theorem nodesO_len : ∀ (l : List Nd) (s : L), wts l ≤ 1000000 → (nodesO l s).length ≤ 80 * wts l
  | [], _, _ => by simp [nodesO]
  | d :: r, s, h => by
    unfold wts at h
    have h1 := nodeO_len d s (by omega)
    have h2 := nodesO_len r s (by omega)
    unfold nodesO wts
    simp
    omega
end
set_option maxHeartbeats 4000000 in
set_option maxRecDepth 100000 in
theorem node_text (n : Nd) (space : ByteArray) (b : Nat) (bs : L) (w0 w : World) (A3 A4 : Option Addr) (c3 c4 : Nat) (hk : n.f0 = 2) (h : PD w0.heap.size b bs w) (h0 : Below w0.heap.size w0 w) (ht : Refs.Tens w0) (hz : bs.length + 80 * wt n ≤ 80000000) (hw : n.f4.size ≤ 900000) :
    Calls Tryd.prog 35 #[.pointer (some ⟨b, 0, none⟩), .agg #[.int .i64 n.f0, .string n.f1.f0, .string n.f1.f1, .slice A3 n.f2.length c3, .slice A4 n.f3.length c4, .string n.f4], .string space] w fun e w' => e = .returned (.tuple #[]) ∧ PD w0.heap.size b (bs ++ nodeO n space.data.toList) w' ∧ Below w0.heap.size w0 w' ∧ Bld.Fr b w w' := by
  have hbx := fun (o : Obj) => (Below.refl w.heap.size w).alloc (Nat.le_refl _) o
  have HBX := Aside0.mk hbx
  have HP := Aside0.mk h
  have H0 := Aside0.mk h0
  have HT := Aside0.mk ht
  obtain ⟨k, nm, at', kids, x⟩ := n
  dsimp only at *
  subst hk
  have hx : (Esc.esc false x.data.toList).length ≤ 6 * x.size := by have := Esc.esc_len false x.data.toList; rw [← Lib.size_eq] at this; exact this
  have hwt : x.size ≤ wt ⟨2, nm, at', kids, x⟩ := by unfold wt; omega
  have he : nodeO ⟨2, nm, at', kids, x⟩ space.data.toList = Esc.esc false x.data.toList := by unfold nodeO; rw [if_pos rfl]
  rw [he]
  obtain ⟨W, hW⟩ : ∃ W, W = wt ⟨2, nm, at', kids, x⟩ := ⟨_, rfl⟩
  rw [← hW] at hz hwt
  obtain ⟨E, hE⟩ : ∃ E, E = Esc.esc false x.data.toList := ⟨_, rfl⟩
  have hce := fun w hT => Esc.escape_calls x false w hT hw
  rw [← hE] at hx ⊢
  simp only [← hE] at hce
  have HCE := Aside0.mk hce
  clear h h0 ht he hW hE hce hbx
  go_enter Tryd.func35, Tryd.ntmps35
  go_wp2_with fail
  have h01 := fun o => H0.out.alloc H0.out.size o
  refine (HCE.out _ (Refs.tens_below HT.out (h01 _))).mono ?_
  rintro e w1 ⟨rfl, hb1⟩
  have H01 := Aside0.mk ((h01 _).trans (hb1.mono (h01 _).size))
  have hP1 := (HP.out.below (HBX.out _)).below hb1
  have hF1 := (Bld.Fr.below (b := b) (HBX.out _)).trans (Bld.Fr.below hb1)
  have HP1 := Aside0.mk hP1
  have HF1 := Aside0.mk hF1
  clear hb1 hP1 hF1 h01
  go_wp2_with fail
  refine (put_new w0.heap.size b [⟨E.toArray⟩] bs w1 1 _ _ HP1.out rfl rfl rfl (by simp) (by simp [cat]; omega)).mono ?_
  rintro e w2 ⟨rfl, hp2, hb2, hf2⟩
  have HP2 := Aside0.mk hp2
  have HB2 := Aside0.mk hb2
  have HF2 := Aside0.mk hf2
  clear hp2 hb2 hf2
  go_wp2_with fail
  exact bodyPost_ret (v := .tuple #[]) (by simp [results, Tryd.results35, go_sem]) rfl ⟨rfl, by simpa [cat] using HP2.out, H01.out.trans HB2.out, HF1.out.trans HF2.out⟩
set_option maxHeartbeats 4000000 in
set_option maxRecDepth 100000 in
theorem node_elem (hS : SortedSaid) (n : Nd) (space : ByteArray) (b : Nat) (bs : L) (w0 w : World) (A3 A4 : Option Addr) (c3 c4 : Nat) (hk : n.f0 ≠ 2) (h : PD w0.heap.size b bs w) (h0 : Below w0.heap.size w0 w) (ht : Refs.Tens w0)
    (hz : bs.length + 80 * wt n ≤ 80000000) (hw : wt n ≤ 100000) (hok : okN n) (h3 : kAt.C w0 A3 n.f2.length n.f2) (hc3 : n.f2.length ≤ c3) (h4 : kNd.C w0 A4 n.f3.length n.f3) (hc4 : n.f3.length ≤ c4) (hsp : space.size ≤ 900000)
    (ih : ∀ (d : Nd), wt d < wt n → okN d → ∀ (space : ByteArray) (bs : L) (w : World) (A3 A4 : Option Addr) (c3 c4 : Nat), PD w0.heap.size b bs w → Below w0.heap.size w0 w → bs.length + 80 * wt d ≤ 80000000 →
      kAt.C w0 A3 d.f2.length d.f2 → d.f2.length ≤ c3 → kNd.C w0 A4 d.f3.length d.f3 → d.f3.length ≤ c4 → space.size ≤ 900000 →
      Calls Tryd.prog 35 #[.pointer (some ⟨b, 0, none⟩), .agg #[.int .i64 d.f0, .string d.f1.f0, .string d.f1.f1, .slice A3 d.f2.length c3, .slice A4 d.f3.length c4, .string d.f4], .string space] w fun e w' => e = .returned (.tuple #[]) ∧ PD w0.heap.size b (bs ++ nodeO d space.data.toList) w' ∧ Below w0.heap.size w0 w' ∧ Bld.Fr b w w') :
    Calls Tryd.prog 35 #[.pointer (some ⟨b, 0, none⟩), .agg #[.int .i64 n.f0, .string n.f1.f0, .string n.f1.f1, .slice A3 n.f2.length c3, .slice A4 n.f3.length c4, .string n.f4], .string space] w fun e w' => e = .returned (.tuple #[]) ∧ PD w0.heap.size b (bs ++ nodeO n space.data.toList) w' ∧ Below w0.heap.size w0 w' ∧ Bld.Fr b w w' := by
  have hbx := fun (o : Obj) => (Below.refl w.heap.size w).alloc (Nat.le_refl _) o
  have HBX := Aside0.mk hbx
  have HP := Aside0.mk h
  have H0 := Aside0.mk h0
  have HT := Aside0.mk ht
  have HIH := Aside0.mk ih
  have HOK := Aside0.mk hok
  have H3 := Aside0.mk h3
  have H4 := Aside0.mk h4
  obtain ⟨k, nm, at', kids, x⟩ := n
  dsimp only at *
  have hk1 : (k == 2) = false := by simpa using hk
  have hfin := nodeO_elem k nm at' kids x space.data.toList hk
  have hwt : wt ⟨k, nm, at', kids, x⟩ = 1 + nm.f0.size + nm.f1.size + wAs at' + wts kids + x.size := by unfold wt; rfl
  have hal := wAs_len at'
  obtain ⟨hap, hokk⟩ := HOK.out
  have hsz := h0.size
  have hbw := h.lt
  have HW := Aside0.mk hwt
  have hw1 : nm.f1.size ≤ 100000 := by omega
  have hw0 : nm.f0.size ≤ 100000 := by omega
  have hwA : wAs at' ≤ 100000 := by omega
  have hwK : wts kids ≤ 100000 := by omega
  have hz1 : bs.length + 80 * (1 + nm.f0.size + nm.f1.size + wAs at' + wts kids) ≤ 80000000 := by omega
  have hkl : kids.length ≤ 100000 := by
    have : ∀ l : List Nd, l.length ≤ wts l := by
      intro l
      induction l with
      | nil => simp
      | cons d r ih => simp only [wts, List.length_cons]; have : 1 ≤ wt d := by obtain ⟨k, nm, t, c, x⟩ := d; unfold wt; omega
                       omega
    have := this kids
    omega
  have HAP := Aside0.mk hap
  have HOKK := Aside0.mk hokk
  have hsX : sXmlC.length = 4 := rfl
  have hsN : sXmlns.length = 5 := rfl
  have hl0 := attrO_len sXmlns nm.f0.data.toList
  rw [← Lib.size_eq] at hl0
  have hatl := attrsO_len (srt at') (by rw [(srt_perm at').length_eq]; omega)
  rw [wAs_perm (srt_perm at')] at hatl
  clear h h0 ht ih hok h3 h4 hbx hwt hap hokk hz hw hk
  by_cases hX : nm.f0.data.toList = sXML
  · have b1 := eqL hX
    unfold sXML at b1
    rw [if_pos hX, if_neg (fun c => c.1 hX), if_neg (fun c => c.1 hX)] at hfin
    have HFIN := Aside0.mk hfin
    clear hfin hX
    have hr : (9223372036854775807 < 4 + nm.f1.size) = False := eq_false (by omega)
    go_enter Tryd.func35, Tryd.ntmps35
    go_wp2_with fail
    obtain ⟨T, hT⟩ : ∃ T : ByteArray, T = ⟨#[120, 109, 108, 58]⟩ ++ nm.f1 := ⟨_, rfl⟩
    rw [← hT]
    have hTl : T.data.toList = sXmlC ++ nm.f1.data.toList := by rw [hT, ByteArray.data_append, Array.toList_append]; rfl
    have hTs : T.size = 4 + nm.f1.size := by rw [hT, ByteArray.size_append]; rfl
    have HTL := Aside0.mk hTl
    have HTS := Aside0.mk hTs
    clear hT hTl hTs
    have hT9 : bs.length + (cat [⟨#[60]⟩, T]).length ≤ 100000000 := by
      have h1 := HTS.out
      have h2 := Lib.size_eq T
      simp only [cat, List.flatMap_cons, List.flatMap_nil, List.length_append, List.length_cons, List.length_nil]
      omega
    (with_reducible refine (put_new w0.heap.size b [⟨#[60]⟩, T] bs _ 2 (w.heap.size + 1) #[.string ⟨#[60]⟩, .string T] (HP.out.below (HBX.out _)) (by simp) rfl rfl (by simp) hT9).mono ?_)
    rintro e w1 ⟨rfl, hp1, hb1, hf1⟩
    have hk1 := hf1.cells (k := w.heap.size) (T := 27) (by omega) (by decide) (heap_alloc_last w _)
    have g1 : w1.cell? ⟨w.heap.size, 1, none⟩ = some (.string nm.f0) := by rw [Lib.cell_of_heap hk1]; rfl
    have g3 : w1.cell? ⟨w.heap.size, 3, none⟩ = some (.slice A3 at'.length c3) := by rw [Lib.cell_of_heap hk1]; rfl
    have H01 := Aside0.mk ((H0.out.alloc H0.out.size _).trans hb1)
    have HP1 := Aside0.mk hp1
    have HF1 := Aside0.mk ((Bld.Fr.below (b := b) (HBX.out _)).trans hf1)
    have HK1 := Aside0.mk hk1
    clear hp1 hb1 hf1 hk1
    go_wp2_with fail
    obtain ⟨bs1, hbs1⟩ : ∃ bs1, bs1 = bs ++ cat [⟨#[60]⟩, T] := ⟨_, rfl⟩
    have hbl : bs1.length ≤ bs.length + (5 + nm.f1.size + 9 + 6 * nm.f0.size) := by
      have h1 := HTS.out
      have h2 := Lib.size_eq T
      rw [hbs1]
      simp only [cat, List.flatMap_cons, List.flatMap_nil, List.length_append, List.length_cons, List.length_nil]
      omega
    have HPB : Aside0 (PD w0.heap.size b bs1 w1) := ⟨by rw [hbs1]; exact HP1.out⟩
    have hfinal : nodeO ⟨k, nm, at', kids, x⟩ space.data.toList = nodeO ⟨k, nm, at', kids, x⟩ space.data.toList := rfl
    have HB1 := Aside0.mk hbs1
    clear hbs1 hfinal
    refine (attrs_calls hS b A3 c3 at' bs1 w0 w1 HPB.out H01.out HT.out H3.out hc3 HAP.out (by omega) (by omega) (by omega)).mono ?_
    rintro e wa ⟨rfl, hpa, hba, hfa⟩
    have hka := hfa.cells (k := w.heap.size) (T := 27) (by omega) (by decide) HK1.out
    have g4 : wa.cell? ⟨w.heap.size, 4, none⟩ = some (.slice A4 kids.length c4) := by rw [Lib.cell_of_heap hka]; rfl
    obtain ⟨bs2, hbs2⟩ : ∃ bs2, bs2 = bs1 ++ attrsO (srt at') := ⟨_, rfl⟩
    have hbl2 : bs2.length ≤ bs.length + (14 + nm.f1.size + 6 * nm.f0.size) + 80 * wAs at' := by rw [hbs2, List.length_append]; omega
    have HPA : Aside0 (PD w0.heap.size b bs2 wa) := ⟨by rw [hbs2]; exact hpa⟩
    have HB2 := Aside0.mk hbs2
    have HBA := Aside0.mk hba
    have HFA := Aside0.mk (HF1.out.trans hfa)
    have HKA := Aside0.mk hka
    clear hpa hba hfa hka hbs2 g1 g3
    by_cases hkz : kids = []
    · subst hkz
      go_wp2_with fail
      (with_reducible refine (put_new w0.heap.size b [⟨#[47, 62]⟩] bs2 _ 1 wa.heap.size #[.string ⟨#[47, 62]⟩] HPA.out rfl rfl rfl (by simp) (by simp [cat]; omega)).mono ?_)
      rintro e wz ⟨rfl, hpz, hbz, hfz⟩
      have HPZ := Aside0.mk hpz
      have HBZ := Aside0.mk hbz
      have HFZ := Aside0.mk hfz
      clear hpz hbz hfz
      go_wp2_with fail
      refine bodyPost_ret (v := .tuple #[]) (by simp [results, Tryd.results35, go_sem]) rfl ⟨rfl, ?_, HBA.out.trans HBZ.out, HFA.out.trans HFZ.out⟩
      have e := HPZ.out
      rw [HB2.out, HB1.out] at e
      rw [HFIN.out]
      simpa [cat, bodyO, HTL.out] using e
    · have z1 : ((kids.length : Int) == 0) = false := by
        have := List.length_pos_iff.2 hkz
        simp
        exact hkz
      have z2 : (kids.length == 0) = false := by simpa using hkz
      have HKZ := Aside0.mk hkz
      clear hkz
      go_wp2_with fail
      (with_reducible refine (put_new w0.heap.size b [⟨#[62]⟩] bs2 _ 1 wa.heap.size #[.string ⟨#[62]⟩] HPA.out rfl rfl rfl (by simp) (by simp [cat]; omega)).mono ?_)
      rintro e wb ⟨rfl, hpb, hbb, hfb⟩
      have hkb := hfb.cells (k := w.heap.size) (T := 27) (by omega) (by decide) HKA.out
      have g4' : wb.cell? ⟨w.heap.size, 4, none⟩ = some (.slice A4 kids.length c4) := by rw [Lib.cell_of_heap hkb]; rfl
      have HPB2 : Aside0 (PD w0.heap.size b (bs2 ++ [62]) wb) := ⟨by simpa [cat] using hpb⟩
      have HBB := Aside0.mk (HBA.out.trans hbb)
      have HFB := Aside0.mk (HFA.out.trans hfb)
      clear hpb hbb hfb hkb g4
      go_wp2_with fail
      go_loopg [65] kids.length (fun m v65 wr => ∃ j : Nat, v65 = .int .i64 (j : Int) ∧ j ≤ kids.length ∧ Aside0 (m = kids.length - j) ∧ Aside0 (PD w0.heap.size b (bs2 ++ [62] ++ nodesO (kids.take j) space.data.toList) wr ∧ Below w0.heap.size w0 wr ∧ Bld.Fr b w wr))
      case atStart => exact ⟨0, rfl, Nat.zero_le _, ⟨rfl⟩, ⟨by simpa [nodesO] using HPB2.out, HBB.out, HFB.out⟩⟩
      case round =>
        obtain ⟨j, rfl, hj, HM, HJ⟩ := hrel
        by_cases hlt : j < kids.length
        · obtain ⟨hp, hb0, hfr⟩ := HJ.out
          obtain ⟨ad, B3, d3, B4, d4, eA, k0, k1, k2, k3, k4, k5, l3, C3, l4, C4⟩ := atNd H4.out (j : Int) (by omega) (by omega)
          have q1 := eq_true (show (j : Int) < (kids.length : Int) by omega)
          have q2 := eq_true (show (0 : Int) ≤ (j : Int) by omega)
          obtain ⟨d, hd⟩ : ∃ d, d = rdNd kids (j : Int) := ⟨_, rfl⟩
          rw [← hd] at k0 k1 k2 k3 k4 k5 l3 C3 l4 C4
          simp only [Int.toNat_natCast] at k0 k1 k2 k3 k4 k5
          have k0 := pw_cell_below hb0 k0
          have k1 := pw_cell_below hb0 k1
          have k2 := pw_cell_below hb0 k2
          have k3 := pw_cell_below hb0 k3
          have k4 := pw_cell_below hb0 k4
          have k5 := pw_cell_below hb0 k5
          have hdk : d = kids[j] := by rw [hd]; simp [rdNd, hlt]
          clear hd
          subst eA
          obtain ⟨i, hi⟩ : ∃ i, i = j + 1 := ⟨_, rfl⟩
          have f1 : (j : Int) + 1 = (i : Int) := by omega
          have f2 : IntKind.i64.wrap (i : Int) = (i : Int) := IntWalk.i64_in _ (by omega)
          have e1 : kids.take i = kids.take j ++ [d] := by rw [hi, List.take_add_one, List.getElem?_eq_getElem hlt, hdk]; rfl
          have hst : nodesO (kids.take i) space.data.toList = nodesO (kids.take j) space.data.toList ++ nodeO d space.data.toList := by rw [e1, nodesO_snoc]
          have hsum : wts (kids.take j) + wt d ≤ wts kids := by
            have h1 := wts_take kids i
            rw [e1, wts_snoc] at h1
            exact h1
          have hnl := nodesO_len (kids.take j) space.data.toList (by omega)
          have hokd : okN d := by rw [hdk]; exact okNs_get kids j hlt HOKK.out
          have hA1 : Below wr.heap.size wr (wr.alloc (.cells #[.int .i64 d.f0, .string d.f1.f0, .string d.f1.f1, .slice B3 d.f2.length d3, .slice B4 d.f3.length d4, .string d.f4] 27)) := (Below.refl _ _).alloc (Nat.le_refl _) _
          have hih := HIH.out d (by rw [HW.out]; omega) hokd space (bs2 ++ [62] ++ nodesO (kids.take j) space.data.toList) _ B3 B4 d3 d4 (hp.below hA1) (hb0.alloc hb0.size _) (by simp only [List.length_append, List.length_cons, List.length_nil]; omega) C3 l3 C4 l4 (by omega)
          have HIH2 := Aside0.mk hih
          have HST := Aside0.mk hst
          have HA1 := Aside0.mk hA1
          have HI' := Aside0.mk hi
          clear hih hst hA1 hi e1 hdk C3 C4 hp hb0 hfr hokd
          go_wp2_with fail
          refine HIH2.out.mono ?_
          rintro e wc ⟨rfl, hpc, hbc, hfc⟩
          have HPC := Aside0.mk hpc
          have HBC := Aside0.mk hbc
          have HFC := Aside0.mk hfc
          clear hpc hbc hfc k0 k1 k2 k3 k4 k5
          go_wp2_with fail
          go_roundg (kids.length - i)
          · refine ⟨i, rfl, by have := HI'.out; omega, ⟨rfl⟩, ⟨?_, HBC.out, (HJ.out.2.2.alloc _).trans HFC.out⟩⟩
            rw [HST.out, ← List.append_assoc]
            exact HPC.out
          · have := HI'.out; have := HM.out; omega
        · have q1 := eq_false (show ¬ (j : Int) < (kids.length : Int) by omega)
          obtain rfl : j = kids.length := by omega
          have hJ := HJ.out
          rw [List.take_length] at hJ
          have HJ := Aside0.mk hJ
          have hnl := nodesO_len kids space.data.toList (by omega)
          have hT8 : (bs2 ++ [62] ++ nodesO kids space.data.toList).length + (cat [⟨#[60, 47]⟩, T, ⟨#[62]⟩]).length ≤ 100000000 := by
            have h1 := HTS.out
            have h2 := Lib.size_eq T
            simp only [cat, List.flatMap_cons, List.flatMap_nil, List.length_append, List.length_cons, List.length_nil]
            omega
          clear hJ
          go_wp2_with fail
          (with_reducible refine (put_new w0.heap.size b [⟨#[60, 47]⟩, T, ⟨#[62]⟩] (bs2 ++ [62] ++ nodesO kids space.data.toList) _ 3 wr.heap.size #[.string ⟨#[60, 47]⟩, .string T, .string ⟨#[62]⟩] HJ.out.1 rfl rfl rfl (by simp) hT8).mono ?_)
          rintro e wz ⟨rfl, hpz, hbz, hfz⟩
          have HPZ := Aside0.mk hpz
          have HBZ := Aside0.mk hbz
          have HFZ := Aside0.mk hfz
          clear hpz hbz hfz
          go_wp2_with fail
          go_end0
          refine ⟨rfl, ?_, HJ.out.2.1.trans HBZ.out, HJ.out.2.2.trans HFZ.out⟩
          have e := HPZ.out
          rw [HB2.out, HB1.out] at e
          rw [HFIN.out]
          cases kids with
          | nil => exact absurd rfl HKZ.out
          | cons dd rr => simpa [cat, bodyO, HTL.out] using e
  · have b1 := neL hX
    unfold sXML at b1
    by_cases hN : nm.f0.data.toList = space.data.toList
    · have b2 := eqS hN
      rw [if_neg hX, if_neg (fun c => c.2 hN), if_neg (fun c => c.2 hN)] at hfin
      have HFIN := Aside0.mk hfin
      have HTL : Aside0 (nm.f1.data.toList = nm.f1.data.toList) := ⟨rfl⟩
      have HTS : Aside0 (nm.f1.size ≤ 4 + nm.f1.size) := ⟨by omega⟩
      clear hfin hX hN
      go_enter Tryd.func35, Tryd.ntmps35
      go_wp2_with fail
      have hT9 : bs.length + (cat [⟨#[60]⟩, nm.f1]).length ≤ 100000000 := by
        have h2 := Lib.size_eq nm.f1
        simp only [cat, List.flatMap_cons, List.flatMap_nil, List.length_append, List.length_cons, List.length_nil]
        omega
      (with_reducible refine (put_new w0.heap.size b [⟨#[60]⟩, nm.f1] bs _ 2 (w.heap.size + 1) #[.string ⟨#[60]⟩, .string nm.f1] (HP.out.below (HBX.out _)) (by simp) rfl rfl (by simp) hT9).mono ?_)
      rintro e w1 ⟨rfl, hp1, hb1, hf1⟩
      have hk1 := hf1.cells (k := w.heap.size) (T := 27) (by omega) (by decide) (heap_alloc_last w _)
      have g1 : w1.cell? ⟨w.heap.size, 1, none⟩ = some (.string nm.f0) := by rw [Lib.cell_of_heap hk1]; rfl
      have g3 : w1.cell? ⟨w.heap.size, 3, none⟩ = some (.slice A3 at'.length c3) := by rw [Lib.cell_of_heap hk1]; rfl
      have H01 := Aside0.mk ((H0.out.alloc H0.out.size _).trans hb1)
      have HP1 := Aside0.mk hp1
      have HF1 := Aside0.mk ((Bld.Fr.below (b := b) (HBX.out _)).trans hf1)
      have HK1 := Aside0.mk hk1
      clear hp1 hb1 hf1 hk1
      go_wp2_with fail
      obtain ⟨bs1, hbs1⟩ : ∃ bs1, bs1 = bs ++ cat [⟨#[60]⟩, nm.f1] := ⟨_, rfl⟩
      have hbl : bs1.length ≤ bs.length + (5 + nm.f1.size + 9 + 6 * nm.f0.size) := by
        have h1 := HTS.out
        have h2 := Lib.size_eq nm.f1
        rw [hbs1]
        simp only [cat, List.flatMap_cons, List.flatMap_nil, List.length_append, List.length_cons, List.length_nil]
        omega
      have HPB : Aside0 (PD w0.heap.size b bs1 w1) := ⟨by rw [hbs1]; exact HP1.out⟩
      have hfinal : nodeO ⟨k, nm, at', kids, x⟩ space.data.toList = nodeO ⟨k, nm, at', kids, x⟩ space.data.toList := rfl
      have HB1 := Aside0.mk hbs1
      clear hbs1 hfinal
      refine (attrs_calls hS b A3 c3 at' bs1 w0 w1 HPB.out H01.out HT.out H3.out hc3 HAP.out (by omega) (by omega) (by omega)).mono ?_
      rintro e wa ⟨rfl, hpa, hba, hfa⟩
      have hka := hfa.cells (k := w.heap.size) (T := 27) (by omega) (by decide) HK1.out
      have g4 : wa.cell? ⟨w.heap.size, 4, none⟩ = some (.slice A4 kids.length c4) := by rw [Lib.cell_of_heap hka]; rfl
      obtain ⟨bs2, hbs2⟩ : ∃ bs2, bs2 = bs1 ++ attrsO (srt at') := ⟨_, rfl⟩
      have hbl2 : bs2.length ≤ bs.length + (14 + nm.f1.size + 6 * nm.f0.size) + 80 * wAs at' := by rw [hbs2, List.length_append]; omega
      have HPA : Aside0 (PD w0.heap.size b bs2 wa) := ⟨by rw [hbs2]; exact hpa⟩
      have HB2 := Aside0.mk hbs2
      have HBA := Aside0.mk hba
      have HFA := Aside0.mk (HF1.out.trans hfa)
      have HKA := Aside0.mk hka
      clear hpa hba hfa hka hbs2 g1 g3
      by_cases hkz : kids = []
      · subst hkz
        go_wp2_with fail
        (with_reducible refine (put_new w0.heap.size b [⟨#[47, 62]⟩] bs2 _ 1 wa.heap.size #[.string ⟨#[47, 62]⟩] HPA.out rfl rfl rfl (by simp) (by simp [cat]; omega)).mono ?_)
        rintro e wz ⟨rfl, hpz, hbz, hfz⟩
        have HPZ := Aside0.mk hpz
        have HBZ := Aside0.mk hbz
        have HFZ := Aside0.mk hfz
        clear hpz hbz hfz
        go_wp2_with fail
        refine bodyPost_ret (v := .tuple #[]) (by simp [results, Tryd.results35, go_sem]) rfl ⟨rfl, ?_, HBA.out.trans HBZ.out, HFA.out.trans HFZ.out⟩
        have e := HPZ.out
        rw [HB2.out, HB1.out] at e
        rw [HFIN.out]
        simpa [cat, bodyO, HTL.out] using e
      · have z1 : ((kids.length : Int) == 0) = false := by
          have := List.length_pos_iff.2 hkz
          simp
          exact hkz
        have z2 : (kids.length == 0) = false := by simpa using hkz
        have HKZ := Aside0.mk hkz
        clear hkz
        go_wp2_with fail
        (with_reducible refine (put_new w0.heap.size b [⟨#[62]⟩] bs2 _ 1 wa.heap.size #[.string ⟨#[62]⟩] HPA.out rfl rfl rfl (by simp) (by simp [cat]; omega)).mono ?_)
        rintro e wb ⟨rfl, hpb, hbb, hfb⟩
        have hkb := hfb.cells (k := w.heap.size) (T := 27) (by omega) (by decide) HKA.out
        have g4' : wb.cell? ⟨w.heap.size, 4, none⟩ = some (.slice A4 kids.length c4) := by rw [Lib.cell_of_heap hkb]; rfl
        have HPB2 : Aside0 (PD w0.heap.size b (bs2 ++ [62]) wb) := ⟨by simpa [cat] using hpb⟩
        have HBB := Aside0.mk (HBA.out.trans hbb)
        have HFB := Aside0.mk (HFA.out.trans hfb)
        clear hpb hbb hfb hkb g4
        go_wp2_with fail
        go_loopg [65] kids.length (fun m v65 wr => ∃ j : Nat, v65 = .int .i64 (j : Int) ∧ j ≤ kids.length ∧ Aside0 (m = kids.length - j) ∧ Aside0 (PD w0.heap.size b (bs2 ++ [62] ++ nodesO (kids.take j) space.data.toList) wr ∧ Below w0.heap.size w0 wr ∧ Bld.Fr b w wr))
        case atStart => exact ⟨0, rfl, Nat.zero_le _, ⟨rfl⟩, ⟨by simpa [nodesO] using HPB2.out, HBB.out, HFB.out⟩⟩
        case round =>
          obtain ⟨j, rfl, hj, HM, HJ⟩ := hrel
          by_cases hlt : j < kids.length
          · obtain ⟨hp, hb0, hfr⟩ := HJ.out
            obtain ⟨ad, B3, d3, B4, d4, eA, k0, k1, k2, k3, k4, k5, l3, C3, l4, C4⟩ := atNd H4.out (j : Int) (by omega) (by omega)
            have q1 := eq_true (show (j : Int) < (kids.length : Int) by omega)
            have q2 := eq_true (show (0 : Int) ≤ (j : Int) by omega)
            obtain ⟨d, hd⟩ : ∃ d, d = rdNd kids (j : Int) := ⟨_, rfl⟩
            rw [← hd] at k0 k1 k2 k3 k4 k5 l3 C3 l4 C4
            simp only [Int.toNat_natCast] at k0 k1 k2 k3 k4 k5
            have k0 := pw_cell_below hb0 k0
            have k1 := pw_cell_below hb0 k1
            have k2 := pw_cell_below hb0 k2
            have k3 := pw_cell_below hb0 k3
            have k4 := pw_cell_below hb0 k4
            have k5 := pw_cell_below hb0 k5
            have hdk : d = kids[j] := by rw [hd]; simp [rdNd, hlt]
            clear hd
            subst eA
            obtain ⟨i, hi⟩ : ∃ i, i = j + 1 := ⟨_, rfl⟩
            have f1 : (j : Int) + 1 = (i : Int) := by omega
            have f2 : IntKind.i64.wrap (i : Int) = (i : Int) := IntWalk.i64_in _ (by omega)
            have e1 : kids.take i = kids.take j ++ [d] := by rw [hi, List.take_add_one, List.getElem?_eq_getElem hlt, hdk]; rfl
            have hst : nodesO (kids.take i) space.data.toList = nodesO (kids.take j) space.data.toList ++ nodeO d space.data.toList := by rw [e1, nodesO_snoc]
            have hsum : wts (kids.take j) + wt d ≤ wts kids := by
              have h1 := wts_take kids i
              rw [e1, wts_snoc] at h1
              exact h1
            have hnl := nodesO_len (kids.take j) space.data.toList (by omega)
            have hokd : okN d := by rw [hdk]; exact okNs_get kids j hlt HOKK.out
            have hA1 : Below wr.heap.size wr (wr.alloc (.cells #[.int .i64 d.f0, .string d.f1.f0, .string d.f1.f1, .slice B3 d.f2.length d3, .slice B4 d.f3.length d4, .string d.f4] 27)) := (Below.refl _ _).alloc (Nat.le_refl _) _
            have hih := HIH.out d (by rw [HW.out]; omega) hokd space (bs2 ++ [62] ++ nodesO (kids.take j) space.data.toList) _ B3 B4 d3 d4 (hp.below hA1) (hb0.alloc hb0.size _) (by simp only [List.length_append, List.length_cons, List.length_nil]; omega) C3 l3 C4 l4 (by omega)
            have HIH2 := Aside0.mk hih
            have HST := Aside0.mk hst
            have HA1 := Aside0.mk hA1
            have HI' := Aside0.mk hi
            clear hih hst hA1 hi e1 hdk C3 C4 hp hb0 hfr hokd
            go_wp2_with fail
            refine HIH2.out.mono ?_
            rintro e wc ⟨rfl, hpc, hbc, hfc⟩
            have HPC := Aside0.mk hpc
            have HBC := Aside0.mk hbc
            have HFC := Aside0.mk hfc
            clear hpc hbc hfc k0 k1 k2 k3 k4 k5
            go_wp2_with fail
            go_roundg (kids.length - i)
            · refine ⟨i, rfl, by have := HI'.out; omega, ⟨rfl⟩, ⟨?_, HBC.out, (HJ.out.2.2.alloc _).trans HFC.out⟩⟩
              rw [HST.out, ← List.append_assoc]
              exact HPC.out
            · have := HI'.out; have := HM.out; omega
          · have q1 := eq_false (show ¬ (j : Int) < (kids.length : Int) by omega)
            obtain rfl : j = kids.length := by omega
            have hJ := HJ.out
            rw [List.take_length] at hJ
            have HJ := Aside0.mk hJ
            have hnl := nodesO_len kids space.data.toList (by omega)
            have hT8 : (bs2 ++ [62] ++ nodesO kids space.data.toList).length + (cat [⟨#[60, 47]⟩, nm.f1, ⟨#[62]⟩]).length ≤ 100000000 := by
              have h1 := HTS.out
              have h2 := Lib.size_eq nm.f1
              simp only [cat, List.flatMap_cons, List.flatMap_nil, List.length_append, List.length_cons, List.length_nil]
              omega
            clear hJ
            go_wp2_with fail
            (with_reducible refine (put_new w0.heap.size b [⟨#[60, 47]⟩, nm.f1, ⟨#[62]⟩] (bs2 ++ [62] ++ nodesO kids space.data.toList) _ 3 wr.heap.size #[.string ⟨#[60, 47]⟩, .string nm.f1, .string ⟨#[62]⟩] HJ.out.1 rfl rfl rfl (by simp) hT8).mono ?_)
            rintro e wz ⟨rfl, hpz, hbz, hfz⟩
            have HPZ := Aside0.mk hpz
            have HBZ := Aside0.mk hbz
            have HFZ := Aside0.mk hfz
            clear hpz hbz hfz
            go_wp2_with fail
            go_end0
            refine ⟨rfl, ?_, HJ.out.2.1.trans HBZ.out, HJ.out.2.2.trans HFZ.out⟩
            have e := HPZ.out
            rw [HB2.out, HB1.out] at e
            rw [HFIN.out]
            cases kids with
            | nil => exact absurd rfl HKZ.out
            | cons dd rr => simpa [cat, bodyO, HTL.out] using e
    · have b2 := neS hN
      rw [if_neg hX, if_pos ⟨hX, hN⟩, if_pos ⟨hX, hN⟩] at hfin
      have HFIN := Aside0.mk hfin
      have HTL : Aside0 (nm.f1.data.toList = nm.f1.data.toList) := ⟨rfl⟩
      have HTS : Aside0 (nm.f1.size ≤ 4 + nm.f1.size) := ⟨by omega⟩
      clear hfin hX hN
      go_enter Tryd.func35, Tryd.ntmps35
      go_wp2_with fail
      have hT9 : bs.length + (cat [⟨#[60]⟩, nm.f1]).length ≤ 100000000 := by
        have h2 := Lib.size_eq nm.f1
        simp only [cat, List.flatMap_cons, List.flatMap_nil, List.length_append, List.length_cons, List.length_nil]
        omega
      (with_reducible refine (put_new w0.heap.size b [⟨#[60]⟩, nm.f1] bs _ 2 (w.heap.size + 1) #[.string ⟨#[60]⟩, .string nm.f1] (HP.out.below (HBX.out _)) (by simp) rfl rfl (by simp) hT9).mono ?_)
      rintro e w1 ⟨rfl, hp1, hb1, hf1⟩
      have hk1 := hf1.cells (k := w.heap.size) (T := 27) (by omega) (by decide) (heap_alloc_last w _)
      have g1 : w1.cell? ⟨w.heap.size, 1, none⟩ = some (.string nm.f0) := by rw [Lib.cell_of_heap hk1]; rfl
      have g3 : w1.cell? ⟨w.heap.size, 3, none⟩ = some (.slice A3 at'.length c3) := by rw [Lib.cell_of_heap hk1]; rfl
      have H01 := Aside0.mk ((H0.out.alloc H0.out.size _).trans hb1)
      have HP1 := Aside0.mk hp1
      have HF1 := Aside0.mk ((Bld.Fr.below (b := b) (HBX.out _)).trans hf1)
      have HK1 := Aside0.mk hk1
      clear hp1 hb1 hf1 hk1
      go_wp2_with fail
      have hT7 : (bs ++ cat [⟨#[60]⟩, nm.f1]).length ≤ 90000000 := by
        have h2 := Lib.size_eq nm.f1
        simp only [cat, List.flatMap_cons, List.flatMap_nil, List.length_append, List.length_cons, List.length_nil]
        omega
      have hbw1 := HP1.out.lt
      have hB1 := H01.out.size
      refine (attr_calls w0.heap.size b _ nm.f0 (bs ++ cat [⟨#[60]⟩, nm.f1]) w1 HP1.out hbw1 hB1 (Refs.tens_below HT.out H01.out) (by omega) (by decide) hT7).mono ?_
      rintro e w2 ⟨rfl, hp2, hb2, hf2⟩
      have hk2 := hf2.cells (k := w.heap.size) (T := 27) (by omega) (by decide) HK1.out
      have g3' : w2.cell? ⟨w.heap.size, 3, none⟩ = some (.slice A3 at'.length c3) := by rw [Lib.cell_of_heap hk2]; rfl
      have H02 := Aside0.mk (H01.out.trans hb2)
      have HP2 := Aside0.mk hp2
      have HF2 := Aside0.mk (HF1.out.trans hf2)
      have HK2 := Aside0.mk hk2
      clear hp2 hb2 hf2 hk2 g1 g3
      go_wp2_with fail
      obtain ⟨bs1, hbs1⟩ : ∃ bs1, bs1 = bs ++ cat [⟨#[60]⟩, nm.f1] ++ attrO sXmlns nm.f0.data.toList := ⟨_, rfl⟩
      have hbl : bs1.length ≤ bs.length + (5 + nm.f1.size + 9 + 6 * nm.f0.size) := by
        have h1 := HTS.out
        have h2 := Lib.size_eq nm.f1
        rw [hbs1]
        simp only [cat, List.flatMap_cons, List.flatMap_nil, List.length_append, List.length_cons, List.length_nil]
        omega
      have HPB : Aside0 (PD w0.heap.size b bs1 w2) := ⟨by rw [hbs1]; exact HP2.out⟩
      have hfinal : nodeO ⟨k, nm, at', kids, x⟩ space.data.toList = nodeO ⟨k, nm, at', kids, x⟩ space.data.toList := rfl
      have HB1 := Aside0.mk hbs1
      clear hbs1 hfinal
      refine (attrs_calls hS b A3 c3 at' bs1 w0 w2 HPB.out H02.out HT.out H3.out hc3 HAP.out (by omega) (by omega) (by omega)).mono ?_
      rintro e wa ⟨rfl, hpa, hba, hfa⟩
      have hka := hfa.cells (k := w.heap.size) (T := 27) (by omega) (by decide) HK2.out
      have g4 : wa.cell? ⟨w.heap.size, 4, none⟩ = some (.slice A4 kids.length c4) := by rw [Lib.cell_of_heap hka]; rfl
      obtain ⟨bs2, hbs2⟩ : ∃ bs2, bs2 = bs1 ++ attrsO (srt at') := ⟨_, rfl⟩
      have hbl2 : bs2.length ≤ bs.length + (14 + nm.f1.size + 6 * nm.f0.size) + 80 * wAs at' := by rw [hbs2, List.length_append]; omega
      have HPA : Aside0 (PD w0.heap.size b bs2 wa) := ⟨by rw [hbs2]; exact hpa⟩
      have HB2 := Aside0.mk hbs2
      have HBA := Aside0.mk hba
      have HFA := Aside0.mk (HF2.out.trans hfa)
      have HKA := Aside0.mk hka
      clear hpa hba hfa hka hbs2 g3'
      by_cases hkz : kids = []
      · subst hkz
        go_wp2_with fail
        (with_reducible refine (put_new w0.heap.size b [⟨#[47, 62]⟩] bs2 _ 1 wa.heap.size #[.string ⟨#[47, 62]⟩] HPA.out rfl rfl rfl (by simp) (by simp [cat]; omega)).mono ?_)
        rintro e wz ⟨rfl, hpz, hbz, hfz⟩
        have HPZ := Aside0.mk hpz
        have HBZ := Aside0.mk hbz
        have HFZ := Aside0.mk hfz
        clear hpz hbz hfz
        go_wp2_with fail
        refine bodyPost_ret (v := .tuple #[]) (by simp [results, Tryd.results35, go_sem]) rfl ⟨rfl, ?_, HBA.out.trans HBZ.out, HFA.out.trans HFZ.out⟩
        have e := HPZ.out
        rw [HB2.out, HB1.out] at e
        rw [HFIN.out]
        simpa [cat, bodyO, HTL.out] using e
      · have z1 : ((kids.length : Int) == 0) = false := by
          have := List.length_pos_iff.2 hkz
          simp
          exact hkz
        have z2 : (kids.length == 0) = false := by simpa using hkz
        have HKZ := Aside0.mk hkz
        clear hkz
        go_wp2_with fail
        (with_reducible refine (put_new w0.heap.size b [⟨#[62]⟩] bs2 _ 1 wa.heap.size #[.string ⟨#[62]⟩] HPA.out rfl rfl rfl (by simp) (by simp [cat]; omega)).mono ?_)
        rintro e wb ⟨rfl, hpb, hbb, hfb⟩
        have hkb := hfb.cells (k := w.heap.size) (T := 27) (by omega) (by decide) HKA.out
        have g4' : wb.cell? ⟨w.heap.size, 4, none⟩ = some (.slice A4 kids.length c4) := by rw [Lib.cell_of_heap hkb]; rfl
        have HPB2 : Aside0 (PD w0.heap.size b (bs2 ++ [62]) wb) := ⟨by simpa [cat] using hpb⟩
        have HBB := Aside0.mk (HBA.out.trans hbb)
        have HFB := Aside0.mk (HFA.out.trans hfb)
        clear hpb hbb hfb hkb g4
        go_wp2_with fail
        go_loopg [65] kids.length (fun m v65 wr => ∃ j : Nat, v65 = .int .i64 (j : Int) ∧ j ≤ kids.length ∧ Aside0 (m = kids.length - j) ∧ Aside0 (PD w0.heap.size b (bs2 ++ [62] ++ nodesO (kids.take j) nm.f0.data.toList) wr ∧ Below w0.heap.size w0 wr ∧ Bld.Fr b w wr))
        case atStart => exact ⟨0, rfl, Nat.zero_le _, ⟨rfl⟩, ⟨by simpa [nodesO] using HPB2.out, HBB.out, HFB.out⟩⟩
        case round =>
          obtain ⟨j, rfl, hj, HM, HJ⟩ := hrel
          by_cases hlt : j < kids.length
          · obtain ⟨hp, hb0, hfr⟩ := HJ.out
            obtain ⟨ad, B3, d3, B4, d4, eA, k0, k1, k2, k3, k4, k5, l3, C3, l4, C4⟩ := atNd H4.out (j : Int) (by omega) (by omega)
            have q1 := eq_true (show (j : Int) < (kids.length : Int) by omega)
            have q2 := eq_true (show (0 : Int) ≤ (j : Int) by omega)
            obtain ⟨d, hd⟩ : ∃ d, d = rdNd kids (j : Int) := ⟨_, rfl⟩
            rw [← hd] at k0 k1 k2 k3 k4 k5 l3 C3 l4 C4
            simp only [Int.toNat_natCast] at k0 k1 k2 k3 k4 k5
            have k0 := pw_cell_below hb0 k0
            have k1 := pw_cell_below hb0 k1
            have k2 := pw_cell_below hb0 k2
            have k3 := pw_cell_below hb0 k3
            have k4 := pw_cell_below hb0 k4
            have k5 := pw_cell_below hb0 k5
            have hdk : d = kids[j] := by rw [hd]; simp [rdNd, hlt]
            clear hd
            subst eA
            obtain ⟨i, hi⟩ : ∃ i, i = j + 1 := ⟨_, rfl⟩
            have f1 : (j : Int) + 1 = (i : Int) := by omega
            have f2 : IntKind.i64.wrap (i : Int) = (i : Int) := IntWalk.i64_in _ (by omega)
            have e1 : kids.take i = kids.take j ++ [d] := by rw [hi, List.take_add_one, List.getElem?_eq_getElem hlt, hdk]; rfl
            have hst : nodesO (kids.take i) nm.f0.data.toList = nodesO (kids.take j) nm.f0.data.toList ++ nodeO d nm.f0.data.toList := by rw [e1, nodesO_snoc]
            have hsum : wts (kids.take j) + wt d ≤ wts kids := by
              have h1 := wts_take kids i
              rw [e1, wts_snoc] at h1
              exact h1
            have hnl := nodesO_len (kids.take j) nm.f0.data.toList (by omega)
            have hokd : okN d := by rw [hdk]; exact okNs_get kids j hlt HOKK.out
            have hA1 : Below wr.heap.size wr (wr.alloc (.cells #[.int .i64 d.f0, .string d.f1.f0, .string d.f1.f1, .slice B3 d.f2.length d3, .slice B4 d.f3.length d4, .string d.f4] 27)) := (Below.refl _ _).alloc (Nat.le_refl _) _
            have hih := HIH.out d (by rw [HW.out]; omega) hokd nm.f0 (bs2 ++ [62] ++ nodesO (kids.take j) nm.f0.data.toList) _ B3 B4 d3 d4 (hp.below hA1) (hb0.alloc hb0.size _) (by simp only [List.length_append, List.length_cons, List.length_nil]; omega) C3 l3 C4 l4 (by omega)
            have HIH2 := Aside0.mk hih
            have HST := Aside0.mk hst
            have HA1 := Aside0.mk hA1
            have HI' := Aside0.mk hi
            clear hih hst hA1 hi e1 hdk C3 C4 hp hb0 hfr hokd
            go_wp2_with fail
            refine HIH2.out.mono ?_
            rintro e wc ⟨rfl, hpc, hbc, hfc⟩
            have HPC := Aside0.mk hpc
            have HBC := Aside0.mk hbc
            have HFC := Aside0.mk hfc
            clear hpc hbc hfc k0 k1 k2 k3 k4 k5
            go_wp2_with fail
            go_roundg (kids.length - i)
            · refine ⟨i, rfl, by have := HI'.out; omega, ⟨rfl⟩, ⟨?_, HBC.out, (HJ.out.2.2.alloc _).trans HFC.out⟩⟩
              rw [HST.out, ← List.append_assoc]
              exact HPC.out
            · have := HI'.out; have := HM.out; omega
          · have q1 := eq_false (show ¬ (j : Int) < (kids.length : Int) by omega)
            obtain rfl : j = kids.length := by omega
            have hJ := HJ.out
            rw [List.take_length] at hJ
            have HJ := Aside0.mk hJ
            have hnl := nodesO_len kids nm.f0.data.toList (by omega)
            have hT8 : (bs2 ++ [62] ++ nodesO kids nm.f0.data.toList).length + (cat [⟨#[60, 47]⟩, nm.f1, ⟨#[62]⟩]).length ≤ 100000000 := by
              have h1 := HTS.out
              have h2 := Lib.size_eq nm.f1
              simp only [cat, List.flatMap_cons, List.flatMap_nil, List.length_append, List.length_cons, List.length_nil]
              omega
            clear hJ
            go_wp2_with fail
            (with_reducible refine (put_new w0.heap.size b [⟨#[60, 47]⟩, nm.f1, ⟨#[62]⟩] (bs2 ++ [62] ++ nodesO kids nm.f0.data.toList) _ 3 wr.heap.size #[.string ⟨#[60, 47]⟩, .string nm.f1, .string ⟨#[62]⟩] HJ.out.1 rfl rfl rfl (by simp) hT8).mono ?_)
            rintro e wz ⟨rfl, hpz, hbz, hfz⟩
            have HPZ := Aside0.mk hpz
            have HBZ := Aside0.mk hbz
            have HFZ := Aside0.mk hfz
            clear hpz hbz hfz
            go_wp2_with fail
            go_end0
            refine ⟨rfl, ?_, HJ.out.2.1.trans HBZ.out, HJ.out.2.2.trans HFZ.out⟩
            have e := HPZ.out
            rw [HB2.out, HB1.out] at e
            rw [HFIN.out]
            cases kids with
            | nil => exact absurd rfl HKZ.out
            | cons dd rr => simpa [cat, bodyO, HTL.out] using e
set_option maxHeartbeats 1000000 in
theorem node_calls (hS : SortedSaid) (b : Nat) (w0 : World) (ht : Refs.Tens w0) : ∀ (N : Nat) (n : Nd), wt n ≤ N → N ≤ 100000 → okN n → ∀ (space : ByteArray) (bs : L) (w : World) (A3 A4 : Option Addr) (c3 c4 : Nat), PD w0.heap.size b bs w → Below w0.heap.size w0 w → bs.length + 80 * wt n ≤ 80000000 →
      kAt.C w0 A3 n.f2.length n.f2 → n.f2.length ≤ c3 → kNd.C w0 A4 n.f3.length n.f3 → n.f3.length ≤ c4 → space.size ≤ 900000 →
      Calls Tryd.prog 35 #[.pointer (some ⟨b, 0, none⟩), .agg #[.int .i64 n.f0, .string n.f1.f0, .string n.f1.f1, .slice A3 n.f2.length c3, .slice A4 n.f3.length c4, .string n.f4], .string space] w fun e w' => e = .returned (.tuple #[]) ∧ PD w0.heap.size b (bs ++ nodeO n space.data.toList) w' ∧ Below w0.heap.size w0 w' ∧ Bld.Fr b w w' := by
  intro N
  induction N with
  | zero => intro n h; obtain ⟨k, nm, t, c, x⟩ := n; unfold wt at h; omega
  | succ N ih =>
    intro n h hN hok space bs w A3 A4 c3 c4 hp h0 hz h3 l3 h4 l4 hs
    by_cases hk : n.f0 = 2
    · refine node_text n space b bs w0 w A3 A4 c3 c4 hk hp h0 ht hz ?_
      obtain ⟨k, nm, t, c, x⟩ := n
      unfold wt at h
      show x.size ≤ _
      omega
    · exact node_elem hS n space b bs w0 w A3 A4 c3 c4 hk hp h0 ht hz (by omega) hok h3 l3 h4 l4 hs (fun d hd hokd sp bs' w' B3 B4 d3 d4 hp' h0' hz' C3 e3 C4 e4 hs' => ih d (by omega) (by omega) hokd sp bs' w' B3 B4 d3 d4 hp' h0' hz' C3 e3 C4 e4 hs')
end Go.Proofs.YtffpbhbiamkkpaaDoor.Prt
