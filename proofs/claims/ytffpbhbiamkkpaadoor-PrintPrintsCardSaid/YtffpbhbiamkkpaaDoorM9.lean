/- print's printer: put. -/
import Derived.Test.YtffpbhbiamkkpaaDoorEsc
import Derived.Test.YtffpbhbiamkkpaaDoorM4
import Derived.Test.YtffpbhbiamkkpaaDoorM7
import Derived.Test.YtffpbhbiamkkpaaDoorM1
namespace Go.Proofs.YtffpbhbiamkkpaaDoor.Prt
open Go.RowKit Go.Proofs.YtffpbhbiamkkpaaDoorW.PrintWords Go.Proofs.YtffpbhbiamkkpaaDoorW.PrintLast Go.Proofs.YtffpbhbiamkkpaaDoorW.PrintMore
set_option linter.unusedVariables false
theorem home_printer : Bld.Home 73 := ⟨by decide, by kernel_rfl⟩
abbrev PD (B b : Nat) (l : List UInt8) (w : World) : Prop := Lib.IsBuilder 73 5 B b (Lib.byteCells l) w
def cat (l : List ByteArray) : List UInt8 := l.flatMap fun s => s.data.toList
set_option maxHeartbeats 2000000 in
set_option maxRecDepth 100000 in
theorem put_calls (B b sb so cap : Nat) (l : List ByteArray) (bs : List UInt8) (cs : Array Value) (z : Nat × Nat) (w : World) (h : PD B b bs w) (hB : B ≤ w.heap.size)
    (hl : l.length ≤ 1000) (hz : bs.length + (cat l).length ≤ 100000000) (hsb : sb ≠ b) (hblk : w.heap[sb]? = some (.cells cs 9 z)) (hcell : ∀ k (h : k < l.length), w.cell? ⟨sb, so + k, none⟩ = some (.string l[k])) :
    Calls Tryd.prog 66 #[.pointer (some ⟨b, 0, none⟩), .slice (some ⟨sb, so, none⟩) l.length cap] w fun e w' => e = .returned (.tuple #[]) ∧ PD B b (bs ++ cat l) w' ∧ Below B w w' ∧ Bld.Fr b w w' := by
  have HD := Aside0.mk h
  have HC := Aside0.mk hcell
  have HK := Aside0.mk hblk
  clear h hcell hblk
  go_enter Tryd.func66, Tryd.ntmps66
  go_wp2
  go_loopg [8] l.length (fun m v8 wr => ∃ i : Nat, v8 = .int .i64 (i : Int) ∧ i ≤ l.length ∧ Aside0 (m = l.length - i) ∧ Aside0 (PD B b (bs ++ cat (l.take i)) wr) ∧ Aside0 (Below B w wr) ∧ Aside0 (Bld.Fr b w wr))
  case atStart => exact ⟨0, rfl, Nat.zero_le _, ⟨rfl⟩, ⟨by simpa [cat] using HD.out⟩, ⟨Below.refl _ _⟩, ⟨Bld.Fr.refl _ _⟩⟩
  case round =>
    obtain ⟨i, rfl, hi, HM, HP, HB, HF⟩ := hrel
    by_cases hlt : i < l.length
    · have q1 := eq_true (show (i : Int) < (l.length : Int) by omega)
      have q2 := eq_true (show (0 : Int) ≤ (i : Int) by omega)
      have hblk := HF.out.cells hsb (by decide) HK.out
      obtain ⟨s, hs⟩ : ∃ s, s = l[i] := ⟨_, rfl⟩
      have hc : wr.cell? ⟨sb, so + i, none⟩ = some (.string s) := by
        rw [hs, ← HC.out i hlt]
        exact (Lib.cell_of_heap hblk _).trans (Lib.cell_of_heap HK.out _).symm
      obtain ⟨j, hj⟩ : ∃ j, j = i + 1 := ⟨_, rfl⟩
      have f1 : (i : Int) + 1 = (j : Int) := by omega
      have f2 : IntKind.i64.wrap (j : Int) = (j : Int) := IntWalk.i64_in _ (by omega)
      have hcat : cat (l.take j) = cat (l.take i) ++ s.data.toList := by
        unfold cat
        rw [hj, List.take_add_one, List.getElem?_eq_getElem hlt, List.flatMap_append, hs]
        simp only [Option.toList_some, List.flatMap_cons, List.flatMap_nil, List.append_nil]
      have HH := Aside0.mk hcat
      have hle : (cat (l.take i)).length + s.size ≤ (cat l).length := by
        have e : cat l = cat (l.take j) ++ cat (l.drop j) := by unfold cat; rw [← List.flatMap_append, List.take_append_drop]
        have := congrArg List.length e
        rw [hcat] at this
        simp only [List.length_append, ← Lib.size_eq] at this
        omega
      have HL := Aside0.mk hle
      have HJ := Aside0.mk hj
      clear hs hj hcat hle hblk
      go_wp2_with (go_at_call 40; (with_reducible refine (Bld.writeString2 73 home_printer B b (Lib.byteCells (bs ++ cat (l.take i))) s _ HP.out (by have := HL.out; simp only [Lib.byteCells, List.length_map, List.length_append]; omega) (Nat.le_trans hB HB.out.size)).mono ?_); rintro e w2 ⟨rfl, hd, hb2, hf2⟩)
      go_roundg (l.length - j)
      · refine ⟨j, rfl, by have := HJ.out; omega, ⟨rfl⟩, ⟨Or.inr ?_⟩, ⟨HB.out.trans hb2⟩, ⟨HF.out.trans hf2⟩⟩
        rw [HH.out, ← List.append_assoc, PL.lex_Unescape_cells]
        exact hd
      · have := HJ.out; have := HM.out; omega
    · have q1 := eq_false (show ¬ (i : Int) < (l.length : Int) by omega)
      obtain rfl : i = l.length := by omega
      have HQ := HP.out
      rw [List.take_length] at HQ
      have HP := Aside0.mk HQ
      clear HQ
      go_wp2
      go_end0
      exact ⟨rfl, HP.out, HB.out, HF.out⟩
/-- An attribute's bytes. -/
def attrO (name value : List UInt8) : List UInt8 := 32 :: name ++ [61, 34] ++ Esc.esc true value ++ [34]
theorem PD.below {B b : Nat} {l : List UInt8} {w w' : World} (h : PD B b l w) (hb : Below w.heap.size w w') : PD B b l w' := by
  have go : ∀ p, Lib.BuilderAt 73 5 B b p (Lib.byteCells l) w → Lib.BuilderAt 73 5 B b p (Lib.byteCells l) w' := by
    rintro p ⟨h0, v, h1, h2, h3⟩
    exact ⟨h0, v, (hb.block b (blk_lt h1)).trans h1, pw_own_below h2 hb, h3⟩
  rcases h with h | h
  · exact Or.inl (go _ h)
  · exact Or.inr (go _ h)
theorem PD.lt {B b : Nat} {l : List UInt8} {w : World} (h : PD B b l w) : b < w.heap.size := by
  rcases h with ⟨_, v, h1, _⟩ | ⟨_, v, h1, _⟩ <;> exact blk_lt h1
theorem PD.base {B b : Nat} {l : List UInt8} {w : World} (h : PD B b l w) : B ≤ b := by
  rcases h with ⟨h1, _⟩ | ⟨h1, _⟩ <;> exact h1
/-- put of texts that stand in a slice that has just been made. -/
theorem yi5 (B b : Nat) (l : List ByteArray) (bs : List UInt8) (w : World) (n H : Nat) (cs : Array Value) (h : PD B b bs w) (hH : H = w.heap.size) (hn : n = l.length) (hcs : cs = (l.map Value.string).toArray)
    (hl : l.length ≤ 1000) (hz : bs.length + (cat l).length ≤ 100000000) :
    Calls Tryd.prog 66 #[.pointer (some ⟨b, 0, none⟩), .slice (some ⟨H, 0, none⟩) n n] (w.alloc (.cells cs 9)) fun e w' => e = .returned (.tuple #[]) ∧ PD B b (bs ++ cat l) w' ∧ Below B w w' ∧ Bld.Fr b w w' := by
  subst hn hcs hH
  have hb := h.lt
  have hB := h.base
  have hA : Below w.heap.size w (w.alloc (.cells (l.map Value.string).toArray 9)) := (Below.refl _ _).alloc (Nat.le_refl _) _
  refine (put_calls B b w.heap.size 0 l.length l bs _ (0, 0) _ (h.below hA) (by have := hA.size; omega) hl hz (by omega) (heap_alloc_last w _) ?_).mono ?_
  · intro k hk
    rw [Lib.cell_of_heap (heap_alloc_last w _)]
    simp [hk]
  · rintro e w' ⟨he, hd, hbl, hf⟩
    exact ⟨he, hd, (hA.mono (by omega)).trans hbl, (Bld.Fr.below hA).trans hf⟩
set_option maxHeartbeats 2000000 in
set_option maxRecDepth 100000 in
theorem yo8 (B b : Nat) (name value : ByteArray) (bs : List UInt8) (w : World) (h : PD B b bs w) (hbw : b < w.heap.size) (hB : B ≤ w.heap.size) (ht : Refs.Tens w) (hs : value.size ≤ 900000) (hn : name.size ≤ 900000) (hz : bs.length ≤ 90000000) :
    Calls Tryd.prog 67 #[.pointer (some ⟨b, 0, none⟩), .string name, .string value] w fun e w' => e = .returned (.tuple #[]) ∧ PD B b (bs ++ attrO name.data.toList value.data.toList) w' ∧ Below B w w' ∧ Bld.Fr b w w' := by
  have HD := Aside0.mk h
  have HT := Aside0.mk ht
  have hl := Esc.yj8 true value.data.toList
  rw [← Lib.size_eq] at hl
  obtain ⟨E, hE⟩ : ∃ E, E = Esc.esc true value.data.toList := ⟨_, rfl⟩
  rw [← hE] at hl
  have HE := Aside0.mk hE
  clear h ht hE
  go_enter Tryd.func67, Tryd.ntmps67
  go_wp2_with fail
  refine (Esc.yi8 value true w HT.out hs).mono ?_
  rintro e w1 ⟨rfl, hb1⟩
  rw [← HE.out]
  have HB1 := Aside0.mk hb1
  clear hb1
  go_wp2_with fail
  refine (yi5 B b [⟨#[32]⟩, name, ⟨#[61, 34]⟩, ⟨E.toArray⟩, ⟨#[34]⟩] bs w1 5 _ _ (HD.out.below HB1.out) rfl rfl rfl (by simp) (by simp [cat]; omega)).mono ?_
  rintro e w2 ⟨rfl, hd, hb2, hf2⟩
  go_wp2
  go_end0
  refine ⟨rfl, ?_, (HB1.out.mono hB).trans hb2, (Bld.Fr.below HB1.out).trans hf2⟩
  have e : cat [⟨#[32]⟩, name, ⟨#[61, 34]⟩, ⟨E.toArray⟩, ⟨#[34]⟩] = attrO name.data.toList value.data.toList := by
    unfold attrO cat
    rw [← HE.out]
    simp
  rw [← e]
  exact hd
end Go.Proofs.YtffpbhbiamkkpaaDoor.Prt
namespace Go.Proofs.YtffpbhbiamkkpaaDoor.Prt
open Go.RowKit Go.Proofs.YtffpbhbiamkkpaaDoor.ND
open Go.Maps (Keyed IsMap Tidy)
set_option linter.unusedVariables false
abbrev L := List UInt8
def sXML : L := [104, 116, 116, 112, 58, 47, 47, 119, 119, 119, 46, 119, 51, 46, 111, 114, 103, 47, 88, 77, 76, 47, 49, 57, 57, 56, 47, 110, 97, 109, 101, 115, 112, 97, 99, 101]
def sXmlC : L := [120, 109, 108, 58]
def sXmlns : L := [120, 109, 108, 110, 115]
def pos : List L → L → Option Nat
  | [], _ => none
  | a :: p, s => if a = s then some 0 else (pos p s).map (· + 1)
theorem yj3 : ∀ (p : List L) (s : L), s ∉ p → pos p s = none
  | [], _, _ => rfl
  | a :: p, s, h => by
    have h1 : ¬ a = s := fun e => h (by simp [e])
    unfold pos
    rw [if_neg h1, yj3 p s (fun k => h (by simp [k]))]
    rfl
theorem yk3 : ∀ (p : List L) (s : L), s ∈ p → ∃ i, pos p s = some i ∧ i < p.length
  | [], _, h => by simp at h
  | a :: p, s, h => by
    unfold pos
    by_cases e : a = s
    · exact ⟨0, by rw [if_pos e], by simp⟩
    · rcases List.mem_cons.1 h with h | h
      · exact absurd h.symm e
      · obtain ⟨i, h1, h2⟩ := yk3 p s h
        exact ⟨i + 1, by rw [if_neg e, h1]; rfl, by simp; omega⟩
theorem pos_snoc_old : ∀ (p : List L) (x s : L) (i : Nat), pos p s = some i → pos (p ++ [x]) s = some i
  | [], _, _, _, h => by simp [pos] at h
  | a :: p, x, s, i, h => by
    unfold pos at h
    rw [List.cons_append]
    unfold pos
    by_cases e : a = s
    · rw [if_pos e] at h ⊢; exact h
    · rw [if_neg e] at h ⊢
      obtain ⟨j, hj, rfl⟩ := Option.map_eq_some_iff.1 h
      rw [pos_snoc_old p x s j hj]
      rfl
theorem pos_snoc_new : ∀ (p : List L) (x : L), x ∉ p → pos (p ++ [x]) x = some p.length
  | [], x, _ => by simp [pos]
  | a :: p, x, h => by
    rw [List.cons_append]
    unfold pos
    rw [if_neg (fun e => h (by simp [e])), pos_snoc_new p x (fun k => h (by simp [k]))]
    rfl
/-- The prefix of a space, with its colon; none: it has none yet. -/
def prefOf (p : List L) (s : L) : Option L := if s = [] then some [] else if s = sXML then some sXmlC else (pos p s).map fun i => 110 :: Lib.itoa ((i : Int) + 1) ++ [58]
def spc (a : At) : L := a.f0.f0.data.toList
def loc (a : At) : L := a.f0.f1.data.toList
def yf1 (st : List L × L) (a : At) : List L × L :=
  if (prefOf st.1 (spc a)).isSome then st else (st.1 ++ [spc a], st.2 ++ attrO ([120, 109, 108, 110, 115, 58] ++ (110 :: Lib.itoa ((st.1.length : Int) + 1))) (spc a))
def decls (l : List At) : List L × L := l.foldl yf1 ([], [])
def attO (p : List L) (a : At) : L := attrO ((prefOf p (spc a)).getD [] ++ loc a) a.f1.data.toList
def attsO (p : List L) (l : List At) : L := l.flatMap (attO p)
/-- The attributes of an element, as they are written; l: rising. -/
def attrsO (l : List At) : L := (decls l).2 ++ attsO (decls l).1 l
theorem yo7 (l : List At) (a : At) : decls (l ++ [a]) = yf1 (decls l) a := by simp [decls]
theorem attsO_snoc (p : List L) (l : List At) (a : At) : attsO p (l ++ [a]) = attsO p l ++ attO p a := by simp [attsO]
mutual
def nodeO : Nd → L → L
  | ⟨k, n, t, c, x⟩, space =>
    if k = 2 then Esc.esc false x.data.toList else
    let sp := n.f0.data.toList
    let tag := if sp = sXML then sXmlC ++ n.f1.data.toList else n.f1.data.toList
    let ns := if sp ≠ sXML ∧ sp ≠ space then attrO sXmlns sp else []
    let space' := if sp ≠ sXML ∧ sp ≠ space then sp else space
    let head := 60 :: tag ++ ns ++ attrsO (srt t)
    match c with
    | [] => head ++ [47, 62]
    | d :: r => head ++ [62] ++ nodesO (d :: r) space' ++ ([60, 47] ++ tag ++ [62])
def nodesO : List Nd → L → L
  | [], _ => []
  | d :: r, space => nodeO d space ++ nodesO r space
end
/-- How a map of prefixes reads. -/
structure MRel (p : List L) (D : DataW Unit) : Prop where
  at_ : ∀ s : L, D.atKey (.string s) (.lit (.string [])) = .lit (.string ((prefOf p s).getD []))
  has_ : ∀ s : L, Maps.has D (.string s) = (prefOf p s).isSome
  size_ : Maps.size D = 2 + p.length
theorem prefOf_snoc (p : List L) (x s : L) (hx : prefOf p x = none) : prefOf (p ++ [x]) s = if s = x then some (110 :: Lib.itoa ((p.length : Int) + 1) ++ [58]) else prefOf p s := by
  unfold prefOf at hx ⊢
  by_cases e0 : x = []
  · simp [e0] at hx
  by_cases e1 : x = sXML
  · rw [if_neg e0, if_pos e1] at hx; simp at hx
  rw [if_neg e0, if_neg e1] at hx
  have hp : pos p x = none := by
    cases h : pos p x with
    | none => rfl
    | some i => rw [h] at hx; simp at hx
  have hm : x ∉ p := fun h => by
    obtain ⟨i, hi, _⟩ := yk3 p x h
    rw [hp] at hi
    cases hi
  by_cases e : s = x
  · subst e
    rw [if_pos rfl, if_neg e0, if_neg e1, pos_snoc_new p s hm]
    rfl
  · rw [if_neg e]
    have hs : pos (p ++ [x]) s = pos p s := by
      cases h : pos p s with
      | some i => exact pos_snoc_old p x s i h
      | none =>
        refine yj3 _ _ (fun k => ?_)
        rcases List.mem_append.1 k with k | k
        · obtain ⟨i, hi, _⟩ := yk3 p s k
          rw [h] at hi
          cases hi
        · exact e (by simpa using k)
    rw [hs]
theorem yo4 (s : L) : WideAt.IsKeyLit (.string s) := trivial
theorem MRel.base : MRel [] (((DataW.map []).put (.string []) (.lit (.string []))).put (.string sXML) (.lit (.string sXmlC))) := by
  have hX : (Lit.string []) ≠ .string sXML := by simp [sXML]
  have h0 : IsMap (DataW.map [] : DataW Unit) := Maps.isMap_empty
  refine ⟨fun s => ?_, fun s => ?_, ?_⟩
  · by_cases e1 : s = sXML
    · subst e1
      rw [Maps.atKey_put_same (h0.put _ _) (yo4 _)]
      rfl
    · rw [Maps.atKey_put_other (by simpa using e1)]
      by_cases e0 : s = []
      · subst e0
        rw [Maps.atKey_put_same h0 (yo4 _)]
        rfl
      · rw [Maps.atKey_put_other (by simpa using e0)]
        unfold prefOf
        rw [if_neg e0, if_neg e1]
        rfl
  · by_cases e1 : s = sXML
    · subst e1
      rw [Maps.has_put_same (h0.put _ _) (yo4 _)]
      rfl
    · rw [Maps.has_put_other (by simpa using e1)]
      by_cases e0 : s = []
      · subst e0
        rw [Maps.has_put_same h0 (yo4 _)]
        rfl
      · rw [Maps.has_put_other (by simpa using e0)]
        unfold prefOf
        rw [if_neg e0, if_neg e1]
        rfl
  · rfl
theorem MRel.put {p : List L} {D : DataW Unit} (h : MRel p D) (ht : Tidy D) (s : L) (hs : prefOf p s = none) : MRel (p ++ [s]) (D.put (.string s) (.lit (.string (110 :: Lib.itoa ((p.length : Int) + 1) ++ [58])))) := by
  refine ⟨fun s' => ?_, fun s' => ?_, ?_⟩
  · rw [prefOf_snoc p s s' hs]
    by_cases e : s' = s
    · subst e
      rw [if_pos rfl, Maps.atKey_put_same ht.isMap (yo4 _)]
      rfl
    · rw [if_neg e, Maps.atKey_put_other (by simpa using e)]
      exact h.at_ s'
  · rw [prefOf_snoc p s s' hs]
    by_cases e : s' = s
    · subst e
      rw [if_pos rfl, Maps.has_put_same ht.isMap (yo4 _)]
      rfl
    · rw [if_neg e, Maps.has_put_other (by simpa using e)]
      exact h.has_ s'
  · rw [Maps.size_put ht, h.has_ s, hs]
    simp [h.size_]
    omega
end Go.Proofs.YtffpbhbiamkkpaaDoor.Prt
