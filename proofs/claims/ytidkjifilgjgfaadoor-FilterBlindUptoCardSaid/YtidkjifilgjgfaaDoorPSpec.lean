/- What print writes of an element's attributes, and of a tree: plain lists of bytes. -/
import Derived.Test.YtidkjifilgjgfaaDoorPrt
import Derived.Test.YtidkjifilgjgfaaDoorMx11
import Derived.Test.YtidkjifilgjgfaaDoorMx10
namespace Go.Proofs.YtidkjifilgjgfaaDoor.Prt
open Go.RowKit Go.Proofs.YtidkjifilgjgfaaDoor.ND
open Go.Maps (Keyed IsMap Tidy)
set_option linter.unusedVariables false
abbrev L := List UInt8
def sXML : L := [104, 116, 116, 112, 58, 47, 47, 119, 119, 119, 46, 119, 51, 46, 111, 114, 103, 47, 88, 77, 76, 47, 49, 57, 57, 56, 47, 110, 97, 109, 101, 115, 112, 97, 99, 101]
def sXmlC : L := [120, 109, 108, 58]
def sXmlns : L := [120, 109, 108, 110, 115]
def pos : List L → L → Option Nat
  | [], _ => none
  | a :: p, s => if a = s then some 0 else (pos p s).map (· + 1)
theorem yr4 : ∀ (p : List L) (s : L), s ∉ p → pos p s = none
  | [], _, _ => rfl
  | a :: p, s, h => by
    have h1 : ¬ a = s := fun e => h (by simp [e])
    unfold pos
    rw [if_neg h1, yr4 p s (fun k => h (by simp [k]))]
    rfl
theorem yp7 : ∀ (p : List L) (s : L), s ∈ p → ∃ i, pos p s = some i ∧ i < p.length
  | [], _, h => by simp at h
  | a :: p, s, h => by
    unfold pos
    by_cases e : a = s
    · exact ⟨0, by rw [if_pos e], by simp⟩
    · rcases List.mem_cons.1 h with h | h
      · exact absurd h.symm e
      · obtain ⟨i, h1, h2⟩ := yp7 p s h
        exact ⟨i + 1, by rw [if_neg e, h1]; rfl, by simp; omega⟩
theorem pos_snoc_old : ∀ (p : List L) (x s : L) (i : Nat), pos p s = some i → pos (p ++ [x]) s = some i
  | [], _, _, _, h => by simp [pos] at h
  | a :: p, x, s, i, h => by
    unfold pos at h
    rw [List.cons_append]
    unfold pos
    by_cases e : a = s
    · rw [if_pos e] at h ⊢; exact h
    · rw [if_neg e] at h ⊢
      obtain ⟨j, hj, rfl⟩ := Option.map_eq_some_iff.1 h
      rw [pos_snoc_old p x s j hj]
      rfl
theorem pos_snoc_new : ∀ (p : List L) (x : L), x ∉ p → pos (p ++ [x]) x = some p.length
  | [], x, _ => by simp [pos]
  | a :: p, x, h => by
    rw [List.cons_append]
    unfold pos
    rw [if_neg (fun e => h (by simp [e])), pos_snoc_new p x (fun k => h (by simp [k]))]
    rfl
/-- The prefix of a space, with its colon; none: it has none yet. -/
def prefOf (p : List L) (s : L) : Option L := if s = [] then some [] else if s = sXML then some sXmlC else (pos p s).map fun i => 110 :: Lib.itoa ((i : Int) + 1) ++ [58]
def spc (a : At) : L := a.f0.f0.data.toList
def loc (a : At) : L := a.f0.f1.data.toList
def yj2 (st : List L × L) (a : At) : List L × L :=
  if (prefOf st.1 (spc a)).isSome then st else (st.1 ++ [spc a], st.2 ++ attrO ([120, 109, 108, 110, 115, 58] ++ (110 :: Lib.itoa ((st.1.length : Int) + 1))) (spc a))
def decls (l : List At) : List L × L := l.foldl yj2 ([], [])
def attO (p : List L) (a : At) : L := attrO ((prefOf p (spc a)).getD [] ++ loc a) a.f1.data.toList
def attsO (p : List L) (l : List At) : L := l.flatMap (attO p)
/-- The attributes of an element, as they are written; l: rising. -/
def attrsO (l : List At) : L := (decls l).2 ++ attsO (decls l).1 l
theorem decls_snoc (l : List At) (a : At) : decls (l ++ [a]) = yj2 (decls l) a := by simp [decls]
theorem attsO_snoc (p : List L) (l : List At) (a : At) : attsO p (l ++ [a]) = attsO p l ++ attO p a := by simp [attsO]
mutual
def nodeO : Nd → L → L
  | ⟨k, n, t, c, x⟩, space =>
    if k = 2 then Esc.esc false x.data.toList else
    let sp := n.f0.data.toList
    let tag := if sp = sXML then sXmlC ++ n.f1.data.toList else n.f1.data.toList
    let ns := if sp ≠ sXML ∧ sp ≠ space then attrO sXmlns sp else []
    let space' := if sp ≠ sXML ∧ sp ≠ space then sp else space
    let head := 60 :: tag ++ ns ++ attrsO (srt t)
    match c with
    | [] => head ++ [47, 62]
    | d :: r => head ++ [62] ++ nodesO (d :: r) space' ++ ([60, 47] ++ tag ++ [62])
def nodesO : List Nd → L → L
  | [], _ => []
  | d :: r, space => nodeO d space ++ nodesO r space
end
/-- How a map of prefixes reads. -/
structure MRel (p : List L) (D : DataW Unit) : Prop where
  at_ : ∀ s : L, D.atKey (.string s) (.lit (.string [])) = .lit (.string ((prefOf p s).getD []))
  has_ : ∀ s : L, Maps.has D (.string s) = (prefOf p s).isSome
  size_ : Maps.size D = 2 + p.length
theorem prefOf_snoc (p : List L) (x s : L) (hx : prefOf p x = none) : prefOf (p ++ [x]) s = if s = x then some (110 :: Lib.itoa ((p.length : Int) + 1) ++ [58]) else prefOf p s := by
  unfold prefOf at hx ⊢
  by_cases e0 : x = []
  · simp [e0] at hx
  by_cases e1 : x = sXML
  · rw [if_neg e0, if_pos e1] at hx; simp at hx
  rw [if_neg e0, if_neg e1] at hx
  have hp : pos p x = none := by
    cases h : pos p x with
    | none => rfl
    | some i => rw [h] at hx; simp at hx
  have hm : x ∉ p := fun h => by
    obtain ⟨i, hi, _⟩ := yp7 p x h
    rw [hp] at hi
    cases hi
  by_cases e : s = x
  · subst e
    rw [if_pos rfl, if_neg e0, if_neg e1, pos_snoc_new p s hm]
    rfl
  · rw [if_neg e]
    have hs : pos (p ++ [x]) s = pos p s := by
      cases h : pos p s with
      | some i => exact pos_snoc_old p x s i h
      | none =>
        refine yr4 _ _ (fun k => ?_)
        rcases List.mem_append.1 k with k | k
        · obtain ⟨i, hi, _⟩ := yp7 p s k
          rw [h] at hi
          cases hi
        · exact e (by simpa using k)
    rw [hs]
theorem yo4 (s : L) : WideAt.IsKeyLit (.string s) := trivial
theorem MRel.base : MRel [] (((DataW.map []).put (.string []) (.lit (.string []))).put (.string sXML) (.lit (.string sXmlC))) := by
  have hX : (Lit.string []) ≠ .string sXML := by simp [sXML]
  have h0 : IsMap (DataW.map [] : DataW Unit) := Maps.isMap_empty
  refine ⟨fun s => ?_, fun s => ?_, ?_⟩
  · by_cases e1 : s = sXML
    · subst e1
      rw [Maps.atKey_put_same (h0.put _ _) (yo4 _)]
      rfl
    · rw [Maps.atKey_put_other (by simpa using e1)]
      by_cases e0 : s = []
      · subst e0
        rw [Maps.atKey_put_same h0 (yo4 _)]
        rfl
      · rw [Maps.atKey_put_other (by simpa using e0)]
        unfold prefOf
        rw [if_neg e0, if_neg e1]
        rfl
  · by_cases e1 : s = sXML
    · subst e1
      rw [Maps.has_put_same (h0.put _ _) (yo4 _)]
      rfl
    · rw [Maps.has_put_other (by simpa using e1)]
      by_cases e0 : s = []
      · subst e0
        rw [Maps.has_put_same h0 (yo4 _)]
        rfl
      · rw [Maps.has_put_other (by simpa using e0)]
        unfold prefOf
        rw [if_neg e0, if_neg e1]
        rfl
  · rfl
theorem MRel.put {p : List L} {D : DataW Unit} (h : MRel p D) (ht : Tidy D) (s : L) (hs : prefOf p s = none) : MRel (p ++ [s]) (D.put (.string s) (.lit (.string (110 :: Lib.itoa ((p.length : Int) + 1) ++ [58])))) := by
  refine ⟨fun s' => ?_, fun s' => ?_, ?_⟩
  · rw [prefOf_snoc p s s' hs]
    by_cases e : s' = s
    · subst e
      rw [if_pos rfl, Maps.atKey_put_same ht.isMap (yo4 _)]
      rfl
    · rw [if_neg e, Maps.atKey_put_other (by simpa using e)]
      exact h.at_ s'
  · rw [prefOf_snoc p s s' hs]
    by_cases e : s' = s
    · subst e
      rw [if_pos rfl, Maps.has_put_same ht.isMap (yo4 _)]
      rfl
    · rw [if_neg e, Maps.has_put_other (by simpa using e)]
      exact h.has_ s'
  · rw [Maps.size_put ht, h.has_ s, hs]
    simp [h.size_]
    omega
end Go.Proofs.YtidkjifilgjgfaaDoor.Prt
