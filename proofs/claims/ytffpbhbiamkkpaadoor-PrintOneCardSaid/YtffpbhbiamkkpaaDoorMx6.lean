/- The reference's Sorted: for attributes of names apart it is the one rising row. -/
import Derived.Test.YtffpbhbiamkkpaaDoorRefName
import Derived.Test.YtffpbhbiamkkpaaDoorSrt
import Derived.Test.YtffpbhbiamkkpaaDoorPSpec
import Derived.Test.YtffpbhbiamkkpaaDoorPRx0
import Derived.Test.YtffpbhbiamkkpaaDoorNd
import Derived.Test.YtffpbhbiamkkpaaDoorPAtt
namespace Go.Proofs.YtffpbhbiamkkpaaDoor.PP
open Go Go.RowKit Go.Proofs.YtffpbhbiamkkpaaDoorW.PrintWords Go.Proofs.YtffpbhbiamkkpaaDoor.PR Go.Proofs.YtffpbhbiamkkpaaDoor.ND
open Go.Lib (compareBytes)
set_option linter.unusedVariables false
set_option linter.unusedSimpArgs false
theorem less_cb : ∀ a b : List UInt8, Op.bytesLess a b = decide (compareBytes a b < 0)
  | [], [] => by simp [Op.bytesLess, compareBytes]
  | [], _ :: _ => by simp [Op.bytesLess, compareBytes]
  | _ :: _, [] => by simp [Op.bytesLess, compareBytes]
  | a :: x, b :: y => by
    rw [Op.bytesLess, compareBytes, less_cb x y]
    by_cases h1 : a < b
    · simp [h1]
    · by_cases h2 : b < a
      · have : ¬ a = b := fun e => by rw [e] at h2; exact UInt8.lt_irrefl _ h2
        simp [h1, h2, this]
      · have : a = b := UInt8.le_antisymm (UInt8.not_lt.1 h2) (UInt8.not_lt.1 h1)
        simp [h1, h2, this]
end Go.Proofs.YtffpbhbiamkkpaaDoor.PP
namespace Go.Proofs.YtffpbhbiamkkpaaDoor.PP
open Go Go.RowKit Go.Proofs.YtffpbhbiamkkpaaDoorW.PrintWords Go.Proofs.YtffpbhbiamkkpaaDoor.PR Go.Proofs.YtffpbhbiamkkpaaDoor.ND
open Go.Lib (compareBytes)
open Go.Proofs.YtffpbhbiamkkpaaDoor.Prt (L sXML spc loc decls declStep prefOf pos pos_none pos_some attrO)
set_option linter.unusedVariables false
def mk (l : L) : ByteArray := ⟨l.toArray⟩
theorem data_mk (l : L) : (mk l).data.toList = l := by simp [mk]
theorem pref_some (p : List L) (s : L) : (prefOf p s).isSome = true ↔ (s = [] ∨ s = sXML ∨ s ∈ p) := by
  unfold prefOf
  by_cases h0 : s = []
  · rw [if_pos h0]; simp [h0]
  rw [if_neg h0]
  by_cases h1 : s = sXML
  · rw [if_pos h1]; simp [h1]
  rw [if_neg h1]
  by_cases h2 : s ∈ p
  · obtain ⟨i, hi, _⟩ := pos_some p s h2
    rw [hi]; simp [h2]
  · rw [pos_none p s h2]; simp [h0, h1, h2]
/-- The declarations of prefixes, from number i on. -/
def dstr : Nat → List L → L
  | _, [] => []
  | i, s :: r => attrO ([120, 109, 108, 110, 115, 58] ++ (110 :: Lib.itoa ((i + 1 : Nat) : Int))) s ++ dstr (i + 1) r
theorem dstr_app : ∀ (p : List L) (i : Nat) (s : L), dstr i (p ++ [s]) = dstr i p ++ attrO ([120, 109, 108, 110, 115, 58] ++ (110 :: Lib.itoa ((i + p.length + 1 : Nat) : Int))) s
  | [], i, s => by simp [dstr]
  | a :: p, i, s => by
    rw [List.cons_append, dstr, dstr, dstr_app p (i + 1) s, List.append_assoc, List.length_cons]
    rw [show i + 1 + p.length + 1 = i + (p.length + 1) + 1 by omega]
theorem decls_str (l : List At) : (decls l).2 = dstr 0 (decls l).1 ∧ [] ∉ (decls l).1 ∧ sXML ∉ (decls l).1 ∧ (decls l).1.Nodup := by
  have go : ∀ (l : List At) (st : List L × L), (st.2 = dstr 0 st.1 ∧ [] ∉ st.1 ∧ sXML ∉ st.1 ∧ st.1.Nodup) → ((l.foldl declStep st).2 = dstr 0 (l.foldl declStep st).1 ∧ [] ∉ (l.foldl declStep st).1 ∧ sXML ∉ (l.foldl declStep st).1 ∧ (l.foldl declStep st).1.Nodup) := by
    intro l
    induction l with
    | nil => intro st h; exact h
    | cons a l ih =>
      intro st h
      rw [List.foldl_cons]
      refine ih _ ?_
      unfold declStep
      by_cases c : (prefOf st.1 (spc a)).isSome = true
      · rw [if_pos c]; exact h
      · rw [if_neg c]
        have hn : ¬ (spc a = [] ∨ spc a = sXML ∨ spc a ∈ st.1) := fun k => c ((pref_some _ _).2 k)
        refine ⟨?_, ?_, ?_, ?_⟩
        · show st.2 ++ _ = _
          rw [dstr_app, h.1, Nat.zero_add]
          rfl
        · intro k
          rcases List.mem_append.1 k with k | k
          · exact h.2.1 k
          · exact hn (Or.inl (by simp at k; exact k))
        · intro k
          rcases List.mem_append.1 k with k | k
          · exact h.2.2.1 k
          · exact hn (Or.inr (Or.inl (by simp at k; exact k.symm)))
        · refine List.nodup_append.2 ⟨h.2.2.2, by simp, ?_⟩
          intro x hx y hy e
          obtain rfl : y = spc a := by simpa using hy
          exact hn (Or.inr (Or.inr (e ▸ hx)))
  exact go l ([], []) ⟨rfl, by simp, by simp, by simp⟩
end Go.Proofs.YtffpbhbiamkkpaaDoor.PP
