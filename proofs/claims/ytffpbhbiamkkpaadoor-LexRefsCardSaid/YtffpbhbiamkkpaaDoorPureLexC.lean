/- The document's reference at a place of a text. -/
import Derived.Test.YtffpbhbiamkkpaaDoorPureLexB
import Derived.Test.YtffpbhbiamkkpaaDoorUL
namespace Go.Proofs.YtffpbhbiamkkpaaDoor.PL
open Go.RowKit Go.Proofs.YtffpbhbiamkkpaaDoorW.PrintWords Go.Proofs.YtffpbhbiamkkpaaDoorW.PrintLast Go.Proofs.YtffpbhbiamkkpaaDoorW.PrintMore
set_option linter.unusedVariables false
/-- What an inner part stands for, as bytes. -/
def refL (l : List UInt8) : List UInt8 := (refS ⟨l.toArray⟩).data.toList
theorem refS_le (t : ByteArray) : (refS t).size ≤ 4 := by
  have hn : ∀ base u, (numS base u).size ≤ 4 := by
    intro base u
    unfold numS
    split
    · decide
    · split
      · decide
      · split
        · rw [strOfNums_size]
          unfold utf_Put_bytes
          split
          · simp
          · split
            · simp
            · split <;> simp
        · decide
  unfold refS
  repeat' split
  all_goals first | exact hn _ _ | decide
theorem index_up (x0 x2 : ByteArray) (x7 r : Int) (k : Nat) (h : watchbillref03_Index.l0 k x0 x2 x7 = some r) : ∀ j, watchbillref03_Index.l0 (k + j) x0 x2 x7 = some r
  | 0 => h
  | j + 1 => watchbillref03_Index.mono_l (k + j) x0 x2 x7 _ (index_up x0 x2 x7 r k h j)
theorem refl_up (x1 x6 : Int) (x7 : ByteArray) (x8 : List ByteArray) (x9 : Int) (r : ByteArray × Int) (k : Nat) (h : watchbillref03_reference.l0 k x1 x6 x7 x8 x9 = some r) : ∀ j, watchbillref03_reference.l0 (k + j) x1 x6 x7 x8 x9 = some r
  | 0 => h
  | j + 1 => (watchbillref03_reference.mono_l (k + j)).1 x1 x6 x7 x8 x9 _ (refl_up x1 x6 x7 x8 x9 r k h j)
theorem ref_reference (s : ByteArray) (hs : s.size ≤ 140737488351232) (i : Nat) (hi : i < s.size) (hb : s.data.toList[i]? = some 38) :
    ∃ k, watchbillref03_reference.f k s i = some (if Lib.indexByte (s.data.toList.drop i) 59 < 0 then (⟨#[]⟩, (i : Int)) else refR (s.extract (i + 1) (i + (Lib.indexByte (s.data.toList.drop i) 59).toNat)) i ((i + (Lib.indexByte (s.data.toList.drop i) 59).toNat : Nat) : Int)) := by
  obtain ⟨k0, h0⟩ := index_ok s hs 59 (s.size - i) i (by omega)
  by_cases hn : Lib.indexByte (s.data.toList.drop i) 59 < 0
  · refine ⟨k0, ?_⟩
    unfold watchbillref03_reference.f watchbillref03_Index.f
    rw [h0, Option.bind_some, if_pos hn, if_pos hn, if_pos (by decide)]
  · obtain ⟨n, hnn, hlt, hat⟩ := lex_Unescape_idx _ _ hn
    rw [if_neg hn] at h0 ⊢
    rw [hnn] at h0 ⊢
    simp only [Int.toNat_natCast]
    have hsz : i + n < s.size := by rw [List.length_drop, ← Lib.size_eq] at hlt; omega
    have hn1 : 1 ≤ n := by
      rcases Nat.eq_zero_or_pos n with rfl | h'
      · rw [List.getElem?_drop, Nat.add_zero, hb] at hat
        exact absurd hat (by decide)
      · exact h'
    obtain ⟨k1, h1⟩ := ref_ref (s.extract (i + 1) (i + n)) (by rw [ByteArray.size_extract]; omega) i ((i + n : Nat) : Int)
    refine ⟨k0 + k1, ?_⟩
    have e1 : wrap64 ((i : Int) + 1) = ((i + 1 : Nat) : Int) := by rw [w64 _ (by omega) (by omega)]; omega
    have e2 : (i : Int) + (n : Int) = ((i + n : Nat) : Int) := by omega
    unfold watchbillref03_reference.f watchbillref03_Index.f
    rw [index_up _ _ _ _ _ h0 k1, Option.bind_some, e1, e2, if_neg (by omega), if_pos (by omega), if_pos (by omega), if_pos (by omega)]
    simp only [Int.toNat_natCast]
    rw [Nat.add_comm k0 k1]
    exact refl_up _ _ _ _ _ _ _ h1 k0
end Go.Proofs.YtffpbhbiamkkpaaDoor.PL
