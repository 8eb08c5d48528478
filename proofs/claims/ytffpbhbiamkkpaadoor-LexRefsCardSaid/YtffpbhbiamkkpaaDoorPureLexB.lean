/- The document's reference comes to what lex's does. -/
import Derived.Test.YtffpbhbiamkkpaaDoorPureLexA
namespace Go.Proofs.YtffpbhbiamkkpaaDoor.PL
open Go.RowKit Go.Proofs.YtffpbhbiamkkpaaDoorW.PrintWords Go.Proofs.YtffpbhbiamkkpaaDoorW.PrintLast Go.Proofs.YtffpbhbiamkkpaaDoorW.PrintMore
set_option linter.unusedVariables false
/-- What the document's reference answers. -/
def refR (t : ByteArray) (a e : Int) : ByteArray × Int := if (refS t).size = 0 then (⟨#[]⟩, a) else (refS t, wrap64 (e + 1))
theorem put_bytes_ne (n : Int) : utf_Put_bytes n ≠ [] := by
  unfold utf_Put_bytes
  split
  · simp
  · split
    · simp
    · split <;> simp
theorem strOfNums_size (l : List Int) : (strOfNums l).size = l.length := by
  rw [Lib.size_eq]
  unfold strOfNums
  simp
theorem sign_char (n : Int) (h : charB n = true) : watchbillref01_Sign.f n = some true ∧ 0 ≤ n ∧ n ≤ 1114111 := by
  have hc : n = 9 ∨ n = 10 ∨ n = 13 ∨ (32 ≤ n ∧ n ≤ 55295) ∨ (57344 ≤ n ∧ n ≤ 65533) ∨ (65536 ≤ n ∧ n ≤ 1114111) := by simpa [charB] using h
  refine ⟨?_, by omega, by omega⟩
  unfold watchbillref01_Sign.f
  rw [if_pos (by omega), if_pos (by omega)]
  by_cases h1 : n < 55296
  · rw [if_pos h1]
  · rw [if_neg h1, decide_eq_true (by omega)]
theorem ref_char' (n : Int) (k : Nat) : watchbillref01_Char.f (12 + k) n = some (charB n) := by
  induction k with
  | zero => exact ref_char n
  | succ k ih => exact watchbillref01_Char.mono n (12 + k) _ ih
theorem ref_j1 (k : Nat) (a e n : Int) : watchbillref03_reference.j1 (13 + k) a e n = some (if n < 0 then (⟨#[]⟩, a) else if charB n = true then (strOfNums (utf_Put_bytes n), wrap64 (e + 1)) else (⟨#[]⟩, a)) := by
  rw [show 13 + k = (12 + k) + 1 by omega, watchbillref03_reference.j1, ref_char', Option.bind_some]
  by_cases hn : n < 0
  · rw [if_pos hn, if_pos hn]
  rw [if_neg hn, if_neg hn]
  by_cases hc : charB n = true
  · obtain ⟨h1, h2, h3⟩ := sign_char n hc
    rw [if_pos hc, if_pos hc, char_put n h1 h2 h3]
    rfl
  · rw [if_neg hc, if_neg hc]
theorem ref_num (u : ByteArray) (hu : u.size ≤ 140737488351232) (base : Int) (hb : base = 10 ∨ base = 16) (a e : Int) :
    ∃ k, ∀ j, ((watchbillref03_number.f (13 + (k + j)) u base).bind fun n => watchbillref03_reference.j1 (13 + (k + j)) a e n) = some (if (numS base u).size = 0 then (⟨#[]⟩, a) else (numS base u, wrap64 (e + 1))) := by
  have hz : ((⟨#[]⟩ : ByteArray)).size = 0 := rfl
  have hm : ∀ (k j : Nat) (r : Int), watchbillref03_number.l0 k u base 0 0 = some r → watchbillref03_number.f (k + j) u base = some r := by
    intro k j r h
    induction j with
    | zero => exact h
    | succ j ih => exact watchbillref03_number.mono u base (k + j) _ ih
  have := number_ok u hu base hb u.size 0 0 0 (by omega) (Or.inl ⟨rfl, by omega, by omega⟩)
  unfold numS
  rw [List.drop_zero] at this
  revert this
  cases lex_digs base 0 (bytesOf u) with
  | none =>
    rintro ⟨k, hk⟩
    refine ⟨k, fun j => ?_⟩
    rw [show watchbillref03_number.f (13 + (k + j)) u base = _ from (show 13 + (k + j) = k + (13 + j) by omega) ▸ hm k (13 + j) _ hk, Option.bind_some, ref_j1, if_pos (by decide)]
    simp only [hz, if_true]
  | some q =>
    rintro ⟨k, r, hr, hk⟩
    refine ⟨k, fun j => ?_⟩
    rw [show watchbillref03_number.f (13 + (k + j)) u base = _ from (show 13 + (k + j) = k + (13 + j) by omega) ▸ hm k (13 + j) _ hk, Option.bind_some, ref_j1]
    simp only
    by_cases he : u.toList = []
    · rw [if_pos he, if_pos he, if_pos (by decide)]
      simp only [hz, if_true]
    · rw [if_neg he, if_neg he]
      have hr0 : ¬ r < 0 := by rcases hr with h | h <;> omega
      rw [if_neg hr0]
      have hch : charB r = charB q := by
        rcases hr with ⟨rfl, _, _⟩ | h
        · rfl
        · have f1 : charB r = false := by simp [charB]; omega
          have f2 : charB q = false := by simp [charB]; omega
          rw [f1, f2]
      rw [hch]
      by_cases hc : charB q = true
      · have hqr : q = r := by
          rcases hr with ⟨h, _, _⟩ | h
          · exact h
          · have := sign_char q hc; omega
        subst hqr
        have hne : (strOfNums (utf_Put_bytes q)).size ≠ 0 := by
          rw [strOfNums_size]
          exact fun h => put_bytes_ne q (List.eq_nil_of_length_eq_zero h)
        rw [if_pos hc, if_pos hc, if_neg hne]
      · rw [if_neg hc, if_neg hc]
        simp only [hz, if_true]
theorem ref_ref (t : ByteArray) (ht : t.size ≤ 140737488351232) (a e : Int) :
    ∃ k, watchbillref03_reference.l0 k a e t namesL 0 = some (refR t a e) := by
  have hx : ∀ a b : Nat, (t.extract a b).size ≤ 140737488351232 := fun a b => by
    rw [ByteArray.size_extract]; omega
  obtain ⟨k1, h1⟩ := ref_num (t.extract 2 t.size) (hx _ _) 16 (Or.inr rfl) a e
  obtain ⟨k2, h2⟩ := ref_num (t.extract 1 t.size) (hx _ _) 10 (Or.inl rfl) a e
  have n0 : (rdOf ByteArray.empty namesL ((0 : Nat) : Int)).toList = [108, 116] := by rw [Lib.toList_data]; rfl
  have n2 : (rdOf ByteArray.empty namesL ((2 : Nat) : Int)).toList = [103, 116] := by rw [Lib.toList_data]; rfl
  have n4 : (rdOf ByteArray.empty namesL ((4 : Nat) : Int)).toList = [97, 109, 112] := by rw [Lib.toList_data]; rfl
  have n6 : (rdOf ByteArray.empty namesL ((6 : Nat) : Int)).toList = [113, 117, 111, 116] := by rw [Lib.toList_data]; rfl
  have n8 : (rdOf ByteArray.empty namesL ((8 : Nat) : Int)).toList = [97, 112, 111, 115] := by rw [Lib.toList_data]; rfl
  refine ⟨13 + (k1 + k2) + 1 + 1 + 1 + 1 + 1 + 1, ?_⟩
  unfold refR refS
  rw [show (0 : Int) = ((0 : Nat) : Int) from rfl, ref_step _ a e t 0 (by omega), n0]
  by_cases c1 : t.toList = ([108, 116] : List UInt8)
  · rw [if_pos c1.symm, if_pos c1]; rfl
  rw [if_neg (fun h => c1 h.symm), if_neg c1, ref_step _ a e t (0 + 2) (by omega), n2]
  by_cases c2 : t.toList = ([103, 116] : List UInt8)
  · rw [if_pos c2.symm, if_pos c2]; rfl
  rw [if_neg (fun h => c2 h.symm), if_neg c2, ref_step _ a e t (0 + 2 + 2) (by omega), n4]
  by_cases c3 : t.toList = ([97, 109, 112] : List UInt8)
  · rw [if_pos c3.symm, if_pos c3]; rfl
  rw [if_neg (fun h => c3 h.symm), if_neg c3, ref_step _ a e t (0 + 2 + 2 + 2) (by omega), n6]
  by_cases c4 : t.toList = ([113, 117, 111, 116] : List UInt8)
  · rw [if_pos c4.symm, if_pos c4]; rfl
  rw [if_neg (fun h => c4 h.symm), if_neg c4, ref_step _ a e t (0 + 2 + 2 + 2 + 2) (by omega), n8]
  by_cases c5 : t.toList = ([97, 112, 111, 115] : List UInt8)
  · rw [if_pos c5.symm, if_pos c5]; rfl
  rw [if_neg (fun h => c5 h.symm), if_neg c5]
  have hlast := ref_end (13 + (k1 + k2)) a e t
  rw [show ((0 + 2 + 2 + 2 + 2 + 2 : Nat) : Int) = 10 from rfl, hlast, begins_f t _ ht (by decide), Option.bind_some]
  by_cases c6 : begins t ⟨#[35, 120]⟩ = true
  · have hsz : 2 ≤ t.size := by
      unfold begins at c6
      simp only [Bool.and_eq_true, decide_eq_true_eq] at c6
      exact c6.1
    rw [if_pos c6, if_pos c6, if_pos (by omega)]
    exact h1 k2
  rw [if_neg c6, if_neg c6, begins_f t _ ht (by decide), Option.bind_some]
  by_cases c7 : begins t ⟨#[35]⟩ = true
  · have hsz : 1 ≤ t.size := by
      unfold begins at c7
      simp only [Bool.and_eq_true, decide_eq_true_eq] at c7
      exact c7.1
    rw [if_pos c7, if_pos c7, if_pos (by omega), Nat.add_comm k1 k2]
    exact h2 k1
  rw [if_neg c7, if_neg c7, ref_j1, if_pos (by decide)]
  rfl
end Go.Proofs.YtffpbhbiamkkpaaDoor.PL
