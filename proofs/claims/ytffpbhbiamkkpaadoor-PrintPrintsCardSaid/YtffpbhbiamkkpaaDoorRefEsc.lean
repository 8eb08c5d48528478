/- The reference's Escape is print's. -/
import Derived.Test.YtffpbhbiamkkpaaDoorRefName
import Derived.Test.YtffpbhbiamkkpaaDoorEsc
import Derived.Test.YtffpbhbiamkkpaaDoorPRx6
namespace Go.Proofs.YtffpbhbiamkkpaaDoor.PP
open Go Go.RowKit Go.Proofs.YtffpbhbiamkkpaaDoorW.PrintWords Go.Proofs.YtffpbhbiamkkpaaDoor.PR Go.Proofs.YtffpbhbiamkkpaaDoor.ND
open Go.Proofs.YtffpbhbiamkkpaaDoor.Esc (esc escB yj8 escB_len cases8 yo5 yr5)
set_option linter.unusedVariables false
def nI (l : List UInt8) : List Int := l.map fun c => ((c.toNat : Nat) : Int)
theorem nI_app (a b : List UInt8) : nI (a ++ b) = nI a ++ nI b := by simp [nI]
theorem nI_str (l : List UInt8) : strOfNums (nI l) = ⟨l.toArray⟩ := by
  unfold strOfNums nI
  rw [List.map_map]
  congr 2
  conv => rhs; rw [← List.map_id l]
  refine List.map_congr_left fun c _ => ?_
  simp only [Function.comp_apply, id_eq, Int.toNat_natCast]
  exact UInt8.ofNat_toNat
theorem nI_bytes (x : ByteArray) : bytesOf x = nI x.data.toList := rfl
theorem nI_len (l : List UInt8) : (nI l).length = l.length := by simp [nI]
theorem one_byte (s : ByteArray) (i : Nat) (h : i < s.size) : ∃ c : UInt8, s.data.toList[i]? = some c ∧ (s.extract i (i + 1)).toList = [c] ∧ bytesOf (s.extract i (i + 1)) = nI [c] ∧ (s.extract i (i + 1)).size = 1 := by
  have h1 : i < s.data.toList.length := by rw [← Lib.size_eq]; exact h
  have e : (s.extract i (i + 1)).data.toList = [s.data.toList[i]] := by
    rw [ByteArray.data_extract, Array.toList_extract, List.extract_eq_take_drop, show i + 1 - i = 1 by omega, List.drop_eq_getElem_cons h1]
    rfl
  exact ⟨s.data.toList[i], List.getElem?_eq_getElem h1, by rw [Lib.toList_data, e], by rw [nI_bytes, e], by rw [ByteArray.size_extract]; omega⟩
theorem esc_next (s : ByteArray) (attr : Bool) (i : Nat) (hi : i < s.size) (hs : s.size ≤ 900000) (c : UInt8) (hc : (s.extract i (i + 1)).toList = [c]) (hcb : bytesOf (s.extract i (i + 1)) = nI [c]) (hcs : (s.extract i (i + 1)).size = 1) (acc : List Int) (hl : acc.length ≤ 6 * i) (R : ByteArray)
    (h : ∃ K, ∀ k, K ≤ k → ya5.l0 k s attr (acc ++ nI (escB attr c)) ((i + 1 : Nat) : Int) = some R) : ∃ K, ∀ k, K ≤ k → ya5.l0 k s attr acc (i : Int) = some R := by
  obtain ⟨K, hK⟩ := h
  refine ⟨K + 5, fun k hk => ?_⟩
  obtain ⟨k, rfl⟩ : ∃ m, k = m + 5 := ⟨k - 5, by omega⟩
  have e1 : wrap64 ((i : Int) + 1) = ((i + 1 : Nat) : Int) := by rw [PL.w64 _ (by omega) (by omega)]; omega
  have no : ∀ d : UInt8, c ≠ d → ¬ ([c] : List UInt8) = [d] := fun d h e => h (by simpa using e)
  have pl : ∀ k, K ≤ k → escB attr c = [c] → (if acc.length + (s.extract i (i + 1)).size < 140737488355328 then ya5.l0 k s attr (acc ++ bytesOf (s.extract i (i + 1))) (wrap64 ((i : Int) + 1)) else none) = some R := by
    intro k hk he
    rw [if_pos (by omega), e1, hcb, ← he]
    exact hK k hk
  rw [ya5.l0, if_pos (by omega), if_pos (by omega), e1, if_pos (by omega), if_pos (by omega)]
  simp only [Int.toNat_natCast, hc]
  rcases cases8 c with rfl | rfl | rfl | rfl | rfl | rfl | rfl | hn
  · rw [if_pos rfl, if_pos (by omega)]
    exact hK _ (by omega)
  · rw [if_neg (by decide), if_pos rfl, if_pos (by omega)]
    exact hK _ (by omega)
  · rw [if_neg (by decide), if_neg (by decide), if_neg (by decide), if_pos rfl, ya5.j1]
    cases attr with
    | false =>
      rw [if_pos (by decide), if_pos (by omega), e1]
      exact hK _ (by omega)
    | true =>
      rw [if_neg (by decide), hc, if_neg (by decide), ya5.j2, if_neg (by decide), hc, if_neg (by decide), ya5.j3, if_neg (by decide), hc, if_neg (by decide)]
      exact pl _ (by omega) rfl
  · rw [if_neg (by decide), if_neg (by decide), if_neg (by decide), if_neg (by decide), ya5.j1, if_neg (by decide), hc, if_pos rfl, ya5.j2]
    cases attr with
    | true =>
      rw [if_pos rfl, if_pos (by omega), e1]
      exact hK _ (by omega)
    | false =>
      rw [if_neg (by decide), hc, if_neg (by decide), ya5.j3, if_neg (by decide), hc, if_neg (by decide)]
      exact pl _ (by omega) rfl
  · rw [if_neg (by decide), if_neg (by decide), if_pos rfl, if_pos (by omega)]
    exact hK _ (by omega)
  · rw [if_neg (by decide), if_neg (by decide), if_neg (by decide), if_neg (by decide), ya5.j1, if_neg (by decide), hc, if_neg (by decide), ya5.j2, if_neg (by decide), hc, if_pos rfl, ya5.j3]
    cases attr with
    | true =>
      rw [if_pos rfl, if_pos (by omega), e1]
      exact hK _ (by omega)
    | false =>
      rw [if_neg (by decide), hc, if_neg (by decide)]
      exact pl _ (by omega) rfl
  · rw [if_neg (by decide), if_neg (by decide), if_neg (by decide), if_neg (by decide), ya5.j1, if_neg (by decide), hc, if_neg (by decide), ya5.j2, if_neg (by decide), hc, if_neg (by decide), ya5.j3, if_neg (by decide), hc, if_pos rfl]
    cases attr with
    | true =>
      rw [if_pos rfl, if_pos (by omega), e1]
      exact hK _ (by omega)
    | false =>
      rw [if_neg (by decide)]
      exact pl _ (by omega) rfl
  · obtain ⟨n1, n2, n3, n4, n5, n6, n7⟩ := hn
    rw [if_neg (no _ n1), if_neg (no _ n2), if_neg (no _ n5), if_neg (no _ n3), ya5.j1, if_neg (by decide), hc, if_neg (no _ n4), ya5.j2, if_neg (by decide), hc, if_neg (no _ n6), ya5.j3, if_neg (by decide), hc, if_neg (no _ n7)]
    exact pl _ (by omega) (yo5 attr c ⟨n1, n2, n3, n4, n5, n6, n7⟩)
theorem esc_from (s : ByteArray) (attr : Bool) (hs : s.size ≤ 900000) : ∀ (d i : Nat), s.size - i ≤ d → i ≤ s.size → ∃ K, ∀ k, K ≤ k → ya5.l0 k s attr (nI (esc attr (s.data.toList.take i))) (i : Int) = some ⟨(esc attr s.data.toList).toArray⟩ := by
  intro d
  induction d with
  | zero =>
    intro i hd hi
    refine ⟨1, fun k hk => ?_⟩
    obtain ⟨k, rfl⟩ : ∃ m, k = m + 1 := ⟨k - 1, by omega⟩
    rw [ya5.l0, if_neg (by omega), nI_str, List.take_of_length_le (by rw [← Lib.size_eq]; omega)]
  | succ d ih =>
    intro i hd hi
    by_cases hlt : i < s.size
    · obtain ⟨c, h1, h2, h3, h4⟩ := one_byte s i hlt
      have hl : i < s.data.toList.length := by rw [← Lib.size_eq]; exact hlt
      have hcc : s.data.toList[i] = c := by rw [List.getElem?_eq_getElem hl] at h1; exact Option.some.inj h1
      refine esc_next s attr i hlt hs c h2 h3 h4 _ ?_ _ ?_
      · rw [nI_len]
        have := yj8 attr (s.data.toList.take i)
        rw [List.length_take] at this
        omega
      · have := ih (i + 1) (by omega) (by omega)
        rw [yr5 attr _ i hl, nI_app, hcc] at this
        exact this
    · exact ih i (by omega) hi
theorem yq0 (s : ByteArray) (attr : Bool) (hs : s.size ≤ 900000) : ∃ K, ∀ k, K ≤ k → ya5.f k s attr = some ⟨(esc attr s.data.toList).toArray⟩ := esc_from s attr hs s.size 0 (by omega) (by omega)
end Go.Proofs.YtffpbhbiamkkpaaDoor.PP
