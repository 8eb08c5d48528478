/- The document's reference comes to what lex's does. -/
import Derived.Test.YtffpbhbiamkkpaaDoorPureLexA
import Derived.Test.YtffpbhbiamkkpaaDoorUL
import Derived.Test.YtffpbhbiamkkpaaDoorRepl
import Derived.Lib.SplitLaws
namespace Go.Proofs.YtffpbhbiamkkpaaDoor.PL
open Go.RowKit Go.Proofs.YtffpbhbiamkkpaaDoorW.PrintWords Go.Proofs.YtffpbhbiamkkpaaDoorW.PrintLast Go.Proofs.YtffpbhbiamkkpaaDoorW.PrintMore
set_option linter.unusedVariables false
theorem strOfNums_size (l : List Int) : (strOfNums l).size = l.length := by
  rw [Lib.size_eq]
  unfold strOfNums
  simp
end Go.Proofs.YtffpbhbiamkkpaaDoor.PL
namespace Go.Proofs.YtffpbhbiamkkpaaDoor.PL
open Go.RowKit Go.Proofs.YtffpbhbiamkkpaaDoorW.PrintWords Go.Proofs.YtffpbhbiamkkpaaDoorW.PrintLast Go.Proofs.YtffpbhbiamkkpaaDoorW.PrintMore
set_option linter.unusedVariables false
/-- What an inner part stands for, as bytes. -/
def refL (l : List UInt8) : List UInt8 := (refS ⟨l.toArray⟩).data.toList
theorem refS_le (t : ByteArray) : (refS t).size ≤ 4 := by
  have hn : ∀ base u, (numS base u).size ≤ 4 := by
    intro base u
    unfold numS
    split
    · decide
    · split
      · decide
      · split
        · rw [strOfNums_size]
          unfold utf_Put_bytes
          split
          · simp
          · split
            · simp
            · split <;> simp
        · decide
  unfold refS
  repeat' split
  all_goals first | exact hn _ _ | decide
end Go.Proofs.YtffpbhbiamkkpaaDoor.PL
namespace Go.Proofs.YtffpbhbiamkkpaaDoor.PL
open Go.RowKit Go.Proofs.YtffpbhbiamkkpaaDoorW.PrintWords Go.Proofs.YtffpbhbiamkkpaaDoorW.PrintLast Go.Proofs.YtffpbhbiamkkpaaDoorW.PrintMore Go.Plain
set_option linter.unusedVariables false
theorem mk_of (t : ByteArray) : (⟨t.data.toList.toArray⟩ : ByteArray) = t := by cases t; simp
theorem mk_size (l : List UInt8) : (⟨l.toArray⟩ : ByteArray).size = l.length := by rw [Lib.size_eq]
theorem ra_f (s old new : ByteArray) (hs : s.size ≤ 1000000) (ho : 1 ≤ old.size) (hn : new.size = 1) : strings_ReplaceAll.f s old new = some ⟨(Lib.replaceAll s.data.toList old.data.toList new.data.toList).toArray⟩ := by
  unfold strings_ReplaceAll.f
  have hc := Lib.countB_le old ho s.size s (Nat.le_refl _)
  rw [if_pos (by omega), if_pos ho, if_pos (by rw [hn]; omega)]
theorem crlf_len : ∀ l : List UInt8, (crlf l).length ≤ l.length := by
  intro l
  induction l using crlf.induct with
  | case1 => simp [crlf]
  | case2 b => simp [crlf]
  | case3 b c l h ih => rw [crlf, if_pos h]; simp; omega
  | case4 b c l h ih => rw [crlf, if_neg h]; simp at ih ⊢; omega
theorem ends_ok (s : ByteArray) (hs : s.size ≤ 1000000) : lex_ends.f s = some ⟨(endsL s.data.toList).toArray⟩ := by
  unfold lex_ends.f
  have h1 : (Lib.replaceAll s.data.toList [13, 10] [10]) = crlf s.data.toList := repl_crlf _
  have hl := crlf_len s.data.toList
  rw [← Lib.size_eq s] at hl
  rw [ra_f _ _ _ hs (by decide) (by decide), Option.bind_some]
  show (strings_ReplaceAll.f ⟨(Lib.replaceAll s.data.toList [13, 10] [10]).toArray⟩ _ _).bind _ = _
  rw [h1, ra_f _ _ _ (by rw [mk_size]; omega) (by decide) (by decide), Option.bind_some]
  show some (⟨(Lib.replaceAll (crlf s.data.toList) [13] [10]).toArray⟩ : ByteArray) = _
  rw [repl_one 13 10 (by decide)]
  rfl
theorem plain_ok (s : ByteArray) (attr : Bool) (hs : s.size ≤ 1000000) : lex_plain.f s attr = some ⟨(plainL attr s.data.toList).toArray⟩ := by
  unfold lex_plain.f
  rw [ends_ok s hs, Option.bind_some]
  have hl : (endsL s.data.toList).length ≤ 1000000 := by
    unfold endsL; rw [List.length_map]; have := crlf_len s.data.toList; rw [← Lib.size_eq s] at this; omega
  unfold plainL
  cases attr with
  | true =>
    rw [if_pos rfl, if_pos rfl, ra_f _ _ _ (by rw [mk_size]; exact hl) (by decide) (by decide), Option.bind_some]
    show (strings_ReplaceAll.f ⟨(Lib.replaceAll (endsL s.data.toList) [10] [32]).toArray⟩ _ _).bind _ = _
    rw [repl_one 10 32 (by decide), ra_f _ _ _ (by rw [mk_size, List.length_map]; exact hl) (by decide) (by decide), Option.bind_some]
    show some (⟨(Lib.replaceAll ((endsL s.data.toList).map _) [9] [32]).toArray⟩ : ByteArray) = _
    rw [repl_one 9 32 (by decide)]
    rfl
  | false => rw [if_neg (by decide), if_neg (by decide)]
def outU (acc : List UInt8) : Except Nat (List UInt8) → Option (ByteArray × Int × Int)
  | .ok r => some (⟨(acc ++ r).toArray⟩, 0, 0)
  | .error p => some (⟨#[]⟩, (p : Int), 16)
theorem outU_map (acc q : List UInt8) (x : Except Nat (List UInt8)) : outU acc (x.map (q ++ ·)) = outU (acc ++ q) x := by
  cases x <;> simp [outU, Except.map]
theorem go_ok (s : ByteArray) (hs : s.size ≤ 1000000) (attr : Bool) : ∀ (d i : Nat) (acc : List UInt8), i ≤ s.size → s.size - i < d → acc.length ≤ 4 * i → lex_Unescape_go s attr d i acc = outU acc (uC refL attr d i (s.data.toList.drop i))
  | 0, i, acc, hi, hd, _ => absurd hd (by omega)
  | d + 1, i, acc, hi, hd, ha => by
    rw [lex_Unescape_go, uC]
    by_cases hlt : i < s.size
    · have hne : ¬ s.data.toList.drop i = [] := by
        intro h
        have := congrArg List.length h
        rw [List.length_drop, ← Lib.size_eq] at this
        simp at this
        omega
      rw [if_pos hlt, if_neg hne]
      by_cases hn : Lib.indexByte (s.data.toList.drop i) 38 < 0
      · rw [if_pos hn, if_pos hn, plain_ok _ _ (by rw [ByteArray.size_extract]; omega), Option.bind_some, lex_Unescape_drop]
        have hp := plainL_len attr (s.data.toList.drop i)
        rw [List.length_drop, ← Lib.size_eq s] at hp
        rw [if_pos (by rw [mk_size]; omega)]
        rfl
      · rw [if_neg hn, if_neg hn]
        obtain ⟨n, hnn, hlt2, hat⟩ := lex_Unescape_idx _ _ hn
        rw [List.length_drop, ← Lib.size_eq] at hlt2
        rw [hnn]
        simp only [Int.toNat_natCast]
        have he : (s.extract i (i + n)).data.toList = (s.data.toList.drop i).take n := by
          rw [Lib.extract_data]; congr 1; omega
        rw [plain_ok _ _ (by rw [ByteArray.size_extract]; omega), Option.bind_some, he, List.drop_drop]
        have hp := plainL_len attr ((s.data.toList.drop i).take n)
        rw [List.length_take] at hp
        rw [if_pos (by rw [mk_size]; omega)]
        by_cases hm : Lib.indexByte (s.data.toList.drop (i + n)) 59 < 0
        · rw [if_pos hm, if_pos hm]
          rfl
        · rw [if_neg hm, if_neg hm]
          obtain ⟨m, hmm, hlt3, hat3⟩ := lex_Unescape_idx _ _ hm
          rw [List.length_drop, ← Lib.size_eq] at hlt3
          have hm1 : 1 ≤ m := by
            rcases Nat.eq_zero_or_pos m with rfl | h'
            · rw [List.getElem?_drop, Nat.add_zero] at hat3
              rw [List.getElem?_drop] at hat
              rw [hat] at hat3
              exact absurd hat3 (by decide)
            · exact h'
          rw [hmm]
          simp only [Int.toNat_natCast]
          have ht : (s.extract (i + n + 1) (i + n + m)).data.toList = (s.data.toList.drop (i + n + 1)).take (m - 1) := by
            rw [Lib.extract_data]; congr 1; omega
          have hR : refL ((s.data.toList.drop (i + (n + 1))).take (m - 1)) = (refS (s.extract (i + n + 1) (i + n + m))).data.toList := by
            unfold refL; rw [show i + (n + 1) = i + n + 1 by omega, ← ht, mk_of]
          rw [lex_ref _ (by rw [ByteArray.size_extract]; omega), Option.bind_some, List.drop_drop, hR]
          have hle := refS_le (s.extract (i + n + 1) (i + n + m))
          generalize refS (s.extract (i + n + 1) (i + n + m)) = u at hle hR ⊢
          have husz : u.size = u.data.toList.length := Lib.size_eq u
          by_cases hu : u.data.toList = []
          · rw [if_pos (by rw [Lib.toList_data, hu]; rfl), if_pos hu]
            rfl
          · rw [if_neg (by rw [Lib.toList_data]; simpa using hu), if_neg hu, if_pos (by rw [mk_size]; omega)]
            rw [go_ok s hs attr d _ _ (by omega) (by omega) (by simp; omega), List.drop_drop, outU_map]
            simp only [show i + (n + m + 1) = i + n + m + 1 by omega, List.append_assoc]
    · have hd' : s.data.toList.drop i = [] := List.drop_of_length_le (by rw [← Lib.size_eq]; omega)
      rw [if_neg hlt, if_pos hd']
      simp [outU]
theorem unescape_ok (s : ByteArray) (hs : s.size ≤ 1000000) (attr : Bool) : lex_Unescape.f s attr = outU [] (uL refL attr (s.size + 1) 0 s.data.toList) := by
  unfold lex_Unescape.f
  rw [if_pos (by omega), go_ok s hs attr _ 0 [] (Nat.zero_le _) (by omega) (by simp), List.drop_zero, uC_uL _ _ _ _ _ (by rw [← Lib.size_eq]; omega)]
theorem index_at (x : UInt8) : ∀ l : List UInt8, x ∉ l → ∀ t, Lib.indexByte (l ++ x :: t) x = (l.length : Int)
  | [], _, t => by show (if x == x then (0 : Int) else _) = _; rw [if_pos (by simp)]; rfl
  | b :: l, h, t => by
    have hb : ¬ (b == x) = true := by simp at h ⊢; exact fun e => h.1 e.symm
    have ih := index_at x l (fun hm => h (by simp [hm])) t
    show (if b == x then 0 else if Lib.indexByte (l ++ x :: t) x == -1 then -1 else Lib.indexByte (l ++ x :: t) x + 1) = _
    rw [if_neg hb, ih, if_neg (by simp)]
    simp
end Go.Proofs.YtffpbhbiamkkpaaDoor.PL
