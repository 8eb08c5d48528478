/- A text's meaning byte by byte; by chunks it is the same. No program in sight. -/
import Derived.Lib.IndexLaws
import Derived.Lib.Replace
import Derived.Lib.CountLaws
import Derived.Test.YtffpbhbiamkkpaaDoorPLx5
import Derived.Lib.SplitLaws
namespace Go.Plain
open Go.Lib
/-- A byte as it stands for in a value (attr). -/
def blk (attr : Bool) (c : UInt8) : UInt8 := if attr = true ∧ (c = 9 ∨ c = 10) then 32 else c
/-- A text from place i on, as it stands for; or where it is wrong. R: what a reference's inner part stands for. -/
def uL (R : List UInt8 → List UInt8) (attr : Bool) : Nat → Nat → List UInt8 → Except Nat (List UInt8)
  | 0, _, _ => .ok []
  | _ + 1, _, [] => .ok []
  | d + 1, i, b :: l =>
    if b = 38 then
      if indexByte (b :: l) 59 < 0 then .error i
      else if R (l.take ((indexByte (b :: l) 59).toNat - 1)) = [] then .error i
      else (uL R attr d (i + (indexByte (b :: l) 59).toNat + 1) ((b :: l).drop ((indexByte (b :: l) 59).toNat + 1))).map (R (l.take ((indexByte (b :: l) 59).toNat - 1)) ++ ·)
    else if b = 13 ∧ l.head? = some 10 then (uL R attr d (i + 2) l.tail).map (blk attr 10 :: ·)
    else (uL R attr d (i + 1) l).map (blk attr (if b = 13 then 10 else b) :: ·)
/-- A text without & and 13 stands for itself. -/
theorem uL_plain (R : List UInt8 → List UInt8) : ∀ (d i : Nat) (l : List UInt8), l.length ≤ d → (∀ b ∈ l, b ≠ 38 ∧ b ≠ 13) → uL R false d i l = .ok l
  | 0, i, l, hd, _ => by
    cases l with
    | nil => rfl
    | cons b l => exact absurd hd (by simp)
  | d + 1, i, [], _, _ => rfl
  | d + 1, i, b :: l, hd, h => by
    have hb := h b (by simp)
    rw [uL, if_neg hb.1, if_neg (fun h => hb.2 h.1), uL_plain R d (i + 1) l (by simpa using hd) (fun c hc => h c (by simp [hc]))]
    rw [if_neg hb.2]
    rfl
theorem index_lt {l : List UInt8} {c : UInt8} (h : ¬ indexByte l c < 0) : (indexByte l c).toNat < l.length := by
  obtain ⟨n, hn⟩ := Int.eq_ofNat_of_zero_le (show 0 ≤ indexByte l c by omega)
  have := (indexByte_some hn).1
  rw [hn]
  rcases Nat.lt_or_ge n l.length with h' | h'
  · exact h'
  · rw [List.getElem?_eq_none h'] at this
    exact absurd this (by simp)
theorem index_append {c : UInt8} : ∀ {l : List UInt8} (t : List UInt8), ¬ indexByte l c < 0 → indexByte (l ++ t) c = indexByte l c
  | [], t, h => absurd (show indexByte [] c < 0 by unfold indexByte; decide) h
  | b :: l, t, h => by
    show (if b == c then 0 else if indexByte (l ++ t) c == -1 then -1 else indexByte (l ++ t) c + 1) = if b == c then 0 else if indexByte l c == -1 then -1 else indexByte l c + 1
    by_cases hb : b == c
    · rw [if_pos hb, if_pos hb]
    · rw [if_neg hb, if_neg hb]
      have hl : ¬ indexByte l c < 0 := by
        intro hl
        apply h
        have := indexByte_ge l c
        have e : indexByte l c = -1 := by omega
        unfold indexByte
        rw [if_neg hb, e]
        decide
      rw [index_append t hl]
/-- Fuel plays no part. -/
theorem uL_fuel (R : List UInt8 → List UInt8) (attr : Bool) : ∀ (d d' i : Nat) (l : List UInt8), l.length ≤ d → l.length ≤ d' → uL R attr d i l = uL R attr d' i l
  | d, d', i, [], _, _ => by cases d <;> cases d' <;> rfl
  | 0, _, _, b :: l, h, _ => absurd h (by simp)
  | _ + 1, 0, _, b :: l, _, h => absurd h (by simp)
  | d + 1, d' + 1, i, b :: l, h, h' => by
    simp only [List.length_cons, Nat.add_le_add_iff_right] at h h'
    rw [uL, uL]
    by_cases hb : b = 38
    · rw [if_pos hb, if_pos hb]
      by_cases hn : indexByte (b :: l) 59 < 0
      · rw [if_pos hn, if_pos hn]
      · rw [if_neg hn, if_neg hn]
        have hk := index_lt hn
        rw [uL_fuel R attr d d' _ _ (by simp; omega) (by simp; omega)]
    · rw [if_neg hb, if_neg hb]
      by_cases hc : b = 13 ∧ l.head? = some 10
      · rw [if_pos hc, if_pos hc, uL_fuel R attr d d' _ _ (by simp; omega) (by simp; omega)]
      · rw [if_neg hc, if_neg hc, uL_fuel R attr d d' _ _ h h']
/-- Two texts that are right, the first one not ending in 13, one behind the other. -/
theorem uL_append (R : List UInt8 → List UInt8) (attr : Bool) (t : List UInt8) (D : Nat) (hD : t.length ≤ D) : ∀ (d i : Nat) (s r : List UInt8), s.length ≤ d → uL R attr d i s = .ok r → s.getLast? ≠ some 13 →
    uL R attr (d + D) i (s ++ t) = (uL R attr D (i + s.length) t).map (r ++ ·)
  | d, i, [], r, _, h, _ => by
    have : r = [] := by cases d <;> (rw [uL] at h; cases h; rfl)
    subst this
    rw [List.nil_append, uL_fuel R attr (d + D) D i t (by omega) hD]
    cases uL R attr D i t <;> rfl
  | 0, _, b :: l, _, h, _, _ => absurd h (by simp)
  | d + 1, i, b :: l, r, hd, h, hl => by
    simp only [List.length_cons, Nat.add_le_add_iff_right] at hd
    rw [uL] at h
    rw [show d + 1 + D = (d + D) + 1 by omega, List.cons_append, uL]
    by_cases hb : b = 38
    · rw [if_pos hb] at h ⊢
      by_cases hn : indexByte (b :: l) 59 < 0
      · rw [if_pos hn] at h; cases h
      · rw [if_neg hn] at h
        have hk := index_lt hn
        have e : indexByte (b :: (l ++ t)) 59 = indexByte (b :: l) 59 := index_append (l := b :: l) t hn
        rw [e, if_neg hn]
        generalize (indexByte (b :: l) 59).toNat = n at h hk ⊢
        have ht : (l ++ t).take (n - 1) = l.take (n - 1) := List.take_append_of_le_length (by simp at hk; omega)
        rw [ht]
        by_cases hr : R (l.take (n - 1)) = []
        · rw [if_pos hr] at h; cases h
        · rw [if_neg hr] at h ⊢
          have hdr : (b :: (l ++ t)).drop (n + 1) = (b :: l).drop (n + 1) ++ t := by
            simp only [List.drop_succ_cons]
            exact List.drop_append_of_le_length (by simp at hk; omega)
          rw [hdr]
          cases hu : uL R attr d (i + n + 1) ((b :: l).drop (n + 1)) with
          | error x => rw [hu] at h; cases h
          | ok r' =>
            rw [hu] at h
            obtain rfl : R (l.take (n - 1)) ++ r' = r := by cases h; rfl
            rw [uL_append R attr t D hD d _ _ r' (by simp; omega) hu ?_]
            · have : i + n + 1 + ((b :: l).drop (n + 1)).length = i + (b :: l).length := by simp at hk ⊢; omega
              rw [this]
              cases uL R attr D (i + (b :: l).length) t <;> simp [Except.map]
            · intro hh
              apply hl
              rw [List.getLast?_drop] at hh
              split at hh
              · cases hh
              · exact hh
    · rw [if_neg hb] at h ⊢
      have hl' : l.getLast? ≠ some 13 ∨ l = [] := by
        cases l with
        | nil => exact Or.inr rfl
        | cons a m => exact Or.inl (by rwa [List.getLast?_cons_cons] at hl)
      by_cases hc : b = 13 ∧ l.head? = some 10
      · obtain ⟨rfl, hh⟩ := hc
        cases l with
        | nil => cases hh
        | cons a m =>
          obtain rfl : a = 10 := by simpa using hh
          rw [if_pos ⟨rfl, rfl⟩] at h
          rw [if_pos ⟨rfl, rfl⟩]
          simp only [List.cons_append, List.tail_cons] at h ⊢
          cases hu : uL R attr d (i + 2) m with
          | error x => rw [hu] at h; cases h
          | ok r' =>
            rw [hu] at h
            obtain rfl : blk attr 10 :: r' = r := by cases h; rfl
            have hm : m.getLast? ≠ some 13 := by
              cases m with
              | nil => simp
              | cons x y => rw [List.getLast?_cons_cons, List.getLast?_cons_cons] at hl; exact hl
            rw [uL_append R attr t D hD d _ m r' (by simp at hd; omega) hu hm]
            have : i + 2 + m.length = i + (13 :: 10 :: m : List UInt8).length := by simp; omega
            rw [this]
            cases uL R attr D (i + (13 :: 10 :: m : List UInt8).length) t <;> simp [Except.map]
      · rw [if_neg hc] at h
        have hc' : ¬ (b = 13 ∧ (l ++ t).head? = some 10) := by
          rintro ⟨rfl, hh⟩
          cases l with
          | nil => exact hl (by simp)
          | cons a m => exact hc ⟨rfl, by simpa using hh⟩
        rw [if_neg hc']
        cases hu : uL R attr d (i + 1) l with
        | error x => rw [hu] at h; cases h
        | ok r' =>
          rw [hu] at h
          obtain rfl : blk attr (if b = 13 then 10 else b) :: r' = r := by cases h; rfl
          have hm : l.getLast? ≠ some 13 := by
            rcases hl' with h' | rfl
            · exact h'
            · simp
          rw [uL_append R attr t D hD d _ l r' hd hu hm]
          have : i + 1 + l.length = i + (b :: l).length := by simp; omega
          rw [this]
          cases uL R attr D (i + (b :: l).length) t <;> simp [Except.map]

/-- 13 10 becomes 10. -/
def crlf : List UInt8 → List UInt8
  | [] => []
  | [b] => [b]
  | b :: c :: l => if b = 13 ∧ c = 10 then 10 :: crlf l else b :: crlf (c :: l)
/-- A line's ends as they stand for. -/
def endsL (s : List UInt8) : List UInt8 := (crlf s).map (fun x => if x = 13 then 10 else x)
def blankL (s : List UInt8) : List UInt8 := (s.map (fun x => if x = 10 then 32 else x)).map (fun x => if x = 9 then 32 else x)

def plainL (attr : Bool) (s : List UInt8) : List UInt8 := if attr = true then blankL (endsL s) else endsL s
theorem plainL_nil (attr : Bool) : plainL attr [] = [] := by cases attr <;> rfl
theorem blk_map (attr : Bool) (s : List UInt8) : plainL attr s = (endsL s).map (blk attr) := by
  unfold plainL
  cases attr with
  | true =>
    rw [if_pos rfl]
    unfold blankL blk
    rw [List.map_map]
    apply List.map_congr_left
    intro x _
    simp only [Function.comp]
    by_cases h : x = 10
    · subst h; decide
    · by_cases h9 : x = 9
      · subst h9; decide
      · simp [h, h9]
  | false =>
    rw [if_neg (by decide)]
    have : blk false = id := by funext x; unfold blk; simp
    rw [this, List.map_id]
theorem plainL_crlf (attr : Bool) (l : List UInt8) : plainL attr (13 :: 10 :: l) = blk attr 10 :: plainL attr l := by
  rw [blk_map, blk_map]; unfold endsL; rw [crlf, if_pos ⟨rfl, rfl⟩]; simp
theorem plainL_cons (attr : Bool) (b : UInt8) (l : List UInt8) (h : ¬ (b = 13 ∧ l.head? = some 10)) : plainL attr (b :: l) = blk attr (if b = 13 then 10 else b) :: plainL attr l := by
  rw [blk_map, blk_map]; unfold endsL
  cases l with
  | nil => simp [crlf]
  | cons c l =>
    rw [crlf, if_neg (by simpa using h)]
    simp
theorem plainL_len (attr : Bool) : ∀ l, (plainL attr l).length ≤ l.length := by
  intro l
  rw [blk_map, List.length_map]
  unfold endsL
  rw [List.length_map]
  induction l using crlf.induct with
  | case1 => simp [crlf]
  | case2 b => simp [crlf]
  | case3 b c l h ih => rw [crlf, if_pos h]; simp; omega
  | case4 b c l h ih => rw [crlf, if_neg h]; simp at ih ⊢; omega
/-- A piece without &, with what does not begin in 10 behind it. -/
theorem uL_piece (R : List UInt8 → List UInt8) (attr : Bool) (q : List UInt8) (D : Nat) (hD : q.length ≤ D) (hq : q.head? ≠ some 10) : ∀ (d i : Nat) (p : List UInt8), p.length ≤ d → (∀ b ∈ p, b ≠ 38) →
    uL R attr (d + D) i (p ++ q) = (uL R attr D (i + p.length) q).map (plainL attr p ++ ·)
  | d, i, [], _, _ => by
    rw [List.nil_append, uL_fuel R attr (d + D) D i q (by omega) hD, plainL_nil]
    cases uL R attr D i q <;> simp [Except.map]
  | 0, _, b :: l, hd, _ => absurd hd (by simp)
  | d + 1, i, b :: l, hd, h => by
    simp only [List.length_cons, Nat.add_le_add_iff_right] at hd
    have hb := h b (by simp)
    rw [show d + 1 + D = (d + D) + 1 by omega, List.cons_append, uL, if_neg hb]
    by_cases hc : b = 13 ∧ l.head? = some 10
    · obtain ⟨rfl, hh⟩ := hc
      cases l with
      | nil => cases hh
      | cons a m =>
        obtain rfl : a = 10 := by simpa using hh
        simp only [List.cons_append, List.head?_cons, and_self, if_true, List.tail_cons]
        rw [uL_piece R attr q D hD hq d _ m (by simp at hd; omega) (fun c hc => h c (by simp [hc])), plainL_crlf]
        have : i + 2 + m.length = i + (13 :: 10 :: m : List UInt8).length := by simp; omega
        rw [this]
        cases uL R attr D (i + (13 :: 10 :: m : List UInt8).length) q <;> simp [Except.map]
    · have hc' : ¬ (b = 13 ∧ (l ++ q).head? = some 10) := by
        rintro ⟨rfl, hh⟩
        cases l with
        | nil => exact hq (by simpa using hh)
        | cons a m => exact hc ⟨rfl, by simpa using hh⟩
      rw [if_neg hc', uL_piece R attr q D hD hq d _ l hd (fun c hc => h c (by simp [hc])), plainL_cons attr b l hc]
      have : i + 1 + l.length = i + (b :: l).length := by simp; omega
      rw [this]
      cases uL R attr D (i + (b :: l).length) q <;> simp [Except.map]
/-- A text by chunks, as the program goes. -/
def uC (R : List UInt8 → List UInt8) (attr : Bool) : Nat → Nat → List UInt8 → Except Nat (List UInt8)
  | 0, _, _ => .ok []
  | d + 1, i, l =>
    if l = [] then .ok []
    else if indexByte l 38 < 0 then .ok (plainL attr l)
    else if indexByte (l.drop (indexByte l 38).toNat) 59 < 0 then .error (i + (indexByte l 38).toNat)
    else if R ((l.drop ((indexByte l 38).toNat + 1)).take ((indexByte (l.drop (indexByte l 38).toNat) 59).toNat - 1)) = [] then .error (i + (indexByte l 38).toNat)
    else (uC R attr d (i + (indexByte l 38).toNat + (indexByte (l.drop (indexByte l 38).toNat) 59).toNat + 1) (l.drop ((indexByte l 38).toNat + (indexByte (l.drop (indexByte l 38).toNat) 59).toNat + 1))).map
      (plainL attr (l.take (indexByte l 38).toNat) ++ R ((l.drop ((indexByte l 38).toNat + 1)).take ((indexByte (l.drop (indexByte l 38).toNat) 59).toNat - 1)) ++ ·)
theorem index_none {c : UInt8} : ∀ {l : List UInt8}, indexByte l c < 0 → ∀ b ∈ l, b ≠ c
  | [], _, b, hb => absurd hb (by simp)
  | a :: l, h, b, hb => by
    have e : indexByte (a :: l) c = if a == c then 0 else if indexByte l c == -1 then -1 else indexByte l c + 1 := rfl
    rw [e] at h
    by_cases ha : a == c
    · rw [if_pos ha] at h; exact absurd h (by decide)
    · rw [if_neg ha] at h
      have hge := indexByte_ge l c
      have hl : indexByte l c < 0 := by
        by_cases hm : indexByte l c == -1
        · have := eq_of_beq hm; omega
        · rw [if_neg hm] at h; omega
      rcases List.mem_cons.1 hb with rfl | hb
      · exact fun hh => ha (by simp [hh])
      · exact index_none hl b hb
theorem index_before {c : UInt8} : ∀ {l : List UInt8} {n : Nat}, indexByte l c = (n : Int) → ∀ b ∈ l.take n, b ≠ c
  | [], n, _, b, hb => absurd hb (by simp)
  | a :: l, n, h, b, hb => by
    have e : indexByte (a :: l) c = if a == c then 0 else if indexByte l c == -1 then -1 else indexByte l c + 1 := rfl
    rw [e] at h
    by_cases ha : a == c
    · rw [if_pos ha] at h
      obtain rfl : n = 0 := by omega
      exact absurd hb (by simp)
    · rw [if_neg ha] at h
      by_cases hm : indexByte l c == -1
      · rw [if_pos hm] at h; omega
      · rw [if_neg hm] at h
        have hge := indexByte_ge l c
        have hne : indexByte l c ≠ -1 := fun h' => hm (by simp [h'])
        cases n with
        | zero => omega
        | succ n =>
          rw [List.take_succ_cons] at hb
          rcases List.mem_cons.1 hb with rfl | hb
          · exact fun hh => ha (by simp [hh])
          · exact index_before (n := n) (by omega) b hb
theorem uC_uL (R : List UInt8 → List UInt8) (attr : Bool) : ∀ (d i : Nat) (l : List UInt8), l.length ≤ d → uC R attr d i l = uL R attr d i l
  | 0, i, l, h => by
    cases l with
    | nil => rfl
    | cons b l => exact absurd h (by simp)
  | d + 1, i, l, hd => by
    rw [uC]
    by_cases hl : l = []
    · subst hl; rfl
    · rw [if_neg hl]
      by_cases hn : indexByte l 38 < 0
      · rw [if_pos hn]
        have h := uL_piece R attr [] 0 (by simp) (by simp) (d + 1) i l hd (index_none hn)
        rw [List.append_nil, Nat.add_zero] at h
        rw [h]
        show _ = Except.map _ (.ok [])
        simp [Except.map]
      · rw [if_neg hn]
        obtain ⟨n, hnn⟩ := Int.eq_ofNat_of_zero_le (show 0 ≤ indexByte l 38 by omega)
        have hlt := index_lt hn
        have hat := (indexByte_some hnn).1
        have hbf := index_before hnn
        rw [hnn] at hlt ⊢
        simp only [Int.toNat_natCast] at hlt ⊢
        have hsplit : l = l.take n ++ l.drop n := (List.take_append_drop n l).symm
        have hcons : l.drop n = 38 :: l.drop (n + 1) := by
          rw [List.drop_eq_getElem_cons hlt]
          congr 1
          rw [List.getElem?_eq_getElem hlt] at hat
          simpa using hat
        have hp := uL_piece R attr (l.drop n) (d + 1 - n) (by simp; omega) (by rw [hcons]; simp) n i (l.take n) (by simp; omega) hbf
        rw [← hsplit, show n + (d + 1 - n) = d + 1 by omega] at hp
        rw [hp]
        have hln : (l.take n).length = n := by simp; omega
        rw [hln]
        obtain ⟨e, he⟩ : ∃ e, d + 1 - n = e + 1 := ⟨d - n, by omega⟩
        rw [he, hcons, uL, if_pos rfl]
        by_cases hs : indexByte (38 :: l.drop (n + 1)) 59 < 0
        · rw [if_pos hs, if_pos hs]; rfl
        · rw [if_neg hs, if_neg hs]
          have hk := index_lt hs
          generalize (indexByte (38 :: l.drop (n + 1)) 59).toNat = k at hk ⊢
          by_cases hr : R ((l.drop (n + 1)).take (k - 1)) = []
          · rw [if_pos hr, if_pos hr]; rfl
          · rw [if_neg hr, if_neg hr]
            have hdr : (38 :: l.drop (n + 1)).drop (k + 1) = l.drop (n + k + 1) := by
              rw [← hcons, List.drop_drop]
              congr 1
            rw [hdr]
            rw [uC_uL R attr d _ _ (by simp; omega), uL_fuel R attr e d _ _ (by simp at hk ⊢; omega) (by simp; omega)]
            cases uL R attr d (i + n + k + 1) (l.drop (n + k + 1)) <;> simp [Except.map]
end Go.Plain
/- strings.ReplaceAll of one byte, and of 13 10, byte by byte. No program in sight. -/
namespace Go.Plain
open Go.Lib
theorem count_nil (old : List UInt8) (h : old ≠ []) : count [] old = 0 := by
  apply count_miss
  unfold index
  cases old with
  | nil => exact absurd rfl h
  | cons a t => rfl
theorem repl_nil (old new : List UInt8) (h : old ≠ []) : replaceAll [] old new = [] := by
  unfold replaceAll replace
  split
  · rfl
  · unfold replaceNum
    rw [if_pos (Or.inl (by decide)), count_nil old h]
    rfl
theorem repl_hit (old new : List UInt8) (hne : old ≠ new) (h : old ≠ []) (s : List UInt8) (hp : old.isPrefixOf s = true) :
    replaceAll s old new = new ++ replaceAll (s.drop old.length) old new := by
  have hi : index s old = ((0 : Nat) : Int) := by
    cases s with
    | nil => cases old with
      | nil => exact absurd rfl h
      | cons a t => exact absurd hp (by simp)
    | cons b l => unfold index; rw [if_pos hp]; rfl
  have hb : (old == new) = false := by simpa using hne
  have hc := count_hit h hi
  unfold replaceAll replace replaceNum
  rw [hb]
  simp only [Bool.false_eq_true, if_false]
  rw [if_pos (Or.inl (by decide)), if_pos (Or.inl (by decide)), hc, Nat.add_comm, replaceK_hit old new _ s 0 hi]
  simp
theorem repl_miss (old new : List UInt8) (hne : old ≠ new) (h : old ≠ []) (b : UInt8) (l : List UInt8) (hp : old.isPrefixOf (b :: l) = false) :
    replaceAll (b :: l) old new = b :: replaceAll l old new := by
  have hb : (old == new) = false := by simpa using hne
  have e : index (b :: l) old = if index l old == -1 then -1 else index l old + 1 := by
    conv => lhs; unfold index
    rw [hp]
    simp
  unfold replaceAll replace replaceNum
  rw [hb]
  simp only [Bool.false_eq_true, if_false]
  rw [if_pos (Or.inl (by decide)), if_pos (Or.inl (by decide))]
  by_cases hm : index l old = -1
  · rw [hm] at e
    have e' : index (b :: l) old = -1 := by rw [e]; rfl
    rw [count_miss hm, count_miss e']
    rfl
  · have hge := index_ge l old
    obtain ⟨i, hi⟩ := Int.eq_ofNat_of_zero_le (show 0 ≤ index l old by omega)
    have e' : index (b :: l) old = ((i + 1 : Nat) : Int) := by
      rw [e, hi]
      have : ((i : Int) == -1) = false := beq_eq_false_iff_ne.2 (by omega)
      simp [this]
    rw [count_hit h e', count_hit h hi]
    have hd : (b :: l).drop (i + 1 + old.length) = l.drop (i + old.length) := by
      rw [show i + 1 + old.length = (i + old.length) + 1 by omega, List.drop_succ_cons]
    rw [hd, Nat.add_comm 1, replaceK_hit old new _ l i hi, replaceK_hit old new _ (b :: l) (i + 1) e', hd]
    simp
/-- One byte for another. -/
theorem repl_one (c d : UInt8) (hcd : c ≠ d) : ∀ s : List UInt8, replaceAll s [c] [d] = s.map (fun x => if x = c then d else x)
  | [] => repl_nil _ _ (by simp)
  | b :: l => by
    by_cases hb : b = c
    · subst hb
      rw [repl_hit [b] [d] (by simpa using hcd) (by simp) _ (by simp)]
      simp [repl_one b d hcd l]
    · rw [repl_miss [c] [d] (by simpa using hcd) (by simp) b l (by simp [List.isPrefixOf]; exact fun h => hb h.symm), repl_one c d hcd l]
      simp [hb]
theorem repl_crlf : ∀ s : List UInt8, replaceAll s [13, 10] [10] = crlf s
  | [] => repl_nil _ _ (by simp)
  | [b] => by
    rw [repl_miss _ _ (by simp) (by simp) b [] (by simp [List.isPrefixOf]), repl_nil _ _ (by simp)]
    rfl
  | b :: c :: l => by
    unfold crlf
    by_cases h : b = 13 ∧ c = 10
    · rw [if_pos h]
      obtain ⟨rfl, rfl⟩ := h
      rw [repl_hit _ _ (by simp) (by simp) _ (by simp)]
      simp [repl_crlf l]
    · rw [if_neg h, repl_miss _ _ (by simp) (by simp) b (c :: l) ?_, repl_crlf (c :: l)]
      simp only [List.isPrefixOf, Bool.and_true]
      rcases Bool.eq_false_or_eq_true ((13 : UInt8) == b && (10 : UInt8) == c) with h' | h'
      · simp only [Bool.and_eq_true, beq_iff_eq] at h'
        exact absurd ⟨h'.1.symm, h'.2.symm⟩ h
      · exact h'
end Go.Plain
/- What lex's small functions, and the document's, come to: signs, digits, a reference's inner part. -/
namespace Go.Proofs.YtffpbhbiamkkpaaDoor.PL
open Go.RowKit Go.Proofs.YtffpbhbiamkkpaaDoorW.PrintWords Go.Proofs.YtffpbhbiamkkpaaDoorW.PrintLast Go.Proofs.YtffpbhbiamkkpaaDoorW.PrintMore
set_option linter.unusedVariables false
def charB (n : Int) : Bool := decide (n = 9 ∨ n = 10 ∨ n = 13 ∨ (32 ≤ n ∧ n ≤ 55295) ∨ (57344 ≤ n ∧ n ≤ 65533) ∨ (65536 ≤ n ∧ n ≤ 1114111))
theorem w64 (x : Int) (h0 : -9223372036854775808 ≤ x) (h1 : x ≤ 9223372036854775807) : wrap64 x = x := by
  unfold wrap64
  omega
theorem w64_1 : wrap64 1 = 1 := w64 _ (by omega) (by omega)
theorem w64_2 : wrap64 2 = 2 := w64 _ (by omega) (by omega)
theorem w64_3 : wrap64 3 = 3 := w64 _ (by omega) (by omega)
theorem w64_4 : wrap64 4 = 4 := w64 _ (by omega) (by omega)
theorem w64_5 : wrap64 5 = 5 := w64 _ (by omega) (by omega)
theorem w64_6 : wrap64 6 = 6 := w64 _ (by omega) (by omega)
theorem w64_7 : wrap64 7 = 7 := w64 _ (by omega) (by omega)
theorem utf_char (n : Int) : utf_Char.f 11 n = some (charB n) := by
  unfold utf_Char.f utf_within.f charB
  simp [utf_within.l0, w64_1, w64_2, w64_3, w64_4, w64_5, rd_T102]
  repeat' split
  all_goals first | (simp; omega) | omega | (exfalso; omega) | skip
theorem ref_char (n : Int) : watchbillref01_Char.f 12 n = some (charB n) := by
  unfold watchbillref01_Char.f watchbillref01_in.f charB
  simp [watchbillref01_in.l0, w64_1, w64_2, w64_3, w64_4, w64_5, w64_6, w64_7, rd]
  repeat' split
  all_goals first | (simp; omega) | omega | (exfalso; omega) | skip
theorem or192 : ∀ x : Fin 32, Go.bits .or .u8 ((x.val : Nat) : Int) 192 = 192 + ((x.val : Nat) : Int) := by decide +kernel
theorem or224 : ∀ x : Fin 16, Go.bits .or .u8 ((x.val : Nat) : Int) 224 = 224 + ((x.val : Nat) : Int) := by decide +kernel
theorem or240 : ∀ x : Fin 8, Go.bits .or .u8 ((x.val : Nat) : Int) 240 = 240 + ((x.val : Nat) : Int) := by decide +kernel
theorem or128 : ∀ x : Fin 64, Go.bits .or .u8 ((x.val : Nat) : Int) 128 = 128 + ((x.val : Nat) : Int) := by decide +kernel
theorem and63 (r : Int) (h0 : 0 ≤ r) (h1 : r ≤ 1114111) : Go.bits .and .i32 r 63 = r % 64 := by
  obtain ⟨n, rfl⟩ := Int.eq_ofNat_of_zero_le h0
  have hn : n < 2 ^ 32 := by omega
  have e : Go.bits .and .i32 ((n : Nat) : Int) 63 = Go.IntKind.i32.wrap ((n &&& 63 : Nat) : Int) := by
    unfold Go.bits
    simp
    rw [show Go.IntKind.i32.bits = 32 from rfl, Nat.mod_eq_of_lt hn]
  have e2 : n &&& 63 = n % 64 := Nat.and_two_pow_sub_one_eq_mod n 6
  rw [e, e2]
  have h3 : n % 64 < 64 := Nat.mod_lt _ (by decide)
  have h4 : ((n : Nat) : Int) % 64 = ((n % 64 : Nat) : Int) := by omega
  rw [h4]
  generalize n % 64 = m at h3
  have : ∀ x : Fin 64, Go.IntKind.i32.wrap ((x.val : Nat) : Int) = ((x.val : Nat) : Int) := by decide +kernel
  exact this ⟨m, h3⟩
theorem u8w (x : Int) (h0 : 0 ≤ x) (h1 : x < 256) : Go.IntKind.u8.wrap x = x := by
  obtain ⟨n, rfl⟩ := Int.eq_ofNat_of_zero_le h0
  have : ∀ x : Fin 256, Go.IntKind.u8.wrap ((x.val : Nat) : Int) = ((x.val : Nat) : Int) := by decide +kernel
  exact this ⟨n, by omega⟩
theorem or_at (N : Nat) (c : Int) (H : ∀ x : Fin N, Go.bits .or .u8 ((x.val : Nat) : Int) c = c + ((x.val : Nat) : Int)) (x : Int) (h0 : 0 ≤ x) (h1 : x < N) : Go.bits .or .u8 x c = c + x := by
  obtain ⟨n, rfl⟩ := Int.eq_ofNat_of_zero_le h0
  exact H ⟨n, by omega⟩
theorem put_tail (r : Int) (h0 : 0 ≤ r) (h1 : r ≤ 1114111) : utf_Put_tail r = 128 + r % 64 := by
  unfold utf_Put_tail
  rw [and63 r h0 h1]
  have : r % 64 % 256 = r % 64 := by omega
  rw [this]
  exact or_at 64 128 or128 _ (by omega) (by omega)
theorem char_put (n : Int) (h : watchbillref01_Sign.f n = some true) (h0 : 0 ≤ n) (h1 : n ≤ 1114111) : watchbillref01_Put.f n = some (strOfNums (utf_Put_bytes n)) := by
  unfold watchbillref01_Put.f utf_Put_bytes
  rw [h]
  have t0 := put_tail n h0 h1
  have t1 := put_tail (n / 64) (by omega) (by omega)
  have t2 := put_tail (n / 4096) (by omega) (by omega)
  simp only [Option.bind_some, if_true]
  by_cases c1 : n < 128
  · rw [if_pos c1, if_pos c1, show n % 256 = n by omega]
  rw [if_neg c1, if_neg c1]
  by_cases c2 : n < 2048
  · rw [if_pos c2, if_pos c2, t0, u8w (n / 64) (by omega) (by omega), or_at 32 192 or192 (n / 64) (by omega) (by omega)]
    rw [show Int.tdiv n 64 = n / 64 from Int.tdiv_eq_ediv_of_nonneg h0, show Int.tmod n 64 = n % 64 from Int.tmod_eq_emod_of_nonneg h0]
    rw [w64 (n / 64) (by omega) (by omega), w64 (192 + n / 64) (by omega) (by omega), w64 (128 + n % 64) (by omega) (by omega), show (192 + n / 64) % 256 = 192 + n / 64 by omega, show (128 + n % 64) % 256 = 128 + n % 64 by omega]
  rw [if_neg c2, if_neg c2]
  have d1 : Int.tdiv n 64 = n / 64 := Int.tdiv_eq_ediv_of_nonneg h0
  have d2 : Int.tdiv n 4096 = n / 4096 := Int.tdiv_eq_ediv_of_nonneg h0
  have d3 : Int.tdiv n 262144 = n / 262144 := Int.tdiv_eq_ediv_of_nonneg h0
  have m0 : Int.tmod n 64 = n % 64 := Int.tmod_eq_emod_of_nonneg h0
  have m1 : Int.tmod (n / 64) 64 = n / 64 % 64 := Int.tmod_eq_emod_of_nonneg (by omega)
  have m2 : Int.tmod (n / 4096) 64 = n / 4096 % 64 := Int.tmod_eq_emod_of_nonneg (by omega)
  have v1 : wrap64 (n / 64) = n / 64 := w64 _ (by omega) (by omega)
  have v2 : wrap64 (n / 4096) = n / 4096 := w64 _ (by omega) (by omega)
  have v3 : wrap64 (n / 262144) = n / 262144 := w64 _ (by omega) (by omega)
  have x0 : wrap64 (128 + n % 64) = 128 + n % 64 := w64 _ (by omega) (by omega)
  have x1 : wrap64 (128 + n / 64 % 64) = 128 + n / 64 % 64 := w64 _ (by omega) (by omega)
  have x2 : wrap64 (128 + n / 4096 % 64) = 128 + n / 4096 % 64 := w64 _ (by omega) (by omega)
  have y0 : (128 + n % 64) % 256 = 128 + n % 64 := by omega
  have y1 : (128 + n / 64 % 64) % 256 = 128 + n / 64 % 64 := by omega
  have y2 : (128 + n / 4096 % 64) % 256 = 128 + n / 4096 % 64 := by omega
  by_cases c3 : n < 65536
  · rw [if_pos c3, if_pos c3, t0, t1, u8w (n / 4096) (by omega) (by omega), or_at 16 224 or224 (n / 4096) (by omega) (by omega)]
    rw [d2, v2, d1, v1, m0, m1, x0, x1, y0, y1, w64 (224 + n / 4096) (by omega) (by omega), show (224 + n / 4096) % 256 = 224 + n / 4096 by omega]
  rw [if_neg c3, if_neg c3, t0, t1, t2, u8w (n / 262144) (by omega) (by omega), or_at 8 240 or240 (n / 262144) (by omega) (by omega)]
  rw [d3, v3, d2, v2, d1, v1, m0, m1, m2, x0, x1, x2, y0, y1, y2, w64 (240 + n / 262144) (by omega) (by omega), show (240 + n / 262144) % 256 = 240 + n / 262144 by omega]
def smallI (c : Int) : Int := if 65 ≤ c ∧ c ≤ 90 then (c + 32) % 256 else c
def sDig (s : Int) : Int := if 97 ≤ s ∧ s ≤ 102 then s - 87 else if 48 ≤ s ∧ s ≤ 57 then s - 48 else 99
theorem dig_eq : ∀ x : Fin 256, lex_dig ((x.val : Nat) : Int) = sDig (smallI ((x.val : Nat) : Int)) := by decide +kernel
theorem dig_at (c : Int) (h0 : 0 ≤ c) (h1 : c ≤ 255) : lex_dig c = sDig (smallI c) := by
  obtain ⟨n, rfl⟩ := Int.eq_ofNat_of_zero_le h0
  exact dig_eq ⟨n, by omega⟩
theorem small_f (c : Int) : watchbillref03_small.f c = some (smallI c) := by
  unfold watchbillref03_small.f smallI
  by_cases h1 : c ≥ 65
  · by_cases h2 : c ≤ 90
    · rw [if_pos h1, if_pos h2, if_pos ⟨h1, h2⟩]
    · rw [if_pos h1, if_neg h2, if_neg (fun h => h2 h.2)]
  · rw [if_neg h1, if_neg (fun h => h1 h.1)]
theorem smallI_range (c : Int) (h0 : 0 ≤ c) (h1 : c ≤ 255) : 0 ≤ smallI c ∧ smallI c ≤ 255 := by
  unfold smallI
  split <;> omega
theorem number_step (k : Nat) (x0 : ByteArray) (base r : Int) (i : Nat) (h : i < x0.size) :
    watchbillref03_number.l0 (k + 5) x0 base r i = if sDig (smallI (bt x0 i)) ≥ base then some (-1) else if r < 2000000 then watchbillref03_number.l0 k x0 base (wrap64 (wrap64 (r * base) + sDig (smallI (bt x0 i)))) (wrap64 (i + 1)) else watchbillref03_number.l0 k x0 base r (wrap64 (i + 1)) := by
  have hb := bt_range x0 i
  have hs := smallI_range (bt x0 i) hb.1 hb.2
  rw [watchbillref03_number.l0, if_pos (show (i : Int) < (x0.size : Int) by omega), if_pos (show (0 : Int) ≤ (i : Int) by omega), small_f, Option.bind_some]
  generalize smallI (bt x0 i) = s at hs
  have j4 : ∀ d, watchbillref03_number.j4 (k + 1) x0 base r i d = if d ≥ base then some (-1) else if r < 2000000 then watchbillref03_number.l0 k x0 base (wrap64 (wrap64 (r * base) + d)) (wrap64 (i + 1)) else watchbillref03_number.l0 k x0 base r (wrap64 (i + 1)) := fun d => by rw [watchbillref03_number.j4]
  have j2 : ∀ d, watchbillref03_number.j2 (k + 3) x0 base r i d s = watchbillref03_number.j4 (k + 1) x0 base r i (if 97 ≤ s ∧ s ≤ 102 then s - 87 else d) := by
    intro d
    have ws : wrap64 (wrap64 s - 87) = s - 87 := by rw [w64 s (by omega) (by omega), w64 _ (by omega) (by omega)]
    rw [watchbillref03_number.j2]
    by_cases h1 : s ≥ 97
    · by_cases h2 : s ≤ 102
      · rw [if_pos h1, decide_eq_true h2, watchbillref03_number.j3, if_pos rfl, if_pos ⟨h1, h2⟩, ws]
      · rw [if_pos h1, decide_eq_false h2, watchbillref03_number.j3, if_neg (by decide), if_neg (fun h => h2 h.2)]
    · rw [if_neg h1, watchbillref03_number.j3, if_neg (by decide), if_neg (fun h => h1 h.1)]
  have ws : wrap64 (wrap64 s - 48) = s - 48 := by rw [w64 s (by omega) (by omega), w64 _ (by omega) (by omega)]
  unfold sDig
  rw [← j4]
  by_cases h1 : s ≥ 48
  · by_cases h2 : s ≤ 57
    · rw [if_pos h1, decide_eq_true h2, watchbillref03_number.j1, if_pos rfl, ws, j2, if_pos (show 48 ≤ s ∧ s ≤ 57 from ⟨h1, h2⟩)]
    · rw [if_pos h1, decide_eq_false h2, watchbillref03_number.j1, if_neg (by decide), j2, if_neg (show ¬ (48 ≤ s ∧ s ≤ 57) from fun h => h2 h.2)]
  · rw [if_neg h1, watchbillref03_number.j1, if_neg (by decide), j2, if_neg (show ¬ (48 ≤ s ∧ s ≤ 57) from fun h => h1 h.1)]
def NRel (q r : Int) : Prop := (q = r ∧ 0 ≤ q ∧ q < 2000000) ∨ (2000000 ≤ q ∧ q ≤ 2097152 ∧ 2000000 ≤ r ∧ r ≤ 33000000)
theorem number_ok (x0 : ByteArray) (hsz : x0.size ≤ 140737488351232) (base : Int) (hb : base = 10 ∨ base = 16) : ∀ (d i : Nat) (q r : Int), i + d = x0.size → NRel q r →
    match lex_digs base q ((bytesOf x0).drop i) with
    | none => ∃ k, watchbillref03_number.l0 k x0 base r i = some (-1)
    | some q' => ∃ k r', NRel q' r' ∧ watchbillref03_number.l0 k x0 base r i = some (if x0.toList = [] then -1 else r') := by
  intro d
  induction d with
  | zero =>
    intro i q r hi hr
    have hd : (bytesOf x0).drop i = [] := List.drop_of_length_le (by rw [bytesOf_length]; omega)
    rw [hd]
    simp only [lex_digs]
    refine ⟨1, r, hr, ?_⟩
    rw [watchbillref03_number.l0, if_neg (by omega)]
    split <;> rfl
  | succ d ih =>
    intro i q r hi hr
    have hlt : i < x0.size := by omega
    have hdr : (bytesOf x0).drop i = bt x0 i :: (bytesOf x0).drop (i + 1) := by
      have hl : i < (bytesOf x0).length := by rw [bytesOf_length]; exact hlt
      rw [List.drop_eq_getElem_cons hl]
      congr 1
      have := rd_bytesOf x0 i
      unfold rd at this
      rw [← this]
      simp [hl]
    have hbt := bt_range x0 i
    rw [hdr]
    simp only [lex_digs]
    rw [dig_at _ hbt.1 hbt.2]
    have hst := fun k => number_step k x0 base r i hlt
    have hrange : 0 ≤ sDig (smallI (bt x0 i)) ∧ (sDig (smallI (bt x0 i)) < 16 ∨ sDig (smallI (bt x0 i)) = 99) := by
      unfold sDig
      split
      · omega
      · split <;> omega
    generalize sDig (smallI (bt x0 i)) = g at hst hrange
    by_cases hg : g ≥ base
    · rw [if_pos hg]
      exact ⟨0 + 5, by rw [hst, if_pos hg]⟩
    · rw [if_neg hg]
      have e1 : wrap64 ((i : Int) + 1) = ((i + 1 : Nat) : Int) := by rw [w64 _ (by omega) (by omega)]; omega
      by_cases hr2 : r < 2000000
      · have hb2 : base ≤ 16 ∧ 10 ≤ base := by omega
        obtain ⟨hqr, hq0, hq1⟩ : q = r ∧ 0 ≤ q ∧ q < 2000000 := by
          rcases hr with h | h
          · exact h
          · omega
        subst hqr
        have hm0 : 0 ≤ q * base := Int.mul_nonneg hq0 (by omega)
        have hm1 : q * base ≤ 32000000 := by rcases hb with rfl | rfl <;> omega
        have e2 : wrap64 (wrap64 (q * base) + g) = q * base + g := by rw [w64 (q * base) (by omega) (by omega), w64 _ (by omega) (by omega)]
        have := ih (i + 1) (min (q * base + g) 2097152) (q * base + g) (by omega) (by
          by_cases hlt : q * base + g < 2000000
          · exact Or.inl ⟨by omega, by omega, by omega⟩
          · exact Or.inr ⟨by omega, by omega, by omega, by omega⟩)
        revert this
        split
        · rintro ⟨k, hk⟩
          exact ⟨k + 5, by rw [hst, if_neg hg, if_pos hr2, e2, e1, hk]⟩
        · rintro ⟨k, r', hr', hk⟩
          exact ⟨k + 5, r', hr', by rw [hst, if_neg hg, if_pos hr2, e2, e1, hk]⟩
      · obtain ⟨a, b, c, d'⟩ : 2000000 ≤ q ∧ q ≤ 2097152 ∧ 2000000 ≤ r ∧ r ≤ 33000000 := by
          rcases hr with h | h
          · omega
          · exact h
        have hm0 : 20000000 ≤ q * base := by rcases hb with rfl | rfl <;> omega
        have := ih (i + 1) (min (q * base + g) 2097152) r (by omega) (Or.inr ⟨by omega, by omega, by omega, by omega⟩)
        revert this
        split
        · rintro ⟨k, hk⟩
          exact ⟨k + 5, by rw [hst, if_neg hg, if_neg hr2, e1, hk]⟩
        · rintro ⟨k, r', hr', hk⟩
          exact ⟨k + 5, r', hr', by rw [hst, if_neg hg, if_neg hr2, e1, hk]⟩
/-- A number's sign. -/
def numS (base : Int) (u : ByteArray) : ByteArray :=
  match lex_digs base 0 (bytesOf u) with
  | none => ⟨#[]⟩
  | some n => if u.toList = [] then ⟨#[]⟩ else if charB n = true then strOfNums (utf_Put_bytes n) else ⟨#[]⟩
def begins (t p : ByteArray) : Bool := decide (p.size ≤ t.size) && ((t.extract 0 p.size).toList == p.toList)
/-- What a reference's inner part stands for. -/
def refS (t : ByteArray) : ByteArray :=
  if t.toList = ([108, 116] : List UInt8) then ⟨#[60]⟩ else if t.toList = ([103, 116] : List UInt8) then ⟨#[62]⟩
  else if t.toList = ([97, 109, 112] : List UInt8) then ⟨#[38]⟩ else if t.toList = ([113, 117, 111, 116] : List UInt8) then ⟨#[34]⟩
  else if t.toList = ([97, 112, 111, 115] : List UInt8) then ⟨#[39]⟩
  else if begins t ⟨#[35, 120]⟩ = true then numS 16 (t.extract 2 t.size)
  else if begins t ⟨#[35]⟩ = true then numS 10 (t.extract 1 t.size) else ⟨#[]⟩
theorem cut_f (t p : ByteArray) : strings_CutPrefix.f t p = some (if begins t p = true then (t.extract p.size t.size, true) else (t, false)) := by
  unfold strings_CutPrefix.f stringslite_CutPrefix.f stringslite_HasPrefix.f begins
  by_cases h : p.size ≤ t.size
  · rw [if_pos (by omega), if_pos (by omega), if_pos (by omega), decide_eq_true h, Bool.true_and, Option.bind_some]
    cases hb : (t.extract 0 ((p.size : Nat) : Int).toNat).toList == p.toList with
    | true =>
      simp only [Int.toNat_natCast] at hb
      rw [if_pos rfl, if_pos (by omega), if_pos (by omega), Option.bind_some, hb]
      simp
    | false =>
      simp only [Int.toNat_natCast] at hb
      rw [if_neg (by decide), Option.bind_some, hb]
      simp
  · rw [if_neg (by omega), Option.bind_some, decide_eq_false h]
    simp
theorem scalar_char (n : Int) (h : charB n = true) : utf_scalar.f n = some true ∧ 0 ≤ n ∧ n ≤ 1114111 := by
  have hc : n = 9 ∨ n = 10 ∨ n = 13 ∨ (32 ≤ n ∧ n ≤ 55295) ∨ (57344 ≤ n ∧ n ≤ 65533) ∨ (65536 ≤ n ∧ n ≤ 1114111) := by simpa [charB] using h
  refine ⟨?_, by omega, by omega⟩
  unfold utf_scalar.f
  rw [if_pos (by omega)]
  by_cases h1 : n < 55296
  · rw [if_pos h1]
  · rw [if_neg h1, if_pos (by omega), decide_eq_true (by omega)]
theorem put_f (n : Int) (h : charB n = true) : utf_Put.f n = some (strOfNums (utf_Put_bytes n)) := by
  obtain ⟨h1, h2, h3⟩ := scalar_char n h
  unfold utf_Put.f
  rw [h1, Option.bind_some, if_pos rfl, if_pos ⟨h2, h3⟩]
theorem j0_f (n : Int) (ok : Bool) : lex_reference.j0 12 n ok = some (if ok = true then (if charB n = true then strOfNums (utf_Put_bytes n) else ⟨#[]⟩) else ⟨#[]⟩) := by
  rw [lex_reference.j0]
  cases ok with
  | false => rfl
  | true =>
    rw [if_pos rfl, if_pos rfl, utf_char, Option.bind_some]
    by_cases h : charB n = true
    · rw [if_pos h, if_pos h, put_f n h]
      rfl
    · rw [if_neg h, if_neg h]
theorem digits_f (u : ByteArray) (hu : u.size ≤ 140737488351232) (base : Int) (hb : base = 10 ∨ base = 16) :
    ((lex_digits.f u base).bind fun b => lex_reference.j0 12 b.1 b.2) = some (numS base u) := by
  unfold lex_digits.f numS
  rw [if_pos (by omega), if_pos (by omega), if_pos (by omega)]
  cases lex_digs base 0 (bytesOf u) with
  | none => rw [Option.bind_some, j0_f]; rfl
  | some n =>
    simp only [Option.bind_some]
    rw [j0_f]
    by_cases hu : u.toList = []
    · rw [if_pos hu, hu]; rfl
    · rw [if_neg hu, if_pos (by cases h : u.toList with | nil => exact absurd h hu | cons a b => rfl)]
theorem lex_ref (t : ByteArray) (ht : t.size ≤ 140737488351232) : lex_reference.f 12 t = some (refS t) := by
  unfold lex_reference.f refS
  by_cases h1 : t.toList = ([108, 116] : List UInt8)
  · rw [if_pos h1, if_pos h1]
  rw [if_neg h1, if_neg h1]
  by_cases h2 : t.toList = ([103, 116] : List UInt8)
  · rw [if_pos h2, if_pos h2]
  rw [if_neg h2, if_neg h2]
  by_cases h3 : t.toList = ([97, 109, 112] : List UInt8)
  · rw [if_pos h3, if_pos h3]
  rw [if_neg h3, if_neg h3]
  by_cases h4 : t.toList = ([113, 117, 111, 116] : List UInt8)
  · rw [if_pos h4, if_pos h4]
  rw [if_neg h4, if_neg h4]
  by_cases h5 : t.toList = ([97, 112, 111, 115] : List UInt8)
  · rw [if_pos h5, if_pos h5]
  rw [if_neg h5, if_neg h5, cut_f, Option.bind_some]
  have hx : ∀ a b : Nat, (t.extract a b).size ≤ 140737488351232 := fun a b => by
    rw [ByteArray.size_extract]; omega
  by_cases h6 : begins t ⟨#[35, 120]⟩ = true
  · rw [if_pos h6, if_pos h6]
    simp only [if_true]
    exact digits_f _ (hx _ _) 16 (Or.inr rfl)
  rw [if_neg h6, if_neg h6]
  simp only [Bool.false_eq_true, if_false]
  rw [cut_f, Option.bind_some]
  by_cases h7 : begins t ⟨#[35]⟩ = true
  · rw [if_pos h7, if_pos h7]
    simp only [if_true]
    exact digits_f _ (hx _ _) 10 (Or.inl rfl)
  rw [if_neg h7, if_neg h7]
  simp only [Bool.false_eq_true, if_false]
  rw [j0_f]
  rfl
def namesL : List ByteArray := [⟨#[108, 116]⟩, ⟨#[60]⟩, ⟨#[103, 116]⟩, ⟨#[62]⟩, ⟨#[97, 109, 112]⟩, ⟨#[38]⟩, ⟨#[113, 117, 111, 116]⟩, ⟨#[34]⟩, ⟨#[97, 112, 111, 115]⟩, ⟨#[39]⟩]
theorem ref_step (k : Nat) (x1 x6 : Int) (t : ByteArray) (i : Nat) (hi : i + 1 < 10) : watchbillref03_reference.l0 (k + 1) x1 x6 t namesL i = if (rdOf ByteArray.empty namesL i).toList = t.toList then some (rdOf ByteArray.empty namesL ((i + 1 : Nat) : Int), wrap64 (x6 + 1)) else watchbillref03_reference.l0 k x1 x6 t namesL ((i + 2 : Nat) : Int) := by
  have hl : (namesL.length : Int) = 10 := rfl
  have e1 : wrap64 ((i : Int) + 1) = ((i + 1 : Nat) : Int) := by rw [w64 _ (by omega) (by omega)]; omega
  have e2 : wrap64 ((i : Int) + 2) = ((i + 2 : Nat) : Int) := by rw [w64 _ (by omega) (by omega)]; omega
  rw [watchbillref03_reference.l0, hl, e1, e2, if_pos (by omega), if_pos (by omega), if_pos (by omega), if_pos (show (0 : Int) ≤ ((i + 1 : Nat) : Int) by omega)]
theorem ref_end (k : Nat) (x1 x6 : Int) (t : ByteArray) : watchbillref03_reference.l0 (k + 1) x1 x6 t namesL 10 = ((watchbillref03_Begins.f t 0 (⟨#[35, 120]⟩ : ByteArray)).bind fun t151 => (if t151 = true then (if 2 ≤ (t.size : Int) then ((watchbillref03_number.f k (t.extract 2 t.size) 16).bind fun t152 => (watchbillref03_reference.j1 k x1 x6 t152)) else (none)) else ((watchbillref03_Begins.f t 0 (⟨#[35]⟩ : ByteArray)).bind fun t153 => (if t153 = true then (if 1 ≤ (t.size : Int) then ((watchbillref03_number.f k (t.extract 1 t.size) 10).bind fun t154 => (watchbillref03_reference.j1 k x1 x6 t154)) else (none)) else (watchbillref03_reference.j1 k x1 x6 (-1)))))) := by
  have hl : (namesL.length : Int) = 10 := rfl
  have e1 : wrap64 ((10 : Int) + 1) = 11 := w64 _ (by omega) (by omega)
  rw [watchbillref03_reference.l0, hl, e1, if_neg (by omega)]
theorem begins_f (t p : ByteArray) (ht : t.size ≤ 140737488351232) (hp : p.size ≤ 10) : watchbillref03_Begins.f t 0 p = some (begins t p) := by
  have e0 : wrap64 ((t.size : Int) - 0) = (t.size : Int) := by rw [w64 _ (by omega) (by omega)]; omega
  have e1 : wrap64 ((0 : Int) + (p.size : Int)) = (p.size : Int) := by rw [w64 _ (by omega) (by omega)]; omega
  unfold watchbillref03_Begins.f begins
  rw [if_pos (by omega), e0, e1]
  by_cases h : p.size ≤ t.size
  · rw [if_pos (by omega), if_pos (by omega), if_pos (by omega), if_pos (by omega), decide_eq_true h, Bool.true_and]
    rfl
  · rw [if_neg (by omega), decide_eq_false h, Bool.false_and]
theorem one_byte (s : ByteArray) (i : Nat) (h : i < s.size) (c : UInt8) : (s.extract i (i + 1)).toList = [c] ↔ s.data.toList[i]? = some c := by
  have hl : i < s.data.toList.length := by rw [← Lib.size_eq]; exact h
  rw [Lib.toList_data, Lib.extract_data, show i + 1 - i = 1 by omega, List.drop_eq_getElem_cons hl, List.getElem?_eq_getElem hl]
  simp
theorem index_ok (s : ByteArray) (hs : s.size ≤ 140737488351232) (c : UInt8) : ∀ (d i : Nat), i + d = s.size →
    ∃ k, watchbillref03_Index.l0 k s ⟨#[c]⟩ i = some (if Lib.indexByte (s.data.toList.drop i) c < 0 then -1 else i + Lib.indexByte (s.data.toList.drop i) c) := by
  have hp : ((⟨#[c]⟩ : ByteArray).size : Int) = 1 := rfl
  have ew : wrap64 ((s.size : Int) - 1) = (s.size : Int) - 1 := w64 _ (by omega) (by omega)
  intro d
  induction d with
  | zero =>
    intro i hi
    refine ⟨1, ?_⟩
    have hd : s.data.toList.drop i = [] := List.drop_of_length_le (by rw [← Lib.size_eq]; omega)
    rw [watchbillref03_Index.l0, hp, ew, if_neg (by omega), hd]
    rfl
  | succ d ih =>
    intro i hi
    have hlt : i < s.size := by omega
    have hl : i < s.data.toList.length := by rw [← Lib.size_eq]; exact hlt
    have e1 : wrap64 ((i : Int) + 1) = ((i + 1 : Nat) : Int) := by rw [w64 _ (by omega) (by omega)]; omega
    obtain ⟨k, hk⟩ := ih (i + 1) (by omega)
    refine ⟨k + 1, ?_⟩
    rw [watchbillref03_Index.l0, hp, ew, e1, if_pos (by omega), if_pos (by omega), if_pos (by omega), if_pos (by omega), hk]
    rw [List.drop_eq_getElem_cons hl]
    have hcl : (⟨#[c]⟩ : ByteArray).toList = [c] := by rw [Lib.toList_data]
    have ho := one_byte s i hlt c
    rw [List.getElem?_eq_getElem hl] at ho
    have hge := Lib.indexByte_ge (s.data.toList.drop (i + 1)) c
    simp only [Int.toNat_natCast]
    rw [hcl]
    by_cases hc : s.data.toList[i] = c
    · rw [if_pos (ho.2 (by rw [hc]))]
      unfold Lib.indexByte
      simp [hc]
    · rw [if_neg (fun h => hc (by simpa using ho.1 h))]
      conv => rhs; unfold Lib.indexByte
      generalize Lib.indexByte (List.drop (i + 1) s.data.toList) c = x at hge
      have hcb : (s.data.toList[i] == c) = false := beq_eq_false_iff_ne.2 hc
      simp only [hcb, Bool.false_eq_true, if_false]
      by_cases hx : x = -1
      · subst hx
        rfl
      · have hxb : (x == -1) = false := beq_eq_false_iff_ne.2 hx
        simp only [hxb, Bool.false_eq_true, if_false]
        rw [if_neg (by omega), if_neg (by omega)]
        congr 1
        omega
end Go.Proofs.YtffpbhbiamkkpaaDoor.PL
/- The document's reference comes to what lex's does. -/
namespace Go.Proofs.YtffpbhbiamkkpaaDoor.PL
open Go.RowKit Go.Proofs.YtffpbhbiamkkpaaDoorW.PrintWords Go.Proofs.YtffpbhbiamkkpaaDoorW.PrintLast Go.Proofs.YtffpbhbiamkkpaaDoorW.PrintMore
set_option linter.unusedVariables false
/-- What the document's reference answers. -/
def refR (t : ByteArray) (a e : Int) : ByteArray × Int := if (refS t).size = 0 then (⟨#[]⟩, a) else (refS t, wrap64 (e + 1))
theorem put_bytes_ne (n : Int) : utf_Put_bytes n ≠ [] := by
  unfold utf_Put_bytes
  split
  · simp
  · split
    · simp
    · split <;> simp
theorem strOfNums_size (l : List Int) : (strOfNums l).size = l.length := by
  rw [Lib.size_eq]
  unfold strOfNums
  simp
theorem sign_char (n : Int) (h : charB n = true) : watchbillref01_Sign.f n = some true ∧ 0 ≤ n ∧ n ≤ 1114111 := by
  have hc : n = 9 ∨ n = 10 ∨ n = 13 ∨ (32 ≤ n ∧ n ≤ 55295) ∨ (57344 ≤ n ∧ n ≤ 65533) ∨ (65536 ≤ n ∧ n ≤ 1114111) := by simpa [charB] using h
  refine ⟨?_, by omega, by omega⟩
  unfold watchbillref01_Sign.f
  rw [if_pos (by omega), if_pos (by omega)]
  by_cases h1 : n < 55296
  · rw [if_pos h1]
  · rw [if_neg h1, decide_eq_true (by omega)]
theorem ref_char' (n : Int) (k : Nat) : watchbillref01_Char.f (12 + k) n = some (charB n) := by
  induction k with
  | zero => exact ref_char n
  | succ k ih => exact watchbillref01_Char.mono n (12 + k) _ ih
theorem ref_j1 (k : Nat) (a e n : Int) : watchbillref03_reference.j1 (13 + k) a e n = some (if n < 0 then (⟨#[]⟩, a) else if charB n = true then (strOfNums (utf_Put_bytes n), wrap64 (e + 1)) else (⟨#[]⟩, a)) := by
  rw [show 13 + k = (12 + k) + 1 by omega, watchbillref03_reference.j1, ref_char', Option.bind_some]
  by_cases hn : n < 0
  · rw [if_pos hn, if_pos hn]
  rw [if_neg hn, if_neg hn]
  by_cases hc : charB n = true
  · obtain ⟨h1, h2, h3⟩ := sign_char n hc
    rw [if_pos hc, if_pos hc, char_put n h1 h2 h3]
    rfl
  · rw [if_neg hc, if_neg hc]
theorem ref_num (u : ByteArray) (hu : u.size ≤ 140737488351232) (base : Int) (hb : base = 10 ∨ base = 16) (a e : Int) :
    ∃ k, ∀ j, ((watchbillref03_number.f (13 + (k + j)) u base).bind fun n => watchbillref03_reference.j1 (13 + (k + j)) a e n) = some (if (numS base u).size = 0 then (⟨#[]⟩, a) else (numS base u, wrap64 (e + 1))) := by
  have hz : ((⟨#[]⟩ : ByteArray)).size = 0 := rfl
  have hm : ∀ (k j : Nat) (r : Int), watchbillref03_number.l0 k u base 0 0 = some r → watchbillref03_number.f (k + j) u base = some r := by
    intro k j r h
    induction j with
    | zero => exact h
    | succ j ih => exact watchbillref03_number.mono u base (k + j) _ ih
  have := number_ok u hu base hb u.size 0 0 0 (by omega) (Or.inl ⟨rfl, by omega, by omega⟩)
  unfold numS
  rw [List.drop_zero] at this
  revert this
  cases lex_digs base 0 (bytesOf u) with
  | none =>
    rintro ⟨k, hk⟩
    refine ⟨k, fun j => ?_⟩
    rw [show watchbillref03_number.f (13 + (k + j)) u base = _ from (show 13 + (k + j) = k + (13 + j) by omega) ▸ hm k (13 + j) _ hk, Option.bind_some, ref_j1, if_pos (by decide)]
    simp only [hz, if_true]
  | some q =>
    rintro ⟨k, r, hr, hk⟩
    refine ⟨k, fun j => ?_⟩
    rw [show watchbillref03_number.f (13 + (k + j)) u base = _ from (show 13 + (k + j) = k + (13 + j) by omega) ▸ hm k (13 + j) _ hk, Option.bind_some, ref_j1]
    simp only
    by_cases he : u.toList = []
    · rw [if_pos he, if_pos he, if_pos (by decide)]
      simp only [hz, if_true]
    · rw [if_neg he, if_neg he]
      have hr0 : ¬ r < 0 := by rcases hr with h | h <;> omega
      rw [if_neg hr0]
      have hch : charB r = charB q := by
        rcases hr with ⟨rfl, _, _⟩ | h
        · rfl
        · have f1 : charB r = false := by simp [charB]; omega
          have f2 : charB q = false := by simp [charB]; omega
          rw [f1, f2]
      rw [hch]
      by_cases hc : charB q = true
      · have hqr : q = r := by
          rcases hr with ⟨h, _, _⟩ | h
          · exact h
          · have := sign_char q hc; omega
        subst hqr
        have hne : (strOfNums (utf_Put_bytes q)).size ≠ 0 := by
          rw [strOfNums_size]
          exact fun h => put_bytes_ne q (List.eq_nil_of_length_eq_zero h)
        rw [if_pos hc, if_pos hc, if_neg hne]
      · rw [if_neg hc, if_neg hc]
        simp only [hz, if_true]
theorem ref_ref (t : ByteArray) (ht : t.size ≤ 140737488351232) (a e : Int) :
    ∃ k, watchbillref03_reference.l0 k a e t namesL 0 = some (refR t a e) := by
  have hx : ∀ a b : Nat, (t.extract a b).size ≤ 140737488351232 := fun a b => by
    rw [ByteArray.size_extract]; omega
  obtain ⟨k1, h1⟩ := ref_num (t.extract 2 t.size) (hx _ _) 16 (Or.inr rfl) a e
  obtain ⟨k2, h2⟩ := ref_num (t.extract 1 t.size) (hx _ _) 10 (Or.inl rfl) a e
  have n0 : (rdOf ByteArray.empty namesL ((0 : Nat) : Int)).toList = [108, 116] := by rw [Lib.toList_data]; rfl
  have n2 : (rdOf ByteArray.empty namesL ((2 : Nat) : Int)).toList = [103, 116] := by rw [Lib.toList_data]; rfl
  have n4 : (rdOf ByteArray.empty namesL ((4 : Nat) : Int)).toList = [97, 109, 112] := by rw [Lib.toList_data]; rfl
  have n6 : (rdOf ByteArray.empty namesL ((6 : Nat) : Int)).toList = [113, 117, 111, 116] := by rw [Lib.toList_data]; rfl
  have n8 : (rdOf ByteArray.empty namesL ((8 : Nat) : Int)).toList = [97, 112, 111, 115] := by rw [Lib.toList_data]; rfl
  refine ⟨13 + (k1 + k2) + 1 + 1 + 1 + 1 + 1 + 1, ?_⟩
  unfold refR refS
  rw [show (0 : Int) = ((0 : Nat) : Int) from rfl, ref_step _ a e t 0 (by omega), n0]
  by_cases c1 : t.toList = ([108, 116] : List UInt8)
  · rw [if_pos c1.symm, if_pos c1]; rfl
  rw [if_neg (fun h => c1 h.symm), if_neg c1, ref_step _ a e t (0 + 2) (by omega), n2]
  by_cases c2 : t.toList = ([103, 116] : List UInt8)
  · rw [if_pos c2.symm, if_pos c2]; rfl
  rw [if_neg (fun h => c2 h.symm), if_neg c2, ref_step _ a e t (0 + 2 + 2) (by omega), n4]
  by_cases c3 : t.toList = ([97, 109, 112] : List UInt8)
  · rw [if_pos c3.symm, if_pos c3]; rfl
  rw [if_neg (fun h => c3 h.symm), if_neg c3, ref_step _ a e t (0 + 2 + 2 + 2) (by omega), n6]
  by_cases c4 : t.toList = ([113, 117, 111, 116] : List UInt8)
  · rw [if_pos c4.symm, if_pos c4]; rfl
  rw [if_neg (fun h => c4 h.symm), if_neg c4, ref_step _ a e t (0 + 2 + 2 + 2 + 2) (by omega), n8]
  by_cases c5 : t.toList = ([97, 112, 111, 115] : List UInt8)
  · rw [if_pos c5.symm, if_pos c5]; rfl
  rw [if_neg (fun h => c5 h.symm), if_neg c5]
  have hlast := ref_end (13 + (k1 + k2)) a e t
  rw [show ((0 + 2 + 2 + 2 + 2 + 2 : Nat) : Int) = 10 from rfl, hlast, begins_f t _ ht (by decide), Option.bind_some]
  by_cases c6 : begins t ⟨#[35, 120]⟩ = true
  · have hsz : 2 ≤ t.size := by
      unfold begins at c6
      simp only [Bool.and_eq_true, decide_eq_true_eq] at c6
      exact c6.1
    rw [if_pos c6, if_pos c6, if_pos (by omega)]
    exact h1 k2
  rw [if_neg c6, if_neg c6, begins_f t _ ht (by decide), Option.bind_some]
  by_cases c7 : begins t ⟨#[35]⟩ = true
  · have hsz : 1 ≤ t.size := by
      unfold begins at c7
      simp only [Bool.and_eq_true, decide_eq_true_eq] at c7
      exact c7.1
    rw [if_pos c7, if_pos c7, if_pos (by omega), Nat.add_comm k1 k2]
    exact h2 k1
  rw [if_neg c7, if_neg c7, ref_j1, if_pos (by decide)]
  rfl
end Go.Proofs.YtffpbhbiamkkpaaDoor.PL
/- The document's reference at a place of a text. -/
namespace Go.Proofs.YtffpbhbiamkkpaaDoor.PL
open Go.RowKit Go.Proofs.YtffpbhbiamkkpaaDoorW.PrintWords Go.Proofs.YtffpbhbiamkkpaaDoorW.PrintLast Go.Proofs.YtffpbhbiamkkpaaDoorW.PrintMore
set_option linter.unusedVariables false
/-- What an inner part stands for, as bytes. -/
def refL (l : List UInt8) : List UInt8 := (refS ⟨l.toArray⟩).data.toList
theorem refS_le (t : ByteArray) : (refS t).size ≤ 4 := by
  have hn : ∀ base u, (numS base u).size ≤ 4 := by
    intro base u
    unfold numS
    split
    · decide
    · split
      · decide
      · split
        · rw [strOfNums_size]
          unfold utf_Put_bytes
          split
          · simp
          · split
            · simp
            · split <;> simp
        · decide
  unfold refS
  repeat' split
  all_goals first | exact hn _ _ | decide
theorem index_up (x0 x2 : ByteArray) (x7 r : Int) (k : Nat) (h : watchbillref03_Index.l0 k x0 x2 x7 = some r) : ∀ j, watchbillref03_Index.l0 (k + j) x0 x2 x7 = some r
  | 0 => h
  | j + 1 => watchbillref03_Index.mono_l (k + j) x0 x2 x7 _ (index_up x0 x2 x7 r k h j)
theorem refl_up (x1 x6 : Int) (x7 : ByteArray) (x8 : List ByteArray) (x9 : Int) (r : ByteArray × Int) (k : Nat) (h : watchbillref03_reference.l0 k x1 x6 x7 x8 x9 = some r) : ∀ j, watchbillref03_reference.l0 (k + j) x1 x6 x7 x8 x9 = some r
  | 0 => h
  | j + 1 => (watchbillref03_reference.mono_l (k + j)).1 x1 x6 x7 x8 x9 _ (refl_up x1 x6 x7 x8 x9 r k h j)
theorem ref_reference (s : ByteArray) (hs : s.size ≤ 140737488351232) (i : Nat) (hi : i < s.size) (hb : s.data.toList[i]? = some 38) :
    ∃ k, watchbillref03_reference.f k s i = some (if Lib.indexByte (s.data.toList.drop i) 59 < 0 then (⟨#[]⟩, (i : Int)) else refR (s.extract (i + 1) (i + (Lib.indexByte (s.data.toList.drop i) 59).toNat)) i ((i + (Lib.indexByte (s.data.toList.drop i) 59).toNat : Nat) : Int)) := by
  obtain ⟨k0, h0⟩ := index_ok s hs 59 (s.size - i) i (by omega)
  by_cases hn : Lib.indexByte (s.data.toList.drop i) 59 < 0
  · refine ⟨k0, ?_⟩
    unfold watchbillref03_reference.f watchbillref03_Index.f
    rw [h0, Option.bind_some, if_pos hn, if_pos hn, if_pos (by decide)]
  · obtain ⟨n, hnn, hlt, hat⟩ := lex_Unescape_idx _ _ hn
    rw [if_neg hn] at h0 ⊢
    rw [hnn] at h0 ⊢
    simp only [Int.toNat_natCast]
    have hsz : i + n < s.size := by rw [List.length_drop, ← Lib.size_eq] at hlt; omega
    have hn1 : 1 ≤ n := by
      rcases Nat.eq_zero_or_pos n with rfl | h'
      · rw [List.getElem?_drop, Nat.add_zero, hb] at hat
        exact absurd hat (by decide)
      · exact h'
    obtain ⟨k1, h1⟩ := ref_ref (s.extract (i + 1) (i + n)) (by rw [ByteArray.size_extract]; omega) i ((i + n : Nat) : Int)
    refine ⟨k0 + k1, ?_⟩
    have e1 : wrap64 ((i : Int) + 1) = ((i + 1 : Nat) : Int) := by rw [w64 _ (by omega) (by omega)]; omega
    have e2 : (i : Int) + (n : Int) = ((i + n : Nat) : Int) := by omega
    unfold watchbillref03_reference.f watchbillref03_Index.f
    rw [index_up _ _ _ _ _ h0 k1, Option.bind_some, e1, e2, if_neg (by omega), if_pos (by omega), if_pos (by omega), if_pos (by omega)]
    simp only [Int.toNat_natCast]
    rw [Nat.add_comm k0 k1]
    exact refl_up _ _ _ _ _ _ _ h1 k0
end Go.Proofs.YtffpbhbiamkkpaaDoor.PL
/- What lex.Unescape comes to, by chunks, is the text's meaning byte by byte. -/
namespace Go.Proofs.YtffpbhbiamkkpaaDoor.PL
open Go.RowKit Go.Proofs.YtffpbhbiamkkpaaDoorW.PrintWords Go.Proofs.YtffpbhbiamkkpaaDoorW.PrintLast Go.Proofs.YtffpbhbiamkkpaaDoorW.PrintMore Go.Plain
set_option linter.unusedVariables false
theorem mk_of (t : ByteArray) : (⟨t.data.toList.toArray⟩ : ByteArray) = t := by cases t; simp
theorem mk_size (l : List UInt8) : (⟨l.toArray⟩ : ByteArray).size = l.length := by rw [Lib.size_eq]
theorem ra_f (s old new : ByteArray) (hs : s.size ≤ 1000000) (ho : 1 ≤ old.size) (hn : new.size = 1) : strings_ReplaceAll.f s old new = some ⟨(Lib.replaceAll s.data.toList old.data.toList new.data.toList).toArray⟩ := by
  unfold strings_ReplaceAll.f
  have hc := Lib.countB_le old ho s.size s (Nat.le_refl _)
  rw [if_pos (by omega), if_pos ho, if_pos (by rw [hn]; omega)]
theorem crlf_len : ∀ l : List UInt8, (crlf l).length ≤ l.length := by
  intro l
  induction l using crlf.induct with
  | case1 => simp [crlf]
  | case2 b => simp [crlf]
  | case3 b c l h ih => rw [crlf, if_pos h]; simp; omega
  | case4 b c l h ih => rw [crlf, if_neg h]; simp at ih ⊢; omega
theorem ends_ok (s : ByteArray) (hs : s.size ≤ 1000000) : lex_ends.f s = some ⟨(endsL s.data.toList).toArray⟩ := by
  unfold lex_ends.f
  have h1 : (Lib.replaceAll s.data.toList [13, 10] [10]) = crlf s.data.toList := repl_crlf _
  have hl := crlf_len s.data.toList
  rw [← Lib.size_eq s] at hl
  rw [ra_f _ _ _ hs (by decide) (by decide), Option.bind_some]
  show (strings_ReplaceAll.f ⟨(Lib.replaceAll s.data.toList [13, 10] [10]).toArray⟩ _ _).bind _ = _
  rw [h1, ra_f _ _ _ (by rw [mk_size]; omega) (by decide) (by decide), Option.bind_some]
  show some (⟨(Lib.replaceAll (crlf s.data.toList) [13] [10]).toArray⟩ : ByteArray) = _
  rw [repl_one 13 10 (by decide)]
  rfl
theorem plain_ok (s : ByteArray) (attr : Bool) (hs : s.size ≤ 1000000) : lex_plain.f s attr = some ⟨(plainL attr s.data.toList).toArray⟩ := by
  unfold lex_plain.f
  rw [ends_ok s hs, Option.bind_some]
  have hl : (endsL s.data.toList).length ≤ 1000000 := by
    unfold endsL; rw [List.length_map]; have := crlf_len s.data.toList; rw [← Lib.size_eq s] at this; omega
  unfold plainL
  cases attr with
  | true =>
    rw [if_pos rfl, if_pos rfl, ra_f _ _ _ (by rw [mk_size]; exact hl) (by decide) (by decide), Option.bind_some]
    show (strings_ReplaceAll.f ⟨(Lib.replaceAll (endsL s.data.toList) [10] [32]).toArray⟩ _ _).bind _ = _
    rw [repl_one 10 32 (by decide), ra_f _ _ _ (by rw [mk_size, List.length_map]; exact hl) (by decide) (by decide), Option.bind_some]
    show some (⟨(Lib.replaceAll ((endsL s.data.toList).map _) [9] [32]).toArray⟩ : ByteArray) = _
    rw [repl_one 9 32 (by decide)]
    rfl
  | false => rw [if_neg (by decide), if_neg (by decide)]
def outU (acc : List UInt8) : Except Nat (List UInt8) → Option (ByteArray × Int × Int)
  | .ok r => some (⟨(acc ++ r).toArray⟩, 0, 0)
  | .error p => some (⟨#[]⟩, (p : Int), 16)
theorem outU_map (acc q : List UInt8) (x : Except Nat (List UInt8)) : outU acc (x.map (q ++ ·)) = outU (acc ++ q) x := by
  cases x <;> simp [outU, Except.map]
theorem go_ok (s : ByteArray) (hs : s.size ≤ 1000000) (attr : Bool) : ∀ (d i : Nat) (acc : List UInt8), i ≤ s.size → s.size - i < d → acc.length ≤ 4 * i → lex_Unescape_go s attr d i acc = outU acc (uC refL attr d i (s.data.toList.drop i))
  | 0, i, acc, hi, hd, _ => absurd hd (by omega)
  | d + 1, i, acc, hi, hd, ha => by
    rw [lex_Unescape_go, uC]
    by_cases hlt : i < s.size
    · have hne : ¬ s.data.toList.drop i = [] := by
        intro h
        have := congrArg List.length h
        rw [List.length_drop, ← Lib.size_eq] at this
        simp at this
        omega
      rw [if_pos hlt, if_neg hne]
      by_cases hn : Lib.indexByte (s.data.toList.drop i) 38 < 0
      · rw [if_pos hn, if_pos hn, plain_ok _ _ (by rw [ByteArray.size_extract]; omega), Option.bind_some, lex_Unescape_drop]
        have hp := plainL_len attr (s.data.toList.drop i)
        rw [List.length_drop, ← Lib.size_eq s] at hp
        rw [if_pos (by rw [mk_size]; omega)]
        rfl
      · rw [if_neg hn, if_neg hn]
        obtain ⟨n, hnn, hlt2, hat⟩ := lex_Unescape_idx _ _ hn
        rw [List.length_drop, ← Lib.size_eq] at hlt2
        rw [hnn]
        simp only [Int.toNat_natCast]
        have he : (s.extract i (i + n)).data.toList = (s.data.toList.drop i).take n := by
          rw [Lib.extract_data]; congr 1; omega
        rw [plain_ok _ _ (by rw [ByteArray.size_extract]; omega), Option.bind_some, he, List.drop_drop]
        have hp := plainL_len attr ((s.data.toList.drop i).take n)
        rw [List.length_take] at hp
        rw [if_pos (by rw [mk_size]; omega)]
        by_cases hm : Lib.indexByte (s.data.toList.drop (i + n)) 59 < 0
        · rw [if_pos hm, if_pos hm]
          rfl
        · rw [if_neg hm, if_neg hm]
          obtain ⟨m, hmm, hlt3, hat3⟩ := lex_Unescape_idx _ _ hm
          rw [List.length_drop, ← Lib.size_eq] at hlt3
          have hm1 : 1 ≤ m := by
            rcases Nat.eq_zero_or_pos m with rfl | h'
            · rw [List.getElem?_drop, Nat.add_zero] at hat3
              rw [List.getElem?_drop] at hat
              rw [hat] at hat3
              exact absurd hat3 (by decide)
            · exact h'
          rw [hmm]
          simp only [Int.toNat_natCast]
          have ht : (s.extract (i + n + 1) (i + n + m)).data.toList = (s.data.toList.drop (i + n + 1)).take (m - 1) := by
            rw [Lib.extract_data]; congr 1; omega
          have hR : refL ((s.data.toList.drop (i + (n + 1))).take (m - 1)) = (refS (s.extract (i + n + 1) (i + n + m))).data.toList := by
            unfold refL; rw [show i + (n + 1) = i + n + 1 by omega, ← ht, mk_of]
          rw [lex_ref _ (by rw [ByteArray.size_extract]; omega), Option.bind_some, List.drop_drop, hR]
          have hle := refS_le (s.extract (i + n + 1) (i + n + m))
          generalize refS (s.extract (i + n + 1) (i + n + m)) = u at hle hR ⊢
          have husz : u.size = u.data.toList.length := Lib.size_eq u
          by_cases hu : u.data.toList = []
          · rw [if_pos (by rw [Lib.toList_data, hu]; rfl), if_pos hu]
            rfl
          · rw [if_neg (by rw [Lib.toList_data]; simpa using hu), if_neg hu, if_pos (by rw [mk_size]; omega)]
            rw [go_ok s hs attr d _ _ (by omega) (by omega) (by simp; omega), List.drop_drop, outU_map]
            simp only [show i + (n + m + 1) = i + n + m + 1 by omega, List.append_assoc]
    · have hd' : s.data.toList.drop i = [] := List.drop_of_length_le (by rw [← Lib.size_eq]; omega)
      rw [if_neg hlt, if_pos hd']
      simp [outU]
theorem unescape_ok (s : ByteArray) (hs : s.size ≤ 1000000) (attr : Bool) : lex_Unescape.f s attr = outU [] (uL refL attr (s.size + 1) 0 s.data.toList) := by
  unfold lex_Unescape.f
  rw [if_pos (by omega), go_ok s hs attr _ 0 [] (Nat.zero_le _) (by omega) (by simp), List.drop_zero, uC_uL _ _ _ _ _ (by rw [← Lib.size_eq]; omega)]
theorem index_at (x : UInt8) : ∀ l : List UInt8, x ∉ l → ∀ t, Lib.indexByte (l ++ x :: t) x = (l.length : Int)
  | [], _, t => by show (if x == x then (0 : Int) else _) = _; rw [if_pos (by simp)]; rfl
  | b :: l, h, t => by
    have hb : ¬ (b == x) = true := by simp at h ⊢; exact fun e => h.1 e.symm
    have ih := index_at x l (fun hm => h (by simp [hm])) t
    show (if b == x then 0 else if Lib.indexByte (l ++ x :: t) x == -1 then -1 else Lib.indexByte (l ++ x :: t) x + 1) = _
    rw [if_neg hb, ih, if_neg (by simp)]
    simp
end Go.Proofs.YtffpbhbiamkkpaaDoor.PL
