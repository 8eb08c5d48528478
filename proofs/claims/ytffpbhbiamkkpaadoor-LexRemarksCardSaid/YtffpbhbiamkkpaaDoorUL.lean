/- A text's meaning byte by byte; by chunks it is the same. No program in sight. -/
import Derived.Lib.IndexLaws
namespace Go.Plain
open Go.Lib
/-- A byte as it stands for in a value (attr). -/
def blk (attr : Bool) (c : UInt8) : UInt8 := if attr = true ∧ (c = 9 ∨ c = 10) then 32 else c
/-- A text from place i on, as it stands for; or where it is wrong. R: what a reference's inner part stands for. -/
def uL (R : List UInt8 → List UInt8) (attr : Bool) : Nat → Nat → List UInt8 → Except Nat (List UInt8)
  | 0, _, _ => .ok []
  | _ + 1, _, [] => .ok []
  | d + 1, i, b :: l =>
    if b = 38 then
      if indexByte (b :: l) 59 < 0 then .error i
      else if R (l.take ((indexByte (b :: l) 59).toNat - 1)) = [] then .error i
      else (uL R attr d (i + (indexByte (b :: l) 59).toNat + 1) ((b :: l).drop ((indexByte (b :: l) 59).toNat + 1))).map (R (l.take ((indexByte (b :: l) 59).toNat - 1)) ++ ·)
    else if b = 13 ∧ l.head? = some 10 then (uL R attr d (i + 2) l.tail).map (blk attr 10 :: ·)
    else (uL R attr d (i + 1) l).map (blk attr (if b = 13 then 10 else b) :: ·)
theorem index_lt {l : List UInt8} {c : UInt8} (h : ¬ indexByte l c < 0) : (indexByte l c).toNat < l.length := by
  obtain ⟨n, hn⟩ := Int.eq_ofNat_of_zero_le (show 0 ≤ indexByte l c by omega)
  have := (indexByte_some hn).1
  rw [hn]
  rcases Nat.lt_or_ge n l.length with h' | h'
  · exact h'
  · rw [List.getElem?_eq_none h'] at this
    exact absurd this (by simp)
theorem index_append {c : UInt8} : ∀ {l : List UInt8} (t : List UInt8), ¬ indexByte l c < 0 → indexByte (l ++ t) c = indexByte l c
  | [], t, h => absurd (show indexByte [] c < 0 by unfold indexByte; decide) h
  | b :: l, t, h => by
    show (if b == c then 0 else if indexByte (l ++ t) c == -1 then -1 else indexByte (l ++ t) c + 1) = if b == c then 0 else if indexByte l c == -1 then -1 else indexByte l c + 1
    by_cases hb : b == c
    · rw [if_pos hb, if_pos hb]
    · rw [if_neg hb, if_neg hb]
      have hl : ¬ indexByte l c < 0 := by
        intro hl
        apply h
        have := indexByte_ge l c
        have e : indexByte l c = -1 := by omega
        unfold indexByte
        rw [if_neg hb, e]
        decide
      rw [index_append t hl]
/-- Fuel plays no part. -/
theorem uL_fuel (R : List UInt8 → List UInt8) (attr : Bool) : ∀ (d d' i : Nat) (l : List UInt8), l.length ≤ d → l.length ≤ d' → uL R attr d i l = uL R attr d' i l
  | d, d', i, [], _, _ => by cases d <;> cases d' <;> rfl
  | 0, _, _, b :: l, h, _ => absurd h (by simp)
  | _ + 1, 0, _, b :: l, _, h => absurd h (by simp)
  | d + 1, d' + 1, i, b :: l, h, h' => by
    simp only [List.length_cons, Nat.add_le_add_iff_right] at h h'
    rw [uL, uL]
    by_cases hb : b = 38
    · rw [if_pos hb, if_pos hb]
      by_cases hn : indexByte (b :: l) 59 < 0
      · rw [if_pos hn, if_pos hn]
      · rw [if_neg hn, if_neg hn]
        have hk := index_lt hn
        rw [uL_fuel R attr d d' _ _ (by simp; omega) (by simp; omega)]
    · rw [if_neg hb, if_neg hb]
      by_cases hc : b = 13 ∧ l.head? = some 10
      · rw [if_pos hc, if_pos hc, uL_fuel R attr d d' _ _ (by simp; omega) (by simp; omega)]
      · rw [if_neg hc, if_neg hc, uL_fuel R attr d d' _ _ h h']
/-- 13 10 becomes 10. -/
def crlf : List UInt8 → List UInt8
  | [] => []
  | [b] => [b]
  | b :: c :: l => if b = 13 ∧ c = 10 then 10 :: crlf l else b :: crlf (c :: l)
/-- A line's ends as they stand for. -/
def endsL (s : List UInt8) : List UInt8 := (crlf s).map (fun x => if x = 13 then 10 else x)
def blankL (s : List UInt8) : List UInt8 := (s.map (fun x => if x = 10 then 32 else x)).map (fun x => if x = 9 then 32 else x)

def plainL (attr : Bool) (s : List UInt8) : List UInt8 := if attr = true then blankL (endsL s) else endsL s
theorem plainL_nil (attr : Bool) : plainL attr [] = [] := by cases attr <;> rfl
theorem blk_map (attr : Bool) (s : List UInt8) : plainL attr s = (endsL s).map (blk attr) := by
  unfold plainL
  cases attr with
  | true =>
    rw [if_pos rfl]
    unfold blankL blk
    rw [List.map_map]
    apply List.map_congr_left
    intro x _
    simp only [Function.comp]
    by_cases h : x = 10
    · subst h; decide
    · by_cases h9 : x = 9
      · subst h9; decide
      · simp [h, h9]
  | false =>
    rw [if_neg (by decide)]
    have : blk false = id := by funext x; unfold blk; simp
    rw [this, List.map_id]
theorem plainL_crlf (attr : Bool) (l : List UInt8) : plainL attr (13 :: 10 :: l) = blk attr 10 :: plainL attr l := by
  rw [blk_map, blk_map]; unfold endsL; rw [crlf, if_pos ⟨rfl, rfl⟩]; simp
theorem plainL_cons (attr : Bool) (b : UInt8) (l : List UInt8) (h : ¬ (b = 13 ∧ l.head? = some 10)) : plainL attr (b :: l) = blk attr (if b = 13 then 10 else b) :: plainL attr l := by
  rw [blk_map, blk_map]; unfold endsL
  cases l with
  | nil => simp [crlf]
  | cons c l =>
    rw [crlf, if_neg (by simpa using h)]
    simp
theorem plainL_len (attr : Bool) : ∀ l, (plainL attr l).length ≤ l.length := by
  intro l
  rw [blk_map, List.length_map]
  unfold endsL
  rw [List.length_map]
  induction l using crlf.induct with
  | case1 => simp [crlf]
  | case2 b => simp [crlf]
  | case3 b c l h ih => rw [crlf, if_pos h]; simp; omega
  | case4 b c l h ih => rw [crlf, if_neg h]; simp at ih ⊢; omega
/-- A piece without &, with what does not begin in 10 behind it. -/
theorem uL_piece (R : List UInt8 → List UInt8) (attr : Bool) (q : List UInt8) (D : Nat) (hD : q.length ≤ D) (hq : q.head? ≠ some 10) : ∀ (d i : Nat) (p : List UInt8), p.length ≤ d → (∀ b ∈ p, b ≠ 38) →
    uL R attr (d + D) i (p ++ q) = (uL R attr D (i + p.length) q).map (plainL attr p ++ ·)
  | d, i, [], _, _ => by
    rw [List.nil_append, uL_fuel R attr (d + D) D i q (by omega) hD, plainL_nil]
    cases uL R attr D i q <;> simp [Except.map]
  | 0, _, b :: l, hd, _ => absurd hd (by simp)
  | d + 1, i, b :: l, hd, h => by
    simp only [List.length_cons, Nat.add_le_add_iff_right] at hd
    have hb := h b (by simp)
    rw [show d + 1 + D = (d + D) + 1 by omega, List.cons_append, uL, if_neg hb]
    by_cases hc : b = 13 ∧ l.head? = some 10
    · obtain ⟨rfl, hh⟩ := hc
      cases l with
      | nil => cases hh
      | cons a m =>
        obtain rfl : a = 10 := by simpa using hh
        simp only [List.cons_append, List.head?_cons, and_self, if_true, List.tail_cons]
        rw [uL_piece R attr q D hD hq d _ m (by simp at hd; omega) (fun c hc => h c (by simp [hc])), plainL_crlf]
        have : i + 2 + m.length = i + (13 :: 10 :: m : List UInt8).length := by simp; omega
        rw [this]
        cases uL R attr D (i + (13 :: 10 :: m : List UInt8).length) q <;> simp [Except.map]
    · have hc' : ¬ (b = 13 ∧ (l ++ q).head? = some 10) := by
        rintro ⟨rfl, hh⟩
        cases l with
        | nil => exact hq (by simpa using hh)
        | cons a m => exact hc ⟨rfl, by simpa using hh⟩
      rw [if_neg hc', uL_piece R attr q D hD hq d _ l hd (fun c hc => h c (by simp [hc])), plainL_cons attr b l hc]
      have : i + 1 + l.length = i + (b :: l).length := by simp; omega
      rw [this]
      cases uL R attr D (i + (b :: l).length) q <;> simp [Except.map]
/-- A text by chunks, as the program goes. -/
def uC (R : List UInt8 → List UInt8) (attr : Bool) : Nat → Nat → List UInt8 → Except Nat (List UInt8)
  | 0, _, _ => .ok []
  | d + 1, i, l =>
    if l = [] then .ok []
    else if indexByte l 38 < 0 then .ok (plainL attr l)
    else if indexByte (l.drop (indexByte l 38).toNat) 59 < 0 then .error (i + (indexByte l 38).toNat)
    else if R ((l.drop ((indexByte l 38).toNat + 1)).take ((indexByte (l.drop (indexByte l 38).toNat) 59).toNat - 1)) = [] then .error (i + (indexByte l 38).toNat)
    else (uC R attr d (i + (indexByte l 38).toNat + (indexByte (l.drop (indexByte l 38).toNat) 59).toNat + 1) (l.drop ((indexByte l 38).toNat + (indexByte (l.drop (indexByte l 38).toNat) 59).toNat + 1))).map
      (plainL attr (l.take (indexByte l 38).toNat) ++ R ((l.drop ((indexByte l 38).toNat + 1)).take ((indexByte (l.drop (indexByte l 38).toNat) 59).toNat - 1)) ++ ·)
theorem index_none {c : UInt8} : ∀ {l : List UInt8}, indexByte l c < 0 → ∀ b ∈ l, b ≠ c
  | [], _, b, hb => absurd hb (by simp)
  | a :: l, h, b, hb => by
    have e : indexByte (a :: l) c = if a == c then 0 else if indexByte l c == -1 then -1 else indexByte l c + 1 := rfl
    rw [e] at h
    by_cases ha : a == c
    · rw [if_pos ha] at h; exact absurd h (by decide)
    · rw [if_neg ha] at h
      have hge := indexByte_ge l c
      have hl : indexByte l c < 0 := by
        by_cases hm : indexByte l c == -1
        · have := eq_of_beq hm; omega
        · rw [if_neg hm] at h; omega
      rcases List.mem_cons.1 hb with rfl | hb
      · exact fun hh => ha (by simp [hh])
      · exact index_none hl b hb
theorem index_before {c : UInt8} : ∀ {l : List UInt8} {n : Nat}, indexByte l c = (n : Int) → ∀ b ∈ l.take n, b ≠ c
  | [], n, _, b, hb => absurd hb (by simp)
  | a :: l, n, h, b, hb => by
    have e : indexByte (a :: l) c = if a == c then 0 else if indexByte l c == -1 then -1 else indexByte l c + 1 := rfl
    rw [e] at h
    by_cases ha : a == c
    · rw [if_pos ha] at h
      obtain rfl : n = 0 := by omega
      exact absurd hb (by simp)
    · rw [if_neg ha] at h
      by_cases hm : indexByte l c == -1
      · rw [if_pos hm] at h; omega
      · rw [if_neg hm] at h
        have hge := indexByte_ge l c
        have hne : indexByte l c ≠ -1 := fun h' => hm (by simp [h'])
        cases n with
        | zero => omega
        | succ n =>
          rw [List.take_succ_cons] at hb
          rcases List.mem_cons.1 hb with rfl | hb
          · exact fun hh => ha (by simp [hh])
          · exact index_before (n := n) (by omega) b hb
theorem uC_uL (R : List UInt8 → List UInt8) (attr : Bool) : ∀ (d i : Nat) (l : List UInt8), l.length ≤ d → uC R attr d i l = uL R attr d i l
  | 0, i, l, h => by
    cases l with
    | nil => rfl
    | cons b l => exact absurd h (by simp)
  | d + 1, i, l, hd => by
    rw [uC]
    by_cases hl : l = []
    · subst hl; rfl
    · rw [if_neg hl]
      by_cases hn : indexByte l 38 < 0
      · rw [if_pos hn]
        have h := uL_piece R attr [] 0 (by simp) (by simp) (d + 1) i l hd (index_none hn)
        rw [List.append_nil, Nat.add_zero] at h
        rw [h]
        show _ = Except.map _ (.ok [])
        simp [Except.map]
      · rw [if_neg hn]
        obtain ⟨n, hnn⟩ := Int.eq_ofNat_of_zero_le (show 0 ≤ indexByte l 38 by omega)
        have hlt := index_lt hn
        have hat := (indexByte_some hnn).1
        have hbf := index_before hnn
        rw [hnn] at hlt ⊢
        simp only [Int.toNat_natCast] at hlt ⊢
        have hsplit : l = l.take n ++ l.drop n := (List.take_append_drop n l).symm
        have hcons : l.drop n = 38 :: l.drop (n + 1) := by
          rw [List.drop_eq_getElem_cons hlt]
          congr 1
          rw [List.getElem?_eq_getElem hlt] at hat
          simpa using hat
        have hp := uL_piece R attr (l.drop n) (d + 1 - n) (by simp; omega) (by rw [hcons]; simp) n i (l.take n) (by simp; omega) hbf
        rw [← hsplit, show n + (d + 1 - n) = d + 1 by omega] at hp
        rw [hp]
        have hln : (l.take n).length = n := by simp; omega
        rw [hln]
        obtain ⟨e, he⟩ : ∃ e, d + 1 - n = e + 1 := ⟨d - n, by omega⟩
        rw [he, hcons, uL, if_pos rfl]
        by_cases hs : indexByte (38 :: l.drop (n + 1)) 59 < 0
        · rw [if_pos hs, if_pos hs]; rfl
        · rw [if_neg hs, if_neg hs]
          have hk := index_lt hs
          generalize (indexByte (38 :: l.drop (n + 1)) 59).toNat = k at hk ⊢
          by_cases hr : R ((l.drop (n + 1)).take (k - 1)) = []
          · rw [if_pos hr, if_pos hr]; rfl
          · rw [if_neg hr, if_neg hr]
            have hdr : (38 :: l.drop (n + 1)).drop (k + 1) = l.drop (n + k + 1) := by
              rw [← hcons, List.drop_drop]
              congr 1
            rw [hdr]
            rw [uC_uL R attr d _ _ (by simp; omega), uL_fuel R attr e d _ _ (by simp at hk ⊢; omega) (by simp; omega)]
            cases uL R attr d (i + n + k + 1) (l.drop (n + k + 1)) <;> simp [Except.map]
end Go.Plain
