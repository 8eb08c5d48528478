/- What lex.Tokens answers: it always answers; its tokens rise; what is wrong lies in the document. -/
import Derived.Test.YtffpbhbiamkkpaaDoorLxQ
import Derived.Test.YtffpbhbiamkkpaaDoorPureLexE
namespace Go.Proofs.YtffpbhbiamkkpaaDoor.Lx
open Go.RowKit Go.Proofs.YtffpbhbiamkkpaaDoor.PU Go.Proofs.YtffpbhbiamkkpaaDoorW.PrintWords
open Go.Proofs.YtffpbhbiamkkpaaDoor.PG (runeT rune_ends char_eq)
set_option linter.unusedVariables false
theorem check_from (s : ByteArray) (hs : s.size ≤ 140737488351232) : ∀ (d k : Nat) (i : Int), 0 ≤ i → (s.size : Int) - i ≤ d → d + 13 ≤ k → ∃ b, utf_Check.l0 k s i = some b ∧ b ≤ s.size := by
  intro d
  induction d with
  | zero =>
    intro k i h0 h1 h2
    obtain ⟨k, rfl⟩ : ∃ m, k = m + 1 := ⟨k - 1, by omega⟩
    exact ⟨-1, by simp only [utf_Check.l0]; rw [if_neg (by omega)], by omega⟩
  | succ d ih =>
    intro k i h0 h1 h2
    obtain ⟨k, rfl⟩ : ∃ m, k = m + 1 := ⟨k - 1, by omega⟩
    simp only [utf_Check.l0]
    by_cases c : i < s.size
    · obtain ⟨e, hn, hb⟩ := rune_ends s i hs
      have e : utf_Rune.f s i = some (runeT s i) := e
      rw [if_pos c, e, Option.bind_some]
      by_cases hz : (runeT s i).2 = 0
      · rw [if_pos hz]; exact ⟨_, rfl, by omega⟩
      obtain ⟨_, hb1, _⟩ := hb hz
      rw [if_neg hz, PL.w64 _ (by omega) (by omega)]
      exact ih k (i + (runeT s i).2) (by omega) (by omega) (by omega)
    · rw [if_neg c]; exact ⟨_, rfl, by omega⟩
theorem char_from (s : ByteArray) (hs : s.size ≤ 140737488351232) (h0 : PL.charB 0 = false) : ∀ (d k : Nat) (i : Int), 0 ≤ i → (s.size : Int) - i ≤ d → d + 13 ≤ k → ∃ b, lex_char.l0 k s i = some b ∧ b ≤ s.size := by
  intro d
  induction d with
  | zero =>
    intro k i h0 h1 h2
    obtain ⟨k, rfl⟩ : ∃ m, k = m + 1 := ⟨k - 1, by omega⟩
    exact ⟨-1, by simp only [lex_char.l0]; rw [if_neg (by omega)], by omega⟩
  | succ d ih =>
    intro k i hi0 h1 h2
    obtain ⟨k, rfl⟩ : ∃ m, k = m + 1 := ⟨k - 1, by omega⟩
    simp only [lex_char.l0]
    by_cases c : i < s.size
    · obtain ⟨e, hn, hb⟩ := rune_ends s i hs
      have e : utf_Rune.f s i = some (runeT s i) := e
      rw [if_pos c, e, Option.bind_some, show utf_Char.f k (runeT s i).1 = some (PL.charB (runeT s i).1) from char_eq _ k (by omega), Option.bind_some]
      cases hc : PL.charB (runeT s i).1 with
      | false => exact ⟨_, rfl, by omega⟩
      | true =>
        have hz : (runeT s i).2 ≠ 0 := by
          intro hz
          obtain ⟨n, hn⟩ : ∃ n : Nat, i = (n : Int) := ⟨i.toNat, by omega⟩
          rw [hn] at hc hz
          rw [rune_zero s _ hs hz, h0] at hc
          cases hc
        obtain ⟨_, hb1, _⟩ := hb hz
        rw [if_pos rfl, PL.w64 _ (by omega) (by omega)]
        exact ih k (i + (runeT s i).2) (by omega) (by omega) (by omega)
    · rw [if_neg c]; exact ⟨_, rfl, by omega⟩
abbrev sSec : ByteArray := ⟨#[60, 33, 91]⟩
/-- Of a token what it says of its place. -/
def TokOK (s : ByteArray) (x : Tok) : Prop :=
  ∃ i : Nat, x.at_ = (i : Int) ∧ i < s.size ∧ ((1 ≤ x.kind ∧ x.kind ≤ 3 ∧ bt s i = 60 ∧ nextB s i sSec = false ∧ (x.kind = 2 → x.attrs = [])) ∨
    (x.kind = 4 ∧ x.name = ⟨#[]⟩ ∧ x.attrs = [] ∧ (bt s i ≠ 60 ∨ nextB s i sSec = true)))
def Rise (s : ByteArray) : Int → List Tok → Prop
  | _, [] => True
  | i, x :: l => i ≤ x.at_ ∧ TokOK s x ∧ Rise s (x.at_ + 1) l
theorem Rise.low {s : ByteArray} {i j : Int} {l : List Tok} (h : Rise s j l) (hij : i ≤ j) : Rise s i l := by
  cases l with
  | nil => trivial
  | cons x l => exact ⟨by have := h.1; omega, h.2⟩
def Fine (s : ByteArray) (i : Nat) : Except (Int × Int) (List Tok × Nat) → Prop
  | .error (a, c) => 0 ≤ a ∧ a ≤ s.size
  | .ok (t, j) => i < j ∧ j ≤ s.size ∧ (t = [] ∨ ∃ x, t = [x] ∧ x.at_ = (i : Int) ∧ TokOK s x)
def Fine1 (s : ByteArray) (i : Nat) : Except (Int × Int) Nat → Prop
  | .error (a, c) => 0 ≤ a ∧ a ≤ s.size
  | .ok j => i < j ∧ j ≤ s.size
def FineT (s : ByteArray) (i : Nat) (P : Tok → Prop) : Except (Int × Int) (Tok × Nat) → Prop
  | .error (a, c) => 0 ≤ a ∧ a ≤ s.size
  | .ok (t, j) => i < j ∧ j ≤ s.size ∧ t.at_ = (i : Int) ∧ P t
theorem up_fine (s t : ByteArray) (start i : Nat) (hi : i ≤ s.size) (hst : start ≤ s.size) : match upS s t start i with | .error (a, c) => 0 ≤ a ∧ a ≤ (s.size : Int) | .ok n => i + n + t.size ≤ s.size := by
  unfold upS
  split
  · rename_i h
    split at h
    · cases h; exact ⟨by omega, by omega⟩
    · cases h
  · rename_i n h
    split at h
    · cases h
    · rename_i h0
      cases h
      have h1 := Lib.index_room (s.data.toList.drop i) t.data.toList (by omega)
      rw [List.length_drop, ← Lib.size_eq, ← Lib.size_eq] at h1
      omega
theorem comment_fine (s : ByteArray) (i : Nat) (hi : i + 4 ≤ s.size) : Fine1 s i (commentS s i) := by
  unfold commentS
  have h := up_fine s sDash i (i + 4) hi (by omega)
  cases hu : upS s sDash i (i + 4) with
  | error p => rw [hu] at h; exact h
  | ok n =>
    rw [hu] at h
    have hz : sDash.size = 2 := rfl
    simp only at h ⊢
    split
    · rename_i hn
      have h1 := nextB_le hn (by omega)
      have hz1 : sGt.size = 1 := rfl
      exact ⟨by omega, by omega⟩
    · exact ⟨by omega, by omega⟩
theorem order_fine (s : ByteArray) (i : Nat) (hi : i + 2 ≤ s.size) (hs : s.size ≤ 140737488351232) : Fine1 s i (orderS s i) := by
  unfold orderS
  have hk := namEnd_le s hs _ (i + 2) (Nat.le_refl _) hi
  split
  · exact ⟨by omega, by omega⟩
  split
  · exact ⟨by omega, by omega⟩
  have h := up_fine s sQE i (namEnd s (i + 2)) hk.2 (by omega)
  cases hu : upS s sQE i (namEnd s (i + 2)) with
  | error p => rw [hu] at h; exact h
  | ok n =>
    rw [hu] at h
    have hz : sQE.size = 2 := rfl
    simp only at h ⊢
    exact ⟨by omega, by omega⟩
theorem closing_fine (s : ByteArray) (i : Nat) (hi : i + 2 ≤ s.size) : FineT s i (fun t => t.kind = 2 ∧ t.attrs = []) (closingS s i) := by
  unfold closingS
  cases hw : wordS s i (i + 2) with
  | error p =>
    obtain ⟨a, c⟩ := p
    unfold wordS at hw
    split at hw
    · cases hw; exact ⟨by omega, by omega⟩
    · split at hw
      · cases hw; exact ⟨by omega, by omega⟩
      · cases hw
  | ok k =>
    have h1 := wordS_le hi hw
    have h0 : i + 2 ≤ k := by
      unfold wordS at hw
      split at hw
      · cases hw
      · split at hw
        · cases hw
        · cases hw; exact (skip_le partB s (i + 2) hi).1
    have h2 := skip_le blankB s k h1
    simp only
    split
    · exact ⟨by omega, by omega⟩
    · split
      · rename_i hn
        have h3 := nextB_le hn h2.2
        have hz1 : sGt.size = 1 := rfl
        exact ⟨by omega, by omega, rfl, rfl, rfl⟩
      · exact ⟨by omega, by omega⟩
theorem extract_le (s : ByteArray) (i j : Nat) : (s.extract i j).size ≤ s.size := by rw [ByteArray.size_extract]; omega
theorem text_at (s : ByteArray) (i e : Nat) (hie : i < e) (he : e ≤ s.size) (hs : s.size ≤ 1000000) : ∃ r, textAt s i e = some r ∧ FineT s i (fun t => t.kind = 4 ∧ t.name = ⟨#[]⟩ ∧ t.attrs = []) r := by
  unfold textAt
  have hx : (s.extract i e).size = e - i := by rw [ByteArray.size_extract]; omega
  have hu := PL.unescape_ok (s.extract i e) (by omega) false
  obtain ⟨⟨t, a, c⟩, hq⟩ : ∃ p, PL.lex_Unescape.f (s.extract i e) false = some p := by
    rw [hu]
    cases Plain.uL PL.refL false ((s.extract i e).size + 1) 0 (s.extract i e).data.toList <;> exact ⟨_, rfl⟩
  have hr := unescape_range _ _ _ _ _ hq
  rw [hq]
  refine ⟨_, rfl, ?_⟩
  have hix := Lib.index_le (s.extract i e).data.toList sEnd.data.toList
  rw [← Lib.size_eq] at hix
  obtain ⟨z, hz⟩ : ∃ z, Lib.index (s.extract i e).data.toList sEnd.data.toList = z := ⟨_, rfl⟩
  simp only [hz] at hix ⊢
  split
  · rename_i h1; exact ⟨by have := h1.1; omega, by omega⟩
  · split
    · exact ⟨hie, he, rfl, rfl, rfl, rfl⟩
    · exact ⟨by omega, by omega⟩
theorem bt_data (s : ByteArray) (i : Nat) (h : i < s.data.toList.length) : bt s i = ((s.data.toList[i]).toNat : Int) := by
  have h' : i < s.size := by rw [Lib.size_eq]; exact h
  unfold bt
  rw [Int.toNat_natCast, dif_pos h']
  rfl
theorem next_iff (s : ByteArray) (i : Nat) (t : ByteArray) : nextB s i t = true ↔ t.data.toList <+: s.data.toList.drop i := by
  unfold nextB Lib.hasPrefix
  exact List.isPrefixOf_iff_prefix
theorem bt_first (s : ByteArray) (i : Nat) (hi : i < s.size) : nextB s i sLt = true ↔ bt s i = 60 := by
  have hl : i < s.data.toList.length := by rw [← Lib.size_eq]; exact hi
  rw [next_iff, List.drop_eq_getElem_cons hl, bt_data s i hl]
  show [60] <+: _ ↔ _
  rw [List.cons_prefix_cons]
  simp only [List.nil_prefix, and_true]
  constructor
  · intro h; rw [← h]; rfl
  · intro h; exact (UInt8.toNat_inj.1 (show _ = 60 by omega)).symm
theorem next_short {s : ByteArray} {i : Nat} (t u : ByteArray) (q : List UInt8) (h : nextB s i t = true) (e : t.data.toList = u.data.toList ++ q) : nextB s i u = true := by
  rw [next_iff] at h ⊢
  rw [e] at h
  exact (List.prefix_append _ _).trans h
theorem next_not {s : ByteArray} {i : Nat} (t u : ByteArray) (q : List UInt8) (h : nextB s i u = false) (e : t.data.toList = u.data.toList ++ q) : nextB s i t = false := by
  cases hb : nextB s i t with
  | false => rfl
  | true => rw [next_short t u q hb e] at h; cases h
theorem value_fine (s : ByteArray) (start i : Nat) (hi : i < s.size) (hst : start ≤ s.size) (hs : s.size ≤ 1000000) : ∃ r, valueS s start i = some r ∧ (match r with | .error (a, c) => 0 ≤ a ∧ a ≤ (s.size : Int) | .ok (u, q) => i < q ∧ q ≤ s.size) := by
  unfold valueS
  split
  · exact ⟨_, rfl, by simp only; omega⟩
  · rename_i h0
    have h1 := Go.Plain.index_lt h0
    rw [List.length_drop, ← Lib.size_eq s] at h1
    obtain ⟨n, hn⟩ : ∃ n, (Lib.indexByte (s.data.toList.drop (i + 1)) (bt s i).toNat.toUInt8).toNat = n := ⟨_, rfl⟩
    rw [hn] at h1 ⊢
    have hx : (s.extract (i + 1) (i + 1 + n)).size = n := by rw [ByteArray.size_extract]; omega
    split
    · rename_i h2
      have h3 := Go.Plain.index_lt (l := (s.extract (i + 1) (i + 1 + n)).data.toList) (c := 60) (by omega)
      rw [← Lib.size_eq, hx] at h3
      exact ⟨_, rfl, by simp only; omega⟩
    · have hu := PL.unescape_ok (s.extract (i + 1) (i + 1 + n)) (by omega) true
      obtain ⟨⟨t, a, c⟩, hq⟩ : ∃ p, PL.lex_Unescape.f (s.extract (i + 1) (i + 1 + n)) true = some p := by
        rw [hu]
        cases Plain.uL PL.refL true ((s.extract (i + 1) (i + 1 + n)).size + 1) 0 (s.extract (i + 1) (i + 1 + n)).data.toList <;> exact ⟨_, rfl⟩
      have hr := unescape_range _ _ _ _ _ hq
      rw [hq]
      refine ⟨_, rfl, ?_⟩
      simp only
      split
      · rename_i h4
        split at h4
        · cases h4
        · cases h4; omega
      · rename_i h4
        split at h4
        · cases h4; omega
        · cases h4
theorem word_fine (s : ByteArray) (start i : Nat) (hi : i ≤ s.size) (hst : start ≤ s.size) : match wordS s start i with | .error (a, c) => a ≤ s.size | .ok k => i < k ∧ k < s.size := by
  have h := skip_le partB s i hi
  unfold wordS
  split
  · rename_i h4
    split at h4
    · cases h4; exact hst
    · split at h4
      · cases h4; exact hi
      · cases h4
  · rename_i h4
    split at h4
    · cases h4
    · split at h4
      · cases h4
      · cases h4; omega
theorem attr_fine (s : ByteArray) (start j : Nat) (hj : j ≤ s.size) (hst : start ≤ s.size) (hs : s.size ≤ 1000000) : ∃ r, attrS s start j = some r ∧ (match r with | .error (a, c) => 0 ≤ a ∧ a ≤ (s.size : Int) | .ok (u, q) => j < q ∧ q ≤ s.size) := by
  have hw := word_fine s start j hj hst
  unfold attrS
  cases h : wordS s start j with
  | error p =>
    rw [h] at hw
    exact ⟨_, rfl, by simp only at hw ⊢; omega⟩
  | ok k =>
    rw [h] at hw
    simp only at hw ⊢
    have h2 := skip_le blankB s k (by omega)
    split
    · exact ⟨_, rfl, by simp only; omega⟩
    split
    · exact ⟨_, rfl, by simp only; omega⟩
    have h3 := skip_le blankB s (skip blankB s k + 1) (by omega)
    split
    · exact ⟨_, rfl, by simp only; omega⟩
    split
    · exact ⟨_, rfl, by simp only; omega⟩
    obtain ⟨r, hr, hf⟩ := value_fine s start (skip blankB s (skip blankB s k + 1)) (by omega) hst hs
    rw [hr]
    refine ⟨_, rfl, ?_⟩
    cases r with
    | error p => exact hf
    | ok p => obtain ⟨u, q⟩ := p; simp only at hf ⊢; omega
theorem tagL_fine (s : ByteArray) (start : Nat) (hst : start ≤ s.size) (hs : s.size ≤ 1000000) : ∀ (d i : Nat) (l : List Raw), i ≤ s.size → s.size - i < d → ∃ r, tagL s start d i l = some r ∧ (match r with | .error (a, c) => 0 ≤ a ∧ a ≤ (s.size : Int) | .ok (k, u, q) => (k = 1 ∨ k = 3) ∧ i < q ∧ q ≤ s.size) := by
  intro d
  induction d with
  | zero => intro i l hi hd; omega
  | succ d ih =>
    intro i l hi hd
    rw [tagL]
    have h2 := skip_le blankB s i hi
    split
    · exact ⟨_, rfl, by simp only; omega⟩
    split
    · rename_i hn
      have h3 := nextB_le hn h2.2
      have hz : sGt.size = 1 := rfl
      exact ⟨_, rfl, Or.inl rfl, by omega, by omega⟩
    split
    · rename_i hn
      have h3 := nextB_le hn h2.2
      have hz : sSlGt.size = 2 := rfl
      exact ⟨_, rfl, Or.inr rfl, by omega, by omega⟩
    split
    · rename_i hn
      have h3 := nextB_le hn h2.2
      have hz : sSl.size = 1 := rfl
      split
      · exact ⟨_, rfl, by simp only; omega⟩
      · exact ⟨_, rfl, by simp only; omega⟩
    split
    · exact ⟨_, rfl, by simp only; omega⟩
    split
    · exact ⟨_, rfl, by simp only; omega⟩
    obtain ⟨r, hr, hf⟩ := attr_fine s start (skip blankB s i) h2.2 hst hs
    rw [hr, Option.bind_some]
    cases r with
    | error p => exact ⟨_, rfl, hf⟩
    | ok p =>
      obtain ⟨x, q⟩ := p
      simp only at hf ⊢
      obtain ⟨r, hr, hf2⟩ := ih q (l ++ [x]) hf.2 (by omega)
      refine ⟨r, hr, ?_⟩
      cases r with
      | error p => exact hf2
      | ok p => obtain ⟨k, u, z⟩ := p; simp only at hf2 ⊢; exact ⟨hf2.1, by omega, hf2.2.2⟩
theorem tag_fine (s : ByteArray) (i : Nat) (hi : i < s.size) (hs : s.size ≤ 1000000) : ∃ r, tagS s i = some r ∧ FineT s i (fun t => t.kind = 1 ∨ t.kind = 3) r := by
  have hw := word_fine s i (i + 1) (by omega) (by omega)
  unfold tagS
  cases h : wordS s i (i + 1) with
  | error p =>
    rw [h] at hw
    exact ⟨_, rfl, by simp only at hw; exact ⟨by omega, by omega⟩⟩
  | ok k =>
    rw [h] at hw
    simp only at hw ⊢
    obtain ⟨r, hr, hf⟩ := tagL_fine s i (by omega) hs (s.size + 1) k [] (by omega) (by omega)
    rw [hr]
    refine ⟨_, rfl, ?_⟩
    cases r with
    | error p => exact hf
    | ok p => obtain ⟨k, u, q⟩ := p; simp only at hf; exact ⟨by omega, hf.2.2, rfl, hf.1⟩
theorem text_fine (s : ByteArray) (i : Nat) (hi : i < s.size) (hl : bt s i ≠ 60) (hs : s.size ≤ 1000000) : ∃ r, textS s i = some r ∧ FineT s i (fun t => t.kind = 4 ∧ t.name = ⟨#[]⟩ ∧ t.attrs = []) r := by
  unfold textS
  split
  · exact text_at s i s.size hi (Nat.le_refl _) hs
  · rename_i h0
    have h1 := Go.Plain.index_lt h0
    rw [List.length_drop, ← Lib.size_eq s] at h1
    refine text_at s i _ ?_ (by omega) hs
    have hl2 : i < s.data.toList.length := by rw [← Lib.size_eq]; exact hi
    rw [List.drop_eq_getElem_cons hl2] at h0 ⊢
    rw [bt_data s i hl2] at hl
    have hne : ((s.data.toList[i]) == 60) = false := beq_eq_false_iff_ne.2 (fun e => hl (by rw [e]; rfl))
    unfold Lib.indexByte at h0 ⊢
    rw [hne] at h0 ⊢
    simp only [Bool.false_eq_true, if_false] at h0 ⊢
    split at h0
    · exact absurd (show (-1 : Int) < 0 by decide) h0
    · rename_i h3
      rw [if_neg h3]
      have hge : -1 ≤ Lib.indexByte (s.data.toList.drop (i + 1)) 60 := by rw [← Lib.index_one]; exact Lib.index_ge _ _
      have hne1 : Lib.indexByte (s.data.toList.drop (i + 1)) 60 ≠ -1 := fun e => h3 (by rw [e]; rfl)
      omega
theorem section_fine (s : ByteArray) (i : Nat) (hi : i + 9 ≤ s.size) (hs : s.size ≤ 1000000) : ∃ r, sectionS s i = some r ∧ FineT s i (fun t => t.kind = 4 ∧ t.name = ⟨#[]⟩ ∧ t.attrs = []) r := by
  unfold sectionS
  have h := up_fine s sCE i (i + 9) hi (by omega)
  cases hu : upS s sCE i (i + 9) with
  | error p => rw [hu] at h; exact ⟨_, rfl, h⟩
  | ok n =>
    rw [hu] at h
    have hz : sCE.size = 3 := rfl
    simp only at h ⊢
    have hx := extract_le s (i + 9) (i + 9 + n)
    rw [PL.ends_ok _ (by omega)]
    exact ⟨_, rfl, by omega, by omega, rfl, rfl, rfl, rfl⟩
theorem one_fine (s : ByteArray) (i : Nat) (hi : i < s.size) (hs : s.size ≤ 1000000) : ∃ r, oneS s i = some r ∧ Fine s i r := by
  have tok : ∀ (r : Except (Int × Int) (Tok × Nat)) (P : Tok → Prop), FineT s i P r → (∀ t : Tok, t.at_ = (i : Int) → P t → TokOK s t) → Fine s i (someTok r) := by
    intro r P hr hP
    cases r with
    | error p => exact hr
    | ok p => obtain ⟨t, j⟩ := p; obtain ⟨h1, h2, h3, h4⟩ := hr; exact ⟨h1, h2, Or.inr ⟨t, rfl, h3, hP t h3 h4⟩⟩
  have goes : ∀ (r : Except (Int × Int) Nat), Fine1 s i r → Fine s i (match r with | .error e => .error e | .ok j => .ok ([], j)) := by
    intro r hr
    cases r with
    | error p => exact hr
    | ok j => exact ⟨hr.1, hr.2, Or.inl rfl⟩
  unfold oneS
  by_cases h1 : nextB s i sPi = true
  · rw [if_pos h1]
    have := nextB_le h1 (by omega)
    exact ⟨_, rfl, goes _ (order_fine s i this (by omega))⟩
  rw [if_neg h1]
  by_cases h2 : nextB s i sCom = true
  · rw [if_pos h2]
    have := nextB_le h2 (by omega)
    exact ⟨_, rfl, goes _ (comment_fine s i this)⟩
  rw [if_neg h2]
  by_cases h3 : nextB s i sCd = true
  · rw [if_pos h3]
    have := nextB_le h3 (by omega)
    obtain ⟨r, hr, hf⟩ := section_fine s i this hs
    rw [hr]
    refine ⟨_, rfl, tok r _ hf fun t ha hp => ⟨i, ha, hi, Or.inr ⟨hp.1, hp.2.1, hp.2.2, Or.inr ?_⟩⟩⟩
    exact next_short sCd sSec [67, 68, 65, 84, 65, 91] h3 rfl
  rw [if_neg h3]
  by_cases h4 : nextB s i sBD = true
  · rw [if_pos h4]
    exact ⟨_, rfl, show (0 : Int) ≤ i by omega, show (i : Int) ≤ s.size by omega⟩
  rw [if_neg h4]
  by_cases h5 : nextB s i sBang = true
  · rw [if_pos h5]
    exact ⟨_, rfl, show (0 : Int) ≤ i by omega, show (i : Int) ≤ s.size by omega⟩
  rw [if_neg h5]
  have hsec : nextB s i sSec = false := next_not sSec sBang [91] (by cases hb : nextB s i sBang with | false => rfl | true => exact absurd hb h5) rfl
  by_cases h6 : nextB s i sEnd2 = true
  · rw [if_pos h6]
    have := nextB_le h6 (by omega)
    refine ⟨_, rfl, tok _ _ (closing_fine s i this) fun t ha hp => ⟨i, ha, hi, Or.inl ⟨by rw [hp.1]; decide, by rw [hp.1]; decide, (bt_first s i hi).1 (next_short sEnd2 sLt [47] h6 rfl), hsec, fun _ => hp.2⟩⟩⟩
  rw [if_neg h6]
  by_cases h7 : nextB s i sLt = true
  · rw [if_pos h7]
    obtain ⟨r, hr, hf⟩ := tag_fine s i hi hs
    rw [hr]
    refine ⟨_, rfl, tok r _ hf fun t ha hp => ⟨i, ha, hi, Or.inl ⟨by rcases hp with h | h <;> rw [h] <;> decide, by rcases hp with h | h <;> rw [h] <;> decide, (bt_first s i hi).1 h7, hsec, fun h => by rcases hp with e | e <;> rw [e] at h <;> exact absurd h (by decide)⟩⟩⟩
  rw [if_neg h7]
  have hb : bt s i ≠ 60 := fun h => h7 ((bt_first s i hi).2 h)
  obtain ⟨r, hr, hf⟩ := text_fine s i hi hb hs
  rw [hr]
  exact ⟨_, rfl, tok r _ hf fun t ha hp => ⟨i, ha, hi, Or.inr ⟨hp.1, hp.2.1, hp.2.2, Or.inl hb⟩⟩⟩
theorem loop_fine (s : ByteArray) (hs : s.size ≤ 100000) : ∀ (d i : Nat) (l : List Tok), i ≤ s.size → s.size - i < d → l.length ≤ i → ∃ r, loopS s d i l = some r ∧ (match r with | .error (a, c) => 0 ≤ a ∧ a ≤ (s.size : Int) | .ok u => ∃ m, u = l ++ m ∧ Rise s i m ∧ u.length ≤ s.size) := by
  intro d
  induction d with
  | zero => intro i l hi hd; omega
  | succ d ih =>
    intro i l hi hd hl
    rw [loopS]
    by_cases hlt : i < s.size
    · rw [if_pos hlt]
      obtain ⟨r, hr, hf⟩ := one_fine s i hlt (by omega)
      rw [hr, Option.bind_some]
      cases r with
      | error p => exact ⟨_, rfl, hf⟩
      | ok p =>
        obtain ⟨t, j⟩ := p
        obtain ⟨h1, h2, h3⟩ := hf
        have hlen : t.length ≤ 1 := by rcases h3 with rfl | ⟨x, rfl, _⟩ <;> simp
        simp only
        rw [if_pos h2, if_pos (by omega)]
        obtain ⟨r, hr, hf⟩ := ih j (l ++ t) h2 (by omega) (by simp; omega)
        refine ⟨r, hr, ?_⟩
        cases r with
        | error p => exact hf
        | ok u =>
          obtain ⟨m, hm, hR, hlen⟩ := hf
          refine ⟨t ++ m, by rw [hm, List.append_assoc], ?_, hlen⟩
          rcases h3 with rfl | ⟨x, rfl, hx, hT⟩
          · exact hR.low (by omega)
          · exact ⟨by omega, hT, hR.low (by omega)⟩
    · rw [if_neg hlt]
      exact ⟨_, rfl, [], by simp, trivial, by omega⟩
theorem decl_fine (s : ByteArray) (h5 : 5 ≤ s.size) : match declS s with | .error (a, c) => 0 ≤ a ∧ a ≤ (s.size : Int) | .ok j => j ≤ s.size := by
  have step : ∀ (q : Bool × Nat × Nat) (name : ByteArray) (fold : Bool) (vs : List ByteArray), q.2.2 ≤ s.size → (declStep s q name fold vs).2.2 ≤ s.size := by
    intro q name fold vs hq
    unfold declStep
    split
    · exact (skip_le blankB s _ (settingS_le hq).2).2
    · exact hq
  have h1 := (skip_le blankB s 5 h5).2
  have h2 := (skip_le blankB s _ (settingS_le (name := sVer) (fold := false) (vs := [sOne]) h1).2).2
  have h3 := step ((settingS s (skip blankB s 5) sVer false [sOne]).1, skip blankB s (settingS s (skip blankB s 5) sVer false [sOne]).2 - (settingS s (skip blankB s 5) sVer false [sOne]).2, skip blankB s (settingS s (skip blankB s 5) sVer false [sOne]).2) sEnc true [sU8] h2
  have h4 := step _ sSta false [sYes, sNo] h3
  unfold declS
  generalize declStep s (declStep s _ _ _ _) _ _ _ = q at h4
  unfold declEnd
  by_cases c : q.1 = true ∧ nextB s q.2.2 sQE = true
  · rw [if_pos c]
    have := nextB_le c.2 h4
    exact this
  · rw [if_neg c]
    simp only
    omega
/-- What lex.Tokens answers. -/
def Says (s : ByteArray) (l : List Tok) (a : Int) : Prop := 0 ≤ a ∧ a ≤ s.size ∧ Rise s 0 l ∧ l.length ≤ s.size
theorem lex_says (s : ByteArray) (hs : s.size ≤ 40000) : ∃ l a c, lexTok s = some (l, a, c) ∧ Says s l a ∧ (c ≠ 0 → l = []) := by
  unfold lexTok
  by_cases h1 : 32768 < s.size
  · rw [if_pos h1]
    exact ⟨_, _, _, rfl, ⟨by omega, by omega, trivial, by simp⟩, fun _ => rfl⟩
  rw [if_neg h1]
  obtain ⟨i, hi, hi1⟩ := check_from s (by omega) s.size (s.size + 20) 0 (by omega) (by omega) (by omega)
  rw [show utf_Check.f (s.size + 20) s = some i from hi, Option.bind_some]
  by_cases h2 : 0 ≤ i
  · rw [if_pos h2]
    exact ⟨_, _, _, rfl, ⟨h2, hi1, trivial, by simp⟩, fun _ => rfl⟩
  rw [if_neg h2]
  obtain ⟨j, hj, hj1⟩ := char_from s (by omega) (by decide) s.size (s.size + 20) 0 (by omega) (by omega) (by omega)
  rw [show lex_char.f (s.size + 20) s = some j from hj, Option.bind_some]
  by_cases h3 : 0 ≤ j
  · rw [if_pos h3]
    exact ⟨_, _, _, rfl, ⟨h3, hj1, trivial, by simp⟩, fun _ => rfl⟩
  rw [if_neg h3]
  have hst : match startS s with | .error (a, c) => 0 ≤ a ∧ a ≤ (s.size : Int) | .ok j => j ≤ s.size := by
    unfold startS
    by_cases h : nextB s 0 sDecl = true ∧ 5 < s.size ∧ blankB (bt s 5) = true
    · rw [if_pos h]
      exact decl_fine s (by omega)
    · rw [if_neg h]
      exact Nat.zero_le _
  cases hd : startS s with
  | error p =>
    obtain ⟨a, c⟩ := p
    rw [hd] at hst
    exact ⟨_, _, _, rfl, ⟨hst.1, hst.2, trivial, by simp⟩, fun _ => rfl⟩
  | ok j0 =>
    rw [hd] at hst
    simp only at hst ⊢
    rw [if_pos hst]
    obtain ⟨r, hr, hf⟩ := loop_fine s (by omega) (s.size + 1) j0 [] hst (by omega) (by simp)
    rw [hr]
    cases r with
    | error p =>
      obtain ⟨a, c⟩ := p
      exact ⟨_, _, _, rfl, ⟨hf.1, hf.2, trivial, by simp⟩, fun _ => rfl⟩
    | ok u =>
      obtain ⟨m, hm, hR, hlen⟩ := hf
      rw [List.nil_append] at hm
      subst hm
      exact ⟨_, _, _, rfl, ⟨by decide, by omega, hR.low (by omega), hlen⟩, fun h => absurd rfl h⟩
end Go.Proofs.YtffpbhbiamkkpaaDoor.Lx
