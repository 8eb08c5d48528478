/- What lex.Tokens answers: it always answers; its tokens rise; what is wrong lies in the document. -/
import Derived.Test.YtffpbhbiamkkpaaDoorLxQ
import Derived.Test.YtffpbhbiamkkpaaDoorM3
import Derived.Lib.EndianBits
import Derived.Deep.RegionWith
namespace Go.Proofs.YtffpbhbiamkkpaaDoor.Lx
open Go.RowKit Go.Proofs.YtffpbhbiamkkpaaDoor.PU Go.Proofs.YtffpbhbiamkkpaaDoorW.PrintWords
open Go.Proofs.YtffpbhbiamkkpaaDoor.PG (runeT rune_ends char_eq)
set_option linter.unusedVariables false
theorem check_from (s : ByteArray) (hs : s.size ≤ 140737488351232) : ∀ (d k : Nat) (i : Int), 0 ≤ i → (s.size : Int) - i ≤ d → d + 13 ≤ k → ∃ b, utf_Check.l0 k s i = some b ∧ b ≤ s.size := by
  intro d
  induction d with
  | zero =>
    intro k i h0 h1 h2
    obtain ⟨k, rfl⟩ : ∃ m, k = m + 1 := ⟨k - 1, by omega⟩
    exact ⟨-1, by simp only [utf_Check.l0]; rw [if_neg (by omega)], by omega⟩
  | succ d ih =>
    intro k i h0 h1 h2
    obtain ⟨k, rfl⟩ : ∃ m, k = m + 1 := ⟨k - 1, by omega⟩
    simp only [utf_Check.l0]
    by_cases c : i < s.size
    · obtain ⟨e, hn, hb⟩ := rune_ends s i hs
      have e : utf_Rune.f s i = some (runeT s i) := e
      rw [if_pos c, e, Option.bind_some]
      by_cases hz : (runeT s i).2 = 0
      · rw [if_pos hz]; exact ⟨_, rfl, by omega⟩
      obtain ⟨_, hb1, _⟩ := hb hz
      rw [if_neg hz, PL.w64 _ (by omega) (by omega)]
      exact ih k (i + (runeT s i).2) (by omega) (by omega) (by omega)
    · rw [if_neg c]; exact ⟨_, rfl, by omega⟩
theorem char_from (s : ByteArray) (hs : s.size ≤ 140737488351232) (h0 : PL.charB 0 = false) : ∀ (d k : Nat) (i : Int), 0 ≤ i → (s.size : Int) - i ≤ d → d + 13 ≤ k → ∃ b, lex_char.l0 k s i = some b ∧ b ≤ s.size := by
  intro d
  induction d with
  | zero =>
    intro k i h0 h1 h2
    obtain ⟨k, rfl⟩ : ∃ m, k = m + 1 := ⟨k - 1, by omega⟩
    exact ⟨-1, by simp only [lex_char.l0]; rw [if_neg (by omega)], by omega⟩
  | succ d ih =>
    intro k i hi0 h1 h2
    obtain ⟨k, rfl⟩ : ∃ m, k = m + 1 := ⟨k - 1, by omega⟩
    simp only [lex_char.l0]
    by_cases c : i < s.size
    · obtain ⟨e, hn, hb⟩ := rune_ends s i hs
      have e : utf_Rune.f s i = some (runeT s i) := e
      rw [if_pos c, e, Option.bind_some, show utf_Char.f k (runeT s i).1 = some (PL.charB (runeT s i).1) from char_eq _ k (by omega), Option.bind_some]
      cases hc : PL.charB (runeT s i).1 with
      | false => exact ⟨_, rfl, by omega⟩
      | true =>
        have hz : (runeT s i).2 ≠ 0 := by
          intro hz
          obtain ⟨n, hn⟩ : ∃ n : Nat, i = (n : Int) := ⟨i.toNat, by omega⟩
          rw [hn] at hc hz
          rw [rune_zero s _ hs hz, h0] at hc
          cases hc
        obtain ⟨_, hb1, _⟩ := hb hz
        rw [if_pos rfl, PL.w64 _ (by omega) (by omega)]
        exact ih k (i + (runeT s i).2) (by omega) (by omega) (by omega)
    · rw [if_neg c]; exact ⟨_, rfl, by omega⟩
abbrev sSec : ByteArray := ⟨#[60, 33, 91]⟩
/-- Of a token what it says of its place. -/
def TokOK (s : ByteArray) (x : Tok) : Prop :=
  ∃ i : Nat, x.at_ = (i : Int) ∧ i < s.size ∧ ((1 ≤ x.kind ∧ x.kind ≤ 3 ∧ bt s i = 60 ∧ nextB s i sSec = false ∧ (x.kind = 2 → x.attrs = [])) ∨
    (x.kind = 4 ∧ x.name = ⟨#[]⟩ ∧ x.attrs = [] ∧ (bt s i ≠ 60 ∨ nextB s i sSec = true)))
def Rise (s : ByteArray) : Int → List Tok → Prop
  | _, [] => True
  | i, x :: l => i ≤ x.at_ ∧ TokOK s x ∧ Rise s (x.at_ + 1) l
theorem Rise.low {s : ByteArray} {i j : Int} {l : List Tok} (h : Rise s j l) (hij : i ≤ j) : Rise s i l := by
  cases l with
  | nil => trivial
  | cons x l => exact ⟨by have := h.1; omega, h.2⟩
def Fine (s : ByteArray) (i : Nat) : Except (Int × Int) (List Tok × Nat) → Prop
  | .error (a, c) => 0 ≤ a ∧ a ≤ s.size
  | .ok (t, j) => i < j ∧ j ≤ s.size ∧ (t = [] ∨ ∃ x, t = [x] ∧ x.at_ = (i : Int) ∧ TokOK s x)
def Fine1 (s : ByteArray) (i : Nat) : Except (Int × Int) Nat → Prop
  | .error (a, c) => 0 ≤ a ∧ a ≤ s.size
  | .ok j => i < j ∧ j ≤ s.size
def FineT (s : ByteArray) (i : Nat) (P : Tok → Prop) : Except (Int × Int) (Tok × Nat) → Prop
  | .error (a, c) => 0 ≤ a ∧ a ≤ s.size
  | .ok (t, j) => i < j ∧ j ≤ s.size ∧ t.at_ = (i : Int) ∧ P t
theorem up_fine (s t : ByteArray) (start i : Nat) (hi : i ≤ s.size) (hst : start ≤ s.size) : match upS s t start i with | .error (a, c) => 0 ≤ a ∧ a ≤ (s.size : Int) | .ok n => i + n + t.size ≤ s.size := by
  unfold upS
  split
  · rename_i h
    split at h
    · cases h; exact ⟨by omega, by omega⟩
    · cases h
  · rename_i n h
    split at h
    · cases h
    · rename_i h0
      cases h
      have h1 := Lib.index_room (s.data.toList.drop i) t.data.toList (by omega)
      rw [List.length_drop, ← Lib.size_eq, ← Lib.size_eq] at h1
      omega
theorem comment_fine (s : ByteArray) (i : Nat) (hi : i + 4 ≤ s.size) : Fine1 s i (commentS s i) := by
  unfold commentS
  have h := up_fine s sDash i (i + 4) hi (by omega)
  cases hu : upS s sDash i (i + 4) with
  | error p => rw [hu] at h; exact h
  | ok n =>
    rw [hu] at h
    have hz : sDash.size = 2 := rfl
    simp only at h ⊢
    split
    · rename_i hn
      have h1 := nextB_le hn (by omega)
      have hz1 : sGt.size = 1 := rfl
      exact ⟨by omega, by omega⟩
    · exact ⟨by omega, by omega⟩
theorem order_fine (s : ByteArray) (i : Nat) (hi : i + 2 ≤ s.size) (hs : s.size ≤ 140737488351232) : Fine1 s i (orderS s i) := by
  unfold orderS
  have hk := namEnd_le s hs _ (i + 2) (Nat.le_refl _) hi
  split
  · exact ⟨by omega, by omega⟩
  split
  · exact ⟨by omega, by omega⟩
  have h := up_fine s sQE i (namEnd s (i + 2)) hk.2 (by omega)
  cases hu : upS s sQE i (namEnd s (i + 2)) with
  | error p => rw [hu] at h; exact h
  | ok n =>
    rw [hu] at h
    have hz : sQE.size = 2 := rfl
    simp only at h ⊢
    exact ⟨by omega, by omega⟩
theorem closing_fine (s : ByteArray) (i : Nat) (hi : i + 2 ≤ s.size) : FineT s i (fun t => t.kind = 2 ∧ t.attrs = []) (closingS s i) := by
  unfold closingS
  cases hw : wordS s i (i + 2) with
  | error p =>
    obtain ⟨a, c⟩ := p
    unfold wordS at hw
    split at hw
    · cases hw; exact ⟨by omega, by omega⟩
    · split at hw
      · cases hw; exact ⟨by omega, by omega⟩
      · cases hw
  | ok k =>
    have h1 := wordS_le hi hw
    have h0 : i + 2 ≤ k := by
      unfold wordS at hw
      split at hw
      · cases hw
      · split at hw
        · cases hw
        · cases hw; exact (skip_le partB s (i + 2) hi).1
    have h2 := skip_le blankB s k h1
    simp only
    split
    · exact ⟨by omega, by omega⟩
    · split
      · rename_i hn
        have h3 := nextB_le hn h2.2
        have hz1 : sGt.size = 1 := rfl
        exact ⟨by omega, by omega, rfl, rfl, rfl⟩
      · exact ⟨by omega, by omega⟩
theorem extract_le (s : ByteArray) (i j : Nat) : (s.extract i j).size ≤ s.size := by rw [ByteArray.size_extract]; omega
theorem text_at (s : ByteArray) (i e : Nat) (hie : i < e) (he : e ≤ s.size) (hs : s.size ≤ 1000000) : ∃ r, textAt s i e = some r ∧ FineT s i (fun t => t.kind = 4 ∧ t.name = ⟨#[]⟩ ∧ t.attrs = []) r := by
  unfold textAt
  have hx : (s.extract i e).size = e - i := by rw [ByteArray.size_extract]; omega
  have hu := PL.unescape_ok (s.extract i e) (by omega) false
  obtain ⟨⟨t, a, c⟩, hq⟩ : ∃ p, PL.lex_Unescape.f (s.extract i e) false = some p := by
    rw [hu]
    cases Plain.uL PL.refL false ((s.extract i e).size + 1) 0 (s.extract i e).data.toList <;> exact ⟨_, rfl⟩
  have hr := unescape_range _ _ _ _ _ hq
  rw [hq]
  refine ⟨_, rfl, ?_⟩
  have hix := Lib.index_le (s.extract i e).data.toList sEnd.data.toList
  rw [← Lib.size_eq] at hix
  obtain ⟨z, hz⟩ : ∃ z, Lib.index (s.extract i e).data.toList sEnd.data.toList = z := ⟨_, rfl⟩
  simp only [hz] at hix ⊢
  split
  · rename_i h1; exact ⟨by have := h1.1; omega, by omega⟩
  · split
    · exact ⟨hie, he, rfl, rfl, rfl, rfl⟩
    · exact ⟨by omega, by omega⟩
theorem bt_data (s : ByteArray) (i : Nat) (h : i < s.data.toList.length) : bt s i = ((s.data.toList[i]).toNat : Int) := by
  have h' : i < s.size := by rw [Lib.size_eq]; exact h
  unfold bt
  rw [Int.toNat_natCast, dif_pos h']
  rfl
theorem next_iff (s : ByteArray) (i : Nat) (t : ByteArray) : nextB s i t = true ↔ t.data.toList <+: s.data.toList.drop i := by
  unfold nextB Lib.hasPrefix
  exact List.isPrefixOf_iff_prefix
theorem bt_first (s : ByteArray) (i : Nat) (hi : i < s.size) : nextB s i sLt = true ↔ bt s i = 60 := by
  have hl : i < s.data.toList.length := by rw [← Lib.size_eq]; exact hi
  rw [next_iff, List.drop_eq_getElem_cons hl, bt_data s i hl]
  show [60] <+: _ ↔ _
  rw [List.cons_prefix_cons]
  simp only [List.nil_prefix, and_true]
  constructor
  · intro h; rw [← h]; rfl
  · intro h; exact (UInt8.toNat_inj.1 (show _ = 60 by omega)).symm
theorem next_short {s : ByteArray} {i : Nat} (t u : ByteArray) (q : List UInt8) (h : nextB s i t = true) (e : t.data.toList = u.data.toList ++ q) : nextB s i u = true := by
  rw [next_iff] at h ⊢
  rw [e] at h
  exact (List.prefix_append _ _).trans h
theorem next_not {s : ByteArray} {i : Nat} (t u : ByteArray) (q : List UInt8) (h : nextB s i u = false) (e : t.data.toList = u.data.toList ++ q) : nextB s i t = false := by
  cases hb : nextB s i t with
  | false => rfl
  | true => rw [next_short t u q hb e] at h; cases h
theorem value_fine (s : ByteArray) (start i : Nat) (hi : i < s.size) (hst : start ≤ s.size) (hs : s.size ≤ 1000000) : ∃ r, valueS s start i = some r ∧ (match r with | .error (a, c) => 0 ≤ a ∧ a ≤ (s.size : Int) | .ok (u, q) => i < q ∧ q ≤ s.size) := by
  unfold valueS
  split
  · exact ⟨_, rfl, by simp only; omega⟩
  · rename_i h0
    have h1 := Go.Plain.index_lt h0
    rw [List.length_drop, ← Lib.size_eq s] at h1
    obtain ⟨n, hn⟩ : ∃ n, (Lib.indexByte (s.data.toList.drop (i + 1)) (bt s i).toNat.toUInt8).toNat = n := ⟨_, rfl⟩
    rw [hn] at h1 ⊢
    have hx : (s.extract (i + 1) (i + 1 + n)).size = n := by rw [ByteArray.size_extract]; omega
    split
    · rename_i h2
      have h3 := Go.Plain.index_lt (l := (s.extract (i + 1) (i + 1 + n)).data.toList) (c := 60) (by omega)
      rw [← Lib.size_eq, hx] at h3
      exact ⟨_, rfl, by simp only; omega⟩
    · have hu := PL.unescape_ok (s.extract (i + 1) (i + 1 + n)) (by omega) true
      obtain ⟨⟨t, a, c⟩, hq⟩ : ∃ p, PL.lex_Unescape.f (s.extract (i + 1) (i + 1 + n)) true = some p := by
        rw [hu]
        cases Plain.uL PL.refL true ((s.extract (i + 1) (i + 1 + n)).size + 1) 0 (s.extract (i + 1) (i + 1 + n)).data.toList <;> exact ⟨_, rfl⟩
      have hr := unescape_range _ _ _ _ _ hq
      rw [hq]
      refine ⟨_, rfl, ?_⟩
      simp only
      split
      · rename_i h4
        split at h4
        · cases h4
        · cases h4; omega
      · rename_i h4
        split at h4
        · cases h4; omega
        · cases h4
theorem word_fine (s : ByteArray) (start i : Nat) (hi : i ≤ s.size) (hst : start ≤ s.size) : match wordS s start i with | .error (a, c) => a ≤ s.size | .ok k => i < k ∧ k < s.size := by
  have h := skip_le partB s i hi
  unfold wordS
  split
  · rename_i h4
    split at h4
    · cases h4; exact hst
    · split at h4
      · cases h4; exact hi
      · cases h4
  · rename_i h4
    split at h4
    · cases h4
    · split at h4
      · cases h4
      · cases h4; omega
theorem attr_fine (s : ByteArray) (start j : Nat) (hj : j ≤ s.size) (hst : start ≤ s.size) (hs : s.size ≤ 1000000) : ∃ r, attrS s start j = some r ∧ (match r with | .error (a, c) => 0 ≤ a ∧ a ≤ (s.size : Int) | .ok (u, q) => j < q ∧ q ≤ s.size) := by
  have hw := word_fine s start j hj hst
  unfold attrS
  cases h : wordS s start j with
  | error p =>
    rw [h] at hw
    exact ⟨_, rfl, by simp only at hw ⊢; omega⟩
  | ok k =>
    rw [h] at hw
    simp only at hw ⊢
    have h2 := skip_le blankB s k (by omega)
    split
    · exact ⟨_, rfl, by simp only; omega⟩
    split
    · exact ⟨_, rfl, by simp only; omega⟩
    have h3 := skip_le blankB s (skip blankB s k + 1) (by omega)
    split
    · exact ⟨_, rfl, by simp only; omega⟩
    split
    · exact ⟨_, rfl, by simp only; omega⟩
    obtain ⟨r, hr, hf⟩ := value_fine s start (skip blankB s (skip blankB s k + 1)) (by omega) hst hs
    rw [hr]
    refine ⟨_, rfl, ?_⟩
    cases r with
    | error p => exact hf
    | ok p => obtain ⟨u, q⟩ := p; simp only at hf ⊢; omega
theorem tagL_fine (s : ByteArray) (start : Nat) (hst : start ≤ s.size) (hs : s.size ≤ 1000000) : ∀ (d i : Nat) (l : List Raw), i ≤ s.size → s.size - i < d → ∃ r, tagL s start d i l = some r ∧ (match r with | .error (a, c) => 0 ≤ a ∧ a ≤ (s.size : Int) | .ok (k, u, q) => (k = 1 ∨ k = 3) ∧ i < q ∧ q ≤ s.size) := by
  intro d
  induction d with
  | zero => intro i l hi hd; omega
  | succ d ih =>
    intro i l hi hd
    rw [tagL]
    have h2 := skip_le blankB s i hi
    split
    · exact ⟨_, rfl, by simp only; omega⟩
    split
    · rename_i hn
      have h3 := nextB_le hn h2.2
      have hz : sGt.size = 1 := rfl
      exact ⟨_, rfl, Or.inl rfl, by omega, by omega⟩
    split
    · rename_i hn
      have h3 := nextB_le hn h2.2
      have hz : sSlGt.size = 2 := rfl
      exact ⟨_, rfl, Or.inr rfl, by omega, by omega⟩
    split
    · rename_i hn
      have h3 := nextB_le hn h2.2
      have hz : sSl.size = 1 := rfl
      split
      · exact ⟨_, rfl, by simp only; omega⟩
      · exact ⟨_, rfl, by simp only; omega⟩
    split
    · exact ⟨_, rfl, by simp only; omega⟩
    split
    · exact ⟨_, rfl, by simp only; omega⟩
    obtain ⟨r, hr, hf⟩ := attr_fine s start (skip blankB s i) h2.2 hst hs
    rw [hr, Option.bind_some]
    cases r with
    | error p => exact ⟨_, rfl, hf⟩
    | ok p =>
      obtain ⟨x, q⟩ := p
      simp only at hf ⊢
      obtain ⟨r, hr, hf2⟩ := ih q (l ++ [x]) hf.2 (by omega)
      refine ⟨r, hr, ?_⟩
      cases r with
      | error p => exact hf2
      | ok p => obtain ⟨k, u, z⟩ := p; simp only at hf2 ⊢; exact ⟨hf2.1, by omega, hf2.2.2⟩
theorem tag_fine (s : ByteArray) (i : Nat) (hi : i < s.size) (hs : s.size ≤ 1000000) : ∃ r, tagS s i = some r ∧ FineT s i (fun t => t.kind = 1 ∨ t.kind = 3) r := by
  have hw := word_fine s i (i + 1) (by omega) (by omega)
  unfold tagS
  cases h : wordS s i (i + 1) with
  | error p =>
    rw [h] at hw
    exact ⟨_, rfl, by simp only at hw; exact ⟨by omega, by omega⟩⟩
  | ok k =>
    rw [h] at hw
    simp only at hw ⊢
    obtain ⟨r, hr, hf⟩ := tagL_fine s i (by omega) hs (s.size + 1) k [] (by omega) (by omega)
    rw [hr]
    refine ⟨_, rfl, ?_⟩
    cases r with
    | error p => exact hf
    | ok p => obtain ⟨k, u, q⟩ := p; simp only at hf; exact ⟨by omega, hf.2.2, rfl, hf.1⟩
theorem text_fine (s : ByteArray) (i : Nat) (hi : i < s.size) (hl : bt s i ≠ 60) (hs : s.size ≤ 1000000) : ∃ r, textS s i = some r ∧ FineT s i (fun t => t.kind = 4 ∧ t.name = ⟨#[]⟩ ∧ t.attrs = []) r := by
  unfold textS
  split
  · exact text_at s i s.size hi (Nat.le_refl _) hs
  · rename_i h0
    have h1 := Go.Plain.index_lt h0
    rw [List.length_drop, ← Lib.size_eq s] at h1
    refine text_at s i _ ?_ (by omega) hs
    have hl2 : i < s.data.toList.length := by rw [← Lib.size_eq]; exact hi
    rw [List.drop_eq_getElem_cons hl2] at h0 ⊢
    rw [bt_data s i hl2] at hl
    have hne : ((s.data.toList[i]) == 60) = false := beq_eq_false_iff_ne.2 (fun e => hl (by rw [e]; rfl))
    unfold Lib.indexByte at h0 ⊢
    rw [hne] at h0 ⊢
    simp only [Bool.false_eq_true, if_false] at h0 ⊢
    split at h0
    · exact absurd (show (-1 : Int) < 0 by decide) h0
    · rename_i h3
      rw [if_neg h3]
      have hge : -1 ≤ Lib.indexByte (s.data.toList.drop (i + 1)) 60 := by rw [← Lib.index_one]; exact Lib.index_ge _ _
      have hne1 : Lib.indexByte (s.data.toList.drop (i + 1)) 60 ≠ -1 := fun e => h3 (by rw [e]; rfl)
      omega
theorem section_fine (s : ByteArray) (i : Nat) (hi : i + 9 ≤ s.size) (hs : s.size ≤ 1000000) : ∃ r, sectionS s i = some r ∧ FineT s i (fun t => t.kind = 4 ∧ t.name = ⟨#[]⟩ ∧ t.attrs = []) r := by
  unfold sectionS
  have h := up_fine s sCE i (i + 9) hi (by omega)
  cases hu : upS s sCE i (i + 9) with
  | error p => rw [hu] at h; exact ⟨_, rfl, h⟩
  | ok n =>
    rw [hu] at h
    have hz : sCE.size = 3 := rfl
    simp only at h ⊢
    have hx := extract_le s (i + 9) (i + 9 + n)
    rw [PL.ends_ok _ (by omega)]
    exact ⟨_, rfl, by omega, by omega, rfl, rfl, rfl, rfl⟩
theorem one_fine (s : ByteArray) (i : Nat) (hi : i < s.size) (hs : s.size ≤ 1000000) : ∃ r, oneS s i = some r ∧ Fine s i r := by
  have tok : ∀ (r : Except (Int × Int) (Tok × Nat)) (P : Tok → Prop), FineT s i P r → (∀ t : Tok, t.at_ = (i : Int) → P t → TokOK s t) → Fine s i (someTok r) := by
    intro r P hr hP
    cases r with
    | error p => exact hr
    | ok p => obtain ⟨t, j⟩ := p; obtain ⟨h1, h2, h3, h4⟩ := hr; exact ⟨h1, h2, Or.inr ⟨t, rfl, h3, hP t h3 h4⟩⟩
  have goes : ∀ (r : Except (Int × Int) Nat), Fine1 s i r → Fine s i (match r with | .error e => .error e | .ok j => .ok ([], j)) := by
    intro r hr
    cases r with
    | error p => exact hr
    | ok j => exact ⟨hr.1, hr.2, Or.inl rfl⟩
  unfold oneS
  by_cases h1 : nextB s i sPi = true
  · rw [if_pos h1]
    have := nextB_le h1 (by omega)
    exact ⟨_, rfl, goes _ (order_fine s i this (by omega))⟩
  rw [if_neg h1]
  by_cases h2 : nextB s i sCom = true
  · rw [if_pos h2]
    have := nextB_le h2 (by omega)
    exact ⟨_, rfl, goes _ (comment_fine s i this)⟩
  rw [if_neg h2]
  by_cases h3 : nextB s i sCd = true
  · rw [if_pos h3]
    have := nextB_le h3 (by omega)
    obtain ⟨r, hr, hf⟩ := section_fine s i this hs
    rw [hr]
    refine ⟨_, rfl, tok r _ hf fun t ha hp => ⟨i, ha, hi, Or.inr ⟨hp.1, hp.2.1, hp.2.2, Or.inr ?_⟩⟩⟩
    exact next_short sCd sSec [67, 68, 65, 84, 65, 91] h3 rfl
  rw [if_neg h3]
  by_cases h4 : nextB s i sBD = true
  · rw [if_pos h4]
    exact ⟨_, rfl, show (0 : Int) ≤ i by omega, show (i : Int) ≤ s.size by omega⟩
  rw [if_neg h4]
  by_cases h5 : nextB s i sBang = true
  · rw [if_pos h5]
    exact ⟨_, rfl, show (0 : Int) ≤ i by omega, show (i : Int) ≤ s.size by omega⟩
  rw [if_neg h5]
  have hsec : nextB s i sSec = false := next_not sSec sBang [91] (by cases hb : nextB s i sBang with | false => rfl | true => exact absurd hb h5) rfl
  by_cases h6 : nextB s i sEnd2 = true
  · rw [if_pos h6]
    have := nextB_le h6 (by omega)
    refine ⟨_, rfl, tok _ _ (closing_fine s i this) fun t ha hp => ⟨i, ha, hi, Or.inl ⟨by rw [hp.1]; decide, by rw [hp.1]; decide, (bt_first s i hi).1 (next_short sEnd2 sLt [47] h6 rfl), hsec, fun _ => hp.2⟩⟩⟩
  rw [if_neg h6]
  by_cases h7 : nextB s i sLt = true
  · rw [if_pos h7]
    obtain ⟨r, hr, hf⟩ := tag_fine s i hi hs
    rw [hr]
    refine ⟨_, rfl, tok r _ hf fun t ha hp => ⟨i, ha, hi, Or.inl ⟨by rcases hp with h | h <;> rw [h] <;> decide, by rcases hp with h | h <;> rw [h] <;> decide, (bt_first s i hi).1 h7, hsec, fun h => by rcases hp with e | e <;> rw [e] at h <;> exact absurd h (by decide)⟩⟩⟩
  rw [if_neg h7]
  have hb : bt s i ≠ 60 := fun h => h7 ((bt_first s i hi).2 h)
  obtain ⟨r, hr, hf⟩ := text_fine s i hi hb hs
  rw [hr]
  exact ⟨_, rfl, tok r _ hf fun t ha hp => ⟨i, ha, hi, Or.inr ⟨hp.1, hp.2.1, hp.2.2, Or.inl hb⟩⟩⟩
theorem loop_fine (s : ByteArray) (hs : s.size ≤ 100000) : ∀ (d i : Nat) (l : List Tok), i ≤ s.size → s.size - i < d → l.length ≤ i → ∃ r, loopS s d i l = some r ∧ (match r with | .error (a, c) => 0 ≤ a ∧ a ≤ (s.size : Int) | .ok u => ∃ m, u = l ++ m ∧ Rise s i m ∧ u.length ≤ s.size) := by
  intro d
  induction d with
  | zero => intro i l hi hd; omega
  | succ d ih =>
    intro i l hi hd hl
    rw [loopS]
    by_cases hlt : i < s.size
    · rw [if_pos hlt]
      obtain ⟨r, hr, hf⟩ := one_fine s i hlt (by omega)
      rw [hr, Option.bind_some]
      cases r with
      | error p => exact ⟨_, rfl, hf⟩
      | ok p =>
        obtain ⟨t, j⟩ := p
        obtain ⟨h1, h2, h3⟩ := hf
        have hlen : t.length ≤ 1 := by rcases h3 with rfl | ⟨x, rfl, _⟩ <;> simp
        simp only
        rw [if_pos h2, if_pos (by omega)]
        obtain ⟨r, hr, hf⟩ := ih j (l ++ t) h2 (by omega) (by simp; omega)
        refine ⟨r, hr, ?_⟩
        cases r with
        | error p => exact hf
        | ok u =>
          obtain ⟨m, hm, hR, hlen⟩ := hf
          refine ⟨t ++ m, by rw [hm, List.append_assoc], ?_, hlen⟩
          rcases h3 with rfl | ⟨x, rfl, hx, hT⟩
          · exact hR.low (by omega)
          · exact ⟨by omega, hT, hR.low (by omega)⟩
    · rw [if_neg hlt]
      exact ⟨_, rfl, [], by simp, trivial, by omega⟩
theorem decl_fine (s : ByteArray) (h5 : 5 ≤ s.size) : match declS s with | .error (a, c) => 0 ≤ a ∧ a ≤ (s.size : Int) | .ok j => j ≤ s.size := by
  have step : ∀ (q : Bool × Nat × Nat) (name : ByteArray) (fold : Bool) (vs : List ByteArray), q.2.2 ≤ s.size → (declStep s q name fold vs).2.2 ≤ s.size := by
    intro q name fold vs hq
    unfold declStep
    split
    · exact (skip_le blankB s _ (settingS_le hq).2).2
    · exact hq
  have h1 := (skip_le blankB s 5 h5).2
  have h2 := (skip_le blankB s _ (settingS_le (name := sVer) (fold := false) (vs := [sOne]) h1).2).2
  have h3 := step ((settingS s (skip blankB s 5) sVer false [sOne]).1, skip blankB s (settingS s (skip blankB s 5) sVer false [sOne]).2 - (settingS s (skip blankB s 5) sVer false [sOne]).2, skip blankB s (settingS s (skip blankB s 5) sVer false [sOne]).2) sEnc true [sU8] h2
  have h4 := step _ sSta false [sYes, sNo] h3
  unfold declS
  generalize declStep s (declStep s _ _ _ _) _ _ _ = q at h4
  unfold declEnd
  by_cases c : q.1 = true ∧ nextB s q.2.2 sQE = true
  · rw [if_pos c]
    have := nextB_le c.2 h4
    exact this
  · rw [if_neg c]
    simp only
    omega
/-- What lex.Tokens answers. -/
def Says (s : ByteArray) (l : List Tok) (a : Int) : Prop := 0 ≤ a ∧ a ≤ s.size ∧ Rise s 0 l ∧ l.length ≤ s.size
theorem lex_says (s : ByteArray) (hs : s.size ≤ 40000) : ∃ l a c, lexTok s = some (l, a, c) ∧ Says s l a ∧ (c ≠ 0 → l = []) := by
  unfold lexTok
  by_cases h1 : 32768 < s.size
  · rw [if_pos h1]
    exact ⟨_, _, _, rfl, ⟨by omega, by omega, trivial, by simp⟩, fun _ => rfl⟩
  rw [if_neg h1]
  obtain ⟨i, hi, hi1⟩ := check_from s (by omega) s.size (s.size + 20) 0 (by omega) (by omega) (by omega)
  rw [show utf_Check.f (s.size + 20) s = some i from hi, Option.bind_some]
  by_cases h2 : 0 ≤ i
  · rw [if_pos h2]
    exact ⟨_, _, _, rfl, ⟨h2, hi1, trivial, by simp⟩, fun _ => rfl⟩
  rw [if_neg h2]
  obtain ⟨j, hj, hj1⟩ := char_from s (by omega) (by decide) s.size (s.size + 20) 0 (by omega) (by omega) (by omega)
  rw [show lex_char.f (s.size + 20) s = some j from hj, Option.bind_some]
  by_cases h3 : 0 ≤ j
  · rw [if_pos h3]
    exact ⟨_, _, _, rfl, ⟨h3, hj1, trivial, by simp⟩, fun _ => rfl⟩
  rw [if_neg h3]
  have hst : match startS s with | .error (a, c) => 0 ≤ a ∧ a ≤ (s.size : Int) | .ok j => j ≤ s.size := by
    unfold startS
    by_cases h : nextB s 0 sDecl = true ∧ 5 < s.size ∧ blankB (bt s 5) = true
    · rw [if_pos h]
      exact decl_fine s (by omega)
    · rw [if_neg h]
      exact Nat.zero_le _
  cases hd : startS s with
  | error p =>
    obtain ⟨a, c⟩ := p
    rw [hd] at hst
    exact ⟨_, _, _, rfl, ⟨hst.1, hst.2, trivial, by simp⟩, fun _ => rfl⟩
  | ok j0 =>
    rw [hd] at hst
    simp only at hst ⊢
    rw [if_pos hst]
    obtain ⟨r, hr, hf⟩ := loop_fine s (by omega) (s.size + 1) j0 [] hst (by omega) (by simp)
    rw [hr]
    cases r with
    | error p =>
      obtain ⟨a, c⟩ := p
      exact ⟨_, _, _, rfl, ⟨hf.1, hf.2, trivial, by simp⟩, fun _ => rfl⟩
    | ok u =>
      obtain ⟨m, hm, hR, hlen⟩ := hf
      rw [List.nil_append] at hm
      subst hm
      exact ⟨_, _, _, rfl, ⟨by decide, by omega, hR.low (by omega), hlen⟩, fun h => absurd rfl h⟩
end Go.Proofs.YtffpbhbiamkkpaaDoor.Lx
namespace Go.Proofs.YtffpbhbiamkkpaaDoor.Lx
open Go.RowKit Go.Proofs.YtffpbhbiamkkpaaDoor.PU Go.Proofs.YtffpbhbiamkkpaaDoorW.PrintWords
open Go.Proofs.YtffpbhbiamkkpaaDoor.PG (runeT rune_ends char_eq)
set_option linter.unusedVariables false
/-- From place i of s and place j of u on the bytes m stand; behind them a < in both, or nothing. -/
structure View (s : ByteArray) (i : Nat) (u : ByteArray) (j : Nat) (m : List UInt8) : Prop where
  ex : ∃ x y, s.data.toList.drop i = m ++ x ∧ u.data.toList.drop j = m ++ y ∧ ((x = [] ∧ y = []) ∨ (x.head? = some 60 ∧ y.head? = some 60))
  hi : i ≤ s.size
  hj : j ≤ u.size
section
variable {s u : ByteArray} {i j : Nat} {m : List UInt8}
theorem View.len (v : View s i u j m) : i + m.length ≤ s.size ∧ j + m.length ≤ u.size := by
  obtain ⟨⟨x, y, hx, hy, _⟩, hi, hj⟩ := v
  have h1 := congrArg List.length hx
  have h2 := congrArg List.length hy
  rw [List.length_drop, ← Lib.size_eq, List.length_append] at h1 h2
  omega
theorem View.step (v : View s i u j m) (k : Nat) (hk : k ≤ m.length) : View s (i + k) u (j + k) (m.drop k) := by
  have hl := v.len
  obtain ⟨⟨x, y, hx, hy, h⟩, hi, hj⟩ := v
  refine ⟨⟨x, y, ?_, ?_, h⟩, by omega, by omega⟩
  · rw [← List.drop_drop, hx, List.drop_append_of_le_length hk]
  · rw [← List.drop_drop, hy, List.drop_append_of_le_length hk]
theorem pre_same : ∀ (t m x y : List UInt8), (∀ c ∈ t, c ≠ 60) → ((x = [] ∧ y = []) ∨ (x.head? = some 60 ∧ y.head? = some 60)) → List.isPrefixOf t (m ++ x) = List.isPrefixOf t (m ++ y) ∧ (List.isPrefixOf t (m ++ x) = true → t.length ≤ m.length)
  | [], m, x, y, _, _ => by simp
  | c :: t, [], x, y, ht, h => by
    have hc := ht c (by simp)
    rcases h with ⟨rfl, rfl⟩ | ⟨hx, hy⟩
    · simp
    · cases x with
      | nil => cases hx
      | cons a x =>
        cases y with
        | nil => cases hy
        | cons b y =>
          obtain rfl : a = 60 := by simpa using hx
          obtain rfl : b = 60 := by simpa using hy
          have e1 : ((c : UInt8) == 60) = false := beq_eq_false_iff_ne.2 hc
          simp [List.isPrefixOf, e1]
  | c :: t, d :: m, x, y, ht, h => by
    have ih := pre_same t m x y (fun c hc => ht c (by simp [hc])) h
    simp only [List.cons_append, List.isPrefixOf, Bool.and_eq_true, List.length_cons]
    refine ⟨by rw [ih.1], fun hh => by have := ih.2 hh.2; omega⟩
theorem View.next (v : View s i u j m) (t : ByteArray) (ht : ∀ c ∈ t.data.toList, c ≠ 60) : nextB u j t = nextB s i t ∧ (nextB s i t = true → t.size ≤ m.length) := by
  obtain ⟨⟨x, y, hx, hy, h⟩, hi, hj⟩ := v
  have := pre_same t.data.toList m x y ht h
  unfold nextB Lib.hasPrefix
  rw [hx, hy, Lib.size_eq]
  exact ⟨this.1.symm, this.2⟩
theorem View.next1 (v : View s i u j m) (t : ByteArray) (c : UInt8) (q : List UInt8) (e : t.data.toList = c :: q) (ht : ∀ c ∈ q, c ≠ 60) (hm : m ≠ []) : nextB u j t = nextB s i t ∧ (nextB s i t = true → t.size ≤ m.length) := by
  obtain ⟨⟨x, y, hx, hy, h⟩, hi, hj⟩ := v
  cases m with
  | nil => exact absurd rfl hm
  | cons d m =>
    have := pre_same q m x y ht h
    unfold nextB Lib.hasPrefix
    rw [hx, hy, Lib.size_eq, e]
    simp only [List.cons_append, List.isPrefixOf, Bool.and_eq_true, List.length_cons]
    exact ⟨by rw [this.1], fun hh => by have := this.2 hh.2; omega⟩
theorem View.bt (v : View s i u j m) (hm : m ≠ []) : bt u j = bt s i := by
  have hl := v.len
  obtain ⟨⟨x, y, hx, hy, h⟩, hi, hj⟩ := v
  cases m with
  | nil => exact absurd rfl hm
  | cons d m =>
    simp only [List.length_cons] at hl
    have h1 : i < s.data.toList.length := by rw [← Lib.size_eq]; omega
    have h2 : j < u.data.toList.length := by rw [← Lib.size_eq]; omega
    rw [bt_data s i h1, bt_data u j h2]
    rw [List.drop_eq_getElem_cons h1] at hx
    rw [List.drop_eq_getElem_cons h2] at hy
    simp only [List.cons_append, List.cons.injEq] at hx hy
    rw [hx.1, hy.1]
theorem View.at_end (v : View s i u j m) : (i = s.size ↔ j = u.size) := by
  obtain ⟨⟨x, y, hx, hy, h⟩, hi, hj⟩ := v
  have h1 := congrArg List.length hx
  have h2 := congrArg List.length hy
  rw [List.length_drop, ← Lib.size_eq, List.length_append] at h1 h2
  rcases h with ⟨rfl, rfl⟩ | ⟨hx, hy⟩
  · simp only [List.length_nil] at h1 h2; omega
  · cases x with
    | nil => cases hx
    | cons a x =>
      cases y with
      | nil => cases hy
      | cons b y => simp only [List.length_cons] at h1 h2; omega
theorem View.more (v : View s i u j m) (hm : m ≠ []) : i < s.size ∧ j < u.size := by
  have hl := v.len
  have : 0 < m.length := List.length_pos_iff.2 hm
  omega
theorem View.extract (v : View s i u j m) (k : Nat) (hk : k ≤ m.length) : u.extract j (j + k) = s.extract i (i + k) := by
  obtain ⟨⟨x, y, hx, hy, h⟩, hi, hj⟩ := v
  apply ByteArray.ext
  rw [ByteArray.data_extract, ByteArray.data_extract]
  apply Array.ext'
  rw [Array.toList_extract, Array.toList_extract, List.extract_eq_take_drop, List.extract_eq_take_drop, hx, hy]
  rw [List.take_append_of_le_length (by omega), List.take_append_of_le_length (by omega)]
  congr 1
  omega
/-- Behind the bytes that answer p. -/
theorem View.skip (p : Int → Bool) (hp : p 60 = false) : ∀ (m : List UInt8) (i j : Nat), View s i u j m → ∃ k, k ≤ m.length ∧ Lx.skip p s i = i + k ∧ Lx.skip p u j = j + k
  | [], i, j, v => by
    have stop : ∀ (s : ByteArray) (i : Nat) (x : List UInt8), i ≤ s.size → s.data.toList.drop i = x → (x = [] ∨ x.head? = some 60) → Lx.skip p s i = i := by
      intro s i x hi hx h
      by_cases c : i < s.size
      · have h1 : i < s.data.toList.length := by rw [← Lib.size_eq]; exact c
        rw [List.drop_eq_getElem_cons h1] at hx
        rcases h with rfl | h
        · cases hx
        · rw [← hx] at h
          have e : s.data.toList[i] = 60 := by simpa using h
          refine skip_stop ?_
          rw [bt_data s i h1, e]
          exact hp
      · exact skip_end c
    obtain ⟨⟨x, y, hx, hy, h⟩, hi, hj⟩ := v
    refine ⟨0, Nat.le_refl _, stop s i x hi hx ?_, stop u j y hj hy ?_⟩
    · rcases h with ⟨h, _⟩ | ⟨h, _⟩; exact Or.inl h; exact Or.inr h
    · rcases h with ⟨_, h⟩ | ⟨_, h⟩; exact Or.inl h; exact Or.inr h
  | d :: m, i, j, v => by
    have hm := v.more (by simp)
    have hb := v.bt (by simp)
    cases hc : p (Go.Proofs.YtffpbhbiamkkpaaDoorW.PrintWords.bt s i) with
    | true =>
      obtain ⟨k, h1, h2, h3⟩ := View.skip p hp m (i + 1) (j + 1) (v.step 1 (by simp))
      refine ⟨k + 1, by simp; omega, ?_, ?_⟩
      · rw [skip_step hm.1 hc, h2]; omega
      · rw [skip_step hm.2 (by rw [hb]; exact hc), h3]; omega
    | false => exact ⟨0, by simp, skip_stop hc, skip_stop (by rw [hb]; exact hc)⟩
theorem pre_long : ∀ (t a x : List UInt8), t.length ≤ a.length → List.isPrefixOf t (a ++ x) = List.isPrefixOf t a
  | [], a, x, _ => by simp
  | c :: t, [], x, h => by simp at h
  | c :: t, d :: a, x, h => by simp only [List.cons_append, List.isPrefixOf]; rw [pre_long t a x (by simpa using h)]
theorem index_view (m x y t : List UInt8) (n : Nat) (h : Lib.index (m ++ x) t = (n : Int)) (hn : n + t.length ≤ m.length) : Lib.index (m ++ y) t = (n : Int) := by
  have same : ∀ q, q ≤ n → Lib.occAt (m ++ y) t q = Lib.occAt (m ++ x) t q := by
    intro q hq
    unfold Lib.occAt
    rw [List.drop_append_of_le_length (by omega), List.drop_append_of_le_length (by omega), pre_long t _ y (by rw [List.length_drop]; omega), pre_long t _ x (by rw [List.length_drop]; omega)]
  rcases Lib.index_spec (m ++ x) t with ⟨h1, _⟩ | ⟨q, h1, h2, h3, h4⟩
  · omega
  · obtain rfl : q = n := by omega
    exact Lib.index_first (by rw [List.length_append]; omega) ((same q (Nat.le_refl _)).trans h3) (fun j hj => (same j (by omega)).trans (h4 j hj))
theorem View.index (v : View s i u j m) (t : List UInt8) (n : Nat) (h : Lib.index (s.data.toList.drop i) t = (n : Int)) (hn : n + t.length ≤ m.length) : Lib.index (u.data.toList.drop j) t = (n : Int) := by
  obtain ⟨⟨x, y, hx, hy, _⟩, hi, hj⟩ := v
  rw [hx] at h
  rw [hy]
  exact index_view m x y t n h hn
theorem View.up (v : View s i u j m) (t : ByteArray) (a b n : Nat) (h : upS s t a i = .ok n) (hn : n + t.size ≤ m.length) : upS u t b j = .ok n := by
  unfold upS at h ⊢
  split at h
  · cases h
  · rename_i h0
    injection h with h
    have e : Lib.index (s.data.toList.drop i) t.data.toList = (n : Int) := by omega
    have := v.index t.data.toList n e (by rw [← Lib.size_eq]; exact hn)
    rw [this, if_neg (by omega)]
    simp
theorem up_le {t : ByteArray} {a n : Nat} (hi : i ≤ s.size) (h : upS s t a i = .ok n) : i + n + t.size ≤ s.size := by
  unfold upS at h
  split at h
  · cases h
  · injection h with h
    have h1 := Lib.index_room (s.data.toList.drop i) t.data.toList (by omega)
    rw [List.length_drop, ← Lib.size_eq, ← Lib.size_eq] at h1
    omega
theorem no60 (t : ByteArray) (h : t.data.toList.all (fun c => c != 60) = true) : ∀ c ∈ t.data.toList, c ≠ 60 := by
  intro c hc
  have := List.all_eq_true.1 h c hc
  simpa using this
theorem ne_of_len {k : Nat} (h : 0 < k) (hk : k ≤ m.length) : m ≠ [] := fun e => by rw [e] at hk; simp at hk; omega
theorem View.comment (v : View s i u j m) (hb : nextB s i sCom = true) (k : Nat) (h : commentS s i = .ok (i + k)) (hk : k ≤ m.length) : commentS u j = .ok (j + k) := by
  unfold commentS at h ⊢
  cases hu : upS s sDash i (i + 4) with
  | error p => rw [hu] at h; cases h
  | ok n =>
    rw [hu] at h
    simp only at h
    have h4 := nextB_le hb v.hi
    have hz : sCom.size = 4 := rfl
    have hl := up_le (by omega) hu
    have hz2 : sDash.size = 2 := rfl
    split at h
    · rename_i hg
      injection h with h
      have v4 := v.step 4 (by omega)
      rw [v4.up sDash i j n hu (by rw [List.length_drop]; omega)]
      have v5 := v.step (4 + n + 2) (by omega)
      have := (v5.next sGt (no60 _ rfl)).1
      rw [show i + (4 + n + 2) = i + 4 + n + 2 by omega, show j + (4 + n + 2) = j + 4 + n + 2 by omega, hg] at this
      simp only
      rw [if_pos this]
      congr 1
      omega
    · cases h
theorem View.section (v : View s i u j m) (hb : nextB s i sCd = true) (k : Nat) (t : Tok) (h : sectionS s i = some (.ok (t, i + k))) (hk : k ≤ m.length) : sectionS u j = some (.ok (⟨t.kind, (j : Int), t.name, t.attrs, t.text⟩, j + k)) ∧ t.at_ = (i : Int) := by
  unfold sectionS at h ⊢
  cases hu : upS s sCE i (i + 9) with
  | error p => rw [hu] at h; cases h
  | ok n =>
    rw [hu] at h
    simp only at h
    have h4 := nextB_le hb v.hi
    have hz : sCd.size = 9 := rfl
    have hl := up_le (by omega) hu
    have hz2 : sCE.size = 3 := rfl
    cases hx : PL.lex_ends.f (s.extract (i + 9) (i + 9 + n)) with
    | none => rw [hx] at h; cases h
    | some x =>
      rw [hx, Option.map_some] at h
      have h := Option.some.inj h
      have h := Except.ok.inj h
      have h1 := congrArg Prod.fst h
      have h2 := congrArg Prod.snd h
      simp only at h1 h2
      have v4 := v.step 9 (by omega)
      rw [v4.up sCE i j n hu (by rw [List.length_drop]; omega)]
      have he := v4.extract n (by rw [List.length_drop]; omega)
      simp only
      rw [he, hx, Option.map_some, ← h1, show j + k = j + 9 + n + 3 by omega]
      exact ⟨rfl, rfl⟩
theorem View.word (v : View s i u j m) (a b q : Nat) (h : wordS s a i = .ok q) : ∃ k, 0 < k ∧ k ≤ m.length ∧ q = i + k ∧ wordS u b j = .ok (j + k) := by
  obtain ⟨k, hk, h1, h2⟩ := View.skip partB (by decide) m i j v
  have he := (v.step k hk).at_end
  unfold wordS at h ⊢
  rw [h1] at h
  rw [h2]
  by_cases c1 : i + k = s.size
  · rw [if_pos c1] at h; cases h
  · rw [if_neg c1] at h
    by_cases c2 : i + k = i
    · rw [if_pos c2] at h; cases h
    · rw [if_neg c2] at h
      injection h with h
      exact ⟨k, by omega, hk, h.symm, by rw [if_neg (fun e => c1 (he.2 e)), if_neg (by omega)]⟩
theorem View.closing (v : View s i u j m) (hb : nextB s i sEnd2 = true) (k : Nat) (t : Tok) (h : closingS s i = .ok (t, i + k)) (hk : k ≤ m.length) : closingS u j = .ok (⟨t.kind, (j : Int), t.name, t.attrs, t.text⟩, j + k) ∧ t.at_ = (i : Int) := by
  unfold closingS at h ⊢
  have h2 := nextB_le hb v.hi
  have hz : sEnd2.size = 2 := rfl
  cases hw : wordS s i (i + 2) with
  | error p => rw [hw] at h; cases h
  | ok q =>
    rw [hw] at h
    simp only at h
    have hq := wordS_le (by omega) hw
    have hsk := skip_le blankB s q hq
    have hmq : q < s.size := by
      have := word_fine s i (i + 2) (by omega) v.hi
      rw [hw] at this
      exact this.2
    by_cases c1 : Lx.skip blankB s q = s.size
    · rw [if_pos c1] at h; cases h
    rw [if_neg c1] at h
    cases hg : nextB s (Lx.skip blankB s q) sGt with
    | false => rw [hg] at h; cases h
    | true =>
      rw [hg, if_pos rfl] at h
      have h := Except.ok.inj h
      have e1 := congrArg Prod.fst h
      have e2 := congrArg Prod.snd h
      simp only at e1 e2
      have hw2 : 2 ≤ m.length := by
        have := word_fine s i (i + 2) (by omega) v.hi
        rw [hw] at this
        simp only at this
        omega
      have v2 := v.step 2 hw2
      obtain ⟨k1, p1, p2, p3, p4⟩ := v2.word i j q hw
      rw [List.length_drop] at p2
      have v3 := v2.step k1 (by rw [List.length_drop]; exact p2)
      obtain ⟨k2, r1, r2, r3⟩ := View.skip blankB (by decide) _ _ _ v3
      rw [p3] at c1 hg e1 e2
      rw [r2] at c1 hg e2
      rw [p4]
      simp only
      rw [r3]
      have v4 := v3.step k2 r1
      rw [if_neg (fun e => c1 (v4.at_end.2 e)), if_pos ((v4.next sGt (no60 _ rfl)).1.trans hg), ← e1, v2.extract k1 (by rw [List.length_drop]; omega)]
      refine ⟨?_, rfl⟩
      rw [show j + k = j + 2 + k1 + k2 + 1 by omega]
theorem View.value (v : View s i u j m) (hm : m ≠ []) (a b k : Nat) (x : ByteArray) (h : valueS s a i = some (.ok (x, i + k))) (hk : k ≤ m.length) : valueS u b j = some (.ok (x, j + k)) := by
  unfold valueS at h ⊢
  rw [v.bt hm]
  obtain ⟨c, hc⟩ : ∃ c, (Go.Proofs.YtffpbhbiamkkpaaDoorW.PrintWords.bt s i).toNat.toUInt8 = c := ⟨_, rfl⟩
  rw [hc] at h ⊢
  have h1 := List.length_pos_iff.2 hm
  have v1 := v.step 1 h1
  by_cases c1 : Lib.indexByte (s.data.toList.drop (i + 1)) c < 0
  · rw [if_pos c1] at h; cases h
  rw [if_neg c1] at h
  obtain ⟨n, hn⟩ : ∃ n : Nat, Lib.indexByte (s.data.toList.drop (i + 1)) c = (n : Int) := ⟨_, (Int.toNat_of_nonneg (by omega)).symm⟩
  rw [hn] at h
  simp only [Int.toNat_natCast] at h
  by_cases c2 : 0 ≤ Lib.indexByte (s.extract (i + 1) (i + 1 + n)).data.toList 60
  · rw [if_pos c2] at h; cases h
  rw [if_neg c2] at h
  cases hu : PL.lex_Unescape.f (s.extract (i + 1) (i + 1 + n)) true with
  | none => rw [hu] at h; cases h
  | some r =>
    rw [hu, Option.map_some] at h
    have h := Option.some.inj h
    by_cases c3 : r.2.2 = 0
    · rw [if_pos c3] at h
      have h := Except.ok.inj h
      have e1 := congrArg Prod.fst h
      have e2 := congrArg Prod.snd h
      simp only at e1 e2
      have hi : Lib.indexByte (u.data.toList.drop (j + 1)) c = (n : Int) := by
        rw [← Lib.index_one] at hn ⊢
        exact v1.index [c] n hn (by rw [List.length_drop]; simp; omega)
      rw [hi, if_neg (by omega)]
      simp only [Int.toNat_natCast]
      rw [v1.extract n (by rw [List.length_drop]; omega), if_neg c2, hu, Option.map_some, if_pos c3, e1, show j + k = j + 1 + n + 1 by omega]
    · rw [if_neg c3] at h; cases h
theorem View.attr (v : View s i u j m) (a b k : Nat) (x : Raw) (hs : s.size ≤ 1000000) (ha : a ≤ s.size) (h : attrS s a i = some (.ok (x, i + k))) (hk : k ≤ m.length) : attrS u b j = some (.ok (x, j + k)) := by
  unfold attrS at h ⊢
  cases hw : wordS s a i with
  | error p => rw [hw] at h; cases h
  | ok q =>
    rw [hw] at h
    simp only at h
    obtain ⟨k1, p1, p2, p3, p4⟩ := v.word a b q hw
    subst p3
    rw [p4]
    simp only
    have v1 := v.step k1 p2
    obtain ⟨k2, r1, r2, r3⟩ := View.skip blankB (by decide) _ _ _ v1
    rw [r2] at h
    rw [r3]
    have v2 := v1.step k2 r1
    by_cases c1 : i + k1 + k2 = s.size
    · rw [if_pos c1] at h; cases h
    rw [if_neg c1] at h
    rw [if_neg (fun e => c1 (v2.at_end.2 e))]
    obtain ⟨n1, n2⟩ := v2.next sEq (no60 _ rfl)
    rw [n1]
    cases hq : nextB s (i + k1 + k2) sEq with
    | false => rw [hq] at h; cases h
    | true =>
      rw [hq, if_neg (by decide)] at h
      rw [if_neg (by decide)]
      have n3 := n2 hq
      have hz : sEq.size = 1 := rfl
      have v3 := v2.step 1 (by omega)
      obtain ⟨k3, t1, t2, t3⟩ := View.skip blankB (by decide) _ _ _ v3
      rw [t2] at h
      rw [t3]
      have v4 := v3.step k3 t1
      by_cases c2 : i + k1 + k2 + 1 + k3 = s.size
      · rw [if_pos c2] at h; cases h
      rw [if_neg c2] at h
      rw [if_neg (fun e => c2 (v4.at_end.2 e)), (v4.next sQ (no60 _ rfl)).1, (v4.next sA (no60 _ rfl)).1]
      by_cases c3 : nextB s (i + k1 + k2 + 1 + k3) sQ = false ∧ nextB s (i + k1 + k2 + 1 + k3) sA = false
      · rw [if_pos c3] at h; cases h
      rw [if_neg c3] at h
      rw [if_neg c3]
      cases hv : valueS s a (i + k1 + k2 + 1 + k3) with
      | none => rw [hv] at h; cases h
      | some r =>
        rw [hv, Option.map_some] at h
        have h := Option.some.inj h
        cases r with
        | error p => cases h
        | ok r =>
          obtain ⟨y, q⟩ := r
          have h := Except.ok.inj h
          have e1 := congrArg Prod.fst h
          have e2 := congrArg Prod.snd h
          simp only at e1 e2
          have hl := v4.len
          obtain ⟨r', hr', hf⟩ := value_fine s a (i + k1 + k2 + 1 + k3) (by omega) ha hs
          rw [hv] at hr'
          obtain rfl := Option.some.inj hr'
          simp only at hf
          simp only [List.length_drop] at r1 t1 n3 hl
          obtain ⟨k4, hk4⟩ : ∃ k4, q = i + k1 + k2 + 1 + k3 + k4 := ⟨q - (i + k1 + k2 + 1 + k3), by omega⟩
          subst hk4
          have hl4 : k4 ≤ (List.drop k3 (List.drop 1 (List.drop k2 (List.drop k1 m)))).length := by simp only [List.length_drop]; omega
          rw [v4.value (ne_of_len (k := k4) (by omega) hl4) a b k4 y hv hl4, Option.map_some]
          simp only
          rw [v.extract k1 p2, e1, show j + k = j + k1 + k2 + 1 + k3 + k4 by omega]
theorem tagL_lt (s : ByteArray) (a : Nat) (hs : s.size ≤ 1000000) (ha : a ≤ s.size) : ∀ (d i : Nat) (l : List Raw) (kd : Int) (l' : List Raw) (q : Nat), i ≤ s.size → tagL s a d i l = some (.ok (kd, l', q)) → Lx.skip blankB s i < q ∧ q ≤ s.size := by
  intro d
  induction d with
  | zero => intro i l kd l' q _ h; cases h
  | succ d ih =>
    intro i l kd l' q hi h
    have h2 := skip_le blankB s i hi
    rw [tagL] at h
    by_cases c1 : Lx.skip blankB s i = s.size
    · rw [if_pos c1] at h; cases h
    rw [if_neg c1] at h
    by_cases c2 : nextB s (Lx.skip blankB s i) sGt = true
    · rw [if_pos c2] at h
      have := nextB_le c2 h2.2
      have hz : sGt.size = 1 := rfl
      cases h
      omega
    rw [if_neg c2] at h
    by_cases c3 : nextB s (Lx.skip blankB s i) sSlGt = true
    · rw [if_pos c3] at h
      have := nextB_le c3 h2.2
      have hz : sSlGt.size = 2 := rfl
      cases h
      omega
    rw [if_neg c3] at h
    by_cases c4 : nextB s (Lx.skip blankB s i) sSl = true
    · rw [if_pos c4] at h
      split at h <;> cases h
    rw [if_neg c4] at h
    split at h
    · cases h
    split at h
    · cases h
    obtain ⟨r, hr, hf⟩ := attr_fine s a (Lx.skip blankB s i) h2.2 ha hs
    rw [hr, Option.bind_some] at h
    cases r with
    | error p => cases h
    | ok p =>
      obtain ⟨x, q1⟩ := p
      simp only at hf h
      have h3 := ih q1 _ kd l' q hf.2 h
      have h4 := skip_le blankB s q1 hf.2
      omega
theorem View.tagL (a b : Nat) (hs : s.size ≤ 1000000) (ha : a ≤ s.size) : ∀ (d d' i j : Nat) (m : List UInt8) (l : List Raw) (kd : Int) (l' : List Raw) (k : Nat), View s i u j m → d ≤ d' → Lx.tagL s a d i l = some (.ok (kd, l', i + k)) → k ≤ m.length → Lx.tagL u b d' j l = some (.ok (kd, l', j + k)) := by
  intro d
  induction d with
  | zero => intro d' i j m l kd l' k _ _ h; cases h
  | succ d ih =>
    intro d' i j m l kd l' k v hd h hk
    obtain ⟨e, rfl⟩ : ∃ e, d' = e + 1 := ⟨d' - 1, by omega⟩
    have hlt := tagL_lt s a hs ha (d + 1) i l kd l' _ v.hi h
    rw [Lx.tagL] at h ⊢
    obtain ⟨k1, p1, p2, p3⟩ := View.skip blankB (by decide) _ _ _ v
    rw [p2] at h hlt
    rw [p3]
    have v1 := v.step k1 p1
    have hm1 : m.drop k1 ≠ [] := fun e => by have := congrArg List.length e; rw [List.length_drop, List.length_nil] at this; omega
    by_cases c1 : i + k1 = s.size
    · rw [if_pos c1] at h; cases h
    rw [if_neg c1] at h
    rw [if_neg (fun e => c1 (v1.at_end.2 e)), (v1.next sGt (no60 _ rfl)).1, (v1.next sSlGt (no60 _ rfl)).1, (v1.next sSl (no60 _ rfl)).1, v1.bt hm1]
    by_cases c2 : nextB s (i + k1) sGt = true
    · rw [if_pos c2] at h
      rw [if_pos c2]
      have h := Except.ok.inj (Option.some.inj h)
      have e1 := congrArg (fun z => z.1) h
      have e2 := congrArg (fun z => z.2.1) h
      have e3 := congrArg (fun z => z.2.2) h
      simp only at e1 e2 e3
      rw [← e1, ← e2, show j + k = j + k1 + 1 by omega]
    rw [if_neg c2] at h
    rw [if_neg c2]
    by_cases c3 : nextB s (i + k1) sSlGt = true
    · rw [if_pos c3] at h
      rw [if_pos c3]
      have h := Except.ok.inj (Option.some.inj h)
      have e1 := congrArg (fun z => z.1) h
      have e2 := congrArg (fun z => z.2.1) h
      have e3 := congrArg (fun z => z.2.2) h
      simp only at e1 e2 e3
      rw [← e1, ← e2, show j + k = j + k1 + 2 by omega]
    rw [if_neg c3] at h
    rw [if_neg c3]
    by_cases c4 : nextB s (i + k1) sSl = true
    · rw [if_pos c4] at h
      split at h <;> cases h
    rw [if_neg c4] at h
    rw [if_neg c4]
    by_cases c5 : partB (Go.Proofs.YtffpbhbiamkkpaaDoorW.PrintWords.bt s ((i + k1 : Nat) : Int)) = false ∨ i + k1 = i
    · rw [if_pos c5] at h; cases h
    rw [if_neg c5] at h
    rw [if_neg (by intro h; rcases h with h | h; exact c5 (Or.inl h); exact c5 (Or.inr (by omega)))]
    by_cases c6 : l.length = 65
    · rw [if_pos c6] at h; cases h
    rw [if_neg c6] at h
    rw [if_neg c6]
    have hl := v.len
    obtain ⟨r, hr, hf⟩ := attr_fine s a (i + k1) (by omega) ha hs
    rw [hr, Option.bind_some] at h
    cases r with
    | error p => cases h
    | ok p =>
      obtain ⟨x, q1⟩ := p
      simp only at hf h
      have h3 := tagL_lt s a hs ha d q1 _ kd l' _ hf.2 h
      have h4 := skip_le blankB s q1 hf.2
      obtain ⟨k2, hk2⟩ : ∃ k2, q1 = i + k1 + k2 := ⟨q1 - (i + k1), by omega⟩
      subst hk2
      have hk2l : k2 ≤ (m.drop k1).length := by rw [List.length_drop]; omega
      rw [v1.attr a b k2 x hs ha hr hk2l, Option.bind_some]
      simp only
      obtain ⟨k3, hk3⟩ : ∃ k3, k = k1 + k2 + k3 := ⟨k - (k1 + k2), by omega⟩
      subst hk3
      have := ih e (i + k1 + k2) (j + k1 + k2) ((m.drop k1).drop k2) (l ++ [x]) kd l' k3 (v1.step k2 hk2l) (by omega) (by rw [show i + k1 + k2 + k3 = i + (k1 + k2 + k3) by omega]; exact h) (by simp only [List.length_drop]; omega)
      rw [this, show j + k1 + k2 + k3 = j + (k1 + k2 + k3) by omega]
theorem View.tag (v : View s i u j m) (hs : s.size ≤ 1000000) (hsu : s.size ≤ u.size) (hm : m ≠ []) (k : Nat) (t : Tok) (h : tagS s i = some (.ok (t, i + k))) (hk : k ≤ m.length) : tagS u j = some (.ok (⟨t.kind, (j : Int), t.name, t.attrs, t.text⟩, j + k)) ∧ t.at_ = (i : Int) := by
  unfold tagS at h ⊢
  have h1 := List.length_pos_iff.2 hm
  have v1 := v.step 1 h1
  cases hw : wordS s i (i + 1) with
  | error p => rw [hw] at h; cases h
  | ok q =>
    rw [hw] at h
    simp only at h
    obtain ⟨k1, p1, p2, p3, p4⟩ := v1.word i j q hw
    subst p3
    rw [p4]
    simp only
    cases ht : Lx.tagL s i (s.size + 1) (i + 1 + k1) [] with
    | none => rw [ht] at h; cases h
    | some r =>
      rw [ht, Option.map_some] at h
      have h := Option.some.inj h
      cases r with
      | error p => cases h
      | ok r =>
        obtain ⟨kd, l', q⟩ := r
        simp only at h
        have h := Except.ok.inj h
        have e1 := congrArg Prod.fst h
        have e2 := congrArg Prod.snd h
        simp only at e1 e2
        have hl := (v1.step k1 p2).len
        have hlt := tagL_lt s i hs v.hi _ _ _ _ _ _ (by omega) ht
        have hsk := skip_le blankB s (i + 1 + k1) (by omega)
        obtain ⟨k2, hk2⟩ : ∃ k2, q = i + 1 + k1 + k2 := ⟨q - (i + 1 + k1), by omega⟩
        subst hk2
        simp only [List.length_drop] at p2
        have := View.tagL i j hs v.hi _ (u.size + 1) _ _ _ _ _ _ _ (v1.step k1 (by rw [List.length_drop]; exact p2)) (by omega) ht (by simp only [List.length_drop]; omega)
        rw [this, Option.map_some, v1.extract k1 (by rw [List.length_drop]; exact p2), ← e1]
        refine ⟨?_, rfl⟩
        simp only
        rw [show j + k = j + 1 + k1 + k2 by omega]
theorem index_at (x : UInt8) : ∀ l : List UInt8, x ∉ l → ∀ t, Lib.indexByte (l ++ x :: t) x = (l.length : Int)
  | [], _, t => by show (if x == x then (0 : Int) else _) = _; rw [if_pos (by simp)]; rfl
  | b :: l, h, t => by
    have hb : ¬ (b == x) = true := by simp at h ⊢; exact fun e => h.1 e.symm
    have ih := index_at x l (fun hm => h (by simp [hm])) t
    show (if b == x then 0 else if Lib.indexByte (l ++ x :: t) x == -1 then -1 else Lib.indexByte (l ++ x :: t) x + 1) = _
    rw [if_neg hb, ih, if_neg (by simp)]
    simp
theorem text_from (s : ByteArray) (i : Nat) (m x : List UInt8) (hi : i ≤ s.size) (hx : s.data.toList.drop i = m ++ x) (h : x = [] ∨ x.head? = some 60) :
    textS s i = textAt s i (i + (if Lib.indexByte m 60 < 0 then m.length else (Lib.indexByte m 60).toNat)) := by
  unfold textS
  rw [hx]
  by_cases c : Lib.indexByte m 60 < 0
  · rw [if_pos c]
    rcases h with rfl | h
    · have h1 := congrArg List.length hx
      rw [List.length_drop, ← Lib.size_eq, List.append_nil] at h1
      rw [List.append_nil, if_pos c, show i + m.length = s.size by omega]
    · cases x with
      | nil => cases h
      | cons a x =>
        obtain rfl : a = 60 := by simpa using h
        rw [index_at 60 m (fun hm => Go.Plain.index_none c _ hm rfl) x, if_neg (by omega), Int.toNat_natCast]
  · rw [if_neg c, Go.Plain.index_append x c, if_neg c]
theorem View.text (v : View s i u j m) (k : Nat) (t : Tok) (h : textS s i = some (.ok (t, i + k))) (hk : k ≤ m.length) : textS u j = some (.ok (⟨t.kind, (j : Int), t.name, t.attrs, t.text⟩, j + k)) ∧ t.at_ = (i : Int) := by
  obtain ⟨⟨x, y, hx, hy, hxy⟩, hi, hj⟩ := v
  have v : View s i u j m := ⟨⟨x, y, hx, hy, hxy⟩, hi, hj⟩
  rw [text_from s i m x hi hx (by rcases hxy with ⟨h, _⟩ | ⟨h, _⟩; exact Or.inl h; exact Or.inr h)] at h
  rw [text_from u j m y hj hy (by rcases hxy with ⟨_, h⟩ | ⟨_, h⟩; exact Or.inl h; exact Or.inr h)]
  obtain ⟨n, hn⟩ : ∃ n, (if Lib.indexByte m 60 < 0 then m.length else (Lib.indexByte m 60).toNat) = n := ⟨_, rfl⟩
  have hnm : n ≤ m.length := by
    rw [← hn]
    split
    · exact Nat.le_refl _
    · rename_i c; have := Go.Plain.index_lt c; omega
  rw [hn] at h ⊢
  unfold textAt at h ⊢
  rw [v.extract n hnm]
  cases hu : PL.lex_Unescape.f (s.extract i (i + n)) false with
  | none => rw [hu] at h; cases h
  | some r =>
    rw [hu, Option.map_some] at h
    rw [Option.map_some]
    have h := Option.some.inj h
    by_cases c1 : 0 ≤ Lib.index (s.extract i (i + n)).data.toList sEnd.data.toList ∧ (r.2.2 = 0 ∨ Lib.index (s.extract i (i + n)).data.toList sEnd.data.toList < r.2.1)
    · rw [if_pos c1] at h; cases h
    rw [if_neg c1] at h
    rw [if_neg c1]
    by_cases c2 : r.2.2 = 0
    · rw [if_pos c2] at h
      rw [if_pos c2]
      have h := Except.ok.inj h
      have e1 := congrArg Prod.fst h
      have e2 := congrArg Prod.snd h
      simp only at e1 e2
      rw [← e1]
      refine ⟨?_, rfl⟩
      rw [show j + k = j + n by omega]
    · rw [if_neg c2] at h; cases h
theorem fold_60 : ∀ (l : List Int) (r : Int), 60 ∈ l → runeFold r l = none
  | [], _, h => by cases h
  | c :: l, r, h => by
    rw [runeFold]
    by_cases c1 : c / 64 = 2
    · rw [if_pos c1]
      rcases List.mem_cons.1 h with rfl | h
      · exact absurd c1 (by decide)
      · exact fold_60 l _ h
    · rw [if_neg c1]
theorem View.rune (v : View s i u j m) (hm : m ≠ []) (hs : s.size ≤ 140737488351232) (hsu : u.size ≤ 140737488351232) : utf_Rune.f u j = utf_Rune.f s i := by
  have hmo := v.more hm
  have hl := v.len
  have h1 := List.length_pos_iff.2 hm
  unfold utf_Rune.f
  rw [if_pos (show (u.size : Int) ≤ 140737488351232 by omega), if_neg (show ¬ (j : Int) < 0 by omega), if_neg (show ¬ (j : Int) ≥ u.size by omega), if_pos (show (s.size : Int) ≤ 140737488351232 by omega), if_neg (show ¬ (i : Int) < 0 by omega), if_neg (show ¬ (i : Int) ≥ s.size by omega), v.bt hm]
  obtain ⟨n, r0, e, hn0, hn4⟩ := PG.shape_ends (Go.Proofs.YtffpbhbiamkkpaaDoorW.PrintWords.bt s i)
  rw [show utf_shape.f (Go.Proofs.YtffpbhbiamkkpaaDoorW.PrintWords.bt s i) = some (n, r0) from e, Option.bind_some, Option.bind_some]
  simp only
  by_cases h3 : n = 0
  · rw [if_pos h3, if_pos h3]
  rw [if_neg h3, if_neg h3]
  obtain ⟨q, rfl⟩ : ∃ q : Nat, n = (q : Int) := ⟨n.toNat, by omega⟩
  by_cases hq : q ≤ m.length
  · rw [if_neg (show ¬ (q : Int) > (u.size : Int) - (j : Int) by omega), if_neg (show ¬ (q : Int) > (s.size : Int) - (i : Int) by omega)]
    have hx := (v.step 1 h1).extract (q - 1) (by rw [List.length_drop]; omega)
    rw [show ((j : Int) + 1).toNat = j + 1 by omega, show ((i : Int) + 1).toNat = i + 1 by omega, show ((j : Int) + (q : Int)).toNat = j + 1 + (q - 1) by omega, show ((i : Int) + (q : Int)).toNat = i + 1 + (q - 1) by omega, hx]
  · have bad : ∀ (s : ByteArray) (i : Nat) (x : List UInt8), i + m.length ≤ s.size → s.data.toList.drop i = m ++ x → (x = [] ∨ x.head? = some 60) →
        (if (q : Int) > (s.size : Int) - i then some ((0, 0) : Int × Int) else if (1 : Int) ≤ q then (match runeFold r0 (bytesOf (s.extract ((i : Int) + 1).toNat ((i : Int) + q).toNat)) with
          | none => some (0, 0)
          | some r => (utf_least.f q).bind fun m => if r < m then some (0, 0) else (utf_scalar.f r).bind fun b => if b = true then some (r, (q : Int)) else some (0, 0)) else none) = some (0, 0) := by
      intro s i x hi hx h
      by_cases c : (q : Int) > (s.size : Int) - i
      · rw [if_pos c]
      rw [if_neg c, if_pos (by omega)]
      have h60 : (60 : Int) ∈ bytesOf (s.extract ((i : Int) + 1).toNat ((i : Int) + q).toNat) := by
        rw [show ((i : Int) + 1).toNat = i + 1 by omega, show ((i : Int) + (q : Int)).toNat = i + q by omega]
        have hlen := congrArg List.length hx
        rw [List.length_drop, ← Lib.size_eq, List.length_append] at hlen
        cases x with
        | nil => simp only [List.length_nil] at hlen; omega
        | cons a x =>
          rcases h with h | h
          · cases h
          obtain rfl : a = 60 := by simpa using h
          unfold bytesOf
          refine List.mem_map.2 ⟨60, ?_, rfl⟩
          rw [ByteArray.data_extract, Array.toList_extract, List.extract_eq_take_drop, ← List.drop_drop, hx]
          rw [List.drop_append_of_le_length h1]
          refine List.mem_take_iff_getElem.2 ⟨m.length - 1, ?_, ?_⟩
          · simp; omega
          · rw [List.getElem_append_right (by simp)]
            simp
      rw [fold_60 _ _ h60]
    obtain ⟨⟨x, y, hx, hy, hxy⟩, hi, hj⟩ := v
    exact (bad u j y hl.2 hy (by rcases hxy with ⟨_, h⟩ | ⟨_, h⟩; exact Or.inl h; exact Or.inr h)).trans (bad s i x hl.1 hx (by rcases hxy with ⟨h, _⟩ | ⟨h, _⟩; exact Or.inl h; exact Or.inr h)).symm
theorem rune_shape (s : ByteArray) (i r n : Int) (h : utf_Rune.f s i = some (r, n)) : n = 0 ∨ ∃ r0, utf_shape.f (Go.Proofs.YtffpbhbiamkkpaaDoorW.PrintWords.bt s i) = some (n, r0) := by
  have z : ∀ {a b : Int}, some ((0, 0) : Int × Int) = some (a, b) → b = 0 := fun h => by cases h; rfl
  unfold utf_Rune.f at h
  split at h
  · split at h
    · exact Or.inl (z h)
    split at h
    · exact Or.inl (z h)
    cases e : utf_shape.f (Go.Proofs.YtffpbhbiamkkpaaDoorW.PrintWords.bt s i) with
    | none => rw [e] at h; cases h
    | some p =>
      rw [e, Option.bind_some] at h
      split at h
      · exact Or.inl (z h)
      split at h
      · exact Or.inl (z h)
      split at h
      · split at h
        · exact Or.inl (z h)
        · obtain ⟨m, _, h⟩ := Option.bind_eq_some_iff.1 h
          split at h
          · exact Or.inl (z h)
          · obtain ⟨b, _, h⟩ := Option.bind_eq_some_iff.1 h
            split at h
            · have h := Option.some.inj h
              have h2 := congrArg Prod.snd h
              simp only at h2
              exact Or.inr ⟨p.2, by rw [← h2]⟩
            · exact Or.inl (z h)
      · cases h
  · cases h
theorem rune_60 (s : ByteArray) (i : Nat) (hi : i < s.size) (hs : s.size ≤ 140737488351232) (h : Go.Proofs.YtffpbhbiamkkpaaDoorW.PrintWords.bt s i = 60) : runeT s i = (60, 1) := by
  have e : utf_Rune.f s i = some (60, 1) := by
    have e1 : utf_shape.f 60 = some (1, 60) := by decide +kernel
    have e2 : utf_least.f 1 = some 0 := by decide +kernel
    have e3 : utf_scalar.f 60 = some true := by decide +kernel
    unfold utf_Rune.f
    rw [if_pos (by omega), if_neg (by omega), if_neg (by omega), h, e1, Option.bind_some]
    simp only
    rw [if_neg (by decide), if_neg (by omega), if_pos (by decide)]
    have hx : bytesOf (s.extract ((i : Int) + 1).toNat ((i : Int) + 1).toNat) = [] := by
      have : (s.extract ((i : Int) + 1).toNat ((i : Int) + 1).toNat).size = 0 := by rw [ByteArray.size_extract]; omega
      rw [← List.length_eq_zero_iff, bytesOf_length, this]
    rw [hx]
    simp only [runeFold, e2, e3, Option.bind_some]
    rfl
  have := (rune_ends s i hs).1
  have this : utf_Rune.f s i = some (runeT s i) := this
  rw [e] at this
  exact (Option.some.inj this).symm
theorem mem_60 (s : ByteArray) (i q : Nat) (m x : List UInt8) (h1 : 1 ≤ m.length) (hq : ¬ q ≤ m.length) (c : i + q ≤ s.size) (hx : s.data.toList.drop i = m ++ x) (h : x = [] ∨ x.head? = some 60) : (60 : Int) ∈ bytesOf (s.extract ((i : Int) + 1).toNat ((i : Int) + q).toNat) := by
  rw [show ((i : Int) + 1).toNat = i + 1 by omega, show ((i : Int) + (q : Int)).toNat = i + q by omega]
  have hlen := congrArg List.length hx
  rw [List.length_drop, ← Lib.size_eq, List.length_append] at hlen
  cases x with
  | nil => simp only [List.length_nil] at hlen; omega
  | cons a x =>
    rcases h with h | h
    · cases h
    obtain rfl : a = 60 := by simpa using h
    unfold bytesOf
    refine List.mem_map.2 ⟨60, ?_, rfl⟩
    rw [ByteArray.data_extract, Array.toList_extract, List.extract_eq_take_drop, ← List.drop_drop, hx]
    rw [List.drop_append_of_le_length h1]
    refine List.mem_take_iff_getElem.2 ⟨m.length - 1, ?_, ?_⟩
    · simp; omega
    · rw [List.getElem_append_right (by simp)]
      simp
theorem View.rune_le (v : View s i u j m) (hm : m ≠ []) (hs : s.size ≤ 140737488351232) : (PG.runeT s i).2 ≤ (m.length : Int) := by
  obtain ⟨e, hn0, hb⟩ := rune_ends s i hs
  have e : utf_Rune.f s i = some (PG.runeT s i) := e
  have h1 := List.length_pos_iff.2 hm
  obtain ⟨⟨r, n⟩, hr⟩ : ∃ p, PG.runeT s i = p := ⟨_, rfl⟩
  rw [hr] at e hn0 hb ⊢
  simp only at hn0 hb ⊢
  by_cases c : n ≤ (m.length : Int)
  · exact c
  obtain ⟨b0, b1, b2⟩ := hb (by omega)
  obtain ⟨⟨x, y, hx, hy, hxy⟩, hi, hj⟩ := v
  obtain ⟨q, rfl⟩ : ∃ q : Nat, n = (q : Int) := ⟨n.toNat, by omega⟩
  have h60 := mem_60 s i q m x h1 (by omega) (by omega) hx (by rcases hxy with ⟨h, _⟩ | ⟨h, _⟩; exact Or.inl h; exact Or.inr h)
  rcases rune_shape s i r q e with h | ⟨r0, h⟩
  · omega
  · unfold utf_Rune.f at e
    rw [if_pos (by omega), if_neg (by omega), if_neg (by omega), h, Option.bind_some] at e
    simp only at e
    rw [if_neg (by omega), if_neg (by omega), if_pos (by omega), fold_60 _ _ h60] at e
    have h2 := congrArg Prod.snd (Option.some.inj e)
    simp only at h2
    omega
theorem View.runeT (v : View s i u j m) (hm : m ≠ []) (hs : s.size ≤ 140737488351232) (hsu : u.size ≤ 140737488351232) : PG.runeT u j = PG.runeT s i := by
  have h := v.rune hm hs hsu
  have h1 : utf_Rune.f s i = some (PG.runeT s i) := (rune_ends s i hs).1
  have h2 : utf_Rune.f u j = some (PG.runeT u j) := (rune_ends u j hsu).1
  exact Option.some.inj (h2.symm.trans (h.trans h1))
theorem part60 : PG.partB 60 = false := by decide +kernel
theorem View.nam (hs : s.size ≤ 140737488351232) (hsu : u.size ≤ 140737488351232) : ∀ (d i j : Nat) (m : List UInt8), m.length ≤ d → View s i u j m → ∃ k, k ≤ m.length ∧ namEnd s i = i + k ∧ namEnd u j = j + k := by
  intro d
  induction d with
  | zero =>
    intro i j m hd v
    obtain rfl : m = [] := List.length_eq_zero_iff.1 (by omega)
    have stop : ∀ (s : ByteArray) (i : Nat) (x : List UInt8), s.size ≤ 140737488351232 → s.data.toList.drop i = x → (x = [] ∨ x.head? = some 60) → namEnd s i = i := by
      intro s i x hs hx h
      rw [namEnd_step s hs]
      by_cases c : i < s.size
      · have h1 : i < s.data.toList.length := by rw [← Lib.size_eq]; exact c
        rw [List.drop_eq_getElem_cons h1] at hx
        rcases h with rfl | h
        · cases hx
        · rw [← hx] at h
          have e : s.data.toList[i] = 60 := by simpa using h
          rw [rune_60 s i c hs (by rw [bt_data s i h1, e]; rfl), if_neg (by rw [part60]; simp)]
      · rw [if_neg (fun h => c h.1)]
    obtain ⟨⟨x, y, hx, hy, h⟩, hi, hj⟩ := v
    refine ⟨0, Nat.le_refl _, stop s i x hs hx ?_, stop u j y hsu hy ?_⟩
    · rcases h with ⟨h, _⟩ | ⟨h, _⟩; exact Or.inl h; exact Or.inr h
    · rcases h with ⟨_, h⟩ | ⟨_, h⟩; exact Or.inl h; exact Or.inr h
  | succ d ih =>
    intro i j m hd v
    by_cases hm : m = []
    · exact ih i j m (by rw [hm]; simp) v
    have hmo := v.more hm
    have hr := v.runeT hm hs hsu
    have hle := v.rune_le hm hs
    rw [namEnd_step s hs i, namEnd_step u hsu j, hr]
    by_cases c : PG.partB (PG.runeT s i).1 = true
    · obtain ⟨n, e, n1, n2⟩ := rune_part s i hs c
      rw [if_pos ⟨hmo.1, c⟩, if_pos ⟨hmo.2, c⟩, e, Int.toNat_natCast]
      obtain ⟨k, k1, k2, k3⟩ := ih (i + n) (j + n) (m.drop n) (by rw [List.length_drop]; omega) (v.step n (by omega))
      rw [List.length_drop] at k1
      exact ⟨n + k, by omega, by omega, by omega⟩
    · rw [if_neg (fun h => c h.2), if_neg (fun h => c h.2)]
      exact ⟨0, by omega, rfl, rfl⟩
theorem View.order (v : View s i u j m) (hb : nextB s i sPi = true) (hs : s.size ≤ 1000000) (hsu : u.size ≤ 1000000) (hm2 : 2 ≤ m.length) (k : Nat) (h : orderS s i = .ok (i + k)) (hk : k ≤ m.length) : orderS u j = .ok (j + k) := by
  unfold orderS at h ⊢
  have v2 := v.step 2 hm2
  obtain ⟨k1, p1, p2, p3⟩ := View.nam (by omega) (by omega) _ _ _ _ (Nat.le_refl _) v2
  rw [p2] at h
  rw [p3]
  have v3 := v2.step k1 p1
  rw [v2.extract k1 p1]
  by_cases c1 : PG.nameB (s.extract (i + 2) (i + 2 + k1)) = false ∨ ((lowerL (s.extract (i + 2) (i + 2 + k1))).toList == [120, 109, 108]) = true
  · rw [if_pos c1] at h; cases h
  rw [if_neg c1] at h
  rw [if_neg c1, (v3.next sQE (no60 _ rfl)).1]
  by_cases c2 : nextB s (i + 2 + k1) sQE = false ∧ (i + 2 + k1 = s.size ∨ blankB (Go.Proofs.YtffpbhbiamkkpaaDoorW.PrintWords.bt s ((i + 2 + k1 : Nat) : Int)) = false)
  · rw [if_pos c2] at h; cases h
  rw [if_neg c2] at h
  cases hu : upS s sQE i (i + 2 + k1) with
  | error p => rw [hu] at h; cases h
  | ok n =>
    rw [hu] at h
    have h := Except.ok.inj h
    have hz : sQE.size = 2 := rfl
    have hln : n + sQE.size ≤ ((m.drop 2).drop k1).length := by
      simp only [List.length_drop]
      have := v.len
      simp only [List.length_drop] at p1
      omega
    have hm3 : (m.drop 2).drop k1 ≠ [] := fun e => by rw [e, List.length_nil] at hln; omega
    rw [v3.bt hm3, if_neg (by
      intro h
      refine c2 ⟨h.1, ?_⟩
      rcases h.2 with h | h
      · exact Or.inl (v3.at_end.2 h)
      · exact Or.inr h), v3.up sQE i j n hu hln]
    simp only
    rw [show j + k = j + 2 + k1 + n + 2 by omega]
/-- A token at another place. -/
def mvT (j : Int) (t : Tok) : Tok := ⟨t.kind, j, t.name, t.attrs, t.text⟩
theorem one_kinds {s : ByteArray} {i : Nat} {r : Except (Int × Int) (Tok × Nat)} {t : List Tok} {q : Nat} (h : someTok r = .ok (t, q)) : ∃ x, r = .ok (x, q) ∧ t = [x] := by
  cases r with
  | error p => cases h
  | ok p =>
    obtain ⟨x, q'⟩ := p
    have h := Except.ok.inj h
    have e1 := congrArg Prod.fst h
    have e2 := congrArg Prod.snd h
    simp only at e1 e2
    exact ⟨x, by rw [e2], e1.symm⟩
theorem View.one (v : View s i u j m) (hm : m ≠ []) (hs : s.size ≤ 1000000) (hu : u.size ≤ 1000000) (hsu : s.size ≤ u.size) (t : List Tok) (k : Nat) (h : oneS s i = some (.ok (t, i + k))) (hk : k ≤ m.length) : oneS u j = some (.ok (t.map (mvT j), j + k)) := by
  unfold oneS at h ⊢
  have go : ∀ {r : Except (Int × Int) Nat}, (match r with | .error e => .error e | .ok j => .ok ([], j) : Except (Int × Int) (List Tok × Nat)) = .ok (t, i + k) → r = .ok (i + k) ∧ t = [] := by
    intro r h
    cases r with
    | error p => cases h
    | ok q =>
      have h := Except.ok.inj h
      have e1 := congrArg Prod.fst h
      have e2 := congrArg Prod.snd h
      simp only at e1 e2
      exact ⟨by rw [e2], e1.symm⟩
  obtain ⟨n1, l1⟩ := v.next1 sPi 60 [63] rfl (by decide) hm
  obtain ⟨n2, l2⟩ := v.next1 sCom 60 [33, 45, 45] rfl (by decide) hm
  obtain ⟨n3, l3⟩ := v.next1 sCd 60 [33, 91, 67, 68, 65, 84, 65, 91] rfl (by decide) hm
  obtain ⟨n4, l4⟩ := v.next1 sBD 60 [33, 68] rfl (by decide) hm
  obtain ⟨n5, l5⟩ := v.next1 sBang 60 [33] rfl (by decide) hm
  obtain ⟨n6, l6⟩ := v.next1 sEnd2 60 [47] rfl (by decide) hm
  obtain ⟨n7, l7⟩ := v.next1 sLt 60 [] rfl (by decide) hm
  rw [n1, n2, n3, n4, n5, n6, n7]
  by_cases c1 : nextB s i sPi = true
  · rw [if_pos c1] at h
    rw [if_pos c1]
    obtain ⟨h9, rfl⟩ := go (Option.some.inj h)
    have hz : sPi.size = 2 := rfl
    rw [v.order c1 hs hu (by have := l1 c1; omega) k h9 hk]
    rfl
  rw [if_neg c1] at h
  rw [if_neg c1]
  by_cases c2 : nextB s i sCom = true
  · rw [if_pos c2] at h
    rw [if_pos c2]
    obtain ⟨h9, rfl⟩ := go (Option.some.inj h)
    rw [v.comment c2 k h9 hk]
    rfl
  rw [if_neg c2] at h
  rw [if_neg c2]
  by_cases c3 : nextB s i sCd = true
  · rw [if_pos c3] at h
    rw [if_pos c3]
    obtain ⟨r, hr, h⟩ := Option.map_eq_some_iff.1 h
    obtain ⟨x, rfl, rfl⟩ := one_kinds (s := s) (i := i) h
    rw [(v.section c3 k x hr hk).1]
    rfl
  rw [if_neg c3] at h
  rw [if_neg c3]
  by_cases c4 : nextB s i sBD = true
  · rw [if_pos c4] at h; cases h
  rw [if_neg c4] at h
  rw [if_neg c4]
  by_cases c5 : nextB s i sBang = true
  · rw [if_pos c5] at h; cases h
  rw [if_neg c5] at h
  rw [if_neg c5]
  by_cases c6 : nextB s i sEnd2 = true
  · rw [if_pos c6] at h
    rw [if_pos c6]
    obtain ⟨x, hr, rfl⟩ := one_kinds (s := s) (i := i) (Option.some.inj h)
    rw [(v.closing c6 k x hr hk).1]
    rfl
  rw [if_neg c6] at h
  rw [if_neg c6]
  by_cases c7 : nextB s i sLt = true
  · rw [if_pos c7] at h
    rw [if_pos c7]
    obtain ⟨r, hr, h⟩ := Option.map_eq_some_iff.1 h
    obtain ⟨x, rfl, rfl⟩ := one_kinds (s := s) (i := i) h
    rw [(v.tag hs hsu hm k x hr hk).1]
    rfl
  rw [if_neg c7] at h
  rw [if_neg c7]
  obtain ⟨r, hr, h⟩ := Option.map_eq_some_iff.1 h
  obtain ⟨x, rfl, rfl⟩ := one_kinds (s := s) (i := i) h
  rw [(v.text k x hr hk).1]
  rfl
end
end Go.Proofs.YtffpbhbiamkkpaaDoor.Lx
namespace Go.Proofs.YtffpbhbiamkkpaaDoor.Lx
open Go.RowKit Go.Proofs.YtffpbhbiamkkpaaDoor.PU Go.Proofs.YtffpbhbiamkkpaaDoorW.PrintWords
open Go.Proofs.YtffpbhbiamkkpaaDoor.PG (runeT rune_ends char_eq)
set_option linter.unusedVariables false
section
variable {s u : ByteArray} {i j : Nat} {m : List UInt8}
theorem View.blank (v : View s i u j m) : (i < s.size ∧ blankB (Go.Proofs.YtffpbhbiamkkpaaDoorW.PrintWords.bt s i) = true) ↔ (j < u.size ∧ blankB (Go.Proofs.YtffpbhbiamkkpaaDoorW.PrintWords.bt u j) = true) := by
  by_cases hm : m = []
  · subst hm
    obtain ⟨k, hk, h1, h2⟩ := View.skip blankB (by decide) [] i j v
    obtain rfl : k = 0 := by simpa using hk
    constructor
    · rintro ⟨a, b⟩
      rw [skip_step a b] at h1
      have := (skip_le blankB s (i + 1) (by omega)).1
      omega
    · rintro ⟨a, b⟩
      rw [skip_step a b] at h2
      have := (skip_le blankB u (j + 1) (by omega)).1
      omega
  · have := v.more hm
    rw [v.bt hm]
    exact ⟨fun h => ⟨this.2, h.2⟩, fun h => ⟨this.1, h.2⟩⟩
theorem View.quoted (v : View s i u j m) (x : ByteArray) (q : Nat) (h : quotedS s i = some (x, i + q)) (hq : q ≤ m.length) : quotedS u j = some (x, j + q) := by
  have hlt := quotedS_le h
  have hm : m ≠ [] := ne_of_len (show 0 < q by omega) hq
  have h1 := List.length_pos_iff.2 hm
  have v1 := v.step 1 h1
  have hmo := v.more hm
  unfold quotedS at h ⊢
  rw [v.bt hm]
  obtain ⟨c, hc⟩ : ∃ c, (Go.Proofs.YtffpbhbiamkkpaaDoorW.PrintWords.bt s i).toNat.toUInt8 = c := ⟨_, rfl⟩
  rw [hc] at h ⊢
  by_cases c0 : i < s.size ∧ (Go.Proofs.YtffpbhbiamkkpaaDoorW.PrintWords.bt s i = 34 ∨ Go.Proofs.YtffpbhbiamkkpaaDoorW.PrintWords.bt s i = 39)
  · rw [if_pos c0] at h
    rw [if_pos ⟨hmo.2, c0.2⟩]
    by_cases c1 : Lib.indexByte (s.data.toList.drop (i + 1)) c < 0
    · rw [if_pos c1] at h; cases h
    rw [if_neg c1] at h
    obtain ⟨n, hn⟩ : ∃ n : Nat, Lib.indexByte (s.data.toList.drop (i + 1)) c = (n : Int) := ⟨_, (Int.toNat_of_nonneg (by omega)).symm⟩
    rw [hn] at h
    simp only [Int.toNat_natCast] at h
    have h := Option.some.inj h
    have e1 := congrArg Prod.fst h
    have e2 := congrArg Prod.snd h
    simp only at e1 e2
    have hi : Lib.indexByte (u.data.toList.drop (j + 1)) c = (n : Int) := by
      rw [← Lib.index_one] at hn ⊢
      exact v1.index [c] n hn (by rw [List.length_drop]; simp; omega)
    rw [hi, if_neg (by omega)]
    simp only [Int.toNat_natCast]
    rw [v1.extract n (by rw [List.length_drop]; omega), e1, show j + q = j + 1 + n + 1 by omega]
  · rw [if_neg c0] at h; cases h
theorem View.skip_at (v : View s 0 u 0 m) (p : Int → Bool) (hp : p 60 = false) (i : Nat) (hi : i ≤ m.length) : Lx.skip p u i = Lx.skip p s i ∧ Lx.skip p s i ≤ m.length := by
  have v1 := v.step i hi
  rw [Nat.zero_add] at v1
  obtain ⟨k, hk, h1, h2⟩ := View.skip p hp _ _ _ v1
  rw [List.length_drop] at hk
  exact ⟨by rw [h1, h2], by omega⟩
theorem View.setting (v : View s 0 u 0 m) (i : Nat) (hi : i ≤ m.length) (name : ByteArray) (fold : Bool) (vs : List ByteArray) (hn : ∀ c ∈ name.data.toList, c ≠ 60) (h : (settingS s i name fold vs).1 = true) (hle : (settingS s i name fold vs).2 ≤ m.length) : settingS u i name fold vs = settingS s i name fold vs := by
  have v1 := v.step i hi
  rw [Nat.zero_add] at v1
  unfold settingS at h hle ⊢
  obtain ⟨n1, l1⟩ := v1.next name hn
  rw [n1]
  by_cases c1 : nextB s i name = true
  · have l1 := l1 c1
    rw [List.length_drop] at l1
    rw [if_pos c1] at h hle
    rw [if_pos c1, if_pos c1]
    obtain ⟨s1, s2⟩ := v.skip_at blankB (by decide) (i + name.size) (by omega)
    have v2 := v.step _ s2
    rw [Nat.zero_add] at v2
    obtain ⟨n2, l2⟩ := v2.next ⟨#[61]⟩ (no60 _ rfl)
    rw [s1, n2]
    by_cases c2 : nextB s (Lx.skip blankB s (i + name.size)) ⟨#[61]⟩ = true
    · have l2 := l2 c2
      rw [List.length_drop, show (⟨#[61]⟩ : ByteArray).size = 1 from rfl] at l2
      rw [if_pos c2] at h hle
      rw [if_pos c2, if_pos c2]
      obtain ⟨s3, s4⟩ := v.skip_at blankB (by decide) (Lx.skip blankB s (i + name.size) + 1) (by omega)
      rw [s3]
      cases hq : quotedS s (Lx.skip blankB s (Lx.skip blankB s (i + name.size) + 1)) with
      | none => rw [hq] at h; cases h
      | some x =>
        obtain ⟨x, q⟩ := x
        rw [hq] at hle
        simp only at hle
        have hlt := quotedS_le hq
        have v3 := v.step _ s4
        rw [Nat.zero_add] at v3
        obtain ⟨k, rfl⟩ : ∃ k, q = Lx.skip blankB s (Lx.skip blankB s (i + name.size) + 1) + k := ⟨q - Lx.skip blankB s (Lx.skip blankB s (i + name.size) + 1), by omega⟩
        rw [v3.quoted x k hq (by rw [List.length_drop]; omega)]
    · rw [if_neg c2] at h; cases h
  · rw [if_neg c1] at h; cases h
theorem declStep_mono (s : ByteArray) (q : Bool × Nat × Nat) (name : ByteArray) (fold : Bool) (vs : List ByteArray) (hq : q.2.2 ≤ s.size) (h : (declStep s q name fold vs).1 = true) : q.1 = true ∧ q.2.2 ≤ (declStep s q name fold vs).2.2 ∧ (declStep s q name fold vs).2.2 ≤ s.size := by
  unfold declStep at h ⊢
  split at h
  · rename_i c
    rw [if_pos c]
    have h1 := settingS_le (s := s) (i := q.2.2) (name := name) (fold := fold) (vs := vs) hq
    have h2 := skip_le blankB s _ h1.2
    exact ⟨c.1, by simp only; omega, by simp only; omega⟩
  · rename_i c
    rw [if_neg c]
    exact ⟨h, Nat.le_refl _, hq⟩
theorem View.declStep (v : View s 0 u 0 m) (q : Bool × Nat × Nat) (name : ByteArray) (fold : Bool) (vs : List ByteArray) (hn : ∀ c ∈ name.data.toList, c ≠ 60) (hq : q.2.2 ≤ m.length) (h : (Lx.declStep s q name fold vs).1 = true) (hle : (Lx.declStep s q name fold vs).2.2 ≤ m.length) : Lx.declStep u q name fold vs = Lx.declStep s q name fold vs := by
  have v1 := v.step _ hq
  rw [Nat.zero_add] at v1
  have hl := v.len
  unfold Lx.declStep at h hle ⊢
  rw [(v1.next name hn).1]
  by_cases c : q.1 = true ∧ 0 < q.2.1 ∧ nextB s q.2.2 name = true
  · rw [if_pos c] at h hle
    rw [if_pos c, if_pos c]
    simp only at h hle
    have h1 := settingS_le (s := s) (i := q.2.2) (name := name) (fold := fold) (vs := vs) (by omega)
    have h2 := skip_le blankB s _ h1.2
    have e := v.setting q.2.2 hq name fold vs hn h (by omega)
    rw [e, (v.skip_at blankB (by decide) _ (show (settingS s q.2.2 name fold vs).2 ≤ m.length by omega)).1]
  · rw [if_neg c, if_neg c]
theorem View.decl (v : View s 0 u 0 m) (h5 : 5 ≤ m.length) (k : Nat) (h : declS s = .ok k) (hk : k ≤ m.length) : declS u = .ok k := by
  have hl := v.len
  have s5 := v.skip_at blankB (by decide) 5 h5
  have h0 := settingS_le (s := s) (i := Lx.skip blankB s 5) (name := sVer) (fold := false) (vs := [sOne]) (by omega)
  have h1 := skip_le blankB s _ h0.2
  unfold declS at h ⊢
  obtain ⟨q1, hq1⟩ : ∃ q, ((settingS s (Lx.skip blankB s 5) sVer false [sOne]).1, Lx.skip blankB s (settingS s (Lx.skip blankB s 5) sVer false [sOne]).2 - (settingS s (Lx.skip blankB s 5) sVer false [sOne]).2, Lx.skip blankB s (settingS s (Lx.skip blankB s 5) sVer false [sOne]).2) = q := ⟨_, rfl⟩
  rw [hq1] at h
  have b1 : q1.2.2 ≤ s.size := by rw [← hq1]; exact h1.2
  obtain ⟨q2, hq2⟩ : ∃ q, Lx.declStep s q1 sEnc true [sU8] = q := ⟨_, rfl⟩
  rw [hq2] at h
  obtain ⟨q3, hq3⟩ : ∃ q, Lx.declStep s q2 sSta false [sYes, sNo] = q := ⟨_, rfl⟩
  rw [hq3] at h
  unfold declEnd at h
  by_cases c : q3.1 = true ∧ nextB s q3.2.2 sQE = true
  · rw [if_pos c] at h
    have h := Except.ok.inj h
    have m2 : q2.2.2 ≤ s.size := by
      rw [← hq2]
      unfold Lx.declStep
      split
      · exact (skip_le blankB s _ (settingS_le b1).2).2
      · exact b1
    obtain ⟨t2, p2, _⟩ := declStep_mono s q2 sSta false [sYes, sNo] m2 (by rw [hq3]; exact c.1)
    rw [hq3] at p2
    obtain ⟨t1, p1, _⟩ := declStep_mono s q1 sEnc true [sU8] b1 (by rw [hq2]; exact t2)
    rw [hq2] at p1
    have e1 : (settingS s (Lx.skip blankB s 5) sVer false [sOne]).1 = true := by rw [← hq1] at t1; exact t1
    have e2 : Lx.skip blankB s (settingS s (Lx.skip blankB s 5) sVer false [sOne]).2 = q1.2.2 := by rw [← hq1]
    rw [s5.1, v.setting _ s5.2 sVer false [sOne] (no60 _ rfl) e1 (by omega), (v.skip_at blankB (by decide) _ (show (settingS s (Lx.skip blankB s 5) sVer false [sOne]).2 ≤ m.length by omega)).1, hq1]
    rw [v.declStep q1 sEnc true [sU8] (no60 _ rfl) (by omega) (by rw [hq2]; exact t2) (by rw [hq2]; omega), hq2]
    rw [v.declStep q2 sSta false [sYes, sNo] (no60 _ rfl) (by omega) (by rw [hq3]; exact c.1) (by rw [hq3]; omega), hq3]
    have v3 := v.step q3.2.2 (by omega)
    rw [Nat.zero_add] at v3
    unfold declEnd
    rw [(v3.next sQE (no60 _ rfl)).1, if_pos c, h]
  · rw [if_neg c] at h; cases h
theorem View.start (v : View s 0 u 0 m) (hm : m ≠ []) (k : Nat) (h : startS s = .ok k) (hk : k ≤ m.length) : startS u = .ok k := by
  unfold startS at h ⊢
  obtain ⟨n1, l1⟩ := v.next1 sDecl 60 [63, 120, 109, 108] rfl (by decide) hm
  by_cases c0 : nextB s 0 sDecl = true
  · have l1 := l1 c0
    have hz : sDecl.size = 5 := rfl
    have v5 := v.step 5 (by omega)
    rw [Nat.zero_add] at v5
    have hb := v5.blank
    by_cases c1 : 5 < s.size ∧ blankB (Go.Proofs.YtffpbhbiamkkpaaDoorW.PrintWords.bt s 5) = true
    · rw [if_pos ⟨c0, c1⟩] at h
      rw [if_pos ⟨n1.trans c0, hb.1 c1⟩]
      exact v.decl (by omega) k h hk
    · rw [if_neg (fun h => c1 h.2)] at h
      rw [if_neg (fun h => c1 (hb.2 h.2))]
      exact h
  · rw [if_neg (fun h => c0 h.1)] at h
    rw [if_neg (fun h => c0 (n1.symm.trans h.1))]
    exact h
end
/-- From place i to place k stand signs of XML. -/
inductive Sgn (s : ByteArray) : Nat → Nat → Prop
  | nil (i : Nat) : Sgn s i i
  | cons (i n k : Nat) : i < s.size → (runeT s i).2 = (n : Int) → 1 ≤ n → PL.charB (runeT s i).1 = true → Sgn s (i + n) k → Sgn s i k
theorem Sgn.le {s : ByteArray} {i k : Nat} (h : Sgn s i k) : i ≤ k := by
  induction h with
  | nil i => exact Nat.le_refl _
  | cons i n k h1 h2 h3 h4 h5 ih => omega
theorem Sgn.trans {s : ByteArray} {i k q : Nat} (h : Sgn s i k) (hq : Sgn s k q) : Sgn s i q := by
  induction h with
  | nil i => exact hq
  | cons i n k h1 h2 h3 h4 h5 ih => exact .cons i n q h1 h2 h3 h4 (ih hq)
theorem signs_of (s : ByteArray) (hs : s.size ≤ 140737488351232) : ∀ (d k k' i : Nat) (a b : Int), i ≤ s.size → s.size - i ≤ d → d + 13 ≤ k → d + 13 ≤ k' → utf_Check.l0 k s i = some a → ¬ 0 ≤ a → lex_char.l0 k' s i = some b → ¬ 0 ≤ b → Sgn s i s.size := by
  intro d
  induction d with
  | zero =>
    intro k k' i a b hi h1 h2 h3 h4 h5 h6 h7
    obtain rfl : i = s.size := by omega
    exact .nil _
  | succ d ih =>
    intro k k' i a b hi h1 h2 h3 h4 h5 h6 h7
    by_cases c : i < s.size
    · obtain ⟨k, rfl⟩ : ∃ m, k = m + 1 := ⟨k - 1, by omega⟩
      obtain ⟨k', rfl⟩ : ∃ m, k' = m + 1 := ⟨k' - 1, by omega⟩
      simp only [utf_Check.l0] at h4
      simp only [lex_char.l0] at h6
      obtain ⟨e, hn, hb⟩ := rune_ends s i hs
      have e : utf_Rune.f s i = some (runeT s i) := e
      rw [if_pos (show (i : Int) < s.size by omega), e, Option.bind_some] at h4 h6
      rw [show utf_Char.f k' (runeT s i).1 = some (PL.charB (runeT s i).1) from char_eq _ k' (by omega), Option.bind_some] at h6
      by_cases hz : (runeT s i).2 = 0
      · rw [if_pos hz] at h4
        have := Option.some.inj h4
        omega
      obtain ⟨_, hb1, _⟩ := hb hz
      obtain ⟨n, hn⟩ : ∃ n : Nat, (runeT s i).2 = (n : Int) := ⟨(runeT s i).2.toNat, by omega⟩
      rw [if_neg hz, PL.w64 _ (by omega) (by omega)] at h4
      cases hc : PL.charB (runeT s i).1 with
      | false =>
        rw [hc, if_neg (by decide)] at h6
        have := Option.some.inj h6
        omega
      | true =>
        rw [hc, if_pos rfl, PL.w64 _ (by omega) (by omega)] at h6
        rw [hn] at h4 h6
        exact .cons i n _ c hn (by omega) hc (ih k k' (i + n) a b (by omega) (by omega) (by omega) (by omega) (by rw [Int.natCast_add]; exact h4) h5 (by rw [Int.natCast_add]; exact h6) h7)
    · obtain rfl : i = s.size := by omega
      exact .nil _
theorem of_signs (s : ByteArray) (hs : s.size ≤ 140737488351232) : ∀ (d i k : Nat), s.size - i ≤ d → Sgn s i s.size → d + 13 ≤ k → utf_Check.l0 k s i = some (-1) ∧ lex_char.l0 k s i = some (-1) := by
  have stop : ∀ (k : Nat), utf_Check.l0 (k + 1) s s.size = some (-1) ∧ lex_char.l0 (k + 1) s s.size = some (-1) := by
    intro k
    simp only [utf_Check.l0, lex_char.l0]
    rw [if_neg (by omega), if_neg (by omega)]
    exact ⟨rfl, rfl⟩
  intro d
  induction d with
  | zero =>
    intro i k h1 h2 h3
    have := h2.le
    obtain rfl : i = s.size := by omega
    obtain ⟨k, rfl⟩ : ∃ m, k = m + 1 := ⟨k - 1, by omega⟩
    exact stop k
  | succ d ih =>
    intro i k h1 h2 h3
    obtain ⟨k, rfl⟩ : ∃ m, k = m + 1 := ⟨k - 1, by omega⟩
    cases h2 with
    | nil => exact stop k
    | cons _ n _ a1 a2 a3 a4 a5 =>
      obtain ⟨e, hn, hb⟩ := rune_ends s i hs
      have e : utf_Rune.f s i = some (runeT s i) := e
      have hz : (runeT s i).2 ≠ 0 := by omega
      obtain ⟨_, hb1, _⟩ := hb hz
      have := ih (i + n) k (by omega) a5 (by omega)
      simp only [utf_Check.l0, lex_char.l0]
      rw [if_pos (show (i : Int) < s.size by omega), if_pos (show (i : Int) < s.size by omega), e, Option.bind_some, Option.bind_some, show utf_Char.f k (runeT s i).1 = some (PL.charB (runeT s i).1) from char_eq _ k (by omega), Option.bind_some, a4, if_neg hz, if_pos rfl, PL.w64 _ (by omega) (by omega), a2]
      rw [Int.natCast_add] at this
      exact this
theorem Sgn.split {s : ByteArray} (hs : s.size ≤ 140737488351232) {i k : Nat} (h : Sgn s i k) (p : Nat) (hp : p < s.size) (h60 : Go.Proofs.YtffpbhbiamkkpaaDoorW.PrintWords.bt s p = 60) (hip : i ≤ p) (hpk : p ≤ k) : Sgn s i p ∧ Sgn s p k := by
  induction h with
  | nil i =>
    obtain rfl : i = p := by omega
    exact ⟨.nil _, .nil _⟩
  | cons i n k a1 a2 a3 a4 a5 ih =>
    by_cases c : i = p
    · subst c
      exact ⟨.nil _, .cons i n k a1 a2 a3 a4 a5⟩
    · have v : View s i s i ((s.data.toList.drop i).take (p - i)) := by
        have hh : (s.data.toList.drop p).head? = some 60 := by
          have h1 : p < s.data.toList.length := by rw [← Lib.size_eq]; exact hp
          rw [List.drop_eq_getElem_cons h1]
          have := bt_data s p h1
          rw [h60] at this
          simp only [List.head?_cons, Option.some.injEq]
          apply UInt8.toNat_inj.1
          show _ = 60
          omega
        have e : (s.data.toList.drop i).drop (p - i) = s.data.toList.drop p := by rw [List.drop_drop]; congr 1; omega
        exact ⟨⟨s.data.toList.drop p, s.data.toList.drop p, by rw [← e, List.take_append_drop], by rw [← e, List.take_append_drop], Or.inr ⟨hh, hh⟩⟩, by omega, by omega⟩
      have hlen : ((s.data.toList.drop i).take (p - i)).length = p - i := by
        rw [List.length_take, List.length_drop, ← Lib.size_eq]
        omega
      have := v.rune_le (ne_of_len (m := (s.data.toList.drop i).take (p - i)) (k := p - i) (by omega) (by omega)) hs
      rw [hlen, a2] at this
      obtain ⟨h1, h2⟩ := ih (by omega) (by omega)
      exact ⟨.cons i n p a1 a2 a3 a4 h1, h2⟩
theorem Sgn.view {s u : ByteArray} (hs : s.size ≤ 140737488351232) (hu : u.size ≤ 140737488351232) {i k : Nat} (h : Sgn s i k) : ∀ (j : Nat) (m : List UInt8), View s i u j m → k ≤ i + m.length → Sgn u j (j + (k - i)) := by
  induction h with
  | nil i =>
    intro j m v hk
    rw [Nat.sub_self]
    exact .nil _
  | cons i n k a1 a2 a3 a4 a5 ih =>
    intro j m v hk
    have hle := a5.le
    have hm : m ≠ [] := ne_of_len (show 0 < k - i by omega) (by omega)
    have hr := v.runeT hm hs hu
    have := ih (j + n) (m.drop n) (v.step n (by omega)) (by rw [List.length_drop]; omega)
    refine .cons j n _ (v.more hm).2 (by rw [hr]; exact a2) a3 (by rw [hr]; exact a4) ?_
    rw [show j + (k - i) = j + n + (k - (i + n)) by omega]
    exact this
/-- The lexer's steps from place i to place k, with the tokens they give. -/
inductive Runs (s : ByteArray) : Nat → List Tok → Nat → Prop
  | nil (i : Nat) : Runs s i [] i
  | cons (i j k : Nat) (t t' : List Tok) : i < s.size → oneS s i = some (.ok (t, j)) → i < j → j ≤ s.size → (t = [] ∨ ∃ x, t = [x] ∧ x.at_ = (i : Int)) → Runs s j t' k → Runs s i (t ++ t') k
theorem Runs.le {s : ByteArray} {i k : Nat} {t : List Tok} (h : Runs s i t k) : i ≤ k ∧ t.length ≤ k - i ∧ ∀ x ∈ t, (i : Int) ≤ x.at_ := by
  induction h with
  | nil i => exact ⟨Nat.le_refl _, by simp, fun x hx => by cases hx⟩
  | cons i j k t t' h1 h2 h3 h4 h5 h6 ih =>
    have : t.length ≤ 1 := by rcases h5 with rfl | ⟨x, rfl, _⟩ <;> simp
    refine ⟨by omega, by rw [List.length_append]; omega, fun x hx => ?_⟩
    rcases List.mem_append.1 hx with hx | hx
    · rcases h5 with rfl | ⟨y, rfl, hy⟩
      · cases hx
      · obtain rfl : x = y := by simpa using hx
        omega
    · have := ih.2.2 x hx
      omega
theorem Runs.trans {s : ByteArray} {i k q : Nat} {t t' : List Tok} (h : Runs s i t k) (h2 : Runs s k t' q) : Runs s i (t ++ t') q := by
  induction h with
  | nil i => exact h2
  | cons i j k t t1 a1 a2 a3 a4 a5 a6 ih =>
    rw [List.append_assoc]
    exact .cons i j q t (t1 ++ t') a1 a2 a3 a4 a5 (ih h2)
theorem runs_of (s : ByteArray) (hs : s.size ≤ 100000) : ∀ (d i : Nat) (l l' : List Tok), i ≤ s.size → loopS s d i l = some (.ok l') → ∃ t, l' = l ++ t ∧ Runs s i t s.size := by
  intro d
  induction d with
  | zero => intro i l l' hi h; cases h
  | succ d ih =>
    intro i l l' hi h
    rw [loopS] at h
    by_cases hlt : i < s.size
    · rw [if_pos hlt] at h
      obtain ⟨r, hr, hf⟩ := one_fine s i hlt (by omega)
      rw [hr, Option.bind_some] at h
      cases r with
      | error p => cases h
      | ok p =>
        obtain ⟨t, j⟩ := p
        obtain ⟨h1, h2, h3⟩ := hf
        simp only at h
        rw [if_pos h2] at h
        by_cases c : l.length + t.length < 1000000
        · rw [if_pos c] at h
          obtain ⟨t', e, hR⟩ := ih j (l ++ t) l' h2 h
          refine ⟨t ++ t', by rw [e, List.append_assoc], .cons i j _ t t' hlt hr h1 h2 ?_ hR⟩
          rcases h3 with rfl | ⟨x, e, hx, _⟩
          · exact Or.inl rfl
          · exact Or.inr ⟨x, e, hx⟩
        · rw [if_neg c] at h; cases h
    · rw [if_neg hlt] at h
      obtain rfl : i = s.size := by omega
      exact ⟨[], by have := Except.ok.inj (Option.some.inj h); rw [← this, List.append_nil], .nil _⟩
theorem of_runs (s : ByteArray) {i k : Nat} {t : List Tok} (h : Runs s i t k) : k = s.size → ∀ (d : Nat) (l : List Tok), s.size - i < d → l.length + t.length < 1000000 → loopS s d i l = some (.ok (l ++ t)) := by
  induction h with
  | nil i =>
    rintro rfl d l hd hl
    obtain ⟨d, rfl⟩ : ∃ m, d = m + 1 := ⟨d - 1, by omega⟩
    rw [loopS, if_neg (Nat.lt_irrefl _), List.append_nil]
  | cons i j k t t' h1 h2 h3 h4 h5 h6 ih =>
    rintro rfl d l hd hl
    obtain ⟨d, rfl⟩ : ∃ m, d = m + 1 := ⟨d - 1, by omega⟩
    rw [List.length_append] at hl
    rw [loopS, if_pos h1, h2, Option.bind_some]
    simp only
    rw [if_pos h4, if_pos (by omega), ih rfl d (l ++ t) (by omega) (by rw [List.length_append]; omega), List.append_assoc]
theorem Runs.split {s : ByteArray} {i k : Nat} {t : List Tok} (h : Runs s i t k) (p : Nat) (x : Tok) (hx : x ∈ t) (hp : x.at_ = (p : Int)) : ∃ t1 t2, t = t1 ++ t2 ∧ Runs s i t1 p ∧ Runs s p t2 k := by
  induction h with
  | nil i => cases hx
  | cons i j k t t' h1 h2 h3 h4 h5 h6 ih =>
    by_cases c : i = p
    · subst c
      exact ⟨[], t ++ t', rfl, .nil _, .cons i j k t t' h1 h2 h3 h4 h5 h6⟩
    · have hx : x ∈ t' := by
        rcases List.mem_append.1 hx with hx | hx
        · rcases h5 with rfl | ⟨y, rfl, hy⟩
          · cases hx
          · obtain rfl : x = y := by simpa using hx
            omega
        · exact hx
      obtain ⟨t1, t2, e, a, b⟩ := ih hx
      exact ⟨t ++ t1, t2, by rw [e, List.append_assoc], .cons i j p t t1 h1 h2 h3 h4 h5 a, b⟩
/-- A token further on. -/
def shT (d : Int) (t : Tok) : Tok := ⟨t.kind, t.at_ + d, t.name, t.attrs, t.text⟩
theorem Runs.view {s u : ByteArray} (hs : s.size ≤ 1000000) (hu : u.size ≤ 1000000) (hsu : s.size ≤ u.size) {i k : Nat} {t : List Tok} (h : Runs s i t k) : ∀ (j : Nat) (m : List UInt8), View s i u j m → k ≤ i + m.length → Runs u j (t.map (shT ((j : Int) - i))) (j + (k - i)) := by
  induction h with
  | nil i =>
    intro j m v hk
    rw [Nat.sub_self]
    exact .nil _
  | cons i q k t t' h1 h2 h3 h4 h5 h6 ih =>
    intro j m v hk
    have hle := h6.le.1
    have hm : m ≠ [] := ne_of_len (show 0 < k - i by omega) (by omega)
    obtain ⟨n, rfl⟩ : ∃ n, q = i + n := ⟨q - i, by omega⟩
    have h := v.one hm hs hu hsu t n h2 (by omega)
    have := ih (j + n) (m.drop n) (v.step n (by omega)) (by rw [List.length_drop]; omega)
    have hlen := v.len
    rw [show ((j + n : Nat) : Int) - ((i + n : Nat) : Int) = (j : Int) - i by omega, show j + n + (k - (i + n)) = j + (k - i) by omega] at this
    rw [List.map_append]
    have e : t.map (mvT j) = t.map (shT ((j : Int) - i)) := by
      rcases h5 with rfl | ⟨x, rfl, hx⟩
      · rfl
      · simp only [List.map_cons, List.map_nil, mvT, shT, hx]
        rw [show (i : Int) + (j - i) = j by omega]
    rw [e] at h
    refine .cons j (j + n) _ _ _ (v.more hm).2 h (by omega) (by omega) ?_ this
    rcases h5 with rfl | ⟨x, rfl, hx⟩
    · exact Or.inl rfl
    · exact Or.inr ⟨_, rfl, by simp only [shT, hx]; omega⟩
/-- A token but for its place. -/
def noPlace (t : Tok) : Int × ByteArray × List Raw × ByteArray := (t.kind, t.name, t.attrs, t.text)
/-- A remark put in ahead of a tag: the tokens are the same but for their places. -/
theorem remark_lex (s u : ByteArray) (R : List UInt8) (hs : s.size ≤ 20000) (hR : R.length ≤ 2000) (l : List Tok) (a : Int) (h : lexTok s = some (l, a, 0)) (x : Tok) (hx : x ∈ l) (hk : x.kind ≠ 4) (p : Nat) (hp : x.at_ = (p : Int)) (hu : u.data.toList = s.data.toList.take p ++ (R ++ s.data.toList.drop p)) (h1 : R.head? = some 60) (ho : oneS u p = some (.ok ([], p + R.length))) (hg : Sgn u p (p + R.length)) (hnd : nextB u p sDecl = false) :
    ∃ l', lexTok u = some (l', 0, 0) ∧ l'.map noPlace = l.map noPlace := by
  unfold lexTok at h
  rw [if_neg (by omega)] at h
  obtain ⟨b, hb, h⟩ := Option.bind_eq_some_iff.1 h
  by_cases c1 : 0 ≤ b
  · rw [if_pos c1] at h; cases h
  rw [if_neg c1] at h
  obtain ⟨c, hc, h⟩ := Option.bind_eq_some_iff.1 h
  by_cases c2 : 0 ≤ c
  · rw [if_pos c2] at h; cases h
  rw [if_neg c2] at h
  have hS := signs_of s (by omega) s.size _ _ 0 b c (by omega) (by omega) (by omega) (by omega) hb c1 hc c2
  cases hst : startS s with
  | error e =>
    rw [hst] at h
    have h := congrArg Prod.fst (Option.some.inj h)
    simp only at h
    rw [← h] at hx
    cases hx
  | ok q =>
    rw [hst] at h
    simp only at h
    by_cases hq : q ≤ s.size
    · rw [if_pos hq] at h
      obtain ⟨r, hr, h⟩ := Option.map_eq_some_iff.1 h
      cases r with
      | error e =>
        have h := congrArg Prod.fst h
        simp only [outS] at h
        rw [← h] at hx
        cases hx
      | ok l1 =>
        obtain rfl : l1 = l := congrArg Prod.fst h
        obtain ⟨l2, e, hRn⟩ := runs_of s (by omega) _ q [] l1 hq hr
        obtain rfl : l1 = l2 := by rw [e, List.nil_append]
        obtain ⟨r, hr', hf⟩ := loop_fine s (by omega) (s.size + 1) q [] hq (by omega) (by simp)
        obtain rfl := Option.some.inj (hr'.symm.trans hr)
        obtain ⟨l3, e3, hRise, _⟩ := hf
        rw [List.nil_append] at e3
        subst e3
        have hok : TokOK s x ∧ (q : Int) ≤ x.at_ := by
          have : ∀ (l : List Tok) (i : Int), Rise s i l → x ∈ l → TokOK s x ∧ i ≤ x.at_ := by
            intro l
            induction l with
            | nil => intro i _ h; cases h
            | cons y l ih =>
              intro i h hx
              rcases List.mem_cons.1 hx with rfl | hx
              · exact ⟨h.2.1, h.1⟩
              · have := ih _ h.2.2 hx
                have h0 := h.1
                exact ⟨this.1, by omega⟩
          exact this _ _ hRise hx
        obtain ⟨⟨p', hp', hlt, hcase⟩, hqp⟩ := hok
        obtain rfl : p' = p := by omega
        have h60 : Go.Proofs.YtffpbhbiamkkpaaDoorW.PrintWords.bt s p' = 60 := by
          rcases hcase with h | h
          · exact h.2.2.1
          · exact absurd h.1 hk
        have hlp : p' < s.data.toList.length := by rw [← Lib.size_eq]; exact hlt
        have hh : (s.data.toList.drop p').head? = some 60 := by
          rw [List.drop_eq_getElem_cons hlp]
          have := bt_data s p' hlp
          rw [h60] at this
          simp only [List.head?_cons, Option.some.injEq]
          apply UInt8.toNat_inj.1
          show _ = 60
          omega
        have hsz : u.size = s.size + R.length := by
          rw [Lib.size_eq, hu, Lib.size_eq]
          simp only [List.length_append, List.length_take, List.length_drop]
          omega
        have hRh : (R ++ s.data.toList.drop p').head? = some 60 := by
          cases R with
          | nil => cases h1
          | cons r R => exact h1
        have v0 : View s 0 u 0 (s.data.toList.take p') := ⟨⟨s.data.toList.drop p', R ++ s.data.toList.drop p', by rw [List.drop_zero, List.take_append_drop], by rw [List.drop_zero, hu], Or.inr ⟨hh, hRh⟩⟩, by omega, by omega⟩
        have hl0' : (s.data.toList.take p').length = p' := by rw [List.length_take]; omega
        have hdu : u.data.toList.drop (p' + R.length) = s.data.toList.drop p' := by
          have e1 : u.data.toList.drop p' = R ++ s.data.toList.drop p' := by
            rw [hu, List.drop_append_of_le_length (by omega), List.drop_eq_nil_of_le (by omega), List.nil_append]
          rw [← List.drop_drop, e1, List.drop_left]
        have v1 : View s p' u (p' + R.length) (s.data.toList.drop p') := ⟨⟨[], [], by rw [List.append_nil], by rw [hdu, List.append_nil], Or.inl ⟨rfl, rfl⟩⟩, by omega, by omega⟩
        have hl0 : (s.data.toList.take p').length = p' := by rw [List.length_take]; omega
        have hl1 : (s.data.toList.drop p').length = s.size - p' := by rw [List.length_drop, Lib.size_eq]
        obtain ⟨g1, g2⟩ := hS.split (by omega) p' hlt h60 (by omega) (by omega)
        have g1 := g1.view (by omega) (u := u) (by omega) 0 _ v0 (by omega)
        have g2 := g2.view (by omega) (u := u) (by omega) _ _ v1 (by omega)
        rw [show 0 + (p' - 0) = p' by omega] at g1
        rw [show p' + R.length + (s.size - p') = u.size by omega] at g2
        have gu := (g1.trans hg).trans g2
        obtain ⟨k1, k2⟩ := of_signs u (by omega) u.size 0 (u.size + 20) (by omega) gu (by omega)
        obtain ⟨t1, t2, et, r1, r2⟩ := hRn.split p' x hx hp
        have v0q := v0.step q (by omega)
        rw [Nat.zero_add] at v0q
        have r1 := r1.view (by omega) (u := u) (by omega) (by omega) q _ v0q (by rw [List.length_drop]; omega)
        have r2 := r2.view (by omega) (u := u) (by omega) (by omega) _ _ v1 (by omega)
        rw [show q + (p' - q) = p' by omega] at r1
        rw [show p' + R.length + (s.size - p') = u.size by omega] at r2
        have hRl : 0 < R.length := by
          cases R with
          | nil => cases h1
          | cons r R => simp
        have ru := r1.trans (Runs.cons p' (p' + R.length) _ [] _ (by omega) ho (by omega) (by omega) (Or.inl rfl) r2)
        have hlen := ru.le.2.1
        have hloop := of_runs u ru rfl (u.size + 1) [] (by omega) (by simp only [List.length_nil]; omega)
        refine ⟨t1.map (shT ((q : Int) - q)) ++ ([] ++ t2.map (shT (((p' + R.length : Nat) : Int) - p'))), ?_, ?_⟩
        · unfold lexTok
          rw [if_neg (by omega), show utf_Check.f (u.size + 20) u = some (-1) from k1, Option.bind_some, if_neg (by omega), show lex_char.f (u.size + 20) u = some (-1) from k2, Option.bind_some, if_neg (by omega)]
          by_cases hp0 : p' = 0
          · subst hp0
            obtain rfl : q = 0 := by omega
            have hs0 : startS u = .ok 0 := by
              unfold startS
              rw [if_neg (fun h => by rw [hnd] at h; exact absurd h.1 (by decide))]
            rw [hs0]
            simp only
            rw [if_pos (by omega), hloop]
            rfl
          · have hs0 := v0.start (ne_of_len (k := p') (by omega) (by omega)) q hst (by omega)
            rw [hs0]
            simp only
            rw [if_pos (by omega), hloop]
            rfl
        · rw [et]
          simp only [List.nil_append, List.map_append, List.map_map]
          rfl
    · rw [if_neg hq] at h; cases h
end Go.Proofs.YtffpbhbiamkkpaaDoor.Lx
namespace Go.Proofs.YtffpbhbiamkkpaaDoor.Lx
open Go.RowKit Go.Proofs.YtffpbhbiamkkpaaDoor.PU Go.Proofs.YtffpbhbiamkkpaaDoorW.PrintWords
open Go.Proofs.YtffpbhbiamkkpaaDoor.PG (runeT rune_ends char_eq)
set_option linter.unusedVariables false
theorem and31 : ∀ x : Fin 256, Go.bits .and .u8 ((x.val : Nat) : Int) 31 = ((x.val % 32 : Nat) : Int) := by decide +kernel
theorem and15 : ∀ x : Fin 256, Go.bits .and .u8 ((x.val : Nat) : Int) 15 = ((x.val % 16 : Nat) : Int) := by decide +kernel
theorem and7 : ∀ x : Fin 256, Go.bits .and .u8 ((x.val : Nat) : Int) 7 = ((x.val % 8 : Nat) : Int) := by decide +kernel
theorem wraps_i32 (n : Int) (h₀ : 0 ≤ n) (h₁ : n < 2 ^ 31) : IntKind.i32.wrap n = n := by
  simp [IntKind.wrap, IntKind.bits, IntKind.signed]
  omega
theorem i32_join (x y : Int) (h0 : 0 ≤ x) (h1 : x < 16777216) (h2 : 0 ≤ y) (h3 : y < 64) : bits .or .i32 (wrap32 (x * 64)) y = x * 64 + y := by
  have e : wrap32 (x * 64) = x * 64 := by unfold wrap32; omega
  rw [e]
  exact bits_join .i32 31 (by decide) wraps_i32 6 (x * 64) y (by omega) (by omega) (by omega) h2 (by omega) (by omega)
theorem fold_step (r d : Int) (l : List Int) (h0 : 0 ≤ r) (h1 : r < 16777216) (h2 : d / 64 = 2) : runeFold r (d :: l) = runeFold (r * 64 + d % 64) l := by
  rw [runeFold, if_pos h2, i32_join r (d % 64) h0 h1 (by omega) (by omega)]
theorem shape2 (c : UInt8) (h : c.toNat / 32 = 6) : utf_shape.f ((c.toNat : Nat) : Int) = some (2, ((c.toNat % 32 : Nat) : Int)) := by
  have e := and31 ⟨c.toNat, c.toNat_lt⟩
  simp only at e
  unfold utf_shape.f
  rw [if_neg (by omega), if_pos (by omega), e]
  congr 2
  unfold wrap32
  omega
theorem shape3 (c : UInt8) (h : c.toNat / 16 = 14) : utf_shape.f ((c.toNat : Nat) : Int) = some (3, ((c.toNat % 16 : Nat) : Int)) := by
  have e := and15 ⟨c.toNat, c.toNat_lt⟩
  simp only at e
  unfold utf_shape.f
  rw [if_neg (by omega), if_neg (by omega), if_pos (by omega), e]
  congr 2
  unfold wrap32
  omega
theorem shape4 (c : UInt8) (h : c.toNat / 8 = 30) : utf_shape.f ((c.toNat : Nat) : Int) = some (4, ((c.toNat % 8 : Nat) : Int)) := by
  have e := and7 ⟨c.toNat, c.toNat_lt⟩
  simp only at e
  unfold utf_shape.f
  rw [if_neg (by omega), if_neg (by omega), if_neg (by omega), if_pos (by omega), e]
  congr 2
  unfold wrap32
  omega
theorem shape1 (c : UInt8) (h : c.toNat < 128) : utf_shape.f ((c.toNat : Nat) : Int) = some (1, ((c.toNat : Nat) : Int)) := by
  unfold utf_shape.f
  rw [if_pos (by omega)]
  congr 2
  unfold wrap32
  omega
theorem bt_head (u : ByteArray) (i : Nat) (c : UInt8) (x : List UInt8) (hx : u.data.toList.drop i = c :: x) : i < u.size ∧ Go.Proofs.YtffpbhbiamkkpaaDoorW.PrintWords.bt u i = ((c.toNat : Nat) : Int) := by
  have h1 : i < u.data.toList.length := by
    have := congrArg List.length hx
    rw [List.length_drop, List.length_cons] at this
    omega
  refine ⟨by rw [Lib.size_eq]; exact h1, ?_⟩
  rw [bt_data u i h1]
  rw [List.drop_eq_getElem_cons h1] at hx
  rw [(List.cons.inj hx).1]
theorem bytes_of (u : ByteArray) (i k : Nat) (t x : List UInt8) (hk : t.length = k) (hx : u.data.toList.drop i = t ++ x) : bytesOf (u.extract i (i + k)) = t.map fun c => ((c.toNat : Nat) : Int) := by
  unfold bytesOf
  rw [ByteArray.data_extract, Array.toList_extract, List.extract_eq_take_drop, hx, show i + k - i = t.length by omega, List.take_left]
theorem rune_at (u : ByteArray) (hs : u.size ≤ 140737488351232) (i k : Nat) (c : UInt8) (t x : List UInt8) (hk : t.length = k) (hx : u.data.toList.drop i = c :: (t ++ x)) (r0 r : Int) (hsh : utf_shape.f ((c.toNat : Nat) : Int) = some (((k + 1 : Nat) : Int), r0)) (hf : runeFold r0 (t.map fun c => ((c.toNat : Nat) : Int)) = some r) (m : Int) (hl : utf_least.f ((k + 1 : Nat) : Int) = some m) (hm : m ≤ r) (hsc : utf_scalar.f r = some true) : runeT u i = (r, ((k + 1 : Nat) : Int)) := by
  obtain ⟨hi, hb⟩ := bt_head u i c _ hx
  have hlen := congrArg List.length hx
  rw [List.length_drop, ← Lib.size_eq, List.length_cons, List.length_append] at hlen
  have hx1 : u.data.toList.drop (i + 1) = t ++ x := by rw [← List.drop_drop, hx]; rfl
  have e : utf_Rune.f u i = some (r, ((k + 1 : Nat) : Int)) := by
    unfold utf_Rune.f
    rw [if_pos (by omega), if_neg (by omega), if_neg (by omega), hb, hsh, Option.bind_some]
    simp only
    rw [if_neg (by omega), if_neg (by omega), if_pos (by omega), show ((i : Int) + 1).toNat = i + 1 by omega, show ((i : Int) + ((k + 1 : Nat) : Int)).toNat = i + 1 + k by omega, bytes_of u (i + 1) k t x hk hx1, hf]
    simp only
    rw [hl, Option.bind_some, if_neg (by omega), hsc, Option.bind_some, if_pos rfl]
  have := (rune_ends u i hs).1
  have this : utf_Rune.f u i = some (runeT u i) := this
  rw [e] at this
  exact (Option.some.inj this).symm
theorem scalar_ok (r : Int) (h0 : 0 ≤ r) (h1 : r < 55296 ∨ 57344 ≤ r ∧ r ≤ 1114111) : utf_scalar.f r = some true := by
  show PL.utf_scalar.f r = some true
  unfold PL.utf_scalar.f
  rcases h1 with h | ⟨h, k⟩
  · rw [if_pos (by omega), if_pos h]
  · rw [if_pos (by omega), if_neg (by omega), if_pos (by omega), decide_eq_true k]
/-- Bytes that are signs of XML, none of them below 32, and none of the two last ones of the first plane. -/
inductive RS : List UInt8 → Prop
  | nil : RS []
  | one (c : UInt8) (l : List UInt8) : 32 ≤ c.toNat → c.toNat < 128 → RS l → RS (c :: l)
  | two (n : Nat) (c d : UInt8) (l : List UInt8) : 128 ≤ n → n < 2048 → c.toNat = 192 + n / 64 → d.toNat = 128 + n % 64 → RS l → RS (c :: d :: l)
  | three (n : Nat) (c d e : UInt8) (l : List UInt8) : 2048 ≤ n → n < 65534 → (n < 55296 ∨ 57344 ≤ n) → c.toNat = 224 + n / 4096 → d.toNat = 128 + n / 64 % 64 → e.toNat = 128 + n % 64 → RS l → RS (c :: d :: e :: l)
  | four (n : Nat) (c d e f : UInt8) (l : List UInt8) : 65536 ≤ n → n ≤ 1114111 → c.toNat = 240 + n / 262144 → d.toNat = 128 + n / 4096 % 64 → e.toNat = 128 + n / 64 % 64 → f.toNat = 128 + n % 64 → RS l → RS (c :: d :: e :: f :: l)
theorem char_ok (n : Nat) (h : 32 ≤ n) (h1 : n < 55296 ∨ 57344 ≤ n) (h2 : n < 65534 ∨ 65536 ≤ n) (h3 : n ≤ 1114111) : PL.charB ((n : Nat) : Int) = true := by
  unfold PL.charB
  exact decide_eq_true (by omega)
theorem sgn_one (u : ByteArray) (hs : u.size ≤ 140737488351232) (i k n : Nat) (c : UInt8) (t x : List UInt8) (hk : t.length = k) (hx : u.data.toList.drop i = c :: (t ++ x)) (r0 : Int) (hsh : utf_shape.f ((c.toNat : Nat) : Int) = some (((k + 1 : Nat) : Int), r0)) (hf : runeFold r0 (t.map fun c => ((c.toNat : Nat) : Int)) = some ((n : Nat) : Int)) (m : Int) (hl : utf_least.f ((k + 1 : Nat) : Int) = some m) (hm : m ≤ n) (h : 32 ≤ n) (h1 : n < 55296 ∨ 57344 ≤ n) (h2 : n < 65534 ∨ 65536 ≤ n) (h3 : n ≤ 1114111) (q : Nat) (hq : Sgn u (i + (k + 1)) q) : Sgn u i q := by
  have e := rune_at u hs i k c t x hk hx r0 n hsh hf m hl hm (scalar_ok _ (by omega) (by omega))
  exact .cons i (k + 1) q (bt_head u i c _ hx).1 (by rw [e]) (by omega) (by rw [e]; exact char_ok n h h1 h2 h3) hq
theorem RS.sgn {l : List UInt8} (h : RS l) (u : ByteArray) (hs : u.size ≤ 140737488351232) (x : List UInt8) : ∀ i, u.data.toList.drop i = l ++ x → Sgn u i (i + l.length) := by
  induction h with
  | nil => intro i _; exact .nil _
  | one c l h1 h2 h3 ih =>
    intro i hx
    have := ih (i + 1) (by rw [← List.drop_drop, hx]; rfl)
    exact sgn_one u hs i 0 c.toNat c [] (l ++ x) rfl hx _ (shape1 c h2) rfl 0 (by decide) (by omega) h1 (by omega) (by omega) (by omega) _ (by rw [List.length_cons, show i + (l.length + 1) = i + 1 + l.length by omega]; exact this)
  | two n c d l h1 h2 hc hd h3 ih =>
    intro i hx
    have := ih (i + 2) (by rw [← List.drop_drop, hx]; rfl)
    refine sgn_one u hs i 1 n c [d] (l ++ x) rfl hx _ (shape2 c (by omega)) ?_ 128 (by decide) (by omega) (by omega) (by omega) (by omega) (by omega) _ (by simp only [List.length_cons]; rw [show i + (l.length + 1 + 1) = i + 2 + l.length by omega]; exact this)
    simp only [List.map_cons, List.map_nil]
    rw [fold_step _ _ _ (by omega) (by omega) (by omega), runeFold]
    congr 1
    omega
  | three n c d e l h1 h2 hh hc hd he h3 ih =>
    intro i hx
    have := ih (i + 3) (by rw [← List.drop_drop, hx]; rfl)
    refine sgn_one u hs i 2 n c [d, e] (l ++ x) rfl hx _ (shape3 c (by omega)) ?_ 2048 (by decide) (by omega) (by omega) (by omega) (by omega) (by omega) _ (by simp only [List.length_cons]; rw [show i + (l.length + 1 + 1 + 1) = i + 3 + l.length by omega]; exact this)
    simp only [List.map_cons, List.map_nil]
    rw [fold_step _ _ _ (by omega) (by omega) (by omega), fold_step _ _ _ (by omega) (by omega) (by omega), runeFold]
    congr 1
    omega
  | four n c d e f l h1 h2 hc hd he hf h3 ih =>
    intro i hx
    have := ih (i + 4) (by rw [← List.drop_drop, hx]; rfl)
    refine sgn_one u hs i 3 n c [d, e, f] (l ++ x) rfl hx _ (shape4 c (by omega)) ?_ 65536 (by decide) (by omega) (by omega) (by omega) (by omega) (by omega) _ (by simp only [List.length_cons]; rw [show i + (l.length + 1 + 1 + 1 + 1) = i + 4 + l.length by omega]; exact this)
    simp only [List.map_cons, List.map_nil]
    rw [fold_step _ _ _ (by omega) (by omega) (by omega), fold_step _ _ _ (by omega) (by omega) (by omega), fold_step _ _ _ (by omega) (by omega) (by omega), runeFold]
    congr 1
    omega
theorem RS.append {l l' : List UInt8} (h : RS l) (h' : RS l') : RS (l ++ l') := by
  induction h with
  | nil => exact h'
  | one c l h1 h2 h3 ih => exact .one c _ h1 h2 ih
  | two n c d l h1 h2 hc hd h3 ih => exact .two n c d _ h1 h2 hc hd ih
  | three n c d e l h1 h2 hh hc hd he h3 ih => exact .three n c d e _ h1 h2 hh hc hd he ih
  | four n c d e f l h1 h2 hc hd he hf h3 ih => exact .four n c d e f _ h1 h2 hc hd he hf ih
theorem RS.ascii : ∀ l : List UInt8, (l.all fun c => decide (32 ≤ c.toNat) && decide (c.toNat < 128)) = true → RS l
  | [], _ => .nil
  | c :: l, h => by
    simp only [List.all_cons, Bool.and_eq_true, decide_eq_true_eq] at h
    exact .one c l h.1.1 h.1.2 (RS.ascii l h.2)
theorem next_at (u : ByteArray) (i : Nat) (x : List UInt8) (hx : u.data.toList.drop i = x) (t : ByteArray) : nextB u i t = List.isPrefixOf t.data.toList x := by
  unfold nextB Lib.hasPrefix
  rw [hx]
/-- The first place of two bytes behind a text that hasn't the first of them. -/
theorem index_two (a b : UInt8) (l x : List UInt8) (h : a ∉ l) : Lib.index (l ++ a :: b :: x) [a, b] = (l.length : Int) := by
  refine Lib.index_first (by simp) ?_ (fun q hq => ?_)
  · unfold Lib.occAt
    rw [List.drop_left]
    simp
  · unfold Lib.occAt
    rw [List.drop_append_of_le_length (by omega), List.drop_eq_getElem_cons hq]
    have : (a == l[q]) = false := beq_eq_false_iff_ne.2 (fun e => h (e ▸ List.getElem_mem _))
    show (a == l[q] && _) = false
    rw [this]
    rfl
def rCom (r : List UInt8) : List UInt8 := [60, 33, 45, 45] ++ (r ++ [45, 45, 62])
def rOrd (r : List UInt8) : List UInt8 := [60, 63, 120, 32] ++ (r ++ [63, 62])
theorem com_step (u : ByteArray) (p : Nat) (r x : List UInt8) (hx : u.data.toList.drop p = rCom r ++ x) (h45 : (45 : UInt8) ∉ r) : oneS u p = some (.ok ([], p + (rCom r).length)) := by
  have hx' : u.data.toList.drop p = 60 :: 33 :: 45 :: 45 :: (r ++ 45 :: 45 :: 62 :: x) := by rw [hx]; simp [rCom]
  unfold oneS
  rw [next_at u p _ hx' sPi, next_at u p _ hx' sCom, if_neg (by simp [List.isPrefixOf]), if_pos (by simp [List.isPrefixOf])]
  have h4 : u.data.toList.drop (p + 4) = r ++ 45 :: 45 :: 62 :: x := by rw [← List.drop_drop, hx']; rfl
  have hu : upS u sDash p (p + 4) = .ok r.length := by
    unfold upS
    rw [h4, show sDash.data.toList = [45, 45] from rfl, index_two 45 45 r (62 :: x) h45, if_neg (by omega)]
    simp
  have h6 : u.data.toList.drop (p + 4 + r.length + 2) = 62 :: x := by
    rw [show p + 4 + r.length + 2 = p + 4 + (r.length + 2) by omega, ← List.drop_drop, h4, ← List.drop_drop, List.drop_left]
    rfl
  unfold commentS
  rw [hu]
  simp only
  rw [next_at u _ _ h6 sGt, if_pos (by simp [List.isPrefixOf])]
  simp only [rCom, List.length_append, List.length_cons, List.length_nil]
  rw [show p + 4 + r.length + 2 + 1 = p + (0 + 1 + 1 + 1 + 1 + (r.length + (0 + 1 + 1 + 1))) by omega]
theorem ord_step (u : ByteArray) (hs : u.size ≤ 140737488351232) (p : Nat) (r x : List UInt8) (hx : u.data.toList.drop p = rOrd r ++ x) (h63 : (63 : UInt8) ∉ r) : oneS u p = some (.ok ([], p + (rOrd r).length)) := by
  have hx' : u.data.toList.drop p = 60 :: 63 :: 120 :: 32 :: (r ++ 63 :: 62 :: x) := by rw [hx]; simp [rOrd]
  have h2 : u.data.toList.drop (p + 2) = 120 :: ([] ++ (32 :: (r ++ 63 :: 62 :: x))) := by rw [← List.drop_drop, hx']; rfl
  have h3 : u.data.toList.drop (p + 3) = 32 :: ([] ++ (r ++ 63 :: 62 :: x)) := by rw [← List.drop_drop, hx']; rfl
  have r2 := rune_at u hs (p + 2) 0 120 [] _ rfl h2 120 120 (by decide +kernel) rfl 0 (by decide) (by decide) (by decide +kernel)
  have r3 := rune_at u hs (p + 3) 0 32 [] _ rfl h3 32 32 (by decide +kernel) rfl 0 (by decide) (by decide) (by decide +kernel)
  have b2 := bt_head u (p + 2) 120 _ h2
  have b3 := bt_head u (p + 3) 32 _ h3
  have hn : namEnd u (p + 2) = p + 3 := by
    rw [namEnd_step u hs, if_pos ⟨b2.1, by rw [r2]; decide +kernel⟩, r2, show p + 2 + ((((0 + 1 : Nat) : Int)).toNat) = p + 3 by omega, namEnd_step u hs, if_neg (by rw [r3]; exact fun h => absurd h.2 (by decide +kernel))]
  have he : u.extract (p + 2) (p + 3) = ⟨#[120]⟩ := by
    apply ByteArray.ext
    rw [ByteArray.data_extract]
    apply Array.ext'
    rw [Array.toList_extract, List.extract_eq_take_drop, h2]
    rw [show p + 3 - (p + 2) = 1 by omega]
    rfl
  unfold oneS
  rw [next_at u p _ hx' sPi, if_pos (by simp [List.isPrefixOf])]
  have hu : upS u sQE p (p + 3) = .ok (r.length + 1) := by
    unfold upS
    have : Lib.index ((32 :: r) ++ 63 :: 62 :: x) [63, 62] = ((32 :: r).length : Int) := index_two 63 62 (32 :: r) x (by simp [h63])
    rw [h3, show sQE.data.toList = [63, 62] from rfl, show (32 :: ([] ++ (r ++ 63 :: 62 :: x)) : List UInt8) = (32 :: r) ++ 63 :: 62 :: x from rfl, this, if_neg (by omega)]
    simp
  unfold orderS
  rw [hn, he, if_neg (by decide +kernel), hu, b3.2, if_neg (by
    intro h
    rcases h.2 with h | h
    · have := b3.1; omega
    · revert h; decide)]
  simp only
  simp only [rOrd, List.length_append, List.length_cons, List.length_nil]
  rw [show p + 3 + (r.length + 1) + 2 = p + (0 + 1 + 1 + 1 + 1 + (r.length + (0 + 1 + 1))) by omega]
/-- A remark of good bytes in one of the two forms, put in ahead of a tag, changes no token but its place. -/
theorem remark_put (s u : ByteArray) (r R : List UInt8) (hr : RS r) (h45 : (45 : UInt8) ∉ r) (h63 : (63 : UInt8) ∉ r) (hrl : r.length ≤ 1000) (hR : R = rCom r ∨ R = rOrd r) (hs : s.size ≤ 20000) (l : List Tok) (a : Int) (h : lexTok s = some (l, a, 0)) (x : Tok) (hx : x ∈ l) (hk : x.kind ≠ 4) (p : Nat) (hp : x.at_ = (p : Int)) (hps : p ≤ s.size) (hu : u.data.toList = s.data.toList.take p ++ (R ++ s.data.toList.drop p)) :
    ∃ l', lexTok u = some (l', 0, 0) ∧ l'.map noPlace = l.map noPlace := by
  have hRl : R.length ≤ 2000 := by rcases hR with rfl | rfl <;> simp [rCom, rOrd] <;> omega
  have husz : u.size ≤ 140737488351232 := by
    rw [Lib.size_eq, hu]
    have : s.data.toList.length = s.size := (Lib.size_eq s).symm
    simp only [List.length_append, List.length_take, List.length_drop]
    omega
  have hd : u.data.toList.drop p = R ++ s.data.toList.drop p := by
    have : (s.data.toList.take p).length = p := by rw [List.length_take, ← Lib.size_eq]; omega
    rw [hu, List.drop_append_of_le_length (by omega), List.drop_eq_nil_of_le (by omega), List.nil_append]
  have hRS : RS R := by
    rcases hR with rfl | rfl
    · exact (RS.ascii _ (by decide)).append (hr.append (RS.ascii _ (by decide)))
    · exact (RS.ascii _ (by decide)).append (hr.append (RS.ascii _ (by decide)))
  refine remark_lex s u R hs hRl l a h x hx hk p hp hu ?_ ?_ (hRS.sgn u husz _ p hd) ?_
  · rcases hR with rfl | rfl <;> rfl
  · rcases hR with rfl | rfl
    · exact com_step u p r _ hd h45
    · exact ord_step u husz p r _ hd h63
  · rw [next_at u p _ hd]
    rcases hR with rfl | rfl <;> simp [rCom, rOrd, List.isPrefixOf]
end Go.Proofs.YtffpbhbiamkkpaaDoor.Lx
namespace Go.Proofs.YtffpbhbiamkkpaaDoor.Lx
open Go Go.RowKit Go.Proofs.YtffpbhbiamkkpaaDoorW.PrintWords Go.Proofs.YtffpbhbiamkkpaaDoorW.PrintLast Go.Proofs.YtffpbhbiamkkpaaDoorW.PrintMore Go.Proofs.YtffpbhbiamkkpaaDoor.PU
set_option linter.unusedVariables false
def zTk : Tok := ⟨0, 0, ⟨#[]⟩, [], ⟨#[]⟩⟩
def zRaw : Raw := ⟨⟨#[]⟩, ⟨#[]⟩⟩
theorem kTok_all {w : World} {x : Tok} {cs : List Value} (h : kTok.K w x cs) : ∃ A c, cs = [.int .i64 x.kind, .int .i64 x.at_, .string x.name, .slice A x.attrs.length c, .string x.text] ∧ kRaw.C w A x.attrs.length x.attrs := by
  obtain ⟨_, _, rfl, rfl, ⟨_, _, rfl, rfl, ⟨_, _, rfl, rfl, ⟨_, _, rfl, ⟨A, c, rfl, _, hC⟩, rfl⟩⟩⟩⟩ := h
  exact ⟨A, c, rfl, hC⟩
theorem tokAt {w : World} {A : Option Addr} {n : Nat} {xs : List Tok} (h : Kd.C kTok w A n xs) (i : Nat) (h1 : i < n) (x : Tok) (hx : xs[i]? = some x) : ∃ ad A3 c3, A = some ad ∧ w.cell? (ad.add (i * 5)) = some (.int .i64 x.kind) ∧ w.cell? ⟨(ad.add (i * 5)).block, (ad.add (i * 5)).off + 1, none⟩ = some (.int .i64 x.at_) ∧ w.cell? ⟨(ad.add (i * 5)).block, (ad.add (i * 5)).off + 2, none⟩ = some (.string x.name) ∧ w.cell? ⟨(ad.add (i * 5)).block, (ad.add (i * 5)).off + 3, none⟩ = some (.slice A3 x.attrs.length c3) ∧ w.cell? ⟨(ad.add (i * 5)).block, (ad.add (i * 5)).off + 4, none⟩ = some (.string x.text) ∧ kRaw.C w A3 x.attrs.length x.attrs := by
  obtain ⟨ad, c, e, _, hK, hc0⟩ := Kd.C_get h zTk (i : Int) (by omega) (by omega)
  have ex : xs.getD (i : Int).toNat zTk = x := by rw [Int.toNat_natCast, List.getD_eq_getElem?_getD, hx]; rfl
  rw [ex] at hK
  rw [Int.toNat_natCast] at hc0
  have hc : ∀ j u, c[j]? = some u → w.cell? (ad.add (i * 5 + j)) = some u := hc0
  obtain ⟨A3, c3, rfl, hC⟩ := kTok_all hK
  exact ⟨ad, A3, c3, e, hc 0 _ rfl, by rw [← add_field _ _ 1 (by omega)]; exact hc 1 _ rfl, by rw [← add_field _ _ 2 (by omega)]; exact hc 2 _ rfl, by rw [← add_field _ _ 3 (by omega)]; exact hc 3 _ rfl, by rw [← add_field _ _ 4 (by omega)]; exact hc 4 _ rfl, hC⟩
theorem kRaw_all {w : World} {x : Raw} {cs : List Value} (h : kRaw.K w x cs) : cs = [.string x.n, .string x.v] := by
  obtain ⟨_, _, rfl, rfl, rfl⟩ := h
  rfl
theorem rawAt {w : World} {A : Option Addr} {n : Nat} {xs : List Raw} (h : Kd.C kRaw w A n xs) (i : Nat) (h1 : i < n) (x : Raw) (hx : xs[i]? = some x) : ∃ ad, A = some ad ∧ w.cell? (ad.add (i * 2)) = some (.string x.n) ∧ w.cell? ⟨(ad.add (i * 2)).block, (ad.add (i * 2)).off + 1, none⟩ = some (.string x.v) := by
  obtain ⟨ad, c, e, _, hK, hc0⟩ := Kd.C_get h zRaw (i : Int) (by omega) (by omega)
  have ex : xs.getD (i : Int).toNat zRaw = x := by rw [Int.toNat_natCast, List.getD_eq_getElem?_getD, hx]; rfl
  rw [ex] at hK
  rw [Int.toNat_natCast] at hc0
  have hc : ∀ j u, c[j]? = some u → w.cell? (ad.add (i * 2 + j)) = some u := hc0
  obtain rfl := kRaw_all hK
  exact ⟨ad, e, hc 0 _ rfl, by rw [← add_field _ _ 1 (by omega)]; exact hc 1 _ rfl⟩
set_option maxHeartbeats 2000000 in
set_option maxRecDepth 100000 in
theorem raws_calls (A B : Option Addr) (ca cb : Nat) (l : List Raw) (w : World) (hA : kRaw.C w A l.length l) (hB : kRaw.C w B l.length l) (hl : l.length ≤ 140737488351232) : Calls Tryd.prog 59 #[.slice A l.length ca, .slice B l.length cb] w fun e w' => e = .returned (.bool true) ∧ Drawn0 w w' := by
  have HA := Aside0.mk hA
  have HB := Aside0.mk hB
  clear hA hB
  go_enter Tryd.func59, Tryd.ntmps59
  go_wp2_with fail
  go_loopg [5] l.length (fun m v wr => ∃ (j nd : Nat), v = .int .i64 (j : Int) ∧ j ≤ l.length ∧ wr = w.drewN nd ∧ Aside0 (m = l.length - j))
  case atStart => exact ⟨0, 0, rfl, Nat.zero_le _, rfl, ⟨rfl⟩⟩
  case round =>
    obtain ⟨j, nd, rfl, hj, rfl, HM⟩ := hrel
    by_cases hlt : j < l.length
    · obtain ⟨x, hx⟩ : ∃ x, l[j]? = some x := ⟨_, List.getElem?_eq_getElem hlt⟩
      obtain ⟨ad, eA, a0, a1⟩ := rawAt HA.out j hlt x hx
      obtain ⟨bd, eB, b0, b1⟩ := rawAt HB.out j hlt x hx
      have q1 := eq_true (show (j : Int) < (l.length : Int) by omega)
      have q2 := eq_true (show (0 : Int) ≤ (j : Int) by omega)
      have q3 : (x.n.toList == x.n.toList) = true := by simp
      have q4 : (x.v.toList == x.v.toList) = true := by simp
      subst eA
      subst eB
      obtain ⟨z, hz⟩ : ∃ z, z = j + 1 := ⟨_, rfl⟩
      have f1 : (j : Int) + 1 = (z : Int) := by omega
      have f2 : IntKind.i64.wrap (z : Int) = (z : Int) := IntWalk.i64_in _ (by omega)
      have HZ := Aside0.mk hz
      clear hz hx
      go_wp2_with fail
      go_quiet (fail)
      go_wp2_with fail
      go_roundg (l.length - z)
      case measure => have h1 := HM.out; have h2 := HZ.out; omega
      case rel => exact ⟨z, _, rfl, by have h2 := HZ.out; omega, rfl, ⟨rfl⟩⟩
    · have q1 := eq_false (show ¬ (j : Int) < (l.length : Int) by omega)
      go_wp2_with fail
      go_ret
      exact ⟨rfl, _, rfl⟩
set_option maxHeartbeats 2000000 in
set_option maxRecDepth 100000 in
theorem same_calls (A B : Option Addr) (ca cb : Nat) (l l' : List Tok) (w : World) (hA : kTok.C w A l'.length l') (hB : kTok.C w B l.length l) (he : l'.map noPlace = l.map noPlace) (hl : l.length ≤ 140737488351232) (hr : ∀ x ∈ l, x.attrs.length ≤ 140737488351232) : Calls Tryd.prog 26 #[.slice A l'.length ca, .slice B l.length cb, .bool false] w fun e w' => e = .returned (.bool true) ∧ Drawn0 w w' := by
  have hlen : l'.length = l.length := by have := congrArg List.length he; simpa using this
  rw [hlen] at hA ⊢
  have HA := Aside0.mk hA
  have HB := Aside0.mk hB
  have HE := Aside0.mk he
  have HR := Aside0.mk hr
  clear hA hB he hr
  go_enter Tryd.func26, Tryd.ntmps26
  go_wp2_with fail
  go_loopg [7] l.length (fun m v wr => ∃ (j nd : Nat), v = .int .i64 (j : Int) ∧ j ≤ l.length ∧ wr = w.drewN nd ∧ Aside0 (m = l.length - j))
  case atStart => exact ⟨0, 0, rfl, Nat.zero_le _, rfl, ⟨rfl⟩⟩
  case round =>
    obtain ⟨j, nd, rfl, hj, rfl, HM⟩ := hrel
    by_cases hlt : j < l.length
    · obtain ⟨x, hx⟩ : ∃ x, l[j]? = some x := ⟨_, List.getElem?_eq_getElem hlt⟩
      obtain ⟨y, hy⟩ : ∃ y, l'[j]? = some y := ⟨_, List.getElem?_eq_getElem (by omega)⟩
      have hxy : noPlace y = noPlace x := by
        have := congrArg (fun t => t[j]?) HE.out
        simp only [List.getElem?_map, hx, hy, Option.map_some] at this
        exact Option.some.inj this
      obtain ⟨bd, B3, d3, eB, b0, _, b2, b3, b4, hRB⟩ := tokAt HB.out j hlt x hx
      obtain ⟨ad, A3, c3, eA, a0, _, a2, a3, a4, hRA⟩ := tokAt HA.out j hlt y hy
      have hra := HR.out x (List.mem_of_getElem? hx)
      obtain ⟨kx, ax, nx, rx, tx⟩ := x
      obtain ⟨ky, ay, ny, ry, ty⟩ := y
      unfold noPlace at hxy
      simp only [Prod.mk.injEq] at hxy
      obtain ⟨rfl, rfl, rfl, rfl⟩ := hxy
      simp only at a0 a2 a3 a4 b0 b2 b3 b4 hRA hRB hra
      have HRC := Aside0.mk (fun nd => raws_calls A3 B3 c3 d3 ry (w.drewN nd) hRA hRB hra)
      have q1 := eq_true (show (j : Int) < (l.length : Int) by omega)
      have q2 := eq_true (show (0 : Int) ≤ (j : Int) by omega)
      have q3 : (ny.toList == ny.toList) = true := by simp
      have q4 : (ty.toList == ty.toList) = true := by simp
      have q5 : (ky != ky) = false := by simp
      subst eA
      subst eB
      obtain ⟨z, hz⟩ : ∃ z, z = j + 1 := ⟨_, rfl⟩
      have f1 : (j : Int) + 1 = (z : Int) := by omega
      have f2 : IntKind.i64.wrap (z : Int) = (z : Int) := IntWalk.i64_in _ (by omega)
      have HZ := Aside0.mk hz
      clear hz hx hy hra hRA hRB
      go_wp2_with fail
      go_quiet ((go_at_call 59; (with_reducible refine (HRC.out _).mono ?_); rintro e w' ⟨rfl, ⟨nd, rfl⟩⟩; exact ⟨rfl, _, (World.drewN_drewN _ _ _).trans (congrArg (World.drewN _) (Nat.add_assoc _ _ _))⟩))
      go_wp2_with fail
      go_roundg (l.length - z)
      case measure => have h1 := HM.out; have h2 := HZ.out; omega
      case rel => exact ⟨z, _, rfl, by have h2 := HZ.out; omega, rfl, ⟨rfl⟩⟩
    · have q1 := eq_false (show ¬ (j : Int) < (l.length : Int) by omega)
      go_wp2_with fail
      go_ret
      exact ⟨rfl, _, rfl⟩
end Go.Proofs.YtffpbhbiamkkpaaDoor.Lx
