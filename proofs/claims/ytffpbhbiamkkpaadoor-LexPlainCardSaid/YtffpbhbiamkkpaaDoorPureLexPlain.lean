/- LexPlain's plain law. -/
import Derived.Test.YtffpbhbiamkkpaaDoorPTx2
import Derived.Test.YtffpbhbiamkkpaaDoorPureLexE
namespace Go.Proofs.YtffpbhbiamkkpaaDoor.Pure
open Go.RowKit Go.Proofs.YtffpbhbiamkkpaaDoor.PT Go.Proofs.YtffpbhbiamkkpaaDoorW.PrintWords Go.Proofs.YtffpbhbiamkkpaaDoorW.PrintLast Go.Plain
set_option linter.unusedVariables false
namespace LP
theorem awake_ok : watchbilllaw03_awake.f = some true := by decide +kernel
theorem cat_data (a b : ByteArray) : (a ++ b).data.toList = a.data.toList ++ b.data.toList := by simp
theorem cat_size (a b : ByteArray) : (a ++ b).size = a.size + b.size := by simp
theorem bt_data (s : ByteArray) (i : Nat) (h : i < s.data.toList.length) : bt s i = ((s.data.toList[i]).toNat : Int) := by
  have h' : i < s.size := by rw [Lib.size_eq]; exact h
  unfold bt
  rw [Int.toNat_natCast, dif_pos h']
  rfl
theorem map_ok {q : List UInt8} {x : Except Nat (List UInt8)} {r : List UInt8} (h : x.map (q ++ ·) = .ok r) : ∃ y, x = .ok y ∧ r = q ++ y := by
  cases x with
  | error e => cases h
  | ok y => cases h; exact ⟨y, rfl, rfl⟩
theorem map_ok1 {c : UInt8} {x : Except Nat (List UInt8)} {r : List UInt8} (h : x.map (c :: ·) = .ok r) : ∃ y, x = .ok y ∧ r = c :: y := by
  cases x with
  | error e => cases h
  | ok y => cases h; exact ⟨y, rfl, rfl⟩
/-- Where a text stands plays no part, as long as it is right. -/
theorem uL_shift (R : List UInt8 → List UInt8) (attr : Bool) : ∀ (d i j : Nat) (l r : List UInt8), uL R attr d i l = .ok r → uL R attr d j l = .ok r
  | 0, i, j, l, r, h => h
  | d + 1, i, j, [], r, h => h
  | d + 1, i, j, b :: l, r, h => by
    rw [uL] at h ⊢
    by_cases hb : b = 38
    · rw [if_pos hb] at h ⊢
      split at h
      · cases h
      · rename_i h1
        rw [if_neg h1]
        split at h
        · cases h
        · rename_i h2
          rw [if_neg h2]
          obtain ⟨y, hy, rfl⟩ := map_ok h
          rw [uL_shift R attr d _ _ _ _ hy]
          rfl
    · rw [if_neg hb] at h ⊢
      by_cases hc : b = 13 ∧ l.head? = some 10
      · rw [if_pos hc] at h ⊢
        obtain ⟨y, hy, rfl⟩ := map_ok1 h
        rw [uL_shift R attr d _ _ _ _ hy]
        rfl
      · rw [if_neg hc] at h ⊢
        obtain ⟨y, hy, rfl⟩ := map_ok1 h
        rw [uL_shift R attr d _ _ _ _ hy]
        rfl
theorem refL_len (l : List UInt8) : (PL.refL l).length ≤ 4 := by
  unfold PL.refL
  rw [← Lib.size_eq]
  exact PL.refS_le _
theorem uL_len (l r : List UInt8) (d i : Nat) (h : uL PL.refL false d i l = .ok r) : r.length ≤ 5 * l.length := by
  induction d using Nat.strongRecOn generalizing i l r with
  | ind d ih =>
    cases d with
    | zero => cases h; simp
    | succ d =>
      cases l with
      | nil => cases h; simp
      | cons b l =>
        rw [uL] at h
        by_cases hb : b = 38
        · rw [if_pos hb] at h
          split at h
          · cases h
          · rename_i h1
            split at h
            · cases h
            · obtain ⟨y, hy, rfl⟩ := map_ok h
              have := ih d (by omega) _ _ _ hy
              have h4 := refL_len (l.take ((Lib.indexByte (b :: l) 59).toNat - 1))
              simp at this ⊢
              omega
        · rw [if_neg hb] at h
          by_cases hc : b = 13 ∧ l.head? = some 10
          · rw [if_pos hc] at h
            obtain ⟨y, hy, rfl⟩ := map_ok1 h
            have := ih d (by omega) _ _ _ hy
            simp at this ⊢
            omega
          · rw [if_neg hc] at h
            obtain ⟨y, hy, rfl⟩ := map_ok1 h
            have := ih d (by omega) _ _ _ hy
            simp at this ⊢
            omega
def clean (s : ByteArray) : Prop := ∀ b ∈ s.data.toList, b ≠ 38 ∧ b ≠ 13
theorem unesc_clean (s : ByteArray) (hs : s.size ≤ 100000) (h : clean s) : PL.lex_Unescape.f s false = some (s, 0, 0) := by
  rw [PL.unescape_ok s (by omega), uL_plain _ _ _ _ (by rw [← Lib.size_eq]; omega) h]
  simp only [PL.outU, List.nil_append, PL.mk_of]
theorem gt_ok (D i : Nat) : uL PL.refL false (D + 4) i [38, 103, 116, 59] = .ok [62] := by
  rw [uL_fuel _ _ (D + 4) 4 i _ (by simp) (by simp), uL, if_pos rfl]
  have h1 : Lib.indexByte [38, 103, 116, 59] 59 = 3 := by decide
  rw [h1, if_neg (by decide)]
  have h2 : PL.refL [103, 116] = [62] := by decide +kernel
  show (if PL.refL [103, 116] = [] then _ else _) = _
  rw [h2, if_neg (by decide)]
  show Except.map _ (uL PL.refL false 3 (i + (3 : Int).toNat + 1) []) = _
  rw [uL]
  show Except.ok (PL.refL [103, 116] ++ []) = _
  rw [h2]
  rfl
theorem unesc_gt (s : ByteArray) (hs : s.size ≤ 100000) (h : clean s) : PL.lex_Unescape.f (s ++ ⟨#[38, 103, 116, 59]⟩) false = some (s ++ ⟨#[62]⟩, 0, 0) := by
  have h4 : (⟨#[38, 103, 116, 59]⟩ : ByteArray).size = 4 := rfl
  rw [PL.unescape_ok _ (by rw [cat_size, h4]; omega), cat_data, cat_size, h4]
  have hl : s.data.toList.getLast? ≠ some 13 := fun e => (h 13 (List.mem_of_getLast? e)).2 rfl
  have := uL_append PL.refL false [38, 103, 116, 59] 5 (by simp) s.size 0 s.data.toList s.data.toList (by rw [← Lib.size_eq]; exact Nat.le_refl _) (uL_plain _ _ _ _ (by rw [← Lib.size_eq]; exact Nat.le_refl _) h) hl
  rw [show s.size + 4 + 1 = s.size + 5 by omega]
  show PL.outU [] (uL PL.refL false (s.size + 5) 0 (s.data.toList ++ [38, 103, 116, 59])) = _
  rw [this, gt_ok 1]
  show some ((⟨([] ++ (s.data.toList ++ [62])).toArray⟩ : ByteArray), (0 : Int), (0 : Int)) = _
  have : (⟨([] ++ (s.data.toList ++ [62])).toArray⟩ : ByteArray) = s ++ ⟨#[62]⟩ := by
    rw [List.nil_append, ← PL.mk_of (s ++ ⟨#[62]⟩), cat_data]
  rw [this]
theorem l0_ok (s x5 : ByteArray) (x7 : Int) (hs : s.size ≤ 20000) (hx : clean s → x5 = s ∧ x7 = 0) : ∀ d i, i + d = s.size → (∀ j (h : j < s.data.toList.length), j < i → s.data.toList[j] ≠ 38 ∧ s.data.toList[j] ≠ 13) → watchbilllaw03_LexPlain.l0 (d + 1) s x5 x7 (i : Nat) = some true
  | 0, i, hi, hp => by
    have hc : clean s := by
      intro b hb
      obtain ⟨j, hj, rfl⟩ := List.mem_iff_getElem.1 hb
      exact hp j hj (by rw [← Lib.size_eq] at hj; omega)
    obtain ⟨rfl, rfl⟩ := hx hc
    rw [watchbilllaw03_LexPlain.l0, if_neg (by omega), if_pos (by omega)]
    show (PL.lex_Unescape.f _ _).bind _ = _
    rw [unesc_gt _ (by omega) hc, Option.bind_some, if_pos rfl, if_pos rfl, if_pos (by omega), if_pos rfl]
    rfl
  | d + 1, i, hi, hp => by
    have hl : i < s.data.toList.length := by rw [← Lib.size_eq]; omega
    have hb := bt_data s i hl
    have hn : ∀ c x : UInt8, (c.toNat : Int) = ((x.toNat : Nat) : Int) ↔ c = x := fun c x => ⟨fun h => UInt8.toNat_inj.1 (by omega), fun h => by rw [h]⟩
    rw [watchbilllaw03_LexPlain.l0, if_pos (by omega), if_pos (by omega)]
    by_cases h38 : bt s i = 38
    · rw [if_pos h38]
    · rw [if_neg h38]
      by_cases h13 : bt s i = 13
      · rw [if_pos h13]
      · rw [if_neg h13]
        have e1 : wrap64 ((i : Int) + 1) = ((i + 1 : Nat) : Int) := by rw [PL.w64 _ (by omega) (by omega)]; omega
        rw [e1]
        refine l0_ok s x5 x7 hs hx d (i + 1) (by omega) (fun j hj hji => ?_)
        by_cases hjl : j < i
        · exact hp j hj hjl
        · obtain rfl : j = i := by omega
          exact ⟨fun e => h38 (by rw [hb, e]; rfl), fun e => h13 (by rw [hb, e]; rfl)⟩
theorem j2_ok (s x5 : ByteArray) (x7 : Int) (hs : s.size ≤ 20000) (hx : clean s → x5 = s ∧ x7 = 0) : watchbilllaw03_LexPlain.j2 (s.size + 2) s x5 x7 = some true := by
  rw [watchbilllaw03_LexPlain.j2]
  exact l0_ok s x5 x7 hs hx s.size 0 (by omega) (fun j h h0 => absurd h0 (by omega))
end LP
open LP
theorem LexPlain : watchbilllaw03_LexPlain.Pure := by
  intro s t _ _
  refine ⟨s.size + 4, ?_⟩
  unfold watchbilllaw03_LexPlain.f
  rw [LP.awake_ok, Option.bind_some, if_pos rfl]
  by_cases hs : s.size ≤ 20000
  case neg => rw [if_pos (by omega), watchbilllaw03_LexPlain.j0, if_pos rfl]
  rw [if_neg (by omega), watchbilllaw03_LexPlain.j0]
  by_cases ht : t.size ≤ 20000
  case neg => rw [if_pos (by simp; omega)]
  rw [if_neg (by simp; omega)]
  show (PL.lex_Unescape.f s false).bind (fun _ => (PL.lex_Unescape.f t false).bind _) = _
  have h1 := PL.unescape_ok s (by omega) false
  have h2 := PL.unescape_ok t (by omega) false
  have hx : clean s → uL PL.refL false (s.size + 1) 0 s.data.toList = .ok s.data.toList := fun hc => uL_plain _ _ _ _ (by rw [← Lib.size_eq]; omega) hc
  cases hu : uL PL.refL false (s.size + 1) 0 s.data.toList with
  | error p =>
    rw [hu] at h1 hx
    have hnc : ∀ x5 x7, clean s → x5 = s ∧ x7 = (0 : Int) := fun _ _ hc => by have := hx hc; cases this
    rw [h1]
    cases hv : uL PL.refL false (t.size + 1) 0 t.data.toList with
    | error q =>
      rw [hv] at h2
      rw [h2]
      simp only [PL.outU, Option.bind_some]
      rw [if_neg (by decide), watchbilllaw03_LexPlain.j1, if_neg (by decide)]
      exact j2_ok s _ _ hs (hnc _ _)
    | ok q =>
      rw [hv] at h2
      rw [h2]
      simp only [PL.outU, Option.bind_some]
      rw [if_neg (by decide), watchbilllaw03_LexPlain.j1, if_neg (by decide)]
      exact j2_ok s _ _ hs (hnc _ _)
  | ok r =>
    rw [hu] at h1 hx
    have hxr : clean s → (⟨r.toArray⟩ : ByteArray) = s ∧ (0 : Int) = 0 := by
      intro hc
      have := hx hc
      injection this with this
      rw [this, PL.mk_of]
      exact ⟨rfl, rfl⟩
    rw [h1]
    cases hv : uL PL.refL false (t.size + 1) 0 t.data.toList with
    | error q =>
      rw [hv] at h2
      rw [h2]
      simp only [PL.outU, Option.bind_some, List.nil_append]
      rw [if_pos trivial, if_neg (by decide), watchbilllaw03_LexPlain.j1, if_neg (by decide)]
      exact j2_ok s _ _ hs hxr
    | ok q =>
      rw [hv] at h2
      rw [h2]
      simp only [PL.outU, Option.bind_some, List.nil_append]
      rw [if_pos trivial, if_pos trivial]
      have hboth : s.data.toList.getLast? ≠ some 13 → watchbilllaw03_LexPlain.j1 (s.size + 3) s t ⟨r.toArray⟩ 0 ⟨q.toArray⟩ true = some true := by
        intro hl
        rw [watchbilllaw03_LexPlain.j1, if_pos rfl, if_pos (by omega)]
        show (PL.lex_Unescape.f (s ++ t) false).bind _ = _
        have ha := uL_append PL.refL false t.data.toList (t.size + 1) (by rw [← Lib.size_eq]; omega) (s.size + 1) 0 s.data.toList r (by rw [← Lib.size_eq]; omega) hu hl
        have hq : uL PL.refL false (t.size + 1) (0 + s.data.toList.length) t.data.toList = .ok q := uL_shift _ _ _ 0 _ _ _ hv
        rw [hq] at ha
        have hst : uL PL.refL false ((s ++ t).size + 1) 0 (s ++ t).data.toList = .ok (r ++ q) := by
          rw [cat_data, uL_fuel _ _ ((s ++ t).size + 1) (s.size + 1 + (t.size + 1)) 0 _ (by rw [List.length_append, ← Lib.size_eq, ← Lib.size_eq, cat_size]; omega) (by rw [List.length_append, ← Lib.size_eq, ← Lib.size_eq]; omega)]
          exact ha
        have hle : ∀ (u : ByteArray) (l : List UInt8), u.size ≤ 20000 → PL.lex_Unescape.f u false = some (⟨l.toArray⟩, 0, 0) → l.length ≤ 1000000000 → (⟨l.toArray⟩ : ByteArray).size ≤ 1000000000 := fun u l _ _ h => by rw [PL.mk_size]; exact h
        rw [PL.unescape_ok _ (by rw [cat_size]; omega), hst]
        simp only [PL.outU, Option.bind_some, List.nil_append]
        have hrl := uL_len s.data.toList r (s.size + 1) 0 hu
        have hql := uL_len t.data.toList q (t.size + 1) 0 hv
        rw [← Lib.size_eq] at hrl hql
        rw [if_pos (by rw [PL.mk_size, PL.mk_size]; omega), if_pos (by rw [Lib.toList_data, Lib.toList_data, cat_data]), if_pos trivial, if_pos trivial]
        exact j2_ok s _ _ hs hxr
      by_cases hs0 : s.size = 0
      · rw [if_pos (by omega)]
        refine hboth ?_
        have : s.data.toList = [] := List.length_eq_zero_iff.1 (by rw [← Lib.size_eq]; exact hs0)
        rw [this]
        simp
      · have e1 : wrap64 ((s.size : Int) - 1) = ((s.size - 1 : Nat) : Int) := by rw [PL.w64 _ (by omega) (by omega)]; omega
        rw [if_neg (by omega), e1, if_pos (by omega), if_pos (by omega)]
        have hl : s.size - 1 < s.data.toList.length := by rw [← Lib.size_eq]; omega
        have hb := bt_data s (s.size - 1) hl
        have hlast : s.data.toList.getLast? = some s.data.toList[s.size - 1] := by
          rw [List.getLast?_eq_getElem?, ← Lib.size_eq, List.getElem?_eq_getElem hl]
        by_cases h13 : bt s ((s.size - 1 : Nat) : Int) = 13
        · rw [show (bt s ((s.size - 1 : Nat) : Int) != 13) = false from by rw [h13]; rfl, watchbilllaw03_LexPlain.j1, if_neg (by decide)]
          exact j2_ok s _ _ hs hxr
        · rw [show (bt s ((s.size - 1 : Nat) : Int) != 13) = true from bne_iff_ne.2 h13]
          refine hboth ?_
          rw [hlast]
          intro h
          injection h with h
          exact h13 (by rw [hb, h]; rfl)
end Go.Proofs.YtffpbhbiamkkpaaDoor.Pure
