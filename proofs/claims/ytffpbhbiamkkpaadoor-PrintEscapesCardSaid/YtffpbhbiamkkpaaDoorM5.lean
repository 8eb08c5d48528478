/- What tree.signs and utf.Name come to; utf.Name walked (it calls through a function value). -/
import Derived.Test.YtffpbhbiamkkpaaDoorPGx1
import Derived.Test.YtffpbhbiamkkpaaDoorM1
import Derived.Test.YtffpbhbiamkkpaaDoorM3
import Derived.Carry
import Derived.Test.YtffpbhbiamkkpaaDoorM4
namespace Go.Proofs.YtffpbhbiamkkpaaDoor.PG
open Go.RowKit Go.Proofs.YtffpbhbiamkkpaaDoorW.PrintWords Go.Proofs.YtffpbhbiamkkpaaDoorW.PrintLast Go.Proofs.YtffpbhbiamkkpaaDoorW.PrintMore
set_option linter.unusedVariables false
def inS (n : Int) (l : List S102) : Bool := l.any fun x => decide (x.f0 ≤ n) && decide (n ≤ x.f1)
theorem within_from (n : Int) (l : List S102) (hl : l.length ≤ 100) : ∀ (d k i : Nat), l.length - i ≤ d → d < k → i ≤ l.length → utf_within.l0 k n l (l.length : Int) (i : Int) = some (inS n (l.drop i)) := by
  intro d
  induction d with
  | zero =>
    intro k i h1 h2 h3
    obtain ⟨k, rfl⟩ : ∃ m, k = m + 1 := ⟨k - 1, by omega⟩
    simp only [utf_within.l0]
    rw [if_neg (by omega), List.drop_eq_nil_of_le (by omega)]
    rfl
  | succ d ih =>
    intro k i h1 h2 h3
    obtain ⟨k, rfl⟩ : ∃ m, k = m + 1 := ⟨k - 1, by omega⟩
    by_cases hlt : i < l.length
    · simp only [utf_within.l0]
      rw [if_pos (by omega), if_pos (by omega), if_pos (by omega)]
      have e1 : wrap64 ((i : Int) + 1) = ((i + 1 : Nat) : Int) := by rw [PL.w64 _ (by omega) (by omega)]; omega
      have e2 : rd_T102 l (i : Int) = l[i] := by simp [rd_T102, hlt]
      have e3 : inS n (l.drop i) = (decide (l[i].f0 ≤ n) && decide (n ≤ l[i].f1) || inS n (l.drop (i + 1))) := by
        rw [List.drop_eq_getElem_cons hlt]; rfl
      rw [e1, e2, e3]
      by_cases c1 : l[i].f0 ≤ n
      · rw [if_pos (by omega)]
        by_cases c2 : n ≤ l[i].f1
        · rw [if_pos c2]; simp [c1, c2]
        · rw [if_neg c2, ih k (i + 1) (by omega) (by omega) (by omega)]; simp [c2]
      · rw [if_neg (by omega), ih k (i + 1) (by omega) (by omega) (by omega)]; simp [c1]
    · simp only [utf_within.l0]
      rw [if_neg (by omega), List.drop_eq_nil_of_le (by omega)]
      rfl
theorem within_eq (n : Int) (l : List S102) (k : Nat) (hl : l.length ≤ 100) (hk : l.length < k) : utf_within.f k n l = some (inS n l) := by
  have h := within_from n l hl l.length k 0 (by omega) hk (by omega)
  rw [List.drop_zero] at h
  exact h
def startB (n : Int) : Bool := inS n [(⟨65, 90⟩ : S102), (⟨97, 122⟩ : S102), (⟨95, 95⟩ : S102), (⟨192, 214⟩ : S102), (⟨216, 246⟩ : S102), (⟨248, 767⟩ : S102), (⟨880, 893⟩ : S102), (⟨895, 8191⟩ : S102), (⟨8204, 8205⟩ : S102), (⟨8304, 8591⟩ : S102), (⟨11264, 12271⟩ : S102), (⟨12289, 55295⟩ : S102), (⟨63744, 64975⟩ : S102), (⟨65008, 65533⟩ : S102), (⟨65536, 983039⟩ : S102)]
theorem start_eq (n : Int) : utf_Start.f 20 n = some (startB n) := by
  unfold utf_Start.f startB
  rw [within_eq n _ 20 (by decide) (by decide)]
  rfl
def partB (n : Int) : Bool := startB n || inS n [(⟨45, 46⟩ : S102), (⟨48, 57⟩ : S102), (⟨183, 183⟩ : S102), (⟨768, 879⟩ : S102), (⟨8255, 8256⟩ : S102)]
theorem part_eq (n : Int) : utf_Part.f 20 n = some (partB n) := by
  unfold utf_Part.f partB
  rw [start_eq, within_eq n _ 20 (by decide) (by decide)]
  cases startB n <;> rfl
/-- The sign at a place, and how many bytes it has; 0: none. -/
def runeT (s : ByteArray) (i : Int) : Int × Int := (utf_Rune.f s i).getD (0, 0)
theorem shape_ends (c : Int) : ∃ n r, PU.utf_shape.f c = some (n, r) ∧ 0 ≤ n ∧ n ≤ 4 := by
  unfold PU.utf_shape.f
  repeat' split
  all_goals exact ⟨_, _, rfl, by omega, by omega⟩
theorem least_ends (c : Int) : ∃ r, PU.utf_least.f c = some r := by
  unfold PU.utf_least.f
  repeat' split
  all_goals exact ⟨_, rfl⟩
theorem scalar_ends (c : Int) : ∃ r, PU.utf_scalar.f c = some r := by
  unfold PU.utf_scalar.f PL.utf_scalar.f
  repeat' split
  all_goals exact ⟨_, rfl⟩
theorem rune_ends (s : ByteArray) (i : Int) (hs : s.size ≤ 140737488351232) : utf_Rune.f s i = some (runeT s i) ∧ 0 ≤ (runeT s i).2 ∧ ((runeT s i).2 ≠ 0 → 0 ≤ i ∧ i + (runeT s i).2 ≤ s.size ∧ (runeT s i).2 ≤ 4) := by
  have h : ∃ r n, utf_Rune.f s i = some (r, n) ∧ 0 ≤ n ∧ (n ≠ 0 → 0 ≤ i ∧ i + n ≤ s.size ∧ n ≤ 4) := by
    show ∃ r n, PU.utf_Rune.f s i = some (r, n) ∧ _
    unfold PU.utf_Rune.f
    rw [if_pos (by omega)]
    by_cases h1 : i < 0
    · rw [if_pos h1]; exact ⟨0, 0, rfl, by omega, fun h => absurd rfl h⟩
    rw [if_neg h1]
    by_cases h2 : i ≥ s.size
    · rw [if_pos h2]; exact ⟨0, 0, rfl, by omega, fun h => absurd rfl h⟩
    rw [if_neg h2]
    obtain ⟨n, r0, e, hn0, hn4⟩ := shape_ends (bt s i)
    rw [e, Option.bind_some]
    by_cases h3 : n = 0
    · rw [if_pos h3]; exact ⟨0, 0, rfl, by omega, fun h => absurd rfl h⟩
    rw [if_neg h3]
    by_cases h4 : n > (s.size : Int) - i
    · rw [if_pos h4]; exact ⟨0, 0, rfl, by omega, fun h => absurd rfl h⟩
    rw [if_neg h4, if_pos (by omega)]
    cases hf : PU.runeFold r0 (bytesOf (s.extract (i + 1).toNat (i + n).toNat)) with
    | none => exact ⟨0, 0, rfl, by omega, fun h => absurd rfl h⟩
    | some r =>
      obtain ⟨m, em⟩ := least_ends n
      obtain ⟨b, eb⟩ := scalar_ends r
      simp only [em, eb, Option.bind_some]
      by_cases h5 : r < m
      · rw [if_pos h5]; exact ⟨0, 0, rfl, by omega, fun h => absurd rfl h⟩
      rw [if_neg h5]
      cases b
      · exact ⟨0, 0, rfl, by omega, fun h => absurd rfl h⟩
      · exact ⟨r, n, rfl, hn0, fun _ => ⟨by omega, by omega, hn4⟩⟩
  obtain ⟨r, n, e, h1, h2⟩ := h
  unfold runeT
  rw [e]
  exact ⟨rfl, h1, h2⟩
def signsB (s : ByteArray) : Bool := (tree_signs.f (s.size + 20) s).getD false
theorem char_eq (n : Int) (k : Nat) (hk : 11 ≤ k) : utf_Char.f k n = some (PL.charB n) := at_rounds (PL.utf_Char.mono n) hk (PL.utf_char n)
theorem signs_from (s : ByteArray) (hs : s.size ≤ 140737488351232) : ∀ (d k : Nat) (i : Int), 0 ≤ i → (s.size : Int) - i ≤ d → d + 13 ≤ k → ∃ b, tree_signs.l0 k s i = some b := by
  intro d
  induction d with
  | zero =>
    intro k i h0 h1 h2
    obtain ⟨k, rfl⟩ : ∃ m, k = m + 1 := ⟨k - 1, by omega⟩
    exact ⟨true, by simp only [tree_signs.l0]; rw [if_neg (by omega)]⟩
  | succ d ih =>
    intro k i h0 h1 h2
    obtain ⟨k, rfl⟩ : ∃ m, k = m + 1 := ⟨k - 1, by omega⟩
    simp only [tree_signs.l0]
    by_cases c : i < s.size
    · obtain ⟨e, hn, hb⟩ := rune_ends s i hs
      rw [if_pos c, e, Option.bind_some]
      by_cases hz : (runeT s i).2 = 0
      · rw [if_pos hz]; exact ⟨_, rfl⟩
      obtain ⟨_, hb1, _⟩ := hb hz
      rw [if_neg hz, char_eq _ k (by omega), Option.bind_some]
      cases PL.charB (runeT s i).1
      · exact ⟨_, rfl⟩
      · rw [PL.w64 _ (by omega) (by omega)]
        exact ih k (i + (runeT s i).2) (by omega) (by omega) (by omega)
    · rw [if_neg c]; exact ⟨_, rfl⟩
theorem signs_calls (s : ByteArray) (w : World) (hs : s.size ≤ 140737488351232) : Calls Tryd.prog 104 #[.string s] w fun e w' => e = .returned (.bool (signsB s)) ∧ Below w.heap.size w w' := by
  obtain ⟨b, hb⟩ := signs_from s hs s.size (s.size + 20) 0 (by omega) (by omega) (by omega)
  refine tree_signs.calls (s.size + 20) s (signsB s) w ?_
  have e : tree_signs.f (s.size + 20) s = some b := hb
  unfold signsB
  rw [e]
  rfl
def nameL : Nat → ByteArray → Int → Bool → Bool
  | 0, _, _, _ => false
  | k + 1, s, i, first => if i < s.size then (if (runeT s i).2 = 0 then false else if (if first then startB (runeT s i).1 else partB (runeT s i).1) = true then nameL k s (i + (runeT s i).2) false else false) else true
def nameB (s : ByteArray) : Bool := if s.size = 0 then false else if 64 < s.size then false else nameL 65 s 0 true
theorem start_calls (n : Int) (w : World) : Calls Tryd.prog 153 #[.int .i32 n] w fun e w' => e = .returned (.bool (startB n)) ∧ Below w.heap.size w w' := utf_Start.calls 20 n (startB n) w (start_eq n)
theorem part_calls (n : Int) (w : World) : Calls Tryd.prog 124 #[.int .i32 n] w fun e w' => e = .returned (.bool (partB n)) ∧ Below w.heap.size w w' := utf_Part.calls 20 n (partB n) w (part_eq n)
theorem rune_calls (s : ByteArray) (i : Int) (w : World) (hs : s.size ≤ 140737488351232) : Calls Tryd.prog 87 #[.string s, .int .i64 i] w fun e w' => e = .returned (.tuple #[.int .i32 (runeT s i).1, .int .i64 (runeT s i).2]) ∧ Below w.heap.size w w' := utf_Rune.calls s i _ _ w (rune_ends s i hs).1
theorem nameL_step (k : Nat) (s : ByteArray) (i : Int) (first : Bool) (h : i < s.size) : nameL (k + 1) s i first = if (runeT s i).2 = 0 then false else if (if first then startB (runeT s i).1 else partB (runeT s i).1) = true then nameL k s (i + (runeT s i).2) false else false := by
  simp only [nameL]
  rw [if_pos h]
set_option maxHeartbeats 2000000 in
set_option maxRecDepth 100000 in
theorem name_calls (s : ByteArray) (w : World) : Calls Tryd.prog 125 #[.string s] w fun e w' => e = .returned (.bool (nameB s)) ∧ Below w.heap.size w w' := by
  by_cases hz : s.size = 0
  · have hz' : s.data.toList = [] := List.length_eq_zero_iff.1 (by rw [← Lib.size_eq]; exact hz)
    have q : (s.toList.isEmpty) = true := by rw [Lib.toList_data, hz']; rfl
    have q2 : s.toList = [] := by rw [Lib.toList_data, hz']
    have e : nameB s = false := by unfold nameB; rw [if_pos hz]
    rw [e]
    clear e
    go_enter Tryd.func125, Tryd.ntmps125
    go_wp2_with fail
    go_ret
    exact ⟨rfl, Below.refl _ _⟩
  have hz' : s.data.toList ≠ [] := fun h => hz (by rw [Lib.size_eq, h]; rfl)
  have q : (s.toList.isEmpty) = false := by rw [Lib.toList_data]; simpa using hz'
  have q2 : (s.toList = []) = False := eq_false (by rw [Lib.toList_data]; exact hz')
  by_cases hb : 64 < s.size
  · have e : nameB s = false := by unfold nameB; rw [if_neg hz, if_pos hb]
    rw [e]
    have q3 := eq_true (show (64 : Int) < (s.size : Int) by omega)
    clear e hz hz'
    go_enter Tryd.func125, Tryd.ntmps125
    go_wp2_with fail
    go_ret
    exact ⟨rfl, Below.refl _ _⟩
  have e : nameB s = nameL 65 s 0 true := by unfold nameB; rw [if_neg hz, if_neg hb]
  rw [e]
  obtain ⟨R, hR⟩ : ∃ R, nameL 65 s 0 true = R := ⟨_, rfl⟩
  rw [hR]
  have HR := Aside0.mk hR
  have q3 := eq_false (show ¬ (64 : Int) < (s.size : Int) by omega)
  have hs : s.size ≤ 64 := by omega
  clear e hR hz hz' hb
  go_enter Tryd.func125, Tryd.ntmps125
  go_wp2_with fail
  go_loopg [3, 4] 65 (fun kq v3 v4 wr => ∃ (i : Int) (first : Bool), v3 = .func (.func (if first = true then 153 else 124)) #[] #[] ∧ v4 = .int .i64 i ∧ 0 ≤ i ∧ i ≤ s.size ∧ (s.size : Int) - i < kq ∧ Aside0 (nameL kq s i first = R) ∧ Aside0 (Below w.heap.size w wr))
  case atStart => exact ⟨0, true, rfl, rfl, by omega, by omega, by omega, HR, ⟨Below.refl _ _⟩⟩
  case round =>
    obtain ⟨i, first, hv3, rfl, h0, h1, hd, HL, HB⟩ := hrel
    by_cases hlt : i < (s.size : Int)
    · cases gk with
      | zero => exact absurd hd (by omega)
      | succ k1 =>
        have hst := HL.out
        rw [nameL_step k1 s i first hlt] at hst
        obtain ⟨_, hn0, hnb⟩ := rune_ends s i (by omega)
        obtain ⟨r, hr⟩ : ∃ r, (runeT s i).1 = r := ⟨_, rfl⟩
        obtain ⟨n, hn⟩ : ∃ n, (runeT s i).2 = n := ⟨_, rfl⟩
        have hcal := fun W => rune_calls s i W (by omega)
        rw [hr] at hst hcal
        rw [hn] at hst hcal hn0 hnb
        have HST := Aside0.mk hst
        have HC := Aside0.mk hcal
        have q4 := eq_true hlt
        clear hst hr hn hcal HL
        by_cases hnz : n = 0
        · subst hnz
          have HST2 := HST.out
          rw [if_pos rfl] at HST2
          have HE := Aside0.mk HST2
          clear HST2 hnb
          subst hv3
          go_wp2_with (go_at_call 87; (with_reducible refine (HC.out _).mono ?_); rintro e w1 ⟨rfl, hb1⟩; have HB1 := Aside0.mk hb1; clear hb1)
          all_goals
            go_ret
            rw [← HE.out]
            exact ⟨rfl, HB.out.trans (HB1.out.mono HB.out.size)⟩
        · obtain ⟨_, hb1, hb4⟩ := hnb hnz
          have HST2 := HST.out
          rw [if_neg hnz] at HST2
          have q5 : (n == 0) = false := by simpa using hnz
          have f1 : IntKind.i64.wrap (i + n) = i + n := IntWalk.i64_in _ (by omega)
          have HX := Aside0.mk HST2
          have hn1 : 1 ≤ n := by omega
          clear HST2 hnb hnz
          cases first
          · simp only [Bool.false_eq_true, if_false] at hv3
            subst hv3
            cases hp : partB r with
            | false =>
              have HE0 := HX.out
              simp only [Bool.false_eq_true, if_false, hp] at HE0
              have HE := Aside0.mk HE0
              have HP := Aside0.mk (fun W => part_calls r W)
              simp only [hp] at HP
              clear hp HE0
              go_wp2_with (first | (go_at_call 87; (with_reducible refine (HC.out _).mono ?_); rintro e w1 ⟨rfl, hb1⟩; have HB1 := Aside0.mk hb1; clear hb1) | (go_at_call 124; (with_reducible refine (HP.out _).mono ?_); rintro e w2 ⟨rfl, hb2⟩; have HB2 := Aside0.mk hb2; clear hb2))
              go_ret
              rw [← HE.out]
              exact ⟨rfl, HB.out.trans ((HB1.out.trans (HB2.out.mono HB1.out.size)).mono HB.out.size)⟩
            | true =>
              have HE0 := HX.out
              simp only [Bool.false_eq_true, if_false, hp, if_true] at HE0
              have HE := Aside0.mk HE0
              have HP := Aside0.mk (fun W => part_calls r W)
              simp only [hp] at HP
              clear hp HE0
              go_wp2_with (first | (go_at_call 87; (with_reducible refine (HC.out _).mono ?_); rintro e w1 ⟨rfl, hb1⟩; have HB1 := Aside0.mk hb1; clear hb1) | (go_at_call 124; (with_reducible refine (HP.out _).mono ?_); rintro e w2 ⟨rfl, hb2⟩; have HB2 := Aside0.mk hb2; clear hb2))
              go_roundg k1
              · exact ⟨i + n, false, rfl, rfl, by omega, by omega, by omega, HE, ⟨HB.out.trans ((HB1.out.trans (HB2.out.mono HB1.out.size)).mono HB.out.size)⟩⟩
              · omega
          · simp only [if_true] at hv3
            subst hv3
            cases hp : startB r with
            | false =>
              have HE0 := HX.out
              simp only [Bool.false_eq_true, if_false, if_true, hp] at HE0
              have HE := Aside0.mk HE0
              have HP := Aside0.mk (fun W => start_calls r W)
              simp only [hp] at HP
              clear hp HE0
              go_wp2_with (first | (go_at_call 87; (with_reducible refine (HC.out _).mono ?_); rintro e w1 ⟨rfl, hb1⟩; have HB1 := Aside0.mk hb1; clear hb1) | (go_at_call 153; (with_reducible refine (HP.out _).mono ?_); rintro e w2 ⟨rfl, hb2⟩; have HB2 := Aside0.mk hb2; clear hb2))
              go_ret
              rw [← HE.out]
              exact ⟨rfl, HB.out.trans ((HB1.out.trans (HB2.out.mono HB1.out.size)).mono HB.out.size)⟩
            | true =>
              have HE0 := HX.out
              simp only [hp, if_true] at HE0
              have HE := Aside0.mk HE0
              have HP := Aside0.mk (fun W => start_calls r W)
              simp only [hp] at HP
              clear hp HE0
              go_wp2_with (first | (go_at_call 87; (with_reducible refine (HC.out _).mono ?_); rintro e w1 ⟨rfl, hb1⟩; have HB1 := Aside0.mk hb1; clear hb1) | (go_at_call 153; (with_reducible refine (HP.out _).mono ?_); rintro e w2 ⟨rfl, hb2⟩; have HB2 := Aside0.mk hb2; clear hb2))
              go_roundg k1
              · exact ⟨i + n, false, rfl, rfl, by omega, by omega, by omega, HE, ⟨HB.out.trans ((HB1.out.trans (HB2.out.mono HB1.out.size)).mono HB.out.size)⟩⟩
              · omega
    · have q1 := eq_false hlt
      have hR : R = true := by
        rw [← HL.out]
        cases gk with
        | zero => exact absurd hd (by omega)
        | succ k1 => simp only [nameL]; rw [if_neg hlt]
      have HE := Aside0.mk hR
      clear hR
      subst hv3
      go_wp2_with fail
      all_goals
        go_ret
        rw [HE.out]
        exact ⟨rfl, HB.out⟩
end Go.Proofs.YtffpbhbiamkkpaaDoor.PG
/- tree.named and tree.attrs: may a name be an element's, are attributes right? -/
namespace Go.Proofs.YtffpbhbiamkkpaaDoor.ND
open Go Go.RowKit Go.Proofs.YtffpbhbiamkkpaaDoorW.PrintWords Go.Proofs.YtffpbhbiamkkpaaDoorW.PrintLast Go.Proofs.YtffpbhbiamkkpaaDoorW.PrintMore Go.Maps
open Go.Proofs.YtffpbhbiamkkpaaDoor.PG (signsB nameB signs_calls name_calls)
set_option linter.unusedVariables false
def sXMLNS : List UInt8 := [104, 116, 116, 112, 58, 47, 47, 119, 119, 119, 46, 119, 51, 46, 111, 114, 103, 47, 50, 48, 48, 48, 47, 120, 109, 108, 110, 115, 47]
def namedB (n : Nm) : Bool := nameB n.f1 && signsB n.f0 && !(n.f0.toList == sXMLNS)
set_option maxHeartbeats 2000000 in
set_option maxRecDepth 100000 in
theorem named_calls (n : Nm) (w : World) (hs : n.f0.size ≤ 140737488351232) : Calls Tryd.prog 105 #[.agg #[.string n.f0, .string n.f1]] w fun e w' => e = .returned (.bool (namedB n)) ∧ Below w.heap.size w w' := by
  have hbx := fun (o : Obj) => (Below.refl w.heap.size w).alloc (Nat.le_refl _) o
  have HBX := Aside0.mk hbx
  have H1 := Aside0.mk (fun W => name_calls n.f1 W)
  have H2 := Aside0.mk (fun W => signs_calls n.f0 W hs)
  have hk := fun (W : World) (hb : Below (w.alloc (.cells #[.string n.f0, .string n.f1] 23)).heap.size (w.alloc (.cells #[.string n.f0, .string n.f1] 23)) W) => (show W.heap[w.heap.size]? = some (.cells #[.string n.f0, .string n.f1] 23 (0, 0)) from (hb.block w.heap.size (by simp)).trans (heap_alloc_last w _))
  have HK := Aside0.mk hk
  clear hbx hk
  cases h1 : nameB n.f1 with
  | false =>
    have e : namedB n = false := by unfold namedB; rw [h1]; rfl
    rw [e]
    simp only [h1] at H1
    clear h1 e
    go_enter Tryd.func105, Tryd.ntmps105
    go_wp2_with fail
    refine (H1.out _).mono ?_
    rintro e w1 ⟨rfl, hb1⟩
    have HB1 := Aside0.mk hb1
    clear hb1
    go_wp2_with fail
    go_ret
    exact ⟨rfl, (HBX.out _).trans (HB1.out.mono (HBX.out _).size)⟩
  | true =>
    cases h2 : signsB n.f0 with
    | false =>
      have e : namedB n = false := by unfold namedB; rw [h1, h2]; rfl
      rw [e]
      simp only [h1] at H1
      simp only [h2] at H2
      clear h1 h2 e
      go_enter Tryd.func105, Tryd.ntmps105
      go_wp2_with fail
      refine (H1.out _).mono ?_
      rintro e w1 ⟨rfl, hb1⟩
      have g0 : w1.cell? ⟨w.heap.size, 0, none⟩ = some (.string n.f0) := by rw [Lib.cell_of_heap (HK.out _ hb1)]; rfl
      have HB1 := Aside0.mk hb1
      clear hb1
      go_wp2_with fail
      refine (H2.out _).mono ?_
      rintro e w2 ⟨rfl, hb2⟩
      have HB2 := Aside0.mk hb2
      clear hb2
      go_wp2_with fail
      go_ret
      exact ⟨rfl, (HBX.out _).trans ((HB1.out.trans (HB2.out.mono HB1.out.size)).mono (HBX.out _).size)⟩
    | true =>
      obtain ⟨b, hb⟩ : ∃ b, (n.f0.toList == sXMLNS) = b := ⟨_, rfl⟩
      have e : namedB n = !b := by unfold namedB; rw [h1, h2, hb]; rfl
      rw [e]
      simp only [h1] at H1
      simp only [h2] at H2
      unfold sXMLNS at hb
      clear h1 h2 e
      go_enter Tryd.func105, Tryd.ntmps105
      go_wp2_with fail
      refine (H1.out _).mono ?_
      rintro e w1 ⟨rfl, hb1⟩
      have g0 : w1.cell? ⟨w.heap.size, 0, none⟩ = some (.string n.f0) := by rw [Lib.cell_of_heap (HK.out _ hb1)]; rfl
      have HB1 := Aside0.mk hb1
      clear hb1
      go_wp2_with fail
      refine (H2.out _).mono ?_
      rintro e w2 ⟨rfl, hb2⟩
      have g1 : w2.cell? ⟨w.heap.size, 0, none⟩ = some (.string n.f0) := by rw [Lib.cell_of_heap (HK.out _ (HB1.out.trans (hb2.mono HB1.out.size)))]; rfl
      have HB2 := Aside0.mk hb2
      clear hb2
      go_wp2_with fail
      go_ret
      exact ⟨rfl, (HBX.out _).trans ((HB1.out.trans (HB2.out.mono HB1.out.size)).mono (HBX.out _).size)⟩
def keyA (a : At) : List UInt8 × List UInt8 := (a.f0.f0.data.toList, a.f0.f1.data.toList)
def isXmlns (n : Nm) : Bool := n.f0.toList == [] && n.f1.toList == [120, 109, 108, 110, 115]
def okA (seen : List (List UInt8 × List UInt8)) (a : At) : Bool := namedB a.f0 && (signsB a.f1 && (!isXmlns a.f0 && !decide (keyA a ∈ seen)))
def attrsF : List (List UInt8 × List UInt8) → List At → Bool
  | _, [] => true
  | seen, a :: r => okA seen a && attrsF (seen ++ [keyA a]) r
def attrsB (l : List At) : Bool := attrsF [] l && decide (l.length ≤ 32)
def MB (mb n : Nat) (D : DataW Unit) (w : World) : Prop := w.ownsMap Tryd.prog 23 (plainElem Tryd.prog 4) mb n D
theorem MB.below {mb n : Nat} {D : DataW Unit} {w w' : World} (h : MB mb n D w) (hb : Below w.heap.size w w') : MB mb n D w' := by
  obtain ⟨es, clock, hk, r⟩ := h
  exact ⟨es, clock, (hb.block mb (blk_lt hk)).trans hk, r⟩
theorem MB.lt {mb n : Nat} {D : DataW Unit} {w : World} (h : MB mb n D w) : mb < w.heap.size := World.ownsMap.lt h
theorem MB.put {mb n : Nat} {D : DataW Unit} {w : World} (h : MB mb n D w) (hn : n < maxLen) (x : Nm) (h0 : x.f0.size ≤ maxLen) (h1 : x.f1.size ≤ maxLen) (c : Bool) :
    ∃ w', (Instr.mapUpdate 159 (.map (some mb)) (valN x) (.bool c)).run Tryd.prog w = .ok () w' ∧ MB mb (n + 1) (D.put (klN x) (.lit (.bool c))) w' ∧ w.grownBy w' (some mb) :=
  World.ownsMap.update h keyedN Tryd.underlying159 hn (keyN x h0 h1) (plainElem_bool Tryd.underlying4 c)
theorem MB.look {mb n : Nat} {D : DataW Unit} {w : World} (h : MB mb n D w) (x : Nm) (h0 : x.f0.size ≤ maxLen) (h1 : x.f1.size ≤ maxLen) (c : Bool) (hc : D.atKey (klN x) (.lit (.bool false)) = .lit (.bool c)) :
    (Instr.lookup 159 (.map (some mb)) (valN x) false).run Tryd.prog w = .ok (.bool c) w :=
  Mp.look_bool h keyedN Tryd.underlying159 Tryd.underlying4 (Tryd.zeroValue4 _) (keyN x h0 h1) c hc
/-- How a map of names that have been seen reads. -/
def SeenR (seen : List (List UInt8 × List UInt8)) (D : DataW Unit) : Prop := IsMap D ∧ ∀ x : Nm, x.f0.size ≤ maxLen → x.f1.size ≤ maxLen → D.atKey (klN x) (.lit (.bool false)) = .lit (.bool (decide ((x.f0.data.toList, x.f1.data.toList) ∈ seen)))
theorem SeenR.base : SeenR [] (.map []) := ⟨isMap_empty, fun x _ _ => by simp; rfl⟩
theorem klN_key (x : Nm) : WideAt.IsKeyLit (klN x) := trivial
theorem SeenR.put {seen : List (List UInt8 × List UInt8)} {D : DataW Unit} (h : SeenR seen D) (y : Nm) (h0 : y.f0.size ≤ maxLen) (h1 : y.f1.size ≤ maxLen) : SeenR (seen ++ [(y.f0.data.toList, y.f1.data.toList)]) (D.put (klN y) (.lit (.bool true))) := by
  refine ⟨h.1.put _ _, fun x k0 k1 => ?_⟩
  by_cases e : klN x = klN y
  · obtain ⟨e1, e2⟩ := klN_inj x y ⟨k0, k1⟩ ⟨h0, h1⟩ e
    rw [e, atKey_put_same h.1 (klN_key y), e1, e2]
    simp
  · rw [atKey_put_other e, h.2 x k0 k1]
    have hne : (x.f0.data.toList, x.f1.data.toList) ≠ (y.f0.data.toList, y.f1.data.toList) := fun k => e (by unfold klN; injection k with k1 k2; rw [k1, k2])
    simp [hne]
theorem attrsF_step (l : List At) (j : Nat) (h : j < l.length) : attrsF ((l.take j).map keyA) (l.drop j) = (okA ((l.take j).map keyA) l[j] && attrsF ((l.take (j + 1)).map keyA) (l.drop (j + 1))) := by
  rw [List.drop_eq_getElem_cons h, List.take_add_one, List.getElem?_eq_getElem h, List.map_append]
  rfl
set_option maxHeartbeats 4000000 in
set_option maxRecDepth 100000 in
theorem attrs_calls (A0 : Option Addr) (c0 : Nat) (l : List At) (w : World) (hC : kAt.C w A0 l.length l) (hc : l.length ≤ c0) (hl : l.length ≤ 1000000) (hs : ∀ a ∈ l, a.f0.f0.size ≤ 140737488351232 ∧ a.f0.f1.size ≤ 140737488351232 ∧ a.f1.size ≤ 140737488351232) :
    Calls Tryd.prog 106 #[.slice A0 l.length c0] w fun e w' => e = .returned (.bool (attrsB l)) ∧ Below w.heap.size w w' := by
  have HC := Aside0.mk hC
  have HS := Aside0.mk hs
  have hmm := @run_makeMap Tryd.prog
  obtain ⟨R, hR⟩ : ∃ R, R = attrsF [] l := ⟨_, rfl⟩
  have e : attrsB l = (R && decide (l.length ≤ 32)) := by rw [hR]; rfl
  rw [e]
  have HR := Aside0.mk hR
  have m0 : MB w.heap.size 0 (.map []) (w.alloc (.map #[] 0)) := World.ownsMap_made w Tryd.prog 23 (plainElem Tryd.prog 4)
  have M0 := Aside0.mk m0
  have hb0 : Below w.heap.size w (w.alloc (.map #[] 0)) := (Below.refl _ _).alloc (Nat.le_refl _) _
  have HB0 := Aside0.mk hb0
  clear hC hs hR e m0 hb0
  go_enter Tryd.func106, Tryd.ntmps106
  go_wp2_with fail
  go_loopg [9] l.length (fun m v9 wr => ∃ j : Nat, v9 = .int .i64 (j : Int) ∧ j ≤ l.length ∧ Aside0 (m = l.length - j) ∧ ∃ D, Aside0 (MB w.heap.size j D wr ∧ SeenR ((l.take j).map keyA) D ∧ Below w.heap.size w wr ∧ attrsF ((l.take j).map keyA) (l.drop j) = R))
  case atStart => exact ⟨0, rfl, Nat.zero_le _, ⟨rfl⟩, _, ⟨M0.out, SeenR.base, HB0.out, HR.out.symm⟩⟩
  case round =>
    obtain ⟨j, rfl, hj, HM, D, HI⟩ := hrel
    by_cases hlt : j < l.length
    · obtain ⟨hm, hsr, hb, hres⟩ := HI.out
      obtain ⟨ad, eA, k0, k1, k2⟩ := atAt HC.out (j : Int) (by omega) (by omega)
      have q1 := eq_true (show (j : Int) < (l.length : Int) by omega)
      have q2 := eq_true (show (0 : Int) ≤ (j : Int) by omega)
      obtain ⟨a, ha⟩ : ∃ a, a = rdAt l (j : Int) := ⟨_, rfl⟩
      rw [← ha] at k0 k1 k2
      simp only [Int.toNat_natCast] at k0 k1 k2
      have k0 := pw_cell_below hb k0
      have k1 := pw_cell_below hb k1
      have k2 := pw_cell_below hb k2
      have hda : a = l[j] := by rw [ha]; simp [rdAt, hlt]
      obtain ⟨s0, s1, s2⟩ := HS.out a (by rw [hda]; exact List.getElem_mem _)
      clear ha
      subst eA
      obtain ⟨i, hi⟩ : ∃ i, i = j + 1 := ⟨_, rfl⟩
      have f1 : (j : Int) + 1 = (i : Int) := by omega
      have f2 : IntKind.i64.wrap (i : Int) = (i : Int) := IntWalk.i64_in _ (by omega)
      have hst : (okA ((l.take j).map keyA) a && attrsF ((l.take i).map keyA) (l.drop i)) = R := by
        rw [← hres, attrsF_step l j hlt, hda, hi]
      have e1 : (l.take i).map keyA = (l.take j).map keyA ++ [keyA a] := by rw [hi, List.take_add_one, List.getElem?_eq_getElem hlt, hda, List.map_append]; rfl
      have HST := Aside0.mk hst
      have HE1 := Aside0.mk e1
      have HI' := Aside0.mk hi
      have HN := Aside0.mk (fun W => named_calls a.f0 W s0)
      have HG := Aside0.mk (fun W => signs_calls a.f1 W s2)
      have hA1 : Below wr.heap.size wr (wr.alloc (.cells #[.string a.f0.f0, .string a.f0.f1, .string a.f1] 63)) := (Below.refl _ _).alloc (Nat.le_refl _) _
      have HA1 := Aside0.mk hA1
      clear hm hsr hb hres hda hi hst e1 hA1
      cases hn : namedB a.f0 with
      | false =>
        have hRf : R = false := by rw [← HST.out]; unfold okA; rw [hn]; rfl
        simp only [hn] at HN
        have HRF := Aside0.mk hRf
        clear hn hRf
        go_wp2_with fail
        refine (HN.out _).mono ?_
        rintro e w1 ⟨rfl, hb1⟩
        have HB1 := Aside0.mk hb1
        clear hb1
        go_wp2_with fail
        go_ret
        rw [HRF.out]
        exact ⟨rfl, HI.out.2.2.1.trans ((HA1.out.trans (HB1.out.mono HA1.out.size)).mono HI.out.2.2.1.size)⟩
      | true =>
        simp only [hn] at HN
        have hblk := heap_alloc_last wr (.cells #[.string a.f0.f0, .string a.f0.f1, .string a.f1] 63)
        have HBL := Aside0.mk hblk
        clear hblk
        cases hg : signsB a.f1 with
        | false =>
          have hRf : R = false := by rw [← HST.out]; unfold okA; rw [hn, hg]; rfl
          simp only [hg] at HG
          have HRF := Aside0.mk hRf
          clear hn hg hRf
          go_wp2_with fail
          refine (HN.out _).mono ?_
          rintro e w1 ⟨rfl, hb1⟩
          have hk1 := (hb1.block wr.heap.size (by simp)).trans HBL.out
          have g2 : w1.cell? ⟨wr.heap.size, 2, none⟩ = some (.string a.f1) := by rw [Lib.cell_of_heap hk1]; rfl
          have HB1 := Aside0.mk hb1
          clear hb1 hk1
          go_wp2_with fail
          refine (HG.out _).mono ?_
          rintro e w2 ⟨rfl, hb2⟩
          have HB2 := Aside0.mk hb2
          clear hb2
          go_wp2_with fail
          go_ret
          rw [HRF.out]
          exact ⟨rfl, HI.out.2.2.1.trans ((HA1.out.trans ((HB1.out.trans (HB2.out.mono HB1.out.size)).mono HA1.out.size)).mono HI.out.2.2.1.size)⟩
        | true =>
          simp only [hg] at HG
          go_wp2_with fail
          refine (HN.out _).mono ?_
          rintro e w1 ⟨rfl, hb1⟩
          have hk1 := (hb1.block wr.heap.size (by simp)).trans HBL.out
          have g2 : w1.cell? ⟨wr.heap.size, 2, none⟩ = some (.string a.f1) := by rw [Lib.cell_of_heap hk1]; rfl
          have HB1 := Aside0.mk hb1
          have HK1 := Aside0.mk hk1
          clear hb1 hk1
          go_wp2_with fail
          refine (HG.out _).mono ?_
          rintro e w2 ⟨rfl, hb2⟩
          have hk2 := (hb2.block wr.heap.size (blk_lt HK1.out)).trans HK1.out
          have g0 : w2.cell? ⟨wr.heap.size, 0, none⟩ = some (.string a.f0.f0) := by rw [Lib.cell_of_heap hk2]; rfl
          have g1 : w2.cell? ⟨wr.heap.size, 1, none⟩ = some (.string a.f0.f1) := by rw [Lib.cell_of_heap hk2]; rfl
          have HB2 := Aside0.mk hb2
          clear hb2 hk2 g2
          have hb4 : Below wr.heap.size wr w2 := HA1.out.trans ((HB1.out.trans (HB2.out.mono HB1.out.size)).mono HA1.out.size)
          have HB4 := Aside0.mk hb4
          obtain ⟨cs, hcs⟩ : ∃ cs, cs = decide (keyA a ∈ (l.take j).map keyA) := ⟨_, rfl⟩
          have hlk := (HI.out.1.below hb4).look a.f0 (by unfold maxLen; omega) (by unfold maxLen; omega) cs (by rw [hcs]; exact HI.out.2.1.2 a.f0 (by unfold maxLen; omega) (by unfold maxLen; omega))
          unfold valN at hlk
          have HCS := Aside0.mk hcs
          clear hcs hb4
          by_cases p1 : a.f0.f0.toList = []
          · by_cases p2 : a.f0.f1.toList = [120, 109, 108, 110, 115]
            · have hRf : R = false := by rw [← HST.out]; unfold okA isXmlns; rw [hn, hg, p1, p2]; rfl
              have HRF := Aside0.mk hRf
              clear hn hg hRf hlk
              go_wp2_with fail
              go_ret
              rw [HRF.out]
              exact ⟨rfl, HI.out.2.2.1.trans (HB4.out.mono HI.out.2.2.1.size)⟩
            · have hx : isXmlns a.f0 = false := by unfold isXmlns; rw [p1]; simpa using p2
              have q3 := eq_true p1
              have q4 := eq_false p2
              clear p1 p2
              cases cs with
              | true =>
                have hRf : R = false := by
                  rw [← HST.out]
                  unfold okA
                  rw [hn, hg, hx, ← HCS.out]
                  rfl
                have HRF := Aside0.mk hRf
                clear hn hg hRf
                go_wp2_with fail
                go_ret
                rw [HRF.out]
                exact ⟨rfl, HI.out.2.2.1.trans (HB4.out.mono HI.out.2.2.1.size)⟩
              | false =>
                have hRf : attrsF ((l.take i).map keyA) (l.drop i) = R := by
                  rw [← HST.out]
                  unfold okA
                  rw [hn, hg, hx, ← HCS.out]
                  rfl
                obtain ⟨w3, hr3, o3, g3⟩ := (HI.out.1.below HB4.out).put (by unfold maxLen; omega) a.f0 (by unfold maxLen; omega) (by unfold maxLen; omega) true
                unfold valN at hr3
                have HRF := Aside0.mk hRf
                have HO3 := Aside0.mk o3
                have HG3 := Aside0.mk g3
                clear hn hg hx hRf o3 g3
                go_wp2_with fail
                go_roundg (l.length - i)
                · refine ⟨i, rfl, by have := HI'.out; omega, ⟨rfl⟩, D.put (klN a.f0) (.lit (.bool true)), ⟨?_, ?_, ?_, HRF.out⟩⟩
                  · rw [HI'.out]; exact HO3.out
                  · rw [HE1.out]; exact HI.out.2.1.put a.f0 (by unfold maxLen; omega) (by unfold maxLen; omega)
                  · exact (HI.out.2.2.1.trans (HB4.out.mono HI.out.2.2.1.size)).grown HG3.out (Nat.le_trans HI.out.2.2.1.size HB4.out.size) (fun k hk => by cases hk; exact Nat.le_refl _)
                · have := HI'.out; have := HM.out; omega
          · have hx : isXmlns a.f0 = false := by
              have : (a.f0.f0.toList == ([] : List UInt8)) = false := by simpa using p1
              unfold isXmlns
              rw [this]
              rfl
            have q3 := eq_false p1
            clear p1
            cases cs with
            | true =>
              have hRf : R = false := by
                rw [← HST.out]
                unfold okA
                rw [hn, hg, hx, ← HCS.out]
                rfl
              have HRF := Aside0.mk hRf
              clear hn hg hRf
              go_wp2_with fail
              go_ret
              rw [HRF.out]
              exact ⟨rfl, HI.out.2.2.1.trans (HB4.out.mono HI.out.2.2.1.size)⟩
            | false =>
              have hRf : attrsF ((l.take i).map keyA) (l.drop i) = R := by
                rw [← HST.out]
                unfold okA
                rw [hn, hg, hx, ← HCS.out]
                rfl
              obtain ⟨w3, hr3, o3, g3⟩ := (HI.out.1.below HB4.out).put (by unfold maxLen; omega) a.f0 (by unfold maxLen; omega) (by unfold maxLen; omega) true
              unfold valN at hr3
              have HRF := Aside0.mk hRf
              have HO3 := Aside0.mk o3
              have HG3 := Aside0.mk g3
              clear hn hg hx hRf o3 g3
              go_wp2_with fail
              go_roundg (l.length - i)
              · refine ⟨i, rfl, by have := HI'.out; omega, ⟨rfl⟩, D.put (klN a.f0) (.lit (.bool true)), ⟨?_, ?_, ?_, HRF.out⟩⟩
                · rw [HI'.out]; exact HO3.out
                · rw [HE1.out]; exact HI.out.2.1.put a.f0 (by unfold maxLen; omega) (by unfold maxLen; omega)
                · exact (HI.out.2.2.1.trans (HB4.out.mono HI.out.2.2.1.size)).grown HG3.out (Nat.le_trans HI.out.2.2.1.size HB4.out.size) (fun k hk => by cases hk; exact Nat.le_refl _)
              · have := HI'.out; have := HM.out; omega
    · have q1 := eq_false (show ¬ (j : Int) < (l.length : Int) by omega)
      obtain rfl : j = l.length := by omega
      have hR : R = true := by
        rw [← HI.out.2.2.2, List.drop_length]
        rfl
      have HRF := Aside0.mk hR
      clear hR
      go_wp2_with fail
      go_ret
      rw [HRF.out]
      have e5 : (decide ((l.length : Int) ≤ 32)) = decide (l.length ≤ 32) := by congr 1; exact propext ⟨fun h => by omega, fun h => by omega⟩
      exact ⟨by simp only [Bool.true_and, ← e5]; rfl, HI.out.2.2.1⟩
end Go.Proofs.YtffpbhbiamkkpaaDoor.ND
/- tree.right and tree.Right: is it a right tree? By induction on how much the tree is. -/
namespace Go.Proofs.YtffpbhbiamkkpaaDoor.ND
open Go Go.RowKit Go.Proofs.YtffpbhbiamkkpaaDoorW.PrintWords Go.Proofs.YtffpbhbiamkkpaaDoorW.PrintLast Go.Proofs.YtffpbhbiamkkpaaDoorW.PrintMore Go.Maps
open Go.Proofs.YtffpbhbiamkkpaaDoor.PG (signsB nameB signs_calls name_calls)
open Go.Proofs.YtffpbhbiamkkpaaDoor.Prt (wt wts okN okNs)
set_option linter.unusedVariables false
theorem wts_len : ∀ l : List Nd, l.length ≤ wts l
  | [] => by simp
  | d :: r => by
    have := wts_len r
    have : 1 ≤ wt d := by obtain ⟨k, nm, t, c, x⟩ := d; unfold wt; omega
    simp only [Prt.wts, List.length_cons]
    omega
mutual
def rightN : Nd → Int → Bool → Int → Bool × Int
  | ⟨k, nm, t, c, x⟩, deep, text, left =>
    if left - 1 < 0 then (false, left - 1)
    else if k = 2 then (!text && (!(x.toList == []) && (signsB x && ((nm.f0.toList == [] && nm.f1.toList == []) && decide (t.length + c.length = 0)))), left - 1)
    else if k = 1 ∧ deep ≤ 24 ∧ x.toList = [] ∧ namedB nm = true ∧ attrsB t = true then rightNs c (deep + 1) false (left - 1) else (false, left - 1)
def rightNs : List Nd → Int → Bool → Int → Bool × Int
  | [], _, _, left => (true, left)
  | d :: r, deep, behind, left => if (rightN d deep behind left).1 = true then rightNs r deep (decide (d.f0 = 2)) (rightN d deep behind left).2 else (false, (rightN d deep behind left).2)
end
mutual
theorem rightN_left : ∀ (n : Nd) (deep : Int) (text : Bool) (left : Int), 0 ≤ left → -1 ≤ (rightN n deep text left).2 ∧ (rightN n deep text left).2 ≤ left ∧ ((rightN n deep text left).1 = true → 0 ≤ (rightN n deep text left).2)
  | ⟨k, nm, t, c, x⟩, deep, text, left, h => by
    unfold rightN
    by_cases h1 : left - 1 < 0
    · rw [if_pos h1]; exact ⟨by show -1 ≤ left - 1; omega, by show left - 1 ≤ left; omega, fun h => by cases h⟩
    rw [if_neg h1]
    by_cases h2 : k = 2
    · rw [if_pos h2]; exact ⟨by show -1 ≤ left - 1; omega, by show left - 1 ≤ left; omega, fun h => by show 0 ≤ left - 1; omega⟩
    rw [if_neg h2]
    by_cases h3 : k = 1 ∧ deep ≤ 24 ∧ x.toList = [] ∧ namedB nm = true ∧ attrsB t = true
    · rw [if_pos h3]
      have := rightNs_left c (deep + 1) false (left - 1) (by omega)
      exact ⟨this.1, by omega, this.2.2⟩
    · rw [if_neg h3]; exact ⟨by show -1 ≤ left - 1; omega, by show left - 1 ≤ left; omega, fun h => by cases h⟩
theorem rightNs_left : ∀ (l : List Nd) (deep : Int) (b : Bool) (left : Int), 0 ≤ left → -1 ≤ (rightNs l deep b left).2 ∧ (rightNs l deep b left).2 ≤ left ∧ ((rightNs l deep b left).1 = true → 0 ≤ (rightNs l deep b left).2)
  | [], deep, b, left, h => by unfold rightNs; exact ⟨by show -1 ≤ left; omega, Int.le_refl _, fun _ => h⟩
  | d :: r, deep, b, left, h => by
    have h1 := rightN_left d deep b left h
    unfold rightNs
    by_cases h2 : (rightN d deep b left).1 = true
    · rw [if_pos h2]
      have := rightNs_left r deep (decide (d.f0 = 2)) _ (h1.2.2 h2)
      exact ⟨this.1, by omega, this.2.2⟩
    · rw [if_neg h2]; exact ⟨h1.1, h1.2.1, fun h => by cases h⟩
end
/-- All but block p is as it was. -/
def FrP (p : Nat) (w w' : World) : Prop := ∀ k o, k ≠ p → w.heap[k]? = some o → w'.heap[k]? = some o
theorem FrP.refl (p : Nat) (w : World) : FrP p w w := fun _ _ _ h => h
theorem FrP.trans {p : Nat} {w w1 w2 : World} (h : FrP p w w1) (k : FrP p w1 w2) : FrP p w w2 := fun i o h1 h2 => k i o h1 (h i o h1 h2)
theorem FrP.below {p : Nat} {w w' : World} (h : Below w.heap.size w w') : FrP p w w' := fun i o _ h3 => (h.block i (blk_lt h3)).trans h3
theorem FrP.alloc {p : Nat} {w w' : World} (h : FrP p w w') (o : Obj) : FrP p w (w'.alloc o) := h.trans (FrP.below ((Below.refl _ _).alloc (Nat.le_refl _) o))
theorem FrP.set {p : Nat} {w w' : World} (h : FrP p w w') (u : Value) : FrP p w (w'.setCell ⟨p, 0, none⟩ u) := fun i o h1 h2 => (Below.heap_setCell w' ⟨p, 0, none⟩ u i h1).trans (h i o h1 h2)
theorem step_world (p : Nat) (w0 w : World) (left l' : Int) (bx : Array Value) (hb : Below w0.heap.size w0 w) (hp : w0.heap.size ≤ p) (hk : w.heap[p]? = some (.cells #[.int .i64 left] 3 (0, 0))) :
    ((w.setCell ⟨p, 0, none⟩ (.int .i64 l')).alloc (.cells bx 27)).heap[p]? = some (.cells #[.int .i64 l'] 3 (0, 0)) ∧ Below w0.heap.size w0 ((w.setCell ⟨p, 0, none⟩ (.int .i64 l')).alloc (.cells bx 27)) ∧
    FrP p w ((w.setCell ⟨p, 0, none⟩ (.int .i64 l')).alloc (.cells bx 27)) ∧ ((w.setCell ⟨p, 0, none⟩ (.int .i64 l')).alloc (.cells bx 27)).heap[w.heap.size]? = some (.cells bx 27 (0, 0)) := by
  have h1 : (w.setCell ⟨p, 0, none⟩ (.int .i64 l')).heap[p]? = some (.cells #[.int .i64 l'] 3 (0, 0)) := blk_set hk 0 _
  have hs : (w.setCell ⟨p, 0, none⟩ (.int .i64 l')).heap.size = w.heap.size := by simp
  have hb1 := hb.setCell (p := ⟨p, 0, none⟩) hp (.int .i64 l')
  refine ⟨(((Below.refl _ _).alloc (Nat.le_refl _) _).block p (blk_lt h1)).trans h1, hb1.alloc hb1.size _, ((FrP.refl p w).set _).alloc _, ?_⟩
  have h := heap_alloc_last (w.setCell ⟨p, 0, none⟩ (.int .i64 l')) (.cells bx 27)
  rw [hs] at h
  exact h
def RightSaid (p : Nat) (w0 : World) (n : Nd) : Prop := ∀ (deep : Int) (text : Bool) (left : Int) (w : World) (A3 A4 : Option Addr) (c3 c4 : Nat), 0 ≤ deep → deep ≤ 25 → 0 ≤ left → left ≤ 5000 → Below w0.heap.size w0 w → w0.heap.size ≤ p → w.heap[p]? = some (.cells #[.int .i64 left] 3 (0, 0)) →
  kAt.C w0 A3 n.f2.length n.f2 → n.f2.length ≤ c3 → kNd.C w0 A4 n.f3.length n.f3 → n.f3.length ≤ c4 →
  Calls Tryd.prog 65 #[.agg #[.int .i64 n.f0, .string n.f1.f0, .string n.f1.f1, .slice A3 n.f2.length c3, .slice A4 n.f3.length c4, .string n.f4], .int .i64 deep, .bool text, .pointer (some ⟨p, 0, none⟩)] w fun e w' =>
    e = .returned (.bool (rightN n deep text left).1) ∧ w'.heap[p]? = some (.cells #[.int .i64 (rightN n deep text left).2] 3 (0, 0)) ∧ Below w0.heap.size w0 w' ∧ FrP p w w'
set_option maxHeartbeats 4000000 in
set_option maxRecDepth 100000 in
theorem right_step (p : Nat) (w0 : World) (n : Nd) (hw : wt n ≤ 1000000) (ih : ∀ d : Nd, wt d < wt n → RightSaid p w0 d) : RightSaid p w0 n := by
  intro deep text left w A3 A4 c3 c4 hd0 hd1 hl0 hl1 hb hp hk h3 l3 h4 l4
  obtain ⟨k, nm, at', kids, x⟩ := n
  dsimp only at *
  have hwt : wt ⟨k, nm, at', kids, x⟩ = 1 + nm.f0.size + nm.f1.size + Prt.wAs at' + wts kids + x.size := by unfold wt; rfl
  have hpw := blk_lt hk
  have g0 : w.cell? ⟨p, 0, none⟩ = some (.int .i64 left) := by rw [blk_cell hk]; rfl
  have g1 : w.frozen? ⟨p, 0, none⟩ = false := blk_frozen hk 0
  obtain ⟨l', hl'⟩ : ∃ l', l' = left - 1 := ⟨_, rfl⟩
  have f1 : left - 1 = l' := hl'.symm
  have f2 : IntKind.i64.wrap l' = l' := IntWalk.i64_in _ (by omega)
  have hlb : -1 ≤ l' ∧ l' ≤ 5000 := by omega
  have HB := Aside0.mk hb
  have HK := Aside0.mk hk
  have H3 := Aside0.mk h3
  have H4 := Aside0.mk h4
  have HIH := Aside0.mk ih
  have HW := Aside0.mk hwt
  have HL := Aside0.mk hl'
  obtain ⟨K1, B1, F1, X1⟩ := step_world p w0 w left l' #[.int .i64 k, .string nm.f0, .string nm.f1, .slice A3 at'.length c3, .slice A4 kids.length c4, .string x] hb hp hk
  have HK1 := Aside0.mk K1
  have HB1 := Aside0.mk B1
  have HF1 := Aside0.mk F1
  have HX1 := Aside0.mk X1
  clear hb hk h3 h4 ih hwt hl' K1 B1 F1 X1
  by_cases hneg : l' < 0
  · have q0 := eq_true hneg
    have e : rightN ⟨k, nm, at', kids, x⟩ deep text left = (false, l') := by unfold rightN; rw [← HL.out, if_pos hneg]
    rw [e]
    clear e hneg
    go_enter Tryd.func65, Tryd.ntmps65
    go_wp2_with fail
    go_ret
    exact ⟨rfl, HK1.out, HB1.out, HF1.out⟩
  have q0 := eq_false hneg
  have hl00 : 0 ≤ l' := by omega
  have hxs : x.size ≤ 140737488351232 := by have := HW.out; omega
  have hns : nm.f0.size ≤ 140737488351232 := by have := HW.out; omega
  have hal : at'.length ≤ 1000000 := by have := HW.out; have := Prt.wAs_len at'; omega
  have hkl : kids.length ≤ 1000000 := by have := HW.out; have := wts_len kids; omega
  have HG := Aside0.mk (fun W => signs_calls x W hxs)
  by_cases hk2 : k = 2
  · subst hk2
    have e : rightN ⟨2, nm, at', kids, x⟩ deep text left = (!text && (!(x.toList == []) && (signsB x && ((nm.f0.toList == [] && nm.f1.toList == []) && decide (at'.length + kids.length = 0)))), l') := by unfold rightN; rw [← HL.out, if_neg hneg, if_pos rfl]
    rw [e]
    clear e hneg
    cases text with
    | true =>
      go_enter Tryd.func65, Tryd.ntmps65
      go_wp2_with fail
      go_ret
      exact ⟨rfl, HK1.out, HB1.out, HF1.out⟩
    | false =>
      by_cases hx : x.toList = []
      · have q1 := eq_true hx
        have q2 : (x.toList.isEmpty) = true := by rw [hx]; rfl
        go_enter Tryd.func65, Tryd.ntmps65
        go_wp2_with fail
        go_ret
        refine ⟨?_, HK1.out, HB1.out, HF1.out⟩
        rw [hx]
        rfl
      · have q1 := eq_false hx
        have q2 : (x.toList.isEmpty) = false := by simpa using hx
        have q3 : (x.toList == []) = false := by simpa using hx
        have HQ := Aside0.mk q3
        clear hx q3
        go_enter Tryd.func65, Tryd.ntmps65
        go_wp2_with fail
        refine (HG.out _).mono ?_
        rintro e w1 ⟨rfl, hb1⟩
        have hX := (hb1.block w.heap.size (blk_lt HX1.out)).trans HX1.out
        have g2 : w1.cell? ⟨w.heap.size, 1, none⟩ = some (.string nm.f0) := by rw [Lib.cell_of_heap hX]; rfl
        have g3 : w1.cell? ⟨w.heap.size, 2, none⟩ = some (.string nm.f1) := by rw [Lib.cell_of_heap hX]; rfl
        have g4 : w1.cell? ⟨w.heap.size, 3, none⟩ = some (.slice A3 at'.length c3) := by rw [Lib.cell_of_heap hX]; rfl
        have g5 : w1.cell? ⟨w.heap.size, 4, none⟩ = some (.slice A4 kids.length c4) := by rw [Lib.cell_of_heap hX]; rfl
        have HK2 := Aside0.mk ((hb1.block p (blk_lt HK1.out)).trans HK1.out)
        have HB2 := Aside0.mk (HB1.out.trans (hb1.mono HB1.out.size))
        have HF2 := Aside0.mk (HF1.out.trans (FrP.below hb1))
        clear hb1 hX
        have hz : (!(false : Bool) && (!(x.toList == []) && (signsB x && ((nm.f0.toList == [] && nm.f1.toList == []) && decide (at'.length + kids.length = 0))))) = (signsB x && ((nm.f0.toList == [] && nm.f1.toList == []) && decide (at'.length + kids.length = 0))) := by rw [HQ.out]; simp
        have HZ := Aside0.mk hz
        clear hz
        cases hs : signsB x with
        | false =>
          have HS := Aside0.mk hs
          clear hs
          go_wp2_with fail
          go_ret
          exact ⟨by rw [HQ.out, HS.out]; rfl, HK2.out, HB2.out, HF2.out⟩
        | true =>
          have HS := Aside0.mk hs
          clear hs
          by_cases p1 : nm.f0.toList = []
          · have r1 := eq_true p1
            by_cases p2 : nm.f1.toList = []
            · have r2 := eq_true p2
              have hP1 := Aside0.mk p1
              have hP2 := Aside0.mk p2
              clear p1 p2
              by_cases p3 : at'.length + kids.length = 0
              · have ha : at' = [] := List.length_eq_zero_iff.1 (by omega)
                have hc : kids = [] := List.length_eq_zero_iff.1 (by omega)
                subst ha hc
                go_wp2_with fail
                go_ret
                exact ⟨by rw [HQ.out, HS.out, hP1.out, hP2.out]; rfl, HK2.out, HB2.out, HF2.out⟩
              · have r3 : ((at'.length : Int) + (kids.length : Int) == 0) = false := by
                  have : ¬ ((at'.length : Int) + (kids.length : Int) = 0) := by omega
                  simpa using this
                have hP3 := Aside0.mk p3
                clear p3
                go_wp2_with fail
                go_ret
                exact ⟨by rw [HQ.out, HS.out, hP1.out, hP2.out, decide_eq_false hP3.out]; rfl, HK2.out, HB2.out, HF2.out⟩
            · have r2 := eq_false p2
              have hP1 := Aside0.mk p1
              have hP2 := Aside0.mk (show (nm.f1.toList == []) = false by simpa using p2)
              clear p1 p2
              go_wp2_with fail
              go_ret
              exact ⟨by rw [HQ.out, HS.out, hP1.out, hP2.out]; rfl, HK2.out, HB2.out, HF2.out⟩
          · have r1 := eq_false p1
            have hP1 := Aside0.mk (show (nm.f0.toList == []) = false by simpa using p1)
            clear p1
            go_wp2_with fail
            go_ret
            exact ⟨by rw [HQ.out, HS.out, hP1.out]; rfl, HK2.out, HB2.out, HF2.out⟩
  · have r0 : (k == 2) = false := by simpa using hk2
    have hno : ¬ (k = 1 ∧ deep ≤ 24 ∧ x.toList = [] ∧ namedB nm = true ∧ attrsB at' = true) → rightN ⟨k, nm, at', kids, x⟩ deep text left = (false, l') := fun h => by unfold rightN; rw [← HL.out, if_neg hneg, if_neg hk2, if_neg h]
    have hyes : (k = 1 ∧ deep ≤ 24 ∧ x.toList = [] ∧ namedB nm = true ∧ attrsB at' = true) → rightN ⟨k, nm, at', kids, x⟩ deep text left = rightNs kids (deep + 1) false l' := fun h => by unfold rightN; rw [← HL.out, if_neg hneg, if_neg hk2, if_pos h]
    clear hneg hk2
    by_cases p1 : k = 1
    rotate_left 1
    · rw [hno (fun h => p1 h.1)]
      have r1 : (k == 1) = false := by simpa using p1
      have r1' : (k != 1) = true := by simpa using p1
      clear hno hyes p1
      go_enter Tryd.func65, Tryd.ntmps65
      go_wp2_with fail
      go_ret
      exact ⟨rfl, HK1.out, HB1.out, HF1.out⟩
    subst p1
    clear r0
    by_cases p2 : deep ≤ 24
    rotate_left 1
    · rw [hno (fun h => p2 h.2.1)]
      have r1 := eq_true (show 24 < deep by omega)
      clear hno hyes p2
      go_enter Tryd.func65, Tryd.ntmps65
      go_wp2_with fail
      go_ret
      exact ⟨rfl, HK1.out, HB1.out, HF1.out⟩
    have r2 := eq_false (show ¬ 24 < deep by omega)
    by_cases p3 : x.toList = []
    rotate_left 1
    · rw [hno (fun h => p3 h.2.2.1)]
      have q1 := eq_false p3
      have q2 : (x.toList.isEmpty) = false := by simpa using p3
      clear hno hyes p3
      go_enter Tryd.func65, Tryd.ntmps65
      go_wp2_with fail
      go_ret
      exact ⟨rfl, HK1.out, HB1.out, HF1.out⟩
    have q1 := eq_true p3
    have q2 : (x.toList.isEmpty) = true := by rw [p3]; rfl
    have HN := Aside0.mk (fun W => named_calls nm W hns)
    cases p4 : namedB nm with
    | false =>
      rw [hno (fun h => by rw [p4] at h; exact absurd h.2.2.2.1 (by decide))]
      simp only [p4] at HN
      clear hno hyes p3 p4
      go_enter Tryd.func65, Tryd.ntmps65
      go_wp2_with fail
      refine (HN.out _).mono ?_
      rintro e w1 ⟨rfl, hb1⟩
      have HK2 := Aside0.mk ((hb1.block p (blk_lt HK1.out)).trans HK1.out)
      have HB2 := Aside0.mk (HB1.out.trans (hb1.mono HB1.out.size))
      have HF2 := Aside0.mk (HF1.out.trans (FrP.below hb1))
      clear hb1
      go_wp2_with fail
      go_ret
      exact ⟨rfl, HK2.out, HB2.out, HF2.out⟩
    | true =>
      simp only [p4] at HN
      have hws : ∀ a ∈ at', a.f0.f0.size ≤ 140737488351232 ∧ a.f0.f1.size ≤ 140737488351232 ∧ a.f1.size ≤ 140737488351232 := fun a ha => by
        have h1 := Prt.wAs_mem ha
        have h2 := HW.out
        unfold Prt.wA at h1
        omega
      have HA := Aside0.mk (fun W hC => attrs_calls A3 c3 at' W hC l3 hal hws)
      cases p5 : attrsB at' with
      | false =>
        rw [hno (fun h => by rw [p5] at h; exact absurd h.2.2.2.2 (by decide))]
        simp only [p5] at HA
        clear hno hyes p3 p4 p5 hws
        go_enter Tryd.func65, Tryd.ntmps65
        go_wp2_with fail
        refine (HN.out _).mono ?_
        rintro e w1 ⟨rfl, hb1⟩
        have hX := (hb1.block w.heap.size (blk_lt HX1.out)).trans HX1.out
        have g4 : w1.cell? ⟨w.heap.size, 3, none⟩ = some (.slice A3 at'.length c3) := by rw [Lib.cell_of_heap hX]; rfl
        have HK2 := Aside0.mk ((hb1.block p (blk_lt HK1.out)).trans HK1.out)
        have HB2 := Aside0.mk (HB1.out.trans (hb1.mono HB1.out.size))
        have HF2 := Aside0.mk (HF1.out.trans (FrP.below hb1))
        clear hb1 hX
        go_wp2_with fail
        refine (HA.out _ (Kd.C_below H3.out HB2.out)).mono ?_
        rintro e w2 ⟨rfl, hb2⟩
        have HK3 := Aside0.mk ((hb2.block p (blk_lt HK2.out)).trans HK2.out)
        have HB3 := Aside0.mk (HB2.out.trans (hb2.mono HB2.out.size))
        have HF3 := Aside0.mk (HF2.out.trans (FrP.below hb2))
        clear hb2
        go_wp2_with fail
        go_ret
        exact ⟨rfl, HK3.out, HB3.out, HF3.out⟩
      | true =>
        rw [hyes ⟨rfl, p2, p3, p4, p5⟩]
        simp only [p5] at HA
        obtain ⟨R, hR⟩ : ∃ R, R = rightNs kids (deep + 1) false l' := ⟨_, rfl⟩
        rw [← hR]
        have HR := Aside0.mk hR
        obtain ⟨dp, hdp⟩ : ∃ dp, dp = deep + 1 := ⟨_, rfl⟩
        have f5 : deep + 1 = dp := hdp.symm
        have f6 : IntKind.i64.wrap dp = dp := IntWalk.i64_in _ (by omega)
        have hdp2 : 0 ≤ dp ∧ dp ≤ 25 := by omega
        have HDP := Aside0.mk hdp
        clear hno hyes p3 p4 p5 hws hR hdp
        go_enter Tryd.func65, Tryd.ntmps65
        go_wp2_with fail
        refine (HN.out _).mono ?_
        rintro e w1 ⟨rfl, hb1⟩
        have hX := (hb1.block w.heap.size (blk_lt HX1.out)).trans HX1.out
        have g4 : w1.cell? ⟨w.heap.size, 3, none⟩ = some (.slice A3 at'.length c3) := by rw [Lib.cell_of_heap hX]; rfl
        have HX2 := Aside0.mk hX
        have HK2 := Aside0.mk ((hb1.block p (blk_lt HK1.out)).trans HK1.out)
        have HB2 := Aside0.mk (HB1.out.trans (hb1.mono HB1.out.size))
        have HF2 := Aside0.mk (HF1.out.trans (FrP.below hb1))
        clear hb1 hX
        go_wp2_with fail
        refine (HA.out _ (Kd.C_below H3.out HB2.out)).mono ?_
        rintro e w2 ⟨rfl, hb2⟩
        have hX := (hb2.block w.heap.size (blk_lt HX2.out)).trans HX2.out
        have g5 : w2.cell? ⟨w.heap.size, 4, none⟩ = some (.slice A4 kids.length c4) := by rw [Lib.cell_of_heap hX]; rfl
        have HK3 := Aside0.mk ((hb2.block p (blk_lt HK2.out)).trans HK2.out)
        have HB3 := Aside0.mk (HB2.out.trans (hb2.mono HB2.out.size))
        have HF3 := Aside0.mk (HF2.out.trans (FrP.below hb2))
        clear hb2 hX g4
        go_wp2_with fail
        go_loopg [9, 82] kids.length (fun m v9 v82 wr => ∃ (j : Nat) (bh : Bool) (lf : Int), v82 = .int .i64 (j : Int) ∧ v9 = .bool bh ∧ j ≤ kids.length ∧ 0 ≤ lf ∧ lf ≤ 5000 ∧ Aside0 (m = kids.length - j) ∧ Aside0 (wr.heap[p]? = some (.cells #[.int .i64 lf] 3 (0, 0)) ∧ Below w0.heap.size w0 wr ∧ FrP p w wr ∧ rightNs (kids.drop j) (deep + 1) bh lf = R))
        case atStart => exact ⟨0, false, l', rfl, rfl, Nat.zero_le _, by omega, by omega, ⟨rfl⟩, ⟨HK3.out, HB3.out, HF3.out, HR.out.symm⟩⟩
        case round =>
          obtain ⟨j, bh, lf, rfl, rfl, hj, hlf0, hlf1, HM, HJ⟩ := hrel
          by_cases hlt : j < kids.length
          · obtain ⟨hpk, hb, hfr, hres⟩ := HJ.out
            obtain ⟨ad, B3, d3, B4, d4, eA, k0, k1, k2, k3, k4, k5, m3, C3, m4, C4⟩ := atNd H4.out (j : Int) (by omega) (by omega)
            have q3 := eq_true (show (j : Int) < (kids.length : Int) by omega)
            have q4 := eq_true (show (0 : Int) ≤ (j : Int) by omega)
            obtain ⟨d, hd⟩ : ∃ d, d = rdNd kids (j : Int) := ⟨_, rfl⟩
            rw [← hd] at k0 k1 k2 k3 k4 k5 m3 C3 m4 C4
            simp only [Int.toNat_natCast] at k0 k1 k2 k3 k4 k5
            have k0 := pw_cell_below hb k0
            have k1 := pw_cell_below hb k1
            have k2 := pw_cell_below hb k2
            have k3 := pw_cell_below hb k3
            have k4 := pw_cell_below hb k4
            have k5 := pw_cell_below hb k5
            have hdk : d = kids[j] := by rw [hd]; simp [rdNd, hlt]
            have hdw : wt d ≤ wts kids := by rw [hdk]; exact Prt.wts_get kids j hlt
            have hdr : kids.drop j = d :: kids.drop (j + 1) := by rw [List.drop_eq_getElem_cons hlt, hdk]
            clear hd
            subst eA
            obtain ⟨i, hi⟩ : ∃ i, i = j + 1 := ⟨_, rfl⟩
            have f3 : (j : Int) + 1 = (i : Int) := by omega
            have f4 : IntKind.i64.wrap (i : Int) = (i : Int) := IntWalk.i64_in _ (by omega)
            rw [hdr, ← hi] at hres
            unfold rightNs at hres
            have hA1 : Below wr.heap.size wr (wr.alloc (.cells #[.int .i64 d.f0, .string d.f1.f0, .string d.f1.f1, .slice B3 d.f2.length d3, .slice B4 d.f3.length d4, .string d.f4] 27)) := (Below.refl _ _).alloc (Nat.le_refl _) _
            have hih := HIH.out d (by rw [HW.out]; omega) dp bh lf _ B3 B4 d3 d4 hdp2.1 hdp2.2 hlf0 hlf1 (hb.alloc hb.size _) hp ((hA1.block p (blk_lt hpk)).trans hpk) C3 m3 C4 m4
            have hlfr := rightN_left d dp bh lf hlf0
            rw [← HDP.out] at hres
            obtain ⟨ok, hok⟩ : ∃ ok, ok = (rightN d dp bh lf).1 := ⟨_, rfl⟩
            obtain ⟨lg, hlg⟩ : ∃ lg, lg = (rightN d dp bh lf).2 := ⟨_, rfl⟩
            rw [← hok, ← hlg] at hih hres hlfr
            have HIH2 := Aside0.mk hih
            have HRS := Aside0.mk hres
            have HA1 := Aside0.mk hA1
            have HI' := Aside0.mk hi
            have hxb := heap_alloc_last wr (.cells #[.int .i64 d.f0, .string d.f1.f0, .string d.f1.f1, .slice B3 d.f2.length d3, .slice B4 d.f3.length d4, .string d.f4] 27)
            have HXB := Aside0.mk hxb
            have hpr : p < wr.heap.size := blk_lt hpk
            clear hih hres hA1 hi hok hlg hdr hdk C3 C4 hpk hb hfr hxb
            cases ok with
            | false =>
              go_wp2_with fail
              refine HIH2.out.mono ?_
              rintro e w4 ⟨rfl, hp4, hb4, hf4⟩
              have HP4 := Aside0.mk hp4
              have HB4 := Aside0.mk hb4
              have HF4 := Aside0.mk hf4
              clear hp4 hb4 hf4
              go_wp2_with fail
              go_ret
              have e := HRS.out
              simp only [Bool.false_eq_true, if_false] at e
              rw [← e]
              exact ⟨rfl, HP4.out, HB4.out, (HJ.out.2.2.1.alloc _).trans HF4.out⟩
            | true =>
              have hlg2 := hlfr.2.2 rfl
              go_wp2_with fail
              refine HIH2.out.mono ?_
              rintro e w4 ⟨rfl, hp4, hb4, hf4⟩
              have hx4 := hf4 wr.heap.size _ (by omega) HXB.out
              have g6 : w4.cell? ⟨wr.heap.size, 0, none⟩ = some (.int .i64 d.f0) := by rw [Lib.cell_of_heap hx4]; rfl
              have HP4 := Aside0.mk hp4
              have HB4 := Aside0.mk hb4
              have HF4 := Aside0.mk hf4
              have e := HRS.out
              simp only [if_true] at e
              have HRS2 := Aside0.mk e
              clear hp4 hb4 hf4 hx4 e
              by_cases hd2 : d.f0 = 2
              · have r5 : (d.f0 == 2) = true := by simpa using hd2
                have HD2 := Aside0.mk (decide_eq_true hd2)
                clear hd2
                go_wp2_with fail
                go_roundg (kids.length - i)
                · exact ⟨i, true, lg, rfl, rfl, by have := HI'.out; omega, hlg2, by omega, ⟨rfl⟩, ⟨HP4.out, HB4.out, (HJ.out.2.2.1.alloc _).trans HF4.out, by rw [← HRS2.out, HD2.out, HDP.out]⟩⟩
                · have := HI'.out; have := HM.out; omega
              · have r5 : (d.f0 == 2) = false := by simpa using hd2
                have HD2 := Aside0.mk (decide_eq_false hd2)
                clear hd2
                go_wp2_with fail
                go_roundg (kids.length - i)
                · exact ⟨i, false, lg, rfl, rfl, by have := HI'.out; omega, hlg2, by omega, ⟨rfl⟩, ⟨HP4.out, HB4.out, (HJ.out.2.2.1.alloc _).trans HF4.out, by rw [← HRS2.out, HD2.out, HDP.out]⟩⟩
                · have := HI'.out; have := HM.out; omega
          · have q3 := eq_false (show ¬ (j : Int) < (kids.length : Int) by omega)
            obtain rfl : j = kids.length := by omega
            have e := HJ.out.2.2.2
            rw [List.drop_length] at e
            unfold rightNs at e
            have HE := Aside0.mk e
            clear e
            go_wp2_with fail
            go_ret
            rw [← HE.out]
            exact ⟨rfl, HJ.out.1, HJ.out.2.1, HJ.out.2.2.1⟩
theorem right_calls (p : Nat) (w0 : World) : ∀ (N : Nat) (n : Nd), wt n ≤ N → N ≤ 1000000 → RightSaid p w0 n := by
  intro N
  induction N with
  | zero => intro n h; obtain ⟨k, nm, t, c, x⟩ := n; unfold wt at h; omega
  | succ N ih => exact fun n h hN => right_step p w0 n (by omega) (fun d hd => ih d (by omega) (by omega))
def rightB (n : Nd) : Bool := decide (n.f0 = 1) && (rightN n 1 false 2000).1
set_option maxHeartbeats 4000000 in
set_option maxRecDepth 100000 in
/-- tree.Right. -/
theorem Right_calls (n : Nd) (w : World) (hw : wt n ≤ 1000000) (A3 A4 : Option Addr) (c3 c4 : Nat) (h3 : kAt.C w A3 n.f2.length n.f2) (l3 : n.f2.length ≤ c3) (h4 : kNd.C w A4 n.f3.length n.f3) (l4 : n.f3.length ≤ c4) :
    Calls Tryd.prog 34 #[.agg #[.int .i64 n.f0, .string n.f1.f0, .string n.f1.f1, .slice A3 n.f2.length c3, .slice A4 n.f3.length c4, .string n.f4]] w fun e w' => e = .returned (.bool (rightB n)) ∧ Below w.heap.size w w' := by
  have hB : Below w.heap.size w ((w.alloc (.cells #[.int .i64 n.f0, .string n.f1.f0, .string n.f1.f1, .slice A3 n.f2.length c3, .slice A4 n.f3.length c4, .string n.f4] 27)).alloc (.cells #[.int .i64 2000] 3)) := ((Below.refl _ _).alloc (Nat.le_refl _) _).alloc (by simp) _
  have hs := right_calls (w.heap.size + 1) w 1000000 n hw (Nat.le_refl _) 1 false 2000 ((w.alloc (.cells #[.int .i64 n.f0, .string n.f1.f0, .string n.f1.f1, .slice A3 n.f2.length c3, .slice A4 n.f3.length c4, .string n.f4] 27)).alloc (.cells #[.int .i64 2000] 3)) A3 A4 c3 c4 (by omega) (by omega) (by omega) (by omega) hB (by omega) (by
    have h := heap_alloc_last (w.alloc (.cells #[.int .i64 n.f0, .string n.f1.f0, .string n.f1.f1, .slice A3 n.f2.length c3, .slice A4 n.f3.length c4, .string n.f4] 27)) (.cells #[.int .i64 2000] 3)
    simpa using h) h3 l3 h4 l4
  have HS := Aside0.mk hs
  have HB := Aside0.mk hB
  clear hs hB h3 h4
  by_cases hk : n.f0 = 1
  · have e : rightB n = (rightN n 1 false 2000).1 := by unfold rightB; rw [decide_eq_true hk]; rfl
    rw [e]
    have r1 : (n.f0 == 1) = true := by simpa using hk
    obtain ⟨r, hr⟩ : ∃ r, r = rightN n 1 false 2000 := ⟨_, rfl⟩
    rw [← hr] at HS ⊢
    clear e hk hr
    go_enter Tryd.func34, Tryd.ntmps34
    go_wp2_with fail
    refine HS.out.mono ?_
    rintro e w1 ⟨rfl, _, hb, _⟩
    have HB1 := Aside0.mk hb
    clear hb
    go_wp2_with fail
    go_ret
    exact ⟨rfl, HB1.out⟩
  · have e : rightB n = false := by unfold rightB; rw [decide_eq_false hk]; rfl
    rw [e]
    have r1 : (n.f0 == 1) = false := by simpa using hk
    clear e hk
    go_enter Tryd.func34, Tryd.ntmps34
    go_wp2_with fail
    go_ret
    exact ⟨rfl, HB.out⟩
end Go.Proofs.YtffpbhbiamkkpaaDoor.ND
