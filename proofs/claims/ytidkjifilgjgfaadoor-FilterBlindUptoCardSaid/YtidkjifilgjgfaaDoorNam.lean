/- What tree.signs and utf.Name come to; utf.Name walked (it calls through a function value). -/
import Derived.Test.YtidkjifilgjgfaaDoorPGx0
import Derived.Test.YtidkjifilgjgfaaDoorPGx1
import Derived.Test.YtidkjifilgjgfaaDoorMx14
namespace Go.Proofs.YtidkjifilgjgfaaDoor.PG
open Go.RowKit Go.Proofs.YtidkjifilgjgfaaDoorW.PrintWords Go.Proofs.YtidkjifilgjgfaaDoorW.PrintLast Go.Proofs.YtidkjifilgjgfaaDoorW.PrintMore
set_option linter.unusedVariables false
def inS (n : Int) (l : List S133) : Bool := l.any fun x => decide (x.f0 ≤ n) && decide (n ≤ x.f1)
theorem within_from (n : Int) (l : List S133) (hl : l.length ≤ 100) : ∀ (d k i : Nat), l.length - i ≤ d → d < k → i ≤ l.length → yc6.l0 k n l (l.length : Int) (i : Int) = some (inS n (l.drop i)) := by
  intro d
  induction d with
  | zero =>
    intro k i h1 h2 h3
    obtain ⟨k, rfl⟩ : ∃ m, k = m + 1 := ⟨k - 1, by omega⟩
    simp only [yc6.l0]
    rw [if_neg (by omega), List.drop_eq_nil_of_le (by omega)]
    rfl
  | succ d ih =>
    intro k i h1 h2 h3
    obtain ⟨k, rfl⟩ : ∃ m, k = m + 1 := ⟨k - 1, by omega⟩
    by_cases hlt : i < l.length
    · simp only [yc6.l0]
      rw [if_pos (by omega), if_pos (by omega), if_pos (by omega)]
      have e1 : wrap64 ((i : Int) + 1) = ((i + 1 : Nat) : Int) := by rw [PL.w64 _ (by omega) (by omega)]; omega
      have e2 : yg1 l (i : Int) = l[i] := by simp [yg1, hlt]
      have e3 : inS n (l.drop i) = (decide (l[i].f0 ≤ n) && decide (n ≤ l[i].f1) || inS n (l.drop (i + 1))) := by
        rw [List.drop_eq_getElem_cons hlt]; rfl
      rw [e1, e2, e3]
      by_cases c1 : l[i].f0 ≤ n
      · rw [if_pos (by omega)]
        by_cases c2 : n ≤ l[i].f1
        · rw [if_pos c2]; simp [c1, c2]
        · rw [if_neg c2, ih k (i + 1) (by omega) (by omega) (by omega)]; simp [c2]
      · rw [if_neg (by omega), ih k (i + 1) (by omega) (by omega) (by omega)]; simp [c1]
    · simp only [yc6.l0]
      rw [if_neg (by omega), List.drop_eq_nil_of_le (by omega)]
      rfl
theorem within_eq (n : Int) (l : List S133) (k : Nat) (hl : l.length ≤ 100) (hk : l.length < k) : yc6.f k n l = some (inS n l) := by
  have h := within_from n l hl l.length k 0 (by omega) hk (by omega)
  rw [List.drop_zero] at h
  exact h
def startB (n : Int) : Bool := inS n [(⟨65, 90⟩ : S133), (⟨97, 122⟩ : S133), (⟨95, 95⟩ : S133), (⟨192, 214⟩ : S133), (⟨216, 246⟩ : S133), (⟨248, 767⟩ : S133), (⟨880, 893⟩ : S133), (⟨895, 8191⟩ : S133), (⟨8204, 8205⟩ : S133), (⟨8304, 8591⟩ : S133), (⟨11264, 12271⟩ : S133), (⟨12289, 55295⟩ : S133), (⟨63744, 64975⟩ : S133), (⟨65008, 65533⟩ : S133), (⟨65536, 983039⟩ : S133)]
theorem start_eq (n : Int) : yi7.f 20 n = some (startB n) := by
  unfold yi7.f startB
  rw [within_eq n _ 20 (by decide) (by decide)]
  rfl
def partB (n : Int) : Bool := startB n || inS n [(⟨45, 46⟩ : S133), (⟨48, 57⟩ : S133), (⟨183, 183⟩ : S133), (⟨768, 879⟩ : S133), (⟨8255, 8256⟩ : S133)]
theorem part_eq (n : Int) : ym8.f 20 n = some (partB n) := by
  unfold ym8.f partB
  rw [start_eq, within_eq n _ 20 (by decide) (by decide)]
  cases startB n <;> rfl
/-- The sign at a place, and how many bytes it has; 0: none. -/
def runeT (s : ByteArray) (i : Int) : Int × Int := (yg2.f s i).getD (0, 0)
theorem shape_ends (c : Int) : ∃ n r, PU.yj3.f c = some (n, r) ∧ 0 ≤ n ∧ n ≤ 4 := by
  unfold PU.yj3.f
  repeat' split
  all_goals exact ⟨_, _, rfl, by omega, by omega⟩
theorem least_ends (c : Int) : ∃ r, PU.yi6.f c = some r := by
  unfold PU.yi6.f
  repeat' split
  all_goals exact ⟨_, rfl⟩
theorem scalar_ends (c : Int) : ∃ r, PU.yf5.f c = some r := by
  unfold PU.yf5.f PL.yf5.f
  repeat' split
  all_goals exact ⟨_, rfl⟩
theorem yq3 (s : ByteArray) (i : Int) (hs : s.size ≤ 140737488351232) : yg2.f s i = some (runeT s i) ∧ 0 ≤ (runeT s i).2 ∧ ((runeT s i).2 ≠ 0 → 0 ≤ i ∧ i + (runeT s i).2 ≤ s.size ∧ (runeT s i).2 ≤ 4) := by
  have h : ∃ r n, yg2.f s i = some (r, n) ∧ 0 ≤ n ∧ (n ≠ 0 → 0 ≤ i ∧ i + n ≤ s.size ∧ n ≤ 4) := by
    show ∃ r n, PU.yg2.f s i = some (r, n) ∧ _
    unfold PU.yg2.f
    rw [if_pos (by omega)]
    by_cases h1 : i < 0
    · rw [if_pos h1]; exact ⟨0, 0, rfl, by omega, fun h => absurd rfl h⟩
    rw [if_neg h1]
    by_cases h2 : i ≥ s.size
    · rw [if_pos h2]; exact ⟨0, 0, rfl, by omega, fun h => absurd rfl h⟩
    rw [if_neg h2]
    obtain ⟨n, r0, e, hn0, hn4⟩ := shape_ends (bt s i)
    rw [e, Option.bind_some]
    by_cases h3 : n = 0
    · rw [if_pos h3]; exact ⟨0, 0, rfl, by omega, fun h => absurd rfl h⟩
    rw [if_neg h3]
    by_cases h4 : n > (s.size : Int) - i
    · rw [if_pos h4]; exact ⟨0, 0, rfl, by omega, fun h => absurd rfl h⟩
    rw [if_neg h4, if_pos (by omega)]
    cases hf : PU.yk4 r0 (bytesOf (s.extract (i + 1).toNat (i + n).toNat)) with
    | none => exact ⟨0, 0, rfl, by omega, fun h => absurd rfl h⟩
    | some r =>
      obtain ⟨m, em⟩ := least_ends n
      obtain ⟨b, eb⟩ := scalar_ends r
      simp only [em, eb, Option.bind_some]
      by_cases h5 : r < m
      · rw [if_pos h5]; exact ⟨0, 0, rfl, by omega, fun h => absurd rfl h⟩
      rw [if_neg h5]
      cases b
      · exact ⟨0, 0, rfl, by omega, fun h => absurd rfl h⟩
      · exact ⟨r, n, rfl, hn0, fun _ => ⟨by omega, by omega, hn4⟩⟩
  obtain ⟨r, n, e, h1, h2⟩ := h
  unfold runeT
  rw [e]
  exact ⟨rfl, h1, h2⟩
def signsB (s : ByteArray) : Bool := (yf1.f (s.size + 20) s).getD false
theorem char_eq (n : Int) (k : Nat) (hk : 11 ≤ k) : yg0.f k n = some (PL.charB n) := at_rounds (PL.yg0.mono n) hk (PL.utf_char n)
theorem signs_from (s : ByteArray) (hs : s.size ≤ 140737488351232) : ∀ (d k : Nat) (i : Int), 0 ≤ i → (s.size : Int) - i ≤ d → d + 13 ≤ k → ∃ b, yf1.l0 k s i = some b := by
  intro d
  induction d with
  | zero =>
    intro k i h0 h1 h2
    obtain ⟨k, rfl⟩ : ∃ m, k = m + 1 := ⟨k - 1, by omega⟩
    exact ⟨true, by simp only [yf1.l0]; rw [if_neg (by omega)]⟩
  | succ d ih =>
    intro k i h0 h1 h2
    obtain ⟨k, rfl⟩ : ∃ m, k = m + 1 := ⟨k - 1, by omega⟩
    simp only [yf1.l0]
    by_cases c : i < s.size
    · obtain ⟨e, hn, hb⟩ := yq3 s i hs
      rw [if_pos c, e, Option.bind_some]
      by_cases hz : (runeT s i).2 = 0
      · rw [if_pos hz]; exact ⟨_, rfl⟩
      obtain ⟨_, hb1, _⟩ := hb hz
      rw [if_neg hz, char_eq _ k (by omega), Option.bind_some]
      cases PL.charB (runeT s i).1
      · exact ⟨_, rfl⟩
      · rw [PL.w64 _ (by omega) (by omega)]
        exact ih k (i + (runeT s i).2) (by omega) (by omega) (by omega)
    · rw [if_neg c]; exact ⟨_, rfl⟩
theorem yj6 (s : ByteArray) (w : World) (hs : s.size ≤ 140737488351232) : Calls Tryd.prog 49 #[.string s] w fun e w' => e = .returned (.bool (signsB s)) ∧ Below w.heap.size w w' := by
  obtain ⟨b, hb⟩ := signs_from s hs s.size (s.size + 20) 0 (by omega) (by omega) (by omega)
  refine yf1.calls (s.size + 20) s (signsB s) w ?_
  have e : yf1.f (s.size + 20) s = some b := hb
  unfold signsB
  rw [e]
  rfl
def nameL : Nat → ByteArray → Int → Bool → Bool
  | 0, _, _, _ => false
  | k + 1, s, i, first => if i < s.size then (if (runeT s i).2 = 0 then false else if (if first then startB (runeT s i).1 else partB (runeT s i).1) = true then nameL k s (i + (runeT s i).2) false else false) else true
def nameB (s : ByteArray) : Bool := if s.size = 0 then false else if 64 < s.size then false else nameL 65 s 0 true
theorem start_calls (n : Int) (w : World) : Calls Tryd.prog 78 #[.int .i32 n] w fun e w' => e = .returned (.bool (startB n)) ∧ Below w.heap.size w w' := yi7.calls 20 n (startB n) w (start_eq n)
theorem part_calls (n : Int) (w : World) : Calls Tryd.prog 79 #[.int .i32 n] w fun e w' => e = .returned (.bool (partB n)) ∧ Below w.heap.size w w' := ym8.calls 20 n (partB n) w (part_eq n)
theorem rune_calls (s : ByteArray) (i : Int) (w : World) (hs : s.size ≤ 140737488351232) : Calls Tryd.prog 61 #[.string s, .int .i64 i] w fun e w' => e = .returned (.tuple #[.int .i32 (runeT s i).1, .int .i64 (runeT s i).2]) ∧ Below w.heap.size w w' := yg2.calls s i _ _ w (yq3 s i hs).1
theorem nameL_step (k : Nat) (s : ByteArray) (i : Int) (first : Bool) (h : i < s.size) : nameL (k + 1) s i first = if (runeT s i).2 = 0 then false else if (if first then startB (runeT s i).1 else partB (runeT s i).1) = true then nameL k s (i + (runeT s i).2) false else false := by
  simp only [nameL]
  rw [if_pos h]
set_option maxHeartbeats 2000000 in
set_option maxRecDepth 100000 in
theorem yo3 (s : ByteArray) (w : World) : Calls Tryd.prog 63 #[.string s] w fun e w' => e = .returned (.bool (nameB s)) ∧ Below w.heap.size w w' := by
  by_cases hz : s.size = 0
  · have hz' : s.data.toList = [] := List.length_eq_zero_iff.1 (by rw [← Lib.size_eq]; exact hz)
    have q : (s.toList.isEmpty) = true := by rw [Lib.toList_data, hz']; rfl
    have q2 : s.toList = [] := by rw [Lib.toList_data, hz']
    have e : nameB s = false := by unfold nameB; rw [if_pos hz]
    rw [e]
    clear e
    go_enter Tryd.func63, Tryd.ntmps63
    go_wp2_with fail
    go_ret
    exact ⟨rfl, Below.refl _ _⟩
  have hz' : s.data.toList ≠ [] := fun h => hz (by rw [Lib.size_eq, h]; rfl)
  have q : (s.toList.isEmpty) = false := by rw [Lib.toList_data]; simpa using hz'
  have q2 : (s.toList = []) = False := eq_false (by rw [Lib.toList_data]; exact hz')
  by_cases hb : 64 < s.size
  · have e : nameB s = false := by unfold nameB; rw [if_neg hz, if_pos hb]
    rw [e]
    have q3 := eq_true (show (64 : Int) < (s.size : Int) by omega)
    clear e hz hz'
    go_enter Tryd.func63, Tryd.ntmps63
    go_wp2_with fail
    go_ret
    exact ⟨rfl, Below.refl _ _⟩
  have e : nameB s = nameL 65 s 0 true := by unfold nameB; rw [if_neg hz, if_neg hb]
  rw [e]
  obtain ⟨R, hR⟩ : ∃ R, nameL 65 s 0 true = R := ⟨_, rfl⟩
  rw [hR]
  have HR := Aside0.mk hR
  have q3 := eq_false (show ¬ (64 : Int) < (s.size : Int) by omega)
  have hs : s.size ≤ 64 := by omega
  clear e hR hz hz' hb
  go_enter Tryd.func63, Tryd.ntmps63
  go_wp2_with fail
  go_loopg [3, 4] 65 (fun kq v3 v4 wr => ∃ (i : Int) (first : Bool), v3 = .func (.func (if first = true then 78 else 79)) #[] #[] ∧ v4 = .int .i64 i ∧ 0 ≤ i ∧ i ≤ s.size ∧ (s.size : Int) - i < kq ∧ Aside0 (nameL kq s i first = R) ∧ Aside0 (Below w.heap.size w wr))
  case atStart => exact ⟨0, true, rfl, rfl, by omega, by omega, by omega, HR, ⟨Below.refl _ _⟩⟩
  case round =>
    obtain ⟨i, first, hv3, rfl, h0, h1, hd, HL, HB⟩ := hrel
    by_cases hlt : i < (s.size : Int)
    · cases gk with
      | zero => exact absurd hd (by omega)
      | succ k1 =>
        have hst := HL.out
        rw [nameL_step k1 s i first hlt] at hst
        obtain ⟨_, hn0, hnb⟩ := yq3 s i (by omega)
        obtain ⟨r, hr⟩ : ∃ r, (runeT s i).1 = r := ⟨_, rfl⟩
        obtain ⟨n, hn⟩ : ∃ n, (runeT s i).2 = n := ⟨_, rfl⟩
        have hcal := fun W => rune_calls s i W (by omega)
        rw [hr] at hst hcal
        rw [hn] at hst hcal hn0 hnb
        have HST := Aside0.mk hst
        have HC := Aside0.mk hcal
        have q4 := eq_true hlt
        clear hst hr hn hcal HL
        by_cases hnz : n = 0
        · subst hnz
          have HST2 := HST.out
          rw [if_pos rfl] at HST2
          have HE := Aside0.mk HST2
          clear HST2 hnb
          subst hv3
          go_wp2_with (go_at_call 61; (with_reducible refine (HC.out _).mono ?_); rintro e w1 ⟨rfl, hb1⟩; have HB1 := Aside0.mk hb1; clear hb1)
          all_goals
            go_ret
            rw [← HE.out]
            exact ⟨rfl, HB.out.trans (HB1.out.mono HB.out.size)⟩
        · obtain ⟨_, hb1, hb4⟩ := hnb hnz
          have HST2 := HST.out
          rw [if_neg hnz] at HST2
          have q5 : (n == 0) = false := by simpa using hnz
          have f1 : IntKind.i64.wrap (i + n) = i + n := IntWalk.i64_in _ (by omega)
          have HX := Aside0.mk HST2
          have hn1 : 1 ≤ n := by omega
          clear HST2 hnb hnz
          cases first
          · simp only [Bool.false_eq_true, if_false] at hv3
            subst hv3
            cases hp : partB r with
            | false =>
              have HE0 := HX.out
              simp only [Bool.false_eq_true, if_false, hp] at HE0
              have HE := Aside0.mk HE0
              have HP := Aside0.mk (fun W => part_calls r W)
              simp only [hp] at HP
              clear hp HE0
              go_wp2_with (first | (go_at_call 61; (with_reducible refine (HC.out _).mono ?_); rintro e w1 ⟨rfl, hb1⟩; have HB1 := Aside0.mk hb1; clear hb1) | (go_at_call 79; (with_reducible refine (HP.out _).mono ?_); rintro e w2 ⟨rfl, hb2⟩; have HB2 := Aside0.mk hb2; clear hb2))
              go_ret
              rw [← HE.out]
              exact ⟨rfl, HB.out.trans ((HB1.out.trans (HB2.out.mono HB1.out.size)).mono HB.out.size)⟩
            | true =>
              have HE0 := HX.out
              simp only [Bool.false_eq_true, if_false, hp, if_true] at HE0
              have HE := Aside0.mk HE0
              have HP := Aside0.mk (fun W => part_calls r W)
              simp only [hp] at HP
              clear hp HE0
              go_wp2_with (first | (go_at_call 61; (with_reducible refine (HC.out _).mono ?_); rintro e w1 ⟨rfl, hb1⟩; have HB1 := Aside0.mk hb1; clear hb1) | (go_at_call 79; (with_reducible refine (HP.out _).mono ?_); rintro e w2 ⟨rfl, hb2⟩; have HB2 := Aside0.mk hb2; clear hb2))
              go_roundg k1
              · exact ⟨i + n, false, rfl, rfl, by omega, by omega, by omega, HE, ⟨HB.out.trans ((HB1.out.trans (HB2.out.mono HB1.out.size)).mono HB.out.size)⟩⟩
              · omega
          · simp only [if_true] at hv3
            subst hv3
            cases hp : startB r with
            | false =>
              have HE0 := HX.out
              simp only [Bool.false_eq_true, if_false, if_true, hp] at HE0
              have HE := Aside0.mk HE0
              have HP := Aside0.mk (fun W => start_calls r W)
              simp only [hp] at HP
              clear hp HE0
              go_wp2_with (first | (go_at_call 61; (with_reducible refine (HC.out _).mono ?_); rintro e w1 ⟨rfl, hb1⟩; have HB1 := Aside0.mk hb1; clear hb1) | (go_at_call 78; (with_reducible refine (HP.out _).mono ?_); rintro e w2 ⟨rfl, hb2⟩; have HB2 := Aside0.mk hb2; clear hb2))
              go_ret
              rw [← HE.out]
              exact ⟨rfl, HB.out.trans ((HB1.out.trans (HB2.out.mono HB1.out.size)).mono HB.out.size)⟩
            | true =>
              have HE0 := HX.out
              simp only [hp, if_true] at HE0
              have HE := Aside0.mk HE0
              have HP := Aside0.mk (fun W => start_calls r W)
              simp only [hp] at HP
              clear hp HE0
              go_wp2_with (first | (go_at_call 61; (with_reducible refine (HC.out _).mono ?_); rintro e w1 ⟨rfl, hb1⟩; have HB1 := Aside0.mk hb1; clear hb1) | (go_at_call 78; (with_reducible refine (HP.out _).mono ?_); rintro e w2 ⟨rfl, hb2⟩; have HB2 := Aside0.mk hb2; clear hb2))
              go_roundg k1
              · exact ⟨i + n, false, rfl, rfl, by omega, by omega, by omega, HE, ⟨HB.out.trans ((HB1.out.trans (HB2.out.mono HB1.out.size)).mono HB.out.size)⟩⟩
              · omega
    · have q1 := eq_false hlt
      have hR : R = true := by
        rw [← HL.out]
        cases gk with
        | zero => exact absurd hd (by omega)
        | succ k1 => simp only [nameL]; rw [if_neg hlt]
      have HE := Aside0.mk hR
      clear hR
      subst hv3
      go_wp2_with fail
      all_goals
        go_ret
        rw [HE.out]
        exact ⟨rfl, HB.out⟩
end Go.Proofs.YtidkjifilgjgfaaDoor.PG
