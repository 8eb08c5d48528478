/- The lexer's method order: an instruction. -/
import Derived.Test.YtffpbhbiamkkpaaDoorLxK
import Derived.StillTailTactics
namespace Go.Proofs.YtffpbhbiamkkpaaDoor.Lx
open Go.RowKit Go.Proofs.YtffpbhbiamkkpaaDoorW.PrintWords Go.Proofs.YtffpbhbiamkkpaaDoorW.PrintLast Go.Proofs.YtffpbhbiamkkpaaDoorW.PrintMore Go.Proofs.YtffpbhbiamkkpaaDoor.PU Go.Shelf
open Go.Proofs.YtffpbhbiamkkpaaDoor.PG (runeT rune_ends rune_calls nameB name_calls)
set_option linter.unusedVariables false
abbrev sQE : ByteArray := ⟨#[63, 62]⟩
/-- The place behind the signs that a name may go on with. -/
def namTo (s : ByteArray) : Nat → Nat → Nat
  | 0, k => k
  | d + 1, k => if k < s.size ∧ PG.partB (runeT s k).1 = true then namTo s d (k + (runeT s k).2.toNat) else k
def namEnd (s : ByteArray) (k : Nat) : Nat := namTo s (s.size - k + 1) k
theorem rune_zero (s : ByteArray) (i : Int) (hs : s.size ≤ 140737488351232) (hz : (runeT s i).2 = 0) : (runeT s i).1 = 0 := by
  have e := (rune_ends s i hs).1
  generalize runeT s i = p at e hz
  obtain ⟨r, n⟩ := p
  simp only at hz
  subst hz
  change PU.utf_Rune.f s i = some (r, 0) at e
  unfold PU.utf_Rune.f at e
  rw [if_pos (by omega)] at e
  split at e
  · injection e with e; injection e with e _; exact e.symm
  split at e
  · injection e with e; injection e with e _; exact e.symm
  obtain ⟨n, r0, e2, hn0, hn4⟩ := PG.shape_ends (bt s i)
  rw [e2, Option.bind_some] at e
  split at e
  · injection e with e; injection e with e _; exact e.symm
  rename_i hn
  split at e
  · injection e with e; injection e with e _; exact e.symm
  split at e
  · split at e
    · injection e with e; injection e with e _; exact e.symm
    · obtain ⟨m, em⟩ := PG.least_ends n
      rename_i r9 _
      obtain ⟨b, eb⟩ := PG.scalar_ends r9
      simp only [em, eb, Option.bind_some] at e
      split at e
      · injection e with e; injection e with e _; exact e.symm
      · cases b
        · injection e with e; injection e with e _; exact e.symm
        · injection e with e; injection e with _ e; exact absurd e hn
  · cases e
theorem part0 : PG.partB 0 = false := by decide +kernel
theorem rune_part (s : ByteArray) (k : Nat) (hs : s.size ≤ 140737488351232) (h : PG.partB (runeT s k).1 = true) : ∃ n : Nat, (runeT s k).2 = (n : Int) ∧ 1 ≤ n ∧ k + n ≤ s.size := by
  obtain ⟨e, h0, h1⟩ := rune_ends s k hs
  have hz : (runeT s k).2 ≠ 0 := by
    intro hz
    rw [rune_zero s k hs hz, part0] at h
    cases h
  obtain ⟨h2, h3, _⟩ := h1 hz
  exact ⟨(runeT s k).2.toNat, by omega, by omega, by omega⟩
theorem namTo_more (s : ByteArray) (hs : s.size ≤ 140737488351232) : ∀ (d k : Nat), s.size - k < d → namTo s (d + 1) k = namTo s d k := by
  intro d
  induction d with
  | zero => intro k h; omega
  | succ d ih =>
    intro k h
    rw [namTo]
    conv => rhs; rw [namTo]
    by_cases c : k < s.size ∧ PG.partB (runeT s k).1 = true
    · rw [if_pos c, if_pos c]
      obtain ⟨n, e, h1, h2⟩ := rune_part s k hs c.2
      rw [e, Int.toNat_natCast]
      exact ih _ (by omega)
    · rw [if_neg c, if_neg c]
theorem namTo_at (s : ByteArray) (hs : s.size ≤ 140737488351232) : ∀ (d k : Nat), s.size - k < d → namTo s d k = namEnd s k := by
  intro d k h
  unfold namEnd
  obtain ⟨m, rfl⟩ : ∃ m, d = s.size - k + 1 + m := ⟨d - (s.size - k + 1), by omega⟩
  induction m with
  | zero => rfl
  | succ m ih => rw [← ih (by omega)]; exact namTo_more s hs (s.size - k + 1 + m) k (by omega)
theorem namEnd_step (s : ByteArray) (hs : s.size ≤ 140737488351232) (k : Nat) : namEnd s k = if k < s.size ∧ PG.partB (runeT s k).1 = true then namEnd s (k + (runeT s k).2.toNat) else k := by
  conv => lhs; unfold namEnd; rw [namTo]
  by_cases c : k < s.size ∧ PG.partB (runeT s k).1 = true
  · rw [if_pos c, if_pos c]
    obtain ⟨n, e, h1, h2⟩ := rune_part s k hs c.2
    rw [e, Int.toNat_natCast]
    exact namTo_at s hs _ _ (by omega)
  · rw [if_neg c, if_neg c]
theorem namEnd_le (s : ByteArray) (hs : s.size ≤ 140737488351232) : ∀ (d k : Nat), s.size - k ≤ d → k ≤ s.size → k ≤ namEnd s k ∧ namEnd s k ≤ s.size := by
  intro d
  induction d with
  | zero => intro k h hk; rw [namEnd_step s hs, if_neg (by omega)]; omega
  | succ d ih =>
    intro k h hk
    rw [namEnd_step s hs]
    split
    · rename_i c
      obtain ⟨n, e, h1, h2⟩ := rune_part s k hs c.2
      rw [e, Int.toNat_natCast]
      have := ih (k + n) (by omega) h2
      omega
    · omega
/-- What an instruction comes to: the place behind it, or what is wrong. -/
def orderS (s : ByteArray) (i : Nat) : Except (Int × Int) Nat :=
  if nameB (s.extract (i + 2) (namEnd s (i + 2))) = false ∨ ((lowerL (s.extract (i + 2) (namEnd s (i + 2)))).toList == [120, 109, 108]) = true then .error (i, 12)
  else if nextB s (namEnd s (i + 2)) sQE = false ∧ (namEnd s (i + 2) = s.size ∨ blankB (bt s (namEnd s (i + 2))) = false) then .error (i, if namEnd s (i + 2) = s.size then 2 else 4)
  else match upS s sQE i (namEnd s (i + 2)) with | .error e => .error e | .ok n => .ok (namEnd s (i + 2) + n + 2)
set_option maxHeartbeats 4000000 in
set_option maxRecDepth 100000 in
theorem order_calls (w0 : World) (g : Nat) (s : ByteArray) (i : Nat) (v : Value) (w : World) (h : At w g s i v) (hb : Below w0.heap.size w0 w) (hg : w0.heap.size ≤ g) (hml : ML w0) (hT : U8 w0) (hi : i + 2 ≤ s.size) (hs : s.size < 4294967281) :
    Calls Tryd.prog 92 #[.pointer (some ⟨g, 0, none⟩)] w (GoPost g w s v (orderS s i)) := by
  have HV := Aside0.mk h.moved
  have HB := Aside0.mk hb
  have HML := Aside0.mk hml
  have HT := Aside0.mk hT
  have c0 := h.c0
  have c1 := h.c1
  have f1 := h.f0 1
  obtain ⟨f, hf⟩ : ∃ f, f = i + 2 := ⟨_, rfl⟩
  have e1 : (i : Int) + 2 = (f : Int) := by omega
  have HF := Aside0.mk hf
  have hfs : f ≤ s.size := by omega
  have HRu := Aside0.mk (fun (k : Nat) W => rune_calls s k W (by omega))
  have HPa := Aside0.mk (fun r W => PG.part_calls r W)
  clear h hb hml hT hf
  go_enter Tryd.func92, Tryd.ntmps92
  go_wp2_with fail
  clear c0 c1 f1
  go_loopg [] (s.size - f + 1) (fun m wr => ∃ k : Nat, f ≤ k ∧ k ≤ s.size ∧ Aside0 (m = s.size - k + 1) ∧ Aside0 (namEnd s k = namEnd s f) ∧ Aside0 (Moved g w wr s k v))
  case atStart => exact ⟨f, Nat.le_refl _, hfs, ⟨rfl⟩, ⟨rfl⟩, ⟨by repeat (first | (with_reducible exact HV.out) | (with_reducible apply Moved.drewN) | (with_reducible apply Moved.drew) | refine Moved.set (i := i) ?_ (q := f) rfl)⟩⟩
  case round =>
    obtain ⟨k, hfk, hks, HM, HE, HVk⟩ := hrel
    have c0 := HVk.out.me.c0
    have c1 := HVk.out.me.c1
    have f1 := HVk.out.me.f0 1
    by_cases hlt : k < s.size
    · have l1 : decide (k < s.size) = true := decide_eq_true hlt
      have q0 := eq_true (show (0 : Int) ≤ (k : Int) by omega)
      have q1 := eq_true (show (k : Int) < (s.size : Int) by omega)
      have hruk := rune_ends s k (by omega)
      cases hp : PG.partB (runeT s k).1 with
      | false =>
        have hend := namEnd_step s (by omega) k
        rw [if_neg (fun c => by rw [hp] at c; exact absurd c.2 (by decide))] at hend
        obtain ⟨r, hr⟩ : ∃ r, (runeT s k).1 = r := ⟨_, rfl⟩
        obtain ⟨n, hn⟩ : ∃ n, (runeT s k).2 = n := ⟨_, rfl⟩
        have HRk := Aside0.mk (HRu.out k)
        have HPk := Aside0.mk (HPa.out r)
        rw [hr, hn] at HRk
        rw [hr] at hp
        rw [hp] at HPk
        have HEND := Aside0.mk hend
        clear hr hn hp hend hruk
        go_wp2_with fail
        go_quiet (fail)
        go_wp2_with fail
        go_region_with (first | (go_at_call 87; (with_reducible refine (HRk.out _).mono ?_); rintro e w1 ⟨rfl, hb1⟩; have HB1 := Aside0.mk hb1; clear hb1))
        all_goals
          go_wp2_with (go_at_call 124; (with_reducible refine (HPk.out _).mono ?_); rintro e w2 ⟨rfl, hb2⟩; have HB2 := Aside0.mk hb2; clear hb2)
        all_goals
          have HX : Aside0 (Moved g w w2 s k v) := ⟨Moved.below (Moved.below (by repeat (first | (with_reducible exact HVk.out) | (with_reducible apply Moved.drewN) | (with_reducible apply Moved.drew))) HB1.out) HB2.out⟩
          have HE : Aside0 (namEnd s f = k) := ⟨by rw [← HE.out, HEND.out]⟩
          have q3k : k ≤ s.size := hks
          clear HVk HEND c0 c1 f1 l1 HRk HPk HB1 HB2 hlt q0 q1
          have c0 := HX.out.me.c0
          have c1 := HX.out.me.c1
          have q0 := eq_true (show (0 : Int) ≤ (k : Int) by omega)
          have q1 := eq_true (show (0 : Int) ≤ (f : Int) by omega)
          have q2 := eq_true (show (f : Int) ≤ (k : Int) by omega)
          have q3 := eq_true (show (k : Int) ≤ (s.size : Int) by omega)
          have q4 := eq_true (show f ≤ k by omega)
          have q5 := eq_true (show k ≤ s.size by omega)
          obtain ⟨nm, hnm⟩ : ∃ nm, nm = s.extract f k := ⟨_, rfl⟩
          have hO : orderS s i = if nameB nm = false ∨ ((lowerL nm).toList == [120, 109, 108]) = true then .error (i, 12) else if nextB s k sQE = false ∧ (k = s.size ∨ blankB (bt s k) = false) then .error (i, if k = s.size then 2 else 4) else match upS s sQE i k with | .error e => .error e | .ok n => .ok (k + n + 2) := by
            unfold orderS
            rw [← HF.out, HE.out, ← hnm]
          have HNA := Aside0.mk (fun W => name_calls nm W)
          have hnz : nm.size < 35184372088832 := by rw [hnm, ByteArray.size_extract]; omega
          have HLO := Aside0.mk (fun W hT => lower_calls nm W hT hnz)
          have HNX := Aside0.mk (fun W hat => next_calls g s sQE k v W hat q3k)
          have HUP := Aside0.mk (fun W hat hm => up_calls g s sQE i k v W hat hm q3k hs)
          have HNM := Aside0.mk hnm
          clear hnm hnz
          cases h1 : nameB nm with
          | false =>
            rw [if_pos (Or.inl h1)] at hO
            have HO := Aside0.mk hO
            rw [h1] at HNA
            clear hO h1
            go_wp2_with fail
            go_quiet (fail)
            rw [← HNM.out]
            go_wp2_with (first | (go_at_call 125; (with_reducible refine (HNA.out _).mono ?_); rintro e w6 ⟨rfl, hb6⟩; have HB6 := Aside0.mk hb6; clear hb6) | (go_at_call 91; (with_reducible refine (fail_calls _ _ _ _).mono ?_); rintro e w' ⟨hgu, rfl⟩; unfold gaveUp at hgu; subst hgu))
            refine ⟨rfl, ?_⟩
            rw [HO.out]
            exact ⟨rfl, k, (Moved.below (by repeat (first | (with_reducible exact HX.out) | (with_reducible apply Moved.drewN) | (with_reducible apply Moved.drew))) HB6.out)⟩
          | true =>
            cases h2 : ((lowerL nm).toList == [120, 109, 108]) with
            | true =>
              rw [if_pos (Or.inr h2)] at hO
              have HO := Aside0.mk hO
              rw [h1] at HNA
              clear hO h1
              go_wp2_with fail
              go_quiet (fail)
              rw [← HNM.out]
              go_wp2_with (go_at_call 125; (with_reducible refine (HNA.out _).mono ?_); rintro e w6 ⟨rfl, hb6⟩; have HB6 := Aside0.mk hb6; clear hb6)
              have HY := Aside0.mk (Moved.below (by repeat (first | (with_reducible exact HX.out) | (with_reducible apply Moved.drewN) | (with_reducible apply Moved.drew))) HB6.out)
              go_wp2_with fail
              refine (HLO.out _ (Utf8Tabs_below HT.out (HY.out.belowB HB.out hg))).mono ?_
              rintro e w7 ⟨rfl, hb7⟩
              have HZ := Aside0.mk (HY.out.below hb7)
              clear hb7 c0 c1
              have c0 := HZ.out.me.c0
              have c1 := HZ.out.me.c1
              go_wp2_with fail
              go_wp2_with (go_at_call 91; (with_reducible refine (fail_calls _ _ _ _).mono ?_); rintro e w' ⟨hgu, rfl⟩; unfold gaveUp at hgu; subst hgu)
              refine ⟨rfl, ?_⟩
              rw [HO.out]
              exact ⟨rfl, k, HZ.out⟩
            | false =>
              rw [if_neg (by rw [h1, h2]; decide)] at hO
              rw [h1] at HNA
              clear h1
              cases h3 : nextB s k sQE with
              | true =>
                rw [if_neg (fun c => by rw [h3] at c; exact absurd c.1 (by decide))] at hO
                rw [h3] at HNX
                clear h3
                have hup := HUP.out
                cases hu : upS s sQE i k with
                | error p =>
                  obtain ⟨a, c⟩ := p
                  rw [hu] at hO
                  have HO := Aside0.mk hO
                  have HU := Aside0.mk (fun W hat hm => (show Calls Tryd.prog 126 #[.pointer (some ⟨g, 0, none⟩), .string sQE, .int .i64 (i : Int)] W (UpPost g W s sQE k v (.error (a, c))) from hu ▸ HUP.out W hat hm))
                  clear hO hu hup
                  go_wp2_with fail
                  go_quiet (fail)
                  rw [← HNM.out]
                  go_wp2_with (go_at_call 125; (with_reducible refine (HNA.out _).mono ?_); rintro e w6 ⟨rfl, hb6⟩; have HB6 := Aside0.mk hb6; clear hb6)
                  have HY := Aside0.mk (Moved.below (by repeat (first | (with_reducible exact HX.out) | (with_reducible apply Moved.drewN) | (with_reducible apply Moved.drew))) HB6.out)
                  go_wp2_with fail
                  refine (HLO.out _ (Utf8Tabs_below HT.out (HY.out.belowB HB.out hg))).mono ?_
                  rintro e w7 ⟨rfl, hb7⟩
                  have HZ := Aside0.mk (HY.out.below hb7)
                  clear hb7 c0 c1
                  have c0 := HZ.out.me.c0
                  have c1 := HZ.out.me.c1
                  go_wp2_with fail
                  go_quiet (((go_at_call 54; (with_reducible refine (HNX.out _ (by repeat (first | (with_reducible exact HZ.out.me) | exact (HZ.out.drewN _).me))).mono ?_); rintro e w' ⟨rfl, ⟨nd, rfl⟩⟩; first | exact ⟨rfl, _, World.drewN_drewN _ _ _⟩ | exact ⟨rfl, _, (World.drewN_drewN _ _ _).trans (congrArg (World.drewN _) (Nat.add_assoc _ _ _))⟩)))
                  go_wp2_with fail
                  refine (HU.out _ ?_ ?_).mono ?_
                  · exact Moved.me (w := w) (by repeat (first | (with_reducible exact HZ.out) | (with_reducible apply Moved.drewN) | (with_reducible apply Moved.drew)))
                  · exact ML.below HML.out (Moved.belowB (g := g) (w := w) (s := s) (i := k) (v := v) (by repeat (first | (with_reducible exact HZ.out) | (with_reducible apply Moved.drewN) | (with_reducible apply Moved.drew))) HB.out hg)
                  rintro e w9 ⟨hgu, j, hj⟩
                  unfold gaveUp at hgu
                  subst hgu
                  refine ⟨rfl, ?_⟩
                  rw [HO.out]
                  exact ⟨rfl, j, (by repeat (first | (with_reducible exact HZ.out) | (with_reducible apply Moved.drewN) | (with_reducible apply Moved.drew)) : Moved g w _ s k v).trans hj⟩
                | ok n =>
                  rw [hu] at hO
                  have HO := Aside0.mk hO
                  have HU := Aside0.mk (fun W hat hm => (show Calls Tryd.prog 126 #[.pointer (some ⟨g, 0, none⟩), .string sQE, .int .i64 (i : Int)] W (UpPost g W s sQE k v (.ok n)) from hu ▸ HUP.out W hat hm))
                  clear hO hu hup
                  go_wp2_with fail
                  go_quiet (fail)
                  rw [← HNM.out]
                  go_wp2_with (go_at_call 125; (with_reducible refine (HNA.out _).mono ?_); rintro e w6 ⟨rfl, hb6⟩; have HB6 := Aside0.mk hb6; clear hb6)
                  have HY := Aside0.mk (Moved.below (by repeat (first | (with_reducible exact HX.out) | (with_reducible apply Moved.drewN) | (with_reducible apply Moved.drew))) HB6.out)
                  go_wp2_with fail
                  refine (HLO.out _ (Utf8Tabs_below HT.out (HY.out.belowB HB.out hg))).mono ?_
                  rintro e w7 ⟨rfl, hb7⟩
                  have HZ := Aside0.mk (HY.out.below hb7)
                  clear hb7 c0 c1
                  have c0 := HZ.out.me.c0
                  have c1 := HZ.out.me.c1
                  go_wp2_with fail
                  go_quiet (((go_at_call 54; (with_reducible refine (HNX.out _ (by repeat (first | (with_reducible exact HZ.out.me) | exact (HZ.out.drewN _).me))).mono ?_); rintro e w' ⟨rfl, ⟨nd, rfl⟩⟩; first | exact ⟨rfl, _, World.drewN_drewN _ _ _⟩ | exact ⟨rfl, _, (World.drewN_drewN _ _ _).trans (congrArg (World.drewN _) (Nat.add_assoc _ _ _))⟩)))
                  go_wp2_with fail
                  refine (HU.out _ ?_ ?_).mono ?_
                  · exact Moved.me (w := w) (by repeat (first | (with_reducible exact HZ.out) | (with_reducible apply Moved.drewN) | (with_reducible apply Moved.drew)))
                  · exact ML.below HML.out (Moved.belowB (g := g) (w := w) (s := s) (i := k) (v := v) (by repeat (first | (with_reducible exact HZ.out) | (with_reducible apply Moved.drewN) | (with_reducible apply Moved.drew))) HB.out hg)
                  rintro e w9 ⟨rfl, hj⟩
                  have HJ := Aside0.mk hj
                  clear hj
                  go_wp2_with fail
                  go_end0
                  rw [HO.out]
                  exact ⟨rfl, (by repeat (first | (with_reducible exact HZ.out) | (with_reducible apply Moved.drewN) | (with_reducible apply Moved.drew)) : Moved g w _ s k v).trans HJ.out⟩
              | false =>
                rw [h3] at HNX
                by_cases h4 : k = s.size
                · rw [if_pos ⟨h3, Or.inl h4⟩, if_pos h4] at hO
                  have HO := Aside0.mk hO
                  have r1 : (k == s.size) = true := beq_iff_eq.2 h4
                  have r2 : ((k : Int) == (s.size : Int)) = true := beq_iff_eq.2 (by omega)
                  clear hO h3 h4
                  go_wp2_with fail
                  go_quiet (fail)
                  rw [← HNM.out]
                  go_wp2_with (go_at_call 125; (with_reducible refine (HNA.out _).mono ?_); rintro e w6 ⟨rfl, hb6⟩; have HB6 := Aside0.mk hb6; clear hb6)
                  have HY := Aside0.mk (Moved.below (by repeat (first | (with_reducible exact HX.out) | (with_reducible apply Moved.drewN) | (with_reducible apply Moved.drew))) HB6.out)
                  go_wp2_with fail
                  refine (HLO.out _ (Utf8Tabs_below HT.out (HY.out.belowB HB.out hg))).mono ?_
                  rintro e w7 ⟨rfl, hb7⟩
                  have HZ := Aside0.mk (HY.out.below hb7)
                  clear hb7 c0 c1
                  have c0 := HZ.out.me.c0
                  have c1 := HZ.out.me.c1
                  go_wp2_with fail
                  go_quiet ((go_at_call 54; (with_reducible refine (HNX.out _ (by repeat (first | (with_reducible exact HZ.out.me) | exact (HZ.out.drewN _).me))).mono ?_); rintro e w' ⟨rfl, ⟨nd, rfl⟩⟩; first | exact ⟨rfl, _, World.drewN_drewN _ _ _⟩ | exact ⟨rfl, _, (World.drewN_drewN _ _ _).trans (congrArg (World.drewN _) (Nat.add_assoc _ _ _))⟩))
                  go_wp2_with fail
                  go_quiet (fail)
                  go_wp2_with (go_at_call 91; (with_reducible refine (fail_calls _ _ _ _).mono ?_); rintro e w' ⟨hgu, rfl⟩; unfold gaveUp at hgu; subst hgu)
                  refine ⟨rfl, ?_⟩
                  rw [HO.out]
                  exact ⟨rfl, k, (by repeat (first | (with_reducible exact HZ.out) | (with_reducible apply Moved.drewN) | (with_reducible apply Moved.drew)))⟩
                · have r1 : (k == s.size) = false := beq_eq_false_iff_ne.2 h4
                  have r2 : ((k : Int) == (s.size : Int)) = false := beq_eq_false_iff_ne.2 (by omega)
                  have hlt : k < s.size := by omega
                  have r3 := eq_true (show (k : Int) < (s.size : Int) by omega)
                  have r4 := eq_true hlt
                  have hbt := bt_nat s k hlt
                  have HBK := Aside0.mk (blank_f (bt s k))
                  cases h5 : blankB (bt s k) with
                  | false =>
                    rw [if_pos ⟨h3, Or.inr h5⟩, if_neg h4] at hO
                    rw [h5] at HBK
                    have HO := Aside0.mk hO
                    clear hO h3 h4 h5
                    go_wp2_with fail
                    go_quiet (fail)
                    rw [← HNM.out]
                    go_wp2_with (go_at_call 125; (with_reducible refine (HNA.out _).mono ?_); rintro e w6 ⟨rfl, hb6⟩; have HB6 := Aside0.mk hb6; clear hb6)
                    have HY := Aside0.mk (Moved.below (by repeat (first | (with_reducible exact HX.out) | (with_reducible apply Moved.drewN) | (with_reducible apply Moved.drew))) HB6.out)
                    go_wp2_with fail
                    refine (HLO.out _ (Utf8Tabs_below HT.out (HY.out.belowB HB.out hg))).mono ?_
                    rintro e w7 ⟨rfl, hb7⟩
                    have HZ := Aside0.mk (HY.out.below hb7)
                    clear hb7 c0 c1
                    have c0 := HZ.out.me.c0
                    have c1 := HZ.out.me.c1
                    go_wp2_with fail
                    go_quiet (first | (go_at_call 54; (with_reducible refine (HNX.out _ (by repeat (first | (with_reducible exact HZ.out.me) | exact (HZ.out.drewN _).me))).mono ?_); rintro e w' ⟨rfl, ⟨nd, rfl⟩⟩; first | exact ⟨rfl, _, World.drewN_drewN _ _ _⟩ | exact ⟨rfl, _, (World.drewN_drewN _ _ _).trans (congrArg (World.drewN _) (Nat.add_assoc _ _ _))⟩) | (go_at_call 55; (with_reducible refine (utf_Blank.calls (bt s k) false _ HBK.out).mono ?_); rintro e w' ⟨rfl, ⟨nd, rfl⟩⟩; first | exact ⟨rfl, _, World.drewN_drewN _ _ _⟩ | exact ⟨rfl, _, (World.drewN_drewN _ _ _).trans (congrArg (World.drewN _) (Nat.add_assoc _ _ _))⟩))
                    go_wp2_with fail
                    go_quiet (fail)
                    go_wp2_with (go_at_call 91; (with_reducible refine (fail_calls _ _ _ _).mono ?_); rintro e w' ⟨hgu, rfl⟩; unfold gaveUp at hgu; subst hgu)
                    refine ⟨rfl, ?_⟩
                    rw [HO.out]
                    exact ⟨rfl, k, (by repeat (first | (with_reducible exact HZ.out) | (with_reducible apply Moved.drewN) | (with_reducible apply Moved.drew)))⟩
                  | true =>
                    rw [if_neg (fun c => by rcases c.2 with c | c; exact h4 c; rw [h5] at c; exact absurd c (by decide))] at hO
                    rw [h5] at HBK
                    clear h3 h4 h5
                    have hup := HUP.out
                    cases hu : upS s sQE i k with
                    | error p =>
                      obtain ⟨a, c⟩ := p
                      rw [hu] at hO
                      have HO := Aside0.mk hO
                      have HU := Aside0.mk (fun W hat hm => (show Calls Tryd.prog 126 #[.pointer (some ⟨g, 0, none⟩), .string sQE, .int .i64 (i : Int)] W (UpPost g W s sQE k v (.error (a, c))) from hu ▸ HUP.out W hat hm))
                      clear hO hu hup
                      go_wp2_with fail
                      go_quiet (fail)
                      rw [← HNM.out]
                      go_wp2_with (go_at_call 125; (with_reducible refine (HNA.out _).mono ?_); rintro e w6 ⟨rfl, hb6⟩; have HB6 := Aside0.mk hb6; clear hb6)
                      have HY := Aside0.mk (Moved.below (by repeat (first | (with_reducible exact HX.out) | (with_reducible apply Moved.drewN) | (with_reducible apply Moved.drew))) HB6.out)
                      go_wp2_with fail
                      refine (HLO.out _ (Utf8Tabs_below HT.out (HY.out.belowB HB.out hg))).mono ?_
                      rintro e w7 ⟨rfl, hb7⟩
                      have HZ := Aside0.mk (HY.out.below hb7)
                      clear hb7 c0 c1
                      have c0 := HZ.out.me.c0
                      have c1 := HZ.out.me.c1
                      go_wp2_with fail
                      go_quiet ((first | (go_at_call 54; (with_reducible refine (HNX.out _ (by repeat (first | (with_reducible exact HZ.out.me) | exact (HZ.out.drewN _).me))).mono ?_); rintro e w' ⟨rfl, ⟨nd, rfl⟩⟩; first | exact ⟨rfl, _, World.drewN_drewN _ _ _⟩ | exact ⟨rfl, _, (World.drewN_drewN _ _ _).trans (congrArg (World.drewN _) (Nat.add_assoc _ _ _))⟩) | (go_at_call 55; (with_reducible refine (utf_Blank.calls (bt s k) true _ HBK.out).mono ?_); rintro e w' ⟨rfl, ⟨nd, rfl⟩⟩; first | exact ⟨rfl, _, World.drewN_drewN _ _ _⟩ | exact ⟨rfl, _, (World.drewN_drewN _ _ _).trans (congrArg (World.drewN _) (Nat.add_assoc _ _ _))⟩)))
                      go_wp2_with fail
                      refine (HU.out _ ?_ ?_).mono ?_
                      · exact Moved.me (w := w) (by repeat (first | (with_reducible exact HZ.out) | (with_reducible apply Moved.drewN) | (with_reducible apply Moved.drew)))
                      · exact ML.below HML.out (Moved.belowB (g := g) (w := w) (s := s) (i := k) (v := v) (by repeat (first | (with_reducible exact HZ.out) | (with_reducible apply Moved.drewN) | (with_reducible apply Moved.drew))) HB.out hg)
                      rintro e w9 ⟨hgu, j, hj⟩
                      unfold gaveUp at hgu
                      subst hgu
                      refine ⟨rfl, ?_⟩
                      rw [HO.out]
                      exact ⟨rfl, j, (by repeat (first | (with_reducible exact HZ.out) | (with_reducible apply Moved.drewN) | (with_reducible apply Moved.drew)) : Moved g w _ s k v).trans hj⟩
                    | ok n =>
                      rw [hu] at hO
                      have HO := Aside0.mk hO
                      have HU := Aside0.mk (fun W hat hm => (show Calls Tryd.prog 126 #[.pointer (some ⟨g, 0, none⟩), .string sQE, .int .i64 (i : Int)] W (UpPost g W s sQE k v (.ok n)) from hu ▸ HUP.out W hat hm))
                      clear hO hu hup
                      go_wp2_with fail
                      go_quiet (fail)
                      rw [← HNM.out]
                      go_wp2_with (go_at_call 125; (with_reducible refine (HNA.out _).mono ?_); rintro e w6 ⟨rfl, hb6⟩; have HB6 := Aside0.mk hb6; clear hb6)
                      have HY := Aside0.mk (Moved.below (by repeat (first | (with_reducible exact HX.out) | (with_reducible apply Moved.drewN) | (with_reducible apply Moved.drew))) HB6.out)
                      go_wp2_with fail
                      refine (HLO.out _ (Utf8Tabs_below HT.out (HY.out.belowB HB.out hg))).mono ?_
                      rintro e w7 ⟨rfl, hb7⟩
                      have HZ := Aside0.mk (HY.out.below hb7)
                      clear hb7 c0 c1
                      have c0 := HZ.out.me.c0
                      have c1 := HZ.out.me.c1
                      go_wp2_with fail
                      go_quiet ((first | (go_at_call 54; (with_reducible refine (HNX.out _ (by repeat (first | (with_reducible exact HZ.out.me) | exact (HZ.out.drewN _).me))).mono ?_); rintro e w' ⟨rfl, ⟨nd, rfl⟩⟩; first | exact ⟨rfl, _, World.drewN_drewN _ _ _⟩ | exact ⟨rfl, _, (World.drewN_drewN _ _ _).trans (congrArg (World.drewN _) (Nat.add_assoc _ _ _))⟩) | (go_at_call 55; (with_reducible refine (utf_Blank.calls (bt s k) true _ HBK.out).mono ?_); rintro e w' ⟨rfl, ⟨nd, rfl⟩⟩; first | exact ⟨rfl, _, World.drewN_drewN _ _ _⟩ | exact ⟨rfl, _, (World.drewN_drewN _ _ _).trans (congrArg (World.drewN _) (Nat.add_assoc _ _ _))⟩)))
                      go_wp2_with fail
                      refine (HU.out _ ?_ ?_).mono ?_
                      · exact Moved.me (w := w) (by repeat (first | (with_reducible exact HZ.out) | (with_reducible apply Moved.drewN) | (with_reducible apply Moved.drew)))
                      · exact ML.below HML.out (Moved.belowB (g := g) (w := w) (s := s) (i := k) (v := v) (by repeat (first | (with_reducible exact HZ.out) | (with_reducible apply Moved.drewN) | (with_reducible apply Moved.drew))) HB.out hg)
                      rintro e w9 ⟨rfl, hj⟩
                      have HJ := Aside0.mk hj
                      clear hj
                      go_wp2_with fail
                      go_end0
                      rw [HO.out]
                      exact ⟨rfl, (by repeat (first | (with_reducible exact HZ.out) | (with_reducible apply Moved.drewN) | (with_reducible apply Moved.drew)) : Moved g w _ s k v).trans HJ.out⟩
      | true =>
        obtain ⟨n, hn, hn1, hns⟩ := rune_part s k (by omega) hp
        have hend := namEnd_step s (by omega) k
        rw [if_pos ⟨hlt, hp⟩, hn, Int.toNat_natCast] at hend
        obtain ⟨r, hr⟩ : ∃ r, (runeT s k).1 = r := ⟨_, rfl⟩
        obtain ⟨q, hq⟩ : ∃ q, q = k + n := ⟨_, rfl⟩
        have e2 : (k : Int) + (n : Int) = (q : Int) := by omega
        have HRk := Aside0.mk (HRu.out k)
        have HPk := Aside0.mk (HPa.out r)
        rw [hr, hn] at HRk
        rw [hr] at hp
        rw [hp] at HPk
        rw [← hq] at hend
        have HEND := Aside0.mk hend
        have HQ := Aside0.mk hq
        have hqs : q ≤ s.size := by omega
        clear hr hn hp hend hruk hq
        go_wp2_with fail
        go_quiet (fail)
        go_wp2_with fail
        go_region_with (first | (go_at_call 87; (with_reducible refine (HRk.out _).mono ?_); rintro e w1 ⟨rfl, hb1⟩; have HB1 := Aside0.mk hb1; clear hb1))
        all_goals
          go_wp2_with fail
          refine (HPk.out _).mono ?_
          rintro e w2 ⟨rfl, hb2⟩
          have HX := Aside0.mk (Moved.below (Moved.below (g := g) (w := w) (s := s) (i := k) (v := v) (by repeat (first | (with_reducible exact HVk.out) | (with_reducible apply Moved.drewN) | (with_reducible apply Moved.drew))) HB1.out) hb2)
          have d0 := HX.out.me.c0
          have d1 := HX.out.me.c1
          have d2 := HX.out.me.f0 1
          clear hb2 c0 c1 f1
          go_wp2_with fail
          go_roundg (s.size - q + 1)
          · exact ⟨q, by have := HQ.out; omega, hqs, ⟨rfl⟩, ⟨by rw [← HEND.out, HE.out]⟩, ⟨HX.out.set (i := k) (q := q) (by have := HQ.out; omega)⟩⟩
          · have := HQ.out; have := HM.out; omega
    · have l1 : decide (k < s.size) = false := decide_eq_false hlt
      have hke : namEnd s k = k := by rw [namEnd_step s (by omega), if_neg (fun c => hlt c.1)]
      have q9 := eq_false (show ¬ (k : Int) < (s.size : Int) by omega)
      have HKE := Aside0.mk hke
      clear hke
      go_wp2_with fail
      go_quiet (fail)
      have HX := HVk
      have HE : Aside0 (namEnd s f = k) := ⟨by rw [← HE.out, HKE.out]⟩
      have q3k : k ≤ s.size := hks
      clear HVk HKE c0 c1 f1 l1 hlt q9
      have c0 := HX.out.me.c0
      have c1 := HX.out.me.c1
      have q0 := eq_true (show (0 : Int) ≤ (k : Int) by omega)
      have q1 := eq_true (show (0 : Int) ≤ (f : Int) by omega)
      have q2 := eq_true (show (f : Int) ≤ (k : Int) by omega)
      have q3 := eq_true (show (k : Int) ≤ (s.size : Int) by omega)
      have q4 := eq_true (show f ≤ k by omega)
      have q5 := eq_true (show k ≤ s.size by omega)
      obtain ⟨nm, hnm⟩ : ∃ nm, nm = s.extract f k := ⟨_, rfl⟩
      have hO : orderS s i = if nameB nm = false ∨ ((lowerL nm).toList == [120, 109, 108]) = true then .error (i, 12) else if nextB s k sQE = false ∧ (k = s.size ∨ blankB (bt s k) = false) then .error (i, if k = s.size then 2 else 4) else match upS s sQE i k with | .error e => .error e | .ok n => .ok (k + n + 2) := by
        unfold orderS
        rw [← HF.out, HE.out, ← hnm]
      have HNA := Aside0.mk (fun W => name_calls nm W)
      have hnz : nm.size < 35184372088832 := by rw [hnm, ByteArray.size_extract]; omega
      have HLO := Aside0.mk (fun W hT => lower_calls nm W hT hnz)
      have HNX := Aside0.mk (fun W hat => next_calls g s sQE k v W hat q3k)
      have HUP := Aside0.mk (fun W hat hm => up_calls g s sQE i k v W hat hm q3k hs)
      have HNM := Aside0.mk hnm
      clear hnm hnz
      cases h1 : nameB nm with
      | false =>
        rw [if_pos (Or.inl h1)] at hO
        have HO := Aside0.mk hO
        rw [h1] at HNA
        clear hO h1
        go_wp2_with fail
        go_quiet (fail)
        rw [← HNM.out]
        go_wp2_with (first | (go_at_call 125; (with_reducible refine (HNA.out _).mono ?_); rintro e w6 ⟨rfl, hb6⟩; have HB6 := Aside0.mk hb6; clear hb6) | (go_at_call 91; (with_reducible refine (fail_calls _ _ _ _).mono ?_); rintro e w' ⟨hgu, rfl⟩; unfold gaveUp at hgu; subst hgu))
        refine ⟨rfl, ?_⟩
        rw [HO.out]
        exact ⟨rfl, k, (Moved.below (by repeat (first | (with_reducible exact HX.out) | (with_reducible apply Moved.drewN) | (with_reducible apply Moved.drew))) HB6.out)⟩
      | true =>
        cases h2 : ((lowerL nm).toList == [120, 109, 108]) with
        | true =>
          rw [if_pos (Or.inr h2)] at hO
          have HO := Aside0.mk hO
          rw [h1] at HNA
          clear hO h1
          go_wp2_with fail
          go_quiet (fail)
          rw [← HNM.out]
          go_wp2_with (go_at_call 125; (with_reducible refine (HNA.out _).mono ?_); rintro e w6 ⟨rfl, hb6⟩; have HB6 := Aside0.mk hb6; clear hb6)
          have HY := Aside0.mk (Moved.below (by repeat (first | (with_reducible exact HX.out) | (with_reducible apply Moved.drewN) | (with_reducible apply Moved.drew))) HB6.out)
          go_wp2_with fail
          refine (HLO.out _ (Utf8Tabs_below HT.out (HY.out.belowB HB.out hg))).mono ?_
          rintro e w7 ⟨rfl, hb7⟩
          have HZ := Aside0.mk (HY.out.below hb7)
          clear hb7 c0 c1
          have c0 := HZ.out.me.c0
          have c1 := HZ.out.me.c1
          go_wp2_with fail
          go_wp2_with (go_at_call 91; (with_reducible refine (fail_calls _ _ _ _).mono ?_); rintro e w' ⟨hgu, rfl⟩; unfold gaveUp at hgu; subst hgu)
          refine ⟨rfl, ?_⟩
          rw [HO.out]
          exact ⟨rfl, k, HZ.out⟩
        | false =>
          rw [if_neg (by rw [h1, h2]; decide)] at hO
          rw [h1] at HNA
          clear h1
          cases h3 : nextB s k sQE with
          | true =>
            rw [if_neg (fun c => by rw [h3] at c; exact absurd c.1 (by decide))] at hO
            rw [h3] at HNX
            clear h3
            have hup := HUP.out
            cases hu : upS s sQE i k with
            | error p =>
              obtain ⟨a, c⟩ := p
              rw [hu] at hO
              have HO := Aside0.mk hO
              have HU := Aside0.mk (fun W hat hm => (show Calls Tryd.prog 126 #[.pointer (some ⟨g, 0, none⟩), .string sQE, .int .i64 (i : Int)] W (UpPost g W s sQE k v (.error (a, c))) from hu ▸ HUP.out W hat hm))
              clear hO hu hup
              go_wp2_with fail
              go_quiet (fail)
              rw [← HNM.out]
              go_wp2_with (go_at_call 125; (with_reducible refine (HNA.out _).mono ?_); rintro e w6 ⟨rfl, hb6⟩; have HB6 := Aside0.mk hb6; clear hb6)
              have HY := Aside0.mk (Moved.below (by repeat (first | (with_reducible exact HX.out) | (with_reducible apply Moved.drewN) | (with_reducible apply Moved.drew))) HB6.out)
              go_wp2_with fail
              refine (HLO.out _ (Utf8Tabs_below HT.out (HY.out.belowB HB.out hg))).mono ?_
              rintro e w7 ⟨rfl, hb7⟩
              have HZ := Aside0.mk (HY.out.below hb7)
              clear hb7 c0 c1
              have c0 := HZ.out.me.c0
              have c1 := HZ.out.me.c1
              go_wp2_with fail
              go_quiet (((go_at_call 54; (with_reducible refine (HNX.out _ (by repeat (first | (with_reducible exact HZ.out.me) | exact (HZ.out.drewN _).me))).mono ?_); rintro e w' ⟨rfl, ⟨nd, rfl⟩⟩; first | exact ⟨rfl, _, World.drewN_drewN _ _ _⟩ | exact ⟨rfl, _, (World.drewN_drewN _ _ _).trans (congrArg (World.drewN _) (Nat.add_assoc _ _ _))⟩)))
              go_wp2_with fail
              refine (HU.out _ ?_ ?_).mono ?_
              · exact Moved.me (w := w) (by repeat (first | (with_reducible exact HZ.out) | (with_reducible apply Moved.drewN) | (with_reducible apply Moved.drew)))
              · exact ML.below HML.out (Moved.belowB (g := g) (w := w) (s := s) (i := k) (v := v) (by repeat (first | (with_reducible exact HZ.out) | (with_reducible apply Moved.drewN) | (with_reducible apply Moved.drew))) HB.out hg)
              rintro e w9 ⟨hgu, j, hj⟩
              unfold gaveUp at hgu
              subst hgu
              refine ⟨rfl, ?_⟩
              rw [HO.out]
              exact ⟨rfl, j, (by repeat (first | (with_reducible exact HZ.out) | (with_reducible apply Moved.drewN) | (with_reducible apply Moved.drew)) : Moved g w _ s k v).trans hj⟩
            | ok n =>
              rw [hu] at hO
              have HO := Aside0.mk hO
              have HU := Aside0.mk (fun W hat hm => (show Calls Tryd.prog 126 #[.pointer (some ⟨g, 0, none⟩), .string sQE, .int .i64 (i : Int)] W (UpPost g W s sQE k v (.ok n)) from hu ▸ HUP.out W hat hm))
              clear hO hu hup
              go_wp2_with fail
              go_quiet (fail)
              rw [← HNM.out]
              go_wp2_with (go_at_call 125; (with_reducible refine (HNA.out _).mono ?_); rintro e w6 ⟨rfl, hb6⟩; have HB6 := Aside0.mk hb6; clear hb6)
              have HY := Aside0.mk (Moved.below (by repeat (first | (with_reducible exact HX.out) | (with_reducible apply Moved.drewN) | (with_reducible apply Moved.drew))) HB6.out)
              go_wp2_with fail
              refine (HLO.out _ (Utf8Tabs_below HT.out (HY.out.belowB HB.out hg))).mono ?_
              rintro e w7 ⟨rfl, hb7⟩
              have HZ := Aside0.mk (HY.out.below hb7)
              clear hb7 c0 c1
              have c0 := HZ.out.me.c0
              have c1 := HZ.out.me.c1
              go_wp2_with fail
              go_quiet (((go_at_call 54; (with_reducible refine (HNX.out _ (by repeat (first | (with_reducible exact HZ.out.me) | exact (HZ.out.drewN _).me))).mono ?_); rintro e w' ⟨rfl, ⟨nd, rfl⟩⟩; first | exact ⟨rfl, _, World.drewN_drewN _ _ _⟩ | exact ⟨rfl, _, (World.drewN_drewN _ _ _).trans (congrArg (World.drewN _) (Nat.add_assoc _ _ _))⟩)))
              go_wp2_with fail
              refine (HU.out _ ?_ ?_).mono ?_
              · exact Moved.me (w := w) (by repeat (first | (with_reducible exact HZ.out) | (with_reducible apply Moved.drewN) | (with_reducible apply Moved.drew)))
              · exact ML.below HML.out (Moved.belowB (g := g) (w := w) (s := s) (i := k) (v := v) (by repeat (first | (with_reducible exact HZ.out) | (with_reducible apply Moved.drewN) | (with_reducible apply Moved.drew))) HB.out hg)
              rintro e w9 ⟨rfl, hj⟩
              have HJ := Aside0.mk hj
              clear hj
              go_wp2_with fail
              go_end0
              rw [HO.out]
              exact ⟨rfl, (by repeat (first | (with_reducible exact HZ.out) | (with_reducible apply Moved.drewN) | (with_reducible apply Moved.drew)) : Moved g w _ s k v).trans HJ.out⟩
          | false =>
            rw [h3] at HNX
            by_cases h4 : k = s.size
            · rw [if_pos ⟨h3, Or.inl h4⟩, if_pos h4] at hO
              have HO := Aside0.mk hO
              have r1 : (k == s.size) = true := beq_iff_eq.2 h4
              have r2 : ((k : Int) == (s.size : Int)) = true := beq_iff_eq.2 (by omega)
              clear hO h3 h4
              go_wp2_with fail
              go_quiet (fail)
              rw [← HNM.out]
              go_wp2_with (go_at_call 125; (with_reducible refine (HNA.out _).mono ?_); rintro e w6 ⟨rfl, hb6⟩; have HB6 := Aside0.mk hb6; clear hb6)
              have HY := Aside0.mk (Moved.below (by repeat (first | (with_reducible exact HX.out) | (with_reducible apply Moved.drewN) | (with_reducible apply Moved.drew))) HB6.out)
              go_wp2_with fail
              refine (HLO.out _ (Utf8Tabs_below HT.out (HY.out.belowB HB.out hg))).mono ?_
              rintro e w7 ⟨rfl, hb7⟩
              have HZ := Aside0.mk (HY.out.below hb7)
              clear hb7 c0 c1
              have c0 := HZ.out.me.c0
              have c1 := HZ.out.me.c1
              go_wp2_with fail
              go_quiet ((go_at_call 54; (with_reducible refine (HNX.out _ (by repeat (first | (with_reducible exact HZ.out.me) | exact (HZ.out.drewN _).me))).mono ?_); rintro e w' ⟨rfl, ⟨nd, rfl⟩⟩; first | exact ⟨rfl, _, World.drewN_drewN _ _ _⟩ | exact ⟨rfl, _, (World.drewN_drewN _ _ _).trans (congrArg (World.drewN _) (Nat.add_assoc _ _ _))⟩))
              go_wp2_with fail
              go_quiet (fail)
              go_wp2_with (go_at_call 91; (with_reducible refine (fail_calls _ _ _ _).mono ?_); rintro e w' ⟨hgu, rfl⟩; unfold gaveUp at hgu; subst hgu)
              refine ⟨rfl, ?_⟩
              rw [HO.out]
              exact ⟨rfl, k, (by repeat (first | (with_reducible exact HZ.out) | (with_reducible apply Moved.drewN) | (with_reducible apply Moved.drew)))⟩
            · have r1 : (k == s.size) = false := beq_eq_false_iff_ne.2 h4
              have r2 : ((k : Int) == (s.size : Int)) = false := beq_eq_false_iff_ne.2 (by omega)
              have hlt : k < s.size := by omega
              have r3 := eq_true (show (k : Int) < (s.size : Int) by omega)
              have r4 := eq_true hlt
              have hbt := bt_nat s k hlt
              have HBK := Aside0.mk (blank_f (bt s k))
              cases h5 : blankB (bt s k) with
              | false =>
                rw [if_pos ⟨h3, Or.inr h5⟩, if_neg h4] at hO
                rw [h5] at HBK
                have HO := Aside0.mk hO
                clear hO h3 h4 h5
                go_wp2_with fail
                go_quiet (fail)
                rw [← HNM.out]
                go_wp2_with (go_at_call 125; (with_reducible refine (HNA.out _).mono ?_); rintro e w6 ⟨rfl, hb6⟩; have HB6 := Aside0.mk hb6; clear hb6)
                have HY := Aside0.mk (Moved.below (by repeat (first | (with_reducible exact HX.out) | (with_reducible apply Moved.drewN) | (with_reducible apply Moved.drew))) HB6.out)
                go_wp2_with fail
                refine (HLO.out _ (Utf8Tabs_below HT.out (HY.out.belowB HB.out hg))).mono ?_
                rintro e w7 ⟨rfl, hb7⟩
                have HZ := Aside0.mk (HY.out.below hb7)
                clear hb7 c0 c1
                have c0 := HZ.out.me.c0
                have c1 := HZ.out.me.c1
                go_wp2_with fail
                go_quiet (first | (go_at_call 54; (with_reducible refine (HNX.out _ (by repeat (first | (with_reducible exact HZ.out.me) | exact (HZ.out.drewN _).me))).mono ?_); rintro e w' ⟨rfl, ⟨nd, rfl⟩⟩; first | exact ⟨rfl, _, World.drewN_drewN _ _ _⟩ | exact ⟨rfl, _, (World.drewN_drewN _ _ _).trans (congrArg (World.drewN _) (Nat.add_assoc _ _ _))⟩) | (go_at_call 55; (with_reducible refine (utf_Blank.calls (bt s k) false _ HBK.out).mono ?_); rintro e w' ⟨rfl, ⟨nd, rfl⟩⟩; first | exact ⟨rfl, _, World.drewN_drewN _ _ _⟩ | exact ⟨rfl, _, (World.drewN_drewN _ _ _).trans (congrArg (World.drewN _) (Nat.add_assoc _ _ _))⟩))
                go_wp2_with fail
                go_quiet (fail)
                go_wp2_with (go_at_call 91; (with_reducible refine (fail_calls _ _ _ _).mono ?_); rintro e w' ⟨hgu, rfl⟩; unfold gaveUp at hgu; subst hgu)
                refine ⟨rfl, ?_⟩
                rw [HO.out]
                exact ⟨rfl, k, (by repeat (first | (with_reducible exact HZ.out) | (with_reducible apply Moved.drewN) | (with_reducible apply Moved.drew)))⟩
              | true =>
                rw [if_neg (fun c => by rcases c.2 with c | c; exact h4 c; rw [h5] at c; exact absurd c (by decide))] at hO
                rw [h5] at HBK
                clear h3 h4 h5
                have hup := HUP.out
                cases hu : upS s sQE i k with
                | error p =>
                  obtain ⟨a, c⟩ := p
                  rw [hu] at hO
                  have HO := Aside0.mk hO
                  have HU := Aside0.mk (fun W hat hm => (show Calls Tryd.prog 126 #[.pointer (some ⟨g, 0, none⟩), .string sQE, .int .i64 (i : Int)] W (UpPost g W s sQE k v (.error (a, c))) from hu ▸ HUP.out W hat hm))
                  clear hO hu hup
                  go_wp2_with fail
                  go_quiet (fail)
                  rw [← HNM.out]
                  go_wp2_with (go_at_call 125; (with_reducible refine (HNA.out _).mono ?_); rintro e w6 ⟨rfl, hb6⟩; have HB6 := Aside0.mk hb6; clear hb6)
                  have HY := Aside0.mk (Moved.below (by repeat (first | (with_reducible exact HX.out) | (with_reducible apply Moved.drewN) | (with_reducible apply Moved.drew))) HB6.out)
                  go_wp2_with fail
                  refine (HLO.out _ (Utf8Tabs_below HT.out (HY.out.belowB HB.out hg))).mono ?_
                  rintro e w7 ⟨rfl, hb7⟩
                  have HZ := Aside0.mk (HY.out.below hb7)
                  clear hb7 c0 c1
                  have c0 := HZ.out.me.c0
                  have c1 := HZ.out.me.c1
                  go_wp2_with fail
                  go_quiet ((first | (go_at_call 54; (with_reducible refine (HNX.out _ (by repeat (first | (with_reducible exact HZ.out.me) | exact (HZ.out.drewN _).me))).mono ?_); rintro e w' ⟨rfl, ⟨nd, rfl⟩⟩; first | exact ⟨rfl, _, World.drewN_drewN _ _ _⟩ | exact ⟨rfl, _, (World.drewN_drewN _ _ _).trans (congrArg (World.drewN _) (Nat.add_assoc _ _ _))⟩) | (go_at_call 55; (with_reducible refine (utf_Blank.calls (bt s k) true _ HBK.out).mono ?_); rintro e w' ⟨rfl, ⟨nd, rfl⟩⟩; first | exact ⟨rfl, _, World.drewN_drewN _ _ _⟩ | exact ⟨rfl, _, (World.drewN_drewN _ _ _).trans (congrArg (World.drewN _) (Nat.add_assoc _ _ _))⟩)))
                  go_wp2_with fail
                  refine (HU.out _ ?_ ?_).mono ?_
                  · exact Moved.me (w := w) (by repeat (first | (with_reducible exact HZ.out) | (with_reducible apply Moved.drewN) | (with_reducible apply Moved.drew)))
                  · exact ML.below HML.out (Moved.belowB (g := g) (w := w) (s := s) (i := k) (v := v) (by repeat (first | (with_reducible exact HZ.out) | (with_reducible apply Moved.drewN) | (with_reducible apply Moved.drew))) HB.out hg)
                  rintro e w9 ⟨hgu, j, hj⟩
                  unfold gaveUp at hgu
                  subst hgu
                  refine ⟨rfl, ?_⟩
                  rw [HO.out]
                  exact ⟨rfl, j, (by repeat (first | (with_reducible exact HZ.out) | (with_reducible apply Moved.drewN) | (with_reducible apply Moved.drew)) : Moved g w _ s k v).trans hj⟩
                | ok n =>
                  rw [hu] at hO
                  have HO := Aside0.mk hO
                  have HU := Aside0.mk (fun W hat hm => (show Calls Tryd.prog 126 #[.pointer (some ⟨g, 0, none⟩), .string sQE, .int .i64 (i : Int)] W (UpPost g W s sQE k v (.ok n)) from hu ▸ HUP.out W hat hm))
                  clear hO hu hup
                  go_wp2_with fail
                  go_quiet (fail)
                  rw [← HNM.out]
                  go_wp2_with (go_at_call 125; (with_reducible refine (HNA.out _).mono ?_); rintro e w6 ⟨rfl, hb6⟩; have HB6 := Aside0.mk hb6; clear hb6)
                  have HY := Aside0.mk (Moved.below (by repeat (first | (with_reducible exact HX.out) | (with_reducible apply Moved.drewN) | (with_reducible apply Moved.drew))) HB6.out)
                  go_wp2_with fail
                  refine (HLO.out _ (Utf8Tabs_below HT.out (HY.out.belowB HB.out hg))).mono ?_
                  rintro e w7 ⟨rfl, hb7⟩
                  have HZ := Aside0.mk (HY.out.below hb7)
                  clear hb7 c0 c1
                  have c0 := HZ.out.me.c0
                  have c1 := HZ.out.me.c1
                  go_wp2_with fail
                  go_quiet ((first | (go_at_call 54; (with_reducible refine (HNX.out _ (by repeat (first | (with_reducible exact HZ.out.me) | exact (HZ.out.drewN _).me))).mono ?_); rintro e w' ⟨rfl, ⟨nd, rfl⟩⟩; first | exact ⟨rfl, _, World.drewN_drewN _ _ _⟩ | exact ⟨rfl, _, (World.drewN_drewN _ _ _).trans (congrArg (World.drewN _) (Nat.add_assoc _ _ _))⟩) | (go_at_call 55; (with_reducible refine (utf_Blank.calls (bt s k) true _ HBK.out).mono ?_); rintro e w' ⟨rfl, ⟨nd, rfl⟩⟩; first | exact ⟨rfl, _, World.drewN_drewN _ _ _⟩ | exact ⟨rfl, _, (World.drewN_drewN _ _ _).trans (congrArg (World.drewN _) (Nat.add_assoc _ _ _))⟩)))
                  go_wp2_with fail
                  refine (HU.out _ ?_ ?_).mono ?_
                  · exact Moved.me (w := w) (by repeat (first | (with_reducible exact HZ.out) | (with_reducible apply Moved.drewN) | (with_reducible apply Moved.drew)))
                  · exact ML.below HML.out (Moved.belowB (g := g) (w := w) (s := s) (i := k) (v := v) (by repeat (first | (with_reducible exact HZ.out) | (with_reducible apply Moved.drewN) | (with_reducible apply Moved.drew))) HB.out hg)
                  rintro e w9 ⟨rfl, hj⟩
                  have HJ := Aside0.mk hj
                  clear hj
                  go_wp2_with fail
                  go_end0
                  rw [HO.out]
                  exact ⟨rfl, (by repeat (first | (with_reducible exact HZ.out) | (with_reducible apply Moved.drewN) | (with_reducible apply Moved.drew)) : Moved g w _ s k v).trans HJ.out⟩
end Go.Proofs.YtffpbhbiamkkpaaDoor.Lx
