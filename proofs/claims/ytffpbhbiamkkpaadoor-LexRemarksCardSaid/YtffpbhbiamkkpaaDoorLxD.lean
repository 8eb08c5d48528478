/- The lexer's text. -/
import Derived.Test.YtffpbhbiamkkpaaDoorLxC
namespace Go.Proofs.YtffpbhbiamkkpaaDoor.Lx
open Go.RowKit Go.Proofs.YtffpbhbiamkkpaaDoorW.PrintWords Go.Proofs.YtffpbhbiamkkpaaDoorW.PrintLast Go.Proofs.YtffpbhbiamkkpaaDoorW.PrintMore Go.Proofs.YtffpbhbiamkkpaaDoor.PU
set_option linter.unusedVariables false

abbrev sEnd : ByteArray := ⟨#[93, 93, 62]⟩
/-- A text up to place e. -/
def textAt (s : ByteArray) (i e : Nat) : Option (Except (Int × Int) (Tok × Nat)) :=
  (PL.lex_Unescape.f (s.extract i e) false).map fun u =>
    if 0 ≤ Lib.index (s.extract i e).data.toList sEnd.data.toList ∧ (u.2.2 = 0 ∨ Lib.index (s.extract i e).data.toList sEnd.data.toList < u.2.1) then .error ((i : Int) + Lib.index (s.extract i e).data.toList sEnd.data.toList, 11)
    else if u.2.2 = 0 then .ok (⟨4, i, ⟨#[]⟩, [], u.1⟩, e) else .error ((i : Int) + u.2.1, u.2.2)
def textS (s : ByteArray) (i : Nat) : Option (Except (Int × Int) (Tok × Nat)) :=
  if Lib.indexByte (s.data.toList.drop i) 60 < 0 then textAt s i s.size else textAt s i (i + (Lib.indexByte (s.data.toList.drop i) 60).toNat)

set_option maxHeartbeats 4000000 in
set_option maxRecDepth 100000 in
theorem text_calls (w0 : World) (g : Nat) (s : ByteArray) (i : Nat) (l : List Tok) (w : World) (r : Except (Int × Int) (Tok × Nat)) (h : Held w0 g s i l w) (hml : ML w) (hg : g ≠ 1) (hi : i ≤ s.size) (hs : s.size < 4294967281) (hl : l.length < 1000000) (hr : textS s i = some r) :
    Calls Tryd.prog 97 #[.pointer (some ⟨g, 0, none⟩)] w (PushPost w0 g s l r) := by
  obtain ⟨hlt, hbel, v, hat, hS⟩ := h
  obtain ⟨Av, cv, rfl⟩ := Kd.S_slice hS
  obtain ⟨v, hv⟩ : ∃ v, v = Value.slice Av l.length cv := ⟨_, rfl⟩
  rw [← hv] at hat hS
  have HVS := Aside0.mk hv
  clear hv
  have c0 := hat.c0
  have c1 := hat.c1
  have f1 := hat.f0 1
  have HV := Aside0.mk hat.moved
  have HS := Aside0.mk hS
  have HBL := Aside0.mk hbel
  have HML := Aside0.mk hml
  clear hat hS hbel hml
  have HP := Aside0.mk (fun W => ib_calls (s.extract i s.size) 60 W)
  rw [drop_data] at HP
  unfold textS at hr
  have hxl := fun hx => Go.Plain.index_lt (l := s.data.toList.drop i) (c := 60) hx
  rw [List.length_drop, ← Lib.size_eq s] at hxl
  have HP := Aside0.mk (show ∀ W, Calls Tryd.prog 47 #[.string (s.extract i s.size), .int .u8 60] W fun e w' => e = .returned (.int .i64 (Lib.indexByte (s.data.toList.drop i) 60)) ∧ Drawn0 W w' from fun W => HP.out W)
  generalize hx : Lib.indexByte (s.data.toList.drop i) 60 = x at HP hr hxl
  clear hx
  have q0 := eq_true (show (0 : Int) ≤ (i : Int) by omega)
  have q1 := eq_true (show (i : Int) ≤ (s.size : Int) by omega)
  have q2 := eq_true (show i ≤ s.size by omega)
  by_cases hx0 : x < 0
  · rw [if_pos hx0] at hr
    have hx1 := eq_true hx0
    have hx2 : decide (x < 0) = true := decide_eq_true hx0
    clear hxl
    obtain ⟨n, hn⟩ : ∃ n : Nat, n = s.size - i := ⟨_, rfl⟩
    have e0 : (s.size : Int) - (i : Int) = (n : Int) := by omega
    have w0' : IntKind.i64.wrap (n : Int) = (n : Int) := IntWalk.i64_in _ (by omega)
    obtain ⟨e, he⟩ : ∃ e : Nat, e = s.size := ⟨_, rfl⟩
    rw [← he] at hr
    have e1 : (i : Int) + (n : Int) = (e : Int) := by omega
    have hie : i ≤ e := by omega
    have hes : e ≤ s.size := by omega
    clear hn he
    have k1 := eq_true (show (0 : Int) ≤ (e : Int) by omega)
    have k2 := eq_true (show (i : Int) ≤ (e : Int) by omega)
    have k3 := eq_true (show (e : Int) ≤ (s.size : Int) by omega)
    have k4 := eq_true (show i ≤ e by omega)
    have k5 := eq_true (show e ≤ s.size by omega)
    have w1 : IntKind.i64.wrap (e : Int) = (e : Int) := IntWalk.i64_in _ (by omega)
    have b0 : e ≤ s.size := hes
    unfold textAt at hr
    obtain ⟨⟨t, a, c⟩, hu, hr⟩ := Option.map_eq_some_iff.1 hr
    simp only at hr
    have hru := unescape_range _ _ _ _ _ hu
    have hsz : (s.extract i e).size ≤ s.size := by rw [ByteArray.size_extract]; omega
    have HQ := Aside0.mk (fun W (hm : ML W) => ix_calls (s.extract i e) sEnd W (by omega) hm)
    have hkr := Lib.index_room (s.extract i e).data.toList sEnd.data.toList
    have hk3 : sEnd.data.toList.length = 3 := rfl
    rw [← Lib.size_eq (s.extract i e)] at hkr
    generalize hk : Lib.index (s.extract i e).data.toList sEnd.data.toList = k at hr HQ hkr
    have hku : k ≤ s.size := by omega
    have ha0 : 0 ≤ a := hru.1
    have ha1 : a ≤ s.size := by omega
    have HU := Aside0.mk hu
    clear hk hu hkr hk3 hru hsz hes
    by_cases hk0 : 0 ≤ k
    · have hk1 := eq_true hk0
      have hk2 : decide (0 ≤ k) = true := decide_eq_true hk0
      by_cases hc : c = 0
      · subst hc
        rw [if_pos ⟨hk0, Or.inl rfl⟩] at hr
        subst hr
        go_enter Tryd.func97, Tryd.ntmps97
        go_wp2
        go_quiet ((go_at_call 47; (with_reducible refine (HP.out _).mono ?_); rintro e w' ⟨rfl, ⟨nd, rfl⟩⟩; exact ⟨rfl, _, World.drewN_drewN _ _ _⟩))
        go_wp2
        go_quiet (fail)
        go_wp2
        go_quiet (fail)
        go_wp2_with (first | (go_at_call 21; (with_reducible refine (PL.lex_Unescape.calls (s.extract i e) false t a 0 _ (by with_reducible repeat (first | exact HML.out | apply ML.drewN | apply ML.drew)) HU.out).mono ?_); rintro e2 w2 ⟨rfl, hb2⟩; have HV2 := Aside0.mk (Moved.below (by repeat (first | (with_reducible exact HV.out) | (with_reducible apply Moved.drewN) | (with_reducible apply Moved.drew))) hb2); clear hb2; have d0 := HV2.out.me.c0; have d1 := HV2.out.me.c1; have df := HV2.out.me.f0 1; have d2 := HV2.out.me.c2) | (go_at_call 130; (with_reducible refine (HQ.out _ (by with_reducible repeat (first | exact Moved.ml HV2.out HML.out hg | apply ML.drewN | apply ML.drew))).mono ?_); rintro e3 w3 ⟨rfl, ⟨nd, rfl⟩⟩) | (go_at_call 91; (with_reducible refine (fail_calls _ _ _ _).mono ?_); rintro e4 w4 ⟨hgu, rfl⟩; unfold gaveUp at hgu; subst hgu))
        refine ⟨rfl, rfl, ?_⟩
        exact Moved.belowB (s := s) (i := i) (v := v) (by repeat (first | (with_reducible exact HV2.out) | (with_reducible apply Moved.drewN) | (with_reducible apply Moved.drew))) HBL.out hlt
      · have hc1 : (c == 0) = false := beq_eq_false_iff_ne.2 hc
        have hc2 : (c != 0) = true := bne_iff_ne.2 hc
        by_cases hka : k < a
        · have hka1 := eq_true hka
          have hka2 : decide (k < a) = true := decide_eq_true hka
          rw [if_pos ⟨hk0, Or.inr hka⟩] at hr
          subst hr
          go_enter Tryd.func97, Tryd.ntmps97
          go_wp2
          go_quiet ((go_at_call 47; (with_reducible refine (HP.out _).mono ?_); rintro e w' ⟨rfl, ⟨nd, rfl⟩⟩; exact ⟨rfl, _, World.drewN_drewN _ _ _⟩))
          go_wp2
          go_quiet (fail)
          go_wp2
          go_quiet (fail)
          go_wp2_with (first | (go_at_call 21; (with_reducible refine (PL.lex_Unescape.calls (s.extract i e) false t a c _ (by with_reducible repeat (first | exact HML.out | apply ML.drewN | apply ML.drew)) HU.out).mono ?_); rintro e2 w2 ⟨rfl, hb2⟩; have HV2 := Aside0.mk (Moved.below (by repeat (first | (with_reducible exact HV.out) | (with_reducible apply Moved.drewN) | (with_reducible apply Moved.drew))) hb2); clear hb2; have d0 := HV2.out.me.c0; have d1 := HV2.out.me.c1; have df := HV2.out.me.f0 1; have d2 := HV2.out.me.c2) | (go_at_call 130; (with_reducible refine (HQ.out _ (by with_reducible repeat (first | exact Moved.ml HV2.out HML.out hg | apply ML.drewN | apply ML.drew))).mono ?_); rintro e3 w3 ⟨rfl, ⟨nd, rfl⟩⟩) | (go_at_call 91; (with_reducible refine (fail_calls _ _ _ _).mono ?_); rintro e4 w4 ⟨hgu, rfl⟩; unfold gaveUp at hgu; subst hgu))
          refine ⟨rfl, rfl, ?_⟩
          exact Moved.belowB (s := s) (i := i) (v := v) (by repeat (first | (with_reducible exact HV2.out) | (with_reducible apply Moved.drewN) | (with_reducible apply Moved.drew))) HBL.out hlt
        · have hka1 := eq_false hka
          have hka2 : decide (k < a) = false := decide_eq_false hka
          rw [if_neg (fun h => h.2.elim hc hka), if_neg hc] at hr
          subst hr
          go_enter Tryd.func97, Tryd.ntmps97
          go_wp2
          go_quiet ((go_at_call 47; (with_reducible refine (HP.out _).mono ?_); rintro e w' ⟨rfl, ⟨nd, rfl⟩⟩; exact ⟨rfl, _, World.drewN_drewN _ _ _⟩))
          go_wp2
          go_quiet (fail)
          go_wp2
          go_quiet (fail)
          go_wp2_with (first | (go_at_call 21; (with_reducible refine (PL.lex_Unescape.calls (s.extract i e) false t a c _ (by with_reducible repeat (first | exact HML.out | apply ML.drewN | apply ML.drew)) HU.out).mono ?_); rintro e2 w2 ⟨rfl, hb2⟩; have HV2 := Aside0.mk (Moved.below (by repeat (first | (with_reducible exact HV.out) | (with_reducible apply Moved.drewN) | (with_reducible apply Moved.drew))) hb2); clear hb2; have d0 := HV2.out.me.c0; have d1 := HV2.out.me.c1; have df := HV2.out.me.f0 1; have d2 := HV2.out.me.c2) | (go_at_call 130; (with_reducible refine (HQ.out _ (by with_reducible repeat (first | exact Moved.ml HV2.out HML.out hg | apply ML.drewN | apply ML.drew))).mono ?_); rintro e3 w3 ⟨rfl, ⟨nd, rfl⟩⟩) | (go_at_call 91; (with_reducible refine (fail_calls _ _ _ _).mono ?_); rintro e4 w4 ⟨hgu, rfl⟩; unfold gaveUp at hgu; subst hgu))
          refine ⟨rfl, rfl, ?_⟩
          exact Moved.belowB (s := s) (i := i) (v := v) (by repeat (first | (with_reducible exact HV2.out) | (with_reducible apply Moved.drewN) | (with_reducible apply Moved.drew))) HBL.out hlt
    · have hk1 := eq_false hk0
      have hk2 : decide (0 ≤ k) = false := decide_eq_false hk0
      rw [if_neg (fun h => hk0 h.1)] at hr
      by_cases hc : c = 0
      · subst hc
        rw [if_pos rfl] at hr
        subst hr
        go_enter Tryd.func97, Tryd.ntmps97
        go_wp2
        go_quiet ((go_at_call 47; (with_reducible refine (HP.out _).mono ?_); rintro e w' ⟨rfl, ⟨nd, rfl⟩⟩; exact ⟨rfl, _, World.drewN_drewN _ _ _⟩))
        go_wp2
        go_quiet (fail)
        go_wp2
        go_quiet (fail)
        go_wp2_with (first | (go_at_call 21; (with_reducible refine (PL.lex_Unescape.calls (s.extract i e) false t a 0 _ (by with_reducible repeat (first | exact HML.out | apply ML.drewN | apply ML.drew)) HU.out).mono ?_); rintro e2 w2 ⟨rfl, hb2⟩; have HV2 := Aside0.mk (Moved.below (by repeat (first | (with_reducible exact HV.out) | (with_reducible apply Moved.drewN) | (with_reducible apply Moved.drew))) hb2); clear hb2; have d0 := HV2.out.me.c0; have d1 := HV2.out.me.c1; have df := HV2.out.me.f0 1; have d2 := HV2.out.me.c2) | (go_at_call 130; (with_reducible refine (HQ.out _ (by with_reducible repeat (first | exact Moved.ml HV2.out HML.out hg | apply ML.drewN | apply ML.drew))).mono ?_); rintro e3 w3 ⟨rfl, ⟨nd, rfl⟩⟩) | (at_builtin; refine push_tok (w0 := w0) (g := g) (s := s) (j := e) (v := v) (l := l) (⟨4, i, ⟨#[]⟩, [], t⟩ : Tok) [.int .i64 4, .int .i64 i, .string ⟨#[]⟩, .slice none 0 0, .string t] (fun _ => False) rfl (.tmp 94) (.tmp 98) rfl rfl (by first | rfl | (go_simp; done) | (go_simp; rfl)) (kTok_mk _ _ _ (⟨4, i, ⟨#[]⟩, [], t⟩ : Tok) (Kd.R_nil _ _ _ _ _)) (fun _ h => h.elim) hlt HBL.out (Kd.S_mono HS.out (fun _ h => ⟨h, fun h => h⟩)) hl (by repeat (first | (with_reducible exact HV2.out) | (with_reducible apply Moved.drewN) | (with_reducible apply Moved.drew) | refine Moved.set (i := i) ?_ (q := e) rfl)) ?_; intro A' n' c' w5 hat5 hheld; have HH := Aside0.mk hheld; have g2 := hat5.c2; have gf := hat5.f0 2; clear hat5 hheld))
        go_end0
        exact ⟨rfl, HH.out⟩
      · have hc1 : (c == 0) = false := beq_eq_false_iff_ne.2 hc
        have hc2 : (c != 0) = true := bne_iff_ne.2 hc
        rw [if_neg hc] at hr
        subst hr
        go_enter Tryd.func97, Tryd.ntmps97
        go_wp2
        go_quiet ((go_at_call 47; (with_reducible refine (HP.out _).mono ?_); rintro e w' ⟨rfl, ⟨nd, rfl⟩⟩; exact ⟨rfl, _, World.drewN_drewN _ _ _⟩))
        go_wp2
        go_quiet (fail)
        go_wp2
        go_quiet (fail)
        go_wp2_with (first | (go_at_call 21; (with_reducible refine (PL.lex_Unescape.calls (s.extract i e) false t a c _ (by with_reducible repeat (first | exact HML.out | apply ML.drewN | apply ML.drew)) HU.out).mono ?_); rintro e2 w2 ⟨rfl, hb2⟩; have HV2 := Aside0.mk (Moved.below (by repeat (first | (with_reducible exact HV.out) | (with_reducible apply Moved.drewN) | (with_reducible apply Moved.drew))) hb2); clear hb2; have d0 := HV2.out.me.c0; have d1 := HV2.out.me.c1; have df := HV2.out.me.f0 1; have d2 := HV2.out.me.c2) | (go_at_call 130; (with_reducible refine (HQ.out _ (by with_reducible repeat (first | exact Moved.ml HV2.out HML.out hg | apply ML.drewN | apply ML.drew))).mono ?_); rintro e3 w3 ⟨rfl, ⟨nd, rfl⟩⟩) | (go_at_call 91; (with_reducible refine (fail_calls _ _ _ _).mono ?_); rintro e4 w4 ⟨hgu, rfl⟩; unfold gaveUp at hgu; subst hgu))
        refine ⟨rfl, rfl, ?_⟩
        exact Moved.belowB (s := s) (i := i) (v := v) (by repeat (first | (with_reducible exact HV2.out) | (with_reducible apply Moved.drewN) | (with_reducible apply Moved.drew))) HBL.out hlt
  · rw [if_neg hx0] at hr
    have hxl := hxl hx0
    obtain ⟨n, rfl⟩ := Int.eq_ofNat_of_zero_le (show 0 ≤ x by omega)
    simp only [Int.toNat_natCast] at hr hxl
    have hx1 := eq_false hx0
    have hx2 : decide ((n : Int) < 0) = false := decide_eq_false hx0
    obtain ⟨e, he⟩ : ∃ e : Nat, e = i + n := ⟨_, rfl⟩
    rw [← he] at hr
    have e1 : (i : Int) + (n : Int) = (e : Int) := by omega
    have hie : i ≤ e := by omega
    have hes : e ≤ s.size := by omega
    clear he hxl
    have k1 := eq_true (show (0 : Int) ≤ (e : Int) by omega)
    have k2 := eq_true (show (i : Int) ≤ (e : Int) by omega)
    have k3 := eq_true (show (e : Int) ≤ (s.size : Int) by omega)
    have k4 := eq_true (show i ≤ e by omega)
    have k5 := eq_true (show e ≤ s.size by omega)
    have w1 : IntKind.i64.wrap (e : Int) = (e : Int) := IntWalk.i64_in _ (by omega)
    have b0 : e ≤ s.size := hes
    unfold textAt at hr
    obtain ⟨⟨t, a, c⟩, hu, hr⟩ := Option.map_eq_some_iff.1 hr
    simp only at hr
    have hru := unescape_range _ _ _ _ _ hu
    have hsz : (s.extract i e).size ≤ s.size := by rw [ByteArray.size_extract]; omega
    have HQ := Aside0.mk (fun W (hm : ML W) => ix_calls (s.extract i e) sEnd W (by omega) hm)
    have hkr := Lib.index_room (s.extract i e).data.toList sEnd.data.toList
    have hk3 : sEnd.data.toList.length = 3 := rfl
    rw [← Lib.size_eq (s.extract i e)] at hkr
    generalize hk : Lib.index (s.extract i e).data.toList sEnd.data.toList = k at hr HQ hkr
    have hku : k ≤ s.size := by omega
    have ha0 : 0 ≤ a := hru.1
    have ha1 : a ≤ s.size := by omega
    have HU := Aside0.mk hu
    clear hk hu hkr hk3 hru hsz hes
    by_cases hk0 : 0 ≤ k
    · have hk1 := eq_true hk0
      have hk2 : decide (0 ≤ k) = true := decide_eq_true hk0
      by_cases hc : c = 0
      · subst hc
        rw [if_pos ⟨hk0, Or.inl rfl⟩] at hr
        subst hr
        go_enter Tryd.func97, Tryd.ntmps97
        go_wp2
        go_quiet ((go_at_call 47; (with_reducible refine (HP.out _).mono ?_); rintro e w' ⟨rfl, ⟨nd, rfl⟩⟩; exact ⟨rfl, _, World.drewN_drewN _ _ _⟩))
        go_wp2
        go_quiet (fail)
        go_wp2_with (first | (go_at_call 21; (with_reducible refine (PL.lex_Unescape.calls (s.extract i e) false t a 0 _ (by with_reducible repeat (first | exact HML.out | apply ML.drewN | apply ML.drew)) HU.out).mono ?_); rintro e2 w2 ⟨rfl, hb2⟩; have HV2 := Aside0.mk (Moved.below (by repeat (first | (with_reducible exact HV.out) | (with_reducible apply Moved.drewN) | (with_reducible apply Moved.drew))) hb2); clear hb2; have d0 := HV2.out.me.c0; have d1 := HV2.out.me.c1; have df := HV2.out.me.f0 1; have d2 := HV2.out.me.c2) | (go_at_call 130; (with_reducible refine (HQ.out _ (by with_reducible repeat (first | exact Moved.ml HV2.out HML.out hg | apply ML.drewN | apply ML.drew))).mono ?_); rintro e3 w3 ⟨rfl, ⟨nd, rfl⟩⟩) | (go_at_call 91; (with_reducible refine (fail_calls _ _ _ _).mono ?_); rintro e4 w4 ⟨hgu, rfl⟩; unfold gaveUp at hgu; subst hgu))
        refine ⟨rfl, rfl, ?_⟩
        exact Moved.belowB (s := s) (i := i) (v := v) (by repeat (first | (with_reducible exact HV2.out) | (with_reducible apply Moved.drewN) | (with_reducible apply Moved.drew))) HBL.out hlt
      · have hc1 : (c == 0) = false := beq_eq_false_iff_ne.2 hc
        have hc2 : (c != 0) = true := bne_iff_ne.2 hc
        by_cases hka : k < a
        · have hka1 := eq_true hka
          have hka2 : decide (k < a) = true := decide_eq_true hka
          rw [if_pos ⟨hk0, Or.inr hka⟩] at hr
          subst hr
          go_enter Tryd.func97, Tryd.ntmps97
          go_wp2
          go_quiet ((go_at_call 47; (with_reducible refine (HP.out _).mono ?_); rintro e w' ⟨rfl, ⟨nd, rfl⟩⟩; exact ⟨rfl, _, World.drewN_drewN _ _ _⟩))
          go_wp2
          go_quiet (fail)
          go_wp2_with (first | (go_at_call 21; (with_reducible refine (PL.lex_Unescape.calls (s.extract i e) false t a c _ (by with_reducible repeat (first | exact HML.out | apply ML.drewN | apply ML.drew)) HU.out).mono ?_); rintro e2 w2 ⟨rfl, hb2⟩; have HV2 := Aside0.mk (Moved.below (by repeat (first | (with_reducible exact HV.out) | (with_reducible apply Moved.drewN) | (with_reducible apply Moved.drew))) hb2); clear hb2; have d0 := HV2.out.me.c0; have d1 := HV2.out.me.c1; have df := HV2.out.me.f0 1; have d2 := HV2.out.me.c2) | (go_at_call 130; (with_reducible refine (HQ.out _ (by with_reducible repeat (first | exact Moved.ml HV2.out HML.out hg | apply ML.drewN | apply ML.drew))).mono ?_); rintro e3 w3 ⟨rfl, ⟨nd, rfl⟩⟩) | (go_at_call 91; (with_reducible refine (fail_calls _ _ _ _).mono ?_); rintro e4 w4 ⟨hgu, rfl⟩; unfold gaveUp at hgu; subst hgu))
          refine ⟨rfl, rfl, ?_⟩
          exact Moved.belowB (s := s) (i := i) (v := v) (by repeat (first | (with_reducible exact HV2.out) | (with_reducible apply Moved.drewN) | (with_reducible apply Moved.drew))) HBL.out hlt
        · have hka1 := eq_false hka
          have hka2 : decide (k < a) = false := decide_eq_false hka
          rw [if_neg (fun h => h.2.elim hc hka), if_neg hc] at hr
          subst hr
          go_enter Tryd.func97, Tryd.ntmps97
          go_wp2
          go_quiet ((go_at_call 47; (with_reducible refine (HP.out _).mono ?_); rintro e w' ⟨rfl, ⟨nd, rfl⟩⟩; exact ⟨rfl, _, World.drewN_drewN _ _ _⟩))
          go_wp2
          go_quiet (fail)
          go_wp2_with (first | (go_at_call 21; (with_reducible refine (PL.lex_Unescape.calls (s.extract i e) false t a c _ (by with_reducible repeat (first | exact HML.out | apply ML.drewN | apply ML.drew)) HU.out).mono ?_); rintro e2 w2 ⟨rfl, hb2⟩; have HV2 := Aside0.mk (Moved.below (by repeat (first | (with_reducible exact HV.out) | (with_reducible apply Moved.drewN) | (with_reducible apply Moved.drew))) hb2); clear hb2; have d0 := HV2.out.me.c0; have d1 := HV2.out.me.c1; have df := HV2.out.me.f0 1; have d2 := HV2.out.me.c2) | (go_at_call 130; (with_reducible refine (HQ.out _ (by with_reducible repeat (first | exact Moved.ml HV2.out HML.out hg | apply ML.drewN | apply ML.drew))).mono ?_); rintro e3 w3 ⟨rfl, ⟨nd, rfl⟩⟩) | (go_at_call 91; (with_reducible refine (fail_calls _ _ _ _).mono ?_); rintro e4 w4 ⟨hgu, rfl⟩; unfold gaveUp at hgu; subst hgu))
          refine ⟨rfl, rfl, ?_⟩
          exact Moved.belowB (s := s) (i := i) (v := v) (by repeat (first | (with_reducible exact HV2.out) | (with_reducible apply Moved.drewN) | (with_reducible apply Moved.drew))) HBL.out hlt
    · have hk1 := eq_false hk0
      have hk2 : decide (0 ≤ k) = false := decide_eq_false hk0
      rw [if_neg (fun h => hk0 h.1)] at hr
      by_cases hc : c = 0
      · subst hc
        rw [if_pos rfl] at hr
        subst hr
        go_enter Tryd.func97, Tryd.ntmps97
        go_wp2
        go_quiet ((go_at_call 47; (with_reducible refine (HP.out _).mono ?_); rintro e w' ⟨rfl, ⟨nd, rfl⟩⟩; exact ⟨rfl, _, World.drewN_drewN _ _ _⟩))
        go_wp2
        go_quiet (fail)
        go_wp2_with (first | (go_at_call 21; (with_reducible refine (PL.lex_Unescape.calls (s.extract i e) false t a 0 _ (by with_reducible repeat (first | exact HML.out | apply ML.drewN | apply ML.drew)) HU.out).mono ?_); rintro e2 w2 ⟨rfl, hb2⟩; have HV2 := Aside0.mk (Moved.below (by repeat (first | (with_reducible exact HV.out) | (with_reducible apply Moved.drewN) | (with_reducible apply Moved.drew))) hb2); clear hb2; have d0 := HV2.out.me.c0; have d1 := HV2.out.me.c1; have df := HV2.out.me.f0 1; have d2 := HV2.out.me.c2) | (go_at_call 130; (with_reducible refine (HQ.out _ (by with_reducible repeat (first | exact Moved.ml HV2.out HML.out hg | apply ML.drewN | apply ML.drew))).mono ?_); rintro e3 w3 ⟨rfl, ⟨nd, rfl⟩⟩) | (at_builtin; refine push_tok (w0 := w0) (g := g) (s := s) (j := e) (v := v) (l := l) (⟨4, i, ⟨#[]⟩, [], t⟩ : Tok) [.int .i64 4, .int .i64 i, .string ⟨#[]⟩, .slice none 0 0, .string t] (fun _ => False) rfl (.tmp 94) (.tmp 98) rfl rfl (by first | rfl | (go_simp; done) | (go_simp; rfl)) (kTok_mk _ _ _ (⟨4, i, ⟨#[]⟩, [], t⟩ : Tok) (Kd.R_nil _ _ _ _ _)) (fun _ h => h.elim) hlt HBL.out (Kd.S_mono HS.out (fun _ h => ⟨h, fun h => h⟩)) hl (by repeat (first | (with_reducible exact HV2.out) | (with_reducible apply Moved.drewN) | (with_reducible apply Moved.drew) | refine Moved.set (i := i) ?_ (q := e) rfl)) ?_; intro A' n' c' w5 hat5 hheld; have HH := Aside0.mk hheld; have g2 := hat5.c2; have gf := hat5.f0 2; clear hat5 hheld))
        go_end0
        exact ⟨rfl, HH.out⟩
      · have hc1 : (c == 0) = false := beq_eq_false_iff_ne.2 hc
        have hc2 : (c != 0) = true := bne_iff_ne.2 hc
        rw [if_neg hc] at hr
        subst hr
        go_enter Tryd.func97, Tryd.ntmps97
        go_wp2
        go_quiet ((go_at_call 47; (with_reducible refine (HP.out _).mono ?_); rintro e w' ⟨rfl, ⟨nd, rfl⟩⟩; exact ⟨rfl, _, World.drewN_drewN _ _ _⟩))
        go_wp2
        go_quiet (fail)
        go_wp2_with (first | (go_at_call 21; (with_reducible refine (PL.lex_Unescape.calls (s.extract i e) false t a c _ (by with_reducible repeat (first | exact HML.out | apply ML.drewN | apply ML.drew)) HU.out).mono ?_); rintro e2 w2 ⟨rfl, hb2⟩; have HV2 := Aside0.mk (Moved.below (by repeat (first | (with_reducible exact HV.out) | (with_reducible apply Moved.drewN) | (with_reducible apply Moved.drew))) hb2); clear hb2; have d0 := HV2.out.me.c0; have d1 := HV2.out.me.c1; have df := HV2.out.me.f0 1; have d2 := HV2.out.me.c2) | (go_at_call 130; (with_reducible refine (HQ.out _ (by with_reducible repeat (first | exact Moved.ml HV2.out HML.out hg | apply ML.drewN | apply ML.drew))).mono ?_); rintro e3 w3 ⟨rfl, ⟨nd, rfl⟩⟩) | (go_at_call 91; (with_reducible refine (fail_calls _ _ _ _).mono ?_); rintro e4 w4 ⟨hgu, rfl⟩; unfold gaveUp at hgu; subst hgu))
        refine ⟨rfl, rfl, ?_⟩
        exact Moved.belowB (s := s) (i := i) (v := v) (by repeat (first | (with_reducible exact HV2.out) | (with_reducible apply Moved.drewN) | (with_reducible apply Moved.drew))) HBL.out hlt
end Go.Proofs.YtffpbhbiamkkpaaDoor.Lx
