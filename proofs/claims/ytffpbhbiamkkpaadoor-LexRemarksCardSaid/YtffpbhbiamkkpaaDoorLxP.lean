/- The lexer: what stands at a place. -/
import Derived.Test.YtffpbhbiamkkpaaDoorLxF
import Derived.Test.YtffpbhbiamkkpaaDoorLxD
import Derived.Test.YtffpbhbiamkkpaaDoorLxN
import Derived.Test.YtffpbhbiamkkpaaDoorLxO
namespace Go.Proofs.YtffpbhbiamkkpaaDoor.Lx
open Go.RowKit Go.Proofs.YtffpbhbiamkkpaaDoorW.PrintWords Go.Proofs.YtffpbhbiamkkpaaDoorW.PrintLast Go.Proofs.YtffpbhbiamkkpaaDoorW.PrintMore Go.Proofs.YtffpbhbiamkkpaaDoor.PU
set_option linter.unusedVariables false
abbrev sPi : ByteArray := ⟨#[60, 63]⟩
abbrev sCom : ByteArray := ⟨#[60, 33, 45, 45]⟩
abbrev sCd : ByteArray := ⟨#[60, 33, 91, 67, 68, 65, 84, 65, 91]⟩
abbrev sBD : ByteArray := ⟨#[60, 33, 68]⟩
abbrev sBang : ByteArray := ⟨#[60, 33]⟩
abbrev sEnd2 : ByteArray := ⟨#[60, 47]⟩
abbrev sLt : ByteArray := ⟨#[60]⟩
def someTok : Except (Int × Int) (Tok × Nat) → Except (Int × Int) (List Tok × Nat)
  | .error e => .error e
  | .ok (t, j) => .ok ([t], j)
/-- What stands at a place: its tokens and the place behind; or what is wrong. -/
def oneS (s : ByteArray) (i : Nat) : Option (Except (Int × Int) (List Tok × Nat)) :=
  if nextB s i sPi = true then some (match orderS s i with | .error e => .error e | .ok j => .ok ([], j))
  else if nextB s i sCom = true then some (match commentS s i with | .error e => .error e | .ok j => .ok ([], j))
  else if nextB s i sCd = true then (sectionS s i).map someTok
  else if nextB s i sBD = true then some (.error ((i : Int), 17))
  else if nextB s i sBang = true then some (.error ((i : Int), 4))
  else if nextB s i sEnd2 = true then some (someTok (closingS s i))
  else if nextB s i sLt = true then (tagS s i).map someTok
  else (textS s i).map someTok
def OnePost (w0 : World) (g : Nat) (s : ByteArray) (l : List Tok) : Except (Int × Int) (List Tok × Nat) → Ending → World → Prop
  | .ok (t, j), e, w' => e = .returned (.tuple #[]) ∧ Held w0 g s j (l ++ t) w'
  | .error (a, c), e, w' => gaveUp e a c ∧ Below w0.heap.size w0 w'
theorem Held.drewN {w0 w : World} {g : Nat} {s : ByteArray} {i : Nat} {l : List Tok} (h : Held w0 g s i l w) (n : Nat) : Held w0 g s i l (w.drewN n) :=
  ⟨h.lt, pw_below_drewN h.below n, let ⟨v, ha, hS⟩ := h.ex; ⟨v, ha, Kd.S_drewN hS n⟩⟩
theorem Held.drew {w0 w : World} {g : Nat} {s : ByteArray} {i : Nat} {l : List Tok} (h : Held w0 g s i l w) : Held w0 g s i l w.drew :=
  ⟨h.lt, below_drew h.below, let ⟨v, ha, hS⟩ := h.ex; ⟨v, ha, Kd.S_drew hS⟩⟩
theorem Held.ml {w0 w : World} {g : Nat} {s : ByteArray} {i : Nat} {l : List Tok} (h : Held w0 g s i l w) (hml : ML w0) : ML w := hml.below h.below
theorem Held.ne {w0 w : World} {g : Nat} {s : ByteArray} {i : Nat} {l : List Tok} (h : Held w0 g s i l w) (hml : ML w0) : g ≠ 1 := by have := hml.lt; have := h.lt; omega
theorem push_one {w0 : World} {g : Nat} {s : ByteArray} {l : List Tok} {r : Except (Int × Int) (Tok × Nat)} {e : Ending} {w : World} (h : PushPost w0 g s l r e w) : OnePost w0 g s l (someTok r) e w := by
  cases r with
  | error p => exact h
  | ok p => exact h
theorem comment_one (w0 : World) (g : Nat) (s : ByteArray) (i : Nat) (l : List Tok) (w : World) (h : Held w0 g s i l w) (hml : ML w0) (hi : i + 4 ≤ s.size) (hs : s.size < 4294967281) :
    Calls Tryd.prog 93 #[.pointer (some ⟨g, 0, none⟩)] w (OnePost w0 g s l (match commentS s i with | .error e => .error e | .ok j => .ok ([], j))) := by
  have hm := h.ml hml
  have hne := h.ne hml
  obtain ⟨hlt, hbel, v, hat, hS⟩ := h
  refine (comment_calls g s i v w hat hm hne hi hs).mono ?_
  intro e w' hp
  cases hc : commentS s i with
  | error p =>
    rw [hc] at hp
    obtain ⟨hg, j, hm⟩ := hp
    exact ⟨hg, hm.belowB hbel hlt⟩
  | ok j =>
    rw [hc] at hp
    obtain ⟨he, hm⟩ := hp
    exact ⟨he, hlt, hm.belowB hbel hlt, v, hm.me, by rw [List.append_nil]; exact hm.toks hS (fun _ h => h)⟩
theorem order_one (w0 : World) (g : Nat) (s : ByteArray) (i : Nat) (l : List Tok) (w : World) (h : Held w0 g s i l w) (hml : ML w0) (hT : U8 w0) (hi : i + 2 ≤ s.size) (hs : s.size < 4294967281) :
    Calls Tryd.prog 92 #[.pointer (some ⟨g, 0, none⟩)] w (OnePost w0 g s l (match orderS s i with | .error e => .error e | .ok j => .ok ([], j))) := by
  obtain ⟨hlt, hbel, v, hat, hS⟩ := h
  refine (order_calls w0 g s i v w hat hbel hlt hml hT hi hs).mono ?_
  intro e w' hp
  cases hc : orderS s i with
  | error p =>
    rw [hc] at hp
    obtain ⟨hg, j, hm⟩ := hp
    exact ⟨hg, hm.belowB hbel hlt⟩
  | ok j =>
    rw [hc] at hp
    obtain ⟨he, hm⟩ := hp
    exact ⟨he, hlt, hm.belowB hbel hlt, v, hm.me, by rw [List.append_nil]; exact hm.toks hS (fun _ h => h)⟩

set_option maxHeartbeats 4000000 in
set_option maxRecDepth 100000 in
theorem one_calls (w0 : World) (g : Nat) (s : ByteArray) (i : Nat) (l : List Tok) (w : World) (r : Except (Int × Int) (List Tok × Nat)) (h : Held w0 g s i l w) (hml : ML w0) (hT : U8 w0) (hi : i < s.size) (hs : s.size < 4294967281) (hl : l.length < 1000000) (hr : oneS s i = some r) :
    Calls Tryd.prog 57 #[.pointer (some ⟨g, 0, none⟩)] w (OnePost w0 g s l r) := by
  have HH := Aside0.mk h
  obtain ⟨v, hat, hS⟩ := h.ex
  have HML := Aside0.mk hml
  have HT := Aside0.mk hT
  have hN := fun (t : ByteArray) (W : World) (h : At W g s i v) => next_calls g s t i v W h (by omega)
  have HA := Aside0.mk hat
  have H1 := Aside0.mk (hN sPi)
  have H2 := Aside0.mk (hN sCom)
  have H3 := Aside0.mk (hN sCd)
  have H4 := Aside0.mk (hN sBD)
  have H5 := Aside0.mk (hN sBang)
  have H6 := Aside0.mk (hN sEnd2)
  have H7 := Aside0.mk (hN sLt)
  have c0 := hat.c0
  have c1 := hat.c1
  unfold oneS at hr
  clear hN hat hS hml h
  cases hb1 : nextB s i sPi with
  | true =>
    have hle := nextB_le hb1 (by omega)
    rw [if_pos hb1] at hr
    rw [hb1] at H1
    have hsz : i + 2 ≤ s.size := hle
    have hr := Option.some.inj hr
    have HX := Aside0.mk (show ∀ W, Held w0 g s i l W → Calls Tryd.prog 92 #[.pointer (some ⟨g, 0, none⟩)] W (OnePost w0 g s l r) from fun W h => hr ▸ order_one w0 g s i l W h HML.out HT.out hsz hs)
    clear hr hle hb1
    cases r with
    | error pp =>
      obtain ⟨pa, pc⟩ := pp
      go_enter Tryd.func57, Tryd.ntmps57
      go_wp2_with (first | (go_at_call 54; (with_reducible refine (H1.out _ (by repeat (first | (with_reducible exact HA.out) | (with_reducible apply At.drewN) | (with_reducible apply At.drew)))).mono ?_); rintro en wn ⟨rfl, ⟨nd, rfl⟩⟩) | (go_at_call 92; (with_reducible refine (HX.out _ (by repeat (first | (with_reducible exact HH.out) | (with_reducible apply Held.drewN) | (with_reducible apply Held.drew)))).mono ?_); rintro e2 w2 ⟨hgu, hb2⟩; unfold gaveUp at hgu; subst hgu; have HB2 := Aside0.mk hb2; clear hb2))
      exact ⟨rfl, rfl, HB2.out⟩
    | ok pp =>
      obtain ⟨pa, pc⟩ := pp
      go_enter Tryd.func57, Tryd.ntmps57
      go_wp2_with (first | (go_at_call 54; (with_reducible refine (H1.out _ (by repeat (first | (with_reducible exact HA.out) | (with_reducible apply At.drewN) | (with_reducible apply At.drew)))).mono ?_); rintro en wn ⟨rfl, ⟨nd, rfl⟩⟩) | (go_at_call 92; (with_reducible refine (HX.out _ (by repeat (first | (with_reducible exact HH.out) | (with_reducible apply Held.drewN) | (with_reducible apply Held.drew)))).mono ?_); rintro e2 w2 ⟨rfl, hb2⟩; have HB2 := Aside0.mk hb2; clear hb2))
      go_end0
      exact ⟨rfl, HB2.out⟩
  | false =>
  rw [if_neg (by rw [hb1]; decide)] at hr
  rw [hb1] at H1
  clear hb1
  cases hb2 : nextB s i sCom with
  | true =>
    have hle := nextB_le hb2 (by omega)
    rw [if_pos hb2] at hr
    rw [hb2] at H2
    have hsz : i + 4 ≤ s.size := hle
    have hr := Option.some.inj hr
    have HX := Aside0.mk (show ∀ W, Held w0 g s i l W → Calls Tryd.prog 93 #[.pointer (some ⟨g, 0, none⟩)] W (OnePost w0 g s l r) from fun W h => hr ▸ comment_one w0 g s i l W h HML.out hsz hs)
    clear hr hle hb2
    cases r with
    | error pp =>
      obtain ⟨pa, pc⟩ := pp
      go_enter Tryd.func57, Tryd.ntmps57
      go_wp2_with (first | (go_at_call 54; (with_reducible refine (H1.out _ (by repeat (first | (with_reducible exact HA.out) | (with_reducible apply At.drewN) | (with_reducible apply At.drew)))).mono ?_); rintro en wn ⟨rfl, ⟨nd, rfl⟩⟩) | (go_at_call 54; (with_reducible refine (H2.out _ (by repeat (first | (with_reducible exact HA.out) | (with_reducible apply At.drewN) | (with_reducible apply At.drew)))).mono ?_); rintro en wn ⟨rfl, ⟨nd, rfl⟩⟩) | (go_at_call 93; (with_reducible refine (HX.out _ (by repeat (first | (with_reducible exact HH.out) | (with_reducible apply Held.drewN) | (with_reducible apply Held.drew)))).mono ?_); rintro e2 w2 ⟨hgu, hb2⟩; unfold gaveUp at hgu; subst hgu; have HB2 := Aside0.mk hb2; clear hb2))
      exact ⟨rfl, rfl, HB2.out⟩
    | ok pp =>
      obtain ⟨pa, pc⟩ := pp
      go_enter Tryd.func57, Tryd.ntmps57
      go_wp2_with (first | (go_at_call 54; (with_reducible refine (H1.out _ (by repeat (first | (with_reducible exact HA.out) | (with_reducible apply At.drewN) | (with_reducible apply At.drew)))).mono ?_); rintro en wn ⟨rfl, ⟨nd, rfl⟩⟩) | (go_at_call 54; (with_reducible refine (H2.out _ (by repeat (first | (with_reducible exact HA.out) | (with_reducible apply At.drewN) | (with_reducible apply At.drew)))).mono ?_); rintro en wn ⟨rfl, ⟨nd, rfl⟩⟩) | (go_at_call 93; (with_reducible refine (HX.out _ (by repeat (first | (with_reducible exact HH.out) | (with_reducible apply Held.drewN) | (with_reducible apply Held.drew)))).mono ?_); rintro e2 w2 ⟨rfl, hb2⟩; have HB2 := Aside0.mk hb2; clear hb2))
      go_end0
      exact ⟨rfl, HB2.out⟩
  | false =>
  rw [if_neg (by rw [hb2]; decide)] at hr
  rw [hb2] at H2
  clear hb2
  cases hb3 : nextB s i sCd with
  | true =>
    have hle := nextB_le hb3 (by omega)
    rw [if_pos hb3] at hr
    rw [hb3] at H3
    have hsz : i + 9 ≤ s.size := hle
    obtain ⟨q, hq, hr⟩ := Option.map_eq_some_iff.1 hr
    have HX := Aside0.mk (show ∀ W, Held w0 g s i l W → Calls Tryd.prog 94 #[.pointer (some ⟨g, 0, none⟩)] W (OnePost w0 g s l r) from fun W h => hr ▸ (section_calls w0 g s i l W q h HML.out hsz hs hl hq).mono (fun _ _ h => push_one h))
    clear hr hq hle hb3
    cases r with
    | error pp =>
      obtain ⟨pa, pc⟩ := pp
      go_enter Tryd.func57, Tryd.ntmps57
      go_wp2_with (first | (go_at_call 54; (with_reducible refine (H1.out _ (by repeat (first | (with_reducible exact HA.out) | (with_reducible apply At.drewN) | (with_reducible apply At.drew)))).mono ?_); rintro en wn ⟨rfl, ⟨nd, rfl⟩⟩) | (go_at_call 54; (with_reducible refine (H2.out _ (by repeat (first | (with_reducible exact HA.out) | (with_reducible apply At.drewN) | (with_reducible apply At.drew)))).mono ?_); rintro en wn ⟨rfl, ⟨nd, rfl⟩⟩) | (go_at_call 54; (with_reducible refine (H3.out _ (by repeat (first | (with_reducible exact HA.out) | (with_reducible apply At.drewN) | (with_reducible apply At.drew)))).mono ?_); rintro en wn ⟨rfl, ⟨nd, rfl⟩⟩) | (go_at_call 94; (with_reducible refine (HX.out _ (by repeat (first | (with_reducible exact HH.out) | (with_reducible apply Held.drewN) | (with_reducible apply Held.drew)))).mono ?_); rintro e2 w2 ⟨hgu, hb2⟩; unfold gaveUp at hgu; subst hgu; have HB2 := Aside0.mk hb2; clear hb2))
      exact ⟨rfl, rfl, HB2.out⟩
    | ok pp =>
      obtain ⟨pa, pc⟩ := pp
      go_enter Tryd.func57, Tryd.ntmps57
      go_wp2_with (first | (go_at_call 54; (with_reducible refine (H1.out _ (by repeat (first | (with_reducible exact HA.out) | (with_reducible apply At.drewN) | (with_reducible apply At.drew)))).mono ?_); rintro en wn ⟨rfl, ⟨nd, rfl⟩⟩) | (go_at_call 54; (with_reducible refine (H2.out _ (by repeat (first | (with_reducible exact HA.out) | (with_reducible apply At.drewN) | (with_reducible apply At.drew)))).mono ?_); rintro en wn ⟨rfl, ⟨nd, rfl⟩⟩) | (go_at_call 54; (with_reducible refine (H3.out _ (by repeat (first | (with_reducible exact HA.out) | (with_reducible apply At.drewN) | (with_reducible apply At.drew)))).mono ?_); rintro en wn ⟨rfl, ⟨nd, rfl⟩⟩) | (go_at_call 94; (with_reducible refine (HX.out _ (by repeat (first | (with_reducible exact HH.out) | (with_reducible apply Held.drewN) | (with_reducible apply Held.drew)))).mono ?_); rintro e2 w2 ⟨rfl, hb2⟩; have HB2 := Aside0.mk hb2; clear hb2))
      go_end0
      exact ⟨rfl, HB2.out⟩
  | false =>
  rw [if_neg (by rw [hb3]; decide)] at hr
  rw [hb3] at H3
  clear hb3
  cases hb4 : nextB s i sBD with
  | true =>
    have hle := nextB_le hb4 (by omega)
    rw [if_pos hb4] at hr
    rw [hb4] at H4
    obtain rfl := Option.some.inj hr
    clear hr hle hb4
    go_enter Tryd.func57, Tryd.ntmps57
    go_wp2_with (first | (go_at_call 54; (with_reducible refine (H1.out _ (by repeat (first | (with_reducible exact HA.out) | (with_reducible apply At.drewN) | (with_reducible apply At.drew)))).mono ?_); rintro en wn ⟨rfl, ⟨nd, rfl⟩⟩) | (go_at_call 54; (with_reducible refine (H2.out _ (by repeat (first | (with_reducible exact HA.out) | (with_reducible apply At.drewN) | (with_reducible apply At.drew)))).mono ?_); rintro en wn ⟨rfl, ⟨nd, rfl⟩⟩) | (go_at_call 54; (with_reducible refine (H3.out _ (by repeat (first | (with_reducible exact HA.out) | (with_reducible apply At.drewN) | (with_reducible apply At.drew)))).mono ?_); rintro en wn ⟨rfl, ⟨nd, rfl⟩⟩) | (go_at_call 54; (with_reducible refine (H4.out _ (by repeat (first | (with_reducible exact HA.out) | (with_reducible apply At.drewN) | (with_reducible apply At.drew)))).mono ?_); rintro en wn ⟨rfl, ⟨nd, rfl⟩⟩) | (go_at_call 91; (with_reducible refine (fail_calls _ _ _ _).mono ?_); rintro e4 w4 ⟨hgu, rfl⟩; unfold gaveUp at hgu; subst hgu))
    exact ⟨rfl, rfl, Held.below (g := g) (s := s) (i := i) (l := l) (by repeat (first | (with_reducible exact HH.out) | (with_reducible apply Held.drewN) | (with_reducible apply Held.drew)))⟩
  | false =>
  rw [if_neg (by rw [hb4]; decide)] at hr
  rw [hb4] at H4
  clear hb4
  cases hb5 : nextB s i sBang with
  | true =>
    have hle := nextB_le hb5 (by omega)
    rw [if_pos hb5] at hr
    rw [hb5] at H5
    obtain rfl := Option.some.inj hr
    clear hr hle hb5
    go_enter Tryd.func57, Tryd.ntmps57
    go_wp2_with (first | (go_at_call 54; (with_reducible refine (H1.out _ (by repeat (first | (with_reducible exact HA.out) | (with_reducible apply At.drewN) | (with_reducible apply At.drew)))).mono ?_); rintro en wn ⟨rfl, ⟨nd, rfl⟩⟩) | (go_at_call 54; (with_reducible refine (H2.out _ (by repeat (first | (with_reducible exact HA.out) | (with_reducible apply At.drewN) | (with_reducible apply At.drew)))).mono ?_); rintro en wn ⟨rfl, ⟨nd, rfl⟩⟩) | (go_at_call 54; (with_reducible refine (H3.out _ (by repeat (first | (with_reducible exact HA.out) | (with_reducible apply At.drewN) | (with_reducible apply At.drew)))).mono ?_); rintro en wn ⟨rfl, ⟨nd, rfl⟩⟩) | (go_at_call 54; (with_reducible refine (H4.out _ (by repeat (first | (with_reducible exact HA.out) | (with_reducible apply At.drewN) | (with_reducible apply At.drew)))).mono ?_); rintro en wn ⟨rfl, ⟨nd, rfl⟩⟩) | (go_at_call 54; (with_reducible refine (H5.out _ (by repeat (first | (with_reducible exact HA.out) | (with_reducible apply At.drewN) | (with_reducible apply At.drew)))).mono ?_); rintro en wn ⟨rfl, ⟨nd, rfl⟩⟩) | (go_at_call 91; (with_reducible refine (fail_calls _ _ _ _).mono ?_); rintro e4 w4 ⟨hgu, rfl⟩; unfold gaveUp at hgu; subst hgu))
    exact ⟨rfl, rfl, Held.below (g := g) (s := s) (i := i) (l := l) (by repeat (first | (with_reducible exact HH.out) | (with_reducible apply Held.drewN) | (with_reducible apply Held.drew)))⟩
  | false =>
  rw [if_neg (by rw [hb5]; decide)] at hr
  rw [hb5] at H5
  clear hb5
  cases hb6 : nextB s i sEnd2 with
  | true =>
    have hle := nextB_le hb6 (by omega)
    rw [if_pos hb6] at hr
    rw [hb6] at H6
    have hsz : i + 2 ≤ s.size := hle
    have hr := Option.some.inj hr
    have HX := Aside0.mk (show ∀ W, Held w0 g s i l W → Calls Tryd.prog 95 #[.pointer (some ⟨g, 0, none⟩)] W (OnePost w0 g s l r) from fun W h => hr ▸ (closing_calls w0 g s i l W h hsz hs hl).mono (fun _ _ h => push_one h))
    clear hr hle hb6
    cases r with
    | error pp =>
      obtain ⟨pa, pc⟩ := pp
      go_enter Tryd.func57, Tryd.ntmps57
      go_wp2_with (first | (go_at_call 54; (with_reducible refine (H1.out _ (by repeat (first | (with_reducible exact HA.out) | (with_reducible apply At.drewN) | (with_reducible apply At.drew)))).mono ?_); rintro en wn ⟨rfl, ⟨nd, rfl⟩⟩) | (go_at_call 54; (with_reducible refine (H2.out _ (by repeat (first | (with_reducible exact HA.out) | (with_reducible apply At.drewN) | (with_reducible apply At.drew)))).mono ?_); rintro en wn ⟨rfl, ⟨nd, rfl⟩⟩) | (go_at_call 54; (with_reducible refine (H3.out _ (by repeat (first | (with_reducible exact HA.out) | (with_reducible apply At.drewN) | (with_reducible apply At.drew)))).mono ?_); rintro en wn ⟨rfl, ⟨nd, rfl⟩⟩) | (go_at_call 54; (with_reducible refine (H4.out _ (by repeat (first | (with_reducible exact HA.out) | (with_reducible apply At.drewN) | (with_reducible apply At.drew)))).mono ?_); rintro en wn ⟨rfl, ⟨nd, rfl⟩⟩) | (go_at_call 54; (with_reducible refine (H5.out _ (by repeat (first | (with_reducible exact HA.out) | (with_reducible apply At.drewN) | (with_reducible apply At.drew)))).mono ?_); rintro en wn ⟨rfl, ⟨nd, rfl⟩⟩) | (go_at_call 54; (with_reducible refine (H6.out _ (by repeat (first | (with_reducible exact HA.out) | (with_reducible apply At.drewN) | (with_reducible apply At.drew)))).mono ?_); rintro en wn ⟨rfl, ⟨nd, rfl⟩⟩) | (go_at_call 95; (with_reducible refine (HX.out _ (by repeat (first | (with_reducible exact HH.out) | (with_reducible apply Held.drewN) | (with_reducible apply Held.drew)))).mono ?_); rintro e2 w2 ⟨hgu, hb2⟩; unfold gaveUp at hgu; subst hgu; have HB2 := Aside0.mk hb2; clear hb2))
      exact ⟨rfl, rfl, HB2.out⟩
    | ok pp =>
      obtain ⟨pa, pc⟩ := pp
      go_enter Tryd.func57, Tryd.ntmps57
      go_wp2_with (first | (go_at_call 54; (with_reducible refine (H1.out _ (by repeat (first | (with_reducible exact HA.out) | (with_reducible apply At.drewN) | (with_reducible apply At.drew)))).mono ?_); rintro en wn ⟨rfl, ⟨nd, rfl⟩⟩) | (go_at_call 54; (with_reducible refine (H2.out _ (by repeat (first | (with_reducible exact HA.out) | (with_reducible apply At.drewN) | (with_reducible apply At.drew)))).mono ?_); rintro en wn ⟨rfl, ⟨nd, rfl⟩⟩) | (go_at_call 54; (with_reducible refine (H3.out _ (by repeat (first | (with_reducible exact HA.out) | (with_reducible apply At.drewN) | (with_reducible apply At.drew)))).mono ?_); rintro en wn ⟨rfl, ⟨nd, rfl⟩⟩) | (go_at_call 54; (with_reducible refine (H4.out _ (by repeat (first | (with_reducible exact HA.out) | (with_reducible apply At.drewN) | (with_reducible apply At.drew)))).mono ?_); rintro en wn ⟨rfl, ⟨nd, rfl⟩⟩) | (go_at_call 54; (with_reducible refine (H5.out _ (by repeat (first | (with_reducible exact HA.out) | (with_reducible apply At.drewN) | (with_reducible apply At.drew)))).mono ?_); rintro en wn ⟨rfl, ⟨nd, rfl⟩⟩) | (go_at_call 54; (with_reducible refine (H6.out _ (by repeat (first | (with_reducible exact HA.out) | (with_reducible apply At.drewN) | (with_reducible apply At.drew)))).mono ?_); rintro en wn ⟨rfl, ⟨nd, rfl⟩⟩) | (go_at_call 95; (with_reducible refine (HX.out _ (by repeat (first | (with_reducible exact HH.out) | (with_reducible apply Held.drewN) | (with_reducible apply Held.drew)))).mono ?_); rintro e2 w2 ⟨rfl, hb2⟩; have HB2 := Aside0.mk hb2; clear hb2))
      go_end0
      exact ⟨rfl, HB2.out⟩
  | false =>
  rw [if_neg (by rw [hb6]; decide)] at hr
  rw [hb6] at H6
  clear hb6
  cases hb7 : nextB s i sLt with
  | true =>
    have hle := nextB_le hb7 (by omega)
    rw [if_pos hb7] at hr
    rw [hb7] at H7
    have hsz : i + 1 ≤ s.size := hle
    obtain ⟨q, hq, hr⟩ := Option.map_eq_some_iff.1 hr
    have HX := Aside0.mk (show ∀ W, Held w0 g s i l W → Calls Tryd.prog 96 #[.pointer (some ⟨g, 0, none⟩)] W (OnePost w0 g s l r) from fun W h => hr ▸ (tag_calls w0 g s i l W q h (h.ml HML.out) (h.ne HML.out) hsz hs hl hq).mono (fun _ _ h => push_one h))
    clear hr hq hle hb7
    cases r with
    | error pp =>
      obtain ⟨pa, pc⟩ := pp
      go_enter Tryd.func57, Tryd.ntmps57
      go_wp2_with (first | (go_at_call 54; (with_reducible refine (H1.out _ (by repeat (first | (with_reducible exact HA.out) | (with_reducible apply At.drewN) | (with_reducible apply At.drew)))).mono ?_); rintro en wn ⟨rfl, ⟨nd, rfl⟩⟩) | (go_at_call 54; (with_reducible refine (H2.out _ (by repeat (first | (with_reducible exact HA.out) | (with_reducible apply At.drewN) | (with_reducible apply At.drew)))).mono ?_); rintro en wn ⟨rfl, ⟨nd, rfl⟩⟩) | (go_at_call 54; (with_reducible refine (H3.out _ (by repeat (first | (with_reducible exact HA.out) | (with_reducible apply At.drewN) | (with_reducible apply At.drew)))).mono ?_); rintro en wn ⟨rfl, ⟨nd, rfl⟩⟩) | (go_at_call 54; (with_reducible refine (H4.out _ (by repeat (first | (with_reducible exact HA.out) | (with_reducible apply At.drewN) | (with_reducible apply At.drew)))).mono ?_); rintro en wn ⟨rfl, ⟨nd, rfl⟩⟩) | (go_at_call 54; (with_reducible refine (H5.out _ (by repeat (first | (with_reducible exact HA.out) | (with_reducible apply At.drewN) | (with_reducible apply At.drew)))).mono ?_); rintro en wn ⟨rfl, ⟨nd, rfl⟩⟩) | (go_at_call 54; (with_reducible refine (H6.out _ (by repeat (first | (with_reducible exact HA.out) | (with_reducible apply At.drewN) | (with_reducible apply At.drew)))).mono ?_); rintro en wn ⟨rfl, ⟨nd, rfl⟩⟩) | (go_at_call 54; (with_reducible refine (H7.out _ (by repeat (first | (with_reducible exact HA.out) | (with_reducible apply At.drewN) | (with_reducible apply At.drew)))).mono ?_); rintro en wn ⟨rfl, ⟨nd, rfl⟩⟩) | (go_at_call 96; (with_reducible refine (HX.out _ (by repeat (first | (with_reducible exact HH.out) | (with_reducible apply Held.drewN) | (with_reducible apply Held.drew)))).mono ?_); rintro e2 w2 ⟨hgu, hb2⟩; unfold gaveUp at hgu; subst hgu; have HB2 := Aside0.mk hb2; clear hb2))
      exact ⟨rfl, rfl, HB2.out⟩
    | ok pp =>
      obtain ⟨pa, pc⟩ := pp
      go_enter Tryd.func57, Tryd.ntmps57
      go_wp2_with (first | (go_at_call 54; (with_reducible refine (H1.out _ (by repeat (first | (with_reducible exact HA.out) | (with_reducible apply At.drewN) | (with_reducible apply At.drew)))).mono ?_); rintro en wn ⟨rfl, ⟨nd, rfl⟩⟩) | (go_at_call 54; (with_reducible refine (H2.out _ (by repeat (first | (with_reducible exact HA.out) | (with_reducible apply At.drewN) | (with_reducible apply At.drew)))).mono ?_); rintro en wn ⟨rfl, ⟨nd, rfl⟩⟩) | (go_at_call 54; (with_reducible refine (H3.out _ (by repeat (first | (with_reducible exact HA.out) | (with_reducible apply At.drewN) | (with_reducible apply At.drew)))).mono ?_); rintro en wn ⟨rfl, ⟨nd, rfl⟩⟩) | (go_at_call 54; (with_reducible refine (H4.out _ (by repeat (first | (with_reducible exact HA.out) | (with_reducible apply At.drewN) | (with_reducible apply At.drew)))).mono ?_); rintro en wn ⟨rfl, ⟨nd, rfl⟩⟩) | (go_at_call 54; (with_reducible refine (H5.out _ (by repeat (first | (with_reducible exact HA.out) | (with_reducible apply At.drewN) | (with_reducible apply At.drew)))).mono ?_); rintro en wn ⟨rfl, ⟨nd, rfl⟩⟩) | (go_at_call 54; (with_reducible refine (H6.out _ (by repeat (first | (with_reducible exact HA.out) | (with_reducible apply At.drewN) | (with_reducible apply At.drew)))).mono ?_); rintro en wn ⟨rfl, ⟨nd, rfl⟩⟩) | (go_at_call 54; (with_reducible refine (H7.out _ (by repeat (first | (with_reducible exact HA.out) | (with_reducible apply At.drewN) | (with_reducible apply At.drew)))).mono ?_); rintro en wn ⟨rfl, ⟨nd, rfl⟩⟩) | (go_at_call 96; (with_reducible refine (HX.out _ (by repeat (first | (with_reducible exact HH.out) | (with_reducible apply Held.drewN) | (with_reducible apply Held.drew)))).mono ?_); rintro e2 w2 ⟨rfl, hb2⟩; have HB2 := Aside0.mk hb2; clear hb2))
      go_end0
      exact ⟨rfl, HB2.out⟩
  | false =>
  rw [if_neg (by rw [hb7]; decide)] at hr
  rw [hb7] at H7
  clear hb7
  obtain ⟨q, hq, hr⟩ := Option.map_eq_some_iff.1 hr
  have HX := Aside0.mk (show ∀ W, Held w0 g s i l W → Calls Tryd.prog 97 #[.pointer (some ⟨g, 0, none⟩)] W (OnePost w0 g s l r) from fun W h => hr ▸ (text_calls w0 g s i l W q h (h.ml HML.out) (h.ne HML.out) (by omega) hs hl hq).mono (fun _ _ h => push_one h))
  clear hr hq
  cases r with
  | error pp =>
    obtain ⟨pa, pc⟩ := pp
    go_enter Tryd.func57, Tryd.ntmps57
    go_wp2_with (first | (go_at_call 54; (with_reducible refine (H1.out _ (by repeat (first | (with_reducible exact HA.out) | (with_reducible apply At.drewN) | (with_reducible apply At.drew)))).mono ?_); rintro en wn ⟨rfl, ⟨nd, rfl⟩⟩) | (go_at_call 54; (with_reducible refine (H2.out _ (by repeat (first | (with_reducible exact HA.out) | (with_reducible apply At.drewN) | (with_reducible apply At.drew)))).mono ?_); rintro en wn ⟨rfl, ⟨nd, rfl⟩⟩) | (go_at_call 54; (with_reducible refine (H3.out _ (by repeat (first | (with_reducible exact HA.out) | (with_reducible apply At.drewN) | (with_reducible apply At.drew)))).mono ?_); rintro en wn ⟨rfl, ⟨nd, rfl⟩⟩) | (go_at_call 54; (with_reducible refine (H4.out _ (by repeat (first | (with_reducible exact HA.out) | (with_reducible apply At.drewN) | (with_reducible apply At.drew)))).mono ?_); rintro en wn ⟨rfl, ⟨nd, rfl⟩⟩) | (go_at_call 54; (with_reducible refine (H5.out _ (by repeat (first | (with_reducible exact HA.out) | (with_reducible apply At.drewN) | (with_reducible apply At.drew)))).mono ?_); rintro en wn ⟨rfl, ⟨nd, rfl⟩⟩) | (go_at_call 54; (with_reducible refine (H6.out _ (by repeat (first | (with_reducible exact HA.out) | (with_reducible apply At.drewN) | (with_reducible apply At.drew)))).mono ?_); rintro en wn ⟨rfl, ⟨nd, rfl⟩⟩) | (go_at_call 54; (with_reducible refine (H7.out _ (by repeat (first | (with_reducible exact HA.out) | (with_reducible apply At.drewN) | (with_reducible apply At.drew)))).mono ?_); rintro en wn ⟨rfl, ⟨nd, rfl⟩⟩) | (go_at_call 97; (with_reducible refine (HX.out _ (by repeat (first | (with_reducible exact HH.out) | (with_reducible apply Held.drewN) | (with_reducible apply Held.drew)))).mono ?_); rintro e2 w2 ⟨hgu, hb2⟩; unfold gaveUp at hgu; subst hgu; have HB2 := Aside0.mk hb2; clear hb2))
    exact ⟨rfl, rfl, HB2.out⟩
  | ok pp =>
    obtain ⟨pa, pc⟩ := pp
    go_enter Tryd.func57, Tryd.ntmps57
    go_wp2_with (first | (go_at_call 54; (with_reducible refine (H1.out _ (by repeat (first | (with_reducible exact HA.out) | (with_reducible apply At.drewN) | (with_reducible apply At.drew)))).mono ?_); rintro en wn ⟨rfl, ⟨nd, rfl⟩⟩) | (go_at_call 54; (with_reducible refine (H2.out _ (by repeat (first | (with_reducible exact HA.out) | (with_reducible apply At.drewN) | (with_reducible apply At.drew)))).mono ?_); rintro en wn ⟨rfl, ⟨nd, rfl⟩⟩) | (go_at_call 54; (with_reducible refine (H3.out _ (by repeat (first | (with_reducible exact HA.out) | (with_reducible apply At.drewN) | (with_reducible apply At.drew)))).mono ?_); rintro en wn ⟨rfl, ⟨nd, rfl⟩⟩) | (go_at_call 54; (with_reducible refine (H4.out _ (by repeat (first | (with_reducible exact HA.out) | (with_reducible apply At.drewN) | (with_reducible apply At.drew)))).mono ?_); rintro en wn ⟨rfl, ⟨nd, rfl⟩⟩) | (go_at_call 54; (with_reducible refine (H5.out _ (by repeat (first | (with_reducible exact HA.out) | (with_reducible apply At.drewN) | (with_reducible apply At.drew)))).mono ?_); rintro en wn ⟨rfl, ⟨nd, rfl⟩⟩) | (go_at_call 54; (with_reducible refine (H6.out _ (by repeat (first | (with_reducible exact HA.out) | (with_reducible apply At.drewN) | (with_reducible apply At.drew)))).mono ?_); rintro en wn ⟨rfl, ⟨nd, rfl⟩⟩) | (go_at_call 54; (with_reducible refine (H7.out _ (by repeat (first | (with_reducible exact HA.out) | (with_reducible apply At.drewN) | (with_reducible apply At.drew)))).mono ?_); rintro en wn ⟨rfl, ⟨nd, rfl⟩⟩) | (go_at_call 97; (with_reducible refine (HX.out _ (by repeat (first | (with_reducible exact HH.out) | (with_reducible apply Held.drewN) | (with_reducible apply Held.drew)))).mono ?_); rintro e2 w2 ⟨rfl, hb2⟩; have HB2 := Aside0.mk hb2; clear hb2))
    go_end0
    exact ⟨rfl, HB2.out⟩
end Go.Proofs.YtffpbhbiamkkpaaDoor.Lx
