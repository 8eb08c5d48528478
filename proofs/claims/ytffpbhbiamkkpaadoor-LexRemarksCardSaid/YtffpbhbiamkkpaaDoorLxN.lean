/- The lexer's method section (CDATA). -/
import Derived.Test.YtffpbhbiamkkpaaDoorLxK
import Derived.Test.YtffpbhbiamkkpaaDoorLxE0
import Derived.Deep.RegionHeld3
namespace Go.Proofs.YtffpbhbiamkkpaaDoor.Lx
open Go.RowKit Go.Proofs.YtffpbhbiamkkpaaDoorW.PrintWords Go.Proofs.YtffpbhbiamkkpaaDoorW.PrintLast Go.Proofs.YtffpbhbiamkkpaaDoorW.PrintMore Go.Proofs.YtffpbhbiamkkpaaDoor.PU Go.Shelf
set_option linter.unusedVariables false
abbrev sCE : ByteArray := ⟨#[93, 93, 62]⟩
/-- What a section comes to: its token and the place behind, or what is wrong. -/
def sectionS (s : ByteArray) (i : Nat) : Option (Except (Int × Int) (Tok × Nat)) :=
  match upS s sCE i (i + 9) with
  | .error e => some (.error e)
  | .ok n => (PL.lex_ends.f (s.extract (i + 9) (i + 9 + n))).map fun t => .ok (⟨4, i, ⟨#[]⟩, [], t⟩, i + 9 + n + 3)
set_option maxHeartbeats 4000000 in
set_option maxRecDepth 100000 in
theorem section_calls (w0 : World) (g : Nat) (s : ByteArray) (i : Nat) (l : List Tok) (w : World) (r : Except (Int × Int) (Tok × Nat)) (h : Held w0 g s i l w) (hml : ML w0) (hi : i + 9 ≤ s.size) (hs : s.size < 4294967281) (hl : l.length < 1000000) (hr : sectionS s i = some r) :
    Calls Tryd.prog 94 #[.pointer (some ⟨g, 0, none⟩)] w (PushPost w0 g s l r) := by
  have hlt := h.lt
  have hbel := h.below
  obtain ⟨v, hat, hS⟩ := h.ex
  have hmw := hml.below h.below
  have hg : g ≠ 1 := by have := hml.lt; omega
  obtain ⟨Av, cv, rfl⟩ := Kd.S_slice hS
  obtain ⟨v, hv⟩ : ∃ v, v = Value.slice Av l.length cv := ⟨_, rfl⟩
  rw [← hv] at hat hS
  have HVS := Aside0.mk hv
  have c0 := hat.c0
  have c1 := hat.c1
  have c2 := hat.c2
  have f1 := hat.f0 1
  have f2 := hat.f0 2
  have HV := Aside0.mk hat.moved
  have HS := Aside0.mk hS
  have HML := Aside0.mk hmw
  obtain ⟨f, hf⟩ : ∃ f, f = i + 9 := ⟨_, rfl⟩
  have e1 : (i : Int) + 9 = (f : Int) := by omega
  have hfs : f ≤ s.size := by omega
  have HF := Aside0.mk hf
  have HUP := Aside0.mk (fun W hat hm => up_calls g s sCE i f v W hat hm hfs hs)
  unfold sectionS at hr
  rw [← hf] at hr
  clear hv hat hS hmw hf h hml
  cases hu : upS s sCE i f with
  | error p =>
    obtain ⟨a, c⟩ := p
    rw [hu] at hr
    obtain rfl := Option.some.inj hr
    have HU := Aside0.mk (fun W hat hm => (show Calls Tryd.prog 126 #[.pointer (some ⟨g, 0, none⟩), .string sCE, .int .i64 (i : Int)] W (UpPost g W s sCE f v (.error (a, c))) from hu ▸ HUP.out W hat hm))
    clear hr hu
    go_enter Tryd.func94, Tryd.ntmps94
    go_wp2_with fail
    have HZ := Aside0.mk (HV.out.set (i := i) (q := f) (j := (f : Int)) rfl)
    have d2 := HZ.out.me.c2
    clear c2
    refine wp_region_any (by kernel_rfl) ?_
    try (change wpAny _ _ _ _ _ _ _ (World.drew _))
    refine wpAny_take (i := 0) (v := ?_) rfl (by kernel_rfl) (by kernel_rfl) (by kernel_rfl) (fun _ _ _ h => h) (Or.inl ⟨by rfl, ?_⟩) ?_
    rotate_left
    · intro w; go_simp; try (with_reducible rfl)
    refine wpAny_take (i := 1) (v := ?_) rfl (by kernel_rfl) (by kernel_rfl) (by kernel_rfl) (fun _ _ _ h => h) (Or.inl ⟨by rfl, ?_⟩) ?_
    rotate_left
    · intro w; go_simp; try (with_reducible rfl)
    refine wpAny_take (i := 2) (v := ?_) rfl (by kernel_rfl) (by kernel_rfl) (by kernel_rfl) (fun _ _ _ h => h) (Or.inl ⟨by rfl, ?_⟩) ?_
    rotate_left
    · intro w; go_simp; try (with_reducible rfl)
    refine wpAny_take (i := 3) (v := ?_) rfl (by kernel_rfl) (by kernel_rfl) (by kernel_rfl) (fun _ _ _ h => h) (Or.inl ⟨by rfl, ?_⟩) ?_
    rotate_left
    · intro w; go_simp; try (with_reducible rfl)
    refine wpAny_take (i := 5) (v := ?_) rfl (by kernel_rfl) (by kernel_rfl) (by kernel_rfl) (fun _ _ _ h => h) (Or.inl ⟨by rfl, ?_⟩) ?_
    rotate_left
    · intro w; go_simp; try (with_reducible rfl)
    refine wpAny_take (i := 6) (v := ?_) rfl (by kernel_rfl) (by kernel_rfl) (by kernel_rfl) (fun _ _ _ h => h) (Or.inl ⟨by rfl, ?_⟩) ?_
    rotate_left
    · intro w; go_simp; try (with_reducible rfl)
    refine wpAny_take (i := 7) (v := ?_) rfl (by kernel_rfl) (by kernel_rfl) (by kernel_rfl) (fun _ _ _ h => h) (Or.inl ⟨by rfl, ?_⟩) ?_
    rotate_left
    · intro w; go_simp; try (with_reducible rfl)
    refine wpAny_ready (rs := [4, 8]) (by kernel_rfl) (by simp) ?_
    refine AllReady.cons rfl (fun K hK => ?_) ?_
    · go_simp
      refine hK _ _ ?_
      clear hK K
      refine wpAny_ready (rs := [8]) (by kernel_rfl) (by simp) ?_
      refine AllReady.cons rfl (fun K hK => ?_) AllReady.nil
      go_simp
      (go_at_call 126; refine (HU.out _ ?_ ?_).mono ?_; (exact Moved.me (w := w) (by repeat (first | (with_reducible exact HZ.out) | (with_reducible apply Moved.drewN) | (with_reducible apply Moved.drew)))); (exact Moved.ml (g := g) (w := w) (s := s) (i := f) (v := v) (by repeat (first | (with_reducible exact HZ.out) | (with_reducible apply Moved.drewN) | (with_reducible apply Moved.drew))) HML.out hg); rintro e w9 ⟨hgu, j, hj⟩; unfold gaveUp at hgu; subst hgu; exact ⟨rfl, rfl, Moved.belowB (Moved.trans (by repeat (first | (with_reducible exact HZ.out) | (with_reducible apply Moved.drewN) | (with_reducible apply Moved.drew))) hj) hbel hlt⟩)
    · refine AllReady.cons rfl (fun K hK => ?_) AllReady.nil
      go_simp
      (go_at_call 126; refine (HU.out _ ?_ ?_).mono ?_; (exact Moved.me (w := w) (by repeat (first | (with_reducible exact HZ.out) | (with_reducible apply Moved.drewN) | (with_reducible apply Moved.drew)))); (exact Moved.ml (g := g) (w := w) (s := s) (i := f) (v := v) (by repeat (first | (with_reducible exact HZ.out) | (with_reducible apply Moved.drewN) | (with_reducible apply Moved.drew))) HML.out hg); rintro e w9 ⟨hgu, j, hj⟩; unfold gaveUp at hgu; subst hgu; exact ⟨rfl, rfl, Moved.belowB (Moved.trans (by repeat (first | (with_reducible exact HZ.out) | (with_reducible apply Moved.drewN) | (with_reducible apply Moved.drew))) hj) hbel hlt⟩)
  | ok n =>
    rw [hu] at hr
    obtain ⟨t, ht, hr⟩ := Option.map_eq_some_iff.mp hr
    subst hr
    have HU := Aside0.mk (fun W hat hm => (show Calls Tryd.prog 126 #[.pointer (some ⟨g, 0, none⟩), .string sCE, .int .i64 (i : Int)] W (UpPost g W s sCE f v (.ok n)) from hu ▸ HUP.out W hat hm))
    have HT := Aside0.mk ht
    have HOK := Aside0.mk hlt
    clear ht hu
    go_enter Tryd.func94, Tryd.ntmps94
    go_wp2_with fail
    have HZ := Aside0.mk (HV.out.set (i := i) (q := f) (j := (f : Int)) rfl)
    have d2 := HZ.out.me.c2
    clear c2
    go_region_law (first
      | (go_simp; go_at_call 126; refine (HU.out _ ?_ ?_).mono ?_; (exact Moved.me (w := w) (by repeat (first | (with_reducible exact HZ.out) | (with_reducible apply Moved.drewN) | (with_reducible apply Moved.drew)))); (exact Moved.ml (g := g) (w := w) (s := s) (i := f) (v := v) (by repeat (first | (with_reducible exact HZ.out) | (with_reducible apply Moved.drewN) | (with_reducible apply Moved.drew))) HML.out hg); rintro e w9 ⟨rfl, hj⟩; have HX := Aside0.mk (Moved.trans (g := g) (a := w) (i := f) (v := v) (by repeat (first | (with_reducible exact HZ.out) | (with_reducible apply Moved.drewN) | (with_reducible apply Moved.drew))) hj); have x2 := HX.out.me.c2; have y2 := HX.out.me.f0 2; clear hj)
      | (go_simp; go_at_call 79; refine (PL.lex_ends.calls _ t _ ?_ HT.out).mono ?_; exact HX.out.ml HML.out hg; rintro e w8 ⟨rfl, hb8⟩; have HX2 := Aside0.mk (show Moved g w w8 s (f + n + 3) v from HX.out.below hb8); have z2 := HX2.out.me.c2; have z3 : ∀ o : Obj, (w8.alloc o).cell? ⟨g, 2, none⟩ = some v := fun o => (HX2.out.alloc o).me.c2; clear hb8)
      | (refine push_tok_step (w0 := w0) (g := g) (s := s) (j := f + n + 3) (v := v) (l := l) (⟨4, i, ⟨#[]⟩, [], t⟩ : Tok) [.int .i64 4, .int .i64 i, .string ⟨#[]⟩, .slice none 0 0, .string t] (fun _ => False) ?p1 (.tmp 18) (.tmp 25) ?p2 ?p3 ?p4 ?p5 (fun k hk => hk.elim) hlt hbel (Kd.S_mono HS.out (fun _ h => ⟨h, fun h => h⟩)) hl ?p6 ?_; (case p1 => rfl); (case p2 => rfl); (case p3 => first | rfl | simp [Act.eval, Act.put]); (case p4 => first | rfl | simp [Act.eval, Act.put]); (case p5 => exact kTok_mk _ _ _ (⟨4, i, ⟨#[]⟩, [], t⟩ : Tok) (Kd.R_nil _ _ _ _ _)); (case p6 => repeat (first | (with_reducible exact HX2.out) | (with_reducible apply Moved.drewN) | (with_reducible apply Moved.drew))); intro A' n' c' w5 hat5 hheld; have HH := Aside0.mk hheld; have g2 := hat5.c2; have gf := hat5.f0 2; clear hat5 hheld))
    all_goals (go_wp2; go_end0; exact ⟨rfl, HH.out⟩)
end Go.Proofs.YtffpbhbiamkkpaaDoor.Lx
