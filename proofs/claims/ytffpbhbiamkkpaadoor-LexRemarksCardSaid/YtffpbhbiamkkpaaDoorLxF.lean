/- The lexer's start tag, whole. -/
import Derived.Test.YtffpbhbiamkkpaaDoorLxE
namespace Go.Proofs.YtffpbhbiamkkpaaDoor.Lx
open Go.RowKit Go.Proofs.YtffpbhbiamkkpaaDoorW.PrintWords Go.Proofs.YtffpbhbiamkkpaaDoorW.PrintLast Go.Proofs.YtffpbhbiamkkpaaDoorW.PrintMore Go.Proofs.YtffpbhbiamkkpaaDoor.PU
set_option linter.unusedVariables false
theorem TagSt.new {w : World} {g : Nat} {s : ByteArray} {i : Nat} {v : Value} (start : Nat) (h : At w g s i v) :
    TagSt w g s start i v 1 ⟨#[]⟩ [] ⟨#[]⟩ ⟨#[]⟩ ((w.alloc (.cells #[.int .i64 1, .int .i64 (start : Int), .string ⟨#[]⟩, .slice none 0 0, .string ⟨#[]⟩] 50)).alloc (.cells #[.string ⟨#[]⟩, .string ⟨#[]⟩] 86)) := by
  refine ⟨(h.moved.alloc _).alloc _, ⟨.slice none 0 0, blk_alloc (blk_new w _) _, Kd.R_nil _ _ _ _ _⟩, ?_, h.lt⟩
  have := blk_new (w.alloc (.cells #[.int .i64 1, .int .i64 (start : Int), .string ⟨#[]⟩, .slice none 0 0, .string ⟨#[]⟩] 50)) (.cells #[.string ⟨#[]⟩, .string ⟨#[]⟩] 86)
  simpa using this
theorem exit_mono {K K' : Nat → Act → World → Prop} {Q : Exit → Act → World → Prop} (h : ∀ l a w, K l a w → K' l a w) : ∀ e a w, Exit.to K Q e a w → Exit.to K' Q e a w := by
  intro e a w hq
  cases e with
  | goto l => exact h l a w hq
  | normal => exact hq
  | exit id => exact hq
  | ret => exact hq
  | panic ch => exact hq
  | outgrown => exact hq
set_option maxHeartbeats 4000000 in
set_option maxRecDepth 100000 in
theorem tag_calls (w0 : World) (g : Nat) (s : ByteArray) (i : Nat) (l : List Tok) (w : World) (r : Except (Int × Int) (Tok × Nat)) (h : Held w0 g s i l w) (hml : ML w) (hg : g ≠ 1) (hi : i + 1 ≤ s.size) (hs : s.size < 4294967281) (hl : l.length < 1000000) (hr : tagS s i = some r) :
    Calls Tryd.prog 96 #[.pointer (some ⟨g, 0, none⟩)] w (PushPost w0 g s l r) := by
  obtain ⟨hlt, hbel, v, hat, hS⟩ := h
  have c0 := hat.c0
  have c1 := hat.c1
  have f1 := hat.f0 1
  obtain ⟨f, hf⟩ : ∃ f : Nat, f = i + 1 := ⟨_, rfl⟩
  have HW := fun (W : World) (h : At W g s f v) => word_calls g s i f v W h (by omega) (by omega)
  unfold tagS at hr
  rw [← hf] at hr
  have hwl := fun k => wordS_le (s := s) (start := i) (i := f) (k := k) (by omega)
  generalize wordS s i f = x at hr HW hwl
  have e1 : (i : Int) + 1 = (f : Int) := by omega
  have b0 : f ≤ s.size := by omega
  have HF := Aside0.mk hf
  have g1 := eq_false (show ¬ g = w.heap.size by have := hat.lt; omega)
  have g2 := eq_false (show ¬ g = w.heap.size + 1 by have := hat.lt; omega)
  have g3 := eq_false (show ¬ w.heap.size = g by have := hat.lt; omega)
  have g4 := eq_false (show ¬ w.heap.size + 1 = g by have := hat.lt; omega)
  have q0 := eq_true (show (0 : Int) ≤ (i : Int) by omega)
  have hlg := hat.lt
  have HN := Aside0.mk (TagSt.new i hat)
  have ha1 : ∀ o o' : Obj, ((w.alloc o).alloc o').cell? ⟨g, 1, none⟩ = some (.int .i64 i) := fun o o' => ((hat.moved.alloc o).alloc o').me.c1
  have hf1 : ∀ o o' : Obj, ((w.alloc o).alloc o').frozen? ⟨g, 1, none⟩ = false := fun o o' => ((hat.moved.alloc o).alloc o').me.f0 1
  have HS := Aside0.mk hS
  have HB := Aside0.mk hbel
  have HML := Aside0.mk hml
  have HA := Aside0.mk hat
  clear hf hat hS hbel hml hlg
  cases x with
  | error pp =>
    obtain ⟨pa, pc⟩ := pp
    simp only at hr
    obtain rfl := Option.some.inj hr
    have HW' := Aside0.mk HW
    clear hr hwl HW
    go_enter Tryd.func96, Tryd.ntmps96
    refine wp_scope_to (fun _ _ _ _ => False) (fun _ _ _ _ h => h.elim) ?_
    go_wp2_with (go_at_call 127; (with_reducible refine (HW'.out _ (HN.out.setAt (j := f) rfl).mv.me).mono ?_); rintro e2 W2 ⟨hgu, jj, hm2⟩; unfold gaveUp at hgu; subst hgu; have HT2 := Aside0.mk ((HN.out.setAt (j := f) (q := (f : Int)) rfl).moved hm2); clear hm2)
    exact ⟨rfl, rfl, HT2.out.mv.belowB HB.out hlt⟩
  | ok k =>
    have hwl := hwl k rfl
    simp only at hr
    obtain ⟨rr, hrr, hr⟩ := Option.map_eq_some_iff.1 hr
    have hrt : r = tagTok i (s.extract f k) rr := by
      rw [← hr]
      cases rr with
      | error e => rfl
      | ok q => rfl
    subst hrt
    have HR := Aside0.mk hrr
    have HW' := Aside0.mk (show ∀ (W : World), At W g s f v → Calls Tryd.prog 127 #[.pointer (some ⟨g, 0, none⟩), .int .i64 (i : Int)] W (fun e w' => e = .returned (.string (s.extract f k)) ∧ Moved g W w' s k v) from HW)
    clear hr hrr HW
    go_enter Tryd.func96, Tryd.ntmps96
    refine wp_scope_to (TagK w g s i v (s.extract f k) rr) ?_ ?_
    · intro lab n a wr hK
      match lab, hK with
      | 0, hK => exact ⟨tagC 0, rfl, wp_seq (x := .skip) (y := tagB 0) (wp_skip (pass0 w0 w g s i v _ l rr hlt HB.out hg HML.out hs n a wr hK))⟩
      | 1, hK => exact ⟨tagC 1, rfl, pass1 w0 w g s i v _ l rr hlt HB.out hg HML.out hs n a wr hK⟩
      | 2, hK => exact ⟨tagC 2, rfl, pass2 w0 w g s i v _ l rr hlt HB.out hg HML.out hs n a wr hK hl HS.out⟩
      | 3, hK => exact ⟨tagC 3, rfl, pass3 w0 w g s i v _ l rr hlt HB.out hg HML.out hs n a wr hK⟩
      | _ + 4, hK => exact hK.2.elim
    · go_wp2_with (go_at_call 127; (with_reducible refine (HW'.out _ (HN.out.setAt (j := f) rfl).mv.me).mono ?_); rintro e2 W2 ⟨rfl, hm2⟩; have HT2 := Aside0.mk ((HN.out.setAt (j := f) (q := (f : Int)) rfl).moved hm2); clear hm2; obtain ⟨va2, f2a, f2b, f2c, f2d, f2e, f2f, f2g, f2h, f2i, f2j, f2k, f2l, ⟨A2, C2, rfl⟩, hb2, hR2⟩ := HT2.out.facts; have HB2 := Aside0.mk hb2; have HR2 := Aside0.mk hR2; clear hb2 hR2)
      refine wp_label ?_
      rename_i KK hKK
      refine hKK _ _ (wp_mono_q (pass0 w0 w g s i v (s.extract f k) l rr hlt HB.out hg HML.out hs (s.size + 1) _ _ ?_) (exit_mono ?_))
      · exact ⟨⟨rfl, rfl, rfl, rfl, rfl⟩, k, [], _, _, HT2.out.setName _, hwl, by decide, HR.out⟩
      · intro l' a' w' h
        obtain ⟨n', _, h⟩ := h
        exact ⟨n', h⟩
end Go.Proofs.YtffpbhbiamkkpaaDoor.Lx
