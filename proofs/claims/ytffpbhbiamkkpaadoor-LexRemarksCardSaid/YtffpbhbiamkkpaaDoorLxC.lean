/- The lexer's tokens: their kinds; what is appended. -/
import Derived.Test.YtffpbhbiamkkpaaDoorLxB
import Derived.Test.YtffpbhbiamkkpaaDoorWApart
namespace Go.Proofs.YtffpbhbiamkkpaaDoor.Lx
open Go.RowKit Go.Proofs.YtffpbhbiamkkpaaDoorW.PrintWords Go.Proofs.YtffpbhbiamkkpaaDoorW.PrintLast Go.Proofs.YtffpbhbiamkkpaaDoorW.PrintMore Go.Proofs.YtffpbhbiamkkpaaDoor.PU
set_option linter.unusedVariables false

structure Raw where
  n : ByteArray
  v : ByteArray
structure Tok where
  kind : Int
  at_ : Int
  name : ByteArray
  attrs : List Raw
  text : ByteArray
def kRaw : Kd Raw := Kd.iso (Kd.pair Kd.string Kd.string) (fun x => (x.n, x.v))
def kTok : Kd Tok := Kd.iso (Kd.pair (Kd.int .i64) (Kd.pair (Kd.int .i64) (Kd.pair Kd.string (Kd.pair (Kd.slice 86 kRaw) Kd.string)))) (fun x => (x.kind, x.at_, x.name, x.attrs, x.text))
theorem kTok_mk (w : World) (base : Nat) (ok : Nat → Prop) (x : Tok) {v : Value} (h : kRaw.R 86 w base ok v x.attrs) : kTok.M w base ok x [.int .i64 x.kind, .int .i64 x.at_, .string x.name, v, .string x.text] :=
  ⟨[.int .i64 x.kind], [.int .i64 x.at_, .string x.name, v, .string x.text], rfl, rfl, ⟨[.int .i64 x.at_], [.string x.name, v, .string x.text], rfl, rfl, ⟨[.string x.name], [v, .string x.text], rfl, rfl, ⟨[v], [.string x.text], rfl, ⟨v, rfl, h⟩, rfl⟩⟩⟩⟩
theorem kRaw_mk (w : World) (base : Nat) (ok : Nat → Prop) (x : Raw) : kRaw.M w base ok x [.string x.n, .string x.v] :=
  ⟨[.string x.n], [.string x.v], rfl, rfl, rfl⟩
theorem infoTok : (Tryd.prog.info? 50).map (fun i => (i.zero, i.size, i.bytes)) = some (some (.agg #[.int .i64 0, .int .i64 0, .string ⟨#[]⟩, .slice none 0 0, .string ⟨#[]⟩]), kTok.sz, 72) := by kernel_rfl
theorem infoRaw : (Tryd.prog.info? 86).map (fun i => (i.zero, i.size, i.bytes)) = some (some (.agg #[.string ⟨#[]⟩, .string ⟨#[]⟩]), kRaw.sz, 32) := by kernel_rfl

/-- The lexer at block g holds the tokens l; nothing of what w0 held has turned. -/
structure Held (w0 : World) (g : Nat) (s : ByteArray) (i : Nat) (l : List Tok) (w : World) : Prop where
  lt : w0.heap.size ≤ g
  below : Below w0.heap.size w0 w
  ex : ∃ v, At w g s i v ∧ kTok.S 50 w w0.heap.size (fun k => k ≠ g) v l

theorem Moved.belowB {w0 w w' : World} {g : Nat} {s : ByteArray} {i : Nat} {v : Value} (h : Moved g w w' s i v) (hb : Below w0.heap.size w0 w) (hg : w0.heap.size ≤ g) : Below w0.heap.size w0 w' :=
  ⟨h.os.trans hb.os, h.tape.trans hb.tape, h.output.trans hb.output, Nat.le_trans hb.size h.size, fun k hk => (h.old k (by have := hb.size; omega) (by omega)).trans (hb.block k hk)⟩
theorem Moved.toks {w w' : World} {g : Nat} {s : ByteArray} {i : Nat} {v v' : Value} {l : List Tok} {B : Nat} {ok : Nat → Prop} (h : Moved g w w' s i v') (hS : kTok.S 50 w B ok v l) (hok : ∀ k, ok k → k ≠ g) : kTok.S 50 w' B ok v l :=
  Kd.S_step hS (fun k ho hlt => h.old k hlt (hok k ho))
theorem At.set2 {w : World} {g : Nat} {s : ByteArray} {i : Nat} {v : Value} (h : At w g s i v) (u : Value) : At (w.setCell ⟨g, 2, none⟩ u) g s i u := by
  unfold At at *
  exact (blk_set h 2 u).trans rfl

section
variable {ops : Array Oper} {rest : List Oper} {o : Oper} {a : Act} {Q : Exit → Act → World → Prop} {Kc : Act → World → Prop}
theorem held_after {w0 W w1 : World} {g : Nat} {s : ByteArray} {j : Nat} {v v1 : Value} {l : List Tok} {okq : Nat → Prop} (hg : w0.heap.size ≤ g) (hat : At W g s j v) (hS : kTok.S 50 W w0.heap.size okq v l) {l' : List Tok} (hS1 : kTok.S 50 w1 w0.heap.size (fun k => k ≠ g) v1 l') (hb1 : Below w0.heap.size w0 w1) (hg1 : W.grownBy w1 v.ownBlock) :
    At w1 g s j v ∧ Held w0 g s j l' (w1.setCell ⟨g, 2, none⟩ v1) := by
  have hat1 : At w1 g s j v := by
    unfold At at *
    exact (hg1.block g (blk_lt hat) (Kd.S_ne hS hat (by decide))).trans hat
  exact ⟨hat1, hg, hb1.setCell (p := ⟨g, 2, none⟩) hg _, v1, hat1.set2 v1, Kd.S_far (p := ⟨g, 2, none⟩) hS1 (fun k hk => hk) v1⟩
theorem push_tok {w0 W : World} {g : Nat} {s : ByteArray} {j : Nat} {v : Value} {l : List Tok} (t : Tok) (cs : List Value) (okp : Nat → Prop) (hgd : o.guard = none) (x y : Operand)
    (ho : o.op = .call { callee := .builtin .append, args := #[x, y], argTypes := #[45, 45] }) (hx : a.eval x = v) (hy : a.eval y = .slice (some ⟨W.heap.size, 0, none⟩) 1 1)
    (hp : kTok.M W w0.heap.size okp t cs) (hokp : ∀ k, okp k → k ≠ g ∧ some k ≠ v.ownBlock)
    (hg : w0.heap.size ≤ g) {w : World} (hbw : Below w0.heap.size w0 w) (hSw : kTok.S 50 w w0.heap.size (fun k => k ≠ g ∧ ¬ okp k) v l) (hl : l.length < 1000000) (hm : Moved g w W s j v)
    (h : ∀ A n c w1, At w1 g s j v → Held w0 g s j (l ++ [t]) (w1.setCell ⟨g, 2, none⟩ (.slice A n c)) → wpList Tryd.prog ops Q rest (a.put o.dst (.slice A n c)) w1) :
    wpList Tryd.prog ops Q (o :: rest) a (W.alloc (.cells cs.toArray 50)) := by
  have hat := hm.me
  have hb := hm.belowB hbw hg
  have hS := hm.toks hSw (fun _ h => h.1)
  refine Kd.S_append kTok (w0 := w0) w0.heap.size hgd x y 45 50 _ 72 ho Tryd.underlying45 infoTok rfl (by decide) (by omega) v l t cs (fun k => k ≠ g) okp hx hy hp hokp (fun k hk => by have := blk_lt hat; omega) hS hb hb.size (by omega) ?_
  intro v1 w1 hS1 hb1 hg1 _
  obtain ⟨A, c, rfl⟩ := Kd.S_slice hS1
  obtain ⟨h1, h2⟩ := held_after hg hat hS hS1 hb1 hg1
  exact h _ _ _ _ h1 h2
end

/-- A closing tag: its name and the place behind it; or what is wrong. -/
def closingS (s : ByteArray) (i : Nat) : Except (Int × Int) (Tok × Nat) :=
  match wordS s i (i + 2) with
  | .error (a, c) => .error (a, c)
  | .ok k => if skip blankB s k = s.size then .error (i, 2) else if nextB s (skip blankB s k) sGt then .ok (⟨2, i, s.extract (i + 2) k, [], ⟨#[]⟩⟩, skip blankB s k + 1) else .error ((skip blankB s k : Nat), 4)
def PushPost (w0 : World) (g : Nat) (s : ByteArray) (l : List Tok) : Except (Int × Int) (Tok × Nat) → Ending → World → Prop
  | .ok (t, j), e, w' => e = .returned (.tuple #[]) ∧ Held w0 g s j (l ++ [t]) w'
  | .error (a, c), e, w' => gaveUp e a c ∧ Below w0.heap.size w0 w'

set_option maxHeartbeats 1000000 in
set_option maxRecDepth 100000 in
theorem closing_calls (w0 : World) (g : Nat) (s : ByteArray) (i : Nat) (l : List Tok) (w : World) (h : Held w0 g s i l w) (hi : i + 2 ≤ s.size) (hs : s.size < 4294967281) (hl : l.length < 1000000) :
    Calls Tryd.prog 95 #[.pointer (some ⟨g, 0, none⟩)] w (PushPost w0 g s l (closingS s i)) := by
  obtain ⟨hlt, hbel, v, hat, hS⟩ := h
  obtain ⟨Av, cv, rfl⟩ := Kd.S_slice hS
  obtain ⟨v, hv⟩ : ∃ v, v = Value.slice Av l.length cv := ⟨_, rfl⟩
  rw [← hv] at hat hS
  have HVS := Aside0.mk hv
  clear hv
  have c0 := hat.c0
  have c1 := hat.c1
  have f1 := hat.f0 1
  have HV := Aside0.mk hat.moved
  have HS := Aside0.mk hS
  have HBL := Aside0.mk hbel
  obtain ⟨f, hf⟩ : ∃ f : Nat, f = i + 2 := ⟨_, rfl⟩
  have hsp : closingS s i = match wordS s i f with
      | .error (a, c) => .error (a, c)
      | .ok k => if skip blankB s k = s.size then .error (i, 2) else if nextB s (skip blankB s k) sGt then .ok (⟨2, i, s.extract f k, [], ⟨#[]⟩⟩, skip blankB s k + 1) else .error ((skip blankB s k : Nat), 4) := by rw [hf]; rfl
  have HW := Aside0.mk (fun (W : World) (h : At W g s f v) => word_calls g s i f v W h (by omega) (by omega))
  have hwl : ∀ k, wordS s i f = .ok k → k ≤ s.size := by
    intro k hk
    unfold wordS at hk
    split at hk
    · cases hk
    · split at hk
      · cases hk
      · cases hk; exact (skip_le partB s f (by omega)).2
  generalize wordS s i f = x at hsp HW hwl
  have e1 : (i : Int) + 2 = (f : Int) := by omega
  have b0 : f ≤ s.size := by omega
  have HF := Aside0.mk hf
  clear hf hat hS hbel
  have q0 := eq_true (show (0 : Int) ≤ (i : Int) by omega)
  cases x with
  | error p =>
    obtain ⟨a, c⟩ := p
    have HSP := Aside0.mk hsp
    clear hsp hwl
    go_enter Tryd.func95, Tryd.ntmps95
    go_wp2_with (go_at_call 127; (with_reducible refine (HW.out _ (HV.out.set (i := i) (q := f) (by have := HF.out; omega)).me).mono ?_); rintro e w' ⟨hgu, k, hk⟩; unfold gaveUp at hgu; subst hgu; have HK := Aside0.mk hk; clear hk)
    refine ⟨rfl, ?_⟩
    rw [HSP.out]
    exact ⟨rfl, ((HV.out.set (i := i) (q := f) (by have := HF.out; omega)).trans HK.out).belowB HBL.out hlt⟩
  | ok k =>
    have hwl := hwl k rfl
    simp only at hsp
    have HBK := Aside0.mk (fun (W : World) (h : At W g s k v) => blanks_calls g s k v W h hwl (by omega))
    have hml := skip_le blankB s k hwl
    obtain ⟨m, hm⟩ : ∃ m : Nat, m = skip blankB s k := ⟨_, rfl⟩
    rw [← hm] at hsp hml HBK
    clear hm
    have HN := Aside0.mk (fun (W : World) (h : At W g s m v) => next_calls g s sGt m v W h hml.2)
    have m0 := eq_true (show (0 : Int) ≤ (m : Int) by omega)
    by_cases hms : m = s.size
    · rw [if_pos hms] at hsp
      have HSP := Aside0.mk hsp
      have n1 : (m == s.size) = true := beq_iff_eq.mpr hms
      clear hsp hms
      go_enter Tryd.func95, Tryd.ntmps95
      go_wp2_with (first | (go_at_call 127; (with_reducible refine (HW.out _ (HV.out.set (i := i) (q := f) (by have := HF.out; omega)).me).mono ?_); rintro e w2 ⟨rfl, hm2⟩; have HV2 := Aside0.mk ((HV.out.set (i := i) (q := f) (j := (f : Int)) rfl).trans hm2); clear hm2) | (go_at_call 89; (with_reducible refine (HBK.out _ HV2.out.me).mono ?_); rintro e w3 ⟨rfl, hm3⟩; have HV3 := Aside0.mk (HV2.out.trans hm3); clear hm3; have d0 := HV3.out.me.c0; have d1 := HV3.out.me.c1; have df := HV3.out.me.f0 1))
      go_quiet (fail)
      go_wp2_with (go_at_call 91; (with_reducible refine (fail_calls _ _ _ _).mono ?_); rintro e w' ⟨hgu, rfl⟩; unfold gaveUp at hgu; subst hgu)
      refine ⟨rfl, ?_⟩
      rw [HSP.out]
      exact ⟨rfl, (HV3.out.drewN _).belowB HBL.out hlt⟩
    · rw [if_neg hms] at hsp
      have n1 : (m == s.size) = false := beq_eq_false_iff_ne.mpr hms
      cases hb : nextB s m sGt with
      | false =>
        rw [hb, if_neg (by decide)] at hsp
        rw [hb] at HN
        have HSP := Aside0.mk hsp
        clear hsp hb hms
        go_enter Tryd.func95, Tryd.ntmps95
        go_wp2_with (first | (go_at_call 127; (with_reducible refine (HW.out _ (HV.out.set (i := i) (q := f) (by have := HF.out; omega)).me).mono ?_); rintro e w2 ⟨rfl, hm2⟩; have HV2 := Aside0.mk ((HV.out.set (i := i) (q := f) (j := (f : Int)) rfl).trans hm2); clear hm2) | (go_at_call 89; (with_reducible refine (HBK.out _ HV2.out.me).mono ?_); rintro e w3 ⟨rfl, hm3⟩; have HV3 := Aside0.mk (HV2.out.trans hm3); clear hm3; have d0 := HV3.out.me.c0; have d1 := HV3.out.me.c1; have df := HV3.out.me.f0 1))
        go_quiet (fail)
        go_wp2_with (first | (go_at_call 54; (with_reducible refine (HN.out _ (HV3.out.drewN _).me).mono ?_); rintro e w3 ⟨rfl, ⟨nd, rfl⟩⟩) | (go_at_call 91; (with_reducible refine (fail_calls _ _ _ _).mono ?_); rintro e w' ⟨hgu, rfl⟩; unfold gaveUp at hgu; subst hgu))
        refine ⟨rfl, ?_⟩
        rw [HSP.out]
        exact ⟨rfl, Moved.belowB (s := s) (i := m) (v := v) (by repeat (first | (with_reducible exact HV3.out) | (with_reducible apply Moved.drewN) | (with_reducible apply Moved.drew))) HBL.out hlt⟩
      | true =>
        rw [hb, if_pos rfl] at hsp
        rw [hb] at HN
        have hjl := nextB_le hb hml.2
        obtain ⟨j, hj⟩ : ∃ j : Nat, j = m + 1 := ⟨_, rfl⟩
        have e2 : (m : Int) + 1 = (j : Int) := by omega
        have b1 : j ≤ s.size := by have h1 : sGt.size = 1 := rfl; omega
        rw [← hj] at hsp
        have HJ := Aside0.mk hj
        have HSP := Aside0.mk hsp
        clear hsp hb hms hjl hj
        go_enter Tryd.func95, Tryd.ntmps95
        go_wp2_with (first | (go_at_call 127; (with_reducible refine (HW.out _ (HV.out.set (i := i) (q := f) (by have := HF.out; omega)).me).mono ?_); rintro e w2 ⟨rfl, hm2⟩; have HV2 := Aside0.mk ((HV.out.set (i := i) (q := f) (j := (f : Int)) rfl).trans hm2); clear hm2) | (go_at_call 89; (with_reducible refine (HBK.out _ HV2.out.me).mono ?_); rintro e w3 ⟨rfl, hm3⟩; have HV3 := Aside0.mk (HV2.out.trans hm3); clear hm3; have d0 := HV3.out.me.c0; have d1 := HV3.out.me.c1; have d2 := HV3.out.me.c2; have df := HV3.out.me.f0 1))
        go_quiet (fail)
        go_wp2_with (first | (go_at_call 54; (with_reducible refine (HN.out _ (HV3.out.drewN _).me).mono ?_); rintro e w4 ⟨rfl, ⟨nd, rfl⟩⟩) | (at_builtin; refine push_tok (w0 := w0) (g := g) (s := s) (j := j) (v := v) (l := l) (⟨2, i, s.extract f k, [], ⟨#[]⟩⟩ : Tok) [.int .i64 2, .int .i64 i, .string (s.extract f k), .slice none 0 0, .string ⟨#[]⟩] (fun _ => False) rfl (.tmp 53) (.tmp 57) rfl rfl (by first | rfl | (go_simp; done) | (go_simp; rfl)) (kTok_mk _ _ _ (⟨2, i, s.extract f k, [], ⟨#[]⟩⟩ : Tok) (Kd.R_nil _ _ _ _ _)) (fun _ h => h.elim) hlt HBL.out (Kd.S_mono HS.out (fun _ h => ⟨h, fun h => h⟩)) hl (by repeat (first | (with_reducible exact HV3.out) | (with_reducible apply Moved.drewN) | (with_reducible apply Moved.drew) | refine Moved.set (i := m) ?_ (q := j) rfl)) ?_; intro A' n' c' w5 hat5 hheld; have HH := Aside0.mk hheld; have g2 := hat5.c2; have gf := hat5.f0 2; clear hat5 hheld))
        go_end0
        rw [HSP.out]
        exact ⟨rfl, HH.out⟩
end Go.Proofs.YtffpbhbiamkkpaaDoor.Lx
