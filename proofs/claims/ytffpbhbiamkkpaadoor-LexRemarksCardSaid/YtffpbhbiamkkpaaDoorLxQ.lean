/- lex.Tokens: what it comes to. Printed by wip/lex/mktok2.py. -/
import Derived.Test.YtffpbhbiamkkpaaDoorLxP
import Derived.Test.YtffpbhbiamkkpaaDoorLxH
import Derived.Defers
namespace Go.Proofs.YtffpbhbiamkkpaaDoor.Lx
open Go.RowKit Go.Proofs.YtffpbhbiamkkpaaDoorW.PrintWords Go.Proofs.YtffpbhbiamkkpaaDoorW.PrintLast Go.Proofs.YtffpbhbiamkkpaaDoorW.PrintMore Go.Proofs.YtffpbhbiamkkpaaDoor.PU
set_option linter.unusedVariables false
set_option linter.unusedSimpArgs false
abbrev sDecl : ByteArray := ⟨#[60, 63, 120, 109, 108]⟩
/-- From place i on, with the tokens l. -/
def loopS (s : ByteArray) : Nat → Nat → List Tok → Option (Except (Int × Int) (List Tok))
  | 0, _, _ => none
  | d + 1, i, l =>
    if i < s.size then (oneS s i).bind fun r => match r with
      | .error e => some (.error e)
      | .ok (t, j) => if j ≤ s.size then (if l.length + t.length < 1000000 then loopS s d j (l ++ t) else none) else none
    else some (.ok l)
/-- The place at which the reading begins: behind a declaration. -/
def startS (s : ByteArray) : Except (Int × Int) Nat :=
  if nextB s 0 sDecl = true ∧ 5 < s.size ∧ blankB (bt s 5) = true then declS s else .ok 0
def outS : Except (Int × Int) (List Tok) → List Tok × Int × Int
  | .error (a, c) => ([], a, c)
  | .ok l => (l, 0, 0)
def lexTok (s : ByteArray) : Option (List Tok × Int × Int) :=
  if 32768 < s.size then some ([], 0, 3)
  else (utf_Check.f (s.size + 20) s).bind fun i => if 0 ≤ i then some ([], i, 10)
  else (lex_char.f (s.size + 20) s).bind fun i => if 0 ≤ i then some ([], i, 11)
  else match startS s with
    | .error (a, c) => some ([], a, c)
    | .ok j => if j ≤ s.size then (loopS s (s.size + 1) j []).map outS else none
def TokPost (w : World) (l : List Tok) (a c : Int) (e : Ending) (w' : World) : Prop :=
  ∃ v, e = .returned (.tuple #[v, .int .i64 a, .int .i64 c]) ∧ kTok.S 50 w' w.heap.size (fun _ => True) v l ∧ Below w.heap.size w w'

/-- The three results' boxes, as they were laid. -/
structure Box3 (w W : World) : Prop where
  b0 : W.heap[w.heap.size]? = some (.cells #[.slice none 0 0] 45 (0, 0))
  b1 : W.heap[w.heap.size + 1]? = some (.cells #[.int .i64 0] 3 (0, 0))
  b2 : W.heap[w.heap.size + 2]? = some (.cells #[.int .i64 0] 31 (0, 0))
  bel : Below w.heap.size w W
theorem Box3.new (w : World) : Box3 w (((w.alloc (.cells #[.slice none 0 0] 45)).alloc (.cells #[.int .i64 0] 3)).alloc (.cells #[.int .i64 0] 31)) := by
  have h1 := blk_new (w.alloc (.cells #[.slice none 0 0] 45)) (.cells #[.int .i64 0] 3)
  have h2 := blk_new ((w.alloc (.cells #[.slice none 0 0] 45)).alloc (.cells #[.int .i64 0] 3)) (.cells #[.int .i64 0] 31)
  exact ⟨blk_alloc (blk_alloc (blk_new _ _) _) _, blk_alloc (by simpa using h1) _, by simpa using h2, below_alloc (below_alloc (below_alloc (Below.refl _ _) _) _) _⟩
theorem Box3.below {w W W' : World} (h : Box3 w W) (hb : Below W.heap.size W W') : Box3 w W' :=
  ⟨blk_below h.b0 hb, blk_below h.b1 hb, blk_below h.b2 hb, below_step h.bel hb⟩
theorem Box3.facts {w W : World} (h : Box3 w W) : W.cell? ⟨w.heap.size, 0, none⟩ = some (.slice none 0 0) ∧ W.cell? ⟨w.heap.size + 1, 0, none⟩ = some (.int .i64 0) ∧ W.cell? ⟨w.heap.size + 1 + 1, 0, none⟩ = some (.int .i64 0) ∧
    W.frozen? ⟨w.heap.size, 0, none⟩ = false ∧ W.frozen? ⟨w.heap.size + 1, 0, none⟩ = false ∧ W.frozen? ⟨w.heap.size + 1 + 1, 0, none⟩ = false :=
  ⟨(blk_cell h.b0 0).trans rfl, (blk_cell h.b1 0).trans rfl, (blk_cell h.b2 0).trans rfl, blk_frozen h.b0 0, blk_frozen h.b1 0, blk_frozen h.b2 0⟩

theorem leave3 {P : Program} {fn : Func} {tmps : Array Value} {W : World} {B : Nat} {v : Value} {a c : Int} {R : Ending → World → Prop}
    (hr : (results fn tmps).run P W = .ok (.tuple #[v, .int .i64 a, .int .i64 c]) W) (h : R (.returned (.tuple #[v, .int .i64 a, .int .i64 c])) W) : Leaves P fn tmps R [] .returning W := ⟨_, hr, h⟩

set_option maxHeartbeats 4000000 in
set_option maxRecDepth 100000 in
theorem tokens_long (s : ByteArray) (w : World) (h : 32768 < s.size) : Calls Tryd.prog 23 #[.string s] w (TokPost w [] 0 3) := by
  have h1 : (32768 : Int) < (s.size : Int) := by omega
  have h2 := eq_true h1
  have h3 : decide ((32768 : Int) < (s.size : Int)) = true := decide_eq_true h1
  go_enter_defers Tryd.func23, Tryd.ntmps23
  go_wp2
  refine leave3 (v := .slice none 0 0) (B := 0) (by simp [results, Tryd.results23, go_sem]) ⟨_, rfl, Kd.S_nil _ _ _ _ _, ?_⟩
  exact below_alloc (below_alloc (below_alloc (Below.refl _ _) _) _) _
set_option maxHeartbeats 4000000 in
set_option maxRecDepth 100000 in
theorem tokens_utf (s : ByteArray) (w : World) (h : ¬ 32768 < s.size) (i : Int) (hi : utf_Check.f (s.size + 20) s = some i) (hi0 : 0 ≤ i) : Calls Tryd.prog 23 #[.string s] w (TokPost w [] i 10) := by
  have h2 := eq_false (show ¬ (32768 : Int) < (s.size : Int) by omega)
  have h3 : decide ((32768 : Int) < (s.size : Int)) = false := decide_eq_false (by omega)
  have i1 := eq_true hi0
  have i2 : decide (0 ≤ i) = true := decide_eq_true hi0
  have HC := Aside0.mk hi
  have HN := Aside0.mk (Box3.new w)
  clear hi
  go_enter_defers Tryd.func23, Tryd.ntmps23
  go_wp2_with (go_at_call 51; (with_reducible refine (utf_Check.calls _ s i _ HC.out).mono ?_); rintro e W4 ⟨rfl, hb4⟩; have HX4 := Aside0.mk (HN.out.below hb4); clear hb4; obtain ⟨x0, x1, x2, z0, z1, z2⟩ := HX4.out.facts)
  refine leave3 (v := .slice none 0 0) (B := 0) (by simp [results, Tryd.results23, go_sem, x0, x1, x2]) ⟨_, rfl, Kd.S_nil _ _ _ _ _, ?_⟩
  exact ((HX4.out.bel.setCell (p := ⟨w.heap.size, 0, none⟩) (Nat.le_refl _) _).setCell (p := ⟨w.heap.size + 1, 0, none⟩) (by show w.heap.size ≤ w.heap.size + 1; omega) _).setCell (p := ⟨w.heap.size + 1 + 1, 0, none⟩) (by show w.heap.size ≤ w.heap.size + 1 + 1; omega) _
set_option maxHeartbeats 4000000 in
set_option maxRecDepth 100000 in
theorem tokens_char (s : ByteArray) (w : World) (h : ¬ 32768 < s.size) (i : Int) (hi : utf_Check.f (s.size + 20) s = some i) (hi0 : ¬ 0 ≤ i) (j : Int) (hj : lex_char.f (s.size + 20) s = some j) (hj0 : 0 ≤ j) : Calls Tryd.prog 23 #[.string s] w (TokPost w [] j 11) := by
  have h2 := eq_false (show ¬ (32768 : Int) < (s.size : Int) by omega)
  have h3 : decide ((32768 : Int) < (s.size : Int)) = false := decide_eq_false (by omega)
  have i1 := eq_false hi0
  have i2 : decide (0 ≤ i) = false := decide_eq_false hi0
  have j1 := eq_true hj0
  have j2 : decide (0 ≤ j) = true := decide_eq_true hj0
  have HC := Aside0.mk hi
  have HD := Aside0.mk hj
  have HN := Aside0.mk (Box3.new w)
  clear hi hj
  go_enter_defers Tryd.func23, Tryd.ntmps23
  go_wp2_with (first | (go_at_call 51; (with_reducible refine (utf_Check.calls _ s i _ HC.out).mono ?_); rintro e W4 ⟨rfl, hb4⟩; have HX4 := Aside0.mk (HN.out.below hb4); clear hb4) | (go_at_call 52; (with_reducible refine (lex_char.calls _ s j _ HD.out).mono ?_); rintro e W5 ⟨rfl, hb5⟩; have HX5 := Aside0.mk (HX4.out.below hb5); clear hb5; obtain ⟨x0, x1, x2, z0, z1, z2⟩ := HX5.out.facts))
  refine leave3 (v := .slice none 0 0) (B := 0) (by simp [results, Tryd.results23, go_sem, x0, x1, x2]) ⟨_, rfl, Kd.S_nil _ _ _ _ _, ?_⟩
  exact ((HX5.out.bel.setCell (p := ⟨w.heap.size, 0, none⟩) (Nat.le_refl _) _).setCell (p := ⟨w.heap.size + 1, 0, none⟩) (by show w.heap.size ≤ w.heap.size + 1; omega) _).setCell (p := ⟨w.heap.size + 1 + 1, 0, none⟩) (by show w.heap.size ≤ w.heap.size + 1 + 1; omega) _
theorem Far3.belowB {w W W' : World} (h : Far3 W w.heap.size W') (hb : Below w.heap.size w W) : Below w.heap.size w W' :=
  ⟨h.os.trans hb.os, h.tape.trans hb.tape, h.output.trans hb.output, Nat.le_trans hb.size h.size, fun k hk => (h.old k (by have := hb.size; omega) (by omega) (by omega) (by omega)).trans (hb.block k hk)⟩
theorem At.new (W : World) (s : ByteArray) : At (W.alloc (.cells #[.string s, .int .i64 0, .slice none 0 0] 95)) W.heap.size s 0 (.slice none 0 0) := blk_new W _
theorem Held.new (W : World) (s : ByteArray) : Held W W.heap.size s 0 [] (W.alloc (.cells #[.string s, .int .i64 0, .slice none 0 0] 95)) :=
  ⟨Nat.le_refl _, below_alloc (Below.refl _ _) _, _, At.new W s, Kd.S_nil _ _ _ _ _⟩
set_option maxHeartbeats 4000000 in
set_option maxRecDepth 100000 in
theorem tokens_a (s : ByteArray) (w : World) (hml : ML w) (hT : U8 w) (h : ¬ 32768 < s.size) (i : Int) (hi : utf_Check.f (s.size + 20) s = some i) (hi0 : ¬ 0 ≤ i) (j : Int) (hj : lex_char.f (s.size + 20) s = some j) (hj0 : ¬ 0 ≤ j)
    (hd : nextB s 0 sDecl = false) (rr : Except (Int × Int) (List Tok)) (hr : loopS s (s.size + 1) 0 [] = some rr) : Calls Tryd.prog 23 #[.string s] w (TokPost w (outS rr).1 (outS rr).2.1 (outS rr).2.2) := by
  have h2 := eq_false (show ¬ (32768 : Int) < (s.size : Int) by omega)
  have h3 : decide ((32768 : Int) < (s.size : Int)) = false := decide_eq_false (by omega)
  have i1 := eq_false hi0
  have i2 : decide (0 ≤ i) = false := decide_eq_false hi0
  have j1 := eq_false hj0
  have j2 : decide (0 ≤ j) = false := decide_eq_false hj0
  have HC := Aside0.mk hi
  have HD := Aside0.mk hj
  have HN := Aside0.mk (Box3.new w)
  have HML := Aside0.mk hml
  have HTB := Aside0.mk hT
  have HNX := Aside0.mk (fun (g : Nat) (v : Value) (W : World) (h : At W g s 0 v) => next_calls g s sDecl 0 v W h (Nat.zero_le _))
  rw [hd] at HNX
  have HR := Aside0.mk hr
  clear hi hj hml hd hT hr
  have hmf : ∀ (fn : Fn) (first cap : Array Value) (w : World), (Instr.makeFunc fn first cap).run Tryd.prog w = .ok (.func fn first cap) w := fun _ _ _ _ => rfl
  go_enter_defers Tryd.func23, Tryd.ntmps23
  go_wp2_with (first | (go_at_call 51; (with_reducible refine (utf_Check.calls _ s i _ HC.out).mono ?_); rintro e W4 ⟨rfl, hb4⟩; have HX4 := Aside0.mk (HN.out.below hb4); clear hb4) | (go_at_call 52; (with_reducible refine (lex_char.calls _ s j _ HD.out).mono ?_); rintro e W5 ⟨rfl, hb5⟩; have HX5 := Aside0.mk (HX4.out.below hb5); clear hb5) | (go_at_call 54; (with_reducible refine (HNX.out _ _ _ (At.new W5 s)).mono ?_); rintro e w6 ⟨rfl, ⟨nd, rfl⟩⟩))
  have HM5 := Aside0.mk (HML.out.below (HX5.out.bel))
  have HU5 := Aside0.mk (Utf8Tabs_below HTB.out HX5.out.bel)
  have HH0 := Aside0.mk ((Held.new W5 s).drewN nd)
  go_loopg [] (s.size + 1) (fun m wr => ∃ (k : Nat) (l : List Tok), k ≤ s.size ∧ l.length < 1000000 ∧ Aside0 (Held W5 W5.heap.size s k l wr) ∧ Aside0 (loopS s m k l = some rr))
  case atStart => exact ⟨0, [], Nat.zero_le _, by decide, HH0, HR⟩
  case round =>
    obtain ⟨k, l, hk, hl, HH, HL⟩ := hrel
    clear HR HH0
    obtain ⟨v, hat, hS⟩ := HH.out.ex
    obtain ⟨Av, cv, rfl⟩ := Kd.S_slice hS
    have c0 := hat.c0
    have c1 := hat.c1
    have HA := Aside0.mk hat
    have HS := Aside0.mk hS
    clear hat hS
    have hr := HL.out
    clear HL
    obtain ⟨d, rfl⟩ : ∃ d, gk = d + 1 := by
      cases gk with
      | zero => cases hr
      | succ d => exact ⟨d, rfl⟩
    rw [loopS] at hr
    have q0 := eq_true (show (0 : Int) ≤ (k : Int) by omega)
    by_cases hlt : k < s.size
    · rw [if_pos hlt] at hr
      obtain ⟨r1, h1, hr⟩ := Option.bind_eq_some_iff.1 hr
      have HO := Aside0.mk (fun (W : World) (h : Held W5 W5.heap.size s k l W) => one_calls W5 W5.heap.size s k l W r1 h HM5.out HU5.out hlt (by omega) hl h1)
      have l1 : decide (k < s.size) = true := decide_eq_true hlt
      clear h1
      cases r1 with
      | error pp =>
        obtain ⟨pa, pc⟩ := pp
        obtain rfl := Option.some.inj hr
        clear hr
        go_wp2
        go_quiet (fail)
        go_wp2_with (go_at_call 57; (with_reducible refine (HO.out _ (HH.out.drewN _)).mono ?_); rintro e7 W7 ⟨hgu, hb7⟩; unfold gaveUp at hgu; subst hgu; have HX7 := Aside0.mk (HX5.out.below hb7); clear hb7)
        obtain ⟨x0, x1, x2, z0, z1, z2⟩ := HX7.out.facts
        refine leaves_cons (f := 53) (args := #[.pointer (some ⟨w.heap.size, 0, none⟩), .pointer (some ⟨w.heap.size + 1, 0, none⟩), .pointer (some ⟨w.heap.size + 1 + 1, 0, none⟩)]) (by simp) (by simp [go_sem]) ?_
        refine (catch_panicking w.heap.size pa pc _ 0 0 [] W7 x0 x1 x2 z0 z1 z2).mono ?_
        rintro e8 u' w8 ⟨rfl, rfl, hc8⟩
        have y0 := hc8.c0
        have y1 := hc8.c1
        have y2 : w8.cell? ⟨w.heap.size + 1 + 1, 0, none⟩ = some (.int .i64 pc) := hc8.c2
        show Leaves _ _ _ _ [] .returning _
        refine leave3 (v := .slice none 0 0) (a := pa) (c := pc) (B := 0) (by simp [results, Tryd.results23, go_sem, y0, y1, y2]) ⟨_, rfl, Kd.S_nil _ _ _ _ _, hc8.far.belowB HX7.out.bel⟩
      | ok tj =>
        obtain ⟨t, q⟩ := tj
        simp only at hr
        by_cases hq : q ≤ s.size
        case neg => rw [if_neg hq] at hr; cases hr
        rw [if_pos hq] at hr
        by_cases hl2 : l.length + t.length < 1000000
        case neg => rw [if_neg hl2] at hr; cases hr
        rw [if_pos hl2] at hr
        have HR2 := Aside0.mk hr
        clear hr
        go_wp2
        go_quiet (fail)
        go_wp2_with (go_at_call 57; (with_reducible refine (HO.out _ (HH.out.drewN _)).mono ?_); rintro e7 W7 ⟨rfl, hb7⟩; have HB7 := Aside0.mk hb7; clear hb7)
        go_roundg d
        case measure => omega
        case rel => exact ⟨q, l ++ t, hq, by simp; omega, HB7, HR2⟩
    · rw [if_neg hlt] at hr
      obtain rfl := Option.some.inj hr
      have l1 : decide (k < s.size) = false := decide_eq_false hlt
      have c2 := HA.out.c2
      have hx := (HX5.out.below (show Below W5.heap.size W5 wr from HH.out.below)).facts
      obtain ⟨x0, x1, x2, z0, z1, z2⟩ := hx
      clear hr
      go_wp2
      go_quiet (fail)
      go_wp2
      have hsz : w.heap.size + 1 + 1 < wr.heap.size := World.block_lt_of_cell? wr _ x2
      refine leaves_cons (f := 53) (args := #[.pointer (some ⟨w.heap.size, 0, none⟩), .pointer (some ⟨w.heap.size + 1, 0, none⟩), .pointer (some ⟨w.heap.size + 1 + 1, 0, none⟩)]) (by simp) (by simp [go_sem]) ?_
      refine (catch_idle w.heap.size _).mono ?_
      rintro e9 u' w9 ⟨rfl, rfl, hb9⟩
      have y0 : w9.cell? ⟨w.heap.size, 0, none⟩ = some (.slice Av l.length cv) := (hb9.cell (p := ⟨w.heap.size, 0, none⟩) (by simp [World.setCell]; omega)).trans (by go_simp)
      have y1 : w9.cell? ⟨w.heap.size + 1, 0, none⟩ = some (.int .i64 0) := (hb9.cell (p := ⟨w.heap.size + 1, 0, none⟩) (by simp [World.setCell]; omega)).trans (by go_simp)
      have y2 : w9.cell? ⟨w.heap.size + 1 + 1, 0, none⟩ = some (.int .i64 0) := (hb9.cell (p := ⟨w.heap.size + 1 + 1, 0, none⟩) (by simp [World.setCell]; omega)).trans (by go_simp)
      show Leaves _ _ _ _ [] .returning _
      have hx5 := blk_lt HX5.out.b2
      have hblk : ∀ q, q < wr.heap.size → q ≠ w.heap.size → q ≠ w.heap.size + 1 → q ≠ w.heap.size + 1 + 1 → w9.heap[q]? = wr.heap[q]? := by
        intro q hq n0 n1 n2
        refine (hb9.block q (by simp [World.setCell]; omega)).trans ?_
        exact (Below.heap_setCell _ _ _ q n2).trans ((Below.heap_setCell _ _ _ q n1).trans (Below.heap_setCell _ _ _ q n0))
      refine leave3 (v := .slice Av l.length cv) (a := 0) (c := 0) (B := 0) (by simp [results, Tryd.results23, go_sem, y0, y1, y2]) ⟨_, rfl, ?_, ?_⟩
      · exact Kd.S_mono (Kd.S_lower (Kd.S_step (Kd.S_bound HS.out) (fun q hq hlt => hblk q hlt (by have := hq.2.1; omega) (by have := hq.2.1; omega) (by have := hq.2.1; omega))) (by omega)) (fun _ _ => trivial)
      · have hb := HX5.out.below HH.out.below
        have hw : w.heap.size ≤ wr.heap.size := hb.bel.size
        exact ⟨hb9.os.trans hb.bel.os, hb9.tape.trans hb.bel.tape, hb9.output.trans hb.bel.output, Nat.le_trans hw (Nat.le_trans (by simp [World.setCell]) hb9.size), fun q hq => (hblk q (by omega) (by omega) (by omega) (by omega)).trans (hb.bel.block q hq)⟩
set_option maxHeartbeats 4000000 in
set_option maxRecDepth 100000 in
theorem tokens_b (s : ByteArray) (w : World) (hml : ML w) (hT : U8 w) (h : ¬ 32768 < s.size) (i : Int) (hi : utf_Check.f (s.size + 20) s = some i) (hi0 : ¬ 0 ≤ i) (j : Int) (hj : lex_char.f (s.size + 20) s = some j) (hj0 : ¬ 0 ≤ j)
    (hd : nextB s 0 sDecl = true) (h5 : ¬ 5 < s.size) (rr : Except (Int × Int) (List Tok)) (hr : loopS s (s.size + 1) 0 [] = some rr) : Calls Tryd.prog 23 #[.string s] w (TokPost w (outS rr).1 (outS rr).2.1 (outS rr).2.2) := by
  have h2 := eq_false (show ¬ (32768 : Int) < (s.size : Int) by omega)
  have h3 : decide ((32768 : Int) < (s.size : Int)) = false := decide_eq_false (by omega)
  have i1 := eq_false hi0
  have i2 : decide (0 ≤ i) = false := decide_eq_false hi0
  have j1 := eq_false hj0
  have j2 : decide (0 ≤ j) = false := decide_eq_false hj0
  have HC := Aside0.mk hi
  have HD := Aside0.mk hj
  have HN := Aside0.mk (Box3.new w)
  have HML := Aside0.mk hml
  have HTB := Aside0.mk hT
  have HNX := Aside0.mk (fun (g : Nat) (v : Value) (W : World) (h : At W g s 0 v) => next_calls g s sDecl 0 v W h (Nat.zero_le _))
  rw [hd] at HNX
  have HR := Aside0.mk hr
  have y5 := eq_false (show ¬ (5 : Int) < (s.size : Int) by omega)
  have y6 : decide ((5 : Int) < (s.size : Int)) = false := decide_eq_false (by omega)
  clear hi hj hml hd hT hr
  have hmf : ∀ (fn : Fn) (first cap : Array Value) (w : World), (Instr.makeFunc fn first cap).run Tryd.prog w = .ok (.func fn first cap) w := fun _ _ _ _ => rfl
  go_enter_defers Tryd.func23, Tryd.ntmps23
  go_wp2_with (first | (go_at_call 51; (with_reducible refine (utf_Check.calls _ s i _ HC.out).mono ?_); rintro e W4 ⟨rfl, hb4⟩; have HX4 := Aside0.mk (HN.out.below hb4); clear hb4) | (go_at_call 52; (with_reducible refine (lex_char.calls _ s j _ HD.out).mono ?_); rintro e W5 ⟨rfl, hb5⟩; have HX5 := Aside0.mk (HX4.out.below hb5); clear hb5) | (go_at_call 54; (with_reducible refine (HNX.out _ _ _ (At.new W5 s)).mono ?_); rintro e w6 ⟨rfl, ⟨nd, rfl⟩⟩))
  have HM5 := Aside0.mk (HML.out.below (HX5.out.bel))
  have HU5 := Aside0.mk (Utf8Tabs_below HTB.out HX5.out.bel)
  have HH0 := Aside0.mk ((Held.new W5 s).drewN nd)
  go_loopg [] (s.size + 1) (fun m wr => ∃ (k : Nat) (l : List Tok), k ≤ s.size ∧ l.length < 1000000 ∧ Aside0 (Held W5 W5.heap.size s k l wr) ∧ Aside0 (loopS s m k l = some rr))
  case atStart => exact ⟨0, [], Nat.zero_le _, by decide, HH0, HR⟩
  case round =>
    obtain ⟨k, l, hk, hl, HH, HL⟩ := hrel
    clear HR HH0
    obtain ⟨v, hat, hS⟩ := HH.out.ex
    obtain ⟨Av, cv, rfl⟩ := Kd.S_slice hS
    have c0 := hat.c0
    have c1 := hat.c1
    have HA := Aside0.mk hat
    have HS := Aside0.mk hS
    clear hat hS
    have hr := HL.out
    clear HL
    obtain ⟨d, rfl⟩ : ∃ d, gk = d + 1 := by
      cases gk with
      | zero => cases hr
      | succ d => exact ⟨d, rfl⟩
    rw [loopS] at hr
    have q0 := eq_true (show (0 : Int) ≤ (k : Int) by omega)
    by_cases hlt : k < s.size
    · rw [if_pos hlt] at hr
      obtain ⟨r1, h1, hr⟩ := Option.bind_eq_some_iff.1 hr
      have HO := Aside0.mk (fun (W : World) (h : Held W5 W5.heap.size s k l W) => one_calls W5 W5.heap.size s k l W r1 h HM5.out HU5.out hlt (by omega) hl h1)
      have l1 : decide (k < s.size) = true := decide_eq_true hlt
      clear h1
      cases r1 with
      | error pp =>
        obtain ⟨pa, pc⟩ := pp
        obtain rfl := Option.some.inj hr
        clear hr
        go_wp2
        go_quiet (fail)
        go_wp2_with (go_at_call 57; (with_reducible refine (HO.out _ (HH.out.drewN _)).mono ?_); rintro e7 W7 ⟨hgu, hb7⟩; unfold gaveUp at hgu; subst hgu; have HX7 := Aside0.mk (HX5.out.below hb7); clear hb7)
        obtain ⟨x0, x1, x2, z0, z1, z2⟩ := HX7.out.facts
        refine leaves_cons (f := 53) (args := #[.pointer (some ⟨w.heap.size, 0, none⟩), .pointer (some ⟨w.heap.size + 1, 0, none⟩), .pointer (some ⟨w.heap.size + 1 + 1, 0, none⟩)]) (by simp) (by simp [go_sem]) ?_
        refine (catch_panicking w.heap.size pa pc _ 0 0 [] W7 x0 x1 x2 z0 z1 z2).mono ?_
        rintro e8 u' w8 ⟨rfl, rfl, hc8⟩
        have y0 := hc8.c0
        have y1 := hc8.c1
        have y2 : w8.cell? ⟨w.heap.size + 1 + 1, 0, none⟩ = some (.int .i64 pc) := hc8.c2
        show Leaves _ _ _ _ [] .returning _
        refine leave3 (v := .slice none 0 0) (a := pa) (c := pc) (B := 0) (by simp [results, Tryd.results23, go_sem, y0, y1, y2]) ⟨_, rfl, Kd.S_nil _ _ _ _ _, hc8.far.belowB HX7.out.bel⟩
      | ok tj =>
        obtain ⟨t, q⟩ := tj
        simp only at hr
        by_cases hq : q ≤ s.size
        case neg => rw [if_neg hq] at hr; cases hr
        rw [if_pos hq] at hr
        by_cases hl2 : l.length + t.length < 1000000
        case neg => rw [if_neg hl2] at hr; cases hr
        rw [if_pos hl2] at hr
        have HR2 := Aside0.mk hr
        clear hr
        go_wp2
        go_quiet (fail)
        go_wp2_with (go_at_call 57; (with_reducible refine (HO.out _ (HH.out.drewN _)).mono ?_); rintro e7 W7 ⟨rfl, hb7⟩; have HB7 := Aside0.mk hb7; clear hb7)
        go_roundg d
        case measure => omega
        case rel => exact ⟨q, l ++ t, hq, by simp; omega, HB7, HR2⟩
    · rw [if_neg hlt] at hr
      obtain rfl := Option.some.inj hr
      have l1 : decide (k < s.size) = false := decide_eq_false hlt
      have c2 := HA.out.c2
      have hx := (HX5.out.below (show Below W5.heap.size W5 wr from HH.out.below)).facts
      obtain ⟨x0, x1, x2, z0, z1, z2⟩ := hx
      clear hr
      go_wp2
      go_quiet (fail)
      go_wp2
      have hsz : w.heap.size + 1 + 1 < wr.heap.size := World.block_lt_of_cell? wr _ x2
      refine leaves_cons (f := 53) (args := #[.pointer (some ⟨w.heap.size, 0, none⟩), .pointer (some ⟨w.heap.size + 1, 0, none⟩), .pointer (some ⟨w.heap.size + 1 + 1, 0, none⟩)]) (by simp) (by simp [go_sem]) ?_
      refine (catch_idle w.heap.size _).mono ?_
      rintro e9 u' w9 ⟨rfl, rfl, hb9⟩
      have y0 : w9.cell? ⟨w.heap.size, 0, none⟩ = some (.slice Av l.length cv) := (hb9.cell (p := ⟨w.heap.size, 0, none⟩) (by simp [World.setCell]; omega)).trans (by go_simp)
      have y1 : w9.cell? ⟨w.heap.size + 1, 0, none⟩ = some (.int .i64 0) := (hb9.cell (p := ⟨w.heap.size + 1, 0, none⟩) (by simp [World.setCell]; omega)).trans (by go_simp)
      have y2 : w9.cell? ⟨w.heap.size + 1 + 1, 0, none⟩ = some (.int .i64 0) := (hb9.cell (p := ⟨w.heap.size + 1 + 1, 0, none⟩) (by simp [World.setCell]; omega)).trans (by go_simp)
      show Leaves _ _ _ _ [] .returning _
      have hx5 := blk_lt HX5.out.b2
      have hblk : ∀ q, q < wr.heap.size → q ≠ w.heap.size → q ≠ w.heap.size + 1 → q ≠ w.heap.size + 1 + 1 → w9.heap[q]? = wr.heap[q]? := by
        intro q hq n0 n1 n2
        refine (hb9.block q (by simp [World.setCell]; omega)).trans ?_
        exact (Below.heap_setCell _ _ _ q n2).trans ((Below.heap_setCell _ _ _ q n1).trans (Below.heap_setCell _ _ _ q n0))
      refine leave3 (v := .slice Av l.length cv) (a := 0) (c := 0) (B := 0) (by simp [results, Tryd.results23, go_sem, y0, y1, y2]) ⟨_, rfl, ?_, ?_⟩
      · exact Kd.S_mono (Kd.S_lower (Kd.S_step (Kd.S_bound HS.out) (fun q hq hlt => hblk q hlt (by have := hq.2.1; omega) (by have := hq.2.1; omega) (by have := hq.2.1; omega))) (by omega)) (fun _ _ => trivial)
      · have hb := HX5.out.below HH.out.below
        have hw : w.heap.size ≤ wr.heap.size := hb.bel.size
        exact ⟨hb9.os.trans hb.bel.os, hb9.tape.trans hb.bel.tape, hb9.output.trans hb.bel.output, Nat.le_trans hw (Nat.le_trans (by simp [World.setCell]) hb9.size), fun q hq => (hblk q (by omega) (by omega) (by omega) (by omega)).trans (hb.bel.block q hq)⟩
set_option maxHeartbeats 4000000 in
set_option maxRecDepth 100000 in
theorem tokens_c (s : ByteArray) (w : World) (hml : ML w) (hT : U8 w) (h : ¬ 32768 < s.size) (i : Int) (hi : utf_Check.f (s.size + 20) s = some i) (hi0 : ¬ 0 ≤ i) (j : Int) (hj : lex_char.f (s.size + 20) s = some j) (hj0 : ¬ 0 ≤ j)
    (hd : nextB s 0 sDecl = true) (h5 : 5 < s.size) (hbk : blankB (bt s 5) = false) (rr : Except (Int × Int) (List Tok)) (hr : loopS s (s.size + 1) 0 [] = some rr) : Calls Tryd.prog 23 #[.string s] w (TokPost w (outS rr).1 (outS rr).2.1 (outS rr).2.2) := by
  have h2 := eq_false (show ¬ (32768 : Int) < (s.size : Int) by omega)
  have h3 : decide ((32768 : Int) < (s.size : Int)) = false := decide_eq_false (by omega)
  have i1 := eq_false hi0
  have i2 : decide (0 ≤ i) = false := decide_eq_false hi0
  have j1 := eq_false hj0
  have j2 : decide (0 ≤ j) = false := decide_eq_false hj0
  have HC := Aside0.mk hi
  have HD := Aside0.mk hj
  have HN := Aside0.mk (Box3.new w)
  have HML := Aside0.mk hml
  have HTB := Aside0.mk hT
  have HNX := Aside0.mk (fun (g : Nat) (v : Value) (W : World) (h : At W g s 0 v) => next_calls g s sDecl 0 v W h (Nat.zero_le _))
  rw [hd] at HNX
  have HR := Aside0.mk hr
  have y5 := eq_true (show (5 : Int) < (s.size : Int) by omega)
  have y6 : decide ((5 : Int) < (s.size : Int)) = true := decide_eq_true (by omega)
  have y7 := bt_nat s 5 h5
  have HBK := Aside0.mk (show utf_Blank.f (bt s 5) = some false from (blank_f _).trans (congrArg some hbk))
  clear hi hj hml hd hT hr hbk
  have hmf : ∀ (fn : Fn) (first cap : Array Value) (w : World), (Instr.makeFunc fn first cap).run Tryd.prog w = .ok (.func fn first cap) w := fun _ _ _ _ => rfl
  go_enter_defers Tryd.func23, Tryd.ntmps23
  go_wp2_with (first | (go_at_call 51; (with_reducible refine (utf_Check.calls _ s i _ HC.out).mono ?_); rintro e W4 ⟨rfl, hb4⟩; have HX4 := Aside0.mk (HN.out.below hb4); clear hb4) | (go_at_call 52; (with_reducible refine (lex_char.calls _ s j _ HD.out).mono ?_); rintro e W5 ⟨rfl, hb5⟩; have HX5 := Aside0.mk (HX4.out.below hb5); clear hb5) | (go_at_call 54; (with_reducible refine (HNX.out _ _ _ (At.new W5 s)).mono ?_); rintro e w6 ⟨rfl, ⟨nd, rfl⟩⟩) | (go_at_call 55; (with_reducible refine (utf_Blank.calls (bt s 5) false _ HBK.out).mono ?_); rintro e w7 ⟨rfl, ⟨nb, rfl⟩⟩))
  have HM5 := Aside0.mk (HML.out.below (HX5.out.bel))
  have HU5 := Aside0.mk (Utf8Tabs_below HTB.out HX5.out.bel)
  have HH0 := Aside0.mk ((Held.new W5 s).drewN (nd + nb))
  go_loopg [] (s.size + 1) (fun m wr => ∃ (k : Nat) (l : List Tok), k ≤ s.size ∧ l.length < 1000000 ∧ Aside0 (Held W5 W5.heap.size s k l wr) ∧ Aside0 (loopS s m k l = some rr))
  case atStart => exact ⟨0, [], Nat.zero_le _, by decide, HH0, HR⟩
  case round =>
    obtain ⟨k, l, hk, hl, HH, HL⟩ := hrel
    clear HR HH0
    obtain ⟨v, hat, hS⟩ := HH.out.ex
    obtain ⟨Av, cv, rfl⟩ := Kd.S_slice hS
    have c0 := hat.c0
    have c1 := hat.c1
    have HA := Aside0.mk hat
    have HS := Aside0.mk hS
    clear hat hS
    have hr := HL.out
    clear HL
    obtain ⟨d, rfl⟩ : ∃ d, gk = d + 1 := by
      cases gk with
      | zero => cases hr
      | succ d => exact ⟨d, rfl⟩
    rw [loopS] at hr
    have q0 := eq_true (show (0 : Int) ≤ (k : Int) by omega)
    by_cases hlt : k < s.size
    · rw [if_pos hlt] at hr
      obtain ⟨r1, h1, hr⟩ := Option.bind_eq_some_iff.1 hr
      have HO := Aside0.mk (fun (W : World) (h : Held W5 W5.heap.size s k l W) => one_calls W5 W5.heap.size s k l W r1 h HM5.out HU5.out hlt (by omega) hl h1)
      have l1 : decide (k < s.size) = true := decide_eq_true hlt
      clear h1
      cases r1 with
      | error pp =>
        obtain ⟨pa, pc⟩ := pp
        obtain rfl := Option.some.inj hr
        clear hr
        go_wp2
        go_quiet (fail)
        go_wp2_with (go_at_call 57; (with_reducible refine (HO.out _ (HH.out.drewN _)).mono ?_); rintro e7 W7 ⟨hgu, hb7⟩; unfold gaveUp at hgu; subst hgu; have HX7 := Aside0.mk (HX5.out.below hb7); clear hb7)
        obtain ⟨x0, x1, x2, z0, z1, z2⟩ := HX7.out.facts
        refine leaves_cons (f := 53) (args := #[.pointer (some ⟨w.heap.size, 0, none⟩), .pointer (some ⟨w.heap.size + 1, 0, none⟩), .pointer (some ⟨w.heap.size + 1 + 1, 0, none⟩)]) (by simp) (by simp [go_sem]) ?_
        refine (catch_panicking w.heap.size pa pc _ 0 0 [] W7 x0 x1 x2 z0 z1 z2).mono ?_
        rintro e8 u' w8 ⟨rfl, rfl, hc8⟩
        have y0 := hc8.c0
        have y1 := hc8.c1
        have y2 : w8.cell? ⟨w.heap.size + 1 + 1, 0, none⟩ = some (.int .i64 pc) := hc8.c2
        show Leaves _ _ _ _ [] .returning _
        refine leave3 (v := .slice none 0 0) (a := pa) (c := pc) (B := 0) (by simp [results, Tryd.results23, go_sem, y0, y1, y2]) ⟨_, rfl, Kd.S_nil _ _ _ _ _, hc8.far.belowB HX7.out.bel⟩
      | ok tj =>
        obtain ⟨t, q⟩ := tj
        simp only at hr
        by_cases hq : q ≤ s.size
        case neg => rw [if_neg hq] at hr; cases hr
        rw [if_pos hq] at hr
        by_cases hl2 : l.length + t.length < 1000000
        case neg => rw [if_neg hl2] at hr; cases hr
        rw [if_pos hl2] at hr
        have HR2 := Aside0.mk hr
        clear hr
        go_wp2
        go_quiet (fail)
        go_wp2_with (go_at_call 57; (with_reducible refine (HO.out _ (HH.out.drewN _)).mono ?_); rintro e7 W7 ⟨rfl, hb7⟩; have HB7 := Aside0.mk hb7; clear hb7)
        go_roundg d
        case measure => omega
        case rel => exact ⟨q, l ++ t, hq, by simp; omega, HB7, HR2⟩
    · rw [if_neg hlt] at hr
      obtain rfl := Option.some.inj hr
      have l1 : decide (k < s.size) = false := decide_eq_false hlt
      have c2 := HA.out.c2
      have hx := (HX5.out.below (show Below W5.heap.size W5 wr from HH.out.below)).facts
      obtain ⟨x0, x1, x2, z0, z1, z2⟩ := hx
      clear hr
      go_wp2
      go_quiet (fail)
      go_wp2
      have hsz : w.heap.size + 1 + 1 < wr.heap.size := World.block_lt_of_cell? wr _ x2
      refine leaves_cons (f := 53) (args := #[.pointer (some ⟨w.heap.size, 0, none⟩), .pointer (some ⟨w.heap.size + 1, 0, none⟩), .pointer (some ⟨w.heap.size + 1 + 1, 0, none⟩)]) (by simp) (by simp [go_sem]) ?_
      refine (catch_idle w.heap.size _).mono ?_
      rintro e9 u' w9 ⟨rfl, rfl, hb9⟩
      have y0 : w9.cell? ⟨w.heap.size, 0, none⟩ = some (.slice Av l.length cv) := (hb9.cell (p := ⟨w.heap.size, 0, none⟩) (by simp [World.setCell]; omega)).trans (by go_simp)
      have y1 : w9.cell? ⟨w.heap.size + 1, 0, none⟩ = some (.int .i64 0) := (hb9.cell (p := ⟨w.heap.size + 1, 0, none⟩) (by simp [World.setCell]; omega)).trans (by go_simp)
      have y2 : w9.cell? ⟨w.heap.size + 1 + 1, 0, none⟩ = some (.int .i64 0) := (hb9.cell (p := ⟨w.heap.size + 1 + 1, 0, none⟩) (by simp [World.setCell]; omega)).trans (by go_simp)
      show Leaves _ _ _ _ [] .returning _
      have hx5 := blk_lt HX5.out.b2
      have hblk : ∀ q, q < wr.heap.size → q ≠ w.heap.size → q ≠ w.heap.size + 1 → q ≠ w.heap.size + 1 + 1 → w9.heap[q]? = wr.heap[q]? := by
        intro q hq n0 n1 n2
        refine (hb9.block q (by simp [World.setCell]; omega)).trans ?_
        exact (Below.heap_setCell _ _ _ q n2).trans ((Below.heap_setCell _ _ _ q n1).trans (Below.heap_setCell _ _ _ q n0))
      refine leave3 (v := .slice Av l.length cv) (a := 0) (c := 0) (B := 0) (by simp [results, Tryd.results23, go_sem, y0, y1, y2]) ⟨_, rfl, ?_, ?_⟩
      · exact Kd.S_mono (Kd.S_lower (Kd.S_step (Kd.S_bound HS.out) (fun q hq hlt => hblk q hlt (by have := hq.2.1; omega) (by have := hq.2.1; omega) (by have := hq.2.1; omega))) (by omega)) (fun _ _ => trivial)
      · have hb := HX5.out.below HH.out.below
        have hw : w.heap.size ≤ wr.heap.size := hb.bel.size
        exact ⟨hb9.os.trans hb.bel.os, hb9.tape.trans hb.bel.tape, hb9.output.trans hb.bel.output, Nat.le_trans hw (Nat.le_trans (by simp [World.setCell]) hb9.size), fun q hq => (hblk q (by omega) (by omega) (by omega) (by omega)).trans (hb.bel.block q hq)⟩
set_option maxHeartbeats 4000000 in
set_option maxRecDepth 100000 in
theorem tokens_d (s : ByteArray) (w : World) (hml : ML w) (hT : U8 w) (h : ¬ 32768 < s.size) (i : Int) (hi : utf_Check.f (s.size + 20) s = some i) (hi0 : ¬ 0 ≤ i) (j : Int) (hj : lex_char.f (s.size + 20) s = some j) (hj0 : ¬ 0 ≤ j)
    (hd : nextB s 0 sDecl = true) (h5 : 5 < s.size) (hbk : blankB (bt s 5) = true) (j0 : Nat) (hdc : declS s = .ok j0) (hj0s : j0 ≤ s.size) (rr : Except (Int × Int) (List Tok)) (hr : loopS s (s.size + 1) j0 [] = some rr) : Calls Tryd.prog 23 #[.string s] w (TokPost w (outS rr).1 (outS rr).2.1 (outS rr).2.2) := by
  have h2 := eq_false (show ¬ (32768 : Int) < (s.size : Int) by omega)
  have h3 : decide ((32768 : Int) < (s.size : Int)) = false := decide_eq_false (by omega)
  have i1 := eq_false hi0
  have i2 : decide (0 ≤ i) = false := decide_eq_false hi0
  have j1 := eq_false hj0
  have j2 : decide (0 ≤ j) = false := decide_eq_false hj0
  have HC := Aside0.mk hi
  have HD := Aside0.mk hj
  have HN := Aside0.mk (Box3.new w)
  have HML := Aside0.mk hml
  have HTB := Aside0.mk hT
  have HNX := Aside0.mk (fun (g : Nat) (v : Value) (W : World) (h : At W g s 0 v) => next_calls g s sDecl 0 v W h (Nat.zero_le _))
  rw [hd] at HNX
  have HR := Aside0.mk hr
  have y5 := eq_true (show (5 : Int) < (s.size : Int) by omega)
  have y6 : decide ((5 : Int) < (s.size : Int)) = true := decide_eq_true (by omega)
  have y7 := bt_nat s 5 h5
  have HBK := Aside0.mk (show utf_Blank.f (bt s 5) = some true from (blank_f _).trans (congrArg some hbk))
  have HDC := Aside0.mk (fun (W0 W : World) (h : At W W0.heap.size s 0 (.slice none 0 0)) (hb : Below W0.heap.size W0 W) (hT : U8 W0) => decl_calls W0 W0.heap.size s 0 (.slice none 0 0) W h hb (Nat.le_refl _) hT (by omega) (by omega))
  rw [hdc] at HDC
  clear hi hj hml hd hT hr hbk hdc
  have hmf : ∀ (fn : Fn) (first cap : Array Value) (w : World), (Instr.makeFunc fn first cap).run Tryd.prog w = .ok (.func fn first cap) w := fun _ _ _ _ => rfl
  go_enter_defers Tryd.func23, Tryd.ntmps23
  go_wp2_with (first | (go_at_call 51; (with_reducible refine (utf_Check.calls _ s i _ HC.out).mono ?_); rintro e W4 ⟨rfl, hb4⟩; have HX4 := Aside0.mk (HN.out.below hb4); clear hb4) | (go_at_call 52; (with_reducible refine (lex_char.calls _ s j _ HD.out).mono ?_); rintro e W5 ⟨rfl, hb5⟩; have HX5 := Aside0.mk (HX4.out.below hb5); clear hb5) | (go_at_call 54; (with_reducible refine (HNX.out _ _ _ (At.new W5 s)).mono ?_); rintro e w6 ⟨rfl, ⟨nd, rfl⟩⟩) | (go_at_call 55; (with_reducible refine (utf_Blank.calls (bt s 5) true _ HBK.out).mono ?_); rintro e w7 ⟨rfl, ⟨nb, rfl⟩⟩) | (go_at_call 56; (with_reducible refine (HDC.out W5 _ ((At.new W5 s).drewN (nd + nb)) (pw_below_drewN (below_alloc (Below.refl _ _) _) _) (Utf8Tabs_below HTB.out HX5.out.bel)).mono ?_); rintro e w8 ⟨rfl, hm8⟩; have HM8 := Aside0.mk hm8; clear hm8))
  have HM5 := Aside0.mk (HML.out.below (HX5.out.bel))
  have HU5 := Aside0.mk (Utf8Tabs_below HTB.out HX5.out.bel)
  have HH0 : Aside0 (Held W5 W5.heap.size s j0 [] w8) := ⟨Nat.le_refl _, HM8.out.belowB (pw_below_drewN (below_alloc (Below.refl _ _) _) _) (Nat.le_refl _), _, HM8.out.me, Kd.S_nil _ _ _ _ _⟩
  go_loopg [] (s.size + 1) (fun m wr => ∃ (k : Nat) (l : List Tok), k ≤ s.size ∧ l.length < 1000000 ∧ Aside0 (Held W5 W5.heap.size s k l wr) ∧ Aside0 (loopS s m k l = some rr))
  case atStart => exact ⟨j0, [], hj0s, by decide, HH0, HR⟩
  case round =>
    obtain ⟨k, l, hk, hl, HH, HL⟩ := hrel
    clear HR HH0
    obtain ⟨v, hat, hS⟩ := HH.out.ex
    obtain ⟨Av, cv, rfl⟩ := Kd.S_slice hS
    have c0 := hat.c0
    have c1 := hat.c1
    have HA := Aside0.mk hat
    have HS := Aside0.mk hS
    clear hat hS
    have hr := HL.out
    clear HL
    obtain ⟨d, rfl⟩ : ∃ d, gk = d + 1 := by
      cases gk with
      | zero => cases hr
      | succ d => exact ⟨d, rfl⟩
    rw [loopS] at hr
    have q0 := eq_true (show (0 : Int) ≤ (k : Int) by omega)
    by_cases hlt : k < s.size
    · rw [if_pos hlt] at hr
      obtain ⟨r1, h1, hr⟩ := Option.bind_eq_some_iff.1 hr
      have HO := Aside0.mk (fun (W : World) (h : Held W5 W5.heap.size s k l W) => one_calls W5 W5.heap.size s k l W r1 h HM5.out HU5.out hlt (by omega) hl h1)
      have l1 : decide (k < s.size) = true := decide_eq_true hlt
      clear h1
      cases r1 with
      | error pp =>
        obtain ⟨pa, pc⟩ := pp
        obtain rfl := Option.some.inj hr
        clear hr
        go_wp2
        go_quiet (fail)
        go_wp2_with (go_at_call 57; (with_reducible refine (HO.out _ (HH.out.drewN _)).mono ?_); rintro e7 W7 ⟨hgu, hb7⟩; unfold gaveUp at hgu; subst hgu; have HX7 := Aside0.mk (HX5.out.below hb7); clear hb7)
        obtain ⟨x0, x1, x2, z0, z1, z2⟩ := HX7.out.facts
        refine leaves_cons (f := 53) (args := #[.pointer (some ⟨w.heap.size, 0, none⟩), .pointer (some ⟨w.heap.size + 1, 0, none⟩), .pointer (some ⟨w.heap.size + 1 + 1, 0, none⟩)]) (by simp) (by simp [go_sem]) ?_
        refine (catch_panicking w.heap.size pa pc _ 0 0 [] W7 x0 x1 x2 z0 z1 z2).mono ?_
        rintro e8 u' w8 ⟨rfl, rfl, hc8⟩
        have y0 := hc8.c0
        have y1 := hc8.c1
        have y2 : w8.cell? ⟨w.heap.size + 1 + 1, 0, none⟩ = some (.int .i64 pc) := hc8.c2
        show Leaves _ _ _ _ [] .returning _
        refine leave3 (v := .slice none 0 0) (a := pa) (c := pc) (B := 0) (by simp [results, Tryd.results23, go_sem, y0, y1, y2]) ⟨_, rfl, Kd.S_nil _ _ _ _ _, hc8.far.belowB HX7.out.bel⟩
      | ok tj =>
        obtain ⟨t, q⟩ := tj
        simp only at hr
        by_cases hq : q ≤ s.size
        case neg => rw [if_neg hq] at hr; cases hr
        rw [if_pos hq] at hr
        by_cases hl2 : l.length + t.length < 1000000
        case neg => rw [if_neg hl2] at hr; cases hr
        rw [if_pos hl2] at hr
        have HR2 := Aside0.mk hr
        clear hr
        go_wp2
        go_quiet (fail)
        go_wp2_with (go_at_call 57; (with_reducible refine (HO.out _ (HH.out.drewN _)).mono ?_); rintro e7 W7 ⟨rfl, hb7⟩; have HB7 := Aside0.mk hb7; clear hb7)
        go_roundg d
        case measure => omega
        case rel => exact ⟨q, l ++ t, hq, by simp; omega, HB7, HR2⟩
    · rw [if_neg hlt] at hr
      obtain rfl := Option.some.inj hr
      have l1 : decide (k < s.size) = false := decide_eq_false hlt
      have c2 := HA.out.c2
      have hx := (HX5.out.below (show Below W5.heap.size W5 wr from HH.out.below)).facts
      obtain ⟨x0, x1, x2, z0, z1, z2⟩ := hx
      clear hr
      go_wp2
      go_quiet (fail)
      go_wp2
      have hsz : w.heap.size + 1 + 1 < wr.heap.size := World.block_lt_of_cell? wr _ x2
      refine leaves_cons (f := 53) (args := #[.pointer (some ⟨w.heap.size, 0, none⟩), .pointer (some ⟨w.heap.size + 1, 0, none⟩), .pointer (some ⟨w.heap.size + 1 + 1, 0, none⟩)]) (by simp) (by simp [go_sem]) ?_
      refine (catch_idle w.heap.size _).mono ?_
      rintro e9 u' w9 ⟨rfl, rfl, hb9⟩
      have y0 : w9.cell? ⟨w.heap.size, 0, none⟩ = some (.slice Av l.length cv) := (hb9.cell (p := ⟨w.heap.size, 0, none⟩) (by simp [World.setCell]; omega)).trans (by go_simp)
      have y1 : w9.cell? ⟨w.heap.size + 1, 0, none⟩ = some (.int .i64 0) := (hb9.cell (p := ⟨w.heap.size + 1, 0, none⟩) (by simp [World.setCell]; omega)).trans (by go_simp)
      have y2 : w9.cell? ⟨w.heap.size + 1 + 1, 0, none⟩ = some (.int .i64 0) := (hb9.cell (p := ⟨w.heap.size + 1 + 1, 0, none⟩) (by simp [World.setCell]; omega)).trans (by go_simp)
      show Leaves _ _ _ _ [] .returning _
      have hx5 := blk_lt HX5.out.b2
      have hblk : ∀ q, q < wr.heap.size → q ≠ w.heap.size → q ≠ w.heap.size + 1 → q ≠ w.heap.size + 1 + 1 → w9.heap[q]? = wr.heap[q]? := by
        intro q hq n0 n1 n2
        refine (hb9.block q (by simp [World.setCell]; omega)).trans ?_
        exact (Below.heap_setCell _ _ _ q n2).trans ((Below.heap_setCell _ _ _ q n1).trans (Below.heap_setCell _ _ _ q n0))
      refine leave3 (v := .slice Av l.length cv) (a := 0) (c := 0) (B := 0) (by simp [results, Tryd.results23, go_sem, y0, y1, y2]) ⟨_, rfl, ?_, ?_⟩
      · exact Kd.S_mono (Kd.S_lower (Kd.S_step (Kd.S_bound HS.out) (fun q hq hlt => hblk q hlt (by have := hq.2.1; omega) (by have := hq.2.1; omega) (by have := hq.2.1; omega))) (by omega)) (fun _ _ => trivial)
      · have hb := HX5.out.below HH.out.below
        have hw : w.heap.size ≤ wr.heap.size := hb.bel.size
        exact ⟨hb9.os.trans hb.bel.os, hb9.tape.trans hb.bel.tape, hb9.output.trans hb.bel.output, Nat.le_trans hw (Nat.le_trans (by simp [World.setCell]) hb9.size), fun q hq => (hblk q (by omega) (by omega) (by omega) (by omega)).trans (hb.bel.block q hq)⟩
set_option maxHeartbeats 4000000 in
set_option maxRecDepth 100000 in
theorem tokens_e (s : ByteArray) (w : World) (hml : ML w) (hT : U8 w) (h : ¬ 32768 < s.size) (i : Int) (hi : utf_Check.f (s.size + 20) s = some i) (hi0 : ¬ 0 ≤ i) (j : Int) (hj : lex_char.f (s.size + 20) s = some j) (hj0 : ¬ 0 ≤ j)
    (hd : nextB s 0 sDecl = true) (h5 : 5 < s.size) (hbk : blankB (bt s 5) = true) (pa pc : Int) (hdc : declS s = .error (pa, pc)) : Calls Tryd.prog 23 #[.string s] w (TokPost w [] pa pc) := by
  have h2 := eq_false (show ¬ (32768 : Int) < (s.size : Int) by omega)
  have h3 : decide ((32768 : Int) < (s.size : Int)) = false := decide_eq_false (by omega)
  have i1 := eq_false hi0
  have i2 : decide (0 ≤ i) = false := decide_eq_false hi0
  have j1 := eq_false hj0
  have j2 : decide (0 ≤ j) = false := decide_eq_false hj0
  have HC := Aside0.mk hi
  have HD := Aside0.mk hj
  have HN := Aside0.mk (Box3.new w)
  have HML := Aside0.mk hml
  have HTB := Aside0.mk hT
  have HNX := Aside0.mk (fun (g : Nat) (v : Value) (W : World) (h : At W g s 0 v) => next_calls g s sDecl 0 v W h (Nat.zero_le _))
  rw [hd] at HNX
  have y5 := eq_true (show (5 : Int) < (s.size : Int) by omega)
  have y6 : decide ((5 : Int) < (s.size : Int)) = true := decide_eq_true (by omega)
  have y7 := bt_nat s 5 h5
  have HBK := Aside0.mk (show utf_Blank.f (bt s 5) = some true from (blank_f _).trans (congrArg some hbk))
  have HDC := Aside0.mk (fun (W0 W : World) (h : At W W0.heap.size s 0 (.slice none 0 0)) (hb : Below W0.heap.size W0 W) (hT : U8 W0) => decl_calls W0 W0.heap.size s 0 (.slice none 0 0) W h hb (Nat.le_refl _) hT (by omega) (by omega))
  rw [hdc] at HDC
  clear hi hj hml hd hT hbk hdc
  have hmf : ∀ (fn : Fn) (first cap : Array Value) (w : World), (Instr.makeFunc fn first cap).run Tryd.prog w = .ok (.func fn first cap) w := fun _ _ _ _ => rfl
  go_enter_defers Tryd.func23, Tryd.ntmps23
  go_wp2_with (first | (go_at_call 51; (with_reducible refine (utf_Check.calls _ s i _ HC.out).mono ?_); rintro e W4 ⟨rfl, hb4⟩; have HX4 := Aside0.mk (HN.out.below hb4); clear hb4) | (go_at_call 52; (with_reducible refine (lex_char.calls _ s j _ HD.out).mono ?_); rintro e W5 ⟨rfl, hb5⟩; have HX5 := Aside0.mk (HX4.out.below hb5); clear hb5) | (go_at_call 54; (with_reducible refine (HNX.out _ _ _ (At.new W5 s)).mono ?_); rintro e w6 ⟨rfl, ⟨nd, rfl⟩⟩) | (go_at_call 55; (with_reducible refine (utf_Blank.calls (bt s 5) true _ HBK.out).mono ?_); rintro e w7 ⟨rfl, ⟨nb, rfl⟩⟩) | (go_at_call 56; (with_reducible refine (HDC.out W5 _ ((At.new W5 s).drewN (nd + nb)) (pw_below_drewN (below_alloc (Below.refl _ _) _) _) (Utf8Tabs_below HTB.out HX5.out.bel)).mono ?_); rintro e w8 ⟨hgu, _, hm8⟩; unfold gaveUp at hgu; subst hgu; have HX7 := Aside0.mk (HX5.out.below (hm8.belowB (pw_below_drewN (below_alloc (Below.refl _ _) _) _) (Nat.le_refl _))); clear hm8))
  obtain ⟨x0, x1, x2, z0, z1, z2⟩ := HX7.out.facts
  refine leaves_cons (f := 53) (args := #[.pointer (some ⟨w.heap.size, 0, none⟩), .pointer (some ⟨w.heap.size + 1, 0, none⟩), .pointer (some ⟨w.heap.size + 1 + 1, 0, none⟩)]) (by simp) (by simp [go_sem]) ?_
  refine (catch_panicking w.heap.size pa pc _ 0 0 [] w8 x0 x1 x2 z0 z1 z2).mono ?_
  rintro e8 u' w8 ⟨rfl, rfl, hc8⟩
  have y0 := hc8.c0
  have y1 := hc8.c1
  have y2 : w8.cell? ⟨w.heap.size + 1 + 1, 0, none⟩ = some (.int .i64 pc) := hc8.c2
  show Leaves _ _ _ _ [] .returning _
  refine leave3 (v := .slice none 0 0) (a := pa) (c := pc) (B := 0) (by simp [results, Tryd.results23, go_sem, y0, y1, y2]) ⟨_, rfl, Kd.S_nil _ _ _ _ _, hc8.far.belowB HX7.out.bel⟩
theorem tokens_calls (s : ByteArray) (w : World) (hml : ML w) (hT : U8 w) (l : List Tok) (a c : Int) (h : lexTok s = some (l, a, c)) : Calls Tryd.prog 23 #[.string s] w (TokPost w l a c) := by
  unfold lexTok at h
  by_cases h1 : 32768 < s.size
  · rw [if_pos h1] at h
    cases h
    exact tokens_long s w h1
  · rw [if_neg h1] at h
    obtain ⟨i, hi, h⟩ := Option.bind_eq_some_iff.1 h
    by_cases h2 : 0 ≤ i
    · rw [if_pos h2] at h
      obtain ⟨rfl, rfl, rfl⟩ := PL.lex_Unescape_inj h
      exact tokens_utf s w h1 i hi h2
    · rw [if_neg h2] at h
      obtain ⟨j, hj, h⟩ := Option.bind_eq_some_iff.1 h
      by_cases h3 : 0 ≤ j
      · rw [if_pos h3] at h
        obtain ⟨rfl, rfl, rfl⟩ := PL.lex_Unescape_inj h
        exact tokens_char s w h1 i hi h2 j hj h3
      · rw [if_neg h3] at h
        have hgo : ∀ (j0 : Nat), startS s = .ok j0 → ∃ rr, loopS s (s.size + 1) j0 [] = some rr ∧ outS rr = (l, a, c) ∧ j0 ≤ s.size := by
          intro j0 e
          rw [e] at h
          simp only at h
          by_cases hj0 : j0 ≤ s.size
          · rw [if_pos hj0] at h
            obtain ⟨rr, hr, h⟩ := Option.map_eq_some_iff.1 h
            exact ⟨rr, hr, h, hj0⟩
          · rw [if_neg hj0] at h
            cases h
        cases hd : nextB s 0 sDecl with
        | false =>
          obtain ⟨rr, hr, e, _⟩ := hgo 0 (by unfold startS; rw [if_neg (by rw [hd]; simp)])
          have := tokens_a s w hml hT h1 i hi h2 j hj h3 hd rr hr
          rw [e] at this
          exact this
        | true =>
          by_cases h5 : 5 < s.size
          · cases hbk : blankB (bt s 5) with
            | false =>
              obtain ⟨rr, hr, e, _⟩ := hgo 0 (by unfold startS; rw [if_neg (by rw [hbk]; simp)])
              have := tokens_c s w hml hT h1 i hi h2 j hj h3 hd h5 hbk rr hr
              rw [e] at this
              exact this
            | true =>
              have e0 : startS s = declS s := by unfold startS; rw [if_pos ⟨hd, h5, hbk⟩]
              cases hdc : declS s with
              | error p =>
                obtain ⟨pa, pc⟩ := p
                rw [e0, hdc] at h
                cases h
                exact tokens_e s w hml hT h1 i hi h2 j hj h3 hd h5 hbk _ _ hdc
              | ok j0 =>
                obtain ⟨rr, hr, e, hj0⟩ := hgo j0 (e0.trans hdc)
                have := tokens_d s w hml hT h1 i hi h2 j hj h3 hd h5 hbk j0 hdc hj0 rr hr
                rw [e] at this
                exact this
          · obtain ⟨rr, hr, e, _⟩ := hgo 0 (by unfold startS; rw [if_neg (fun c => h5 c.2.1)])
            have := tokens_b s w hml hT h1 i hi h2 j hj h3 hd h5 rr hr
            rw [e] at this
            exact this
end Go.Proofs.YtffpbhbiamkkpaaDoor.Lx
