/- The lexer's start tag. -/
import Derived.Test.YtffpbhbiamkkpaaDoorLxE0
namespace Go.Proofs.YtffpbhbiamkkpaaDoor.Lx
open Go.RowKit Go.Proofs.YtffpbhbiamkkpaaDoorW.PrintWords Go.Proofs.YtffpbhbiamkkpaaDoorW.PrintLast Go.Proofs.YtffpbhbiamkkpaaDoorW.PrintMore Go.Proofs.YtffpbhbiamkkpaaDoor.PU
set_option linter.unusedVariables false
abbrev TagR := Except (Int × Int) (Int × List Raw × Nat)
/-- The frame at a label. -/
def TagFr (w : World) (g : Nat) (a : Act) : Prop := a.defers = [] ∧ a.tmps.size = 198 ∧ a.tmps.getD 0 undef = .pointer (some ⟨g, 0, none⟩) ∧ a.tmps.getD 2 undef = .pointer (some ⟨w.heap.size, 0, none⟩) ∧ a.tmps.getD 3 undef = .pointer (some ⟨w.heap.size + 1, 0, none⟩)
set_option maxRecDepth 100000 in
theorem TagFr.lay {w : World} {g : Nat} {a : Act} (h : TagFr w g a) : ∃ f : Nat → Value, a = { tmps := #[.pointer (some ⟨g, 0, none⟩), f 1, .pointer (some ⟨w.heap.size, 0, none⟩), .pointer (some ⟨w.heap.size + 1, 0, none⟩), f 4, f 5, f 6, f 7, f 8, f 9, f 10, f 11, f 12, f 13, f 14, f 15, f 16, f 17, f 18, f 19, f 20, f 21, f 22, f 23, f 24, f 25, f 26, f 27, f 28, f 29, f 30, f 31, f 32, f 33, f 34, f 35, f 36, f 37, f 38, f 39, f 40, f 41, f 42, f 43, f 44, f 45, f 46, f 47, f 48, f 49, f 50, f 51, f 52, f 53, f 54, f 55, f 56, f 57, f 58, f 59, f 60, f 61, f 62, f 63, f 64, f 65, f 66, f 67, f 68, f 69, f 70, f 71, f 72, f 73, f 74, f 75, f 76, f 77, f 78, f 79, f 80, f 81, f 82, f 83, f 84, f 85, f 86, f 87, f 88, f 89, f 90, f 91, f 92, f 93, f 94, f 95, f 96, f 97, f 98, f 99, f 100, f 101, f 102, f 103, f 104, f 105, f 106, f 107, f 108, f 109, f 110, f 111, f 112, f 113, f 114, f 115, f 116, f 117, f 118, f 119, f 120, f 121, f 122, f 123, f 124, f 125, f 126, f 127, f 128, f 129, f 130, f 131, f 132, f 133, f 134, f 135, f 136, f 137, f 138, f 139, f 140, f 141, f 142, f 143, f 144, f 145, f 146, f 147, f 148, f 149, f 150, f 151, f 152, f 153, f 154, f 155, f 156, f 157, f 158, f 159, f 160, f 161, f 162, f 163, f 164, f 165, f 166, f 167, f 168, f 169, f 170, f 171, f 172, f 173, f 174, f 175, f 176, f 177, f 178, f 179, f 180, f 181, f 182, f 183, f 184, f 185, f 186, f 187, f 188, f 189, f 190, f 191, f 192, f 193, f 194, f 195, f 196, f 197], defers := [] } := by
  obtain ⟨t, d⟩ := a
  obtain ⟨hd, hs, h0, h2, h3⟩ := h
  simp only at hd hs h0 h2 h3
  subst hd
  have ht : t = ((List.range 198).map (fun k => t.getD k undef)).toArray := by
    apply Array.ext'
    apply List.ext_getElem
    · simp [hs]
    · intro k h1 h2
      simp at h1
      simp [h1]
  refine ⟨fun k => t.getD k undef, ?_⟩
  have key : ∀ F : Nat → Value, ((List.range 198).map F).toArray = #[F 0, F 1, F 2, F 3, F 4, F 5, F 6, F 7, F 8, F 9, F 10, F 11, F 12, F 13, F 14, F 15, F 16, F 17, F 18, F 19, F 20, F 21, F 22, F 23, F 24, F 25, F 26, F 27, F 28, F 29, F 30, F 31, F 32, F 33, F 34, F 35, F 36, F 37, F 38, F 39, F 40, F 41, F 42, F 43, F 44, F 45, F 46, F 47, F 48, F 49, F 50, F 51, F 52, F 53, F 54, F 55, F 56, F 57, F 58, F 59, F 60, F 61, F 62, F 63, F 64, F 65, F 66, F 67, F 68, F 69, F 70, F 71, F 72, F 73, F 74, F 75, F 76, F 77, F 78, F 79, F 80, F 81, F 82, F 83, F 84, F 85, F 86, F 87, F 88, F 89, F 90, F 91, F 92, F 93, F 94, F 95, F 96, F 97, F 98, F 99, F 100, F 101, F 102, F 103, F 104, F 105, F 106, F 107, F 108, F 109, F 110, F 111, F 112, F 113, F 114, F 115, F 116, F 117, F 118, F 119, F 120, F 121, F 122, F 123, F 124, F 125, F 126, F 127, F 128, F 129, F 130, F 131, F 132, F 133, F 134, F 135, F 136, F 137, F 138, F 139, F 140, F 141, F 142, F 143, F 144, F 145, F 146, F 147, F 148, F 149, F 150, F 151, F 152, F 153, F 154, F 155, F 156, F 157, F 158, F 159, F 160, F 161, F 162, F 163, F 164, F 165, F 166, F 167, F 168, F 169, F 170, F 171, F 172, F 173, F 174, F 175, F 176, F 177, F 178, F 179, F 180, F 181, F 182, F 183, F 184, F 185, F 186, F 187, F 188, F 189, F 190, F 191, F 192, F 193, F 194, F 195, F 196, F 197] := fun F => rfl
  rw [← h0, ← h2, ← h3]
  exact congrArg (fun t => ({ tmps := t, defers := [] } : Act)) (ht.trans (key _))
/-- What holds at a label; n falls. -/
def TagK (w : World) (g : Nat) (s : ByteArray) (start : Nat) (v : Value) (name : ByteArray) (r : TagR) (lab n : Nat) (a : Act) (wr : World) : Prop :=
  TagFr w g a ∧ match lab with
  | 0 => ∃ i l x0 x1, TagSt w g s start i v 1 name l x0 x1 wr ∧ i ≤ s.size ∧ l.length ≤ 65 ∧ tagL s start n i l = some r
  | 1 => ∃ i l x0 x1, TagSt w g s start i v 1 name l x0 x1 wr ∧ r = .error ((start : Int), 2)
  | 2 => ∃ kind i l x0 x1, TagSt w g s start i v kind name l x0 x1 wr ∧ r = .ok (kind, l, i)
  | 3 => ∃ i l x0 x1, TagSt w g s start i v 1 name l x0 x1 wr ∧ r = .error ((i : Int), 4)
  | _ => False
def tagTok (start : Nat) (name : ByteArray) : TagR → Except (Int × Int) (Tok × Nat)
  | .error e => .error e
  | .ok (kind, l, j) => .ok (⟨kind, start, name, l, ⟨#[]⟩⟩, j)

/-- The code behind a label of the tag's scope. -/
noncomputable def tagC (lab : Nat) : Code := match Tryd.f96.body with
  | some (.scope c) => (findLabel c lab).getD .skip
  | _ => .skip
noncomputable def tagB (lab : Nat) : Code := match tagC lab with
  | .seq _ y => y
  | c => c
set_option maxHeartbeats 4000000 in
set_option maxRecDepth 100000 in
theorem pass1 (w0 w : World) (g : Nat) (s : ByteArray) (start : Nat) (v : Value) (name : ByteArray) (l0 : List Tok) (r : TagR) (hlt : w0.heap.size ≤ g) (hbel : Below w0.heap.size w0 w) (hgm : g ≠ 1) (hml : ML w) (hs : s.size < 4294967281) (n : Nat) (a : Act) (wr : World) (hK : TagK w g s start v name r 1 n a wr) :
    (tagC 1).wp Tryd.prog (Exit.to (fun l' a' w' => ∃ n', n' < n ∧ TagK w g s start v name r l' n' a' w') (bodyPost Tryd.prog Tryd.f96 (PushPost w0 g s l0 (tagTok start name r)))) a wr := by
  obtain ⟨hfr, i, l, x0, x1, hT, rfl⟩ := hK
  obtain ⟨f, rfl⟩ := hfr.lay
  obtain ⟨va, hb, hR⟩ := hT.bt
  have b0 : wr.cell? ⟨w.heap.size, 0, none⟩ = some (.int .i64 1) := (blk_cell hb 0).trans rfl
  have b1 : wr.cell? ⟨w.heap.size, 1, none⟩ = some (.int .i64 (start : Int)) := (blk_cell hb 1).trans rfl
  have b2 : wr.cell? ⟨w.heap.size, 2, none⟩ = some (.string name) := (blk_cell hb 2).trans rfl
  have b3 : wr.cell? ⟨w.heap.size, 3, none⟩ = some va := (blk_cell hb 3).trans rfl
  have b4 : wr.cell? ⟨w.heap.size, 4, none⟩ = some (.string ⟨#[]⟩) := (blk_cell hb 4).trans rfl
  have c0 := hT.mv.me.c0
  have c1 := hT.mv.me.c1
  have c2 := hT.mv.me.c2
  have HT := Aside0.mk hT
  have HB := Aside0.mk hbel
  have HML := Aside0.mk hml
  clear hT hb hR hbel hml
  show Code.wp _ (Code.seq _ _) _ _ _
  go_wp2_with (go_at_call 91; (with_reducible refine (fail_calls _ _ _ _).mono ?_); rintro e4 w4 ⟨hgu, rfl⟩; unfold gaveUp at hgu; subst hgu)
  exact ⟨rfl, rfl, HT.out.mv.belowB HB.out hlt⟩
set_option maxHeartbeats 4000000 in
set_option maxRecDepth 100000 in
theorem pass3 (w0 w : World) (g : Nat) (s : ByteArray) (start : Nat) (v : Value) (name : ByteArray) (l0 : List Tok) (r : TagR) (hlt : w0.heap.size ≤ g) (hbel : Below w0.heap.size w0 w) (hgm : g ≠ 1) (hml : ML w) (hs : s.size < 4294967281) (n : Nat) (a : Act) (wr : World) (hK : TagK w g s start v name r 3 n a wr) :
    (tagC 3).wp Tryd.prog (Exit.to (fun l' a' w' => ∃ n', n' < n ∧ TagK w g s start v name r l' n' a' w') (bodyPost Tryd.prog Tryd.f96 (PushPost w0 g s l0 (tagTok start name r)))) a wr := by
  obtain ⟨hfr, i, l, x0, x1, hT, rfl⟩ := hK
  obtain ⟨f, rfl⟩ := hfr.lay
  obtain ⟨va, hb, hR⟩ := hT.bt
  have b0 : wr.cell? ⟨w.heap.size, 0, none⟩ = some (.int .i64 1) := (blk_cell hb 0).trans rfl
  have b1 : wr.cell? ⟨w.heap.size, 1, none⟩ = some (.int .i64 (start : Int)) := (blk_cell hb 1).trans rfl
  have b2 : wr.cell? ⟨w.heap.size, 2, none⟩ = some (.string name) := (blk_cell hb 2).trans rfl
  have b3 : wr.cell? ⟨w.heap.size, 3, none⟩ = some va := (blk_cell hb 3).trans rfl
  have b4 : wr.cell? ⟨w.heap.size, 4, none⟩ = some (.string ⟨#[]⟩) := (blk_cell hb 4).trans rfl
  have c0 := hT.mv.me.c0
  have c1 := hT.mv.me.c1
  have c2 := hT.mv.me.c2
  have HT := Aside0.mk hT
  have HB := Aside0.mk hbel
  have HML := Aside0.mk hml
  clear hT hb hR hbel hml
  show Code.wp _ (Code.seq _ _) _ _ _
  go_wp2_with (go_at_call 91; (with_reducible refine (fail_calls _ _ _ _).mono ?_); rintro e4 w4 ⟨hgu, rfl⟩; unfold gaveUp at hgu; subst hgu)
  exact ⟨rfl, rfl, HT.out.mv.belowB HB.out hlt⟩
set_option maxHeartbeats 4000000 in
set_option maxRecDepth 100000 in
theorem pass2 (w0 w : World) (g : Nat) (s : ByteArray) (start : Nat) (v : Value) (name : ByteArray) (l0 : List Tok) (r : TagR) (hlt : w0.heap.size ≤ g) (hbel : Below w0.heap.size w0 w) (hgm : g ≠ 1) (hml : ML w) (hs : s.size < 4294967281) (n : Nat) (a : Act) (wr : World) (hK : TagK w g s start v name r 2 n a wr) (hl0 : l0.length < 1000000) (hS : kTok.S 50 w w0.heap.size (fun k => k ≠ g) v l0) :
    (tagC 2).wp Tryd.prog (Exit.to (fun l' a' w' => ∃ n', n' < n ∧ TagK w g s start v name r l' n' a' w') (bodyPost Tryd.prog Tryd.f96 (PushPost w0 g s l0 (tagTok start name r)))) a wr := by
  obtain ⟨hfr, kind, i, l, x0, x1, hT, rfl⟩ := hK
  obtain ⟨f, rfl⟩ := hfr.lay
  obtain ⟨va, hb, hR⟩ := hT.bt
  have b0 : wr.cell? ⟨w.heap.size, 0, none⟩ = some (.int .i64 kind) := (blk_cell hb 0).trans rfl
  have b1 : wr.cell? ⟨w.heap.size, 1, none⟩ = some (.int .i64 (start : Int)) := (blk_cell hb 1).trans rfl
  have b2 : wr.cell? ⟨w.heap.size, 2, none⟩ = some (.string name) := (blk_cell hb 2).trans rfl
  have b3 : wr.cell? ⟨w.heap.size, 3, none⟩ = some va := (blk_cell hb 3).trans rfl
  have b4 : wr.cell? ⟨w.heap.size, 4, none⟩ = some (.string ⟨#[]⟩) := (blk_cell hb 4).trans rfl
  have c0 := hT.mv.me.c0
  have c1 := hT.mv.me.c1
  have c2 := hT.mv.me.c2
  have HT := Aside0.mk hT
  have HB := Aside0.mk hbel
  have HML := Aside0.mk hml
  have f2 := hT.mv.me.f0 2
  have hal : ∀ o : Obj, (wr.alloc o).cell? ⟨g, 2, none⟩ = some v := fun o => (hT.mv.alloc o).me.c2
  have HOK := Aside0.mk (show ∀ k, w.heap.size ≤ k → k ≠ g ∧ some k ≠ v.ownBlock from fun k hk => ⟨by have := hT.lt; omega, fun e => by have := Kd.S_lt hS k e.symm; omega⟩)
  have HSW := Aside0.mk (show kTok.S 50 w w0.heap.size (fun k => k ≠ g ∧ ¬ w.heap.size ≤ k) v l0 from Kd.S_mono (Kd.S_bound hS) (fun k hk => ⟨hk.1, by have := hk.2.2.1; omega⟩))
  have HR := Aside0.mk (show kRaw.R 86 wr w0.heap.size (fun k => w.heap.size ≤ k) va l from Kd.R_lower (Kd.R_mono (Kd.R_bound hR) (fun k hk => by have := hk.2.1; omega)) (by have := hbel.size; omega))
  clear hT hb hR hbel hml hS
  show Code.wp _ (Code.seq _ _) _ _ _
  go_wp2
  go_region_law (refine push_tok_drew (w0 := w0) (g := g) (s := s) (j := i) (v := v) (l := l0) (⟨kind, start, name, l, ⟨#[]⟩⟩ : Tok) [.int .i64 kind, .int .i64 start, .string name, va, .string ⟨#[]⟩] (fun k => w.heap.size ≤ k) ?p1 (.tmp 192) (.tmp 194) ?p2 ?p3 ?p4 ?p5 HOK.out hlt HB.out HSW.out hl0 ?p6 ?_; (case p1 => rfl); (case p2 => rfl); (case p3 => first | rfl | simp [Act.eval, Act.put]); (case p4 => first | rfl | simp [Act.eval, Act.put]); (case p5 => exact kTok_mk _ _ _ (⟨kind, start, name, l, ⟨#[]⟩⟩ : Tok) (by repeat (first | (with_reducible exact HR.out) | (with_reducible apply R_drewN) | (with_reducible apply R_drew)))); (case p6 => repeat (first | (with_reducible exact HT.out.mv) | (with_reducible apply Moved.drewN) | (with_reducible apply Moved.drew))); intro A' n' c' w5 hat5 hheld; have HH := Aside0.mk hheld; have g2 := hat5.c2; have gf := hat5.f0 2; clear hat5 hheld)
  all_goals (go_wp2; go_end0; exact ⟨rfl, HH.out⟩)
set_option maxHeartbeats 16000000 in
set_option maxRecDepth 100000 in
theorem pass0 (w0 w : World) (g : Nat) (s : ByteArray) (start : Nat) (v : Value) (name : ByteArray) (l0 : List Tok) (r : TagR) (hlt : w0.heap.size ≤ g) (hbel : Below w0.heap.size w0 w) (hgm : g ≠ 1) (hml : ML w) (hs : s.size < 4294967281) (n : Nat) (a : Act) (wr : World) (hK : TagK w g s start v name r 0 n a wr) :
    (tagB 0).wp Tryd.prog (Exit.to (fun l' a' w' => ∃ n', n' < n ∧ TagK w g s start v name r l' n' a' w') (bodyPost Tryd.prog Tryd.f96 (PushPost w0 g s l0 (tagTok start name r)))) a wr := by
  obtain ⟨hfr, i, l, x0, x1, hT, hi, hl65, hr⟩ := hK
  obtain ⟨f, rfl⟩ := hfr.lay
  obtain ⟨d, rfl⟩ : ∃ d, n = d + 1 := by
    cases n with
    | zero => cases hr
    | succ d => exact ⟨d, rfl⟩
  have HT0 := Aside0.mk hT
  have HB := Aside0.mk hbel
  have HML := Aside0.mk hml
  have hj := skip_le blankB s i hi
  rw [tagL] at hr
  have HBK0 := Aside0.mk (fun (W : World) (h : At W g s i v) => blanks_calls g s i v W h hi (by omega))
  generalize skip blankB s i = j at hr hj HBK0
  have hN := fun (t : ByteArray) (W : World) (h : At W g s j v) => next_calls g s t j v W h hj.2
  have hP := fun (h : j < s.size) (W : World) => part_calls (bt s j) W (bt_range s j).1 (bt_range s j).2
  have q0 := eq_true (show (0 : Int) ≤ (j : Int) by omega)
  have gne := hT.lt
  have g1 := eq_false (show ¬ g = w.heap.size by omega)
  have g2 := eq_false (show ¬ g = w.heap.size + 1 by omega)
  have g3 := eq_false (show ¬ w.heap.size = g by omega)
  have g4 := eq_false (show ¬ w.heap.size + 1 = g by omega)
  clear hT hbel hml gne
  by_cases c1 : j = s.size
  · rw [if_pos c1] at hr
    obtain rfl := Option.some.inj hr
    have n1 : (j == s.size) = true := beq_iff_eq.mpr c1
    clear hr hN hP c1
    show Code.wp _ (Code.seq _ _) _ _ _
    go_wp2_with (go_at_call 89; (with_reducible refine (HBK0.out _ (show TagSt w g s start i v 1 name l x0 x1 _ from by repeat (first | (with_reducible exact HT0.out) | (with_reducible apply TagSt.drewN) | (with_reducible apply TagSt.drew))).mv.me).mono ?_); rintro e1 W1 ⟨rfl, hm1⟩; have HT1 := Aside0.mk ((show TagSt w g s start i v 1 name l x0 x1 _ from by repeat (first | (with_reducible exact HT0.out) | (with_reducible apply TagSt.drewN) | (with_reducible apply TagSt.drew))).moved hm1); clear hm1; obtain ⟨va1, f1a, f1b, f1c, f1d, f1e, f1f, f1g, f1h, f1i, f1j, f1k, f1l, ⟨A1, C1, rfl⟩, hb1, hR1⟩ := HT1.out.facts; have HB1 := Aside0.mk hb1; have HR1 := Aside0.mk hR1; clear hb1 hR1)
    go_quiet (fail)
    go_wp2
    exact wp_goto ⟨0, by omega, ⟨rfl, rfl, rfl, rfl, rfl⟩, ⟨j, l, x0, x1, HT1.out.drewN _, rfl⟩⟩
  · rw [if_neg c1] at hr
    have n1 : (j == s.size) = false := beq_eq_false_iff_ne.mpr c1
    have hjs : j < s.size := by omega
    have j1 := eq_true (show (j : Int) < (s.size : Int) by omega)
    have hx := bt_nat s j hjs
    have HG := Aside0.mk (hN sGt)
    have HSG := Aside0.mk (hN sSlGt)
    have HS := Aside0.mk (hN sSl)
    have HPT := Aside0.mk (hP hjs)
    clear hN hP c1
    cases hb1 : nextB s j sGt with
    | true =>
      have hle := nextB_le hb1 hj.2
      rw [if_pos hb1] at hr
      obtain rfl := Option.some.inj hr
      rw [hb1] at HG
      obtain ⟨k, hk⟩ : ∃ k : Nat, k = j + 1 := ⟨_, rfl⟩
      have e1 : (j : Int) + 1 = (k : Int) := by omega
      have hks : k ≤ s.size := by have h1 : sGt.size = 1 := rfl; omega
      have HK := Aside0.mk hk
      clear hr hb1 hk hle
      show Code.wp _ (Code.seq _ _) _ _ _
      go_wp2_with (go_at_call 89; (with_reducible refine (HBK0.out _ (show TagSt w g s start i v 1 name l x0 x1 _ from by repeat (first | (with_reducible exact HT0.out) | (with_reducible apply TagSt.drewN) | (with_reducible apply TagSt.drew))).mv.me).mono ?_); rintro e1 W1 ⟨rfl, hm1⟩; have HT1 := Aside0.mk ((show TagSt w g s start i v 1 name l x0 x1 _ from by repeat (first | (with_reducible exact HT0.out) | (with_reducible apply TagSt.drewN) | (with_reducible apply TagSt.drew))).moved hm1); clear hm1; obtain ⟨va1, f1a, f1b, f1c, f1d, f1e, f1f, f1g, f1h, f1i, f1j, f1k, f1l, ⟨A1, C1, rfl⟩, hb1, hR1⟩ := HT1.out.facts; have HB1 := Aside0.mk hb1; have HR1 := Aside0.mk hR1; clear hb1 hR1)
      go_quiet (fail)
      go_wp2_with (go_at_call 54; (with_reducible refine (HG.out _ (by repeat (first | (with_reducible exact HT1.out.mv.me) | (with_reducible apply At.drewN) | (with_reducible apply At.drew)))).mono ?_); rintro en wn ⟨rfl, ⟨nd, rfl⟩⟩)
      go_wp2
      exact wp_goto ⟨0, by omega, ⟨rfl, rfl, rfl, rfl, rfl⟩, ⟨1, k, l, x0, x1, by repeat (first | (with_reducible exact HT1.out) | (with_reducible apply TagSt.drewN) | (with_reducible apply TagSt.drew) | refine TagSt.setAt (i := j) ?_ (j := k) rfl), by rw [HK.out]⟩⟩
    | false =>
      rw [if_neg (by rw [hb1]; decide)] at hr
      rw [hb1] at HG
      clear hb1
      cases hb2 : nextB s j sSlGt with
      | true =>
        have hle := nextB_le hb2 hj.2
        rw [if_pos hb2] at hr
        obtain rfl := Option.some.inj hr
        rw [hb2] at HSG
        obtain ⟨k, hk⟩ : ∃ k : Nat, k = j + 2 := ⟨_, rfl⟩
        have e1 : (j : Int) + 2 = (k : Int) := by omega
        have hks : k ≤ s.size := by have h1 : sSlGt.size = 2 := rfl; omega
        have HK := Aside0.mk hk
        clear hr hb2 hk hle
        show Code.wp _ (Code.seq _ _) _ _ _
        go_wp2_with (go_at_call 89; (with_reducible refine (HBK0.out _ (show TagSt w g s start i v 1 name l x0 x1 _ from by repeat (first | (with_reducible exact HT0.out) | (with_reducible apply TagSt.drewN) | (with_reducible apply TagSt.drew))).mv.me).mono ?_); rintro e1 W1 ⟨rfl, hm1⟩; have HT1 := Aside0.mk ((show TagSt w g s start i v 1 name l x0 x1 _ from by repeat (first | (with_reducible exact HT0.out) | (with_reducible apply TagSt.drewN) | (with_reducible apply TagSt.drew))).moved hm1); clear hm1; obtain ⟨va1, f1a, f1b, f1c, f1d, f1e, f1f, f1g, f1h, f1i, f1j, f1k, f1l, ⟨A1, C1, rfl⟩, hb1, hR1⟩ := HT1.out.facts; have HB1 := Aside0.mk hb1; have HR1 := Aside0.mk hR1; clear hb1 hR1)
        go_quiet (fail)
        go_wp2_with (first | (go_at_call 54; (with_reducible refine (HG.out _ (by repeat (first | (with_reducible exact HT1.out.mv.me) | (with_reducible apply At.drewN) | (with_reducible apply At.drew)))).mono ?_); rintro en wn ⟨rfl, ⟨nd, rfl⟩⟩) | (go_at_call 54; (with_reducible refine (HSG.out _ (by repeat (first | (with_reducible exact HT1.out.mv.me) | (with_reducible apply At.drewN) | (with_reducible apply At.drew)))).mono ?_); rintro en wn ⟨rfl, ⟨nd, rfl⟩⟩))
        go_wp2
        exact wp_goto ⟨0, by omega, ⟨rfl, rfl, rfl, rfl, rfl⟩, ⟨3, k, l, x0, x1, by repeat (first | (with_reducible exact HT1.out) | (with_reducible apply TagSt.drewN) | (with_reducible apply TagSt.drew) | refine TagSt.setKind (kind := 1) ?_ _ | refine TagSt.setAt (i := j) ?_ (j := k) rfl), by rw [HK.out]⟩⟩
      | false =>
        rw [if_neg (by rw [hb2]; decide)] at hr
        rw [hb2] at HSG
        clear hb2
        cases hb3 : nextB s j sSl with
        | true =>
          have hle := nextB_le hb3 hj.2
          rw [if_pos hb3] at hr
          rw [hb3] at HS
          obtain ⟨k, hk⟩ : ∃ k : Nat, k = j + 1 := ⟨_, rfl⟩
          rw [← hk] at hr
          have e1 : (j : Int) + 1 = (k : Int) := by omega
          have hks : k ≤ s.size := by have h1 : sSl.size = 1 := rfl; omega
          have w1 : IntKind.i64.wrap (k : Int) = (k : Int) := IntWalk.i64_in _ (by omega)
          have HK := Aside0.mk hk
          clear hb3 hk hle
          by_cases hke : k = s.size
          · rw [if_pos hke] at hr
            obtain rfl := Option.some.inj hr
            have n2 : (k == s.size) = true := beq_iff_eq.mpr hke
            clear hr hke
            show Code.wp _ (Code.seq _ _) _ _ _
            go_wp2_with (go_at_call 89; (with_reducible refine (HBK0.out _ (show TagSt w g s start i v 1 name l x0 x1 _ from by repeat (first | (with_reducible exact HT0.out) | (with_reducible apply TagSt.drewN) | (with_reducible apply TagSt.drew))).mv.me).mono ?_); rintro e1 W1 ⟨rfl, hm1⟩; have HT1 := Aside0.mk ((show TagSt w g s start i v 1 name l x0 x1 _ from by repeat (first | (with_reducible exact HT0.out) | (with_reducible apply TagSt.drewN) | (with_reducible apply TagSt.drew))).moved hm1); clear hm1; obtain ⟨va1, f1a, f1b, f1c, f1d, f1e, f1f, f1g, f1h, f1i, f1j, f1k, f1l, ⟨A1, C1, rfl⟩, hb1, hR1⟩ := HT1.out.facts; have HB1 := Aside0.mk hb1; have HR1 := Aside0.mk hR1; clear hb1 hR1)
            go_quiet (fail)
            go_wp2_with (first | (go_at_call 54; (with_reducible refine (HG.out _ (by repeat (first | (with_reducible exact HT1.out.mv.me) | (with_reducible apply At.drewN) | (with_reducible apply At.drew)))).mono ?_); rintro en wn ⟨rfl, ⟨nd, rfl⟩⟩) | (go_at_call 54; (with_reducible refine (HSG.out _ (by repeat (first | (with_reducible exact HT1.out.mv.me) | (with_reducible apply At.drewN) | (with_reducible apply At.drew)))).mono ?_); rintro en wn ⟨rfl, ⟨nd, rfl⟩⟩))
            go_quiet ((go_at_call 54; (with_reducible refine (HS.out _ (by repeat (first | (with_reducible exact HT1.out.mv.me) | (with_reducible apply At.drewN) | (with_reducible apply At.drew)))).mono ?_); rintro en wn ⟨rfl, ⟨nd, rfl⟩⟩; first | exact ⟨rfl, _, World.drewN_drewN _ _ _⟩ | exact ⟨rfl, _, (World.drewN_drewN _ _ _).trans (congrArg (World.drewN _) (Nat.add_assoc _ _ _))⟩))
            go_wp2
            exact wp_goto ⟨0, by omega, ⟨rfl, rfl, rfl, rfl, rfl⟩, ⟨j, l, x0, x1, by repeat (first | (with_reducible exact HT1.out) | (with_reducible apply TagSt.drewN) | (with_reducible apply TagSt.drew)), rfl⟩⟩
          · rw [if_neg hke] at hr
            obtain rfl := Option.some.inj hr
            have n2 : (k == s.size) = false := beq_eq_false_iff_ne.mpr hke
            clear hr hke
            show Code.wp _ (Code.seq _ _) _ _ _
            go_wp2_with (go_at_call 89; (with_reducible refine (HBK0.out _ (show TagSt w g s start i v 1 name l x0 x1 _ from by repeat (first | (with_reducible exact HT0.out) | (with_reducible apply TagSt.drewN) | (with_reducible apply TagSt.drew))).mv.me).mono ?_); rintro e1 W1 ⟨rfl, hm1⟩; have HT1 := Aside0.mk ((show TagSt w g s start i v 1 name l x0 x1 _ from by repeat (first | (with_reducible exact HT0.out) | (with_reducible apply TagSt.drewN) | (with_reducible apply TagSt.drew))).moved hm1); clear hm1; obtain ⟨va1, f1a, f1b, f1c, f1d, f1e, f1f, f1g, f1h, f1i, f1j, f1k, f1l, ⟨A1, C1, rfl⟩, hb1, hR1⟩ := HT1.out.facts; have HB1 := Aside0.mk hb1; have HR1 := Aside0.mk hR1; clear hb1 hR1)
            go_quiet (fail)
            go_wp2_with (first | (go_at_call 54; (with_reducible refine (HG.out _ (by repeat (first | (with_reducible exact HT1.out.mv.me) | (with_reducible apply At.drewN) | (with_reducible apply At.drew)))).mono ?_); rintro en wn ⟨rfl, ⟨nd, rfl⟩⟩) | (go_at_call 54; (with_reducible refine (HSG.out _ (by repeat (first | (with_reducible exact HT1.out.mv.me) | (with_reducible apply At.drewN) | (with_reducible apply At.drew)))).mono ?_); rintro en wn ⟨rfl, ⟨nd, rfl⟩⟩))
            go_quiet ((go_at_call 54; (with_reducible refine (HS.out _ (by repeat (first | (with_reducible exact HT1.out.mv.me) | (with_reducible apply At.drewN) | (with_reducible apply At.drew)))).mono ?_); rintro en wn ⟨rfl, ⟨nd, rfl⟩⟩; first | exact ⟨rfl, _, World.drewN_drewN _ _ _⟩ | exact ⟨rfl, _, (World.drewN_drewN _ _ _).trans (congrArg (World.drewN _) (Nat.add_assoc _ _ _))⟩))
            go_wp2_with (go_at_call 54; (with_reducible refine (HS.out _ (by repeat (first | (with_reducible exact HT1.out.mv.me) | (with_reducible apply At.drewN) | (with_reducible apply At.drew)))).mono ?_); rintro en wn ⟨rfl, ⟨nd, rfl⟩⟩)
            exact wp_goto ⟨0, by omega, ⟨rfl, rfl, rfl, rfl, rfl⟩, ⟨k, l, x0, x1, by repeat (first | (with_reducible exact HT1.out) | (with_reducible apply TagSt.drewN) | (with_reducible apply TagSt.drew) | refine TagSt.setAt (i := j) ?_ (j := k) rfl), rfl⟩⟩
        | false =>
          rw [if_neg (by rw [hb3]; decide)] at hr
          rw [hb3] at HS
          clear hb3
          cases hp : partB (bt s j) with
          | false =>
            rw [if_pos (Or.inl hp)] at hr
            obtain rfl := Option.some.inj hr
            rw [hp] at HPT
            clear hr hp
            show Code.wp _ (Code.seq _ _) _ _ _
            go_wp2_with (go_at_call 89; (with_reducible refine (HBK0.out _ (show TagSt w g s start i v 1 name l x0 x1 _ from by repeat (first | (with_reducible exact HT0.out) | (with_reducible apply TagSt.drewN) | (with_reducible apply TagSt.drew))).mv.me).mono ?_); rintro e1 W1 ⟨rfl, hm1⟩; have HT1 := Aside0.mk ((show TagSt w g s start i v 1 name l x0 x1 _ from by repeat (first | (with_reducible exact HT0.out) | (with_reducible apply TagSt.drewN) | (with_reducible apply TagSt.drew))).moved hm1); clear hm1; obtain ⟨va1, f1a, f1b, f1c, f1d, f1e, f1f, f1g, f1h, f1i, f1j, f1k, f1l, ⟨A1, C1, rfl⟩, hb1, hR1⟩ := HT1.out.facts; have HB1 := Aside0.mk hb1; have HR1 := Aside0.mk hR1; clear hb1 hR1)
            go_quiet (fail)
            go_wp2_with (first | (go_at_call 54; (with_reducible refine (HG.out _ (by repeat (first | (with_reducible exact HT1.out.mv.me) | (with_reducible apply At.drewN) | (with_reducible apply At.drew)))).mono ?_); rintro en wn ⟨rfl, ⟨nd, rfl⟩⟩) | (go_at_call 54; (with_reducible refine (HSG.out _ (by repeat (first | (with_reducible exact HT1.out.mv.me) | (with_reducible apply At.drewN) | (with_reducible apply At.drew)))).mono ?_); rintro en wn ⟨rfl, ⟨nd, rfl⟩⟩))
            go_quiet ((go_at_call 54; (with_reducible refine (HS.out _ (by repeat (first | (with_reducible exact HT1.out.mv.me) | (with_reducible apply At.drewN) | (with_reducible apply At.drew)))).mono ?_); rintro en wn ⟨rfl, ⟨nd, rfl⟩⟩; first | exact ⟨rfl, _, World.drewN_drewN _ _ _⟩ | exact ⟨rfl, _, (World.drewN_drewN _ _ _).trans (congrArg (World.drewN _) (Nat.add_assoc _ _ _))⟩))
            go_wp2_with (go_at_call 54; (with_reducible refine (HS.out _ (by repeat (first | (with_reducible exact HT1.out.mv.me) | (with_reducible apply At.drewN) | (with_reducible apply At.drew)))).mono ?_); rintro en wn ⟨rfl, ⟨nd, rfl⟩⟩)
            go_quiet ((go_at_call 128; (with_reducible refine (HPT.out _).mono ?_); rintro en wn ⟨rfl, ⟨nd, rfl⟩⟩; first | exact ⟨rfl, _, World.drewN_drewN _ _ _⟩ | exact ⟨rfl, _, (World.drewN_drewN _ _ _).trans (congrArg (World.drewN _) (Nat.add_assoc _ _ _))⟩))
            go_wp2
            go_quiet ((go_at_call 128; (with_reducible refine (HPT.out _).mono ?_); rintro en wn ⟨rfl, ⟨nd, rfl⟩⟩; first | exact ⟨rfl, _, World.drewN_drewN _ _ _⟩ | exact ⟨rfl, _, (World.drewN_drewN _ _ _).trans (congrArg (World.drewN _) (Nat.add_assoc _ _ _))⟩))
            go_wp2
            exact wp_goto ⟨0, by omega, ⟨rfl, rfl, rfl, rfl, rfl⟩, ⟨j, l, x0, x1, by repeat (first | (with_reducible exact HT1.out) | (with_reducible apply TagSt.drewN) | (with_reducible apply TagSt.drew)), rfl⟩⟩
          | true =>
            by_cases hji : j = i
            · rw [if_pos (Or.inr hji)] at hr
              obtain rfl := Option.some.inj hr
              have n3 : ((j : Int) - (i : Int) == 0) = true := beq_iff_eq.mpr (by omega)
              rw [hp] at HPT
              clear hr hp hji
              show Code.wp _ (Code.seq _ _) _ _ _
              go_wp2_with (go_at_call 89; (with_reducible refine (HBK0.out _ (show TagSt w g s start i v 1 name l x0 x1 _ from by repeat (first | (with_reducible exact HT0.out) | (with_reducible apply TagSt.drewN) | (with_reducible apply TagSt.drew))).mv.me).mono ?_); rintro e1 W1 ⟨rfl, hm1⟩; have HT1 := Aside0.mk ((show TagSt w g s start i v 1 name l x0 x1 _ from by repeat (first | (with_reducible exact HT0.out) | (with_reducible apply TagSt.drewN) | (with_reducible apply TagSt.drew))).moved hm1); clear hm1; obtain ⟨va1, f1a, f1b, f1c, f1d, f1e, f1f, f1g, f1h, f1i, f1j, f1k, f1l, ⟨A1, C1, rfl⟩, hb1, hR1⟩ := HT1.out.facts; have HB1 := Aside0.mk hb1; have HR1 := Aside0.mk hR1; clear hb1 hR1)
              go_quiet (fail)
              go_wp2_with (first | (go_at_call 54; (with_reducible refine (HG.out _ (by repeat (first | (with_reducible exact HT1.out.mv.me) | (with_reducible apply At.drewN) | (with_reducible apply At.drew)))).mono ?_); rintro en wn ⟨rfl, ⟨nd, rfl⟩⟩) | (go_at_call 54; (with_reducible refine (HSG.out _ (by repeat (first | (with_reducible exact HT1.out.mv.me) | (with_reducible apply At.drewN) | (with_reducible apply At.drew)))).mono ?_); rintro en wn ⟨rfl, ⟨nd, rfl⟩⟩))
              go_quiet ((go_at_call 54; (with_reducible refine (HS.out _ (by repeat (first | (with_reducible exact HT1.out.mv.me) | (with_reducible apply At.drewN) | (with_reducible apply At.drew)))).mono ?_); rintro en wn ⟨rfl, ⟨nd, rfl⟩⟩; first | exact ⟨rfl, _, World.drewN_drewN _ _ _⟩ | exact ⟨rfl, _, (World.drewN_drewN _ _ _).trans (congrArg (World.drewN _) (Nat.add_assoc _ _ _))⟩))
              go_wp2_with (go_at_call 54; (with_reducible refine (HS.out _ (by repeat (first | (with_reducible exact HT1.out.mv.me) | (with_reducible apply At.drewN) | (with_reducible apply At.drew)))).mono ?_); rintro en wn ⟨rfl, ⟨nd, rfl⟩⟩)
              go_quiet ((go_at_call 128; (with_reducible refine (HPT.out _).mono ?_); rintro en wn ⟨rfl, ⟨nd, rfl⟩⟩; first | exact ⟨rfl, _, World.drewN_drewN _ _ _⟩ | exact ⟨rfl, _, (World.drewN_drewN _ _ _).trans (congrArg (World.drewN _) (Nat.add_assoc _ _ _))⟩))
              go_wp2
              exact wp_goto ⟨0, by omega, ⟨rfl, rfl, rfl, rfl, rfl⟩, ⟨j, l, x0, x1, by repeat (first | (with_reducible exact HT1.out) | (with_reducible apply TagSt.drewN) | (with_reducible apply TagSt.drew)), rfl⟩⟩
            · rw [if_neg (by rw [hp]; rintro (h | h); exact absurd h (by decide); exact hji h)] at hr
              have n3 : ((j : Int) - (i : Int) == 0) = false := beq_eq_false_iff_ne.mpr (by omega)
              rw [hp] at HPT
              clear hp hji
              by_cases h65 : l.length = 65
              · rw [if_pos h65] at hr
                obtain rfl := Option.some.inj hr
                have n4 : ((l.length : Int) == 65) = true := beq_iff_eq.mpr (by omega)
                clear hr h65
                show Code.wp _ (Code.seq _ _) _ _ _
                go_wp2_with (go_at_call 89; (with_reducible refine (HBK0.out _ (show TagSt w g s start i v 1 name l x0 x1 _ from by repeat (first | (with_reducible exact HT0.out) | (with_reducible apply TagSt.drewN) | (with_reducible apply TagSt.drew))).mv.me).mono ?_); rintro e1 W1 ⟨rfl, hm1⟩; have HT1 := Aside0.mk ((show TagSt w g s start i v 1 name l x0 x1 _ from by repeat (first | (with_reducible exact HT0.out) | (with_reducible apply TagSt.drewN) | (with_reducible apply TagSt.drew))).moved hm1); clear hm1; obtain ⟨va1, f1a, f1b, f1c, f1d, f1e, f1f, f1g, f1h, f1i, f1j, f1k, f1l, ⟨A1, C1, rfl⟩, hb1, hR1⟩ := HT1.out.facts; have HB1 := Aside0.mk hb1; have HR1 := Aside0.mk hR1; clear hb1 hR1)
                go_quiet (fail)
                go_wp2_with (first | (go_at_call 54; (with_reducible refine (HG.out _ (by repeat (first | (with_reducible exact HT1.out.mv.me) | (with_reducible apply At.drewN) | (with_reducible apply At.drew)))).mono ?_); rintro en wn ⟨rfl, ⟨nd, rfl⟩⟩) | (go_at_call 54; (with_reducible refine (HSG.out _ (by repeat (first | (with_reducible exact HT1.out.mv.me) | (with_reducible apply At.drewN) | (with_reducible apply At.drew)))).mono ?_); rintro en wn ⟨rfl, ⟨nd, rfl⟩⟩))
                go_quiet ((go_at_call 54; (with_reducible refine (HS.out _ (by repeat (first | (with_reducible exact HT1.out.mv.me) | (with_reducible apply At.drewN) | (with_reducible apply At.drew)))).mono ?_); rintro en wn ⟨rfl, ⟨nd, rfl⟩⟩; first | exact ⟨rfl, _, World.drewN_drewN _ _ _⟩ | exact ⟨rfl, _, (World.drewN_drewN _ _ _).trans (congrArg (World.drewN _) (Nat.add_assoc _ _ _))⟩))
                go_wp2_with (go_at_call 54; (with_reducible refine (HS.out _ (by repeat (first | (with_reducible exact HT1.out.mv.me) | (with_reducible apply At.drewN) | (with_reducible apply At.drew)))).mono ?_); rintro en wn ⟨rfl, ⟨nd, rfl⟩⟩)
                go_quiet ((go_at_call 128; (with_reducible refine (HPT.out _).mono ?_); rintro en wn ⟨rfl, ⟨nd, rfl⟩⟩; first | exact ⟨rfl, _, World.drewN_drewN _ _ _⟩ | exact ⟨rfl, _, (World.drewN_drewN _ _ _).trans (congrArg (World.drewN _) (Nat.add_assoc _ _ _))⟩))
                go_wp2
                go_quiet ((go_at_call 128; (with_reducible refine (HPT.out _).mono ?_); rintro en wn ⟨rfl, ⟨nd, rfl⟩⟩; first | exact ⟨rfl, _, World.drewN_drewN _ _ _⟩ | exact ⟨rfl, _, (World.drewN_drewN _ _ _).trans (congrArg (World.drewN _) (Nat.add_assoc _ _ _))⟩))
                go_wp2_with (go_at_call 91; (with_reducible refine (fail_calls _ _ _ _).mono ?_); rintro e4 w4 ⟨hgu, rfl⟩; unfold gaveUp at hgu; subst hgu)
                exact ⟨rfl, rfl, (show TagSt w g s start j v 1 name l x0 x1 _ from by repeat (first | (with_reducible exact HT1.out) | (with_reducible apply TagSt.drewN) | (with_reducible apply TagSt.drew))).mv.belowB HB.out hlt⟩
              · rw [if_neg h65] at hr
                have n4 : ((l.length : Int) == 65) = false := beq_eq_false_iff_ne.mpr (by omega)
                have hl64 : l.length < 65 := by omega
                clear h65
                have hW := fun (W : World) (h : At W g s j v) => word_calls g s start j v W h hj.2 (by omega)
                have hwl := fun k => wordS_le (s := s) (start := start) (i := j) (k := k) hj.2
                unfold attrS at hr
                generalize wordS s start j = xw at hr hW hwl
                cases xw with
                | error pp =>
                  obtain ⟨pa, pc⟩ := pp
                  simp only [Option.bind_some] at hr
                  obtain rfl := Option.some.inj hr
                  have HW := Aside0.mk hW
                  clear hr hW hwl
                  show Code.wp _ (Code.seq _ _) _ _ _
                  go_wp2_with (go_at_call 89; (with_reducible refine (HBK0.out _ (show TagSt w g s start i v 1 name l x0 x1 _ from by repeat (first | (with_reducible exact HT0.out) | (with_reducible apply TagSt.drewN) | (with_reducible apply TagSt.drew))).mv.me).mono ?_); rintro e1 W1 ⟨rfl, hm1⟩; have HT1 := Aside0.mk ((show TagSt w g s start i v 1 name l x0 x1 _ from by repeat (first | (with_reducible exact HT0.out) | (with_reducible apply TagSt.drewN) | (with_reducible apply TagSt.drew))).moved hm1); clear hm1; obtain ⟨va1, f1a, f1b, f1c, f1d, f1e, f1f, f1g, f1h, f1i, f1j, f1k, f1l, ⟨A1, C1, rfl⟩, hb1, hR1⟩ := HT1.out.facts; have HB1 := Aside0.mk hb1; have HR1 := Aside0.mk hR1; clear hb1 hR1)
                  go_quiet (fail)
                  go_wp2_with (first | (go_at_call 54; (with_reducible refine (HG.out _ (by repeat (first | (with_reducible exact HT1.out.mv.me) | (with_reducible apply At.drewN) | (with_reducible apply At.drew)))).mono ?_); rintro en wn ⟨rfl, ⟨nd, rfl⟩⟩) | (go_at_call 54; (with_reducible refine (HSG.out _ (by repeat (first | (with_reducible exact HT1.out.mv.me) | (with_reducible apply At.drewN) | (with_reducible apply At.drew)))).mono ?_); rintro en wn ⟨rfl, ⟨nd, rfl⟩⟩))
                  go_quiet ((go_at_call 54; (with_reducible refine (HS.out _ (by repeat (first | (with_reducible exact HT1.out.mv.me) | (with_reducible apply At.drewN) | (with_reducible apply At.drew)))).mono ?_); rintro en wn ⟨rfl, ⟨nd, rfl⟩⟩; first | exact ⟨rfl, _, World.drewN_drewN _ _ _⟩ | exact ⟨rfl, _, (World.drewN_drewN _ _ _).trans (congrArg (World.drewN _) (Nat.add_assoc _ _ _))⟩))
                  go_wp2_with (go_at_call 54; (with_reducible refine (HS.out _ (by repeat (first | (with_reducible exact HT1.out.mv.me) | (with_reducible apply At.drewN) | (with_reducible apply At.drew)))).mono ?_); rintro en wn ⟨rfl, ⟨nd, rfl⟩⟩)
                  go_quiet ((go_at_call 128; (with_reducible refine (HPT.out _).mono ?_); rintro en wn ⟨rfl, ⟨nd, rfl⟩⟩; first | exact ⟨rfl, _, World.drewN_drewN _ _ _⟩ | exact ⟨rfl, _, (World.drewN_drewN _ _ _).trans (congrArg (World.drewN _) (Nat.add_assoc _ _ _))⟩))
                  go_wp2
                  go_quiet ((go_at_call 128; (with_reducible refine (HPT.out _).mono ?_); rintro en wn ⟨rfl, ⟨nd, rfl⟩⟩; first | exact ⟨rfl, _, World.drewN_drewN _ _ _⟩ | exact ⟨rfl, _, (World.drewN_drewN _ _ _).trans (congrArg (World.drewN _) (Nat.add_assoc _ _ _))⟩))
                  go_wp2_with (go_at_call 127; (with_reducible refine (HW.out _ (show TagSt w g s start j v 1 name l x0 x1 _ from by repeat (first | (with_reducible exact HT1.out) | (with_reducible apply TagSt.drewN) | (with_reducible apply TagSt.drew))).mv.me).mono ?_); rintro e2 W2 ⟨hgu, jj, hm2⟩; unfold gaveUp at hgu; subst hgu; have HT2 := Aside0.mk ((show TagSt w g s start j v 1 name l x0 x1 _ from by repeat (first | (with_reducible exact HT1.out) | (with_reducible apply TagSt.drewN) | (with_reducible apply TagSt.drew))).moved hm2); clear hm2)
                  exact ⟨rfl, rfl, HT2.out.mv.belowB HB.out hlt⟩
                | ok k =>
                  have hwl := hwl k rfl
                  simp only at hr
                  have HW := Aside0.mk (show ∀ (W : World), At W g s j v → Calls Tryd.prog 127 #[.pointer (some ⟨g, 0, none⟩), .int .i64 (start : Int)] W (fun e w' => e = .returned (.string (s.extract j k)) ∧ Moved g W w' s k v) from hW)
                  have HBK2 := Aside0.mk (fun (W : World) (h : At W g s k v) => blanks_calls g s k v W h hwl (by omega))
                  have hml := skip_le blankB s k hwl
                  generalize skip blankB s k = m at hr HBK2 hml
                  have hN := fun (t : ByteArray) (W : World) (h : At W g s m v) => next_calls g s t m v W h hml.2
                  have HE := Aside0.mk (hN sEq)
                  have m0 := eq_true (show (0 : Int) ≤ (m : Int) by omega)
                  clear hW hN
                  by_cases hms : m = s.size
                  · rw [if_pos hms] at hr
                    simp only [Option.bind_some] at hr
                    obtain rfl := Option.some.inj hr
                    have n5 : (m == s.size) = true := beq_iff_eq.mpr hms
                    clear hr hms
                    show Code.wp _ (Code.seq _ _) _ _ _
                    go_wp2_with (go_at_call 89; (with_reducible refine (HBK0.out _ (show TagSt w g s start i v 1 name l x0 x1 _ from by repeat (first | (with_reducible exact HT0.out) | (with_reducible apply TagSt.drewN) | (with_reducible apply TagSt.drew))).mv.me).mono ?_); rintro e1 W1 ⟨rfl, hm1⟩; have HT1 := Aside0.mk ((show TagSt w g s start i v 1 name l x0 x1 _ from by repeat (first | (with_reducible exact HT0.out) | (with_reducible apply TagSt.drewN) | (with_reducible apply TagSt.drew))).moved hm1); clear hm1; obtain ⟨va1, f1a, f1b, f1c, f1d, f1e, f1f, f1g, f1h, f1i, f1j, f1k, f1l, ⟨A1, C1, rfl⟩, hb1, hR1⟩ := HT1.out.facts; have HB1 := Aside0.mk hb1; have HR1 := Aside0.mk hR1; clear hb1 hR1)
                    go_quiet (fail)
                    go_wp2_with (first | (go_at_call 54; (with_reducible refine (HG.out _ (by repeat (first | (with_reducible exact HT1.out.mv.me) | (with_reducible apply At.drewN) | (with_reducible apply At.drew)))).mono ?_); rintro en wn ⟨rfl, ⟨nd, rfl⟩⟩) | (go_at_call 54; (with_reducible refine (HSG.out _ (by repeat (first | (with_reducible exact HT1.out.mv.me) | (with_reducible apply At.drewN) | (with_reducible apply At.drew)))).mono ?_); rintro en wn ⟨rfl, ⟨nd, rfl⟩⟩))
                    go_quiet ((go_at_call 54; (with_reducible refine (HS.out _ (by repeat (first | (with_reducible exact HT1.out.mv.me) | (with_reducible apply At.drewN) | (with_reducible apply At.drew)))).mono ?_); rintro en wn ⟨rfl, ⟨nd, rfl⟩⟩; first | exact ⟨rfl, _, World.drewN_drewN _ _ _⟩ | exact ⟨rfl, _, (World.drewN_drewN _ _ _).trans (congrArg (World.drewN _) (Nat.add_assoc _ _ _))⟩))
                    go_wp2_with (go_at_call 54; (with_reducible refine (HS.out _ (by repeat (first | (with_reducible exact HT1.out.mv.me) | (with_reducible apply At.drewN) | (with_reducible apply At.drew)))).mono ?_); rintro en wn ⟨rfl, ⟨nd, rfl⟩⟩)
                    go_quiet ((go_at_call 128; (with_reducible refine (HPT.out _).mono ?_); rintro en wn ⟨rfl, ⟨nd, rfl⟩⟩; first | exact ⟨rfl, _, World.drewN_drewN _ _ _⟩ | exact ⟨rfl, _, (World.drewN_drewN _ _ _).trans (congrArg (World.drewN _) (Nat.add_assoc _ _ _))⟩))
                    go_wp2
                    go_quiet ((go_at_call 128; (with_reducible refine (HPT.out _).mono ?_); rintro en wn ⟨rfl, ⟨nd, rfl⟩⟩; first | exact ⟨rfl, _, World.drewN_drewN _ _ _⟩ | exact ⟨rfl, _, (World.drewN_drewN _ _ _).trans (congrArg (World.drewN _) (Nat.add_assoc _ _ _))⟩))
                    go_wp2_with (first | (go_at_call 127; (with_reducible refine (HW.out _ (show TagSt w g s start j v 1 name l x0 x1 _ from by repeat (first | (with_reducible exact HT1.out) | (with_reducible apply TagSt.drewN) | (with_reducible apply TagSt.drew))).mv.me).mono ?_); rintro e2 W2 ⟨rfl, hm2⟩; have HT2 := Aside0.mk ((show TagSt w g s start j v 1 name l x0 x1 _ from by repeat (first | (with_reducible exact HT1.out) | (with_reducible apply TagSt.drewN) | (with_reducible apply TagSt.drew))).moved hm2); clear hm2; obtain ⟨va2, f2a, f2b, f2c, f2d, f2e, f2f, f2g, f2h, f2i, f2j, f2k, f2l, ⟨A2, C2, rfl⟩, hb2, hR2⟩ := HT2.out.facts; have HB2 := Aside0.mk hb2; have HR2 := Aside0.mk hR2; clear hb2 hR2) | (go_at_call 89; (with_reducible refine (HBK2.out _ (show TagSt w g s start k v 1 name l (s.extract j k) x1 _ from by repeat (first | (with_reducible exact HT2.out) | (with_reducible apply TagSt.drewN) | (with_reducible apply TagSt.drew) | (with_reducible apply TagSt.setA0))).mv.me).mono ?_); rintro e3 W3 ⟨rfl, hm3⟩; have HT3 := Aside0.mk ((show TagSt w g s start k v 1 name l (s.extract j k) x1 _ from by repeat (first | (with_reducible exact HT2.out) | (with_reducible apply TagSt.drewN) | (with_reducible apply TagSt.drew) | (with_reducible apply TagSt.setA0))).moved hm3); clear hm3; obtain ⟨va3, f3a, f3b, f3c, f3d, f3e, f3f, f3g, f3h, f3i, f3j, f3k, f3l, ⟨A3, C3, rfl⟩, hb3, hR3⟩ := HT3.out.facts; have HB3 := Aside0.mk hb3; have HR3 := Aside0.mk hR3; clear hb3 hR3))
                    go_quiet (fail)
                    go_wp2
                    exact wp_goto ⟨0, by omega, ⟨rfl, rfl, rfl, rfl, rfl⟩, ⟨m, l, _, x1, HT3.out.drewN _, rfl⟩⟩
                  · rw [if_neg hms] at hr
                    have n5 : (m == s.size) = false := beq_eq_false_iff_ne.mpr hms
                    clear hms
                    cases hb4 : nextB s m sEq with
                    | false =>
                      rw [if_pos hb4] at hr
                      simp only [Option.bind_some] at hr
                      obtain rfl := Option.some.inj hr
                      rw [hb4] at HE
                      clear hr hb4
                      show Code.wp _ (Code.seq _ _) _ _ _
                      go_wp2_with (go_at_call 89; (with_reducible refine (HBK0.out _ (show TagSt w g s start i v 1 name l x0 x1 _ from by repeat (first | (with_reducible exact HT0.out) | (with_reducible apply TagSt.drewN) | (with_reducible apply TagSt.drew))).mv.me).mono ?_); rintro e1 W1 ⟨rfl, hm1⟩; have HT1 := Aside0.mk ((show TagSt w g s start i v 1 name l x0 x1 _ from by repeat (first | (with_reducible exact HT0.out) | (with_reducible apply TagSt.drewN) | (with_reducible apply TagSt.drew))).moved hm1); clear hm1; obtain ⟨va1, f1a, f1b, f1c, f1d, f1e, f1f, f1g, f1h, f1i, f1j, f1k, f1l, ⟨A1, C1, rfl⟩, hb1, hR1⟩ := HT1.out.facts; have HB1 := Aside0.mk hb1; have HR1 := Aside0.mk hR1; clear hb1 hR1)
                      go_quiet (fail)
                      go_wp2_with (first | (go_at_call 54; (with_reducible refine (HG.out _ (by repeat (first | (with_reducible exact HT1.out.mv.me) | (with_reducible apply At.drewN) | (with_reducible apply At.drew)))).mono ?_); rintro en wn ⟨rfl, ⟨nd, rfl⟩⟩) | (go_at_call 54; (with_reducible refine (HSG.out _ (by repeat (first | (with_reducible exact HT1.out.mv.me) | (with_reducible apply At.drewN) | (with_reducible apply At.drew)))).mono ?_); rintro en wn ⟨rfl, ⟨nd, rfl⟩⟩))
                      go_quiet ((go_at_call 54; (with_reducible refine (HS.out _ (by repeat (first | (with_reducible exact HT1.out.mv.me) | (with_reducible apply At.drewN) | (with_reducible apply At.drew)))).mono ?_); rintro en wn ⟨rfl, ⟨nd, rfl⟩⟩; first | exact ⟨rfl, _, World.drewN_drewN _ _ _⟩ | exact ⟨rfl, _, (World.drewN_drewN _ _ _).trans (congrArg (World.drewN _) (Nat.add_assoc _ _ _))⟩))
                      go_wp2_with (go_at_call 54; (with_reducible refine (HS.out _ (by repeat (first | (with_reducible exact HT1.out.mv.me) | (with_reducible apply At.drewN) | (with_reducible apply At.drew)))).mono ?_); rintro en wn ⟨rfl, ⟨nd, rfl⟩⟩)
                      go_quiet ((go_at_call 128; (with_reducible refine (HPT.out _).mono ?_); rintro en wn ⟨rfl, ⟨nd, rfl⟩⟩; first | exact ⟨rfl, _, World.drewN_drewN _ _ _⟩ | exact ⟨rfl, _, (World.drewN_drewN _ _ _).trans (congrArg (World.drewN _) (Nat.add_assoc _ _ _))⟩))
                      go_wp2
                      go_quiet ((go_at_call 128; (with_reducible refine (HPT.out _).mono ?_); rintro en wn ⟨rfl, ⟨nd, rfl⟩⟩; first | exact ⟨rfl, _, World.drewN_drewN _ _ _⟩ | exact ⟨rfl, _, (World.drewN_drewN _ _ _).trans (congrArg (World.drewN _) (Nat.add_assoc _ _ _))⟩))
                      go_wp2_with (first | (go_at_call 127; (with_reducible refine (HW.out _ (show TagSt w g s start j v 1 name l x0 x1 _ from by repeat (first | (with_reducible exact HT1.out) | (with_reducible apply TagSt.drewN) | (with_reducible apply TagSt.drew))).mv.me).mono ?_); rintro e2 W2 ⟨rfl, hm2⟩; have HT2 := Aside0.mk ((show TagSt w g s start j v 1 name l x0 x1 _ from by repeat (first | (with_reducible exact HT1.out) | (with_reducible apply TagSt.drewN) | (with_reducible apply TagSt.drew))).moved hm2); clear hm2; obtain ⟨va2, f2a, f2b, f2c, f2d, f2e, f2f, f2g, f2h, f2i, f2j, f2k, f2l, ⟨A2, C2, rfl⟩, hb2, hR2⟩ := HT2.out.facts; have HB2 := Aside0.mk hb2; have HR2 := Aside0.mk hR2; clear hb2 hR2) | (go_at_call 89; (with_reducible refine (HBK2.out _ (show TagSt w g s start k v 1 name l (s.extract j k) x1 _ from by repeat (first | (with_reducible exact HT2.out) | (with_reducible apply TagSt.drewN) | (with_reducible apply TagSt.drew) | (with_reducible apply TagSt.setA0))).mv.me).mono ?_); rintro e3 W3 ⟨rfl, hm3⟩; have HT3 := Aside0.mk ((show TagSt w g s start k v 1 name l (s.extract j k) x1 _ from by repeat (first | (with_reducible exact HT2.out) | (with_reducible apply TagSt.drewN) | (with_reducible apply TagSt.drew) | (with_reducible apply TagSt.setA0))).moved hm3); clear hm3; obtain ⟨va3, f3a, f3b, f3c, f3d, f3e, f3f, f3g, f3h, f3i, f3j, f3k, f3l, ⟨A3, C3, rfl⟩, hb3, hR3⟩ := HT3.out.facts; have HB3 := Aside0.mk hb3; have HR3 := Aside0.mk hR3; clear hb3 hR3))
                      go_quiet (fail)
                      go_wp2_with (go_at_call 54; (with_reducible refine (HE.out _ (by repeat (first | (with_reducible exact HT3.out.mv.me) | (with_reducible apply At.drewN) | (with_reducible apply At.drew)))).mono ?_); rintro en wn ⟨rfl, ⟨nd, rfl⟩⟩)
                      exact wp_goto ⟨0, by omega, ⟨rfl, rfl, rfl, rfl, rfl⟩, ⟨m, l, _, x1, by repeat (first | (with_reducible exact HT3.out) | (with_reducible apply TagSt.drewN)), rfl⟩⟩
                    | true =>
                      have hle := nextB_le hb4 hml.2
                      rw [if_neg (by rw [hb4]; decide)] at hr
                      rw [hb4] at HE
                      obtain ⟨m1, hm1⟩ : ∃ m1 : Nat, m1 = m + 1 := ⟨_, rfl⟩
                      rw [← hm1] at hr
                      have e3 : (m : Int) + 1 = (m1 : Int) := by omega
                      have hm1s : m1 ≤ s.size := by have h1 : sEq.size = 1 := rfl; omega
                      have HBK3 := Aside0.mk (fun (W : World) (h : At W g s m1 v) => blanks_calls g s m1 v W h hm1s (by omega))
                      have hpl := skip_le blankB s m1 hm1s
                      generalize skip blankB s m1 = p at hr HBK3 hpl
                      have hN := fun (t : ByteArray) (W : World) (h : At W g s p v) => next_calls g s t p v W h hpl.2
                      have HQ := Aside0.mk (hN sQ)
                      have HA := Aside0.mk (hN sA)
                      have p0 := eq_true (show (0 : Int) ≤ (p : Int) by omega)
                      clear hb4 hle hm1 hN
                      by_cases hpe : p = s.size
                      · rw [if_pos hpe] at hr
                        simp only [Option.bind_some] at hr
                        obtain rfl := Option.some.inj hr
                        have n6 : (p == s.size) = true := beq_iff_eq.mpr hpe
                        clear hr hpe
                        show Code.wp _ (Code.seq _ _) _ _ _
                        go_wp2_with (go_at_call 89; (with_reducible refine (HBK0.out _ (show TagSt w g s start i v 1 name l x0 x1 _ from by repeat (first | (with_reducible exact HT0.out) | (with_reducible apply TagSt.drewN) | (with_reducible apply TagSt.drew))).mv.me).mono ?_); rintro e1 W1 ⟨rfl, hm1⟩; have HT1 := Aside0.mk ((show TagSt w g s start i v 1 name l x0 x1 _ from by repeat (first | (with_reducible exact HT0.out) | (with_reducible apply TagSt.drewN) | (with_reducible apply TagSt.drew))).moved hm1); clear hm1; obtain ⟨va1, f1a, f1b, f1c, f1d, f1e, f1f, f1g, f1h, f1i, f1j, f1k, f1l, ⟨A1, C1, rfl⟩, hb1, hR1⟩ := HT1.out.facts; have HB1 := Aside0.mk hb1; have HR1 := Aside0.mk hR1; clear hb1 hR1)
                        go_quiet (fail)
                        go_wp2_with (first | (go_at_call 54; (with_reducible refine (HG.out _ (by repeat (first | (with_reducible exact HT1.out.mv.me) | (with_reducible apply At.drewN) | (with_reducible apply At.drew)))).mono ?_); rintro en wn ⟨rfl, ⟨nd, rfl⟩⟩) | (go_at_call 54; (with_reducible refine (HSG.out _ (by repeat (first | (with_reducible exact HT1.out.mv.me) | (with_reducible apply At.drewN) | (with_reducible apply At.drew)))).mono ?_); rintro en wn ⟨rfl, ⟨nd, rfl⟩⟩))
                        go_quiet ((go_at_call 54; (with_reducible refine (HS.out _ (by repeat (first | (with_reducible exact HT1.out.mv.me) | (with_reducible apply At.drewN) | (with_reducible apply At.drew)))).mono ?_); rintro en wn ⟨rfl, ⟨nd, rfl⟩⟩; first | exact ⟨rfl, _, World.drewN_drewN _ _ _⟩ | exact ⟨rfl, _, (World.drewN_drewN _ _ _).trans (congrArg (World.drewN _) (Nat.add_assoc _ _ _))⟩))
                        go_wp2_with (go_at_call 54; (with_reducible refine (HS.out _ (by repeat (first | (with_reducible exact HT1.out.mv.me) | (with_reducible apply At.drewN) | (with_reducible apply At.drew)))).mono ?_); rintro en wn ⟨rfl, ⟨nd, rfl⟩⟩)
                        go_quiet ((go_at_call 128; (with_reducible refine (HPT.out _).mono ?_); rintro en wn ⟨rfl, ⟨nd, rfl⟩⟩; first | exact ⟨rfl, _, World.drewN_drewN _ _ _⟩ | exact ⟨rfl, _, (World.drewN_drewN _ _ _).trans (congrArg (World.drewN _) (Nat.add_assoc _ _ _))⟩))
                        go_wp2
                        go_quiet ((go_at_call 128; (with_reducible refine (HPT.out _).mono ?_); rintro en wn ⟨rfl, ⟨nd, rfl⟩⟩; first | exact ⟨rfl, _, World.drewN_drewN _ _ _⟩ | exact ⟨rfl, _, (World.drewN_drewN _ _ _).trans (congrArg (World.drewN _) (Nat.add_assoc _ _ _))⟩))
                        go_wp2_with (first | (go_at_call 127; (with_reducible refine (HW.out _ (show TagSt w g s start j v 1 name l x0 x1 _ from by repeat (first | (with_reducible exact HT1.out) | (with_reducible apply TagSt.drewN) | (with_reducible apply TagSt.drew))).mv.me).mono ?_); rintro e2 W2 ⟨rfl, hm2⟩; have HT2 := Aside0.mk ((show TagSt w g s start j v 1 name l x0 x1 _ from by repeat (first | (with_reducible exact HT1.out) | (with_reducible apply TagSt.drewN) | (with_reducible apply TagSt.drew))).moved hm2); clear hm2; obtain ⟨va2, f2a, f2b, f2c, f2d, f2e, f2f, f2g, f2h, f2i, f2j, f2k, f2l, ⟨A2, C2, rfl⟩, hb2, hR2⟩ := HT2.out.facts; have HB2 := Aside0.mk hb2; have HR2 := Aside0.mk hR2; clear hb2 hR2) | (go_at_call 89; (with_reducible refine (HBK2.out _ (show TagSt w g s start k v 1 name l (s.extract j k) x1 _ from by repeat (first | (with_reducible exact HT2.out) | (with_reducible apply TagSt.drewN) | (with_reducible apply TagSt.drew) | (with_reducible apply TagSt.setA0))).mv.me).mono ?_); rintro e3 W3 ⟨rfl, hm3⟩; have HT3 := Aside0.mk ((show TagSt w g s start k v 1 name l (s.extract j k) x1 _ from by repeat (first | (with_reducible exact HT2.out) | (with_reducible apply TagSt.drewN) | (with_reducible apply TagSt.drew) | (with_reducible apply TagSt.setA0))).moved hm3); clear hm3; obtain ⟨va3, f3a, f3b, f3c, f3d, f3e, f3f, f3g, f3h, f3i, f3j, f3k, f3l, ⟨A3, C3, rfl⟩, hb3, hR3⟩ := HT3.out.facts; have HB3 := Aside0.mk hb3; have HR3 := Aside0.mk hR3; clear hb3 hR3))
                        go_quiet (fail)
                        go_wp2_with (first | (go_at_call 54; (with_reducible refine (HE.out _ (by repeat (first | (with_reducible exact HT3.out.mv.me) | (with_reducible apply At.drewN) | (with_reducible apply At.drew)))).mono ?_); rintro en wn ⟨rfl, ⟨nd, rfl⟩⟩) | (go_at_call 89; (with_reducible refine (HBK3.out _ (show TagSt w g s start m1 v 1 name l (s.extract j k) x1 _ from by repeat (first | (with_reducible exact HT3.out) | (with_reducible apply TagSt.drewN) | (with_reducible apply TagSt.drew) | refine TagSt.setAt (i := m) ?_ (j := m1) rfl)).mv.me).mono ?_); rintro e4 W4 ⟨rfl, hm4⟩; have HT4 := Aside0.mk ((show TagSt w g s start m1 v 1 name l (s.extract j k) x1 _ from by repeat (first | (with_reducible exact HT3.out) | (with_reducible apply TagSt.drewN) | (with_reducible apply TagSt.drew) | refine TagSt.setAt (i := m) ?_ (j := m1) rfl)).moved hm4); clear hm4; obtain ⟨va4, f4a, f4b, f4c, f4d, f4e, f4f, f4g, f4h, f4i, f4j, f4k, f4l, ⟨A4, C4, rfl⟩, hb4, hR4⟩ := HT4.out.facts; have HB4 := Aside0.mk hb4; have HR4 := Aside0.mk hR4; clear hb4 hR4))
                        go_quiet (fail)
                        go_wp2
                        exact wp_goto ⟨0, by omega, ⟨rfl, rfl, rfl, rfl, rfl⟩, ⟨p, l, _, x1, HT4.out.drewN _, rfl⟩⟩
                      · rw [if_neg hpe] at hr
                        have n6 : (p == s.size) = false := beq_eq_false_iff_ne.mpr hpe
                        have hps : p < s.size := by omega
                        clear hpe
                        by_cases hbq : nextB s p sQ = false ∧ nextB s p sA = false
                        · rw [if_pos hbq] at hr
                          simp only [Option.bind_some] at hr
                          obtain rfl := Option.some.inj hr
                          rw [hbq.1] at HQ
                          rw [hbq.2] at HA
                          clear hr hbq
                          show Code.wp _ (Code.seq _ _) _ _ _
                          go_wp2_with (go_at_call 89; (with_reducible refine (HBK0.out _ (show TagSt w g s start i v 1 name l x0 x1 _ from by repeat (first | (with_reducible exact HT0.out) | (with_reducible apply TagSt.drewN) | (with_reducible apply TagSt.drew))).mv.me).mono ?_); rintro e1 W1 ⟨rfl, hm1⟩; have HT1 := Aside0.mk ((show TagSt w g s start i v 1 name l x0 x1 _ from by repeat (first | (with_reducible exact HT0.out) | (with_reducible apply TagSt.drewN) | (with_reducible apply TagSt.drew))).moved hm1); clear hm1; obtain ⟨va1, f1a, f1b, f1c, f1d, f1e, f1f, f1g, f1h, f1i, f1j, f1k, f1l, ⟨A1, C1, rfl⟩, hb1, hR1⟩ := HT1.out.facts; have HB1 := Aside0.mk hb1; have HR1 := Aside0.mk hR1; clear hb1 hR1)
                          go_quiet (fail)
                          go_wp2_with (first | (go_at_call 54; (with_reducible refine (HG.out _ (by repeat (first | (with_reducible exact HT1.out.mv.me) | (with_reducible apply At.drewN) | (with_reducible apply At.drew)))).mono ?_); rintro en wn ⟨rfl, ⟨nd, rfl⟩⟩) | (go_at_call 54; (with_reducible refine (HSG.out _ (by repeat (first | (with_reducible exact HT1.out.mv.me) | (with_reducible apply At.drewN) | (with_reducible apply At.drew)))).mono ?_); rintro en wn ⟨rfl, ⟨nd, rfl⟩⟩))
                          go_quiet ((go_at_call 54; (with_reducible refine (HS.out _ (by repeat (first | (with_reducible exact HT1.out.mv.me) | (with_reducible apply At.drewN) | (with_reducible apply At.drew)))).mono ?_); rintro en wn ⟨rfl, ⟨nd, rfl⟩⟩; first | exact ⟨rfl, _, World.drewN_drewN _ _ _⟩ | exact ⟨rfl, _, (World.drewN_drewN _ _ _).trans (congrArg (World.drewN _) (Nat.add_assoc _ _ _))⟩))
                          go_wp2_with (go_at_call 54; (with_reducible refine (HS.out _ (by repeat (first | (with_reducible exact HT1.out.mv.me) | (with_reducible apply At.drewN) | (with_reducible apply At.drew)))).mono ?_); rintro en wn ⟨rfl, ⟨nd, rfl⟩⟩)
                          go_quiet ((go_at_call 128; (with_reducible refine (HPT.out _).mono ?_); rintro en wn ⟨rfl, ⟨nd, rfl⟩⟩; first | exact ⟨rfl, _, World.drewN_drewN _ _ _⟩ | exact ⟨rfl, _, (World.drewN_drewN _ _ _).trans (congrArg (World.drewN _) (Nat.add_assoc _ _ _))⟩))
                          go_wp2
                          go_quiet ((go_at_call 128; (with_reducible refine (HPT.out _).mono ?_); rintro en wn ⟨rfl, ⟨nd, rfl⟩⟩; first | exact ⟨rfl, _, World.drewN_drewN _ _ _⟩ | exact ⟨rfl, _, (World.drewN_drewN _ _ _).trans (congrArg (World.drewN _) (Nat.add_assoc _ _ _))⟩))
                          go_wp2_with (first | (go_at_call 127; (with_reducible refine (HW.out _ (show TagSt w g s start j v 1 name l x0 x1 _ from by repeat (first | (with_reducible exact HT1.out) | (with_reducible apply TagSt.drewN) | (with_reducible apply TagSt.drew))).mv.me).mono ?_); rintro e2 W2 ⟨rfl, hm2⟩; have HT2 := Aside0.mk ((show TagSt w g s start j v 1 name l x0 x1 _ from by repeat (first | (with_reducible exact HT1.out) | (with_reducible apply TagSt.drewN) | (with_reducible apply TagSt.drew))).moved hm2); clear hm2; obtain ⟨va2, f2a, f2b, f2c, f2d, f2e, f2f, f2g, f2h, f2i, f2j, f2k, f2l, ⟨A2, C2, rfl⟩, hb2, hR2⟩ := HT2.out.facts; have HB2 := Aside0.mk hb2; have HR2 := Aside0.mk hR2; clear hb2 hR2) | (go_at_call 89; (with_reducible refine (HBK2.out _ (show TagSt w g s start k v 1 name l (s.extract j k) x1 _ from by repeat (first | (with_reducible exact HT2.out) | (with_reducible apply TagSt.drewN) | (with_reducible apply TagSt.drew) | (with_reducible apply TagSt.setA0))).mv.me).mono ?_); rintro e3 W3 ⟨rfl, hm3⟩; have HT3 := Aside0.mk ((show TagSt w g s start k v 1 name l (s.extract j k) x1 _ from by repeat (first | (with_reducible exact HT2.out) | (with_reducible apply TagSt.drewN) | (with_reducible apply TagSt.drew) | (with_reducible apply TagSt.setA0))).moved hm3); clear hm3; obtain ⟨va3, f3a, f3b, f3c, f3d, f3e, f3f, f3g, f3h, f3i, f3j, f3k, f3l, ⟨A3, C3, rfl⟩, hb3, hR3⟩ := HT3.out.facts; have HB3 := Aside0.mk hb3; have HR3 := Aside0.mk hR3; clear hb3 hR3))
                          go_quiet (fail)
                          go_wp2_with (first | (go_at_call 54; (with_reducible refine (HE.out _ (by repeat (first | (with_reducible exact HT3.out.mv.me) | (with_reducible apply At.drewN) | (with_reducible apply At.drew)))).mono ?_); rintro en wn ⟨rfl, ⟨nd, rfl⟩⟩) | (go_at_call 89; (with_reducible refine (HBK3.out _ (show TagSt w g s start m1 v 1 name l (s.extract j k) x1 _ from by repeat (first | (with_reducible exact HT3.out) | (with_reducible apply TagSt.drewN) | (with_reducible apply TagSt.drew) | refine TagSt.setAt (i := m) ?_ (j := m1) rfl)).mv.me).mono ?_); rintro e4 W4 ⟨rfl, hm4⟩; have HT4 := Aside0.mk ((show TagSt w g s start m1 v 1 name l (s.extract j k) x1 _ from by repeat (first | (with_reducible exact HT3.out) | (with_reducible apply TagSt.drewN) | (with_reducible apply TagSt.drew) | refine TagSt.setAt (i := m) ?_ (j := m1) rfl)).moved hm4); clear hm4; obtain ⟨va4, f4a, f4b, f4c, f4d, f4e, f4f, f4g, f4h, f4i, f4j, f4k, f4l, ⟨A4, C4, rfl⟩, hb4, hR4⟩ := HT4.out.facts; have HB4 := Aside0.mk hb4; have HR4 := Aside0.mk hR4; clear hb4 hR4))
                          go_quiet (fail)
                          go_wp2_with (first | (go_at_call 54; (with_reducible refine (HQ.out _ (by repeat (first | (with_reducible exact HT4.out.mv.me) | (with_reducible apply At.drewN) | (with_reducible apply At.drew)))).mono ?_); rintro en wn ⟨rfl, ⟨nd, rfl⟩⟩) | (go_at_call 54; (with_reducible refine (HA.out _ (by repeat (first | (with_reducible exact HT4.out.mv.me) | (with_reducible apply At.drewN) | (with_reducible apply At.drew)))).mono ?_); rintro en wn ⟨rfl, ⟨nd, rfl⟩⟩))
                          exact wp_goto ⟨0, by omega, ⟨rfl, rfl, rfl, rfl, rfl⟩, ⟨p, l, _, x1, by repeat (first | (with_reducible exact HT4.out) | (with_reducible apply TagSt.drewN)), rfl⟩⟩
                        · rw [if_neg hbq] at hr
                          cases hv : valueS s start p with
                          | none => rw [hv] at hr; cases hr
                          | some rv =>
                            rw [hv] at hr
                            simp only [Option.map_some, Option.bind_some] at hr
                            have HVA := Aside0.mk (fun (W : World) (h : At W g s p v) (hm : ML W) => value_calls g s start p v W rv h hm hgm hps hs hv)
                            cases rv with
                            | error pp =>
                              obtain ⟨pa, pc⟩ := pp
                              simp only at hr
                              obtain rfl := Option.some.inj hr
                              clear hr hv
                              cases hb5 : nextB s p sQ with
                              | true =>
                                rw [hb5] at HQ
                                clear hbq hb5
                                show Code.wp _ (Code.seq _ _) _ _ _
                                go_wp2_with (go_at_call 89; (with_reducible refine (HBK0.out _ (show TagSt w g s start i v 1 name l x0 x1 _ from by repeat (first | (with_reducible exact HT0.out) | (with_reducible apply TagSt.drewN) | (with_reducible apply TagSt.drew))).mv.me).mono ?_); rintro e1 W1 ⟨rfl, hm1⟩; have HT1 := Aside0.mk ((show TagSt w g s start i v 1 name l x0 x1 _ from by repeat (first | (with_reducible exact HT0.out) | (with_reducible apply TagSt.drewN) | (with_reducible apply TagSt.drew))).moved hm1); clear hm1; obtain ⟨va1, f1a, f1b, f1c, f1d, f1e, f1f, f1g, f1h, f1i, f1j, f1k, f1l, ⟨A1, C1, rfl⟩, hb1, hR1⟩ := HT1.out.facts; have HB1 := Aside0.mk hb1; have HR1 := Aside0.mk hR1; clear hb1 hR1)
                                go_quiet (fail)
                                go_wp2_with (first | (go_at_call 54; (with_reducible refine (HG.out _ (by repeat (first | (with_reducible exact HT1.out.mv.me) | (with_reducible apply At.drewN) | (with_reducible apply At.drew)))).mono ?_); rintro en wn ⟨rfl, ⟨nd, rfl⟩⟩) | (go_at_call 54; (with_reducible refine (HSG.out _ (by repeat (first | (with_reducible exact HT1.out.mv.me) | (with_reducible apply At.drewN) | (with_reducible apply At.drew)))).mono ?_); rintro en wn ⟨rfl, ⟨nd, rfl⟩⟩))
                                go_quiet ((go_at_call 54; (with_reducible refine (HS.out _ (by repeat (first | (with_reducible exact HT1.out.mv.me) | (with_reducible apply At.drewN) | (with_reducible apply At.drew)))).mono ?_); rintro en wn ⟨rfl, ⟨nd, rfl⟩⟩; first | exact ⟨rfl, _, World.drewN_drewN _ _ _⟩ | exact ⟨rfl, _, (World.drewN_drewN _ _ _).trans (congrArg (World.drewN _) (Nat.add_assoc _ _ _))⟩))
                                go_wp2_with (go_at_call 54; (with_reducible refine (HS.out _ (by repeat (first | (with_reducible exact HT1.out.mv.me) | (with_reducible apply At.drewN) | (with_reducible apply At.drew)))).mono ?_); rintro en wn ⟨rfl, ⟨nd, rfl⟩⟩)
                                go_quiet ((go_at_call 128; (with_reducible refine (HPT.out _).mono ?_); rintro en wn ⟨rfl, ⟨nd, rfl⟩⟩; first | exact ⟨rfl, _, World.drewN_drewN _ _ _⟩ | exact ⟨rfl, _, (World.drewN_drewN _ _ _).trans (congrArg (World.drewN _) (Nat.add_assoc _ _ _))⟩))
                                go_wp2
                                go_quiet ((go_at_call 128; (with_reducible refine (HPT.out _).mono ?_); rintro en wn ⟨rfl, ⟨nd, rfl⟩⟩; first | exact ⟨rfl, _, World.drewN_drewN _ _ _⟩ | exact ⟨rfl, _, (World.drewN_drewN _ _ _).trans (congrArg (World.drewN _) (Nat.add_assoc _ _ _))⟩))
                                go_wp2_with (first | (go_at_call 127; (with_reducible refine (HW.out _ (show TagSt w g s start j v 1 name l x0 x1 _ from by repeat (first | (with_reducible exact HT1.out) | (with_reducible apply TagSt.drewN) | (with_reducible apply TagSt.drew))).mv.me).mono ?_); rintro e2 W2 ⟨rfl, hm2⟩; have HT2 := Aside0.mk ((show TagSt w g s start j v 1 name l x0 x1 _ from by repeat (first | (with_reducible exact HT1.out) | (with_reducible apply TagSt.drewN) | (with_reducible apply TagSt.drew))).moved hm2); clear hm2; obtain ⟨va2, f2a, f2b, f2c, f2d, f2e, f2f, f2g, f2h, f2i, f2j, f2k, f2l, ⟨A2, C2, rfl⟩, hb2, hR2⟩ := HT2.out.facts; have HB2 := Aside0.mk hb2; have HR2 := Aside0.mk hR2; clear hb2 hR2) | (go_at_call 89; (with_reducible refine (HBK2.out _ (show TagSt w g s start k v 1 name l (s.extract j k) x1 _ from by repeat (first | (with_reducible exact HT2.out) | (with_reducible apply TagSt.drewN) | (with_reducible apply TagSt.drew) | (with_reducible apply TagSt.setA0))).mv.me).mono ?_); rintro e3 W3 ⟨rfl, hm3⟩; have HT3 := Aside0.mk ((show TagSt w g s start k v 1 name l (s.extract j k) x1 _ from by repeat (first | (with_reducible exact HT2.out) | (with_reducible apply TagSt.drewN) | (with_reducible apply TagSt.drew) | (with_reducible apply TagSt.setA0))).moved hm3); clear hm3; obtain ⟨va3, f3a, f3b, f3c, f3d, f3e, f3f, f3g, f3h, f3i, f3j, f3k, f3l, ⟨A3, C3, rfl⟩, hb3, hR3⟩ := HT3.out.facts; have HB3 := Aside0.mk hb3; have HR3 := Aside0.mk hR3; clear hb3 hR3))
                                go_quiet (fail)
                                go_wp2_with (first | (go_at_call 54; (with_reducible refine (HE.out _ (by repeat (first | (with_reducible exact HT3.out.mv.me) | (with_reducible apply At.drewN) | (with_reducible apply At.drew)))).mono ?_); rintro en wn ⟨rfl, ⟨nd, rfl⟩⟩) | (go_at_call 89; (with_reducible refine (HBK3.out _ (show TagSt w g s start m1 v 1 name l (s.extract j k) x1 _ from by repeat (first | (with_reducible exact HT3.out) | (with_reducible apply TagSt.drewN) | (with_reducible apply TagSt.drew) | refine TagSt.setAt (i := m) ?_ (j := m1) rfl)).mv.me).mono ?_); rintro e4 W4 ⟨rfl, hm4⟩; have HT4 := Aside0.mk ((show TagSt w g s start m1 v 1 name l (s.extract j k) x1 _ from by repeat (first | (with_reducible exact HT3.out) | (with_reducible apply TagSt.drewN) | (with_reducible apply TagSt.drew) | refine TagSt.setAt (i := m) ?_ (j := m1) rfl)).moved hm4); clear hm4; obtain ⟨va4, f4a, f4b, f4c, f4d, f4e, f4f, f4g, f4h, f4i, f4j, f4k, f4l, ⟨A4, C4, rfl⟩, hb4, hR4⟩ := HT4.out.facts; have HB4 := Aside0.mk hb4; have HR4 := Aside0.mk hR4; clear hb4 hR4))
                                go_quiet (fail)
                                go_wp2_with (first | (go_at_call 54; (with_reducible refine (HQ.out _ (by repeat (first | (with_reducible exact HT4.out.mv.me) | (with_reducible apply At.drewN) | (with_reducible apply At.drew)))).mono ?_); rintro en wn ⟨rfl, ⟨nd, rfl⟩⟩) | (go_at_call 129; (with_reducible refine (HVA.out _ (show TagSt w g s start p v 1 name l (s.extract j k) x1 _ from by repeat (first | (with_reducible exact HT4.out) | (with_reducible apply TagSt.drewN) | (with_reducible apply TagSt.drew))).mv.me (Moved.ml (show TagSt w g s start p v 1 name l (s.extract j k) x1 _ from by repeat (first | (with_reducible exact HT4.out) | (with_reducible apply TagSt.drewN) | (with_reducible apply TagSt.drew))).mv HML.out hgm)).mono ?_); rintro e5 W5 ⟨hgu, jj, hm5⟩; unfold gaveUp at hgu; subst hgu; have HT5 := Aside0.mk ((show TagSt w g s start p v 1 name l (s.extract j k) x1 _ from by repeat (first | (with_reducible exact HT4.out) | (with_reducible apply TagSt.drewN) | (with_reducible apply TagSt.drew))).moved hm5); clear hm5))
                                exact ⟨rfl, rfl, HT5.out.mv.belowB HB.out hlt⟩
                              | false =>
                                have hb6 : nextB s p sA = true := by
                                  cases h6 : nextB s p sA with
                                  | true => rfl
                                  | false => exact absurd ⟨hb5, h6⟩ hbq
                                rw [hb5] at HQ
                                rw [hb6] at HA
                                clear hbq hb5 hb6
                                show Code.wp _ (Code.seq _ _) _ _ _
                                go_wp2_with (go_at_call 89; (with_reducible refine (HBK0.out _ (show TagSt w g s start i v 1 name l x0 x1 _ from by repeat (first | (with_reducible exact HT0.out) | (with_reducible apply TagSt.drewN) | (with_reducible apply TagSt.drew))).mv.me).mono ?_); rintro e1 W1 ⟨rfl, hm1⟩; have HT1 := Aside0.mk ((show TagSt w g s start i v 1 name l x0 x1 _ from by repeat (first | (with_reducible exact HT0.out) | (with_reducible apply TagSt.drewN) | (with_reducible apply TagSt.drew))).moved hm1); clear hm1; obtain ⟨va1, f1a, f1b, f1c, f1d, f1e, f1f, f1g, f1h, f1i, f1j, f1k, f1l, ⟨A1, C1, rfl⟩, hb1, hR1⟩ := HT1.out.facts; have HB1 := Aside0.mk hb1; have HR1 := Aside0.mk hR1; clear hb1 hR1)
                                go_quiet (fail)
                                go_wp2_with (first | (go_at_call 54; (with_reducible refine (HG.out _ (by repeat (first | (with_reducible exact HT1.out.mv.me) | (with_reducible apply At.drewN) | (with_reducible apply At.drew)))).mono ?_); rintro en wn ⟨rfl, ⟨nd, rfl⟩⟩) | (go_at_call 54; (with_reducible refine (HSG.out _ (by repeat (first | (with_reducible exact HT1.out.mv.me) | (with_reducible apply At.drewN) | (with_reducible apply At.drew)))).mono ?_); rintro en wn ⟨rfl, ⟨nd, rfl⟩⟩))
                                go_quiet ((go_at_call 54; (with_reducible refine (HS.out _ (by repeat (first | (with_reducible exact HT1.out.mv.me) | (with_reducible apply At.drewN) | (with_reducible apply At.drew)))).mono ?_); rintro en wn ⟨rfl, ⟨nd, rfl⟩⟩; first | exact ⟨rfl, _, World.drewN_drewN _ _ _⟩ | exact ⟨rfl, _, (World.drewN_drewN _ _ _).trans (congrArg (World.drewN _) (Nat.add_assoc _ _ _))⟩))
                                go_wp2_with (go_at_call 54; (with_reducible refine (HS.out _ (by repeat (first | (with_reducible exact HT1.out.mv.me) | (with_reducible apply At.drewN) | (with_reducible apply At.drew)))).mono ?_); rintro en wn ⟨rfl, ⟨nd, rfl⟩⟩)
                                go_quiet ((go_at_call 128; (with_reducible refine (HPT.out _).mono ?_); rintro en wn ⟨rfl, ⟨nd, rfl⟩⟩; first | exact ⟨rfl, _, World.drewN_drewN _ _ _⟩ | exact ⟨rfl, _, (World.drewN_drewN _ _ _).trans (congrArg (World.drewN _) (Nat.add_assoc _ _ _))⟩))
                                go_wp2
                                go_quiet ((go_at_call 128; (with_reducible refine (HPT.out _).mono ?_); rintro en wn ⟨rfl, ⟨nd, rfl⟩⟩; first | exact ⟨rfl, _, World.drewN_drewN _ _ _⟩ | exact ⟨rfl, _, (World.drewN_drewN _ _ _).trans (congrArg (World.drewN _) (Nat.add_assoc _ _ _))⟩))
                                go_wp2_with (first | (go_at_call 127; (with_reducible refine (HW.out _ (show TagSt w g s start j v 1 name l x0 x1 _ from by repeat (first | (with_reducible exact HT1.out) | (with_reducible apply TagSt.drewN) | (with_reducible apply TagSt.drew))).mv.me).mono ?_); rintro e2 W2 ⟨rfl, hm2⟩; have HT2 := Aside0.mk ((show TagSt w g s start j v 1 name l x0 x1 _ from by repeat (first | (with_reducible exact HT1.out) | (with_reducible apply TagSt.drewN) | (with_reducible apply TagSt.drew))).moved hm2); clear hm2; obtain ⟨va2, f2a, f2b, f2c, f2d, f2e, f2f, f2g, f2h, f2i, f2j, f2k, f2l, ⟨A2, C2, rfl⟩, hb2, hR2⟩ := HT2.out.facts; have HB2 := Aside0.mk hb2; have HR2 := Aside0.mk hR2; clear hb2 hR2) | (go_at_call 89; (with_reducible refine (HBK2.out _ (show TagSt w g s start k v 1 name l (s.extract j k) x1 _ from by repeat (first | (with_reducible exact HT2.out) | (with_reducible apply TagSt.drewN) | (with_reducible apply TagSt.drew) | (with_reducible apply TagSt.setA0))).mv.me).mono ?_); rintro e3 W3 ⟨rfl, hm3⟩; have HT3 := Aside0.mk ((show TagSt w g s start k v 1 name l (s.extract j k) x1 _ from by repeat (first | (with_reducible exact HT2.out) | (with_reducible apply TagSt.drewN) | (with_reducible apply TagSt.drew) | (with_reducible apply TagSt.setA0))).moved hm3); clear hm3; obtain ⟨va3, f3a, f3b, f3c, f3d, f3e, f3f, f3g, f3h, f3i, f3j, f3k, f3l, ⟨A3, C3, rfl⟩, hb3, hR3⟩ := HT3.out.facts; have HB3 := Aside0.mk hb3; have HR3 := Aside0.mk hR3; clear hb3 hR3))
                                go_quiet (fail)
                                go_wp2_with (first | (go_at_call 54; (with_reducible refine (HE.out _ (by repeat (first | (with_reducible exact HT3.out.mv.me) | (with_reducible apply At.drewN) | (with_reducible apply At.drew)))).mono ?_); rintro en wn ⟨rfl, ⟨nd, rfl⟩⟩) | (go_at_call 89; (with_reducible refine (HBK3.out _ (show TagSt w g s start m1 v 1 name l (s.extract j k) x1 _ from by repeat (first | (with_reducible exact HT3.out) | (with_reducible apply TagSt.drewN) | (with_reducible apply TagSt.drew) | refine TagSt.setAt (i := m) ?_ (j := m1) rfl)).mv.me).mono ?_); rintro e4 W4 ⟨rfl, hm4⟩; have HT4 := Aside0.mk ((show TagSt w g s start m1 v 1 name l (s.extract j k) x1 _ from by repeat (first | (with_reducible exact HT3.out) | (with_reducible apply TagSt.drewN) | (with_reducible apply TagSt.drew) | refine TagSt.setAt (i := m) ?_ (j := m1) rfl)).moved hm4); clear hm4; obtain ⟨va4, f4a, f4b, f4c, f4d, f4e, f4f, f4g, f4h, f4i, f4j, f4k, f4l, ⟨A4, C4, rfl⟩, hb4, hR4⟩ := HT4.out.facts; have HB4 := Aside0.mk hb4; have HR4 := Aside0.mk hR4; clear hb4 hR4))
                                go_quiet (fail)
                                go_wp2_with (first | (go_at_call 54; (with_reducible refine (HQ.out _ (by repeat (first | (with_reducible exact HT4.out.mv.me) | (with_reducible apply At.drewN) | (with_reducible apply At.drew)))).mono ?_); rintro en wn ⟨rfl, ⟨nd, rfl⟩⟩) | (go_at_call 54; (with_reducible refine (HA.out _ (by repeat (first | (with_reducible exact HT4.out.mv.me) | (with_reducible apply At.drewN) | (with_reducible apply At.drew)))).mono ?_); rintro en wn ⟨rfl, ⟨nd, rfl⟩⟩) | (go_at_call 129; (with_reducible refine (HVA.out _ (show TagSt w g s start p v 1 name l (s.extract j k) x1 _ from by repeat (first | (with_reducible exact HT4.out) | (with_reducible apply TagSt.drewN) | (with_reducible apply TagSt.drew))).mv.me (Moved.ml (show TagSt w g s start p v 1 name l (s.extract j k) x1 _ from by repeat (first | (with_reducible exact HT4.out) | (with_reducible apply TagSt.drewN) | (with_reducible apply TagSt.drew))).mv HML.out hgm)).mono ?_); rintro e5 W5 ⟨hgu, jj, hm5⟩; unfold gaveUp at hgu; subst hgu; have HT5 := Aside0.mk ((show TagSt w g s start p v 1 name l (s.extract j k) x1 _ from by repeat (first | (with_reducible exact HT4.out) | (with_reducible apply TagSt.drewN) | (with_reducible apply TagSt.drew))).moved hm5); clear hm5))
                                exact ⟨rfl, rfl, HT5.out.mv.belowB HB.out hlt⟩
                            | ok uq =>
                              obtain ⟨u, q⟩ := uq
                              have hqs := valueS_le hv
                              have HR := Aside0.mk hr
                              clear hr hv
                              cases hb5 : nextB s p sQ with
                              | true =>
                                rw [hb5] at HQ
                                clear hbq hb5
                                show Code.wp _ (Code.seq _ _) _ _ _
                                go_wp2_with (go_at_call 89; (with_reducible refine (HBK0.out _ (show TagSt w g s start i v 1 name l x0 x1 _ from by repeat (first | (with_reducible exact HT0.out) | (with_reducible apply TagSt.drewN) | (with_reducible apply TagSt.drew))).mv.me).mono ?_); rintro e1 W1 ⟨rfl, hm1⟩; have HT1 := Aside0.mk ((show TagSt w g s start i v 1 name l x0 x1 _ from by repeat (first | (with_reducible exact HT0.out) | (with_reducible apply TagSt.drewN) | (with_reducible apply TagSt.drew))).moved hm1); clear hm1; obtain ⟨va1, f1a, f1b, f1c, f1d, f1e, f1f, f1g, f1h, f1i, f1j, f1k, f1l, ⟨A1, C1, rfl⟩, hb1, hR1⟩ := HT1.out.facts; have HB1 := Aside0.mk hb1; have HR1 := Aside0.mk hR1; clear hb1 hR1)
                                go_quiet (fail)
                                go_wp2_with (first | (go_at_call 54; (with_reducible refine (HG.out _ (by repeat (first | (with_reducible exact HT1.out.mv.me) | (with_reducible apply At.drewN) | (with_reducible apply At.drew)))).mono ?_); rintro en wn ⟨rfl, ⟨nd, rfl⟩⟩) | (go_at_call 54; (with_reducible refine (HSG.out _ (by repeat (first | (with_reducible exact HT1.out.mv.me) | (with_reducible apply At.drewN) | (with_reducible apply At.drew)))).mono ?_); rintro en wn ⟨rfl, ⟨nd, rfl⟩⟩))
                                go_quiet ((go_at_call 54; (with_reducible refine (HS.out _ (by repeat (first | (with_reducible exact HT1.out.mv.me) | (with_reducible apply At.drewN) | (with_reducible apply At.drew)))).mono ?_); rintro en wn ⟨rfl, ⟨nd, rfl⟩⟩; first | exact ⟨rfl, _, World.drewN_drewN _ _ _⟩ | exact ⟨rfl, _, (World.drewN_drewN _ _ _).trans (congrArg (World.drewN _) (Nat.add_assoc _ _ _))⟩))
                                go_wp2_with (go_at_call 54; (with_reducible refine (HS.out _ (by repeat (first | (with_reducible exact HT1.out.mv.me) | (with_reducible apply At.drewN) | (with_reducible apply At.drew)))).mono ?_); rintro en wn ⟨rfl, ⟨nd, rfl⟩⟩)
                                go_quiet ((go_at_call 128; (with_reducible refine (HPT.out _).mono ?_); rintro en wn ⟨rfl, ⟨nd, rfl⟩⟩; first | exact ⟨rfl, _, World.drewN_drewN _ _ _⟩ | exact ⟨rfl, _, (World.drewN_drewN _ _ _).trans (congrArg (World.drewN _) (Nat.add_assoc _ _ _))⟩))
                                go_wp2
                                go_quiet ((go_at_call 128; (with_reducible refine (HPT.out _).mono ?_); rintro en wn ⟨rfl, ⟨nd, rfl⟩⟩; first | exact ⟨rfl, _, World.drewN_drewN _ _ _⟩ | exact ⟨rfl, _, (World.drewN_drewN _ _ _).trans (congrArg (World.drewN _) (Nat.add_assoc _ _ _))⟩))
                                go_wp2_with (first | (go_at_call 127; (with_reducible refine (HW.out _ (show TagSt w g s start j v 1 name l x0 x1 _ from by repeat (first | (with_reducible exact HT1.out) | (with_reducible apply TagSt.drewN) | (with_reducible apply TagSt.drew))).mv.me).mono ?_); rintro e2 W2 ⟨rfl, hm2⟩; have HT2 := Aside0.mk ((show TagSt w g s start j v 1 name l x0 x1 _ from by repeat (first | (with_reducible exact HT1.out) | (with_reducible apply TagSt.drewN) | (with_reducible apply TagSt.drew))).moved hm2); clear hm2; obtain ⟨va2, f2a, f2b, f2c, f2d, f2e, f2f, f2g, f2h, f2i, f2j, f2k, f2l, ⟨A2, C2, rfl⟩, hb2, hR2⟩ := HT2.out.facts; have HB2 := Aside0.mk hb2; have HR2 := Aside0.mk hR2; clear hb2 hR2) | (go_at_call 89; (with_reducible refine (HBK2.out _ (show TagSt w g s start k v 1 name l (s.extract j k) x1 _ from by repeat (first | (with_reducible exact HT2.out) | (with_reducible apply TagSt.drewN) | (with_reducible apply TagSt.drew) | (with_reducible apply TagSt.setA0))).mv.me).mono ?_); rintro e3 W3 ⟨rfl, hm3⟩; have HT3 := Aside0.mk ((show TagSt w g s start k v 1 name l (s.extract j k) x1 _ from by repeat (first | (with_reducible exact HT2.out) | (with_reducible apply TagSt.drewN) | (with_reducible apply TagSt.drew) | (with_reducible apply TagSt.setA0))).moved hm3); clear hm3; obtain ⟨va3, f3a, f3b, f3c, f3d, f3e, f3f, f3g, f3h, f3i, f3j, f3k, f3l, ⟨A3, C3, rfl⟩, hb3, hR3⟩ := HT3.out.facts; have HB3 := Aside0.mk hb3; have HR3 := Aside0.mk hR3; clear hb3 hR3))
                                go_quiet (fail)
                                go_wp2_with (first | (go_at_call 54; (with_reducible refine (HE.out _ (by repeat (first | (with_reducible exact HT3.out.mv.me) | (with_reducible apply At.drewN) | (with_reducible apply At.drew)))).mono ?_); rintro en wn ⟨rfl, ⟨nd, rfl⟩⟩) | (go_at_call 89; (with_reducible refine (HBK3.out _ (show TagSt w g s start m1 v 1 name l (s.extract j k) x1 _ from by repeat (first | (with_reducible exact HT3.out) | (with_reducible apply TagSt.drewN) | (with_reducible apply TagSt.drew) | refine TagSt.setAt (i := m) ?_ (j := m1) rfl)).mv.me).mono ?_); rintro e4 W4 ⟨rfl, hm4⟩; have HT4 := Aside0.mk ((show TagSt w g s start m1 v 1 name l (s.extract j k) x1 _ from by repeat (first | (with_reducible exact HT3.out) | (with_reducible apply TagSt.drewN) | (with_reducible apply TagSt.drew) | refine TagSt.setAt (i := m) ?_ (j := m1) rfl)).moved hm4); clear hm4; obtain ⟨va4, f4a, f4b, f4c, f4d, f4e, f4f, f4g, f4h, f4i, f4j, f4k, f4l, ⟨A4, C4, rfl⟩, hb4, hR4⟩ := HT4.out.facts; have HB4 := Aside0.mk hb4; have HR4 := Aside0.mk hR4; clear hb4 hR4))
                                go_quiet (fail)
                                go_wp2_with (first | (go_at_call 54; (with_reducible refine (HQ.out _ (by repeat (first | (with_reducible exact HT4.out.mv.me) | (with_reducible apply At.drewN) | (with_reducible apply At.drew)))).mono ?_); rintro en wn ⟨rfl, ⟨nd, rfl⟩⟩) | (go_at_call 129; (with_reducible refine (HVA.out _ (show TagSt w g s start p v 1 name l (s.extract j k) x1 _ from by repeat (first | (with_reducible exact HT4.out) | (with_reducible apply TagSt.drewN) | (with_reducible apply TagSt.drew))).mv.me (Moved.ml (show TagSt w g s start p v 1 name l (s.extract j k) x1 _ from by repeat (first | (with_reducible exact HT4.out) | (with_reducible apply TagSt.drewN) | (with_reducible apply TagSt.drew))).mv HML.out hgm)).mono ?_); rintro e5 W5 ⟨rfl, hm5⟩; have HT5 := Aside0.mk ((show TagSt w g s start p v 1 name l (s.extract j k) x1 _ from by repeat (first | (with_reducible exact HT4.out) | (with_reducible apply TagSt.drewN) | (with_reducible apply TagSt.drew))).moved hm5); clear hm5; obtain ⟨va5, f5a, f5b, f5c, f5d, f5e, f5f, f5g, f5h, f5i, f5j, f5k, f5l, ⟨A5, C5, rfl⟩, hb5, hR5⟩ := HT5.out.facts; have HB5 := Aside0.mk hb5; have HR5 := Aside0.mk hR5; clear hb5 hR5) | (at_builtin; refine push_raw1 (w := w) (g := g) (s := s) (start := start) (i := q) (v := v) (kind := 1) (name := name) (l := l) (x0 := (s.extract j k)) (x1 := x1) (s.extract j k) u rfl (.tmp 173) (.tmp 175) rfl rfl (by first | rfl | (go_simp; done) | (go_simp; rfl)) (by omega) HT5.out HB5.out HR5.out ?_; intro A' m' c' W6 hb6 ht6; have HT6 := Aside0.mk ht6; have h6a : W6.cell? ⟨w.heap.size, 3, none⟩ = _ := (blk_cell hb6 3).trans rfl; have h6b := blk_frozen hb6 3; clear ht6 hb6))
                                exact wp_goto ⟨d, by omega, ⟨rfl, rfl, rfl, rfl, rfl⟩, ⟨q, _, _, _, HT6.out, hqs, by simp; omega, HR.out⟩⟩
                              | false =>
                                have hb6 : nextB s p sA = true := by
                                  cases h6 : nextB s p sA with
                                  | true => rfl
                                  | false => exact absurd ⟨hb5, h6⟩ hbq
                                rw [hb5] at HQ
                                rw [hb6] at HA
                                clear hbq hb5 hb6
                                show Code.wp _ (Code.seq _ _) _ _ _
                                go_wp2_with (go_at_call 89; (with_reducible refine (HBK0.out _ (show TagSt w g s start i v 1 name l x0 x1 _ from by repeat (first | (with_reducible exact HT0.out) | (with_reducible apply TagSt.drewN) | (with_reducible apply TagSt.drew))).mv.me).mono ?_); rintro e1 W1 ⟨rfl, hm1⟩; have HT1 := Aside0.mk ((show TagSt w g s start i v 1 name l x0 x1 _ from by repeat (first | (with_reducible exact HT0.out) | (with_reducible apply TagSt.drewN) | (with_reducible apply TagSt.drew))).moved hm1); clear hm1; obtain ⟨va1, f1a, f1b, f1c, f1d, f1e, f1f, f1g, f1h, f1i, f1j, f1k, f1l, ⟨A1, C1, rfl⟩, hb1, hR1⟩ := HT1.out.facts; have HB1 := Aside0.mk hb1; have HR1 := Aside0.mk hR1; clear hb1 hR1)
                                go_quiet (fail)
                                go_wp2_with (first | (go_at_call 54; (with_reducible refine (HG.out _ (by repeat (first | (with_reducible exact HT1.out.mv.me) | (with_reducible apply At.drewN) | (with_reducible apply At.drew)))).mono ?_); rintro en wn ⟨rfl, ⟨nd, rfl⟩⟩) | (go_at_call 54; (with_reducible refine (HSG.out _ (by repeat (first | (with_reducible exact HT1.out.mv.me) | (with_reducible apply At.drewN) | (with_reducible apply At.drew)))).mono ?_); rintro en wn ⟨rfl, ⟨nd, rfl⟩⟩))
                                go_quiet ((go_at_call 54; (with_reducible refine (HS.out _ (by repeat (first | (with_reducible exact HT1.out.mv.me) | (with_reducible apply At.drewN) | (with_reducible apply At.drew)))).mono ?_); rintro en wn ⟨rfl, ⟨nd, rfl⟩⟩; first | exact ⟨rfl, _, World.drewN_drewN _ _ _⟩ | exact ⟨rfl, _, (World.drewN_drewN _ _ _).trans (congrArg (World.drewN _) (Nat.add_assoc _ _ _))⟩))
                                go_wp2_with (go_at_call 54; (with_reducible refine (HS.out _ (by repeat (first | (with_reducible exact HT1.out.mv.me) | (with_reducible apply At.drewN) | (with_reducible apply At.drew)))).mono ?_); rintro en wn ⟨rfl, ⟨nd, rfl⟩⟩)
                                go_quiet ((go_at_call 128; (with_reducible refine (HPT.out _).mono ?_); rintro en wn ⟨rfl, ⟨nd, rfl⟩⟩; first | exact ⟨rfl, _, World.drewN_drewN _ _ _⟩ | exact ⟨rfl, _, (World.drewN_drewN _ _ _).trans (congrArg (World.drewN _) (Nat.add_assoc _ _ _))⟩))
                                go_wp2
                                go_quiet ((go_at_call 128; (with_reducible refine (HPT.out _).mono ?_); rintro en wn ⟨rfl, ⟨nd, rfl⟩⟩; first | exact ⟨rfl, _, World.drewN_drewN _ _ _⟩ | exact ⟨rfl, _, (World.drewN_drewN _ _ _).trans (congrArg (World.drewN _) (Nat.add_assoc _ _ _))⟩))
                                go_wp2_with (first | (go_at_call 127; (with_reducible refine (HW.out _ (show TagSt w g s start j v 1 name l x0 x1 _ from by repeat (first | (with_reducible exact HT1.out) | (with_reducible apply TagSt.drewN) | (with_reducible apply TagSt.drew))).mv.me).mono ?_); rintro e2 W2 ⟨rfl, hm2⟩; have HT2 := Aside0.mk ((show TagSt w g s start j v 1 name l x0 x1 _ from by repeat (first | (with_reducible exact HT1.out) | (with_reducible apply TagSt.drewN) | (with_reducible apply TagSt.drew))).moved hm2); clear hm2; obtain ⟨va2, f2a, f2b, f2c, f2d, f2e, f2f, f2g, f2h, f2i, f2j, f2k, f2l, ⟨A2, C2, rfl⟩, hb2, hR2⟩ := HT2.out.facts; have HB2 := Aside0.mk hb2; have HR2 := Aside0.mk hR2; clear hb2 hR2) | (go_at_call 89; (with_reducible refine (HBK2.out _ (show TagSt w g s start k v 1 name l (s.extract j k) x1 _ from by repeat (first | (with_reducible exact HT2.out) | (with_reducible apply TagSt.drewN) | (with_reducible apply TagSt.drew) | (with_reducible apply TagSt.setA0))).mv.me).mono ?_); rintro e3 W3 ⟨rfl, hm3⟩; have HT3 := Aside0.mk ((show TagSt w g s start k v 1 name l (s.extract j k) x1 _ from by repeat (first | (with_reducible exact HT2.out) | (with_reducible apply TagSt.drewN) | (with_reducible apply TagSt.drew) | (with_reducible apply TagSt.setA0))).moved hm3); clear hm3; obtain ⟨va3, f3a, f3b, f3c, f3d, f3e, f3f, f3g, f3h, f3i, f3j, f3k, f3l, ⟨A3, C3, rfl⟩, hb3, hR3⟩ := HT3.out.facts; have HB3 := Aside0.mk hb3; have HR3 := Aside0.mk hR3; clear hb3 hR3))
                                go_quiet (fail)
                                go_wp2_with (first | (go_at_call 54; (with_reducible refine (HE.out _ (by repeat (first | (with_reducible exact HT3.out.mv.me) | (with_reducible apply At.drewN) | (with_reducible apply At.drew)))).mono ?_); rintro en wn ⟨rfl, ⟨nd, rfl⟩⟩) | (go_at_call 89; (with_reducible refine (HBK3.out _ (show TagSt w g s start m1 v 1 name l (s.extract j k) x1 _ from by repeat (first | (with_reducible exact HT3.out) | (with_reducible apply TagSt.drewN) | (with_reducible apply TagSt.drew) | refine TagSt.setAt (i := m) ?_ (j := m1) rfl)).mv.me).mono ?_); rintro e4 W4 ⟨rfl, hm4⟩; have HT4 := Aside0.mk ((show TagSt w g s start m1 v 1 name l (s.extract j k) x1 _ from by repeat (first | (with_reducible exact HT3.out) | (with_reducible apply TagSt.drewN) | (with_reducible apply TagSt.drew) | refine TagSt.setAt (i := m) ?_ (j := m1) rfl)).moved hm4); clear hm4; obtain ⟨va4, f4a, f4b, f4c, f4d, f4e, f4f, f4g, f4h, f4i, f4j, f4k, f4l, ⟨A4, C4, rfl⟩, hb4, hR4⟩ := HT4.out.facts; have HB4 := Aside0.mk hb4; have HR4 := Aside0.mk hR4; clear hb4 hR4))
                                go_quiet (fail)
                                go_wp2_with (first | (go_at_call 54; (with_reducible refine (HQ.out _ (by repeat (first | (with_reducible exact HT4.out.mv.me) | (with_reducible apply At.drewN) | (with_reducible apply At.drew)))).mono ?_); rintro en wn ⟨rfl, ⟨nd, rfl⟩⟩) | (go_at_call 54; (with_reducible refine (HA.out _ (by repeat (first | (with_reducible exact HT4.out.mv.me) | (with_reducible apply At.drewN) | (with_reducible apply At.drew)))).mono ?_); rintro en wn ⟨rfl, ⟨nd, rfl⟩⟩) | (go_at_call 129; (with_reducible refine (HVA.out _ (show TagSt w g s start p v 1 name l (s.extract j k) x1 _ from by repeat (first | (with_reducible exact HT4.out) | (with_reducible apply TagSt.drewN) | (with_reducible apply TagSt.drew))).mv.me (Moved.ml (show TagSt w g s start p v 1 name l (s.extract j k) x1 _ from by repeat (first | (with_reducible exact HT4.out) | (with_reducible apply TagSt.drewN) | (with_reducible apply TagSt.drew))).mv HML.out hgm)).mono ?_); rintro e5 W5 ⟨rfl, hm5⟩; have HT5 := Aside0.mk ((show TagSt w g s start p v 1 name l (s.extract j k) x1 _ from by repeat (first | (with_reducible exact HT4.out) | (with_reducible apply TagSt.drewN) | (with_reducible apply TagSt.drew))).moved hm5); clear hm5; obtain ⟨va5, f5a, f5b, f5c, f5d, f5e, f5f, f5g, f5h, f5i, f5j, f5k, f5l, ⟨A5, C5, rfl⟩, hb5, hR5⟩ := HT5.out.facts; have HB5 := Aside0.mk hb5; have HR5 := Aside0.mk hR5; clear hb5 hR5) | (at_builtin; refine push_raw1 (w := w) (g := g) (s := s) (start := start) (i := q) (v := v) (kind := 1) (name := name) (l := l) (x0 := (s.extract j k)) (x1 := x1) (s.extract j k) u rfl (.tmp 173) (.tmp 175) rfl rfl (by first | rfl | (go_simp; done) | (go_simp; rfl)) (by omega) HT5.out HB5.out HR5.out ?_; intro A' m' c' W6 hb6 ht6; have HT6 := Aside0.mk ht6; have h6a : W6.cell? ⟨w.heap.size, 3, none⟩ = _ := (blk_cell hb6 3).trans rfl; have h6b := blk_frozen hb6 3; clear ht6 hb6))
                                exact wp_goto ⟨d, by omega, ⟨rfl, rfl, rfl, rfl, rfl⟩, ⟨q, _, _, _, HT6.out, hqs, by simp; omega, HR.out⟩⟩
end Go.Proofs.YtffpbhbiamkkpaaDoor.Lx
