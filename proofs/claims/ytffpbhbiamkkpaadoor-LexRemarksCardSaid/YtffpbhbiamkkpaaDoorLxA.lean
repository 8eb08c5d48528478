/- The lexer's methods that move along a document: what each comes to, returned or given up, in whatever world. -/
import Derived.Test.YtffpbhbiamkkpaaDoorPUx1
import Derived.Lib.Strings
import Derived.Deep.QuietTactic
import Derived.BigQuiet
import Derived.Deep.LoopGhost
namespace Go.Proofs.YtffpbhbiamkkpaaDoor.Lx
open Go.RowKit Go.Proofs.YtffpbhbiamkkpaaDoorW.PrintWords Go.Proofs.YtffpbhbiamkkpaaDoorW.PrintLast Go.Proofs.YtffpbhbiamkkpaaDoorW.PrintMore Go.Proofs.YtffpbhbiamkkpaaDoor.PU
set_option linter.unusedVariables false

/-- The lexer at block g: its document, its place, its tokens' value. -/
def At (w : World) (g : Nat) (s : ByteArray) (i : Nat) (v : Value) : Prop := w.heap[g]? = some (.cells #[.string s, .int .i64 (i : Int), v] 95 (0, 0))
/-- Nothing but the lexer's place has turned. -/
structure Moved (g : Nat) (w w' : World) (s : ByteArray) (i : Nat) (v : Value) : Prop where
  os : w'.os = w.os
  tape : w'.tape = w.tape
  output : w'.output = w.output
  size : w.heap.size ≤ w'.heap.size
  old : ∀ k, k < w.heap.size → k ≠ g → w'.heap[k]? = w.heap[k]?
  me : At w' g s i v

theorem At.lt {w : World} {g : Nat} {s : ByteArray} {i : Nat} {v : Value} (h : At w g s i v) : g < w.heap.size := by
  rcases Nat.lt_or_ge g w.heap.size with h' | h'
  · exact h'
  · unfold At at h; simp [Array.getElem?_eq_none h'] at h
theorem At.c0 {w : World} {g : Nat} {s : ByteArray} {i : Nat} {v : Value} (h : At w g s i v) : w.cell? ⟨g, 0, none⟩ = some (.string s) := (blk_cell h 0).trans rfl
theorem At.c1 {w : World} {g : Nat} {s : ByteArray} {i : Nat} {v : Value} (h : At w g s i v) : w.cell? ⟨g, 1, none⟩ = some (.int .i64 i) := (blk_cell h 1).trans rfl
theorem At.c2 {w : World} {g : Nat} {s : ByteArray} {i : Nat} {v : Value} (h : At w g s i v) : w.cell? ⟨g, 2, none⟩ = some v := (blk_cell h 2).trans rfl
theorem At.f0 {w : World} {g : Nat} {s : ByteArray} {i : Nat} {v : Value} (h : At w g s i v) (j : Nat) : w.frozen? ⟨g, j, none⟩ = false := blk_frozen h j
theorem At.moved {w : World} {g : Nat} {s : ByteArray} {i : Nat} {v : Value} (h : At w g s i v) : Moved g w w s i v := ⟨rfl, rfl, rfl, Nat.le_refl _, fun _ _ _ => rfl, h⟩
theorem Moved.drew {g : Nat} {w w' : World} {s : ByteArray} {i : Nat} {v : Value} (h : Moved g w w' s i v) : Moved g w w'.drew s i v := ⟨h.os, h.tape, h.output, h.size, h.old, h.me⟩
theorem Moved.drewN {g : Nat} {w w' : World} {s : ByteArray} {i : Nat} {v : Value} (h : Moved g w w' s i v) (n : Nat) : Moved g w (w'.drewN n) s i v := ⟨h.os, h.tape, h.output, h.size, h.old, h.me⟩
theorem Moved.set {g : Nat} {w w' : World} {s : ByteArray} {i : Nat} {v : Value} (h : Moved g w w' s i v) {j : Int} {q : Nat} (hj : j = (q : Int)) : Moved g w (w'.setCell ⟨g, 1, none⟩ (.int .i64 j)) s q v := by
  subst hj
  refine ⟨h.os, h.tape, h.output, by simpa [World.setCell] using h.size, fun k hk hne => (Below.heap_setCell _ _ _ _ hne).trans (h.old k hk hne), ?_⟩
  have := h.me
  unfold At at *
  simp [World.setCell, Array.getElem?_modify, this]
theorem Moved.trans {g : Nat} {a b c : World} {s : ByteArray} {i j : Nat} {v u : Value} (h : Moved g a b s i v) (k : Moved g b c s j u) : Moved g a c s j u :=
  ⟨k.os.trans h.os, k.tape.trans h.tape, k.output.trans h.output, Nat.le_trans h.size k.size, fun q hq hne => (k.old q (Nat.lt_of_lt_of_le hq h.size) hne).trans (h.old q hq hne), k.me⟩
/-- A call that turns nothing of what was there. -/
theorem Moved.below {g : Nat} {w a b : World} {s : ByteArray} {i : Nat} {v : Value} (h : Moved g w a s i v) (hb : Below a.heap.size a b) : Moved g w b s i v :=
  ⟨hb.os.trans h.os, hb.tape.trans h.tape, hb.output.trans h.output, Nat.le_trans h.size hb.size, fun q hq hne => (hb.block q (Nat.lt_of_lt_of_le hq h.size)).trans (h.old q hq hne), (hb.block g h.me.lt).trans h.me⟩
theorem Moved.alloc {g : Nat} {w a : World} {s : ByteArray} {i : Nat} {v : Value} (h : Moved g w a s i v) (o : Obj) : Moved g w (a.alloc o) s i v := h.below ((Below.refl _ _).alloc (Nat.le_refl _) o)

/-- What a lexer gives up with. -/
def gaveUp (e : Ending) (at_ code : Int) : Prop := e = .panicked [{ v := .iface 91 (.agg #[.int .i64 at_, .int .i64 code]), recovered := false }]

set_option maxHeartbeats 400000 in
theorem fail_calls (p : Value) (a c : Int) (w : World) : Calls Tryd.prog 91 #[p, .int .i64 a, .int .i64 c] w fun e w' => gaveUp e a c ∧ w' = w := by
  go_enter Tryd.func91, Tryd.ntmps91
  go_wp2
  exact ⟨rfl, rfl, rfl⟩

/-- Does t stand at i? -/
def nextB (s : ByteArray) (i : Nat) (t : ByteArray) : Bool := Lib.hasPrefix (s.data.toList.drop i) t.data.toList

set_option maxHeartbeats 400000 in
set_option maxRecDepth 100000 in
theorem next_calls (g : Nat) (s t : ByteArray) (i : Nat) (v : Value) (w : World) (h : At w g s i v) (hi : i ≤ s.size) :
    Calls Tryd.prog 54 #[.pointer (some ⟨g, 0, none⟩), .string t] w fun e w' => e = .returned (.bool (nextB s i t)) ∧ Drawn0 w w' := by
  have c0 := h.c0
  have c1 := h.c1
  have hp : ∀ W : World, Calls Tryd.prog 88 #[.string (s.extract i s.size), .string t] W fun e w' => e = .returned (.bool (nextB s i t)) ∧ Drawn0 W w' := by
    intro W
    have hf : strings_HasPrefix.f (s.extract i s.size) t = some (nextB s i t) := by
      unfold strings_HasPrefix.f stringslite_HasPrefix.f PL.stringslite_HasPrefix.f nextB
      have e1 : (s.extract i s.size).data.toList = s.data.toList.drop i := by rw [Lib.extract_data, List.take_of_length_le (by rw [List.length_drop, ← Lib.size_eq]; exact Nat.le_refl _)]
      have e2 := Lib.hasPrefix_raw (s.extract i s.size) t
      rw [e1] at e2
      rw [← e2]
      by_cases hc : t.size ≤ (s.extract i s.size).size
      · rw [if_pos (by omega), if_pos (by omega), if_pos (by omega), decide_eq_true hc, Bool.true_and]
        rfl
      · rw [if_neg (by omega), decide_eq_false hc, Bool.false_and]
        rfl
    exact strings_HasPrefix.calls _ _ _ W hf
  have HP := Aside0.mk hp
  clear hp h
  have i0 := eq_true (show (0 : Int) ≤ (i : Int) by omega)
  have i1 := eq_true (show (i : Int) ≤ (s.size : Int) by omega)
  have i2 := eq_true (show i ≤ s.size by omega)
  go_enter Tryd.func54, Tryd.ntmps54
  go_wp2
  go_quiet ((go_at_call 88; (with_reducible refine (HP.out _).mono ?_); rintro e w' ⟨rfl, ⟨nd, rfl⟩⟩; exact ⟨rfl, _, World.drewN_drewN _ _ _⟩))
  go_wp2
  go_ret
  exact ⟨rfl, by repeat (first | exact Drawn0.refl _ | apply Drawn0.step)⟩

/-- The place behind the bytes that answer p, from i on. -/
def skipTo (p : Int → Bool) (s : ByteArray) : Nat → Nat → Nat
  | 0, i => i
  | d + 1, i => if i < s.size ∧ p (bt s i) = true then skipTo p s d (i + 1) else i
def skip (p : Int → Bool) (s : ByteArray) (i : Nat) : Nat := skipTo p s (s.size - i) i
theorem skip_step {p : Int → Bool} {s : ByteArray} {i : Nat} (h : i < s.size) (hp : p (bt s i) = true) : skip p s i = skip p s (i + 1) := by
  unfold skip
  obtain ⟨d, hd⟩ : ∃ d, s.size - i = d + 1 := ⟨s.size - i - 1, by omega⟩
  rw [hd, show s.size - (i + 1) = d from by omega]
  simp only [skipTo]
  rw [if_pos ⟨h, hp⟩]
theorem skip_end {p : Int → Bool} {s : ByteArray} {i : Nat} (h : ¬ i < s.size) : skip p s i = i := by
  unfold skip
  rw [show s.size - i = 0 from by omega]
  rfl
theorem skip_stop {p : Int → Bool} {s : ByteArray} {i : Nat} (hp : p (bt s i) = false) : skip p s i = i := by
  unfold skip
  cases s.size - i with
  | zero => rfl
  | succ d => simp only [skipTo]; rw [if_neg (by simp [hp])]
theorem skip_le (p : Int → Bool) (s : ByteArray) (i : Nat) (h : i ≤ s.size) : i ≤ skip p s i ∧ skip p s i ≤ s.size := by
  have key : ∀ d i, i + d = s.size → i ≤ skip p s i ∧ skip p s i ≤ s.size := by
    intro d
    induction d with
    | zero => intro i hi; rw [skip_end (by omega)]; omega
    | succ d ih =>
      intro i hi
      cases hp : p (bt s i) with
      | true => rw [skip_step (by omega) hp]; have := ih (i + 1) (by omega); omega
      | false => rw [skip_stop hp]; omega
  exact key (s.size - i) i (by omega)

theorem bt_nat (s : ByteArray) (k : Nat) (h : k < s.size) : ((s[k]'h).toNat : Int) = bt s (k : Int) := by
  unfold bt
  have : (k : Int).toNat = k := by omega
  simp [this, h]
def blankB (c : Int) : Bool := c == 32 || c == 9 || c == 10 || c == 13
theorem blank_f (c : Int) : utf_Blank.f c = some (blankB c) := by
  unfold utf_Blank.f blankB
  by_cases h1 : c = 32
  · simp [h1]
  · by_cases h2 : c = 9
    · simp [h2]
    · by_cases h3 : c = 10
      · simp [h3]
      · simp [h1, h2, h3]

set_option maxHeartbeats 1000000 in
set_option maxRecDepth 100000 in
theorem blanks_calls (g : Nat) (s : ByteArray) (i : Nat) (v : Value) (w : World) (h : At w g s i v) (hi : i ≤ s.size) (hs : s.size ≤ 140737488351232) :
    Calls Tryd.prog 89 #[.pointer (some ⟨g, 0, none⟩)] w fun e w' => e = .returned (.int .i64 ((skip blankB s i : Nat) - (i : Int))) ∧ Moved g w w' s (skip blankB s i) v := by
  have c0 := h.c0
  have c1 := h.c1
  have H := Aside0.mk h
  have HS := Aside0.mk (skip_le blankB s i hi)
  clear h
  go_enter Tryd.func89, Tryd.ntmps89
  go_wp2
  clear c0 c1
  go_loopg [] (s.size - i) (fun m wr => ∃ k : Nat, i ≤ k ∧ k ≤ s.size ∧ Aside0 (m = s.size - k) ∧ Aside0 (skip blankB s k = skip blankB s i) ∧ Aside0 (Moved g w wr s k v))
  case atStart => exact ⟨i, Nat.le_refl _, hi, ⟨rfl⟩, ⟨rfl⟩, ⟨H.out.moved⟩⟩
  case round =>
    obtain ⟨k, hik, hk, HM, HE, HV⟩ := hrel
    have c0 := HV.out.me.c0
    have c1 := HV.out.me.c1
    have f1 := HV.out.me.f0 1
    by_cases hlt : k < s.size
    · have l1 : decide (k < s.size) = true := decide_eq_true hlt
      have q0 := eq_true (show (0 : Int) ≤ (k : Int) by omega)
      have q1 := eq_true (show (k : Int) < (s.size : Int) by omega)
      have hx := bt_nat s k hlt
      have HB := Aside0.mk (blank_f (bt s k))
      cases hb : blankB (bt s k) with
      | true =>
        rw [hb] at HB
        have HE2 := Aside0.mk ((skip_step hlt hb).symm.trans HE.out)
        clear hb HE
        go_wp2
        go_quiet ((go_at_call 55; (with_reducible refine (utf_Blank.calls (bt s k) true _ HB.out).mono ?_); rintro e w' ⟨rfl, ⟨nd, rfl⟩⟩; exact ⟨rfl, _, World.drewN_drewN _ _ _⟩))
        go_wp2
        go_roundg (s.size - (k + 1))
        case measure => have := HM.out; omega
        case rel => exact ⟨k + 1, by omega, by omega, ⟨rfl⟩, HE2, ⟨by repeat (first | (with_reducible exact HV.out) | (with_reducible apply Moved.drewN) | (with_reducible apply Moved.drew) | refine Moved.set (i := k) ?_ (q := k + 1) (by omega))⟩⟩
      | false =>
        rw [hb] at HB
        have HE2 := Aside0.mk ((skip_stop (s := s) (i := k) hb).symm.trans HE.out)
        clear hb HE
        go_wp2
        go_quiet ((go_at_call 55; (with_reducible refine (utf_Blank.calls (bt s k) false _ HB.out).mono ?_); rintro e w' ⟨rfl, ⟨nd, rfl⟩⟩; exact ⟨rfl, _, World.drewN_drewN _ _ _⟩))
        go_wp2
        go_ret
        exact ⟨by rw [← HE2.out]; rfl, by rw [← HE2.out]; exact HV.out.drewN _⟩
    · have l1 : decide (k < s.size) = false := decide_eq_false hlt
      have HE2 := Aside0.mk ((skip_end (p := blankB) (s := s) (i := k) hlt).symm.trans HE.out)
      clear HE
      go_wp2
      go_quiet (fail)
      go_wp2
      go_ret
      exact ⟨by rw [← HE2.out]; rfl, by rw [← HE2.out]; exact HV.out.drewN _⟩

def partB (c : Int) : Bool := !blankB c && !(c == 47 || c == 62 || c == 61 || c == 60 || c == 34 || c == 39 || c == 38)
theorem part_f (c : Int) (h0 : 0 ≤ c) (h1 : c ≤ 255) : lex_part.f c = some (partB c) := by
  have h : ∀ n : Fin 256, lex_part.f (n.val : Int) = some (partB (n.val : Int)) := by decide +kernel
  obtain ⟨n, rfl⟩ := Int.eq_ofNat_of_zero_le h0
  exact h ⟨n, by omega⟩
theorem part_calls (c : Int) (W : World) (h0 : 0 ≤ c) (h1 : c ≤ 255) : Calls Tryd.prog 128 #[.int .u8 c] W fun e w' => e = .returned (.bool (partB c)) ∧ Drawn0 W w' :=
  lex_part.calls c (partB c) W (part_f c h0 h1)

/-- A word: the place behind it, or what is wrong. -/
def wordS (s : ByteArray) (start i : Nat) : Except (Nat × Int) Nat :=
  if skip partB s i = s.size then .error (start, 2) else if skip partB s i = i then .error (i, 12) else .ok (skip partB s i)
def WordPost (g : Nat) (w : World) (s : ByteArray) (i : Nat) (v : Value) : Except (Nat × Int) Nat → Ending → World → Prop
  | .ok j, e, w' => e = .returned (.string (s.extract i j)) ∧ Moved g w w' s j v
  | .error (a, c), e, w' => gaveUp e (a : Int) c ∧ ∃ j, Moved g w w' s j v

set_option maxHeartbeats 1000000 in
set_option maxRecDepth 100000 in
theorem word_calls (g : Nat) (s : ByteArray) (start i : Nat) (v : Value) (w : World) (h : At w g s i v) (hi : i ≤ s.size) (hs : s.size ≤ 140737488351232) :
    Calls Tryd.prog 127 #[.pointer (some ⟨g, 0, none⟩), .int .i64 (start : Int)] w (WordPost g w s i v (wordS s start i)) := by
  have c0 := h.c0
  have c1 := h.c1
  have H := Aside0.mk h
  have HS := Aside0.mk (skip_le partB s i hi)
  clear h
  go_enter Tryd.func127, Tryd.ntmps127
  go_wp2
  clear c0 c1
  go_loopg [] (s.size - i) (fun m wr => ∃ k : Nat, i ≤ k ∧ k ≤ s.size ∧ Aside0 (m = s.size - k) ∧ Aside0 (skip partB s k = skip partB s i) ∧ Aside0 (Moved g w wr s k v))
  case atStart => exact ⟨i, Nat.le_refl _, hi, ⟨rfl⟩, ⟨rfl⟩, ⟨H.out.moved⟩⟩
  case round =>
    obtain ⟨k, hik, hk, HM, HE, HV⟩ := hrel
    have c0 := HV.out.me.c0
    have c1 := HV.out.me.c1
    have f1 := HV.out.me.f0 1
    have q0 := eq_true (show (0 : Int) ≤ (k : Int) by omega)
    have q9 := eq_true (show (k : Int) ≤ (s.size : Int) by omega)
    have q8 := eq_true (show k ≤ s.size by omega)
    have q7 := eq_true (show (0 : Int) ≤ (i : Int) by omega)
    have q6 := eq_true (show (i : Int) ≤ (k : Int) by omega)
    have q5 := eq_true (show i ≤ k by omega)
    by_cases hlt : k < s.size
    · have l1 : decide (k < s.size) = true := decide_eq_true hlt
      have q1 := eq_true (show (k : Int) < (s.size : Int) by omega)
      have hx := bt_nat s k hlt
      have HR := Aside0.mk (bt_range s k)
      cases hb : partB (bt s k) with
      | true =>
        have HB : ∀ W : World, Calls Tryd.prog 128 #[.int .u8 (bt s k)] W fun e w' => e = .returned (.bool true) ∧ Drawn0 W w' := fun W => by rw [← hb]; exact part_calls _ W HR.out.1 HR.out.2
        have HB' := Aside0.mk HB
        clear HB
        have HB := HB'
        clear HB'
        have HE2 := Aside0.mk ((skip_step hlt hb).symm.trans HE.out)
        clear hb HE
        go_wp2
        go_quiet ((go_at_call 128; (with_reducible refine (HB.out _).mono ?_); rintro e w' ⟨rfl, ⟨nd, rfl⟩⟩; exact ⟨rfl, _, World.drewN_drewN _ _ _⟩))
        go_wp2
        go_roundg (s.size - (k + 1))
        case measure => have := HM.out; omega
        case rel => exact ⟨k + 1, by omega, by omega, ⟨rfl⟩, HE2, ⟨by repeat (first | (with_reducible exact HV.out) | (with_reducible apply Moved.drewN) | (with_reducible apply Moved.drew) | refine Moved.set (i := k) ?_ (q := k + 1) (by omega))⟩⟩
      | false =>
        have HB : ∀ W : World, Calls Tryd.prog 128 #[.int .u8 (bt s k)] W fun e w' => e = .returned (.bool false) ∧ Drawn0 W w' := fun W => by rw [← hb]; exact part_calls _ W HR.out.1 HR.out.2
        have HB' := Aside0.mk HB
        clear HB
        have HB := HB'
        clear HB'
        have HE2 := Aside0.mk ((skip_stop (s := s) (i := k) hb).symm.trans HE.out)
        have n1 : (k == s.size) = false := beq_eq_false_iff_ne.mpr (by omega)
        clear hb HE
        by_cases hki : k = i
        · subst hki
          have hw : wordS s start k = .error (k, 12) := by unfold wordS; rw [← HE2.out, if_neg (by omega), if_pos rfl]
          have HW := Aside0.mk hw
          clear hw
          go_wp2
          go_quiet ((go_at_call 128; (with_reducible refine (HB.out _).mono ?_); rintro e w' ⟨rfl, ⟨nd, rfl⟩⟩; exact ⟨rfl, _, World.drewN_drewN _ _ _⟩))
          go_wp2
          go_quiet (fail)
          go_wp2_with (go_at_call 91; (with_reducible refine (fail_calls _ _ _ _).mono ?_); rintro e w' ⟨hgu, rfl⟩; unfold gaveUp at hgu; subst hgu)
          refine ⟨rfl, ?_⟩
          rw [HW.out]
          exact ⟨rfl, k, by repeat (first | (with_reducible exact HV.out) | (with_reducible apply Moved.drewN) | (with_reducible apply Moved.drew))⟩
        · have n2 : (k == i) = false := beq_eq_false_iff_ne.mpr hki
          have hw : wordS s start i = .ok k := by unfold wordS; rw [← HE2.out, if_neg (by omega), if_neg hki]
          have HW := Aside0.mk hw
          clear hw
          go_wp2
          go_quiet ((go_at_call 128; (with_reducible refine (HB.out _).mono ?_); rintro e w' ⟨rfl, ⟨nd, rfl⟩⟩; exact ⟨rfl, _, World.drewN_drewN _ _ _⟩))
          go_wp2
          go_quiet (fail)
          go_wp2
          go_quiet (fail)
          go_wp2
          go_ret
          rw [HW.out]
          exact ⟨rfl, by repeat (first | (with_reducible exact HV.out) | (with_reducible apply Moved.drewN) | (with_reducible apply Moved.drew))⟩
    · have l1 : decide (k < s.size) = false := decide_eq_false hlt
      have hks : k = s.size := by omega
      subst hks
      have HE2 := Aside0.mk ((skip_end (p := partB) (s := s) (i := s.size) hlt).symm.trans HE.out)
      have hw : wordS s start i = .error (start, 2) := by unfold wordS; rw [← HE2.out, if_pos rfl]
      have HW := Aside0.mk hw
      clear HE hw
      go_wp2
      go_quiet (fail)
      go_wp2
      go_quiet (fail)
      go_wp2_with (go_at_call 91; (with_reducible refine (fail_calls _ _ _ _).mono ?_); rintro e w' ⟨hgu, rfl⟩; unfold gaveUp at hgu; subst hgu)
      refine ⟨rfl, ?_⟩
      rw [HW.out]
      exact ⟨rfl, s.size, by repeat (first | (with_reducible exact HV.out) | (with_reducible apply Moved.drewN) | (with_reducible apply Moved.drew))⟩
end Go.Proofs.YtffpbhbiamkkpaaDoor.Lx
