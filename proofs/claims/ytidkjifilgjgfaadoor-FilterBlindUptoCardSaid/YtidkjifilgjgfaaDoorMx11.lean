/- The order of texts, byte by byte, and of attributes' names (the space first, then the local part): both are whole. -/
import Derived.Test.YtidkjifilgjgfaaDoorMx12
import Derived.Lib.Bytealg
import Derived.Sort.Statements
import Derived.Test.YtidkjifilgjgfaaDoorWWords
namespace Go.Proofs.YtidkjifilgjgfaaDoor.ND
open Go.Lib Go.Sort
set_option linter.unusedVariables false
theorem yt1 : ∀ a : List UInt8, compareBytes a a = 0
  | [] => rfl
  | a :: xs => by unfold compareBytes; rw [if_neg (UInt8.lt_irrefl a), if_neg (UInt8.lt_irrefl a)]; exact yt1 xs
theorem cb_eq : ∀ a b : List UInt8, compareBytes a b = 0 → a = b
  | [], [], _ => rfl
  | [], _ :: _, h => by simp [compareBytes] at h
  | _ :: _, [], h => by simp [compareBytes] at h
  | a :: xs, b :: bs, h => by
    unfold compareBytes at h
    by_cases h1 : a < b
    · simp [h1] at h
    · by_cases h2 : b < a
      · simp [h1, h2] at h
      · rw [if_neg h1, if_neg h2] at h
        have e : a = b := UInt8.le_antisymm (UInt8.not_lt.1 h2) (UInt8.not_lt.1 h1)
        rw [e, cb_eq xs bs h]
theorem ys1 : ∀ a b : List UInt8, compareBytes b a = - compareBytes a b
  | [], [] => rfl
  | [], _ :: _ => rfl
  | _ :: _, [] => rfl
  | a :: xs, b :: bs => by
    unfold compareBytes
    by_cases h1 : a < b
    · have h2 : ¬ b < a := fun h => UInt8.lt_irrefl _ (UInt8.lt_trans h1 h)
      simp [h1, h2]
    · by_cases h2 : b < a
      · simp [h1, h2]
      · simp only [h1, h2, if_false]; exact ys1 xs bs
theorem yr9 : ∀ a b c : List UInt8, compareBytes a b ≤ 0 → compareBytes b c ≤ 0 → compareBytes a c ≤ 0
  | [], _, [], _, _ => by simp [compareBytes]
  | [], _, _ :: _, _, _ => by simp [compareBytes]
  | a :: xs, [], c, h, _ => by simp [compareBytes] at h
  | _ :: _, b :: bs, [], _, h => by simp [compareBytes] at h
  | a :: xs, b :: bs, c :: cs, h1, h2 => by
    unfold compareBytes at h1 h2 ⊢
    by_cases p1 : a < b
    · by_cases p2 : b < c
      · rw [if_pos (UInt8.lt_trans p1 p2)]; decide
      · by_cases p3 : c < b
        · simp [p2, p3] at h2
        · have e : b = c := UInt8.le_antisymm (UInt8.not_lt.1 p3) (UInt8.not_lt.1 p2)
          rw [← e, if_pos p1]; decide
    · by_cases q1 : b < a
      · simp [p1, q1] at h1
      · have e : a = b := UInt8.le_antisymm (UInt8.not_lt.1 q1) (UInt8.not_lt.1 p1)
        subst e
        rw [if_neg p1, if_neg p1] at h1
        by_cases p2 : a < c
        · rw [if_pos p2]; decide
        · by_cases p3 : c < a
          · simp [p2, p3] at h2
          · rw [if_neg p2, if_neg p3] at h2 ⊢
            exact yr9 xs bs cs h1 h2
/-- The order of attributes that print uses. -/
def cfA (x y : At) : Int :=
  if compareBytes x.f0.f0.data.toList y.f0.f0.data.toList ≠ 0 then compareBytes x.f0.f0.data.toList y.f0.f0.data.toList else compareBytes x.f0.f1.data.toList y.f0.f1.data.toList
theorem cfA_self (x : At) : cfA x x = 0 := by unfold cfA; rw [yt1, if_neg (by simp), yt1]
theorem yk0 (x y : At) : cfA y x = - cfA x y := by
  unfold cfA
  have h1 := ys1 x.f0.f0.data.toList y.f0.f0.data.toList
  have h2 := ys1 x.f0.f1.data.toList y.f0.f1.data.toList
  by_cases h : compareBytes x.f0.f0.data.toList y.f0.f0.data.toList = 0
  · rw [h1, h2, h]; simp
  · rw [h1, h2, if_pos h, if_pos (by omega)]
theorem yn7 (x y z : At) (h1 : cfA x y ≤ 0) (h2 : cfA y z ≤ 0) : cfA x z ≤ 0 := by
  unfold cfA at *
  by_cases e1 : compareBytes x.f0.f0.data.toList y.f0.f0.data.toList = 0
  · have e := cb_eq _ _ e1
    rw [if_neg (by simpa using e1)] at h1
    rw [e]
    by_cases e2 : compareBytes y.f0.f0.data.toList z.f0.f0.data.toList = 0
    · rw [if_neg (by simpa using e2)] at h2 ⊢
      exact yr9 _ _ _ h1 h2
    · rw [if_pos e2] at h2 ⊢
      exact h2
  · rw [if_pos e1] at h1
    have k2 : compareBytes y.f0.f0.data.toList z.f0.f0.data.toList ≤ 0 := by
      by_cases e2 : compareBytes y.f0.f0.data.toList z.f0.f0.data.toList = 0
      · omega
      · rw [if_pos e2] at h2; exact h2
    have k := yr9 _ _ _ h1 k2
    by_cases e3 : compareBytes x.f0.f0.data.toList z.f0.f0.data.toList = 0
    · exfalso
      have e := cb_eq _ _ e3
      rw [← e, ys1 x.f0.f0.data.toList] at k2
      omega
    · rw [if_pos e3]; exact k
theorem cfA_zero (x y : At) (h : cfA x y = 0) : x.f0.f0 = y.f0.f0 ∧ x.f0.f1 = y.f0.f1 := by
  unfold cfA at h
  by_cases e : compareBytes x.f0.f0.data.toList y.f0.f0.data.toList = 0
  · rw [if_neg (by simpa using e)] at h
    have a := cb_eq _ _ e
    have b := cb_eq _ _ h
    refine ⟨?_, ?_⟩
    · exact congrArg (fun l => (⟨l.toArray⟩ : ByteArray)) a
    · exact congrArg (fun l => (⟨l.toArray⟩ : ByteArray)) b
  · rw [if_pos e] at h
    exact absurd h e
def leA (x y : At) : Bool := decide (cfA x y ≤ 0)
theorem leA_trans (x y z : At) (h1 : leA x y = true) (h2 : leA y z = true) : leA x z = true := by
  unfold leA at *
  simp only [decide_eq_true_eq] at *
  exact yn7 x y z h1 h2
theorem leA_total (x y : At) : (leA x y || leA y x) = true := by
  unfold leA
  have := yk0 x y
  simp only [Bool.or_eq_true, decide_eq_true_eq]
  omega
/-- Attributes, rising. -/
def srt (l : List At) : List At := l.mergeSort leA
theorem yl9 (l : List At) : (srt l).Perm l := List.mergeSort_perm l leA
theorem srt_sorted (l : List At) : (srt l).Pairwise (fun x y => leA x y = true) := List.pairwise_mergeSort leA_trans leA_total l
/-- No two have one name. -/
def Apart (l : List At) : Prop := l.Pairwise fun x y => ¬ (x.f0.f0 = y.f0.f0 ∧ x.f0.f1 = y.f0.f1)
theorem Apart.perm {l l' : List At} (h : Apart l) (p : l.Perm l') : Apart l' :=
  (List.Perm.pairwise_iff (R := fun x y : At => ¬ (x.f0.f0 = y.f0.f0 ∧ x.f0.f1 = y.f0.f1)) (fun {a b} (h : ¬ (a.f0.f0 = b.f0.f0 ∧ a.f0.f1 = b.f0.f1)) => fun k => h ⟨k.1.symm, k.2.symm⟩) p).1 h
/-- Two rising rows of the same attributes, no two of one name, are one. -/
theorem rising_one : ∀ {l l' : List At}, l.Perm l' → Apart l → l.Pairwise (fun x y => leA x y = true) → l'.Pairwise (fun x y => leA x y = true) → l = l'
  | [], l', p, _, _, _ => p.nil_eq
  | a :: l, [], p, _, _, _ => by simpa using p.length_eq
  | a :: l, b :: l', p, h, s, s' => by
    have hab : a = b := by
      by_cases e : a = b
      · exact e
      exfalso
      have ha : a ∈ b :: l' := p.mem_iff.1 (by simp)
      have hb : b ∈ a :: l := p.mem_iff.2 (by simp)
      have ha' : a ∈ l' := by rcases List.mem_cons.1 ha with h | h; exact absurd h e; exact h
      have hb' : b ∈ l := by rcases List.mem_cons.1 hb with h | h; exact absurd h.symm e; exact h
      have k1 : leA a b = true := (List.pairwise_cons.1 s).1 b hb'
      have k2 : leA b a = true := (List.pairwise_cons.1 s').1 a ha'
      have k3 := (List.pairwise_cons.1 h).1 b hb'
      unfold leA at k1 k2
      simp only [decide_eq_true_eq] at k1 k2
      have := yk0 a b
      exact k3 (cfA_zero a b (by omega))
    subst hab
    rw [rising_one (List.Perm.cons_inv p) (List.pairwise_cons.1 h).2 (List.pairwise_cons.1 s).2 (List.pairwise_cons.1 s').2]
end Go.Proofs.YtidkjifilgjgfaaDoor.ND
-- PRINTED BY print.sh 35421559b90ae4d0a3588c463048766b98c2df88dd9212a6774a882060cdf62d: not written by this session
/-! ### 58. A guarded operation whose guard is known to want it: the same goal without the guard -/
namespace Go.Proofs.YtidkjifilgjgfaaDoorW.PrintWords
open Go.RowKit
section
variable {P : Program} {ops : Array Oper} {rest : List Oper} {o : Oper} {a : Act} {Q : Exit → Act → World → Prop} {W : World}
/-- The gate takes the guard off (hw: 'by rfl', 'by kernel_rfl': the guard's slot holds what is wanted). -/
theorem yh2 (hw : Region.wanted o (yielded ops a.tmps) = true) (h : wpList P ops Q ({ o with guard := none } :: rest) a W) : wpList P ops Q (o :: rest) a W := by
  have h1 : Region.wanted { o with guard := none } (yielded ops a.tmps) = true := rfl
  unfold wpList at h ⊢
  rw [if_pos h1] at h
  rw [if_pos hw]
  exact h
end
end Go.Proofs.YtidkjifilgjgfaaDoorW.PrintWords
-- PRINTED BY print.sh 35421559b90ae4d0a3588c463048766b98c2df88dd9212a6774a882060cdf62d: not written by this session
/-! ### 55. Reps told from the front, no append: for rows of one-cell elements and of wider ones -/
namespace Go.Proofs.YtidkjifilgjgfaaDoorW.PrintWords
/-- One cell an element. -/
theorem Reps.one {α : Type} {R : α → List Value → Prop} {ps : List α} {cs : List Value} {p : α} {v : Value} (hp : R p [v]) (h : Reps R 1 ps cs) : Reps R 1 (p :: ps) (v :: cs) := by
  refine ⟨by simp [h.1], fun j q hq => ?_⟩
  cases j with
  | zero =>
    simp only [List.getElem?_cons_zero, Option.some.injEq] at hq
    subst hq
    simpa using hp
  | succ j =>
    simp only [List.getElem?_cons_succ] at hq
    have h1 := h.2 j q hq
    simpa [Nat.mul_one] using h1
/-- More cells an element: told apart by the cells' list. -/
theorem Reps.front {α : Type} {R : α → List Value → Prop} {size : Nat} {ps : List α} {cs c all : List Value} {p : α} (hp : R p c) (hc : c.length = size) (h : Reps R size ps cs) (ha : c ++ cs = all) : Reps R size (p :: ps) all := by
  subst ha
  refine ⟨by rw [List.length_append, hc, h.1, List.length_cons, Nat.succ_mul, Nat.add_comm], fun j q hq => ?_⟩
  cases j with
  | zero =>
    simp only [List.getElem?_cons_zero, Option.some.injEq] at hq
    subst hq
    rw [Nat.zero_mul, List.drop_zero, List.take_append_of_le_length (by omega), List.take_of_length_le (by omega)]
    exact hp
  | succ j =>
    simp only [List.getElem?_cons_succ] at hq
    have h1 := h.2 j q hq
    rw [Nat.succ_mul, List.drop_append, List.drop_of_length_le (by rw [hc]; exact Nat.le_add_left _ _), List.nil_append, hc, Nat.add_sub_cancel]
    exact h1
theorem Reps.c2 {α : Type} {R : α → List Value → Prop} {ps : List α} {cs : List Value} {p : α} {va vb : Value} (hp : R p [va, vb]) (h : Reps R 2 ps cs) : Reps R 2 (p :: ps) (va :: vb :: cs) := Reps.front hp rfl h rfl
theorem Reps.c7 {α : Type} {R : α → List Value → Prop} {ps : List α} {cs : List Value} {p : α} {va vb vc vd ve vf vg : Value} (hp : R p [va, vb, vc, vd, ve, vf, vg]) (h : Reps R 7 ps cs) : Reps R 7 (p :: ps) (va :: vb :: vc :: vd :: ve :: vf :: vg :: cs) := Reps.front hp rfl h rfl
end Go.Proofs.YtidkjifilgjgfaaDoorW.PrintWords
