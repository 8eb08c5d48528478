/- The order of texts, byte by byte, and of attributes' names (the space first, then the local part): both are whole. -/
import Derived.Test.YtffpbhbiamkkpaaDoorNd
import Derived.Lib.Bytealg
import Derived.Sort.Statements
namespace Go.Proofs.YtffpbhbiamkkpaaDoor.ND
open Go.Lib Go.Sort
set_option linter.unusedVariables false
theorem cb_self : ∀ a : List UInt8, compareBytes a a = 0
  | [] => rfl
  | a :: xs => by unfold compareBytes; rw [if_neg (UInt8.lt_irrefl a), if_neg (UInt8.lt_irrefl a)]; exact cb_self xs
theorem cb_eq : ∀ a b : List UInt8, compareBytes a b = 0 → a = b
  | [], [], _ => rfl
  | [], _ :: _, h => by simp [compareBytes] at h
  | _ :: _, [], h => by simp [compareBytes] at h
  | a :: xs, b :: bs, h => by
    unfold compareBytes at h
    by_cases h1 : a < b
    · simp [h1] at h
    · by_cases h2 : b < a
      · simp [h1, h2] at h
      · rw [if_neg h1, if_neg h2] at h
        have e : a = b := UInt8.le_antisymm (UInt8.not_lt.1 h2) (UInt8.not_lt.1 h1)
        rw [e, cb_eq xs bs h]
theorem cb_swap : ∀ a b : List UInt8, compareBytes b a = - compareBytes a b
  | [], [] => rfl
  | [], _ :: _ => rfl
  | _ :: _, [] => rfl
  | a :: xs, b :: bs => by
    unfold compareBytes
    by_cases h1 : a < b
    · have h2 : ¬ b < a := fun h => UInt8.lt_irrefl _ (UInt8.lt_trans h1 h)
      simp [h1, h2]
    · by_cases h2 : b < a
      · simp [h1, h2]
      · simp only [h1, h2, if_false]; exact cb_swap xs bs
theorem cb_trans : ∀ a b c : List UInt8, compareBytes a b ≤ 0 → compareBytes b c ≤ 0 → compareBytes a c ≤ 0
  | [], _, [], _, _ => by simp [compareBytes]
  | [], _, _ :: _, _, _ => by simp [compareBytes]
  | a :: xs, [], c, h, _ => by simp [compareBytes] at h
  | _ :: _, b :: bs, [], _, h => by simp [compareBytes] at h
  | a :: xs, b :: bs, c :: cs, h1, h2 => by
    unfold compareBytes at h1 h2 ⊢
    by_cases p1 : a < b
    · by_cases p2 : b < c
      · rw [if_pos (UInt8.lt_trans p1 p2)]; decide
      · by_cases p3 : c < b
        · simp [p2, p3] at h2
        · have e : b = c := UInt8.le_antisymm (UInt8.not_lt.1 p3) (UInt8.not_lt.1 p2)
          rw [← e, if_pos p1]; decide
    · by_cases q1 : b < a
      · simp [p1, q1] at h1
      · have e : a = b := UInt8.le_antisymm (UInt8.not_lt.1 q1) (UInt8.not_lt.1 p1)
        subst e
        rw [if_neg p1, if_neg p1] at h1
        by_cases p2 : a < c
        · rw [if_pos p2]; decide
        · by_cases p3 : c < a
          · simp [p2, p3] at h2
          · rw [if_neg p2, if_neg p3] at h2 ⊢
            exact cb_trans xs bs cs h1 h2
/-- The order of attributes that print uses. -/
def cfA (x y : At) : Int :=
  if compareBytes x.f0.f0.data.toList y.f0.f0.data.toList ≠ 0 then compareBytes x.f0.f0.data.toList y.f0.f0.data.toList else compareBytes x.f0.f1.data.toList y.f0.f1.data.toList
theorem cfA_self (x : At) : cfA x x = 0 := by unfold cfA; rw [cb_self, if_neg (by simp), cb_self]
theorem cfA_swap (x y : At) : cfA y x = - cfA x y := by
  unfold cfA
  have h1 := cb_swap x.f0.f0.data.toList y.f0.f0.data.toList
  have h2 := cb_swap x.f0.f1.data.toList y.f0.f1.data.toList
  by_cases h : compareBytes x.f0.f0.data.toList y.f0.f0.data.toList = 0
  · rw [h1, h2, h]; simp
  · rw [h1, h2, if_pos h, if_pos (by omega)]
theorem cfA_trans (x y z : At) (h1 : cfA x y ≤ 0) (h2 : cfA y z ≤ 0) : cfA x z ≤ 0 := by
  unfold cfA at *
  by_cases e1 : compareBytes x.f0.f0.data.toList y.f0.f0.data.toList = 0
  · have e := cb_eq _ _ e1
    rw [if_neg (by simpa using e1)] at h1
    rw [e]
    by_cases e2 : compareBytes y.f0.f0.data.toList z.f0.f0.data.toList = 0
    · rw [if_neg (by simpa using e2)] at h2 ⊢
      exact cb_trans _ _ _ h1 h2
    · rw [if_pos e2] at h2 ⊢
      exact h2
  · rw [if_pos e1] at h1
    have k2 : compareBytes y.f0.f0.data.toList z.f0.f0.data.toList ≤ 0 := by
      by_cases e2 : compareBytes y.f0.f0.data.toList z.f0.f0.data.toList = 0
      · omega
      · rw [if_pos e2] at h2; exact h2
    have k := cb_trans _ _ _ h1 k2
    by_cases e3 : compareBytes x.f0.f0.data.toList z.f0.f0.data.toList = 0
    · exfalso
      have e := cb_eq _ _ e3
      rw [← e, cb_swap x.f0.f0.data.toList] at k2
      omega
    · rw [if_pos e3]; exact k
theorem cfA_zero (x y : At) (h : cfA x y = 0) : x.f0.f0 = y.f0.f0 ∧ x.f0.f1 = y.f0.f1 := by
  unfold cfA at h
  by_cases e : compareBytes x.f0.f0.data.toList y.f0.f0.data.toList = 0
  · rw [if_neg (by simpa using e)] at h
    have a := cb_eq _ _ e
    have b := cb_eq _ _ h
    refine ⟨?_, ?_⟩
    · exact congrArg (fun l => (⟨l.toArray⟩ : ByteArray)) a
    · exact congrArg (fun l => (⟨l.toArray⟩ : ByteArray)) b
  · rw [if_pos e] at h
    exact absurd h e
def leA (x y : At) : Bool := decide (cfA x y ≤ 0)
theorem leA_trans (x y z : At) (h1 : leA x y = true) (h2 : leA y z = true) : leA x z = true := by
  unfold leA at *
  simp only [decide_eq_true_eq] at *
  exact cfA_trans x y z h1 h2
theorem leA_total (x y : At) : (leA x y || leA y x) = true := by
  unfold leA
  have := cfA_swap x y
  simp only [Bool.or_eq_true, decide_eq_true_eq]
  omega
/-- Attributes, rising. -/
def srt (l : List At) : List At := l.mergeSort leA
theorem srt_perm (l : List At) : (srt l).Perm l := List.mergeSort_perm l leA
theorem srt_sorted (l : List At) : (srt l).Pairwise (fun x y => leA x y = true) := List.pairwise_mergeSort leA_trans leA_total l
/-- No two have one name. -/
def Apart (l : List At) : Prop := l.Pairwise fun x y => ¬ (x.f0.f0 = y.f0.f0 ∧ x.f0.f1 = y.f0.f1)
theorem Apart.perm {l l' : List At} (h : Apart l) (p : l.Perm l') : Apart l' :=
  (List.Perm.pairwise_iff (R := fun x y : At => ¬ (x.f0.f0 = y.f0.f0 ∧ x.f0.f1 = y.f0.f1)) (fun {a b} (h : ¬ (a.f0.f0 = b.f0.f0 ∧ a.f0.f1 = b.f0.f1)) => fun k => h ⟨k.1.symm, k.2.symm⟩) p).1 h
/-- Two rising rows of the same attributes, no two of one name, are one. -/
theorem rising_one : ∀ {l l' : List At}, l.Perm l' → Apart l → l.Pairwise (fun x y => leA x y = true) → l'.Pairwise (fun x y => leA x y = true) → l = l'
  | [], l', p, _, _, _ => p.nil_eq
  | a :: l, [], p, _, _, _ => by simpa using p.length_eq
  | a :: l, b :: l', p, h, s, s' => by
    have hab : a = b := by
      by_cases e : a = b
      · exact e
      exfalso
      have ha : a ∈ b :: l' := p.mem_iff.1 (by simp)
      have hb : b ∈ a :: l := p.mem_iff.2 (by simp)
      have ha' : a ∈ l' := by rcases List.mem_cons.1 ha with h | h; exact absurd h e; exact h
      have hb' : b ∈ l := by rcases List.mem_cons.1 hb with h | h; exact absurd h.symm e; exact h
      have k1 : leA a b = true := (List.pairwise_cons.1 s).1 b hb'
      have k2 : leA b a = true := (List.pairwise_cons.1 s').1 a ha'
      have k3 := (List.pairwise_cons.1 h).1 b hb'
      unfold leA at k1 k2
      simp only [decide_eq_true_eq] at k1 k2
      have := cfA_swap a b
      exact k3 (cfA_zero a b (by omega))
    subst hab
    rw [rising_one (List.Perm.cons_inv p) (List.pairwise_cons.1 h).2 (List.pairwise_cons.1 s).2 (List.pairwise_cons.1 s').2]
end Go.Proofs.YtffpbhbiamkkpaaDoor.ND
