/- What pidf's tests come to: each ends, and what a tuple that may be told is. No memory in sight. -/
import Derived.Test.YtidkjifilgjgfaaDoorMx8
import Derived.Test.YtidkjifilgjgfaaDoorPLx0
import Derived.Test.YtidkjifilgjgfaaDoorPLx1
import Derived.Test.YtidkjifilgjgfaaDoorPLx2
namespace Go.Proofs.YtidkjifilgjgfaaDoor.Pd
open Go Go.RowKit Go.Proofs.YtidkjifilgjgfaaDoorW.PrintWords Go.Proofs.YtidkjifilgjgfaaDoorW.PrintLast Go.Proofs.YtidkjifilgjgfaaDoorW.PrintMore Go.Proofs.YtidkjifilgjgfaaDoor.PL
open Go.Proofs.YtidkjifilgjgfaaDoor.ND (Nm At Nd zNd)
set_option linter.unusedVariables false
def Ends {α : Type} (g : Nat → Option α) : Prop := ∃ r, Ev g r
theorem Ends.now {α : Type} (r : α) : Ends (fun _ => some r) := ⟨r, Ev.now r⟩
theorem Ends.ite {α : Type} {c : Prop} [Decidable c] {A B : Nat → Option α} (h : c → Ends A) (k : ¬ c → Ends B) : Ends (fun n => if c then A n else B n) := by
  by_cases hc : c
  · simpa only [hc, if_true] using h hc
  · simpa only [hc, if_false] using k hc
theorem Ends.bind {α β : Type} {g : Nat → Option α} {f : Nat → α → Option β} (h : Ends g) (k : ∀ a, Ends (fun n => f n a)) : Ends (fun n => (g n).bind (f n)) := by
  obtain ⟨a, ha⟩ := h
  obtain ⟨r, hr⟩ := k a
  exact ⟨r, Ev.bind ha hr⟩
theorem Ends.step {α : Type} {g f : Nat → Option α} (h : ∀ k, g (k + 1) = f k) (k : Ends f) : Ends g := by
  obtain ⟨r, hr⟩ := k
  exact ⟨r, Ev.step h hr⟩
theorem wr {x : Int} (h0 : -9223372036854775808 ≤ x) (h1 : x ≤ 9223372036854775807) : wrap64 x = x := by
  unfold wrap64; omega
theorem blank_some (c : Int) : ∃ b, yh5.f c = some b := by
  unfold yh5.f
  split
  · exact ⟨_, rfl⟩
  split
  · exact ⟨_, rfl⟩
  split
  · exact ⟨_, rfl⟩
  exact ⟨_, rfl⟩
theorem size_pos {s : ByteArray} (h : ¬ s.toList = []) : 1 ≤ s.size := by
  rw [Lib.toList_data] at h
  rw [Lib.size_eq]
  cases h2 : s.data.toList with
  | nil => exact absurd h2 h
  | cons a l => simp
theorem trim1_ends : ∀ (n : Nat) (s : ByteArray), s.size ≤ n → s.size ≤ 140737488351232 → Ends (fun k => ye0.l1 k s)
  | n, s, hn, hs => by
    refine Ends.step (fun k => by rw [ye0.l1]) ?_
    refine Ends.ite (fun _ => Ends.now _) (fun he => ?_)
    have hp := size_pos he
    have e1 : wrap64 ((s.size : Int) - 1) = (s.size : Int) - 1 := wr (by omega) (by omega)
    rw [e1]
    refine Ends.ite (fun _ => ?_) (fun h => absurd (show (0 : Int) ≤ (s.size : Int) - 1 by omega) h)
    refine Ends.ite (fun _ => ?_) (fun h => absurd (show (s.size : Int) - 1 < (s.size : Int) by omega) h)
    obtain ⟨b, hb⟩ := blank_some (bt s ((s.size : Int) - 1))
    rw [hb]
    refine Ends.bind (Ends.now b) (fun t => ?_)
    refine Ends.ite (fun _ => ?_) (fun _ => Ends.now _)
    refine Ends.ite (fun _ => ?_) (fun h => absurd (show (s.size : Int) - 1 ≤ (s.size : Int) by omega) h)
    cases n with
    | zero => omega
    | succ n =>
      have hz : (s.extract 0 ((s.size : Int) - 1).toNat).size ≤ s.size - 1 := by
        rw [ByteArray.size_extract]
        omega
      exact trim1_ends n _ (by omega) (by omega)
theorem trim0_ends : ∀ (n : Nat) (s : ByteArray), s.size ≤ n → s.size ≤ 140737488351232 → Ends (fun k => ye0.l0 k s)
  | n, s, hn, hs => by
    have hj : Ends (fun k => ye0.j1 k s) := Ends.step (f := fun k => ye0.l1 k s) (fun k => by rw [ye0.j1]) (trim1_ends n s hn hs)
    refine Ends.step (fun k => by rw [ye0.l0]) ?_
    refine Ends.ite (fun _ => hj) (fun he => ?_)
    have hp := size_pos he
    refine Ends.ite (fun _ => ?_) (fun h => absurd (show (0 : Int) < (s.size : Int) by omega) h)
    obtain ⟨b, hb⟩ := blank_some (bt s 0)
    rw [hb]
    refine Ends.bind (Ends.now b) (fun t => ?_)
    refine Ends.ite (fun _ => ?_) (fun _ => hj)
    refine Ends.ite (fun _ => ?_) (fun h => absurd (show (1 : Int) ≤ (s.size : Int) by omega) h)
    cases n with
    | zero => omega
    | succ n =>
      have hz : (s.extract 1 s.size).size ≤ s.size - 1 := by
        rw [ByteArray.size_extract]
        omega
      exact trim0_ends n _ (by omega) (by omega)
theorem yl1 (s : ByteArray) (hs : s.size ≤ 140737488351232) : Ends (fun k => yb6.f k s) :=
  Ends.bind (trim0_ends s.size s (Nat.le_refl _) hs) (fun _ => Ends.now _)
theorem noted_ends (l : List ByteArray) (hl : l.length ≤ 1000000000) (hs : ∀ s ∈ l, s.size ≤ 140737488351232) : Ends (fun k => yc2.f k l) := by
  have key : ∀ (d i : Nat), i + d = l.length → Ends (fun k => yc2.l0 k l l (l.length : Int) (i : Int)) := by
    intro d
    induction d with
    | zero =>
      intro i hi
      refine Ends.step (fun k => by rw [yc2.l0]) ?_
      exact Ends.ite (fun h => by omega) (fun _ => Ends.now _)
    | succ d ih =>
      intro i hi
      have hlt : i < l.length := by omega
      refine Ends.step (fun k => by rw [yc2.l0]) ?_
      refine Ends.ite (fun _ => ?_) (fun h => by omega)
      refine Ends.ite (fun _ => ?_) (fun h => by omega)
      refine Ends.ite (fun _ => ?_) (fun h => by omega)
      have e : rdOf ByteArray.empty l (i : Int) = l[i] := by unfold rdOf; simp [hlt]
      rw [e]
      refine Ends.ite (fun _ => Ends.now _) (fun _ => ?_)
      refine Ends.bind (yl1 _ (hs _ (List.getElem_mem hlt))) (fun t => ?_)
      refine Ends.ite (fun _ => ?_) (fun _ => Ends.now _)
      rw [show wrap64 ((i : Int) + 1) = ((i + 1 : Nat) : Int) by rw [wr (by omega) (by omega)]; omega]
      exact ih (i + 1) (by omega)
  exact key l.length 0 (by omega)
theorem may_ends (x : Tu) (h2 : x.f2.size ≤ 140737488351232) (h3 : x.f3.size ≤ 140737488351232) (hl : x.f5.length ≤ 1000000000) (hs : ∀ s ∈ x.f5, s.size ≤ 140737488351232) : Ends (fun k => yk6.f k x.f0 x.f1 x.f2 x.f3 x.f4 x.f5 x.f6) := by
  have t2 := yl1 x.f2 h2
  have t3 := yl1 x.f3 h3
  have tn := noted_ends x.f5 hl hs
  unfold yk6.f
  repeat' first
    | exact Ends.now _
    | exact t2
    | exact t3
    | exact tn
    | (refine Ends.ite (fun _ => ?_) (fun _ => ?_))
    | (refine Ends.bind ?_ (fun _ => ?_))
theorem yo1 {k : Nat} {l : List ByteArray} (h : yc2.f k l = some true) : l.length ≤ 4 := by
  have key : ∀ (k : Nat) (n i : Int), yc2.l0 k l l n i = some true → l.length ≤ 4 := by
    intro k
    induction k with
    | zero => intro n i h; simp [yc2.l0] at h
    | succ k ih =>
      intro n i h
      rw [yc2.l0] at h
      split at h
      · split at h
        · split at h
          · split at h
            · simp at h
            · obtain ⟨t, _, h⟩ := Option.bind_eq_some_iff.1 h
              split at h
              · exact ih _ _ h
              · simp at h
          · simp at h
        · simp at h
      · simp at h
        omega
  exact key _ _ _ h
theorem yk8 {A B C : Option Bool} {P : Prop} [Decidable P] (h : (A.bind fun t => if t = true then (B.bind fun t => if t = true then (C.bind fun t => if t = true then (some (decide P)) else (some false)) else (some false)) else (some false)) = some true) : C = some true ∧ P := by
  obtain ⟨a, _, h⟩ := Option.bind_eq_some_iff.1 h
  split at h
  · obtain ⟨b, _, h⟩ := Option.bind_eq_some_iff.1 h
    split at h
    · obtain ⟨c, hc, h⟩ := Option.bind_eq_some_iff.1 h
      split at h
      · rename_i hct
        subst hct
        exact ⟨hc, by simpa using h⟩
      · cases h
    · cases h
  · cases h
theorem told_of (x : Tu) (h6 : 0 ≤ x.f6) (hm : MayIs x true) : Told x := by
  obtain ⟨k, hk⟩ := hm
  unfold yk6.f at hk
  have q0 : x.f4 ≥ 0 := by
    rcases Decidable.em (x.f4 ≥ 0) with h | h
    · exact h
    · simp only [if_neg h, ite_self] at hk
      cases hk
  simp only [if_pos q0] at hk
  have q1 : x.f4 ≤ 1000 := by
    rcases Decidable.em (x.f4 ≤ 1000) with h | h
    · exact h
    · simp only [if_neg h, ite_self] at hk
      cases hk
  simp only [if_pos q1] at hk
  have q2 : ¬ x.f0.toList = [] := by
    intro h
    simp only [if_pos h, ite_self] at hk
    cases hk
  simp only [if_neg q2] at hk
  have leaf : ∀ {P : Prop}, (yc2.f k x.f5 = some true ∧ x.f6 ≤ 4294967295 → P) → (((yb6.f k x.f3).bind fun t => if t = true then ((yb6.f k x.f2).bind fun t => if t = true then ((yc2.f k x.f5).bind fun t => if t = true then (some (decide (x.f6 ≤ 4294967295))) else (some false)) else (some false)) else (some false)) = some true → P) := fun hp h => hp (yk8 h)
  rcases Decidable.em (x.f4 = 0) with h4 | h4
  · simp only [if_pos h4] at hk
    have fin : yc2.f k x.f5 = some true ∧ x.f6 ≤ 4294967295 := by
      rcases Decidable.em (x.f1.toList = []) with a | a
      · simp only [if_pos a] at hk
        exact yk8 hk
      simp only [if_neg a] at hk
      rcases Decidable.em (x.f1.toList = [111, 112, 101, 110]) with b | b
      · simp only [if_pos b] at hk
        exact yk8 hk
      simp only [if_neg b] at hk
      rcases Decidable.em (x.f1.toList = [99, 108, 111, 115, 101, 100]) with c | c
      · simp only [if_pos c] at hk
        exact yk8 hk
      simp only [if_neg c] at hk
      cases hk
    exact ⟨yo1 fin.1, q0, q1, fun h => by omega, h6, fin.2⟩
  · simp only [if_neg h4] at hk
    have q5 : ¬ x.f2.toList = [] := by
      intro h
      simp only [if_pos h, ite_self] at hk
      cases hk
    simp only [if_neg q5] at hk
    have fin : yc2.f k x.f5 = some true ∧ x.f6 ≤ 4294967295 := by
      rcases Decidable.em (x.f1.toList = []) with a | a
      · simp only [if_pos a] at hk
        exact yk8 hk
      simp only [if_neg a] at hk
      rcases Decidable.em (x.f1.toList = [111, 112, 101, 110]) with b | b
      · simp only [if_pos b] at hk
        exact yk8 hk
      simp only [if_neg b] at hk
      rcases Decidable.em (x.f1.toList = [99, 108, 111, 115, 101, 100]) with c | c
      · simp only [if_pos c] at hk
        exact yk8 hk
      simp only [if_neg c] at hk
      cases hk
    exact ⟨yo1 fin.1, q0, q1, fun _ => q5, h6, fin.2⟩
end Go.Proofs.YtidkjifilgjgfaaDoor.Pd
