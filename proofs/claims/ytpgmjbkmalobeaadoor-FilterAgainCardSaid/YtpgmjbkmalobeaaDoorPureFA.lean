/- The plain law of FilterAgain itself: the printed function of the law comes to true at every grant and presence within the reach. -/
import Derived.Test.YtpgmjbkmalobeaaDoorPAllx8
import Derived.Test.YtpgmjbkmalobeaaDoorPlainFA
namespace Go.Proofs.YtpgmjbkmalobeaaDoor.Plain
open Go.RowKit Go.Proofs.YtpgmjbkmalobeaaDoorW.PrintWords Go.Proofs.YtpgmjbkmalobeaaDoorW.PrintLast Go.Proofs.YtpgmjbkmalobeaaDoorW.PrintMore Go.Proofs.YtpgmjbkmalobeaaDoor.PAll

theorem awake_20 : watchbilllaw23_awake.f 20 = some true := by kernel_rfl
theorem awake_ev : Ev (fun k => watchbilllaw23_awake.f k) true := Ev.of (fun k => watchbilllaw23_awake.mono k) awake_20

section
variable (g : Gr) (e : ByteArray) (l : List S38) (m : List ByteArray) (qe : ByteArray) (q : List S38) (qm : List ByteArray)

/-- What is asked of each tuple that is seen. -/
def fine (x : S38) : Prop := (g.notes = true ∨ x.f5 = []) ∧ (g.con = true ∨ (x.f2.toList = [] ∧ x.f4 = 0)) ∧ (g.all = true ∨ g.h ≠ 3 ∨ memB g.cls x.f3 = true)

theorem l1_ev (hg : g.cls.length ≤ 9223372036854775800) (x6 : Int) (b0 b1 b2 b3 : ByteArray) (b4 b6 : Int)
    (hn : Ev (fun k => watchbilllaw23_FilterAgain.l0 k (wrap64 (x6 + 1)) g.h g.all g.cls g.notes g.con e l m qe q qm) true) :
    ∀ (d i : Nat) (x8 : Bool), i + d = g.cls.length → (x8 = true ∨ memB (g.cls.drop i) b3 = true) →
      Ev (fun k => watchbilllaw23_FilterAgain.l1 k x6 x8 (i : Int) g.h g.all g.cls g.notes g.con e l m qe q qm b0 b1 b2 b3 b4 b6) true := by
  intro d
  induction d with
  | zero =>
    intro i x8 hi hx
    have hx8 : x8 = true := by
      rcases hx with h | h
      · exact h
      · rw [List.drop_of_length_le (by omega)] at h; simp [memB] at h
    subst hx8
    refine Ev.step (fun k => ?_) hn
    simp only [watchbilllaw23_FilterAgain.l1]
    rw [if_neg (by omega)]
    simp
  | succ d ih =>
    intro i x8 hi hx
    have hlt : i < g.cls.length := by omega
    cases x8 with
    | true =>
      refine Ev.step (fun k => ?_) (ih (i + 1) true (by omega) (.inl rfl))
      simp only [watchbilllaw23_FilterAgain.l1]
      rw [if_pos (by omega), wrapS (i := i) (by omega)]
      simp
    | false =>
      have hx' : memB (g.cls.drop i) b3 = true := by simpa using hx
      rw [List.drop_eq_getElem_cons hlt, memB_cons] at hx'
      refine Ev.step (fun k => ?_) (ih (i + 1) ((g.cls[i]).toList == b3.toList) (by omega) ?_)
      · simp only [watchbilllaw23_FilterAgain.l1]
        rw [if_pos (by omega), wrapS (i := i) (by omega), rdOfS g.cls i hlt]
        simp
      · rcases (Bool.or_eq_true _ _).mp hx' with h | h
        · left
          have := of_decide_eq_true h
          simp [this]
        · exact .inr h

theorem l0_ev (hg : g.cls.length ≤ 9223372036854775800) (hl : l.length * 104 ≤ 140737488351232) (hs : ∀ x ∈ l, small x) (hm : m.length * 16 ≤ 140737488351232)
    (hq : q.length * 104 ≤ 140737488351232) (hf : ∀ x ∈ q, fine g x) (hqm : g.notes = true ∨ qm = []) :
    ∀ (d i : Nat), i + d = q.length → Ev (fun k => watchbilllaw23_FilterAgain.l0 k (i : Int) g.h g.all g.cls g.notes g.con e l m qe q qm) true := by
  intro d
  induction d with
  | zero =>
    intro i hi
    let a : Gr := ⟨3, true, [], true, true⟩
    have ha : applyS a e l m = (e, l, m) := by
      have h1 : sel a l = l := by
        unfold sel
        have h2 : (fun x : S38 => seenB a x.f3) = fun _ => true := by funext x; rfl
        have h3 : partS a = id := by funext x; rfl
        rw [h2, h3]; simp
      simp [applyS, h1, notesS, a]
    have h1 : Ev (fun k => filter_Apply.f k 3 true ([] : List ByteArray) true true e l m) (e, l, m) := by
      have := apply_ev a (by simp [a]) e l m hl hs hm
      rw [ha] at this
      exact this
    refine Ev.step (f := fun k => (filter_Apply.f k 3 true ([] : List ByteArray) true true e l m).bind fun b => (watchbillref20_Same.f k b.1 b.2.1 b.2.2 e l m).bind fun t => if t = true then (if g.notes = true then some true else some ((qm.length : Int) == 0)) else none) (fun k => ?_) (Ev.bind h1 (Ev.bind (same20_ev e l m hl hs hm) ?_))
    · simp only [watchbilllaw23_FilterAgain.l0]
      rw [if_neg (by omega)]
    · simp only [if_true]
      cases hgn : g.notes with
      | true => exact Ev.now _
      | false =>
        have : qm = [] := by simpa [hgn] using hqm
        subst this
        exact Ev.now _
  | succ d ih =>
    intro i hi
    have hlt : i < q.length := by omega
    obtain ⟨f1, f2, f3⟩ := hf q[i] (List.getElem_mem hlt)
    have hn : Ev (fun k => watchbilllaw23_FilterAgain.l0 k (wrap64 ((i : Int) + 1)) g.h g.all g.cls g.notes g.con e l m qe q qm) true := by
      rw [wrapS (by omega)]; exact ih (i + 1) (by omega)
    have hj4 : ∀ x8 : Bool, (x8 = true ∨ memB g.cls q[i].f3 = true) → Ev (fun k => watchbilllaw23_FilterAgain.j4 k (i : Int) x8 g.h g.all g.cls g.notes g.con e l m qe q qm q[i].f0 q[i].f1 q[i].f2 q[i].f3 q[i].f4 q[i].f6) true := by
      intro x8 hx
      refine Ev.step (fun k => by simp only [watchbilllaw23_FilterAgain.j4]; rfl) (l1_ev g e l m qe q qm hg (i : Int) q[i].f0 q[i].f1 q[i].f2 q[i].f3 q[i].f4 q[i].f6 hn g.cls.length 0 x8 (by omega) (by simpa using hx))
    have hj3 : Ev (fun k => watchbilllaw23_FilterAgain.j3 k (i : Int) false g.h g.all g.cls g.notes g.con e l m qe q qm q[i].f0 q[i].f1 q[i].f2 q[i].f3 q[i].f4 q[i].f6) true := by
      by_cases hall : g.all = true
      · refine Ev.step (fun k => ?_) (hj4 true (.inl rfl))
        simp only [watchbilllaw23_FilterAgain.j3]
        rw [if_pos hall]; simp
      · refine Ev.step (fun k => ?_) (hj4 (g.h != 3) ?_)
        · simp only [watchbilllaw23_FilterAgain.j3]
          rw [if_neg hall]; simp
        · rcases f3 with h | h | h
          · exact absurd h hall
          · left; simpa using h
          · exact .inr h
    refine Ev.step (fun k => ?_) hj3
    simp only [watchbilllaw23_FilterAgain.l0]
    rw [if_pos (by omega), if_pos (by omega), rdTS q i hlt]
    rcases f1 with h1 | h1 <;> rcases f2 with h2 | ⟨h2, h2'⟩
    · rw [if_pos h1, if_pos h2]
    · rw [if_pos h1, if_pos h2, h2']; simp
    · rw [h1]; simp [h2]
    · rw [h1]; simp [h2, h2']

theorem filterAgain_ev (hg : g.cls.length * 16 ≤ 140737488351232) (hl : l.length * 104 ≤ 140737488351232) (hs : ∀ x ∈ l, small x) (hm : m.length * 16 ≤ 140737488351232) :
    Ev (fun k => watchbilllaw23_FilterAgain.f k g.h g.all g.cls g.notes g.con e l m) true := by
  unfold watchbilllaw23_FilterAgain.f
  refine Ev.bind awake_ev ?_
  simp only [if_true]
  obtain ⟨r, hr⟩ := few_ev e l m hl hs hm
  refine Ev.bind hr ?_
  have hend : Ev (fun k => watchbilllaw23_FilterAgain.j0 k true g.h g.all g.cls g.notes g.con e l m) true :=
    Ev.step (f := fun _ => some true) (fun k => by simp only [watchbilllaw23_FilterAgain.j0]; simp) (Ev.now _)
  cases r with
  | false => simpa using hend
  | true =>
    simp only [if_true]
    unfold watchbilllaw23_few.f
    simp only [Option.bind_some]
    by_cases hc : (g.cls.length : Int) ≤ 200
    · simp only [hc, decide_true, Bool.not_true]
      obtain ⟨a1, a2, a3⟩ := apply_small g e l m hl hs hm
      have A1 := apply_ev g (by omega) e l m hl hs hm
      have A2 := apply_ev g (by omega) (applyS g e l m).1 (applyS g e l m).2.1 (applyS g e l m).2.2 a1 a2 a3
      rw [apply_apply] at A2
      have A3 := same20_ev (applyS g e l m).1 (applyS g e l m).2.1 (applyS g e l m).2.2 a1 a2 a3
      have hf : ∀ x ∈ (applyS g e l m).2.1, fine g x := by
        intro x hx
        unfold applyS at hx
        by_cases h3 : g.h = 3
        · simp only [h3, if_true, sel] at hx
          obtain ⟨y, hy, rfl⟩ := List.mem_map.1 hx
          have hy2 : seenB g y.f3 = true := by simpa using (List.mem_filter.1 hy).2
          refine ⟨?_, ?_, ?_⟩
          · unfold partS; cases g.notes <;> simp
          · unfold partS; cases g.con <;> simp [Lib.toList_data]
          · unfold seenB at hy2
            cases ha : g.all with
            | true => exact .inl rfl
            | false => rw [ha] at hy2; simp at hy2; exact .inr (.inr hy2.2)
        · by_cases h2 : g.h = 2
          · simp only [h2, if_true] at hx
            have hx' : x = polite := by simpa using hx
            subst hx'
            exact ⟨.inr rfl, .inr ⟨by simp [polite, Lib.toList_data], rfl⟩, .inr (.inl h3)⟩
          · simp [h3, h2] at hx
      have hqm : g.notes = true ∨ (applyS g e l m).2.2 = [] := by
        unfold applyS notesS
        by_cases h3 : g.h = 3
        · simp only [h3, if_true]; cases g.notes <;> simp
        · by_cases h2 : g.h = 2 <;> simp [h3, h2]
      have hl0 := l0_ev g e l m (applyS g e l m).1 (applyS g e l m).2.1 (applyS g e l m).2.2 (by omega) hl hs hm a1 hf hqm (applyS g e l m).2.1.length 0 (by omega)
      refine Ev.step (fun k => by simp only [watchbilllaw23_FilterAgain.j0]; rfl) ?_
      simp only [Bool.false_eq_true, if_false]
      refine Ev.bind A1 (Ev.bind A2 (Ev.bind A3 ?_))
      simp only [if_true]
      refine Ev.step (fun k => by simp only [watchbilllaw23_FilterAgain.j1]; rfl) ?_
      simp only [Bool.false_eq_true, if_false]
      exact hl0
    · simp only [hc, decide_false, Bool.not_false]
      exact hend
end
end Go.Proofs.YtpgmjbkmalobeaaDoor.Plain
