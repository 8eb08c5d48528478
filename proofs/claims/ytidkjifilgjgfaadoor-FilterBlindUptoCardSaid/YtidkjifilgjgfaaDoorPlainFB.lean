/- The plain law behind FilterBlind: what the printed functions come to at any grant and presences; no memory in sight. -/
import Derived.Test.YtidkjifilgjgfaaDoorPAllx8
import Derived.Test.YtidkjifilgjgfaaDoorPurePid
import Derived.Lib.Strings
namespace Go.Proofs.YtidkjifilgjgfaaDoor.Plain
open Go.RowKit Go.Proofs.YtidkjifilgjgfaaDoorW.PrintWords Go.Proofs.YtidkjifilgjgfaaDoorW.PrintLast Go.Proofs.YtidkjifilgjgfaaDoorW.PrintMore Go.Proofs.YtidkjifilgjgfaaDoor.PAll
set_option linter.unusedVariables false

theorem toList_inj {a b : ByteArray} : a.toList = b.toList ↔ a = b := by
  constructor
  · intro h
    rw [Lib.toList_data, Lib.toList_data] at h
    have h2 := congrArg List.toArray h
    simp only [Array.toArray_toList] at h2
    cases a; cases b; simp_all
  · rintro rfl; rfl
theorem wrapS {i : Nat} (h : i < 9223372036854775807) : wrap64 ((i : Int) + 1) = ((i + 1 : Nat) : Int) := by
  unfold wrap64; omega
theorem rdOfS (l : List ByteArray) (i : Nat) (h : i < l.length) : rdOf ByteArray.empty l (i : Int) = l[i] := by
  unfold rdOf; simp [h]
theorem rdTS (l : List S38) (i : Nat) (h : i < l.length) : rd_T38 l (i : Int) = l[i] := by
  unfold rd_T38; simp [h]

def memB (l : List ByteArray) (c : ByteArray) : Bool := l.any fun y => decide (c.toList = y.toList)
theorem memB_cons (a : ByteArray) (l : List ByteArray) (c : ByteArray) : memB (a :: l) c = (decide (c.toList = a.toList) || memB l c) := rfl

theorem index_ev (l : List ByteArray) (c : ByteArray) (hl : l.length ≤ 9223372036854775807) :
    ∀ (d i : Nat), i + d = l.length → ∃ r : Int, Ev (fun k => yb7.l0 k l c (l.length : Int) (i : Int)) r ∧ (r ≥ 0 ↔ memB (l.drop i) c = true) := by
  intro d
  induction d with
  | zero =>
    intro i hi
    refine ⟨-1, Ev.step (f := fun _ => some (-1)) (fun k => by simp only [yb7.l0]; rw [if_neg (by omega)]) (Ev.now _), ?_⟩
    rw [List.drop_of_length_le (by omega)]; simp [memB]
  | succ d ih =>
    intro i hi
    have hlt : i < l.length := by omega
    by_cases hc : c.toList = l[i].toList
    · refine ⟨i, Ev.step (f := fun _ => some (i : Int)) (fun k => ?_) (Ev.now _), ?_⟩
      · simp only [yb7.l0]
        rw [if_pos (by omega), if_pos (by omega), if_pos (by omega), rdOfS l i hlt, if_pos hc]
      · rw [List.drop_eq_getElem_cons hlt, memB_cons]
        simp [hc]
    · obtain ⟨r, hr, hm⟩ := ih (i + 1) (by omega)
      refine ⟨r, Ev.step (f := fun k => yb7.l0 k l c (l.length : Int) ((i + 1 : Nat) : Int)) (fun k => ?_) hr, ?_⟩
      · simp only [yb7.l0]
        rw [if_pos (by omega), if_pos (by omega), if_pos (by omega), rdOfS l i hlt, if_neg hc, wrapS (by omega)]
      · rw [hm, List.drop_eq_getElem_cons hlt, memB_cons]
        simp [hc]
theorem contains_ev (l : List ByteArray) (c : ByteArray) (hl : l.length ≤ 9223372036854775807) : Ev (fun k => yc5.f k l c) (memB l c) := by
  obtain ⟨r, hr, hm⟩ := index_ev l c hl l.length 0 (by omega)
  unfold yc5.f yb7.f
  refine Ev.bind hr ?_
  have : decide (r ≥ 0) = memB l c := by rw [List.drop_zero] at hm; rw [Bool.eq_iff_iff]; simpa using hm
  rw [this]
  exact Ev.now _

/-- A grant, its parts in a row. -/
structure Gr where
  h : Int
  all : Bool
  cls : List ByteArray
  notes : Bool
  con : Bool
def seenB (g : Gr) (c : ByteArray) : Bool := g.all || (decide (c.toList ≠ []) && memB g.cls c)
def partS (g : Gr) (x : S38) : S38 := ⟨x.f0, x.f1, if g.con then x.f2 else ⟨#[]⟩, x.f3, if g.con then x.f4 else 0, if g.notes then x.f5 else [], x.f6⟩
def small (x : S38) : Prop := x.f5.length * 16 ≤ 140737488351232

theorem seen_ev (g : Gr) (hg : g.cls.length ≤ 9223372036854775807) (b0 b1 b2 b3 : ByteArray) (b4 : Int) (b5 : List ByteArray) (b6 : Int) :
    Ev (fun k => ye9.f k g.h g.all g.cls g.notes g.con b0 b1 b2 b3 b4 b5 b6) (seenB g b3) := by
  unfold ye9.f seenB
  cases ha : g.all with
  | true => simpa using Ev.now true
  | false =>
    simp only [Bool.false_eq_true, if_false, Bool.false_or]
    by_cases he : b3.toList = []
    · simp only [he, if_true]; simpa using Ev.now false
    · simp only [he, if_false, ne_eq, not_false_eq_true, decide_true, Bool.true_and]
      exact Ev.bind (contains_ev g.cls b3 hg) (Ev.now _)

theorem yo9 (l : List ByteArray) (h : l.length * 16 ≤ 140737488351232) : yc0.f l = some l := by
  unfold yc0.f; rw [if_pos (by omega)]

theorem part_some (g : Gr) (x : S38) (hx : small x) : yh1.f g.h g.all g.cls g.notes g.con x.f0 x.f1 x.f2 x.f3 x.f4 x.f5 x.f6 = some (let y := partS g x; (y.f0, y.f1, y.f2, y.f3, y.f4, y.f5, y.f6)) := by
  have h1 := yo9 x.f5 hx
  have h2 := yo9 [] (by simp)
  unfold yh1.f partS
  cases g.notes <;> cases g.con <;> simp [h1, h2]

/-- What is seen of a presence: entity, tuples, notes. -/
def sel (g : Gr) (l : List S38) : List S38 := (l.filter fun x => seenB g x.f3).map (partS g)
def notesS (g : Gr) (m : List ByteArray) : List ByteArray := if g.notes then m else []

theorem apply_l0_ev (g : Gr) (hg : g.cls.length ≤ 9223372036854775807) (e e2 : ByteArray) (l : List S38) (m : List ByteArray) (hl : l.length * 104 ≤ 140737488351232) (hs : ∀ x ∈ l, small x) (hm : m.length * 16 ≤ 140737488351232) :
    ∀ (d i : Nat) (out : List S38), i + d = l.length → out.length ≤ i →
      Ev (fun k => yb8.l0 k l (l.length : Int) (i : Int) g.h g.all g.cls g.notes g.con e l m e2 out) (e2, out ++ sel g (l.drop i), notesS g m) := by
  intro d
  induction d with
  | zero =>
    intro i out hi ho
    refine Ev.step (f := fun _ => some (e2, out, notesS g m)) (fun k => ?_) (by rw [List.drop_of_length_le (by omega)]; simpa [sel] using Ev.now _)
    simp only [yb8.l0]
    rw [if_neg (by omega), yo9 m hm]
    unfold notesS
    cases g.notes <;> simp
  | succ d ih =>
    intro i out hi ho
    have hlt : i < l.length := by omega
    have hx := hs l[i] (List.getElem_mem hlt)
    have hd : l.drop i = l[i] :: l.drop (i + 1) := List.drop_eq_getElem_cons hlt
    have step : ∀ k, yb8.l0 (k + 1) l (l.length : Int) (i : Int) g.h g.all g.cls g.notes g.con e l m e2 out =
        (ye9.f k g.h g.all g.cls g.notes g.con l[i].f0 l[i].f1 l[i].f2 l[i].f3 l[i].f4 l[i].f5 l[i].f6).bind fun t => if t = true then yb8.l0 k l (l.length : Int) ((i + 1 : Nat) : Int) g.h g.all g.cls g.notes g.con e l m e2 (out ++ [partS g l[i]]) else yb8.l0 k l (l.length : Int) ((i + 1 : Nat) : Int) g.h g.all g.cls g.notes g.con e l m e2 out := by
      intro k
      simp only [yb8.l0]
      rw [if_pos (by omega), if_pos (by omega), if_pos (by omega), rdTS l i hlt, part_some g l[i] hx, wrapS (by omega)]
      simp only [Option.bind_some]
      rw [if_pos (show out.length < 1353245080339 by omega)]
    by_cases hsn : seenB g l[i].f3 = true
    · have h1 := ih (i + 1) (out ++ [partS g l[i]]) (by omega) (by simp; omega)
      have e1 : out ++ [partS g l[i]] ++ sel g (l.drop (i + 1)) = out ++ sel g (l.drop i) := by
        rw [hd]; unfold sel; simp only [List.filter_cons, hsn, if_true, List.map_cons, List.append_assoc, List.singleton_append]
      rw [e1] at h1
      exact Ev.step step (Ev.bind (seen_ev g hg _ _ _ _ _ _ _) (by simp only [hsn, if_true]; exact h1))
    · have h1 := ih (i + 1) out (by omega) (by omega)
      have hsf : seenB g l[i].f3 = false := by simpa using hsn
      have e1 : out ++ sel g (l.drop (i + 1)) = out ++ sel g (l.drop i) := by
        rw [hd]; unfold sel; simp only [List.filter_cons, hsf, Bool.false_eq_true, if_false]
      rw [e1] at h1
      exact Ev.step step (Ev.bind (seen_ev g hg _ _ _ _ _ _ _) (by simp only [hsf, Bool.false_eq_true, if_false]; exact h1))

/-- filter.Apply, whole. -/
def polite : S38 := ⟨⟨#[112, 111, 108, 105, 116, 101]⟩, ⟨#[99, 108, 111, 115, 101, 100]⟩, ⟨#[]⟩, ⟨#[]⟩, 0, [], 0⟩
def applyS (g : Gr) (e : ByteArray) (l : List S38) (m : List ByteArray) : ByteArray × List S38 × List ByteArray :=
  if g.h = 3 then (e, sel g l, notesS g m) else if g.h = 2 then (e, [polite], []) else (⟨#[]⟩, [], [])
theorem ys4 (g : Gr) (hg : g.cls.length ≤ 9223372036854775807) (e : ByteArray) (l : List S38) (m : List ByteArray) (hl : l.length * 104 ≤ 140737488351232) (hs : ∀ x ∈ l, small x) (hm : m.length * 16 ≤ 140737488351232) :
    Ev (fun k => yb8.f k g.h g.all g.cls g.notes g.con e l m) (applyS g e l m) := by
  unfold yb8.f applyS
  by_cases h3 : g.h = 3
  · rw [if_pos h3]
    simp only [h3, if_true]
    have := apply_l0_ev g hg e e l m hl hs hm l.length 0 [] (by omega) (by simp)
    simpa [h3] using this
  · simp only [h3, if_false]
    by_cases h2 : g.h = 2
    · simp only [h2, if_true]; exact Ev.now _
    · simp only [h2, if_false]; exact Ev.now _

theorem apply_small (g : Gr) (e : ByteArray) (l : List S38) (m : List ByteArray) (hl : l.length * 104 ≤ 140737488351232) (hs : ∀ x ∈ l, small x) (hm : m.length * 16 ≤ 140737488351232) :
    (applyS g e l m).2.1.length * 104 ≤ 140737488351232 ∧ (∀ x ∈ (applyS g e l m).2.1, small x) ∧ (applyS g e l m).2.2.length * 16 ≤ 140737488351232 := by
  unfold applyS
  split
  · refine ⟨?_, ?_, ?_⟩
    · have : (sel g l).length ≤ l.length := by unfold sel; rw [List.length_map]; exact List.length_filter_le _ _
      dsimp only
      omega
    · intro x hx
      unfold sel at hx
      obtain ⟨y, hy, rfl⟩ := List.mem_map.1 hx
      have := hs y (List.mem_filter.1 hy).1
      unfold small partS at *
      cases g.notes <;> simp_all
    · unfold notesS; cases g.notes <;> simp [hm]
  · split
    · refine ⟨by simp, ?_, by simp⟩
      intro x hx
      obtain rfl := List.mem_singleton.1 hx
      simp [small, polite]
    · simp

/-! Few comes to an end -/
theorem weigh_ev (l : List ByteArray) (hl : l.length ≤ 9223372036854775807) : ∃ r : Int, Ev (fun k => yc3.f k l 20000) r := by
  have key : ∀ (d i : Nat) (a : Int), i + d = l.length → ∃ r, Ev (fun k => yc3.l0 k l 20000 a (i : Int)) r := by
    intro d
    induction d with
    | zero => intro i a hi; exact ⟨a, Ev.step (f := fun _ => some a) (fun k => by simp only [yc3.l0]; rw [if_neg (by omega)]) (Ev.now _)⟩
    | succ d ih =>
      intro i a hi
      by_cases ha : a ≤ 20000
      · obtain ⟨r, hr⟩ := ih (i + 1) _ (by omega)
        refine ⟨r, Ev.step (fun k => ?_) hr⟩
        simp only [yc3.l0]
        rw [if_pos (by omega), if_pos ha, if_pos (by omega), wrapS (by omega)]
      · exact ⟨a, Ev.step (f := fun _ => some a) (fun k => by simp only [yc3.l0]; rw [if_pos (by omega), if_neg ha]) (Ev.now _)⟩
  exact key l.length 0 0 (by omega)
theorem few_ev (e : ByteArray) (l : List S38) (m : List ByteArray) (hl : l.length * 104 ≤ 140737488351232) (hs : ∀ x ∈ l, small x) (hm : m.length * 16 ≤ 140737488351232) :
    ∃ r : Bool, Ev (fun k => yb4.f k e l m) r := by
  have key : ∀ (d i : Nat) (a : Int), i + d = l.length → ∃ r, Ev (fun k => yb4.l0 k a (i : Int) e l m) r := by
    intro d
    induction d with
    | zero => intro i a hi; exact ⟨_, Ev.step (f := fun _ => some (decide (a ≤ 20000))) (fun k => by simp only [yb4.l0]; rw [if_neg (by omega)]) (Ev.now _)⟩
    | succ d ih =>
      intro i a hi
      have hlt : i < l.length := by omega
      by_cases h40 : (i : Int) ≥ 40
      · exact ⟨false, Ev.step (f := fun _ => some false) (fun k => by simp only [yb4.l0]; rw [if_pos (by omega), if_pos h40]) (Ev.now _)⟩
      · obtain ⟨q, hq⟩ := weigh_ev l[i].f5 (by have := hs _ (List.getElem_mem hlt); unfold small at this; omega)
        have hstep : ∀ k, yb4.l0 (k + 1) a (i : Int) e l m = (yc3.f k l[i].f5 20000).bind fun t => (if (wrap64 ((wrap64 ((wrap64 ((wrap64 ((wrap64 (a + (mn ((l[i].f0).size : Int) 20000))) + (mn ((l[i].f1).size : Int) 20000))) + (mn ((l[i].f2).size : Int) 20000))) + (mn ((l[i].f3).size : Int) 20000))) + t)) > 20000 then (some false) else (yb4.l0 k (wrap64 ((wrap64 ((wrap64 ((wrap64 ((wrap64 (a + (mn ((l[i].f0).size : Int) 20000))) + (mn ((l[i].f1).size : Int) 20000))) + (mn ((l[i].f2).size : Int) 20000))) + (mn ((l[i].f3).size : Int) 20000))) + t)) ((i + 1 : Nat) : Int) e l m)) := by
          intro k
          simp only [yb4.l0]
          rw [if_pos (by omega), if_neg h40, if_pos (by omega), rdTS l i hlt, wrapS (i := i) (by omega)]
        by_cases hbig : (wrap64 ((wrap64 ((wrap64 ((wrap64 ((wrap64 (a + (mn ((l[i].f0).size : Int) 20000))) + (mn ((l[i].f1).size : Int) 20000))) + (mn ((l[i].f2).size : Int) 20000))) + (mn ((l[i].f3).size : Int) 20000))) + q)) > 20000
        · exact ⟨false, Ev.step hstep (Ev.bind hq (by simp only [hbig, if_true]; exact Ev.now _))⟩
        · obtain ⟨r, hr⟩ := ih (i + 1) _ (by omega)
          exact ⟨r, Ev.step hstep (Ev.bind hq (by simp only [hbig, if_false]; exact hr))⟩
  obtain ⟨q, hq⟩ := weigh_ev m (by omega)
  obtain ⟨r, hr⟩ := key l.length 0 (wrap64 ((mn (e.size : Int) 20000) + q)) (by omega)
  exact ⟨r, Ev.bind hq hr⟩

/-! the reference's Same: it ends, and where it is true the presences are the same -/
theorem same09_ev (l m : List ByteArray) (hl : l.length ≤ 9223372036854775800) (hm : m.length ≤ 9223372036854775800) : ∃ r, Ev (fun k => yc9.f k l m) r ∧ (r = true → l = m) := by
  unfold yc9.f
  by_cases hlen : l.length = m.length
  · simp only [if_pos (show (l.length : Int) = (m.length : Int) by omega)]
    have key : ∀ (d i : Nat), i + d = l.length → ∃ r, Ev (fun k => yc9.l0 k l m (i : Int)) r ∧ (r = true → l.drop i = m.drop i) := by
      intro d
      induction d with
      | zero =>
        intro i hi
        refine ⟨true, Ev.step (f := fun _ => some true) (fun k => by simp only [yc9.l0]; rw [if_neg (by omega)]) (Ev.now _), fun _ => ?_⟩
        rw [List.drop_of_length_le (by omega), List.drop_of_length_le (by omega)]
      | succ d ih =>
        intro i hi
        have h1 : i < l.length := by omega
        have h2 : i < m.length := by omega
        by_cases he : l[i].toList = m[i].toList
        · obtain ⟨r, hr, hq⟩ := ih (i + 1) (by omega)
          refine ⟨r, Ev.step (f := fun k => yc9.l0 k l m ((i + 1 : Nat) : Int)) (fun k => ?_) hr, fun h => ?_⟩
          · simp only [yc9.l0]
            rw [if_pos (by omega), if_pos (by omega), if_pos (by omega), rdOfS l i h1, rdOfS m i h2, if_pos he, wrapS (by omega)]
          · rw [List.drop_eq_getElem_cons h1, List.drop_eq_getElem_cons h2, toList_inj.1 he, hq h]
        · refine ⟨false, Ev.step (f := fun _ => some false) (fun k => ?_) (Ev.now _), fun h => by cases h⟩
          simp only [yc9.l0]
          rw [if_pos (by omega), if_pos (by omega), if_pos (by omega), rdOfS l i h1, rdOfS m i h2, if_neg he]
    obtain ⟨r, hr, hq⟩ := key l.length 0 (by omega)
    exact ⟨r, hr, fun h => by simpa using hq h⟩
  · simp only [if_neg (show ¬ (l.length : Int) = (m.length : Int) by omega)]
    exact ⟨false, Ev.now _, fun h => by cases h⟩
theorem one_ev (x y : S38) (hx : x.f5.length ≤ 9223372036854775800) (hy : y.f5.length ≤ 9223372036854775800) : ∃ r, Ev (fun k => ye6.f k x.f0 x.f1 x.f2 x.f3 x.f4 x.f5 x.f6 y.f0 y.f1 y.f2 y.f3 y.f4 y.f5 y.f6) r ∧ (r = true → x = y) := by
  unfold ye6.f
  by_cases h0 : x.f0.toList = y.f0.toList
  · simp only [if_pos h0]
    by_cases h1 : x.f1.toList = y.f1.toList
    · simp only [if_pos h1]
      by_cases h2 : x.f2.toList = y.f2.toList
      · simp only [if_pos h2]
        by_cases h3 : x.f3.toList = y.f3.toList
        · simp only [if_pos h3]
          by_cases h4 : x.f4 = y.f4
          · simp only [if_pos h4]
            by_cases h6 : x.f6 = y.f6
            · simp only [if_pos h6]
              obtain ⟨r, hr, hq⟩ := same09_ev x.f5 y.f5 hx hy
              refine ⟨r, Ev.bind hr (Ev.now _), fun h => ?_⟩
              cases x; cases y
              simp only at h0 h1 h2 h3 h4 h6 hq
              rw [toList_inj.1 h0, toList_inj.1 h1, toList_inj.1 h2, toList_inj.1 h3, h4, h6, hq h]
            · simp only [if_neg h6]; exact ⟨false, Ev.now _, fun h => by cases h⟩
          · simp only [if_neg h4]; exact ⟨false, Ev.now _, fun h => by cases h⟩
        · simp only [if_neg h3]; exact ⟨false, Ev.now _, fun h => by cases h⟩
      · simp only [if_neg h2]; exact ⟨false, Ev.now _, fun h => by cases h⟩
    · simp only [if_neg h1]; exact ⟨false, Ev.now _, fun h => by cases h⟩
  · simp only [if_neg h0]; exact ⟨false, Ev.now _, fun h => by cases h⟩
theorem same20_ev (e e' : ByteArray) (l l' : List S38) (m m' : List ByteArray) (hl : l.length * 104 ≤ 140737488351232) (hs : ∀ x ∈ l, small x) (hm : m.length * 16 ≤ 140737488351232) (hl' : l'.length * 104 ≤ 140737488351232) (hs' : ∀ x ∈ l', small x) (hm' : m'.length * 16 ≤ 140737488351232) :
    ∃ r, Ev (fun k => yb5.f k e l m e' l' m') r ∧ (r = true → e = e' ∧ l = l' ∧ m = m') := by
  have jt : Ev (fun k => yb5.j0 k true e l m e' l' m') false := Ev.step (f := fun _ => some false) (fun k => by simp only [yb5.j0]; simp) (Ev.now _)
  unfold yb5.f
  by_cases h0 : e.toList = e'.toList
  · simp only [if_pos h0]
    by_cases hlen : l.length = l'.length
    · simp only [if_pos (show (l.length : Int) = (l'.length : Int) by omega)]
      obtain ⟨b, hb, hbq⟩ := same09_ev m m' (by omega) (by omega)
      cases b with
      | false => exact ⟨false, Ev.bind hb jt, fun h => by cases h⟩
      | true =>
        have key : ∀ (d i : Nat), i + d = l.length → ∃ r, Ev (fun k => yb5.l0 k (i : Int) e l m e' l' m') r ∧ (r = true → l.drop i = l'.drop i) := by
          intro d
          induction d with
          | zero =>
            intro i hi
            refine ⟨true, Ev.step (f := fun _ => some true) (fun k => by simp only [yb5.l0]; rw [if_neg (by omega)]) (Ev.now _), fun _ => ?_⟩
            rw [List.drop_of_length_le (by omega), List.drop_of_length_le (by omega)]
          | succ d ih =>
            intro i hi
            have h1 : i < l.length := by omega
            have h2 : i < l'.length := by omega
            have z1 := hs _ (List.getElem_mem h1)
            have z2 := hs' _ (List.getElem_mem h2)
            unfold small at z1 z2
            obtain ⟨t, ht, htq⟩ := one_ev l[i] l'[i] (by omega) (by omega)
            have step : ∀ k, yb5.l0 (k + 1) (i : Int) e l m e' l' m' = (ye6.f k l[i].f0 l[i].f1 l[i].f2 l[i].f3 l[i].f4 l[i].f5 l[i].f6 l'[i].f0 l'[i].f1 l'[i].f2 l'[i].f3 l'[i].f4 l'[i].f5 l'[i].f6).bind fun t => if t = true then yb5.l0 k ((i + 1 : Nat) : Int) e l m e' l' m' else some false := by
              intro k
              simp only [yb5.l0]
              rw [if_pos (by omega), if_pos (by omega), if_pos (by omega), rdTS l i h1, rdTS l' i h2, wrapS (by omega)]
            cases t with
            | true =>
              obtain ⟨r, hr, hq⟩ := ih (i + 1) (by omega)
              refine ⟨r, Ev.step step (Ev.bind ht (by simpa using hr)), fun h => ?_⟩
              rw [List.drop_eq_getElem_cons h1, List.drop_eq_getElem_cons h2, htq rfl, hq h]
            | false => exact ⟨false, Ev.step step (Ev.bind ht (by simpa using Ev.now false)), fun h => by cases h⟩
        obtain ⟨r, hr, hq⟩ := key l.length 0 (by omega)
        refine ⟨r, Ev.bind hb (Ev.step (f := fun k => yb5.l0 k 0 e l m e' l' m') (fun k => by simp only [yb5.j0]; simp) hr), fun h => ⟨toList_inj.1 h0, by simpa using hq h, hbq rfl⟩⟩
    · simp only [if_neg (show ¬ (l.length : Int) = (l'.length : Int) by omega)]
      exact ⟨false, jt, fun h => by cases h⟩
  · simp only [if_neg h0]
    exact ⟨false, jt, fun h => by cases h⟩

theorem awake_20 : yc8.f 20 = some true := by kernel_rfl
theorem awake_ev : Ev (fun k => yc8.f k) true := Ev.of (fun k => yc8.mono k) awake_20
/-- What Body comes to. -/
theorem ys2 (g : Gr) (hg : g.cls.length ≤ 9223372036854775807) (e : ByteArray) (l : List S38) (m : List ByteArray) (hl : l.length * 104 ≤ 140737488351232) (hs : ∀ x ∈ l, small x) (hm : m.length * 16 ≤ 140737488351232) (has : Bool)
    (hP : ∀ l' m', (l' = l ∧ m' = m ∨ l' = [] ∧ m' = []) → ∃ r, Pd.pidF (applyS g e l' m').1 ((applyS g e l' m').2.1.map yd8) (applyS g e l' m').2.2 = some r) :
    ∃ r, Ev (fun k => yd0.f k g.h g.all g.cls g.notes g.con e l m has) r ∧
      (g.h = 2 ∨ g.h = 3 → ∃ z, Pd.pidF (applyS g e (if has = true then l else []) (if has = true then m else [])).1 ((applyS g e (if has = true then l else []) (if has = true then m else [])).2.1.map yd8) (applyS g e (if has = true then l else []) (if has = true then m else [])).2.2 = some z ∧ r = (if z.2 = 0 then z.1 else ⟨#[]⟩, 1)) ∧
      (¬ (g.h = 2 ∨ g.h = 3) → r = (⟨#[]⟩, if g.h = 1 then 2 else 3)) := by
  unfold yd0.f
  by_cases hh : g.h = 2 ∨ g.h = 3
  · simp only [if_pos hh]
    have ha := ys4 g hg e (if has = true then l else []) (if has = true then m else []) (by cases has with | true => simpa using hl | false => simp) (by cases has with | true => simpa using hs | false => simp) (by cases has with | true => simpa using hm | false => simp)
    obtain ⟨z, hz⟩ := hP (if has = true then l else []) (if has = true then m else []) (by cases has <;> simp)
    refine ⟨(if z.2 = 0 then z.1 else ⟨#[]⟩, 1), Ev.bind ha ?_, fun _ => ⟨z, hz, rfl⟩, fun h => absurd hh h⟩
    rw [hz]
    exact Ev.now _
  · simp only [if_neg hh]
    by_cases h1 : g.h = 1
    · simp only [if_pos h1]
      exact ⟨_, Ev.now _, fun h => absurd h hh, fun _ => rfl⟩
    · simp only [if_neg h1]
      exact ⟨_, Ev.now _, fun h => absurd h hh, fun _ => rfl⟩
set_option maxHeartbeats 800000 in
/-- The law. -/
theorem filterBlind_ev (g : Gr) (hg : g.cls.length * 16 ≤ 140737488351232) (e e' : ByteArray) (l l' : List S38) (m m' : List ByteArray) (hl : l.length * 104 ≤ 140737488351232) (hs : ∀ x ∈ l, small x) (hm : m.length * 16 ≤ 140737488351232) (hl' : l'.length * 104 ≤ 140737488351232) (hs' : ∀ x ∈ l', small x) (hm' : m'.length * 16 ≤ 140737488351232) (has had : Bool)
    (hP : ∀ l2 m2, (l2 = l ∧ m2 = m ∨ l2 = [] ∧ m2 = []) → ∃ r, Pd.pidF (applyS g e l2 m2).1 ((applyS g e l2 m2).2.1.map yd8) (applyS g e l2 m2).2.2 = some r)
    (hP' : ∀ l2 m2, (l2 = l' ∧ m2 = m' ∨ l2 = [] ∧ m2 = []) → ∃ r, Pd.pidF (applyS g e' l2 m2).1 ((applyS g e' l2 m2).2.1.map yd8) (applyS g e' l2 m2).2.2 = some r) :
    Ev (fun k => ya8.f k g.h g.all g.cls g.notes g.con e l m e' l' m' has had) true := by
  have jt : Ev (fun k => ya8.j0 k has had true g.h g.all g.cls g.notes g.con e l m e' l' m') true := Ev.step (f := fun _ => some true) (fun k => by simp only [ya8.j0]; simp) (Ev.now _)
  obtain ⟨r1, h1⟩ := few_ev e l m hl hs hm
  obtain ⟨r2, h2⟩ := few_ev e' l' m' hl' hs' hm'
  unfold ya8.f
  refine Ev.bind awake_ev ?_
  simp only [if_true]
  refine Ev.bind h1 ?_
  cases r1 with
  | false => simpa using jt
  | true =>
    simp only [if_true]
    refine Ev.bind h2 ?_
    cases r2 with
    | false => simpa using jt
    | true =>
      simp only [if_true]
      unfold yd6.f
      refine Ev.bind (Ev.now _) ?_
      by_cases h3 : (g.cls.length : Int) ≤ 200
      · simp only [h3, decide_true, if_true]
        by_cases he : e = e'
        · subst he
          have hb : (e.toList != e.toList) = false := by simp
          rw [hb]
          have hg' : g.cls.length ≤ 9223372036854775807 := by omega
          by_cases hh : g.h = 3
          · obtain ⟨b1, k1, q1, _⟩ := ys2 g hg' e l m hl hs hm true hP
            obtain ⟨b2, k2, q2, _⟩ := ys2 g hg' e l' m' hl' hs' hm' true hP'
            obtain ⟨z1, p1, e1⟩ := q1 (Or.inr hh)
            obtain ⟨z2, p2, e2⟩ := q2 (Or.inr hh)
            simp only [if_true] at p1 p2
            have step : ∀ k, ya8.j0 (k + 1) has had false g.h g.all g.cls g.notes g.con e l m e l' m' = ((yd0.f k g.h g.all g.cls g.notes g.con e l m true).bind fun bt212 => ((yd0.f k g.h g.all g.cls g.notes g.con e l' m' true).bind fun bt214 => (if bt212.2 = bt214.2 then (if bt212.1.toList = bt214.1.toList then (some true) else ((yb8.f k g.h g.all g.cls g.notes g.con e l m).bind fun bt216 => ((yb8.f k g.h g.all g.cls g.notes g.con e l' m').bind fun bt223 => ((yb5.f k bt216.1 bt216.2.1 bt216.2.2 bt223.1 bt223.2.1 bt223.2.2).bind fun t230 => (some (!t230)))))) else (none)))) := by
              intro k
              simp only [ya8.j0]
              rw [if_neg (by decide), if_pos hh]
            refine Ev.step step (Ev.bind k1 (Ev.bind k2 ?_))
            have e12 : b1.2 = b2.2 := by rw [e1, e2]
            simp only [if_pos e12]
            by_cases hq : b1.1.toList = b2.1.toList
            · simp only [if_pos hq]
              exact Ev.now _
            · simp only [if_neg hq]
              have a1 := ys4 g hg' e l m hl hs hm
              have a2 := ys4 g hg' e l' m' hl' hs' hm'
              obtain ⟨s1, s2, s3⟩ := apply_small g e l m hl hs hm
              obtain ⟨s4, s5, s6⟩ := apply_small g e l' m' hl' hs' hm'
              obtain ⟨t, ht, htq⟩ := same20_ev (applyS g e l m).1 (applyS g e l' m').1 _ _ _ _ s1 s2 s3 s4 s5 s6
              refine Ev.bind a1 (Ev.bind a2 (Ev.bind ht ?_))
              cases t with
              | false => exact Ev.now _
              | true =>
                exfalso
                obtain ⟨u1, u2, u3⟩ := htq rfl
                rw [u1, u2, u3, p2] at p1
                obtain rfl := Option.some.inj p1
                exact hq (by rw [e1, e2])
          · obtain ⟨b1, k1, q1, q3⟩ := ys2 g hg' e l m hl hs hm has hP
            obtain ⟨b2, k2, q2, q4⟩ := ys2 g hg' e l' m' hl' hs' hm' had hP'
            have hbb : b1 = b2 := by
              by_cases h22 : g.h = 2
              · obtain ⟨z1, p1, e1⟩ := q1 (Or.inl h22)
                obtain ⟨z2, p2, e2⟩ := q2 (Or.inl h22)
                have ha : ∀ l m, applyS g e l m = (e, [polite], []) := fun l m => by unfold applyS; rw [if_neg hh, if_pos h22]
                rw [ha] at p1 p2
                rw [p1] at p2
                obtain rfl := Option.some.inj p2
                rw [e1, e2]
              · have hn : ¬ (g.h = 2 ∨ g.h = 3) := fun h => h.elim h22 hh
                rw [q3 hn, q4 hn]
            have step : ∀ k, ya8.j0 (k + 1) has had false g.h g.all g.cls g.notes g.con e l m e l' m' = ((yd0.f k g.h g.all g.cls g.notes g.con e l m has).bind fun bt208 => ((yd0.f k g.h g.all g.cls g.notes g.con e l' m' had).bind fun bt210 => (if bt208.1.toList = bt210.1.toList then (some (bt208.2 == bt210.2)) else (none)))) := by
              intro k
              simp only [ya8.j0]
              rw [if_neg (by decide), if_neg hh]
            refine Ev.step step (Ev.bind k1 (Ev.bind k2 ?_))
            subst hbb
            simp only [if_true, beq_self_eq_true]
            exact Ev.now _
        · have hb : (e.toList != e'.toList) = true := by
            simp only [bne_iff_ne, ne_eq]
            exact fun h => he (toList_inj.1 h)
          rw [hb]
          exact jt
      · simp only [h3, decide_false, Bool.false_eq_true, if_false]
        exact jt
end Go.Proofs.YtidkjifilgjgfaaDoor.Plain
