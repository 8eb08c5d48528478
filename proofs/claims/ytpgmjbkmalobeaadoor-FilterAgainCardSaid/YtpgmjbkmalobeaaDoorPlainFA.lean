/- The plain law behind FilterAgain: what the printed functions come to at any grant and presence within the reach; no memory in sight. -/
import Derived.Test.YtpgmjbkmalobeaaDoorPAllx1
import Derived.Test.YtpgmjbkmalobeaaDoorPAllx2
import Derived.Test.YtpgmjbkmalobeaaDoorPAllx3
import Derived.Test.YtpgmjbkmalobeaaDoorPAllx4
import Derived.Test.YtpgmjbkmalobeaaDoorPAllx5
import Derived.Test.YtpgmjbkmalobeaaDoorPAllx6
import Derived.Test.YtpgmjbkmalobeaaDoorPAllx7
import Derived.Lib.Strings
namespace Go.Proofs.YtpgmjbkmalobeaaDoor.Plain
open Go.RowKit Go.Proofs.YtpgmjbkmalobeaaDoorW.PrintWords Go.Proofs.YtpgmjbkmalobeaaDoorW.PrintLast Go.Proofs.YtpgmjbkmalobeaaDoorW.PrintMore Go.Proofs.YtpgmjbkmalobeaaDoor.PAll

theorem toList_inj {a b : ByteArray} : a.toList = b.toList ↔ a = b := by
  constructor
  · intro h
    rw [Lib.toList_data, Lib.toList_data] at h
    have h2 := congrArg List.toArray h
    simp only [Array.toArray_toList] at h2
    cases a; cases b; simp_all
  · rintro rfl; rfl
theorem wrapS {i : Nat} (h : i < 9223372036854775807) : wrap64 ((i : Int) + 1) = ((i + 1 : Nat) : Int) := by
  unfold wrap64; omega
theorem rdOfS (l : List ByteArray) (i : Nat) (h : i < l.length) : rdOf ByteArray.empty l (i : Int) = l[i] := by
  unfold rdOf; simp [h]
theorem rdTS (l : List S38) (i : Nat) (h : i < l.length) : rd_T38 l (i : Int) = l[i] := by
  unfold rd_T38; simp [h]

def memB (l : List ByteArray) (c : ByteArray) : Bool := l.any fun y => decide (c.toList = y.toList)
theorem memB_cons (a : ByteArray) (l : List ByteArray) (c : ByteArray) : memB (a :: l) c = (decide (c.toList = a.toList) || memB l c) := rfl

theorem index_ev (l : List ByteArray) (c : ByteArray) (hl : l.length ≤ 9223372036854775807) :
    ∀ (d i : Nat), i + d = l.length → ∃ r : Int, Ev (fun k => slices_Index_string_string.l0 k l c (l.length : Int) (i : Int)) r ∧ (r ≥ 0 ↔ memB (l.drop i) c = true) := by
  intro d
  induction d with
  | zero =>
    intro i hi
    refine ⟨-1, Ev.step (f := fun _ => some (-1)) (fun k => by simp only [slices_Index_string_string.l0]; rw [if_neg (by omega)]) (Ev.now _), ?_⟩
    rw [List.drop_of_length_le (by omega)]; simp [memB]
  | succ d ih =>
    intro i hi
    have hlt : i < l.length := by omega
    by_cases hc : c.toList = l[i].toList
    · refine ⟨i, Ev.step (f := fun _ => some (i : Int)) (fun k => ?_) (Ev.now _), ?_⟩
      · simp only [slices_Index_string_string.l0]
        rw [if_pos (by omega), if_pos (by omega), if_pos (by omega), rdOfS l i hlt, if_pos hc]
      · rw [List.drop_eq_getElem_cons hlt, memB_cons]
        simp [hc]
    · obtain ⟨r, hr, hm⟩ := ih (i + 1) (by omega)
      refine ⟨r, Ev.step (f := fun k => slices_Index_string_string.l0 k l c (l.length : Int) ((i + 1 : Nat) : Int)) (fun k => ?_) hr, ?_⟩
      · simp only [slices_Index_string_string.l0]
        rw [if_pos (by omega), if_pos (by omega), if_pos (by omega), rdOfS l i hlt, if_neg hc, wrapS (by omega)]
      · rw [hm, List.drop_eq_getElem_cons hlt, memB_cons]
        simp [hc]
theorem contains_ev (l : List ByteArray) (c : ByteArray) (hl : l.length ≤ 9223372036854775807) : Ev (fun k => slices_Contains_string_string.f k l c) (memB l c) := by
  obtain ⟨r, hr, hm⟩ := index_ev l c hl l.length 0 (by omega)
  unfold slices_Contains_string_string.f slices_Index_string_string.f
  refine Ev.bind hr ?_
  have : decide (r ≥ 0) = memB l c := by rw [List.drop_zero] at hm; rw [Bool.eq_iff_iff]; simpa using hm
  rw [this]
  exact Ev.now _

/-- A grant, its parts in a row. -/
structure Gr where
  h : Int
  all : Bool
  cls : List ByteArray
  notes : Bool
  con : Bool
def seenB (g : Gr) (c : ByteArray) : Bool := g.all || (decide (c.toList ≠ []) && memB g.cls c)
def partS (g : Gr) (x : S38) : S38 := ⟨x.f0, x.f1, if g.con then x.f2 else ⟨#[]⟩, x.f3, if g.con then x.f4 else 0, if g.notes then x.f5 else [], x.f6⟩
def small (x : S38) : Prop := x.f5.length * 16 ≤ 140737488351232

theorem seen_ev (g : Gr) (hg : g.cls.length ≤ 9223372036854775807) (b0 b1 b2 b3 : ByteArray) (b4 : Int) (b5 : List ByteArray) (b6 : Int) :
    Ev (fun k => filter_seen.f k g.h g.all g.cls g.notes g.con b0 b1 b2 b3 b4 b5 b6) (seenB g b3) := by
  unfold filter_seen.f seenB
  cases ha : g.all with
  | true => simpa using Ev.now true
  | false =>
    simp only [Bool.false_eq_true, if_false, Bool.false_or]
    by_cases he : b3.toList = []
    · simp only [he, if_true]; simpa using Ev.now false
    · simp only [he, if_false, ne_eq, not_false_eq_true, decide_true, Bool.true_and]
      exact Ev.bind (contains_ev g.cls b3 hg) (Ev.now _)

theorem clone_some (l : List ByteArray) (h : l.length * 16 ≤ 140737488351232) : slices_Clone_string_string.f l = some l := by
  unfold slices_Clone_string_string.f; rw [if_pos (by omega)]

theorem part_some (g : Gr) (x : S38) (hx : small x) : filter_part.f g.h g.all g.cls g.notes g.con x.f0 x.f1 x.f2 x.f3 x.f4 x.f5 x.f6 = some (let y := partS g x; (y.f0, y.f1, y.f2, y.f3, y.f4, y.f5, y.f6)) := by
  have h1 := clone_some x.f5 hx
  have h2 := clone_some [] (by simp)
  unfold filter_part.f partS
  cases g.notes <;> cases g.con <;> simp [h1, h2]

/-- What is seen of a presence: entity, tuples, notes. -/
def sel (g : Gr) (l : List S38) : List S38 := (l.filter fun x => seenB g x.f3).map (partS g)
def notesS (g : Gr) (m : List ByteArray) : List ByteArray := if g.notes then m else []

theorem apply_l0_ev (g : Gr) (hg : g.cls.length ≤ 9223372036854775807) (e e2 : ByteArray) (l : List S38) (m : List ByteArray) (hl : l.length * 104 ≤ 140737488351232) (hs : ∀ x ∈ l, small x) (hm : m.length * 16 ≤ 140737488351232) :
    ∀ (d i : Nat) (out : List S38), i + d = l.length → out.length ≤ i →
      Ev (fun k => filter_Apply.l0 k l (l.length : Int) (i : Int) g.h g.all g.cls g.notes g.con e l m e2 out) (e2, out ++ sel g (l.drop i), notesS g m) := by
  intro d
  induction d with
  | zero =>
    intro i out hi ho
    refine Ev.step (f := fun _ => some (e2, out, notesS g m)) (fun k => ?_) (by rw [List.drop_of_length_le (by omega)]; simpa [sel] using Ev.now _)
    simp only [filter_Apply.l0]
    rw [if_neg (by omega), clone_some m hm]
    unfold notesS
    cases g.notes <;> simp
  | succ d ih =>
    intro i out hi ho
    have hlt : i < l.length := by omega
    have hx := hs l[i] (List.getElem_mem hlt)
    have hd : l.drop i = l[i] :: l.drop (i + 1) := List.drop_eq_getElem_cons hlt
    have step : ∀ k, filter_Apply.l0 (k + 1) l (l.length : Int) (i : Int) g.h g.all g.cls g.notes g.con e l m e2 out =
        (filter_seen.f k g.h g.all g.cls g.notes g.con l[i].f0 l[i].f1 l[i].f2 l[i].f3 l[i].f4 l[i].f5 l[i].f6).bind fun t => if t = true then filter_Apply.l0 k l (l.length : Int) ((i + 1 : Nat) : Int) g.h g.all g.cls g.notes g.con e l m e2 (out ++ [partS g l[i]]) else filter_Apply.l0 k l (l.length : Int) ((i + 1 : Nat) : Int) g.h g.all g.cls g.notes g.con e l m e2 out := by
      intro k
      simp only [filter_Apply.l0]
      rw [if_pos (by omega), if_pos (by omega), if_pos (by omega), rdTS l i hlt, part_some g l[i] hx, wrapS (by omega)]
      simp only [Option.bind_some]
      rw [if_pos (show out.length < 1353245080339 by omega)]
    by_cases hsn : seenB g l[i].f3 = true
    · have h1 := ih (i + 1) (out ++ [partS g l[i]]) (by omega) (by simp; omega)
      have e1 : out ++ [partS g l[i]] ++ sel g (l.drop (i + 1)) = out ++ sel g (l.drop i) := by
        rw [hd]; unfold sel; simp only [List.filter_cons, hsn, if_true, List.map_cons, List.append_assoc, List.singleton_append]
      rw [e1] at h1
      exact Ev.step step (Ev.bind (seen_ev g hg _ _ _ _ _ _ _) (by simp only [hsn, if_true]; exact h1))
    · have h1 := ih (i + 1) out (by omega) (by omega)
      have hsf : seenB g l[i].f3 = false := by simpa using hsn
      have e1 : out ++ sel g (l.drop (i + 1)) = out ++ sel g (l.drop i) := by
        rw [hd]; unfold sel; simp only [List.filter_cons, hsf, Bool.false_eq_true, if_false]
      rw [e1] at h1
      exact Ev.step step (Ev.bind (seen_ev g hg _ _ _ _ _ _ _) (by simp only [hsf, Bool.false_eq_true, if_false]; exact h1))

/-- filter.Apply, whole. -/
def polite : S38 := ⟨⟨#[112, 111, 108, 105, 116, 101]⟩, ⟨#[99, 108, 111, 115, 101, 100]⟩, ⟨#[]⟩, ⟨#[]⟩, 0, [], 0⟩
def applyS (g : Gr) (e : ByteArray) (l : List S38) (m : List ByteArray) : ByteArray × List S38 × List ByteArray :=
  if g.h = 3 then (e, sel g l, notesS g m) else if g.h = 2 then (e, [polite], []) else (⟨#[]⟩, [], [])
theorem apply_ev (g : Gr) (hg : g.cls.length ≤ 9223372036854775807) (e : ByteArray) (l : List S38) (m : List ByteArray) (hl : l.length * 104 ≤ 140737488351232) (hs : ∀ x ∈ l, small x) (hm : m.length * 16 ≤ 140737488351232) :
    Ev (fun k => filter_Apply.f k g.h g.all g.cls g.notes g.con e l m) (applyS g e l m) := by
  unfold filter_Apply.f applyS
  by_cases h3 : g.h = 3
  · rw [if_pos h3]
    simp only [h3, if_true]
    have := apply_l0_ev g hg e e l m hl hs hm l.length 0 [] (by omega) (by simp)
    simpa [h3] using this
  · simp only [h3, if_false]
    by_cases h2 : g.h = 2
    · simp only [h2, if_true]; exact Ev.now _
    · simp only [h2, if_false]; exact Ev.now _

theorem seen_part (g : Gr) (x : S38) : seenB g (partS g x).f3 = seenB g x.f3 := rfl
theorem part_part (g : Gr) (x : S38) : partS g (partS g x) = partS g x := by
  unfold partS; cases g.con <;> cases g.notes <;> rfl
theorem sel_sel (g : Gr) (l : List S38) : sel g (sel g l) = sel g l := by
  unfold sel
  rw [List.filter_map, List.map_map]
  have h1 : ((fun x : S38 => seenB g x.f3) ∘ partS g) = fun x => seenB g x.f3 := rfl
  have h2 : (partS g ∘ partS g) = partS g := funext (part_part g)
  rw [h1, h2, List.filter_filter]
  simp
theorem notes_notes (g : Gr) (m : List ByteArray) : notesS g (notesS g m) = notesS g m := by
  unfold notesS; cases g.notes <;> rfl
theorem apply_apply (g : Gr) (e : ByteArray) (l : List S38) (m : List ByteArray) :
    applyS g (applyS g e l m).1 (applyS g e l m).2.1 (applyS g e l m).2.2 = applyS g e l m := by
  unfold applyS
  by_cases h3 : g.h = 3
  · simp only [h3, if_true, sel_sel, notes_notes]
  · by_cases h2 : g.h = 2
    · simp [h2]
    · simp [h3, h2]
theorem apply_small (g : Gr) (e : ByteArray) (l : List S38) (m : List ByteArray) (hl : l.length * 104 ≤ 140737488351232) (hs : ∀ x ∈ l, small x) (hm : m.length * 16 ≤ 140737488351232) :
    (applyS g e l m).2.1.length * 104 ≤ 140737488351232 ∧ (∀ x ∈ (applyS g e l m).2.1, small x) ∧ (applyS g e l m).2.2.length * 16 ≤ 140737488351232 := by
  unfold applyS
  split
  · refine ⟨?_, ?_, ?_⟩
    · have : (sel g l).length ≤ l.length := by unfold sel; rw [List.length_map]; exact List.length_filter_le _ _
      dsimp only
      omega
    · intro x hx
      unfold sel at hx
      obtain ⟨y, hy, rfl⟩ := List.mem_map.1 hx
      have := hs y (List.mem_filter.1 hy).1
      unfold small partS at *
      cases g.notes <;> simp_all
    · unfold notesS; cases g.notes <;> simp [hm]
  · split
    · refine ⟨by simp, ?_, by simp⟩
      intro x hx
      obtain rfl := List.mem_singleton.1 hx
      simp [small, polite]
    · simp

/-! the reference's Same, at one and the same presence -/
theorem same09_ev (l : List ByteArray) (hl : l.length ≤ 9223372036854775807) : Ev (fun k => watchbillref09_Same.f k l l) true := by
  have key : ∀ (d i : Nat), i + d = l.length → Ev (fun k => watchbillref09_Same.l0 k l l (i : Int)) true := by
    intro d
    induction d with
    | zero => intro i hi; exact Ev.step (f := fun _ => some true) (fun k => by simp only [watchbillref09_Same.l0]; rw [if_neg (by omega)]) (Ev.now _)
    | succ d ih =>
      intro i hi
      refine Ev.step (fun k => ?_) (ih (i + 1) (by omega))
      simp only [watchbillref09_Same.l0]
      rw [if_pos (by omega), if_pos (by omega), if_pos (by omega), if_pos trivial, wrapS (by omega)]
  unfold watchbillref09_Same.f
  simpa using key l.length 0 (by omega)
theorem one_ev (x : S38) (hx : small x) : Ev (fun k => watchbillref20_One.f k x.f0 x.f1 x.f2 x.f3 x.f4 x.f5 x.f6 x.f0 x.f1 x.f2 x.f3 x.f4 x.f5 x.f6) true := by
  unfold watchbillref20_One.f
  simp only [if_true]
  exact Ev.bind (same09_ev x.f5 (by unfold small at hx; omega)) (Ev.now _)
theorem same20_ev (e : ByteArray) (l : List S38) (m : List ByteArray) (hl : l.length * 104 ≤ 140737488351232) (hs : ∀ x ∈ l, small x) (hm : m.length * 16 ≤ 140737488351232) :
    Ev (fun k => watchbillref20_Same.f k e l m e l m) true := by
  have key : ∀ (d i : Nat), i + d = l.length → Ev (fun k => watchbillref20_Same.l0 k (i : Int) e l m e l m) true := by
    intro d
    induction d with
    | zero => intro i hi; exact Ev.step (f := fun _ => some true) (fun k => by simp only [watchbillref20_Same.l0]; rw [if_neg (by omega)]) (Ev.now _)
    | succ d ih =>
      intro i hi
      have hlt : i < l.length := by omega
      refine Ev.step (f := fun k => (watchbillref20_One.f k l[i].f0 l[i].f1 l[i].f2 l[i].f3 l[i].f4 l[i].f5 l[i].f6 l[i].f0 l[i].f1 l[i].f2 l[i].f3 l[i].f4 l[i].f5 l[i].f6).bind fun t => if t = true then watchbillref20_Same.l0 k ((i + 1 : Nat) : Int) e l m e l m else some false) (fun k => ?_)
        (Ev.bind (one_ev l[i] (hs _ (List.getElem_mem hlt))) (by simp only [if_true]; exact ih (i + 1) (by omega)))
      simp only [watchbillref20_Same.l0]
      rw [if_pos (by omega), if_pos (by omega), if_pos (by omega), rdTS l i hlt, wrapS (by omega)]
  unfold watchbillref20_Same.f
  simp only [if_true]
  refine Ev.bind (same09_ev m (by omega)) ?_
  refine Ev.step (f := fun k => watchbillref20_Same.l0 k 0 e l m e l m) (fun k => by simp only [watchbillref20_Same.j0]; simp) ?_
  exact key l.length 0 (by omega)

/-! Few comes to an end -/
theorem weigh_ev (l : List ByteArray) (hl : l.length ≤ 9223372036854775807) : ∃ r : Int, Ev (fun k => watchbilllaw20_weigh.f k l 20000) r := by
  have key : ∀ (d i : Nat) (a : Int), i + d = l.length → ∃ r, Ev (fun k => watchbilllaw20_weigh.l0 k l 20000 a (i : Int)) r := by
    intro d
    induction d with
    | zero => intro i a hi; exact ⟨a, Ev.step (f := fun _ => some a) (fun k => by simp only [watchbilllaw20_weigh.l0]; rw [if_neg (by omega)]) (Ev.now _)⟩
    | succ d ih =>
      intro i a hi
      by_cases ha : a ≤ 20000
      · obtain ⟨r, hr⟩ := ih (i + 1) _ (by omega)
        refine ⟨r, Ev.step (fun k => ?_) hr⟩
        simp only [watchbilllaw20_weigh.l0]
        rw [if_pos (by omega), if_pos ha, if_pos (by omega), wrapS (by omega)]
      · exact ⟨a, Ev.step (f := fun _ => some a) (fun k => by simp only [watchbilllaw20_weigh.l0]; rw [if_pos (by omega), if_neg ha]) (Ev.now _)⟩
  exact key l.length 0 0 (by omega)
theorem few_ev (e : ByteArray) (l : List S38) (m : List ByteArray) (hl : l.length * 104 ≤ 140737488351232) (hs : ∀ x ∈ l, small x) (hm : m.length * 16 ≤ 140737488351232) :
    ∃ r : Bool, Ev (fun k => watchbilllaw20_Few.f k e l m) r := by
  have key : ∀ (d i : Nat) (a : Int), i + d = l.length → ∃ r, Ev (fun k => watchbilllaw20_Few.l0 k a (i : Int) e l m) r := by
    intro d
    induction d with
    | zero => intro i a hi; exact ⟨_, Ev.step (f := fun _ => some (decide (a ≤ 20000))) (fun k => by simp only [watchbilllaw20_Few.l0]; rw [if_neg (by omega)]) (Ev.now _)⟩
    | succ d ih =>
      intro i a hi
      have hlt : i < l.length := by omega
      by_cases h40 : (i : Int) ≥ 40
      · exact ⟨false, Ev.step (f := fun _ => some false) (fun k => by simp only [watchbilllaw20_Few.l0]; rw [if_pos (by omega), if_pos h40]) (Ev.now _)⟩
      · obtain ⟨q, hq⟩ := weigh_ev l[i].f5 (by have := hs _ (List.getElem_mem hlt); unfold small at this; omega)
        have hstep : ∀ k, watchbilllaw20_Few.l0 (k + 1) a (i : Int) e l m = (watchbilllaw20_weigh.f k l[i].f5 20000).bind fun t => (if (wrap64 ((wrap64 ((wrap64 ((wrap64 ((wrap64 (a + (mn ((l[i].f0).size : Int) 20000))) + (mn ((l[i].f1).size : Int) 20000))) + (mn ((l[i].f2).size : Int) 20000))) + (mn ((l[i].f3).size : Int) 20000))) + t)) > 20000 then (some false) else (watchbilllaw20_Few.l0 k (wrap64 ((wrap64 ((wrap64 ((wrap64 ((wrap64 (a + (mn ((l[i].f0).size : Int) 20000))) + (mn ((l[i].f1).size : Int) 20000))) + (mn ((l[i].f2).size : Int) 20000))) + (mn ((l[i].f3).size : Int) 20000))) + t)) ((i + 1 : Nat) : Int) e l m)) := by
          intro k
          simp only [watchbilllaw20_Few.l0]
          rw [if_pos (by omega), if_neg h40, if_pos (by omega), rdTS l i hlt, wrapS (i := i) (by omega)]
        by_cases hbig : (wrap64 ((wrap64 ((wrap64 ((wrap64 ((wrap64 (a + (mn ((l[i].f0).size : Int) 20000))) + (mn ((l[i].f1).size : Int) 20000))) + (mn ((l[i].f2).size : Int) 20000))) + (mn ((l[i].f3).size : Int) 20000))) + q)) > 20000
        · exact ⟨false, Ev.step hstep (Ev.bind hq (by simp only [hbig, if_true]; exact Ev.now _))⟩
        · obtain ⟨r, hr⟩ := ih (i + 1) _ (by omega)
          exact ⟨r, Ev.step hstep (Ev.bind hq (by simp only [hbig, if_false]; exact hr))⟩
  obtain ⟨q, hq⟩ := weigh_ev m (by omega)
  obtain ⟨r, hr⟩ := key l.length 0 (wrap64 ((mn (e.size : Int) 20000) + q)) (by omega)
  exact ⟨r, Ev.bind hq hr⟩
end Go.Proofs.YtpgmjbkmalobeaaDoor.Plain
