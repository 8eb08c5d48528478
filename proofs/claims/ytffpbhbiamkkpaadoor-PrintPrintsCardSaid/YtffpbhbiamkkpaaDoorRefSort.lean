/- The reference's Sorted: for attributes of names apart it is the one rising row. -/
import Derived.Test.YtffpbhbiamkkpaaDoorRefName
import Derived.Test.YtffpbhbiamkkpaaDoorSrt
import Derived.Test.YtffpbhbiamkkpaaDoorM9
import Derived.Test.YtffpbhbiamkkpaaDoorPRx6
import Derived.Test.YtffpbhbiamkkpaaDoorPRx7
import Derived.Test.YtffpbhbiamkkpaaDoorPRx8
namespace Go.Proofs.YtffpbhbiamkkpaaDoor.PP
open Go Go.RowKit Go.Proofs.YtffpbhbiamkkpaaDoorW.PrintWords Go.Proofs.YtffpbhbiamkkpaaDoor.PR Go.Proofs.YtffpbhbiamkkpaaDoor.ND
open Go.Lib (compareBytes)
set_option linter.unusedVariables false
set_option linter.unusedSimpArgs false
theorem ys3 : ∀ a b : List UInt8, Op.bytesLess a b = decide (compareBytes a b < 0)
  | [], [] => by simp [Op.bytesLess, compareBytes]
  | [], _ :: _ => by simp [Op.bytesLess, compareBytes]
  | _ :: _, [] => by simp [Op.bytesLess, compareBytes]
  | a :: x, b :: y => by
    rw [Op.bytesLess, compareBytes, ys3 x y]
    by_cases h1 : a < b
    · simp [h1]
    · by_cases h2 : b < a
      · have : ¬ a = b := fun e => by rw [e] at h2; exact UInt8.lt_irrefl _ h2
        simp [h1, h2, this]
      · have : a = b := UInt8.le_antisymm (UInt8.not_lt.1 h2) (UInt8.not_lt.1 h1)
        simp [h1, h2, this]
def lessA (x y : At) : Bool := decide (cfA x y < 0)
theorem less_f (x y : At) : ye5.f x.f0.f0 x.f0.f1 x.f1 y.f0.f0 y.f0.f1 y.f1 = some (lessA x y) := by
  unfold ye5.f lessA cfA
  rw [ys3, ys3, Lib.toList_data, Lib.toList_data, Lib.toList_data, Lib.toList_data]
  by_cases h : x.f0.f0.data.toList = y.f0.f0.data.toList
  · rw [if_pos h, h, if_neg (by rw [yr8]; simp)]
  · rw [if_neg h, if_pos (fun e => h (cb_eq _ _ e))]
theorem rdA (l : List At) (i : Nat) (h : i < l.length) : rdAt l (i : Int) = l[i] := by unfold rdAt; simp [h]
theorem w64t (x : Int) (h0 : -1000000000 ≤ x) (h1 : x ≤ 1000000000) : wrap64 x = x := PL.w64 x (by omega) (by omega)
/-- An attribute put in where it belongs. -/
def ins (a : At) (out : List At) : List At := out.takeWhile (fun x => lessA x a) ++ a :: out.dropWhile (fun x => lessA x a)
theorem ins_at (a : At) (out : List At) (j : Nat) (hj : j ≤ out.length) (h1 : ∀ q, (h : q < j) → lessA (out[q]'(by omega)) a = true) (h2 : (h : j < out.length) → lessA out[j] a = false) : ins a out = out.take j ++ a :: out.drop j := by
  have t : out.takeWhile (fun x => lessA x a) = out.take j ∧ out.dropWhile (fun x => lessA x a) = out.drop j := by
    induction out generalizing j with
    | nil => simp
    | cons o out ih =>
      cases j with
      | zero =>
        have := h2 (by simp)
        simp only [List.getElem_cons_zero] at this
        simp [List.takeWhile, List.dropWhile, this]
      | succ j =>
        have h0 := h1 0 (by omega)
        simp only [List.getElem_cons_zero] at h0
        obtain ⟨x, y⟩ := ih j (by simpa using hj) (fun q hq => by have := h1 (q + 1) (by omega); simpa using this) (fun h => by have := h2 (by simpa using h); simpa using this)
        simp [List.takeWhile, List.dropWhile, h0, x, y]
  unfold ins
  rw [t.1, t.2]
theorem ins_len (a : At) (out : List At) : (ins a out).length = out.length + 1 := by
  have : (out.takeWhile (fun x => lessA x a) ++ out.dropWhile (fun x => lessA x a)).length = out.length := by rw [List.takeWhile_append_dropWhile]
  unfold ins
  simp only [List.length_append, List.length_cons] at this ⊢
  omega
theorem s_inner (l out : List At) (i : Nat) (hi : i < l.length) (ho : out.length ≤ 100000) (hl : l.length ≤ 100000) (R : List At) (h : ∃ K, ∀ k, K ≤ k → yb0.l0 k l (ins l[i] out) ((i + 1 : Nat) : Int) = some R) : ∀ (d j : Nat), out.length - j ≤ d → j ≤ out.length → (∀ q, (h : q < j) → (h2 : j ≤ out.length) → lessA (out[q]'(by omega)) l[i] = true) →
    ∃ K, ∀ k, K ≤ k → yb0.l1 k l out (i : Int) (j : Int) = some R := by
  have eta : (⟨(⟨(rdAt l (i : Int)).f0.f0, (rdAt l (i : Int)).f0.f1⟩ : Nm), (rdAt l (i : Int)).f1⟩ : At) = l[i] := by rw [rdA l i hi]
  have e1 : wrap64 ((i : Int) + 1) = ((i + 1 : Nat) : Int) := by rw [w64t _ (by omega) (by omega)]; omega
  obtain ⟨K, hK⟩ := h
  have fin : ∀ k j : Nat, K ≤ k → j ≤ out.length → ins l[i] out = out.take j ++ l[i] :: out.drop j → ((some (out.take ((j : Nat) : Int).toNat : List At)).bind fun y => if ([] : List At).length + y.length < 2932031007402 then ((some (([] : List At) ++ y : List At)).bind fun z => if z.length < 2932031007402 then ((some (z ++ [(⟨(⟨(rdAt l (i : Int)).f0.f0, (rdAt l (i : Int)).f0.f1⟩ : Nm), (rdAt l (i : Int)).f1⟩ : At)] : List At)).bind fun u => ((some (out.drop ((j : Nat) : Int).toNat : List At)).bind fun v => if u.length + v.length < 2932031007402 then yb0.l0 k l (u ++ v) (wrap64 ((i : Int) + 1)) else none)) else none) else none) = some R := by
    intro k j hk hj he
    simp only [Option.bind_some, Int.toNat_natCast, eta, e1, List.nil_append]
    have h1 : (out.take j).length = j := by rw [List.length_take]; omega
    have h2 : (out.drop j).length = out.length - j := List.length_drop
    rw [if_pos (by simp only [List.length_nil]; omega), if_pos (by omega), if_pos (by simp only [List.length_append, List.length_singleton]; omega)]
    have : out.take j ++ [l[i]] ++ out.drop j = ins l[i] out := by rw [he]; simp
    rw [this]
    exact hK k hk
  intro d
  induction d with
  | zero =>
    intro j hd hj hq
    obtain rfl : j = out.length := by omega
    refine ⟨K + 1, fun k hk => ?_⟩
    obtain ⟨k, rfl⟩ : ∃ m, k = m + 1 := ⟨k - 1, by omega⟩
    have f := fin k out.length (by omega) (Nat.le_refl _) (ins_at _ _ _ (Nat.le_refl _) (fun q h => hq q h (Nat.le_refl _)) (fun h => by omega))
    rw [yb0.l1, if_neg (by omega), if_pos (by omega), if_pos (by omega)]
    have p1 : (0 : Int) ≤ (i : Int) := by omega
    have p2 : (i : Int) < (l.length : Int) := by omega
    simp only [p1, p2, if_true]
    exact f
  | succ d ih =>
    intro j hd hj hq
    by_cases hlt : j < out.length
    · by_cases c : lessA out[j] l[i] = true
      · obtain ⟨K', hK'⟩ := ih (j + 1) (by omega) (by omega) (fun q h1 h2 => by
          by_cases e : q = j
          · subst e; exact c
          · exact hq q (by omega) hj)
        refine ⟨K' + 1, fun k hk => ?_⟩
        obtain ⟨k, rfl⟩ : ∃ m, k = m + 1 := ⟨k - 1, by omega⟩
        rw [yb0.l1, if_pos (by omega), if_pos (by omega), if_pos (by omega), if_pos (by omega), rdA out j hlt, rdA l i hi, less_f, Option.bind_some, if_pos c, w64t ((j : Int) + 1) (by omega) (by omega)]
        exact hK' k (by omega)
      · refine ⟨K + 1, fun k hk => ?_⟩
        obtain ⟨k, rfl⟩ : ∃ m, k = m + 1 := ⟨k - 1, by omega⟩
        have f := fin k j (by omega) hj (ins_at _ _ _ hj (fun q h => hq q h hj) (fun h => by simpa using c))
        rw [yb0.l1, if_pos (by omega), if_pos (by omega), if_pos (by omega), if_pos (by omega)]
        have eb : ∀ X Y : Option (List At), ((ye5.f (rdAt out (j : Int)).f0.f0 (rdAt out (j : Int)).f0.f1 (rdAt out (j : Int)).f1 (rdAt l (i : Int)).f0.f0 (rdAt l (i : Int)).f0.f1 (rdAt l (i : Int)).f1).bind fun t => if t = true then X else Y) = Y := by
          intro X Y
          rw [rdA out j hlt, rdA l i hi, less_f, Option.bind_some, if_neg c]
        rw [eb, if_pos (by omega)]
        exact f
    · obtain rfl : j = out.length := by omega
      exact ih out.length (by omega) hj hq
theorem s_outer (l : List At) (hl : l.length ≤ 50000) : ∀ (d i : Nat) (out : List At), l.length - i ≤ d → i ≤ l.length → out.length ≤ i → ∃ K, ∀ k, K ≤ k → yb0.l0 k l out (i : Int) = some ((l.drop i).foldl (fun o a => ins a o) out) := by
  intro d
  induction d with
  | zero =>
    intro i out hd hi ho
    refine ⟨1, fun k hk => ?_⟩
    obtain ⟨k, rfl⟩ : ∃ m, k = m + 1 := ⟨k - 1, by omega⟩
    rw [yb0.l0, if_neg (by omega), List.drop_eq_nil_of_le (by omega)]
    rfl
  | succ d ih =>
    intro i out hd hi ho
    by_cases hlt : i < l.length
    · have st := ih (i + 1) (ins l[i] out) (by omega) (by omega) (by rw [ins_len]; omega)
      obtain ⟨K, hK⟩ := s_inner l out i hlt (by omega) (by omega) _ st out.length 0 (by omega) (by omega) (fun q h => by omega)
      refine ⟨K + 1, fun k hk => ?_⟩
      obtain ⟨k, rfl⟩ : ∃ m, k = m + 1 := ⟨k - 1, by omega⟩
      rw [yb0.l0, if_pos (by omega), List.drop_eq_getElem_cons hlt, List.foldl_cons]
      exact hK k (by omega)
    · exact ih i out (by omega) hi ho
theorem ins_perm (a : At) (out : List At) : (ins a out).Perm (a :: out) := by
  unfold ins
  have := List.perm_middle (a := a) (l₁ := out.takeWhile (fun x => lessA x a)) (l₂ := out.dropWhile (fun x => lessA x a))
  rw [List.takeWhile_append_dropWhile] at this
  exact this
theorem ins_rising (a : At) (out : List At) (h : out.Pairwise (fun x y => leA x y = true)) : (ins a out).Pairwise (fun x y => leA x y = true) := by
  induction out with
  | nil => simp [ins]
  | cons o out ih =>
    obtain ⟨h1, h2⟩ := List.pairwise_cons.1 h
    cases c : lessA o a with
    | true =>
      have e : ins a (o :: out) = o :: ins a out := by unfold ins; simp [List.takeWhile, List.dropWhile, c]
      rw [e, List.pairwise_cons]
      refine ⟨fun x hx => ?_, ih h2⟩
      rcases List.mem_cons.1 ((ins_perm a out).mem_iff.1 hx) with rfl | hx
      · unfold lessA at c
        unfold leA
        simp only [decide_eq_true_eq] at c ⊢
        omega
      · exact h1 x hx
    | false =>
      have e : ins a (o :: out) = a :: o :: out := by unfold ins; simp [List.takeWhile, List.dropWhile, c]
      have hao : leA a o = true := by
        unfold lessA at c
        unfold leA
        have := yj4 o a
        simp only [decide_eq_false_iff_not, decide_eq_true_eq] at c ⊢
        omega
      rw [e, List.pairwise_cons]
      refine ⟨fun x hx => ?_, h⟩
      rcases List.mem_cons.1 hx with rfl | hx
      · exact hao
      · exact leA_trans _ _ _ hao (h1 x hx)
theorem fold_ins : ∀ (l out : List At), out.Pairwise (fun x y => leA x y = true) → (l.foldl (fun o a => ins a o) out).Pairwise (fun x y => leA x y = true) ∧ (l.foldl (fun o a => ins a o) out).Perm (l ++ out)
  | [], out, h => ⟨h, List.Perm.refl _⟩
  | a :: l, out, h => by
    obtain ⟨x, y⟩ := fold_ins l (ins a out) (ins_rising a out h)
    refine ⟨x, y.trans ?_⟩
    exact ((List.Perm.append_left l (ins_perm a out)).trans List.perm_middle)
theorem ref_sorted (l : List At) (hl : l.length ≤ 50000) (ha : Apart l) : ∃ K, ∀ k, K ≤ k → yb0.f k l = some (srt l) := by
  obtain ⟨K, hK⟩ := s_outer l hl l.length 0 [] (by omega) (by omega) (by simp)
  obtain ⟨x, y⟩ := fold_ins l [] List.Pairwise.nil
  rw [List.append_nil] at y
  have e : l.foldl (fun o a => ins a o) [] = srt l := yn8 (y.trans (yj2 l).symm) (ha.perm y.symm) x (yn7 l)
  refine ⟨K, fun k hk => ?_⟩
  have := hK k hk
  rw [List.drop_zero, e] at this
  exact this
end Go.Proofs.YtffpbhbiamkkpaaDoor.PP
