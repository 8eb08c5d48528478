/- Maps that the call itself has made, with strings or bools as elements: what a look-up, with and without ok, comes to. -/
import Derived.Test.YtffpbhbiamkkpaaDoorProg
import Derived.Maps.StringElems
import Derived.Maps.OwnSet
import Derived.Maps.Views
import Derived.WideKeyElems3
import Derived.KernelRfl
import Derived.Test.YtffpbhbiamkkpaaDoorWWords
namespace Go.Proofs.YtffpbhbiamkkpaaDoor.Mp
open Go Go.RowKit Go.ChangeMaps Go.MapKept Go.WideShapes
open Go.Maps (Keyed IsMap Tidy)
set_option linter.unusedVariables false
section
variable {P : Program} {w : World} {k t e : TypeId} {b n : Nat} {D : DataW Unit} {key : Value} {kl : Lit}
theorem str_eq {c c' : ByteArray} (h : c.data.toList = c'.data.toList) : c = c' := by
  cases c; cases c'
  exact congrArg ByteArray.mk (Array.toList_inj.1 h)
theorem look_str (h : w.ownsMap P k (plainElem P e) b n D) (K : Keyed P k) (ht : P.underlying t = some (.map k e)) (he : P.underlying e = some .string) (hz : (zeroValue e).run P w = .ok (.string ⟨#[]⟩) w)
    (hkey : keyOf P k key = some kl) (c : ByteArray) (hc : D.atKey kl (.lit (.string [])) = .lit (.string c.data.toList)) :
    (Instr.lookup t (.map (some b)) key false).run P w = .ok (.string c) w := by
  obtain ⟨v, ps, hrun, hv⟩ := h.lookup K ht hz (plainElem_string he (s := ⟨#[]⟩) (by decide)) hkey
  obtain ⟨c', rfl, hc', _⟩ := plainElem_string_inv he hv
  have e1 := congrArg Prod.fst hc'
  have e0 : (DataW.lit (.string []) : DataW Unit) = .lit (.string (⟨#[]⟩ : ByteArray).data.toList) := rfl
  rw [e0] at hc
  rw [hc] at e1
  injection e1 with e2
  injection e2 with e3
  obtain rfl := str_eq e3
  exact hrun
theorem look_str_ok (h : w.ownsMap P k (plainElem P e) b n D) (K : Keyed P k) (ht : P.underlying t = some (.map k e)) (he : P.underlying e = some .string) (hz : (zeroValue e).run P w = .ok (.string ⟨#[]⟩) w)
    (hkey : keyOf P k key = some kl) (c : ByteArray) (hh : Bool) (hc : D.atKey kl (.lit (.string [])) = .lit (.string c.data.toList)) (hb : Maps.has D kl = hh) :
    (Instr.lookup t (.map (some b)) key true).run P w = .ok (.tuple #[.string c, .bool hh]) w := by
  obtain ⟨v, ps, hrun, hv⟩ := h.look_ok K ht hz (plainElem_string he (s := ⟨#[]⟩) (by decide)) hkey
  obtain ⟨c', rfl, hc', _⟩ := plainElem_string_inv he hv
  have e1 := congrArg Prod.fst hc'
  have e0 : (DataW.lit (.string []) : DataW Unit) = .lit (.string (⟨#[]⟩ : ByteArray).data.toList) := rfl
  rw [e0] at hc
  rw [hc] at e1
  injection e1 with e2
  injection e2 with e3
  obtain rfl := str_eq e3
  rw [hb] at hrun
  exact hrun
theorem bool_inv {e : TypeId} (he : P.underlying e = some .bool) {v : Value} {z : DataW Unit × List MemPlace} (h : plainElem P e v = some z) : ∃ b : Bool, v = .bool b ∧ z = (.lit (.bool b), []) := by
  unfold plainElem at h
  rw [he] at h
  cases v <;> simp at h
  exact ⟨_, rfl, h.symm⟩
theorem look_bool (h : w.ownsMap P k (plainElem P e) b n D) (K : Keyed P k) (ht : P.underlying t = some (.map k e)) (he : P.underlying e = some .bool) (hz : (zeroValue e).run P w = .ok (.bool false) w)
    (hkey : keyOf P k key = some kl) (c : Bool) (hc : D.atKey kl (.lit (.bool false)) = .lit (.bool c)) :
    (Instr.lookup t (.map (some b)) key false).run P w = .ok (.bool c) w := by
  obtain ⟨v, ps, hrun, hv⟩ := h.lookup K ht hz (plainElem_bool he false) hkey
  obtain ⟨c', rfl, hc'⟩ := bool_inv he hv
  have e1 := congrArg Prod.fst hc'
  rw [hc] at e1
  injection e1 with e2
  injection e2 with e3
  subst e3
  exact hrun
end
end Go.Proofs.YtffpbhbiamkkpaaDoor.Mp
-- PRINTED BY print.sh 35421559b90ae4d0a3588c463048766b98c2df88dd9212a6774a882060cdf62d: not written by this session
/-! ### 58. A guarded operation whose guard is known to want it: the same goal without the guard -/
namespace Go.Proofs.YtffpbhbiamkkpaaDoorW.PrintWords
open Go.RowKit
section
variable {P : Program} {ops : Array Oper} {rest : List Oper} {o : Oper} {a : Act} {Q : Exit → Act → World → Prop} {W : World}
/-- The gate takes the guard off (hw: 'by rfl', 'by kernel_rfl': the guard's slot holds what is wanted). -/
theorem gate_guard (hw : Region.wanted o (yielded ops a.tmps) = true) (h : wpList P ops Q ({ o with guard := none } :: rest) a W) : wpList P ops Q (o :: rest) a W := by
  have h1 : Region.wanted { o with guard := none } (yielded ops a.tmps) = true := rfl
  unfold wpList at h ⊢
  rw [if_pos h1] at h
  rw [if_pos hw]
  exact h
end
end Go.Proofs.YtffpbhbiamkkpaaDoorW.PrintWords
-- PRINTED BY print.sh 35421559b90ae4d0a3588c463048766b98c2df88dd9212a6774a882060cdf62d: not written by this session
/-! ### 55. Reps told from the front, no append: for rows of one-cell elements and of wider ones -/
namespace Go.Proofs.YtffpbhbiamkkpaaDoorW.PrintWords
/-- More cells an element: told apart by the cells' list. -/
theorem Reps.front {α : Type} {R : α → List Value → Prop} {size : Nat} {ps : List α} {cs c all : List Value} {p : α} (hp : R p c) (hc : c.length = size) (h : Reps R size ps cs) (ha : c ++ cs = all) : Reps R size (p :: ps) all := by
  subst ha
  refine ⟨by rw [List.length_append, hc, h.1, List.length_cons, Nat.succ_mul, Nat.add_comm], fun j q hq => ?_⟩
  cases j with
  | zero =>
    simp only [List.getElem?_cons_zero, Option.some.injEq] at hq
    subst hq
    rw [Nat.zero_mul, List.drop_zero, List.take_append_of_le_length (by omega), List.take_of_length_le (by omega)]
    exact hp
  | succ j =>
    simp only [List.getElem?_cons_succ] at hq
    have h1 := h.2 j q hq
    rw [Nat.succ_mul, List.drop_append, List.drop_of_length_le (by rw [hc]; exact Nat.le_add_left _ _), List.nil_append, hc, Nat.add_sub_cancel]
    exact h1
theorem Reps.c2 {α : Type} {R : α → List Value → Prop} {ps : List α} {cs : List Value} {p : α} {va vb : Value} (hp : R p [va, vb]) (h : Reps R 2 ps cs) : Reps R 2 (p :: ps) (va :: vb :: cs) := Reps.front hp rfl h rfl
end Go.Proofs.YtffpbhbiamkkpaaDoorW.PrintWords
