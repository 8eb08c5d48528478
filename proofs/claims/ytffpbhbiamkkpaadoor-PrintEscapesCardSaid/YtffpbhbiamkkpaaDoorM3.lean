/- api.Name, api.Attr and api.Node as Lean data, and how they lie in memory. -/
import Derived.Test.YtffpbhbiamkkpaaDoorProg
import Derived.Test.YtffpbhbiamkkpaaDoorWWords
import Derived.Test.YtffpbhbiamkkpaaDoorWLast
import Derived.Test.YtffpbhbiamkkpaaDoorWMore
import Derived.Maps.StringElems
import Derived.Maps.OwnSet
import Derived.Maps.Views
import Derived.WideKeyElems3
import Derived.KernelRfl
import Derived.DeepKeys4
import Derived.Lib.Bytealg
import Derived.Sort.Statements
import Derived.WalkKit
import Derived.WalkSpells
import Derived.Test.YtffpbhbiamkkpaaDoorShelfC
import Derived.Test.YtffpbhbiamkkpaaDoorSortA
import Derived.Shelf.SlSortCmp.NoneTotal
namespace Go.Proofs.YtffpbhbiamkkpaaDoor.ND
open Go.RowKit Go.Proofs.YtffpbhbiamkkpaaDoorW.PrintWords Go.Proofs.YtffpbhbiamkkpaaDoorW.PrintLast Go.Proofs.YtffpbhbiamkkpaaDoorW.PrintMore
set_option linter.unusedVariables false

structure Nm where
  f0 : ByteArray
  f1 : ByteArray
def zNm : Nm := ⟨(⟨#[]⟩ : ByteArray), (⟨#[]⟩ : ByteArray)⟩
def kNm : Kd Nm := Kd.iso (Kd.pair Kd.string Kd.string) (fun x : Nm => (x.f0, x.f1))
theorem kNm_open {w : World} {x : Nm} {cs : List Value} (h : kNm.K w x cs) : cs = [.string x.f0, .string x.f1] := by
  obtain ⟨_, _, rfl, rfl, rfl⟩ := h
  exact rfl
theorem kNm_openM {w : World} {base : Nat} {ok : Nat → Prop} {x : Nm} {cs : List Value} (h : kNm.M w base ok x cs) : cs = [.string x.f0, .string x.f1] := by
  obtain ⟨_, _, rfl, rfl, rfl⟩ := h
  exact rfl
theorem kNm_mk (w : World) (x : Nm)  : kNm.K w x [.string x.f0, .string x.f1] := ⟨[.string x.f0], [.string x.f1], rfl, rfl, rfl⟩
theorem kNm_mkM (w : World) (base : Nat) (ok : Nat → Prop) (x : Nm)  : kNm.M w base ok x [.string x.f0, .string x.f1] := ⟨[.string x.f0], [.string x.f1], rfl, rfl, rfl⟩
def rdNm (xs : List Nm) (i : Int) : Nm := xs.getD i.toNat zNm
theorem atNm {w : World} {A : Option Addr} {n : Nat} {xs : List Nm} (h : Kd.C kNm w A n xs) (i : Int) (h0 : 0 ≤ i) (h1 : i < n) : ∃ ad , A = some ad ∧ w.cell? (ad.add (i.toNat * 2)) = some (.string (rdNm xs i).f0) ∧ w.cell? ⟨(ad.add (i.toNat * 2)).block, (ad.add (i.toNat * 2)).off + 1, none⟩ = some (.string (rdNm xs i).f1) := by
  obtain ⟨ad, c, e, _, hK, hc0⟩ := Kd.C_get h zNm i h0 h1
  have hc : ∀ j u, c[j]? = some u → w.cell? (ad.add (i.toNat * 2 + j)) = some u := hc0
  obtain rfl := kNm_open hK
  exact ⟨ad, e, hc 0 _ rfl, by rw [← add_field _ _ 1 (by omega)]; exact hc 1 _ rfl⟩


structure At where
  f0 : Nm
  f1 : ByteArray
def zAt : At := ⟨zNm, (⟨#[]⟩ : ByteArray)⟩
def kAt : Kd At := Kd.iso (Kd.pair kNm Kd.string) (fun x : At => (x.f0, x.f1))
theorem kAt_open {w : World} {x : At} {cs : List Value} (h : kAt.K w x cs) : cs = [.string x.f0.f0, .string x.f0.f1, .string x.f1] := by
  obtain ⟨_, _, rfl, s0, rfl⟩ := h
  obtain rfl := kNm_open s0
  exact rfl
theorem kAt_openM {w : World} {base : Nat} {ok : Nat → Prop} {x : At} {cs : List Value} (h : kAt.M w base ok x cs) : cs = [.string x.f0.f0, .string x.f0.f1, .string x.f1] := by
  obtain ⟨_, _, rfl, s0, rfl⟩ := h
  obtain rfl := kNm_openM s0
  exact rfl
theorem kAt_mk (w : World) (x : At)  : kAt.K w x [.string x.f0.f0, .string x.f0.f1, .string x.f1] := ⟨[.string x.f0.f0, .string x.f0.f1], [.string x.f1], rfl, (kNm_mk w x.f0 ), rfl⟩
theorem kAt_mkM (w : World) (base : Nat) (ok : Nat → Prop) (x : At)  : kAt.M w base ok x [.string x.f0.f0, .string x.f0.f1, .string x.f1] := ⟨[.string x.f0.f0, .string x.f0.f1], [.string x.f1], rfl, (kNm_mkM w base ok x.f0 ), rfl⟩
def rdAt (xs : List At) (i : Int) : At := xs.getD i.toNat zAt
theorem atAt {w : World} {A : Option Addr} {n : Nat} {xs : List At} (h : Kd.C kAt w A n xs) (i : Int) (h0 : 0 ≤ i) (h1 : i < n) : ∃ ad , A = some ad ∧ w.cell? (ad.add (i.toNat * 3)) = some (.string (rdAt xs i).f0.f0) ∧ w.cell? ⟨(ad.add (i.toNat * 3)).block, (ad.add (i.toNat * 3)).off + 1, none⟩ = some (.string (rdAt xs i).f0.f1) ∧ w.cell? ⟨(ad.add (i.toNat * 3)).block, (ad.add (i.toNat * 3)).off + 2, none⟩ = some (.string (rdAt xs i).f1) := by
  obtain ⟨ad, c, e, _, hK, hc0⟩ := Kd.C_get h zAt i h0 h1
  have hc : ∀ j u, c[j]? = some u → w.cell? (ad.add (i.toNat * 3 + j)) = some u := hc0
  obtain rfl := kAt_open hK
  exact ⟨ad, e, hc 0 _ rfl, by rw [← add_field _ _ 1 (by omega)]; exact hc 1 _ rfl, by rw [← add_field _ _ 2 (by omega)]; exact hc 2 _ rfl⟩

def rd_L4 (xs : List (List At)) (i : Int) : (List At) := xs.getD i.toNat ([] : List At)
theorem at_L4 {w : World} {A : Option Addr} {n : Nat} {xs : List (List At)} (h : Kd.C (Kd.slice 63 kAt) w A n xs) (i : Int) (h0 : 0 ≤ i) (h1 : i < n) : ∃ ad A0 c0, A = some ad ∧ w.cell? (ad.add i.toNat) = some (.slice A0 (rd_L4 xs i).length c0) ∧ (rd_L4 xs i).length ≤ c0 ∧ kAt.C w A0 (rd_L4 xs i).length (rd_L4 xs i) := by
  obtain ⟨ad, c, e, _, hK, hc0⟩ := Kd.C_get h ([] : List At) i h0 h1
  have hc : ∀ j u, c[j]? = some u → w.cell? (ad.add (i.toNat * 1 + j)) = some u := hc0
  obtain ⟨A0, c0, rfl, l0, g0⟩ := hK
  exact ⟨ad, A0, c0, e, by have hq := hc 0 _ rfl; rwa [Nat.mul_one, Nat.add_zero] at hq, l0, g0⟩


structure Nd where
  f0 : Int
  f1 : Nm
  f2 : (List At)
  f3 : (List Nd)
  f4 : ByteArray
def zNd : Nd := ⟨(0 : Int), zNm, ([] : List At), ([] : List Nd), (⟨#[]⟩ : ByteArray)⟩
def FNd (d : Kd Nd) : Kd Nd := Kd.iso (Kd.pair (Kd.int .i64) (Kd.pair kNm (Kd.pair (Kd.slice 63 kAt) (Kd.pair (Kd.slice 27 d) Kd.string)))) (fun x : Nd => (x.f0, x.f1, x.f2, x.f3, x.f4))
theorem monoNd : Kd.Mono FNd := Kd.mono_iso _ (Kd.mono_pair (Kd.mono_const _) (Kd.mono_pair (Kd.mono_const _) (Kd.mono_pair (Kd.mono_const _) (Kd.mono_pair (Kd.mono_slice 27 Kd.mono_id) (Kd.mono_const _)))))
theorem subNd : Kd.Sub FNd [63, 27] := Kd.sub_iso _ (Kd.sub_pair (Kd.sub_const _ (by decide)) (Kd.sub_pair (Kd.sub_const _ (by decide)) (Kd.sub_pair (Kd.sub_const _ (by decide)) (Kd.sub_pair (Kd.sub_slice 27 (by decide) Kd.sub_id) (Kd.sub_const _ (by decide))))))
theorem szNd : ∀ n, (Kd.upto FNd 6 [63, 27] n).sz = 6 := Kd.upto_sz (fun _ => rfl)
def kNd : Kd Nd := Kd.fix FNd 6 [63, 27] szNd (Kd.upto_E subNd)
theorem kNd_open {w : World} {x : Nd} {cs : List Value} (h : kNd.K w x cs) : ∃ A3 c3 A4 c4, cs = [.int .i64 x.f0, .string x.f1.f0, .string x.f1.f1, .slice A3 x.f2.length c3, .slice A4 x.f3.length c4, .string x.f4] ∧ x.f2.length ≤ c3 ∧ kAt.C w A3 x.f2.length x.f2 ∧ x.f3.length ≤ c4 ∧ kNd.C w A4 x.f3.length x.f3 := by
  obtain ⟨n, h⟩ := h
  cases n with
  | zero => exact h.elim
  | succ n =>
    obtain ⟨_, _, rfl, rfl, ⟨_, _, rfl, s1, ⟨_, _, rfl, ⟨A3, c3, rfl, l3, g3⟩, ⟨_, _, rfl, ⟨A4, c4, rfl, l4, g4⟩, rfl⟩⟩⟩⟩ := h
    obtain rfl := kNm_open s1
    exact ⟨A3, c3, A4, c4, rfl, l3, g3, l4, Kd.fix_C g4⟩
theorem kNd_openM {w : World} {base : Nat} {ok : Nat → Prop} {x : Nd} {cs : List Value} (h : kNd.M w base ok x cs) : ∃ v3 v4, cs = [.int .i64 x.f0, .string x.f1.f0, .string x.f1.f1, v3, v4, .string x.f4] ∧ kAt.R 63 w base ok v3 x.f2 ∧ kNd.R 27 w base ok v4 x.f3 := by
  obtain ⟨n, h⟩ := h
  cases n with
  | zero => exact h.elim
  | succ n =>
    obtain ⟨_, _, rfl, rfl, ⟨_, _, rfl, s1, ⟨_, _, rfl, ⟨v3, rfl, g3⟩, ⟨_, _, rfl, ⟨v4, rfl, g4⟩, rfl⟩⟩⟩⟩ := h
    obtain rfl := kNm_openM s1
    exact ⟨v3, v4, rfl, g3, Kd.fix_R g4⟩
theorem kNd_mk (w : World) (x : Nd) {A3 : Option Addr} {c3 : Nat} (l3 : x.f2.length ≤ c3) (g3 : kAt.C w A3 x.f2.length x.f2) {A4 : Option Addr} {c4 : Nat} (l4 : x.f3.length ≤ c4) (g4 : kNd.C w A4 x.f3.length x.f3) : kNd.K w x [.int .i64 x.f0, .string x.f1.f0, .string x.f1.f1, .slice A3 x.f2.length c3, .slice A4 x.f3.length c4, .string x.f4] := by
  obtain ⟨n4, q4⟩ := Kd.fix_C_back monoNd g4
  have r4 := Kd.upto_C_le monoNd szNd (show n4 ≤ n4 by omega) q4
  exact ⟨n4 + 1, ⟨[.int .i64 x.f0], [.string x.f1.f0, .string x.f1.f1, .slice A3 x.f2.length c3, .slice A4 x.f3.length c4, .string x.f4], rfl, rfl, ⟨[.string x.f1.f0, .string x.f1.f1], [.slice A3 x.f2.length c3, .slice A4 x.f3.length c4, .string x.f4], rfl, (kNm_mk w x.f1 ), ⟨[.slice A3 x.f2.length c3], [.slice A4 x.f3.length c4, .string x.f4], rfl, ⟨A3, c3, rfl, l3, g3⟩, ⟨[.slice A4 x.f3.length c4], [.string x.f4], rfl, ⟨A4, c4, rfl, l4, r4⟩, rfl⟩⟩⟩⟩⟩
theorem kNd_mkM (w : World) (base : Nat) (ok : Nat → Prop) (x : Nd) {v3 : Value} (g3 : kAt.R 63 w base ok v3 x.f2) {v4 : Value} (g4 : kNd.R 27 w base ok v4 x.f3) : kNd.M w base ok x [.int .i64 x.f0, .string x.f1.f0, .string x.f1.f1, v3, v4, .string x.f4] := by
  obtain ⟨n4, q4⟩ := Kd.fix_R_back monoNd g4
  have r4 := Kd.upto_R_le monoNd szNd (show n4 ≤ n4 by omega) q4
  exact ⟨n4 + 1, ⟨[.int .i64 x.f0], [.string x.f1.f0, .string x.f1.f1, v3, v4, .string x.f4], rfl, rfl, ⟨[.string x.f1.f0, .string x.f1.f1], [v3, v4, .string x.f4], rfl, (kNm_mkM w base ok x.f1 ), ⟨[v3], [v4, .string x.f4], rfl, ⟨v3, rfl, g3⟩, ⟨[v4], [.string x.f4], rfl, ⟨v4, rfl, r4⟩, rfl⟩⟩⟩⟩⟩
def rdNd (xs : List Nd) (i : Int) : Nd := xs.getD i.toNat zNd
theorem atNd {w : World} {A : Option Addr} {n : Nat} {xs : List Nd} (h : Kd.C kNd w A n xs) (i : Int) (h0 : 0 ≤ i) (h1 : i < n) : ∃ ad A3 c3 A4 c4, A = some ad ∧ w.cell? (ad.add (i.toNat * 6)) = some (.int .i64 (rdNd xs i).f0) ∧ w.cell? ⟨(ad.add (i.toNat * 6)).block, (ad.add (i.toNat * 6)).off + 1, none⟩ = some (.string (rdNd xs i).f1.f0) ∧ w.cell? ⟨(ad.add (i.toNat * 6)).block, (ad.add (i.toNat * 6)).off + 2, none⟩ = some (.string (rdNd xs i).f1.f1) ∧ w.cell? ⟨(ad.add (i.toNat * 6)).block, (ad.add (i.toNat * 6)).off + 3, none⟩ = some (.slice A3 (rdNd xs i).f2.length c3) ∧ w.cell? ⟨(ad.add (i.toNat * 6)).block, (ad.add (i.toNat * 6)).off + 4, none⟩ = some (.slice A4 (rdNd xs i).f3.length c4) ∧ w.cell? ⟨(ad.add (i.toNat * 6)).block, (ad.add (i.toNat * 6)).off + 5, none⟩ = some (.string (rdNd xs i).f4) ∧ (rdNd xs i).f2.length ≤ c3 ∧ kAt.C w A3 (rdNd xs i).f2.length (rdNd xs i).f2 ∧ (rdNd xs i).f3.length ≤ c4 ∧ kNd.C w A4 (rdNd xs i).f3.length (rdNd xs i).f3 := by
  obtain ⟨ad, c, e, _, hK, hc0⟩ := Kd.C_get h zNd i h0 h1
  have hc : ∀ j u, c[j]? = some u → w.cell? (ad.add (i.toNat * 6 + j)) = some u := hc0
  obtain ⟨A3, c3, A4, c4, rfl, l3, g3, l4, g4⟩ := kNd_open hK
  exact ⟨ad, A3, c3, A4, c4, e, hc 0 _ rfl, by rw [← add_field _ _ 1 (by omega)]; exact hc 1 _ rfl, by rw [← add_field _ _ 2 (by omega)]; exact hc 2 _ rfl, by rw [← add_field _ _ 3 (by omega)]; exact hc 3 _ rfl, by rw [← add_field _ _ 4 (by omega)]; exact hc 4 _ rfl, by rw [← add_field _ _ 5 (by omega)]; exact hc 5 _ rfl, l3, g3, l4, g4⟩

end Go.Proofs.YtffpbhbiamkkpaaDoor.ND
/- Maps that the call itself has made, with strings or bools as elements: what a look-up, with and without ok, comes to. -/
namespace Go.Proofs.YtffpbhbiamkkpaaDoor.Mp
open Go Go.RowKit Go.ChangeMaps Go.MapKept Go.WideShapes
open Go.Maps (Keyed IsMap Tidy)
set_option linter.unusedVariables false
section
variable {P : Program} {w : World} {k t e : TypeId} {b n : Nat} {D : DataW Unit} {key : Value} {kl : Lit}
theorem str_eq {c c' : ByteArray} (h : c.data.toList = c'.data.toList) : c = c' := by
  cases c; cases c'
  exact congrArg ByteArray.mk (Array.toList_inj.1 h)
theorem look_str (h : w.ownsMap P k (plainElem P e) b n D) (K : Keyed P k) (ht : P.underlying t = some (.map k e)) (he : P.underlying e = some .string) (hz : (zeroValue e).run P w = .ok (.string ⟨#[]⟩) w)
    (hkey : keyOf P k key = some kl) (c : ByteArray) (hc : D.atKey kl (.lit (.string [])) = .lit (.string c.data.toList)) :
    (Instr.lookup t (.map (some b)) key false).run P w = .ok (.string c) w := by
  obtain ⟨v, ps, hrun, hv⟩ := h.lookup K ht hz (plainElem_string he (s := ⟨#[]⟩) (by decide)) hkey
  obtain ⟨c', rfl, hc', _⟩ := plainElem_string_inv he hv
  have e1 := congrArg Prod.fst hc'
  have e0 : (DataW.lit (.string []) : DataW Unit) = .lit (.string (⟨#[]⟩ : ByteArray).data.toList) := rfl
  rw [e0] at hc
  rw [hc] at e1
  injection e1 with e2
  injection e2 with e3
  obtain rfl := str_eq e3
  exact hrun
theorem look_str_ok (h : w.ownsMap P k (plainElem P e) b n D) (K : Keyed P k) (ht : P.underlying t = some (.map k e)) (he : P.underlying e = some .string) (hz : (zeroValue e).run P w = .ok (.string ⟨#[]⟩) w)
    (hkey : keyOf P k key = some kl) (c : ByteArray) (hh : Bool) (hc : D.atKey kl (.lit (.string [])) = .lit (.string c.data.toList)) (hb : Maps.has D kl = hh) :
    (Instr.lookup t (.map (some b)) key true).run P w = .ok (.tuple #[.string c, .bool hh]) w := by
  obtain ⟨v, ps, hrun, hv⟩ := h.look_ok K ht hz (plainElem_string he (s := ⟨#[]⟩) (by decide)) hkey
  obtain ⟨c', rfl, hc', _⟩ := plainElem_string_inv he hv
  have e1 := congrArg Prod.fst hc'
  have e0 : (DataW.lit (.string []) : DataW Unit) = .lit (.string (⟨#[]⟩ : ByteArray).data.toList) := rfl
  rw [e0] at hc
  rw [hc] at e1
  injection e1 with e2
  injection e2 with e3
  obtain rfl := str_eq e3
  rw [hb] at hrun
  exact hrun
theorem bool_inv {e : TypeId} (he : P.underlying e = some .bool) {v : Value} {z : DataW Unit × List MemPlace} (h : plainElem P e v = some z) : ∃ b : Bool, v = .bool b ∧ z = (.lit (.bool b), []) := by
  unfold plainElem at h
  rw [he] at h
  cases v <;> simp at h
  exact ⟨_, rfl, h.symm⟩
theorem look_bool (h : w.ownsMap P k (plainElem P e) b n D) (K : Keyed P k) (ht : P.underlying t = some (.map k e)) (he : P.underlying e = some .bool) (hz : (zeroValue e).run P w = .ok (.bool false) w)
    (hkey : keyOf P k key = some kl) (c : Bool) (hc : D.atKey kl (.lit (.bool false)) = .lit (.bool c)) :
    (Instr.lookup t (.map (some b)) key false).run P w = .ok (.bool c) w := by
  obtain ⟨v, ps, hrun, hv⟩ := h.lookup K ht hz (plainElem_bool he false) hkey
  obtain ⟨c', rfl, hc'⟩ := bool_inv he hv
  have e1 := congrArg Prod.fst hc'
  rw [hc] at e1
  injection e1 with e2
  injection e2 with e3
  subst e3
  exact hrun
theorem look_int {q : IntKind} (h : w.ownsMap P k (plainElem P e) b n D) (K : Keyed P k) (ht : P.underlying t = some (.map k e)) (he : P.underlying e = some (.int q)) (hz : (zeroValue e).run P w = .ok (.int q 0) w)
    (hkey : keyOf P k key = some kl) (c : Int) (hc : D.atKey kl (.lit (.int q 0)) = .lit (.int q c)) :
    (Instr.lookup t (.map (some b)) key false).run P w = .ok (.int q c) w := by
  obtain ⟨c', hrun, h1, _⟩ := h.lookup_int K ht he hz hkey
  rw [hc] at h1
  injection h1 with e2
  injection e2 with _ e3
  subst e3
  exact hrun
end
end Go.Proofs.YtffpbhbiamkkpaaDoor.Mp
/- A name as a map's key. -/
namespace Go.Proofs.YtffpbhbiamkkpaaDoor.ND
open Go Go.RowKit Go.Proofs.YtffpbhbiamkkpaaDoorW.PrintWords Go.Maps
set_option linter.unusedVariables false
theorem laidOutP : laidOutB Tryd.prog = true := by kernel_rfl
theorem keyedN : Keyed Tryd.prog 23 := Keyed.of_law (deep_law_laid laidOutP (m := 2) (by omega) (of_decide_eq_true (by kernel_rfl)) (by kernel_rfl) (by rw [Tryd.underlying23]))
def klN (x : Nm) : Lit := .string (keyBytes [.string x.f0.data.toList, .string x.f1.data.toList])
def valN (x : Nm) : Value := .agg #[.string x.f0, .string x.f1]
theorem keyN (x : Nm) (h0 : x.f0.size ≤ maxLen) (h1 : x.f1.size ≤ maxLen) : keyOf Tryd.prog 23 (valN x) = some (klN x) := by
  unfold keyOf valN klN
  rw [Tryd.underlying23]
  have e1 : Tryd.prog.keyType 23 = true := by kernel_rfl
  have e2 : Value.formed Tryd.prog 23 (.agg #[.string x.f0, .string x.f1]) = true := by
    unfold Value.formed
    rw [Tryd.underlying23]
    have : Tryd.prog.cellsOf 23 = 2 := by kernel_rfl
    simp [this]
  have e3 : Tryd.prog.keyLits (Tryd.prog.types.size + 1) 23 (Value.agg #[.string x.f0, .string x.f1]).cells.toList = some [.string x.f0.data.toList, .string x.f1.data.toList] := by
    obtain ⟨d, hd⟩ : ∃ d, Tryd.prog.types.size = d + 1 := ⟨Tryd.prog.types.size - 1, by have : 0 < Tryd.prog.types.size := of_decide_eq_true (by kernel_rfl); omega⟩
    rw [hd]
    have c1 : Tryd.prog.cellsOf 23 = 2 := by kernel_rfl
    have c2 : Tryd.prog.cellsOf 9 = 1 := by kernel_rfl
    have hs := Tryd.underlying9
    unfold Program.keyLits
    rw [Tryd.underlying23]
    simp [Value.cells, c1, c2, Program.keyLits, hs, h0, h1]
  simp only [e1, e2, e3, Bool.and_self, if_true, Option.map_some]
theorem klN_inj (x y : Nm) (hx : x.f0.size ≤ maxLen ∧ x.f1.size ≤ maxLen) (hy : y.f0.size ≤ maxLen ∧ y.f1.size ≤ maxLen) (h : klN x = klN y) : x.f0 = y.f0 ∧ x.f1 = y.f1 := by
  have h1 := keyN x hx.1 hx.2
  have h2 := keyN y hy.1 hy.2
  rw [h] at h1
  have e := keyedN.inj h1 h2
  unfold valN at e
  injection e with e
  have e1 := congrArg (fun a : Array Value => a.toList) e
  simp only [List.cons.injEq, Value.string.injEq, and_true] at e1
  exact e1
end Go.Proofs.YtffpbhbiamkkpaaDoor.ND
/- The order of texts, byte by byte, and of attributes' names (the space first, then the local part): both are whole. -/
namespace Go.Proofs.YtffpbhbiamkkpaaDoor.ND
open Go.Lib Go.Sort
set_option linter.unusedVariables false
theorem cb_self : ∀ a : List UInt8, compareBytes a a = 0
  | [] => rfl
  | a :: xs => by unfold compareBytes; rw [if_neg (UInt8.lt_irrefl a), if_neg (UInt8.lt_irrefl a)]; exact cb_self xs
theorem cb_eq : ∀ a b : List UInt8, compareBytes a b = 0 → a = b
  | [], [], _ => rfl
  | [], _ :: _, h => by simp [compareBytes] at h
  | _ :: _, [], h => by simp [compareBytes] at h
  | a :: xs, b :: bs, h => by
    unfold compareBytes at h
    by_cases h1 : a < b
    · simp [h1] at h
    · by_cases h2 : b < a
      · simp [h1, h2] at h
      · rw [if_neg h1, if_neg h2] at h
        have e : a = b := UInt8.le_antisymm (UInt8.not_lt.1 h2) (UInt8.not_lt.1 h1)
        rw [e, cb_eq xs bs h]
theorem cb_swap : ∀ a b : List UInt8, compareBytes b a = - compareBytes a b
  | [], [] => rfl
  | [], _ :: _ => rfl
  | _ :: _, [] => rfl
  | a :: xs, b :: bs => by
    unfold compareBytes
    by_cases h1 : a < b
    · have h2 : ¬ b < a := fun h => UInt8.lt_irrefl _ (UInt8.lt_trans h1 h)
      simp [h1, h2]
    · by_cases h2 : b < a
      · simp [h1, h2]
      · simp only [h1, h2, if_false]; exact cb_swap xs bs
theorem cb_trans : ∀ a b c : List UInt8, compareBytes a b ≤ 0 → compareBytes b c ≤ 0 → compareBytes a c ≤ 0
  | [], _, [], _, _ => by simp [compareBytes]
  | [], _, _ :: _, _, _ => by simp [compareBytes]
  | a :: xs, [], c, h, _ => by simp [compareBytes] at h
  | _ :: _, b :: bs, [], _, h => by simp [compareBytes] at h
  | a :: xs, b :: bs, c :: cs, h1, h2 => by
    unfold compareBytes at h1 h2 ⊢
    by_cases p1 : a < b
    · by_cases p2 : b < c
      · rw [if_pos (UInt8.lt_trans p1 p2)]; decide
      · by_cases p3 : c < b
        · simp [p2, p3] at h2
        · have e : b = c := UInt8.le_antisymm (UInt8.not_lt.1 p3) (UInt8.not_lt.1 p2)
          rw [← e, if_pos p1]; decide
    · by_cases q1 : b < a
      · simp [p1, q1] at h1
      · have e : a = b := UInt8.le_antisymm (UInt8.not_lt.1 q1) (UInt8.not_lt.1 p1)
        subst e
        rw [if_neg p1, if_neg p1] at h1
        by_cases p2 : a < c
        · rw [if_pos p2]; decide
        · by_cases p3 : c < a
          · simp [p2, p3] at h2
          · rw [if_neg p2, if_neg p3] at h2 ⊢
            exact cb_trans xs bs cs h1 h2
/-- The order of attributes that print uses. -/
def cfA (x y : At) : Int :=
  if compareBytes x.f0.f0.data.toList y.f0.f0.data.toList ≠ 0 then compareBytes x.f0.f0.data.toList y.f0.f0.data.toList else compareBytes x.f0.f1.data.toList y.f0.f1.data.toList
theorem cfA_self (x : At) : cfA x x = 0 := by unfold cfA; rw [cb_self, if_neg (by simp), cb_self]
theorem cfA_swap (x y : At) : cfA y x = - cfA x y := by
  unfold cfA
  have h1 := cb_swap x.f0.f0.data.toList y.f0.f0.data.toList
  have h2 := cb_swap x.f0.f1.data.toList y.f0.f1.data.toList
  by_cases h : compareBytes x.f0.f0.data.toList y.f0.f0.data.toList = 0
  · rw [h1, h2, h]; simp
  · rw [h1, h2, if_pos h, if_pos (by omega)]
theorem cfA_trans (x y z : At) (h1 : cfA x y ≤ 0) (h2 : cfA y z ≤ 0) : cfA x z ≤ 0 := by
  unfold cfA at *
  by_cases e1 : compareBytes x.f0.f0.data.toList y.f0.f0.data.toList = 0
  · have e := cb_eq _ _ e1
    rw [if_neg (by simpa using e1)] at h1
    rw [e]
    by_cases e2 : compareBytes y.f0.f0.data.toList z.f0.f0.data.toList = 0
    · rw [if_neg (by simpa using e2)] at h2 ⊢
      exact cb_trans _ _ _ h1 h2
    · rw [if_pos e2] at h2 ⊢
      exact h2
  · rw [if_pos e1] at h1
    have k2 : compareBytes y.f0.f0.data.toList z.f0.f0.data.toList ≤ 0 := by
      by_cases e2 : compareBytes y.f0.f0.data.toList z.f0.f0.data.toList = 0
      · omega
      · rw [if_pos e2] at h2; exact h2
    have k := cb_trans _ _ _ h1 k2
    by_cases e3 : compareBytes x.f0.f0.data.toList z.f0.f0.data.toList = 0
    · exfalso
      have e := cb_eq _ _ e3
      rw [← e, cb_swap x.f0.f0.data.toList] at k2
      omega
    · rw [if_pos e3]; exact k
theorem cfA_zero (x y : At) (h : cfA x y = 0) : x.f0.f0 = y.f0.f0 ∧ x.f0.f1 = y.f0.f1 := by
  unfold cfA at h
  by_cases e : compareBytes x.f0.f0.data.toList y.f0.f0.data.toList = 0
  · rw [if_neg (by simpa using e)] at h
    have a := cb_eq _ _ e
    have b := cb_eq _ _ h
    refine ⟨?_, ?_⟩
    · exact congrArg (fun l => (⟨l.toArray⟩ : ByteArray)) a
    · exact congrArg (fun l => (⟨l.toArray⟩ : ByteArray)) b
  · rw [if_pos e] at h
    exact absurd h e
def leA (x y : At) : Bool := decide (cfA x y ≤ 0)
theorem leA_trans (x y z : At) (h1 : leA x y = true) (h2 : leA y z = true) : leA x z = true := by
  unfold leA at *
  simp only [decide_eq_true_eq] at *
  exact cfA_trans x y z h1 h2
theorem leA_total (x y : At) : (leA x y || leA y x) = true := by
  unfold leA
  have := cfA_swap x y
  simp only [Bool.or_eq_true, decide_eq_true_eq]
  omega
/-- Attributes, rising. -/
def srt (l : List At) : List At := l.mergeSort leA
theorem srt_perm (l : List At) : (srt l).Perm l := List.mergeSort_perm l leA
theorem srt_sorted (l : List At) : (srt l).Pairwise (fun x y => leA x y = true) := List.pairwise_mergeSort leA_trans leA_total l
/-- No two have one name. -/
def Apart (l : List At) : Prop := l.Pairwise fun x y => ¬ (x.f0.f0 = y.f0.f0 ∧ x.f0.f1 = y.f0.f1)
theorem Apart.perm {l l' : List At} (h : Apart l) (p : l.Perm l') : Apart l' :=
  (List.Perm.pairwise_iff (R := fun x y : At => ¬ (x.f0.f0 = y.f0.f0 ∧ x.f0.f1 = y.f0.f1)) (fun {a b} (h : ¬ (a.f0.f0 = b.f0.f0 ∧ a.f0.f1 = b.f0.f1)) => fun k => h ⟨k.1.symm, k.2.symm⟩) p).1 h
/-- Two rising rows of the same attributes, no two of one name, are one. -/
theorem rising_one : ∀ {l l' : List At}, l.Perm l' → Apart l → l.Pairwise (fun x y => leA x y = true) → l'.Pairwise (fun x y => leA x y = true) → l = l'
  | [], l', p, _, _, _ => p.nil_eq
  | a :: l, [], p, _, _, _ => by simpa using p.length_eq
  | a :: l, b :: l', p, h, s, s' => by
    have hab : a = b := by
      by_cases e : a = b
      · exact e
      exfalso
      have ha : a ∈ b :: l' := p.mem_iff.1 (by simp)
      have hb : b ∈ a :: l := p.mem_iff.2 (by simp)
      have ha' : a ∈ l' := by rcases List.mem_cons.1 ha with h | h; exact absurd h e; exact h
      have hb' : b ∈ l := by rcases List.mem_cons.1 hb with h | h; exact absurd h.symm e; exact h
      have k1 : leA a b = true := (List.pairwise_cons.1 s).1 b hb'
      have k2 : leA b a = true := (List.pairwise_cons.1 s').1 a ha'
      have k3 := (List.pairwise_cons.1 h).1 b hb'
      unfold leA at k1 k2
      simp only [decide_eq_true_eq] at k1 k2
      have := cfA_swap a b
      exact k3 (cfA_zero a b (by omega))
    subst hab
    rw [rising_one (List.Perm.cons_inv p) (List.pairwise_cons.1 h).2 (List.pairwise_cons.1 s).2 (List.pairwise_cons.1 s').2]
end Go.Proofs.YtffpbhbiamkkpaaDoor.ND
/- slices.Clone of attributes and of nodes: the same list in memory of the call's own. -/
namespace Go.Proofs.YtffpbhbiamkkpaaDoor.ND
open Go.RowKit Go.Proofs.YtffpbhbiamkkpaaDoorW.PrintWords Go.Proofs.YtffpbhbiamkkpaaDoorW.PrintLast Go.Proofs.YtffpbhbiamkkpaaDoorW.PrintMore
set_option linter.unusedVariables false
theorem infoAt : (Tryd.prog.info? 63).map (fun i => (i.zero, i.size, i.bytes)) = some (some (.agg #[.string ⟨#[]⟩, .string ⟨#[]⟩, .string ⟨#[]⟩]), 3, 48) := by kernel_rfl
theorem reads_imp {α : Type} {R R' : α → List Value → Prop} {size : Nat} {w : World} {A : Option Addr} {n : Nat} {ps : List α} (h : ReadsRow R size w A n ps) (hR : ∀ x cs, R x cs → R' x cs) : ReadsRow R' size w A n ps :=
  ⟨h.1, h.2.1, fun hn => let ⟨ad, e, hc⟩ := h.2.2 hn; ⟨ad, e, fun j p hj => let ⟨c, a1, a2, a3⟩ := hc j p hj; ⟨c, a1, hR _ _ a2, a3⟩⟩⟩
theorem kAt_KM {w w' : World} {base : Nat} {ok : Nat → Prop} {x : At} {cs : List Value} (h : kAt.K w x cs) : kAt.M w' base ok x cs := by
  obtain rfl := kAt_open h
  exact kAt_mkM _ _ _ _
set_option maxHeartbeats 800000 in
set_option maxRecDepth 100000 in
theorem cloneAt (A0 : Option Addr) (c0 : Nat) (l0 : List At) (w : World) (hr0 : kAt.C w A0 l0.length l0) (hc0 : l0.length ≤ c0) (hl : l0.length ≤ 2932031007402) :
    Calls Tryd.prog 32 #[.slice A0 l0.length c0] w fun e w' => ∃ v0_ : Value, e = .returned (v0_) ∧ kAt.R 63 w' w.heap.size (fun _ => True) v0_ l0 ∧ Below w.heap.size w w' := by
  have HL := Aside0.mk hl
  clear hl
  have HR := Aside0.mk hr0
  have HC := Aside0.mk hc0
  clear hr0 hc0
  cases A0 with
  | none =>
    have hz : l0 = [] := by
      have := HR.out.2.2
      cases l0 with
      | nil => rfl
      | cons a l => obtain ⟨ad, e, _⟩ := this (by simp); cases e
    subst hz
    have hq := fun (ww : World) => Lib.run_eql_slice_nil (P := Tryd.prog) ww 24 63 none 0 c0 0 0 Tryd.underlying24
    go_enter Tryd.func32, Tryd.ntmps32
    go_wp2
    go_ret
    exact ⟨_, rfl, Kd.R_nil _ _ _ _ _, Below.refl _ _⟩
  | some ad =>
    have hq := fun (ww : World) => Lib.run_eql_slice_nil (P := Tryd.prog) ww 24 63 (some ad) l0.length c0 0 0 Tryd.underlying24
    go_enter Tryd.func32, Tryd.ntmps32
    go_wp2_with (first | ((with_reducible refine gate_dst (N := 5) rfl ?_); refine Kd.R_lit kAt w.heap.size 63 ?hg (N := 5) ?hd (xs := ([] : List At)) (inner := []) (ok := fun _ => True) (okp := fun _ => True) ?hr (Reps.none _ _) (fun _ hk => hk) trivial (Below.refl _ _) (Nat.le_refl _) (by simp) ?_; (case hd => rfl); (case hg => rfl); (case hr => first | (go_simp; done) | (go_simp; rfl)); intro v1 w1 ho1 hb1 hg1 hn1; have HO := Aside0.mk ho1; have HB := Aside0.mk hb1; clear ho1 hb1 hg1 hn1) | (at_builtin; refine Kd.R_append_rows kAt (w0 := w) w.heap.size rfl (.tmp 5) (.tmp 6) 24 63 (.agg #[.string ⟨#[]⟩, .string ⟨#[]⟩, .string ⟨#[]⟩]) 48 rfl Tryd.underlying24 infoAt rfl (by decide) (by omega) v1 ([] : List At) l0 (some ad) l0.length c0 (fun _ => True) (fun _ => False) rfl rfl HO.out ?aR (fun _ _ h => h) (fun _ h => h.elim) (fun _ _ => trivial) HB.out HB.out.size ?aL ?_; (case aR => exact reads_imp (Kd.C_below HR.out HB.out) (fun x cs hx => kAt_KM hx)); (case aL => have := HL.out; simp; omega); intro v2 w2 ho2 hb2 hg2 hn2; simp only [List.nil_append] at ho2; have HO2 := Aside0.mk ho2; have HB2 := Aside0.mk hb2; clear ho2 hb2 hg2 hn2))
    go_ret
    exact ⟨_, rfl, HO2.out, HB2.out⟩
end Go.Proofs.YtffpbhbiamkkpaaDoor.ND
/- print.sorted: the attributes, rising, in memory of the call's own (where no two have one name). -/
namespace Go.Proofs.YtffpbhbiamkkpaaDoor.ND
open Go.Shelf Go.RowKit Go.Lib Go.Sort Go.Proofs.YtffpbhbiamkkpaaDoorW.PrintWords Go.Proofs.YtffpbhbiamkkpaaDoorW.PrintLast Go.Proofs.YtffpbhbiamkkpaaDoorW.PrintMore
set_option linter.unusedVariables false
def encA (x : At) : List Value := [.string x.f0.f0, .string x.f0.f1, .string x.f1]
instance : Inhabited At := ⟨zAt⟩
set_option maxHeartbeats 1000000 in
theorem closure (x y : At) (W : World) : Calls Tryd.prog 136 #[.agg #[.string x.f0.f0, .string x.f0.f1, .string x.f1], .agg #[.string y.f0.f0, .string y.f0.f1, .string y.f1]] W fun e w' => e = .returned (.int .i64 (cfA x y)) ∧ ∃ q os', w' = grow (W.drewN q) os' := by
  have hc1 := fun W' => Tryd.strings_Compare x.f0.f0 y.f0.f0 W'
  have hc2 := fun W' => Tryd.strings_Compare x.f0.f1 y.f0.f1 W'
  obtain ⟨c, hc⟩ : ∃ c, c = compareBytes x.f0.f0.data.toList y.f0.f0.data.toList := ⟨_, rfl⟩
  obtain ⟨d, hd⟩ : ∃ d, d = compareBytes x.f0.f1.data.toList y.f0.f1.data.toList := ⟨_, rfl⟩
  have e : cfA x y = if c ≠ 0 then c else d := by rw [hc, hd]; rfl
  rw [← hc] at hc1
  rw [← hd] at hc2
  have HE := Aside0.mk e
  have H1 := Aside0.mk hc1
  have H2 := Aside0.mk hc2
  clear e hc hd hc1 hc2
  by_cases h0 : c = 0
  · subst h0
    go_enter Tryd.func136, Tryd.ntmps136
    go_wp2_with fail
    refine (H1.out _).mono ?_
    rintro e w' ⟨rfl, rfl⟩
    go_wp2_with fail
    refine (H2.out _).mono ?_
    rintro e w' ⟨rfl, rfl⟩
    go_wp2
    go_ret
    have he : cfA x y = d := by rw [HE.out, if_neg (by simp)]
    rw [he]
    exact ⟨rfl, 0, _, by rw [alloc_eq_grow, alloc_eq_grow, grow_grow]; rfl⟩
  · have h1 : (c == 0) = false := by simpa using h0
    have h2 : (c != 0) = true := by simpa using h0
    have HC := Aside0.mk h0
    clear h0
    go_enter Tryd.func136, Tryd.ntmps136
    go_wp2_with fail
    refine (H1.out _).mono ?_
    rintro e w' ⟨rfl, rfl⟩
    go_wp2
    go_ret
    have he : cfA x y = c := by rw [HE.out, if_pos HC.out]
    rw [he]
    exact ⟨rfl, 0, _, by rw [alloc_eq_grow, alloc_eq_grow, grow_grow]; rfl⟩
theorem cmpLays (blk off size : Nat) (w : World) : CmpLays Tryd.prog 136 #[] encA 3 cfA blk off size w := fun _ _ _ _ x y => closure x y _
theorem ltA (x y : At) : ltOf cfA x y = decide (cfA x y < 0) := rfl
theorem swoA : SWO (ltOf cfA) where
  irrefl x := by rw [ltA, cfA_self]; rfl
  trans x y z h1 h2 := by
    rw [ltA] at *
    simp only [decide_eq_true_eq] at *
    have := cfA_trans x y z (by omega) (by omega)
    by_cases e : cfA x z = 0
    · exfalso
      have k := cfA_trans z x y (by rw [cfA_swap x z]; omega) (by omega)
      have := cfA_swap y z
      omega
    · omega
  ntrans x y z h1 h2 := by
    rw [ltA] at *
    simp only [decide_eq_false_iff_not] at *
    have h3 := cfA_swap x y
    have h4 := cfA_swap y z
    have := cfA_trans z y x (by omega) (by omega)
    have := cfA_swap x z
    omega
theorem flat_at (l : List At) (t : Nat) (ht : t < l.length * 3) : (flatK encA 3 l.toArray)[t]? = (encA (l[t / 3]'(by omega)))[t % 3]? := by
  have h3 : t % 3 < 3 := Nat.mod_lt _ (by decide)
  have hd : t / 3 < l.length := by omega
  have e1 : (flatK encA 3 l.toArray)[t]? = some (flatK encA 3 l.toArray)[t]! := by
    rw [getElem!_pos _ t (by simpa using ht)]
    exact Array.getElem?_eq_getElem _
  rw [e1, get_flatK encA 3 l.toArray t (by simpa using ht)]
  have e2 : l.toArray[t / 3]! = l[t / 3] := by
    rw [getElem!_pos _ (t / 3) (by simpa using hd)]
    simp
  rw [e2]
  have hl : t % 3 < (encA (l[t / 3]'hd)).length := h3
  rw [getElem!_pos _ (t % 3) hl, List.getElem?_eq_getElem hl]
theorem inner_flat {R : At → List Value → Prop} {l : List At} {inner : List Value} (h : Reps R 3 l inner) (hR : ∀ p c, R p c → c = encA p) : inner = (flatK encA 3 l.toArray).toList := by
  apply List.ext_getElem?
  intro t
  by_cases ht : t < l.length * 3
  · have hd : t / 3 < l.length := by omega
    have hj := hR _ _ (h.2 (t / 3) (l[t / 3]) (List.getElem?_eq_getElem hd))
    have e : inner[t]? = ((inner.drop (t / 3 * 3)).take 3)[t % 3]? := by
      rw [List.getElem?_take, if_pos (Nat.mod_lt _ (by decide)), List.getElem?_drop]
      congr 1
      omega
    rw [e, hj]
    exact ((Array.getElem?_toList).trans (flat_at l t ht)).symm
  · rw [List.getElem?_eq_none (by rw [h.1]; omega), List.getElem?_eq_none (by simp; omega)]
theorem reps_flat (R : At → List Value → Prop) (l : List At) (hR : ∀ p, R p (encA p)) : Reps R 3 l (flatK encA 3 l.toArray).toList := by
  refine ⟨by simp, fun j p hj => ?_⟩
  obtain ⟨hlt, rfl⟩ := List.getElem?_eq_some_iff.1 hj
  have e : (((flatK encA 3 l.toArray).toList.drop (j * 3)).take 3) = encA l[j] := by
    apply List.ext_getElem?
    intro r
    by_cases hr : r < 3
    · rw [List.getElem?_take, if_pos hr, List.getElem?_drop, Array.getElem?_toList, flat_at l (j * 3 + r) (by omega)]
      have h1 : (j * 3 + r) / 3 = j := by omega
      have h2 : (j * 3 + r) % 3 = r := by omega
      simp only [h1, h2]
    · rw [List.getElem?_eq_none (by simp; omega), List.getElem?_eq_none (by simp [encA]; omega)]
  rw [e]
  exact hR _
theorem encA_M (w : World) (base : Nat) (ok : Nat → Prop) (x : At) : kAt.M w base ok x (encA x) := kAt_mkM w base ok x
/-- The row, once it has been sorted. -/
theorem sorted_row {B g cap : Nat} {l : List At} {w : World} (h : kAt.R 63 w B (fun _ => True) (.slice (some ⟨g, 0, none⟩) l.length cap) l) :
    HoldsK encA 3 w g 0 l.toArray ∧ g < w.heap.size ∧ ∀ (d : List At) (m : Nat) (os : Array Obj), d.length = l.length →
      kAt.R 63 (sortWorldK encA 3 w g 0 m d.toArray os) B (fun _ => True) (.slice (some ⟨g, 0, none⟩) l.length cap) d ∧ Below B w (sortWorldK encA 3 w g 0 m d.toArray os) := by
  obtain ⟨_, inner, ho, hr⟩ := h
  have hin := inner_flat hr (fun p c hp => kAt_openM hp)
  obtain ⟨hl, ho⟩ := ho
  rcases ho with ⟨hv, _⟩ | ⟨g', cap', cur, hv, hB, hg, h1, h2, h3, h4⟩
  · cases hv
  cases hv
  have hgl := blk_lt hg
  have hcur : ∀ t, t < l.length * 3 → cur[t]? = (flatK encA 3 l.toArray)[t]? := fun t ht => by
    have e := congrArg (fun z : List Value => z[t]?) (h4.trans hin)
    have hsz : kAt.sz = 3 := rfl
    rw [hsz] at e
    simp only [List.getElem?_take, if_pos ht, Array.getElem?_toList] at e
    exact e
  refine ⟨fun t ht => ?_, hgl, fun d m os hd => ?_⟩
  · have ht' : t < l.length * 3 := by simpa using ht
    rw [Nat.zero_add]
    refine ⟨?_, blk_frozen hg t⟩
    rw [blk_cell hg, hcur t ht']
    rw [getElem!_pos _ t ht]
    exact Array.getElem?_eq_getElem _
  · have hgn : (sortWorldK encA 3 w g 0 m d.toArray os).heap[g]? = some (.cells (putCells id 0 (flatK encA 3 d.toArray) cur) 63 (0, 0)) := by
      show ((w.heap.modify g (onCells (putCells id 0 (flatK encA 3 d.toArray)))) ++ os)[g]? = _
      rw [Array.getElem?_append_left (by simpa using hgl), Array.getElem?_modify, if_pos rfl, hg]
      rfl
    have hbl : Below B w (sortWorldK encA 3 w g 0 m d.toArray os) := ⟨rfl, rfl, rfl, by show _ ≤ ((w.heap.modify g _) ++ os).size; simp, fun k hk => by
      show ((w.heap.modify g (onCells (putCells id 0 (flatK encA 3 d.toArray)))) ++ os)[k]? = _
      rw [Array.getElem?_append_left (by simp; omega), Array.getElem?_modify, if_neg (by omega)]⟩
    refine ⟨?_, hbl⟩
    rw [← hd]
    refine ⟨fun _ _ => trivial, (flatK encA 3 d.toArray).toList, ⟨by simp [kAt, kNm, Kd.iso, Kd.pair, Kd.string, Kd.scalar], Or.inr ⟨g, cap, putCells id 0 (flatK encA 3 d.toArray) cur, rfl, hB, hgn, by omega, h2, by simp [putCells, h3], ?_⟩⟩, reps_flat _ d (fun p => encA_M _ _ _ p)⟩
    apply List.ext_getElem?
    intro t
    have hsz : kAt.sz = 3 := rfl
    rw [hsz, List.getElem?_take]
    rw [hsz] at h3
    rw [hd]
    by_cases ht : t < l.length * 3
    · rw [if_pos ht, Array.getElem?_toList, Array.getElem?_toList]
      unfold putCells
      have htc : t < cur.size := by rw [h3]; exact Nat.lt_of_lt_of_le ht (Nat.mul_le_mul_right 3 h1)
      rw [Array.getElem?_mapIdx, Array.getElem?_eq_getElem htc, Option.map_some, if_pos ⟨Nat.zero_le _, by simp [hd]; omega⟩]
      simp only [Nat.sub_zero, id]
      rw [getElem!_pos _ t (by simp [hd]; omega)]
      exact (Array.getElem?_eq_getElem _).symm
    · rw [if_neg ht, List.getElem?_eq_none (by simp [hd]; omega)]
theorem perm_sorted {l : List At} {d' : Array At} (hp : PermIn 0 l.toArray.size l.toArray d') (hs : SortedIn (ltOf cfA) 0 l.toArray.size d') (ha : Apart l) : d'.toList = srt l ∧ d'.toList.length = l.length := by
  obtain ⟨hz, _, hpm⟩ := hp
  have e1 : (d'.extract 0 l.toArray.size).toList = d'.toList := by rw [← hz]; simp
  have e2 : (l.toArray.extract 0 l.toArray.size).toList = l := by simp
  rw [e1, e2] at hpm
  refine ⟨?_, hpm.length_eq⟩
  refine rising_one (hpm.trans (srt_perm l).symm) (ha.perm hpm.symm) ?_ (srt_sorted l)
  rw [List.pairwise_iff_getElem]
  intro i j hi hj hij
  have h := hs i j (Nat.zero_le _) hij (by rw [← hz]; simpa using hj)
  have hi' : i < d'.size := by simpa using hi
  have hj' : j < d'.size := by simpa using hj
  rw [getElem!_pos d' i hi', getElem!_pos d' j hj', ltA] at h
  simp only [decide_eq_false_iff_not] at h
  have := cfA_swap d'[i] d'[j]
  unfold leA
  simp only [Array.getElem_toList, decide_eq_true_eq]
  omega
set_option maxHeartbeats 2000000 in
set_option maxRecDepth 100000 in
theorem sorted_calls (A0 : Option Addr) (c0 : Nat) (l : List At) (w : World) (hC : kAt.C w A0 l.length l) (hc : l.length ≤ c0) (hl : l.length ≤ 100000) (ha : Apart l) :
    Calls Tryd.prog 107 #[.slice A0 l.length c0] w fun e w' => ∃ v, e = .returned v ∧ kAt.R 63 w' w.heap.size (fun _ => True) v (srt l) ∧ Below w.heap.size w w' := by
  have HC := Aside0.mk (cloneAt A0 c0 l w hC hc (by omega))
  have HA := Aside0.mk ha
  have eg : ∀ args w, (callFunc 136 args).run Tryd.prog w = .ok (.enter 136 args) w := enters_of Tryd.func136 (by kernel_rfl) rfl
  have EG := Aside0.mk eg
  clear hC hc ha eg
  by_cases hz : l = []
  · subst hz
    go_enter Tryd.func107, Tryd.ntmps107
    go_wp2_with fail
    refine HC.out.mono ?_
    rintro e w1 ⟨v, rfl, hr, hb⟩
    obtain ⟨A, c, rfl, _, _⟩ := Kd.R_reads hr
    have HR := Aside0.mk hr
    have HB := Aside0.mk hb
    clear hr hb
    go_wp2_with fail
    have hcon := AnyF.slices_SortFunc_none Tryd.SortA_lay A c (.func (.func 136) #[] #[]) w1
    change Calls Tryd.prog 76 _ _ _ at hcon
    refine hcon.mono ?_
    rintro e w2 ⟨rfl, rfl⟩
    clear hcon
    go_wp2_with fail
    go_ret
    have hs : srt [] = [] := by simp [srt]
    refine ⟨.slice A 0 c, rfl, ?_, HB.out⟩
    rw [hs]
    exact HR.out
  · have hpos : 0 < l.length := List.length_pos_iff.2 hz
    clear hz
    go_enter Tryd.func107, Tryd.ntmps107
    go_wp2_with fail
    refine HC.out.mono ?_
    rintro e w1 ⟨v, rfl, hr, hb⟩
    obtain ⟨inner, ho⟩ := Kd.R_own hr
    obtain ⟨g, c, rfl⟩ : ∃ g c, v = .slice (some ⟨g, 0, none⟩) l.length c := by
      rcases ho.2 with ⟨_, h0⟩ | ⟨g, cap, cur, hv, _⟩
      · omega
      · exact ⟨g, cap, hv⟩
    obtain ⟨hH, hg, hnext⟩ := sorted_row hr
    have HB := Aside0.mk hb
    have HN := Aside0.mk hnext
    clear hr hb ho hnext
    go_wp2_with fail
    have hcon := AnyQ.slices_SortFunc Tryd.SortA_lay 3 Tryd.isAgg63 Tryd.sizeOf63 encA (fun _ => rfl) (fun x v hv => by simp [encA] at hv; rcases hv with rfl | rfl | rfl <;> rfl) cfA swoA 136 #[] g 0 c l.toArray w1 EG.out (cmpLays g 0 l.toArray.size w1) hH hg (by simp; omega)
    change Calls Tryd.prog 76 _ _ _ at hcon
    rw [List.size_toArray] at hcon
    refine hcon.mono ?_
    rintro e w2 ⟨rfl, d', m, os, hp, hs, rfl⟩
    obtain ⟨e1, e2⟩ := perm_sorted (by simpa using hp) (by simpa using hs) HA.out
    have hfin := HN.out d'.toList m os e2
    rw [e1] at hfin
    have HF := Aside0.mk hfin
    have e3 : (srt l).toArray = d' := by rw [← e1]
    have HE := Aside0.mk e3
    clear hcon hH hp hs hfin e1 e2 e3
    go_wp2_with fail
    go_ret
    have h := HF.out
    rw [HE.out] at h
    exact ⟨_, rfl, h.1, HB.out.trans h.2⟩
end Go.Proofs.YtffpbhbiamkkpaaDoor.ND
