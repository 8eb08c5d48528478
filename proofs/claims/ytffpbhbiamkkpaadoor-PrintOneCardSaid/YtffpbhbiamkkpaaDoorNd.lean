/- api.Name, api.Attr and api.Node as Lean data, and how they lie in memory. -/
import Derived.Test.YtffpbhbiamkkpaaDoorProg
import Derived.Test.YtffpbhbiamkkpaaDoorWWords
import Derived.Test.YtffpbhbiamkkpaaDoorWLast
import Derived.Test.YtffpbhbiamkkpaaDoorWMore
namespace Go.Proofs.YtffpbhbiamkkpaaDoor.ND
open Go.RowKit Go.Proofs.YtffpbhbiamkkpaaDoorW.PrintWords Go.Proofs.YtffpbhbiamkkpaaDoorW.PrintLast Go.Proofs.YtffpbhbiamkkpaaDoorW.PrintMore
set_option linter.unusedVariables false

structure Nm where
  f0 : ByteArray
  f1 : ByteArray
def zNm : Nm := ⟨(⟨#[]⟩ : ByteArray), (⟨#[]⟩ : ByteArray)⟩
def kNm : Kd Nm := Kd.iso (Kd.pair Kd.string Kd.string) (fun x : Nm => (x.f0, x.f1))
theorem kNm_open {w : World} {x : Nm} {cs : List Value} (h : kNm.K w x cs) : cs = [.string x.f0, .string x.f1] := by
  obtain ⟨_, _, rfl, rfl, rfl⟩ := h
  exact rfl
theorem kNm_openM {w : World} {base : Nat} {ok : Nat → Prop} {x : Nm} {cs : List Value} (h : kNm.M w base ok x cs) : cs = [.string x.f0, .string x.f1] := by
  obtain ⟨_, _, rfl, rfl, rfl⟩ := h
  exact rfl
theorem kNm_mk (w : World) (x : Nm)  : kNm.K w x [.string x.f0, .string x.f1] := ⟨[.string x.f0], [.string x.f1], rfl, rfl, rfl⟩
theorem kNm_mkM (w : World) (base : Nat) (ok : Nat → Prop) (x : Nm)  : kNm.M w base ok x [.string x.f0, .string x.f1] := ⟨[.string x.f0], [.string x.f1], rfl, rfl, rfl⟩
structure At where
  f0 : Nm
  f1 : ByteArray
def zAt : At := ⟨zNm, (⟨#[]⟩ : ByteArray)⟩
def kAt : Kd At := Kd.iso (Kd.pair kNm Kd.string) (fun x : At => (x.f0, x.f1))
theorem kAt_open {w : World} {x : At} {cs : List Value} (h : kAt.K w x cs) : cs = [.string x.f0.f0, .string x.f0.f1, .string x.f1] := by
  obtain ⟨_, _, rfl, s0, rfl⟩ := h
  obtain rfl := kNm_open s0
  exact rfl
theorem kAt_openM {w : World} {base : Nat} {ok : Nat → Prop} {x : At} {cs : List Value} (h : kAt.M w base ok x cs) : cs = [.string x.f0.f0, .string x.f0.f1, .string x.f1] := by
  obtain ⟨_, _, rfl, s0, rfl⟩ := h
  obtain rfl := kNm_openM s0
  exact rfl
theorem kAt_mk (w : World) (x : At)  : kAt.K w x [.string x.f0.f0, .string x.f0.f1, .string x.f1] := ⟨[.string x.f0.f0, .string x.f0.f1], [.string x.f1], rfl, (kNm_mk w x.f0 ), rfl⟩
theorem kAt_mkM (w : World) (base : Nat) (ok : Nat → Prop) (x : At)  : kAt.M w base ok x [.string x.f0.f0, .string x.f0.f1, .string x.f1] := ⟨[.string x.f0.f0, .string x.f0.f1], [.string x.f1], rfl, (kNm_mkM w base ok x.f0 ), rfl⟩
def rdAt (xs : List At) (i : Int) : At := xs.getD i.toNat zAt
theorem atAt {w : World} {A : Option Addr} {n : Nat} {xs : List At} (h : Kd.C kAt w A n xs) (i : Int) (h0 : 0 ≤ i) (h1 : i < n) : ∃ ad , A = some ad ∧ w.cell? (ad.add (i.toNat * 3)) = some (.string (rdAt xs i).f0.f0) ∧ w.cell? ⟨(ad.add (i.toNat * 3)).block, (ad.add (i.toNat * 3)).off + 1, none⟩ = some (.string (rdAt xs i).f0.f1) ∧ w.cell? ⟨(ad.add (i.toNat * 3)).block, (ad.add (i.toNat * 3)).off + 2, none⟩ = some (.string (rdAt xs i).f1) := by
  obtain ⟨ad, c, e, _, hK, hc0⟩ := Kd.C_get h zAt i h0 h1
  have hc : ∀ j u, c[j]? = some u → w.cell? (ad.add (i.toNat * 3 + j)) = some u := hc0
  obtain rfl := kAt_open hK
  exact ⟨ad, e, hc 0 _ rfl, by rw [← add_field _ _ 1 (by omega)]; exact hc 1 _ rfl, by rw [← add_field _ _ 2 (by omega)]; exact hc 2 _ rfl⟩

structure Nd where
  f0 : Int
  f1 : Nm
  f2 : (List At)
  f3 : (List Nd)
  f4 : ByteArray
def zNd : Nd := ⟨(0 : Int), zNm, ([] : List At), ([] : List Nd), (⟨#[]⟩ : ByteArray)⟩
def FNd (d : Kd Nd) : Kd Nd := Kd.iso (Kd.pair (Kd.int .i64) (Kd.pair kNm (Kd.pair (Kd.slice 63 kAt) (Kd.pair (Kd.slice 27 d) Kd.string)))) (fun x : Nd => (x.f0, x.f1, x.f2, x.f3, x.f4))
theorem monoNd : Kd.Mono FNd := Kd.mono_iso _ (Kd.mono_pair (Kd.mono_const _) (Kd.mono_pair (Kd.mono_const _) (Kd.mono_pair (Kd.mono_const _) (Kd.mono_pair (Kd.mono_slice 27 Kd.mono_id) (Kd.mono_const _)))))
theorem subNd : Kd.Sub FNd [63, 27] := Kd.sub_iso _ (Kd.sub_pair (Kd.sub_const _ (by decide)) (Kd.sub_pair (Kd.sub_const _ (by decide)) (Kd.sub_pair (Kd.sub_const _ (by decide)) (Kd.sub_pair (Kd.sub_slice 27 (by decide) Kd.sub_id) (Kd.sub_const _ (by decide))))))
theorem szNd : ∀ n, (Kd.upto FNd 6 [63, 27] n).sz = 6 := Kd.upto_sz (fun _ => rfl)
def kNd : Kd Nd := Kd.fix FNd 6 [63, 27] szNd (Kd.upto_E subNd)
theorem kNd_open {w : World} {x : Nd} {cs : List Value} (h : kNd.K w x cs) : ∃ A3 c3 A4 c4, cs = [.int .i64 x.f0, .string x.f1.f0, .string x.f1.f1, .slice A3 x.f2.length c3, .slice A4 x.f3.length c4, .string x.f4] ∧ x.f2.length ≤ c3 ∧ kAt.C w A3 x.f2.length x.f2 ∧ x.f3.length ≤ c4 ∧ kNd.C w A4 x.f3.length x.f3 := by
  obtain ⟨n, h⟩ := h
  cases n with
  | zero => exact h.elim
  | succ n =>
    obtain ⟨_, _, rfl, rfl, ⟨_, _, rfl, s1, ⟨_, _, rfl, ⟨A3, c3, rfl, l3, g3⟩, ⟨_, _, rfl, ⟨A4, c4, rfl, l4, g4⟩, rfl⟩⟩⟩⟩ := h
    obtain rfl := kNm_open s1
    exact ⟨A3, c3, A4, c4, rfl, l3, g3, l4, Kd.fix_C g4⟩
theorem kNd_mk (w : World) (x : Nd) {A3 : Option Addr} {c3 : Nat} (l3 : x.f2.length ≤ c3) (g3 : kAt.C w A3 x.f2.length x.f2) {A4 : Option Addr} {c4 : Nat} (l4 : x.f3.length ≤ c4) (g4 : kNd.C w A4 x.f3.length x.f3) : kNd.K w x [.int .i64 x.f0, .string x.f1.f0, .string x.f1.f1, .slice A3 x.f2.length c3, .slice A4 x.f3.length c4, .string x.f4] := by
  obtain ⟨n4, q4⟩ := Kd.fix_C_back monoNd g4
  have r4 := Kd.upto_C_le monoNd szNd (show n4 ≤ n4 by omega) q4
  exact ⟨n4 + 1, ⟨[.int .i64 x.f0], [.string x.f1.f0, .string x.f1.f1, .slice A3 x.f2.length c3, .slice A4 x.f3.length c4, .string x.f4], rfl, rfl, ⟨[.string x.f1.f0, .string x.f1.f1], [.slice A3 x.f2.length c3, .slice A4 x.f3.length c4, .string x.f4], rfl, (kNm_mk w x.f1 ), ⟨[.slice A3 x.f2.length c3], [.slice A4 x.f3.length c4, .string x.f4], rfl, ⟨A3, c3, rfl, l3, g3⟩, ⟨[.slice A4 x.f3.length c4], [.string x.f4], rfl, ⟨A4, c4, rfl, l4, r4⟩, rfl⟩⟩⟩⟩⟩
def rdNd (xs : List Nd) (i : Int) : Nd := xs.getD i.toNat zNd
theorem atNd {w : World} {A : Option Addr} {n : Nat} {xs : List Nd} (h : Kd.C kNd w A n xs) (i : Int) (h0 : 0 ≤ i) (h1 : i < n) : ∃ ad A3 c3 A4 c4, A = some ad ∧ w.cell? (ad.add (i.toNat * 6)) = some (.int .i64 (rdNd xs i).f0) ∧ w.cell? ⟨(ad.add (i.toNat * 6)).block, (ad.add (i.toNat * 6)).off + 1, none⟩ = some (.string (rdNd xs i).f1.f0) ∧ w.cell? ⟨(ad.add (i.toNat * 6)).block, (ad.add (i.toNat * 6)).off + 2, none⟩ = some (.string (rdNd xs i).f1.f1) ∧ w.cell? ⟨(ad.add (i.toNat * 6)).block, (ad.add (i.toNat * 6)).off + 3, none⟩ = some (.slice A3 (rdNd xs i).f2.length c3) ∧ w.cell? ⟨(ad.add (i.toNat * 6)).block, (ad.add (i.toNat * 6)).off + 4, none⟩ = some (.slice A4 (rdNd xs i).f3.length c4) ∧ w.cell? ⟨(ad.add (i.toNat * 6)).block, (ad.add (i.toNat * 6)).off + 5, none⟩ = some (.string (rdNd xs i).f4) ∧ (rdNd xs i).f2.length ≤ c3 ∧ kAt.C w A3 (rdNd xs i).f2.length (rdNd xs i).f2 ∧ (rdNd xs i).f3.length ≤ c4 ∧ kNd.C w A4 (rdNd xs i).f3.length (rdNd xs i).f3 := by
  obtain ⟨ad, c, e, _, hK, hc0⟩ := Kd.C_get h zNd i h0 h1
  have hc : ∀ j u, c[j]? = some u → w.cell? (ad.add (i.toNat * 6 + j)) = some u := hc0
  obtain ⟨A3, c3, A4, c4, rfl, l3, g3, l4, g4⟩ := kNd_open hK
  exact ⟨ad, A3, c3, A4, c4, e, hc 0 _ rfl, by rw [← add_field _ _ 1 (by omega)]; exact hc 1 _ rfl, by rw [← add_field _ _ 2 (by omega)]; exact hc 2 _ rfl, by rw [← add_field _ _ 3 (by omega)]; exact hc 3 _ rfl, by rw [← add_field _ _ 4 (by omega)]; exact hc 4 _ rfl, by rw [← add_field _ _ 5 (by omega)]; exact hc 5 _ rfl, l3, g3, l4, g4⟩

end Go.Proofs.YtffpbhbiamkkpaaDoor.ND
