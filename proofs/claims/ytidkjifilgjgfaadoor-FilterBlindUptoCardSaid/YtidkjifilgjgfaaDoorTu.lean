/- api.Tuple as Lean data, and how it lies in memory. -/
import Derived.Test.YtidkjifilgjgfaaDoorMx12
namespace Go.Proofs.YtidkjifilgjgfaaDoor.Pd
open Go.RowKit Go.Proofs.YtidkjifilgjgfaaDoorW.PrintWords Go.Proofs.YtidkjifilgjgfaaDoorW.PrintLast Go.Proofs.YtidkjifilgjgfaaDoorW.PrintMore
set_option linter.unusedVariables false
structure Tu where
  f0 : ByteArray
  f1 : ByteArray
  f2 : ByteArray
  f3 : ByteArray
  f4 : Int
  f5 : (List ByteArray)
  f6 : Int
def zTu : Tu := ⟨(⟨#[]⟩ : ByteArray), (⟨#[]⟩ : ByteArray), (⟨#[]⟩ : ByteArray), (⟨#[]⟩ : ByteArray), (0 : Int), ([] : List ByteArray), (0 : Int)⟩
def kTu : Kd Tu := Kd.iso (Kd.pair Kd.string (Kd.pair Kd.string (Kd.pair Kd.string (Kd.pair Kd.string (Kd.pair (Kd.int .i64) (Kd.pair (Kd.slice 9 Kd.string) (Kd.int .u64))))))) (fun x : Tu => (x.f0, x.f1, x.f2, x.f3, x.f4, x.f5, x.f6))
theorem kTu_open {w : World} {x : Tu} {cs : List Value} (h : kTu.K w x cs) : ∃ A5 c5, cs = [.string x.f0, .string x.f1, .string x.f2, .string x.f3, .int .i64 x.f4, .slice A5 x.f5.length c5, .int .u64 x.f6] ∧ x.f5.length ≤ c5 ∧ Kd.string.C w A5 x.f5.length x.f5 := by
  obtain ⟨_, _, rfl, rfl, ⟨_, _, rfl, rfl, ⟨_, _, rfl, rfl, ⟨_, _, rfl, rfl, ⟨_, _, rfl, rfl, ⟨_, _, rfl, ⟨A5, c5, rfl, l5, g5⟩, rfl⟩⟩⟩⟩⟩⟩ := h
  exact ⟨A5, c5, rfl, l5, g5⟩
theorem kTu_mk (w : World) (x : Tu) {A5 : Option Addr} {c5 : Nat} (l5 : x.f5.length ≤ c5) (g5 : Kd.string.C w A5 x.f5.length x.f5) : kTu.K w x [.string x.f0, .string x.f1, .string x.f2, .string x.f3, .int .i64 x.f4, .slice A5 x.f5.length c5, .int .u64 x.f6] := ⟨[.string x.f0], [.string x.f1, .string x.f2, .string x.f3, .int .i64 x.f4, .slice A5 x.f5.length c5, .int .u64 x.f6], rfl, rfl, ⟨[.string x.f1], [.string x.f2, .string x.f3, .int .i64 x.f4, .slice A5 x.f5.length c5, .int .u64 x.f6], rfl, rfl, ⟨[.string x.f2], [.string x.f3, .int .i64 x.f4, .slice A5 x.f5.length c5, .int .u64 x.f6], rfl, rfl, ⟨[.string x.f3], [.int .i64 x.f4, .slice A5 x.f5.length c5, .int .u64 x.f6], rfl, rfl, ⟨[.int .i64 x.f4], [.slice A5 x.f5.length c5, .int .u64 x.f6], rfl, rfl, ⟨[.slice A5 x.f5.length c5], [.int .u64 x.f6], rfl, ⟨A5, c5, rfl, l5, g5⟩, rfl⟩⟩⟩⟩⟩⟩
def rdTu (xs : List Tu) (i : Int) : Tu := xs.getD i.toNat zTu
theorem atTu {w : World} {A : Option Addr} {n : Nat} {xs : List Tu} (h : Kd.C kTu w A n xs) (i : Int) (h0 : 0 ≤ i) (h1 : i < n) : ∃ ad A5 c5, A = some ad ∧ w.cell? (ad.add (i.toNat * 7)) = some (.string (rdTu xs i).f0) ∧ w.cell? ⟨(ad.add (i.toNat * 7)).block, (ad.add (i.toNat * 7)).off + 1, none⟩ = some (.string (rdTu xs i).f1) ∧ w.cell? ⟨(ad.add (i.toNat * 7)).block, (ad.add (i.toNat * 7)).off + 2, none⟩ = some (.string (rdTu xs i).f2) ∧ w.cell? ⟨(ad.add (i.toNat * 7)).block, (ad.add (i.toNat * 7)).off + 3, none⟩ = some (.string (rdTu xs i).f3) ∧ w.cell? ⟨(ad.add (i.toNat * 7)).block, (ad.add (i.toNat * 7)).off + 4, none⟩ = some (.int .i64 (rdTu xs i).f4) ∧ w.cell? ⟨(ad.add (i.toNat * 7)).block, (ad.add (i.toNat * 7)).off + 5, none⟩ = some (.slice A5 (rdTu xs i).f5.length c5) ∧ w.cell? ⟨(ad.add (i.toNat * 7)).block, (ad.add (i.toNat * 7)).off + 6, none⟩ = some (.int .u64 (rdTu xs i).f6) ∧ (rdTu xs i).f5.length ≤ c5 ∧ Kd.string.C w A5 (rdTu xs i).f5.length (rdTu xs i).f5 := by
  obtain ⟨ad, c, e, _, hK, hc0⟩ := Kd.C_get h zTu i h0 h1
  have hc : ∀ j u, c[j]? = some u → w.cell? (ad.add (i.toNat * 7 + j)) = some u := hc0
  obtain ⟨A5, c5, rfl, l5, g5⟩ := kTu_open hK
  exact ⟨ad, A5, c5, e, hc 0 _ rfl, by rw [← ye4 _ _ 1 (by omega)]; exact hc 1 _ rfl, by rw [← ye4 _ _ 2 (by omega)]; exact hc 2 _ rfl, by rw [← ye4 _ _ 3 (by omega)]; exact hc 3 _ rfl, by rw [← ye4 _ _ 4 (by omega)]; exact hc 4 _ rfl, by rw [← ye4 _ _ 5 (by omega)]; exact hc 5 _ rfl, by rw [← ye4 _ _ 6 (by omega)]; exact hc 6 _ rfl, l5, g5⟩

end Go.Proofs.YtidkjifilgjgfaaDoor.Pd
