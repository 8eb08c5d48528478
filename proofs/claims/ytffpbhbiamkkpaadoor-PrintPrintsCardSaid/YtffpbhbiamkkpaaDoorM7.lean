/- api.Name, api.Attr and api.Node as Lean data, and how they lie in memory. -/
import Derived.Test.YtffpbhbiamkkpaaDoorProg
import Derived.Test.YtffpbhbiamkkpaaDoorM2
import Derived.Test.YtffpbhbiamkkpaaDoorM1
import Derived.DeepKeys4
import Derived.Lib.Bytealg
import Derived.Sort.Statements
namespace Go.Proofs.YtffpbhbiamkkpaaDoor.ND
open Go.RowKit Go.Proofs.YtffpbhbiamkkpaaDoorW.PrintWords Go.Proofs.YtffpbhbiamkkpaaDoorW.PrintLast Go.Proofs.YtffpbhbiamkkpaaDoorW.PrintMore
set_option linter.unusedVariables false

structure Nm where
  f0 : ByteArray
  f1 : ByteArray
def zNm : Nm := ⟨(⟨#[]⟩ : ByteArray), (⟨#[]⟩ : ByteArray)⟩
def kNm : Kd Nm := Kd.iso (Kd.pair Kd.string Kd.string) (fun x : Nm => (x.f0, x.f1))
theorem yr2 {w : World} {x : Nm} {cs : List Value} (h : kNm.K w x cs) : cs = [.string x.f0, .string x.f1] := by
  obtain ⟨_, _, rfl, rfl, rfl⟩ := h
  exact rfl
theorem kNm_openM {w : World} {base : Nat} {ok : Nat → Prop} {x : Nm} {cs : List Value} (h : kNm.M w base ok x cs) : cs = [.string x.f0, .string x.f1] := by
  obtain ⟨_, _, rfl, rfl, rfl⟩ := h
  exact rfl
theorem kNm_mk (w : World) (x : Nm)  : kNm.K w x [.string x.f0, .string x.f1] := ⟨[.string x.f0], [.string x.f1], rfl, rfl, rfl⟩
theorem kNm_mkM (w : World) (base : Nat) (ok : Nat → Prop) (x : Nm)  : kNm.M w base ok x [.string x.f0, .string x.f1] := ⟨[.string x.f0], [.string x.f1], rfl, rfl, rfl⟩
structure At where
  f0 : Nm
  f1 : ByteArray
def zAt : At := ⟨zNm, (⟨#[]⟩ : ByteArray)⟩
def kAt : Kd At := Kd.iso (Kd.pair kNm Kd.string) (fun x : At => (x.f0, x.f1))
theorem kAt_open {w : World} {x : At} {cs : List Value} (h : kAt.K w x cs) : cs = [.string x.f0.f0, .string x.f0.f1, .string x.f1] := by
  obtain ⟨_, _, rfl, s0, rfl⟩ := h
  obtain rfl := yr2 s0
  exact rfl
theorem kAt_openM {w : World} {base : Nat} {ok : Nat → Prop} {x : At} {cs : List Value} (h : kAt.M w base ok x cs) : cs = [.string x.f0.f0, .string x.f0.f1, .string x.f1] := by
  obtain ⟨_, _, rfl, s0, rfl⟩ := h
  obtain rfl := kNm_openM s0
  exact rfl
theorem kAt_mk (w : World) (x : At)  : kAt.K w x [.string x.f0.f0, .string x.f0.f1, .string x.f1] := ⟨[.string x.f0.f0, .string x.f0.f1], [.string x.f1], rfl, (kNm_mk w x.f0 ), rfl⟩
theorem yr3 (w : World) (base : Nat) (ok : Nat → Prop) (x : At)  : kAt.M w base ok x [.string x.f0.f0, .string x.f0.f1, .string x.f1] := ⟨[.string x.f0.f0, .string x.f0.f1], [.string x.f1], rfl, (kNm_mkM w base ok x.f0 ), rfl⟩
def rdAt (xs : List At) (i : Int) : At := xs.getD i.toNat zAt
theorem atAt {w : World} {A : Option Addr} {n : Nat} {xs : List At} (h : Kd.C kAt w A n xs) (i : Int) (h0 : 0 ≤ i) (h1 : i < n) : ∃ ad , A = some ad ∧ w.cell? (ad.add (i.toNat * 3)) = some (.string (rdAt xs i).f0.f0) ∧ w.cell? ⟨(ad.add (i.toNat * 3)).block, (ad.add (i.toNat * 3)).off + 1, none⟩ = some (.string (rdAt xs i).f0.f1) ∧ w.cell? ⟨(ad.add (i.toNat * 3)).block, (ad.add (i.toNat * 3)).off + 2, none⟩ = some (.string (rdAt xs i).f1) := by
  obtain ⟨ad, c, e, _, hK, hc0⟩ := Kd.C_get h zAt i h0 h1
  have hc : ∀ j u, c[j]? = some u → w.cell? (ad.add (i.toNat * 3 + j)) = some u := hc0
  obtain rfl := kAt_open hK
  exact ⟨ad, e, hc 0 _ rfl, by rw [← yi6 _ _ 1 (by omega)]; exact hc 1 _ rfl, by rw [← yi6 _ _ 2 (by omega)]; exact hc 2 _ rfl⟩

structure Nd where
  f0 : Int
  f1 : Nm
  f2 : (List At)
  f3 : (List Nd)
  f4 : ByteArray
def zNd : Nd := ⟨(0 : Int), zNm, ([] : List At), ([] : List Nd), (⟨#[]⟩ : ByteArray)⟩
def FNd (d : Kd Nd) : Kd Nd := Kd.iso (Kd.pair (Kd.int .i64) (Kd.pair kNm (Kd.pair (Kd.slice 63 kAt) (Kd.pair (Kd.slice 27 d) Kd.string)))) (fun x : Nd => (x.f0, x.f1, x.f2, x.f3, x.f4))
theorem monoNd : Kd.Mono FNd := Kd.mono_iso _ (Kd.yn4 (Kd.ym0 _) (Kd.yn4 (Kd.ym0 _) (Kd.yn4 (Kd.ym0 _) (Kd.yn4 (Kd.mono_slice 27 Kd.mono_id) (Kd.ym0 _)))))
theorem subNd : Kd.Sub FNd [63, 27] := Kd.sub_iso _ (Kd.yp1 (Kd.yn0 _ (by decide)) (Kd.yp1 (Kd.yn0 _ (by decide)) (Kd.yp1 (Kd.yn0 _ (by decide)) (Kd.yp1 (Kd.sub_slice 27 (by decide) Kd.sub_id) (Kd.yn0 _ (by decide))))))
theorem szNd : ∀ n, (Kd.upto FNd 6 [63, 27] n).sz = 6 := Kd.upto_sz (fun _ => rfl)
def kNd : Kd Nd := Kd.fix FNd 6 [63, 27] szNd (Kd.upto_E subNd)
theorem kNd_open {w : World} {x : Nd} {cs : List Value} (h : kNd.K w x cs) : ∃ A3 c3 A4 c4, cs = [.int .i64 x.f0, .string x.f1.f0, .string x.f1.f1, .slice A3 x.f2.length c3, .slice A4 x.f3.length c4, .string x.f4] ∧ x.f2.length ≤ c3 ∧ kAt.C w A3 x.f2.length x.f2 ∧ x.f3.length ≤ c4 ∧ kNd.C w A4 x.f3.length x.f3 := by
  obtain ⟨n, h⟩ := h
  cases n with
  | zero => exact h.elim
  | succ n =>
    obtain ⟨_, _, rfl, rfl, ⟨_, _, rfl, s1, ⟨_, _, rfl, ⟨A3, c3, rfl, l3, g3⟩, ⟨_, _, rfl, ⟨A4, c4, rfl, l4, g4⟩, rfl⟩⟩⟩⟩ := h
    obtain rfl := yr2 s1
    exact ⟨A3, c3, A4, c4, rfl, l3, g3, l4, Kd.fix_C g4⟩
theorem kNd_mk (w : World) (x : Nd) {A3 : Option Addr} {c3 : Nat} (l3 : x.f2.length ≤ c3) (g3 : kAt.C w A3 x.f2.length x.f2) {A4 : Option Addr} {c4 : Nat} (l4 : x.f3.length ≤ c4) (g4 : kNd.C w A4 x.f3.length x.f3) : kNd.K w x [.int .i64 x.f0, .string x.f1.f0, .string x.f1.f1, .slice A3 x.f2.length c3, .slice A4 x.f3.length c4, .string x.f4] := by
  obtain ⟨n4, q4⟩ := Kd.fix_C_back monoNd g4
  have r4 := Kd.upto_C_le monoNd szNd (show n4 ≤ n4 by omega) q4
  exact ⟨n4 + 1, ⟨[.int .i64 x.f0], [.string x.f1.f0, .string x.f1.f1, .slice A3 x.f2.length c3, .slice A4 x.f3.length c4, .string x.f4], rfl, rfl, ⟨[.string x.f1.f0, .string x.f1.f1], [.slice A3 x.f2.length c3, .slice A4 x.f3.length c4, .string x.f4], rfl, (kNm_mk w x.f1 ), ⟨[.slice A3 x.f2.length c3], [.slice A4 x.f3.length c4, .string x.f4], rfl, ⟨A3, c3, rfl, l3, g3⟩, ⟨[.slice A4 x.f3.length c4], [.string x.f4], rfl, ⟨A4, c4, rfl, l4, r4⟩, rfl⟩⟩⟩⟩⟩
theorem kNd_mkM (w : World) (base : Nat) (ok : Nat → Prop) (x : Nd) {v3 : Value} (g3 : kAt.R 63 w base ok v3 x.f2) {v4 : Value} (g4 : kNd.R 27 w base ok v4 x.f3) : kNd.M w base ok x [.int .i64 x.f0, .string x.f1.f0, .string x.f1.f1, v3, v4, .string x.f4] := by
  obtain ⟨n4, q4⟩ := Kd.fix_R_back monoNd g4
  have r4 := Kd.upto_R_le monoNd szNd (show n4 ≤ n4 by omega) q4
  exact ⟨n4 + 1, ⟨[.int .i64 x.f0], [.string x.f1.f0, .string x.f1.f1, v3, v4, .string x.f4], rfl, rfl, ⟨[.string x.f1.f0, .string x.f1.f1], [v3, v4, .string x.f4], rfl, (kNm_mkM w base ok x.f1 ), ⟨[v3], [v4, .string x.f4], rfl, ⟨v3, rfl, g3⟩, ⟨[v4], [.string x.f4], rfl, ⟨v4, rfl, r4⟩, rfl⟩⟩⟩⟩⟩
def rdNd (xs : List Nd) (i : Int) : Nd := xs.getD i.toNat zNd
theorem atNd {w : World} {A : Option Addr} {n : Nat} {xs : List Nd} (h : Kd.C kNd w A n xs) (i : Int) (h0 : 0 ≤ i) (h1 : i < n) : ∃ ad A3 c3 A4 c4, A = some ad ∧ w.cell? (ad.add (i.toNat * 6)) = some (.int .i64 (rdNd xs i).f0) ∧ w.cell? ⟨(ad.add (i.toNat * 6)).block, (ad.add (i.toNat * 6)).off + 1, none⟩ = some (.string (rdNd xs i).f1.f0) ∧ w.cell? ⟨(ad.add (i.toNat * 6)).block, (ad.add (i.toNat * 6)).off + 2, none⟩ = some (.string (rdNd xs i).f1.f1) ∧ w.cell? ⟨(ad.add (i.toNat * 6)).block, (ad.add (i.toNat * 6)).off + 3, none⟩ = some (.slice A3 (rdNd xs i).f2.length c3) ∧ w.cell? ⟨(ad.add (i.toNat * 6)).block, (ad.add (i.toNat * 6)).off + 4, none⟩ = some (.slice A4 (rdNd xs i).f3.length c4) ∧ w.cell? ⟨(ad.add (i.toNat * 6)).block, (ad.add (i.toNat * 6)).off + 5, none⟩ = some (.string (rdNd xs i).f4) ∧ (rdNd xs i).f2.length ≤ c3 ∧ kAt.C w A3 (rdNd xs i).f2.length (rdNd xs i).f2 ∧ (rdNd xs i).f3.length ≤ c4 ∧ kNd.C w A4 (rdNd xs i).f3.length (rdNd xs i).f3 := by
  obtain ⟨ad, c, e, _, hK, hc0⟩ := Kd.C_get h zNd i h0 h1
  have hc : ∀ j u, c[j]? = some u → w.cell? (ad.add (i.toNat * 6 + j)) = some u := hc0
  obtain ⟨A3, c3, A4, c4, rfl, l3, g3, l4, g4⟩ := kNd_open hK
  exact ⟨ad, A3, c3, A4, c4, e, hc 0 _ rfl, by rw [← yi6 _ _ 1 (by omega)]; exact hc 1 _ rfl, by rw [← yi6 _ _ 2 (by omega)]; exact hc 2 _ rfl, by rw [← yi6 _ _ 3 (by omega)]; exact hc 3 _ rfl, by rw [← yi6 _ _ 4 (by omega)]; exact hc 4 _ rfl, by rw [← yi6 _ _ 5 (by omega)]; exact hc 5 _ rfl, l3, g3, l4, g4⟩

end Go.Proofs.YtffpbhbiamkkpaaDoor.ND
namespace Go.Proofs.YtffpbhbiamkkpaaDoor.ND
open Go Go.RowKit Go.Proofs.YtffpbhbiamkkpaaDoorW.PrintWords Go.Maps
set_option linter.unusedVariables false
theorem laidOutP : laidOutB Tryd.prog = true := by kernel_rfl
theorem keyedN : Keyed Tryd.prog 23 := Keyed.of_law (deep_law_laid laidOutP (m := 2) (by omega) (of_decide_eq_true (by kernel_rfl)) (by kernel_rfl) (by rw [Tryd.underlying23]))
def klN (x : Nm) : Lit := .string (keyBytes [.string x.f0.data.toList, .string x.f1.data.toList])
def valN (x : Nm) : Value := .agg #[.string x.f0, .string x.f1]
theorem keyN (x : Nm) (h0 : x.f0.size ≤ maxLen) (h1 : x.f1.size ≤ maxLen) : keyOf Tryd.prog 23 (valN x) = some (klN x) := by
  unfold keyOf valN klN
  rw [Tryd.underlying23]
  have e1 : Tryd.prog.keyType 23 = true := by kernel_rfl
  have e2 : Value.formed Tryd.prog 23 (.agg #[.string x.f0, .string x.f1]) = true := by
    unfold Value.formed
    rw [Tryd.underlying23]
    have : Tryd.prog.cellsOf 23 = 2 := by kernel_rfl
    simp [this]
  have e3 : Tryd.prog.keyLits (Tryd.prog.types.size + 1) 23 (Value.agg #[.string x.f0, .string x.f1]).cells.toList = some [.string x.f0.data.toList, .string x.f1.data.toList] := by
    obtain ⟨d, hd⟩ : ∃ d, Tryd.prog.types.size = d + 1 := ⟨Tryd.prog.types.size - 1, by have : 0 < Tryd.prog.types.size := of_decide_eq_true (by kernel_rfl); omega⟩
    rw [hd]
    have c1 : Tryd.prog.cellsOf 23 = 2 := by kernel_rfl
    have c2 : Tryd.prog.cellsOf 9 = 1 := by kernel_rfl
    have hs := Tryd.underlying9
    unfold Program.keyLits
    rw [Tryd.underlying23]
    simp [Value.cells, c1, c2, Program.keyLits, hs, h0, h1]
  simp only [e1, e2, e3, Bool.and_self, if_true, Option.map_some]
theorem klN_inj (x y : Nm) (hx : x.f0.size ≤ maxLen ∧ x.f1.size ≤ maxLen) (hy : y.f0.size ≤ maxLen ∧ y.f1.size ≤ maxLen) (h : klN x = klN y) : x.f0 = y.f0 ∧ x.f1 = y.f1 := by
  have h1 := keyN x hx.1 hx.2
  have h2 := keyN y hy.1 hy.2
  rw [h] at h1
  have e := keyedN.inj h1 h2
  unfold valN at e
  injection e with e
  have e1 := congrArg (fun a : Array Value => a.toList) e
  simp only [List.cons.injEq, Value.string.injEq, and_true] at e1
  exact e1
end Go.Proofs.YtffpbhbiamkkpaaDoor.ND
namespace Go.Proofs.YtffpbhbiamkkpaaDoor.ND
open Go.Lib Go.Sort
set_option linter.unusedVariables false
theorem yr8 : ∀ a : List UInt8, compareBytes a a = 0
  | [] => rfl
  | a :: xs => by unfold compareBytes; rw [if_neg (UInt8.lt_irrefl a), if_neg (UInt8.lt_irrefl a)]; exact yr8 xs
theorem cb_eq : ∀ a b : List UInt8, compareBytes a b = 0 → a = b
  | [], [], _ => rfl
  | [], _ :: _, h => by simp [compareBytes] at h
  | _ :: _, [], h => by simp [compareBytes] at h
  | a :: xs, b :: bs, h => by
    unfold compareBytes at h
    by_cases h1 : a < b
    · simp [h1] at h
    · by_cases h2 : b < a
      · simp [h1, h2] at h
      · rw [if_neg h1, if_neg h2] at h
        have e : a = b := UInt8.le_antisymm (UInt8.not_lt.1 h2) (UInt8.not_lt.1 h1)
        rw [e, cb_eq xs bs h]
theorem yq7 : ∀ a b : List UInt8, compareBytes b a = - compareBytes a b
  | [], [] => rfl
  | [], _ :: _ => rfl
  | _ :: _, [] => rfl
  | a :: xs, b :: bs => by
    unfold compareBytes
    by_cases h1 : a < b
    · have h2 : ¬ b < a := fun h => UInt8.lt_irrefl _ (UInt8.lt_trans h1 h)
      simp [h1, h2]
    · by_cases h2 : b < a
      · simp [h1, h2]
      · simp only [h1, h2, if_false]; exact yq7 xs bs
theorem yr7 : ∀ a b c : List UInt8, compareBytes a b ≤ 0 → compareBytes b c ≤ 0 → compareBytes a c ≤ 0
  | [], _, [], _, _ => by simp [compareBytes]
  | [], _, _ :: _, _, _ => by simp [compareBytes]
  | a :: xs, [], c, h, _ => by simp [compareBytes] at h
  | _ :: _, b :: bs, [], _, h => by simp [compareBytes] at h
  | a :: xs, b :: bs, c :: cs, h1, h2 => by
    unfold compareBytes at h1 h2 ⊢
    by_cases p1 : a < b
    · by_cases p2 : b < c
      · rw [if_pos (UInt8.lt_trans p1 p2)]; decide
      · by_cases p3 : c < b
        · simp [p2, p3] at h2
        · have e : b = c := UInt8.le_antisymm (UInt8.not_lt.1 p3) (UInt8.not_lt.1 p2)
          rw [← e, if_pos p1]; decide
    · by_cases q1 : b < a
      · simp [p1, q1] at h1
      · have e : a = b := UInt8.le_antisymm (UInt8.not_lt.1 q1) (UInt8.not_lt.1 p1)
        subst e
        rw [if_neg p1, if_neg p1] at h1
        by_cases p2 : a < c
        · rw [if_pos p2]; decide
        · by_cases p3 : c < a
          · simp [p2, p3] at h2
          · rw [if_neg p2, if_neg p3] at h2 ⊢
            exact yr7 xs bs cs h1 h2
/-- The order of attributes that print uses. -/
def cfA (x y : At) : Int :=
  if compareBytes x.f0.f0.data.toList y.f0.f0.data.toList ≠ 0 then compareBytes x.f0.f0.data.toList y.f0.f0.data.toList else compareBytes x.f0.f1.data.toList y.f0.f1.data.toList
theorem cfA_self (x : At) : cfA x x = 0 := by unfold cfA; rw [yr8, if_neg (by simp), yr8]
theorem yj4 (x y : At) : cfA y x = - cfA x y := by
  unfold cfA
  have h1 := yq7 x.f0.f0.data.toList y.f0.f0.data.toList
  have h2 := yq7 x.f0.f1.data.toList y.f0.f1.data.toList
  by_cases h : compareBytes x.f0.f0.data.toList y.f0.f0.data.toList = 0
  · rw [h1, h2, h]; simp
  · rw [h1, h2, if_pos h, if_pos (by omega)]
theorem yn5 (x y z : At) (h1 : cfA x y ≤ 0) (h2 : cfA y z ≤ 0) : cfA x z ≤ 0 := by
  unfold cfA at *
  by_cases e1 : compareBytes x.f0.f0.data.toList y.f0.f0.data.toList = 0
  · have e := cb_eq _ _ e1
    rw [if_neg (by simpa using e1)] at h1
    rw [e]
    by_cases e2 : compareBytes y.f0.f0.data.toList z.f0.f0.data.toList = 0
    · rw [if_neg (by simpa using e2)] at h2 ⊢
      exact yr7 _ _ _ h1 h2
    · rw [if_pos e2] at h2 ⊢
      exact h2
  · rw [if_pos e1] at h1
    have k2 : compareBytes y.f0.f0.data.toList z.f0.f0.data.toList ≤ 0 := by
      by_cases e2 : compareBytes y.f0.f0.data.toList z.f0.f0.data.toList = 0
      · omega
      · rw [if_pos e2] at h2; exact h2
    have k := yr7 _ _ _ h1 k2
    by_cases e3 : compareBytes x.f0.f0.data.toList z.f0.f0.data.toList = 0
    · exfalso
      have e := cb_eq _ _ e3
      rw [← e, yq7 x.f0.f0.data.toList] at k2
      omega
    · rw [if_pos e3]; exact k
theorem cfA_zero (x y : At) (h : cfA x y = 0) : x.f0.f0 = y.f0.f0 ∧ x.f0.f1 = y.f0.f1 := by
  unfold cfA at h
  by_cases e : compareBytes x.f0.f0.data.toList y.f0.f0.data.toList = 0
  · rw [if_neg (by simpa using e)] at h
    have a := cb_eq _ _ e
    have b := cb_eq _ _ h
    refine ⟨?_, ?_⟩
    · exact congrArg (fun l => (⟨l.toArray⟩ : ByteArray)) a
    · exact congrArg (fun l => (⟨l.toArray⟩ : ByteArray)) b
  · rw [if_pos e] at h
    exact absurd h e
def leA (x y : At) : Bool := decide (cfA x y ≤ 0)
theorem leA_trans (x y z : At) (h1 : leA x y = true) (h2 : leA y z = true) : leA x z = true := by
  unfold leA at *
  simp only [decide_eq_true_eq] at *
  exact yn5 x y z h1 h2
theorem leA_total (x y : At) : (leA x y || leA y x) = true := by
  unfold leA
  have := yj4 x y
  simp only [Bool.or_eq_true, decide_eq_true_eq]
  omega
/-- Attributes, rising. -/
def srt (l : List At) : List At := l.mergeSort leA
theorem yj2 (l : List At) : (srt l).Perm l := List.mergeSort_perm l leA
theorem yn7 (l : List At) : (srt l).Pairwise (fun x y => leA x y = true) := List.pairwise_mergeSort leA_trans leA_total l
/-- No two have one name. -/
def Apart (l : List At) : Prop := l.Pairwise fun x y => ¬ (x.f0.f0 = y.f0.f0 ∧ x.f0.f1 = y.f0.f1)
theorem Apart.perm {l l' : List At} (h : Apart l) (p : l.Perm l') : Apart l' :=
  (List.Perm.pairwise_iff (R := fun x y : At => ¬ (x.f0.f0 = y.f0.f0 ∧ x.f0.f1 = y.f0.f1)) (fun {a b} (h : ¬ (a.f0.f0 = b.f0.f0 ∧ a.f0.f1 = b.f0.f1)) => fun k => h ⟨k.1.symm, k.2.symm⟩) p).1 h
/-- Two rising rows of the same attributes, no two of one name, are one. -/
theorem yn8 : ∀ {l l' : List At}, l.Perm l' → Apart l → l.Pairwise (fun x y => leA x y = true) → l'.Pairwise (fun x y => leA x y = true) → l = l'
  | [], l', p, _, _, _ => p.nil_eq
  | a :: l, [], p, _, _, _ => by simpa using p.length_eq
  | a :: l, b :: l', p, h, s, s' => by
    have hab : a = b := by
      by_cases e : a = b
      · exact e
      exfalso
      have ha : a ∈ b :: l' := p.mem_iff.1 (by simp)
      have hb : b ∈ a :: l := p.mem_iff.2 (by simp)
      have ha' : a ∈ l' := by rcases List.mem_cons.1 ha with h | h; exact absurd h e; exact h
      have hb' : b ∈ l := by rcases List.mem_cons.1 hb with h | h; exact absurd h.symm e; exact h
      have k1 : leA a b = true := (List.pairwise_cons.1 s).1 b hb'
      have k2 : leA b a = true := (List.pairwise_cons.1 s').1 a ha'
      have k3 := (List.pairwise_cons.1 h).1 b hb'
      unfold leA at k1 k2
      simp only [decide_eq_true_eq] at k1 k2
      have := yj4 a b
      exact k3 (cfA_zero a b (by omega))
    subst hab
    rw [yn8 (List.Perm.cons_inv p) (List.pairwise_cons.1 h).2 (List.pairwise_cons.1 s).2 (List.pairwise_cons.1 s').2]
end Go.Proofs.YtffpbhbiamkkpaaDoor.ND
