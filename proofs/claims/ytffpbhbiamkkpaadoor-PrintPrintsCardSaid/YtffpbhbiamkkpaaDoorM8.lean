/- Equal, Same of the reference's trees and Same of attributes: two nodes of one content are told so. -/
import Derived.Test.YtffpbhbiamkkpaaDoorCopyB
import Derived.StillTailTactics
namespace Go.Proofs.YtffpbhbiamkkpaaDoor.ND
open Go Go.RowKit Go.Proofs.YtffpbhbiamkkpaaDoorW.PrintWords Go.Proofs.YtffpbhbiamkkpaaDoorW.PrintLast Go.Proofs.YtffpbhbiamkkpaaDoorW.PrintMore
set_option linter.unusedVariables false
theorem decS (a b : ByteArray) : ((a.toList == b.toList) = true ∧ (a.toList = b.toList) = True) ∨ ((a.toList == b.toList) = false ∧ (a.toList = b.toList) = False) := by
  by_cases h : a.toList = b.toList
  · exact Or.inl ⟨by simpa using h, eq_true h⟩
  · exact Or.inr ⟨by simpa using h, eq_false h⟩
def ym3 (f : Nat) (n : Nd) : Prop := ∀ (w : World) (A3 A4 B3 B4 : Option Addr) (c3 c4 d3 d4 : Nat), kAt.C w A3 n.f2.length n.f2 → kNd.C w A4 n.f3.length n.f3 → kAt.C w B3 n.f2.length n.f2 → kNd.C w B4 n.f3.length n.f3 →
  Calls Tryd.prog f #[.agg #[.int .i64 n.f0, .string n.f1.f0, .string n.f1.f1, .slice A3 n.f2.length c3, .slice A4 n.f3.length c4, .string n.f4], .agg #[.int .i64 n.f0, .string n.f1.f0, .string n.f1.f1, .slice B3 n.f2.length d3, .slice B4 n.f3.length d4, .string n.f4]] w fun e w' => e = .returned (.bool true) ∧ Below w.heap.size w w'
set_option maxHeartbeats 2000000 in
set_option maxRecDepth 100000 in
theorem attrs_same (A B : Option Addr) (ca cb : Nat) (l : List At) (w : World) (hA : kAt.C w A l.length l) (hB : kAt.C w B l.length l) (hl : l.length ≤ 1000000) : Calls Tryd.prog 43 #[.slice A l.length ca, .slice B l.length cb] w fun e w' => e = .returned (.bool true) ∧ Drawn0 w w' := by
  have HA := Aside0.mk hA
  have HB := Aside0.mk hB
  clear hA hB
  go_enter Tryd.func43, Tryd.ntmps43
  go_wp2_with fail
  go_loopg [5] l.length (fun m v wr => ∃ (j nd : Nat), v = .int .i64 (j : Int) ∧ j ≤ l.length ∧ wr = w.drewN nd ∧ Aside0 (m = l.length - j))
  case atStart => exact ⟨0, 0, rfl, Nat.zero_le _, rfl, ⟨rfl⟩⟩
  case round =>
    obtain ⟨j, nd, rfl, hj, rfl, HM⟩ := hrel
    by_cases hlt : j < l.length
    · obtain ⟨ad, eA, a0, a1, a2⟩ := atAt HA.out (j : Int) (by omega) (by omega)
      obtain ⟨bd, eB, b0, b1, b2⟩ := atAt HB.out (j : Int) (by omega) (by omega)
      simp only [Int.toNat_natCast] at a0 a1 a2 b0 b1 b2
      obtain ⟨x, hx⟩ : ∃ x, rdAt l (j : Int) = x := ⟨_, rfl⟩
      rw [hx] at a0 a1 a2 b0 b1 b2
      have q1 := eq_true (show (j : Int) < (l.length : Int) by omega)
      have q2 := eq_true (show (0 : Int) ≤ (j : Int) by omega)
      have q3 : (x.f0.f0.toList == x.f0.f0.toList) = true := by simp
      have q4 : (x.f0.f1.toList == x.f0.f1.toList) = true := by simp
      have q5 : (x.f1.toList == x.f1.toList) = true := by simp
      subst eA
      subst eB
      obtain ⟨z, hz⟩ : ∃ z, z = j + 1 := ⟨_, rfl⟩
      have f1 : (j : Int) + 1 = (z : Int) := by omega
      have f2 : IntKind.i64.wrap (z : Int) = (z : Int) := IntWalk.i64_in _ (by omega)
      have HZ := Aside0.mk hz
      clear hz hx
      go_wp2_with fail
      go_quiet (fail)
      go_wp2_with fail
      go_roundg (l.length - z)
      case measure => have h1 := HM.out; have h2 := HZ.out; omega
      case rel => exact ⟨z, _, rfl, by have h2 := HZ.out; omega, rfl, ⟨rfl⟩⟩
    · have q1 := eq_false (show ¬ (j : Int) < (l.length : Int) by omega)
      go_wp2_with fail
      go_ret
      exact ⟨rfl, _, rfl⟩
set_option maxHeartbeats 4000000 in
set_option maxRecDepth 100000 in
theorem same_step (n : Nd) (h2 : n.f2.length ≤ 1000000) (h3 : n.f3.length ≤ 1000000) (ih : ∀ d ∈ n.f3, ym3 42 d) : ym3 42 n := by
  intro w A3 A4 B3 B4 c3 c4 d3 d4 hA hK hB hL
  obtain ⟨k, nm, at', kids, x⟩ := n
  dsimp only at *
  have HA := Aside0.mk hA
  have HK := Aside0.mk hK
  have HB := Aside0.mk hB
  have HL := Aside0.mk hL
  have HIH := Aside0.mk ih
  have q3 : (nm.f0.toList == nm.f0.toList) = true := by simp
  have q4 : (nm.f1.toList == nm.f1.toList) = true := by simp
  have q5 : (x.toList == x.toList) = true := by simp
  have q6 : (k != k) = false := by simp
  clear hA hK hB hL ih
  go_enter Tryd.func42, Tryd.ntmps42
  go_wp2_with fail
  obtain ⟨W0, hW0⟩ : ∃ W0, (w.alloc (.cells #[.int .i64 k, .string nm.f0, .string nm.f1, .slice A3 at'.length c3, .slice A4 kids.length c4, .string x] 27)).alloc (.cells #[.int .i64 k, .string nm.f0, .string nm.f1, .slice B3 at'.length d3, .slice B4 kids.length d4, .string x] 27) = W0 := ⟨_, rfl⟩
  rw [hW0]
  have hb0 : Below w.heap.size w W0 := by rw [← hW0]; exact ((Below.refl _ _).alloc (Nat.le_refl _) _).alloc (by simp) _
  have hk0 : W0.heap[w.heap.size]? = some (.cells #[.int .i64 k, .string nm.f0, .string nm.f1, .slice A3 at'.length c3, .slice A4 kids.length c4, .string x] 27 (0, 0)) := by
    rw [← hW0]
    exact (((Below.refl _ _).alloc (Nat.le_refl _) _).block w.heap.size (by simp)).trans (heap_alloc_last w _)
  have hk1 : W0.heap[w.heap.size + 1]? = some (.cells #[.int .i64 k, .string nm.f0, .string nm.f1, .slice B3 at'.length d3, .slice B4 kids.length d4, .string x] 27 (0, 0)) := by
    rw [← hW0]
    have h := heap_alloc_last (w.alloc (.cells #[.int .i64 k, .string nm.f0, .string nm.f1, .slice A3 at'.length c3, .slice A4 kids.length c4, .string x] 27)) (.cells #[.int .i64 k, .string nm.f0, .string nm.f1, .slice B3 at'.length d3, .slice B4 kids.length d4, .string x] 27)
    simpa using h
  have m3 : W0.cell? ⟨w.heap.size, 3, none⟩ = some (.slice A3 at'.length c3) := by rw [Lib.cell_of_heap hk0]; rfl
  have m4 : W0.cell? ⟨w.heap.size, 4, none⟩ = some (.slice A4 kids.length c4) := by rw [Lib.cell_of_heap hk0]; rfl
  have o3 : W0.cell? ⟨w.heap.size + 1, 3, none⟩ = some (.slice B3 at'.length d3) := by rw [Lib.cell_of_heap hk1]; rfl
  have o4 : W0.cell? ⟨w.heap.size + 1, 4, none⟩ = some (.slice B4 kids.length d4) := by rw [Lib.cell_of_heap hk1]; rfl
  have HB0 := Aside0.mk hb0
  have HK0 := Aside0.mk hk0
  have HK1 := Aside0.mk hk1
  have HCA := Aside0.mk (Kd.yc3 HA.out hb0)
  have HCB := Aside0.mk (Kd.yc3 HB.out hb0)
  clear hW0 hb0 hk0 hk1
  go_loopg [5] at'.length (fun m v wr => ∃ (j nd : Nat), v = .int .i64 (j : Int) ∧ j ≤ at'.length ∧ wr = W0.drewN nd ∧ Aside0 (m = at'.length - j))
  case atStart => exact ⟨0, 0, rfl, Nat.zero_le _, rfl, ⟨rfl⟩⟩
  case round =>
    obtain ⟨j, nd, rfl, hj, rfl, HM⟩ := hrel
    by_cases hlt : j < at'.length
    · obtain ⟨ad, eA, a0, a1, a2⟩ := atAt HCA.out (j : Int) (by omega) (by omega)
      simp only [Int.toNat_natCast] at a0 a1 a2
      obtain ⟨y, hy⟩ : ∃ y, rdAt at' (j : Int) = y := ⟨_, rfl⟩
      rw [hy] at a0 a1 a2
      have u1 := eq_true (show (j : Int) < (at'.length : Int) by omega)
      have u2 := eq_true (show (0 : Int) ≤ (j : Int) by omega)
      obtain ⟨z, hz⟩ : ∃ z, z = j + 1 := ⟨_, rfl⟩
      have f1 : (j : Int) + 1 = (z : Int) := by omega
      have f2 : IntKind.i64.wrap (z : Int) = (z : Int) := IntWalk.i64_in _ (by omega)
      have HZ := Aside0.mk hz
      subst eA
      clear hz hy
      go_wp2_with fail
      go_loopg [6, 7, 8] at'.length (fun m v6 v7 v8 wr => ∃ (q i nq : Nat), v6 = .int .i64 (q : Int) ∧ v7 = .int .i64 (q : Int) ∧ v8 = .int .i64 (i : Int) ∧ i ≤ at'.length ∧ q ≤ i ∧ wr = W0.drewN nq ∧ Aside0 (m = at'.length - i))
      case atStart => exact ⟨0, 0, nd, rfl, rfl, rfl, Nat.zero_le _, Nat.le_refl _, rfl, ⟨rfl⟩⟩
      case round =>
        obtain ⟨q, i, nq, rfl, rfl, rfl, hi, hqi, rfl, HM2⟩ := hrel
        by_cases hlt2 : i < at'.length
        · obtain ⟨ad', eA, e0, e1, e2⟩ := atAt HCA.out (i : Int) (by omega) (by omega)
          obtain ⟨bd, eB, b0, b1, b2⟩ := atAt HCB.out (i : Int) (by omega) (by omega)
          obtain rfl := Option.some.inj eA
          simp only [Int.toNat_natCast] at e0 e1 e2 b0 b1 b2
          obtain ⟨v, hv⟩ : ∃ v, rdAt at' (i : Int) = v := ⟨_, rfl⟩
          rw [hv] at e0 e1 e2 b0 b1 b2
          have v1 := eq_true (show (i : Int) < (at'.length : Int) by omega)
          have v2 := eq_true (show (0 : Int) ≤ (i : Int) by omega)
          obtain ⟨i1, hi1⟩ : ∃ z, z = i + 1 := ⟨_, rfl⟩
          have g1 : (i : Int) + 1 = (i1 : Int) := by omega
          have g2 : IntKind.i64.wrap (i1 : Int) = (i1 : Int) := IntWalk.i64_in _ (by omega)
          obtain ⟨p1, hp1⟩ : ∃ z, z = q + 1 := ⟨_, rfl⟩
          have g3 : (q : Int) + 1 = (p1 : Int) := by omega
          have g4 : IntKind.i64.wrap (p1 : Int) = (p1 : Int) := IntWalk.i64_in _ (by omega)
          have HZ2 := Aside0.mk (And.intro hi1 hp1)
          subst eB
          clear hi1 hp1 hv
          rcases decS v.f0.f0 y.f0.f0 with ⟨x1, x2⟩ | ⟨x1, x2⟩ <;> rcases decS v.f0.f1 y.f0.f1 with ⟨x3, x4⟩ | ⟨x3, x4⟩ <;> rcases decS v.f1 y.f1 with ⟨x5, x6⟩ | ⟨x5, x6⟩
          all_goals
            go_wp2_with fail
            go_quiet (fail)
            go_wp2_with fail
            go_quiet (fail)
            go_wp2_with fail
            go_roundg (at'.length - i1)
            case measure => have h1 := HM2.out; have h2 := HZ2.out; omega
            case rel => first | exact ⟨q, i1, _, rfl, rfl, rfl, by have h2 := HZ2.out; omega, by have h2 := HZ2.out; omega, rfl, ⟨rfl⟩⟩ | exact ⟨p1, i1, _, rfl, rfl, rfl, by have h2 := HZ2.out; omega, by have h2 := HZ2.out; omega, rfl, ⟨rfl⟩⟩
        · have v1 := eq_false (show ¬ (i : Int) < (at'.length : Int) by omega)
          have v2 : ((q : Int) != (q : Int)) = false := by simp
          go_wp2_with fail
          go_roundg (at'.length - z)
          case measure => have h1 := HM.out; have h2 := HZ.out; omega
          case rel => exact ⟨z, _, rfl, by have h2 := HZ.out; omega, rfl, ⟨rfl⟩⟩
    · have u1 := eq_false (show ¬ (j : Int) < (at'.length : Int) by omega)
      have HBS := Aside0.mk (ya0 (Below.refl W0.heap.size W0) nd)
      have HCK := Aside0.mk (Kd.yc3 HK.out HB0.out)
      have HCL := Aside0.mk (Kd.yc3 HL.out HB0.out)
      go_wp2_with fail
      go_loopg [9] kids.length (fun m v wr => ∃ (i : Nat), v = .int .i64 (i : Int) ∧ i ≤ kids.length ∧ Aside0 (Below W0.heap.size W0 wr) ∧ Aside0 (m = kids.length - i))
      case atStart => exact ⟨0, rfl, Nat.zero_le _, HBS, ⟨rfl⟩⟩
      case round =>
        obtain ⟨i, rfl, hi, HBW, HM3⟩ := hrel
        have n4 := yd0 HBW.out m4
        have r4 := yd0 HBW.out o4
        by_cases hlt3 : i < kids.length
        · obtain ⟨ad, A5, c5, A6, c6, eA, k0, k1, k2, k3, k4, k5, l5, q5, l6, q6⟩ := atNd (Kd.yc3 HCK.out HBW.out) (i : Int) (by omega) (by omega)
          obtain ⟨bd, B5, d5, B6, d6, eB, j0, j1, j2, j3, j4, j5, i5, t5, i6, t6⟩ := atNd (Kd.yc3 HCL.out HBW.out) (i : Int) (by omega) (by omega)
          have hdj : rdNd kids (i : Int) = kids[i] := by simp [rdNd, hlt3]
          rw [hdj] at k0 k1 k2 k3 k4 k5 l5 q5 l6 q6 j0 j1 j2 j3 j4 j5 i5 t5 i6 t6
          simp only [Int.toNat_natCast] at k0 k1 k2 k3 k4 k5 j0 j1 j2 j3 j4 j5
          have HS := Aside0.mk (HIH.out kids[i] (List.getElem_mem _) wr.drew A5 A6 B5 B6 c5 c6 d5 d6 (Kd.C_drew q5) (Kd.C_drew q6) (Kd.C_drew t5) (Kd.C_drew t6))
          subst eA
          subst eB
          have v1 := eq_true (show (i : Int) < (kids.length : Int) by omega)
          have v2 := eq_true (show (0 : Int) ≤ (i : Int) by omega)
          obtain ⟨i1, hi1⟩ : ∃ z, z = i + 1 := ⟨_, rfl⟩
          have g1 : (i : Int) + 1 = (i1 : Int) := by omega
          have g2 : IntKind.i64.wrap (i1 : Int) = (i1 : Int) := IntWalk.i64_in _ (by omega)
          have HZ2 := Aside0.mk hi1
          clear hi1 hdj q5 q6 t5 t6 l5 l6 i5 i6
          go_wp2_with fail
          go_still_tail 10, (by kernel_rfl)
          change wpList _ _ _ _ _ wr.drew
          go_wp2_with fail
          refine HS.out.mono ?_
          rintro e w5 ⟨rfl, hb5⟩
          have HB5 := Aside0.mk (HBW.out.trans (((yh2 (Below.refl _ _)).trans hb5).mono HBW.out.size))
          clear hb5
          go_wp2_with fail
          go_roundg (kids.length - i1)
          case measure => have h1 := HM3.out; have h2 := HZ2.out; omega
          case rel => exact ⟨i1, rfl, by have h2 := HZ2.out; omega, HB5, ⟨rfl⟩⟩
        · have v1 := eq_false (show ¬ (i : Int) < (kids.length : Int) by omega)
          have HF := Aside0.mk (HB0.out.trans (HBW.out.mono HB0.out.size))
          go_wp2_with fail
          go_ret
          exact ⟨rfl, HF.out⟩
theorem same_all : ∀ (m : Nat) (n : Nd), Prt.wt n < m → Prt.wt n ≤ 1000000 → ym3 42 n := by
  intro m
  induction m with
  | zero => intro n h; omega
  | succ m ih =>
    intro n hm hw
    obtain ⟨k, nm, t, c, x⟩ := n
    have e : Prt.wt ⟨k, nm, t, c, x⟩ = 1 + nm.f0.size + nm.f1.size + Prt.wAs t + Prt.wts c + x.size := by rw [Prt.wt]
    have h2 := Prt.ym5 t
    have h3 := yp5 c
    refine same_step _ (by show t.length ≤ _; omega) (by show c.length ≤ _; omega) (fun d hd => ?_)
    obtain ⟨i, hi, rfl⟩ := List.getElem_of_mem (show d ∈ c from hd)
    have := Prt.yp6 c i hi
    exact ih _ (by omega) (by omega)
end Go.Proofs.YtffpbhbiamkkpaaDoor.ND
namespace Go.Proofs.YtffpbhbiamkkpaaDoor.ND
open Go Go.RowKit Go.Proofs.YtffpbhbiamkkpaaDoorW.PrintWords Go.Proofs.YtffpbhbiamkkpaaDoorW.PrintLast Go.Proofs.YtffpbhbiamkkpaaDoorW.PrintMore
set_option linter.unusedVariables false
set_option maxHeartbeats 4000000 in
set_option maxRecDepth 100000 in
theorem equal_step (n : Nd) (hw : Prt.wt n ≤ 1000000) (ih : ∀ d ∈ n.f3, ym3 18 d) : ym3 18 n := by
  intro w A3 A4 B3 B4 c3 c4 d3 d4 hA hK hB hL
  have HSM := Aside0.mk (fun W a b c d => same_all (Prt.wt n + 1) n (by omega) hw W A3 A4 B3 B4 c3 c4 d3 d4 a b c d)
  obtain ⟨k, nm, at', kids, x⟩ := n
  have e : Prt.wt ⟨k, nm, at', kids, x⟩ = 1 + nm.f0.size + nm.f1.size + Prt.wAs at' + Prt.wts kids + x.size := by rw [Prt.wt]
  have h2' := Prt.ym5 at'
  have h3' := yp5 kids
  have h2 : at'.length ≤ 1000000 := by omega
  have h3 : kids.length ≤ 1000000 := by omega
  clear e h2' h3' hw
  dsimp only at *
  have HAS := Aside0.mk (fun W a b => attrs_same A3 B3 c3 d3 at' W a b h2)
  have HA := Aside0.mk hA
  have HK := Aside0.mk hK
  have HB := Aside0.mk hB
  have HL := Aside0.mk hL
  have HIH := Aside0.mk ih
  clear hA hK hB hL ih
  go_enter Tryd.func18, Tryd.ntmps18
  go_wp2_with fail
  obtain ⟨W0, hW0⟩ : ∃ W0, (w.alloc (.cells #[.int .i64 k, .string nm.f0, .string nm.f1, .slice A3 at'.length c3, .slice A4 kids.length c4, .string x] 27)).alloc (.cells #[.int .i64 k, .string nm.f0, .string nm.f1, .slice B3 at'.length d3, .slice B4 kids.length d4, .string x] 27) = W0 := ⟨_, rfl⟩
  rw [hW0]
  have hb0 : Below w.heap.size w W0 := by rw [← hW0]; exact ((Below.refl _ _).alloc (Nat.le_refl _) _).alloc (by simp) _
  have hk0 : W0.heap[w.heap.size]? = some (.cells #[.int .i64 k, .string nm.f0, .string nm.f1, .slice A3 at'.length c3, .slice A4 kids.length c4, .string x] 27 (0, 0)) := by
    rw [← hW0]
    exact (((Below.refl _ _).alloc (Nat.le_refl _) _).block w.heap.size (by simp)).trans (heap_alloc_last w _)
  have hk1 : W0.heap[w.heap.size + 1]? = some (.cells #[.int .i64 k, .string nm.f0, .string nm.f1, .slice B3 at'.length d3, .slice B4 kids.length d4, .string x] 27 (0, 0)) := by
    rw [← hW0]
    have h := heap_alloc_last (w.alloc (.cells #[.int .i64 k, .string nm.f0, .string nm.f1, .slice A3 at'.length c3, .slice A4 kids.length c4, .string x] 27)) (.cells #[.int .i64 k, .string nm.f0, .string nm.f1, .slice B3 at'.length d3, .slice B4 kids.length d4, .string x] 27)
    simpa using h
  have m3 : W0.cell? ⟨w.heap.size, 3, none⟩ = some (.slice A3 at'.length c3) := by rw [Lib.cell_of_heap hk0]; rfl
  have m4 : W0.cell? ⟨w.heap.size, 4, none⟩ = some (.slice A4 kids.length c4) := by rw [Lib.cell_of_heap hk0]; rfl
  have o3 : W0.cell? ⟨w.heap.size + 1, 3, none⟩ = some (.slice B3 at'.length d3) := by rw [Lib.cell_of_heap hk1]; rfl
  have o4 : W0.cell? ⟨w.heap.size + 1, 4, none⟩ = some (.slice B4 kids.length d4) := by rw [Lib.cell_of_heap hk1]; rfl
  have HB0 := Aside0.mk hb0
  have HK0 := Aside0.mk hk0
  have HK1 := Aside0.mk hk1
  have HCA := Aside0.mk (Kd.yc3 HA.out hb0)
  have HCB := Aside0.mk (Kd.yc3 HB.out hb0)
  have HCK := Aside0.mk (Kd.yc3 HK.out hb0)
  have HCL := Aside0.mk (Kd.yc3 HL.out hb0)
  refine (HSM.out W0 HCA.out HCK.out HCB.out HCL.out).mono ?_
  rintro e w1 ⟨rfl, hb1⟩
  have HB1 := Aside0.mk hb1
  have n3 := yd0 hb1 m3
  have p3 := yd0 hb1 o3
  have n4 := yd0 hb1 m4
  have p4 := yd0 hb1 o4
  clear hb1
  go_wp2_with fail
  refine (HAS.out _ (Kd.yc3 HCA.out HB1.out) (Kd.yc3 HCB.out HB1.out)).mono ?_
  rintro e w2 ⟨rfl, ⟨nd, rfl⟩⟩
  have HBS := Aside0.mk (ya0 HB1.out nd)
  clear m3 o3
  go_wp2_with fail
  go_loopg [5] kids.length (fun m v wr => ∃ (i : Nat), v = .int .i64 (i : Int) ∧ i ≤ kids.length ∧ Aside0 (Below W0.heap.size W0 wr) ∧ Aside0 (m = kids.length - i))
  case atStart => exact ⟨0, rfl, Nat.zero_le _, HBS, ⟨rfl⟩⟩
  case round =>
    obtain ⟨i, rfl, hi, HBW, HM3⟩ := hrel
    have n4 := yd0 HBW.out m4
    have r4 := yd0 HBW.out o4
    by_cases hlt3 : i < kids.length
    · obtain ⟨ad, A5, c5, A6, c6, eA, k0, k1, k2, k3, k4, k5, l5, q5, l6, q6⟩ := atNd (Kd.yc3 HCK.out HBW.out) (i : Int) (by omega) (by omega)
      obtain ⟨bd, B5, d5, B6, d6, eB, j0, j1, j2, j3, j4, j5, i5, t5, i6, t6⟩ := atNd (Kd.yc3 HCL.out HBW.out) (i : Int) (by omega) (by omega)
      have hdj : rdNd kids (i : Int) = kids[i] := by simp [rdNd, hlt3]
      rw [hdj] at k0 k1 k2 k3 k4 k5 l5 q5 l6 q6 j0 j1 j2 j3 j4 j5 i5 t5 i6 t6
      simp only [Int.toNat_natCast] at k0 k1 k2 k3 k4 k5 j0 j1 j2 j3 j4 j5
      have HS := Aside0.mk (HIH.out kids[i] (List.getElem_mem _) wr.drew A5 A6 B5 B6 c5 c6 d5 d6 (Kd.C_drew q5) (Kd.C_drew q6) (Kd.C_drew t5) (Kd.C_drew t6))
      subst eA
      subst eB
      have v1 := eq_true (show (i : Int) < (kids.length : Int) by omega)
      have v2 := eq_true (show (0 : Int) ≤ (i : Int) by omega)
      obtain ⟨i1, hi1⟩ : ∃ z, z = i + 1 := ⟨_, rfl⟩
      have g1 : (i : Int) + 1 = (i1 : Int) := by omega
      have g2 : IntKind.i64.wrap (i1 : Int) = (i1 : Int) := IntWalk.i64_in _ (by omega)
      have HZ2 := Aside0.mk hi1
      clear hi1 hdj q5 q6 t5 t6 l5 l6 i5 i6
      go_wp2_with fail
      go_still_tail 10, (by kernel_rfl)
      change wpList _ _ _ _ _ wr.drew
      go_wp2_with fail
      refine HS.out.mono ?_
      rintro e w5 ⟨rfl, hb5⟩
      have HB5 := Aside0.mk (HBW.out.trans (((yh2 (Below.refl _ _)).trans hb5).mono HBW.out.size))
      clear hb5
      go_wp2_with fail
      go_roundg (kids.length - i1)
      case measure => have h1 := HM3.out; have h2 := HZ2.out; omega
      case rel => exact ⟨i1, rfl, by have h2 := HZ2.out; omega, HB5, ⟨rfl⟩⟩
    · have v1 := eq_false (show ¬ (i : Int) < (kids.length : Int) by omega)
      have HF := Aside0.mk (HB0.out.trans (HBW.out.mono HB0.out.size))
      go_wp2_with fail
      go_ret
      exact ⟨rfl, HF.out⟩
theorem equal_all : ∀ (m : Nat) (n : Nd), Prt.wt n < m → Prt.wt n ≤ 1000000 → ym3 18 n := by
  intro m
  induction m with
  | zero => intro n h; omega
  | succ m ih =>
    intro n hm hw
    refine equal_step n hw (fun d hd => ?_)
    obtain ⟨k, nm, t, c, x⟩ := n
    have e : Prt.wt ⟨k, nm, t, c, x⟩ = 1 + nm.f0.size + nm.f1.size + Prt.wAs t + Prt.wts c + x.size := by rw [Prt.wt]
    obtain ⟨i, hi, rfl⟩ := List.getElem_of_mem (show d ∈ c from hd)
    have := Prt.yp6 c i hi
    exact ih _ (by omega) (by omega)
end Go.Proofs.YtffpbhbiamkkpaaDoor.ND
