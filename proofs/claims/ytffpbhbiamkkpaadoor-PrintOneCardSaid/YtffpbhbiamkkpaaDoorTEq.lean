/- slices.Equal of attributes, slices.EqualFunc of nodes and tree.Same: told true just of nodes that are one but for the order of attributes. -/
import Derived.Test.YtffpbhbiamkkpaaDoorTOrd
import Derived.Test.YtffpbhbiamkkpaaDoorEqN
import Derived.Test.YtffpbhbiamkkpaaDoorPNode
namespace Go.Proofs.YtffpbhbiamkkpaaDoor.TS
open Go Go.RowKit Go.Lib Go.Proofs.YtffpbhbiamkkpaaDoorW.PrintWords Go.Proofs.YtffpbhbiamkkpaaDoorW.PrintLast Go.Proofs.YtffpbhbiamkkpaaDoorW.PrintMore Go.Proofs.YtffpbhbiamkkpaaDoor.ND
set_option linter.unusedVariables false
theorem At_eq {x y : At} (h0 : (x.f0.f0.toList = y.f0.f0.toList) = True) (h1 : (x.f0.f1.toList = y.f0.f1.toList) = True) (h2 : (x.f1.toList = y.f1.toList) = True) : x = y := by
  have k : ∀ a b : ByteArray, (a.toList = b.toList) = True → a = b := fun a b h => by
    have h := of_eq_true h
    rw [Lib.toList_data, Lib.toList_data] at h
    exact congrArg (fun l : List UInt8 => (⟨l.toArray⟩ : ByteArray)) h
  obtain ⟨⟨a, b⟩, c⟩ := x
  obtain ⟨⟨d, e⟩, f⟩ := y
  simp only at h0 h1 h2
  rw [k _ _ h0, k _ _ h1, k _ _ h2]
theorem box6 {W : World} {b : Nat} {t : TypeId} {a0 a1 a2 a3 a4 a5 : Value} (h : W.heap[b]? = some (.cells #[a0, a1, a2, a3, a4, a5] t (0, 0))) : W.cell? ⟨b, 0, none⟩ = some a0 ∧ W.cell? ⟨b, 1, none⟩ = some a1 ∧ W.cell? ⟨b, 2, none⟩ = some a2 ∧ W.cell? ⟨b, 3, none⟩ = some a3 ∧ W.cell? ⟨b, 4, none⟩ = some a4 ∧ W.cell? ⟨b, 5, none⟩ = some a5 := by
  refine ⟨?_, ?_, ?_, ?_, ?_, ?_⟩ <;> (rw [Lib.cell_of_heap h]; rfl)
set_option maxHeartbeats 2000000 in
set_option maxRecDepth 100000 in
theorem attrs_eq (A B : Option Addr) (ca cb : Nat) (l m : List At) (w : World) (hA : kAt.C w A l.length l) (hB : kAt.C w B m.length m) (hl : l.length ≤ 1000000) : Calls Tryd.prog 44 #[.slice A l.length ca, .slice B m.length cb] w fun e w' => (∃ b, e = .returned (.bool b) ∧ (b = true ↔ l = m)) ∧ Drawn0 w w' := by
  have HA := Aside0.mk hA
  have HB := Aside0.mk hB
  clear hA hB
  by_cases hlen : l.length = m.length
  · have q0 : ((l.length : Int) != (m.length : Int)) = false := by simp [hlen]
    go_enter Tryd.func44, Tryd.ntmps44
    go_wp2_with fail
    go_loopg [13] l.length (fun q v wr => ∃ (j nd : Nat), v = .int .i64 (j : Int) ∧ j ≤ l.length ∧ wr = w.drewN nd ∧ Aside0 (q = l.length - j) ∧ Aside0 (l.take j = m.take j))
    case atStart => exact ⟨0, 0, rfl, Nat.zero_le _, rfl, ⟨rfl⟩, ⟨by simp⟩⟩
    case round =>
      obtain ⟨j, nd, rfl, hj, rfl, HM, HT⟩ := hrel
      by_cases hlt : j < l.length
      · obtain ⟨ad, eA, a0, a1, a2⟩ := atAt HA.out (j : Int) (by omega) (by omega)
        obtain ⟨bd, eB, b0, b1, b2⟩ := atAt HB.out (j : Int) (by omega) (by omega)
        simp only [Int.toNat_natCast] at a0 a1 a2 b0 b1 b2
        obtain ⟨x, hx⟩ : ∃ x, rdAt l (j : Int) = x := ⟨_, rfl⟩
        obtain ⟨y, hy⟩ : ∃ y, rdAt m (j : Int) = y := ⟨_, rfl⟩
        rw [hx] at a0 a1 a2
        rw [hy] at b0 b1 b2
        have HX := Aside0.mk (show l[j]? = some x by rw [← hx]; unfold rdAt; simp [hlt])
        have HY := Aside0.mk (show m[j]? = some y by rw [← hy]; unfold rdAt; simp [← hlen, hlt])
        have q1 := eq_true (show (j : Int) < (l.length : Int) by omega)
        have q2 := eq_true (show (0 : Int) ≤ (j : Int) by omega)
        have q3 := eq_true (show (j : Int) < (m.length : Int) by omega)
        subst eA
        subst eB
        obtain ⟨z, hz⟩ : ∃ z, z = j + 1 := ⟨_, rfl⟩
        have f1 : (j : Int) + 1 = (z : Int) := by omega
        have f2 : IntKind.i64.wrap (z : Int) = (z : Int) := IntWalk.i64_in _ (by omega)
        have HZ := Aside0.mk hz
        have HNE := Aside0.mk (show x ≠ y → l ≠ m from fun h e => by subst e; have := HX.out.symm.trans HY.out; exact h (Option.some.inj this))
        have HEQ := Aside0.mk (show x = y → l.take z = m.take z from fun h => by
          rw [hz, List.take_add_one, List.take_add_one, HT.out, HX.out, HY.out, h])
        clear hz hx hy
        rcases decS x.f0.f0 y.f0.f0 with ⟨x1, x2⟩ | ⟨x1, x2⟩ <;> rcases decS x.f0.f1 y.f0.f1 with ⟨x3, x4⟩ | ⟨x3, x4⟩ <;> rcases decS x.f1 y.f1 with ⟨x5, x6⟩ | ⟨x5, x6⟩
        · have HE := Aside0.mk (HEQ.out (At_eq x2 x4 x6))
          go_wp2_with fail
          go_quiet (fail)
          go_wp2_with fail
          go_roundg (l.length - z)
          case measure => have h1 := HM.out; have h2 := HZ.out; omega
          case rel => exact ⟨z, _, rfl, by have h2 := HZ.out; omega, rfl, ⟨rfl⟩, HE⟩
        all_goals
          have HN := Aside0.mk (HNE.out (fun e => by subst e; first | exact (of_eq_false x2) rfl | exact (of_eq_false x4) rfl | exact (of_eq_false x6) rfl))
          go_wp2_with fail
          go_quiet (fail)
          go_wp2_with fail
          go_ret
          exact ⟨⟨false, rfl, by simpa using HN.out⟩, _, World.drewN_drewN _ _ _⟩
      · have q1 := eq_false (show ¬ (j : Int) < (l.length : Int) by omega)
        have HE := Aside0.mk (show l = m by
          have h := HT.out
          have h1 : j = l.length := by omega
          rw [h1, List.take_length, hlen, List.take_length] at h
          exact h)
        go_wp2_with fail
        go_ret
        exact ⟨⟨true, rfl, by simpa using HE.out⟩, _, rfl⟩
  · have q0 : ((l.length : Int) != (m.length : Int)) = true := by
      have : ¬ ((l.length : Int) = (m.length : Int)) := by omega
      simpa using this
    have HE := Aside0.mk (show l ≠ m from fun e => hlen (by rw [e]))
    go_enter Tryd.func44, Tryd.ntmps44
    go_wp2_with fail
    go_ret
    exact ⟨⟨false, rfl, by simpa using HE.out⟩, 0, rfl⟩
mutual
/-- A node, its attributes rising throughout. -/
def normN : Nd → Nd
  | ⟨k, n, a, c, x⟩ => ⟨k, n, ord a, normL c, x⟩
def normL : List Nd → List Nd
  | [] => []
  | n :: r => normN n :: normL r
end
theorem normL_map : ∀ l : List Nd, normL l = l.map normN
  | [] => by simp [normL]
  | n :: r => by simp [normL, normL_map r]
def SameT (n m : Nd) : Prop := ∀ (w : World) (A3 A4 B3 B4 : Option Addr) (c3 c4 d3 d4 : Nat), n.f2.length ≤ c3 → kAt.C w A3 n.f2.length n.f2 → kNd.C w A4 n.f3.length n.f3 → m.f2.length ≤ d3 → kAt.C w B3 m.f2.length m.f2 → kNd.C w B4 m.f3.length m.f3 →
  Calls Tryd.prog 19 #[.agg #[.int .i64 n.f0, .string n.f1.f0, .string n.f1.f1, .slice A3 n.f2.length c3, .slice A4 n.f3.length c4, .string n.f4], .agg #[.int .i64 m.f0, .string m.f1.f0, .string m.f1.f1, .slice B3 m.f2.length d3, .slice B4 m.f3.length d4, .string m.f4]] w fun e w' => (∃ b, e = .returned (.bool b) ∧ (b = true ↔ normN n = normN m)) ∧ Below w.heap.size w w'
set_option maxHeartbeats 4000000 in
set_option maxRecDepth 100000 in
theorem kids_eq (A B : Option Addr) (ca cb : Nat) (l m : List Nd) (w : World) (hA : kNd.C w A l.length l) (hB : kNd.C w B m.length m) (hl : l.length ≤ 1000000) (ih : ∀ d ∈ l, ∀ d' ∈ m, SameT d d') : Calls Tryd.prog 46 #[.slice A l.length ca, .slice B m.length cb, .func (.func 19) #[] #[]] w fun e w' => (∃ b, e = .returned (.bool b) ∧ (b = true ↔ normL l = normL m)) ∧ Below w.heap.size w w' := by
  have HA := Aside0.mk hA
  have HB := Aside0.mk hB
  have HIH := Aside0.mk ih
  clear hA hB ih
  have eg : ∀ args w, (callFunc 19 args).run Tryd.prog w = .ok (.enter 19 args) w := enters_of Tryd.func19 (by kernel_rfl) rfl
  have EG := Aside0.mk eg
  clear eg
  by_cases hlen : l.length = m.length
  · have q0 : ((l.length : Int) != (m.length : Int)) = false := by simp [hlen]
    have HBS := Aside0.mk (Below.refl w.heap.size w)
    have HLEN := Aside0.mk hlen
    clear hlen
    go_enter Tryd.func46, Tryd.ntmps46
    go_wp2_with fail
    go_loopg [17] l.length (fun q v wr => ∃ (j : Nat), v = .int .i64 (j : Int) ∧ j ≤ l.length ∧ Aside0 (Below w.heap.size w wr) ∧ Aside0 (q = l.length - j) ∧ Aside0 (normL (l.take j) = normL (m.take j)))
    case atStart => exact ⟨0, rfl, Nat.zero_le _, HBS, ⟨rfl⟩, ⟨by simp⟩⟩
    case round =>
      obtain ⟨j, rfl, hj, HBW, HM, HT⟩ := hrel
      by_cases hlt : j < l.length
      · obtain ⟨ad, A5, c5, A6, c6, eA, k0, k1, k2, k3, k4, k5, l5, q5, l6, q6⟩ := atNd (Kd.C_below HA.out HBW.out) (j : Int) (by omega) (by omega)
        obtain ⟨bd, B5, d5, B6, d6, eB, j0, j1, j2, j3, j4, j5, i5, t5, i6, t6⟩ := atNd (Kd.C_below HB.out HBW.out) (j : Int) (by omega) (by have := HLEN.out; omega)
        have hdl : rdNd l (j : Int) = l[j] := by simp [rdNd, hlt]
        have hdm : rdNd m (j : Int) = m[j]'(by have := HLEN.out; omega) := by simp [rdNd, ← HLEN.out, hlt]
        have HX := Aside0.mk (show l[j]? = some (rdNd l (j : Int)) by rw [hdl]; simp [hlt])
        have HY := Aside0.mk (show m[j]? = some (rdNd m (j : Int)) by rw [hdm]; simp)
        have HS := Aside0.mk (HIH.out (rdNd l (j : Int)) (by rw [hdl]; exact List.getElem_mem _) (rdNd m (j : Int)) (by rw [hdm]; exact List.getElem_mem _))
        obtain ⟨x, hx⟩ : ∃ x, rdNd l (j : Int) = x := ⟨_, rfl⟩
        obtain ⟨y, hy⟩ : ∃ y, rdNd m (j : Int) = y := ⟨_, rfl⟩
        rw [hx] at k0 k1 k2 k3 k4 k5 l5 q5 l6 q6 HX HS
        rw [hy] at j0 j1 j2 j3 j4 j5 i5 t5 i6 t6 HY HS
        simp only [Int.toNat_natCast] at k0 k1 k2 k3 k4 k5 j0 j1 j2 j3 j4 j5
        have HQ5 := Aside0.mk q5
        have HQ6 := Aside0.mk q6
        have HT5 := Aside0.mk t5
        have HT6 := Aside0.mk t6
        subst eA
        subst eB
        have q1 := eq_true (show (j : Int) < (l.length : Int) by omega)
        have q2 := eq_true (show (0 : Int) ≤ (j : Int) by omega)
        have q3 := eq_true (show (j : Int) < (m.length : Int) by have := HLEN.out; omega)
        obtain ⟨z, hz⟩ : ∃ z, z = j + 1 := ⟨_, rfl⟩
        have f1 : (j : Int) + 1 = (z : Int) := by omega
        have f2 : IntKind.i64.wrap (z : Int) = (z : Int) := IntWalk.i64_in _ (by omega)
        have HZ := Aside0.mk hz
        have HNE := Aside0.mk (show normN x ≠ normN y → normL l ≠ normL m from fun h e => by
          have e := congrArg (fun r : List Nd => r[j]?) e
          rw [normL_map, normL_map, List.getElem?_map, List.getElem?_map, HX.out, HY.out] at e
          exact h (Option.some.inj e))
        have HEQ := Aside0.mk (show normN x = normN y → normL (l.take z) = normL (m.take z) from fun h => by
          have ht := HT.out
          rw [normL_map, normL_map] at ht ⊢
          rw [hz, List.take_add_one, List.take_add_one, List.map_append, List.map_append, ht, HX.out, HY.out]
          simp [h])
        clear hz hx hy hdl hdm q5 q6 t5 t6
        have hb1 := (Below.refl wr.heap.size wr).alloc (Nat.le_refl _) (.cells #[.int .i64 x.f0, .string x.f1.f0, .string x.f1.f1, .slice A5 x.f2.length c5, .slice A6 x.f3.length c6, .string x.f4] 27)
        replace j0 := pw_cell_below hb1 j0
        replace j1 := pw_cell_below hb1 j1
        replace j2 := pw_cell_below hb1 j2
        replace j3 := pw_cell_below hb1 j3
        replace j4 := pw_cell_below hb1 j4
        replace j5 := pw_cell_below hb1 j5
        have HB1 := Aside0.mk hb1
        clear hb1
        have HB2 := Aside0.mk (HB1.out.alloc HB1.out.size (.cells #[.int .i64 y.f0, .string y.f1.f0, .string y.f1.f1, .slice B5 y.f2.length d5, .slice B6 y.f3.length d6, .string y.f4] 27))
        go_wp2_with fail
        refine (HS.out _ A5 A6 B5 B6 c5 c6 d5 d6 l5 (Kd.C_below HQ5.out HB2.out) (Kd.C_below HQ6.out HB2.out) i5 (Kd.C_below HT5.out HB2.out) (Kd.C_below HT6.out HB2.out)).mono ?_
        rintro e w2 ⟨⟨b, rfl, hbi⟩, hb2⟩
        have HB3 := Aside0.mk (HBW.out.trans ((HB2.out.trans (hb2.mono HB2.out.size)).mono HBW.out.size))
        have HI := Aside0.mk hbi
        clear hbi hb2
        cases b with
        | true =>
          have HE := Aside0.mk (HEQ.out (HI.out.1 rfl))
          go_wp2_with fail
          go_roundg (l.length - z)
          case measure => have h1 := HM.out; have h2 := HZ.out; omega
          case rel => exact ⟨z, rfl, by have h2 := HZ.out; omega, HB3, ⟨rfl⟩, HE⟩
        | false =>
          have HE := Aside0.mk (HNE.out (fun e => by simpa using HI.out.2 e))
          go_wp2_with fail
          go_ret
          exact ⟨⟨false, rfl, by simpa using HE.out⟩, HB3.out⟩
      · have q1 := eq_false (show ¬ (j : Int) < (l.length : Int) by omega)
        have HE := Aside0.mk (show normL l = normL m by
          have h := HT.out
          have h1 : j = l.length := by omega
          rw [h1, List.take_length, HLEN.out, List.take_length] at h
          exact h)
        go_wp2_with fail
        go_ret
        exact ⟨⟨true, rfl, by simpa using HE.out⟩, HBW.out⟩
  · have q0 : ((l.length : Int) != (m.length : Int)) = true := by
      have : ¬ ((l.length : Int) = (m.length : Int)) := by omega
      simpa using this
    have HE := Aside0.mk (show normL l ≠ normL m from fun e => hlen (by have e := congrArg List.length e; rw [normL_map, normL_map] at e; simpa using e))
    go_enter Tryd.func46, Tryd.ntmps46
    go_wp2_with fail
    go_ret
    exact ⟨⟨false, rfl, by simpa using HE.out⟩, Below.refl _ _⟩
end Go.Proofs.YtffpbhbiamkkpaaDoor.TS
