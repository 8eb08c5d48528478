/- tree.Same: told true just of nodes that are one but for the order of attributes. -/
import Derived.Test.YtffpbhbiamkkpaaDoorTEq
import Derived.Test.YtffpbhbiamkkpaaDoorRgt
import Derived.Deep.RegionHeld3
namespace Go.Proofs.YtffpbhbiamkkpaaDoor.TS
open Go Go.RowKit Go.Lib Go.Proofs.YtffpbhbiamkkpaaDoorW.PrintWords Go.Proofs.YtffpbhbiamkkpaaDoorW.PrintLast Go.Proofs.YtffpbhbiamkkpaaDoorW.PrintMore Go.Proofs.YtffpbhbiamkkpaaDoor.ND
set_option linter.unusedVariables false
set_option linter.unusedSimpArgs false
theorem NM_eq {n m : Nm} {x y : ByteArray} (h0 : (n.f0.toList = m.f0.toList) = True) (h1 : (n.f1.toList = m.f1.toList) = True) (h2 : (x.toList = y.toList) = True) : n = m ∧ x = y := by
  have k : ∀ a b : ByteArray, (a.toList = b.toList) = True → a = b := fun a b h => by
    have h := of_eq_true h
    rw [Lib.toList_data, Lib.toList_data] at h
    exact congrArg (fun l : List UInt8 => (⟨l.toArray⟩ : ByteArray)) h
  obtain ⟨a, b⟩ := n
  obtain ⟨d, e⟩ := m
  simp only at h0 h1
  rw [k _ _ h0, k _ _ h1]
  exact ⟨rfl, k _ _ h2⟩
set_option maxHeartbeats 40000000 in
set_option maxRecDepth 100000 in
theorem same_step (n m : Nd) (hn : n.f2.length ≤ 100000) (hm : m.f2.length ≤ 100000) (hk : n.f3.length ≤ 1000000) (ih : ∀ d ∈ n.f3, ∀ d' ∈ m.f3, SameT d d') : SameT n m := by
  intro w A3 A4 B3 B4 c3 c4 d3 d4 lA hA hK lB hB hL
  obtain ⟨k, nm, at', kids, x⟩ := n
  obtain ⟨k', nm', bt, kidt, x'⟩ := m
  dsimp only at *
  have HA := Aside0.mk hA
  have HB := Aside0.mk hB
  have HSA := Aside0.mk (fun W h => sorted_calls A3 c3 at' W h lA hn)
  have HSB := Aside0.mk (fun W h => sorted_calls B3 d3 bt W h lB hm)
  have HEA := Aside0.mk (fun W A B ca cb h1 h2 => attrs_eq A B ca cb (ord at') (ord bt) W h1 h2 (by rw [(ord_perm at').length_eq]; omega))
  have HEK := Aside0.mk (fun W h1 h2 => kids_eq A4 B4 c4 d4 kids kidt W h1 h2 hk ih)
  have HK := Aside0.mk hK
  have HL := Aside0.mk hL
  have HO := Aside0.mk (show normN ⟨k, nm, at', kids, x⟩ = normN ⟨k', nm', bt, kidt, x'⟩ ↔ k = k' ∧ nm = nm' ∧ x = x' ∧ ord at' = ord bt ∧ normL kids = normL kidt by
    rw [normN, normN]
    simp only [Nd.mk.injEq]
    constructor <;> (rintro ⟨a, b, c, d, e⟩; exact ⟨a, b, by assumption, by assumption, by assumption⟩))
  have HBS := Aside0.mk (((Below.refl w.heap.size w).alloc (Nat.le_refl _) (.cells #[.int .i64 k, .string nm.f0, .string nm.f1, .slice A3 at'.length c3, .slice A4 kids.length c4, .string x] 27)).alloc (by simp) (.cells #[.int .i64 k', .string nm'.f0, .string nm'.f1, .slice B3 bt.length d3, .slice B4 kidt.length d4, .string x'] 27))
  clear hA hB hK hL ih lA lB hn hm hk
  have HW0 := HBS.out
  go_enter Tryd.func19, Tryd.ntmps19
  by_cases e0 : k = k'
  · subst e0
    have q0 : (k == k) = true := by simp
    go_wp2_with fail
    obtain ⟨W0, hW0⟩ : ∃ W0, (w.alloc (.cells #[.int .i64 k, .string nm.f0, .string nm.f1, .slice A3 at'.length c3, .slice A4 kids.length c4, .string x] 27)).alloc (.cells #[.int .i64 k, .string nm'.f0, .string nm'.f1, .slice B3 bt.length d3, .slice B4 kidt.length d4, .string x'] 27) = W0 := ⟨_, rfl⟩
    rw [hW0] at HW0 ⊢
    have hk0 : W0.heap[w.heap.size]? = some (.cells #[.int .i64 k, .string nm.f0, .string nm.f1, .slice A3 at'.length c3, .slice A4 kids.length c4, .string x] 27 (0, 0)) := by
      rw [← hW0]
      exact (((Below.refl _ _).alloc (Nat.le_refl _) _).block w.heap.size (by simp)).trans (heap_alloc_last w _)
    have hk1 : W0.heap[w.heap.size + 1]? = some (.cells #[.int .i64 k, .string nm'.f0, .string nm'.f1, .slice B3 bt.length d3, .slice B4 kidt.length d4, .string x'] 27 (0, 0)) := by
      rw [← hW0]
      have h := heap_alloc_last (w.alloc (.cells #[.int .i64 k, .string nm.f0, .string nm.f1, .slice A3 at'.length c3, .slice A4 kids.length c4, .string x] 27)) (.cells #[.int .i64 k, .string nm'.f0, .string nm'.f1, .slice B3 bt.length d3, .slice B4 kidt.length d4, .string x'] 27)
      simpa using h
    have HB0 := Aside0.mk HW0
    have hz := blk_lt hk1
    have HK0 := Aside0.mk hk0
    have HK1 := Aside0.mk hk1
    obtain ⟨m0, m1, m2, m3, m4, m5⟩ := box6 hk0
    obtain ⟨o0, o1, o2, o3, o4, o5⟩ := box6 hk1
    clear hk0 hk1 hW0 HW0 HBS
    have HNE := Aside0.mk (show ¬ (nm = nm' ∧ x = x' ∧ ord at' = ord bt) → ¬ (normN ⟨k, nm, at', kids, x⟩ = normN ⟨k, nm', bt, kidt, x'⟩) from fun h e => h ⟨(HO.out.1 e).2.1, (HO.out.1 e).2.2.1, (HO.out.1 e).2.2.2.1⟩)
    rcases decS nm.f0 nm'.f0 with ⟨x1, x2⟩ | ⟨x1, x2⟩
    · rcases decS nm.f1 nm'.f1 with ⟨x3, x4⟩ | ⟨x3, x4⟩
      · rcases decS x x' with ⟨x5, x6⟩ | ⟨x5, x6⟩
        · by_cases e3 : ord at' = ord bt
          · skip
            have HE3 := Aside0.mk e3
            have HNM := Aside0.mk (show nm = nm' ∧ x = x' from NM_eq x2 x4 x6)
            clear e3 HNE
            first
              | (go_region_held3 (fun w' => w'.cell? ⟨w.heap.size, 0, none⟩ = some (.int .i64 k) ∧ w'.cell? ⟨w.heap.size, 1, none⟩ = some (.string nm.f0) ∧ w'.cell? ⟨w.heap.size, 2, none⟩ = some (.string nm.f1) ∧ w'.cell? ⟨w.heap.size, 3, none⟩ = some (.slice A3 at'.length c3) ∧ w'.cell? ⟨w.heap.size, 4, none⟩ = some (.slice A4 kids.length c4) ∧ w'.cell? ⟨w.heap.size, 5, none⟩ = some (.string x) ∧ w'.cell? ⟨w.heap.size + 1, 0, none⟩ = some (.int .i64 k) ∧ w'.cell? ⟨w.heap.size + 1, 1, none⟩ = some (.string nm'.f0) ∧ w'.cell? ⟨w.heap.size + 1, 2, none⟩ = some (.string nm'.f1) ∧ w'.cell? ⟨w.heap.size + 1, 3, none⟩ = some (.slice B3 bt.length d3) ∧ w'.cell? ⟨w.heap.size + 1, 4, none⟩ = some (.slice B4 kidt.length d4) ∧ w'.cell? ⟨w.heap.size + 1, 5, none⟩ = some (.string x')) (refine ⟨?_, ?_, ?_, ?_, ?_, ?_, ?_, ?_, ?_, ?_, ?_, ?_⟩ <;> assumption) (first
              | (go_at_call 45; refine (HSA.out _ ?_).mono ?_; (exact Kd.C_below HA.out (below_drew HB0.out)); rintro e w1 ⟨v1, rfl, hr1, hb1⟩; obtain ⟨P1, p1, rfl, lp1, hC1⟩ := Kd.R_reads hr1; (have hb1' : Below W0.heap.size W0 w1 := (below_drew (Below.refl W0.heap.size W0)).trans hb1); have HB1 := Aside0.mk hb1'; have HC1 := Aside0.mk hC1; obtain ⟨g0, g1, g2, g3, g4, g5⟩ := box6 ((hb1'.block w.heap.size (by omega)).trans HK0.out); obtain ⟨y0, y1, y2, y3, y4, y5⟩ := box6 ((hb1'.block (w.heap.size + 1) (by omega)).trans HK1.out); clear hb1 hb1' hr1 hC1 m0 m1 m2 m3 m4 m5 o0 o1 o2 o3 o4 o5)
              | (go_at_call 45; refine (HSB.out _ ?_).mono ?_; (exact Kd.C_below HB.out (HB0.out.trans (HB1.out.mono HB0.out.size))); rintro e w2 ⟨v2, rfl, hr2, hb2⟩; obtain ⟨P2, p2, rfl, lp2, hC2⟩ := Kd.R_reads hr2; (have hb2' : Below W0.heap.size W0 w2 := HB1.out.trans (hb2.mono HB1.out.size)); have HB21 := Aside0.mk hb2; have HB2 := Aside0.mk hb2'; have HC2 := Aside0.mk hC2; obtain ⟨h0, h1, h2, h3, h4, h5⟩ := box6 ((hb2'.block w.heap.size (by omega)).trans HK0.out); obtain ⟨z0, z1, z2, z3, z4, z5⟩ := box6 ((hb2'.block (w.heap.size + 1) (by omega)).trans HK1.out); clear hb2 hb2' hr2 hC2 g0 g1 g2 g3 g4 g5 y0 y1 y2 y3 y4 y5)
              | (go_at_call 44; refine (HEA.out _ _ _ _ _ (Kd.C_below HC1.out HB21.out) HC2.out).mono ?_; rintro e w3 ⟨⟨b, rfl, hbi⟩, ⟨nd, rfl⟩⟩; obtain rfl : b = true := hbi.2 HE3.out; (have hb3' : Below W0.heap.size W0 (w2.drewN nd) := pw_below_drewN HB2.out nd); have HB3 := Aside0.mk hb3'; obtain ⟨r0, r1, r2, r3, r4, r5⟩ := box6 ((hb3'.block w.heap.size (by omega)).trans HK0.out); obtain ⟨s0, s1, s2, s3, s4, s5⟩ := box6 ((hb3'.block (w.heap.size + 1) (by omega)).trans HK1.out); clear hbi hb3' h0 h1 h2 h3 h4 h5 z0 z1 z2 z3 z4 z5)
              | (go_at_call 46; refine (HEK.out _ ?_ ?_).mono ?_; (exact Kd.C_below HK.out (HB0.out.trans (HB3.out.mono HB0.out.size))); (exact Kd.C_below HL.out (HB0.out.trans (HB3.out.mono HB0.out.size))); rintro e w4 ⟨⟨b4, rfl, hbi4⟩, hb4⟩; have HI4 := Aside0.mk hbi4; (have hb4' : Below W0.heap.size W0 w4 := HB3.out.trans (hb4.mono HB3.out.size)); have HB4 := Aside0.mk hb4'; obtain ⟨u0, u1, u2, u3, u4, u5⟩ := box6 ((hb4'.block w.heap.size (by omega)).trans HK0.out); obtain ⟨i0, i1, i2, i3, i4, i5⟩ := box6 ((hb4'.block (w.heap.size + 1) (by omega)).trans HK1.out); clear hbi4 hb4 hb4' r0 r1 r2 r3 r4 r5 s0 s1 s2 s3 s4 s5)))
              | fail
            all_goals
              go_wp2_with fail
              go_ret
              refine ⟨⟨_, rfl, ?_⟩, HB0.out.trans (HB4.out.mono HB0.out.size)⟩
              rw [HI4.out]
              exact ⟨fun h => HO.out.2 ⟨by trivial, HNM.out.1, HNM.out.2, HE3.out, h⟩, fun h => (HO.out.1 h).2.2.2.2⟩
          · skip
            have HE3 := Aside0.mk e3
            have HN := Aside0.mk (HNE.out fun h => e3 h.2.2)
            have HNM := Aside0.mk (show nm = nm' ∧ x = x' from NM_eq x2 x4 x6)
            clear e3 HNE
            first
              | (go_region_held3 (fun w' => w'.cell? ⟨w.heap.size, 0, none⟩ = some (.int .i64 k) ∧ w'.cell? ⟨w.heap.size, 1, none⟩ = some (.string nm.f0) ∧ w'.cell? ⟨w.heap.size, 2, none⟩ = some (.string nm.f1) ∧ w'.cell? ⟨w.heap.size, 3, none⟩ = some (.slice A3 at'.length c3) ∧ w'.cell? ⟨w.heap.size, 4, none⟩ = some (.slice A4 kids.length c4) ∧ w'.cell? ⟨w.heap.size, 5, none⟩ = some (.string x) ∧ w'.cell? ⟨w.heap.size + 1, 0, none⟩ = some (.int .i64 k) ∧ w'.cell? ⟨w.heap.size + 1, 1, none⟩ = some (.string nm'.f0) ∧ w'.cell? ⟨w.heap.size + 1, 2, none⟩ = some (.string nm'.f1) ∧ w'.cell? ⟨w.heap.size + 1, 3, none⟩ = some (.slice B3 bt.length d3) ∧ w'.cell? ⟨w.heap.size + 1, 4, none⟩ = some (.slice B4 kidt.length d4) ∧ w'.cell? ⟨w.heap.size + 1, 5, none⟩ = some (.string x')) (refine ⟨?_, ?_, ?_, ?_, ?_, ?_, ?_, ?_, ?_, ?_, ?_, ?_⟩ <;> assumption) (first
              | (go_at_call 45; refine (HSA.out _ ?_).mono ?_; (exact Kd.C_below HA.out (below_drew HB0.out)); rintro e w1 ⟨v1, rfl, hr1, hb1⟩; obtain ⟨P1, p1, rfl, lp1, hC1⟩ := Kd.R_reads hr1; (have hb1' : Below W0.heap.size W0 w1 := (below_drew (Below.refl W0.heap.size W0)).trans hb1); have HB1 := Aside0.mk hb1'; have HC1 := Aside0.mk hC1; obtain ⟨g0, g1, g2, g3, g4, g5⟩ := box6 ((hb1'.block w.heap.size (by omega)).trans HK0.out); obtain ⟨y0, y1, y2, y3, y4, y5⟩ := box6 ((hb1'.block (w.heap.size + 1) (by omega)).trans HK1.out); clear hb1 hb1' hr1 hC1 m0 m1 m2 m3 m4 m5 o0 o1 o2 o3 o4 o5)
              | (go_at_call 45; refine (HSB.out _ ?_).mono ?_; (exact Kd.C_below HB.out (HB0.out.trans (HB1.out.mono HB0.out.size))); rintro e w2 ⟨v2, rfl, hr2, hb2⟩; obtain ⟨P2, p2, rfl, lp2, hC2⟩ := Kd.R_reads hr2; (have hb2' : Below W0.heap.size W0 w2 := HB1.out.trans (hb2.mono HB1.out.size)); have HB21 := Aside0.mk hb2; have HB2 := Aside0.mk hb2'; have HC2 := Aside0.mk hC2; obtain ⟨h0, h1, h2, h3, h4, h5⟩ := box6 ((hb2'.block w.heap.size (by omega)).trans HK0.out); obtain ⟨z0, z1, z2, z3, z4, z5⟩ := box6 ((hb2'.block (w.heap.size + 1) (by omega)).trans HK1.out); clear hb2 hb2' hr2 hC2 g0 g1 g2 g3 g4 g5 y0 y1 y2 y3 y4 y5)
              | (go_at_call 44; refine (HEA.out _ _ _ _ _ (Kd.C_below HC1.out HB21.out) HC2.out).mono ?_; rintro e w3 ⟨⟨b, rfl, hbi⟩, ⟨nd, rfl⟩⟩; (have hb3' : Below W0.heap.size W0 (w2.drewN nd) := pw_below_drewN HB2.out nd); have HB3 := Aside0.mk hb3'; obtain ⟨r0, r1, r2, r3, r4, r5⟩ := box6 ((hb3'.block w.heap.size (by omega)).trans HK0.out); obtain ⟨s0, s1, s2, s3, s4, s5⟩ := box6 ((hb3'.block (w.heap.size + 1) (by omega)).trans HK1.out); clear hb3' h0 h1 h2 h3 h4 h5 z0 z1 z2 z3 z4 z5; cases b; (case false => (clear hbi; rename_i hK; dsimp only; exact hK.out _ _ (by (try dsimp only); refine ⟨?_, ?_, ?_, ?_, ?_, ?_, ?_, ?_, ?_, ?_, ?_, ?_⟩ <;> assumption) (fun hHeld => (by (refine wpAnyH_take (i := 27) (oi := ⟨some 32, _, _, _, _, _⟩) (v := .bool false) rfl (by kernel_rfl) (by kernel_rfl) (by kernel_rfl) (fun _ _ _ h => h) (Or.inl ⟨by rfl, (by intro w hSw; (try dsimp only at hSw); go_simp)⟩) hHeld ?_); (try simp only [Act.put, List.setIfInBounds_toArray, List.set_cons_zero, List.set_cons_succ]); (refine wpAnyH_take (i := 28) (oi := ⟨some 33, _, _, _, _, _⟩) (v := .bool false) rfl (by kernel_rfl) (by kernel_rfl) (by kernel_rfl) (fun _ _ _ h => h) (Or.inl ⟨by rfl, (by intro w hSw; (try dsimp only at hSw); go_simp)⟩) hHeld ?_); (try simp only [Act.put, List.setIfInBounds_toArray, List.set_cons_zero, List.set_cons_succ]); (refine wpAnyH_take (i := 29) (oi := ⟨some 34, _, _, _, _, _⟩) (v := undef) rfl (by kernel_rfl) (by kernel_rfl) (by kernel_rfl) (fun _ _ _ h => h) (Or.inr ⟨by rfl, rfl⟩) hHeld ?_); (try simp only [Act.put, List.setIfInBounds_toArray, List.set_cons_zero, List.set_cons_succ]); (refine wpAnyH_take (i := 30) (oi := ⟨some 35, _, _, _, _, _⟩) (v := undef) rfl (by kernel_rfl) (by kernel_rfl) (by kernel_rfl) (fun _ _ _ h => h) (Or.inr ⟨by rfl, rfl⟩) hHeld ?_); (try simp only [Act.put, List.setIfInBounds_toArray, List.set_cons_zero, List.set_cons_succ]); (refine wpAnyH_take (i := 31) (oi := ⟨some 36, _, _, _, _, _⟩) (v := undef) rfl (by kernel_rfl) (by kernel_rfl) (by kernel_rfl) (fun _ _ _ h => h) (Or.inr ⟨by rfl, rfl⟩) hHeld ?_); (try simp only [Act.put, List.setIfInBounds_toArray, List.set_cons_zero, List.set_cons_succ]); (refine wpAnyH_take (i := 32) (oi := ⟨some 37, _, _, _, _, _⟩) (v := undef) rfl (by kernel_rfl) (by kernel_rfl) (by kernel_rfl) (fun _ _ _ h => h) (Or.inr ⟨by rfl, rfl⟩) hHeld ?_); (try simp only [Act.put, List.setIfInBounds_toArray, List.set_cons_zero, List.set_cons_succ]); (refine wpAnyH_take (i := 33) (oi := ⟨some 38, _, _, _, _, _⟩) (v := undef) rfl (by kernel_rfl) (by kernel_rfl) (by kernel_rfl) (fun _ _ _ h => h) (Or.inr ⟨by rfl, rfl⟩) hHeld ?_); (try simp only [Act.put, List.setIfInBounds_toArray, List.set_cons_zero, List.set_cons_succ]); (refine wpAnyH_take (i := 34) (oi := ⟨some 39, _, _, _, _, _⟩) (v := .bool false) rfl (by kernel_rfl) (by kernel_rfl) (by kernel_rfl) (fun _ _ _ h => h) (Or.inl ⟨by rfl, (by intro w hSw; (try dsimp only at hSw); go_simp)⟩) hHeld ?_); (try simp only [Act.put, List.setIfInBounds_toArray, List.set_cons_zero, List.set_cons_succ]); (refine wpAnyH_take (i := 35) (oi := ⟨some 4, _, _, _, _, _⟩) (v := .bool false) rfl (by kernel_rfl) (by kernel_rfl) (by kernel_rfl) (fun _ _ _ h => h) (Or.inl ⟨by rfl, (by intro w hSw; (try dsimp only at hSw); go_simp)⟩) hHeld ?_); (try simp only [Act.put, List.setIfInBounds_toArray, List.set_cons_zero, List.set_cons_succ]); (refine wpAnyH_done (by kernel_rfl) ?_ _); (refine NoPanic.normal ?_); go_wp2_with fail; go_ret; exact ⟨⟨false, rfl, by simpa using HN.out⟩, HB0.out.trans (HB3.out.mono HB0.out.size)⟩)))); have HF := Aside0.mk (show False from HE3.out (hbi.1 rfl)); clear hbi)
              | (go_at_call 46; refine (HEK.out _ ?_ ?_).mono ?_; (exact Kd.C_below HK.out (HB0.out.trans (HB3.out.mono HB0.out.size))); (exact Kd.C_below HL.out (HB0.out.trans (HB3.out.mono HB0.out.size))); rintro e w4 ⟨⟨b4, rfl, hbi4⟩, hb4⟩; have HI4 := Aside0.mk hbi4; (have hb4' : Below W0.heap.size W0 w4 := HB3.out.trans (hb4.mono HB3.out.size)); have HB4 := Aside0.mk hb4'; obtain ⟨u0, u1, u2, u3, u4, u5⟩ := box6 ((hb4'.block w.heap.size (by omega)).trans HK0.out); obtain ⟨i0, i1, i2, i3, i4, i5⟩ := box6 ((hb4'.block (w.heap.size + 1) (by omega)).trans HK1.out); clear hbi4 hb4 hb4' r0 r1 r2 r3 r4 r5 s0 s1 s2 s3 s4 s5)))
              | fail
            all_goals exact HF.out.elim
        · have HN := Aside0.mk (HNE.out fun h => by rw [h.2.1] at x6; exact (of_eq_false x6) rfl)
          go_quiet (fail)
          go_wp2_with fail
          go_ret
          exact ⟨⟨false, rfl, by simpa using HN.out⟩, pw_below_drewN HB0.out _⟩
      · have HN := Aside0.mk (HNE.out fun h => by rw [h.1] at x4; exact (of_eq_false x4) rfl)
        go_quiet (fail)
        go_wp2_with fail
        go_ret
        exact ⟨⟨false, rfl, by simpa using HN.out⟩, pw_below_drewN HB0.out _⟩
    · have HN := Aside0.mk (HNE.out fun h => by rw [h.1] at x2; exact (of_eq_false x2) rfl)
      go_quiet (fail)
      go_wp2_with fail
      go_ret
      exact ⟨⟨false, rfl, by simpa using HN.out⟩, pw_below_drewN HB0.out _⟩
  · have q0 : (k == k') = false := by simpa using e0
    have HN := Aside0.mk (show ¬ (normN ⟨k, nm, at', kids, x⟩ = normN ⟨k', nm', bt, kidt, x'⟩) from fun e => e0 (HO.out.1 e).1)
    go_wp2_with fail
    go_quiet (fail)
    go_wp2_with fail
    go_ret
    exact ⟨⟨false, rfl, by simpa using HN.out⟩, pw_below_drewN HBS.out _⟩
theorem same_all : ∀ (k : Nat) (n m : Nd), Prt.wt n < k → Prt.wt n ≤ 30000 → Prt.wt m ≤ 30000 → SameT n m
  | 0, n, m, h, _, _ => by omega
  | k + 1, n, m, h, hn, hm => by
    obtain ⟨k0, nm, t, c, x⟩ := n
    obtain ⟨k1, nm', t', c', x'⟩ := m
    have e : Prt.wt ⟨k0, nm, t, c, x⟩ = 1 + nm.f0.size + nm.f1.size + Prt.wAs t + Prt.wts c + x.size := by rw [Prt.wt]
    have e' : Prt.wt ⟨k1, nm', t', c', x'⟩ = 1 + nm'.f0.size + nm'.f1.size + Prt.wAs t' + Prt.wts c' + x'.size := by rw [Prt.wt]
    have l1 := Prt.wAs_len t
    have l2 := Prt.wAs_len t'
    have l3 := ND.wts_len c
    refine same_step _ _ (by dsimp only; omega) (by dsimp only; omega) (by dsimp only; omega) (fun d hd d' hd' => ?_)
    obtain ⟨i, hi, rfl⟩ := List.getElem_of_mem (show d ∈ c from hd)
    obtain ⟨j, hj, rfl⟩ := List.getElem_of_mem (show d' ∈ c' from hd')
    have w1 := Prt.wts_get c i hi
    have w2 := Prt.wts_get c' j hj
    exact same_all k _ _ (by omega) (by omega) (by omega)
end Go.Proofs.YtffpbhbiamkkpaaDoor.TS
