/- LexRises, walked: tokens come in the order of their places, each within the document. -/
import Derived.Test.YtffpbhbiamkkpaaDoorRises
import Derived.Test.YtffpbhbiamkkpaaDoorPVx1
namespace Go.Proofs.YtffpbhbiamkkpaaDoor.Lx
open Go Go.RowKit Go.Proofs.YtffpbhbiamkkpaaDoorW.PrintWords Go.Proofs.YtffpbhbiamkkpaaDoorW.PrintLast Go.Proofs.YtffpbhbiamkkpaaDoorW.PrintMore Go.Proofs.YtffpbhbiamkkpaaDoor.PU
set_option linter.unusedVariables false
theorem awake_pure : PV.watchbilllaw03_awake.f = some true := by decide +kernel
def zTok : Tok := ⟨0, 0, ⟨#[]⟩, [], ⟨#[]⟩⟩
theorem kTok_open {w : World} {x : Tok} {cs : List Value} (h : kTok.K w x cs) : ∃ A c, cs = [.int .i64 x.kind, .int .i64 x.at_, .string x.name, .slice A x.attrs.length c, .string x.text] := by
  obtain ⟨_, _, rfl, rfl, ⟨_, _, rfl, rfl, ⟨_, _, rfl, rfl, ⟨_, _, rfl, ⟨A, c, rfl, _⟩, rfl⟩⟩⟩⟩ := h
  exact ⟨A, c, rfl⟩
theorem atTok {w : World} {A : Option Addr} {n : Nat} {xs : List Tok} (h : Kd.C kTok w A n xs) (i : Int) (h0 : 0 ≤ i) (h1 : i < n) : ∃ ad A3 c3, A = some ad ∧ w.cell? (ad.add (i.toNat * 5)) = some (.int .i64 (xs.getD i.toNat zTok).kind) ∧ w.cell? ⟨(ad.add (i.toNat * 5)).block, (ad.add (i.toNat * 5)).off + 1, none⟩ = some (.int .i64 (xs.getD i.toNat zTok).at_) ∧ w.cell? ⟨(ad.add (i.toNat * 5)).block, (ad.add (i.toNat * 5)).off + 2, none⟩ = some (.string (xs.getD i.toNat zTok).name) ∧ w.cell? ⟨(ad.add (i.toNat * 5)).block, (ad.add (i.toNat * 5)).off + 3, none⟩ = some (.slice A3 (xs.getD i.toNat zTok).attrs.length c3) ∧ w.cell? ⟨(ad.add (i.toNat * 5)).block, (ad.add (i.toNat * 5)).off + 4, none⟩ = some (.string (xs.getD i.toNat zTok).text) := by
  obtain ⟨ad, c, e, _, hK, hc0⟩ := Kd.C_get h zTok i h0 h1
  have hc : ∀ j u, c[j]? = some u → w.cell? (ad.add (i.toNat * 5 + j)) = some u := hc0
  obtain ⟨A3, c3, rfl⟩ := kTok_open hK
  exact ⟨ad, A3, c3, e, hc 0 _ rfl, by rw [← add_field _ _ 1 (by omega)]; exact hc 1 _ rfl, by rw [← add_field _ _ 2 (by omega)]; exact hc 2 _ rfl, by rw [← add_field _ _ 3 (by omega)]; exact hc 3 _ rfl, by rw [← add_field _ _ 4 (by omega)]; exact hc 4 _ rfl⟩
theorem begins_sec (s : ByteArray) (i : Nat) (hi : i < s.size) (hs : s.size ≤ 140737488351232) : PL.watchbillref03_Begins.f s i sSec = some (nextB s i sSec) := by
  have hz : sSec.size = 3 := rfl
  have e0 : wrap64 ((s.size : Int) - i) = (s.size : Int) - i := PL.w64 _ (by omega) (by omega)
  have e1 : wrap64 ((i : Int) + (sSec.size : Int)) = ((i + 3 : Nat) : Int) := by rw [hz, PL.w64 _ (by omega) (by omega)]; omega
  unfold PL.watchbillref03_Begins.f nextB
  rw [if_pos (by omega), e0, e1, ← drop_data, ← Lib.hasPrefix_raw]
  have hx : (s.extract i s.size).size = s.size - i := by rw [ByteArray.size_extract]; omega
  by_cases h : i + 3 ≤ s.size
  · rw [if_pos (by omega), if_pos (by omega), if_pos (by omega), if_pos (by omega), decide_eq_true (by omega), Bool.true_and]
    rw [ByteArray.extract_extract, Int.toNat_natCast, Int.toNat_natCast, show min (i + sSec.size) s.size = i + 3 by omega]
    rfl
  · rw [if_neg (by omega), decide_eq_false (by omega), Bool.false_and]
set_option maxHeartbeats 4000000 in
set_option maxRecDepth 100000 in
theorem rises_walk (s : ByteArray) (w : World) (hM : MU w) (hs : s.size ≤ 140737488351232) : Calls Tryd.prog 7 #[.string s] w fun e w' => e = .returned (.bool true) ∧ Below w.heap.size w w' := by
  have HAW := Aside0.mk (fun W hml => PV.watchbilllaw03_awake.calls true W hml awake_pure)
  by_cases hb : 40000 < s.size
  · have q1 := eq_true (show (40000 : Int) < (s.size : Int) by omega)
    have HM := Aside0.mk hM
    clear hb hM
    go_enter Tryd.func7, Tryd.ntmps7
    go_wp2_with fail
    refine (HAW.out _ HM.out).mono ?_
    rintro e w1 ⟨rfl, hb1⟩
    have HB1 := Aside0.mk hb1
    clear hb1
    go_wp2_with fail
    go_ret
    exact ⟨rfl, HB1.out⟩
  have q1 := eq_false (show ¬ (40000 : Int) < (s.size : Int) by omega)
  obtain ⟨l, a, c, hl, hsay, hc⟩ := lex_says s (by omega)
  have HM := Aside0.mk hM
  have HT := Aside0.mk (fun W (h : MU W) => tokens_calls s W h.1 h.2 l a c hl)
  obtain ⟨ha0, ha1, hR, hlen⟩ := hsay
  have hb : s.size ≤ 40000 := by omega
  clear hM hl
  by_cases h0 : c = 0
  · subst h0
    have HR := Aside0.mk hR
    clear hc ha0 ha1 hR
    go_enter Tryd.func7, Tryd.ntmps7
    go_wp2_with fail
    refine (HAW.out _ HM.out).mono ?_
    rintro e w1 ⟨rfl, hb1⟩
    have HB1 := Aside0.mk hb1
    clear hb1
    go_wp2_with fail
    refine (HT.out _ (HM.out.below HB1.out)).mono ?_
    rintro e w2 ⟨v, rfl, hS, hb2⟩
    obtain ⟨A, cp, rfl, hcp, hC⟩ := Kd.S_reads hS
    have HB2 := Aside0.mk (HB1.out.trans (hb2.mono HB1.out.size))
    have HC := Aside0.mk hC
    clear hb2 hS hC hcp
    go_wp2_with fail
    go_loopg [6, 7] l.length (fun m v6 v7 wr => ∃ (j : Nat) (last : Int), v6 = .int .i64 last ∧ v7 = .int .i64 (j : Int) ∧ j ≤ l.length ∧ Aside0 (m = l.length - j) ∧ Aside0 (Below w2.heap.size w2 wr) ∧ Aside0 (Rise s (last + 1) (l.drop j)))
    case atStart => exact ⟨0, -1, rfl, rfl, Nat.zero_le _, ⟨rfl⟩, ⟨Below.refl _ _⟩, ⟨HR.out⟩⟩
    case round =>
      obtain ⟨j, last, rfl, rfl, hj, HMe, HB, HRi⟩ := hrel
      by_cases hlt : j < l.length
      · obtain ⟨ad, A3, c3, eA, k0, k1, k2, k3, k4⟩ := atTok HC.out (j : Int) (by omega) (by omega)
        have hri := HRi.out
        rw [List.drop_eq_getElem_cons hlt] at hri
        obtain ⟨x, hx⟩ : ∃ x, x = l[j] := ⟨_, rfl⟩
        rw [← hx] at hri
        obtain ⟨r1, ⟨i, r2, r3, r4⟩, r5⟩ := hri
        have ex : l.getD j zTok = x := by rw [hx]; simp [hlt]
        simp only [Int.toNat_natCast, ex] at k0 k1 k2 k3 k4
        have k0 := pw_cell_below HB.out k0
        have k1 := pw_cell_below HB.out k1
        have k2 := pw_cell_below HB.out k2
        have k3 := pw_cell_below HB.out k3
        have k4 := pw_cell_below HB.out k4
        rw [r2] at r1 r5 k1
        have q2 := eq_true (show (j : Int) < (l.length : Int) by omega)
        have q3 := eq_true (show (0 : Int) ≤ (j : Int) by omega)
        have q4 := eq_false (show ¬ (i : Int) ≤ last by omega)
        have q5 := eq_false (show ¬ (s.size : Int) ≤ (i : Int) by omega)
        have q6 := eq_true (show (0 : Int) ≤ (i : Int) by omega)
        have q7 := eq_true (show (i : Int) < (s.size : Int) by omega)
        have q8 := eq_true r3
        have q9 := bt_nat s i r3
        have HBG := Aside0.mk (fun W => PL.watchbillref03_Begins.calls s i sSec (nextB s i sSec) W (begins_sec s i r3 hs))
        subst eA
        obtain ⟨z, hz⟩ : ∃ z, z = j + 1 := ⟨_, rfl⟩
        have f1 : (j : Int) + 1 = (z : Int) := by omega
        have f2 : IntKind.i64.wrap (z : Int) = (z : Int) := IntWalk.i64_in _ (by omega)
        have HN := Aside0.mk (show Rise s ((i : Int) + 1) (l.drop z) by rw [hz]; exact r5)
        have HZ := Aside0.mk hz
        clear r1 r2 hz r5 ex hx
        rcases r4 with ⟨g0, g1, g2, g3, g4⟩ | ⟨g0, g1, g2, g3⟩
        · obtain ⟨k, hk⟩ : ∃ k, x.kind = k := ⟨_, rfl⟩
          rw [hk] at k0 g0 g1 g4
          rw [g2] at q9
          rw [g3] at HBG
          have n1 : (k != 4) = true := bne_iff_ne.2 (by omega)
          have n2 : (k == 4) = false := beq_eq_false_iff_ne.2 (by omega)
          have n3 := eq_false (show ¬ k < 1 by omega)
          have n4 := eq_false (show ¬ 4 < k by omega)
          clear hk g0 g1 g2 g3
          cases h2 : (k == 2) with
          | false =>
            go_wp2_with fail
            go_quiet ((go_at_call 24; (with_reducible refine (HBG.out _).mono ?_); rintro e w' ⟨rfl, ⟨nd, rfl⟩⟩; exact ⟨rfl, _, World.drewN_drewN _ _ _⟩))
            go_wp2_with fail
            go_roundg (l.length - z)
            case measure => have h1 := HMe.out; have h2 := HZ.out; omega
            case rel => exact ⟨z, i, rfl, rfl, by have h2 := HZ.out; omega, ⟨rfl⟩, ⟨by repeat (first | (with_reducible exact HB.out) | apply pw_below_drewN | exact below_alloc HB.out _)⟩, HN⟩
          | true =>
            have g5 := g4 (beq_iff_eq.1 h2)
            go_wp2_with fail
            go_quiet ((go_at_call 24; (with_reducible refine (HBG.out _).mono ?_); rintro e w' ⟨rfl, ⟨nd, rfl⟩⟩; exact ⟨rfl, _, World.drewN_drewN _ _ _⟩))
            go_wp2_with fail
            go_roundg (l.length - z)
            case measure => have h1 := HMe.out; have h2 := HZ.out; omega
            case rel => exact ⟨z, i, rfl, rfl, by have h2 := HZ.out; omega, ⟨rfl⟩, ⟨by repeat (first | (with_reducible exact HB.out) | apply pw_below_drewN | exact below_alloc HB.out _)⟩, HN⟩
        · obtain ⟨k, hk⟩ : ∃ k, x.kind = k := ⟨_, rfl⟩
          rw [hk] at k0 g0
          subst g0
          rw [g1] at k2
          rw [g2, List.length_nil] at k3
          clear hk g1 g2
          by_cases h60 : bt s i = 60
          · have g4 : nextB s i sSec = true := g3.resolve_left (fun h => h h60)
            rw [h60] at q9
            rw [g4] at HBG
            clear g3 g4 h60
            go_wp2_with fail
            go_quiet ((go_at_call 24; (with_reducible refine (HBG.out _).mono ?_); rintro e w' ⟨rfl, ⟨nd, rfl⟩⟩; exact ⟨rfl, _, World.drewN_drewN _ _ _⟩))
            go_wp2_with fail
            go_roundg (l.length - z)
            case measure => have h1 := HMe.out; have h2 := HZ.out; omega
            case rel => exact ⟨z, i, rfl, rfl, by have h2 := HZ.out; omega, ⟨rfl⟩, ⟨by repeat (first | (with_reducible exact HB.out) | apply pw_below_drewN | exact below_alloc HB.out _)⟩, HN⟩
          · have hr1 := bt_range s i
            have x1 : (bt s i = 60) = False := eq_false h60
            have x2 : (bt s i == 60) = false := beq_eq_false_iff_ne.2 h60
            have x3 : decide (bt s i = 60) = false := decide_eq_false h60
            clear g3 h60
            go_wp2_with fail
            go_quiet ((go_at_call 24; (with_reducible refine (HBG.out _).mono ?_); rintro e w' ⟨rfl, ⟨nd, rfl⟩⟩; exact ⟨rfl, _, World.drewN_drewN _ _ _⟩))
            go_wp2_with fail
            go_roundg (l.length - z)
            case measure => have h1 := HMe.out; have h2 := HZ.out; omega
            case rel => exact ⟨z, i, rfl, rfl, by have h2 := HZ.out; omega, ⟨rfl⟩, ⟨by repeat (first | (with_reducible exact HB.out) | apply pw_below_drewN | exact below_alloc HB.out _)⟩, HN⟩
      · have q2 := eq_false (show ¬ (j : Int) < (l.length : Int) by omega)
        have HF := Aside0.mk (HB2.out.trans (HB.out.mono HB2.out.size))
        go_wp2_with fail
        go_ret
        exact ⟨rfl, HF.out⟩
  · have hl0 := hc h0
    subst hl0
    have n1 : (c != 0) = true := bne_iff_ne.2 h0
    have q2 := eq_true ha0
    have q3 := eq_true ha1
    have q4 : decide (0 ≤ a) = true := decide_eq_true ha0
    have q5 : decide (a ≤ (s.size : Int)) = true := decide_eq_true ha1
    clear hc ha0 ha1 hR hlen h0
    go_enter Tryd.func7, Tryd.ntmps7
    go_wp2_with fail
    refine (HAW.out _ HM.out).mono ?_
    rintro e w1 ⟨rfl, hb1⟩
    have HB1 := Aside0.mk hb1
    clear hb1
    go_wp2_with fail
    refine (HT.out _ (HM.out.below HB1.out)).mono ?_
    rintro e w2 ⟨v, rfl, hS, hb2⟩
    obtain ⟨A, cp, rfl⟩ := Kd.S_slice hS
    have HB2 := Aside0.mk (HB1.out.trans (hb2.mono HB1.out.size))
    clear hb2 hS
    go_wp2_with fail
    go_ret
    exact ⟨rfl, HB2.out⟩
end Go.Proofs.YtffpbhbiamkkpaaDoor.Lx
