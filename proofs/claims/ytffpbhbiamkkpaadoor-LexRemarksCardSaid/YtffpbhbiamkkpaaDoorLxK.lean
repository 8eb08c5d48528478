/- The lexer's method setting: a name, =, and one of some values. -/
import Derived.Test.YtffpbhbiamkkpaaDoorLxJ
namespace Go.Proofs.YtffpbhbiamkkpaaDoor.Lx
open Go.RowKit Go.Proofs.YtffpbhbiamkkpaaDoorW.PrintWords Go.Proofs.YtffpbhbiamkkpaaDoorW.PrintLast Go.Proofs.YtffpbhbiamkkpaaDoorW.PrintMore Go.Proofs.YtffpbhbiamkkpaaDoor.PU Go.Shelf
set_option linter.unusedVariables false
/-- A name, =, and one of some values: is it there? And the place behind what was gone past. -/
def settingS (s : ByteArray) (i : Nat) (name : ByteArray) (fold : Bool) (vs : List ByteArray) : Bool × Nat :=
  if nextB s i name = true then
    if nextB s (skip blankB s (i + name.size)) ⟨#[61]⟩ = true then
      match quotedS s (skip blankB s (skip blankB s (i + name.size) + 1)) with
      | none => (false, skip blankB s (skip blankB s (i + name.size) + 1))
      | some (v, j) => (vs.any fun x => v.toList == x.toList || fold && (lowerL v).toList == x.toList, j)
    else (false, skip blankB s (i + name.size))
  else (false, i)
theorem settingS_le {s : ByteArray} {i : Nat} {name : ByteArray} {fold : Bool} {vs : List ByteArray} (hi : i ≤ s.size) : i ≤ (settingS s i name fold vs).2 ∧ (settingS s i name fold vs).2 ≤ s.size := by
  unfold settingS
  split
  · rename_i h1
    have h2 := nextB_le h1 hi
    have h3 := skip_le blankB s (i + name.size) h2
    split
    · rename_i h4
      have h5 := nextB_le h4 h3.2
      have h6 : (⟨#[61]⟩ : ByteArray).size = 1 := rfl
      have h7 := skip_le blankB s (skip blankB s (i + name.size) + 1) (by omega)
      split
      · exact ⟨by omega, by omega⟩
      · rename_i v j hq
        have := quotedS_le hq
        exact ⟨by omega, by omega⟩
    · exact ⟨by omega, by omega⟩
  · exact ⟨Nat.le_refl _, hi⟩
set_option maxHeartbeats 4000000 in
set_option maxRecDepth 100000 in
theorem setting_calls (g : Nat) (s : ByteArray) (i : Nat) (v : Value) (w0 w : World) (name : ByteArray) (fold : Bool) (vs : List ByteArray) (sb : Nat) (cs : Array Value) (z : Nat × Nat) (h : At w g s i v) (hi : i ≤ s.size) (hs : s.size < 4294967281)
    (hb : Below w0.heap.size w0 w) (hg : w0.heap.size ≤ g) (hT : U8 w0) (hsb : sb ≠ g) (hblk : w.heap[sb]? = some (.cells cs 9 z)) (hcell : ∀ k (h : k < vs.length), w.cell? ⟨sb, k, none⟩ = some (.string vs[k])) (hvl : vs.length ≤ 1000) (hnm : name.size ≤ 1000) :
    Calls Tryd.prog 90 #[.pointer (some ⟨g, 0, none⟩), .string name, .bool fold, .slice (some ⟨sb, 0, none⟩) vs.length vs.length] w fun e w' => e = .returned (.bool (settingS s i name fold vs).1) ∧ Moved g w w' s (settingS s i name fold vs).2 v := by
  have HV := Aside0.mk h.moved
  have HB := Aside0.mk hb
  have HT := Aside0.mk hT
  have HC := Aside0.mk hcell
  have HK := Aside0.mk hblk
  have HN := Aside0.mk (fun t W k (hk : k ≤ s.size) hat => next_calls g s t k v W hat hk)
  have HBL := Aside0.mk (fun W k (hk : k ≤ s.size) hat => blanks_calls g s k v W hat hk (by omega))
  have c0 := h.c0
  have c1 := h.c1
  have f1 := h.f0 1
  clear h hb hT hcell hblk
  cases hn : nextB s i name with
  | false =>
    have e : settingS s i name fold vs = (false, i) := by unfold settingS; rw [if_neg (by rw [hn]; decide)]
    rw [e]
    have H1 := Aside0.mk (HN.out name w i hi HV.out.me)
    rw [hn] at H1
    clear hn e
    go_enter Tryd.func90, Tryd.ntmps90
    go_wp2_with fail
    refine H1.out.mono ?_
    rintro e w1 ⟨rfl, ⟨n1, rfl⟩⟩
    go_wp2_with fail
    go_ret
    exact ⟨rfl, HV.out.drewN _⟩
  | true =>
    have hle := nextB_le hn hi
    have H1 := Aside0.mk (HN.out name w i hi HV.out.me)
    rw [hn] at H1
    obtain ⟨j, hj⟩ : ∃ j, j = i + name.size := ⟨_, rfl⟩
    have e1 : (i : Int) + (name.size : Int) = (j : Int) := by omega
    have hjs : j ≤ s.size := by omega
    have HJ := Aside0.mk hj
    have hsj := skip_le blankB s j hjs
    obtain ⟨k, hk⟩ : ∃ k, k = skip blankB s j := ⟨_, rfl⟩
    rw [← hk] at hsj
    have HKK := Aside0.mk hk
    have e0 : settingS s i name fold vs = if nextB s k ⟨#[61]⟩ = true then (match quotedS s (skip blankB s (k + 1)) with | none => (false, skip blankB s (k + 1)) | some (v, j) => (vs.any fun x => v.toList == x.toList || fold && (lowerL v).toList == x.toList, j)) else (false, k) := by
      unfold settingS
      rw [if_pos hn, ← hj, ← hk]
    clear hn hle hj hk
    cases hq : nextB s k ⟨#[61]⟩ with
    | false =>
      rw [hq, if_neg (by decide)] at e0
      rw [e0]
      clear e0
      go_enter Tryd.func90, Tryd.ntmps90
      go_wp2_with fail
      refine H1.out.mono ?_
      rintro e w1 ⟨rfl, ⟨n1, rfl⟩⟩
      go_wp2_with fail
      have M1 := ((HV.out.drewN n1).set (i := i) (q := j) (j := (j : Int)) rfl)
      refine (HBL.out _ j hjs M1.me).mono ?_
      rintro e w2 ⟨rfl, hm2⟩
      rw [← HKK.out] at hm2
      have M2 := M1.trans hm2
      have HM2 := Aside0.mk M2
      have d0 := M2.me.c0
      have d1 := M2.me.c1
      clear hm2 M1 M2
      go_wp2_with fail
      refine (HN.out ⟨#[61]⟩ _ k hsj.2 HM2.out.me).mono ?_
      rintro e w3 ⟨rfl, ⟨n3, rfl⟩⟩
      rw [hq]
      go_wp2_with fail
      go_ret
      exact ⟨rfl, HM2.out.drewN _⟩
    | true =>
      rw [hq, if_pos rfl] at e0
      have hk1 := nextB_le hq hsj.2
      have hz1 : (⟨#[61]⟩ : ByteArray).size = 1 := rfl
      obtain ⟨k1, hk1e⟩ : ∃ k1, k1 = k + 1 := ⟨_, rfl⟩
      have e2 : (k : Int) + 1 = (k1 : Int) := by omega
      have hk1s : k1 ≤ s.size := by omega
      have hsk := skip_le blankB s k1 hk1s
      obtain ⟨k2, hk2⟩ : ∃ k2, k2 = skip blankB s k1 := ⟨_, rfl⟩
      rw [← hk1e, ← hk2] at e0
      rw [← hk2] at hsk
      have HK2 := Aside0.mk hk2
      have HQ := Aside0.mk (fun W hat => quoted_calls g s k2 v W hat hsk.2 hs)
      have HK1 := Aside0.mk hk1e
      clear hk1 hz1 hk1e hk2
      cases hqq : quotedS s k2 with
      | none =>
        rw [hqq] at e0 HQ
        rw [e0]
        clear e0
        go_enter Tryd.func90, Tryd.ntmps90
        go_wp2_with fail
        refine H1.out.mono ?_
        rintro e w1 ⟨rfl, ⟨n1, rfl⟩⟩
        go_wp2_with fail
        have M1 := ((HV.out.drewN n1).set (i := i) (q := j) (j := (j : Int)) rfl)
        refine (HBL.out _ j hjs M1.me).mono ?_
        rintro e w2 ⟨rfl, hm2⟩
        rw [← HKK.out] at hm2
        have M2 := M1.trans hm2
        have HM2 := Aside0.mk M2
        have d0 := M2.me.c0
        have d1 := M2.me.c1
        have d2 := M2.me.f0 1
        clear hm2 M1 M2
        go_wp2_with fail
        refine (HN.out ⟨#[61]⟩ _ k hsj.2 HM2.out.me).mono ?_
        rintro e w3 ⟨rfl, ⟨n3, rfl⟩⟩
        rw [hq]
        go_wp2_with fail
        have M3 := ((HM2.out.drewN n3).set (i := k) (q := k1) (j := (k1 : Int)) rfl)
        refine (HBL.out _ k1 hk1s M3.me).mono ?_
        rintro e w4 ⟨rfl, hm4⟩
        rw [← HK2.out] at hm4
        have M4 := M3.trans hm4
        have HM4 := Aside0.mk M4
        clear hm4 M3 M4 d0 d1 d2
        go_wp2_with fail
        refine (HQ.out _ HM4.out.me).mono ?_
        rintro e w5 ⟨rfl, hm5⟩
        have HM5 := Aside0.mk (HM4.out.trans hm5)
        clear hm5
        go_wp2_with fail
        go_loopg [47] vs.length (fun m v47 wr => ∃ q : Nat, v47 = .int .i64 (q : Int) ∧ q ≤ vs.length ∧ Aside0 (m = vs.length - q) ∧ wr = w5)
        case atStart => exact ⟨0, rfl, Nat.zero_le _, ⟨rfl⟩, rfl⟩
        case round =>
          obtain ⟨q, rfl, hq9, HM, rfl⟩ := hrel
          by_cases hlt : q < vs.length
          · have q1 := eq_true (show (q : Int) < (vs.length : Int) by omega)
            have q2 := eq_true (show (0 : Int) ≤ (q : Int) by omega)
            obtain ⟨x, hx⟩ : ∃ x, x = vs[q] := ⟨_, rfl⟩
            have hc5 : wr.cell? ⟨sb, q, none⟩ = some (.string x) := by
              rw [hx, ← HC.out q hlt, Lib.cell_of_heap HK.out, Lib.cell_of_heap ((HM5.out.old sb (blk_lt HK.out) hsb).trans HK.out)]
            obtain ⟨q', hq'⟩ : ∃ q', q' = q + 1 := ⟨_, rfl⟩
            have f1 : (q : Int) + 1 = (q' : Int) := by omega
            have f2 : IntKind.i64.wrap (q' : Int) = (q' : Int) := IntWalk.i64_in _ (by omega)
            have HQ' := Aside0.mk hq'
            clear hx hq'
            go_wp2_with fail
            go_roundg (vs.length - q')
            · exact ⟨q', rfl, by have := HQ'.out; omega, ⟨rfl⟩, rfl⟩
            · have := HQ'.out; have := HM.out; omega
          · have q1 := eq_false (show ¬ (q : Int) < (vs.length : Int) by omega)
            go_wp2_with fail
            go_ret
            exact ⟨rfl, HM5.out⟩
      | some p =>
        obtain ⟨val, j3⟩ := p
        rw [hqq] at e0 HQ
        obtain ⟨R, hR⟩ : ∃ R, R = vs.any fun x => val.toList == x.toList || fold && (lowerL val).toList == x.toList := ⟨_, rfl⟩
        simp only [← hR] at e0
        rw [e0]
        have HR := Aside0.mk hR
        have hvl3 := quotedS_le hqq
        have HLO := Aside0.mk (fun W hT => lower_calls val W hT (by omega))
        clear e0 hR hqq
        go_enter Tryd.func90, Tryd.ntmps90
        go_wp2_with fail
        refine H1.out.mono ?_
        rintro e w1 ⟨rfl, ⟨n1, rfl⟩⟩
        go_wp2_with fail
        have M1 := ((HV.out.drewN n1).set (i := i) (q := j) (j := (j : Int)) rfl)
        refine (HBL.out _ j hjs M1.me).mono ?_
        rintro e w2 ⟨rfl, hm2⟩
        rw [← HKK.out] at hm2
        have M2 := M1.trans hm2
        have HM2 := Aside0.mk M2
        have d0 := M2.me.c0
        have d1 := M2.me.c1
        have d2 := M2.me.f0 1
        clear hm2 M1 M2
        go_wp2_with fail
        refine (HN.out ⟨#[61]⟩ _ k hsj.2 HM2.out.me).mono ?_
        rintro e w3 ⟨rfl, ⟨n3, rfl⟩⟩
        rw [hq]
        go_wp2_with fail
        have M3 := ((HM2.out.drewN n3).set (i := k) (q := k1) (j := (k1 : Int)) rfl)
        refine (HBL.out _ k1 hk1s M3.me).mono ?_
        rintro e w4 ⟨rfl, hm4⟩
        rw [← HK2.out] at hm4
        have M4 := M3.trans hm4
        have HM4 := Aside0.mk M4
        clear hm4 M3 M4 d0 d1 d2
        go_wp2_with fail
        refine (HQ.out _ HM4.out.me).mono ?_
        rintro e w5 ⟨rfl, hm5⟩
        have HM5 := Aside0.mk (HM4.out.trans hm5)
        clear hm5
        go_wp2_with fail
        go_loopg [47] vs.length (fun m v47 wr => ∃ q : Nat, v47 = .int .i64 (q : Int) ∧ q ≤ vs.length ∧ Aside0 (m = vs.length - q) ∧ Aside0 (Moved g w wr s j3 v ∧ ((vs.drop q).any fun x => val.toList == x.toList || fold && (lowerL val).toList == x.toList) = R))
        case atStart => exact ⟨0, rfl, Nat.zero_le _, ⟨rfl⟩, ⟨HM5.out, HR.out.symm⟩⟩
        case round =>
          obtain ⟨q, rfl, hq9, HM, HJ2⟩ := hrel
          by_cases hlt : q < vs.length
          · have q1 := eq_true (show (q : Int) < (vs.length : Int) by omega)
            have q2 := eq_true (show (0 : Int) ≤ (q : Int) by omega)
            obtain ⟨x, hx⟩ : ∃ x, x = vs[q] := ⟨_, rfl⟩
            have hc5 : wr.cell? ⟨sb, q, none⟩ = some (.string x) := by
              rw [hx, ← HC.out q hlt, Lib.cell_of_heap HK.out, Lib.cell_of_heap ((HJ2.out.1.old sb (blk_lt HK.out) hsb).trans HK.out)]
            have hstep := HJ2.out.2
            rw [List.drop_eq_getElem_cons hlt, List.any_cons, ← hx] at hstep
            obtain ⟨q', hq'⟩ : ∃ q', q' = q + 1 := ⟨_, rfl⟩
            rw [← hq'] at hstep
            have f1 : (q : Int) + 1 = (q' : Int) := by omega
            have f2 : IntKind.i64.wrap (q' : Int) = (q' : Int) := IntWalk.i64_in _ (by omega)
            have HQ' := Aside0.mk hq'
            clear hx hq'
            cases hc1 : (val.toList == x.toList) with
            | true =>
              rw [hc1, Bool.true_or, Bool.true_or] at hstep
              have HS := Aside0.mk hstep
              clear hstep
              go_wp2_with fail
              go_ret
              rw [← HS.out]
              exact ⟨rfl, HJ2.out.1⟩
            | false =>
              rw [hc1, Bool.false_or] at hstep
              cases fold with
              | false =>
                rw [Bool.false_and, Bool.false_or] at hstep
                have HS := Aside0.mk hstep
                clear hstep
                go_wp2_with fail
                go_roundg (vs.length - q')
                · exact ⟨q', rfl, by have := HQ'.out; omega, ⟨rfl⟩, ⟨HJ2.out.1, HS.out⟩⟩
                · have := HQ'.out; have := HM.out; omega
              | true =>
                rw [Bool.true_and] at hstep
                cases hc2 : ((lowerL val).toList == x.toList) with
                | true =>
                  rw [hc2, Bool.true_or] at hstep
                  have HS := Aside0.mk hstep
                  clear hstep
                  go_wp2_with fail
                  refine (HLO.out _ (Utf8Tabs_below HT.out (HJ2.out.1.belowB HB.out hg))).mono ?_
                  rintro e w7 ⟨rfl, hb7⟩
                  have HB7 := Aside0.mk hb7
                  clear hb7
                  go_wp2_with fail
                  go_ret
                  rw [← HS.out]
                  exact ⟨rfl, HJ2.out.1.below HB7.out⟩
                | false =>
                  rw [hc2, Bool.false_or] at hstep
                  have HS := Aside0.mk hstep
                  clear hstep
                  go_wp2_with fail
                  refine (HLO.out _ (Utf8Tabs_below HT.out (HJ2.out.1.belowB HB.out hg))).mono ?_
                  rintro e w7 ⟨rfl, hb7⟩
                  have HB7 := Aside0.mk hb7
                  clear hb7
                  go_wp2_with fail
                  go_roundg (vs.length - q')
                  · exact ⟨q', rfl, by have := HQ'.out; omega, ⟨rfl⟩, ⟨HJ2.out.1.below HB7.out, HS.out⟩⟩
                  · have := HQ'.out; have := HM.out; omega
          · have q1 := eq_false (show ¬ (q : Int) < (vs.length : Int) by omega)
            have hR : R = false := by
              rw [← HJ2.out.2, List.drop_eq_nil_of_le (by omega)]
              rfl
            have HS := Aside0.mk hR
            clear hR
            go_wp2_with fail
            go_ret
            rw [HS.out]
            exact ⟨rfl, HJ2.out.1⟩
end Go.Proofs.YtffpbhbiamkkpaaDoor.Lx
