/- The lexer's method declaration. Printed by wip/lex/mkdecl.py. -/
import Derived.Test.YtffpbhbiamkkpaaDoorLxM
namespace Go.Proofs.YtffpbhbiamkkpaaDoor.Lx
open Go.RowKit Go.Proofs.YtffpbhbiamkkpaaDoorW.PrintWords Go.Proofs.YtffpbhbiamkkpaaDoorW.PrintLast Go.Proofs.YtffpbhbiamkkpaaDoorW.PrintMore Go.Proofs.YtffpbhbiamkkpaaDoor.PU Go.Shelf
set_option linter.unusedVariables false
set_option linter.unusedSimpArgs false
abbrev sVer : ByteArray := ⟨#[118, 101, 114, 115, 105, 111, 110]⟩
abbrev sOne : ByteArray := ⟨#[49, 46, 48]⟩
abbrev sEnc : ByteArray := ⟨#[101, 110, 99, 111, 100, 105, 110, 103]⟩
abbrev sU8 : ByteArray := ⟨#[117, 116, 102, 45, 56]⟩
abbrev sSta : ByteArray := ⟨#[115, 116, 97, 110, 100, 97, 108, 111, 110, 101]⟩
abbrev sYes : ByteArray := ⟨#[121, 101, 115]⟩
abbrev sNo : ByteArray := ⟨#[110, 111]⟩
/-- One further part of a declaration: is all well, the blanks before, the place. -/
def declStep (s : ByteArray) (q : Bool × Nat × Nat) (name : ByteArray) (fold : Bool) (vs : List ByteArray) : Bool × Nat × Nat :=
  if q.1 = true ∧ 0 < q.2.1 ∧ nextB s q.2.2 name = true then
    ((settingS s q.2.2 name fold vs).1, skip blankB s (settingS s q.2.2 name fold vs).2 - (settingS s q.2.2 name fold vs).2, skip blankB s (settingS s q.2.2 name fold vs).2)
  else q
def declEnd (s : ByteArray) (q : Bool × Nat × Nat) : Except (Int × Int) Nat :=
  if q.1 = true ∧ nextB s q.2.2 sQE = true then .ok (q.2.2 + 2) else .error (0, 4)
/-- What a declaration comes to. -/
def declS (s : ByteArray) : Except (Int × Int) Nat :=
  declEnd s (declStep s (declStep s ((settingS s (skip blankB s 5) sVer false [sOne]).1, skip blankB s (settingS s (skip blankB s 5) sVer false [sOne]).2 - (settingS s (skip blankB s 5) sVer false [sOne]).2, skip blankB s (settingS s (skip blankB s 5) sVer false [sOne]).2) sEnc true [sU8]) sSta false [sYes, sNo])
section
variable {w0 w W : World} {g : Nat} {s : ByteArray} {i k : Nat} {v : Value}
theorem set_one (hm : Moved g w W s k v) (hk : k ≤ s.size) (hs : s.size < 4294967281) (hb : Below w0.heap.size w0 w) (hg : w0.heap.size ≤ g) (hT : U8 w0) (name x : ByteArray) (fold : Bool) (hn : name.size ≤ 1000) :
    Calls Tryd.prog 90 #[.pointer (some ⟨g, 0, none⟩), .string name, .bool fold, .slice (some ⟨W.heap.size, 0, none⟩) 1 1] (W.alloc (.cells #[.string x] 9)) fun e w' => e = .returned (.bool (settingS s k name fold [x]).1) ∧ Moved g w w' s (settingS s k name fold [x]).2 v :=
  (setting_calls g s k v w0 (W.alloc (.cells #[.string x] 9)) name fold [x] W.heap.size #[.string x] (0, 0) (hm.alloc _).me hk hs ((hm.alloc _).belowB hb hg) hg hT (by have := blk_lt hm.me; omega) (blk_new W _) (fun k h => match k, h with | 0, _ => (blk_cell (blk_new W _) 0).trans rfl) (by simp) hn).mono (fun e w' h => ⟨h.1, (hm.alloc _).trans h.2⟩)
theorem set_two (hm : Moved g w W s k v) (hk : k ≤ s.size) (hs : s.size < 4294967281) (hb : Below w0.heap.size w0 w) (hg : w0.heap.size ≤ g) (hT : U8 w0) (name x y : ByteArray) (fold : Bool) (hn : name.size ≤ 1000) :
    Calls Tryd.prog 90 #[.pointer (some ⟨g, 0, none⟩), .string name, .bool fold, .slice (some ⟨W.heap.size, 0, none⟩) 2 2] (W.alloc (.cells #[.string x, .string y] 9)) fun e w' => e = .returned (.bool (settingS s k name fold [x, y]).1) ∧ Moved g w w' s (settingS s k name fold [x, y]).2 v :=
  (setting_calls g s k v w0 (W.alloc (.cells #[.string x, .string y] 9)) name fold [x, y] W.heap.size #[.string x, .string y] (0, 0) (hm.alloc _).me hk hs ((hm.alloc _).belowB hb hg) hg hT (by have := blk_lt hm.me; omega) (blk_new W _) (fun k h => match k, h with | 0, _ => (blk_cell (blk_new W _) 0).trans rfl | 1, _ => (blk_cell (blk_new W _) 1).trans rfl) (by simp) hn).mono (fun e w' h => ⟨h.1, (hm.alloc _).trans h.2⟩)
end
set_option maxHeartbeats 8000000 in
set_option maxRecDepth 100000 in
theorem decl_calls (w0 : World) (g : Nat) (s : ByteArray) (i : Nat) (v : Value) (w : World) (h : At w g s i v) (hb : Below w0.heap.size w0 w) (hg : w0.heap.size ≤ g) (hT : U8 w0) (hi : 5 ≤ s.size) (hs : s.size < 4294967281) :
    Calls Tryd.prog 56 #[.pointer (some ⟨g, 0, none⟩)] w (GoPost g w s v (declS s)) := by
  have HV := Aside0.mk h.moved
  have HB := Aside0.mk hb
  have HT := Aside0.mk hT
  have HN := Aside0.mk (fun t W k (hk : k ≤ s.size) hat => next_calls g s t k v W hat hk)
  have HBL := Aside0.mk (fun W k (hk : k ≤ s.size) hat => blanks_calls g s k v W hat hk (by omega))
  have c0 := h.c0
  have c1 := h.c1
  have f1 := h.f0 1
  clear h hb hT
  obtain ⟨q, hq⟩ : ∃ q, declS s = q := ⟨_, rfl⟩
  rw [hq]
  unfold declS at hq
  obtain ⟨k, hk⟩ : ∃ k, skip blankB s 5 = k := ⟨_, rfl⟩
  have hks := skip_le blankB s 5 hi
  rw [hk] at hks hq
  obtain ⟨p, hp⟩ : ∃ p, settingS s k sVer false [sOne] = p := ⟨_, rfl⟩
  obtain ⟨ok1, i1⟩ := p
  have his := settingS_le (name := sVer) (fold := false) (vs := [sOne]) hks.2
  rw [hp] at his hq
  obtain ⟨j1, hj⟩ : ∃ j1, skip blankB s i1 = j1 := ⟨_, rfl⟩
  have hjs := skip_le blankB s i1 his.2
  simp only at his hjs hq
  rw [hj] at hjs hq
  obtain ⟨n1, hn⟩ : ∃ n1, j1 - i1 = n1 := ⟨_, rfl⟩
  rw [hn] at hq
  have hin : (j1 : Int) - (i1 : Int) = (n1 : Int) := by omega
  have HK := Aside0.mk hk
  have HP := Aside0.mk hp
  have HJ := Aside0.mk hj
  have HIN := Aside0.mk hin
  have hi1 := his.2
  have hj1 := hjs.2
  have hk1 := hks.2
  clear hk hp hj hn hin his hjs hks
  go_enter Tryd.func56, Tryd.ntmps56
  go_wp2_with fail
  have M0 := Aside0.mk (HV.out.set (i := i) (q := 5) (j := (5 : Int)) rfl)
  refine (HBL.out _ 5 hi M0.out.me).mono ?_
  rintro e w1 ⟨rfl, hm1⟩
  rw [HK.out] at hm1 ⊢
  have HM1 := Aside0.mk (M0.out.trans hm1)
  clear hm1 M0
  go_wp2_with fail
  refine (set_one HM1.out hk1 hs HB.out hg HT.out sVer sOne false (by decide)).mono ?_
  rintro e w2 ⟨rfl, hm2⟩
  rw [HP.out] at hm2 ⊢
  simp only at hm2 ⊢
  have HM2 := Aside0.mk hm2
  clear hm2
  go_wp2_with fail
  refine (HBL.out _ i1 hi1 HM2.out.me).mono ?_
  rintro e w3 ⟨rfl, hm3⟩
  rw [HJ.out] at hm3 ⊢
  rw [HIN.out]
  have HM3 := Aside0.mk (HM2.out.trans hm3)
  clear hm3
  cases ok1 with
  | false =>
    have HO := Aside0.mk (show q = .error (0, 4) by rw [← hq]; simp [declStep, declEnd])
    clear hq
    go_wp2_with (go_at_call 91; (with_reducible refine (fail_calls _ _ _ _).mono ?_); rintro e w' ⟨hgu, rfl⟩; unfold gaveUp at hgu; subst hgu)
    refine ⟨rfl, ?_⟩
    rw [HO.out]
    exact ⟨rfl, j1, (by repeat (first | (with_reducible exact HM3.out) | (with_reducible apply Moved.drewN) | (with_reducible apply Moved.drew)))⟩
  | true =>
    by_cases p_n1 : 0 < n1
    · have y_n1 := eq_true (show (0 : Int) < (n1 : Int) by omega)
      have HNg2 := Aside0.mk (fun W hat => HN.out sEnc W j1 hj1 hat)
      cases hx2 : nextB s j1 sEnc with
      | false =>
        rw [hx2] at HNg2
        go_wp2_with fail
        refine (HNg2.out _ (Moved.me (w := w) (by repeat (first | (with_reducible exact HM3.out) | (with_reducible apply Moved.drewN) | (with_reducible apply Moved.drew))))).mono ?_
        rintro e wx2 ⟨rfl, ⟨nx2, rfl⟩⟩
        clear HNg2
        have HNg3 := Aside0.mk (fun W hat => HN.out sSta W j1 hj1 hat)
        cases hx3 : nextB s j1 sSta with
        | false =>
          rw [hx3] at HNg3
          go_wp2_with fail
          refine (HNg3.out _ (Moved.me (w := w) (by repeat (first | (with_reducible exact HM3.out) | (with_reducible apply Moved.drewN) | (with_reducible apply Moved.drew))))).mono ?_
          rintro e wx3 ⟨rfl, ⟨nx3, rfl⟩⟩
          clear HNg3
          have HNf := Aside0.mk (fun W hat => HN.out sQE W j1 hj1 hat)
          cases hz : nextB s j1 sQE with
          | false =>
            rw [hz] at HNf
            go_wp2_with fail
            refine (HNf.out _ (Moved.me (w := w) (by repeat (first | (with_reducible exact HM3.out) | (with_reducible apply Moved.drewN) | (with_reducible apply Moved.drew))))).mono ?_
            rintro e wz ⟨rfl, ⟨nz, rfl⟩⟩
            have HO := Aside0.mk (show q = .error (0, 4) by rw [← hq]; simp [declStep, declEnd, p_n1, hx2, hx3, hz])
            clear hq
            go_wp2_with (go_at_call 91; (with_reducible refine (fail_calls _ _ _ _).mono ?_); rintro e w' ⟨hgu, rfl⟩; unfold gaveUp at hgu; subst hgu)
            refine ⟨rfl, ?_⟩
            rw [HO.out]
            exact ⟨rfl, j1, (by repeat (first | (with_reducible exact HM3.out) | (with_reducible apply Moved.drewN) | (with_reducible apply Moved.drew)))⟩
          | true =>
            rw [hz] at HNf
            have hle := nextB_le hz hj1
            have HO := Aside0.mk (show q = .ok (j1 + 2) by rw [← hq]; simp [declStep, declEnd, p_n1, hx2, hx3, hz])
            clear hq
            obtain ⟨z, hzz⟩ : ∃ z, j1 + 2 = z := ⟨_, rfl⟩
            have ez : (j1 : Int) + 2 = (z : Int) := by omega
            have hz1 : sQE.size = 2 := rfl
            have hzs : z ≤ s.size := by omega
            have HZ := Aside0.mk hzz
            have d1 := HM3.out.me.c1
            have d2 := HM3.out.me.f0 1
            clear hz hzz hle hz1
            go_wp2_with fail
            refine (HNf.out _ (Moved.me (w := w) (by repeat (first | (with_reducible exact HM3.out) | (with_reducible apply Moved.drewN) | (with_reducible apply Moved.drew))))).mono ?_
            rintro e wz ⟨rfl, ⟨nz, rfl⟩⟩
            go_wp2_with fail
            go_end0
            rw [HO.out, HZ.out]
            exact ⟨rfl, by repeat (first | (with_reducible exact HM3.out) | (with_reducible apply Moved.drewN) | (with_reducible apply Moved.drew) | refine Moved.set (i := j1) ?_ (q := z) rfl)⟩
        | true =>
          rw [hx3] at HNg3
          obtain ⟨p, hp⟩ : ∃ p, settingS s j1 sSta false [sYes, sNo] = p := ⟨_, rfl⟩
          obtain ⟨ok3, i3⟩ := p
          have his := settingS_le (name := sSta) (fold := false) (vs := [sYes, sNo]) hj1
          rw [hp] at his
          obtain ⟨j3, hjj⟩ : ∃ j, skip blankB s i3 = j := ⟨_, rfl⟩
          have hjs := skip_le blankB s i3 his.2
          simp only at his hjs
          rw [hjj] at hjs
          obtain ⟨n3, hn⟩ : ∃ n, j3 - i3 = n := ⟨_, rfl⟩
          have hin : (j3 : Int) - (i3 : Int) = (n3 : Int) := by omega
          have st3 : declStep s (true, n1, j1) sSta false [sYes, sNo] = (ok3, n3, j3) := by simp [declStep, p_n1, hx3, hp, hjj, hn]
          have HP3 := Aside0.mk hp
          have HJ3 := Aside0.mk hjj
          have HIN3 := Aside0.mk hin
          have hi3 := his.2
          have hj3 := hjs.2
          rw [show declStep s (true, n1, j1) sEnc true [sU8] = (true, n1, j1) by simp [declStep, p_n1, hx2], st3] at hq
          clear hp hjj hn hin his hjs st3 hx3
          go_wp2_with fail
          refine (HNg3.out _ (Moved.me (w := w) (by repeat (first | (with_reducible exact HM3.out) | (with_reducible apply Moved.drewN) | (with_reducible apply Moved.drew))))).mono ?_
          rintro e wx3 ⟨rfl, ⟨nx3, rfl⟩⟩
          clear HNg3
          go_wp2_with fail
          refine (set_two (w := w) (k := j1) (by repeat (first | (with_reducible exact HM3.out) | (with_reducible apply Moved.drewN) | (with_reducible apply Moved.drew))) hj1 hs HB.out hg HT.out sSta sYes sNo false (by decide)).mono ?_
          rintro e wy3 ⟨rfl, hmy⟩
          rw [HP3.out] at hmy ⊢
          simp only at hmy ⊢
          have HMy3 := Aside0.mk hmy
          clear hmy
          go_wp2_with fail
          refine (HBL.out _ i3 hi3 HMy3.out.me).mono ?_
          rintro e wu3 ⟨rfl, hmu⟩
          rw [HJ3.out] at hmu ⊢
          rw [HIN3.out]
          have HMu3 := Aside0.mk (HMy3.out.trans hmu)
          clear hmu
          cases ok3 with
          | false =>
            have HO := Aside0.mk (show q = .error (0, 4) by rw [← hq]; simp [declStep, declEnd])
            clear hq
            go_wp2_with (go_at_call 91; (with_reducible refine (fail_calls _ _ _ _).mono ?_); rintro e w' ⟨hgu, rfl⟩; unfold gaveUp at hgu; subst hgu)
            refine ⟨rfl, ?_⟩
            rw [HO.out]
            exact ⟨rfl, j3, (by repeat (first | (with_reducible exact HMu3.out) | (with_reducible apply Moved.drewN) | (with_reducible apply Moved.drew)))⟩
          | true =>
            have HNf := Aside0.mk (fun W hat => HN.out sQE W j3 hj3 hat)
            cases hz : nextB s j3 sQE with
            | false =>
              rw [hz] at HNf
              go_wp2_with fail
              refine (HNf.out _ (Moved.me (w := w) (by repeat (first | (with_reducible exact HMu3.out) | (with_reducible apply Moved.drewN) | (with_reducible apply Moved.drew))))).mono ?_
              rintro e wz ⟨rfl, ⟨nz, rfl⟩⟩
              have HO := Aside0.mk (show q = .error (0, 4) by rw [← hq]; simp [declStep, declEnd, hz])
              clear hq
              go_wp2_with (go_at_call 91; (with_reducible refine (fail_calls _ _ _ _).mono ?_); rintro e w' ⟨hgu, rfl⟩; unfold gaveUp at hgu; subst hgu)
              refine ⟨rfl, ?_⟩
              rw [HO.out]
              exact ⟨rfl, j3, (by repeat (first | (with_reducible exact HMu3.out) | (with_reducible apply Moved.drewN) | (with_reducible apply Moved.drew)))⟩
            | true =>
              rw [hz] at HNf
              have hle := nextB_le hz hj3
              have HO := Aside0.mk (show q = .ok (j3 + 2) by rw [← hq]; simp [declStep, declEnd, hz])
              clear hq
              obtain ⟨z, hzz⟩ : ∃ z, j3 + 2 = z := ⟨_, rfl⟩
              have ez : (j3 : Int) + 2 = (z : Int) := by omega
              have hz1 : sQE.size = 2 := rfl
              have hzs : z ≤ s.size := by omega
              have HZ := Aside0.mk hzz
              have d1 := HMu3.out.me.c1
              have d2 := HMu3.out.me.f0 1
              clear hz hzz hle hz1
              go_wp2_with fail
              refine (HNf.out _ (Moved.me (w := w) (by repeat (first | (with_reducible exact HMu3.out) | (with_reducible apply Moved.drewN) | (with_reducible apply Moved.drew))))).mono ?_
              rintro e wz ⟨rfl, ⟨nz, rfl⟩⟩
              go_wp2_with fail
              go_end0
              rw [HO.out, HZ.out]
              exact ⟨rfl, by repeat (first | (with_reducible exact HMu3.out) | (with_reducible apply Moved.drewN) | (with_reducible apply Moved.drew) | refine Moved.set (i := j3) ?_ (q := z) rfl)⟩
      | true =>
        rw [hx2] at HNg2
        obtain ⟨p, hp⟩ : ∃ p, settingS s j1 sEnc true [sU8] = p := ⟨_, rfl⟩
        obtain ⟨ok2, i2⟩ := p
        have his := settingS_le (name := sEnc) (fold := true) (vs := [sU8]) hj1
        rw [hp] at his
        obtain ⟨j2, hjj⟩ : ∃ j, skip blankB s i2 = j := ⟨_, rfl⟩
        have hjs := skip_le blankB s i2 his.2
        simp only at his hjs
        rw [hjj] at hjs
        obtain ⟨n2, hn⟩ : ∃ n, j2 - i2 = n := ⟨_, rfl⟩
        have hin : (j2 : Int) - (i2 : Int) = (n2 : Int) := by omega
        have st2 : declStep s (true, n1, j1) sEnc true [sU8] = (ok2, n2, j2) := by simp [declStep, p_n1, hx2, hp, hjj, hn]
        have HP2 := Aside0.mk hp
        have HJ2 := Aside0.mk hjj
        have HIN2 := Aside0.mk hin
        have hi2 := his.2
        have hj2 := hjs.2
        rw [st2] at hq
        clear hp hjj hn hin his hjs st2 hx2
        go_wp2_with fail
        refine (HNg2.out _ (Moved.me (w := w) (by repeat (first | (with_reducible exact HM3.out) | (with_reducible apply Moved.drewN) | (with_reducible apply Moved.drew))))).mono ?_
        rintro e wx2 ⟨rfl, ⟨nx2, rfl⟩⟩
        clear HNg2
        go_wp2_with fail
        refine (set_one (w := w) (k := j1) (by repeat (first | (with_reducible exact HM3.out) | (with_reducible apply Moved.drewN) | (with_reducible apply Moved.drew))) hj1 hs HB.out hg HT.out sEnc sU8 true (by decide)).mono ?_
        rintro e wy2 ⟨rfl, hmy⟩
        rw [HP2.out] at hmy ⊢
        simp only at hmy ⊢
        have HMy2 := Aside0.mk hmy
        clear hmy
        go_wp2_with fail
        refine (HBL.out _ i2 hi2 HMy2.out.me).mono ?_
        rintro e wu2 ⟨rfl, hmu⟩
        rw [HJ2.out] at hmu ⊢
        rw [HIN2.out]
        have HMu2 := Aside0.mk (HMy2.out.trans hmu)
        clear hmu
        cases ok2 with
        | false =>
          have HO := Aside0.mk (show q = .error (0, 4) by rw [← hq]; simp [declStep, declEnd])
          clear hq
          go_wp2_with (go_at_call 91; (with_reducible refine (fail_calls _ _ _ _).mono ?_); rintro e w' ⟨hgu, rfl⟩; unfold gaveUp at hgu; subst hgu)
          refine ⟨rfl, ?_⟩
          rw [HO.out]
          exact ⟨rfl, j2, (by repeat (first | (with_reducible exact HMu2.out) | (with_reducible apply Moved.drewN) | (with_reducible apply Moved.drew)))⟩
        | true =>
          by_cases p_n2 : 0 < n2
          · have y_n2 := eq_true (show (0 : Int) < (n2 : Int) by omega)
            have HNg3 := Aside0.mk (fun W hat => HN.out sSta W j2 hj2 hat)
            cases hx3 : nextB s j2 sSta with
            | false =>
              rw [hx3] at HNg3
              go_wp2_with fail
              refine (HNg3.out _ (Moved.me (w := w) (by repeat (first | (with_reducible exact HMu2.out) | (with_reducible apply Moved.drewN) | (with_reducible apply Moved.drew))))).mono ?_
              rintro e wx3 ⟨rfl, ⟨nx3, rfl⟩⟩
              clear HNg3
              have HNf := Aside0.mk (fun W hat => HN.out sQE W j2 hj2 hat)
              cases hz : nextB s j2 sQE with
              | false =>
                rw [hz] at HNf
                go_wp2_with fail
                refine (HNf.out _ (Moved.me (w := w) (by repeat (first | (with_reducible exact HMu2.out) | (with_reducible apply Moved.drewN) | (with_reducible apply Moved.drew))))).mono ?_
                rintro e wz ⟨rfl, ⟨nz, rfl⟩⟩
                have HO := Aside0.mk (show q = .error (0, 4) by rw [← hq]; simp [declStep, declEnd, p_n2, hx3, hz])
                clear hq
                go_wp2_with (go_at_call 91; (with_reducible refine (fail_calls _ _ _ _).mono ?_); rintro e w' ⟨hgu, rfl⟩; unfold gaveUp at hgu; subst hgu)
                refine ⟨rfl, ?_⟩
                rw [HO.out]
                exact ⟨rfl, j2, (by repeat (first | (with_reducible exact HMu2.out) | (with_reducible apply Moved.drewN) | (with_reducible apply Moved.drew)))⟩
              | true =>
                rw [hz] at HNf
                have hle := nextB_le hz hj2
                have HO := Aside0.mk (show q = .ok (j2 + 2) by rw [← hq]; simp [declStep, declEnd, p_n2, hx3, hz])
                clear hq
                obtain ⟨z, hzz⟩ : ∃ z, j2 + 2 = z := ⟨_, rfl⟩
                have ez : (j2 : Int) + 2 = (z : Int) := by omega
                have hz1 : sQE.size = 2 := rfl
                have hzs : z ≤ s.size := by omega
                have HZ := Aside0.mk hzz
                have d1 := HMu2.out.me.c1
                have d2 := HMu2.out.me.f0 1
                clear hz hzz hle hz1
                go_wp2_with fail
                refine (HNf.out _ (Moved.me (w := w) (by repeat (first | (with_reducible exact HMu2.out) | (with_reducible apply Moved.drewN) | (with_reducible apply Moved.drew))))).mono ?_
                rintro e wz ⟨rfl, ⟨nz, rfl⟩⟩
                go_wp2_with fail
                go_end0
                rw [HO.out, HZ.out]
                exact ⟨rfl, by repeat (first | (with_reducible exact HMu2.out) | (with_reducible apply Moved.drewN) | (with_reducible apply Moved.drew) | refine Moved.set (i := j2) ?_ (q := z) rfl)⟩
            | true =>
              rw [hx3] at HNg3
              obtain ⟨p, hp⟩ : ∃ p, settingS s j2 sSta false [sYes, sNo] = p := ⟨_, rfl⟩
              obtain ⟨ok3, i3⟩ := p
              have his := settingS_le (name := sSta) (fold := false) (vs := [sYes, sNo]) hj2
              rw [hp] at his
              obtain ⟨j3, hjj⟩ : ∃ j, skip blankB s i3 = j := ⟨_, rfl⟩
              have hjs := skip_le blankB s i3 his.2
              simp only at his hjs
              rw [hjj] at hjs
              obtain ⟨n3, hn⟩ : ∃ n, j3 - i3 = n := ⟨_, rfl⟩
              have hin : (j3 : Int) - (i3 : Int) = (n3 : Int) := by omega
              have st3 : declStep s (true, n2, j2) sSta false [sYes, sNo] = (ok3, n3, j3) := by simp [declStep, p_n2, hx3, hp, hjj, hn]
              have HP3 := Aside0.mk hp
              have HJ3 := Aside0.mk hjj
              have HIN3 := Aside0.mk hin
              have hi3 := his.2
              have hj3 := hjs.2
              rw [st3] at hq
              clear hp hjj hn hin his hjs st3 hx3
              go_wp2_with fail
              refine (HNg3.out _ (Moved.me (w := w) (by repeat (first | (with_reducible exact HMu2.out) | (with_reducible apply Moved.drewN) | (with_reducible apply Moved.drew))))).mono ?_
              rintro e wx3 ⟨rfl, ⟨nx3, rfl⟩⟩
              clear HNg3
              go_wp2_with fail
              refine (set_two (w := w) (k := j2) (by repeat (first | (with_reducible exact HMu2.out) | (with_reducible apply Moved.drewN) | (with_reducible apply Moved.drew))) hj2 hs HB.out hg HT.out sSta sYes sNo false (by decide)).mono ?_
              rintro e wy3 ⟨rfl, hmy⟩
              rw [HP3.out] at hmy ⊢
              simp only at hmy ⊢
              have HMy3 := Aside0.mk hmy
              clear hmy
              go_wp2_with fail
              refine (HBL.out _ i3 hi3 HMy3.out.me).mono ?_
              rintro e wu3 ⟨rfl, hmu⟩
              rw [HJ3.out] at hmu ⊢
              rw [HIN3.out]
              have HMu3 := Aside0.mk (HMy3.out.trans hmu)
              clear hmu
              cases ok3 with
              | false =>
                have HO := Aside0.mk (show q = .error (0, 4) by rw [← hq]; simp [declStep, declEnd])
                clear hq
                go_wp2_with (go_at_call 91; (with_reducible refine (fail_calls _ _ _ _).mono ?_); rintro e w' ⟨hgu, rfl⟩; unfold gaveUp at hgu; subst hgu)
                refine ⟨rfl, ?_⟩
                rw [HO.out]
                exact ⟨rfl, j3, (by repeat (first | (with_reducible exact HMu3.out) | (with_reducible apply Moved.drewN) | (with_reducible apply Moved.drew)))⟩
              | true =>
                have HNf := Aside0.mk (fun W hat => HN.out sQE W j3 hj3 hat)
                cases hz : nextB s j3 sQE with
                | false =>
                  rw [hz] at HNf
                  go_wp2_with fail
                  refine (HNf.out _ (Moved.me (w := w) (by repeat (first | (with_reducible exact HMu3.out) | (with_reducible apply Moved.drewN) | (with_reducible apply Moved.drew))))).mono ?_
                  rintro e wz ⟨rfl, ⟨nz, rfl⟩⟩
                  have HO := Aside0.mk (show q = .error (0, 4) by rw [← hq]; simp [declStep, declEnd, hz])
                  clear hq
                  go_wp2_with (go_at_call 91; (with_reducible refine (fail_calls _ _ _ _).mono ?_); rintro e w' ⟨hgu, rfl⟩; unfold gaveUp at hgu; subst hgu)
                  refine ⟨rfl, ?_⟩
                  rw [HO.out]
                  exact ⟨rfl, j3, (by repeat (first | (with_reducible exact HMu3.out) | (with_reducible apply Moved.drewN) | (with_reducible apply Moved.drew)))⟩
                | true =>
                  rw [hz] at HNf
                  have hle := nextB_le hz hj3
                  have HO := Aside0.mk (show q = .ok (j3 + 2) by rw [← hq]; simp [declStep, declEnd, hz])
                  clear hq
                  obtain ⟨z, hzz⟩ : ∃ z, j3 + 2 = z := ⟨_, rfl⟩
                  have ez : (j3 : Int) + 2 = (z : Int) := by omega
                  have hz1 : sQE.size = 2 := rfl
                  have hzs : z ≤ s.size := by omega
                  have HZ := Aside0.mk hzz
                  have d1 := HMu3.out.me.c1
                  have d2 := HMu3.out.me.f0 1
                  clear hz hzz hle hz1
                  go_wp2_with fail
                  refine (HNf.out _ (Moved.me (w := w) (by repeat (first | (with_reducible exact HMu3.out) | (with_reducible apply Moved.drewN) | (with_reducible apply Moved.drew))))).mono ?_
                  rintro e wz ⟨rfl, ⟨nz, rfl⟩⟩
                  go_wp2_with fail
                  go_end0
                  rw [HO.out, HZ.out]
                  exact ⟨rfl, by repeat (first | (with_reducible exact HMu3.out) | (with_reducible apply Moved.drewN) | (with_reducible apply Moved.drew) | refine Moved.set (i := j3) ?_ (q := z) rfl)⟩
          · have z_n2 := p_n2
            have y_n2 := eq_false (show ¬ (0 : Int) < (n2 : Int) by omega)
            have HNf := Aside0.mk (fun W hat => HN.out sQE W j2 hj2 hat)
            cases hz : nextB s j2 sQE with
            | false =>
              rw [hz] at HNf
              go_wp2_with fail
              refine (HNf.out _ (Moved.me (w := w) (by repeat (first | (with_reducible exact HMu2.out) | (with_reducible apply Moved.drewN) | (with_reducible apply Moved.drew))))).mono ?_
              rintro e wz ⟨rfl, ⟨nz, rfl⟩⟩
              have HO := Aside0.mk (show q = .error (0, 4) by rw [← hq]; simp [declStep, declEnd, z_n2, hz])
              clear hq
              go_wp2_with (go_at_call 91; (with_reducible refine (fail_calls _ _ _ _).mono ?_); rintro e w' ⟨hgu, rfl⟩; unfold gaveUp at hgu; subst hgu)
              refine ⟨rfl, ?_⟩
              rw [HO.out]
              exact ⟨rfl, j2, (by repeat (first | (with_reducible exact HMu2.out) | (with_reducible apply Moved.drewN) | (with_reducible apply Moved.drew)))⟩
            | true =>
              rw [hz] at HNf
              have hle := nextB_le hz hj2
              have HO := Aside0.mk (show q = .ok (j2 + 2) by rw [← hq]; simp [declStep, declEnd, z_n2, hz])
              clear hq
              obtain ⟨z, hzz⟩ : ∃ z, j2 + 2 = z := ⟨_, rfl⟩
              have ez : (j2 : Int) + 2 = (z : Int) := by omega
              have hz1 : sQE.size = 2 := rfl
              have hzs : z ≤ s.size := by omega
              have HZ := Aside0.mk hzz
              have d1 := HMu2.out.me.c1
              have d2 := HMu2.out.me.f0 1
              clear hz hzz hle hz1
              go_wp2_with fail
              refine (HNf.out _ (Moved.me (w := w) (by repeat (first | (with_reducible exact HMu2.out) | (with_reducible apply Moved.drewN) | (with_reducible apply Moved.drew))))).mono ?_
              rintro e wz ⟨rfl, ⟨nz, rfl⟩⟩
              go_wp2_with fail
              go_end0
              rw [HO.out, HZ.out]
              exact ⟨rfl, by repeat (first | (with_reducible exact HMu2.out) | (with_reducible apply Moved.drewN) | (with_reducible apply Moved.drew) | refine Moved.set (i := j2) ?_ (q := z) rfl)⟩
    · have z_n1 := p_n1
      have y_n1 := eq_false (show ¬ (0 : Int) < (n1 : Int) by omega)
      have HNf := Aside0.mk (fun W hat => HN.out sQE W j1 hj1 hat)
      cases hz : nextB s j1 sQE with
      | false =>
        rw [hz] at HNf
        go_wp2_with fail
        refine (HNf.out _ (Moved.me (w := w) (by repeat (first | (with_reducible exact HM3.out) | (with_reducible apply Moved.drewN) | (with_reducible apply Moved.drew))))).mono ?_
        rintro e wz ⟨rfl, ⟨nz, rfl⟩⟩
        have HO := Aside0.mk (show q = .error (0, 4) by rw [← hq]; simp [declStep, declEnd, z_n1, hz])
        clear hq
        go_wp2_with (go_at_call 91; (with_reducible refine (fail_calls _ _ _ _).mono ?_); rintro e w' ⟨hgu, rfl⟩; unfold gaveUp at hgu; subst hgu)
        refine ⟨rfl, ?_⟩
        rw [HO.out]
        exact ⟨rfl, j1, (by repeat (first | (with_reducible exact HM3.out) | (with_reducible apply Moved.drewN) | (with_reducible apply Moved.drew)))⟩
      | true =>
        rw [hz] at HNf
        have hle := nextB_le hz hj1
        have HO := Aside0.mk (show q = .ok (j1 + 2) by rw [← hq]; simp [declStep, declEnd, z_n1, hz])
        clear hq
        obtain ⟨z, hzz⟩ : ∃ z, j1 + 2 = z := ⟨_, rfl⟩
        have ez : (j1 : Int) + 2 = (z : Int) := by omega
        have hz1 : sQE.size = 2 := rfl
        have hzs : z ≤ s.size := by omega
        have HZ := Aside0.mk hzz
        have d1 := HM3.out.me.c1
        have d2 := HM3.out.me.f0 1
        clear hz hzz hle hz1
        go_wp2_with fail
        refine (HNf.out _ (Moved.me (w := w) (by repeat (first | (with_reducible exact HM3.out) | (with_reducible apply Moved.drewN) | (with_reducible apply Moved.drew))))).mono ?_
        rintro e wz ⟨rfl, ⟨nz, rfl⟩⟩
        go_wp2_with fail
        go_end0
        rw [HO.out, HZ.out]
        exact ⟨rfl, by repeat (first | (with_reducible exact HM3.out) | (with_reducible apply Moved.drewN) | (with_reducible apply Moved.drew) | refine Moved.set (i := j1) ?_ (q := z) rfl)⟩
end Go.Proofs.YtffpbhbiamkkpaaDoor.Lx
