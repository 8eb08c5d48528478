/- tree.named and tree.attrs: may a name be an element's, are attributes right? -/
import Derived.Test.YtidkjifilgjgfaaDoorNam
import Derived.Test.YtidkjifilgjgfaaDoorMx10
import Derived.Carry
namespace Go.Proofs.YtidkjifilgjgfaaDoor.ND
open Go Go.RowKit Go.Proofs.YtidkjifilgjgfaaDoorW.PrintWords Go.Proofs.YtidkjifilgjgfaaDoorW.PrintLast Go.Proofs.YtidkjifilgjgfaaDoorW.PrintMore Go.Maps
open Go.Proofs.YtidkjifilgjgfaaDoor.PG (signsB nameB yj6 yo3)
set_option linter.unusedVariables false
def sXMLNS : List UInt8 := [104, 116, 116, 112, 58, 47, 47, 119, 119, 119, 46, 119, 51, 46, 111, 114, 103, 47, 50, 48, 48, 48, 47, 120, 109, 108, 110, 115, 47]
def namedB (n : Nm) : Bool := nameB n.f1 && signsB n.f0 && !(n.f0.toList == sXMLNS)
set_option maxHeartbeats 2000000 in
set_option maxRecDepth 100000 in
theorem named_calls (n : Nm) (w : World) (hs : n.f0.size ≤ 140737488351232) : Calls Tryd.prog 50 #[.agg #[.string n.f0, .string n.f1]] w fun e w' => e = .returned (.bool (namedB n)) ∧ Below w.heap.size w w' := by
  have hbx := fun (o : Obj) => (Below.refl w.heap.size w).alloc (Nat.le_refl _) o
  have HBX := Aside0.mk hbx
  have H1 := Aside0.mk (fun W => yo3 n.f1 W)
  have H2 := Aside0.mk (fun W => yj6 n.f0 W hs)
  have hk := fun (W : World) (hb : Below (w.alloc (.cells #[.string n.f0, .string n.f1] 50)).heap.size (w.alloc (.cells #[.string n.f0, .string n.f1] 50)) W) => (show W.heap[w.heap.size]? = some (.cells #[.string n.f0, .string n.f1] 50 (0, 0)) from (hb.block w.heap.size (by simp)).trans (heap_alloc_last w _))
  have HK := Aside0.mk hk
  clear hbx hk
  cases h1 : nameB n.f1 with
  | false =>
    have e : namedB n = false := by unfold namedB; rw [h1]; rfl
    rw [e]
    simp only [h1] at H1
    clear h1 e
    go_enter Tryd.func50, Tryd.ntmps50
    go_wp2_with fail
    refine (H1.out _).mono ?_
    rintro e w1 ⟨rfl, hb1⟩
    have HB1 := Aside0.mk hb1
    clear hb1
    go_wp2_with fail
    go_ret
    exact ⟨rfl, (HBX.out _).trans (HB1.out.mono (HBX.out _).size)⟩
  | true =>
    cases h2 : signsB n.f0 with
    | false =>
      have e : namedB n = false := by unfold namedB; rw [h1, h2]; rfl
      rw [e]
      simp only [h1] at H1
      simp only [h2] at H2
      clear h1 h2 e
      go_enter Tryd.func50, Tryd.ntmps50
      go_wp2_with fail
      refine (H1.out _).mono ?_
      rintro e w1 ⟨rfl, hb1⟩
      have g0 : w1.cell? ⟨w.heap.size, 0, none⟩ = some (.string n.f0) := by rw [Lib.cell_of_heap (HK.out _ hb1)]; rfl
      have HB1 := Aside0.mk hb1
      clear hb1
      go_wp2_with fail
      refine (H2.out _).mono ?_
      rintro e w2 ⟨rfl, hb2⟩
      have HB2 := Aside0.mk hb2
      clear hb2
      go_wp2_with fail
      go_ret
      exact ⟨rfl, (HBX.out _).trans ((HB1.out.trans (HB2.out.mono HB1.out.size)).mono (HBX.out _).size)⟩
    | true =>
      obtain ⟨b, hb⟩ : ∃ b, (n.f0.toList == sXMLNS) = b := ⟨_, rfl⟩
      have e : namedB n = !b := by unfold namedB; rw [h1, h2, hb]; rfl
      rw [e]
      simp only [h1] at H1
      simp only [h2] at H2
      unfold sXMLNS at hb
      clear h1 h2 e
      go_enter Tryd.func50, Tryd.ntmps50
      go_wp2_with fail
      refine (H1.out _).mono ?_
      rintro e w1 ⟨rfl, hb1⟩
      have g0 : w1.cell? ⟨w.heap.size, 0, none⟩ = some (.string n.f0) := by rw [Lib.cell_of_heap (HK.out _ hb1)]; rfl
      have HB1 := Aside0.mk hb1
      clear hb1
      go_wp2_with fail
      refine (H2.out _).mono ?_
      rintro e w2 ⟨rfl, hb2⟩
      have g1 : w2.cell? ⟨w.heap.size, 0, none⟩ = some (.string n.f0) := by rw [Lib.cell_of_heap (HK.out _ (HB1.out.trans (hb2.mono HB1.out.size)))]; rfl
      have HB2 := Aside0.mk hb2
      clear hb2
      go_wp2_with fail
      go_ret
      exact ⟨rfl, (HBX.out _).trans ((HB1.out.trans (HB2.out.mono HB1.out.size)).mono (HBX.out _).size)⟩
def keyA (a : At) : List UInt8 × List UInt8 := (a.f0.f0.data.toList, a.f0.f1.data.toList)
def yo6 (n : Nm) : Bool := n.f0.toList == [] && n.f1.toList == [120, 109, 108, 110, 115]
def okA (seen : List (List UInt8 × List UInt8)) (a : At) : Bool := namedB a.f0 && (signsB a.f1 && (!yo6 a.f0 && !decide (keyA a ∈ seen)))
def attrsF : List (List UInt8 × List UInt8) → List At → Bool
  | _, [] => true
  | seen, a :: r => okA seen a && attrsF (seen ++ [keyA a]) r
def attrsB (l : List At) : Bool := attrsF [] l && decide (l.length ≤ 32)
def MB (mb n : Nat) (D : DataW Unit) (w : World) : Prop := w.ownsMap Tryd.prog 50 (plainElem Tryd.prog 4) mb n D
theorem MB.below {mb n : Nat} {D : DataW Unit} {w w' : World} (h : MB mb n D w) (hb : Below w.heap.size w w') : MB mb n D w' := by
  obtain ⟨es, clock, hk, r⟩ := h
  exact ⟨es, clock, (hb.block mb (blk_lt hk)).trans hk, r⟩
theorem MB.put {mb n : Nat} {D : DataW Unit} {w : World} (h : MB mb n D w) (hn : n < maxLen) (x : Nm) (h0 : x.f0.size ≤ maxLen) (h1 : x.f1.size ≤ maxLen) (c : Bool) :
    ∃ w', (Instr.mapUpdate 116 (.map (some mb)) (valN x) (.bool c)).run Tryd.prog w = .ok () w' ∧ MB mb (n + 1) (D.put (klN x) (.lit (.bool c))) w' ∧ w.grownBy w' (some mb) :=
  World.ownsMap.update h keyedN Tryd.underlying116 hn (keyN x h0 h1) (plainElem_bool Tryd.underlying4 c)
theorem MB.look {mb n : Nat} {D : DataW Unit} {w : World} (h : MB mb n D w) (x : Nm) (h0 : x.f0.size ≤ maxLen) (h1 : x.f1.size ≤ maxLen) (c : Bool) (hc : D.atKey (klN x) (.lit (.bool false)) = .lit (.bool c)) :
    (Instr.lookup 116 (.map (some mb)) (valN x) false).run Tryd.prog w = .ok (.bool c) w :=
  Mp.look_bool h keyedN Tryd.underlying116 Tryd.underlying4 (Tryd.zeroValue4 _) (keyN x h0 h1) c hc
/-- How a map of names that have been seen reads. -/
def SeenR (seen : List (List UInt8 × List UInt8)) (D : DataW Unit) : Prop := IsMap D ∧ ∀ x : Nm, x.f0.size ≤ maxLen → x.f1.size ≤ maxLen → D.atKey (klN x) (.lit (.bool false)) = .lit (.bool (decide ((x.f0.data.toList, x.f1.data.toList) ∈ seen)))
theorem SeenR.base : SeenR [] (.map []) := ⟨isMap_empty, fun x _ _ => by simp; rfl⟩
theorem klN_key (x : Nm) : WideAt.IsKeyLit (klN x) := trivial
theorem SeenR.put {seen : List (List UInt8 × List UInt8)} {D : DataW Unit} (h : SeenR seen D) (y : Nm) (h0 : y.f0.size ≤ maxLen) (h1 : y.f1.size ≤ maxLen) : SeenR (seen ++ [(y.f0.data.toList, y.f1.data.toList)]) (D.put (klN y) (.lit (.bool true))) := by
  refine ⟨h.1.put _ _, fun x k0 k1 => ?_⟩
  by_cases e : klN x = klN y
  · obtain ⟨e1, e2⟩ := klN_inj x y ⟨k0, k1⟩ ⟨h0, h1⟩ e
    rw [e, atKey_put_same h.1 (klN_key y), e1, e2]
    simp
  · rw [atKey_put_other e, h.2 x k0 k1]
    have hne : (x.f0.data.toList, x.f1.data.toList) ≠ (y.f0.data.toList, y.f1.data.toList) := fun k => e (by unfold klN; injection k with k1 k2; rw [k1, k2])
    simp [hne]
theorem attrsF_step (l : List At) (j : Nat) (h : j < l.length) : attrsF ((l.take j).map keyA) (l.drop j) = (okA ((l.take j).map keyA) l[j] && attrsF ((l.take (j + 1)).map keyA) (l.drop (j + 1))) := by
  rw [List.drop_eq_getElem_cons h, List.take_add_one, List.getElem?_eq_getElem h, List.map_append]
  rfl
set_option maxHeartbeats 4000000 in
set_option maxRecDepth 100000 in
theorem yj9 (A0 : Option Addr) (c0 : Nat) (l : List At) (w : World) (hC : kAt.C w A0 l.length l) (hc : l.length ≤ c0) (hl : l.length ≤ 20000000) (hs : ∀ a ∈ l, a.f0.f0.size ≤ 140737488351232 ∧ a.f0.f1.size ≤ 140737488351232 ∧ a.f1.size ≤ 140737488351232) :
    Calls Tryd.prog 51 #[.slice A0 l.length c0] w fun e w' => e = .returned (.bool (attrsB l)) ∧ Below w.heap.size w w' := by
  have HC := Aside0.mk hC
  have HS := Aside0.mk hs
  have hmm := @run_makeMap Tryd.prog
  obtain ⟨R, hR⟩ : ∃ R, R = attrsF [] l := ⟨_, rfl⟩
  have e : attrsB l = (R && decide (l.length ≤ 32)) := by rw [hR]; rfl
  rw [e]
  have HR := Aside0.mk hR
  have m0 : MB w.heap.size 0 (.map []) (w.alloc (.map #[] 0)) := World.ownsMap_made w Tryd.prog 50 (plainElem Tryd.prog 4)
  have M0 := Aside0.mk m0
  have hb0 : Below w.heap.size w (w.alloc (.map #[] 0)) := (Below.refl _ _).alloc (Nat.le_refl _) _
  have HB0 := Aside0.mk hb0
  clear hC hs hR e m0 hb0
  go_enter Tryd.func51, Tryd.ntmps51
  go_wp2_with fail
  go_loopg [9] l.length (fun m v9 wr => ∃ j : Nat, v9 = .int .i64 (j : Int) ∧ j ≤ l.length ∧ Aside0 (m = l.length - j) ∧ ∃ D, Aside0 (MB w.heap.size j D wr ∧ SeenR ((l.take j).map keyA) D ∧ Below w.heap.size w wr ∧ attrsF ((l.take j).map keyA) (l.drop j) = R))
  case atStart => exact ⟨0, rfl, Nat.zero_le _, ⟨rfl⟩, _, ⟨M0.out, SeenR.base, HB0.out, HR.out.symm⟩⟩
  case round =>
    obtain ⟨j, rfl, hj, HM, D, HI⟩ := hrel
    by_cases hlt : j < l.length
    · obtain ⟨hm, hsr, hb, hres⟩ := HI.out
      obtain ⟨ad, eA, k0, k1, k2⟩ := atAt HC.out (j : Int) (by omega) (by omega)
      have q1 := eq_true (show (j : Int) < (l.length : Int) by omega)
      have q2 := eq_true (show (0 : Int) ≤ (j : Int) by omega)
      obtain ⟨a, ha⟩ : ∃ a, a = rdAt l (j : Int) := ⟨_, rfl⟩
      rw [← ha] at k0 k1 k2
      simp only [Int.toNat_natCast] at k0 k1 k2
      have k0 := yd3 hb k0
      have k1 := yd3 hb k1
      have k2 := yd3 hb k2
      have hda : a = l[j] := by rw [ha]; simp [rdAt, hlt]
      obtain ⟨s0, s1, s2⟩ := HS.out a (by rw [hda]; exact List.getElem_mem _)
      clear ha
      subst eA
      obtain ⟨i, hi⟩ : ∃ i, i = j + 1 := ⟨_, rfl⟩
      have f1 : (j : Int) + 1 = (i : Int) := by omega
      have f2 : IntKind.i64.wrap (i : Int) = (i : Int) := IntWalk.i64_in _ (by omega)
      have hst : (okA ((l.take j).map keyA) a && attrsF ((l.take i).map keyA) (l.drop i)) = R := by
        rw [← hres, attrsF_step l j hlt, hda, hi]
      have e1 : (l.take i).map keyA = (l.take j).map keyA ++ [keyA a] := by rw [hi, List.take_add_one, List.getElem?_eq_getElem hlt, hda, List.map_append]; rfl
      have HST := Aside0.mk hst
      have HE1 := Aside0.mk e1
      have HI' := Aside0.mk hi
      have HN := Aside0.mk (fun W => named_calls a.f0 W s0)
      have HG := Aside0.mk (fun W => yj6 a.f1 W s2)
      have hA1 : Below wr.heap.size wr (wr.alloc (.cells #[.string a.f0.f0, .string a.f0.f1, .string a.f1] 84)) := (Below.refl _ _).alloc (Nat.le_refl _) _
      have HA1 := Aside0.mk hA1
      clear hm hsr hb hres hda hi hst e1 hA1
      cases hn : namedB a.f0 with
      | false =>
        have hRf : R = false := by rw [← HST.out]; unfold okA; rw [hn]; rfl
        simp only [hn] at HN
        have HRF := Aside0.mk hRf
        clear hn hRf
        go_wp2_with fail
        refine (HN.out _).mono ?_
        rintro e w1 ⟨rfl, hb1⟩
        have HB1 := Aside0.mk hb1
        clear hb1
        go_wp2_with fail
        go_ret
        rw [HRF.out]
        exact ⟨rfl, HI.out.2.2.1.trans ((HA1.out.trans (HB1.out.mono HA1.out.size)).mono HI.out.2.2.1.size)⟩
      | true =>
        simp only [hn] at HN
        have hblk := heap_alloc_last wr (.cells #[.string a.f0.f0, .string a.f0.f1, .string a.f1] 84)
        have HBL := Aside0.mk hblk
        clear hblk
        cases hg : signsB a.f1 with
        | false =>
          have hRf : R = false := by rw [← HST.out]; unfold okA; rw [hn, hg]; rfl
          simp only [hg] at HG
          have HRF := Aside0.mk hRf
          clear hn hg hRf
          go_wp2_with fail
          refine (HN.out _).mono ?_
          rintro e w1 ⟨rfl, hb1⟩
          have hk1 := (hb1.block wr.heap.size (by simp)).trans HBL.out
          have g2 : w1.cell? ⟨wr.heap.size, 2, none⟩ = some (.string a.f1) := by rw [Lib.cell_of_heap hk1]; rfl
          have HB1 := Aside0.mk hb1
          clear hb1 hk1
          go_wp2_with fail
          refine (HG.out _).mono ?_
          rintro e w2 ⟨rfl, hb2⟩
          have HB2 := Aside0.mk hb2
          clear hb2
          go_wp2_with fail
          go_ret
          rw [HRF.out]
          exact ⟨rfl, HI.out.2.2.1.trans ((HA1.out.trans ((HB1.out.trans (HB2.out.mono HB1.out.size)).mono HA1.out.size)).mono HI.out.2.2.1.size)⟩
        | true =>
          simp only [hg] at HG
          go_wp2_with fail
          refine (HN.out _).mono ?_
          rintro e w1 ⟨rfl, hb1⟩
          have hk1 := (hb1.block wr.heap.size (by simp)).trans HBL.out
          have g2 : w1.cell? ⟨wr.heap.size, 2, none⟩ = some (.string a.f1) := by rw [Lib.cell_of_heap hk1]; rfl
          have HB1 := Aside0.mk hb1
          have HK1 := Aside0.mk hk1
          clear hb1 hk1
          go_wp2_with fail
          refine (HG.out _).mono ?_
          rintro e w2 ⟨rfl, hb2⟩
          have hk2 := (hb2.block wr.heap.size (blk_lt HK1.out)).trans HK1.out
          have g0 : w2.cell? ⟨wr.heap.size, 0, none⟩ = some (.string a.f0.f0) := by rw [Lib.cell_of_heap hk2]; rfl
          have g1 : w2.cell? ⟨wr.heap.size, 1, none⟩ = some (.string a.f0.f1) := by rw [Lib.cell_of_heap hk2]; rfl
          have HB2 := Aside0.mk hb2
          clear hb2 hk2 g2
          have hb4 : Below wr.heap.size wr w2 := HA1.out.trans ((HB1.out.trans (HB2.out.mono HB1.out.size)).mono HA1.out.size)
          have HB4 := Aside0.mk hb4
          obtain ⟨cs, hcs⟩ : ∃ cs, cs = decide (keyA a ∈ (l.take j).map keyA) := ⟨_, rfl⟩
          have hlk := (HI.out.1.below hb4).look a.f0 (by unfold maxLen; omega) (by unfold maxLen; omega) cs (by rw [hcs]; exact HI.out.2.1.2 a.f0 (by unfold maxLen; omega) (by unfold maxLen; omega))
          unfold valN at hlk
          have HCS := Aside0.mk hcs
          clear hcs hb4
          by_cases p1 : a.f0.f0.toList = []
          · by_cases p2 : a.f0.f1.toList = [120, 109, 108, 110, 115]
            · have hRf : R = false := by rw [← HST.out]; unfold okA yo6; rw [hn, hg, p1, p2]; rfl
              have HRF := Aside0.mk hRf
              clear hn hg hRf hlk
              go_wp2_with fail
              go_ret
              rw [HRF.out]
              exact ⟨rfl, HI.out.2.2.1.trans (HB4.out.mono HI.out.2.2.1.size)⟩
            · have hx : yo6 a.f0 = false := by unfold yo6; rw [p1]; simpa using p2
              have q3 := eq_true p1
              have q4 := eq_false p2
              clear p1 p2
              cases cs with
              | true =>
                have hRf : R = false := by
                  rw [← HST.out]
                  unfold okA
                  rw [hn, hg, hx, ← HCS.out]
                  rfl
                have HRF := Aside0.mk hRf
                clear hn hg hRf
                go_wp2_with fail
                go_ret
                rw [HRF.out]
                exact ⟨rfl, HI.out.2.2.1.trans (HB4.out.mono HI.out.2.2.1.size)⟩
              | false =>
                have hRf : attrsF ((l.take i).map keyA) (l.drop i) = R := by
                  rw [← HST.out]
                  unfold okA
                  rw [hn, hg, hx, ← HCS.out]
                  rfl
                obtain ⟨w3, hr3, o3, g3⟩ := (HI.out.1.below HB4.out).put (by unfold maxLen; omega) a.f0 (by unfold maxLen; omega) (by unfold maxLen; omega) true
                unfold valN at hr3
                have HRF := Aside0.mk hRf
                have HO3 := Aside0.mk o3
                have HG3 := Aside0.mk g3
                clear hn hg hx hRf o3 g3
                go_wp2_with fail
                go_roundg (l.length - i)
                · refine ⟨i, rfl, by have := HI'.out; omega, ⟨rfl⟩, D.put (klN a.f0) (.lit (.bool true)), ⟨?_, ?_, ?_, HRF.out⟩⟩
                  · rw [HI'.out]; exact HO3.out
                  · rw [HE1.out]; exact HI.out.2.1.put a.f0 (by unfold maxLen; omega) (by unfold maxLen; omega)
                  · exact (HI.out.2.2.1.trans (HB4.out.mono HI.out.2.2.1.size)).grown HG3.out (Nat.le_trans HI.out.2.2.1.size HB4.out.size) (fun k hk => by cases hk; exact Nat.le_refl _)
                · have := HI'.out; have := HM.out; omega
          · have hx : yo6 a.f0 = false := by
              have : (a.f0.f0.toList == ([] : List UInt8)) = false := by simpa using p1
              unfold yo6
              rw [this]
              rfl
            have q3 := eq_false p1
            clear p1
            cases cs with
            | true =>
              have hRf : R = false := by
                rw [← HST.out]
                unfold okA
                rw [hn, hg, hx, ← HCS.out]
                rfl
              have HRF := Aside0.mk hRf
              clear hn hg hRf
              go_wp2_with fail
              go_ret
              rw [HRF.out]
              exact ⟨rfl, HI.out.2.2.1.trans (HB4.out.mono HI.out.2.2.1.size)⟩
            | false =>
              have hRf : attrsF ((l.take i).map keyA) (l.drop i) = R := by
                rw [← HST.out]
                unfold okA
                rw [hn, hg, hx, ← HCS.out]
                rfl
              obtain ⟨w3, hr3, o3, g3⟩ := (HI.out.1.below HB4.out).put (by unfold maxLen; omega) a.f0 (by unfold maxLen; omega) (by unfold maxLen; omega) true
              unfold valN at hr3
              have HRF := Aside0.mk hRf
              have HO3 := Aside0.mk o3
              have HG3 := Aside0.mk g3
              clear hn hg hx hRf o3 g3
              go_wp2_with fail
              go_roundg (l.length - i)
              · refine ⟨i, rfl, by have := HI'.out; omega, ⟨rfl⟩, D.put (klN a.f0) (.lit (.bool true)), ⟨?_, ?_, ?_, HRF.out⟩⟩
                · rw [HI'.out]; exact HO3.out
                · rw [HE1.out]; exact HI.out.2.1.put a.f0 (by unfold maxLen; omega) (by unfold maxLen; omega)
                · exact (HI.out.2.2.1.trans (HB4.out.mono HI.out.2.2.1.size)).grown HG3.out (Nat.le_trans HI.out.2.2.1.size HB4.out.size) (fun k hk => by cases hk; exact Nat.le_refl _)
              · have := HI'.out; have := HM.out; omega
    · have q1 := eq_false (show ¬ (j : Int) < (l.length : Int) by omega)
      obtain rfl : j = l.length := by omega
      have hR : R = true := by
        rw [← HI.out.2.2.2, List.drop_length]
        rfl
      have HRF := Aside0.mk hR
      clear hR
      go_wp2_with fail
      go_ret
      rw [HRF.out]
      have e5 : (decide ((l.length : Int) ≤ 32)) = decide (l.length ≤ 32) := by congr 1; exact propext ⟨fun h => by omega, fun h => by omega⟩
      exact ⟨by simp only [Bool.true_and, ← e5]; rfl, HI.out.2.2.1⟩
end Go.Proofs.YtidkjifilgjgfaaDoor.ND
