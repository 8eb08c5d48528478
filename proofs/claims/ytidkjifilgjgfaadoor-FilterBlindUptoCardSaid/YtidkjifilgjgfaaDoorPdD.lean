/- pidf.distinct: have no two tuples one id? -/
import Derived.Test.YtidkjifilgjgfaaDoorBwR
import Derived.Test.YtidkjifilgjgfaaDoorTu
import Derived.Test.YtidkjifilgjgfaaDoorMx10
import Derived.Test.YtidkjifilgjgfaaDoorRgtA
import Derived.Deep.LoopGhost
import Derived.IntWalk
namespace Go.Proofs.YtidkjifilgjgfaaDoor.Pd
open Go Go.RowKit Go.Proofs.YtidkjifilgjgfaaDoorW.PrintWords Go.Proofs.YtidkjifilgjgfaaDoorW.PrintLast Go.Proofs.YtidkjifilgjgfaaDoorW.PrintMore Go.Maps
set_option linter.unusedVariables false
def MSB (mb n : Nat) (D : DataW Unit) (w : World) : Prop := w.ownsMap Tryd.prog 9 (plainElem Tryd.prog 4) mb n D
theorem keyedStr : Keyed Tryd.prog 9 := Maps.string_keyed Tryd.underlying9
theorem MSB.below {mb n : Nat} {D : DataW Unit} {w w' : World} (h : MSB mb n D w) (hb : Bw w w') : MSB mb n D w' := by
  obtain ⟨es, clock, hk, r⟩ := h
  exact ⟨es, clock, hb.block hk, r⟩
theorem MSB.put {mb n : Nat} {D : DataW Unit} {w : World} (h : MSB mb n D w) (hn : n < maxLen) (k : ByteArray) (hk : k.size ≤ maxLen) (c : Bool) :
    ∃ w', (Instr.mapUpdate 82 (.map (some mb)) (.string k) (.bool c)).run Tryd.prog w = .ok () w' ∧ MSB mb (n + 1) (D.put (.string k.data.toList) (.lit (.bool c))) w' ∧ w.grownBy w' (some mb) :=
  World.ownsMap.update h keyedStr Tryd.underlying82 hn (Go.WideMaps.keyOf_string_mk Tryd.underlying9 hk) (plainElem_bool Tryd.underlying4 c)
theorem MSB.look {mb n : Nat} {D : DataW Unit} {w : World} (h : MSB mb n D w) (k : ByteArray) (hk : k.size ≤ maxLen) (c : Bool) (hc : D.atKey (.string k.data.toList) (.lit (.bool false)) = .lit (.bool c)) :
    (Instr.lookup 82 (.map (some mb)) (.string k) false).run Tryd.prog w = .ok (.bool c) w :=
  Mp.look_bool h keyedStr Tryd.underlying82 Tryd.underlying4 (Tryd.zeroValue4 _) (Go.WideMaps.keyOf_string_mk Tryd.underlying9 hk) c hc
/-- How a map of texts that have been seen reads. -/
def SeenS (seen : List (List UInt8)) (D : DataW Unit) : Prop := IsMap D ∧ ∀ x : List UInt8, D.atKey (.string x) (.lit (.bool false)) = .lit (.bool (decide (x ∈ seen)))
theorem SeenS.base : SeenS [] (.map []) := ⟨isMap_empty, fun x => by simp; rfl⟩
theorem SeenS.put {seen : List (List UInt8)} {D : DataW Unit} (h : SeenS seen D) (y : List UInt8) : SeenS (seen ++ [y]) (D.put (.string y) (.lit (.bool true))) := by
  refine ⟨h.1.put _ _, fun x => ?_⟩
  by_cases e : x = y
  · subst e
    rw [atKey_put_same h.1 (show WideAt.IsKeyLit (.string x) from trivial)]
    simp
  · rw [atKey_put_other (fun k => e (by injection k)), h.2 x]
    simp [e]
def dstF : List (List UInt8) → List Tu → Bool
  | _, [] => true
  | seen, x :: r => !decide (x.f0.data.toList ∈ seen) && dstF (seen ++ [x.f0.data.toList]) r
def idL (x : Tu) : List UInt8 := x.f0.data.toList
theorem dstF_step (l : List Tu) (j : Nat) (x : Tu) (h : l[j]? = some x) : dstF ((l.take j).map idL) (l.drop j) = (!decide (idL x ∈ (l.take j).map idL) && dstF ((l.take (j + 1)).map idL) (l.drop (j + 1))) := by
  obtain ⟨h1, h2⟩ := List.getElem?_eq_some_iff.1 h
  rw [List.drop_eq_getElem_cons h1, h2, List.take_add_one, h, List.map_append]
  rfl
set_option maxHeartbeats 4000000 in
set_option maxRecDepth 100000 in
theorem distinct_calls (A0 : Option Addr) (c0 : Nat) (l : List Tu) (w : World) (hC : kTu.C w A0 l.length l) (hl : l.length ≤ 1000000) (hs : ∀ x ∈ l, x.f0.size ≤ 140737488351232) :
    Calls Tryd.prog 25 #[.slice A0 l.length c0] w fun e w' => e = .returned (.bool (dstF [] l)) ∧ Bw w w' := by
  have HC := Aside0.mk hC
  have HS := Aside0.mk hs
  have hmm := @run_makeMap Tryd.prog
  obtain ⟨R, hR⟩ : ∃ R, R = dstF [] l := ⟨_, rfl⟩
  rw [← hR]
  have HR := Aside0.mk hR
  have M0 := Aside0.mk (show MSB w.heap.size 0 (.map []) (w.alloc (.map #[] 0)) from World.ownsMap_made w Tryd.prog 9 (plainElem Tryd.prog 4))
  have HB0 := Aside0.mk ((Bw.refl w).alloc (.map #[] 0))
  have HLL := Aside0.mk hl
  clear hC hs hR hl
  go_enter Tryd.func25, Tryd.ntmps25
  go_wp2_with fail
  go_loopg [9] l.length (fun m v9 wr => ∃ j : Nat, v9 = .int .i64 (j : Int) ∧ j ≤ l.length ∧ Aside0 (m = l.length - j) ∧ ∃ D, Aside0 (MSB w.heap.size j D wr ∧ SeenS ((l.take j).map idL) D ∧ Bw w wr ∧ dstF ((l.take j).map idL) (l.drop j) = R))
  case atStart => exact ⟨0, rfl, Nat.zero_le _, ⟨rfl⟩, _, ⟨M0.out, SeenS.base, HB0.out, HR.out.symm⟩⟩
  case round =>
    obtain ⟨j, rfl, hj, HM, D, HI⟩ := hrel
    by_cases hlt : j < l.length
    · obtain ⟨hm, hsr, hb, hres⟩ := HI.out
      obtain ⟨ad, A5, c5, eA, k0, k1, k2, k3, k4, k5, k6, l5, g5⟩ := atTu (Kd.yc4 HC.out hb) (j : Int) (by omega) (by omega)
      subst eA
      obtain ⟨x, hx⟩ : ∃ x, l[j]? = some x := ⟨l[j], List.getElem?_eq_getElem hlt⟩
      have hd : rdTu l (j : Int) = x := by simp [rdTu, List.getD_eq_getElem?_getD, hx]
      rw [hd] at k0 k1 k2 k3 k4 k5 k6
      simp only [Int.toNat_natCast] at k0 k1 k2 k3 k4 k5 k6
      have s0 := HS.out x (List.mem_of_getElem? hx)
      obtain ⟨i, hi⟩ : ∃ i, i = j + 1 := ⟨_, rfl⟩
      have f1 : (j : Int) + 1 = (i : Int) := by omega
      have f2 : IntKind.i64.wrap (i : Int) = (i : Int) := IntWalk.i64_in _ (by have := HLL.out; omega)
      have q1 := eq_true (show (j : Int) < (l.length : Int) by omega)
      have q2 := eq_true (show (0 : Int) ≤ (j : Int) by omega)
      obtain ⟨cs, hcs⟩ : ∃ cs, cs = decide (idL x ∈ (l.take j).map idL) := ⟨_, rfl⟩
      have hst : (!cs && dstF ((l.take i).map idL) (l.drop i)) = R := by
        rw [← hres, dstF_step l j x hx, hcs, hi]
      have e1 : (l.take i).map idL = (l.take j).map idL ++ [idL x] := by rw [hi, List.take_add_one, hx, List.map_append]; rfl
      obtain ⟨wb, hwb⟩ : ∃ wb, wb = wr.alloc (.cells #[.string x.f0, .string x.f1, .string x.f2, .string x.f3, .int .i64 x.f4, .slice A5 (rdTu l (j : Int)).f5.length c5, .int .u64 x.f6] 38) := ⟨_, rfl⟩
      have hbw : Bw wr wb := by rw [hwb]; exact (Bw.refl _).alloc _
      rw [hd] at hwb
      have hlk := (hm.below hbw).look x.f0 (by unfold maxLen; omega) cs (by rw [hcs]; exact hsr.2 _)
      have HCS := Aside0.mk hcs
      have HE1 := Aside0.mk e1
      have HST := Aside0.mk hst
      have HI' := Aside0.mk hi
      have HBW := Aside0.mk hbw
      have HJ := Aside0.mk hlt
      clear hm hsr hb hres hi hst e1 hcs hx g5 l5 hd
      cases cs with
      | true =>
        have HRF := Aside0.mk (show R = false from HST.out.symm)
        rw [hwb] at hlk HBW
        clear hwb
        go_wp2_with fail
        go_ret
        rw [HRF.out]
        exact ⟨rfl, HI.out.2.2.1.trans HBW.out⟩
      | false =>
        have hRf : dstF ((l.take i).map idL) (l.drop i) = R := HST.out
        obtain ⟨w3, hr3, o3, g3⟩ := (HI.out.1.below HBW.out).put (by have := HLL.out; unfold maxLen; omega) x.f0 (by unfold maxLen; omega) true
        have HRF := Aside0.mk hRf
        have HO3 := Aside0.mk o3
        have HG3 := Aside0.mk g3
        rw [hwb] at hlk hr3 HBW HG3
        clear hwb hRf o3 g3
        go_wp2_with fail
        go_roundg (l.length - i)
        · refine ⟨i, rfl, by have := HI'.out; have := HJ.out; omega, ⟨rfl⟩, D.put (.string x.f0.data.toList) (.lit (.bool true)), ⟨?_, ?_, ?_, HRF.out⟩⟩
          · rw [HI'.out]; exact HO3.out
          · rw [HE1.out]; exact HI.out.2.1.put _
          · exact Below.grown (HI.out.2.2.1.trans HBW.out) HG3.out (HI.out.2.2.1.trans HBW.out).size (fun k hk => by cases hk; exact Nat.le_refl _)
        · have := HI'.out; have := HM.out; have := HJ.out; omega
    · have q1 := eq_false (show ¬ (j : Int) < (l.length : Int) by omega)
      obtain rfl : j = l.length := by omega
      have h := HI.out.2.2.2
      rw [List.drop_length] at h
      have HH := Aside0.mk (show true = R from h)
      clear h hlt hj
      go_wp2_with fail
      go_ret
      rw [← HH.out]
      exact ⟨rfl, HI.out.2.2.1⟩
end Go.Proofs.YtidkjifilgjgfaaDoor.Pd
