/- pidf: a tuple that may be told; slices.ContainsFunc over tuples. -/
import Derived.Test.YtidkjifilgjgfaaDoorMx13
import Derived.Deep.LoopGhost
import Derived.Deep.QuietTactic
import Derived.Deep.RegionWith
import Derived.IntWalk
namespace Go.Proofs.YtidkjifilgjgfaaDoor.Pd
open Go Go.RowKit Go.Proofs.YtidkjifilgjgfaaDoorW.PrintWords Go.Proofs.YtidkjifilgjgfaaDoorW.PrintLast Go.Proofs.YtidkjifilgjgfaaDoorW.PrintMore
set_option linter.unusedVariables false
/-- May a tuple be told? (the printed function, at a number of rounds that serves) -/
def MayIs (x : Tu) (r : Bool) : Prop := ∃ k, PL.yk6.f k x.f0 x.f1 x.f2 x.f3 x.f4 x.f5 x.f6 = some r
set_option maxHeartbeats 1000000 in
set_option maxRecDepth 100000 in
theorem bad_calls (x : Tu) (r : Bool) (A5 : Option Addr) (c5 : Nat) (w : World) (h5 : Kd.string.C w A5 x.f5.length x.f5) (l5 : x.f5.length ≤ c5) (hm : MayIs x r) :
    Calls Tryd.prog 22 #[.agg #[.string x.f0, .string x.f1, .string x.f2, .string x.f3, .int .i64 x.f4, .slice A5 x.f5.length c5, .int .u64 x.f6]] w fun e w' => e = .returned (.bool (!r)) ∧ Bw w w' := by
  obtain ⟨k, hk⟩ := hm
  have HC := Aside0.mk (fun W (h : Kd.string.C W A5 x.f5.length x.f5) => PL.yk6.calls k x.f0 x.f1 x.f2 x.f3 x.f4 A5 c5 x.f5 x.f6 r W h l5 hk)
  have H5 := Aside0.mk h5
  clear hk h5 l5
  go_enter Tryd.func22, Tryd.ntmps22
  go_wp2_with (go_at_call 23; (refine (HC.out _ ?_).mono ?_); (exact Kd.yc4 H5.out (Bw.alloc (Bw.refl _) _)); rintro e w1 ⟨rfl, hb1⟩)
  go_ret
  exact ⟨rfl, (Bw.alloc (Bw.refl _) _).trans hb1⟩
/-- Is there one among the tuples from place i on that may not be told? -/
def badS : List Bool → Nat → Int
  | [], _ => -1
  | r :: l, i => if r = false then (i : Int) else badS l (i + 1)
theorem badS_cons (r : Bool) (l : List Bool) (i : Nat) : badS (r :: l) i = if r = false then (i : Int) else badS l (i + 1) := rfl
set_option maxHeartbeats 2000000 in
set_option maxRecDepth 100000 in
theorem index_calls (l : List Tu) (rs : List Bool) (hlen : rs.length = l.length) (hrs : ∀ (j : Nat) x r, l[j]? = some x → rs[j]? = some r → MayIs x r) (hl : l.length ≤ 1000000) (A : Option Addr) (c : Nat) (w : World) (hC : kTu.C w A l.length l) :
    Calls Tryd.prog 36 #[.slice A l.length c, .func (.func 22) #[] #[]] w fun e w' => e = .returned (.int .i64 (badS rs 0)) ∧ Bw w w' := by
  have HC := Aside0.mk hC
  have HRS := Aside0.mk hrs
  have HLE := Aside0.mk hlen
  have HL := Aside0.mk hl
  clear hC hrs hlen hl
  go_enter Tryd.func36, Tryd.ntmps36
  go_wp2_with fail
  go_loopg [8] l.length (fun m v wr => ∃ j : Nat, v = .int .i64 (j : Int) ∧ j ≤ l.length ∧ Aside0 (m = l.length - j) ∧ Aside0 (Bw w wr) ∧ Aside0 (badS (rs.drop j) j = badS rs 0))
  case atStart => exact ⟨0, rfl, Nat.zero_le _, ⟨rfl⟩, ⟨Bw.refl _⟩, ⟨rfl⟩⟩
  case round =>
    obtain ⟨j, rfl, hj, HMe, HB, HQ⟩ := hrel
    by_cases hlt : j < l.length
    · obtain ⟨ad, A5, c5, eA, k0, k1, k2, k3, k4, k5, k6, l5, g5⟩ := atTu (Kd.yc4 HC.out HB.out) (j : Int) (by omega) (by omega)
      subst eA
      have hd : rdTu l (j : Int) = l[j] := by simp [rdTu, hlt]
      rw [hd] at k0 k1 k2 k3 k4 k5 k6 l5 g5
      simp only [Int.toNat_natCast] at k0 k1 k2 k3 k4 k5 k6
      obtain ⟨x, hx⟩ : ∃ x, x = l[j] := ⟨_, rfl⟩
      rw [← hx] at k0 k1 k2 k3 k4 k5 k6 l5 g5
      obtain ⟨r, hr⟩ : ∃ r, rs[j]? = some r := ⟨rs[j]'(by have := HLE.out; omega), List.getElem?_eq_getElem _⟩
      have hm := HRS.out j x r (by rw [hx]; exact List.getElem?_eq_getElem hlt) hr
      obtain ⟨x0, x1, x2, x3, x4, x5, x6⟩ := x
      dsimp only at k0 k1 k2 k3 k4 k5 k6 l5 g5
      have HBC := Aside0.mk (bad_calls _ r A5 c5 wr g5 l5 hm)
      dsimp only at HBC
      have hdr : rs.drop j = r :: rs.drop (j + 1) := by
        rw [List.getElem?_eq_some_iff] at hr
        obtain ⟨h1, h2⟩ := hr
        rw [List.drop_eq_getElem_cons h1, h2]
      have u1 := eq_true (show (j : Int) < (l.length : Int) by omega)
      have u2 := eq_true (show (0 : Int) ≤ (j : Int) by omega)
      obtain ⟨z, hz⟩ : ∃ z, z = j + 1 := ⟨_, rfl⟩
      have f1 : (j : Int) + 1 = (z : Int) := by omega
      have f2 : IntKind.i64.wrap (z : Int) = (z : Int) := IntWalk.i64_in _ (by have := HL.out; omega)
      have hQ := HQ.out
      rw [hdr, badS_cons, ← hz] at hQ
      have HZJ := Aside0.mk hz
      have hz' := Aside0.mk hz
      have HLT := Aside0.mk hlt
      clear hz hlt hdr hm hr hx hd g5 l5 hj
      cases r with
      | false =>
        have HQ2 := Aside0.mk (show badS rs 0 = (j : Int) by rw [← hQ, if_pos rfl])
        clear hQ
        go_wp2_with (go_at_call 22; (refine HBC.out.mono ?_); rintro e w1 ⟨rfl, hb1⟩)
        go_ret
        exact ⟨by rw [HQ2.out]; rfl, HB.out.trans hb1⟩
      | true =>
        have HQ2 := Aside0.mk (show badS (rs.drop z) z = badS rs 0 by rw [← hQ, if_neg (by decide), hz'.out])
        clear hQ
        go_wp2_with (go_at_call 22; (refine HBC.out.mono ?_); rintro e w1 ⟨rfl, hb1⟩)
        go_roundg (l.length - z)
        · exact ⟨z, rfl, by have := HZJ.out; have := HLT.out; omega, ⟨rfl⟩, ⟨HB.out.trans hb1⟩, HQ2⟩
        · have h1 := HMe.out; have h2 := HZJ.out; have h3 := HLT.out; omega
    · have u1 := eq_false (show ¬ (j : Int) < (l.length : Int) by omega)
      obtain rfl : j = l.length := by omega
      have h := HQ.out
      rw [List.drop_of_length_le (by have := HLE.out; omega)] at h
      have HH := Aside0.mk h
      clear h hlt hj
      go_wp2_with fail
      go_ret
      exact ⟨by rw [← HH.out]; rfl, HB.out⟩
theorem badS_iff : ∀ (rs : List Bool) (i : Nat), (badS rs i ≥ 0 ↔ rs.all (· = true) = false)
  | [], i => by simp [badS]
  | r :: l, i => by
    unfold badS
    cases r with
    | false => simp
    | true =>
      rw [if_neg (by decide), badS_iff l (i + 1)]
      simp
set_option maxHeartbeats 1000000 in
set_option maxRecDepth 100000 in
theorem contains_calls (l : List Tu) (rs : List Bool) (hlen : rs.length = l.length) (hrs : ∀ (j : Nat) x r, l[j]? = some x → rs[j]? = some r → MayIs x r) (hl : l.length ≤ 1000000) (A : Option Addr) (c : Nat) (w : World) (hC : kTu.C w A l.length l) :
    Calls Tryd.prog 21 #[.slice A l.length c, .func (.func 22) #[] #[]] w fun e w' => e = .returned (.bool (!rs.all (· = true))) ∧ Bw w w' := by
  have HI := Aside0.mk (index_calls l rs hlen hrs hl A c w hC)
  have hq := badS_iff rs 0
  obtain ⟨q, hqe⟩ : ∃ q, q = badS rs 0 := ⟨_, rfl⟩
  rw [← hqe] at HI hq
  have hres : decide (q ≥ 0) = !rs.all (· = true) := by
    cases h : rs.all (· = true) with
    | true => rw [h] at hq; simp at hq; simp; omega
    | false => rw [h] at hq; simp at hq; simp; omega
  have HR := Aside0.mk hres
  clear hq hqe hres hC hrs
  go_enter Tryd.func21, Tryd.ntmps21
  go_wp2_with (go_at_call 36; (refine HI.out.mono ?_); rintro e w1 ⟨rfl, hb1⟩)
  go_ret
  exact ⟨by rw [← HR.out]; rfl, hb1⟩
end Go.Proofs.YtidkjifilgjgfaaDoor.Pd
