/- pidf.Print: a presence's bytes, or why there are none. -/
import Derived.Test.YtidkjifilgjgfaaDoorPdN
import Derived.Test.YtidkjifilgjgfaaDoorPPrint
import Derived.Test.YtidkjifilgjgfaaDoorMx10
namespace Go.Proofs.YtidkjifilgjgfaaDoor.Pd
open Go Go.RowKit Go.Proofs.YtidkjifilgjgfaaDoorW.PrintWords Go.Proofs.YtidkjifilgjgfaaDoorW.PrintLast Go.Proofs.YtidkjifilgjgfaaDoorW.PrintMore
open Go.Proofs.YtidkjifilgjgfaaDoor.ND (Nm At Nd kNm kAt kNd yk3 yj7 yl5 zNd zNm)
set_option linter.unusedVariables false
/-- What Print comes to. -/
def pidP (e : ByteArray) (ts : List Tu) (ms : List ByteArray) (rs : List Bool) (nb : Bool) : ByteArray × Int :=
  if (encP e ts ms rs nb).2 = 0 then (⟨(Prt.printN (encP e ts ms rs nb).1).1.toArray⟩, (Prt.printN (encP e ts ms rs nb).1).2) else (⟨#[]⟩, (encP e ts ms rs nb).2)
set_option maxHeartbeats 4000000 in
set_option maxRecDepth 100000 in
theorem ym6 (e : ByteArray) (ts : List Tu) (ms : List ByteArray) (rs : List Bool) (nb : Bool) (A B : Option Addr) (c d : Nat) (w : World) (hC : kTu.C w A ts.length ts) (hD : Kd.string.C w B ms.length ms) (lD : ms.length ≤ d) (hT : Refs.Tens w)
    (hlen : rs.length = ts.length) (hrs : ∀ (j : Nat) x r, ts[j]? = some x → rs[j]? = some r → MayIs x r) (htold : ∀ x ∈ ts, MayIs x true → Told x) (hl : ts.length ≤ 1000000) (hid : ∀ x ∈ ts, x.f0.size ≤ 140737488351232) (hnb : yt3 ms nb) (hnl : nb = true → ms.length ≤ 4)
    (hwt : (encP e ts ms rs nb).2 = 0 → Prt.wt (encP e ts ms rs nb).1 ≤ 2000000) :
    Calls Tryd.prog 12 #[.agg (pc e (.slice A ts.length c) (.slice B ms.length d))] w fun ex w' => ex = .returned (.tuple #[.string (pidP e ts ms rs nb).1, .int .i64 (pidP e ts ms rs nb).2]) ∧ Bw w w' := by
  have HE := Aside0.mk (fun W (h : Bw w W) => Encode_calls e ts ms rs nb A B c d W (Kd.yc4 hC h) (Kd.yc4 hD h) lD (Refs.yf2 hT h) hlen hrs htold hl hid hnb hnl)
  have HTN := Aside0.mk hT
  unfold pidP
  obtain ⟨⟨n, er⟩, hp⟩ : ∃ p, p = encP e ts ms rs nb := ⟨_, rfl⟩
  rw [← hp] at hwt ⊢
  simp only [← hp] at HE
  obtain ⟨n0, ⟨n1, n2⟩, n3, n4, n5⟩ := n
  dsimp only at HE hwt ⊢
  have HWT := Aside0.mk hwt
  clear hC hD hT hlen hrs htold hl hid hnb hnl lD hwt hp
  by_cases h0 : er = 0
  · subst h0
    rw [if_pos rfl]
    have hwt := HWT.out rfl
    obtain ⟨r, hr⟩ : ∃ r, r = Prt.printN ⟨n0, ⟨n1, n2⟩, n3, n4, n5⟩ := ⟨_, rfl⟩
    rw [← hr]
    have HPR := Aside0.mk (fun W (hT : Refs.Tens W) A3 A4 c3 c4 h3 l3 h4 l4 => Prt.ym6 ⟨n0, ⟨n1, n2⟩, n3, n4, n5⟩ W hwt hT A3 A4 c3 c4 h3 l3 h4 l4)
    simp only [← hr] at HPR
    clear hwt HWT hr
    go_enter Tryd.func12, Tryd.ntmps12
    go_wp2_with (first | (go_at_call 18; (refine (HE.out _ ((Bw.refl w).alloc _)).mono ?_); rintro e9 w1 ⟨v3, v4, rfl, hR3, hR4, hb1⟩; obtain ⟨A3, c3, rfl, l3, hC3⟩ := Kd.yj0 hR3; obtain ⟨A4, c4, rfl, l4, hC4⟩ := Kd.yj0 hR4; clear hR3 hR4) | (go_at_call 19; (refine (HPR.out _ ?_ _ _ _ _ ?_ l3 ?_ l4).mono ?_); (exact Refs.yf2 HTN.out ((((Bw.refl w).alloc _).trans hb1).alloc _)); (exact Kd.yd2 hC3 _); (exact Kd.yd2 hC4 _); rintro e8 w2 ⟨rfl, hb2⟩))
    go_ret2
    exact ⟨rfl, ((((Bw.refl w).alloc _).trans hb1).alloc _).trans hb2⟩
  · rw [if_neg h0]
    have q0 : (er != 0) = true := by simpa using h0
    have q1 := eq_false h0
    clear HWT h0
    go_enter Tryd.func12, Tryd.ntmps12
    go_wp2_with ((go_at_call 18; (refine (HE.out _ ((Bw.refl w).alloc _)).mono ?_); rintro e9 w1 ⟨v3, v4, rfl, hR3, hR4, hb1⟩; obtain ⟨A3, c3, rfl, l3, hC3⟩ := Kd.yj0 hR3; obtain ⟨A4, c4, rfl, l4, hC4⟩ := Kd.yj0 hR4; clear hR3 hR4))
    go_ret2
    exact ⟨rfl, (((Bw.refl w).alloc _).trans hb1).alloc _⟩
end Go.Proofs.YtidkjifilgjgfaaDoor.Pd
namespace Go.Proofs.YtidkjifilgjgfaaDoor.Pd
open Go Go.RowKit Go.Proofs.YtidkjifilgjgfaaDoorW.PrintWords Go.Proofs.YtidkjifilgjgfaaDoorW.PrintLast Go.Proofs.YtidkjifilgjgfaaDoorW.PrintMore
open Go.Proofs.YtidkjifilgjgfaaDoor.ND (Nm At Nd kNm kAt kNd yk3 yj7 yl5 zNd zNm)
set_option linter.unusedVariables false
/-- What pidf.Print is told with: may each tuple be told, may the notes; sizes. -/
structure PidOK (e : ByteArray) (ts : List Tu) (ms : List ByteArray) (rs : List Bool) (nb : Bool) : Prop where
  len : rs.length = ts.length
  may : ∀ (j : Nat) x r, ts[j]? = some x → rs[j]? = some r → MayIs x r
  told : ∀ x ∈ ts, MayIs x true → Told x
  few : ts.length ≤ 1000000
  id : ∀ x ∈ ts, x.f0.size ≤ 140737488351232
  noted : yt3 ms nb
  notes : nb = true → ms.length ≤ 4
  wt : (encP e ts ms rs nb).2 = 0 → Prt.wt (encP e ts ms rs nb).1 ≤ 2000000
open Classical in
noncomputable def pidF (e : ByteArray) (ts : List Tu) (ms : List ByteArray) : Option (ByteArray × Int) :=
  if h : ∃ rs nb, PidOK e ts ms rs nb then some (pidP e ts ms h.choose h.choose_spec.choose) else none
theorem pidF_calls (e : ByteArray) (ts : List Tu) (ms : List ByteArray) (r : ByteArray × Int) (h : pidF e ts ms = some r) (A B : Option Addr) (c d : Nat) (w : World) (hC : kTu.C w A ts.length ts) (hD : Kd.string.C w B ms.length ms) (lD : ms.length ≤ d) (hT : MT w) :
    Calls Tryd.prog 12 #[.agg (pc e (.slice A ts.length c) (.slice B ms.length d))] w fun ex w' => ex = .returned (.tuple #[.string r.1, .int .i64 r.2]) ∧ Bw w w' := by
  unfold pidF at h
  split at h
  · rename_i hx
    have hk := hx.choose_spec.choose_spec
    obtain rfl := Option.some.inj h
    exact ym6 e ts ms _ _ A B c d w hC hD lD hT hk.len hk.may hk.told hk.few hk.id hk.noted hk.notes hk.wt
  · cases h
theorem pidF_some (e : ByteArray) (ts : List Tu) (ms : List ByteArray) (h : ∃ rs nb, PidOK e ts ms rs nb) : ∃ r, pidF e ts ms = some r := by
  unfold pidF
  rw [dif_pos h]
  exact ⟨_, rfl⟩
theorem box5 {W : World} {g : Nat} {t : TypeId} {v0 v1 v2 v3 v4 : Value} (h : W.heap[g]? = some (.cells #[v0, v1, v2, v3, v4] t (0, 0))) : W.cell? ⟨g, 0, none⟩ = some v0 ∧ W.cell? ⟨g, 1, none⟩ = some v1 ∧ W.cell? ⟨g, 2, none⟩ = some v2 ∧ W.cell? ⟨g, 3, none⟩ = some v3 ∧ W.cell? ⟨g, 4, none⟩ = some v4 := by
  refine ⟨?_, ?_, ?_, ?_, ?_⟩ <;> (rw [Lib.cell_of_heap h]; rfl)
theorem box3' {W : World} {g : Nat} {t : TypeId} {v0 v1 v2 : Value} (h : W.heap[g]? = some (.cells #[v0, v1, v2] t (0, 0))) : W.cell? ⟨g, 0, none⟩ = some v0 ∧ W.cell? ⟨g, 1, none⟩ = some v1 ∧ W.cell? ⟨g, 2, none⟩ = some v2 := box3 h
/-- Tuples read by another text's kind. -/
theorem C_map {α β : Type} {d : Kd α} {d' : Kd β} (f : α → β) (hs : d'.sz = d.sz) (h : ∀ w x cs, d.K w x cs → d'.K w (f x) cs) {w : World} {A : Option Addr} {n : Nat} {xs : List α} (hC : d.C w A n xs) : d'.C w A n (xs.map f) := by
  refine ⟨by rw [List.length_map]; exact hC.1, hC.2.1, fun hn => ?_⟩
  obtain ⟨ad, e, hc⟩ := hC.2.2 hn
  refine ⟨ad, e, fun j p hj => ?_⟩
  rw [List.getElem?_map] at hj
  obtain ⟨x, hx, rfl⟩ := Option.map_eq_some_iff.1 hj
  obtain ⟨c, h1, h2, h3⟩ := hc j x hx
  exact ⟨c, by rw [hs]; exact h1, h w x c h2, fun i u hu => by rw [hs]; exact h3 i u hu⟩
end Go.Proofs.YtidkjifilgjgfaaDoor.Pd
