/- api.Name, api.Attr and api.Node as Lean data, and how they lie in memory. -/
import Derived.Test.YtidkjifilgjgfaaDoorProg
import Derived.Test.YtidkjifilgjgfaaDoorWWords
import Derived.Test.YtidkjifilgjgfaaDoorWLast
import Derived.Test.YtidkjifilgjgfaaDoorMx9
import Derived.WalkKit
import Derived.WalkSpells
import Derived.KernelRfl
namespace Go.Proofs.YtidkjifilgjgfaaDoor.ND
open Go.RowKit Go.Proofs.YtidkjifilgjgfaaDoorW.PrintWords Go.Proofs.YtidkjifilgjgfaaDoorW.PrintLast Go.Proofs.YtidkjifilgjgfaaDoorW.PrintMore
set_option linter.unusedVariables false

structure Nm where
  f0 : ByteArray
  f1 : ByteArray
def zNm : Nm := ⟨(⟨#[]⟩ : ByteArray), (⟨#[]⟩ : ByteArray)⟩
def kNm : Kd Nm := Kd.iso (Kd.pair Kd.string Kd.string) (fun x : Nm => (x.f0, x.f1))
theorem kNm_open {w : World} {x : Nm} {cs : List Value} (h : kNm.K w x cs) : cs = [.string x.f0, .string x.f1] := by
  obtain ⟨_, _, rfl, rfl, rfl⟩ := h
  exact rfl
theorem kNm_openM {w : World} {base : Nat} {ok : Nat → Prop} {x : Nm} {cs : List Value} (h : kNm.M w base ok x cs) : cs = [.string x.f0, .string x.f1] := by
  obtain ⟨_, _, rfl, rfl, rfl⟩ := h
  exact rfl
theorem kNm_mkM (w : World) (base : Nat) (ok : Nat → Prop) (x : Nm)  : kNm.M w base ok x [.string x.f0, .string x.f1] := ⟨[.string x.f0], [.string x.f1], rfl, rfl, rfl⟩
structure At where
  f0 : Nm
  f1 : ByteArray
def zAt : At := ⟨zNm, (⟨#[]⟩ : ByteArray)⟩
def kAt : Kd At := Kd.iso (Kd.pair kNm Kd.string) (fun x : At => (x.f0, x.f1))
theorem kAt_open {w : World} {x : At} {cs : List Value} (h : kAt.K w x cs) : cs = [.string x.f0.f0, .string x.f0.f1, .string x.f1] := by
  obtain ⟨_, _, rfl, s0, rfl⟩ := h
  obtain rfl := kNm_open s0
  exact rfl
theorem kAt_openM {w : World} {base : Nat} {ok : Nat → Prop} {x : At} {cs : List Value} (h : kAt.M w base ok x cs) : cs = [.string x.f0.f0, .string x.f0.f1, .string x.f1] := by
  obtain ⟨_, _, rfl, s0, rfl⟩ := h
  obtain rfl := kNm_openM s0
  exact rfl
theorem yl5 (w : World) (base : Nat) (ok : Nat → Prop) (x : At)  : kAt.M w base ok x [.string x.f0.f0, .string x.f0.f1, .string x.f1] := ⟨[.string x.f0.f0, .string x.f0.f1], [.string x.f1], rfl, (kNm_mkM w base ok x.f0 ), rfl⟩
def rdAt (xs : List At) (i : Int) : At := xs.getD i.toNat zAt
theorem atAt {w : World} {A : Option Addr} {n : Nat} {xs : List At} (h : Kd.C kAt w A n xs) (i : Int) (h0 : 0 ≤ i) (h1 : i < n) : ∃ ad , A = some ad ∧ w.cell? (ad.add (i.toNat * 3)) = some (.string (rdAt xs i).f0.f0) ∧ w.cell? ⟨(ad.add (i.toNat * 3)).block, (ad.add (i.toNat * 3)).off + 1, none⟩ = some (.string (rdAt xs i).f0.f1) ∧ w.cell? ⟨(ad.add (i.toNat * 3)).block, (ad.add (i.toNat * 3)).off + 2, none⟩ = some (.string (rdAt xs i).f1) := by
  obtain ⟨ad, c, e, _, hK, hc0⟩ := Kd.C_get h zAt i h0 h1
  have hc : ∀ j u, c[j]? = some u → w.cell? (ad.add (i.toNat * 3 + j)) = some u := hc0
  obtain rfl := kAt_open hK
  exact ⟨ad, e, hc 0 _ rfl, by rw [← ye4 _ _ 1 (by omega)]; exact hc 1 _ rfl, by rw [← ye4 _ _ 2 (by omega)]; exact hc 2 _ rfl⟩

structure Nd where
  f0 : Int
  f1 : Nm
  f2 : (List At)
  f3 : (List Nd)
  f4 : ByteArray
def zNd : Nd := ⟨(0 : Int), zNm, ([] : List At), ([] : List Nd), (⟨#[]⟩ : ByteArray)⟩
def FNd (d : Kd Nd) : Kd Nd := Kd.iso (Kd.pair (Kd.int .i64) (Kd.pair kNm (Kd.pair (Kd.slice 84 kAt) (Kd.pair (Kd.slice 54 d) Kd.string)))) (fun x : Nd => (x.f0, x.f1, x.f2, x.f3, x.f4))
theorem monoNd : Kd.Mono FNd := Kd.mono_iso _ (Kd.yn5 (Kd.ym0 _) (Kd.yn5 (Kd.ym0 _) (Kd.yn5 (Kd.ym0 _) (Kd.yn5 (Kd.mono_slice 54 Kd.mono_id) (Kd.ym0 _)))))
theorem subNd : Kd.Sub FNd [84, 54] := Kd.sub_iso _ (Kd.yp6 (Kd.yn0 _ (by decide)) (Kd.yp6 (Kd.yn0 _ (by decide)) (Kd.yp6 (Kd.yn0 _ (by decide)) (Kd.yp6 (Kd.sub_slice 54 (by decide) Kd.sub_id) (Kd.yn0 _ (by decide))))))
theorem szNd : ∀ n, (Kd.upto FNd 6 [84, 54] n).sz = 6 := Kd.upto_sz (fun _ => rfl)
def kNd : Kd Nd := Kd.fix FNd 6 [84, 54] szNd (Kd.upto_E subNd)
theorem kNd_open {w : World} {x : Nd} {cs : List Value} (h : kNd.K w x cs) : ∃ A3 c3 A4 c4, cs = [.int .i64 x.f0, .string x.f1.f0, .string x.f1.f1, .slice A3 x.f2.length c3, .slice A4 x.f3.length c4, .string x.f4] ∧ x.f2.length ≤ c3 ∧ kAt.C w A3 x.f2.length x.f2 ∧ x.f3.length ≤ c4 ∧ kNd.C w A4 x.f3.length x.f3 := by
  obtain ⟨n, h⟩ := h
  cases n with
  | zero => exact h.elim
  | succ n =>
    obtain ⟨_, _, rfl, rfl, ⟨_, _, rfl, s1, ⟨_, _, rfl, ⟨A3, c3, rfl, l3, g3⟩, ⟨_, _, rfl, ⟨A4, c4, rfl, l4, g4⟩, rfl⟩⟩⟩⟩ := h
    obtain rfl := kNm_open s1
    exact ⟨A3, c3, A4, c4, rfl, l3, g3, l4, Kd.fix_C g4⟩
theorem yk3 {w : World} {base : Nat} {ok : Nat → Prop} {x : Nd} {cs : List Value} (h : kNd.M w base ok x cs) : ∃ v3 v4, cs = [.int .i64 x.f0, .string x.f1.f0, .string x.f1.f1, v3, v4, .string x.f4] ∧ kAt.R 84 w base ok v3 x.f2 ∧ kNd.R 54 w base ok v4 x.f3 := by
  obtain ⟨n, h⟩ := h
  cases n with
  | zero => exact h.elim
  | succ n =>
    obtain ⟨_, _, rfl, rfl, ⟨_, _, rfl, s1, ⟨_, _, rfl, ⟨v3, rfl, g3⟩, ⟨_, _, rfl, ⟨v4, rfl, g4⟩, rfl⟩⟩⟩⟩ := h
    obtain rfl := kNm_openM s1
    exact ⟨v3, v4, rfl, g3, Kd.fix_R g4⟩
theorem yj7 (w : World) (base : Nat) (ok : Nat → Prop) (x : Nd) {v3 : Value} (g3 : kAt.R 84 w base ok v3 x.f2) {v4 : Value} (g4 : kNd.R 54 w base ok v4 x.f3) : kNd.M w base ok x [.int .i64 x.f0, .string x.f1.f0, .string x.f1.f1, v3, v4, .string x.f4] := by
  obtain ⟨n4, q4⟩ := Kd.fix_R_back monoNd g4
  have r4 := Kd.upto_R_le monoNd szNd (show n4 ≤ n4 by omega) q4
  exact ⟨n4 + 1, ⟨[.int .i64 x.f0], [.string x.f1.f0, .string x.f1.f1, v3, v4, .string x.f4], rfl, rfl, ⟨[.string x.f1.f0, .string x.f1.f1], [v3, v4, .string x.f4], rfl, (kNm_mkM w base ok x.f1 ), ⟨[v3], [v4, .string x.f4], rfl, ⟨v3, rfl, g3⟩, ⟨[v4], [.string x.f4], rfl, ⟨v4, rfl, r4⟩, rfl⟩⟩⟩⟩⟩
def rdNd (xs : List Nd) (i : Int) : Nd := xs.getD i.toNat zNd
theorem atNd {w : World} {A : Option Addr} {n : Nat} {xs : List Nd} (h : Kd.C kNd w A n xs) (i : Int) (h0 : 0 ≤ i) (h1 : i < n) : ∃ ad A3 c3 A4 c4, A = some ad ∧ w.cell? (ad.add (i.toNat * 6)) = some (.int .i64 (rdNd xs i).f0) ∧ w.cell? ⟨(ad.add (i.toNat * 6)).block, (ad.add (i.toNat * 6)).off + 1, none⟩ = some (.string (rdNd xs i).f1.f0) ∧ w.cell? ⟨(ad.add (i.toNat * 6)).block, (ad.add (i.toNat * 6)).off + 2, none⟩ = some (.string (rdNd xs i).f1.f1) ∧ w.cell? ⟨(ad.add (i.toNat * 6)).block, (ad.add (i.toNat * 6)).off + 3, none⟩ = some (.slice A3 (rdNd xs i).f2.length c3) ∧ w.cell? ⟨(ad.add (i.toNat * 6)).block, (ad.add (i.toNat * 6)).off + 4, none⟩ = some (.slice A4 (rdNd xs i).f3.length c4) ∧ w.cell? ⟨(ad.add (i.toNat * 6)).block, (ad.add (i.toNat * 6)).off + 5, none⟩ = some (.string (rdNd xs i).f4) ∧ (rdNd xs i).f2.length ≤ c3 ∧ kAt.C w A3 (rdNd xs i).f2.length (rdNd xs i).f2 ∧ (rdNd xs i).f3.length ≤ c4 ∧ kNd.C w A4 (rdNd xs i).f3.length (rdNd xs i).f3 := by
  obtain ⟨ad, c, e, _, hK, hc0⟩ := Kd.C_get h zNd i h0 h1
  have hc : ∀ j u, c[j]? = some u → w.cell? (ad.add (i.toNat * 6 + j)) = some u := hc0
  obtain ⟨A3, c3, A4, c4, rfl, l3, g3, l4, g4⟩ := kNd_open hK
  exact ⟨ad, A3, c3, A4, c4, e, hc 0 _ rfl, by rw [← ye4 _ _ 1 (by omega)]; exact hc 1 _ rfl, by rw [← ye4 _ _ 2 (by omega)]; exact hc 2 _ rfl, by rw [← ye4 _ _ 3 (by omega)]; exact hc 3 _ rfl, by rw [← ye4 _ _ 4 (by omega)]; exact hc 4 _ rfl, by rw [← ye4 _ _ 5 (by omega)]; exact hc 5 _ rfl, l3, g3, l4, g4⟩

end Go.Proofs.YtidkjifilgjgfaaDoor.ND
namespace Go.Proofs.YtidkjifilgjgfaaDoor.ND
open Go.RowKit Go.Proofs.YtidkjifilgjgfaaDoorW.PrintWords Go.Proofs.YtidkjifilgjgfaaDoorW.PrintLast Go.Proofs.YtidkjifilgjgfaaDoorW.PrintMore
set_option linter.unusedVariables false
theorem infoAt : (Tryd.prog.info? 84).map (fun i => (i.zero, i.size, i.bytes)) = some (some (.agg #[.string ⟨#[]⟩, .string ⟨#[]⟩, .string ⟨#[]⟩]), 3, 48) := by kernel_rfl
theorem reads_imp {α : Type} {R R' : α → List Value → Prop} {size : Nat} {w : World} {A : Option Addr} {n : Nat} {ps : List α} (h : yf4 R size w A n ps) (hR : ∀ x cs, R x cs → R' x cs) : yf4 R' size w A n ps :=
  ⟨h.1, h.2.1, fun hn => let ⟨ad, e, hc⟩ := h.2.2 hn; ⟨ad, e, fun j p hj => let ⟨c, a1, a2, a3⟩ := hc j p hj; ⟨c, a1, hR _ _ a2, a3⟩⟩⟩
theorem kAt_KM {w w' : World} {base : Nat} {ok : Nat → Prop} {x : At} {cs : List Value} (h : kAt.K w x cs) : kAt.M w' base ok x cs := by
  obtain rfl := kAt_open h
  exact yl5 _ _ _ _
set_option maxHeartbeats 800000 in
set_option maxRecDepth 100000 in
theorem cloneAt (A0 : Option Addr) (c0 : Nat) (l0 : List At) (w : World) (hr0 : kAt.C w A0 l0.length l0) (hc0 : l0.length ≤ c0) (hl : l0.length ≤ 2932031007402) :
    Calls Tryd.prog 65 #[.slice A0 l0.length c0] w fun e w' => ∃ v0_ : Value, e = .returned (v0_) ∧ kAt.R 84 w' w.heap.size (fun _ => True) v0_ l0 ∧ Below w.heap.size w w' := by
  have HL := Aside0.mk hl
  clear hl
  have HR := Aside0.mk hr0
  have HC := Aside0.mk hc0
  clear hr0 hc0
  cases A0 with
  | none =>
    have hz : l0 = [] := by
      have := HR.out.2.2
      cases l0 with
      | nil => rfl
      | cons a l => obtain ⟨ad, e, _⟩ := this (by simp); cases e
    subst hz
    have hq := fun (ww : World) => Lib.run_eql_slice_nil (P := Tryd.prog) ww 51 84 none 0 c0 0 0 Tryd.underlying51
    go_enter Tryd.func65, Tryd.ntmps65
    go_wp2
    go_ret
    exact ⟨_, rfl, Kd.R_nil _ _ _ _ _, Below.refl _ _⟩
  | some ad =>
    have hq := fun (ww : World) => Lib.run_eql_slice_nil (P := Tryd.prog) ww 51 84 (some ad) l0.length c0 0 0 Tryd.underlying51
    go_enter Tryd.func65, Tryd.ntmps65
    go_wp2_with (first | ((with_reducible refine yc1 (N := 5) rfl ?_); refine Kd.R_lit kAt w.heap.size 84 ?hg (N := 5) ?hd (xs := ([] : List At)) (inner := []) (ok := fun _ => True) (okp := fun _ => True) ?hr (Reps.none _ _) (fun _ hk => hk) trivial (Below.refl _ _) (Nat.le_refl _) (by simp) ?_; (case hd => rfl); (case hg => rfl); (case hr => first | (go_simp; done) | (go_simp; rfl)); intro v1 w1 ho1 hb1 hg1 hn1; have HO := Aside0.mk ho1; have HB := Aside0.mk hb1; clear ho1 hb1 hg1 hn1) | (at_builtin; refine Kd.yl0 kAt (w0 := w) w.heap.size rfl (.tmp 5) (.tmp 6) 51 84 (.agg #[.string ⟨#[]⟩, .string ⟨#[]⟩, .string ⟨#[]⟩]) 48 rfl Tryd.underlying51 infoAt rfl (by decide) (by omega) v1 ([] : List At) l0 (some ad) l0.length c0 (fun _ => True) (fun _ => False) rfl rfl HO.out ?aR (fun _ _ h => h) (fun _ h => h.elim) (fun _ _ => trivial) HB.out HB.out.size ?aL ?_; (case aR => exact reads_imp (Kd.yc4 HR.out HB.out) (fun x cs hx => kAt_KM hx)); (case aL => have := HL.out; simp; omega); intro v2 w2 ho2 hb2 hg2 hn2; simp only [List.nil_append] at ho2; have HO2 := Aside0.mk ho2; have HB2 := Aside0.mk hb2; clear ho2 hb2 hg2 hn2))
    go_ret
    exact ⟨_, rfl, HO2.out, HB2.out⟩
end Go.Proofs.YtidkjifilgjgfaaDoor.ND
