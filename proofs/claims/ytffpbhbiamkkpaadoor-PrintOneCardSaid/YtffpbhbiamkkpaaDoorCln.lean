/- slices.Clone of attributes and of nodes: the same list in memory of the call's own. -/
import Derived.Test.YtffpbhbiamkkpaaDoorNd
import Derived.WalkKit
import Derived.WalkSpells
import Derived.KernelRfl
namespace Go.Proofs.YtffpbhbiamkkpaaDoor.ND
open Go.RowKit Go.Proofs.YtffpbhbiamkkpaaDoorW.PrintWords Go.Proofs.YtffpbhbiamkkpaaDoorW.PrintLast Go.Proofs.YtffpbhbiamkkpaaDoorW.PrintMore
set_option linter.unusedVariables false
theorem infoAt : (Tryd.prog.info? 63).map (fun i => (i.zero, i.size, i.bytes)) = some (some (.agg #[.string ⟨#[]⟩, .string ⟨#[]⟩, .string ⟨#[]⟩]), 3, 48) := by kernel_rfl
theorem reads_imp {α : Type} {R R' : α → List Value → Prop} {size : Nat} {w : World} {A : Option Addr} {n : Nat} {ps : List α} (h : ReadsRow R size w A n ps) (hR : ∀ x cs, R x cs → R' x cs) : ReadsRow R' size w A n ps :=
  ⟨h.1, h.2.1, fun hn => let ⟨ad, e, hc⟩ := h.2.2 hn; ⟨ad, e, fun j p hj => let ⟨c, a1, a2, a3⟩ := hc j p hj; ⟨c, a1, hR _ _ a2, a3⟩⟩⟩
theorem kAt_KM {w w' : World} {base : Nat} {ok : Nat → Prop} {x : At} {cs : List Value} (h : kAt.K w x cs) : kAt.M w' base ok x cs := by
  obtain rfl := kAt_open h
  exact kAt_mkM _ _ _ _
set_option maxHeartbeats 800000 in
set_option maxRecDepth 100000 in
theorem cloneAt (A0 : Option Addr) (c0 : Nat) (l0 : List At) (w : World) (hr0 : kAt.C w A0 l0.length l0) (hc0 : l0.length ≤ c0) (hl : l0.length ≤ 2932031007402) :
    Calls Tryd.prog 32 #[.slice A0 l0.length c0] w fun e w' => ∃ v0_ : Value, e = .returned (v0_) ∧ kAt.R 63 w' w.heap.size (fun _ => True) v0_ l0 ∧ Below w.heap.size w w' := by
  have HL := Aside0.mk hl
  clear hl
  have HR := Aside0.mk hr0
  have HC := Aside0.mk hc0
  clear hr0 hc0
  cases A0 with
  | none =>
    have hz : l0 = [] := by
      have := HR.out.2.2
      cases l0 with
      | nil => rfl
      | cons a l => obtain ⟨ad, e, _⟩ := this (by simp); cases e
    subst hz
    have hq := fun (ww : World) => Lib.run_eql_slice_nil (P := Tryd.prog) ww 24 63 none 0 c0 0 0 Tryd.underlying24
    go_enter Tryd.func32, Tryd.ntmps32
    go_wp2
    go_ret
    exact ⟨_, rfl, Kd.R_nil _ _ _ _ _, Below.refl _ _⟩
  | some ad =>
    have hq := fun (ww : World) => Lib.run_eql_slice_nil (P := Tryd.prog) ww 24 63 (some ad) l0.length c0 0 0 Tryd.underlying24
    go_enter Tryd.func32, Tryd.ntmps32
    go_wp2_with (first | ((with_reducible refine gate_dst (N := 5) rfl ?_); refine Kd.R_lit kAt w.heap.size 63 ?hg (N := 5) ?hd (xs := ([] : List At)) (inner := []) (ok := fun _ => True) (okp := fun _ => True) ?hr (Reps.none _ _) (fun _ hk => hk) trivial (Below.refl _ _) (Nat.le_refl _) (by simp) ?_; (case hd => rfl); (case hg => rfl); (case hr => first | (go_simp; done) | (go_simp; rfl)); intro v1 w1 ho1 hb1 hg1 hn1; have HO := Aside0.mk ho1; have HB := Aside0.mk hb1; clear ho1 hb1 hg1 hn1) | (at_builtin; refine Kd.R_append_rows kAt (w0 := w) w.heap.size rfl (.tmp 5) (.tmp 6) 24 63 (.agg #[.string ⟨#[]⟩, .string ⟨#[]⟩, .string ⟨#[]⟩]) 48 rfl Tryd.underlying24 infoAt rfl (by decide) (by omega) v1 ([] : List At) l0 (some ad) l0.length c0 (fun _ => True) (fun _ => False) rfl rfl HO.out ?aR (fun _ _ h => h) (fun _ h => h.elim) (fun _ _ => trivial) HB.out HB.out.size ?aL ?_; (case aR => exact reads_imp (Kd.C_below HR.out HB.out) (fun x cs hx => kAt_KM hx)); (case aL => have := HL.out; simp; omega); intro v2 w2 ho2 hb2 hg2 hn2; simp only [List.nil_append] at ho2; have HO2 := Aside0.mk ho2; have HB2 := Aside0.mk hb2; clear ho2 hb2 hg2 hn2))
    go_ret
    exact ⟨_, rfl, HO2.out, HB2.out⟩
end Go.Proofs.YtffpbhbiamkkpaaDoor.ND
