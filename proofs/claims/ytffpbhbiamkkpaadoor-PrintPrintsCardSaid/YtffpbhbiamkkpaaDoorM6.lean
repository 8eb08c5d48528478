/- slices.Clone of attributes and of nodes: the same list in memory of the call's own. -/
import Derived.Test.YtffpbhbiamkkpaaDoorM7
import Derived.WalkKit
import Derived.WalkSpells
import Derived.KernelRfl
namespace Go.Proofs.YtffpbhbiamkkpaaDoor.ND
open Go.RowKit Go.Proofs.YtffpbhbiamkkpaaDoorW.PrintWords Go.Proofs.YtffpbhbiamkkpaaDoorW.PrintLast Go.Proofs.YtffpbhbiamkkpaaDoorW.PrintMore
set_option linter.unusedVariables false
theorem infoAt : (Tryd.prog.info? 63).map (fun i => (i.zero, i.size, i.bytes)) = some (some (.agg #[.string ⟨#[]⟩, .string ⟨#[]⟩, .string ⟨#[]⟩]), 3, 48) := by kernel_rfl
theorem reads_imp {α : Type} {R R' : α → List Value → Prop} {size : Nat} {w : World} {A : Option Addr} {n : Nat} {ps : List α} (h : yg7 R size w A n ps) (hR : ∀ x cs, R x cs → R' x cs) : yg7 R' size w A n ps :=
  ⟨h.1, h.2.1, fun hn => let ⟨ad, e, hc⟩ := h.2.2 hn; ⟨ad, e, fun j p hj => let ⟨c, a1, a2, a3⟩ := hc j p hj; ⟨c, a1, hR _ _ a2, a3⟩⟩⟩
theorem kAt_KM {w w' : World} {base : Nat} {ok : Nat → Prop} {x : At} {cs : List Value} (h : kAt.K w x cs) : kAt.M w' base ok x cs := by
  obtain rfl := kAt_open h
  exact yr3 _ _ _ _
set_option maxHeartbeats 800000 in
set_option maxRecDepth 100000 in
theorem cloneAt (A0 : Option Addr) (c0 : Nat) (l0 : List At) (w : World) (hr0 : kAt.C w A0 l0.length l0) (hc0 : l0.length ≤ c0) (hl : l0.length ≤ 2932031007402) :
    Calls Tryd.prog 32 #[.slice A0 l0.length c0] w fun e w' => ∃ v0_ : Value, e = .returned (v0_) ∧ kAt.R 63 w' w.heap.size (fun _ => True) v0_ l0 ∧ Below w.heap.size w w' := by
  have HL := Aside0.mk hl
  clear hl
  have HR := Aside0.mk hr0
  have HC := Aside0.mk hc0
  clear hr0 hc0
  cases A0 with
  | none =>
    have hz : l0 = [] := by
      have := HR.out.2.2
      cases l0 with
      | nil => rfl
      | cons a l => obtain ⟨ad, e, _⟩ := this (by simp); cases e
    subst hz
    have hq := fun (ww : World) => Lib.run_eql_slice_nil (P := Tryd.prog) ww 24 63 none 0 c0 0 0 Tryd.underlying24
    go_enter Tryd.func32, Tryd.ntmps32
    go_wp2
    go_ret
    exact ⟨_, rfl, Kd.R_nil _ _ _ _ _, Below.refl _ _⟩
  | some ad =>
    have hq := fun (ww : World) => Lib.run_eql_slice_nil (P := Tryd.prog) ww 24 63 (some ad) l0.length c0 0 0 Tryd.underlying24
    go_enter Tryd.func32, Tryd.ntmps32
    go_wp2_with (first | ((with_reducible refine yd2 (N := 5) rfl ?_); refine Kd.R_lit kAt w.heap.size 63 ?hg (N := 5) ?hd (xs := ([] : List At)) (inner := []) (ok := fun _ => True) (okp := fun _ => True) ?hr (Reps.none _ _) (fun _ hk => hk) trivial (Below.refl _ _) (Nat.le_refl _) (by simp) ?_; (case hd => rfl); (case hg => rfl); (case hr => first | (go_simp; done) | (go_simp; rfl)); intro v1 w1 ho1 hb1 hg1 hn1; have HO := Aside0.mk ho1; have HB := Aside0.mk hb1; clear ho1 hb1 hg1 hn1) | (at_builtin; refine Kd.yh8 kAt (w0 := w) w.heap.size rfl (.tmp 5) (.tmp 6) 24 63 (.agg #[.string ⟨#[]⟩, .string ⟨#[]⟩, .string ⟨#[]⟩]) 48 rfl Tryd.underlying24 infoAt rfl (by decide) (by omega) v1 ([] : List At) l0 (some ad) l0.length c0 (fun _ => True) (fun _ => False) rfl rfl HO.out ?aR (fun _ _ h => h) (fun _ h => h.elim) (fun _ _ => trivial) HB.out HB.out.size ?aL ?_; (case aR => exact reads_imp (Kd.yc3 HR.out HB.out) (fun x cs hx => kAt_KM hx)); (case aL => have := HL.out; simp; omega); intro v2 w2 ho2 hb2 hg2 hn2; simp only [List.nil_append] at ho2; have HO2 := Aside0.mk ho2; have HB2 := Aside0.mk hb2; clear ho2 hb2 hg2 hn2))
    go_ret
    exact ⟨_, rfl, HO2.out, HB2.out⟩
end Go.Proofs.YtffpbhbiamkkpaaDoor.ND
namespace Go.Proofs.YtffpbhbiamkkpaaDoor.ND
open Go.RowKit Go.Proofs.YtffpbhbiamkkpaaDoorW.PrintWords Go.Proofs.YtffpbhbiamkkpaaDoorW.PrintLast Go.Proofs.YtffpbhbiamkkpaaDoorW.PrintMore
set_option linter.unusedVariables false
/-- A node's six cells as they stand. -/
def kEx : Kd (List Value) where
  sz := 6
  E := []
  K := fun _ x cs => cs = x ∧ x.length = 6 ∧ ∀ u ∈ x, u.oneCell' = true
  M := fun _ _ _ x cs => cs = x ∧ x.length = 6 ∧ ∀ u ∈ x, u.oneCell' = true
  K_len := fun h => h.1 ▸ h.2.1
  K_one := fun h => h.1 ▸ h.2.2
  K_below := fun _ h => h
  K_of_M := fun h => h
  M_mono := fun _ h => h
  M_bound := fun h => h
  M_move := fun _ h => h
  M_lower := fun _ h => h
/-- The cells of a row of nodes. -/
theorem cells_of {w : World} {A : Option Addr} {n : Nat} {xs : List Nd} (h : kNd.C w A n xs) : ∃ X : List (List Value), kEx.C w A n X ∧ X.length = xs.length ∧ ∀ (j : Nat) (d : Nd) (x : List Value), xs[j]? = some d → X[j]? = some x → kNd.K w d x := by
  obtain ⟨hl, hm, hc⟩ := h
  by_cases hn : 0 < n
  · obtain ⟨ad, e, hc⟩ := hc hn
    have pick : ∀ j : Fin xs.length, ∃ c : List Value, c.length = 6 ∧ kNd.K w xs[j] c ∧ ∀ i u, c[i]? = some u → w.cell? (ad.add (j.val * 6 + i)) = some u := by
      intro j
      obtain ⟨c, a1, a2, a3⟩ := hc j.val _ (List.getElem?_eq_getElem j.isLt)
      exact ⟨c, a1, a2, a3⟩
    refine ⟨List.ofFn fun j => Classical.choose (pick j), ⟨by rw [List.length_ofFn]; exact hl, hm, fun _ => ⟨ad, e, ?_⟩⟩, List.length_ofFn, ?_⟩
    · intro j p hj
      have hjl : j < xs.length := by
        rcases Nat.lt_or_ge j xs.length with h | h
        · exact h
        · rw [List.getElem?_eq_none (by rw [List.length_ofFn]; exact h)] at hj; cases hj
      rw [List.getElem?_eq_getElem (by rw [List.length_ofFn]; exact hjl), List.getElem_ofFn] at hj
      obtain rfl := Option.some.inj hj
      obtain ⟨b1, b2, b3⟩ := Classical.choose_spec (pick ⟨j, hjl⟩)
      exact ⟨_, b1, ⟨rfl, b1, kNd.K_one b2⟩, b3⟩
    · intro j d x hd hx
      have hjl : j < xs.length := by
        rcases Nat.lt_or_ge j xs.length with h | h
        · exact h
        · rw [List.getElem?_eq_none h] at hd; cases hd
      rw [List.getElem?_eq_getElem (by rw [List.length_ofFn]; exact hjl), List.getElem_ofFn] at hx
      rw [List.getElem?_eq_getElem hjl] at hd
      obtain rfl := Option.some.inj hx
      obtain rfl := Option.some.inj hd
      exact (Classical.choose_spec (pick ⟨j, hjl⟩)).2.1
  · refine ⟨[], ⟨by simp; omega, hm, fun h => absurd h hn⟩, by simp; omega, fun j d x hd hx => by cases hx⟩
/-- Cells that are nodes are a row of nodes. -/
theorem nodes_of {w : World} {A : Option Addr} {n : Nat} {xs : List Nd} {X : List (List Value)} (h : kEx.C w A n X) (hl : X.length = xs.length) (hK : ∀ (j : Nat) (d : Nd) (x : List Value), xs[j]? = some d → X[j]? = some x → kNd.K w d x) : kNd.C w A n xs := by
  obtain ⟨h1, h2, h3⟩ := h
  refine ⟨by omega, h2, fun hn => ?_⟩
  obtain ⟨ad, e, hc⟩ := h3 hn
  refine ⟨ad, e, fun j d hd => ?_⟩
  have hjl : j < xs.length := by
    rcases Nat.lt_or_ge j xs.length with h | h
    · exact h
    · rw [List.getElem?_eq_none h] at hd; cases hd
  obtain ⟨c, a1, ⟨rfl, _, _⟩, a3⟩ := hc j _ (List.getElem?_eq_getElem (by omega))
  exact ⟨_, a1, hK j d _ hd (List.getElem?_eq_getElem (by omega)), a3⟩
theorem infoNd : (Tryd.prog.info? 27).map (fun i => (i.zero, i.size, i.bytes)) = some (some (.agg #[.int .i64 0, .string ⟨#[]⟩, .string ⟨#[]⟩, .slice none 0 0, .slice none 0 0, .string ⟨#[]⟩]), 6, 104) := by kernel_rfl
set_option maxHeartbeats 800000 in
set_option maxRecDepth 100000 in
theorem cloneNd (A0 : Option Addr) (c0 : Nat) (l0 : List (List Value)) (w : World) (hr0 : kEx.C w A0 l0.length l0) (hc0 : l0.length ≤ c0) (hl : l0.length ≤ 1000000000) :
    Calls Tryd.prog 33 #[.slice A0 l0.length c0] w fun e w' => ∃ v0_ : Value, e = .returned (v0_) ∧ kEx.R 27 w' w.heap.size (fun _ => True) v0_ l0 ∧ Below w.heap.size w w' := by
  have HL := Aside0.mk hl
  clear hl
  have HR := Aside0.mk hr0
  have HC := Aside0.mk hc0
  clear hr0 hc0
  cases A0 with
  | none =>
    have hz : l0 = [] := by
      have := HR.out.2.2
      cases l0 with
      | nil => rfl
      | cons a l => obtain ⟨ad, e, _⟩ := this (by simp); cases e
    subst hz
    have hq := fun (ww : World) => Lib.run_eql_slice_nil (P := Tryd.prog) ww 25 27 none 0 c0 0 0 Tryd.underlying25
    go_enter Tryd.func33, Tryd.ntmps33
    go_wp2
    go_ret
    exact ⟨_, rfl, Kd.R_nil _ _ _ _ _, Below.refl _ _⟩
  | some ad =>
    have hq := fun (ww : World) => Lib.run_eql_slice_nil (P := Tryd.prog) ww 25 27 (some ad) l0.length c0 0 0 Tryd.underlying25
    go_enter Tryd.func33, Tryd.ntmps33
    go_wp2_with (first | ((with_reducible refine yd2 (N := 5) rfl ?_); refine Kd.R_lit kEx w.heap.size 27 ?hg (N := 5) ?hd (xs := ([] : List (List Value))) (inner := []) (ok := fun _ => True) (okp := fun _ => True) ?hr (Reps.none _ _) (fun _ hk => hk) trivial (Below.refl _ _) (Nat.le_refl _) (by simp) ?_; (case hd => rfl); (case hg => rfl); (case hr => first | (go_simp; done) | (go_simp; rfl)); intro v1 w1 ho1 hb1 hg1 hn1; have HO := Aside0.mk ho1; have HB := Aside0.mk hb1; clear ho1 hb1 hg1 hn1) | (at_builtin; refine Kd.yh8 kEx (w0 := w) w.heap.size rfl (.tmp 5) (.tmp 6) 25 27 (.agg #[.int .i64 0, .string ⟨#[]⟩, .string ⟨#[]⟩, .slice none 0 0, .slice none 0 0, .string ⟨#[]⟩]) 104 rfl Tryd.underlying25 infoNd rfl (by decide) (by omega) v1 ([] : List (List Value)) l0 (some ad) l0.length c0 (fun _ => True) (fun _ => False) rfl rfl HO.out ?aR (fun _ _ h => h) (fun _ h => h.elim) (fun _ _ => trivial) HB.out HB.out.size ?aL ?_; (case aR => exact Kd.yc3 HR.out HB.out); (case aL => have := HL.out; simp; omega); intro v2 w2 ho2 hb2 hg2 hn2; simp only [List.nil_append] at ho2; have HO2 := Aside0.mk ho2; have HB2 := Aside0.mk hb2; clear ho2 hb2 hg2 hn2))
    go_ret
    exact ⟨_, rfl, HO2.out, HB2.out⟩
end Go.Proofs.YtffpbhbiamkkpaaDoor.ND
