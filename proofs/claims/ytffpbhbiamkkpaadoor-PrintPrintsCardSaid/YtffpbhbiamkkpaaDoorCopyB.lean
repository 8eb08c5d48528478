/- tree.Copy: the same node in memory of its own. -/
import Derived.Test.YtffpbhbiamkkpaaDoorM6
import Derived.Test.YtffpbhbiamkkpaaDoorRgt
import Derived.WalkKit
import Derived.WalkSpells
import Derived.Deep.RegionLaw
import Derived.Deep.RegionHeld3
import Derived.Deep.LoopGhost
import Derived.Deep.QuietTactic
import Derived.Deep.RegionWith
import Derived.IntWalk
namespace Go.Proofs.YtffpbhbiamkkpaaDoor.ND
open Go Go.RowKit Go.Proofs.YtffpbhbiamkkpaaDoorW.PrintWords Go.Proofs.YtffpbhbiamkkpaaDoorW.PrintLast Go.Proofs.YtffpbhbiamkkpaaDoorW.PrintMore
set_option linter.unusedVariables false
def ys1 (n : Nd) : Prop := ∀ (w : World) (A3 A4 : Option Addr) (c3 c4 : Nat), kAt.C w A3 n.f2.length n.f2 → n.f2.length ≤ c3 → kNd.C w A4 n.f3.length n.f3 → n.f3.length ≤ c4 →
  Calls Tryd.prog 13 #[.agg #[.int .i64 n.f0, .string n.f1.f0, .string n.f1.f1, .slice A3 n.f2.length c3, .slice A4 n.f3.length c4, .string n.f4]] w fun e w' => ∃ v3 v4, e = .returned (.agg #[.int .i64 n.f0, .string n.f1.f0, .string n.f1.f1, v3, v4, .string n.f4]) ∧ kAt.R 63 w' w.heap.size (fun _ => True) v3 n.f2 ∧ kNd.R 27 w' w.heap.size (fun _ => True) v4 n.f3 ∧ Below w.heap.size w w'
/-- How far the kids have been copied: place i. -/
structure CpInv (w wr : World) (H1 : Nat) (k : Int) (nm : Nm) (x : ByteArray) (at' : List At) (kids : List Nd) (X : List (List Value)) (B3 B4 : Option Addr) (e3 e4 i : Nat) (Y : List (List Value)) : Prop where
  rx : kEx.R 27 wr H1 (fun _ => True) (.slice B4 kids.length e4) Y
  len : Y.length = kids.length
  old : ∀ j, i ≤ j → Y[j]? = X[j]?
  new : ∀ (j : Nat) (d : Nd) (y : List Value), j < i → kids[j]? = some d → Y[j]? = some y → kNd.M wr w.heap.size (fun q => some q ≠ (Value.slice B4 kids.length e4).ownBlock ∧ w.heap.size + 1 < q) d y
  ra : kAt.R 63 wr w.heap.size (fun q => w.heap.size + 1 < q ∧ q < H1) (.slice B3 at'.length e3) at'
  hb : Below w.heap.size w wr
  h1 : w.heap.size + 2 ≤ H1
  hz : H1 ≤ wr.heap.size
  box : wr.heap[w.heap.size]? = some (.cells #[.int .i64 k, .string nm.f0, .string nm.f1, .slice B3 at'.length e3, .slice B4 kids.length e4, .string x] 27 (0, 0))
  res : wr.heap[w.heap.size + 1]? = some (.cells #[.int .i64 0, .string ⟨#[]⟩, .string ⟨#[]⟩, .slice none 0 0, .slice none 0 0, .string ⟨#[]⟩] 27 (0, 0))
/-- Cells of one's own that are nodes made by the call. -/
theorem rows_nodes {w : World} {H base : Nat} {v : Value} {Y : List (List Value)} {kids : List Nd} {ok : Nat → Prop} (h : kEx.R 27 w H (fun _ => True) v Y) (hl : Y.length = kids.length) (hbase : base ≤ H) (hok : ∀ q, ok q → some q ≠ v.ownBlock)
    (hM : ∀ (j : Nat) (d : Nd) (y : List Value), kids[j]? = some d → Y[j]? = some y → kNd.M w base ok d y) : kNd.R 27 w base (fun q => ok q ∨ some q = v.ownBlock) v kids := by
  obtain ⟨_, inner, ho, hr⟩ := Kd.yh3 h hbase
  refine ⟨fun q hq => Or.inr hq.symm, inner, by rw [← hl]; exact ho, ?_⟩
  refine ⟨by rw [← hl]; exact hr.1, fun j d hd => ?_⟩
  have hj : j < kids.length := by
    rcases Nat.lt_or_ge j kids.length with h | h
    · exact h
    · rw [List.getElem?_eq_none h] at hd; cases hd
  have hy : Y[j]? = some (Y[j]'(by omega)) := List.getElem?_eq_getElem (by omega)
  have h2 := (hr.2 j _ hy).1
  have h3 := hM j d _ hd hy
  rw [← h2] at h3
  exact kNd.M_mono (fun q hq => ⟨Or.inl hq, hok q hq⟩) h3
theorem CpInv.cells {w wr : World} {H1 : Nat} {k : Int} {nm : Nm} {x : ByteArray} {at' : List At} {kids : List Nd} {X : List (List Value)} {B3 B4 : Option Addr} {e3 e4 i : Nat} {Y : List (List Value)} (h : CpInv w wr H1 k nm x at' kids X B3 B4 e3 e4 i Y)
    (hXK : ∀ (j : Nat) (d : Nd) (x : List Value), kids[j]? = some d → X[j]? = some x → kNd.K w d x) : kNd.C wr B4 kids.length kids := by
  have h2 := (Kd.yd6 h.rx).2.2
  rw [h.len] at h2
  refine nodes_of h2 h.len (fun j d y hd hy => ?_)
  by_cases c : j < i
  · exact kNd.K_of_M (h.new j d y c hd hy)
  · rw [h.old j (by omega)] at hy
    exact kNd.K_below h.hb (hXK j d y hd hy)
theorem add_to (g n : Nat) : (⟨g, 0, none⟩ : Addr).add n = ⟨g, n, none⟩ := by
  simp [Addr.add]
  try (intros; omega)
/-- The six cells of kid j, and that they may be written. -/
def Room (W : World) (g j : Nat) : Prop := (∃ u0 u1 u2 u3 u4 u5, W.cell? ⟨g, j * 6, none⟩ = some u0 ∧ W.cell? ⟨g, j * 6 + 1, none⟩ = some u1 ∧ W.cell? ⟨g, j * 6 + 2, none⟩ = some u2 ∧ W.cell? ⟨g, j * 6 + 3, none⟩ = some u3 ∧ W.cell? ⟨g, j * 6 + 4, none⟩ = some u4 ∧ W.cell? ⟨g, j * 6 + 5, none⟩ = some u5) ∧ ∀ q, W.frozen? ⟨g, q, none⟩ = false
theorem kid_store {W : World} {H1 n e4 : Nat} {ad : Addr} {Y : List (List Value)} (h : kEx.R 27 W H1 (fun _ => True) (.slice (some ad) n e4) Y) (j : Nat) (hj : j < n) (seg : List Value) (hs : seg.length = 6) (h1 : ∀ q ∈ seg, q.oneCell' = true) :
    ∃ g, (Value.slice (some ad) n e4).ownBlock = some g ∧ H1 ≤ g ∧ g < W.heap.size ∧ ad = ⟨g, 0, none⟩ ∧ Room W g j ∧ kEx.R 27 (W.setCells g (j * 6) seg) H1 (fun _ => True) (.slice (some ad) n e4) (Y.set j seg) ∧ W.grownBy (W.setCells g (j * 6) seg) (some g) := by
  have h' := h
  obtain ⟨hn, hnc, hC⟩ := Kd.yd6 h
  obtain ⟨_, inner, hown, hreps⟩ := h'
  rcases hown.2 with ⟨hv, _⟩ | ⟨g, cap, cur, hv, hbg, hg, hnc2, hcm, hcs, _⟩
  · injection hv with hv; cases hv
  injection hv with e1 e2 e3
  obtain rfl := Option.some.inj e1
  subst e3
  have hfit : j * 6 + 6 ≤ cur.size := by rw [hcs]; show _ ≤ e4 * 6; omega
  obtain ⟨ad', c, ea, hcl, hK, hcc⟩ := Kd.C_get hC ([] : List Value) (j : Int) (by omega) (by omega)
  obtain rfl := Option.some.inj ea
  obtain ⟨hce, hcl6, hc1⟩ := hK
  have hcl6' : c.length = 6 := by rw [hce]; exact hcl6
  refine ⟨g, rfl, hbg, blk_lt hg, rfl, ?_, ?_⟩
  · have cl : ∀ q, q < 6 → ∃ u, W.cell? ⟨g, j * 6 + q, none⟩ = some u := fun q hq => ⟨cur[j * 6 + q]'(by omega), by rw [Lib.cell_of_heap hg]; exact Array.getElem?_eq_getElem _⟩
    obtain ⟨u0, h0⟩ := cl 0 (by omega)
    obtain ⟨u1, h1⟩ := cl 1 (by omega)
    obtain ⟨u2, h2⟩ := cl 2 (by omega)
    obtain ⟨u3, h3⟩ := cl 3 (by omega)
    obtain ⟨u4, h4⟩ := cl 4 (by omega)
    obtain ⟨u5, h5⟩ := cl 5 (by omega)
    exact ⟨⟨u0, u1, u2, u3, u4, u5, h0, h1, h2, h3, h4, h5⟩, fun q => yd9 hg q⟩
  · have := Kd.R_seg h (j : Int) (by omega) (by omega) (c := c) (seg := seg) (j := 0) hcl6' (fun q u hq => by
      have := hcc q u hq
      simp only [Int.toNat_natCast] at this ⊢
      have e : (⟨g, 0, none⟩ : Addr).add (j * kEx.sz + q) = ⟨g, j * kEx.sz + q, none⟩ := add_to g _
      rw [e] at this
      exact this) (by rw [hs]; exact Nat.le_refl _) (x' := seg) (okp := fun _ => False) ⟨by rw [List.take_zero, List.nil_append, hs, List.drop_eq_nil_of_le (by omega), List.append_nil], hs, h1⟩ (fun _ h => h.elim)
    rw [Int.toNat_natCast, show kEx.sz = 6 from rfl, Nat.add_zero] at this
    exact this
theorem CpInv.step {w wr W4 w5 : World} {H1 : Nat} {k : Int} {nm : Nm} {x : ByteArray} {at' : List At} {kids : List Nd} {X : List (List Value)} {B3 : Option Addr} {ad : Addr} {e3 e4 j : Nat} {Y : List (List Value)} (h : CpInv w wr H1 k nm x at' kids X B3 (some ad) e3 e4 j Y) (hj : j < kids.length)
    (hb : Below wr.heap.size wr w5) (seg : List Value) (hs : seg.length = 6) (h1 : ∀ q ∈ seg, q.oneCell' = true) (hW : wr.heap.size ≤ W4.heap.size) (hM : kNd.M w5 W4.heap.size (fun _ => True) kids[j] seg) :
    ∃ g, ad = ⟨g, 0, none⟩ ∧ Room w5 g j ∧ CpInv w (w5.setCells g (j * 6) seg) H1 k nm x at' kids X B3 (some ad) e3 e4 (j + 1) (Y.set j seg) := by
  obtain ⟨g, ho, hg1, hg2, hae, hrun, hR, hgr⟩ := kid_store (Kd.yh4 h.rx hb) j hj seg hs h1
  refine ⟨g, hae, hrun, ?_⟩
  have hgw : g < wr.heap.size := by
    obtain ⟨_, inner, hown, _⟩ := h.rx
    rcases hown.2 with ⟨hv, _⟩ | ⟨g', cap, cur, hv, hbg, hg, _⟩
    · injection hv with hv; cases hv
    · injection hv with e1 e2 e3
      obtain rfl := Option.some.inj e1
      have : g' = g := by simpa [Value.ownBlock] using ho
      subst this
      exact blk_lt hg
  have hz := h.hz
  have hh1 := h.h1
  have far : ∀ q, q ≠ g → q < w5.heap.size → (w5.setCells g (j * 6) seg).heap[q]? = w5.heap[q]? := fun q hq hlt => hgr.block q hlt (fun e => hq (by injection e))
  refine ⟨hR, by rw [List.length_set]; exact h.len, fun q hq => ?_, fun q d y hq hd hy => ?_, ?_, ?_, hh1, ?_, ?_, ?_⟩
  · rw [List.getElem?_set_ne (by omega)]
    exact h.old q (by omega)
  · by_cases e : q = j
    · subst e
      rw [List.getElem?_set_self (by rw [h.len]; exact hj)] at hy
      obtain rfl := Option.some.inj hy
      rw [List.getElem?_eq_getElem hj] at hd
      obtain rfl := Option.some.inj hd
      have m1 := kNd.M_mono (fun q (hq : True ∧ W4.heap.size ≤ q ∧ q < w5.heap.size ∧ _) => (show some q ≠ (Value.slice (some ad) kids.length e4).ownBlock ∧ w.heap.size + 1 < q ∧ q < w5.heap.size from ⟨fun e => by rw [ho] at e; injection e with e; omega, by omega, hq.2.2.1⟩)) (kNd.M_bound hM)
      have m2 := kNd.M_lower (base' := w.heap.size) (by have := h.hb.size; omega) m1
      refine kNd.M_mono (fun q hq => ⟨hq.1, hq.2.1⟩) (kNd.M_move (fun q hq => far q (fun e => hq.1 (by rw [ho, e])) hq.2.2) m2)
    · rw [List.getElem?_set_ne (by omega)] at hy
      have m0 := h.new q d y (by omega) hd hy
      refine Kd.M_step m0 (fun b hb2 hlt => ?_)
      rw [far b (fun e => hb2.1 (by rw [ho, e])) (by have := hb.size; omega)]
      exact hb.block b hlt
  · refine Kd.R_step h.ra (fun b hb2 hlt => ?_)
    rw [far b (by omega) (by have := hb.size; omega)]
    exact hb.block b hlt
  · exact (h.hb.trans (hb.mono h.hb.size)).grown hgr (Nat.le_trans h.hb.size hb.size) (fun q hq => by injection hq with e; omega)
  · have := hgr.size
    have := hb.size
    omega
  · rw [far _ (by omega) (by have := hb.size; omega)]
    exact (hb.block _ (by omega)).trans h.box
  · rw [far _ (by omega) (by have := hb.size; omega)]
    exact (hb.block _ (by omega)).trans h.res
set_option maxHeartbeats 4000000 in
set_option maxRecDepth 100000 in
theorem copy_step (n : Nd) (h2 : n.f2.length ≤ 1000000) (h3 : n.f3.length ≤ 1000000) (ih : ∀ d ∈ n.f3, ys1 d) : ys1 n := by
  intro w A3 A4 c3 c4 hA l3 hK l4
  obtain ⟨X, hX, hXl, hXK⟩ := cells_of hK
  obtain ⟨k, nm, at', kids, x⟩ := n
  dsimp only at *
  have HA := Aside0.mk hA
  have HX := Aside0.mk hX
  have HXK := Aside0.mk hXK
  have HIH := Aside0.mk ih
  have hCN : ∀ W, kEx.C W A4 kids.length X → Calls Tryd.prog 33 #[.slice A4 kids.length c4] W fun e w' => ∃ v0_ : Value, e = .returned (v0_) ∧ kEx.R 27 w' W.heap.size (fun _ => True) v0_ X ∧ Below W.heap.size W w' := by
    intro W h
    rw [← hXl] at h ⊢
    exact cloneNd A4 c4 X W h (by omega) (by omega)
  have HCN := Aside0.mk hCN
  have HCA := Aside0.mk (fun W h => cloneAt A3 c3 at' W h l3 (by omega))
  clear hA hX hXK ih hK hCN
  go_enter Tryd.func13, Tryd.ntmps13
  go_wp2_with fail
  obtain ⟨W0, hW0⟩ : ∃ W0, (w.alloc (.cells #[.int .i64 k, .string nm.f0, .string nm.f1, .slice A3 at'.length c3, .slice A4 kids.length c4, .string x] 27)).alloc (.cells #[.int .i64 0, .string ⟨#[]⟩, .string ⟨#[]⟩, .slice none 0 0, .slice none 0 0, .string ⟨#[]⟩] 27) = W0 := ⟨_, rfl⟩
  rw [hW0]
  have hb0 : Below w.heap.size w W0 := by rw [← hW0]; exact ((Below.refl _ _).alloc (Nat.le_refl _) _).alloc (by simp) _
  have hsz : W0.heap.size = w.heap.size + 2 := by rw [← hW0]; simp
  have hk0 : W0.heap[w.heap.size]? = some (.cells #[.int .i64 k, .string nm.f0, .string nm.f1, .slice A3 at'.length c3, .slice A4 kids.length c4, .string x] 27 (0, 0)) := by
    rw [← hW0]
    exact (((Below.refl _ _).alloc (Nat.le_refl _) _).block w.heap.size (by simp)).trans (heap_alloc_last w _)
  have hk1 : W0.heap[w.heap.size + 1]? = some (.cells #[.int .i64 0, .string ⟨#[]⟩, .string ⟨#[]⟩, .slice none 0 0, .slice none 0 0, .string ⟨#[]⟩] 27 (0, 0)) := by
    rw [← hW0]
    have h := heap_alloc_last (w.alloc (.cells #[.int .i64 k, .string nm.f0, .string nm.f1, .slice A3 at'.length c3, .slice A4 kids.length c4, .string x] 27)) (.cells #[.int .i64 0, .string ⟨#[]⟩, .string ⟨#[]⟩, .slice none 0 0, .slice none 0 0, .string ⟨#[]⟩] 27)
    simpa using h
  clear hW0
  have HB0 := Aside0.mk hb0
  have HK0 := Aside0.mk hk0
  have HK1 := Aside0.mk hk1
  have d3 : W0.cell? ⟨w.heap.size, 3, none⟩ = some (.slice A3 at'.length c3) := by rw [Lib.cell_of_heap hk0]; rfl
  have d4 : W0.cell? ⟨w.heap.size, 4, none⟩ = some (.slice A4 kids.length c4) := by rw [Lib.cell_of_heap hk0]; rfl
  have f3 := yd9 hk0 3
  have f4 := yd9 hk0 4
  clear hb0 hk0 hk1
  go_region_law (first
    | (go_simp; go_at_call 32; refine (HCA.out _ ?_).mono ?_; (exact Kd.yc3 (Kd.yc3 HA.out HB0.out) (yh2 (Below.refl W0.heap.size W0))); rintro e w1 ⟨v3, rfl, hR3, hb1⟩; have HZ1 := Aside0.mk hb1.size; obtain ⟨B3, e3, rfl⟩ := Kd.yh1 hR3; (have hb1' : Below W0.heap.size W0 w1 := (yh2 (Below.refl W0.heap.size W0)).trans hb1); have HB1 := Aside0.mk hb1'; have HR3 := Aside0.mk hR3; (have hk : w1.heap[w.heap.size]? = _ := (hb1'.block w.heap.size (by omega)).trans HK0.out); (have g3 : w1.cell? ⟨w.heap.size, 3, none⟩ = some (.slice A3 at'.length c3) := (by rw [Lib.cell_of_heap hk]; rfl)); (have g4 : w1.cell? ⟨w.heap.size, 4, none⟩ = some (.slice A4 kids.length c4) := (by rw [Lib.cell_of_heap hk]; rfl)); have x3 := yd9 hk 3; have x4 := yd9 hk 4; clear hb1 hb1' hR3 hk)
    | (go_simp; go_at_call 33; refine (HCN.out _ ?_).mono ?_; (exact Kd.yc3 (Kd.yc3 HX.out HB0.out) HB1.out); rintro e w2 ⟨v4, rfl, hR4, hb2⟩; obtain ⟨B4, e4, rfl⟩ := Kd.yh1 hR4; (have hb2' := HB1.out.trans (hb2.mono HB1.out.size)); have HB2 := Aside0.mk hb2'; have HB21 := Aside0.mk hb2; have HR4 := Aside0.mk hR4; (have hk : w2.heap[w.heap.size]? = _ := (hb2'.block w.heap.size (by omega)).trans HK0.out); (have y3 : w2.cell? ⟨w.heap.size, 3, none⟩ = some (.slice A3 at'.length c3) := (by rw [Lib.cell_of_heap hk]; rfl)); (have y4 : w2.cell? ⟨w.heap.size, 4, none⟩ = some (.slice A4 kids.length c4) := (by rw [Lib.cell_of_heap hk]; rfl)); have z3 := yd9 hk 3; have z4 := yd9 hk 4; clear hb2 hb2' hR4 hk))
  all_goals
    obtain ⟨W1, hW1⟩ : ∃ W1, (w2.setCell ⟨w.heap.size, 3, none⟩ (.slice B3 at'.length e3)).setCell ⟨w.heap.size, 4, none⟩ (.slice B4 kids.length e4) = W1 := ⟨_, rfl⟩
    rw [hW1]
    have hZ1 : w.heap.size + 2 ≤ w1.heap.size := by have := HZ1.out; simp at this; omega
    have hk2 : w2.heap[w.heap.size]? = some (.cells #[.int .i64 k, .string nm.f0, .string nm.f1, .slice A3 at'.length c3, .slice A4 kids.length c4, .string x] 27 (0, 0)) := (HB2.out.block w.heap.size (by omega)).trans HK0.out
    have hfar : ∀ q, q ≠ w.heap.size → W1.heap[q]? = w2.heap[q]? := by
      intro q hq
      rw [← hW1]
      exact (Below.heap_setCell _ ⟨w.heap.size, 4, none⟩ _ q hq).trans (Below.heap_setCell _ ⟨w.heap.size, 3, none⟩ _ q hq)
    have hs1 : W1.heap.size = w2.heap.size := by rw [← hW1]; simp
    have hbox : W1.heap[w.heap.size]? = some (.cells #[.int .i64 k, .string nm.f0, .string nm.f1, .slice B3 at'.length e3, .slice B4 kids.length e4, .string x] 27 (0, 0)) := by
      rw [← hW1]
      exact yk0 (yk0 hk2 3 _) 4 _
    have hres : W1.heap[w.heap.size + 1]? = some (.cells #[.int .i64 0, .string ⟨#[]⟩, .string ⟨#[]⟩, .slice none 0 0, .slice none 0 0, .string ⟨#[]⟩] 27 (0, 0)) := (hfar _ (by omega)).trans ((HB2.out.block (w.heap.size + 1) (by omega)).trans HK1.out)
    have hbW : Below w.heap.size w W1 := by
      rw [← hW1]
      exact ((HB0.out.trans (HB2.out.mono HB0.out.size)).setCell (p := ⟨w.heap.size, 3, none⟩) (Nat.le_refl _) _).setCell (p := ⟨w.heap.size, 4, none⟩) (Nat.le_refl _) _
    have r3 : kAt.R 63 W1 w.heap.size (fun k => w.heap.size + 1 < k ∧ k < w1.heap.size) (.slice B3 at'.length e3) at' := by
      have h1 := Kd.R_mono (Kd.yk9 HR3.out) (ok' := fun k => w.heap.size + 1 < k ∧ k < w1.heap.size) (fun k hk => ⟨by have := hk.2.1; simp at this; omega, hk.2.2.1⟩)
      have h2 := Kd.yh3 h1 (base' := w.heap.size) (by simp; omega)
      refine Kd.R_step h2 (fun q hq _ => ?_)
      rw [hfar q (by omega)]
      exact HB21.out.block q hq.2
    have r4 : kEx.R 27 W1 w1.heap.size (fun _ => True) (.slice B4 kids.length e4) X := by
      have h1 := HR4.out
      rw [hXl] at h1
      exact Kd.R_mono (Kd.R_step (Kd.yk9 h1) (fun q hq _ => hfar q (by have := hq.2.1; omega))) (fun _ _ => trivial)
    have hI : CpInv w W1 w1.heap.size k nm x at' kids X B3 B4 e3 e4 0 X := ⟨r4, hXl, fun _ _ => rfl, fun j d y hj => by omega, r3, hbW, hZ1, by rw [hs1]; exact HB21.out.size, hbox, hres⟩
    have HI := Aside0.mk hI
    have c4 : W1.cell? ⟨w.heap.size, 4, none⟩ = some (.slice B4 kids.length e4) := by rw [Lib.cell_of_heap hbox]; rfl
    clear hI hW1 hZ1 hk2 hfar hs1 hbox hres hbW r3 r4 d3 d4 f3 f4 g3 g4 x3 x4 y3 y4 z3 z4 HR3 HR4 HB2 HB21 HB1 HZ1 HCN HCA HK0 HK1
    go_wp2_with fail
    go_loopg [16] kids.length (fun m v wr => ∃ j : Nat, v = .int .i64 (j : Int) ∧ j ≤ kids.length ∧ Aside0 (m = kids.length - j) ∧ ∃ Y, Aside0 (CpInv w wr w1.heap.size k nm x at' kids X B3 B4 e3 e4 j Y))
    case atStart => exact ⟨0, rfl, Nat.zero_le _, ⟨rfl⟩, X, HI⟩
    case round =>
      obtain ⟨j, rfl, hj, HMe, Y, HY⟩ := hrel
      by_cases hlt : j < kids.length
      · have hI := HY.out
        have hC := hI.cells HXK.out
        obtain ⟨ad, A5, c5, A6, c6, eA, k0, k1, k2, k3, k4, k5, l5, q5, l6, q6⟩ := atNd hC (j : Int) (by omega) (by omega)
        subst eA
        obtain ⟨g, hag⟩ : ∃ g, ad = ⟨g, 0, none⟩ := by
          obtain ⟨g, _, _, _, e, _⟩ := kid_store hI.rx j hlt [.bool true, .bool true, .bool true, .bool true, .bool true, .bool true] rfl (by intro q hq; simp only [List.mem_cons, List.not_mem_nil, or_false] at hq; rcases hq with rfl | rfl | rfl | rfl | rfl | rfl <;> rfl)
          exact ⟨g, e⟩
        subst hag
        have hae := add_to g (j * 6)
        simp only [Int.toNat_natCast, hae] at k0 k1 k2 k3 k4 k5
        have hdj : rdNd kids (j : Int) = kids[j] := by simp [rdNd, hlt]
        rw [hdj] at k0 k1 k2 k3 k4 k5 l5 q5 l6 q6
        have HCO := Aside0.mk (fun W (hb : Below wr.heap.size wr W) => HIH.out kids[j] (List.getElem_mem _) W A5 A6 c5 c6 (Kd.yc3 q5 hb) l5 (Kd.yc3 q6 hb) l6)
        obtain ⟨kd, hkd⟩ : ∃ kd, kids[j].f0 = kd := ⟨_, rfl⟩
        obtain ⟨ks, hks⟩ : ∃ ks, kids[j].f1.f0 = ks := ⟨_, rfl⟩
        obtain ⟨kl, hkl⟩ : ∃ kl, kids[j].f1.f1 = kl := ⟨_, rfl⟩
        obtain ⟨kt, hkt⟩ : ∃ kt, kids[j].f4 = kt := ⟨_, rfl⟩
        obtain ⟨n5, hn5⟩ : ∃ n5, kids[j].f2.length = n5 := ⟨_, rfl⟩
        obtain ⟨n6, hn6⟩ : ∃ n6, kids[j].f3.length = n6 := ⟨_, rfl⟩
        rw [hkd] at k0
        rw [hks] at k1
        rw [hkl] at k2
        rw [hn5] at k3
        rw [hn6] at k4
        rw [hkt] at k5
        rw [hkd, hks, hkl, hkt, hn5, hn6] at HCO
        have hbx := hI.box
        have cb : wr.cell? ⟨w.heap.size, 4, none⟩ = some (.slice (some ⟨g, 0, none⟩) kids.length e4) := by rw [Lib.cell_of_heap hbx]; rfl
        have u1 := eq_true (show (j : Int) < (kids.length : Int) by omega)
        have u2 := eq_true (show (0 : Int) ≤ (j : Int) by omega)
        obtain ⟨z, hz⟩ : ∃ z, z = j + 1 := ⟨_, rfl⟩
        have f1 : (j : Int) + 1 = (z : Int) := by omega
        have f2 : IntKind.i64.wrap (z : Int) = (z : Int) := IntWalk.i64_in _ (by omega)
        have HZJ := Aside0.mk hz
        clear hz hI hC hdj hbx q5 q6 l5 l6
        go_wp2_with fail
        obtain ⟨W4, hW4⟩ : ∃ W4, wr.alloc (.cells #[.int .i64 kd, .string ks, .string kl, .slice A5 n5 c5, .slice A6 n6 c6, .string kt] 27) = W4 := ⟨_, rfl⟩
        rw [hW4]
        have hb4 : Below wr.heap.size wr W4 := by rw [← hW4]; exact (Below.refl _ _).alloc (Nat.le_refl _) _
        have hkb : W4.heap[wr.heap.size]? = some (.cells #[.int .i64 kd, .string ks, .string kl, .slice A5 n5 c5, .slice A6 n6 c6, .string kt] 27 (0, 0)) := by rw [← hW4]; exact heap_alloc_last wr _
        have hb4b := (hb4.block w.heap.size (by have := HY.out.hz; have := HY.out.h1; omega)).trans HY.out.box
        have cb : W4.cell? ⟨w.heap.size, 4, none⟩ = some (.slice (some ⟨g, 0, none⟩) kids.length e4) := by rw [Lib.cell_of_heap hb4b]; rfl
        have m0 : W4.cell? ⟨wr.heap.size, 0, none⟩ = some (.int .i64 kd) := by rw [Lib.cell_of_heap hkb]; rfl
        have m1 : W4.cell? ⟨wr.heap.size, 1, none⟩ = some (.string ks) := by rw [Lib.cell_of_heap hkb]; rfl
        have m2 : W4.cell? ⟨wr.heap.size, 2, none⟩ = some (.string kl) := by rw [Lib.cell_of_heap hkb]; rfl
        have m3 : W4.cell? ⟨wr.heap.size, 3, none⟩ = some (.slice A5 n5 c5) := by rw [Lib.cell_of_heap hkb]; rfl
        have m4 : W4.cell? ⟨wr.heap.size, 4, none⟩ = some (.slice A6 n6 c6) := by rw [Lib.cell_of_heap hkb]; rfl
        have m5 : W4.cell? ⟨wr.heap.size, 5, none⟩ = some (.string kt) := by rw [Lib.cell_of_heap hkb]; rfl
        have HB4 := Aside0.mk hb4
        have HKM := Aside0.mk (fun (W : World) (v5 v6 : Value) (h5 : kAt.R 63 W W4.drew.heap.size (fun _ => True) v5 kids[j].f2) (h6 : kNd.R 27 W W4.drew.heap.size (fun _ => True) v6 kids[j].f3) => (show kNd.M W W4.drew.heap.size (fun _ => True) kids[j] [.int .i64 kd, .string ks, .string kl, v5, v6, .string kt] from by rw [← hkd, ← hks, ← hkl, ← hkt]; exact kNd_mkM W _ _ _ h5 h6))
        have HN56 := Aside0.mk (And.intro hn5 hn6)
        clear hW4 hb4 hkb hb4b hkd hks hkl hkt hn5 hn6 k0 k1 k2 k3 k4 k5
        go_region_law (first
          | (go_simp; go_at_call 13; refine (HCO.out _ ?_).mono ?_; (exact yh2 HB4.out); rintro e w5 ⟨v5, v6, rfl, hr5, hr6, hb5⟩; obtain ⟨B5, g5, rfl⟩ := Kd.yh1 hr5; obtain ⟨B6, g6, rfl⟩ := Kd.yh1 hr6; (have hb5' : Below wr.heap.size wr w5 := (yh2 HB4.out).trans (hb5.mono (yh2 HB4.out).size)); (have cb5 : w5.cell? ⟨w.heap.size, 4, none⟩ = some (.slice (some ⟨g, 0, none⟩) kids.length e4) := (by rw [Lib.cell_of_heap ((hb5'.block w.heap.size (by have := HY.out.hz; have := HY.out.h1; omega)).trans HY.out.box)]; rfl)); obtain ⟨gg, hae, hst, hinv⟩ := HY.out.step (W4 := W4.drew) (w5 := w5) hlt hb5' _ rfl (by intro q hq; simp only [List.mem_cons, List.not_mem_nil, or_false] at hq; rcases hq with rfl | rfl | rfl | rfl | rfl | rfl <;> rfl) (yh2 HB4.out).size (HKM.out w5 _ _ hr5 hr6); obtain rfl : g = gg := (by injection hae); obtain ⟨⟨p0, p1, p2, p3, p4, p5, s0, s1, s2, s3, s4, s5⟩, z1⟩ := hst; have w0z := z1 (j * 6); have w1z := z1 (j * 6 + 1); have w2z := z1 (j * 6 + 2); have w3z := z1 (j * 6 + 3); have w4z := z1 (j * 6 + 4); have w5z := z1 (j * 6 + 5); have HINV := Aside0.mk hinv; clear z1 hae hinv hb5 hb5' hr5 hr6))
        all_goals
          go_wp2_with fail
          go_roundg (kids.length - z)
          case measure => have h1 := HMe.out; have h2 := HZJ.out; omega
          case rel => exact ⟨z, rfl, by have h2 := HZJ.out; omega, ⟨rfl⟩, _, ⟨by rw [HZJ.out]; exact HINV.out⟩⟩
      · have hI := HY.out
        have u1 := eq_false (show ¬ (j : Int) < (kids.length : Int) by omega)
        obtain rfl : j = kids.length := by omega
        have b0 : wr.cell? ⟨w.heap.size, 0, none⟩ = some (.int .i64 k) := by rw [Lib.cell_of_heap hI.box]; rfl
        have b1 : wr.cell? ⟨w.heap.size, 1, none⟩ = some (.string nm.f0) := by rw [Lib.cell_of_heap hI.box]; rfl
        have b2 : wr.cell? ⟨w.heap.size, 2, none⟩ = some (.string nm.f1) := by rw [Lib.cell_of_heap hI.box]; rfl
        have b3 : wr.cell? ⟨w.heap.size, 3, none⟩ = some (.slice B3 at'.length e3) := by rw [Lib.cell_of_heap hI.box]; rfl
        have b4 : wr.cell? ⟨w.heap.size, 4, none⟩ = some (.slice B4 kids.length e4) := by rw [Lib.cell_of_heap hI.box]; rfl
        have b5 : wr.cell? ⟨w.heap.size, 5, none⟩ = some (.string x) := by rw [Lib.cell_of_heap hI.box]; rfl
        have a0 : wr.cell? ⟨w.heap.size + 1, 0, none⟩ = some (.int .i64 0) := by rw [Lib.cell_of_heap hI.res]; rfl
        have a1 : wr.cell? ⟨w.heap.size + 1, 1, none⟩ = some (.string ⟨#[]⟩) := by rw [Lib.cell_of_heap hI.res]; rfl
        have a2 : wr.cell? ⟨w.heap.size + 1, 2, none⟩ = some (.string ⟨#[]⟩) := by rw [Lib.cell_of_heap hI.res]; rfl
        have a3 : wr.cell? ⟨w.heap.size + 1, 3, none⟩ = some (.slice none 0 0) := by rw [Lib.cell_of_heap hI.res]; rfl
        have a4 : wr.cell? ⟨w.heap.size + 1, 4, none⟩ = some (.slice none 0 0) := by rw [Lib.cell_of_heap hI.res]; rfl
        have a5 : wr.cell? ⟨w.heap.size + 1, 5, none⟩ = some (.string ⟨#[]⟩) := by rw [Lib.cell_of_heap hI.res]; rfl
        have z0 := yd9 hI.res 0
        have z1 := yd9 hI.res 1
        have z2 := yd9 hI.res 2
        have z3 := yd9 hI.res 3
        have z4 := yd9 hI.res 4
        have z5 := yd9 hI.res 5
        have HI2 := Aside0.mk hI
        clear hI
        go_wp2_with fail
        obtain ⟨Wf, hWf⟩ : ∃ Wf, (((((wr.setCell ⟨w.heap.size + 1, 0, none⟩ (.int .i64 k)).setCell ⟨w.heap.size + 1, 1, none⟩ (.string nm.f0)).setCell ⟨w.heap.size + 1, 2, none⟩ (.string nm.f1)).setCell ⟨w.heap.size + 1, 3, none⟩ (.slice B3 at'.length e3)).setCell ⟨w.heap.size + 1, 4, none⟩ (.slice B4 kids.length e4)).setCell ⟨w.heap.size + 1, 5, none⟩ (.string x) = Wf := ⟨_, rfl⟩
        rw [hWf]
        have hI := HI2.out
        have far : ∀ q, q ≠ w.heap.size + 1 → Wf.heap[q]? = wr.heap[q]? := by
          intro q hq
          rw [← hWf]
          exact (Below.heap_setCell _ ⟨w.heap.size + 1, 5, none⟩ _ q hq).trans ((Below.heap_setCell _ ⟨w.heap.size + 1, 4, none⟩ _ q hq).trans ((Below.heap_setCell _ ⟨w.heap.size + 1, 3, none⟩ _ q hq).trans ((Below.heap_setCell _ ⟨w.heap.size + 1, 2, none⟩ _ q hq).trans ((Below.heap_setCell _ ⟨w.heap.size + 1, 1, none⟩ _ q hq).trans (Below.heap_setCell _ ⟨w.heap.size + 1, 0, none⟩ _ q hq)))))
        have hblk : Wf.heap[w.heap.size + 1]? = some (.cells #[.int .i64 k, .string nm.f0, .string nm.f1, .slice B3 at'.length e3, .slice B4 kids.length e4, .string x] 27 (0, 0)) := by
          rw [← hWf]
          exact yk0 (yk0 (yk0 (yk0 (yk0 (yk0 hI.res 0 _) 1 _) 2 _) 3 _) 4 _) 5 _
        have hbf : Below w.heap.size w Wf := by
          rw [← hWf]
          exact (((((hI.hb.setCell (p := ⟨w.heap.size + 1, 0, none⟩) (Nat.le_succ _) _).setCell (p := ⟨w.heap.size + 1, 1, none⟩) (Nat.le_succ _) _).setCell (p := ⟨w.heap.size + 1, 2, none⟩) (Nat.le_succ _) _).setCell (p := ⟨w.heap.size + 1, 3, none⟩) (Nat.le_succ _) _).setCell (p := ⟨w.heap.size + 1, 4, none⟩) (Nat.le_succ _) _).setCell (p := ⟨w.heap.size + 1, 5, none⟩) (Nat.le_succ _) _
        have r3 : kAt.R 63 Wf w.heap.size (fun _ => True) (.slice B3 at'.length e3) at' := Kd.R_mono (Kd.R_step hI.ra (fun q hq _ => far q (by omega))) (fun _ _ => trivial)
        have r4 : kNd.R 27 Wf w.heap.size (fun _ => True) (.slice B4 kids.length e4) kids := by
          have h1 := rows_nodes (base := w.heap.size) hI.rx hI.len (by have := hI.h1; omega) (fun q hq => hq.1) (fun j d y hd hy => hI.new j d y (by
            rcases Nat.lt_or_ge j kids.length with h | h
            · exact h
            · rw [List.getElem?_eq_none h] at hd; cases hd) hd hy)
          refine Kd.R_mono (Kd.R_step h1 (fun q hq _ => far q ?_)) (fun _ _ => trivial)
          rcases hq with hq | hq
          · omega
          · have hb := Kd.R_base hI.rx q hq.symm
            have := hI.h1
            omega
        have y0 : Wf.cell? ⟨w.heap.size + 1, 0, none⟩ = some (.int .i64 k) := by rw [Lib.cell_of_heap hblk]; rfl
        have y1 : Wf.cell? ⟨w.heap.size + 1, 1, none⟩ = some (.string nm.f0) := by rw [Lib.cell_of_heap hblk]; rfl
        have y2 : Wf.cell? ⟨w.heap.size + 1, 2, none⟩ = some (.string nm.f1) := by rw [Lib.cell_of_heap hblk]; rfl
        have y3 : Wf.cell? ⟨w.heap.size + 1, 3, none⟩ = some (.slice B3 at'.length e3) := by rw [Lib.cell_of_heap hblk]; rfl
        have y4 : Wf.cell? ⟨w.heap.size + 1, 4, none⟩ = some (.slice B4 kids.length e4) := by rw [Lib.cell_of_heap hblk]; rfl
        have y5 : Wf.cell? ⟨w.heap.size + 1, 5, none⟩ = some (.string x) := by rw [Lib.cell_of_heap hblk]; rfl
        refine bodyPost_ret (v := .agg #[.int .i64 k, .string nm.f0, .string nm.f1, .slice B3 at'.length e3, .slice B4 kids.length e4, .string x]) ?_ rfl ⟨_, _, rfl, r3, r4, hbf⟩
        simp [results, Tryd.results13, go_sem, y0, y1, y2, y3, y4, y5]
/-- Every node is copied. -/
theorem copy_calls : ∀ (m : Nat) (n : Nd), Prt.wt n < m → Prt.wt n ≤ 1000000 → ys1 n := by
  intro m
  induction m with
  | zero => intro n h; omega
  | succ m ih =>
    intro n hm hw
    obtain ⟨k, nm, t, c, x⟩ := n
    have e : Prt.wt ⟨k, nm, t, c, x⟩ = 1 + nm.f0.size + nm.f1.size + Prt.wAs t + Prt.wts c + x.size := by rw [Prt.wt]
    have h2 := Prt.ym5 t
    have h3 := yp5 c
    refine copy_step _ (by show t.length ≤ _; omega) (by show c.length ≤ _; omega) (fun d hd => ?_)
    obtain ⟨i, hi, rfl⟩ := List.getElem_of_mem (show d ∈ c from hd)
    have := Prt.yp6 c i hi
    exact ih _ (by omega) (by omega)
end Go.Proofs.YtffpbhbiamkkpaaDoor.ND
