/- pidf.encode: a tuple's element. -/
import Derived.Test.YtidkjifilgjgfaaDoorMx13
import Derived.Test.YtidkjifilgjgfaaDoorMx14
import Derived.Test.YtidkjifilgjgfaaDoorFmtU
import Derived.Lib.ItoaLen
import Derived.Test.YtidkjifilgjgfaaDoorWApart
import Derived.Deep.RegionLaw
import Derived.Deep.RegionHeld3
import Derived.Deep.LoopGhost
import Derived.Deep.QuietTactic
import Derived.Deep.RegionWith
import Derived.IntWalk
namespace Go.Proofs.YtidkjifilgjgfaaDoor.Pd
open Go Go.RowKit Go.Proofs.YtidkjifilgjgfaaDoorW.PrintWords Go.Proofs.YtidkjifilgjgfaaDoorW.PrintLast Go.Proofs.YtidkjifilgjgfaaDoorW.PrintMore
open Go.Proofs.YtidkjifilgjgfaaDoor.ND (Nm At Nd kNm kAt kNd yk3 yj7 yl5 zNd zNm)
set_option linter.unusedVariables false
set_option linter.unusedSimpArgs false
def spF : ByteArray := ⟨#[117, 114, 110, 58, 105, 101, 116, 102, 58, 112, 97, 114, 97, 109, 115, 58, 120, 109, 108, 58, 110, 115, 58, 112, 105, 100, 102]⟩
def spR : ByteArray := ⟨#[117, 114, 110, 58, 105, 101, 116, 102, 58, 112, 97, 114, 97, 109, 115, 58, 120, 109, 108, 58, 110, 115, 58, 112, 105, 100, 102, 58, 114, 112, 105, 100]⟩
theorem yo7 (a : ByteArray) (w : World) : Calls Tryd.prog 28 #[.string a] w fun e w' => e = .returned (.agg #[.string spF, .string a]) ∧ Bw w w' :=
  PL.pidf_f.calls a spF a w rfl
theorem class_calls (w : World) : Calls Tryd.prog 38 #[] w fun e w' => e = .returned (.agg #[.string spR, .string ⟨#[99, 108, 97, 115, 115]⟩]) ∧ Bw w w' :=
  PL.yn9.calls spR ⟨#[99, 108, 97, 115, 115]⟩ w rfl
abbrev tc (x0 x1 x2 x3 : ByteArray) (x4 : Int) (v5 : Value) (x6 : Int) : Array Value := #[.string x0, .string x1, .string x2, .string x3, .int .i64 x4, v5, .int .u64 x6]
abbrev zc : Array Value := #[.int .i64 0, .string ⟨#[]⟩, .string ⟨#[]⟩, .slice none 0 0, .slice none 0 0, .string ⟨#[]⟩]
abbrev sTuple : ByteArray := ⟨#[116, 117, 112, 108, 101]⟩
abbrev yj4 : ByteArray := ⟨#[115, 116, 97, 116, 117, 115]⟩
abbrev sBasic : ByteArray := ⟨#[98, 97, 115, 105, 99]⟩
abbrev sClass : ByteArray := ⟨#[99, 108, 97, 115, 115]⟩
abbrev yf6 : ByteArray := ⟨#[99, 111, 110, 116, 97, 99, 116]⟩
abbrev sPrio : ByteArray := ⟨#[112, 114, 105, 111, 114, 105, 116, 121]⟩
abbrev sNote : ByteArray := ⟨#[110, 111, 116, 101]⟩
abbrev sStamp : ByteArray := ⟨#[116, 105, 109, 101, 115, 116, 97, 109, 112]⟩
abbrev sId : ByteArray := ⟨#[105, 100]⟩
/-- An element under way: its box g, its attributes, its kids. -/
structure El (w : World) (g : Nat) (a b : ByteArray) (ats : List At) (kids : List Nd) (W : World) : Prop where
  hb : Bw w W
  low : w.heap.size + 2 ≤ g
  ex : ∃ v3 v4, W.heap[g]? = some (.cells (nc 1 a b v3 v4 ⟨#[]⟩) 54 (0, 0)) ∧ kAt.R 84 W w.heap.size (fun k => k ≠ g ∧ w.heap.size + 2 ≤ k) v3 ats ∧ kNd.R 54 W w.heap.size (fun k => k ≠ g ∧ w.heap.size + 2 ≤ k) v4 kids
theorem El.first {w w1 : World} {a b : ByteArray} {ats : List At} {kids : List Nd} {v3 v4 : Value} (hB : Bw w w1) (hw : w.heap.size + 2 ≤ w1.heap.size) (r3 : kAt.R 84 w1 w.heap.size (fun k => k ≠ w1.heap.size ∧ w.heap.size + 2 ≤ k) v3 ats) (r4 : kNd.R 54 w1 w.heap.size (fun k => k ≠ w1.heap.size ∧ w.heap.size + 2 ≤ k) v4 kids) :
    El w w1.heap.size a b ats kids (w1.alloc (.cells (nc 1 a b v3 v4 ⟨#[]⟩) 54)) :=
  ⟨hB.alloc _, hw, v3, v4, heap_alloc_last _ _, Kd.yd7 r3 _, Kd.yd7 r4 _⟩
theorem El.set {w w1 : World} {g : Nat} {a b : ByteArray} {ats : List At} {kids : List Nd} {v3 v4 : Value} (hB : Bw w w1) (hw : w.heap.size + 2 ≤ g) (hz : w1.heap[g]? = some (.cells zc 54 (0, 0))) (r3 : kAt.R 84 w1 w.heap.size (fun k => k ≠ g ∧ w.heap.size + 2 ≤ k) v3 ats) (r4 : kNd.R 54 w1 w.heap.size (fun k => k ≠ g ∧ w.heap.size + 2 ≤ k) v4 kids) :
    El w g a b ats kids ((((((w1.setCell ⟨g, 0, none⟩ (.int .i64 1)).setCell ⟨g, 1, none⟩ (.string a)).setCell ⟨g, 2, none⟩ (.string b)).setCell ⟨g, 3, none⟩ v3).setCell ⟨g, 4, none⟩ v4).setCell ⟨g, 5, none⟩ (.string ⟨#[]⟩)) := by
  have hl : w.heap.size ≤ g := by omega
  refine ⟨(((((hB.set ⟨g, 0, none⟩ _ hl).set ⟨g, 1, none⟩ _ hl).set ⟨g, 2, none⟩ _ hl).set ⟨g, 3, none⟩ _ hl).set ⟨g, 4, none⟩ _ hl).set ⟨g, 5, none⟩ _ hl, hw, v3, v4, yg3 (yg3 (yg3 (yg3 (yg3 (yg3 hz 0 _) 1 _) 2 _) 3 _) 4 _) 5 _, ?_, ?_⟩
  · exact Kd.R_far (p := ⟨g, 5, none⟩) (Kd.R_far (p := ⟨g, 4, none⟩) (Kd.R_far (p := ⟨g, 3, none⟩) (Kd.R_far (p := ⟨g, 2, none⟩) (Kd.R_far (p := ⟨g, 1, none⟩) (Kd.R_far (p := ⟨g, 0, none⟩) r3 (fun _ h => h.1) _) (fun _ h => h.1) _) (fun _ h => h.1) _) (fun _ h => h.1) _) (fun _ h => h.1) _) (fun _ h => h.1) _
  · exact Kd.R_far (p := ⟨g, 5, none⟩) (Kd.R_far (p := ⟨g, 4, none⟩) (Kd.R_far (p := ⟨g, 3, none⟩) (Kd.R_far (p := ⟨g, 2, none⟩) (Kd.R_far (p := ⟨g, 1, none⟩) (Kd.R_far (p := ⟨g, 0, none⟩) r4 (fun _ h => h.1) _) (fun _ h => h.1) _) (fun _ h => h.1) _) (fun _ h => h.1) _) (fun _ h => h.1) _) (fun _ h => h.1) _
theorem yq4 {α : Type} {d : Kd α} {e base n c : Nat} {ok : Nat → Prop} {W : World} {A : Option Addr} {xs : List α} (h : d.R e W base ok (.slice A n c) xs) : yf4 (d.M W base (fun k => ok k ∧ some k ≠ (Value.slice A n c).ownBlock)) d.sz W A n xs := by
  obtain ⟨A', c', he, _, hr⟩ := OwnRow.reads h.2
  injection he with h1 h2 h3
  subst h1 h2 h3
  exact hr
/-- A row that a call has made, as the region that the call stands in sees it. -/
theorem rowT {α : Type} {d : Kd α} {e base : Nat} {W0 W w1 : World} {v : Value} {xs : List α} (h : d.R e w1 W.heap.size (fun k => W.heap.size ≤ k) v xs) (hs : W0.heap.size ≤ W.heap.size) (hb : base ≤ W0.heap.size) : d.R e w1 base (fun k => W0.heap.size ≤ k) v xs :=
  Bw.row (Bw.refl _) h (Nat.le_trans hb hs) (fun k h1 h2 h3 => Nat.le_trans hs h1)
theorem yl2 (a b s : ByteArray) : (textN a b s).length ≤ 1 := by
  unfold textN
  split <;> simp
theorem yr6 (a b : ByteArray) (l : List ByteArray) : (l.flatMap (textN a b)).length ≤ l.length := by
  induction l with
  | nil => simp
  | cons s l ih =>
    have := yl2 a b s
    rw [List.flatMap_cons, List.length_append, List.length_cons]
    omega
theorem ym9 (a b s : ByteArray) (w : World) :
    Calls Tryd.prog 30 #[.agg #[.string a, .string b], .string s] w fun e w' => ∃ v, e = .returned v ∧ kNd.R 54 w' w.heap.size (fun k => w.heap.size ≤ k) v (textN a b s) ∧ Bw w w' ∧ (textN a b s).length ≤ 1 :=
  (text_calls a b s w).mono fun e w' ⟨v, he, hR, hb⟩ => ⟨v, he, hR, hb, yl2 a b s⟩
theorem infoNd : (Tryd.prog.info? 54).map (fun i => (i.zero, i.size, i.bytes)) = some (some (.agg #[.int .i64 0, .string ⟨#[]⟩, .string ⟨#[]⟩, .slice none 0 0, .slice none 0 0, .string ⟨#[]⟩]), kNd.sz, 104) := by kernel_rfl
/-- The box and the result's box stand. -/
structure Xb (b : Nat) (x0 x1 x2 x3 : ByteArray) (x4 : Int) (v5 : Value) (x6 : Int) (W : World) : Prop where
  hx : W.heap[b]? = some (.cells (tc x0 x1 x2 x3 x4 v5 x6) 38 (0, 0))
  hz : W.heap[b + 1]? = some (.cells zc 54 (0, 0))
/-- The slots of the boxes. -/
def Sl (b g : Nat) (a : Act) : Prop := a.tmps.getD 1 undef = .pointer (some ⟨b, 0, none⟩) ∧ a.tmps.getD 2 undef = .pointer (some ⟨b + 1, 0, none⟩) ∧ a.tmps.getD 3 undef = .pointer (some ⟨g, 0, none⟩)
def itoaB (n : Int) : ByteArray := ⟨(Lib.itoa n).toArray⟩
theorem itoaB_pos (u : Nat) : (1 : Int) ≤ ((itoaB (u : Int)).size : Int) := by
  have h : 1 ≤ (itoaB (u : Int)).size := by
    unfold itoaB
    rw [Lib.size_eq, Lib.itoa_nonneg]
    show 1 ≤ (Lib.decDigits u).length
    rw [Lib.decDigits_length]
    exact Lib.nDigits_pos u
  omega
/-- A priority's digits. -/
def prioS (p : Int) : ByteArray := if p < 1000 then ⟨#[48, 46]⟩ ++ (itoaB (1000 + p)).extract 1 (itoaB (1000 + p)).size else ⟨#[49]⟩
/-- A contact's element. -/
def conN (x2 : ByteArray) (x4 : Int) : List Nd := if x4 > 0 then [⟨1, ⟨spF, yf6⟩, [⟨⟨⟨#[]⟩, sPrio⟩, prioS x4⟩], [txN x2], ⟨#[]⟩⟩] else textN spF yf6 x2
def stampN (x6 : Int) : List Nd := if x6 > 0 then textN spF sStamp (itoaB x6) else []
/-- A tuple's element's kids. -/
def kidsN (x1 x2 x3 : ByteArray) (x4 : Int) (x5 : List ByteArray) (x6 : Int) : List Nd := [elN spF yj4 (textN spF sBasic x1)] ++ textN spR sClass x3 ++ conN x2 x4 ++ x5.flatMap (textN spF sNote) ++ stampN x6
/-- On the way on alone. -/
def OnN (R : Act → World → Prop) : Exit → Act → World → Prop
  | .normal, a, w => R a w
  | _, _, _ => False
theorem El.below {w W W1 : World} {g : Nat} {a b : ByteArray} {ats : List At} {kids : List Nd} (h : El w g a b ats kids W) (hB : Bw W W1) : El w g a b ats kids W1 := by
  obtain ⟨hb, low, v3, v4, hg, h3, h4⟩ := h
  exact ⟨hb.trans hB, low, v3, v4, hB.block hg, Kd.ye5 h3 hB, Kd.ye5 h4 hB⟩
/-- Kids come to an element. -/
theorem El.more {w W W1 w5 : World} {g : Nat} {a b : ByteArray} {ats : List At} {kids new : List Nd} {v3 v4 v4' : Value} (h : El w g a b ats kids W) (hB : Bw W W1)
    (hg : W.heap[g]? = some (.cells (nc 1 a b v3 v4 ⟨#[]⟩) 54 (0, 0))) (h3 : kAt.R 84 W w.heap.size (fun k => k ≠ g ∧ w.heap.size + 2 ≤ k) v3 ats) (h4 : kNd.R 54 W w.heap.size (fun k => k ≠ g ∧ w.heap.size + 2 ≤ k) v4 kids)
    (hg5 : W1.grownBy w5 v4.ownBlock) (h5 : kNd.R 54 w5 w.heap.size (fun k => k ≠ g ∧ w.heap.size + 2 ≤ k) v4' (kids ++ new)) :
    El w g a b ats (kids ++ new) (w5.setCell ⟨g, 4, none⟩ v4') ∧ (∀ k, k < w.heap.size + 2 → (w5.setCell ⟨g, 4, none⟩ v4').heap[k]? = W.heap[k]?) := by
  have hw : Bw w W1 := h.hb.trans hB
  have hown : ∀ k, v4.ownBlock = some k → k ≠ g ∧ w.heap.size + 2 ≤ k ∧ k < W.heap.size := fun k hk => ⟨(h4.1 k hk).1, (h4.1 k hk).2, Kd.R_lt h4 k hk⟩
  have hlow := h.low
  have hs := Bw.size h.hb
  have hs2 := Bw.size hB
  have hgl := blk_lt hg
  have b5 : Bw w w5 := Below.grown hw hg5 hw.size (fun k hk => by have := (hown k hk).2.1; omega)
  have k1 : ∀ k, k < W.heap.size → some k ≠ v4.ownBlock → w5.heap[k]? = W.heap[k]? := fun k hk hn => (hg5.block k (by omega) hn).trans (Below.block hB k hk)
  have hg5' : w5.heap[g]? = some (.cells (nc 1 a b v3 v4 ⟨#[]⟩) 54 (0, 0)) := (k1 g hgl (fun e => (hown g e.symm).1 rfl)).trans hg
  refine ⟨⟨b5.set ⟨g, 4, none⟩ _ (show w.heap.size ≤ g by omega), hlow, v3, v4', yg3 hg5' 4 _, ?_, Kd.R_far (p := ⟨g, 4, none⟩) h5 (fun _ h => h.1) _⟩, fun k hk => ?_⟩
  · refine Kd.R_far (p := ⟨g, 4, none⟩) ?_ (fun _ h => h.1) _
    exact Kd.R_over' (Kd.ye5 h3 hB) (fun k hk => by
      obtain ⟨cells, hc⟩ := Kd.R_typed h4 k hk
      exact ⟨cells, hB.block hc⟩) (by decide) hg5
  · rw [show (w5.setCell ⟨g, 4, none⟩ v4').heap[k]? = w5.heap[k]? from Below.heap_setCell w5 ⟨g, 4, none⟩ v4' k (show k ≠ g by omega)]
    exact k1 k (by omega) (fun e => by have := (hown k e.symm).2.1; omega)
set_option maxHeartbeats 40000000 in
set_option maxRecDepth 100000 in
theorem encode_calls (x0 x1 x2 x3 : ByteArray) (x4 : Int) (x5 : List ByteArray) (x6 : Int) (A5 : Option Addr) (c5 : Nat) (w : World) (h5 : Kd.string.C w A5 x5.length x5) (l5 : x5.length ≤ c5) (hn5 : x5.length ≤ 4) (hT : Refs.Tens w) (hp0 : 0 ≤ x4) (hp1 : x4 ≤ 1000) (hp2 : x4 > 0 → x2.toList ≠ []) (hs0 : 0 ≤ x6) (hs1 : x6 ≤ 4294967295) :
    Calls Tryd.prog 29 #[.agg (tc x0 x1 x2 x3 x4 (.slice A5 x5.length c5) x6)] w fun e w' => ∃ v3 v4, e = .returned (.agg (nc 1 spF sTuple v3 v4 ⟨#[]⟩)) ∧ kAt.R 84 w' w.heap.size (fun k => w.heap.size ≤ k) v3 [⟨⟨⟨#[]⟩, sId⟩, x0⟩] ∧ kNd.R 54 w' w.heap.size (fun k => w.heap.size ≤ k) v4 (kidsN x1 x2 x3 x4 x5 x6) ∧ Bw w w' := by
  have HP := Aside0.mk (And.intro hp0 (And.intro hp1 hp2))
  have HSX := Aside0.mk (And.intro hs0 hs1)
  have HTN := Aside0.mk hT
  have HN5 := Aside0.mk hn5
  have HL5 := Aside0.mk l5
  clear hp0 hp1 hp2 hs0 hs1 hT hn5 l5
  go_enter Tryd.func29, Tryd.ntmps29
  go_wp2_with fail
  obtain ⟨b, hb⟩ : ∃ b, b = w.heap.size := ⟨_, rfl⟩
  obtain ⟨W0, hW0⟩ : ∃ W0, (w.alloc (.cells (tc x0 x1 x2 x3 x4 (.slice A5 x5.length c5) x6) 38)).alloc (.cells zc 54) = W0 := ⟨_, rfl⟩
  rw [hW0]
  have B0 : Bw w W0 := hW0 ▸ ((Bw.refl w).alloc _).alloc _
  have hx : W0.heap[b]? = some (.cells (tc x0 x1 x2 x3 x4 (.slice A5 x5.length c5) x6) 38 (0, 0)) := by
    rw [hb, ← hW0]
    exact Bw.last2 (Bw.refl _)
  have hz : W0.heap[b + 1]? = some (.cells zc 54 (0, 0)) := by
    rw [hb, ← hW0]
    have h := heap_alloc_last (w.alloc (.cells (tc x0 x1 x2 x3 x4 (.slice A5 x5.length c5) x6) 38)) (.cells zc 54)
    rw [show (w.alloc (.cells (tc x0 x1 x2 x3 x4 (.slice A5 x5.length c5) x6) 38)).heap.size = w.heap.size + 1 by simp] at h
    exact h
  have hs0 : W0.heap.size = b + 2 := by rw [hb, ← hW0]; simp
  clear hW0
  rw [← hb]
  obtain ⟨y0, y1, y2, y3, y4, y5, y6⟩ := box7 hx
  have HX := Aside0.mk hx
  have HZ0 := Aside0.mk hz
  have HS0 := Aside0.mk hs0
  have HC5 := Aside0.mk h5
  have HBB := Aside0.mk hb
  clear hx hz hs0 h5 hb
  refine yi4 (Q := OnN fun a' W' => Fr 84 a' ∧ a'.tmps.getD 1 undef = .pointer (some ⟨b, 0, none⟩) ∧ a'.tmps.getD 2 undef = .pointer (some ⟨b + 1, 0, none⟩) ∧ ∃ g, a'.tmps.getD 3 undef = .pointer (some ⟨g, 0, none⟩) ∧ Bw W0 W' ∧ El w g spF sTuple [⟨⟨⟨#[]⟩, sId⟩, x0⟩] [elN spF yj4 (textN spF sBasic x1)] W') ?reg1 ?_
  case reg1 =>
    have L0 : ∀ W', Bw W0 W' → W'.cell? ⟨b, 0, none⟩ = some (.string x0) := fun W' h => h.cell y0
    have L1 : ∀ W', Bw W0 W' → W'.cell? ⟨b, 1, none⟩ = some (.string x1) := fun W' h => h.cell y1
    have HB0 := Aside0.mk B0
    clear y0 y1 y2 y3 y4 y5 y6 B0
    go_region_held3 (fun w' => Bw W0 w') (with_reducible (first | assumption | exact Bw.drew (Bw.refl _) | exact Bw.alloc (by assumption) _ | exact Bw.trans (by assumption) (by assumption) | (with_reducible (repeat (first | assumption | exact Bw.refl _ | apply Bw.alloc | apply Bw.drew | apply Bw.drewN | refine Bw.trans ?_ (by assumption))); done) | ((repeat (first | assumption | exact Bw.refl _ | apply Bw.alloc | apply Bw.drew | apply Bw.drewN | (refine Bw.set ?_ _ _ ?_; rotate_left; (dsimp only); (first | exact Bw.size (by with_reducible (repeat (first | assumption | exact Bw.refl _ | apply Bw.alloc | apply Bw.drew | apply Bw.drewN | refine Bw.trans ?_ (by assumption)))) | exact Nat.le_succ_of_le (Bw.size (by with_reducible (repeat (first | assumption | exact Bw.refl _ | apply Bw.alloc | apply Bw.drew | apply Bw.drewN | refine Bw.trans ?_ (by assumption))))))) | refine Bw.trans ?_ (by assumption))); done)))
      (first
        | (go_at_call 28; (with_reducible refine (yo7 _ _).mono ?_); rintro e w1 ⟨rfl, hb1⟩; (have hsz := Bw.size hb1; (try simp only [ye3, yi9] at hsz)); (first | with_reducible (first | (have HZ := Aside0.mk (Bw.block hb1 HZ.out)) | (have HZ := Aside0.mk (Bw.block hb1 (Bw.block ((Bw.refl _).alloc _) HZ.out))) | (have HZ := Aside0.mk (Bw.last (o := .cells zc 54) hb1)) | (have HZ := Aside0.mk (Bw.lastd (o := .cells zc 54) hb1)) | (have HZ := Aside0.mk (Bw.last2 (o := .cells zc 54) hb1))) | skip))
        | (go_at_call 30; (with_reducible refine (text_calls _ _ _ _).mono ?_); rintro e wt ⟨v, rfl, hR, hb1⟩; obtain ⟨A13, c13, rfl⟩ := Kd.yd9 hR; (try simp only [ye3] at hR); have HR13 := Aside0.mk hR; clear hR; (have hsz := Bw.size hb1; (try simp only [ye3, yi9] at hsz)); (first | with_reducible (first | (have HZ := Aside0.mk (Bw.block hb1 HZ.out)) | (have HZ := Aside0.mk (Bw.block hb1 (Bw.block ((Bw.refl _).alloc _) HZ.out))) | (have HZ := Aside0.mk (Bw.last (o := .cells zc 54) hb1)) | (have HZ := Aside0.mk (Bw.lastd (o := .cells zc 54) hb1)) | (have HZ := Aside0.mk (Bw.last2 (o := .cells zc 54) hb1))) | skip))
        | (go_at_call 27; (with_reducible refine (yr7 _ _ _ _ _ _).mono ?_); rintro e w1 ⟨rfl, hb1⟩; (have hsz := Bw.size hb1; (try simp only [ye3, yi9] at hsz)); (first | with_reducible (first | (have HZ := Aside0.mk (Bw.block hb1 HZ.out)) | (have HZ := Aside0.mk (Bw.block hb1 (Bw.block ((Bw.refl _).alloc _) HZ.out))) | (have HZ := Aside0.mk (Bw.last (o := .cells zc 54) hb1)) | (have HZ := Aside0.mk (Bw.lastd (o := .cells zc 54) hb1)) | (have HZ := Aside0.mk (Bw.last2 (o := .cells zc 54) hb1))) | skip); (first | with_reducible (first | (have HP := Aside0.mk (Bw.block hb1 HP.out)) | (have HP := Aside0.mk (Bw.block hb1 (Bw.block ((Bw.refl _).alloc _) HP.out))) | (have HP := Aside0.mk (Bw.last (o := .cells (nc 1 spF yj4 (.slice none 0 0) (.slice A13 _ c13) ⟨#[]⟩) 54) hb1)) | (have HP := Aside0.mk (Bw.last2 (o := .cells (nc 1 spF yj4 (.slice none 0 0) (.slice A13 _ c13) ⟨#[]⟩) 54) hb1))) | skip))
        | (go_at_call 26; (with_reducible refine (yj5 _ _ _ _ _ _ _ _ _ _ _ rfl).mono ?_); rintro e w1 ⟨v3, rfl, hR, hb1⟩; obtain ⟨A3, c3, rfl⟩ := Kd.yd9 hR; (try simp only [ye3] at hR); have HR3 := Aside0.mk hR; clear hR; with_reducible (first | (have HZ := Aside0.mk (Bw.block hb1 HZ.out)) | (have HZ := Aside0.mk (Bw.block hb1 (Bw.block ((Bw.refl _).alloc _) HZ.out))) | (have HZ := Aside0.mk (Bw.last (o := .cells zc 54) hb1)) | (have HZ := Aside0.mk (Bw.lastd (o := .cells zc 54) hb1)) | (have HZ := Aside0.mk (Bw.last2 (o := .cells zc 54) hb1))); obtain ⟨z0, z1, z2, z3, z4, z5⟩ := box6 HZ.out; obtain ⟨q0, q1, q2, q3, q4, q5⟩ := fr6 HZ.out; (try simp only [ye3] at z0 z1 z2 z3 z4 z5 q0 q1 q2 q3 q4 q5); (have hsz := Bw.size hb1; (try simp only [ye3, yi9] at hsz)); (first | with_reducible (first | (have HP := Aside0.mk (Bw.block hb1 HP.out)) | (have HP := Aside0.mk (Bw.block hb1 (Bw.block ((Bw.refl _).alloc _) HP.out))) | (have HP := Aside0.mk (Bw.last (o := .cells (nc 1 spF yj4 (.slice none 0 0) (.slice A13 _ c13) ⟨#[]⟩) 54) hb1)) | (have HP := Aside0.mk (Bw.last2 (o := .cells (nc 1 spF yj4 (.slice none 0 0) (.slice A13 _ c13) ⟨#[]⟩) 54) hb1))) | skip))
        | (go_at_call 26; (with_reducible refine (yj5 _ _ _ _ _ _ _ _ _ _ _ rfl).mono ?_); rintro e w1 ⟨v3, rfl, hR, hb1⟩; obtain ⟨A3, c3, rfl⟩ := Kd.yd9 hR; (try simp only [ye3] at hR); have HR3 := Aside0.mk hR; clear hR; (have hsz := Bw.size hb1; (try simp only [ye3, yi9] at hsz)); (first | with_reducible (first | (have HP := Aside0.mk (Bw.block hb1 HP.out)) | (have HP := Aside0.mk (Bw.block hb1 (Bw.block ((Bw.refl _).alloc _) HP.out))) | (have HP := Aside0.mk (Bw.last (o := .cells (nc 1 spF yj4 (.slice none 0 0) (.slice A13 _ c13) ⟨#[]⟩) 54) hb1)) | (have HP := Aside0.mk (Bw.last2 (o := .cells (nc 1 spF yj4 (.slice none 0 0) (.slice A13 _ c13) ⟨#[]⟩) 54) hb1))) | skip)))
    all_goals refine ⟨⟨rfl, rfl⟩, rfl, rfl, _, rfl, by assumption, ?_⟩
    all_goals
      have hs0 := HS0.out
      have hd0 : W0.drew.heap.size = W0.heap.size := rfl
      have hbb := HBB.out
      have hT : Bw wt w1 := by with_reducible (repeat (first | assumption | exact Bw.refl _ | apply Bw.alloc | apply Bw.drew | apply Bw.drewN | refine Bw.trans ?_ (by assumption)))
      have hW1 : Bw W0 w1 := by with_reducible (repeat (first | assumption | exact Bw.refl _ | apply Bw.alloc | apply Bw.drew | apply Bw.drewN | refine Bw.trans ?_ (by assumption)))
      have hs1 := Bw.size hW1
      have HP2 := HP.out
      try simp only [ye3] at HP2
      obtain ⟨lo, hlo, r13⟩ : ∃ lo, lo = _ ∧ kNd.R 54 w1 w.heap.size (fun k => lo ≤ k ∧ k < wt.heap.size) (.slice A13 (textN spF sBasic x1).length c13) (textN spF sBasic x1) := ⟨_, rfl, Bw.row hT HR13.out (by omega) (fun k h1 h2 h3 => ⟨h2, h3⟩)⟩
      have r3 : kAt.R 84 w1 w.heap.size _ (.slice A3 1 c3) [⟨⟨⟨#[]⟩, sId⟩, x0⟩] := Bw.row (Bw.refl _) HR3.out (by omega) (fun k h1 h2 h3 => And.intro h2 h3)
      have r4 := R_one (d := kNd) (base := w.heap.size) (ok := fun k => k = _ ∨ (lo ≤ k ∧ k < wt.heap.size)) (okp := fun k => lo ≤ k ∧ k < wt.heap.size) (cs := [.int .i64 1, .string spF, .string yj4, .slice none 0 0, .slice A13 (textN spF sBasic x1).length c13, .string ⟨#[]⟩]) HP2 (by omega) (yj7 _ _ _ (elN spF yj4 (textN spF sBasic x1)) (Kd.R_nil _ _ _ _ _) r13) (Or.inl rfl) (fun k hk => ⟨Or.inr hk, by omega⟩)
      first
        | (have HZ2 := HZ.out; (try simp only [ye3] at HZ2); (with_reducible refine El.set (HB0.out.trans hW1) ?_ HZ2 ?_ ?_))
        | (with_reducible refine El.first (HB0.out.trans hW1) ?_ ?_ ?_)
      · omega
      · exact Kd.R_mono r3 (fun k hk => ⟨by omega, by omega⟩)
      · exact Kd.R_mono (Kd.yj1 r4) (fun k hk => by have := blk_lt HP2; exact ⟨by omega, by omega⟩)
  intro e a' W1 h
  cases e <;> try exact h.elim
  obtain ⟨hfr, e1, e2, g, e3, B1, E1⟩ := h
  have X1 : Xb b x0 x1 x2 x3 x4 (.slice A5 x5.length c5) x6 W1 := ⟨B1.block HX.out, B1.block HZ0.out⟩
  obtain ⟨f, rfl, hf⟩ := lay84 hfr
  have e1 := (hf 1).symm.trans e1
  have e2 := (hf 2).symm.trans e2
  have e3 := (hf 3).symm.trans e3
  rw [e1, e2, e3]
  clear hfr hf e1 e2 e3 y0 y1 y2 y3 y4 y5 y6
  go_wp2_with fail
  obtain ⟨kids, hk, E1⟩ : ∃ kids, kids = [elN spF yj4 (textN spF sBasic x1)] ∧ El w g spF sTuple [⟨⟨⟨#[]⟩, sId⟩, x0⟩] kids W1 := ⟨_, rfl, E1⟩
  have hkl : kids.length ≤ 1 := by rw [hk]; simp
  have HKK := Aside0.mk hk
  clear hk
  refine yi4 (Q := OnN fun a' W' => Fr 84 a' ∧ Sl b g a' ∧ Xb b x0 x1 x2 x3 x4 (.slice A5 x5.length c5) x6 W' ∧ El w g spF sTuple [⟨⟨⟨#[]⟩, sId⟩, x0⟩] (kids ++ textN spR sClass x3) W') ?reg2 ?_
  case reg2 =>
    obtain ⟨v3, v4, hG, h3, h4⟩ := E1.ex
    obtain ⟨A4, c4, rfl⟩ := Kd.yd9 h4
    have L0 : ∀ W', Bw W1 W' → W'.cell? ⟨b, 3, none⟩ = some (.string x3) := fun W' h => h.cell (box7 X1.hx).2.2.2.1
    have L1 : ∀ W', Bw W1 W' → W'.cell? ⟨g, 4, none⟩ = some (.slice A4 kids.length c4) := fun W' h => h.cell (box6 hG).2.2.2.2.1
    have hw0 : Bw W1 W1.drew := (Bw.refl _).drew
    have HG := Aside0.mk hG
    have H3 := Aside0.mk h3
    have H4 := Aside0.mk h4
    have HE := Aside0.mk E1
    have HXB := Aside0.mk X1
    have HL := Aside0.mk hkl
    have HN := Aside0.mk (show ∀ k, W1.heap.size ≤ k → (k ≠ g ∧ w.heap.size + 2 ≤ k) ∧ some k ≠ (Value.slice A4 kids.length c4).ownBlock from fun k hk => by
      have h1 := blk_lt hG
      have h2 := E1.low
      exact ⟨⟨by omega, by omega⟩, fun e => by have := Kd.R_lt h4 k e.symm; omega⟩)
    clear hG h3 h4 E1 X1 hkl
    go_region_law (first
      | (go_simp; go_at_call 38; (with_reducible refine (class_calls _).mono ?_); rintro e w1 ⟨rfl, hb1⟩; have hw := Bw.trans (a := W1) (by assumption) hb1)
      | (go_simp; go_at_call 30; (with_reducible refine (ym9 _ _ _ _).mono ?_); rintro e w1 ⟨v, rfl, hR, hb1, hln⟩; obtain ⟨A13, c13, rfl⟩ := Kd.yd9 hR; have hw := Bw.trans (a := W1) (by assumption) hb1; have HT := Aside0.mk (rowT (base := w.heap.size) hR (Bw.size (a := W1) (by assumption)) (Bw.size HE.out.hb)); have HLN := Aside0.mk hln; clear hR hln)
      | (refine Kd.yh3 kNd (w0 := w) w.heap.size ?p0 (.tmp 21) (.tmp 25) 52 54 (.agg zc) 104 ?p1 Tryd.underlying52 infoNd rfl (by decide) (by decide) (.slice A4 kids.length c4) kids _ A13 _ c13 (fun k => k ≠ g ∧ w.heap.size + 2 ≤ k) (fun k => W1.heap.size ≤ k) ?p2 ?p3 (Kd.ye5 H4.out hw) (yq4 HT.out) ?p8 ?p5 ?p6 (Bw.trans HE.out.hb hw) ?p7 ?p4 ?_; (case p0 => rfl); (case p1 => rfl); (case p2 => first | rfl | simp [Act.eval, Act.put]); (case p3 => first | rfl | simp [Act.eval, Act.put]); (case p5 => exact fun k hk => HN.out k hk); (case p6 => exact fun k hk => (HN.out k (Nat.le_trans (Bw.size hw) hk)).1); (case p8 => exact fun _ _ h => kNd.M_mono (fun _ hk => hk.1) h); (case p7 => exact Bw.size (Bw.trans HE.out.hb hw)); (case p4 => have := HL.out; have := HLN.out; omega); intro v5 w5 hr5 hb5 hg5 hn5; obtain ⟨A6, c6, rfl⟩ := Kd.yd9 hr5; obtain ⟨hE5, hX5⟩ := El.more HE.out hw HG.out H3.out H4.out hg5 hr5; have HE5 := Aside0.mk hE5; have HX5 := Aside0.mk hX5; have hgk := (hg5.block g (blk_lt (hw.block HG.out)) (fun e => (H4.out.1 g e.symm).1 rfl)).trans (hw.block HG.out); obtain ⟨z0, z1, z2, z3, z4, z5⟩ := box6 hgk; have q4 := yd4 hgk 4; clear z0 z1 z2 z3 z5))
    all_goals (have hE := HE5.out; have hX := HX5.out; (rw [List.length_append] at hE hX); exact ⟨⟨rfl, rfl⟩, ⟨rfl, rfl, rfl⟩, ⟨(hX b (by have := HBB.out; omega)).trans HXB.out.hx, (hX (b + 1) (by have := HBB.out; omega)).trans HXB.out.hz⟩, hE⟩)
  intro e a' W2 h
  cases e <;> try exact h.elim
  obtain ⟨hfr, ⟨e1, e2, e3⟩, X2, E2⟩ := h
  obtain ⟨f', rfl, hf⟩ := lay84 hfr
  have e1 := (hf 1).symm.trans e1
  have e2 := (hf 2).symm.trans e2
  have e3 := (hf 3).symm.trans e3
  rw [e1, e2, e3]
  obtain ⟨kids2, hk2, E2⟩ : ∃ kids2, kids2 = kids ++ textN spR sClass x3 ∧ El w g spF sTuple [⟨⟨⟨#[]⟩, sId⟩, x0⟩] kids2 W2 := ⟨_, rfl, E2⟩
  have hkl2 : kids2.length ≤ 2 := by have := yl2 spR sClass x3; rw [hk2, List.length_append]; omega
  have HKK2 := Aside0.mk hk2
  clear hfr hf e1 e2 e3 hk2 hkl E1 X1 B1
  go_wp2_with fail
  have L0 : ∀ W', Bw W2 W' → W'.cell? ⟨b, 2, none⟩ = some (.string x2) := fun W' h => h.cell (box7 X2.hx).2.2.1
  have HE := Aside0.mk E2
  have HX2 := Aside0.mk X2
  clear E2 X2
  go_region_held3 (fun w' => Bw W2 w') (with_reducible (first | assumption | exact Bw.drew (Bw.refl _) | exact Bw.alloc (by assumption) _ | exact Bw.trans (by assumption) (by assumption) | (with_reducible (repeat (first | assumption | exact Bw.refl _ | apply Bw.alloc | apply Bw.drew | apply Bw.drewN | refine Bw.trans ?_ (by assumption))); done) | ((repeat (first | assumption | exact Bw.refl _ | apply Bw.alloc | apply Bw.drew | apply Bw.drewN | (refine Bw.set ?_ _ _ ?_; rotate_left; (dsimp only); (first | exact Bw.size (by with_reducible (repeat (first | assumption | exact Bw.refl _ | apply Bw.alloc | apply Bw.drew | apply Bw.drewN | refine Bw.trans ?_ (by assumption)))) | exact Nat.le_succ_of_le (Bw.size (by with_reducible (repeat (first | assumption | exact Bw.refl _ | apply Bw.alloc | apply Bw.drew | apply Bw.drewN | refine Bw.trans ?_ (by assumption))))))) | refine Bw.trans ?_ (by assumption))); done)))
    (first
      | (go_at_call 28; (with_reducible refine (yo7 _ _).mono ?_); rintro e w1 ⟨rfl, hb1⟩)
      | (go_at_call 30; (with_reducible refine (ym9 _ _ _ _).mono ?_); rintro e w1 ⟨v, rfl, hR, hb1, hln⟩; obtain ⟨A13, c13, rfl⟩ := Kd.yd9 hR; have HT := Aside0.mk (rowT (W0 := W2) (base := w.heap.size) hR (Bw.size (by assumption)) (Bw.size HE.out.hb)); clear hR hln))
  refine (‹∀ (a : Act) (w : World), Code.wp _ _ _ a w → _› _ _ ?_)
  refine wp_seq_k (fun K9 hK9 => ?_)
  refine yi4 (Q := OnN fun a' W' => Fr 84 a' ∧ Sl b g a' ∧ Bw W2 W' ∧ ∃ Ac n cc, a'.tmps.getD 4 undef = .slice Ac n cc ∧ n ≤ 1 ∧ kNd.R 54 W' w.heap.size (fun k => W2.heap.size ≤ k) (.slice Ac n cc) (conN x2 x4)) ?con ?_
  case con =>
    have hB1 : Bw W2 w1 := by assumption
    have y4 : w1.cell? ⟨b, 4, none⟩ = some (.int .i64 x4) := (hB1.cell (box7 HX2.out.hx).2.2.2.2.1)
    obtain ⟨hp0, hp1, hp2⟩ := HP.out
    by_cases hx4 : x4 > 0
    · have hx2 := hp2 hx4
      have hcn : conN x2 x4 = [⟨1, ⟨spF, yf6⟩, [⟨⟨⟨#[]⟩, sPrio⟩, prioS x4⟩], [txN x2], ⟨#[]⟩⟩] := by unfold conN; rw [if_pos hx4]
      have htn : textN spF yf6 x2 = [elN spF yf6 [txN x2]] := by unfold textN; rw [if_neg hx2]
      have hTR := HT.out
      rw [htn] at hTR
      rw [hcn]
      obtain ⟨G, cap, hv, hG1, hG2, cellsG, hGc⟩ := Kd.R_form hTR (by simp)
      have hv' : Value.slice A13 (textN spF yf6 x2).length c13 = .slice (some ⟨G, 0, none⟩) 1 cap := by rw [htn]; exact hv
      rw [hv]at hTR
      rw [hv']
      have hGW : W2.heap.size ≤ G := hTR.1 G rfl
      obtain ⟨c, hcl, hM, hcc, _⟩ := Kd.R_elem hTR zNd 0 (by omega) (by simp)
      obtain ⟨v3, v4, rfl, r3, r4⟩ := yk3 hM
      obtain ⟨B3, d3, rfl⟩ := Kd.yd9 r3
      obtain ⟨B4, d4, rfl⟩ := Kd.yd9 r4
      have hcc' : ∀ (q : Nat) u, ([.int .i64 1, .string spF, .string yf6, .slice B3 0 d3, .slice B4 1 d4, .string ⟨#[]⟩] : List Value)[q]? = some u → w1.cell? ⟨G, q, none⟩ = some u := fun q u hu => by
        have := hcc q u hu
        simpa using this
      have D0 : ∀ W', Bw w1 W' → W'.cell? ⟨G, 0, none⟩ = some (.int .i64 1) := fun W' h => h.cell (hcc' 0 _ rfl)
      have D1 : ∀ W', Bw w1 W' → W'.cell? ⟨G, 1, none⟩ = some (.string spF) := fun W' h => h.cell (hcc' 1 _ rfl)
      have D2 : ∀ W', Bw w1 W' → W'.cell? ⟨G, 2, none⟩ = some (.string yf6) := fun W' h => h.cell (hcc' 2 _ rfl)
      have D3 : ∀ W', Bw w1 W' → W'.cell? ⟨G, 3, none⟩ = some (.slice B3 0 d3) := fun W' h => h.cell (hcc' 3 _ rfl)
      have D4 : ∀ W', Bw w1 W' → W'.cell? ⟨G, 4, none⟩ = some (.slice B4 1 d4) := fun W' h => h.cell (hcc' 4 _ rfl)
      have D5 : ∀ W', Bw w1 W' → W'.cell? ⟨G, 5, none⟩ = some (.string ⟨#[]⟩) := fun W' h => h.cell (hcc' 5 _ rfl)
      have HCC := Aside0.mk hcc
      have HGC := Aside0.mk hGc
      have HTR := Aside0.mk hTR
      have HR4 := Aside0.mk r4
      have HGW := Aside0.mk hGW
      have HB1 := Aside0.mk hB1
      have q1 := eq_true hx4
      have hw0 : Bw w1 w1 := Bw.refl _
      have HTW := Aside0.mk (Refs.yf2 (Refs.yf2 HTN.out HE.out.hb) hB1)
      clear hcc hcc' hGc hTR r3 r4 hM hGW hcl hcn htn hv hv' hx2 hx4 hp2 HT
      by_cases hx5 : x4 < 1000
      · obtain ⟨u, hu⟩ : ∃ u : Nat, (u : Int) = 1000 + x4 := ⟨(1000 + x4).toNat, by omega⟩
        have f2 : IntKind.i64.wrap (u : Int) = (u : Int) := IntWalk.i64_in _ (by omega)
        have f3 : IntKind.i64.wrap (1000 + x4) = 1000 + x4 := IntWalk.i64_in _ (by omega)
        have HI := Aside0.mk (fun W h => Refs.yo5 u (by omega) W h)
        rw [hu] at HI
        have q2 := eq_true hx5
        have HX5 := Aside0.mk hx5
        obtain ⟨s, hs⟩ : ∃ s, s = (⟨(Lib.itoa (1000 + x4)).toArray⟩ : ByteArray) := ⟨_, rfl⟩
        simp only [← hs] at HI
        have hsz : (1 : Int) ≤ (s.size : Int) := by
          have h1 := itoaB_pos u
          rw [hu] at h1
          rw [hs]
          exact h1
        have g1 := eq_true hsz
        have g2 := eq_false (show ¬ 9223372036854775807 < 2 + (s.size - 1) by
          have h1 := Lib.itoa_length_le (1000 + x4) (by omega) (by omega)
          rw [hs, Lib.size_eq]
          show ¬ 9223372036854775807 < 2 + ((Lib.itoa (1000 + x4)).length - 1)
          omega)
        have HSS := Aside0.mk hs
        clear hs hu hx5 f2
        go_wp2_with (first | (go_at_call 39; (with_reducible refine (HI.out _ HTW.out).mono ?_); rintro e w2 ⟨rfl, hb2⟩; have hw := (show Bw w1 w2 from hb2)) | (go_at_call 26; (with_reducible refine (yj5 _ _ _ _ _ _ _ _ _ _ _ rfl).mono ?_); rintro e w3 ⟨v3, rfl, hR, hb3⟩; obtain ⟨B6, d6, rfl⟩ := Kd.yd9 hR; have hw3 := Bw.trans (a := w1) (by assumption) hb3; obtain ⟨p0, p1, p2, p3, p4, p5⟩ := fr6 (Bw.block hw3 HGC.out); have HR3 := Aside0.mk hR; have HSZ3 := Aside0.mk (And.intro (Bw.size hb3) (Bw.size (a := w1) hw)); clear hR hb3))
        have hSP : prioS x4 = ⟨#[48, 46]⟩ ++ s.extract 1 s.size := by
          unfold prioS itoaB
          rw [if_pos HX5.out, ← HSS.out]
        rw [hSP]
        refine ⟨⟨rfl, rfl⟩, ⟨rfl, rfl, rfl⟩, ?_, _, _, _, rfl, Nat.le_refl 1, ?_⟩
        · exact ((((((HB1.out.trans hw3).set ⟨G, 0, none⟩ _ HGW.out).set ⟨G, 1, none⟩ _ HGW.out).set ⟨G, 2, none⟩ _ HGW.out).set ⟨G, 3, none⟩ _ HGW.out).set ⟨G, 4, none⟩ _ HGW.out).set ⟨G, 5, none⟩ _ HGW.out
        · have t3 := Kd.ye5 HTR.out hw3
          have hss := HSZ3.out
          have hsw := Bw.size (HE.out.hb.trans HB1.out)
          have hW21 := Bw.size HB1.out
          have m := yj7 w3 w.heap.size (fun k => W2.heap.size ≤ k ∧ k ≠ G) ⟨1, ⟨spF, yf6⟩, [⟨⟨⟨#[]⟩, sPrio⟩, ⟨#[48, 46]⟩ ++ s.extract 1 s.size⟩], [txN x2], ⟨#[]⟩⟩ (Bw.row (Bw.refl _) HR3.out (by omega) (fun k h1 h2 h3 => ⟨by omega, by omega⟩)) (Kd.ye5 HR4.out hw3)
          obtain ⟨t4, _⟩ := Kd.R_seg t3 0 (by omega) (by simp) (c := [.int .i64 1, .string spF, .string yf6, .slice B3 0 d3, .slice B4 1 d4, .string ⟨#[]⟩]) (seg := [.int .i64 1, .string spF, .string yf6, .slice B6 1 d6, .slice B4 1 d4, .string ⟨#[]⟩]) (j := 0) rfl (fun q u hu => hw3.cell (HCC.out q u hu)) (Nat.le_refl _) (x' := ⟨1, ⟨spF, yf6⟩, [⟨⟨⟨#[]⟩, sPrio⟩, ⟨#[48, 46]⟩ ++ s.extract 1 s.size⟩], [txN x2], ⟨#[]⟩⟩) m (fun k hk => hk)
          have e0 : (0 : Int).toNat * kNd.sz + 0 = 0 := rfl
          rw [e0] at t4
          simp only [World.setCells, Nat.zero_add, Nat.reduceAdd] at t4
          exact t4
      · have q2 := eq_false hx5
        have HX5 := Aside0.mk hx5
        have hw := Bw.refl w1
        clear hx5
        go_wp2_with (go_at_call 26; (with_reducible refine (yj5 _ _ _ _ _ _ _ _ _ _ _ rfl).mono ?_); rintro e w3 ⟨v3, rfl, hR, hb3⟩; obtain ⟨B6, d6, rfl⟩ := Kd.yd9 hR; have hw3 := Bw.trans (a := w1) (by assumption) hb3; obtain ⟨p0, p1, p2, p3, p4, p5⟩ := fr6 (Bw.block hw3 HGC.out); have HR3 := Aside0.mk hR; have HSZ3 := Aside0.mk (And.intro (Bw.size hb3) (Bw.size (a := w1) hw)); clear hR hb3)
        have hSP : prioS x4 = ⟨#[49]⟩ := by
          unfold prioS itoaB
          rw [if_neg (by have := HX5.out; omega)]
        rw [hSP]
        refine ⟨⟨rfl, rfl⟩, ⟨rfl, rfl, rfl⟩, ?_, _, _, _, rfl, Nat.le_refl 1, ?_⟩
        · exact ((((((HB1.out.trans hw3).set ⟨G, 0, none⟩ _ HGW.out).set ⟨G, 1, none⟩ _ HGW.out).set ⟨G, 2, none⟩ _ HGW.out).set ⟨G, 3, none⟩ _ HGW.out).set ⟨G, 4, none⟩ _ HGW.out).set ⟨G, 5, none⟩ _ HGW.out
        · have t3 := Kd.ye5 HTR.out hw3
          have hss := HSZ3.out
          have hsw := Bw.size (HE.out.hb.trans HB1.out)
          have hW21 := Bw.size HB1.out
          have m := yj7 w3 w.heap.size (fun k => W2.heap.size ≤ k ∧ k ≠ G) ⟨1, ⟨spF, yf6⟩, [⟨⟨⟨#[]⟩, sPrio⟩, ⟨#[49]⟩⟩], [txN x2], ⟨#[]⟩⟩ (Bw.row (Bw.refl _) HR3.out (by omega) (fun k h1 h2 h3 => ⟨by omega, by omega⟩)) (Kd.ye5 HR4.out hw3)
          obtain ⟨t4, _⟩ := Kd.R_seg t3 0 (by omega) (by simp) (c := [.int .i64 1, .string spF, .string yf6, .slice B3 0 d3, .slice B4 1 d4, .string ⟨#[]⟩]) (seg := [.int .i64 1, .string spF, .string yf6, .slice B6 1 d6, .slice B4 1 d4, .string ⟨#[]⟩]) (j := 0) rfl (fun q u hu => hw3.cell (HCC.out q u hu)) (Nat.le_refl _) (x' := ⟨1, ⟨spF, yf6⟩, [⟨⟨⟨#[]⟩, sPrio⟩, ⟨#[49]⟩⟩], [txN x2], ⟨#[]⟩⟩) m (fun k hk => hk)
          have e0 : (0 : Int).toNat * kNd.sz + 0 = 0 := rfl
          rw [e0] at t4
          simp only [World.setCells, Nat.zero_add, Nat.reduceAdd] at t4
          exact t4
    · have hcn : conN x2 x4 = textN spF yf6 x2 := by unfold conN; rw [if_neg hx4]
      have q1 := eq_false hx4
      have HCN := Aside0.mk hcn
      have HHH := Aside0.mk hB1
      clear hcn hx4 hB1 hp0 hp1 hp2
      go_wp2_with fail
      refine ⟨⟨rfl, rfl⟩, ⟨rfl, rfl, rfl⟩, HHH.out, _, _, _, rfl, yl2 _ _ _, ?_⟩
      rw [HCN.out]
      exact HT.out
  intro e a' W3 h
  cases e <;> try exact h.elim
  obtain ⟨hfr, ⟨e1, e2, e3⟩, B3, Ac, n, cc, e4, hn, hR⟩ := h
  obtain ⟨f'', rfl, hf⟩ := lay84 hfr
  have e1 := (hf 1).symm.trans e1
  have e2 := (hf 2).symm.trans e2
  have e3 := (hf 3).symm.trans e3
  have e4 := (hf 4).symm.trans e4
  rw [e1, e2, e3, e4]
  have HR9 := Aside0.mk hR
  clear hfr hf e1 e2 e3 e4 hR
  refine hK9 _ _ ?_
  refine wp_seq_k (fun K10 hK10 => ?_)
  refine yi4 (Q := OnN fun a' W' => Fr 84 a' ∧ Sl b g a' ∧ Xb b x0 x1 x2 x3 x4 (.slice A5 x5.length c5) x6 W' ∧ El w g spF sTuple [⟨⟨⟨#[]⟩, sId⟩, x0⟩] (kids2 ++ conN x2 x4) W') ?reg9 ?_
  case reg9 =>
    obtain ⟨v3, v4, hG, h3, h4⟩ := HE.out.ex
    obtain ⟨A4, c4, rfl⟩ := Kd.yd9 h4
    obtain ⟨con, hcon⟩ : ∃ con, con = conN x2 x4 := ⟨_, rfl⟩
    rw [← hcon] at HR9 ⊢
    have HT := HR9
    obtain rfl : n = con.length := (Kd.ye8 HR9.out).1
    have hw := B3
    have y4 := hw.cell (box6 hG).2.2.2.2.1
    obtain ⟨kids, hkk⟩ : ∃ kids, kids = kids2 := ⟨_, rfl⟩
    rw [← hkk] at h4 hG y4 HE hkl2 ⊢
    have HN := Aside0.mk (show ∀ k, W2.heap.size ≤ k → (k ≠ g ∧ w.heap.size + 2 ≤ k) ∧ some k ≠ (Value.slice A4 kids.length c4).ownBlock from fun k hk => by
      have h1 := blk_lt hG
      have h2 := HE.out.low
      exact ⟨⟨by omega, by omega⟩, fun e => by have := Kd.R_lt h4 k e.symm; omega⟩)
    have HG := Aside0.mk hG
    have H3 := Aside0.mk h3
    have H4 := Aside0.mk h4
    have HXB := Aside0.mk HX2.out
    have HL := Aside0.mk hkl2
    have HLN := Aside0.mk hn
    clear hG h3 h4 hkl2 hkk HR9 hcon hn
    go_wp2_with ((with_reducible refine gate_builtin (b := .append) (xs := #[.tmp 52, .tmp 53]) rfl ?_); at_builtin; refine Kd.yl0 kNd (w0 := w) w.heap.size rfl (.tmp 52) (.tmp 53) 52 54 (.agg zc) 104 rfl Tryd.underlying52 infoNd rfl (by decide) (by decide) (.slice A4 kids.length c4) kids con Ac _ cc (fun k => k ≠ g ∧ w.heap.size + 2 ≤ k) (fun k => W2.heap.size ≤ k) ?p2 ?p3 (Kd.ye5 H4.out hw) (yq4 HT.out) ?p8 ?p5 ?p6 (Bw.trans HE.out.hb hw) ?p7 ?p4 ?_; (case p2 => first | rfl | simp [Act.eval, Act.put]); (case p3 => first | rfl | simp [Act.eval, Act.put]); (case p5 => exact fun k hk => HN.out k hk); (case p6 => exact fun k hk => (HN.out k (Nat.le_trans (Bw.size hw) hk)).1); (case p8 => exact fun _ _ h => kNd.M_mono (fun _ hk => hk.1) h); (case p7 => exact Bw.size (Bw.trans HE.out.hb hw)); (case p4 => have := HL.out; have := HLN.out; omega); intro v5 w5 hr5 hb5 hg5 hn5; obtain ⟨A6, c6, rfl⟩ := Kd.yd9 hr5; obtain ⟨hE5, hX5⟩ := El.more HE.out hw HG.out H3.out H4.out hg5 hr5; have HE5 := Aside0.mk hE5; have HX5 := Aside0.mk hX5; have hgk := (hg5.block g (blk_lt (hw.block HG.out)) (fun e => (H4.out.1 g e.symm).1 rfl)).trans (hw.block HG.out); obtain ⟨z0, z1, z2, z3, z4, z5⟩ := box6 hgk; have q4 := yd4 hgk 4; clear z0 z1 z2 z3 z5)
    (have hE := HE5.out; have hX := HX5.out; (rw [List.length_append] at hE hX); exact ⟨⟨rfl, rfl⟩, ⟨rfl, rfl, rfl⟩, ⟨(hX b (by have := HBB.out; omega)).trans HXB.out.hx, (hX (b + 1) (by have := HBB.out; omega)).trans HXB.out.hz⟩, hE⟩)
  intro e a' W4 h
  cases e <;> try exact h.elim
  obtain ⟨hfr, ⟨e1, e2, e3⟩, X4, E4⟩ := h
  obtain ⟨f3, rfl, hf⟩ := lay84 hfr
  have e1 := (hf 1).symm.trans e1
  have e2 := (hf 2).symm.trans e2
  have e3 := (hf 3).symm.trans e3
  rw [e1, e2, e3]
  obtain ⟨kids4, hk4, E4⟩ : ∃ kids4, kids4 = kids2 ++ conN x2 x4 ∧ El w g spF sTuple [⟨⟨⟨#[]⟩, sId⟩, x0⟩] kids4 W4 := ⟨_, rfl, E4⟩
  have hkl4 : kids4.length ≤ 3 := by
    have : (conN x2 x4).length ≤ 1 := by
      unfold conN
      split
      · simp
      · exact yl2 _ _ _
    rw [hk4, List.length_append]; omega
  have HKK4 := Aside0.mk hk4
  clear hfr hf e1 e2 e3 hk4 hkl2 HE HX2
  refine hK10 _ _ ?_
  refine wp_seq_k (fun K15 hK15 => ?_)
  refine yi4 (Q := OnN fun a' W' => Fr 84 a' ∧ Sl b g a' ∧ Xb b x0 x1 x2 x3 x4 (.slice A5 x5.length c5) x6 W' ∧ El w g spF sTuple [⟨⟨⟨#[]⟩, sId⟩, x0⟩] (kids4 ++ x5.flatMap (textN spF sNote)) W') ?notes ?_
  case notes =>
    have y5 : W4.cell? ⟨b, 5, none⟩ = some (.slice A5 x5.length c5) := (box7 X4.hx).2.2.2.2.2.1
    have HX4 := Aside0.mk X4
    have HE4 := Aside0.mk E4
    have HL4 := Aside0.mk hkl4
    clear X4 E4 hkl4
    go_wp2_with fail
    go_loopg [59] x5.length (fun m v wr => ∃ j : Nat, v = .int .i64 (j : Int) ∧ j ≤ x5.length ∧ Aside0 (m = x5.length - j) ∧ Aside0 (Xb b x0 x1 x2 x3 x4 (.slice A5 x5.length c5) x6 wr) ∧ Aside0 (El w g spF sTuple [⟨⟨⟨#[]⟩, sId⟩, x0⟩] (kids4 ++ (x5.take j).flatMap (textN spF sNote)) wr))
    case atStart => exact ⟨0, rfl, Nat.zero_le _, ⟨rfl⟩, HX4, ⟨by simpa using HE4.out⟩⟩
    case round =>
      obtain ⟨j, rfl, hj, HMe, HX, HE⟩ := hrel
      by_cases hlt : j < x5.length
      · obtain ⟨ad, c, eA, _, hcK, hcc⟩ := Kd.C_get (Kd.yc4 HC5.out HE.out.hb) (⟨#[]⟩ : ByteArray) (j : Int) (by omega) (by omega)
        subst eA
        obtain ⟨s, hs⟩ : ∃ s, x5[j]? = some s := ⟨_, List.getElem?_eq_getElem hlt⟩
        have hcc0 : wr.cell? (ad.add j) = some (.string s) := by
          have e : c = [.string (x5.getD j ⟨#[]⟩)] := hcK
          subst e
          have h := hcc 0 _ rfl
          simp only [Int.toNat_natCast, show Kd.string.sz = 1 from rfl, Nat.mul_one, Nat.add_zero] at h
          rw [h, List.getD_eq_getElem?_getD, hs]
          rfl
        have HS := Aside0.mk hs
        obtain ⟨kids, hkk⟩ : ∃ kids, kids = kids4 ++ (x5.take j).flatMap (textN spF sNote) := ⟨_, rfl⟩
        rw [← hkk] at HE
        have hkl : kids.length ≤ 10 := by
          have h1 := yr6 spF sNote (x5.take j)
          have h2 := HL4.out
          have h3 := HN5.out
          rw [List.length_take] at h1
          rw [hkk, List.length_append]
          omega
        have HKK := Aside0.mk hkk
        obtain ⟨v3, v4, hG, h3, h4⟩ := HE.out.ex
        obtain ⟨A4, c4, rfl⟩ := Kd.yd9 h4
        have L1 : ∀ W', Bw wr W' → W'.cell? ⟨g, 4, none⟩ = some (.slice A4 kids.length c4) := fun W' h => h.cell (box6 hG).2.2.2.2.1
        have hw0 : Bw wr wr.drew := (Bw.refl _).drew
        have HG := Aside0.mk hG
        have H3 := Aside0.mk h3
        have H4 := Aside0.mk h4
        have HXB := Aside0.mk HX.out
        have HL := Aside0.mk hkl
        have HN := Aside0.mk (show ∀ k, wr.heap.size ≤ k → (k ≠ g ∧ w.heap.size + 2 ≤ k) ∧ some k ≠ (Value.slice A4 kids.length c4).ownBlock from fun k hk => by
          have h1 := blk_lt hG
          have h2 := HE.out.low
          exact ⟨⟨by omega, by omega⟩, fun e => by have := Kd.R_lt h4 k e.symm; omega⟩)
        have u1 := eq_true (show (j : Int) < (x5.length : Int) by omega)
        have u2 := eq_true (show (0 : Int) ≤ (j : Int) by omega)
        obtain ⟨z, hz⟩ : ∃ z, z = j + 1 := ⟨_, rfl⟩
        have f1 : (j : Int) + 1 = (z : Int) := by omega
        have f2 : IntKind.i64.wrap (z : Int) = (z : Int) := IntWalk.i64_in _ (by have := HN5.out; omega)
        have HZJ := Aside0.mk hz
        have HLT := Aside0.mk hlt
        clear hG h3 h4 hkl hkk hs hcc hcK hz hlt hj
        go_wp2_with fail
        go_region_law (first
          | (go_simp; go_at_call 28; (with_reducible refine (yo7 _ _).mono ?_); rintro e w1 ⟨rfl, hb1⟩; have hw := Bw.trans (a := wr) (by assumption) hb1)
          | (go_simp; go_at_call 30; (with_reducible refine (ym9 _ _ _ _).mono ?_); rintro e w1 ⟨v, rfl, hR, hb1, hln⟩; obtain ⟨A13, c13, rfl⟩ := Kd.yd9 hR; have hw := Bw.trans (a := wr) (by assumption) hb1; have HT := Aside0.mk (rowT (base := w.heap.size) hR (Bw.size (a := wr) (by assumption)) (Bw.size HE.out.hb)); have HLN := Aside0.mk hln; clear hR hln)
          | (refine Kd.yh3 kNd (w0 := w) w.heap.size ?p0 (.tmp 64) (.tmp 67) 52 54 (.agg zc) 104 ?p1 Tryd.underlying52 infoNd rfl (by decide) (by decide) (.slice A4 kids.length c4) kids _ A13 _ c13 (fun k => k ≠ g ∧ w.heap.size + 2 ≤ k) (fun k => wr.heap.size ≤ k) ?p2 ?p3 (Kd.ye5 H4.out hw) (yq4 HT.out) ?p8 ?p5 ?p6 (Bw.trans HE.out.hb hw) ?p7 ?p4 ?_; (case p0 => rfl); (case p1 => rfl); (case p2 => first | rfl | simp [Act.eval, Act.put]); (case p3 => first | rfl | simp [Act.eval, Act.put]); (case p5 => exact fun k hk => HN.out k hk); (case p6 => exact fun k hk => (HN.out k (Nat.le_trans (Bw.size hw) hk)).1); (case p8 => exact fun _ _ h => kNd.M_mono (fun _ hk => hk.1) h); (case p7 => exact Bw.size (Bw.trans HE.out.hb hw)); (case p4 => have := HL.out; have := HLN.out; omega); intro v5 w5 hr5 hb5 hg5 hn5; obtain ⟨A6, c6, rfl⟩ := Kd.yd9 hr5; obtain ⟨hE5, hX5⟩ := El.more HE.out hw HG.out H3.out H4.out hg5 hr5; have HE5 := Aside0.mk hE5; have HX5 := Aside0.mk hX5; have hgk := (hg5.block g (blk_lt (hw.block HG.out)) (fun e => (H4.out.1 g e.symm).1 rfl)).trans (hw.block HG.out); obtain ⟨z0, z1, z2, z3, z4, z5⟩ := box6 hgk; have q4 := yd4 hgk 4; clear z0 z1 z2 z3 z5))
        all_goals
          have hE := HE5.out
          have hX := HX5.out
          rw [List.length_append] at hE hX
          have e : kids ++ textN spF sNote s = kids4 ++ (x5.take z).flatMap (textN spF sNote) := by
            rw [HKK.out, HZJ.out, List.take_add_one, HS.out, List.flatMap_append]
            simp
          have hE2 := hE
          rw [e] at hE2
          have hX2 := Xb.mk (b := b) ((hX b (by have := HBB.out; omega)).trans HXB.out.hx) ((hX (b + 1) (by have := HBB.out; omega)).trans HXB.out.hz)
          clear e
          have HE6 := Aside0.mk hE2
          have HX6 := Aside0.mk hX2
          clear hE hX hE2 hX2
          go_wp2_with fail
          go_roundg (x5.length - z)
          case measure => have h1 := HMe.out; have h2 := HZJ.out; have h3 := HLT.out; omega
          case rel => exact ⟨z, rfl, by have h2 := HZJ.out; have h3 := HLT.out; omega, ⟨rfl⟩, HX6, HE6⟩
      · have u1 := eq_false (show ¬ (j : Int) < (x5.length : Int) by omega)
        obtain rfl : j = x5.length := by omega
        have hE := HE.out
        rw [List.take_length] at hE
        have HE6 := Aside0.mk hE
        clear hE hlt hj
        go_wp2_with fail
        exact ⟨⟨rfl, rfl⟩, ⟨rfl, rfl, rfl⟩, HX.out, HE6.out⟩
  intro e a' W5 h
  cases e <;> try exact h.elim
  obtain ⟨hfr, ⟨e1, e2, e3⟩, X5, E5⟩ := h
  obtain ⟨f4, rfl, hf⟩ := lay84 hfr
  have e1 := (hf 1).symm.trans e1
  have e2 := (hf 2).symm.trans e2
  have e3 := (hf 3).symm.trans e3
  rw [e1, e2, e3]
  obtain ⟨kids5, hk5, E5⟩ : ∃ kids5, kids5 = kids4 ++ x5.flatMap (textN spF sNote) ∧ El w g spF sTuple [⟨⟨⟨#[]⟩, sId⟩, x0⟩] kids5 W5 := ⟨_, rfl, E5⟩
  have hkl5 : kids5.length ≤ 7 := by
    have h1 := yr6 spF sNote x5
    have h2 := HN5.out
    rw [hk5, List.length_append]; omega
  have HKK5 := Aside0.mk hk5
  clear hfr hf e1 e2 e3 hk5 hkl4 E4 X4
  refine hK15 _ _ ?_
  refine wp_seq_k (fun K17 hK17 => ?_)
  refine yi4 (Q := OnN fun a' W' => Fr 84 a' ∧ Sl b g a' ∧ Xb b x0 x1 x2 x3 x4 (.slice A5 x5.length c5) x6 W' ∧ El w g spF sTuple [⟨⟨⟨#[]⟩, sId⟩, x0⟩] (kids5 ++ stampN x6) W') ?stamp ?_
  case stamp =>
    obtain ⟨hs0, hs1⟩ := HSX.out
    have y6 : W5.cell? ⟨b, 6, none⟩ = some (.int .u64 x6) := (box7 X5.hx).2.2.2.2.2.2
    by_cases h6 : x6 > 0
    · have hst : stampN x6 = textN spF sStamp (itoaB x6) := by unfold stampN; rw [if_pos h6]
      rw [hst]
      obtain ⟨s, hs⟩ : ∃ s, s = itoaB x6 := ⟨_, rfl⟩
      rw [← hs]
      have HFU := Aside0.mk (show ∀ W, Refs.Tens W → Calls Tryd.prog 40 #[.int .u64 x6, .int .i64 10] W fun e w' => e = .returned (.string s) ∧ Bw W w' from fun W h => by rw [hs]; exact fu_calls x6 (by omega) (by omega) W h)
      have HT5 := Aside0.mk (Refs.yf2 HTN.out E5.hb)
      have q1 := eq_true h6
      obtain ⟨kids, hkk⟩ : ∃ kids, kids = kids5 := ⟨_, rfl⟩
      rw [← hkk] at E5 hkl5 ⊢
      obtain ⟨v3, v4, hG, h3, h4⟩ := E5.ex
      obtain ⟨A4, c4, rfl⟩ := Kd.yd9 h4
      have L0 : ∀ W', Bw W5 W' → W'.cell? ⟨b, 6, none⟩ = some (.int .u64 x6) := fun W' h => h.cell y6
      have L1 : ∀ W', Bw W5 W' → W'.cell? ⟨g, 4, none⟩ = some (.slice A4 kids.length c4) := fun W' h => h.cell (box6 hG).2.2.2.2.1
      have hw0 : Bw W5 W5.drew := (Bw.refl _).drew
      have HG := Aside0.mk hG
      have H3 := Aside0.mk h3
      have H4 := Aside0.mk h4
      have HE := Aside0.mk E5
      have HXB := Aside0.mk X5
      have HL := Aside0.mk hkl5
      have HN := Aside0.mk (show ∀ k, W5.heap.size ≤ k → (k ≠ g ∧ w.heap.size + 2 ≤ k) ∧ some k ≠ (Value.slice A4 kids.length c4).ownBlock from fun k hk => by
        have h1 := blk_lt hG
        have h2 := E5.low
        exact ⟨⟨by omega, by omega⟩, fun e => by have := Kd.R_lt h4 k e.symm; omega⟩)
      clear hG h3 h4 E5 X5 hkl5 hkk hs hst h6 hs0 hs1
      go_wp2_with fail
      clear y6
      go_region_law (first
        | (go_simp; go_at_call 28; (with_reducible refine (yo7 _ _).mono ?_); rintro e w1 ⟨rfl, hb1⟩; have hw := Bw.trans (a := W5) (by assumption) hb1)
        | (go_simp; go_at_call 40; (with_reducible refine (HFU.out _ ?_).mono ?_); (exact Refs.yf2 HT5.out (show Below W5.heap.size W5 _ from by assumption)); rintro e w1 ⟨rfl, hb1⟩; have hw := Bw.trans (a := W5) (by assumption) hb1)
        | (go_simp; go_at_call 30; (with_reducible refine (ym9 _ _ _ _).mono ?_); rintro e w1 ⟨v, rfl, hR, hb1, hln⟩; obtain ⟨A13, c13, rfl⟩ := Kd.yd9 hR; have hw := Bw.trans (a := W5) (by assumption) hb1; have HT := Aside0.mk (rowT (base := w.heap.size) hR (Bw.size (a := W5) (by assumption)) (Bw.size HE.out.hb)); have HLN := Aside0.mk hln; clear hR hln)
        | (refine Kd.yh3 kNd (w0 := w) w.heap.size ?p0 (.tmp 75) (.tmp 80) 52 54 (.agg zc) 104 ?p1 Tryd.underlying52 infoNd rfl (by decide) (by decide) (.slice A4 kids.length c4) kids _ A13 _ c13 (fun k => k ≠ g ∧ w.heap.size + 2 ≤ k) (fun k => W5.heap.size ≤ k) ?p2 ?p3 (Kd.ye5 H4.out hw) (yq4 HT.out) ?p8 ?p5 ?p6 (Bw.trans HE.out.hb hw) ?p7 ?p4 ?_; (case p0 => rfl); (case p1 => rfl); (case p2 => first | rfl | simp [Act.eval, Act.put]); (case p3 => first | rfl | simp [Act.eval, Act.put]); (case p5 => exact fun k hk => HN.out k hk); (case p6 => exact fun k hk => (HN.out k (Nat.le_trans (Bw.size hw) hk)).1); (case p8 => exact fun _ _ h => kNd.M_mono (fun _ hk => hk.1) h); (case p7 => exact Bw.size (Bw.trans HE.out.hb hw)); (case p4 => have := HL.out; have := HLN.out; omega); intro v5 w5 hr5 hb5 hg5 hn5; obtain ⟨A6, c6, rfl⟩ := Kd.yd9 hr5; obtain ⟨hE5, hX5⟩ := El.more HE.out hw HG.out H3.out H4.out hg5 hr5; have HE5 := Aside0.mk hE5; have HX5 := Aside0.mk hX5; have hgk := (hg5.block g (blk_lt (hw.block HG.out)) (fun e => (H4.out.1 g e.symm).1 rfl)).trans (hw.block HG.out); obtain ⟨z0, z1, z2, z3, z4, z5⟩ := box6 hgk; have q4 := yd4 hgk 4; clear z0 z1 z2 z3 z5))
      all_goals (have hE := HE5.out; have hX := HX5.out; (rw [List.length_append] at hE hX); exact ⟨⟨rfl, rfl⟩, ⟨rfl, rfl, rfl⟩, ⟨(hX b (by have := HBB.out; omega)).trans HXB.out.hx, (hX (b + 1) (by have := HBB.out; omega)).trans HXB.out.hz⟩, hE⟩)
    · have hst : stampN x6 = [] := by unfold stampN; rw [if_neg h6]
      have q1 := eq_false h6
      have HX6 := Aside0.mk X5
      have HE6 := Aside0.mk E5
      have HST := Aside0.mk hst
      clear X5 E5 h6 hst hs0 hs1 hkl5
      go_wp2_with fail
      refine ⟨⟨rfl, rfl⟩, ⟨rfl, rfl, rfl⟩, HX6.out, ?_⟩
      rw [HST.out, List.append_nil]
      exact HE6.out
  intro e a' W6 h
  cases e <;> try exact h.elim
  obtain ⟨hfr, ⟨e1, e2, e3⟩, X6, E6⟩ := h
  obtain ⟨f5, rfl, hf⟩ := lay84 hfr
  have e1 := (hf 1).symm.trans e1
  have e2 := (hf 2).symm.trans e2
  have e3 := (hf 3).symm.trans e3
  rw [e1, e2, e3]
  obtain ⟨kids6, hk6, E6⟩ : ∃ kids6, kids6 = kids5 ++ stampN x6 ∧ El w g spF sTuple [⟨⟨⟨#[]⟩, sId⟩, x0⟩] kids6 W6 := ⟨_, rfl, E6⟩
  have hkids : kids6 = kidsN x1 x2 x3 x4 x5 x6 := by
    unfold kidsN
    rw [hk6, HKK5.out, HKK4.out, HKK2.out, HKK.out]
  have HKI := Aside0.mk hkids
  obtain ⟨v3, v4, hG, h3, h4⟩ := E6.ex
  obtain ⟨A3, c3, rfl⟩ := Kd.yd9 h3
  obtain ⟨A4, c4, rfl⟩ := Kd.yd9 h4
  obtain ⟨z0, z1, z2, z3, z4, z5⟩ := box6 hG
  obtain ⟨y0, y1, y2, y3, y4, y5⟩ := box6 X6.hz
  obtain ⟨q0, q1, q2, q3, q4, q5⟩ := fr6 X6.hz
  have HBZ := Aside0.mk X6.hz
  have HB6 := Aside0.mk E6.hb
  have HR3 := Aside0.mk h3
  have HR4 := Aside0.mk h4
  clear hfr hf e1 e2 e3 hk6 hkl5 E5 X5 E6 X6 hG h3 h4 hkids
  refine hK17 _ _ ?_
  go_wp2_with fail
  have hbb := HBB.out
  have far : ∀ k, k ≠ b + 1 → ((((((W6.setCell ⟨b + 1, 0, none⟩ (.int .i64 1)).setCell ⟨b + 1, 1, none⟩ (.string spF)).setCell ⟨b + 1, 2, none⟩ (.string sTuple)).setCell ⟨b + 1, 3, none⟩ (.slice A3 1 c3)).setCell ⟨b + 1, 4, none⟩ (.slice A4 kids6.length c4)).setCell ⟨b + 1, 5, none⟩ (.string ⟨#[]⟩)).heap[k]? = W6.heap[k]? := fun k hk =>
    (Below.heap_setCell _ ⟨b + 1, 5, none⟩ _ k hk).trans ((Below.heap_setCell _ ⟨b + 1, 4, none⟩ _ k hk).trans ((Below.heap_setCell _ ⟨b + 1, 3, none⟩ _ k hk).trans ((Below.heap_setCell _ ⟨b + 1, 2, none⟩ _ k hk).trans ((Below.heap_setCell _ ⟨b + 1, 1, none⟩ _ k hk).trans (Below.heap_setCell _ ⟨b + 1, 0, none⟩ _ k hk)))))
  have hl : w.heap.size ≤ b + 1 := by omega
  have hbw := ((((((HB6.out).set ⟨b + 1, 0, none⟩ (.int .i64 1) hl).set ⟨b + 1, 1, none⟩ (.string spF) hl).set ⟨b + 1, 2, none⟩ (.string sTuple) hl).set ⟨b + 1, 3, none⟩ (.slice A3 1 c3) hl).set ⟨b + 1, 4, none⟩ (.slice A4 kids6.length c4) hl).set ⟨b + 1, 5, none⟩ (.string ⟨#[]⟩) hl
  refine bodyPost_ret (results_cell_row rfl _ _ (b + 1) 54 (nc 1 spF sTuple (.slice A3 1 c3) (.slice A4 kids6.length c4) ⟨#[]⟩) (0, 0) _ rfl (yg3 (yg3 (yg3 (yg3 (yg3 (yg3 HBZ.out 0 _) 1 _) 2 _) 3 _) 4 _) 5 _) Tryd.underlying54 rfl (by kernel_rfl)) rfl ⟨_, _, rfl, ?_, ?_, hbw⟩
  · exact Kd.R_mono (Kd.R_step HR3.out (fun k hk _ => far k (by omega))) (fun k hk => by omega)
  · rw [← HKI.out]
    exact Kd.R_mono (Kd.R_step HR4.out (fun k hk _ => far k (by omega))) (fun k hk => by omega)


end Go.Proofs.YtidkjifilgjgfaaDoor.Pd
