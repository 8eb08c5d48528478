/- pidf's small makers of elements: el, with, text. -/
import Derived.Test.YtidkjifilgjgfaaDoorTu
import Derived.Test.YtidkjifilgjgfaaDoorPLx0
import Derived.Test.YtidkjifilgjgfaaDoorPLx1
import Derived.Test.YtidkjifilgjgfaaDoorPLx2
import Derived.Test.YtidkjifilgjgfaaDoorBwR
import Derived.WalkKit
import Derived.WalkSpells
import Derived.KernelRfl
import Derived.Deep.WholeRow
namespace Go.Proofs.YtidkjifilgjgfaaDoor.Pd
open Go Go.RowKit Go.Proofs.YtidkjifilgjgfaaDoorW.PrintWords Go.Proofs.YtidkjifilgjgfaaDoorW.PrintLast Go.Proofs.YtidkjifilgjgfaaDoorW.PrintMore
open Go.Proofs.YtidkjifilgjgfaaDoor.ND (Nm At Nd kNm kAt kNd yk3 yj7 yl5 zNd zNm)
set_option linter.unusedVariables false
abbrev nc (k : Int) (a b : ByteArray) (va vk : Value) (t : ByteArray) : Array Value := #[.int .i64 k, .string a, .string b, va, vk, .string t]
theorem ys3 (w : World) (o o' : Obj) : Below w.heap.size w ((w.alloc o).alloc o') := ((Below.refl _ _).alloc (Nat.le_refl _) _).alloc (by simp) _
theorem blk3 (w : World) (o1 o2 o3 : Obj) : (((w.alloc o1).alloc o2).alloc o3).heap[w.heap.size + 1]? = some o2 ∧ (((w.alloc o1).alloc o2).alloc o3).heap[w.heap.size + 1 + 1]? = some o3 ∧ Below w.heap.size w (((w.alloc o1).alloc o2).alloc o3) := by
  have h2 := heap_alloc_last (w.alloc o1) o2
  have h3 := heap_alloc_last ((w.alloc o1).alloc o2) o3
  have e1 : (w.alloc o1).heap.size = w.heap.size + 1 := by simp
  have e2 : ((w.alloc o1).alloc o2).heap.size = w.heap.size + 1 + 1 := by simp
  rw [e1] at h2
  rw [e2] at h3
  exact ⟨((ya2 (Below.refl ((w.alloc o1).alloc o2).heap.size ((w.alloc o1).alloc o2)) o3).block (w.heap.size + 1) (by omega)).trans h2, h3, (ys3 w o1 o2).alloc (by omega) o3⟩
/-- A row of one, in a block that was just made. -/
theorem R_one {α : Type} {d : Kd α} {e base g : Nat} {W : World} {ok okp : Nat → Prop} {cs : List Value} {x : α} (hg : W.heap[g]? = some (.cells cs.toArray e (0, 0))) (hb : base ≤ g) (hm : d.M W base okp x cs) (hok : ok g) (hokp : ∀ k, okp k → ok k ∧ k ≠ g) : d.R e W base ok (.slice (some ⟨g, 0, none⟩) 1 1) [x] := by
  have hl := d.K_len (d.K_of_M hm)
  refine ⟨fun k hk => by injection hk with hk; exact hk ▸ hok, cs, ⟨by rw [hl]; simp, Or.inr ⟨g, 1, cs.toArray, rfl, hb, hg, Nat.le_refl _, by decide, by simp [hl], by rw [show [x].length * d.sz = cs.length by simp [hl]]; exact List.take_length⟩⟩, by simp [hl], fun j p hj => ?_⟩
  cases j with
  | zero =>
    simp only [List.getElem?_cons_zero, Option.some.injEq] at hj
    subst hj
    rw [Nat.zero_mul, List.drop_zero, ← hl, List.take_length]
    exact d.M_mono (fun k hk => ⟨(hokp k hk).1, fun h => (hokp k hk).2 (by injection h)⟩) hm
  | succ j => simp at hj
/-- A text's node; an element; what text makes. -/
def txN (s : ByteArray) : Nd := ⟨2, ⟨⟨#[]⟩, ⟨#[]⟩⟩, [], [], s⟩
def elN (a b : ByteArray) (kids : List Nd) : Nd := ⟨1, ⟨a, b⟩, [], kids, ⟨#[]⟩⟩
def textN (a b s : ByteArray) : List Nd := if s.toList = [] then [] else [elN a b [txN s]]
set_option maxHeartbeats 1000000 in
set_option maxRecDepth 100000 in
theorem yr7 (a b : ByteArray) (A : Option Addr) (n c : Nat) (w : World) :
    Calls Tryd.prog 27 #[.agg #[.string a, .string b], .slice A n c] w fun e w' => e = .returned (.agg (nc 1 a b (.slice none 0 0) (.slice A n c) ⟨#[]⟩)) ∧ Bw w w' := by
  go_enter Tryd.func27, Tryd.ntmps27
  go_wp2_with fail
  refine bodyPost_ret (results_cell_row rfl _ _ (w.heap.size + 1) 54 (nc 1 a b (.slice none 0 0) (.slice A n c) ⟨#[]⟩) (0, 0) _ rfl (by simpa using heap_alloc_last (w.alloc (.cells #[.string a, .string b] 50)) (.cells (nc 1 a b (.slice none 0 0) (.slice A n c) ⟨#[]⟩) 54)) Tryd.underlying54 rfl (by kernel_rfl)) rfl ⟨rfl, ys3 _ _ _⟩
set_option maxHeartbeats 1000000 in
set_option maxRecDepth 100000 in
theorem yj5 (k : Int) (a b : ByteArray) (va : Value) (A : Option Addr) (n c : Nat) (t l v : ByteArray) (w : World) (hva : va.oneCell' = true) :
    Calls Tryd.prog 26 #[.agg (nc k a b va (.slice A n c) t), .string l, .string v] w fun e w' => ∃ v3, e = .returned (.agg (nc k a b v3 (.slice A n c) t)) ∧ kAt.R 84 w' w.heap.size (fun k => w.heap.size ≤ k) v3 [⟨⟨⟨#[]⟩, l⟩, v⟩] ∧ Bw w w' := by
  go_enter Tryd.func26, Tryd.ntmps26
  go_wp2_with fail
  obtain ⟨hY, hX, hB⟩ := blk3 w (.cells (nc k a b (.slice (some ⟨w.heap.size + 1 + 1, 0, none⟩) 1 1) (.slice A n c) t) 54) (.cells (nc k a b (.slice (some ⟨w.heap.size + 1 + 1, 0, none⟩) 1 1) (.slice A n c) t) 54) (.cells [.string ⟨#[]⟩, .string l, .string v].toArray 84)
  refine bodyPost_ret (results_cell_row rfl _ _ (w.heap.size + 1) 54 (nc k a b (.slice (some ⟨w.heap.size + 1 + 1, 0, none⟩) 1 1) (.slice A n c) t) (0, 0) _ rfl hY Tryd.underlying54 rfl (by kernel_rfl)) rfl ⟨_, rfl, ?_, hB⟩
  exact R_one (d := kAt) (okp := fun _ => False) (x := ⟨⟨⟨#[]⟩, l⟩, v⟩) (cs := [.string ⟨#[]⟩, .string l, .string v]) hX (by omega) (yl5 _ _ _ _) (by omega) (fun _ h => h.elim)
set_option maxHeartbeats 1000000 in
set_option maxRecDepth 100000 in
theorem text_calls (a b s : ByteArray) (w : World) :
    Calls Tryd.prog 30 #[.agg #[.string a, .string b], .string s] w fun e w' => ∃ v, e = .returned v ∧ kNd.R 54 w' w.heap.size (fun k => w.heap.size ≤ k) v (textN a b s) ∧ Bw w w' := by
  unfold textN
  cases hs : s.toList.isEmpty with
  | true =>
    rw [if_pos (List.isEmpty_iff.1 hs)]
    go_enter Tryd.func30, Tryd.ntmps30
    go_wp2_with fail
    go_ret
    exact ⟨_, rfl, Kd.R_nil _ _ _ _ _, (Below.refl _ _).alloc (Nat.le_refl _) _⟩
  | false =>
    rw [if_neg (by intro h; rw [h] at hs; cases hs)]
    go_enter Tryd.func30, Tryd.ntmps30
    go_wp2_with (go_at_call 27; (with_reducible refine (yr7 _ _ _ _ _ _).mono ?_); rintro e w1 ⟨rfl, hb⟩)
    have hb1 : Bw w w1 := Bw.trans (ys3 w _ _) hb
    have hk : w1.heap[w.heap.size + 1]? = some (.cells (nc 2 ⟨#[]⟩ ⟨#[]⟩ (.slice none 0 0) (.slice none 0 0) s) 54 (0, 0)) := by
      have h := Bw.last (a := w.alloc (.cells #[.string a, .string b] 50)) hb
      rw [show (w.alloc (.cells #[.string a, .string b] 50)).heap.size = w.heap.size + 1 by simp] at h
      exact h
    have hs1 : w.heap.size + 2 ≤ w1.heap.size := by have := hb.size; simp at this; omega
    have hB := hb1.alloc (.cells (nc 1 a b (.slice none 0 0) (.slice (some ⟨w.heap.size + 1, 0, none⟩) 1 1) ⟨#[]⟩) 54)
    have hk2 := ((ya2 (Below.refl w1.heap.size w1) (.cells (nc 1 a b (.slice none 0 0) (.slice (some ⟨w.heap.size + 1, 0, none⟩) 1 1) ⟨#[]⟩) 54)).block (w.heap.size + 1) (by omega)).trans hk
    go_ret
    refine ⟨_, rfl, ?_, hB⟩
    have r1 := R_one (d := kNd) (base := w.heap.size) (ok := fun k => w.heap.size ≤ k ∧ k < w1.heap.size) (okp := fun _ => False) (x := txN s) (cs := [.int .i64 2, .string ⟨#[]⟩, .string ⟨#[]⟩, .slice none 0 0, .slice none 0 0, .string s]) hk2 (by omega) (yj7 _ _ _ (txN s) (Kd.R_nil _ _ _ _ _) (Kd.R_nil _ _ _ _ _)) ⟨by omega, by omega⟩ (fun _ h => h.elim)
    exact R_one (d := kNd) (base := w.heap.size) (okp := fun k => w.heap.size ≤ k ∧ k < w1.heap.size) (x := elN a b [txN s]) (cs := [.int .i64 1, .string a, .string b, .slice none 0 0, .slice (some ⟨w.heap.size + 1, 0, none⟩) 1 1, .string ⟨#[]⟩]) (heap_alloc_last w1 _) hb1.size (yj7 _ _ _ (elN a b [txN s]) (Kd.R_nil _ _ _ _ _) r1) hb1.size (fun k hk => ⟨hk.1, by omega⟩)
end Go.Proofs.YtidkjifilgjgfaaDoor.Pd
namespace Go.Proofs.YtidkjifilgjgfaaDoor.Pd
open Go Go.RowKit Go.Proofs.YtidkjifilgjgfaaDoorW.PrintWords Go.Proofs.YtidkjifilgjgfaaDoorW.PrintLast Go.Proofs.YtidkjifilgjgfaaDoorW.PrintMore
set_option linter.unusedVariables false
/-- A frame of the walk. -/
def Fr (n : Nat) (a : Act) : Prop := a.defers = [] ∧ a.tmps.size = n
set_option maxRecDepth 100000 in
theorem lay84 {a : Act} (h : Fr 84 a) : ∃ f : Nat → Value, a = { tmps := #[f 0, f 1, f 2, f 3, f 4, f 5, f 6, f 7, f 8, f 9, f 10, f 11, f 12, f 13, f 14, f 15, f 16, f 17, f 18, f 19, f 20, f 21, f 22, f 23, f 24, f 25, f 26, f 27, f 28, f 29, f 30, f 31, f 32, f 33, f 34, f 35, f 36, f 37, f 38, f 39, f 40, f 41, f 42, f 43, f 44, f 45, f 46, f 47, f 48, f 49, f 50, f 51, f 52, f 53, f 54, f 55, f 56, f 57, f 58, f 59, f 60, f 61, f 62, f 63, f 64, f 65, f 66, f 67, f 68, f 69, f 70, f 71, f 72, f 73, f 74, f 75, f 76, f 77, f 78, f 79, f 80, f 81, f 82, f 83], defers := [] } ∧ ∀ k, a.tmps.getD k undef = f k := by
  obtain ⟨t, d⟩ := a
  obtain ⟨hd, hs⟩ := h
  simp only at hd hs
  subst hd
  have ht : t = ((List.range 84).map (fun k => t.getD k undef)).toArray := by
    apply Array.ext'
    apply List.ext_getElem
    · simp [hs]
    · intro k h1 h2
      simp at h1
      simp [h1]
  refine ⟨fun k => t.getD k undef, ?_, fun _ => rfl⟩
  have key : ∀ F : Nat → Value, ((List.range 84).map F).toArray = #[F 0, F 1, F 2, F 3, F 4, F 5, F 6, F 7, F 8, F 9, F 10, F 11, F 12, F 13, F 14, F 15, F 16, F 17, F 18, F 19, F 20, F 21, F 22, F 23, F 24, F 25, F 26, F 27, F 28, F 29, F 30, F 31, F 32, F 33, F 34, F 35, F 36, F 37, F 38, F 39, F 40, F 41, F 42, F 43, F 44, F 45, F 46, F 47, F 48, F 49, F 50, F 51, F 52, F 53, F 54, F 55, F 56, F 57, F 58, F 59, F 60, F 61, F 62, F 63, F 64, F 65, F 66, F 67, F 68, F 69, F 70, F 71, F 72, F 73, F 74, F 75, F 76, F 77, F 78, F 79, F 80, F 81, F 82, F 83] := fun F => rfl
  exact congrArg (fun t => ({ tmps := t, defers := [] } : Act)) (ht.trans (key _))
set_option maxRecDepth 100000 in
theorem lay73 {a : Act} (h : Fr 73 a) : ∃ f : Nat → Value, a = { tmps := #[f 0, f 1, f 2, f 3, f 4, f 5, f 6, f 7, f 8, f 9, f 10, f 11, f 12, f 13, f 14, f 15, f 16, f 17, f 18, f 19, f 20, f 21, f 22, f 23, f 24, f 25, f 26, f 27, f 28, f 29, f 30, f 31, f 32, f 33, f 34, f 35, f 36, f 37, f 38, f 39, f 40, f 41, f 42, f 43, f 44, f 45, f 46, f 47, f 48, f 49, f 50, f 51, f 52, f 53, f 54, f 55, f 56, f 57, f 58, f 59, f 60, f 61, f 62, f 63, f 64, f 65, f 66, f 67, f 68, f 69, f 70, f 71, f 72], defers := [] } ∧ ∀ k, a.tmps.getD k undef = f k := by
  obtain ⟨t, d⟩ := a
  obtain ⟨hd, hs⟩ := h
  simp only at hd hs
  subst hd
  have ht : t = ((List.range 73).map (fun k => t.getD k undef)).toArray := by
    apply Array.ext'
    apply List.ext_getElem
    · simp [hs]
    · intro k h1 h2
      simp at h1
      simp [h1]
  refine ⟨fun k => t.getD k undef, ?_, fun _ => rfl⟩
  have key : ∀ F : Nat → Value, ((List.range 73).map F).toArray = #[F 0, F 1, F 2, F 3, F 4, F 5, F 6, F 7, F 8, F 9, F 10, F 11, F 12, F 13, F 14, F 15, F 16, F 17, F 18, F 19, F 20, F 21, F 22, F 23, F 24, F 25, F 26, F 27, F 28, F 29, F 30, F 31, F 32, F 33, F 34, F 35, F 36, F 37, F 38, F 39, F 40, F 41, F 42, F 43, F 44, F 45, F 46, F 47, F 48, F 49, F 50, F 51, F 52, F 53, F 54, F 55, F 56, F 57, F 58, F 59, F 60, F 61, F 62, F 63, F 64, F 65, F 66, F 67, F 68, F 69, F 70, F 71, F 72] := fun F => rfl
  exact congrArg (fun t => ({ tmps := t, defers := [] } : Act)) (ht.trans (key _))
end Go.Proofs.YtidkjifilgjgfaaDoor.Pd
