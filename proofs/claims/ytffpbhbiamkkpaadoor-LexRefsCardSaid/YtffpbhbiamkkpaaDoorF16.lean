/- strconv.FormatInt at base 16, for numbers that are not negative and below 2^32. -/
import Derived.Test.YtffpbhbiamkkpaaDoorProg
import Derived.WalkKit
import Derived.OwnWalk
import Derived.Deep.LoopGhost
import Derived.IntWalk
import Derived.Below
import Derived.KernelRfl
import Derived.Lib.ItoaNum
import Derived.Lib.ItoaMem
import Derived.Lib.ItoaWalk
import Derived.Lib.VarintBits
import Derived.BigQuiet
import Derived.Deep.QuietTactic
import Derived.Test.YtffpbhbiamkkpaaDoorWWords
namespace Go.Proofs.YtffpbhbiamkkpaaDoor.F16
open Go.RowKit Go.Proofs.YtffpbhbiamkkpaaDoorW.PrintWords
set_option linter.unusedVariables false
/-- The table's cell that TrailingZeros64(16) reads holds 4. -/
def TZ (w : World) : Prop := w.cell? ⟨3, 15, none⟩ = some (.int .u8 4)
theorem TZ.lt {w : World} (h : TZ w) : 3 < w.heap.size := by
  rcases Nat.lt_or_ge 3 w.heap.size with h' | h'
  · exact h'
  · simp [TZ, World.cell?, Array.getElem?_eq_none h'] at h
theorem TZ.below {w w1 : World} (h : TZ w) (hb : Below w.heap.size w w1) : TZ w1 := (hb.cell (p := ⟨3, 15, none⟩) h.lt).trans h
def dg (n : Nat) : UInt8 := if n < 10 then UInt8.ofNat (48 + n) else UInt8.ofNat (87 + n)
/-- The digits of u, ahead of acc. -/
def hexL : Nat → Nat → List UInt8 → List UInt8
  | 0, u, acc => dg (u % 16) :: acc
  | d + 1, u, acc => if 16 ≤ u then hexL d (u / 16) (dg (u % 16) :: acc) else dg u :: acc
def hex (u : Nat) : List UInt8 := hexL 8 u []
set_option maxHeartbeats 1000000 in
theorem pow_calls (w : World) : Calls Tryd.prog 134 #[.int .i64 16] w fun e w' => e = .returned (.bool true) ∧ w' = w := by
  go_enter Tryd.func134, Tryd.ntmps134
  go_wp2
  go_ret
  exact ⟨rfl, rfl⟩
set_option maxHeartbeats 1000000 in
theorem tz_calls (w : World) (h : TZ w) : Calls Tryd.prog 156 #[.int .u64 16] w fun e w' => e = .returned (.int .i64 4) ∧ w' = w := by
  unfold TZ at h
  have h' : w.cell? ⟨3, (IntKind.u64.wrap (bits BinOp.and IntKind.u64 16 (IntKind.u64.wrap (-16)) * 285870213051353865) / 288230376151711744).toNat, none⟩ = some (.int .u8 4) := by
    rw [show (IntKind.u64.wrap (bits BinOp.and IntKind.u64 16 (IntKind.u64.wrap (-16)) * 285870213051353865) / 288230376151711744).toNat = 15 by decide +kernel]; exact h
  clear h
  go_enter Tryd.func156, Tryd.ntmps156
  go_wp2
  go_ret
  exact ⟨rfl, rfl⟩
set_option maxHeartbeats 1000000 in
theorem tzs_calls (w : World) (h : TZ w) : Calls Tryd.prog 135 #[.int .u64 16] w fun e w' => e = .returned (.int .i64 4) ∧ w' = w := by
  go_enter Tryd.func135, Tryd.ntmps135
  go_wp2_with (go_at_call 156; (with_reducible refine (tz_calls _ h).mono ?_); rintro e w' ⟨rfl, rfl⟩)
  go_ret
  exact ⟨rfl, rfl⟩
/-- The digits' block: 65 cells, those from i on are acc. -/
structure Blk (b i : Nat) (acc : List UInt8) (W : World) : Prop where
  full : ∀ j, j < 65 → ∃ c : UInt8, W.cell? ⟨b, j, none⟩ = some (.int .u8 (c.toNat : Int))
  fz : ∀ j, j < 65 → W.frozen? ⟨b, j, none⟩ = false
  row : ∀ j (h : j < acc.length), W.cell? ⟨b, i + j, none⟩ = some (.int .u8 ((acc[j]).toNat : Int))
  len : i + acc.length = 65
theorem Blk.put {b i : Nat} {acc : List UInt8} {W : World} (h : Blk b (i + 1) acc W) (d : UInt8) : Blk b i (d :: acc) (W.setCell ⟨b, i, none⟩ (.int .u8 (d.toNat : Int))) := by
  have hl := h.len
  obtain ⟨c, hc⟩ := h.full i (by omega)
  refine ⟨fun j hj => ?_, fun j hj => ?_, fun j hj => ?_, by simp only [List.length_cons]; omega⟩
  · by_cases e : j = i
    · subst e; exact ⟨d, World.cell?_setCell_same _ _ _ hc⟩
    · obtain ⟨c', hc'⟩ := h.full j hj
      exact ⟨c', by rw [World.cell?_setCell_other _ _ _ _ (by simp <;> omega)]; exact hc'⟩
  · rw [World.frozen?_setCell]; exact h.fz j hj
  · cases j with
    | zero => exact World.cell?_setCell_same _ _ _ hc
    | succ j =>
      rw [World.cell?_setCell_other _ _ _ _ (by simp), List.getElem_cons_succ, show i + (j + 1) = i + 1 + j by omega]
      exact h.row j (by simpa using hj)
theorem Blk.zeros (w : World) (T : TypeId) : Blk w.heap.size 65 [] (w.alloc (.cells (Array.replicate 65 (.int .u8 0)) T)) := by
  refine ⟨fun j hj => ⟨0, ?_⟩, fun j hj => World.frozen?_alloc_new _ _ _ _, fun j h => absurd h (by simp), rfl⟩
  rw [World.cell?_alloc_new, Array.getElem?_replicate, if_pos hj]; rfl
theorem dg_at (d : Nat) (h : d < 16) : ∀ h : d < Lib.digits36.size, Lib.digits36[d]'h = dg d := by
  have : ∀ d : Fin 16, ∀ h : d.val < Lib.digits36.size, Lib.digits36[d.val]'h = dg d.val := by decide +kernel
  exact this ⟨d, h⟩
theorem and15 (u : Nat) (h : u < 4294967296) : bits BinOp.and IntKind.u64 (u : Int) 15 = ((u % 16 : Nat) : Int) := by
  have h1 := bits_mask .u64 64 (by decide) wraps_u64 4 (by decide) (u : Int) (by omega) (by omega)
  rw [show (2 : Int) ^ 4 - 1 = 15 by decide, show (2 : Int) ^ 4 = 16 by decide] at h1
  rw [h1]; omega
set_option maxHeartbeats 4000000 in
set_option maxRecDepth 100000 in
theorem fb_calls (u : Nat) (hu : u < 4294967296) (w : World) (h : TZ w) :
    Calls Tryd.prog 103 #[.slice none 0 0, .int .u64 (u : Int), .int .i64 16, .bool false, .bool false] w fun e w' => e = .returned (.tuple #[.slice none 0 0, .string ⟨(hex u).toArray⟩]) ∧ Below w.heap.size w w' := by
  have hu1 : IntKind.u64.wrap (u : Int) = (u : Int) := IntWalk.u64_in _ (by omega)
  go_enter Tryd.func103, Tryd.ntmps103
  go_name_bytes_deep 40 PM hPM
  clear hPM
  go_name_bytes_deep 30 DG hDG
  have eDG : DG = Lib.digits36 := by rw [← hDG]; decide +kernel
  subst eDG
  clear hDG
  have HZ := Aside0.mk h
  clear h
  go_wp2_with (first
    | (go_at_call 134; (with_reducible refine (pow_calls _).mono ?_); rintro e w' ⟨rfl, rfl⟩)
    | (go_at_call 135; (with_reducible refine (tzs_calls _ (HZ.out.below (Below.alloc (Below.refl _ _) (Nat.le_refl _) _))).mono ?_); rintro e w' ⟨rfl, rfl⟩))
  go_loopg [1, 13] 8 (fun m v1 v13 wr => ∃ (d q : Nat) (acc : List UInt8), v1 = .int .u64 (q : Int) ∧ v13 = .int .i64 ((d + 57 : Nat) : Int) ∧ q < 4294967296 ∧ Aside0 (m = d ∧ q < 16 ^ d ∧ hexL d q acc = hex u) ∧ Aside0 (Blk w.heap.size (d + 57) acc wr) ∧ Aside0 (Below w.heap.size w wr))
  case atStart => exact ⟨8, u, [], rfl, rfl, hu, Aside0.mk ⟨rfl, hu, rfl⟩, Aside0.mk (Blk.zeros w _), Aside0.mk (Below.alloc (Below.refl _ _) (Nat.le_refl _) _)⟩
  case round =>
    obtain ⟨d, q, acc, rfl, rfl, hq, hD, hB, hW⟩ := hrel
    by_cases hq16 : 16 ≤ q
    · have q1 := eq_true (show (16 : Int) ≤ (q : Int) by omega)
      obtain ⟨d, rfl⟩ : ∃ d', d = d' + 1 := ⟨d - 1, by have h1 : d ≠ 0 := (fun e => by subst e; have := hD.out.2.1; simp at this; omega); omega⟩
      obtain ⟨i, hi⟩ : ∃ i, i = d + 57 := ⟨_, rfl⟩
      have hi1 : d + 1 + 57 = i + 1 := by omega
      rw [hi1] at hB ⊢
      have e1 : ((i + 1 : Nat) : Int) - 1 = (i : Int) := by omega
      have e2 : IntKind.i64.wrap (i : Int) = (i : Int) := IntWalk.i64_in _ (by have := hB.out.len; omega)
      have hlen := hB.out.len
      have q2 := eq_true (show (0 : Int) ≤ (i : Int) by omega)
      have q3 := eq_true (show (i : Int) < 65 by omega)
      have e3 := and15 q hq
      obtain ⟨r, hr⟩ : ∃ r, r = q % 16 := ⟨_, rfl⟩
      rw [← hr] at e3
      have q4 := eq_true (show (0 : Int) ≤ (r : Int) by omega)
      have q5 := eq_true (show (r : Int) < 36 by omega)
      have q6 := eq_true (show r < 36 by omega)
      have hdg := dg_at r (by omega)
      obtain ⟨c, hc⟩ := hB.out.full i (by omega)
      have hf := hB.out.fz i (by omega)
      have hsz := Lib.digits36_size
      have HR := Aside0.mk hr
      have HI := Aside0.mk hi
      clear hr hi hi1 hlen
      go_wp2
      go_roundg d
      have hI := HI.out
      obtain ⟨hm, hql, hh⟩ := hD.out
      refine ⟨d, q / 16, dg r :: acc, by congr 1, by rw [← hI], by omega, Aside0.mk ⟨rfl, ?_, ?_⟩, ?_, ?_⟩
      · rw [Nat.pow_succ] at hql; omega
      · rw [← hh, hexL, if_pos hq16, HR.out]
      · rw [← hI]; exact Aside0.mk (hB.out.put _)
      · exact Aside0.mk (hW.out.setCell (Nat.le_refl _) _)
      · have := hD.out.1; omega
    · have q1 := eq_false (show ¬ (16 : Int) ≤ (q : Int) by omega)
      obtain ⟨i, hi⟩ : ∃ i, i = d + 56 := ⟨_, rfl⟩
      have hi1 : d + 57 = i + 1 := by omega
      rw [hi1] at hB ⊢
      have e1 : ((i + 1 : Nat) : Int) - 1 = (i : Int) := by omega
      have e2 : IntKind.i64.wrap (i : Int) = (i : Int) := IntWalk.i64_in _ (by have := hB.out.len; omega)
      have hlen := hB.out.len
      have q2 := eq_true (show (0 : Int) ≤ (i : Int) by omega)
      have q3 := eq_true (show (i : Int) < 65 by omega)
      have q4 := eq_true (show (0 : Int) ≤ (q : Int) by omega)
      have q5 := eq_true (show (q : Int) < 36 by omega)
      have q6 := eq_true (show q < 36 by omega)
      have hdg := dg_at q (by omega)
      obtain ⟨c, hc⟩ := hB.out.full i (by omega)
      have hf := hB.out.fz i (by omega)
      have hsz := Lib.digits36_size
      have HQ := Aside0.mk (show hex u = dg q :: acc by
        obtain ⟨hm, hql, hh⟩ := hD.out
        rw [← hh]
        cases d with
        | zero => have : q = 0 := by simpa using hql
                  subst this; rfl
        | succ d => rw [hexL, if_neg hq16])
      have HB := Aside0.mk (hB.out.put (dg q))
      have HI := Aside0.mk hi
      have HL := Aside0.mk hlen
      have q7 := eq_true (show (i : Int) ≤ 65 by omega)
      have q8 := eq_false (show ¬ 65 = i by omega)
      have hcv : (convert 69 9 (.slice (some ⟨w.heap.size, i, none⟩) (65 - i) (65 - i))).run Tryd.prog (wr.setCell ⟨w.heap.size, i, none⟩ (.int .u8 ((dg q).toNat : Int))) = .ok (.string ⟨(hex u).toArray⟩) (wr.setCell ⟨w.heap.size, i, none⟩ (.int .u8 ((dg q).toNat : Int))) := by
        have h := run_convert_bytes_back (P := Tryd.prog) (wr.setCell ⟨w.heap.size, i, none⟩ (.int .u8 ((dg q).toNat : Int))) 69 9 5 ⟨w.heap.size, i, none⟩ (65 - i) (dg q :: acc) (by kernel_rfl) (by kernel_rfl) (by kernel_rfl) (fun j hj => by
          rw [Lib.add_plain]
          exact HB.out.row j hj)
        rw [List.length_cons, show acc.length + 1 = 65 - i by omega] at h
        rw [HQ.out]
        exact h
      clear hi hi1 hlen
      go_wp2
      go_ret2
      exact ⟨rfl, hW.out.setCell (Nat.le_refl _) _⟩
set_option maxHeartbeats 2000000 in
set_option maxRecDepth 100000 in
theorem fii_calls (u : Nat) (hu : u < 4294967296) (w : World) (h : TZ w) :
    Calls Tryd.prog 61 #[.int .i64 (u : Int), .int .i64 16] w fun e w' => e = .returned (.string ⟨(hex u).toArray⟩) ∧ Below w.heap.size w w' := by
  have hu1 : IntKind.u64.wrap (u : Int) = (u : Int) := IntWalk.u64_in _ (by omega)
  have q1 := eq_true (show (0 : Int) ≤ (u : Int) by omega)
  have q2 := eq_false (show ¬ (u : Int) < 0 by omega)
  go_enter Tryd.func61, Tryd.ntmps61
  go_wp2_with (go_at_call 103; (with_reducible refine (fb_calls u hu _ h).mono ?_); rintro e w' ⟨rfl, hb⟩)
  go_ret
  exact ⟨rfl, hb⟩
set_option maxHeartbeats 2000000 in
theorem fi_calls (u : Nat) (hu : u < 4294967296) (w : World) (h : TZ w) :
    Calls Tryd.prog 28 #[.int .i64 (u : Int), .int .i64 16] w fun e w' => e = .returned (.string ⟨(hex u).toArray⟩) ∧ Below w.heap.size w w' := by
  go_enter Tryd.func28, Tryd.ntmps28
  go_wp2_with (go_at_call 61; (with_reducible refine (fii_calls u hu _ h).mono ?_); rintro e w' ⟨rfl, hb⟩)
  go_ret
  exact ⟨rfl, hb⟩
end Go.Proofs.YtffpbhbiamkkpaaDoor.F16
