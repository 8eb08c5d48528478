/- strconv.FormatUint at base 10, by the kit's contracts of its parts. -/
import Derived.Test.YtidkjifilgjgfaaDoorMx14
import Derived.Test.YtidkjifilgjgfaaDoorBwR
import Derived.Lib.AppendIntMem
import Derived.Lib.ItoaLen
namespace Go.Proofs.YtidkjifilgjgfaaDoor.Pd
open Go Go.Shelf Go.RowKit Go.Sort Go.Lib
open Go.Proofs Go.Proofs.YtidkjifilgjgfaaDoorW.PrintWords Go.Proofs.YtidkjifilgjgfaaDoorW.PrintLast Go.Proofs.YtidkjifilgjgfaaDoorW.PrintMore
set_option linter.unusedVariables false
set_option maxHeartbeats 4000000 in
set_option maxRecDepth 100000 in
theorem fui_calls (u : Nat) (hu64 : u < 18446744073709551616) (w : World) (htab : Refs.Tens w) :
    Calls Tryd.prog 48 #[.int .u64 (u : Int), .int .i64 10] w fun e w' => e = .returned (.string ⟨(Lib.itoa (u : Int)).toArray⟩) ∧ ∃ k os, w' = grow (w.drewN k) os := by
  have L := Tryd.ShelfIlaysM171
  rw [Lib.itoa_nonneg]
  by_cases hs : u < 100
  · have q1 := eq_true (show (u : Int) < 100 by omega)
    have f1 : IntKind.i64.wrap (u : Int) = (u : Int) := IntWalk.i64_in _ (by omega)
    have hc := fun W => Any.internal_strconv_small { L with } u hs W
    have HC := Aside0.mk hc
    clear hc htab L
    go_enter Tryd.func48, Tryd.ntmps48
    go_wp2_with (go_at_call 57; refine (HC.out _).mono ?_; rintro e w' ⟨rfl, rfl⟩)
    go_ret
    exact ⟨rfl, 0, #[], by simp [World.drewN_zero]⟩
  · have q1 := eq_false (show ¬ (u : Int) < 100 by omega)
    have hu1 : 1 ≤ u := by omega
    have hnd20 : Lib.nDigits u ≤ 20 := Lib.nDigits_le20 u hu64
    have hb3 : Lib.nDigits u ≤ 24 := by omega
    have hal : Tryd.prog.arrayLen 108 = 24 := by kernel_rfl
    have hsl : ∀ W, (Instr.sliceAt 108 (.pointer (some ⟨w.heap.size, 0, none⟩)) none (some (.int .i64 (Lib.nDigits u : Int))) none).run Tryd.prog W = .ok (.slice (some ⟨w.heap.size, 0, none⟩) (Lib.nDigits u) 24) W := fun W => by
      rw [run_sliceAt_array_h W 108 ⟨w.heap.size, 0, none⟩ (by kernel_rfl) .i64 (Lib.nDigits u : Int) (by omega) (by rw [hal]; omega)]
      go_simp
    have hH0 := Lib.holds_zero0 w 108 (Lib.nDigits u) (by omega)
    have hfmt := Any.internal_strconv_formatBase10 { L with } w.heap.size 0 24 u (Array.replicate (Lib.nDigits u) 0) (w.alloc (.cells Lib.zeros24 108)) hH0 (by rw [Array.size_replicate]; exact Lib.lt_pow_nDigits u) hu64 (by rw [Array.size_replicate]; omega)
    rw [Array.size_replicate] at hfmt
    have hnum := Any.internal_strconv_numDigits { L with } u hu1 hu64 (w.alloc (.cells Lib.zeros24 108)) (Lib.tabIs_alloc htab _)
    have HH0 := Aside0.mk hH0
    have HF := Aside0.mk (show Calls Tryd.prog 59 _ _ _ from hfmt)
    have HN := Aside0.mk (show Calls Tryd.prog 58 _ _ _ from hnum)
    have t71 := Tryd.underlying71
    have t5 := Tryd.underlying5
    have t9 := Tryd.underlying9
    clear hH0 hal hfmt hnum L htab
    go_enter Tryd.func48, Tryd.ntmps48
    go_wp2_with (go_at_call 58; refine HN.out.mono ?_; rintro e w' ⟨rfl, rfl⟩)
    go_at_call 59
    refine HF.out.mono ?_
    rintro e w' ⟨rfl, k, v', dk, rfl, hF⟩
    have hcv : (convert 71 9 (.slice (some ⟨w.heap.size, 0, none⟩) (Lib.nDigits u) 24)).run Tryd.prog ((putRow (fun (b : UInt8) => Value.int .u8 (b.toNat : Int)) (w.alloc (.cells Lib.zeros24 108)) w.heap.size 0 dk).drewN k) = .ok (.string ⟨(Lib.decDigits u).toArray⟩) ((putRow (fun (b : UInt8) => Value.int .u8 (b.toNat : Int)) (w.alloc (.cells Lib.zeros24 108)) w.heap.size 0 dk).drewN k) := by
      have h := run_convert_bytes_back (P := Tryd.prog) ((putRow (fun (b : UInt8) => Value.int .u8 (b.toNat : Int)) (w.alloc (.cells Lib.zeros24 108)) w.heap.size 0 dk).drewN k) 71 9 5 ⟨w.heap.size, 0, none⟩ 24 (Lib.decDigits u) t71 t5 t9 (fun j hj => by
        rw [Lib.row_is_numeral hF j hj, Lib.add_plain, World.cell?_drewN]
        exact cell?_putRow (fun (b : UInt8) => Value.int .u8 (b.toNat : Int)) _ w.heap.size 0 _ dk HH0.out (by rw [hF.size, Array.size_replicate]) j (by rw [hF.size]; rw [Lib.decDigits_length] at hj; exact hj))
      rw [Lib.decDigits_length] at h
      exact h
    go_wp2
    go_ret
    obtain ⟨os, eo⟩ := Lib.fin_at w (.cells Lib.zeros24 108) dk k 0
    exact ⟨rfl, k, os, eo⟩
set_option maxHeartbeats 1000000 in
set_option maxRecDepth 100000 in
theorem fu_calls (n : Int) (h0 : 0 ≤ n) (h1 : n ≤ 18446744073709551615) (w : World) (htab : Refs.Tens w) :
    Calls Tryd.prog 40 #[.int .u64 n, .int .i64 10] w fun e w' => e = .returned (.string ⟨(Lib.itoa n).toArray⟩) ∧ Bw w w' := by
  obtain ⟨u, rfl⟩ : ∃ u : Nat, n = u := ⟨n.toNat, by omega⟩
  have HC := Aside0.mk (fun W h => fui_calls u (by omega) W h)
  have HT := Aside0.mk htab
  clear htab
  go_enter Tryd.func40, Tryd.ntmps40
  go_wp2_with (go_at_call 48; refine (HC.out _ HT.out).mono ?_; rintro e w' ⟨rfl, k, os, rfl⟩)
  go_ret
  exact ⟨rfl, Lib.below_grow _ w (Nat.le_refl _) k os⟩
end Go.Proofs.YtidkjifilgjgfaaDoor.Pd
