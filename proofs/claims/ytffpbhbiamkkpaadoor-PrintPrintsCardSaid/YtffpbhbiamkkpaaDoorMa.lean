/- Several texts as one. -/
import Derived.Test.YtffpbhbiamkkpaaDoorProg
import Derived.Below
import Derived.Deep.Draws
import Derived.Deep.AppendLies
import Derived.Maps.AppendAt
import Derived.OwnWalk
import Derived.Laws.BytesArg
import Derived.Laws.MakeOwn
import Derived.Laws.OwnMore
import Derived.Deep.OwnRows
import Derived.Tactics
import Derived.Lib.ConvBytes
import Derived.Laws.Slices
import Derived.WalkKit
import Derived.KernelRfl
import Derived.RowKit3
import Derived.Deep.LoopGhost
import Derived.Deep.QuietTactic
import Derived.BigQuiet
import Derived.WideLaws
import Derived.Deep.DeepCutAuto
import Derived.Deep.CutBlock
import Derived.Deep.RegionHeld3
import Derived.Laws.Rows
import Derived.Lib.AppendStr
import Derived.ArgAppend
import Derived.Laws.IdiomCopy
import Derived.OrdersHeld
import Derived.Laws.BitsLemmas
import Derived.RowKit
import Derived.Test.YtffpbhbiamkkpaaDoorMb
import Derived.Lib.Strings
import Derived.Test.YtffpbhbiamkkpaaDoorPLx2
import Derived.Lib.IndexMore
import Derived.IntWalk
import Derived.Lib.IndexLaws
import Derived.Test.YtffpbhbiamkkpaaDoorM2
import Derived.WalkMore
import Derived.Test.YtffpbhbiamkkpaaDoorNam
import Derived.Shelf.Strings.Builder1
import Derived.Shelf.Strings.Builder2
import Derived.Shelf.Small.Utf8
import Derived.Shelf.Small.Bits
import Derived.Shelf.Small.Strs
import Derived.Shelf.Small.Wraps
import Derived.Shelf.Strings.BuilderF
import Derived.Shelf.Strings.BuilderK
import Derived.Shelf.Strings.BuilderRune
import Derived.Shelf.Strings.Builder2Cap
import Derived.Shelf.Strconv.Itoa0
import Derived.Shelf.Strconv.Itoa1
import Derived.Shelf.LaysM
import Derived.Shelf.Strconv.Itoa2
import Derived.Shelf.Strconv.Itoa3
import Derived.Shelf.Strconv.Itoa4
import Derived.Shelf.Strings.Search1
import Derived.Shelf.Strings.Search2
import Derived.Shelf.Strings.Search3
import Derived.Shelf.Strings.Count
import Derived.Shelf.Strings.Shaped
import Derived.Shelf.Strings.Prefix
import Derived.Shelf.Strings.Split
import Derived.Shelf.Strings.Replace
import Derived.Shelf.Strings.SplitShaped
import Derived.Shelf.Strings.RuneCount
import Derived.Shelf.Unicode.DecodeSlow
import Derived.Shelf.Unicode.DecodeAny
import Derived.Shelf.Strings.MapAny
import Derived.Shelf.Strings.BuilderCap
import Derived.StillTailTactics
import Derived.Recover
import Derived.RegionTactic
import Derived.ChangeAlike
import Derived.Defers
import Derived.Test.YtffpbhbiamkkpaaDoorPLx3
-- PRINTED by print.py (a twelfth state) out of the translation. Not trusted: Lean checks it.
namespace Go.Proofs.YtffpbhbiamkkpaaDoor.PV
open Go.RowKit Go.Proofs.YtffpbhbiamkkpaaDoorW.PrintWords Go.Proofs.YtffpbhbiamkkpaaDoorW.PrintLast Go.Proofs.YtffpbhbiamkkpaaDoorW.PrintMore
attribute [local go_sem] yf9 yf7 yg5 yg4 ye9 ye8 yf8 yf6   -- for this text's walks alone
set_option linter.unusedVariables false
set_option linter.unusedSimpArgs false



def errW : Option Int → Value
 | none => .nilIface
 | some c => .iface 0 (.int .i64 c)
theorem yb3 : errW none = .nilIface := rfl
theorem yb2 (c : Int) : errW (some c) = .iface 0 (.int .i64 c) := rfl

end Go.Proofs.YtffpbhbiamkkpaaDoor.PV
-- PRINTED by print.py (a twelfth state) out of the translation. Not trusted: Lean checks it.
namespace Go.Proofs.YtffpbhbiamkkpaaDoor.PV
open Go.RowKit Go.Proofs.YtffpbhbiamkkpaaDoorW.PrintWords Go.Proofs.YtffpbhbiamkkpaaDoorW.PrintLast Go.Proofs.YtffpbhbiamkkpaaDoorW.PrintMore
attribute [local go_sem] yf9 yf7 yg5 yg4 ye9 ye8 yf8 yf6   -- for this text's walks alone
set_option linter.unusedVariables false
set_option linter.unusedSimpArgs false

abbrev yd5.f := @Go.Proofs.YtffpbhbiamkkpaaDoor.PL.yd5.f
theorem yd5.calls (a0 : Int) (r : ByteArray) (w : World) (h : yd5.f a0 = some r) :
  Calls Tryd.prog 86 #[.int .i64 a0] w fun e w' => e = .returned (.string r) ∧ Below w.heap.size w w' := Go.Proofs.YtffpbhbiamkkpaaDoor.PL.yd5.calls a0 r w h

mutual
def yb7.j0 : Nat → ByteArray → Int → Option (Int)
 | 0, _, _ => none
 | k + 1, x0, x3 => yb7.l0 k x0 x3 1
def yb7.l0 : Nat → ByteArray → Int → Int → Option (Int)
 | 0, _, _, _ => none
 | k + 1, x0, x3, x4 => if x4 < (x0.size : Int) then (if 0 ≤ x4 then (yb7.l0 k x0 (wrap64 ((wrap64 ((wrap64 (x3 * 64)) + (wrap64 (bt x0 x4)))) - 128)) (wrap64 (x4 + 1))) else (none)) else (some x3)
end
def yb7.f (k : Nat) (a0 : ByteArray) : Option (Int) := if 0 < (a0.size : Int) then (if (a0.size : Int) = 2 then (yb7.j0 k a0 (wrap64 ((wrap64 (bt a0 0)) - 192))) else (if (a0.size : Int) = 3 then (yb7.j0 k a0 (wrap64 ((wrap64 (bt a0 0)) - 224))) else (if (a0.size : Int) = 4 then (yb7.j0 k a0 (wrap64 ((wrap64 (bt a0 0)) - 240))) else (yb7.j0 k a0 (wrap64 (bt a0 0)))))) else (none)
set_option maxHeartbeats 8000000 in
set_option maxRecDepth 100000 in
theorem yb7.calls (k : Nat) (a0 : ByteArray) (r : Int) (w : World) (h : yb7.f k a0 = some r) :
  Calls Tryd.prog 98 #[.string a0] w fun e w' => e = .returned (.int .i64 r) ∧ Drawn0 w w' := by
 have H : (if 0 < (a0.size : Int) then (if (a0.size : Int) = 2 then (yb7.j0 k a0 (wrap64 ((wrap64 (bt a0 0)) - 192))) else (if (a0.size : Int) = 3 then (yb7.j0 k a0 (wrap64 ((wrap64 (bt a0 0)) - 224))) else (if (a0.size : Int) = 4 then (yb7.j0 k a0 (wrap64 ((wrap64 (bt a0 0)) - 240))) else (yb7.j0 k a0 (wrap64 (bt a0 0)))))) else (none)) = some r := h
 clear h
 by_cases c2 : 0 < (a0.size : Int)
 rotate_left 1
 ·rw [if_neg c2] at H
  exact absurd H (by simp)

 rw [if_pos c2] at H
 have c2b0 : decide (0 < (a0.size : Int)) = true := decide_eq_true c2
 have c2b1 : decide (0 < a0.size) = true := decide_eq_true (by omega)
 clear c2
 have HC4 := Aside0.mk H
 clear H
 have p3 : 0 ≤ (0 : Int) := (by omega)
 have q3 : 0 < a0.size := (by have : (0 : Int) < (a0.size : Int) := of_decide_eq_true (by first | (with_reducible assumption) | assumption); omega)
 have hx3 : ∀ h : 0 < a0.size, ((a0[0]'h).toNat : Int) = bt a0 0 := bt_at a0 0
 clear p3
 have qi3 : (0 < (a0.size : Int)) = True := eq_true (of_decide_eq_true (by first | (with_reducible assumption) | assumption))
 replace q3 := eq_true q3
 go_enter Tryd.func98, Tryd.ntmps98
 go_upto_block 0 with (fail)
 go_cut [3] (fun v3 wc => ∃ (kq : Nat) (x3_3 : Int), v3 = .int .i64 x3_3 ∧ Aside0 (yb7.j0 kq a0 x3_3 = some r) ∧ Aside0 (kq ≤ k) ∧ Drawn0 w wc)
 case first =>
  have H := HC4.out
  clear HC4
  by_cases c5 : (a0.size : Int) = 2
  ·rw [if_pos c5] at H
   have c5b0 : ((a0.size : Int) == 2) = true := beq_iff_eq.mpr c5
   have c5b1 : ((a0.size : Int) != 2) = false := bne_eq_false_iff_eq.mpr c5
   clear c5
   (first | rw [c5b0] | (simp only [i64_w, i32_w]; rw [c5b0]) | skip)
   have H' := Aside0.mk H
   clear H
   go_wp2
   go_meet
   case rel => exact ⟨_, (wrap64 ((wrap64 (bt a0 0)) - 192)), (by first | rfl | (simp; done) | (simp [*]; done)), H', ⟨by first | omega | exact Nat.le_refl _⟩, by repeat (first | exact Drawn0.refl _ | apply Drawn0.step)⟩
  rw [if_neg c5] at H
  have c5b0 : ((a0.size : Int) == 2) = false := beq_eq_false_iff_ne.mpr c5
  have c5b1 : ((a0.size : Int) != 2) = true := bne_iff_ne.mpr c5
  (first | rw [c5b0] | (simp only [i64_w, i32_w]; rw [c5b0]) | skip)
  by_cases c6 : (a0.size : Int) = 3
  ·rw [if_pos c6] at H
   have c6b0 : ((a0.size : Int) == 3) = true := beq_iff_eq.mpr c6
   have c6b1 : ((a0.size : Int) != 3) = false := bne_eq_false_iff_eq.mpr c6
   clear c6
   have H' := Aside0.mk H
   clear H
   go_wp2
   go_meet
   case rel => exact ⟨_, (wrap64 ((wrap64 (bt a0 0)) - 224)), (by first | rfl | (simp; done) | (simp [*]; done)), H', ⟨by first | omega | exact Nat.le_refl _⟩, by repeat (first | exact Drawn0.refl _ | apply Drawn0.step)⟩
  rw [if_neg c6] at H
  have c6b0 : ((a0.size : Int) == 3) = false := beq_eq_false_iff_ne.mpr c6
  have c6b1 : ((a0.size : Int) != 3) = true := bne_iff_ne.mpr c6
  by_cases c7 : (a0.size : Int) = 4
  rotate_left 1
  ·rw [if_neg c7] at H
   have c7b0 : ((a0.size : Int) == 4) = false := beq_eq_false_iff_ne.mpr c7
   have c7b1 : ((a0.size : Int) != 4) = true := bne_iff_ne.mpr c7
   have H' := Aside0.mk H
   clear H
   go_wp2
   go_meet
   case rel => exact ⟨_, (wrap64 (bt a0 0)), (by first | rfl | (simp; done) | (simp [*]; done)), H', ⟨by first | omega | exact Nat.le_refl _⟩, by repeat (first | exact Drawn0.refl _ | apply Drawn0.step)⟩
  rw [if_pos c7] at H
  have c7b0 : ((a0.size : Int) == 4) = true := beq_iff_eq.mpr c7
  have c7b1 : ((a0.size : Int) != 4) = false := bne_eq_false_iff_eq.mpr c7
  clear c7
  have H' := Aside0.mk H
  clear H
  go_wp2
  go_meet
  case rel => exact ⟨_, (wrap64 ((wrap64 (bt a0 0)) - 240)), (by first | rfl | (simp; done) | (simp [*]; done)), H', ⟨by first | omega | exact Nat.le_refl _⟩, by repeat (first | exact Drawn0.refl _ | apply Drawn0.step)⟩
 case rest =>
  clear HC4
  try clear c2
  try clear c2b0
  try clear c2b1
  try clear p2
  try clear p3
  try clear q3
  try clear hx3
  try clear qi3
  try clear c5
  try clear c5b0
  try clear c5b1
  try clear c6
  try clear c6b0
  try clear c6b1
  try clear p6
  try clear c7
  try clear c7b0
  try clear c7b1
  try clear p3
  try clear q3
  obtain ⟨kq, x3_3, rfl, HA, HJ3, ⟨mc3, rfl⟩⟩ := hcut
  cases kq with
  | zero => exact absurd HA.out (by simp [yb7.j0])
  | succ kj3 =>
   have H := HA.out
   clear HA
   simp only [yb7.j0] at H
   have H' := Aside0.mk H
   clear H
   go_wp2
   go_loopg [3, 4] kj3 (fun kq v3 v4 w' => ∃ (x3_2 : Int) (x4_2 : Int), v3 = .int .i64 x3_2 ∧ v4 = .int .i64 x4_2 ∧ Aside0 (yb7.l0 kq a0 x3_2 x4_2 = some r) ∧ Aside0 (kq ≤ kj3) ∧ Drawn0 w w')
   case atStart => exact ⟨(x3_3), (1), (by first | rfl | (simp; done) | (simp [*]; done)), (by first | rfl | (simp; done) | (simp [*]; done)), H', ⟨Nat.le_refl _⟩, by repeat (first | exact Drawn0.refl _ | apply Drawn0.step)⟩
   case round =>
    clear H'
    try clear c2
    try clear c2b0
    try clear c2b1
    try clear p2
    try clear c3
    try clear p3
    try clear q3
    try clear hx3
    try clear qi3
    try clear c5
    try clear c5b0
    try clear c5b1
    try clear c6
    try clear c6b0
    try clear c6b1
    try clear p6
    try clear c7
    try clear c7b0
    try clear c7b1
    try clear p2
    try clear p3
    try clear p6
    try clear q3
    obtain ⟨x3_2, x4_2, rfl, rfl, HA, HK2, ⟨m2, rfl⟩⟩ := hrel
    cases gk with
    | zero => exact absurd HA.out (by simp [yb7.l0])
    | succ k2 =>
     have H := HA.out
     clear HA
     simp only [yb7.l0] at H
     by_cases c8 : x4_2 < (a0.size : Int)
     rotate_left 1
     ·rw [if_neg c8] at H
      have c8b0 : decide (x4_2 < (a0.size : Int)) = false := decide_eq_false c8
      clear c8
      obtain rfl := Option.some.inj H
      go_wp2
      go_ret
      exact ⟨by first | rfl | (simp; done) | (simp [*]; done), by repeat (first | exact Drawn0.refl _ | apply Drawn0.step)⟩
     rw [if_pos c8] at H
     have c8b0 : decide (x4_2 < (a0.size : Int)) = true := decide_eq_true c8
     clear c8
     by_cases c9 : 0 ≤ x4_2
     rotate_left 1
     ·rw [if_neg c9] at H
      exact absurd H (by simp)
     rw [if_pos c9] at H
     have c9b0 : decide (0 ≤ x4_2) = true := decide_eq_true c9
     clear c9
     have H' := Aside0.mk H
     clear H
     have p10 : 0 ≤ (x4_2 : Int) := of_decide_eq_true (by first | (with_reducible assumption) | assumption)
     have q10 : x4_2 < (a0.size : Int) := of_decide_eq_true (by first | (with_reducible assumption) | assumption)
     have hx10 := bt_at a0 x4_2
     replace p10 := eq_true p10
     replace q10 := eq_true q10
     go_wp2
     go_roundg k2
     case measure => have := HJ3.out; have := HK2.out; omega
     case rel => exact ⟨(wrap64 ((wrap64 ((wrap64 (x3_2 * 64)) + (wrap64 (bt a0 x4_2)))) - 128)), (wrap64 (x4_2 + 1)), (by first | rfl | (simp; done) | (simp [*]; done)), (by first | rfl | (simp; done) | (simp [*]; done)), H', ⟨by have := HJ3.out; have := HK2.out; omega⟩, by repeat (first | exact Drawn0.refl _ | apply Drawn0.step)⟩
abbrev yc8.f := @Go.Proofs.YtffpbhbiamkkpaaDoor.PL.yc8.f
theorem yc8.calls (a0 : Int) (r : Bool) (w : World) (h : yc8.f a0 = some r) :
  Calls Tryd.prog 99 #[.int .i64 a0] w fun e w' => e = .returned (.bool r) ∧ Drawn0 w w' := Go.Proofs.YtffpbhbiamkkpaaDoor.PL.yc8.calls a0 r w h

mutual
def yb1.j0 : Nat → ByteArray → Int → Bool → Option (Int × Int)
 | 0, _, _, _ => none
 | k + 1, x0, x1, x16 => if x16 = true then (some (0, 0)) else (yb1.l0 k x0 x1 1)
def yb1.l0 : Nat → ByteArray → Int → Int → Option (Int × Int)
 | 0, _, _, _ => none
 | k + 1, x0, x1, x6 => if x6 ≤ 4 then (yb1.j2 k x0 x1 x6 (decide (x6 ≤ (wrap64 ((x0.size : Int) - x1))))) else (yb1.j2 k x0 x1 x6 false)
def yb1.j2 : Nat → ByteArray → Int → Int → Bool → Option (Int × Int)
 | 0, _, _, _, _ => none
 | k + 1, x0, x1, x6, x26 => if x26 = true then (if 0 ≤ x1 then (if x1 ≤ (wrap64 (x1 + x6)) then (if (wrap64 (x1 + x6)) ≤ (x0.size : Int) then ((yb7.f k (x0.extract (x1 : Int).toNat ((wrap64 (x1 + x6)) : Int).toNat)).bind fun t118 => ((yc8.f t118).bind fun t119 => (if t119 = true then ((yd5.f t118).bind fun t120 => (if t120.toList = (x0.extract (x1 : Int).toNat ((wrap64 (x1 + x6)) : Int).toNat).toList then (some (t118, x6)) else (yb1.l0 k x0 x1 (wrap64 (x6 + 1))))) else (yb1.l0 k x0 x1 (wrap64 (x6 + 1)))))) else (none)) else (none)) else (none)) else (some (0, 0))
end
def yb1.f (k : Nat) (a0 : ByteArray) (a1 : Int) : Option (Int × Int) := if a1 < 0 then (yb1.j0 k a0 a1 true) else (yb1.j0 k a0 a1 (decide (a1 ≥ (a0.size : Int))))
set_option maxHeartbeats 8000000 in
set_option maxRecDepth 100000 in
theorem yb1.calls (k : Nat) (a0 : ByteArray) (a1 : Int) (r1 : Int) (r2 : Int) (w : World) (h : yb1.f k a0 a1 = some (r1, r2)) :
  Calls Tryd.prog 58 #[.string a0, .int .i64 a1] w fun e w' => e = .returned (.tuple #[.int .i64 r1, .int .i64 r2]) ∧ Below w.heap.size w w' := by
 have HB := Aside0.mk (Below.refl w.heap.size w)
 have H : (if a1 < 0 then (yb1.j0 k a0 a1 true) else (yb1.j0 k a0 a1 (decide (a1 ≥ (a0.size : Int))))) = some (r1, r2) := h
 clear h
 have HC3 := Aside0.mk H
 clear H
 go_enter Tryd.func58, Tryd.ntmps58
 go_upto_region 1 with (fail)
 go_cut [16] (fun v16 wc => ∃ (kq : Nat) (x16_2 : Bool), v16 = .bool x16_2 ∧ Aside0 (yb1.j0 kq a0 a1 x16_2 = some (r1, r2)) ∧ Aside0 (kq ≤ k) ∧ Aside0 (Below w.heap.size w wc))
 case first =>
  have H := HC3.out
  clear HC3
  by_cases c4 : a1 < 0
  rotate_left 1
  ·rw [if_neg c4] at H
   have c4b0 : decide (a1 < 0) = false := decide_eq_false c4
   clear c4
   (first | rw [c4b0] | (simp only [i64_w, i32_w]; rw [c4b0]) | skip)
   have H' := Aside0.mk H
   clear H
   go_wp2
   go_meet
   case rel => exact ⟨_, (decide (a1 ≥ (a0.size : Int))), (by first | rfl | (simp; done) | (simp [*]; done)), H', ⟨by first | omega | exact Nat.le_refl _⟩, ⟨by repeat (first | (with_reducible first | exact HB.out | apply ya2 | apply ya0 | apply ya1) | exact HB.out)⟩⟩
  rw [if_pos c4] at H
  have c4b0 : decide (a1 < 0) = true := decide_eq_true c4
  clear c4
  (first | rw [c4b0] | (simp only [i64_w, i32_w]; rw [c4b0]) | skip)
  have H' := Aside0.mk H
  clear H
  go_wp2
  go_meet
  case rel => exact ⟨_, (true), (by first | rfl | (simp; done) | (simp [*]; done)), H', ⟨by first | omega | exact Nat.le_refl _⟩, ⟨by repeat (first | (with_reducible first | exact HB.out | apply ya2 | apply ya0 | apply ya1) | exact HB.out)⟩⟩
 case rest =>
  clear HC3
  try clear p2
  try clear c4
  try clear c4b0
  obtain ⟨kq, x16_2, rfl, HA, HJ2, HB⟩ := hcut
  cases kq with
  | zero => exact absurd HA.out (by simp [yb1.j0])
  | succ kj2 =>
   have H := HA.out
   clear HA
   simp only [yb1.j0] at H
   by_cases c5 : x16_2 = true
   ·subst c5
    have H1 : (some (0, 0)) = some (r1, r2) := by rw [if_pos rfl] at H; exact H
    clear H
    have H := H1
    clear H1
    simp only [Option.some.injEq, Prod.mk.injEq] at H
    obtain ⟨rfl, rfl⟩ := H
    go_wp2
    go_ret2
    exact ⟨by first | rfl | (simp [yb3, yb2] <;> rfl) | (simp [*, yb3, yb2] <;> rfl), by repeat (first | (with_reducible first | exact HB.out | apply ya2 | apply ya0 | apply ya1) | exact HB.out)⟩
   replace c5 := Bool.eq_false_iff.mpr c5
   subst c5
   have H1 : (yb1.l0 kj2 a0 a1 1) = some (r1, r2) := by rw [if_neg (show ¬ (false = true) by decide)] at H; exact H
   clear H
   have H := H1
   clear H1
   have H' := Aside0.mk H
   clear H
   go_wp2
   go_loopg [6] kj2 (fun kq v6 w' => ∃ (x6_2 : Int), v6 = .int .i64 x6_2 ∧ Aside0 (yb1.l0 kq a0 a1 x6_2 = some (r1, r2)) ∧ Aside0 (kq ≤ kj2) ∧ Aside0 (Below w.heap.size w w'))
   case atStart => exact ⟨(1), (by first | rfl | (simp; done) | (simp [*]; done)), H', ⟨Nat.le_refl _⟩, ⟨by repeat (first | (with_reducible first | exact HB.out | apply ya2 | apply ya0 | apply ya1) | exact HB.out)⟩⟩
   case round =>
    clear H'
    try clear p2
    try clear c4
    try clear c4b0
    try clear c5
    try clear p2
    obtain ⟨x6_2, rfl, HA, HK2, HB⟩ := hrel
    cases gk with
    | zero => exact absurd HA.out (by simp [yb1.l0])
    | succ k2 =>
     have H := HA.out
     clear HA
     simp only [yb1.l0] at H
     have HC6 := Aside0.mk H
     clear H
     go_upto_region 4 with (fail)
     go_cut [26] (fun v26 wc => ∃ (kq : Nat) (x26_5 : Bool), v26 = .bool x26_5 ∧ Aside0 (yb1.j2 kq a0 a1 x6_2 x26_5 = some (r1, r2)) ∧ Aside0 (kq ≤ k2) ∧ Aside0 (Below w.heap.size w wc))
     case first =>
      have H := HC6.out
      clear HC6
      by_cases c7 : x6_2 ≤ 4
      rotate_left 1
      ·rw [if_neg c7] at H
       have c7b0 : decide (x6_2 ≤ 4) = false := decide_eq_false c7
       clear c7
       (first | rw [c7b0] | (simp only [i64_w, i32_w]; rw [c7b0]) | skip)
       have H' := Aside0.mk H
       clear H
       go_wp2
       go_meet
       case rel => exact ⟨_, (false), (by first | rfl | (simp; done) | (simp [*]; done)), H', ⟨by have := HJ2.out; have := HK2.out; first | omega | exact Nat.le_refl _⟩, ⟨by repeat (first | (with_reducible first | exact HB.out | apply ya2 | apply ya0 | apply ya1) | exact HB.out)⟩⟩
      rw [if_pos c7] at H
      have c7b0 : decide (x6_2 ≤ 4) = true := decide_eq_true c7
      clear c7
      (first | rw [c7b0] | (simp only [i64_w, i32_w]; rw [c7b0]) | skip)
      have H' := Aside0.mk H
      clear H
      go_wp2
      go_meet
      case rel => exact ⟨_, (decide (x6_2 ≤ (wrap64 ((a0.size : Int) - a1)))), (by first | rfl | (simp; done) | (simp [*]; done)), H', ⟨by have := HJ2.out; have := HK2.out; first | omega | exact Nat.le_refl _⟩, ⟨by repeat (first | (with_reducible first | exact HB.out | apply ya2 | apply ya0 | apply ya1) | exact HB.out)⟩⟩
     case rest =>
      clear HC6
      try clear p2
      try clear c4
      try clear c4b0
      try clear c5
      try clear p6
      try clear c7
      try clear c7b0
      try clear p2
      obtain ⟨kq, x26_5, rfl, HA, HJ5, HB⟩ := hcut
      cases kq with
      | zero => exact absurd HA.out (by simp [yb1.j2])
      | succ kj5 =>
       have H := HA.out
       clear HA
       simp only [yb1.j2] at H
       by_cases c8 : x26_5 = true
       rotate_left 1
       ·replace c8 := Bool.eq_false_iff.mpr c8
        subst c8
        have H1 : (some (0, 0)) = some (r1, r2) := by rw [if_neg (show ¬ (false = true) by decide)] at H; exact H
        clear H
        have H := H1
        clear H1
        simp only [Option.some.injEq, Prod.mk.injEq] at H
        obtain ⟨rfl, rfl⟩ := H
        go_wp2
        go_ret2
        exact ⟨by first | rfl | (simp [yb3, yb2] <;> rfl) | (simp [*, yb3, yb2] <;> rfl), by repeat (first | (with_reducible first | exact HB.out | apply ya2 | apply ya0 | apply ya1) | exact HB.out)⟩

       subst c8
       have H1 : (if 0 ≤ a1 then (if a1 ≤ (wrap64 (a1 + x6_2)) then (if (wrap64 (a1 + x6_2)) ≤ (a0.size : Int) then ((yb7.f kj5 (a0.extract (a1 : Int).toNat ((wrap64 (a1 + x6_2)) : Int).toNat)).bind fun t118 => ((yc8.f t118).bind fun t119 => (if t119 = true then ((yd5.f t118).bind fun t120 => (if t120.toList = (a0.extract (a1 : Int).toNat ((wrap64 (a1 + x6_2)) : Int).toNat).toList then (some (t118, x6_2)) else (yb1.l0 kj5 a0 a1 (wrap64 (x6_2 + 1))))) else (yb1.l0 kj5 a0 a1 (wrap64 (x6_2 + 1)))))) else (none)) else (none)) else (none)) = some (r1, r2) := by rw [if_pos rfl] at H; exact H
       clear H
       have H := H1
       clear H1
       by_cases c9 : 0 ≤ a1
       rotate_left 1
       ·rw [if_neg c9] at H
        exact absurd H (by simp)
       rw [if_pos c9] at H
       have c9b0 := eq_true c9
       have c9b1 : decide (0 ≤ a1) = true := decide_eq_true c9
       clear c9
       by_cases c10 : a1 ≤ (wrap64 (a1 + x6_2))
       rotate_left 1
       ·rw [if_neg c10] at H
        exact absurd H (by simp)
       rw [if_pos c10] at H
       have c10b0 := eq_true c10
       have c10b1 : decide (a1 ≤ (wrap64 (a1 + x6_2))) = true := decide_eq_true c10
       by_cases c11 : (wrap64 (a1 + x6_2)) ≤ (a0.size : Int)
       rotate_left 1
       ·rw [if_neg c11] at H
        exact absurd H (by simp)
       rw [if_pos c11] at H
       have c11b0 := eq_true c11
       have c11b1 : decide ((wrap64 (a1 + x6_2)) ≤ (a0.size : Int)) = true := decide_eq_true c11
       replace H := Option.bind_eq_some_iff.mp H
       obtain ⟨t118, A120, H⟩ := H
       replace H : ((yc8.f t118).bind fun t119 => (if t119 = true then ((yd5.f t118).bind fun t120 => (if t120.toList = (a0.extract (a1 : Int).toNat ((wrap64 (a1 + x6_2)) : Int).toNat).toList then (some (t118, x6_2)) else (yb1.l0 kj5 a0 a1 (wrap64 (x6_2 + 1))))) else (yb1.l0 kj5 a0 a1 (wrap64 (x6_2 + 1))))) = some (r1, r2) := H
       have A12 := Aside0.mk A120
       clear A120
       replace H := Option.bind_eq_some_iff.mp H
       obtain ⟨t119, A130, H⟩ := H
       replace H : (if t119 = true then ((yd5.f t118).bind fun t120 => (if t120.toList = (a0.extract (a1 : Int).toNat ((wrap64 (a1 + x6_2)) : Int).toNat).toList then (some (t118, x6_2)) else (yb1.l0 kj5 a0 a1 (wrap64 (x6_2 + 1))))) else (yb1.l0 kj5 a0 a1 (wrap64 (x6_2 + 1)))) = some (r1, r2) := H
       have A13 := Aside0.mk A130
       clear A130
       by_cases c14 : t119 = true
       rotate_left 1
       ·replace c14 := Bool.eq_false_iff.mpr c14
        subst c14
        have H1 : (yb1.l0 kj5 a0 a1 (wrap64 (x6_2 + 1))) = some (r1, r2) := by rw [if_neg (show ¬ (false = true) by decide)] at H; exact H
        clear H
        have H := H1
        clear H1
        have H' := Aside0.mk H
        clear H
        go_wp2_with (first | ((with_reducible refine yc6 (f := 98) rfl ?_); refine goesL_ (some 36) rfl rfl Tryd.func98 (by kernel_rfl) rfl #[.string (a0.extract (a1 : Int).toNat ((wrap64 (a1 + x6_2)) : Int).toNat)] rfl (by (try simp only [List.map_toArray, List.map_cons, List.map_nil]); first | done | rfl | (simp only [List.length_drop, List.length_take]; rfl) | (simp only [ByteArray.size_extract]; rfl)) ?_; (with_reducible refine (yb7.calls kj5 (a0.extract (a1 : Int).toNat ((wrap64 (a1 + x6_2)) : Int).toNat) t118 _ A12.out).mono ?_); rintro e w' ⟨rfl, ⟨nd, rfl⟩⟩; refine ⟨_, rfl, ?_⟩) | ((with_reducible refine yc6 (f := 99) rfl ?_); refine goesL_ (some 38) rfl rfl Tryd.func99 (by kernel_rfl) rfl #[.int .i64 t118] rfl (by (try simp only [List.map_toArray, List.map_cons, List.map_nil]); first | done | rfl | (simp only [List.length_drop, List.length_take]; rfl) | (simp only [ByteArray.size_extract]; rfl)) ?_; (with_reducible refine (yc8.calls t118 false _ A13.out).mono ?_); rintro e w' ⟨rfl, ⟨nd, rfl⟩⟩; refine ⟨_, rfl, ?_⟩))
        go_roundg kj5
        case measure => have := HJ2.out; have := HK2.out; have := HJ5.out; omega
        case rel => exact ⟨(wrap64 (x6_2 + 1)), (by first | rfl | (simp; done) | (simp [*]; done)), H', ⟨by have := HJ2.out; have := HK2.out; have := HJ5.out; omega⟩, ⟨by repeat (first | (with_reducible first | exact HB.out | apply ya2 | apply ya0 | apply ya1) | exact HB.out)⟩⟩
       subst c14
       have H1 : ((yd5.f t118).bind fun t120 => (if t120.toList = (a0.extract (a1 : Int).toNat ((wrap64 (a1 + x6_2)) : Int).toNat).toList then (some (t118, x6_2)) else (yb1.l0 kj5 a0 a1 (wrap64 (x6_2 + 1))))) = some (r1, r2) := by rw [if_pos rfl] at H; exact H
       clear H
       have H := H1
       clear H1
       replace H := Option.bind_eq_some_iff.mp H
       obtain ⟨t120, A150, H⟩ := H
       replace H : (if t120.toList = (a0.extract (a1 : Int).toNat ((wrap64 (a1 + x6_2)) : Int).toNat).toList then (some (t118, x6_2)) else (yb1.l0 kj5 a0 a1 (wrap64 (x6_2 + 1)))) = some (r1, r2) := H
       have A15 := Aside0.mk A150
       clear A150
       by_cases c16 : t120.toList = (a0.extract (a1 : Int).toNat ((wrap64 (a1 + x6_2)) : Int).toNat).toList
       rotate_left 1
       ·rw [if_neg c16] at H
        have c16b0 : (t120.toList == (a0.extract (a1 : Int).toNat ((wrap64 (a1 + x6_2)) : Int).toNat).toList) = false := beq_eq_false_iff_ne.mpr c16
        have c16b1 : (t120.toList != (a0.extract (a1 : Int).toNat ((wrap64 (a1 + x6_2)) : Int).toNat).toList) = true := bne_iff_ne.mpr c16
        have H' := Aside0.mk H
        clear H
        go_wp2_with (first | ((with_reducible refine yc6 (f := 98) rfl ?_); refine goesL_ (some 36) rfl rfl Tryd.func98 (by kernel_rfl) rfl #[.string (a0.extract (a1 : Int).toNat ((wrap64 (a1 + x6_2)) : Int).toNat)] rfl (by (try simp only [List.map_toArray, List.map_cons, List.map_nil]); first | done | rfl | (simp only [List.length_drop, List.length_take]; rfl) | (simp only [ByteArray.size_extract]; rfl)) ?_; (with_reducible refine (yb7.calls kj5 (a0.extract (a1 : Int).toNat ((wrap64 (a1 + x6_2)) : Int).toNat) t118 _ A12.out).mono ?_); rintro e w' ⟨rfl, ⟨nd, rfl⟩⟩; refine ⟨_, rfl, ?_⟩) | ((with_reducible refine yc6 (f := 99) rfl ?_); refine goesL_ (some 38) rfl rfl Tryd.func99 (by kernel_rfl) rfl #[.int .i64 t118] rfl (by (try simp only [List.map_toArray, List.map_cons, List.map_nil]); first | done | rfl | (simp only [List.length_drop, List.length_take]; rfl) | (simp only [ByteArray.size_extract]; rfl)) ?_; (with_reducible refine (yc8.calls t118 true _ A13.out).mono ?_); rintro e w' ⟨rfl, ⟨nd, rfl⟩⟩; refine ⟨_, rfl, ?_⟩) | (go_at_call 86; (with_reducible refine (yd5.calls t118 t120 _ A15.out).mono ?_); rintro e w18 ⟨rfl, hb⟩; have n0_ := Aside0.mk (ya7 (by repeat (first | (with_reducible first | exact HB.out | apply ya2 | apply ya0 | apply ya1) | exact HB.out)) hb); clear HB; have HB := n0_; clear n0_; (try clear hb); (try clear hb2); (try clear hk); (try clear hi)))
        go_roundg kj5
        case measure => have := HJ2.out; have := HK2.out; have := HJ5.out; omega
        case rel => exact ⟨(wrap64 (x6_2 + 1)), (by first | rfl | (simp; done) | (simp [*]; done)), H', ⟨by have := HJ2.out; have := HK2.out; have := HJ5.out; omega⟩, ⟨by repeat (first | (with_reducible first | exact HB.out | apply ya2 | apply ya0 | apply ya1) | exact HB.out)⟩⟩
       rw [if_pos c16] at H
       have c16b0 : (t120.toList == (a0.extract (a1 : Int).toNat ((wrap64 (a1 + x6_2)) : Int).toNat).toList) = true := beq_iff_eq.mpr c16
       have c16b1 : (t120.toList != (a0.extract (a1 : Int).toNat ((wrap64 (a1 + x6_2)) : Int).toNat).toList) = false := bne_eq_false_iff_eq.mpr c16
       clear c16
       simp only [Option.some.injEq, Prod.mk.injEq] at H
       obtain ⟨rfl, rfl⟩ := H
       go_wp2_with (first | ((with_reducible refine yc6 (f := 98) rfl ?_); refine goesL_ (some 36) rfl rfl Tryd.func98 (by kernel_rfl) rfl #[.string (a0.extract (a1 : Int).toNat ((wrap64 (a1 + x6_2)) : Int).toNat)] rfl (by (try simp only [List.map_toArray, List.map_cons, List.map_nil]); first | done | rfl | (simp only [List.length_drop, List.length_take]; rfl) | (simp only [ByteArray.size_extract]; rfl)) ?_; (with_reducible refine (yb7.calls kj5 (a0.extract (a1 : Int).toNat ((wrap64 (a1 + x6_2)) : Int).toNat) t118 _ A12.out).mono ?_); rintro e w' ⟨rfl, ⟨nd, rfl⟩⟩; refine ⟨_, rfl, ?_⟩) | ((with_reducible refine yc6 (f := 99) rfl ?_); refine goesL_ (some 38) rfl rfl Tryd.func99 (by kernel_rfl) rfl #[.int .i64 t118] rfl (by (try simp only [List.map_toArray, List.map_cons, List.map_nil]); first | done | rfl | (simp only [List.length_drop, List.length_take]; rfl) | (simp only [ByteArray.size_extract]; rfl)) ?_; (with_reducible refine (yc8.calls t118 true _ A13.out).mono ?_); rintro e w' ⟨rfl, ⟨nd, rfl⟩⟩; refine ⟨_, rfl, ?_⟩) | (go_at_call 86; (with_reducible refine (yd5.calls t118 t120 _ A15.out).mono ?_); rintro e w17 ⟨rfl, hb⟩; have n0_ := Aside0.mk (ya7 (by repeat (first | (with_reducible first | exact HB.out | apply ya2 | apply ya0 | apply ya1) | exact HB.out)) hb); clear HB; have HB := n0_; clear n0_; (try clear hb); (try clear hb2); (try clear hk); (try clear hi)))
       go_ret2
       exact ⟨by first | rfl | (simp [yb3, yb2] <;> rfl) | (simp [*, yb3, yb2] <;> rfl), by repeat (first | (with_reducible first | exact HB.out | apply ya2 | apply ya0 | apply ya1) | exact HB.out)⟩
end Go.Proofs.YtffpbhbiamkkpaaDoor.PV
