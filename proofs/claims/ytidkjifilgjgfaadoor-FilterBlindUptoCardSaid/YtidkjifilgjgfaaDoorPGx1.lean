import Derived.Test.YtidkjifilgjgfaaDoorPGx0
-- PRINTED by print.py (a twelfth state) out of the translation. Not trusted: Lean checks it.
namespace Go.Proofs.YtidkjifilgjgfaaDoor.PG
open Go.RowKit Go.Proofs.YtidkjifilgjgfaaDoorW.PrintWords Go.Proofs.YtidkjifilgjgfaaDoorW.PrintLast Go.Proofs.YtidkjifilgjgfaaDoorW.PrintMore
attribute [local go_sem] yg8 yg6 yh9 yh8 yf9 yf8 yg7 yg5   -- for this text's walks alone
set_option linter.unusedVariables false
set_option linter.unusedSimpArgs false

abbrev yg2.f := @Go.Proofs.YtidkjifilgjgfaaDoor.PU.yg2.f
theorem yg2.calls (a0 : ByteArray) (a1 : Int) (r1 : Int) (r2 : Int) (w : World) (h : yg2.f a0 a1 = some (r1, r2)) :
  Calls Tryd.prog 61 #[.string a0, .int .i64 a1] w fun e w' => e = .returned (.tuple #[.int .i32 r1, .int .i64 r2]) ∧ Below w.heap.size w w' := Go.Proofs.YtidkjifilgjgfaaDoor.PU.yg2.calls a0 a1 r1 r2 w h

abbrev yg0.f := @Go.Proofs.YtidkjifilgjgfaaDoor.PL.yg0.f
theorem yg0.calls (k : Nat) (a0 : Int) (r : Bool) (w : World) (h : yg0.f k a0 = some r) :
  Calls Tryd.prog 62 #[.int .i32 a0] w fun e w' => e = .returned (.bool r) ∧ Below w.heap.size w w' := Go.Proofs.YtidkjifilgjgfaaDoor.PL.yg0.calls k a0 r w h
def yf1.l0 : Nat → ByteArray → Int → Option (Bool)
 | 0, _, _ => none
 | k + 1, x0, x3 => if x3 < (x0.size : Int) then ((yg2.f x0 x3).bind fun bt101 => (if bt101.2 = 0 then (some false) else ((yg0.f k bt101.1).bind fun t103 => (if t103 = true then (yf1.l0 k x0 (wrap64 (x3 + bt101.2))) else (some false))))) else (some true)
def yf1.f (k : Nat) (a0 : ByteArray) : Option (Bool) := yf1.l0 k a0 0
set_option maxHeartbeats 8000000 in
set_option maxRecDepth 100000 in
theorem yf1.calls (k : Nat) (a0 : ByteArray) (r : Bool) (w : World) (h : yf1.f k a0 = some r) :
  Calls Tryd.prog 49 #[.string a0] w fun e w' => e = .returned (.bool r) ∧ Below w.heap.size w w' := by
 have HB := Aside0.mk (Below.refl w.heap.size w)
 have H : (yf1.l0 k a0 0) = some r := h
 clear h
 have H' := Aside0.mk H
 clear H
 go_enter Tryd.func49, Tryd.ntmps49
 go_wp2
 go_loopg [3] k (fun kq v3 w' => ∃ (x3_1 : Int), v3 = .int .i64 x3_1 ∧ Aside0 (yf1.l0 kq a0 x3_1 = some r) ∧ Aside0 (kq ≤ k) ∧ Aside0 (Below w.heap.size w w'))
 case atStart => exact ⟨(0), (by first | rfl | (simp; done) | (simp [*]; done)), H', ⟨Nat.le_refl _⟩, ⟨by repeat (first | (with_reducible first | exact HB.out | apply ya2 | apply ya0 | apply ya1) | exact HB.out)⟩⟩
 case round =>
  clear H'
  obtain ⟨x3_1, rfl, HA, HK1, HB⟩ := hrel
  cases gk with
  | zero => exact absurd HA.out (by simp [yf1.l0])
  | succ k1 =>
   have H := HA.out
   clear HA
   simp only [yf1.l0] at H
   by_cases c2 : x3_1 < (a0.size : Int)
   rotate_left 1
   ·rw [if_neg c2] at H
    have c2b0 : decide (x3_1 < (a0.size : Int)) = false := decide_eq_false c2
    clear c2
    obtain rfl := Option.some.inj H
    go_wp2
    go_ret
    exact ⟨by first | rfl | (simp [yb0, ya9] <;> rfl) | (simp [*, yb0, ya9] <;> rfl), by repeat (first | (with_reducible first | exact HB.out | apply ya2 | apply ya0 | apply ya1) | exact HB.out)⟩

   rw [if_pos c2] at H
   have c2b0 : decide (x3_1 < (a0.size : Int)) = true := decide_eq_true c2
   clear c2
   replace H := Option.bind_eq_some_iff.mp H
   obtain ⟨⟨t101, t102⟩, A30, H⟩ := H
   replace H : (if t102 = 0 then (some false) else ((yg0.f k1 t101).bind fun t103 => (if t103 = true then (yf1.l0 k1 a0 (wrap64 (x3_1 + t102))) else (some false)))) = some r := H
   have A3 := Aside0.mk A30
   clear A30
   by_cases c4 : t102 = 0
   ·rw [if_pos c4] at H
    have c4b0 : (t102 == 0) = true := beq_iff_eq.mpr c4
    have c4b1 : (t102 != 0) = false := bne_eq_false_iff_eq.mpr c4
    clear c4
    obtain rfl := Option.some.inj H
    go_wp2_with (first | ((with_reducible refine yd5 (f := 61) rfl ?_); refine goesL_ (some 13) rfl rfl Tryd.func61 (by kernel_rfl) rfl #[.string a0, .int .i64 x3_1] rfl (by (try simp only [List.map_toArray, List.map_cons, List.map_nil]); first | done | rfl | (simp only [List.length_drop, List.length_take]; rfl) | (simp only [ByteArray.size_extract]; rfl)) ?_; (with_reducible refine (yg2.calls a0 x3_1 t101 t102 _ A3.out).mono ?_); rintro e w5 ⟨rfl, hb⟩; refine ⟨_, rfl, ?_⟩; have n0_ := Aside0.mk (yb1 (by repeat (first | (with_reducible first | exact HB.out | apply ya2 | apply ya0 | apply ya1) | exact HB.out)) hb); clear HB; have HB := n0_; clear n0_; (try clear hb); (try clear hb2); (try clear hk); (try clear hi)))
    go_ret
    exact ⟨by first | rfl | (simp [yb0, ya9] <;> rfl) | (simp [*, yb0, ya9] <;> rfl), by repeat (first | (with_reducible first | exact HB.out | apply ya2 | apply ya0 | apply ya1) | exact HB.out)⟩
   rw [if_neg c4] at H
   have c4b0 : (t102 == 0) = false := beq_eq_false_iff_ne.mpr c4
   have c4b1 : (t102 != 0) = true := bne_iff_ne.mpr c4
   replace H := Option.bind_eq_some_iff.mp H
   obtain ⟨t103, A60, H⟩ := H
   replace H : (if t103 = true then (yf1.l0 k1 a0 (wrap64 (x3_1 + t102))) else (some false)) = some r := H
   have A6 := Aside0.mk A60
   clear A60
   by_cases c7 : t103 = true
   rotate_left 1
   ·replace c7 := Bool.eq_false_iff.mpr c7
    subst c7
    have H1 : (some false) = some r := by rw [if_neg (show ¬ (false = true) by decide)] at H; exact H
    clear H
    have H := H1
    clear H1
    obtain rfl := Option.some.inj H
    go_wp2_with (first | ((with_reducible refine yd5 (f := 61) rfl ?_); refine goesL_ (some 13) rfl rfl Tryd.func61 (by kernel_rfl) rfl #[.string a0, .int .i64 x3_1] rfl (by (try simp only [List.map_toArray, List.map_cons, List.map_nil]); first | done | rfl | (simp only [List.length_drop, List.length_take]; rfl) | (simp only [ByteArray.size_extract]; rfl)) ?_; (with_reducible refine (yg2.calls a0 x3_1 t101 t102 _ A3.out).mono ?_); rintro e w10 ⟨rfl, hb⟩; refine ⟨_, rfl, ?_⟩; have n0_ := Aside0.mk (yb1 (by repeat (first | (with_reducible first | exact HB.out | apply ya2 | apply ya0 | apply ya1) | exact HB.out)) hb); clear HB; have HB := n0_; clear n0_; (try clear hb); (try clear hb2); (try clear hk); (try clear hi)) | (go_at_call 62; (with_reducible refine (yg0.calls k1 t101 false _ A6.out).mono ?_); rintro e w11 ⟨rfl, hb⟩; have n0_ := Aside0.mk (yb1 (by repeat (first | (with_reducible first | exact HB.out | apply ya2 | apply ya0 | apply ya1) | exact HB.out)) hb); clear HB; have HB := n0_; clear n0_; (try clear hb); (try clear hb2); (try clear hk); (try clear hi)))
    go_ret
    exact ⟨by first | rfl | (simp [yb0, ya9] <;> rfl) | (simp [*, yb0, ya9] <;> rfl), by repeat (first | (with_reducible first | exact HB.out | apply ya2 | apply ya0 | apply ya1) | exact HB.out)⟩
   subst c7
   have H1 : (yf1.l0 k1 a0 (wrap64 (x3_1 + t102))) = some r := by rw [if_pos rfl] at H; exact H
   clear H
   have H := H1
   clear H1
   have H' := Aside0.mk H
   clear H
   go_wp2_with (first | ((with_reducible refine yd5 (f := 61) rfl ?_); refine goesL_ (some 13) rfl rfl Tryd.func61 (by kernel_rfl) rfl #[.string a0, .int .i64 x3_1] rfl (by (try simp only [List.map_toArray, List.map_cons, List.map_nil]); first | done | rfl | (simp only [List.length_drop, List.length_take]; rfl) | (simp only [ByteArray.size_extract]; rfl)) ?_; (with_reducible refine (yg2.calls a0 x3_1 t101 t102 _ A3.out).mono ?_); rintro e w8 ⟨rfl, hb⟩; refine ⟨_, rfl, ?_⟩; have n0_ := Aside0.mk (yb1 (by repeat (first | (with_reducible first | exact HB.out | apply ya2 | apply ya0 | apply ya1) | exact HB.out)) hb); clear HB; have HB := n0_; clear n0_; (try clear hb); (try clear hb2); (try clear hk); (try clear hi)) | (go_at_call 62; (with_reducible refine (yg0.calls k1 t101 true _ A6.out).mono ?_); rintro e w9 ⟨rfl, hb⟩; have n0_ := Aside0.mk (yb1 (by repeat (first | (with_reducible first | exact HB.out | apply ya2 | apply ya0 | apply ya1) | exact HB.out)) hb); clear HB; have HB := n0_; clear n0_; (try clear hb); (try clear hb2); (try clear hk); (try clear hi)))
   go_roundg k1
   case measure => have := HK1.out; omega
   case rel => exact ⟨(wrap64 (x3_1 + t102)), (by first | rfl | (simp; done) | (simp [*]; done)), H', ⟨by have := HK1.out; omega⟩, ⟨by repeat (first | (with_reducible first | exact HB.out | apply ya2 | apply ya0 | apply ya1) | exact HB.out)⟩⟩
def yc6.l0 : Nat → Int → List (S133) → Int → Int → Option (Bool)
 | 0, _, _, _, _ => none
 | k + 1, x0, x7, x8, x9 => if x9 < x8 then (if 0 ≤ x9 then (if x9 < (x7.length : Int) then (if x0 ≥ ((yg1 x7 x9).f0) then (if x0 ≤ ((yg1 x7 x9).f1) then (some true) else (yc6.l0 k x0 x7 x8 (wrap64 (x9 + 1)))) else (yc6.l0 k x0 x7 x8 (wrap64 (x9 + 1)))) else (none)) else (none)) else (some false)
def yc6.f (k : Nat) (a0 : Int) (l1 : List (S133)) : Option (Bool) := yc6.l0 k a0 l1 (l1.length : Int) 0
set_option maxHeartbeats 8000000 in
set_option maxRecDepth 100000 in
theorem yc6.calls (k : Nat) (a0 : Int) (A1 : Option Addr) (c1 : Nat) (l1 : List (S133)) (r : Bool) (w : World) (hr1 : Kd.C k133 w A1 l1.length l1) (hc1 : l1.length ≤ c1) (h : yc6.f k a0 l1 = some r) :
  Calls Tryd.prog 77 #[.int .i32 a0, .slice A1 l1.length c1] w fun e w' => e = .returned (.bool r) ∧ Below w.heap.size w w' := by
 have hu133 := Tryd.underlying133
 have HR1 := Aside0.mk hr1
 have HC1 := Aside0.mk hc1
 clear hr1 hc1
 have HB := Aside0.mk (Below.refl w.heap.size w)
 have H : (yc6.l0 k a0 l1 (l1.length : Int) 0) = some r := h
 clear h
 have H' := Aside0.mk H
 clear H
 go_enter Tryd.func77, Tryd.ntmps77
 go_wp2
 go_loopg [9] k (fun kq v9 w' => ∃ (x9_1 : Int), v9 = .int .i64 x9_1 ∧ Aside0 (yc6.l0 kq a0 l1 (l1.length : Int) x9_1 = some r) ∧ Aside0 (kq ≤ k) ∧ Aside0 (Below w.heap.size w w'))
 case atStart => exact ⟨(0), (by first | rfl | (simp; done) | (simp [*]; done)), H', ⟨Nat.le_refl _⟩, ⟨by repeat (first | (with_reducible first | exact HB.out | apply ya2 | apply ya0 | apply ya1) | exact HB.out)⟩⟩
 case round =>
  clear H'
  try clear c1
  try clear p2
  obtain ⟨x9_1, rfl, HA, HK1, HB⟩ := hrel
  cases gk with
  | zero => exact absurd HA.out (by simp [yc6.l0])
  | succ k1 =>
   have H := HA.out
   clear HA
   simp only [yc6.l0] at H
   by_cases c3 : x9_1 < (l1.length : Int)
   rotate_left 1
   ·rw [if_neg c3] at H
    have c3b0 : decide (x9_1 < (l1.length : Int)) = false := decide_eq_false c3
    clear c3
    obtain rfl := Option.some.inj H
    go_wp2
    go_ret
    exact ⟨by first | rfl | (simp [yb0, ya9] <;> rfl) | (simp [*, yb0, ya9] <;> rfl), by repeat (first | (with_reducible first | exact HB.out | apply ya2 | apply ya0 | apply ya1) | exact HB.out)⟩

   rw [if_pos c3] at H
   have c3b0 : decide (x9_1 < (l1.length : Int)) = true := decide_eq_true c3
   clear c3
   by_cases c4 : 0 ≤ x9_1
   rotate_left 1
   ·rw [if_neg c4] at H
    exact absurd H (by simp)
   rw [if_pos c4] at H
   have c4b0 : decide (0 ≤ x9_1) = true := decide_eq_true c4
   clear c4
   by_cases c5 : x9_1 < (l1.length : Int)
   rotate_left 1
   ·rw [if_neg c5] at H
    exact absurd H (by simp)
   rw [if_pos c5] at H
   have c5b0 : decide (x9_1 < (l1.length : Int)) = true := decide_eq_true c5
   clear c5
   by_cases c6 : a0 ≥ ((yg1 l1 x9_1).f0)
   ·rw [if_pos c6] at H
    have c6b0 : decide (((yg1 l1 x9_1).f0) ≤ a0) = true := decide_eq_true c6
    clear c6
    by_cases c7 : a0 ≤ ((yg1 l1 x9_1).f1)
    ·rw [if_pos c7] at H
     have c7b0 : decide (a0 ≤ ((yg1 l1 x9_1).f1)) = true := decide_eq_true c7
     clear c7
     obtain rfl := Option.some.inj H
     have p104 : 0 ≤ (x9_1 : Int) := of_decide_eq_true (by first | (with_reducible assumption) | assumption)
     have q104 : x9_1 < (l1.length : Int) := of_decide_eq_true (by first | (with_reducible assumption) | assumption)
     obtain ⟨ad104, e104, hx104_0, hx104_1⟩ := ym5 HR1.out x9_1 p104 q104
     cases e104
     replace hx104_0 := cup HB.out hx104_0
     replace hx104_1 := cup HB.out hx104_1
     replace p104 := eq_true p104
     replace q104 := eq_true q104
     go_wp2_with (first | ((with_reducible refine yc1 (N := 6) rfl ?_); refine yb9 ?hg (N := 6) ?hd (cs := #[.int .i32 0, .int .i32 0]) (t := 133) ?hr ?_; (case hd => rfl); (case hg => rfl); (case hr => first | (go_simp; done) | (go_simp; rfl)); intro gb105 hg w8 hbox hb; have n0_ := Aside0.mk (yb1 (by repeat (first | (with_reducible first | exact HB.out | apply ya2 | apply ya0 | apply ya1) | exact HB.out)) hb); have n1_ := Aside0.mk (hbox); have n2_ := Aside0.mk ((by rw [hg]; exact (ya7 (by repeat (first | (with_reducible first | exact HB.out | apply ya2 | apply ya0 | apply ya1) | exact HB.out))) : w.heap.size ≤ gb105)); have n3_ := Aside0.mk ((by rw [hg]; exact (ya7 (by repeat (first | (with_reducible first | exact HB.out | apply ya2 | apply ya0 | apply ya1) | exact HB.out))) : w.heap.size ≤ gb105)); clear HB; have HB := n0_; have BK105 := n1_; have GW105 := n2_; have GE105 := n3_; clear n0_ n1_ n2_ n3_; clear hb hbox hg; obtain ⟨hcz9_0, hcz9_1, hfz9_0, hfz9_1⟩ := bx2 BK105.out))
     go_ret
     exact ⟨by first | rfl | (simp [yb0, ya9] <;> rfl) | (simp [*, yb0, ya9] <;> rfl), by repeat (first | (with_reducible first | exact HB.out | apply ya2 | apply ya0 | apply ya1 | refine ya3 ?_ GE105.out) | exact HB.out)⟩
    ·rw [if_neg c7] at H
     have c7b0 : decide (a0 ≤ ((yg1 l1 x9_1).f1)) = false := decide_eq_false c7
     clear c7
     have H' := Aside0.mk H
     clear H
     have p104 : 0 ≤ (x9_1 : Int) := of_decide_eq_true (by first | (with_reducible assumption) | assumption)
     have q104 : x9_1 < (l1.length : Int) := of_decide_eq_true (by first | (with_reducible assumption) | assumption)
     obtain ⟨ad104, e104, hx104_0, hx104_1⟩ := ym5 HR1.out x9_1 p104 q104
     cases e104
     replace hx104_0 := cup HB.out hx104_0
     replace hx104_1 := cup HB.out hx104_1
     replace p104 := eq_true p104
     replace q104 := eq_true q104
     go_wp2_with (first | ((with_reducible refine yc1 (N := 6) rfl ?_); refine yb9 ?hg (N := 6) ?hd (cs := #[.int .i32 0, .int .i32 0]) (t := 133) ?hr ?_; (case hd => rfl); (case hg => rfl); (case hr => first | (go_simp; done) | (go_simp; rfl)); intro gb105 hg w10 hbox hb; have n0_ := Aside0.mk (yb1 (by repeat (first | (with_reducible first | exact HB.out | apply ya2 | apply ya0 | apply ya1) | exact HB.out)) hb); have n1_ := Aside0.mk (hbox); have n2_ := Aside0.mk ((by rw [hg]; exact (ya7 (by repeat (first | (with_reducible first | exact HB.out | apply ya2 | apply ya0 | apply ya1) | exact HB.out))) : w.heap.size ≤ gb105)); have n3_ := Aside0.mk ((by rw [hg]; exact (ya7 (by repeat (first | (with_reducible first | exact HB.out | apply ya2 | apply ya0 | apply ya1) | exact HB.out))) : w.heap.size ≤ gb105)); clear HB; have HB := n0_; have BK105 := n1_; have GW105 := n2_; have GE105 := n3_; clear n0_ n1_ n2_ n3_; clear hb hbox hg; obtain ⟨hcz11_0, hcz11_1, hfz11_0, hfz11_1⟩ := bx2 BK105.out))
     go_roundg k1
     case measure => have := HK1.out; omega
     case rel => exact ⟨(wrap64 (x9_1 + 1)), (by first | rfl | (simp; done) | (simp [*]; done)), H', ⟨by have := HK1.out; omega⟩, ⟨by repeat (first | (with_reducible first | exact HB.out | apply ya2 | apply ya0 | apply ya1 | refine ya3 ?_ GE105.out) | exact HB.out)⟩⟩
   ·rw [if_neg c6] at H
    have c6b0 : decide (((yg1 l1 x9_1).f0) ≤ a0) = false := decide_eq_false c6
    clear c6
    have H' := Aside0.mk H
    clear H
    have p104 : 0 ≤ (x9_1 : Int) := of_decide_eq_true (by first | (with_reducible assumption) | assumption)
    have q104 : x9_1 < (l1.length : Int) := of_decide_eq_true (by first | (with_reducible assumption) | assumption)
    obtain ⟨ad104, e104, hx104_0, hx104_1⟩ := ym5 HR1.out x9_1 p104 q104
    cases e104
    replace hx104_0 := cup HB.out hx104_0
    replace hx104_1 := cup HB.out hx104_1
    replace p104 := eq_true p104
    replace q104 := eq_true q104
    go_wp2_with (first | ((with_reducible refine yc1 (N := 6) rfl ?_); refine yb9 ?hg (N := 6) ?hd (cs := #[.int .i32 0, .int .i32 0]) (t := 133) ?hr ?_; (case hd => rfl); (case hg => rfl); (case hr => first | (go_simp; done) | (go_simp; rfl)); intro gb105 hg w12 hbox hb; have n0_ := Aside0.mk (yb1 (by repeat (first | (with_reducible first | exact HB.out | apply ya2 | apply ya0 | apply ya1) | exact HB.out)) hb); have n1_ := Aside0.mk (hbox); have n2_ := Aside0.mk ((by rw [hg]; exact (ya7 (by repeat (first | (with_reducible first | exact HB.out | apply ya2 | apply ya0 | apply ya1) | exact HB.out))) : w.heap.size ≤ gb105)); have n3_ := Aside0.mk ((by rw [hg]; exact (ya7 (by repeat (first | (with_reducible first | exact HB.out | apply ya2 | apply ya0 | apply ya1) | exact HB.out))) : w.heap.size ≤ gb105)); clear HB; have HB := n0_; have BK105 := n1_; have GW105 := n2_; have GE105 := n3_; clear n0_ n1_ n2_ n3_; clear hb hbox hg; obtain ⟨hcz13_0, hcz13_1, hfz13_0, hfz13_1⟩ := bx2 BK105.out))
    go_roundg k1
    case measure => have := HK1.out; omega
    case rel => exact ⟨(wrap64 (x9_1 + 1)), (by first | rfl | (simp; done) | (simp [*]; done)), H', ⟨by have := HK1.out; omega⟩, ⟨by repeat (first | (with_reducible first | exact HB.out | apply ya2 | apply ya0 | apply ya1 | refine ya3 ?_ GE105.out) | exact HB.out)⟩⟩
def yi7.f (k : Nat) (a0 : Int) : Option (Bool) := (yc6.f k a0 (([(⟨65, 90⟩ : S133), (⟨97, 122⟩ : S133), (⟨95, 95⟩ : S133), (⟨192, 214⟩ : S133), (⟨216, 246⟩ : S133), (⟨248, 767⟩ : S133), (⟨880, 893⟩ : S133), (⟨895, 8191⟩ : S133), (⟨8204, 8205⟩ : S133), (⟨8304, 8591⟩ : S133), (⟨11264, 12271⟩ : S133), (⟨12289, 55295⟩ : S133), (⟨63744, 64975⟩ : S133), (⟨65008, 65533⟩ : S133), (⟨65536, 983039⟩ : S133)] : List (S133)))).bind fun t109 => (some t109)
set_option maxHeartbeats 8000000 in
set_option maxRecDepth 100000 in
theorem yi7.calls (k : Nat) (a0 : Int) (r : Bool) (w : World) (h : yi7.f k a0 = some r) :
  Calls Tryd.prog 78 #[.int .i32 a0] w fun e w' => e = .returned (.bool r) ∧ Below w.heap.size w w' := by
 have hu133 := Tryd.underlying133
 have HB := Aside0.mk (Below.refl w.heap.size w)
 have H : ((yc6.f k a0 (([(⟨65, 90⟩ : S133), (⟨97, 122⟩ : S133), (⟨95, 95⟩ : S133), (⟨192, 214⟩ : S133), (⟨216, 246⟩ : S133), (⟨248, 767⟩ : S133), (⟨880, 893⟩ : S133), (⟨895, 8191⟩ : S133), (⟨8204, 8205⟩ : S133), (⟨8304, 8591⟩ : S133), (⟨11264, 12271⟩ : S133), (⟨12289, 55295⟩ : S133), (⟨63744, 64975⟩ : S133), (⟨65008, 65533⟩ : S133), (⟨65536, 983039⟩ : S133)] : List (S133)))).bind fun t109 => (some t109)) = some r := h
 clear h
 obtain ⟨y106, hy106⟩ : ∃ y_ : List (S133), y_ = (([(⟨65, 90⟩ : S133), (⟨97, 122⟩ : S133), (⟨95, 95⟩ : S133), (⟨192, 214⟩ : S133), (⟨216, 246⟩ : S133), (⟨248, 767⟩ : S133), (⟨880, 893⟩ : S133), (⟨895, 8191⟩ : S133), (⟨8204, 8205⟩ : S133), (⟨8304, 8591⟩ : S133), (⟨11264, 12271⟩ : S133), (⟨12289, 55295⟩ : S133), (⟨63744, 64975⟩ : S133), (⟨65008, 65533⟩ : S133), (⟨65536, 983039⟩ : S133)] : List (S133))) := ⟨_, rfl⟩
 replace H : ((yc6.f k a0 y106).bind fun t109 => (some t109)) = some r := by first | (rw [hy106]; with_reducible exact H) | (rw [hy106]; exact H) | exact H
 have Ny106 := Aside0.mk hy106
 clear hy106
 replace H := Option.bind_eq_some_iff.mp H
 obtain ⟨t109, A20, H⟩ := H
 replace H : (some t109) = some r := H
 have A2 := Aside0.mk A20
 clear A20
 obtain rfl := Option.some.inj H
 go_enter Tryd.func78, Tryd.ntmps78
 go_wp2_with (first | ((with_reducible refine yc1 (N := 19) rfl ?_); refine Kd.R_lit k133 _ 133 ?hg (N := 19) ?hd (xs := ([(⟨65, 90⟩ : S133), (⟨97, 122⟩ : S133), (⟨95, 95⟩ : S133), (⟨192, 214⟩ : S133), (⟨216, 246⟩ : S133), (⟨248, 767⟩ : S133), (⟨880, 893⟩ : S133), (⟨895, 8191⟩ : S133), (⟨8204, 8205⟩ : S133), (⟨8304, 8591⟩ : S133), (⟨11264, 12271⟩ : S133), (⟨12289, 55295⟩ : S133), (⟨63744, 64975⟩ : S133), (⟨65008, 65533⟩ : S133), (⟨65536, 983039⟩ : S133)] : List (S133))) (inner := [.int .i32 65, .int .i32 90, .int .i32 97, .int .i32 122, .int .i32 95, .int .i32 95, .int .i32 192, .int .i32 214, .int .i32 216, .int .i32 246, .int .i32 248, .int .i32 767, .int .i32 880, .int .i32 893, .int .i32 895, .int .i32 8191, .int .i32 8204, .int .i32 8205, .int .i32 8304, .int .i32 8591, .int .i32 11264, .int .i32 12271, .int .i32 12289, .int .i32 55295, .int .i32 63744, .int .i32 64975, .int .i32 65008, .int .i32 65533, .int .i32 65536, .int .i32 983039]) (ok := fun _ => True) (okp := fun _ => True) ?hr ?hp (fun _ hk => hk) trivial (Below.refl _ _) (Nat.le_refl _) (by simp) ?_; (case hd => rfl); (case hg => rfl); (case hr => first | (go_simp; done) | (go_simp; rfl)); (case hp => exact (Reps.c2 (show Kd.M k133 _ _ _ (⟨65, 90⟩ : S133) [.int .i32 65, .int .i32 90] from (yf0 _ _ _ (⟨65, 90⟩ : S133) )) (Reps.c2 (show Kd.M k133 _ _ _ (⟨97, 122⟩ : S133) [.int .i32 97, .int .i32 122] from (yf0 _ _ _ (⟨97, 122⟩ : S133) )) (Reps.c2 (show Kd.M k133 _ _ _ (⟨95, 95⟩ : S133) [.int .i32 95, .int .i32 95] from (yf0 _ _ _ (⟨95, 95⟩ : S133) )) (Reps.c2 (show Kd.M k133 _ _ _ (⟨192, 214⟩ : S133) [.int .i32 192, .int .i32 214] from (yf0 _ _ _ (⟨192, 214⟩ : S133) )) (Reps.c2 (show Kd.M k133 _ _ _ (⟨216, 246⟩ : S133) [.int .i32 216, .int .i32 246] from (yf0 _ _ _ (⟨216, 246⟩ : S133) )) (Reps.c2 (show Kd.M k133 _ _ _ (⟨248, 767⟩ : S133) [.int .i32 248, .int .i32 767] from (yf0 _ _ _ (⟨248, 767⟩ : S133) )) (Reps.c2 (show Kd.M k133 _ _ _ (⟨880, 893⟩ : S133) [.int .i32 880, .int .i32 893] from (yf0 _ _ _ (⟨880, 893⟩ : S133) )) (Reps.c2 (show Kd.M k133 _ _ _ (⟨895, 8191⟩ : S133) [.int .i32 895, .int .i32 8191] from (yf0 _ _ _ (⟨895, 8191⟩ : S133) )) (Reps.c2 (show Kd.M k133 _ _ _ (⟨8204, 8205⟩ : S133) [.int .i32 8204, .int .i32 8205] from (yf0 _ _ _ (⟨8204, 8205⟩ : S133) )) (Reps.c2 (show Kd.M k133 _ _ _ (⟨8304, 8591⟩ : S133) [.int .i32 8304, .int .i32 8591] from (yf0 _ _ _ (⟨8304, 8591⟩ : S133) )) (Reps.c2 (show Kd.M k133 _ _ _ (⟨11264, 12271⟩ : S133) [.int .i32 11264, .int .i32 12271] from (yf0 _ _ _ (⟨11264, 12271⟩ : S133) )) (Reps.c2 (show Kd.M k133 _ _ _ (⟨12289, 55295⟩ : S133) [.int .i32 12289, .int .i32 55295] from (yf0 _ _ _ (⟨12289, 55295⟩ : S133) )) (Reps.c2 (show Kd.M k133 _ _ _ (⟨63744, 64975⟩ : S133) [.int .i32 63744, .int .i32 64975] from (yf0 _ _ _ (⟨63744, 64975⟩ : S133) )) (Reps.c2 (show Kd.M k133 _ _ _ (⟨65008, 65533⟩ : S133) [.int .i32 65008, .int .i32 65533] from (yf0 _ _ _ (⟨65008, 65533⟩ : S133) )) (Reps.c2 (show Kd.M k133 _ _ _ (⟨65536, 983039⟩ : S133) [.int .i32 65536, .int .i32 983039] from (yf0 _ _ _ (⟨65536, 983039⟩ : S133) )) (Reps.none _ _))))))))))))))))); intro v107 w3 ho4 hb hg_ hnew_; clear hg_ hnew_; (first | rw [← Ny106.out] at ho4 | (simp only [Int.reduceToNat] at ho4; rw [← Ny106.out] at ho4)); have n0_ := Aside0.mk (Kd.yg9 ho4 (ya7 (by repeat (first | (with_reducible first | exact HB.out | apply ya2 | apply ya0 | apply ya1) | exact HB.out)))); have n1_ := Aside0.mk (yb1 (by repeat (first | (with_reducible first | exact HB.out | apply ya2 | apply ya0 | apply ya1) | exact HB.out)) hb); clear HB; have HO108 := n0_; have HB := n1_; clear n0_ n1_; clear hb ho4; obtain ⟨Ao5, co5, eo5⟩ := Kd.yd9 HO108.out; subst eo5) | ((with_reducible refine yd5 (f := 77) rfl ?_); refine goesL_ (some 20) rfl rfl Tryd.func77 (by kernel_rfl) rfl #[.int .i32 a0, .slice Ao5 y106.length co5] rfl (by (try simp only [List.map_toArray, List.map_cons, List.map_nil]); first | done | rfl | (simp only [List.length_drop, List.length_take]; rfl) | (simp only [ByteArray.size_extract]; rfl)) ?_; (with_reducible refine (yc6.calls k a0 _ _ y106 t109 _ ?side1 ?side2 A2.out).mono ?_); (case side1 => repeat (first | exact (Kd.ye8 HO108.out).2.2 | (with_reducible refine Kd.yd2 ?_ _) | (with_reducible refine Kd.C_drewN ?_ _) | (with_reducible refine Kd.C_drew ?_))); (case side2 => exact (Kd.ye8 HO108.out).2.1); rintro e w6 ⟨rfl, hb⟩; refine ⟨_, rfl, ?_⟩; have n0_ := Aside0.mk (Kd.ye5 (by (with_reducible repeat (first | apply Kd.yd7 | apply Kd.R_drewN | apply Kd.R_drew)); exact HO108.out) hb); have n1_ := Aside0.mk (yb1 (by repeat (first | (with_reducible first | exact HB.out | apply ya2 | apply ya0 | apply ya1) | exact HB.out)) hb); clear HO108; clear HB; have HO108 := n0_; have HB := n1_; clear n0_ n1_; (try clear hb); (try clear hb2); (try clear hk); (try clear hi)))
 go_ret
 exact ⟨by first | rfl | (simp [yb0, ya9] <;> rfl) | (simp [*, yb0, ya9] <;> rfl), by repeat (first | (with_reducible first | exact HB.out | apply ya2 | apply ya0 | apply ya1) | exact HB.out)⟩

def ym8.f (k : Nat) (a0 : Int) : Option (Bool) := (yi7.f k a0).bind fun t110 => (if t110 = true then (some true) else ((yc6.f k a0 (([(⟨45, 46⟩ : S133), (⟨48, 57⟩ : S133), (⟨183, 183⟩ : S133), (⟨768, 879⟩ : S133), (⟨8255, 8256⟩ : S133)] : List (S133)))).bind fun t114 => (some t114)))
set_option maxHeartbeats 8000000 in
set_option maxRecDepth 100000 in
theorem ym8.calls (k : Nat) (a0 : Int) (r : Bool) (w : World) (h : ym8.f k a0 = some r) :
  Calls Tryd.prog 79 #[.int .i32 a0] w fun e w' => e = .returned (.bool r) ∧ Below w.heap.size w w' := by
 have hu133 := Tryd.underlying133
 have HB := Aside0.mk (Below.refl w.heap.size w)
 have H : ((yi7.f k a0).bind fun t110 => (if t110 = true then (some true) else ((yc6.f k a0 (([(⟨45, 46⟩ : S133), (⟨48, 57⟩ : S133), (⟨183, 183⟩ : S133), (⟨768, 879⟩ : S133), (⟨8255, 8256⟩ : S133)] : List (S133)))).bind fun t114 => (some t114)))) = some r := h
 clear h
 replace H := Option.bind_eq_some_iff.mp H
 obtain ⟨t110, A20, H⟩ := H
 replace H : (if t110 = true then (some true) else ((yc6.f k a0 (([(⟨45, 46⟩ : S133), (⟨48, 57⟩ : S133), (⟨183, 183⟩ : S133), (⟨768, 879⟩ : S133), (⟨8255, 8256⟩ : S133)] : List (S133)))).bind fun t114 => (some t114))) = some r := H
 have A2 := Aside0.mk A20
 clear A20
 by_cases c3 : t110 = true
 ·subst c3
  have H1 : (some true) = some r := by rw [if_pos rfl] at H; exact H
  clear H
  have H := H1
  clear H1
  obtain rfl := Option.some.inj H
  go_enter Tryd.func79, Tryd.ntmps79
  go_wp2_with (first | ((with_reducible refine yd5 (f := 78) rfl ?_); refine goesL_ (some 4) rfl rfl Tryd.func78 (by kernel_rfl) rfl #[.int .i32 a0] rfl (by (try simp only [List.map_toArray, List.map_cons, List.map_nil]); first | done | rfl | (simp only [List.length_drop, List.length_take]; rfl) | (simp only [ByteArray.size_extract]; rfl)) ?_; (with_reducible refine (yi7.calls k a0 true _ A2.out).mono ?_); rintro e w4 ⟨rfl, hb⟩; refine ⟨_, rfl, ?_⟩; have n0_ := Aside0.mk (yb1 (by repeat (first | (with_reducible first | exact HB.out | apply ya2 | apply ya0 | apply ya1) | exact HB.out)) hb); clear HB; have HB := n0_; clear n0_; (try clear hb); (try clear hb2); (try clear hk); (try clear hi)))
  go_ret
  exact ⟨by first | rfl | (simp [yb0, ya9] <;> rfl) | (simp [*, yb0, ya9] <;> rfl), by repeat (first | (with_reducible first | exact HB.out | apply ya2 | apply ya0 | apply ya1) | exact HB.out)⟩
 replace c3 := Bool.eq_false_iff.mpr c3
 subst c3
 have H1 : ((yc6.f k a0 (([(⟨45, 46⟩ : S133), (⟨48, 57⟩ : S133), (⟨183, 183⟩ : S133), (⟨768, 879⟩ : S133), (⟨8255, 8256⟩ : S133)] : List (S133)))).bind fun t114 => (some t114)) = some r := by rw [if_neg (show ¬ (false = true) by decide)] at H; exact H
 clear H
 have H := H1
 clear H1
 obtain ⟨y111, hy111⟩ : ∃ y_ : List (S133), y_ = (([(⟨45, 46⟩ : S133), (⟨48, 57⟩ : S133), (⟨183, 183⟩ : S133), (⟨768, 879⟩ : S133), (⟨8255, 8256⟩ : S133)] : List (S133))) := ⟨_, rfl⟩
 replace H : ((yc6.f k a0 y111).bind fun t114 => (some t114)) = some r := by first | (rw [hy111]; with_reducible exact H) | (rw [hy111]; exact H) | exact H
 have Ny111 := Aside0.mk hy111
 clear hy111
 replace H := Option.bind_eq_some_iff.mp H
 obtain ⟨t114, A50, H⟩ := H
 replace H : (some t114) = some r := H
 have A5 := Aside0.mk A50
 clear A50
 obtain rfl := Option.some.inj H
 go_enter Tryd.func79, Tryd.ntmps79
 go_wp2_with (first | ((with_reducible refine yd5 (f := 78) rfl ?_); refine goesL_ (some 4) rfl rfl Tryd.func78 (by kernel_rfl) rfl #[.int .i32 a0] rfl (by (try simp only [List.map_toArray, List.map_cons, List.map_nil]); first | done | rfl | (simp only [List.length_drop, List.length_take]; rfl) | (simp only [ByteArray.size_extract]; rfl)) ?_; (with_reducible refine (yi7.calls k a0 false _ A2.out).mono ?_); rintro e w6 ⟨rfl, hb⟩; refine ⟨_, rfl, ?_⟩; have n0_ := Aside0.mk (yb1 (by repeat (first | (with_reducible first | exact HB.out | apply ya2 | apply ya0 | apply ya1) | exact HB.out)) hb); clear HB; have HB := n0_; clear n0_; (try clear hb); (try clear hb2); (try clear hk); (try clear hi)) | ((with_reducible refine yc1 (N := 12) rfl ?_); (try (refine yh2 (by rfl) ?_; dsimp only)); refine Kd.R_lit k133 _ 133 ?hg (N := 12) ?hd (xs := ([(⟨45, 46⟩ : S133), (⟨48, 57⟩ : S133), (⟨183, 183⟩ : S133), (⟨768, 879⟩ : S133), (⟨8255, 8256⟩ : S133)] : List (S133))) (inner := [.int .i32 45, .int .i32 46, .int .i32 48, .int .i32 57, .int .i32 183, .int .i32 183, .int .i32 768, .int .i32 879, .int .i32 8255, .int .i32 8256]) (ok := fun _ => True) (okp := fun _ => True) ?hr ?hp (fun _ hk => hk) trivial (Below.refl _ _) (Nat.le_refl _) (by simp) ?_; (case hd => rfl); (case hg => rfl); (case hr => first | (go_simp; done) | (go_simp; rfl)); (case hp => exact (Reps.c2 (show Kd.M k133 _ _ _ (⟨45, 46⟩ : S133) [.int .i32 45, .int .i32 46] from (yf0 _ _ _ (⟨45, 46⟩ : S133) )) (Reps.c2 (show Kd.M k133 _ _ _ (⟨48, 57⟩ : S133) [.int .i32 48, .int .i32 57] from (yf0 _ _ _ (⟨48, 57⟩ : S133) )) (Reps.c2 (show Kd.M k133 _ _ _ (⟨183, 183⟩ : S133) [.int .i32 183, .int .i32 183] from (yf0 _ _ _ (⟨183, 183⟩ : S133) )) (Reps.c2 (show Kd.M k133 _ _ _ (⟨768, 879⟩ : S133) [.int .i32 768, .int .i32 879] from (yf0 _ _ _ (⟨768, 879⟩ : S133) )) (Reps.c2 (show Kd.M k133 _ _ _ (⟨8255, 8256⟩ : S133) [.int .i32 8255, .int .i32 8256] from (yf0 _ _ _ (⟨8255, 8256⟩ : S133) )) (Reps.none _ _))))))); intro v112 w7 ho8 hb hg_ hnew_; clear hg_ hnew_; (first | rw [← Ny111.out] at ho8 | (simp only [Int.reduceToNat] at ho8; rw [← Ny111.out] at ho8)); have n0_ := Aside0.mk (Kd.yg9 ho8 (ya7 (by repeat (first | (with_reducible first | exact HB.out | apply ya2 | apply ya0 | apply ya1) | exact HB.out)))); have n1_ := Aside0.mk (yb1 (by repeat (first | (with_reducible first | exact HB.out | apply ya2 | apply ya0 | apply ya1) | exact HB.out)) hb); clear HB; have HO113 := n0_; have HB := n1_; clear n0_ n1_; clear hb ho8; obtain ⟨Ao9, co9, eo9⟩ := Kd.yd9 HO113.out; subst eo9) | (go_at_call 77; (with_reducible refine (yc6.calls k a0 _ _ y111 t114 _ ?side1 ?side2 A5.out).mono ?_); (case side1 => repeat (first | exact (Kd.ye8 HO113.out).2.2 | (with_reducible refine Kd.yd2 ?_ _) | (with_reducible refine Kd.C_drewN ?_ _) | (with_reducible refine Kd.C_drew ?_))); (case side2 => exact (Kd.ye8 HO113.out).2.1); rintro e w10 ⟨rfl, hb⟩; have n0_ := Aside0.mk (Kd.ye5 (by (with_reducible repeat (first | apply Kd.yd7 | apply Kd.R_drewN | apply Kd.R_drew)); exact HO113.out) hb); have n1_ := Aside0.mk (yb1 (by repeat (first | (with_reducible first | exact HB.out | apply ya2 | apply ya0 | apply ya1) | exact HB.out)) hb); clear HO113; clear HB; have HO113 := n0_; have HB := n1_; clear n0_ n1_; (try clear hb); (try clear hb2); (try clear hk); (try clear hi)))
 go_ret
 exact ⟨by first | rfl | (simp [yb0, ya9] <;> rfl) | (simp [*, yb0, ya9] <;> rfl), by repeat (first | (with_reducible first | exact HB.out | apply ya2 | apply ya0 | apply ya1) | exact HB.out)⟩

end Go.Proofs.YtidkjifilgjgfaaDoor.PG
