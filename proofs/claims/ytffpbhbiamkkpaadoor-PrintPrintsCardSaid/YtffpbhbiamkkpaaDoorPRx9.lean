import Derived.Test.YtffpbhbiamkkpaaDoorM5
import Derived.Test.YtffpbhbiamkkpaaDoorPRx6
import Derived.Test.YtffpbhbiamkkpaaDoorPRx7
import Derived.Test.YtffpbhbiamkkpaaDoorPRx8
import Derived.Test.YtffpbhbiamkkpaaDoorM7
-- PRINTED by print.py (a twelfth state) out of the translation. Not trusted: Lean checks it.
namespace Go.Proofs.YtffpbhbiamkkpaaDoor.PR
open Go.Proofs.YtffpbhbiamkkpaaDoor.ND
open Go.RowKit Go.Proofs.YtffpbhbiamkkpaaDoorW.PrintWords Go.Proofs.YtffpbhbiamkkpaaDoorW.PrintLast Go.Proofs.YtffpbhbiamkkpaaDoorW.PrintMore
attribute [local go_sem] yf9 yf7 yg5 yg4 ye9 ye8 yf8 yf6   -- for this text's walks alone
set_option linter.unusedVariables false
set_option linter.unusedSimpArgs false

mutual
def ya3.j0 : Nat → ByteArray → ByteArray → ByteArray → Int → ByteArray → ByteArray → List (At) → List (Nd) → ByteArray → Option (ByteArray)
 | 0, _, _, _, _, _, _, _, _, _ => none
 | k + 1, x1, x5, x6, x226000, x226001, x226002, x226003, x226004, x226005 => (yb0.f k x226003).bind fun t228 => ((yc0.f k t228).bind fun t231 => (ya3.l0 k x1 x5 x6 t228 t231 0 x226000 x226001 x226002 x226003 x226004 x226005))
def ya3.l0 : Nat → ByteArray → ByteArray → ByteArray → List (At) → List ByteArray → Int → Int → ByteArray → ByteArray → List (At) → List (Nd) → ByteArray → Option (ByteArray)
 | 0, _, _, _, _, _, _, _, _, _, _, _, _ => none
 | k + 1, x1, x5, x6, x7, x8, x9, x226000, x226001, x226002, x226003, x226004, x226005 => if x9 < (x8.length : Int) then (if x6.size + 8 ≤ 9223372036854775807 then ((ye2.f (wrap64 (x9 + 1))).bind fun t234 => (if (x6 ++ (⟨#[32, 120, 109, 108, 110, 115, 58, 110]⟩ : ByteArray)).size + t234.size ≤ 9223372036854775807 then (if ((x6 ++ (⟨#[32, 120, 109, 108, 110, 115, 58, 110]⟩ : ByteArray)) ++ t234).size + 2 ≤ 9223372036854775807 then (if 0 ≤ x9 then ((ya5.f k (rdOf ByteArray.empty x8 x9) true).bind fun t236 => (if (((x6 ++ (⟨#[32, 120, 109, 108, 110, 115, 58, 110]⟩ : ByteArray)) ++ t234) ++ (⟨#[61, 34]⟩ : ByteArray)).size + t236.size ≤ 9223372036854775807 then (if ((((x6 ++ (⟨#[32, 120, 109, 108, 110, 115, 58, 110]⟩ : ByteArray)) ++ t234) ++ (⟨#[61, 34]⟩ : ByteArray)) ++ t236).size + 1 ≤ 9223372036854775807 then (ya3.l0 k x1 x5 (((((x6 ++ (⟨#[32, 120, 109, 108, 110, 115, 58, 110]⟩ : ByteArray)) ++ t234) ++ (⟨#[61, 34]⟩ : ByteArray)) ++ t236) ++ (⟨#[34]⟩ : ByteArray)) x7 x8 (wrap64 (x9 + 1)) x226000 x226001 x226002 x226003 x226004 x226005) else (none)) else (none))) else (none)) else (none)) else (none))) else (none)) else (ya3.l1 k x1 x5 x6 x7 x8 0 x226000 x226001 x226002 x226003 x226004 x226005)
def ya3.l1 : Nat → ByteArray → ByteArray → ByteArray → List (At) → List ByteArray → Int → Int → ByteArray → ByteArray → List (At) → List (Nd) → ByteArray → Option (ByteArray)
 | 0, _, _, _, _, _, _, _, _, _, _, _, _ => none
 | k + 1, x1, x5, x6, x7, x8, x10, x226000, x226001, x226002, x226003, x226004, x226005 => if x10 < (x7.length : Int) then (if 0 ≤ x10 then (if ((rdAt x7 x10).f0.f0).toList = ([104, 116, 116, 112, 58, 47, 47, 119, 119, 119, 46, 119, 51, 46, 111, 114, 103, 47, 88, 77, 76, 47, 49, 57, 57, 56, 47, 110, 97, 109, 101, 115, 112, 97, 99, 101] : List UInt8) then (if 4 + ((rdAt x7 x10).f0.f1).size ≤ 9223372036854775807 then (ya3.j3 k x1 x5 x6 x7 x8 x10 ((⟨#[120, 109, 108, 58]⟩ : ByteArray) ++ ((rdAt x7 x10).f0.f1)) x226000 x226001 x226002 x226003 x226004 x226005) else (none)) else (ya3.j3 k x1 x5 x6 x7 x8 x10 ((rdAt x7 x10).f0.f1) x226000 x226001 x226002 x226003 x226004 x226005)) else (none)) else (if (x226004.length : Int) = 0 then (if 1 + x5.size ≤ 9223372036854775807 then (if ((⟨#[60]⟩ : ByteArray) ++ x5).size + x6.size ≤ 9223372036854775807 then (if (((⟨#[60]⟩ : ByteArray) ++ x5) ++ x6).size + 2 ≤ 9223372036854775807 then (some ((((⟨#[60]⟩ : ByteArray) ++ x5) ++ x6) ++ (⟨#[47, 62]⟩ : ByteArray))) else (none)) else (none)) else (none)) else (ya3.l3 k x1 x5 x6 (⟨#[]⟩ : ByteArray) 0 x226000 x226001 x226002 x226003 x226004 x226005))
def ya3.j3 : Nat → ByteArray → ByteArray → ByteArray → List (At) → List ByteArray → Int → ByteArray → Int → ByteArray → ByteArray → List (At) → List (Nd) → ByteArray → Option (ByteArray)
 | 0, _, _, _, _, _, _, _, _, _, _, _, _, _ => none
 | k + 1, x1, x5, x6, x7, x8, x10, x11, x226000, x226001, x226002, x226003, x226004, x226005 => ya3.l2 k x1 x5 x6 x7 x8 x10 x11 0 x226000 x226001 x226002 x226003 x226004 x226005
def ya3.l2 : Nat → ByteArray → ByteArray → ByteArray → List (At) → List ByteArray → Int → ByteArray → Int → Int → ByteArray → ByteArray → List (At) → List (Nd) → ByteArray → Option (ByteArray)
 | 0, _, _, _, _, _, _, _, _, _, _, _, _, _, _ => none
 | k + 1, x1, x5, x6, x7, x8, x10, x11, x12, x226000, x226001, x226002, x226003, x226004, x226005 => if x12 < (x8.length : Int) then (if 0 ≤ x12 then (if 0 ≤ x10 then (if x10 < (x7.length : Int) then (if (rdOf ByteArray.empty x8 x12).toList = ((rdAt x7 x10).f0.f0).toList then ((ye2.f (wrap64 (x12 + 1))).bind fun t241 => (if 1 + t241.size ≤ 9223372036854775807 then (if ((⟨#[110]⟩ : ByteArray) ++ t241).size + 1 ≤ 9223372036854775807 then (if (((⟨#[110]⟩ : ByteArray) ++ t241) ++ (⟨#[58]⟩ : ByteArray)).size + x11.size ≤ 9223372036854775807 then (ya3.l2 k x1 x5 x6 x7 x8 x10 ((((⟨#[110]⟩ : ByteArray) ++ t241) ++ (⟨#[58]⟩ : ByteArray)) ++ x11) (wrap64 (x12 + 1)) x226000 x226001 x226002 x226003 x226004 x226005) else (none)) else (none)) else (none))) else (ya3.l2 k x1 x5 x6 x7 x8 x10 x11 (wrap64 (x12 + 1)) x226000 x226001 x226002 x226003 x226004 x226005)) else (none)) else (none)) else (none)) else (if x6.size + 1 ≤ 9223372036854775807 then (if (x6 ++ (⟨#[32]⟩ : ByteArray)).size + x11.size ≤ 9223372036854775807 then (if ((x6 ++ (⟨#[32]⟩ : ByteArray)) ++ x11).size + 2 ≤ 9223372036854775807 then (if 0 ≤ x10 then (if x10 < (x7.length : Int) then ((ya5.f k ((rdAt x7 x10).f1) true).bind fun t243 => (if (((x6 ++ (⟨#[32]⟩ : ByteArray)) ++ x11) ++ (⟨#[61, 34]⟩ : ByteArray)).size + t243.size ≤ 9223372036854775807 then (if ((((x6 ++ (⟨#[32]⟩ : ByteArray)) ++ x11) ++ (⟨#[61, 34]⟩ : ByteArray)) ++ t243).size + 1 ≤ 9223372036854775807 then (ya3.l1 k x1 x5 (((((x6 ++ (⟨#[32]⟩ : ByteArray)) ++ x11) ++ (⟨#[61, 34]⟩ : ByteArray)) ++ t243) ++ (⟨#[34]⟩ : ByteArray)) x7 x8 (wrap64 (x10 + 1)) x226000 x226001 x226002 x226003 x226004 x226005) else (none)) else (none))) else (none)) else (none)) else (none)) else (none)) else (none))
def ya3.l3 : Nat → ByteArray → ByteArray → ByteArray → ByteArray → Int → Int → ByteArray → ByteArray → List (At) → List (Nd) → ByteArray → Option (ByteArray)
 | 0, _, _, _, _, _, _, _, _, _, _, _ => none
 | k + 1, x1, x5, x6, x13, x14, x226000, x226001, x226002, x226003, x226004, x226005 => if x14 < (x226004.length : Int) then (if 0 ≤ x14 then ((ya3.f k ((rdNd x226004 x14).f0) ((rdNd x226004 x14).f1.f0) ((rdNd x226004 x14).f1.f1) ((rdNd x226004 x14).f2) ((rdNd x226004 x14).f3) ((rdNd x226004 x14).f4) x1).bind fun t245 => (if x13.size + t245.size ≤ 9223372036854775807 then (ya3.l3 k x1 x5 x6 (x13 ++ t245) (wrap64 (x14 + 1)) x226000 x226001 x226002 x226003 x226004 x226005) else (none))) else (none)) else (if 1 + x5.size ≤ 9223372036854775807 then (if ((⟨#[60]⟩ : ByteArray) ++ x5).size + x6.size ≤ 9223372036854775807 then (if (((⟨#[60]⟩ : ByteArray) ++ x5) ++ x6).size + 1 ≤ 9223372036854775807 then (if ((((⟨#[60]⟩ : ByteArray) ++ x5) ++ x6) ++ (⟨#[62]⟩ : ByteArray)).size + x13.size ≤ 9223372036854775807 then (if (((((⟨#[60]⟩ : ByteArray) ++ x5) ++ x6) ++ (⟨#[62]⟩ : ByteArray)) ++ x13).size + 2 ≤ 9223372036854775807 then (if ((((((⟨#[60]⟩ : ByteArray) ++ x5) ++ x6) ++ (⟨#[62]⟩ : ByteArray)) ++ x13) ++ (⟨#[60, 47]⟩ : ByteArray)).size + x5.size ≤ 9223372036854775807 then (if (((((((⟨#[60]⟩ : ByteArray) ++ x5) ++ x6) ++ (⟨#[62]⟩ : ByteArray)) ++ x13) ++ (⟨#[60, 47]⟩ : ByteArray)) ++ x5).size + 1 ≤ 9223372036854775807 then (some ((((((((⟨#[60]⟩ : ByteArray) ++ x5) ++ x6) ++ (⟨#[62]⟩ : ByteArray)) ++ x13) ++ (⟨#[60, 47]⟩ : ByteArray)) ++ x5) ++ (⟨#[62]⟩ : ByteArray))) else (none)) else (none)) else (none)) else (none)) else (none)) else (none)) else (none))
def ya3.f : Nat → Int → ByteArray → ByteArray → List (At) → List (Nd) → ByteArray → ByteArray → Option (ByteArray)
 | 0, _, _, _, _, _, _, _ => none
 | k + 1, a0_0, a0_1, a0_2, l0_3, l0_4, a0_5, a1 => if a0_0 = 2 then ((ya5.f k a0_5 false).bind fun t226 => (some t226)) else (if a0_1.toList = ([104, 116, 116, 112, 58, 47, 47, 119, 119, 119, 46, 119, 51, 46, 111, 114, 103, 47, 88, 77, 76, 47, 49, 57, 57, 56, 47, 110, 97, 109, 101, 115, 112, 97, 99, 101] : List UInt8) then (if 4 + a0_2.size ≤ 9223372036854775807 then (ya3.j0 k a1 ((⟨#[120, 109, 108, 58]⟩ : ByteArray) ++ a0_2) (⟨#[]⟩ : ByteArray) a0_0 a0_1 a0_2 l0_3 l0_4 a0_5) else (none)) else (if a0_1.toList = a1.toList then (ya3.j0 k a1 a0_2 (⟨#[]⟩ : ByteArray) a0_0 a0_1 a0_2 l0_3 l0_4 a0_5) else ((ya5.f k a0_1 true).bind fun t227 => (if 8 + t227.size ≤ 9223372036854775807 then (if ((⟨#[32, 120, 109, 108, 110, 115, 61, 34]⟩ : ByteArray) ++ t227).size + 1 ≤ 9223372036854775807 then (ya3.j0 k a0_1 a0_2 (((⟨#[32, 120, 109, 108, 110, 115, 61, 34]⟩ : ByteArray) ++ t227) ++ (⟨#[34]⟩ : ByteArray)) a0_0 a0_1 a0_2 l0_3 l0_4 a0_5) else (none)) else (none)))))
end
def ya3.T15 : Bool × List (List Nat × List Nat) := (true, [([], []), ([0], [0]), ([], []), ([2], [2]), ([3], [3]), ([1, 4], [1, 4]), ([5], [5]), ([], []), ([], []), ([7, 8], [7, 8]), ([9], [9]), ([10, 4], [10]), ([6, 11], [6, 11]), ([12], [12]), ([13, 11, 0, 1, 2, 3, 4, 5, 6, 7, 8, 9, 10, 11, 12, 13], [0, 13])])
def ya3.B15 : List Nat := [0, 1, 0, 4, 12, 31, 63, 0, 0, 384, 896, 1948, 4095, 8191, 16383]
theorem ya3.tab15 : rtab .any (opsOf Tryd.f39 15) = ya3.T15 := by kernel_rfl
theorem ya3.bits15 : ym4 ya3.T15.2 ya3.B15 = true := by kernel_rfl
def ya3.T25 : Bool × List (List Nat × List Nat) := (true, [([], []), ([], []), ([0, 1], [0, 1]), ([2], [2]), ([], []), ([], []), ([4, 5], [4, 5]), ([6], [6]), ([7], [7]), ([8], [8]), ([3, 9], [3, 9])])
def ya3.B25 : List Nat := [0, 0, 3, 7, 0, 0, 48, 112, 240, 496, 1023]
theorem ya3.tab25 : rtab .any (opsOf Tryd.f39 25) = ya3.T25 := by kernel_rfl
theorem ya3.bits25 : ym4 ya3.T25.2 ya3.B25 = true := by kernel_rfl
set_option maxHeartbeats 8000000 in
set_option maxRecDepth 100000 in
theorem ya3.calls (k : Nat) : ∀ (a0_0 : Int) (a0_1 : ByteArray) (a0_2 : ByteArray) (A0_3 : Option Addr) (c0_3 : Nat) (l0_3 : List (At)) (A0_4 : Option Addr) (c0_4 : Nat) (l0_4 : List (Nd)) (a0_5 : ByteArray) (a1 : ByteArray) (r : ByteArray) (w : World) (hr0_3 : Kd.C kAt w A0_3 l0_3.length l0_3) (hc0_3 : l0_3.length ≤ c0_3) (hr0_4 : Kd.C kNd w A0_4 l0_4.length l0_4) (hc0_4 : l0_4.length ≤ c0_4) (h : ya3.f k a0_0 a0_1 a0_2 l0_3 l0_4 a0_5 a1 = some r),
  Calls Tryd.prog 39 #[.agg #[.int .i64 a0_0, .string a0_1, .string a0_2, .slice A0_3 l0_3.length c0_3, .slice A0_4 l0_4.length c0_4, .string a0_5], .string a1] w fun e w' => e = .returned (.string r) ∧ Below w.heap.size w w' := by
 induction k using Nat.strongRecOn with
 | _ k ih =>
 intro a0_0 a0_1 a0_2 A0_3 c0_3 l0_3 A0_4 c0_4 l0_4 a0_5 a1 r w hr0_3 hc0_3 hr0_4 hc0_4 h
 cases k with
 | zero => exact absurd h (by simp [ya3.f])
 | succ k =>
 simp only [ya3.f] at h
 have hu27 := Tryd.underlying27
 have HR0_3 := Aside0.mk hr0_3
 have HC0_3 := Aside0.mk hc0_3
 clear hr0_3 hc0_3
 have HR0_4 := Aside0.mk hr0_4
 have HC0_4 := Aside0.mk hc0_4
 clear hr0_4 hc0_4
 have HB := Aside0.mk (Below.refl w.heap.size w)
 have H : (if a0_0 = 2 then ((ya5.f k a0_5 false).bind fun t226 => (some t226)) else (if a0_1.toList = ([104, 116, 116, 112, 58, 47, 47, 119, 119, 119, 46, 119, 51, 46, 111, 114, 103, 47, 88, 77, 76, 47, 49, 57, 57, 56, 47, 110, 97, 109, 101, 115, 112, 97, 99, 101] : List UInt8) then (if 4 + a0_2.size ≤ 9223372036854775807 then (ya3.j0 k a1 ((⟨#[120, 109, 108, 58]⟩ : ByteArray) ++ a0_2) (⟨#[]⟩ : ByteArray) a0_0 a0_1 a0_2 l0_3 l0_4 a0_5) else (none)) else (if a0_1.toList = a1.toList then (ya3.j0 k a1 a0_2 (⟨#[]⟩ : ByteArray) a0_0 a0_1 a0_2 l0_3 l0_4 a0_5) else ((ya5.f k a0_1 true).bind fun t227 => (if 8 + t227.size ≤ 9223372036854775807 then (if ((⟨#[32, 120, 109, 108, 110, 115, 61, 34]⟩ : ByteArray) ++ t227).size + 1 ≤ 9223372036854775807 then (ya3.j0 k a0_1 a0_2 (((⟨#[32, 120, 109, 108, 110, 115, 61, 34]⟩ : ByteArray) ++ t227) ++ (⟨#[34]⟩ : ByteArray)) a0_0 a0_1 a0_2 l0_3 l0_4 a0_5) else (none)) else (none)))))) = some r := h
 clear h
 by_cases c3 : a0_0 = 2
 ·rw [if_pos c3] at H
  have c3b0 : (a0_0 == 2) = true := beq_iff_eq.mpr c3
  have c3b1 : (a0_0 != 2) = false := bne_eq_false_iff_eq.mpr c3
  clear c3
  replace H := Option.bind_eq_some_iff.mp H
  obtain ⟨t226, A40, H⟩ := H
  replace H : (some t226) = some r := H
  have A4 := Aside0.mk A40
  clear A40
  obtain rfl := Option.some.inj H
  go_enter Tryd.func39, Tryd.ntmps39
  go_wp2_with (first | ((with_reducible refine yd2 (N := 2) rfl ?_); refine yd3 ?hg (N := 2) ?hd (cs := #[.int .i64 a0_0, .string a0_1, .string a0_2, .slice A0_3 l0_3.length c0_3, .slice A0_4 l0_4.length c0_4, .string a0_5]) (t := 27) ?hr ?_; (case hd => rfl); (case hg => rfl); (case hr => first | (go_simp; done) | (go_simp; rfl)); intro gb225 hg w5 hbox hb; have n0_ := Aside0.mk (ya7 (by repeat (first | (with_reducible first | exact HB.out | apply ya2 | apply ya0 | apply ya1) | exact HB.out)) hb); have n1_ := Aside0.mk (hbox); have n2_ := Aside0.mk ((by rw [hg]; exact (yb4 (by repeat (first | (with_reducible first | exact HB.out | apply ya2 | apply ya0 | apply ya1) | exact HB.out))) : w.heap.size ≤ gb225)); have n3_ := Aside0.mk ((by rw [hg]; exact (yb4 (by repeat (first | (with_reducible first | exact HB.out | apply ya2 | apply ya0 | apply ya1) | exact HB.out))) : w.heap.size ≤ gb225)); clear HB; have HB := n0_; have BK225 := n1_; have GW225 := n2_; have GE225 := n3_; clear n0_ n1_ n2_ n3_; clear hb hbox hg; obtain ⟨hcz6_0, hcz6_1, hcz6_2, hcz6_3, hcz6_4, hcz6_5, hfz6_0, hfz6_1, hfz6_2, hfz6_3, hfz6_4, hfz6_5⟩ := bx6 BK225.out) | ((with_reducible refine yc6 (f := 17) rfl ?_); refine goesL_ (some 20) rfl rfl Tryd.func17 (by kernel_rfl) rfl #[.string a0_5, .bool false] rfl (by (try simp only [List.map_toArray, List.map_cons, List.map_nil]); first | done | rfl | (simp only [List.length_drop, List.length_take]; rfl) | (simp only [ByteArray.size_extract]; rfl)) ?_; (with_reducible refine (ya5.calls k a0_5 false t226 _ A4.out).mono ?_); rintro e w7 ⟨rfl, hb⟩; refine ⟨_, rfl, ?_⟩; have n0_ := Aside0.mk (yb9 (g := gb225) (o := .cells #[.int .i64 a0_0, .string a0_1, .string a0_2, .slice A0_3 l0_3.length c0_3, .slice A0_4 l0_4.length c0_4, .string a0_5] 27 (0, 0)) (by (with_reducible repeat (first | refine ya8 ?_ _ | refine ya9 ?_ | refine blk_alloc ?_ _)); exact BK225.out) hb); have n1_ := Aside0.mk (ya7 (by repeat (first | (with_reducible first | exact HB.out | apply ya2 | apply ya0 | apply ya1 | refine ya6 ?_ GE225.out) | exact HB.out)) hb); clear BK225; clear HB; have BK225 := n0_; have HB := n1_; clear n0_ n1_; (try clear hb); (try clear hb2); (try clear hk); (try clear hi)))
  go_ret
  exact ⟨by first | rfl | (simp [yb3, yb2] <;> rfl) | (simp [*, yb3, yb2] <;> rfl), by repeat (first | (with_reducible first | exact HB.out | apply ya2 | apply ya0 | apply ya1 | refine ya6 ?_ GE225.out) | exact HB.out)⟩
 rw [if_neg c3] at H
 have c3b0 : (a0_0 == 2) = false := beq_eq_false_iff_ne.mpr c3
 have c3b1 : (a0_0 != 2) = true := bne_iff_ne.mpr c3
 have HC8 := Aside0.mk H
 clear H
 go_enter Tryd.func39, Tryd.ntmps39
 go_upto_if 27 with (first | ((with_reducible refine yd2 (N := 2) rfl ?_); refine yd3 ?hg (N := 2) ?hd (cs := #[.int .i64 a0_0, .string a0_1, .string a0_2, .slice A0_3 l0_3.length c0_3, .slice A0_4 l0_4.length c0_4, .string a0_5]) (t := 27) ?hr ?_; (case hd => rfl); (case hg => rfl); (case hr => first | (go_simp; done) | (go_simp; rfl)); intro gb225 hg w9 hbox hb; have n0_ := Aside0.mk (ya7 (by repeat (first | (with_reducible first | exact HB.out | apply ya2 | apply ya0 | apply ya1) | exact HB.out)) hb); have n1_ := Aside0.mk (hbox); have n2_ := Aside0.mk ((by rw [hg]; exact (yb4 (by repeat (first | (with_reducible first | exact HB.out | apply ya2 | apply ya0 | apply ya1) | exact HB.out))) : w.heap.size ≤ gb225)); have n3_ := Aside0.mk ((by rw [hg]; exact (yb4 (by repeat (first | (with_reducible first | exact HB.out | apply ya2 | apply ya0 | apply ya1) | exact HB.out))) : w.heap.size ≤ gb225)); clear HB; have HB := n0_; have BK225 := n1_; have GW225 := n2_; have GE225 := n3_; clear n0_ n1_ n2_ n3_; clear hb hbox hg; obtain ⟨hcz10_0, hcz10_1, hcz10_2, hcz10_3, hcz10_4, hcz10_5, hfz10_0, hfz10_1, hfz10_2, hfz10_3, hfz10_4, hfz10_5⟩ := bx6 BK225.out))
 (try simp only [Act.put, zA, zB, zC])
 go_cut [1, 5, 6] (fun v1 v5 v6 wc => ∃ (kq : Nat) (x1_7 : ByteArray) (x5_7 : ByteArray) (x6_7 : ByteArray), v1 = .string x1_7 ∧ v5 = .string x5_7 ∧ v6 = .string x6_7 ∧ Aside0 (ya3.j0 kq x1_7 x5_7 x6_7 a0_0 a0_1 a0_2 l0_3 l0_4 a0_5 = some r) ∧ Aside0 (kq ≤ k) ∧ Aside0 (wc.heap[gb225]? = some (.cells #[.int .i64 a0_0, .string a0_1, .string a0_2, (.slice A0_3 l0_3.length c0_3), (.slice A0_4 l0_4.length c0_4), .string a0_5] 27 (0, 0))) ∧ Aside0 (Below w.heap.size w wc))
 case first =>
  have H := HC8.out
  clear HC8
  by_cases c11 : a0_1.toList = ([104, 116, 116, 112, 58, 47, 47, 119, 119, 119, 46, 119, 51, 46, 111, 114, 103, 47, 88, 77, 76, 47, 49, 57, 57, 56, 47, 110, 97, 109, 101, 115, 112, 97, 99, 101] : List UInt8)
  ·rw [if_pos c11] at H
   have c11b0 : (a0_1.toList == ([104, 116, 116, 112, 58, 47, 47, 119, 119, 119, 46, 119, 51, 46, 111, 114, 103, 47, 88, 77, 76, 47, 49, 57, 57, 56, 47, 110, 97, 109, 101, 115, 112, 97, 99, 101] : List UInt8)) = true := beq_iff_eq.mpr c11
   have c11b1 : (a0_1.toList != ([104, 116, 116, 112, 58, 47, 47, 119, 119, 119, 46, 119, 51, 46, 111, 114, 103, 47, 88, 77, 76, 47, 49, 57, 57, 56, 47, 110, 97, 109, 101, 115, 112, 97, 99, 101] : List UInt8)) = false := bne_eq_false_iff_eq.mpr c11
   clear c11
   (first | rw [c11b0] | (simp only [i64_w, i32_w]; rw [c11b0]) | skip)
   by_cases c12 : 4 + a0_2.size ≤ 9223372036854775807
   rotate_left 1
   ·rw [if_neg c12] at H
    exact absurd H (by simp)
   rw [if_pos c12] at H
   have c12b0 := eq_true c12
   have c12b1 : decide (4 + a0_2.size ≤ 9223372036854775807) = true := decide_eq_true c12
   try have c12b2 : (9223372036854775807 < 4 + a0_2.size) = False := eq_false (Nat.not_lt.2 c12)
   have H' := Aside0.mk H
   clear H
   go_wp2
   go_meet
   case rel => exact ⟨_, (a1), ((⟨#[120, 109, 108, 58]⟩ : ByteArray) ++ a0_2), ((⟨#[]⟩ : ByteArray)), (by first | rfl | (simp; done) | (simp [*]; done)), (by first | rfl | (simp; done) | (simp [*]; done)), (by first | rfl | (simp; done) | (simp [*]; done)), H', ⟨by first | omega | exact Nat.le_refl _⟩, ⟨by (with_reducible repeat (first | refine ya8 ?_ _ | refine ya9 ?_ | refine blk_alloc ?_ _)); exact BK225.out⟩, ⟨by repeat (first | (with_reducible first | exact HB.out | apply ya2 | apply ya0 | apply ya1 | refine ya6 ?_ GE225.out) | exact HB.out)⟩⟩
  ·rw [if_neg c11] at H
   have c11b0 : (a0_1.toList == ([104, 116, 116, 112, 58, 47, 47, 119, 119, 119, 46, 119, 51, 46, 111, 114, 103, 47, 88, 77, 76, 47, 49, 57, 57, 56, 47, 110, 97, 109, 101, 115, 112, 97, 99, 101] : List UInt8)) = false := beq_eq_false_iff_ne.mpr c11
   have c11b1 : (a0_1.toList != ([104, 116, 116, 112, 58, 47, 47, 119, 119, 119, 46, 119, 51, 46, 111, 114, 103, 47, 88, 77, 76, 47, 49, 57, 57, 56, 47, 110, 97, 109, 101, 115, 112, 97, 99, 101] : List UInt8)) = true := bne_iff_ne.mpr c11
   (first | rw [c11b0] | (simp only [i64_w, i32_w]; rw [c11b0]) | skip)
   by_cases c13 : a0_1.toList = a1.toList
   ·rw [if_pos c13] at H
    have c13b0 : (a0_1.toList == a1.toList) = true := beq_iff_eq.mpr c13
    have c13b1 : (a0_1.toList != a1.toList) = false := bne_eq_false_iff_eq.mpr c13
    clear c13
    have H' := Aside0.mk H
    clear H
    obtain ⟨hcz14_0, hcz14_1, hcz14_2, hcz14_3, hcz14_4, hcz14_5, hfz14_0, hfz14_1, hfz14_2, hfz14_3, hfz14_4, hfz14_5⟩ := bx6 BK225.out
    go_wp2
    go_meet
    case rel => exact ⟨_, (a1), (a0_2), ((⟨#[]⟩ : ByteArray)), (by first | rfl | (simp; done) | (simp [*]; done)), (by first | rfl | (simp; done) | (simp [*]; done)), (by first | rfl | (simp; done) | (simp [*]; done)), H', ⟨by first | omega | exact Nat.le_refl _⟩, ⟨by (with_reducible repeat (first | refine ya8 ?_ _ | refine ya9 ?_ | refine blk_alloc ?_ _)); exact BK225.out⟩, ⟨by repeat (first | (with_reducible first | exact HB.out | apply ya2 | apply ya0 | apply ya1 | refine ya6 ?_ GE225.out) | exact HB.out)⟩⟩
   ·rw [if_neg c13] at H
    have c13b0 : (a0_1.toList == a1.toList) = false := beq_eq_false_iff_ne.mpr c13
    have c13b1 : (a0_1.toList != a1.toList) = true := bne_iff_ne.mpr c13
    replace H := Option.bind_eq_some_iff.mp H
    obtain ⟨t227, A150, H⟩ := H
    replace H : (if 8 + t227.size ≤ 9223372036854775807 then (if ((⟨#[32, 120, 109, 108, 110, 115, 61, 34]⟩ : ByteArray) ++ t227).size + 1 ≤ 9223372036854775807 then (ya3.j0 k a0_1 a0_2 (((⟨#[32, 120, 109, 108, 110, 115, 61, 34]⟩ : ByteArray) ++ t227) ++ (⟨#[34]⟩ : ByteArray)) a0_0 a0_1 a0_2 l0_3 l0_4 a0_5) else (none)) else (none)) = some r := H
    have A15 := Aside0.mk A150
    clear A150
    by_cases c16 : 8 + t227.size ≤ 9223372036854775807
    rotate_left 1
    ·rw [if_neg c16] at H
     exact absurd H (by simp)
    rw [if_pos c16] at H
    have c16b0 := eq_true c16
    have c16b1 : decide (8 + t227.size ≤ 9223372036854775807) = true := decide_eq_true c16
    try have c16b2 : (9223372036854775807 < 8 + t227.size) = False := eq_false (Nat.not_lt.2 c16)
    by_cases c17 : ((⟨#[32, 120, 109, 108, 110, 115, 61, 34]⟩ : ByteArray) ++ t227).size + 1 ≤ 9223372036854775807
    rotate_left 1
    ·rw [if_neg c17] at H
     exact absurd H (by simp)
    rw [if_pos c17] at H
    have c17b0 := eq_true c17
    have c17b1 : decide (((⟨#[32, 120, 109, 108, 110, 115, 61, 34]⟩ : ByteArray) ++ t227).size + 1 ≤ 9223372036854775807) = true := decide_eq_true c17
    try have c17b2 : (9223372036854775807 < ((⟨#[32, 120, 109, 108, 110, 115, 61, 34]⟩ : ByteArray) ++ t227).size + 1) = False := eq_false (Nat.not_lt.2 c17)
    try have c17b5 : (9223372036854775807 < 8 + t227.size + 1) = False := eq_false (Nat.not_lt.2 (by have h_ := c17; simp only [ByteArray.size_append] at h_; exact h_))
    have H' := Aside0.mk H
    clear H
    obtain ⟨hcz18_0, hcz18_1, hcz18_2, hcz18_3, hcz18_4, hcz18_5, hfz18_0, hfz18_1, hfz18_2, hfz18_3, hfz18_4, hfz18_5⟩ := bx6 BK225.out
    go_wp2_with (first | ((with_reducible refine yc6 (f := 17) rfl ?_); refine goesL_ (some 39) rfl rfl Tryd.func17 (by kernel_rfl) rfl #[.string a0_1, .bool true] rfl (by (try simp only [List.map_toArray, List.map_cons, List.map_nil]); first | done | rfl | (simp only [List.length_drop, List.length_take]; rfl) | (simp only [ByteArray.size_extract]; rfl)) ?_; (with_reducible refine (ya5.calls k a0_1 true t227 _ A15.out).mono ?_); rintro e w19 ⟨rfl, hb⟩; refine ⟨_, rfl, ?_⟩; have n0_ := Aside0.mk (yb9 (g := gb225) (o := .cells #[.int .i64 a0_0, .string a0_1, .string a0_2, .slice A0_3 l0_3.length c0_3, .slice A0_4 l0_4.length c0_4, .string a0_5] 27 (0, 0)) (by (with_reducible repeat (first | refine ya8 ?_ _ | refine ya9 ?_ | refine blk_alloc ?_ _)); exact BK225.out) hb); have n1_ := Aside0.mk (ya7 (by repeat (first | (with_reducible first | exact HB.out | apply ya2 | apply ya0 | apply ya1 | refine ya6 ?_ GE225.out) | exact HB.out)) hb); clear BK225; clear HB; have BK225 := n0_; have HB := n1_; clear n0_ n1_; (try clear hb); (try clear hb2); (try clear hk); (try clear hi)))
    go_meet
    case rel => exact ⟨_, (a0_1), (a0_2), (((⟨#[32, 120, 109, 108, 110, 115, 61, 34]⟩ : ByteArray) ++ t227) ++ (⟨#[34]⟩ : ByteArray)), (by first | rfl | (simp; done) | (simp [*]; done)), (by first | rfl | (simp; done) | (simp [*]; done)), (by first | rfl | (simp; done) | (simp [*]; done)), H', ⟨by first | omega | exact Nat.le_refl _⟩, ⟨by (with_reducible repeat (first | refine ya8 ?_ _ | refine ya9 ?_ | refine blk_alloc ?_ _)); exact BK225.out⟩, ⟨by repeat (first | (with_reducible first | exact HB.out | apply ya2 | apply ya0 | apply ya1 | refine ya6 ?_ GE225.out) | exact HB.out)⟩⟩
 case rest =>
  clear HC8
  try clear c1
  try clear p2
  try clear c3
  try clear c3b0
  try clear c3b1
  try clear c11
  try clear c11b0
  try clear c11b1
  try clear c12
  try clear c12b0
  try clear c12b1
  try clear c12b2
  try clear c13
  try clear c13b0
  try clear c13b1
  try clear c16
  try clear c16b0
  try clear c16b1
  try clear c16b2
  try clear c17
  try clear c17b0
  try clear c17b1
  try clear c17b2
  try clear hcz10_0
  try clear hcz10_1
  try clear hcz10_2
  try clear hcz10_3
  try clear hcz10_4
  try clear hcz10_5
  try clear hcz14_0
  try clear hcz14_1
  try clear hcz14_2
  try clear hcz14_3
  try clear hcz14_4
  try clear hcz14_5
  try clear hcz18_0
  try clear hcz18_1
  try clear hcz18_2
  try clear hcz18_3
  try clear hcz18_4
  try clear hcz18_5
  try clear hcz6_0
  try clear hcz6_1
  try clear hcz6_2
  try clear hcz6_3
  try clear hcz6_4
  try clear hcz6_5
  try clear hfz10_0
  try clear hfz10_1
  try clear hfz10_2
  try clear hfz10_3
  try clear hfz10_4
  try clear hfz10_5
  try clear hfz14_0
  try clear hfz14_1
  try clear hfz14_2
  try clear hfz14_3
  try clear hfz14_4
  try clear hfz14_5
  try clear hfz18_0
  try clear hfz18_1
  try clear hfz18_2
  try clear hfz18_3
  try clear hfz18_4
  try clear hfz18_5
  try clear hfz6_0
  try clear hfz6_1
  try clear hfz6_2
  try clear hfz6_3
  try clear hfz6_4
  try clear hfz6_5
  obtain ⟨kq, x1_7, x5_7, x6_7, rfl, rfl, rfl, HA, HJ7, BK225, HB⟩ := hcut
  cases kq with
  | zero => exact absurd HA.out (by simp [ya3.j0])
  | succ kj7 =>
   have H := HA.out
   clear HA
   simp only [ya3.j0] at H
   replace H := Option.bind_eq_some_iff.mp H
   obtain ⟨t228, A200, H⟩ := H
   replace H : ((yc0.f kj7 t228).bind fun t231 => (ya3.l0 kj7 x1_7 x5_7 x6_7 t228 t231 0 a0_0 a0_1 a0_2 l0_3 l0_4 a0_5)) = some r := H
   have A20 := Aside0.mk A200
   clear A200
   replace H := Option.bind_eq_some_iff.mp H
   obtain ⟨t231, A210, H⟩ := H
   replace H : (ya3.l0 kj7 x1_7 x5_7 x6_7 t228 t231 0 a0_0 a0_1 a0_2 l0_3 l0_4 a0_5) = some r := H
   have A21 := Aside0.mk A210
   clear A210
   have H' := Aside0.mk H
   clear H
   obtain ⟨hcz22_0, hcz22_1, hcz22_2, hcz22_3, hcz22_4, hcz22_5, hfz22_0, hfz22_1, hfz22_2, hfz22_3, hfz22_4, hfz22_5⟩ := bx6 BK225.out
   go_wp2_with (first | ((with_reducible refine yc6 (f := 72) rfl ?_); refine goesL_ (some 44) rfl rfl Tryd.func72 (by kernel_rfl) rfl #[.slice A0_3 l0_3.length c0_3] rfl (by (try simp only [List.map_toArray, List.map_cons, List.map_nil]); first | done | rfl | (simp only [List.length_drop, List.length_take]; rfl) | (simp only [ByteArray.size_extract]; rfl)) ?_; (with_reducible refine (yb0.calls kj7 _ _ l0_3 t228 _ ?side1 ?side2 A20.out).mono ?_); (case side1 => repeat (first | exact (Kd.yc3 HR0_3.out HB.out) | (with_reducible refine Kd.C_alloc ?_ _) | (with_reducible refine Kd.C_drewN ?_ _) | (with_reducible refine Kd.C_drew ?_))); (case side2 => exact HC0_3.out); rintro e w23 ⟨v229, rfl, ho0, hb⟩; refine ⟨_, rfl, ?_⟩; have n0_ := Aside0.mk (Kd.yh3 ho0 (yb4 (by repeat (first | (with_reducible first | exact HB.out | apply ya2 | apply ya0 | apply ya1 | refine ya6 ?_ GE225.out) | exact HB.out)))); have n1_ := Aside0.mk (yb9 (g := gb225) (o := .cells #[.int .i64 a0_0, .string a0_1, .string a0_2, .slice A0_3 l0_3.length c0_3, .slice A0_4 l0_4.length c0_4, .string a0_5] 27 (0, 0)) (by (with_reducible repeat (first | refine ya8 ?_ _ | refine ya9 ?_ | refine blk_alloc ?_ _)); exact BK225.out) hb); have n2_ := Aside0.mk (ya7 (by repeat (first | (with_reducible first | exact HB.out | apply ya2 | apply ya0 | apply ya1 | refine ya6 ?_ GE225.out) | exact HB.out)) hb); clear BK225; clear HB; have HO230 := n0_; have BK225 := n1_; have HB := n2_; clear n0_ n1_ n2_; (try clear hb); (try clear hb2); (try clear hk); (try clear hi); (try clear ho0); obtain ⟨Ao24, co24, eo24⟩ := Kd.yh1 HO230.out; subst eo24) | ((with_reducible refine yc6 (f := 73) rfl ?_); refine goesL_ (some 46) rfl rfl Tryd.func73 (by kernel_rfl) rfl #[.slice Ao24 t228.length co24] rfl (by (try simp only [List.map_toArray, List.map_cons, List.map_nil]); first | done | rfl | (simp only [List.length_drop, List.length_take]; rfl) | (simp only [ByteArray.size_extract]; rfl)) ?_; (with_reducible refine (yc0.calls kj7 _ _ t228 t231 _ ?side1 ?side2 A21.out).mono ?_); (case side1 => repeat (first | exact (Kd.yd6 HO230.out).2.2 | (with_reducible refine Kd.C_alloc ?_ _) | (with_reducible refine Kd.C_drewN ?_ _) | (with_reducible refine Kd.C_drew ?_))); (case side2 => exact (Kd.yd6 HO230.out).2.1); rintro e w25 ⟨v232, rfl, ho0, hb⟩; refine ⟨_, rfl, ?_⟩; have n0_ := Aside0.mk (Kd.yh4 (by (with_reducible repeat (first | apply Kd.yc7 | apply Kd.R_drewN | apply Kd.R_drew)); exact HO230.out) hb); have n1_ := Aside0.mk (Kd.yh3 ho0 (yb4 (by repeat (first | (with_reducible first | exact HB.out | apply ya2 | apply ya0 | apply ya1 | refine ya6 ?_ GE225.out) | exact HB.out)))); have n2_ := Aside0.mk (yb9 (g := gb225) (o := .cells #[.int .i64 a0_0, .string a0_1, .string a0_2, .slice A0_3 l0_3.length c0_3, .slice A0_4 l0_4.length c0_4, .string a0_5] 27 (0, 0)) (by (with_reducible repeat (first | refine ya8 ?_ _ | refine ya9 ?_ | refine blk_alloc ?_ _)); exact BK225.out) hb); have n3_ := Aside0.mk (ya7 (by repeat (first | (with_reducible first | exact HB.out | apply ya2 | apply ya0 | apply ya1 | refine ya6 ?_ GE225.out) | exact HB.out)) hb); clear HO230; clear BK225; clear HB; have HO230 := n0_; have HO233 := n1_; have BK225 := n2_; have HB := n3_; clear n0_ n1_ n2_ n3_; (try clear hb); (try clear hb2); (try clear hk); (try clear hi); (try clear ho0)))
   go_loopg [6, 9] kj7 (fun kq v6 v9 w' => ∃ (x6_2 : ByteArray) (x9_2 : Int), v6 = .string x6_2 ∧ v9 = .int .i64 x9_2 ∧ Aside0 (ya3.l0 kq x1_7 x5_7 x6_2 t228 t231 x9_2 a0_0 a0_1 a0_2 l0_3 l0_4 a0_5 = some r) ∧ Aside0 (kq ≤ kj7) ∧ Aside0 (Kd.R kAt 63 w' w.heap.size (fun _ => True) (.slice Ao24 t228.length co24) t228) ∧ Aside0 (Kd.R Kd.string 9 w' w.heap.size (fun _ => True) v232 t231) ∧ Aside0 (w'.heap[gb225]? = some (.cells #[.int .i64 a0_0, .string a0_1, .string a0_2, (.slice A0_3 l0_3.length c0_3), (.slice A0_4 l0_4.length c0_4), .string a0_5] 27 (0, 0))) ∧ Aside0 (Below w.heap.size w w'))
   case atStart => exact ⟨(x6_7), (0), (by first | rfl | (simp; done) | (simp [*]; done)), (by first | rfl | (simp; done) | (simp [*]; done)), H', ⟨Nat.le_refl _⟩, ⟨by (with_reducible repeat (first | apply Kd.yc7 | apply Kd.R_drewN | apply Kd.R_drew)); exact HO230.out⟩, ⟨by (with_reducible repeat (first | apply Kd.yc7 | apply Kd.R_drewN | apply Kd.R_drew)); exact HO233.out⟩, ⟨by (with_reducible repeat (first | refine ya8 ?_ _ | refine ya9 ?_ | refine blk_alloc ?_ _)); exact BK225.out⟩, ⟨by repeat (first | (with_reducible first | exact HB.out | apply ya2 | apply ya0 | apply ya1 | refine ya6 ?_ GE225.out) | exact HB.out)⟩⟩
   case round =>
    clear H'
    try clear c1
    try clear p2
    try clear c3
    try clear c3b0
    try clear c3b1
    try clear c7
    try clear c11
    try clear c11b0
    try clear c11b1
    try clear c12
    try clear c12b0
    try clear c12b1
    try clear c12b2
    try clear c13
    try clear c13b0
    try clear c13b1
    try clear c16
    try clear c16b0
    try clear c16b1
    try clear c16b2
    try clear c17
    try clear c17b0
    try clear c17b1
    try clear c17b2
    try clear hcz10_0
    try clear hcz10_1
    try clear hcz10_2
    try clear hcz10_3
    try clear hcz10_4
    try clear hcz10_5
    try clear hcz14_0
    try clear hcz14_1
    try clear hcz14_2
    try clear hcz14_3
    try clear hcz14_4
    try clear hcz14_5
    try clear hcz18_0
    try clear hcz18_1
    try clear hcz18_2
    try clear hcz18_3
    try clear hcz18_4
    try clear hcz18_5
    try clear hcz22_0
    try clear hcz22_1
    try clear hcz22_2
    try clear hcz22_3
    try clear hcz22_4
    try clear hcz22_5
    try clear hcz6_0
    try clear hcz6_1
    try clear hcz6_2
    try clear hcz6_3
    try clear hcz6_4
    try clear hcz6_5
    try clear hfz10_0
    try clear hfz10_1
    try clear hfz10_2
    try clear hfz10_3
    try clear hfz10_4
    try clear hfz10_5
    try clear hfz14_0
    try clear hfz14_1
    try clear hfz14_2
    try clear hfz14_3
    try clear hfz14_4
    try clear hfz14_5
    try clear hfz18_0
    try clear hfz18_1
    try clear hfz18_2
    try clear hfz18_3
    try clear hfz18_4
    try clear hfz18_5
    try clear hfz22_0
    try clear hfz22_1
    try clear hfz22_2
    try clear hfz22_3
    try clear hfz22_4
    try clear hfz22_5
    try clear hfz6_0
    try clear hfz6_1
    try clear hfz6_2
    try clear hfz6_3
    try clear hfz6_4
    try clear hfz6_5
    try clear p2
    obtain ⟨x6_2, x9_2, rfl, rfl, HA, HK2, HO_7, HO_8, BK225, HB⟩ := hrel
    cases gk with
    | zero => exact absurd HA.out (by simp [ya3.l0])
    | succ k2 =>
     have H := HA.out
     clear HA
     simp only [ya3.l0] at H
     by_cases c26 : x9_2 < (t231.length : Int)
     ·rw [if_pos c26] at H
      have c26b0 : decide (x9_2 < (t231.length : Int)) = true := decide_eq_true c26
      clear c26
      by_cases c27 : x6_2.size + 8 ≤ 9223372036854775807
      rotate_left 1
      ·rw [if_neg c27] at H
       exact absurd H (by simp)
      rw [if_pos c27] at H
      have c27b0 := eq_true c27
      have c27b1 : decide (x6_2.size + 8 ≤ 9223372036854775807) = true := decide_eq_true c27
      try have c27b2 : (9223372036854775807 < x6_2.size + 8) = False := eq_false (Nat.not_lt.2 c27)
      replace H := Option.bind_eq_some_iff.mp H
      obtain ⟨t234, A280, H⟩ := H
      replace H : (if (x6_2 ++ (⟨#[32, 120, 109, 108, 110, 115, 58, 110]⟩ : ByteArray)).size + t234.size ≤ 9223372036854775807 then (if ((x6_2 ++ (⟨#[32, 120, 109, 108, 110, 115, 58, 110]⟩ : ByteArray)) ++ t234).size + 2 ≤ 9223372036854775807 then (if 0 ≤ x9_2 then ((ya5.f k2 (rdOf ByteArray.empty t231 x9_2) true).bind fun t236 => (if (((x6_2 ++ (⟨#[32, 120, 109, 108, 110, 115, 58, 110]⟩ : ByteArray)) ++ t234) ++ (⟨#[61, 34]⟩ : ByteArray)).size + t236.size ≤ 9223372036854775807 then (if ((((x6_2 ++ (⟨#[32, 120, 109, 108, 110, 115, 58, 110]⟩ : ByteArray)) ++ t234) ++ (⟨#[61, 34]⟩ : ByteArray)) ++ t236).size + 1 ≤ 9223372036854775807 then (ya3.l0 k2 x1_7 x5_7 (((((x6_2 ++ (⟨#[32, 120, 109, 108, 110, 115, 58, 110]⟩ : ByteArray)) ++ t234) ++ (⟨#[61, 34]⟩ : ByteArray)) ++ t236) ++ (⟨#[34]⟩ : ByteArray)) t228 t231 (wrap64 (x9_2 + 1)) a0_0 a0_1 a0_2 l0_3 l0_4 a0_5) else (none)) else (none))) else (none)) else (none)) else (none)) = some r := H
      have A28 := Aside0.mk A280
      clear A280
      by_cases c29 : (x6_2 ++ (⟨#[32, 120, 109, 108, 110, 115, 58, 110]⟩ : ByteArray)).size + t234.size ≤ 9223372036854775807
      rotate_left 1
      ·rw [if_neg c29] at H
       exact absurd H (by simp)
      rw [if_pos c29] at H
      have c29b0 := eq_true c29
      have c29b1 : decide ((x6_2 ++ (⟨#[32, 120, 109, 108, 110, 115, 58, 110]⟩ : ByteArray)).size + t234.size ≤ 9223372036854775807) = true := decide_eq_true c29
      try have c29b2 : (9223372036854775807 < (x6_2 ++ (⟨#[32, 120, 109, 108, 110, 115, 58, 110]⟩ : ByteArray)).size + t234.size) = False := eq_false (Nat.not_lt.2 c29)
      try have c29b5 : (9223372036854775807 < x6_2.size + 8 + t234.size) = False := eq_false (Nat.not_lt.2 (by have h_ := c29; simp only [ByteArray.size_append] at h_; exact h_))
      by_cases c30 : ((x6_2 ++ (⟨#[32, 120, 109, 108, 110, 115, 58, 110]⟩ : ByteArray)) ++ t234).size + 2 ≤ 9223372036854775807
      rotate_left 1
      ·rw [if_neg c30] at H
       exact absurd H (by simp)
      rw [if_pos c30] at H
      have c30b0 := eq_true c30
      have c30b1 : decide (((x6_2 ++ (⟨#[32, 120, 109, 108, 110, 115, 58, 110]⟩ : ByteArray)) ++ t234).size + 2 ≤ 9223372036854775807) = true := decide_eq_true c30
      try have c30b2 : (9223372036854775807 < ((x6_2 ++ (⟨#[32, 120, 109, 108, 110, 115, 58, 110]⟩ : ByteArray)) ++ t234).size + 2) = False := eq_false (Nat.not_lt.2 c30)
      try have c30b5 : (9223372036854775807 < x6_2.size + 8 + t234.size + 2) = False := eq_false (Nat.not_lt.2 (by have h_ := c30; simp only [ByteArray.size_append] at h_; exact h_))
      by_cases c31 : 0 ≤ x9_2
      rotate_left 1
      ·rw [if_neg c31] at H
       exact absurd H (by simp)
      rw [if_pos c31] at H
      have c31b0 : decide (0 ≤ x9_2) = true := decide_eq_true c31
      clear c31
      replace H := Option.bind_eq_some_iff.mp H
      obtain ⟨t236, A320, H⟩ := H
      replace H : (if (((x6_2 ++ (⟨#[32, 120, 109, 108, 110, 115, 58, 110]⟩ : ByteArray)) ++ t234) ++ (⟨#[61, 34]⟩ : ByteArray)).size + t236.size ≤ 9223372036854775807 then (if ((((x6_2 ++ (⟨#[32, 120, 109, 108, 110, 115, 58, 110]⟩ : ByteArray)) ++ t234) ++ (⟨#[61, 34]⟩ : ByteArray)) ++ t236).size + 1 ≤ 9223372036854775807 then (ya3.l0 k2 x1_7 x5_7 (((((x6_2 ++ (⟨#[32, 120, 109, 108, 110, 115, 58, 110]⟩ : ByteArray)) ++ t234) ++ (⟨#[61, 34]⟩ : ByteArray)) ++ t236) ++ (⟨#[34]⟩ : ByteArray)) t228 t231 (wrap64 (x9_2 + 1)) a0_0 a0_1 a0_2 l0_3 l0_4 a0_5) else (none)) else (none)) = some r := H
      have A32 := Aside0.mk A320
      clear A320
      by_cases c33 : (((x6_2 ++ (⟨#[32, 120, 109, 108, 110, 115, 58, 110]⟩ : ByteArray)) ++ t234) ++ (⟨#[61, 34]⟩ : ByteArray)).size + t236.size ≤ 9223372036854775807
      rotate_left 1
      ·rw [if_neg c33] at H
       exact absurd H (by simp)
      rw [if_pos c33] at H
      have c33b0 := eq_true c33
      have c33b1 : decide ((((x6_2 ++ (⟨#[32, 120, 109, 108, 110, 115, 58, 110]⟩ : ByteArray)) ++ t234) ++ (⟨#[61, 34]⟩ : ByteArray)).size + t236.size ≤ 9223372036854775807) = true := decide_eq_true c33
      try have c33b2 : (9223372036854775807 < (((x6_2 ++ (⟨#[32, 120, 109, 108, 110, 115, 58, 110]⟩ : ByteArray)) ++ t234) ++ (⟨#[61, 34]⟩ : ByteArray)).size + t236.size) = False := eq_false (Nat.not_lt.2 c33)
      try have c33b5 : (9223372036854775807 < x6_2.size + 8 + t234.size + 2 + t236.size) = False := eq_false (Nat.not_lt.2 (by have h_ := c33; simp only [ByteArray.size_append] at h_; exact h_))
      by_cases c34 : ((((x6_2 ++ (⟨#[32, 120, 109, 108, 110, 115, 58, 110]⟩ : ByteArray)) ++ t234) ++ (⟨#[61, 34]⟩ : ByteArray)) ++ t236).size + 1 ≤ 9223372036854775807
      rotate_left 1
      ·rw [if_neg c34] at H
       exact absurd H (by simp)
      rw [if_pos c34] at H
      have c34b0 := eq_true c34
      have c34b1 : decide (((((x6_2 ++ (⟨#[32, 120, 109, 108, 110, 115, 58, 110]⟩ : ByteArray)) ++ t234) ++ (⟨#[61, 34]⟩ : ByteArray)) ++ t236).size + 1 ≤ 9223372036854775807) = true := decide_eq_true c34
      try have c34b2 : (9223372036854775807 < ((((x6_2 ++ (⟨#[32, 120, 109, 108, 110, 115, 58, 110]⟩ : ByteArray)) ++ t234) ++ (⟨#[61, 34]⟩ : ByteArray)) ++ t236).size + 1) = False := eq_false (Nat.not_lt.2 c34)
      try have c34b5 : (9223372036854775807 < x6_2.size + 8 + t234.size + 2 + t236.size + 1) = False := eq_false (Nat.not_lt.2 (by have h_ := c34; simp only [ByteArray.size_append] at h_; exact h_))
      have H' := Aside0.mk H
      clear H
      obtain ⟨Ao35, co35, eo35⟩ := Kd.yh1 HO_8.out
      subst eo35
      try go_wp2
      have n0_ := Aside0.mk (Kd.R_drew HO_7.out)
      have n1_ := Aside0.mk (Kd.R_drew HO_8.out)
      have n2_ := Aside0.mk (ya9 BK225.out)
      have n3_ := Aside0.mk (ya1 HB.out)
      clear HO_7
      clear HO_8
      clear BK225
      clear HB
      have HO_7 := n0_
      have HO_8 := n1_
      have BK225 := n2_
      have HB := n3_
      clear n0_ n1_ n2_ n3_
      have p235 : 0 ≤ (x9_2 : Int) := of_decide_eq_true (by first | (with_reducible assumption) | assumption)
      have q235 : x9_2 < (t231.length : Int) := of_decide_eq_true (by first | (with_reducible assumption) | assumption)
      obtain ⟨ad235, e235, hx235_0⟩ := Kd.yl8 (Kd.yd6 HO_8.out).2.2 x9_2 p235 q235
      cases e235
      replace p235 := eq_true p235
      replace q235 := eq_true q235
      refine start_ (n := 15) (S := fun w' => w'.cell? (ad235.add (x9_2).toNat) = some (.string (rdOf ByteArray.empty t231 x9_2))) (ds := []) #[false, false, false, false, false, false, false, false, false, false, false, false, false, false, false] (by kernel_rfl) rfl rfl (hx235_0) (fun hHeld => ?_); refine yk4 ya3.tab15 ya3.bits15 (fun HT_ HW_ => ?_)
      generalize wr.drew = w36 at HO_7 HO_8 BK225 HB hx235_0 hHeld ⊢
      refine pure_ (i := 0) (N := some 53) (v := ?_) (a' := ?_) #[true, false, false, false, false, false, false, false, false, false, false, false, false, false, false] rfl rfl (any_of HT_.out (by kernel_rfl)) (fun _ _ _ h => h) (Or.inl ⟨by rfl, ?_⟩) ?_ ?_
      rotate_left
      ·intro w'
       go_simp
       with_reducible rfl
      rotate_left
      ·simp only [Act.put, zA, zB, zC, i64_w, i32_w]
       rfl
      refine pure_ (i := 1) (N := some 54) (v := ?_) (a' := ?_) #[true, true, false, false, false, false, false, false, false, false, false, false, false, false, false] rfl rfl (any_of HT_.out (by kernel_rfl)) (fun _ _ _ h => h) (Or.inl ⟨by rfl, ?_⟩) ?_ ?_
      rotate_left
      ·intro w'
       go_simp
       with_reducible rfl
      rotate_left
      ·simp only [Act.put, zA, zB, zC, i64_w, i32_w]
       rfl
      refine pure_ (i := 2) (N := some 55) (v := ?_) (a' := ?_) #[true, true, true, false, false, false, false, false, false, false, false, false, false, false, false] rfl rfl (any_of HT_.out (by kernel_rfl)) (fun _ _ _ h => h) (Or.inl ⟨by rfl, ?_⟩) ?_ ?_
      rotate_left
      ·intro w'
       go_simp
       with_reducible rfl
      rotate_left
      ·simp only [Act.put, zA, zB, zC, i64_w, i32_w]
       rfl
      refine pure_ (i := 3) (N := some 56) (v := ?_) (a' := ?_) #[true, true, true, true, false, false, false, false, false, false, false, false, false, false, false] rfl rfl (any_of HT_.out (by kernel_rfl)) (fun _ _ _ h => h) (Or.inl ⟨by rfl, ?_⟩) ?_ ?_
      rotate_left
      ·intro w'
       go_simp
       with_reducible rfl
      rotate_left
      ·simp only [Act.put, zA, zB, zC, i64_w, i32_w]
       rfl
      refine pure_ (i := 7) (N := some 60) (v := ?_) (a' := ?_) #[true, true, true, true, false, false, false, true, false, false, false, false, false, false, false] rfl rfl (any_of HT_.out (by kernel_rfl)) (fun _ _ _ h => h) (Or.inl ⟨by rfl, ?_⟩) ?_ ?_
      rotate_left
      ·intro w'
       go_simp
       with_reducible rfl
      rotate_left
      ·simp only [Act.put, zA, zB, zC, i64_w, i32_w]
       rfl
      refine pure_ (i := 8) (N := some 61) (v := ?_) (a' := ?_) #[true, true, true, true, false, false, false, true, true, false, false, false, false, false, false] rfl rfl (any_of HT_.out (by kernel_rfl)) (fun _ _ _ h => h) (Or.inl ⟨by rfl, ?_⟩) ?_ ?_
      rotate_left
      ·intro w'
       go_simp
       with_reducible rfl
      rotate_left
      ·simp only [Act.put, zA, zB, zC, i64_w, i32_w]
       rfl
      refine pure_ (i := 9) (N := some 62) (v := ?_) (a' := ?_) #[true, true, true, true, false, false, false, true, true, true, false, false, false, false, false] rfl rfl (any_of HT_.out (by kernel_rfl)) (fun _ _ _ h => h) (Or.inl ⟨by rfl, ?_⟩) ?_ ?_
      rotate_left
      ·intro w'
       go_simp
       with_reducible rfl
      rotate_left
      ·simp only [Act.put, zA, zB, zC, i64_w, i32_w]
       rfl
      refine take_ (i := 10) (N := some 63) (v := ?_) (a' := ?_) #[true, true, true, true, false, false, false, true, true, true, true, false, false, false, false] rfl rfl (yj1 HT_.out HW_.out (by kernel_rfl)) (fun _ _ _ h => h) (Or.inl ⟨by rfl, ?_⟩) hHeld ?_ ?_
      rotate_left
      ·intro w' s0
       go_simp
       with_reducible rfl
      rotate_left
      ·simp only [Act.put, zA, zB, zC, i64_w, i32_w]
       rfl
      refine one_ (i := 4) (N := some 57) #[true, true, true, true, true, false, false, true, true, true, true, false, false, false, false] rfl rfl (one_of HT_.out (by kernel_rfl)) (by decide) (fun K hK => ?_)
      refine goes_ Tryd.func74 (by kernel_rfl) rfl #[.int .i64 (wrap64 (x9_2 + 1))] (by rfl) rfl rfl (by (try simp only [List.map_toArray, List.map_cons, List.map_nil]); first | done | rfl | (simp only [List.length_drop, List.length_take]; rfl) | (simp only [ByteArray.size_extract]; rfl)) ?_
      with_reducible refine (ye2.calls (wrap64 (x9_2 + 1)) t234 _ A28.out).mono ?_
      rintro e w37 ⟨rfl, hb⟩
      have HS0_ := (hb.cell (World.block_lt_of_cell? _ _ (hHeld))).trans (hHeld)
      refine ⟨_, rfl, ?_⟩
      have n0_ := Aside0.mk (Kd.yh4 (by (with_reducible repeat (first | apply Kd.yc7 | apply Kd.R_drewN | apply Kd.R_drew)); exact HO_7.out) hb)
      have n1_ := Aside0.mk (Kd.yh4 (by (with_reducible repeat (first | apply Kd.yc7 | apply Kd.R_drewN | apply Kd.R_drew)); exact HO_8.out) hb)
      have n2_ := Aside0.mk (yb9 (g := gb225) (o := .cells #[.int .i64 a0_0, .string a0_1, .string a0_2, .slice A0_3 l0_3.length c0_3, .slice A0_4 l0_4.length c0_4, .string a0_5] 27 (0, 0)) (by (with_reducible repeat (first | refine ya8 ?_ _ | refine ya9 ?_ | refine blk_alloc ?_ _)); exact BK225.out) hb)
      have n3_ := Aside0.mk (ya7 (by repeat (first | (with_reducible first | exact HB.out | apply ya2 | apply ya0 | apply ya1 | refine ya6 ?_ GE225.out) | exact HB.out)) hb)
      clear HO_7
      clear HO_8
      clear BK225
      clear HB
      have HO_7 := n0_
      have HO_8 := n1_
      have BK225 := n2_
      have HB := n3_
      clear n0_ n1_ n2_ n3_
      (try clear hb)
      (try clear hb2)
      (try clear hk)
      (try clear hi)
      refine hK.out _ _ (HS0_) (fun hHeld => ?_)
      clear hK K
      refine norm_ (a' := ?_) ?_ ?_
      rotate_left
      ·show Act.put _ (some 57) _ = _
       simp only [Act.put, zA, zB, zC, i64_w, i32_w]
       rfl
      refine pure_ (i := 5) (N := some 58) (v := ?_) (a' := ?_) #[true, true, true, true, true, true, false, true, true, true, true, false, false, false, false] rfl rfl (any_of HT_.out (by kernel_rfl)) (fun _ _ _ h => h) (Or.inl ⟨by rfl, ?_⟩) ?_ ?_
      rotate_left
      ·intro w'
       go_simp
       with_reducible rfl
      rotate_left
      ·simp only [Act.put, zA, zB, zC, i64_w, i32_w]
       rfl
      refine pure_ (i := 6) (N := some 59) (v := ?_) (a' := ?_) #[true, true, true, true, true, true, true, true, true, true, true, false, false, false, false] rfl rfl (any_of HT_.out (by kernel_rfl)) (fun _ _ _ h => h) (Or.inl ⟨by rfl, ?_⟩) ?_ ?_
      rotate_left
      ·intro w'
       go_simp
       with_reducible rfl
      rotate_left
      ·simp only [Act.put, zA, zB, zC, i64_w, i32_w]
       rfl
      refine one_ (i := 11) (N := some 64) #[true, true, true, true, true, true, true, true, true, true, true, true, false, false, false] rfl rfl (one_of HT_.out (by kernel_rfl)) (by decide) (fun K hK => ?_)
      refine goes_ Tryd.func17 (by kernel_rfl) rfl #[.string (rdOf ByteArray.empty t231 x9_2), .bool true] (by rfl) rfl rfl (by (try simp only [List.map_toArray, List.map_cons, List.map_nil]); first | done | rfl | (simp only [List.length_drop, List.length_take]; rfl) | (simp only [ByteArray.size_extract]; rfl)) ?_
      with_reducible refine (ya5.calls k2 (rdOf ByteArray.empty t231 x9_2) true t236 _ A32.out).mono ?_
      rintro e w38 ⟨rfl, hb⟩
      have HS0_ := (hb.cell (World.block_lt_of_cell? _ _ (hHeld))).trans (hHeld)
      refine ⟨_, rfl, ?_⟩
      have n0_ := Aside0.mk (Kd.yh4 (by (with_reducible repeat (first | apply Kd.yc7 | apply Kd.R_drewN | apply Kd.R_drew)); exact HO_7.out) hb)
      have n1_ := Aside0.mk (Kd.yh4 (by (with_reducible repeat (first | apply Kd.yc7 | apply Kd.R_drewN | apply Kd.R_drew)); exact HO_8.out) hb)
      have n2_ := Aside0.mk (yb9 (g := gb225) (o := .cells #[.int .i64 a0_0, .string a0_1, .string a0_2, .slice A0_3 l0_3.length c0_3, .slice A0_4 l0_4.length c0_4, .string a0_5] 27 (0, 0)) (by (with_reducible repeat (first | refine ya8 ?_ _ | refine ya9 ?_ | refine blk_alloc ?_ _)); exact BK225.out) hb)
      have n3_ := Aside0.mk (ya7 (by repeat (first | (with_reducible first | exact HB.out | apply ya2 | apply ya0 | apply ya1 | refine ya6 ?_ GE225.out) | exact HB.out)) hb)
      clear HO_7
      clear HO_8
      clear BK225
      clear HB
      have HO_7 := n0_
      have HO_8 := n1_
      have BK225 := n2_
      have HB := n3_
      clear n0_ n1_ n2_ n3_
      (try clear hb)
      (try clear hb2)
      (try clear hk)
      (try clear hi)
      refine hK.out _ _ (HS0_) (fun hHeld => ?_)
      clear hK K
      refine norm_ (a' := ?_) ?_ ?_
      rotate_left
      ·show Act.put _ (some 64) _ = _
       simp only [Act.put, zA, zB, zC, i64_w, i32_w]
       rfl
      refine pure_ (i := 12) (N := some 65) (v := ?_) (a' := ?_) #[true, true, true, true, true, true, true, true, true, true, true, true, true, false, false] rfl rfl (any_of HT_.out (by kernel_rfl)) (fun _ _ _ h => h) (Or.inl ⟨by rfl, ?_⟩) ?_ ?_
      rotate_left
      ·intro w'
       go_simp
       with_reducible rfl
      rotate_left
      ·simp only [Act.put, zA, zB, zC, i64_w, i32_w]
       rfl
      refine pure_ (i := 13) (N := some 66) (v := ?_) (a' := ?_) #[true, true, true, true, true, true, true, true, true, true, true, true, true, true, false] rfl rfl (any_of HT_.out (by kernel_rfl)) (fun _ _ _ h => h) (Or.inl ⟨by rfl, ?_⟩) ?_ ?_
      rotate_left
      ·intro w'
       go_simp
       with_reducible rfl
      rotate_left
      ·simp only [Act.put, zA, zB, zC, i64_w, i32_w]
       rfl
      refine pure_ (i := 14) (N := some 6) (v := ?_) (a' := ?_) #[true, true, true, true, true, true, true, true, true, true, true, true, true, true, true] rfl rfl (any_of HT_.out (by kernel_rfl)) (fun _ _ _ h => h) (Or.inl ⟨by rfl, ?_⟩) ?_ ?_
      rotate_left
      ·intro w'
       go_simp
       with_reducible rfl
      rotate_left
      ·simp only [Act.put, zA, zB, zC, i64_w, i32_w]
       rfl
      refine done_ (yo6 HT_.out (by kernel_rfl)) ?_
      try go_wp2
      go_roundg k2
      case measure => have := HJ7.out; have := HK2.out; omega
      case rel => exact ⟨(((((x6_2 ++ (⟨#[32, 120, 109, 108, 110, 115, 58, 110]⟩ : ByteArray)) ++ t234) ++ (⟨#[61, 34]⟩ : ByteArray)) ++ t236) ++ (⟨#[34]⟩ : ByteArray)), (wrap64 (x9_2 + 1)), (by first | rfl | (simp; done) | (simp [*]; done)), (by first | rfl | (simp; done) | (simp [*]; done)), H', ⟨by have := HJ7.out; have := HK2.out; omega⟩, ⟨by (with_reducible repeat (first | apply Kd.yc7 | apply Kd.R_drewN | apply Kd.R_drew)); exact HO_7.out⟩, ⟨by (with_reducible repeat (first | apply Kd.yc7 | apply Kd.R_drewN | apply Kd.R_drew)); exact HO_8.out⟩, ⟨by (with_reducible repeat (first | refine ya8 ?_ _ | refine ya9 ?_ | refine blk_alloc ?_ _)); exact BK225.out⟩, ⟨by repeat (first | (with_reducible first | exact HB.out | apply ya2 | apply ya0 | apply ya1 | refine ya6 ?_ GE225.out) | exact HB.out)⟩⟩
     ·rw [if_neg c26] at H
      have c26b0 : decide (x9_2 < (t231.length : Int)) = false := decide_eq_false c26
      clear c26
      have H' := Aside0.mk H
      clear H
      obtain ⟨Ao39, co39, eo39⟩ := Kd.yh1 HO_8.out
      subst eo39
      go_wp2
      go_loopg [6, 10] k2 (fun kq v6 v10 w' => ∃ (x6_3 : ByteArray) (x10_3 : Int), v6 = .string x6_3 ∧ v10 = .int .i64 x10_3 ∧ Aside0 (ya3.l1 kq x1_7 x5_7 x6_3 t228 t231 x10_3 a0_0 a0_1 a0_2 l0_3 l0_4 a0_5 = some r) ∧ Aside0 (kq ≤ k2) ∧ Aside0 (Kd.R kAt 63 w' w.heap.size (fun _ => True) (.slice Ao24 t228.length co24) t228) ∧ Aside0 (Kd.R Kd.string 9 w' w.heap.size (fun _ => True) (.slice Ao39 t231.length co39) t231) ∧ Aside0 (w'.heap[gb225]? = some (.cells #[.int .i64 a0_0, .string a0_1, .string a0_2, (.slice A0_3 l0_3.length c0_3), (.slice A0_4 l0_4.length c0_4), .string a0_5] 27 (0, 0))) ∧ Aside0 (Below w.heap.size w w'))
      case atStart => exact ⟨(x6_2), (0), (by first | rfl | (simp; done) | (simp [*]; done)), (by first | rfl | (simp; done) | (simp [*]; done)), H', ⟨Nat.le_refl _⟩, ⟨by (with_reducible repeat (first | apply Kd.yc7 | apply Kd.R_drewN | apply Kd.R_drew)); exact HO_7.out⟩, ⟨by (with_reducible repeat (first | apply Kd.yc7 | apply Kd.R_drewN | apply Kd.R_drew)); exact HO_8.out⟩, ⟨by (with_reducible repeat (first | refine ya8 ?_ _ | refine ya9 ?_ | refine blk_alloc ?_ _)); exact BK225.out⟩, ⟨by repeat (first | (with_reducible first | exact HB.out | apply ya2 | apply ya0 | apply ya1 | refine ya6 ?_ GE225.out) | exact HB.out)⟩⟩
      case round =>
       clear H'
       try clear c1
       try clear c2
       try clear p2
       try clear q2
       try clear hx2
       try clear c3
       try clear c3b0
       try clear c3b1
       try clear p6
       try clear c7
       try clear c11
       try clear c11b0
       try clear c11b1
       try clear c12
       try clear c12b0
       try clear c12b1
       try clear c12b2
       try clear c13
       try clear c13b0
       try clear c13b1
       try clear c16
       try clear c16b0
       try clear c16b1
       try clear c16b2
       try clear c17
       try clear c17b0
       try clear c17b1
       try clear c17b2
       try clear p23
       try clear q23
       try clear hx23
       try clear c26
       try clear c26b0
       try clear c27
       try clear c27b0
       try clear c27b1
       try clear c27b2
       try clear c29
       try clear c29b0
       try clear c29b1
       try clear c29b2
       try clear c30
       try clear c30b0
       try clear c30b1
       try clear c30b2
       try clear c31
       try clear c31b0
       try clear c33
       try clear c33b0
       try clear c33b1
       try clear c33b2
       try clear c34
       try clear c34b0
       try clear c34b1
       try clear c34b2
       try clear c39
       try clear hcz10_0
       try clear hcz10_1
       try clear hcz10_2
       try clear hcz10_3
       try clear hcz10_4
       try clear hcz10_5
       try clear hcz14_0
       try clear hcz14_1
       try clear hcz14_2
       try clear hcz14_3
       try clear hcz14_4
       try clear hcz14_5
       try clear hcz18_0
       try clear hcz18_1
       try clear hcz18_2
       try clear hcz18_3
       try clear hcz18_4
       try clear hcz18_5
       try clear hcz22_0
       try clear hcz22_1
       try clear hcz22_2
       try clear hcz22_3
       try clear hcz22_4
       try clear hcz22_5
       try clear hcz6_0
       try clear hcz6_1
       try clear hcz6_2
       try clear hcz6_3
       try clear hcz6_4
       try clear hcz6_5
       try clear hfz10_0
       try clear hfz10_1
       try clear hfz10_2
       try clear hfz10_3
       try clear hfz10_4
       try clear hfz10_5
       try clear hfz14_0
       try clear hfz14_1
       try clear hfz14_2
       try clear hfz14_3
       try clear hfz14_4
       try clear hfz14_5
       try clear hfz18_0
       try clear hfz18_1
       try clear hfz18_2
       try clear hfz18_3
       try clear hfz18_4
       try clear hfz18_5
       try clear hfz22_0
       try clear hfz22_1
       try clear hfz22_2
       try clear hfz22_3
       try clear hfz22_4
       try clear hfz22_5
       try clear hfz6_0
       try clear hfz6_1
       try clear hfz6_2
       try clear hfz6_3
       try clear hfz6_4
       try clear hfz6_5
       try clear hx235_0
       try clear p2
       try clear p235
       try clear q235
       obtain ⟨x6_3, x10_3, rfl, rfl, HA, HK3, HO_7, HO_8, BK225, HB⟩ := hrel
       cases gk with
       | zero => exact absurd HA.out (by simp [ya3.l1])
       | succ k3 =>
        have H := HA.out
        clear HA
        simp only [ya3.l1] at H
        by_cases c40 : x10_3 < (t228.length : Int)
        ·rw [if_pos c40] at H
         have c40b0 : decide (x10_3 < (t228.length : Int)) = true := decide_eq_true c40
         clear c40
         by_cases c41 : 0 ≤ x10_3
         rotate_left 1
         ·rw [if_neg c41] at H
          exact absurd H (by simp)
         rw [if_pos c41] at H
         have c41b0 : decide (0 ≤ x10_3) = true := decide_eq_true c41
         clear c41
         have HC42 := Aside0.mk H
         clear H
         have p237 : 0 ≤ (x10_3 : Int) := of_decide_eq_true (by first | (with_reducible assumption) | assumption)
         have q237 : x10_3 < (t228.length : Int) := of_decide_eq_true (by first | (with_reducible assumption) | assumption)
         obtain ⟨ad237, e237, hx237_0, hx237_1, hx237_2⟩ := atAt (Kd.yd6 HO_7.out).2.2 x10_3 p237 q237
         cases e237
         replace p237 := eq_true p237
         replace q237 := eq_true q237
         have p238 : 0 ≤ (x10_3 : Int) := of_decide_eq_true (by first | (with_reducible assumption) | assumption)
         have q238 : x10_3 < (t228.length : Int) := of_decide_eq_true (by first | (with_reducible assumption) | assumption)
         obtain ⟨ad238, e238, hx238_0, hx238_1, hx238_2⟩ := atAt (Kd.yd6 HO_7.out).2.2 x10_3 p238 q238
         obtain rfl : ad237 = ad238 := (by injection e238)
         replace p238 := eq_true p238
         replace q238 := eq_true q238
         go_upto_if 85 with (fail)
         go_cut [11] (fun v11 wc => ∃ (kq : Nat) (x11_41 : ByteArray), v11 = .string x11_41 ∧ Aside0 (ya3.j3 kq x1_7 x5_7 x6_3 t228 t231 x10_3 x11_41 a0_0 a0_1 a0_2 l0_3 l0_4 a0_5 = some r) ∧ Aside0 (kq ≤ k3) ∧ Aside0 (Kd.R kAt 63 wc w.heap.size (fun _ => True) (.slice (some ad237) t228.length co24) t228) ∧ Aside0 (Kd.R Kd.string 9 wc w.heap.size (fun _ => True) (.slice Ao39 t231.length co39) t231) ∧ Aside0 (wc.heap[gb225]? = some (.cells #[.int .i64 a0_0, .string a0_1, .string a0_2, (.slice A0_3 l0_3.length c0_3), (.slice A0_4 l0_4.length c0_4), .string a0_5] 27 (0, 0))) ∧ Aside0 (Below w.heap.size w wc))
         case first =>
          have H := HC42.out
          clear HC42
          by_cases c43 : ((rdAt t228 x10_3).f0.f0).toList = ([104, 116, 116, 112, 58, 47, 47, 119, 119, 119, 46, 119, 51, 46, 111, 114, 103, 47, 88, 77, 76, 47, 49, 57, 57, 56, 47, 110, 97, 109, 101, 115, 112, 97, 99, 101] : List UInt8)
          rotate_left 1
          ·rw [if_neg c43] at H
           have c43b0 : (((rdAt t228 x10_3).f0.f0).toList == ([104, 116, 116, 112, 58, 47, 47, 119, 119, 119, 46, 119, 51, 46, 111, 114, 103, 47, 88, 77, 76, 47, 49, 57, 57, 56, 47, 110, 97, 109, 101, 115, 112, 97, 99, 101] : List UInt8)) = false := beq_eq_false_iff_ne.mpr c43
           have c43b1 : (((rdAt t228 x10_3).f0.f0).toList != ([104, 116, 116, 112, 58, 47, 47, 119, 119, 119, 46, 119, 51, 46, 111, 114, 103, 47, 88, 77, 76, 47, 49, 57, 57, 56, 47, 110, 97, 109, 101, 115, 112, 97, 99, 101] : List UInt8)) = true := bne_iff_ne.mpr c43
           (first | rw [c43b0] | (simp only [i64_w, i32_w]; rw [c43b0]) | skip)
           have H' := Aside0.mk H
           clear H
           go_wp2
           go_meet
           case rel => exact ⟨_, ((rdAt t228 x10_3).f0.f1), (by first | rfl | (simp; done) | (simp [*]; done)), H', ⟨by have := HJ7.out; have := HK2.out; have := HK3.out; first | omega | exact Nat.le_refl _⟩, ⟨by (with_reducible repeat (first | apply Kd.yc7 | apply Kd.R_drewN | apply Kd.R_drew)); exact HO_7.out⟩, ⟨by (with_reducible repeat (first | apply Kd.yc7 | apply Kd.R_drewN | apply Kd.R_drew)); exact HO_8.out⟩, ⟨by (with_reducible repeat (first | refine ya8 ?_ _ | refine ya9 ?_ | refine blk_alloc ?_ _)); exact BK225.out⟩, ⟨by repeat (first | (with_reducible first | exact HB.out | apply ya2 | apply ya0 | apply ya1 | refine ya6 ?_ GE225.out) | exact HB.out)⟩⟩
          rw [if_pos c43] at H
          have c43b0 : (((rdAt t228 x10_3).f0.f0).toList == ([104, 116, 116, 112, 58, 47, 47, 119, 119, 119, 46, 119, 51, 46, 111, 114, 103, 47, 88, 77, 76, 47, 49, 57, 57, 56, 47, 110, 97, 109, 101, 115, 112, 97, 99, 101] : List UInt8)) = true := beq_iff_eq.mpr c43
          have c43b1 : (((rdAt t228 x10_3).f0.f0).toList != ([104, 116, 116, 112, 58, 47, 47, 119, 119, 119, 46, 119, 51, 46, 111, 114, 103, 47, 88, 77, 76, 47, 49, 57, 57, 56, 47, 110, 97, 109, 101, 115, 112, 97, 99, 101] : List UInt8)) = false := bne_eq_false_iff_eq.mpr c43
          clear c43
          (first | rw [c43b0] | (simp only [i64_w, i32_w]; rw [c43b0]) | skip)
          by_cases c44 : 4 + ((rdAt t228 x10_3).f0.f1).size ≤ 9223372036854775807
          rotate_left 1
          ·rw [if_neg c44] at H
           exact absurd H (by simp)
          rw [if_pos c44] at H
          have c44b0 := eq_true c44
          have c44b1 : decide (4 + ((rdAt t228 x10_3).f0.f1).size ≤ 9223372036854775807) = true := decide_eq_true c44
          try have c44b2 : (9223372036854775807 < 4 + ((rdAt t228 x10_3).f0.f1).size) = False := eq_false (Nat.not_lt.2 c44)
          have H' := Aside0.mk H
          clear H
          go_wp2
          go_meet
          case rel => exact ⟨_, ((⟨#[120, 109, 108, 58]⟩ : ByteArray) ++ ((rdAt t228 x10_3).f0.f1)), (by first | rfl | (simp; done) | (simp [*]; done)), H', ⟨by have := HJ7.out; have := HK2.out; have := HK3.out; first | omega | exact Nat.le_refl _⟩, ⟨by (with_reducible repeat (first | apply Kd.yc7 | apply Kd.R_drewN | apply Kd.R_drew)); exact HO_7.out⟩, ⟨by (with_reducible repeat (first | apply Kd.yc7 | apply Kd.R_drewN | apply Kd.R_drew)); exact HO_8.out⟩, ⟨by (with_reducible repeat (first | refine ya8 ?_ _ | refine ya9 ?_ | refine blk_alloc ?_ _)); exact BK225.out⟩, ⟨by repeat (first | (with_reducible first | exact HB.out | apply ya2 | apply ya0 | apply ya1 | refine ya6 ?_ GE225.out) | exact HB.out)⟩⟩
         case rest =>
          clear HC42
          try clear c1
          try clear c2
          try clear p2
          try clear q2
          try clear hx2
          try clear c3
          try clear c3b0
          try clear c3b1
          try clear c4
          try clear p6
          try clear c7
          try clear c11
          try clear c11b0
          try clear c11b1
          try clear c12
          try clear c12b0
          try clear c12b1
          try clear c12b2
          try clear c13
          try clear c13b0
          try clear c13b1
          try clear c16
          try clear c16b0
          try clear c16b1
          try clear c16b2
          try clear c17
          try clear c17b0
          try clear c17b1
          try clear c17b2
          try clear p23
          try clear q23
          try clear hx23
          try clear c26
          try clear c26b0
          try clear c27
          try clear c27b0
          try clear c27b1
          try clear c27b2
          try clear c29
          try clear c29b0
          try clear c29b1
          try clear c29b2
          try clear c30
          try clear c30b0
          try clear c30b1
          try clear c30b2
          try clear c31
          try clear c31b0
          try clear c33
          try clear c33b0
          try clear c33b1
          try clear c33b2
          try clear c34
          try clear c34b0
          try clear c34b1
          try clear c34b2
          try clear c39
          try clear c40
          try clear c40b0
          try clear c41
          try clear c41b0
          try clear c43
          try clear c43b0
          try clear c43b1
          try clear c44
          try clear c44b0
          try clear c44b1
          try clear c44b2
          try clear hcz10_0
          try clear hcz10_1
          try clear hcz10_2
          try clear hcz10_3
          try clear hcz10_4
          try clear hcz10_5
          try clear hcz14_0
          try clear hcz14_1
          try clear hcz14_2
          try clear hcz14_3
          try clear hcz14_4
          try clear hcz14_5
          try clear hcz18_0
          try clear hcz18_1
          try clear hcz18_2
          try clear hcz18_3
          try clear hcz18_4
          try clear hcz18_5
          try clear hcz22_0
          try clear hcz22_1
          try clear hcz22_2
          try clear hcz22_3
          try clear hcz22_4
          try clear hcz22_5
          try clear hcz6_0
          try clear hcz6_1
          try clear hcz6_2
          try clear hcz6_3
          try clear hcz6_4
          try clear hcz6_5
          try clear hfz10_0
          try clear hfz10_1
          try clear hfz10_2
          try clear hfz10_3
          try clear hfz10_4
          try clear hfz10_5
          try clear hfz14_0
          try clear hfz14_1
          try clear hfz14_2
          try clear hfz14_3
          try clear hfz14_4
          try clear hfz14_5
          try clear hfz18_0
          try clear hfz18_1
          try clear hfz18_2
          try clear hfz18_3
          try clear hfz18_4
          try clear hfz18_5
          try clear hfz22_0
          try clear hfz22_1
          try clear hfz22_2
          try clear hfz22_3
          try clear hfz22_4
          try clear hfz22_5
          try clear hfz6_0
          try clear hfz6_1
          try clear hfz6_2
          try clear hfz6_3
          try clear hfz6_4
          try clear hfz6_5
          try clear hx235_0
          try clear hx237_0
          try clear hx237_1
          try clear hx237_2
          try clear hx238_0
          try clear hx238_1
          try clear hx238_2
          try clear p2
          try clear p23
          try clear p235
          try clear p237
          try clear p238
          try clear p6
          try clear q2
          try clear q23
          try clear q235
          try clear q237
          try clear q238
          obtain ⟨kq, x11_41, rfl, HA, HJ41, HO_7, HO_8, BK225, HB⟩ := hcut
          cases kq with
          | zero => exact absurd HA.out (by simp [ya3.j3])
          | succ kj41 =>
           have H := HA.out
           clear HA
           simp only [ya3.j3] at H
           have H' := Aside0.mk H
           clear H
           go_wp2
           go_loopg [11, 12] kj41 (fun kq v11 v12 w' => ∃ (x11_5 : ByteArray) (x12_5 : Int), v11 = .string x11_5 ∧ v12 = .int .i64 x12_5 ∧ Aside0 (ya3.l2 kq x1_7 x5_7 x6_3 t228 t231 x10_3 x11_5 x12_5 a0_0 a0_1 a0_2 l0_3 l0_4 a0_5 = some r) ∧ Aside0 (kq ≤ kj41) ∧ Aside0 (Kd.R kAt 63 w' w.heap.size (fun _ => True) (.slice (some ad237) t228.length co24) t228) ∧ Aside0 (Kd.R Kd.string 9 w' w.heap.size (fun _ => True) (.slice Ao39 t231.length co39) t231) ∧ Aside0 (w'.heap[gb225]? = some (.cells #[.int .i64 a0_0, .string a0_1, .string a0_2, (.slice A0_3 l0_3.length c0_3), (.slice A0_4 l0_4.length c0_4), .string a0_5] 27 (0, 0))) ∧ Aside0 (Below w.heap.size w w'))
           case atStart => exact ⟨(x11_41), (0), (by first | rfl | (simp; done) | (simp [*]; done)), (by first | rfl | (simp; done) | (simp [*]; done)), H', ⟨Nat.le_refl _⟩, ⟨by (with_reducible repeat (first | apply Kd.yc7 | apply Kd.R_drewN | apply Kd.R_drew)); exact HO_7.out⟩, ⟨by (with_reducible repeat (first | apply Kd.yc7 | apply Kd.R_drewN | apply Kd.R_drew)); exact HO_8.out⟩, ⟨by (with_reducible repeat (first | refine ya8 ?_ _ | refine ya9 ?_ | refine blk_alloc ?_ _)); exact BK225.out⟩, ⟨by repeat (first | (with_reducible first | exact HB.out | apply ya2 | apply ya0 | apply ya1 | refine ya6 ?_ GE225.out) | exact HB.out)⟩⟩
           case round =>
            clear H'
            try clear c1
            try clear c2
            try clear p2
            try clear q2
            try clear hx2
            try clear c3
            try clear c3b0
            try clear c3b1
            try clear c4
            try clear p6
            try clear c7
            try clear c11
            try clear c11b0
            try clear c11b1
            try clear c12
            try clear c12b0
            try clear c12b1
            try clear c12b2
            try clear c13
            try clear c13b0
            try clear c13b1
            try clear c16
            try clear c16b0
            try clear c16b1
            try clear c16b2
            try clear c17
            try clear c17b0
            try clear c17b1
            try clear c17b2
            try clear p23
            try clear q23
            try clear hx23
            try clear c26
            try clear c26b0
            try clear c27
            try clear c27b0
            try clear c27b1
            try clear c27b2
            try clear c29
            try clear c29b0
            try clear c29b1
            try clear c29b2
            try clear c30
            try clear c30b0
            try clear c30b1
            try clear c30b2
            try clear c31
            try clear c31b0
            try clear c33
            try clear c33b0
            try clear c33b1
            try clear c33b2
            try clear c34
            try clear c34b0
            try clear c34b1
            try clear c34b2
            try clear c39
            try clear c40
            try clear c40b0
            try clear c41
            try clear c41b0
            try clear c43
            try clear c43b0
            try clear c43b1
            try clear c44
            try clear c44b0
            try clear c44b1
            try clear c44b2
            try clear hcz10_0
            try clear hcz10_1
            try clear hcz10_2
            try clear hcz10_3
            try clear hcz10_4
            try clear hcz10_5
            try clear hcz14_0
            try clear hcz14_1
            try clear hcz14_2
            try clear hcz14_3
            try clear hcz14_4
            try clear hcz14_5
            try clear hcz18_0
            try clear hcz18_1
            try clear hcz18_2
            try clear hcz18_3
            try clear hcz18_4
            try clear hcz18_5
            try clear hcz22_0
            try clear hcz22_1
            try clear hcz22_2
            try clear hcz22_3
            try clear hcz22_4
            try clear hcz22_5
            try clear hcz6_0
            try clear hcz6_1
            try clear hcz6_2
            try clear hcz6_3
            try clear hcz6_4
            try clear hcz6_5
            try clear hfz10_0
            try clear hfz10_1
            try clear hfz10_2
            try clear hfz10_3
            try clear hfz10_4
            try clear hfz10_5
            try clear hfz14_0
            try clear hfz14_1
            try clear hfz14_2
            try clear hfz14_3
            try clear hfz14_4
            try clear hfz14_5
            try clear hfz18_0
            try clear hfz18_1
            try clear hfz18_2
            try clear hfz18_3
            try clear hfz18_4
            try clear hfz18_5
            try clear hfz22_0
            try clear hfz22_1
            try clear hfz22_2
            try clear hfz22_3
            try clear hfz22_4
            try clear hfz22_5
            try clear hfz6_0
            try clear hfz6_1
            try clear hfz6_2
            try clear hfz6_3
            try clear hfz6_4
            try clear hfz6_5
            try clear hx235_0
            try clear hx237_0
            try clear hx237_1
            try clear hx237_2
            try clear hx238_0
            try clear hx238_1
            try clear hx238_2
            try clear p2
            try clear p23
            try clear p235
            try clear p237
            try clear p238
            try clear p6
            try clear q2
            try clear q23
            try clear q235
            try clear q237
            try clear q238
            obtain ⟨x11_5, x12_5, rfl, rfl, HA, HK5, HO_7, HO_8, BK225, HB⟩ := hrel
            cases gk with
            | zero => exact absurd HA.out (by simp [ya3.l2])
            | succ k5 =>
             have H := HA.out
             clear HA
             simp only [ya3.l2] at H
             by_cases c45 : x12_5 < (t231.length : Int)
             ·rw [if_pos c45] at H
              have c45b0 : decide (x12_5 < (t231.length : Int)) = true := decide_eq_true c45
              clear c45
              by_cases c46 : 0 ≤ x12_5
              rotate_left 1
              ·rw [if_neg c46] at H
               exact absurd H (by simp)
              rw [if_pos c46] at H
              have c46b0 : decide (0 ≤ x12_5) = true := decide_eq_true c46
              clear c46
              by_cases c47 : 0 ≤ x10_3
              rotate_left 1
              ·rw [if_neg c47] at H
               exact absurd H (by simp)
              rw [if_pos c47] at H
              have c47b0 : decide (0 ≤ x10_3) = true := decide_eq_true c47
              clear c47
              by_cases c48 : x10_3 < (t228.length : Int)
              rotate_left 1
              ·rw [if_neg c48] at H
               exact absurd H (by simp)
              rw [if_pos c48] at H
              have c48b0 : decide (x10_3 < (t228.length : Int)) = true := decide_eq_true c48
              clear c48
              by_cases c49 : (rdOf ByteArray.empty t231 x12_5).toList = ((rdAt t228 x10_3).f0.f0).toList
              ·rw [if_pos c49] at H
               have c49b0 : ((rdOf ByteArray.empty t231 x12_5).toList == ((rdAt t228 x10_3).f0.f0).toList) = true := beq_iff_eq.mpr c49
               have c49b1 : ((rdOf ByteArray.empty t231 x12_5).toList != ((rdAt t228 x10_3).f0.f0).toList) = false := bne_eq_false_iff_eq.mpr c49
               clear c49
               replace H := Option.bind_eq_some_iff.mp H
               obtain ⟨t241, A500, H⟩ := H
               replace H : (if 1 + t241.size ≤ 9223372036854775807 then (if ((⟨#[110]⟩ : ByteArray) ++ t241).size + 1 ≤ 9223372036854775807 then (if (((⟨#[110]⟩ : ByteArray) ++ t241) ++ (⟨#[58]⟩ : ByteArray)).size + x11_5.size ≤ 9223372036854775807 then (ya3.l2 k5 x1_7 x5_7 x6_3 t228 t231 x10_3 ((((⟨#[110]⟩ : ByteArray) ++ t241) ++ (⟨#[58]⟩ : ByteArray)) ++ x11_5) (wrap64 (x12_5 + 1)) a0_0 a0_1 a0_2 l0_3 l0_4 a0_5) else (none)) else (none)) else (none)) = some r := H
               have A50 := Aside0.mk A500
               clear A500
               by_cases c51 : 1 + t241.size ≤ 9223372036854775807
               rotate_left 1
               ·rw [if_neg c51] at H
                exact absurd H (by simp)
               rw [if_pos c51] at H
               have c51b0 := eq_true c51
               have c51b1 : decide (1 + t241.size ≤ 9223372036854775807) = true := decide_eq_true c51
               try have c51b2 : (9223372036854775807 < 1 + t241.size) = False := eq_false (Nat.not_lt.2 c51)
               by_cases c52 : ((⟨#[110]⟩ : ByteArray) ++ t241).size + 1 ≤ 9223372036854775807
               rotate_left 1
               ·rw [if_neg c52] at H
                exact absurd H (by simp)
               rw [if_pos c52] at H
               have c52b0 := eq_true c52
               have c52b1 : decide (((⟨#[110]⟩ : ByteArray) ++ t241).size + 1 ≤ 9223372036854775807) = true := decide_eq_true c52
               try have c52b2 : (9223372036854775807 < ((⟨#[110]⟩ : ByteArray) ++ t241).size + 1) = False := eq_false (Nat.not_lt.2 c52)
               try have c52b5 : (9223372036854775807 < 1 + t241.size + 1) = False := eq_false (Nat.not_lt.2 (by have h_ := c52; simp only [ByteArray.size_append] at h_; exact h_))
               by_cases c53 : (((⟨#[110]⟩ : ByteArray) ++ t241) ++ (⟨#[58]⟩ : ByteArray)).size + x11_5.size ≤ 9223372036854775807
               rotate_left 1
               ·rw [if_neg c53] at H
                exact absurd H (by simp)
               rw [if_pos c53] at H
               have c53b0 := eq_true c53
               have c53b1 : decide ((((⟨#[110]⟩ : ByteArray) ++ t241) ++ (⟨#[58]⟩ : ByteArray)).size + x11_5.size ≤ 9223372036854775807) = true := decide_eq_true c53
               try have c53b2 : (9223372036854775807 < (((⟨#[110]⟩ : ByteArray) ++ t241) ++ (⟨#[58]⟩ : ByteArray)).size + x11_5.size) = False := eq_false (Nat.not_lt.2 c53)
               try have c53b5 : (9223372036854775807 < 1 + t241.size + 1 + x11_5.size) = False := eq_false (Nat.not_lt.2 (by have h_ := c53; simp only [ByteArray.size_append] at h_; exact h_))
               have H' := Aside0.mk H
               clear H
               try go_wp2
               have n0_ := Aside0.mk (Kd.R_drew HO_7.out)
               have n1_ := Aside0.mk (Kd.R_drew HO_8.out)
               have n2_ := Aside0.mk (ya9 BK225.out)
               have n3_ := Aside0.mk (ya1 HB.out)
               clear HO_7
               clear HO_8
               clear BK225
               clear HB
               have HO_7 := n0_
               have HO_8 := n1_
               have BK225 := n2_
               have HB := n3_
               clear n0_ n1_ n2_ n3_
               have p239 : 0 ≤ (x12_5 : Int) := of_decide_eq_true (by first | (with_reducible assumption) | assumption)
               have q239 : x12_5 < (t231.length : Int) := of_decide_eq_true (by first | (with_reducible assumption) | assumption)
               obtain ⟨ad239, e239, hx239_0⟩ := Kd.yl8 (Kd.yd6 HO_8.out).2.2 x12_5 p239 q239
               cases e239
               replace p239 := eq_true p239
               replace q239 := eq_true q239
               have p240 : 0 ≤ (x10_3 : Int) := of_decide_eq_true (by first | (with_reducible assumption) | assumption)
               have q240 : x10_3 < (t228.length : Int) := of_decide_eq_true (by first | (with_reducible assumption) | assumption)
               obtain ⟨ad240, e240, hx240_0, hx240_1, hx240_2⟩ := atAt (Kd.yd6 HO_7.out).2.2 x10_3 p240 q240
               obtain rfl : ad237 = ad240 := (by injection e240)
               replace p240 := eq_true p240
               replace q240 := eq_true q240
               refine start_ (n := 11) (S := fun w' => w'.cell? (ad239.add (x12_5).toNat) = some (.string (rdOf ByteArray.empty t231 x12_5)) ∧ w'.cell? (ad237.add ((x10_3).toNat * 3)) = some (.string ((rdAt t228 x10_3).f0.f0)) ∧ w'.cell? ⟨(ad237.add ((x10_3).toNat * 3)).block, (ad237.add ((x10_3).toNat * 3)).off + 1, none⟩ = some (.string ((rdAt t228 x10_3).f0.f1)) ∧ w'.cell? ⟨(ad237.add ((x10_3).toNat * 3)).block, (ad237.add ((x10_3).toNat * 3)).off + 2, none⟩ = some (.string ((rdAt t228 x10_3).f1))) (ds := []) #[false, false, false, false, false, false, false, false, false, false, false] (by kernel_rfl) rfl rfl ⟨hx239_0, hx240_0, hx240_1, hx240_2⟩ (fun hHeld => ?_); refine yk4 ya3.tab25 ya3.bits25 (fun HT_ HW_ => ?_)
               generalize wr.drew = w54 at HO_7 HO_8 BK225 HB hx239_0 hx240_0 hx240_1 hx240_2 hHeld ⊢
               refine pure_ (i := 0) (N := some 94) (v := ?_) (a' := ?_) #[true, false, false, false, false, false, false, false, false, false, false] rfl rfl (any_of HT_.out (by kernel_rfl)) (fun _ _ _ h => h) (Or.inl ⟨by rfl, ?_⟩) ?_ ?_
               rotate_left
               ·intro w'
                go_simp
                with_reducible rfl
               rotate_left
               ·simp only [Act.put, zA, zB, zC, i64_w, i32_w]
                rfl
               refine pure_ (i := 1) (N := some 95) (v := ?_) (a' := ?_) #[true, true, false, false, false, false, false, false, false, false, false] rfl rfl (any_of HT_.out (by kernel_rfl)) (fun _ _ _ h => h) (Or.inl ⟨by rfl, ?_⟩) ?_ ?_
               rotate_left
               ·intro w'
                go_simp
                with_reducible rfl
               rotate_left
               ·simp only [Act.put, zA, zB, zC, i64_w, i32_w]
                rfl
               refine pure_ (i := 2) (N := some 96) (v := ?_) (a' := ?_) #[true, true, true, false, false, false, false, false, false, false, false] rfl rfl (any_of HT_.out (by kernel_rfl)) (fun _ _ _ h => h) (Or.inl ⟨by rfl, ?_⟩) ?_ ?_
               rotate_left
               ·intro w'
                go_simp
                with_reducible rfl
               rotate_left
               ·simp only [Act.put, zA, zB, zC, i64_w, i32_w]
                rfl
               refine pure_ (i := 4) (N := some 98) (v := ?_) (a' := ?_) #[true, true, true, false, true, false, false, false, false, false, false] rfl rfl (any_of HT_.out (by kernel_rfl)) (fun _ _ _ h => h) (Or.inl ⟨by rfl, ?_⟩) ?_ ?_
               rotate_left
               ·intro w'
                go_simp
                with_reducible rfl
               rotate_left
               ·simp only [Act.put, zA, zB, zC, i64_w, i32_w]
                rfl
               refine pure_ (i := 5) (N := some 99) (v := ?_) (a' := ?_) #[true, true, true, false, true, true, false, false, false, false, false] rfl rfl (any_of HT_.out (by kernel_rfl)) (fun _ _ _ h => h) (Or.inl ⟨by rfl, ?_⟩) ?_ ?_
               rotate_left
               ·intro w'
                go_simp
                with_reducible rfl
               rotate_left
               ·simp only [Act.put, zA, zB, zC, i64_w, i32_w]
                rfl
               refine pure_ (i := 6) (N := some 100) (v := ?_) (a' := ?_) #[true, true, true, false, true, true, true, false, false, false, false] rfl rfl (any_of HT_.out (by kernel_rfl)) (fun _ _ _ h => h) (Or.inl ⟨by rfl, ?_⟩) ?_ ?_
               rotate_left
               ·intro w'
                go_simp
                with_reducible rfl
               rotate_left
               ·simp only [Act.put, zA, zB, zC, i64_w, i32_w]
                rfl
               refine pure_ (i := 7) (N := some 101) (v := ?_) (a' := ?_) #[true, true, true, false, true, true, true, true, false, false, false] rfl rfl (any_of HT_.out (by kernel_rfl)) (fun _ _ _ h => h) (Or.inl ⟨by rfl, ?_⟩) ?_ ?_
               rotate_left
               ·intro w'
                go_simp
                with_reducible rfl
               rotate_left
               ·simp only [Act.put, zA, zB, zC, i64_w, i32_w]
                rfl
               refine pure_ (i := 8) (N := some 102) (v := ?_) (a' := ?_) #[true, true, true, false, true, true, true, true, true, false, false] rfl rfl (any_of HT_.out (by kernel_rfl)) (fun _ _ _ h => h) (Or.inl ⟨by rfl, ?_⟩) ?_ ?_
               rotate_left
               ·intro w'
                go_simp
                with_reducible rfl
               rotate_left
               ·simp only [Act.put, zA, zB, zC, i64_w, i32_w]
                rfl
               refine take_ (i := 3) (N := some 97) (v := ?_) (a' := ?_) #[true, true, true, true, true, true, true, true, true, false, false] rfl rfl (yj1 HT_.out HW_.out (by kernel_rfl)) (fun _ _ _ h => h) (Or.inl ⟨by rfl, ?_⟩) hHeld ?_ ?_
               rotate_left
               ·rintro w' ⟨s0, s1, s2, s3⟩
                go_simp
                with_reducible rfl
               rotate_left
               ·simp only [Act.put, zA, zB, zC, i64_w, i32_w]
                rfl
               refine take_ (i := 9) (N := some 103) (v := ?_) (a' := ?_) #[true, true, true, true, true, true, true, true, true, true, false] rfl rfl (yj1 HT_.out HW_.out (by kernel_rfl)) (fun _ _ _ h => h) (Or.inl ⟨by rfl, ?_⟩) hHeld ?_ ?_
               rotate_left
               ·rintro w' ⟨s0, s1, s2, s3⟩
                go_simp
                with_reducible rfl
               rotate_left
               ·simp only [Act.put, zA, zB, zC, i64_w, i32_w]
                rfl
               refine pure_ (i := 10) (N := some 104) (v := ?_) (a' := ?_) #[true, true, true, true, true, true, true, true, true, true, true] rfl rfl (any_of HT_.out (by kernel_rfl)) (fun _ _ _ h => h) (Or.inl ⟨by rfl, ?_⟩) ?_ ?_
               rotate_left
               ·intro w'
                go_simp
                with_reducible rfl
               rotate_left
               ·simp only [Act.put, zA, zB, zC, i64_w, i32_w]
                rfl
               refine done_ (yo6 HT_.out (by kernel_rfl)) ?_
               try go_wp2_with (first | ((with_reducible refine yc6 (f := 74) rfl ?_); refine goesL_ (some 107) rfl rfl Tryd.func74 (by kernel_rfl) rfl #[.int .i64 (wrap64 (x12_5 + 1))] rfl (by (try simp only [List.map_toArray, List.map_cons, List.map_nil]); first | done | rfl | (simp only [List.length_drop, List.length_take]; rfl) | (simp only [ByteArray.size_extract]; rfl)) ?_; (with_reducible refine (ye2.calls (wrap64 (x12_5 + 1)) t241 _ A50.out).mono ?_); rintro e w55 ⟨rfl, hb⟩; refine ⟨_, rfl, ?_⟩; have n0_ := Aside0.mk (Kd.yh4 (by (with_reducible repeat (first | apply Kd.yc7 | apply Kd.R_drewN | apply Kd.R_drew)); exact HO_7.out) hb); have n1_ := Aside0.mk (Kd.yh4 (by (with_reducible repeat (first | apply Kd.yc7 | apply Kd.R_drewN | apply Kd.R_drew)); exact HO_8.out) hb); have n2_ := Aside0.mk (yb9 (g := gb225) (o := .cells #[.int .i64 a0_0, .string a0_1, .string a0_2, .slice A0_3 l0_3.length c0_3, .slice A0_4 l0_4.length c0_4, .string a0_5] 27 (0, 0)) (by (with_reducible repeat (first | refine ya8 ?_ _ | refine ya9 ?_ | refine blk_alloc ?_ _)); exact BK225.out) hb); have n3_ := Aside0.mk (ya7 (by repeat (first | (with_reducible first | exact HB.out | apply ya2 | apply ya0 | apply ya1 | refine ya6 ?_ GE225.out) | exact HB.out)) hb); clear HO_7; clear HO_8; clear BK225; clear HB; have HO_7 := n0_; have HO_8 := n1_; have BK225 := n2_; have HB := n3_; clear n0_ n1_ n2_ n3_; (try clear hb); (try clear hb2); (try clear hk); (try clear hi)))
               go_roundg k5
               case measure => have := HJ7.out; have := HK2.out; have := HK3.out; have := HJ41.out; have := HK5.out; omega
               case rel => exact ⟨((((⟨#[110]⟩ : ByteArray) ++ t241) ++ (⟨#[58]⟩ : ByteArray)) ++ x11_5), (wrap64 (x12_5 + 1)), (by first | rfl | (simp; done) | (simp [*]; done)), (by first | rfl | (simp; done) | (simp [*]; done)), H', ⟨by have := HJ7.out; have := HK2.out; have := HK3.out; have := HJ41.out; have := HK5.out; omega⟩, ⟨by (with_reducible repeat (first | apply Kd.yc7 | apply Kd.R_drewN | apply Kd.R_drew)); exact HO_7.out⟩, ⟨by (with_reducible repeat (first | apply Kd.yc7 | apply Kd.R_drewN | apply Kd.R_drew)); exact HO_8.out⟩, ⟨by (with_reducible repeat (first | refine ya8 ?_ _ | refine ya9 ?_ | refine blk_alloc ?_ _)); exact BK225.out⟩, ⟨by repeat (first | (with_reducible first | exact HB.out | apply ya2 | apply ya0 | apply ya1 | refine ya6 ?_ GE225.out) | exact HB.out)⟩⟩
              ·rw [if_neg c49] at H
               have c49b0 : ((rdOf ByteArray.empty t231 x12_5).toList == ((rdAt t228 x10_3).f0.f0).toList) = false := beq_eq_false_iff_ne.mpr c49
               have c49b1 : ((rdOf ByteArray.empty t231 x12_5).toList != ((rdAt t228 x10_3).f0.f0).toList) = true := bne_iff_ne.mpr c49
               have H' := Aside0.mk H
               clear H
               try go_wp2
               have n0_ := Aside0.mk (Kd.R_drew HO_7.out)
               have n1_ := Aside0.mk (Kd.R_drew HO_8.out)
               have n2_ := Aside0.mk (ya9 BK225.out)
               have n3_ := Aside0.mk (ya1 HB.out)
               clear HO_7
               clear HO_8
               clear BK225
               clear HB
               have HO_7 := n0_
               have HO_8 := n1_
               have BK225 := n2_
               have HB := n3_
               clear n0_ n1_ n2_ n3_
               have p239 : 0 ≤ (x12_5 : Int) := of_decide_eq_true (by first | (with_reducible assumption) | assumption)
               have q239 : x12_5 < (t231.length : Int) := of_decide_eq_true (by first | (with_reducible assumption) | assumption)
               obtain ⟨ad239, e239, hx239_0⟩ := Kd.yl8 (Kd.yd6 HO_8.out).2.2 x12_5 p239 q239
               cases e239
               replace p239 := eq_true p239
               replace q239 := eq_true q239
               have p240 : 0 ≤ (x10_3 : Int) := of_decide_eq_true (by first | (with_reducible assumption) | assumption)
               have q240 : x10_3 < (t228.length : Int) := of_decide_eq_true (by first | (with_reducible assumption) | assumption)
               obtain ⟨ad240, e240, hx240_0, hx240_1, hx240_2⟩ := atAt (Kd.yd6 HO_7.out).2.2 x10_3 p240 q240
               obtain rfl : ad237 = ad240 := (by injection e240)
               replace p240 := eq_true p240
               replace q240 := eq_true q240
               refine start_ (n := 11) (S := fun w' => w'.cell? (ad239.add (x12_5).toNat) = some (.string (rdOf ByteArray.empty t231 x12_5)) ∧ w'.cell? (ad237.add ((x10_3).toNat * 3)) = some (.string ((rdAt t228 x10_3).f0.f0)) ∧ w'.cell? ⟨(ad237.add ((x10_3).toNat * 3)).block, (ad237.add ((x10_3).toNat * 3)).off + 1, none⟩ = some (.string ((rdAt t228 x10_3).f0.f1)) ∧ w'.cell? ⟨(ad237.add ((x10_3).toNat * 3)).block, (ad237.add ((x10_3).toNat * 3)).off + 2, none⟩ = some (.string ((rdAt t228 x10_3).f1))) (ds := []) #[false, false, false, false, false, false, false, false, false, false, false] (by kernel_rfl) rfl rfl ⟨hx239_0, hx240_0, hx240_1, hx240_2⟩ (fun hHeld => ?_); refine yk4 ya3.tab25 ya3.bits25 (fun HT_ HW_ => ?_)
               generalize wr.drew = w56 at HO_7 HO_8 BK225 HB hx239_0 hx240_0 hx240_1 hx240_2 hHeld ⊢
               refine pure_ (i := 0) (N := some 94) (v := ?_) (a' := ?_) #[true, false, false, false, false, false, false, false, false, false, false] rfl rfl (any_of HT_.out (by kernel_rfl)) (fun _ _ _ h => h) (Or.inl ⟨by rfl, ?_⟩) ?_ ?_
               rotate_left
               ·intro w'
                go_simp
                with_reducible rfl
               rotate_left
               ·simp only [Act.put, zA, zB, zC, i64_w, i32_w]
                rfl
               refine pure_ (i := 1) (N := some 95) (v := ?_) (a' := ?_) #[true, true, false, false, false, false, false, false, false, false, false] rfl rfl (any_of HT_.out (by kernel_rfl)) (fun _ _ _ h => h) (Or.inl ⟨by rfl, ?_⟩) ?_ ?_
               rotate_left
               ·intro w'
                go_simp
                with_reducible rfl
               rotate_left
               ·simp only [Act.put, zA, zB, zC, i64_w, i32_w]
                rfl
               refine pure_ (i := 2) (N := some 96) (v := ?_) (a' := ?_) #[true, true, true, false, false, false, false, false, false, false, false] rfl rfl (any_of HT_.out (by kernel_rfl)) (fun _ _ _ h => h) (Or.inl ⟨by rfl, ?_⟩) ?_ ?_
               rotate_left
               ·intro w'
                go_simp
                with_reducible rfl
               rotate_left
               ·simp only [Act.put, zA, zB, zC, i64_w, i32_w]
                rfl
               refine pure_ (i := 4) (N := some 98) (v := ?_) (a' := ?_) #[true, true, true, false, true, false, false, false, false, false, false] rfl rfl (any_of HT_.out (by kernel_rfl)) (fun _ _ _ h => h) (Or.inl ⟨by rfl, ?_⟩) ?_ ?_
               rotate_left
               ·intro w'
                go_simp
                with_reducible rfl
               rotate_left
               ·simp only [Act.put, zA, zB, zC, i64_w, i32_w]
                rfl
               refine pure_ (i := 5) (N := some 99) (v := ?_) (a' := ?_) #[true, true, true, false, true, true, false, false, false, false, false] rfl rfl (any_of HT_.out (by kernel_rfl)) (fun _ _ _ h => h) (Or.inl ⟨by rfl, ?_⟩) ?_ ?_
               rotate_left
               ·intro w'
                go_simp
                with_reducible rfl
               rotate_left
               ·simp only [Act.put, zA, zB, zC, i64_w, i32_w]
                rfl
               refine pure_ (i := 6) (N := some 100) (v := ?_) (a' := ?_) #[true, true, true, false, true, true, true, false, false, false, false] rfl rfl (any_of HT_.out (by kernel_rfl)) (fun _ _ _ h => h) (Or.inl ⟨by rfl, ?_⟩) ?_ ?_
               rotate_left
               ·intro w'
                go_simp
                with_reducible rfl
               rotate_left
               ·simp only [Act.put, zA, zB, zC, i64_w, i32_w]
                rfl
               refine pure_ (i := 7) (N := some 101) (v := ?_) (a' := ?_) #[true, true, true, false, true, true, true, true, false, false, false] rfl rfl (any_of HT_.out (by kernel_rfl)) (fun _ _ _ h => h) (Or.inl ⟨by rfl, ?_⟩) ?_ ?_
               rotate_left
               ·intro w'
                go_simp
                with_reducible rfl
               rotate_left
               ·simp only [Act.put, zA, zB, zC, i64_w, i32_w]
                rfl
               refine pure_ (i := 8) (N := some 102) (v := ?_) (a' := ?_) #[true, true, true, false, true, true, true, true, true, false, false] rfl rfl (any_of HT_.out (by kernel_rfl)) (fun _ _ _ h => h) (Or.inl ⟨by rfl, ?_⟩) ?_ ?_
               rotate_left
               ·intro w'
                go_simp
                with_reducible rfl
               rotate_left
               ·simp only [Act.put, zA, zB, zC, i64_w, i32_w]
                rfl
               refine take_ (i := 3) (N := some 97) (v := ?_) (a' := ?_) #[true, true, true, true, true, true, true, true, true, false, false] rfl rfl (yj1 HT_.out HW_.out (by kernel_rfl)) (fun _ _ _ h => h) (Or.inl ⟨by rfl, ?_⟩) hHeld ?_ ?_
               rotate_left
               ·rintro w' ⟨s0, s1, s2, s3⟩
                go_simp
                with_reducible rfl
               rotate_left
               ·simp only [Act.put, zA, zB, zC, i64_w, i32_w]
                rfl
               refine take_ (i := 9) (N := some 103) (v := ?_) (a' := ?_) #[true, true, true, true, true, true, true, true, true, true, false] rfl rfl (yj1 HT_.out HW_.out (by kernel_rfl)) (fun _ _ _ h => h) (Or.inl ⟨by rfl, ?_⟩) hHeld ?_ ?_
               rotate_left
               ·rintro w' ⟨s0, s1, s2, s3⟩
                go_simp
                with_reducible rfl
               rotate_left
               ·simp only [Act.put, zA, zB, zC, i64_w, i32_w]
                rfl
               refine pure_ (i := 10) (N := some 104) (v := ?_) (a' := ?_) #[true, true, true, true, true, true, true, true, true, true, true] rfl rfl (any_of HT_.out (by kernel_rfl)) (fun _ _ _ h => h) (Or.inl ⟨by rfl, ?_⟩) ?_ ?_
               rotate_left
               ·intro w'
                go_simp
                with_reducible rfl
               rotate_left
               ·simp only [Act.put, zA, zB, zC, i64_w, i32_w]
                rfl
               refine done_ (yo6 HT_.out (by kernel_rfl)) ?_
               try go_wp2
               go_roundg k5
               case measure => have := HJ7.out; have := HK2.out; have := HK3.out; have := HJ41.out; have := HK5.out; omega
               case rel => exact ⟨(x11_5), (wrap64 (x12_5 + 1)), (by first | rfl | (simp; done) | (simp [*]; done)), (by first | rfl | (simp; done) | (simp [*]; done)), H', ⟨by have := HJ7.out; have := HK2.out; have := HK3.out; have := HJ41.out; have := HK5.out; omega⟩, ⟨by (with_reducible repeat (first | apply Kd.yc7 | apply Kd.R_drewN | apply Kd.R_drew)); exact HO_7.out⟩, ⟨by (with_reducible repeat (first | apply Kd.yc7 | apply Kd.R_drewN | apply Kd.R_drew)); exact HO_8.out⟩, ⟨by (with_reducible repeat (first | refine ya8 ?_ _ | refine ya9 ?_ | refine blk_alloc ?_ _)); exact BK225.out⟩, ⟨by repeat (first | (with_reducible first | exact HB.out | apply ya2 | apply ya0 | apply ya1 | refine ya6 ?_ GE225.out) | exact HB.out)⟩⟩
             ·rw [if_neg c45] at H
              have c45b0 : decide (x12_5 < (t231.length : Int)) = false := decide_eq_false c45
              clear c45
              by_cases c57 : x6_3.size + 1 ≤ 9223372036854775807
              rotate_left 1
              ·rw [if_neg c57] at H
               exact absurd H (by simp)
              rw [if_pos c57] at H
              have c57b0 := eq_true c57
              have c57b1 : decide (x6_3.size + 1 ≤ 9223372036854775807) = true := decide_eq_true c57
              try have c57b2 : (9223372036854775807 < x6_3.size + 1) = False := eq_false (Nat.not_lt.2 c57)
              by_cases c58 : (x6_3 ++ (⟨#[32]⟩ : ByteArray)).size + x11_5.size ≤ 9223372036854775807
              rotate_left 1
              ·rw [if_neg c58] at H
               exact absurd H (by simp)
              rw [if_pos c58] at H
              have c58b0 := eq_true c58
              have c58b1 : decide ((x6_3 ++ (⟨#[32]⟩ : ByteArray)).size + x11_5.size ≤ 9223372036854775807) = true := decide_eq_true c58
              try have c58b2 : (9223372036854775807 < (x6_3 ++ (⟨#[32]⟩ : ByteArray)).size + x11_5.size) = False := eq_false (Nat.not_lt.2 c58)
              try have c58b5 : (9223372036854775807 < x6_3.size + 1 + x11_5.size) = False := eq_false (Nat.not_lt.2 (by have h_ := c58; simp only [ByteArray.size_append] at h_; exact h_))
              by_cases c59 : ((x6_3 ++ (⟨#[32]⟩ : ByteArray)) ++ x11_5).size + 2 ≤ 9223372036854775807
              rotate_left 1
              ·rw [if_neg c59] at H
               exact absurd H (by simp)
              rw [if_pos c59] at H
              have c59b0 := eq_true c59
              have c59b1 : decide (((x6_3 ++ (⟨#[32]⟩ : ByteArray)) ++ x11_5).size + 2 ≤ 9223372036854775807) = true := decide_eq_true c59
              try have c59b2 : (9223372036854775807 < ((x6_3 ++ (⟨#[32]⟩ : ByteArray)) ++ x11_5).size + 2) = False := eq_false (Nat.not_lt.2 c59)
              try have c59b5 : (9223372036854775807 < x6_3.size + 1 + x11_5.size + 2) = False := eq_false (Nat.not_lt.2 (by have h_ := c59; simp only [ByteArray.size_append] at h_; exact h_))
              by_cases c60 : 0 ≤ x10_3
              rotate_left 1
              ·rw [if_neg c60] at H
               exact absurd H (by simp)
              rw [if_pos c60] at H
              have c60b0 : decide (0 ≤ x10_3) = true := decide_eq_true c60
              clear c60
              by_cases c61 : x10_3 < (t228.length : Int)
              rotate_left 1
              ·rw [if_neg c61] at H
               exact absurd H (by simp)
              rw [if_pos c61] at H
              have c61b0 : decide (x10_3 < (t228.length : Int)) = true := decide_eq_true c61
              clear c61
              replace H := Option.bind_eq_some_iff.mp H
              obtain ⟨t243, A620, H⟩ := H
              replace H : (if (((x6_3 ++ (⟨#[32]⟩ : ByteArray)) ++ x11_5) ++ (⟨#[61, 34]⟩ : ByteArray)).size + t243.size ≤ 9223372036854775807 then (if ((((x6_3 ++ (⟨#[32]⟩ : ByteArray)) ++ x11_5) ++ (⟨#[61, 34]⟩ : ByteArray)) ++ t243).size + 1 ≤ 9223372036854775807 then (ya3.l1 k5 x1_7 x5_7 (((((x6_3 ++ (⟨#[32]⟩ : ByteArray)) ++ x11_5) ++ (⟨#[61, 34]⟩ : ByteArray)) ++ t243) ++ (⟨#[34]⟩ : ByteArray)) t228 t231 (wrap64 (x10_3 + 1)) a0_0 a0_1 a0_2 l0_3 l0_4 a0_5) else (none)) else (none)) = some r := H
              have A62 := Aside0.mk A620
              clear A620
              by_cases c63 : (((x6_3 ++ (⟨#[32]⟩ : ByteArray)) ++ x11_5) ++ (⟨#[61, 34]⟩ : ByteArray)).size + t243.size ≤ 9223372036854775807
              rotate_left 1
              ·rw [if_neg c63] at H
               exact absurd H (by simp)
              rw [if_pos c63] at H
              have c63b0 := eq_true c63
              have c63b1 : decide ((((x6_3 ++ (⟨#[32]⟩ : ByteArray)) ++ x11_5) ++ (⟨#[61, 34]⟩ : ByteArray)).size + t243.size ≤ 9223372036854775807) = true := decide_eq_true c63
              try have c63b2 : (9223372036854775807 < (((x6_3 ++ (⟨#[32]⟩ : ByteArray)) ++ x11_5) ++ (⟨#[61, 34]⟩ : ByteArray)).size + t243.size) = False := eq_false (Nat.not_lt.2 c63)
              try have c63b5 : (9223372036854775807 < x6_3.size + 1 + x11_5.size + 2 + t243.size) = False := eq_false (Nat.not_lt.2 (by have h_ := c63; simp only [ByteArray.size_append] at h_; exact h_))
              by_cases c64 : ((((x6_3 ++ (⟨#[32]⟩ : ByteArray)) ++ x11_5) ++ (⟨#[61, 34]⟩ : ByteArray)) ++ t243).size + 1 ≤ 9223372036854775807
              rotate_left 1
              ·rw [if_neg c64] at H
               exact absurd H (by simp)
              rw [if_pos c64] at H
              have c64b0 := eq_true c64
              have c64b1 : decide (((((x6_3 ++ (⟨#[32]⟩ : ByteArray)) ++ x11_5) ++ (⟨#[61, 34]⟩ : ByteArray)) ++ t243).size + 1 ≤ 9223372036854775807) = true := decide_eq_true c64
              try have c64b2 : (9223372036854775807 < ((((x6_3 ++ (⟨#[32]⟩ : ByteArray)) ++ x11_5) ++ (⟨#[61, 34]⟩ : ByteArray)) ++ t243).size + 1) = False := eq_false (Nat.not_lt.2 c64)
              try have c64b5 : (9223372036854775807 < x6_3.size + 1 + x11_5.size + 2 + t243.size + 1) = False := eq_false (Nat.not_lt.2 (by have h_ := c64; simp only [ByteArray.size_append] at h_; exact h_))
              have H' := Aside0.mk H
              clear H
              have p242 : 0 ≤ (x10_3 : Int) := of_decide_eq_true (by first | (with_reducible assumption) | assumption)
              have q242 : x10_3 < (t228.length : Int) := of_decide_eq_true (by first | (with_reducible assumption) | assumption)
              obtain ⟨ad242, e242, hx242_0, hx242_1, hx242_2⟩ := atAt (Kd.yd6 HO_7.out).2.2 x10_3 p242 q242
              obtain rfl : ad237 = ad242 := (by injection e242)
              replace p242 := eq_true p242
              replace q242 := eq_true q242
              go_wp2_with (first | ((with_reducible refine yc6 (f := 17) rfl ?_); refine goesL_ (some 122) rfl rfl Tryd.func17 (by kernel_rfl) rfl #[.string ((rdAt t228 x10_3).f1), .bool true] rfl (by (try simp only [List.map_toArray, List.map_cons, List.map_nil]); first | done | rfl | (simp only [List.length_drop, List.length_take]; rfl) | (simp only [ByteArray.size_extract]; rfl)) ?_; (with_reducible refine (ya5.calls k5 ((rdAt t228 x10_3).f1) true t243 _ A62.out).mono ?_); rintro e w65 ⟨rfl, hb⟩; refine ⟨_, rfl, ?_⟩; have n0_ := Aside0.mk (Kd.yh4 (by (with_reducible repeat (first | apply Kd.yc7 | apply Kd.R_drewN | apply Kd.R_drew)); exact HO_7.out) hb); have n1_ := Aside0.mk (Kd.yh4 (by (with_reducible repeat (first | apply Kd.yc7 | apply Kd.R_drewN | apply Kd.R_drew)); exact HO_8.out) hb); have n2_ := Aside0.mk (yb9 (g := gb225) (o := .cells #[.int .i64 a0_0, .string a0_1, .string a0_2, .slice A0_3 l0_3.length c0_3, .slice A0_4 l0_4.length c0_4, .string a0_5] 27 (0, 0)) (by (with_reducible repeat (first | refine ya8 ?_ _ | refine ya9 ?_ | refine blk_alloc ?_ _)); exact BK225.out) hb); have n3_ := Aside0.mk (ya7 (by repeat (first | (with_reducible first | exact HB.out | apply ya2 | apply ya0 | apply ya1 | refine ya6 ?_ GE225.out) | exact HB.out)) hb); clear HO_7; clear HO_8; clear BK225; clear HB; have HO_7 := n0_; have HO_8 := n1_; have BK225 := n2_; have HB := n3_; clear n0_ n1_ n2_ n3_; (try clear hb); (try clear hb2); (try clear hk); (try clear hi)))
              go_roundg k5
              case measure => have := HJ7.out; have := HK2.out; have := HK3.out; have := HJ41.out; have := HK5.out; omega
              case rel => exact ⟨(((((x6_3 ++ (⟨#[32]⟩ : ByteArray)) ++ x11_5) ++ (⟨#[61, 34]⟩ : ByteArray)) ++ t243) ++ (⟨#[34]⟩ : ByteArray)), (wrap64 (x10_3 + 1)), (by first | rfl | (simp; done) | (simp [*]; done)), (by first | rfl | (simp; done) | (simp [*]; done)), H', ⟨by have := HJ7.out; have := HK2.out; have := HK3.out; have := HJ41.out; have := HK5.out; omega⟩, ⟨by (with_reducible repeat (first | apply Kd.yc7 | apply Kd.R_drewN | apply Kd.R_drew)); exact HO_7.out⟩, ⟨by (with_reducible repeat (first | apply Kd.yc7 | apply Kd.R_drewN | apply Kd.R_drew)); exact HO_8.out⟩, ⟨by (with_reducible repeat (first | refine ya8 ?_ _ | refine ya9 ?_ | refine blk_alloc ?_ _)); exact BK225.out⟩, ⟨by repeat (first | (with_reducible first | exact HB.out | apply ya2 | apply ya0 | apply ya1 | refine ya6 ?_ GE225.out) | exact HB.out)⟩⟩
        ·rw [if_neg c40] at H
         have c40b0 : decide (x10_3 < (t228.length : Int)) = false := decide_eq_false c40
         clear c40
         by_cases c66 : (l0_4.length : Int) = 0
         ·rw [if_pos c66] at H
          have c66b0 : ((l0_4.length : Int) == 0) = true := beq_iff_eq.mpr c66
          have c66b1 : ((l0_4.length : Int) != 0) = false := bne_eq_false_iff_eq.mpr c66
          have c66b3 : l0_4 = [] := List.length_eq_zero_iff.1 (by omega)
          clear c66
          by_cases c67 : 1 + x5_7.size ≤ 9223372036854775807
          rotate_left 1
          ·rw [if_neg c67] at H
           exact absurd H (by simp)
          rw [if_pos c67] at H
          have c67b0 := eq_true c67
          have c67b1 : decide (1 + x5_7.size ≤ 9223372036854775807) = true := decide_eq_true c67
          try have c67b2 : (9223372036854775807 < 1 + x5_7.size) = False := eq_false (Nat.not_lt.2 c67)
          by_cases c68 : ((⟨#[60]⟩ : ByteArray) ++ x5_7).size + x6_3.size ≤ 9223372036854775807
          rotate_left 1
          ·rw [if_neg c68] at H
           exact absurd H (by simp)
          rw [if_pos c68] at H
          have c68b0 := eq_true c68
          have c68b1 : decide (((⟨#[60]⟩ : ByteArray) ++ x5_7).size + x6_3.size ≤ 9223372036854775807) = true := decide_eq_true c68
          try have c68b2 : (9223372036854775807 < ((⟨#[60]⟩ : ByteArray) ++ x5_7).size + x6_3.size) = False := eq_false (Nat.not_lt.2 c68)
          try have c68b5 : (9223372036854775807 < 1 + x5_7.size + x6_3.size) = False := eq_false (Nat.not_lt.2 (by have h_ := c68; simp only [ByteArray.size_append] at h_; exact h_))
          by_cases c69 : (((⟨#[60]⟩ : ByteArray) ++ x5_7) ++ x6_3).size + 2 ≤ 9223372036854775807
          rotate_left 1
          ·rw [if_neg c69] at H
           exact absurd H (by simp)
          rw [if_pos c69] at H
          have c69b0 := eq_true c69
          have c69b1 : decide ((((⟨#[60]⟩ : ByteArray) ++ x5_7) ++ x6_3).size + 2 ≤ 9223372036854775807) = true := decide_eq_true c69
          try have c69b2 : (9223372036854775807 < (((⟨#[60]⟩ : ByteArray) ++ x5_7) ++ x6_3).size + 2) = False := eq_false (Nat.not_lt.2 c69)
          try have c69b5 : (9223372036854775807 < 1 + x5_7.size + x6_3.size + 2) = False := eq_false (Nat.not_lt.2 (by have h_ := c69; simp only [ByteArray.size_append] at h_; exact h_))
          obtain rfl := Option.some.inj H
          obtain ⟨hcz70_0, hcz70_1, hcz70_2, hcz70_3, hcz70_4, hcz70_5, hfz70_0, hfz70_1, hfz70_2, hfz70_3, hfz70_4, hfz70_5⟩ := bx6 BK225.out
          go_wp2
          go_ret
          exact ⟨by first | rfl | (simp [yb3, yb2] <;> rfl) | (simp [*, yb3, yb2] <;> rfl), by repeat (first | (with_reducible first | exact HB.out | apply ya2 | apply ya0 | apply ya1 | refine ya6 ?_ GE225.out) | exact HB.out)⟩
         ·rw [if_neg c66] at H
          have c66b0 : ((l0_4.length : Int) == 0) = false := beq_eq_false_iff_ne.mpr c66
          have c66b1 : ((l0_4.length : Int) != 0) = true := bne_iff_ne.mpr c66
          have c66b2 : ¬ (l0_4 = []) := fun h_ => c66 (by rw [h_]; rfl)
          have H' := Aside0.mk H
          clear H
          obtain ⟨hcz71_0, hcz71_1, hcz71_2, hcz71_3, hcz71_4, hcz71_5, hfz71_0, hfz71_1, hfz71_2, hfz71_3, hfz71_4, hfz71_5⟩ := bx6 BK225.out
          go_wp2
          go_loopg [13, 14] k3 (fun kq v13 v14 w' => ∃ (x13_4 : ByteArray) (x14_4 : Int), v13 = .string x13_4 ∧ v14 = .int .i64 x14_4 ∧ Aside0 (ya3.l3 kq x1_7 x5_7 x6_3 x13_4 x14_4 a0_0 a0_1 a0_2 l0_3 l0_4 a0_5 = some r) ∧ Aside0 (kq ≤ k3) ∧ Aside0 (w'.heap[gb225]? = some (.cells #[.int .i64 a0_0, .string a0_1, .string a0_2, (.slice A0_3 l0_3.length c0_3), (.slice A0_4 l0_4.length c0_4), .string a0_5] 27 (0, 0))) ∧ Aside0 (Below w.heap.size w w'))
          case atStart => exact ⟨((⟨#[]⟩ : ByteArray)), (0), (by first | rfl | (simp; done) | (simp [*]; done)), (by first | rfl | (simp; done) | (simp [*]; done)), H', ⟨Nat.le_refl _⟩, ⟨by (with_reducible repeat (first | refine ya8 ?_ _ | refine ya9 ?_ | refine blk_alloc ?_ _)); exact BK225.out⟩, ⟨by repeat (first | (with_reducible first | exact HB.out | apply ya2 | apply ya0 | apply ya1 | refine ya6 ?_ GE225.out) | exact HB.out)⟩⟩
          case round =>
           clear H'
           try clear c1
           try clear c2
           try clear p2
           try clear q2
           try clear hx2
           try clear c3
           try clear c3b0
           try clear c3b1
           try clear c4
           try clear c5
           try clear c6
           try clear p6
           try clear c7
           try clear c11
           try clear c11b0
           try clear c11b1
           try clear c12
           try clear c12b0
           try clear c12b1
           try clear c12b2
           try clear c13
           try clear c13b0
           try clear c13b1
           try clear c16
           try clear c16b0
           try clear c16b1
           try clear c16b2
           try clear c17
           try clear c17b0
           try clear c17b1
           try clear c17b2
           try clear p23
           try clear q23
           try clear hx23
           try clear p24
           try clear q24
           try clear hx24
           try clear c26
           try clear c26b0
           try clear c27
           try clear c27b0
           try clear c27b1
           try clear c27b2
           try clear c29
           try clear c29b0
           try clear c29b1
           try clear c29b2
           try clear c30
           try clear c30b0
           try clear c30b1
           try clear c30b2
           try clear c31
           try clear c31b0
           try clear c33
           try clear c33b0
           try clear c33b1
           try clear c33b2
           try clear c34
           try clear c34b0
           try clear c34b1
           try clear c34b2
           try clear c39
           try clear c40
           try clear c40b0
           try clear c41
           try clear c41b0
           try clear c43
           try clear c43b0
           try clear c43b1
           try clear c44
           try clear c44b0
           try clear c44b1
           try clear c44b2
           try clear c45
           try clear c45b0
           try clear c46
           try clear c46b0
           try clear c47
           try clear c47b0
           try clear c48
           try clear c48b0
           try clear c49
           try clear c49b0
           try clear c49b1
           try clear c51
           try clear c51b0
           try clear c51b1
           try clear c51b2
           try clear c52
           try clear c52b0
           try clear c52b1
           try clear c52b2
           try clear c53
           try clear c53b0
           try clear c53b1
           try clear c53b2
           try clear c57
           try clear c57b0
           try clear c57b1
           try clear c57b2
           try clear c58
           try clear c58b0
           try clear c58b1
           try clear c58b2
           try clear c59
           try clear c59b0
           try clear c59b1
           try clear c59b2
           try clear c60
           try clear c60b0
           try clear c61
           try clear c61b0
           try clear c63
           try clear c63b0
           try clear c63b1
           try clear c63b2
           try clear c64
           try clear c64b0
           try clear c64b1
           try clear c64b2
           try clear p64
           try clear c66
           try clear c66b0
           try clear c66b1
           try clear c66b2
           try clear c67
           try clear c67b0
           try clear c67b1
           try clear c67b2
           try clear c68
           try clear c68b0
           try clear c68b1
           try clear c68b2
           try clear c69
           try clear c69b0
           try clear c69b1
           try clear c69b2
           try clear hcz10_0
           try clear hcz10_1
           try clear hcz10_2
           try clear hcz10_3
           try clear hcz10_4
           try clear hcz10_5
           try clear hcz14_0
           try clear hcz14_1
           try clear hcz14_2
           try clear hcz14_3
           try clear hcz14_4
           try clear hcz14_5
           try clear hcz18_0
           try clear hcz18_1
           try clear hcz18_2
           try clear hcz18_3
           try clear hcz18_4
           try clear hcz18_5
           try clear hcz22_0
           try clear hcz22_1
           try clear hcz22_2
           try clear hcz22_3
           try clear hcz22_4
           try clear hcz22_5
           try clear hcz6_0
           try clear hcz6_1
           try clear hcz6_2
           try clear hcz6_3
           try clear hcz6_4
           try clear hcz6_5
           try clear hcz70_0
           try clear hcz70_1
           try clear hcz70_2
           try clear hcz70_3
           try clear hcz70_4
           try clear hcz70_5
           try clear hcz71_0
           try clear hcz71_1
           try clear hcz71_2
           try clear hcz71_3
           try clear hcz71_4
           try clear hcz71_5
           try clear hfz10_0
           try clear hfz10_1
           try clear hfz10_2
           try clear hfz10_3
           try clear hfz10_4
           try clear hfz10_5
           try clear hfz14_0
           try clear hfz14_1
           try clear hfz14_2
           try clear hfz14_3
           try clear hfz14_4
           try clear hfz14_5
           try clear hfz18_0
           try clear hfz18_1
           try clear hfz18_2
           try clear hfz18_3
           try clear hfz18_4
           try clear hfz18_5
           try clear hfz22_0
           try clear hfz22_1
           try clear hfz22_2
           try clear hfz22_3
           try clear hfz22_4
           try clear hfz22_5
           try clear hfz6_0
           try clear hfz6_1
           try clear hfz6_2
           try clear hfz6_3
           try clear hfz6_4
           try clear hfz6_5
           try clear hfz70_0
           try clear hfz70_1
           try clear hfz70_2
           try clear hfz70_3
           try clear hfz70_4
           try clear hfz70_5
           try clear hfz71_0
           try clear hfz71_1
           try clear hfz71_2
           try clear hfz71_3
           try clear hfz71_4
           try clear hfz71_5
           try clear hx235_0
           try clear hx237_0
           try clear hx237_1
           try clear hx237_2
           try clear hx238_0
           try clear hx238_1
           try clear hx238_2
           try clear hx239_0
           try clear hx240_0
           try clear hx240_1
           try clear hx240_2
           try clear hx242_0
           try clear hx242_1
           try clear hx242_2
           try clear p2
           try clear p23
           try clear p235
           try clear p237
           try clear p238
           try clear p239
           try clear p240
           try clear p242
           try clear p6
           try clear q2
           try clear q23
           try clear q235
           try clear q237
           try clear q238
           try clear q239
           try clear q240
           try clear q242
           obtain ⟨x13_4, x14_4, rfl, rfl, HA, HK4, BK225, HB⟩ := hrel
           cases gk with
           | zero => exact absurd HA.out (by simp [ya3.l3])
           | succ k4 =>
            have H := HA.out
            clear HA
            simp only [ya3.l3] at H
            by_cases c72 : x14_4 < (l0_4.length : Int)
            ·rw [if_pos c72] at H
             have c72b0 : decide (x14_4 < (l0_4.length : Int)) = true := decide_eq_true c72
             clear c72
             by_cases c73 : 0 ≤ x14_4
             rotate_left 1
             ·rw [if_neg c73] at H
              exact absurd H (by simp)
             rw [if_pos c73] at H
             have c73b0 : decide (0 ≤ x14_4) = true := decide_eq_true c73
             clear c73
             replace H := Option.bind_eq_some_iff.mp H
             obtain ⟨t245, A740, H⟩ := H
             replace H : (if x13_4.size + t245.size ≤ 9223372036854775807 then (ya3.l3 k4 x1_7 x5_7 x6_3 (x13_4 ++ t245) (wrap64 (x14_4 + 1)) a0_0 a0_1 a0_2 l0_3 l0_4 a0_5) else (none)) = some r := H
             have A74 := Aside0.mk A740
             clear A740
             by_cases c75 : x13_4.size + t245.size ≤ 9223372036854775807
             rotate_left 1
             ·rw [if_neg c75] at H
              exact absurd H (by simp)
             rw [if_pos c75] at H
             have c75b0 := eq_true c75
             have c75b1 : decide (x13_4.size + t245.size ≤ 9223372036854775807) = true := decide_eq_true c75
             try have c75b2 : (9223372036854775807 < x13_4.size + t245.size) = False := eq_false (Nat.not_lt.2 c75)
             have H' := Aside0.mk H
             clear H
             obtain ⟨hcz76_0, hcz76_1, hcz76_2, hcz76_3, hcz76_4, hcz76_5, hfz76_0, hfz76_1, hfz76_2, hfz76_3, hfz76_4, hfz76_5⟩ := bx6 BK225.out
             have p244 : 0 ≤ (x14_4 : Int) := of_decide_eq_true (by first | (with_reducible assumption) | assumption)
             have q244 : x14_4 < (l0_4.length : Int) := of_decide_eq_true (by first | (with_reducible assumption) | assumption)
             obtain ⟨ad244, A244_3, c244_3, A244_4, c244_4, e244, hx244_0, hx244_1, hx244_2, hx244_3, hx244_4, hx244_5, hl244_3, hi244_3, hl244_4, hi244_4⟩ := atNd HR0_4.out x14_4 p244 q244
             cases e244
             replace hx244_0 := cup HB.out hx244_0
             replace hx244_1 := cup HB.out hx244_1
             replace hx244_2 := cup HB.out hx244_2
             replace hx244_3 := cup HB.out hx244_3
             replace hx244_4 := cup HB.out hx244_4
             replace hx244_5 := cup HB.out hx244_5
             have HR244_3 := Aside0.mk hi244_3
             have HC244_3 := Aside0.mk hl244_3
             clear hi244_3 hl244_3
             have HR244_4 := Aside0.mk hi244_4
             have HC244_4 := Aside0.mk hl244_4
             clear hi244_4 hl244_4
             replace p244 := eq_true p244
             replace q244 := eq_true q244
             go_wp2_with (first | ((with_reducible refine yc6 (f := 39) rfl ?_); refine goesL_ (some 148) rfl rfl Tryd.func39 (by kernel_rfl) rfl #[.agg #[.int .i64 ((rdNd l0_4 x14_4).f0), .string ((rdNd l0_4 x14_4).f1.f0), .string ((rdNd l0_4 x14_4).f1.f1), .slice A244_3 ((rdNd l0_4 x14_4).f2).length c244_3, .slice A244_4 ((rdNd l0_4 x14_4).f3).length c244_4, .string ((rdNd l0_4 x14_4).f4)], .string x1_7] rfl (by (try simp only [List.map_toArray, List.map_cons, List.map_nil]); first | done | rfl | (simp only [List.length_drop, List.length_take]; rfl) | (simp only [ByteArray.size_extract]; rfl)) ?_; (with_reducible refine (ih k4 (by have := HJ7.out; have := HK2.out; have := HK3.out; have := HK4.out; omega) ((rdNd l0_4 x14_4).f0) ((rdNd l0_4 x14_4).f1.f0) ((rdNd l0_4 x14_4).f1.f1) _ _ ((rdNd l0_4 x14_4).f2) _ _ ((rdNd l0_4 x14_4).f3) ((rdNd l0_4 x14_4).f4) x1_7 t245 _ ?side1 ?side2 ?side3 ?side4 A74.out).mono ?_); (case side1 => repeat (first | exact (Kd.yc3 HR244_3.out HB.out) | (with_reducible refine Kd.C_alloc ?_ _) | (with_reducible refine Kd.C_drewN ?_ _) | (with_reducible refine Kd.C_drew ?_))); (case side2 => exact HC244_3.out); (case side3 => repeat (first | exact (Kd.yc3 HR244_4.out HB.out) | (with_reducible refine Kd.C_alloc ?_ _) | (with_reducible refine Kd.C_drewN ?_ _) | (with_reducible refine Kd.C_drew ?_))); (case side4 => exact HC244_4.out); rintro e w77 ⟨rfl, hb⟩; refine ⟨_, rfl, ?_⟩; have n0_ := Aside0.mk (yb9 (g := gb225) (o := .cells #[.int .i64 a0_0, .string a0_1, .string a0_2, .slice A0_3 l0_3.length c0_3, .slice (some ad244) l0_4.length c0_4, .string a0_5] 27 (0, 0)) (by (with_reducible repeat (first | refine ya8 ?_ _ | refine ya9 ?_ | refine blk_alloc ?_ _)); exact BK225.out) hb); have n1_ := Aside0.mk (ya7 (by repeat (first | (with_reducible first | exact HB.out | apply ya2 | apply ya0 | apply ya1 | refine ya6 ?_ GE225.out) | exact HB.out)) hb); clear BK225; clear HB; have BK225 := n0_; have HB := n1_; clear n0_ n1_; (try clear hb); (try clear hb2); (try clear hk); (try clear hi)))
             go_roundg k4
             case measure => have := HJ7.out; have := HK2.out; have := HK3.out; have := HK4.out; omega
             case rel => exact ⟨(x13_4 ++ t245), (wrap64 (x14_4 + 1)), (by first | rfl | (simp; done) | (simp [*]; done)), (by first | rfl | (simp; done) | (simp [*]; done)), H', ⟨by have := HJ7.out; have := HK2.out; have := HK3.out; have := HK4.out; omega⟩, ⟨by (with_reducible repeat (first | refine ya8 ?_ _ | refine ya9 ?_ | refine blk_alloc ?_ _)); exact BK225.out⟩, ⟨by repeat (first | (with_reducible first | exact HB.out | apply ya2 | apply ya0 | apply ya1 | refine ya6 ?_ GE225.out) | exact HB.out)⟩⟩
            ·rw [if_neg c72] at H
             have c72b0 : decide (x14_4 < (l0_4.length : Int)) = false := decide_eq_false c72
             clear c72
             by_cases c78 : 1 + x5_7.size ≤ 9223372036854775807
             rotate_left 1
             ·rw [if_neg c78] at H
              exact absurd H (by simp)

             rw [if_pos c78] at H
             have c78b0 := eq_true c78
             have c78b1 : decide (1 + x5_7.size ≤ 9223372036854775807) = true := decide_eq_true c78
             try have c78b2 : (9223372036854775807 < 1 + x5_7.size) = False := eq_false (Nat.not_lt.2 c78)
             by_cases c79 : ((⟨#[60]⟩ : ByteArray) ++ x5_7).size + x6_3.size ≤ 9223372036854775807
             rotate_left 1
             ·rw [if_neg c79] at H
              exact absurd H (by simp)
             rw [if_pos c79] at H
             have c79b0 := eq_true c79
             have c79b1 : decide (((⟨#[60]⟩ : ByteArray) ++ x5_7).size + x6_3.size ≤ 9223372036854775807) = true := decide_eq_true c79
             try have c79b2 : (9223372036854775807 < ((⟨#[60]⟩ : ByteArray) ++ x5_7).size + x6_3.size) = False := eq_false (Nat.not_lt.2 c79)
             try have c79b5 : (9223372036854775807 < 1 + x5_7.size + x6_3.size) = False := eq_false (Nat.not_lt.2 (by have h_ := c79; simp only [ByteArray.size_append] at h_; exact h_))
             by_cases c80 : (((⟨#[60]⟩ : ByteArray) ++ x5_7) ++ x6_3).size + 1 ≤ 9223372036854775807
             rotate_left 1
             ·rw [if_neg c80] at H
              exact absurd H (by simp)
             rw [if_pos c80] at H
             have c80b0 := eq_true c80
             have c80b1 : decide ((((⟨#[60]⟩ : ByteArray) ++ x5_7) ++ x6_3).size + 1 ≤ 9223372036854775807) = true := decide_eq_true c80
             try have c80b2 : (9223372036854775807 < (((⟨#[60]⟩ : ByteArray) ++ x5_7) ++ x6_3).size + 1) = False := eq_false (Nat.not_lt.2 c80)
             try have c80b5 : (9223372036854775807 < 1 + x5_7.size + x6_3.size + 1) = False := eq_false (Nat.not_lt.2 (by have h_ := c80; simp only [ByteArray.size_append] at h_; exact h_))
             by_cases c81 : ((((⟨#[60]⟩ : ByteArray) ++ x5_7) ++ x6_3) ++ (⟨#[62]⟩ : ByteArray)).size + x13_4.size ≤ 9223372036854775807
             rotate_left 1
             ·rw [if_neg c81] at H
              exact absurd H (by simp)
             rw [if_pos c81] at H
             have c81b0 := eq_true c81
             have c81b1 : decide (((((⟨#[60]⟩ : ByteArray) ++ x5_7) ++ x6_3) ++ (⟨#[62]⟩ : ByteArray)).size + x13_4.size ≤ 9223372036854775807) = true := decide_eq_true c81
             try have c81b2 : (9223372036854775807 < ((((⟨#[60]⟩ : ByteArray) ++ x5_7) ++ x6_3) ++ (⟨#[62]⟩ : ByteArray)).size + x13_4.size) = False := eq_false (Nat.not_lt.2 c81)
             try have c81b5 : (9223372036854775807 < 1 + x5_7.size + x6_3.size + 1 + x13_4.size) = False := eq_false (Nat.not_lt.2 (by have h_ := c81; simp only [ByteArray.size_append] at h_; exact h_))
             by_cases c82 : (((((⟨#[60]⟩ : ByteArray) ++ x5_7) ++ x6_3) ++ (⟨#[62]⟩ : ByteArray)) ++ x13_4).size + 2 ≤ 9223372036854775807
             rotate_left 1
             ·rw [if_neg c82] at H
              exact absurd H (by simp)
             rw [if_pos c82] at H
             have c82b0 := eq_true c82
             have c82b1 : decide ((((((⟨#[60]⟩ : ByteArray) ++ x5_7) ++ x6_3) ++ (⟨#[62]⟩ : ByteArray)) ++ x13_4).size + 2 ≤ 9223372036854775807) = true := decide_eq_true c82
             try have c82b2 : (9223372036854775807 < (((((⟨#[60]⟩ : ByteArray) ++ x5_7) ++ x6_3) ++ (⟨#[62]⟩ : ByteArray)) ++ x13_4).size + 2) = False := eq_false (Nat.not_lt.2 c82)
             try have c82b5 : (9223372036854775807 < 1 + x5_7.size + x6_3.size + 1 + x13_4.size + 2) = False := eq_false (Nat.not_lt.2 (by have h_ := c82; simp only [ByteArray.size_append] at h_; exact h_))
             by_cases c83 : ((((((⟨#[60]⟩ : ByteArray) ++ x5_7) ++ x6_3) ++ (⟨#[62]⟩ : ByteArray)) ++ x13_4) ++ (⟨#[60, 47]⟩ : ByteArray)).size + x5_7.size ≤ 9223372036854775807
             rotate_left 1
             ·rw [if_neg c83] at H
              exact absurd H (by simp)
             rw [if_pos c83] at H
             have c83b0 := eq_true c83
             have c83b1 : decide (((((((⟨#[60]⟩ : ByteArray) ++ x5_7) ++ x6_3) ++ (⟨#[62]⟩ : ByteArray)) ++ x13_4) ++ (⟨#[60, 47]⟩ : ByteArray)).size + x5_7.size ≤ 9223372036854775807) = true := decide_eq_true c83
             try have c83b2 : (9223372036854775807 < ((((((⟨#[60]⟩ : ByteArray) ++ x5_7) ++ x6_3) ++ (⟨#[62]⟩ : ByteArray)) ++ x13_4) ++ (⟨#[60, 47]⟩ : ByteArray)).size + x5_7.size) = False := eq_false (Nat.not_lt.2 c83)
             try have c83b5 : (9223372036854775807 < 1 + x5_7.size + x6_3.size + 1 + x13_4.size + 2 + x5_7.size) = False := eq_false (Nat.not_lt.2 (by have h_ := c83; simp only [ByteArray.size_append] at h_; exact h_))
             by_cases c84 : (((((((⟨#[60]⟩ : ByteArray) ++ x5_7) ++ x6_3) ++ (⟨#[62]⟩ : ByteArray)) ++ x13_4) ++ (⟨#[60, 47]⟩ : ByteArray)) ++ x5_7).size + 1 ≤ 9223372036854775807
             rotate_left 1
             ·rw [if_neg c84] at H
              exact absurd H (by simp)
             rw [if_pos c84] at H
             have c84b0 := eq_true c84
             have c84b1 : decide ((((((((⟨#[60]⟩ : ByteArray) ++ x5_7) ++ x6_3) ++ (⟨#[62]⟩ : ByteArray)) ++ x13_4) ++ (⟨#[60, 47]⟩ : ByteArray)) ++ x5_7).size + 1 ≤ 9223372036854775807) = true := decide_eq_true c84
             try have c84b2 : (9223372036854775807 < (((((((⟨#[60]⟩ : ByteArray) ++ x5_7) ++ x6_3) ++ (⟨#[62]⟩ : ByteArray)) ++ x13_4) ++ (⟨#[60, 47]⟩ : ByteArray)) ++ x5_7).size + 1) = False := eq_false (Nat.not_lt.2 c84)
             try have c84b5 : (9223372036854775807 < 1 + x5_7.size + x6_3.size + 1 + x13_4.size + 2 + x5_7.size + 1) = False := eq_false (Nat.not_lt.2 (by have h_ := c84; simp only [ByteArray.size_append] at h_; exact h_))
             obtain rfl := Option.some.inj H
             obtain ⟨hcz85_0, hcz85_1, hcz85_2, hcz85_3, hcz85_4, hcz85_5, hfz85_0, hfz85_1, hfz85_2, hfz85_3, hfz85_4, hfz85_5⟩ := bx6 BK225.out
             go_wp2
             go_ret
             exact ⟨by first | rfl | (simp [yb3, yb2] <;> rfl) | (simp [*, yb3, yb2] <;> rfl), by repeat (first | (with_reducible first | exact HB.out | apply ya2 | apply ya0 | apply ya1 | refine ya6 ?_ GE225.out) | exact HB.out)⟩
end Go.Proofs.YtffpbhbiamkkpaaDoor.PR
