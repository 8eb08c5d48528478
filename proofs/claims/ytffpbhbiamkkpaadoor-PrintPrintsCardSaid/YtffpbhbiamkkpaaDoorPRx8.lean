import Derived.Test.YtffpbhbiamkkpaaDoorM5
import Derived.Test.YtffpbhbiamkkpaaDoorM7
-- PRINTED by print.py (a twelfth state) out of the translation. Not trusted: Lean checks it.
namespace Go.Proofs.YtffpbhbiamkkpaaDoor.PR
open Go.Proofs.YtffpbhbiamkkpaaDoor.ND
open Go.RowKit Go.Proofs.YtffpbhbiamkkpaaDoorW.PrintWords Go.Proofs.YtffpbhbiamkkpaaDoorW.PrintLast Go.Proofs.YtffpbhbiamkkpaaDoorW.PrintMore
attribute [local go_sem] yf9 yf7 yg5 yg4 ye9 ye8 yf8 yf6   -- for this text's walks alone
set_option linter.unusedVariables false
set_option linter.unusedSimpArgs false

def yc0.l0 : Nat → List (At) → List ByteArray → Int → Option (List ByteArray)
 | 0, _, _, _ => none
 | k + 1, x0, x3, x4 => if x4 < (x0.length : Int) then (if 0 ≤ x4 then (if ((rdAt x0 x4).f0.f0).toList = ([] : List UInt8) then (yc0.l0 k x0 x3 (wrap64 (x4 + 1))) else (if ((rdAt x0 x4).f0.f0).toList = ([104, 116, 116, 112, 58, 47, 47, 119, 119, 119, 46, 119, 51, 46, 111, 114, 103, 47, 88, 77, 76, 47, 49, 57, 57, 56, 47, 110, 97, 109, 101, 115, 112, 97, 99, 101] : List UInt8) then (yc0.l0 k x0 x3 (wrap64 (x4 + 1))) else (if (x3.length : Int) = 0 then (if x3.length < 8796093022208 then (yc0.l0 k x0 (x3 ++ [(rdAt x0 x4).f0.f0]) (wrap64 (x4 + 1))) else (none)) else (if 0 ≤ (wrap64 ((x3.length : Int) - 1)) then (if (wrap64 ((x3.length : Int) - 1)) < (x3.length : Int) then (if (rdOf ByteArray.empty x3 (wrap64 ((x3.length : Int) - 1))).toList = ((rdAt x0 x4).f0.f0).toList then (yc0.l0 k x0 x3 (wrap64 (x4 + 1))) else (if x3.length < 8796093022208 then (yc0.l0 k x0 (x3 ++ [(rdAt x0 x4).f0.f0]) (wrap64 (x4 + 1))) else (none))) else (none)) else (none))))) else (none)) else (some x3)
def yc0.f (k : Nat) (l0 : List (At)) : Option (List ByteArray) := yc0.l0 k l0 ([] : List ByteArray) 0
set_option maxHeartbeats 8000000 in
set_option maxRecDepth 100000 in
theorem yc0.calls (k : Nat) (A0 : Option Addr) (c0 : Nat) (l0 : List (At)) (r : List ByteArray) (w : World) (hr0 : Kd.C kAt w A0 l0.length l0) (hc0 : l0.length ≤ c0) (h : yc0.f k l0 = some r) :
  Calls Tryd.prog 73 #[.slice A0 l0.length c0] w fun e w' => ∃ v0_ : Value, e = .returned (v0_) ∧ Kd.R Kd.string 9 w' w.heap.size (fun _ => True) v0_ r ∧ Below w.heap.size w w' := by
 have HR0 := Aside0.mk hr0
 have HC0 := Aside0.mk hc0
 clear hr0 hc0
 have HB := Aside0.mk (Below.refl w.heap.size w)
 have H : (yc0.l0 k l0 ([] : List ByteArray) 0) = some r := h
 clear h
 have H' := Aside0.mk H
 clear H
 go_enter Tryd.func73, Tryd.ntmps73
 go_wp2
 go_loopg [3, 4] k (fun kq v3 v4 w' => ∃ (x3_1 : List ByteArray) (x4_1 : Int), v4 = .int .i64 x4_1 ∧ Aside0 (yc0.l0 kq l0 x3_1 x4_1 = some r) ∧ Aside0 (kq ≤ k) ∧ Aside0 (Kd.R Kd.string 9 w' w.heap.size (fun _ => True) v3 x3_1) ∧ Aside0 (Below w.heap.size w w'))
 case atStart => exact ⟨(([] : List ByteArray)), (0), (by first | rfl | (simp; done) | (simp [*]; done)), H', ⟨Nat.le_refl _⟩, ⟨by first | exact Kd.R_nil _ _ _ _ _ | exact Kd.N_nil _ _ _ _ _ | exact Kd.V_nil _ _ _ _ _ | exact Kd.Q_nil _ _ _ _ _ | exact Kd.S_nil _ _ _ _ _⟩, ⟨by repeat (first | (with_reducible first | exact HB.out | apply ya2 | apply ya0 | apply ya1) | exact HB.out)⟩⟩
 case round =>
  clear H'
  obtain ⟨x3_1, x4_1, rfl, HA, HK1, HO_3, HB⟩ := hrel
  cases gk with
  | zero => exact absurd HA.out (by simp [yc0.l0])
  | succ k1 =>
   have H := HA.out
   clear HA
   simp only [yc0.l0] at H
   by_cases c2 : x4_1 < (l0.length : Int)
   rotate_left 1
   ·rw [if_neg c2] at H
    have c2b0 : decide (x4_1 < (l0.length : Int)) = false := decide_eq_false c2
    clear c2
    obtain rfl := Option.some.inj H
    go_wp2
    go_ret
    exact ⟨_, by first | rfl | (simp [yb3, yb2] <;> rfl) | (simp [*, yb3, yb2] <;> rfl), by (with_reducible repeat (first | apply Kd.yc7 | apply Kd.R_drewN | apply Kd.R_drew)); exact HO_3.out, by repeat (first | (with_reducible first | exact HB.out | apply ya2 | apply ya0 | apply ya1) | exact HB.out)⟩

   rw [if_pos c2] at H
   have c2b0 : decide (x4_1 < (l0.length : Int)) = true := decide_eq_true c2
   clear c2
   by_cases c3 : 0 ≤ x4_1
   rotate_left 1
   ·rw [if_neg c3] at H
    exact absurd H (by simp)
   rw [if_pos c3] at H
   have c3b0 : decide (0 ≤ x4_1) = true := decide_eq_true c3
   clear c3
   by_cases c4 : ((rdAt l0 x4_1).f0.f0).toList = ([] : List UInt8)
   ·rw [if_pos c4] at H
    have c4b0 : (((rdAt l0 x4_1).f0.f0).toList == ([] : List UInt8)) = true := beq_iff_eq.mpr c4
    have c4b1 : (((rdAt l0 x4_1).f0.f0).toList != ([] : List UInt8)) = false := bne_eq_false_iff_eq.mpr c4
    clear c4
    have H' := Aside0.mk H
    clear H
    have p211 : 0 ≤ (x4_1 : Int) := of_decide_eq_true (by first | (with_reducible assumption) | assumption)
    have q211 : x4_1 < (l0.length : Int) := of_decide_eq_true (by first | (with_reducible assumption) | assumption)
    obtain ⟨ad211, e211, hx211_0, hx211_1, hx211_2⟩ := atAt HR0.out x4_1 p211 q211
    cases e211
    replace hx211_0 := cup HB.out hx211_0
    replace hx211_1 := cup HB.out hx211_1
    replace hx211_2 := cup HB.out hx211_2
    replace p211 := eq_true p211
    replace q211 := eq_true q211
    go_wp2
    go_roundg k1
    case measure => have := HK1.out; omega
    case rel => exact ⟨(x3_1), (wrap64 (x4_1 + 1)), (by first | rfl | (simp; done) | (simp [*]; done)), H', ⟨by have := HK1.out; omega⟩, ⟨by (with_reducible repeat (first | apply Kd.yc7 | apply Kd.R_drewN | apply Kd.R_drew)); exact HO_3.out⟩, ⟨by repeat (first | (with_reducible first | exact HB.out | apply ya2 | apply ya0 | apply ya1) | exact HB.out)⟩⟩
   ·rw [if_neg c4] at H
    have c4b0 : (((rdAt l0 x4_1).f0.f0).toList == ([] : List UInt8)) = false := beq_eq_false_iff_ne.mpr c4
    have c4b1 : (((rdAt l0 x4_1).f0.f0).toList != ([] : List UInt8)) = true := bne_iff_ne.mpr c4
    by_cases c5 : ((rdAt l0 x4_1).f0.f0).toList = ([104, 116, 116, 112, 58, 47, 47, 119, 119, 119, 46, 119, 51, 46, 111, 114, 103, 47, 88, 77, 76, 47, 49, 57, 57, 56, 47, 110, 97, 109, 101, 115, 112, 97, 99, 101] : List UInt8)
    ·rw [if_pos c5] at H
     have c5b0 : (((rdAt l0 x4_1).f0.f0).toList == ([104, 116, 116, 112, 58, 47, 47, 119, 119, 119, 46, 119, 51, 46, 111, 114, 103, 47, 88, 77, 76, 47, 49, 57, 57, 56, 47, 110, 97, 109, 101, 115, 112, 97, 99, 101] : List UInt8)) = true := beq_iff_eq.mpr c5
     have c5b1 : (((rdAt l0 x4_1).f0.f0).toList != ([104, 116, 116, 112, 58, 47, 47, 119, 119, 119, 46, 119, 51, 46, 111, 114, 103, 47, 88, 77, 76, 47, 49, 57, 57, 56, 47, 110, 97, 109, 101, 115, 112, 97, 99, 101] : List UInt8)) = false := bne_eq_false_iff_eq.mpr c5
     clear c5
     have H' := Aside0.mk H
     clear H
     have p211 : 0 ≤ (x4_1 : Int) := of_decide_eq_true (by first | (with_reducible assumption) | assumption)
     have q211 : x4_1 < (l0.length : Int) := of_decide_eq_true (by first | (with_reducible assumption) | assumption)
     obtain ⟨ad211, e211, hx211_0, hx211_1, hx211_2⟩ := atAt HR0.out x4_1 p211 q211
     cases e211
     replace hx211_0 := cup HB.out hx211_0
     replace hx211_1 := cup HB.out hx211_1
     replace hx211_2 := cup HB.out hx211_2
     replace p211 := eq_true p211
     replace q211 := eq_true q211
     go_wp2
     go_roundg k1
     case measure => have := HK1.out; omega
     case rel => exact ⟨(x3_1), (wrap64 (x4_1 + 1)), (by first | rfl | (simp; done) | (simp [*]; done)), H', ⟨by have := HK1.out; omega⟩, ⟨by (with_reducible repeat (first | apply Kd.yc7 | apply Kd.R_drewN | apply Kd.R_drew)); exact HO_3.out⟩, ⟨by repeat (first | (with_reducible first | exact HB.out | apply ya2 | apply ya0 | apply ya1) | exact HB.out)⟩⟩
    ·rw [if_neg c5] at H
     have c5b0 : (((rdAt l0 x4_1).f0.f0).toList == ([104, 116, 116, 112, 58, 47, 47, 119, 119, 119, 46, 119, 51, 46, 111, 114, 103, 47, 88, 77, 76, 47, 49, 57, 57, 56, 47, 110, 97, 109, 101, 115, 112, 97, 99, 101] : List UInt8)) = false := beq_eq_false_iff_ne.mpr c5
     have c5b1 : (((rdAt l0 x4_1).f0.f0).toList != ([104, 116, 116, 112, 58, 47, 47, 119, 119, 119, 46, 119, 51, 46, 111, 114, 103, 47, 88, 77, 76, 47, 49, 57, 57, 56, 47, 110, 97, 109, 101, 115, 112, 97, 99, 101] : List UInt8)) = true := bne_iff_ne.mpr c5
     by_cases c6 : (x3_1.length : Int) = 0
     ·rw [if_pos c6] at H
      have c6b0 : ((x3_1.length : Int) == 0) = true := beq_iff_eq.mpr c6
      have c6b1 : ((x3_1.length : Int) != 0) = false := bne_eq_false_iff_eq.mpr c6
      clear c6
      by_cases c7 : x3_1.length < 8796093022208
      rotate_left 1
      ·rw [if_neg c7] at H
       exact absurd H (by simp)
      rw [if_pos c7] at H
      have LMc7 := Aside0.mk c7
      clear c7
      obtain ⟨y212, hy212⟩ : ∃ y_ : List ByteArray, y_ = (x3_1 ++ [(rdAt l0 x4_1).f0.f0]) := ⟨_, rfl⟩
      replace H : (yc0.l0 k1 l0 y212 (wrap64 (x4_1 + 1))) = some r := by first | (rw [hy212]; with_reducible exact H) | (have H2_ := (Option.bind_some _ _).symm.trans H; rw [hy212]; with_reducible exact H2_) | (have H2_ := (Option.bind_some _ _).symm.trans H; with_reducible exact H2_) | with_reducible exact H | (rw [hy212]; exact H) | exact H
      have Ny212 := Aside0.mk hy212
      clear hy212
      have H' := Aside0.mk H
      clear H
      have p211 : 0 ≤ (x4_1 : Int) := of_decide_eq_true (by first | (with_reducible assumption) | assumption)
      have q211 : x4_1 < (l0.length : Int) := of_decide_eq_true (by first | (with_reducible assumption) | assumption)
      obtain ⟨ad211, e211, hx211_0, hx211_1, hx211_2⟩ := atAt HR0.out x4_1 p211 q211
      cases e211
      replace hx211_0 := cup HB.out hx211_0
      replace hx211_1 := cup HB.out hx211_1
      replace hx211_2 := cup HB.out hx211_2
      replace p211 := eq_true p211
      replace q211 := eq_true q211
      obtain ⟨Ao8, co8, eo8⟩ := Kd.yh1 HO_3.out
      subst eo8
      go_wp2_with (first | ((with_reducible refine yh0 (b := .append) (xs := #[.tmp 39, .tmp 41]) rfl ?_); (try (refine yd8 (by rfl) ?_; dsimp only)); at_builtin; refine Kd.yp4 Kd.string (w0 := w) w.heap.size rfl (.tmp 39) (.tmp 41) 111 9 (.string ⟨#[]⟩) 16 rfl Tryd.underlying111 info9 rfl (by decide) (by omega) (.slice Ao8 x3_1.length co8) x3_1 ((rdAt l0 x4_1).f0.f0) [.string ((rdAt l0 x4_1).f0.f0)] (fun _ => True) (fun _ => False) rfl rfl ?aP (fun _ hk => hk.elim) ?aF ?aO ?aB ?aS ?aL ?_; (case aP => exact rfl); (case aB => exact (by repeat (first | (with_reducible first | exact HB.out | apply ya2 | apply ya0 | apply ya1) | exact HB.out))); (case aF => exact (fun _ _ => trivial)); (case aO => exact (by (with_reducible repeat (first | apply Kd.yc7 | apply Kd.R_drewN | apply Kd.R_drew)); exact HO_3.out)); (case aS => exact (yb4 (by repeat (first | (with_reducible first | exact HB.out | apply ya2 | apply ya0 | apply ya1) | exact HB.out)))); (case aL => have := LMc7.out; first | omega | exact Nat.le_of_lt this); intro v213 w9 ho hb hg hat; rw [← Ny212.out] at ho; have n0_ := Aside0.mk (hb); have n1_ := Aside0.mk (ho); clear HB; clear HO_3; have HB := n0_; have HO214 := n1_; clear n0_ n1_; clear ho hb hg hat))
      go_roundg k1
      case measure => have := HK1.out; omega
      case rel => exact ⟨(y212), (wrap64 (x4_1 + 1)), (by first | rfl | (simp; done) | (simp [*]; done)), H', ⟨by have := HK1.out; omega⟩, ⟨by (with_reducible repeat (first | apply Kd.yc7 | apply Kd.R_drewN | apply Kd.R_drew)); exact HO214.out⟩, ⟨by repeat (first | (with_reducible first | exact HB.out | apply ya2 | apply ya0 | apply ya1) | exact HB.out)⟩⟩
     ·rw [if_neg c6] at H
      have c6b0 : ((x3_1.length : Int) == 0) = false := beq_eq_false_iff_ne.mpr c6
      have c6b1 : ((x3_1.length : Int) != 0) = true := bne_iff_ne.mpr c6
      have c6b2 : ¬ (x3_1 = []) := fun h_ => c6 (by rw [h_]; rfl)
      obtain ⟨ji10, hji10⟩ : ∃ j_ : Int, (wrap64 ((x3_1.length : Int) - 1)) = j_ := ⟨_, rfl⟩
      replace H : (if 0 ≤ (ji10) then (if (ji10) < (x3_1.length : Int) then (if (rdOf ByteArray.empty x3_1 (ji10)).toList = ((rdAt l0 x4_1).f0.f0).toList then (yc0.l0 k1 l0 x3_1 (wrap64 (x4_1 + 1))) else (if x3_1.length < 8796093022208 then (yc0.l0 k1 l0 (x3_1 ++ [(rdAt l0 x4_1).f0.f0]) (wrap64 (x4_1 + 1))) else (none))) else (none)) else (none)) = some r := by first | (rw [hji10] at H; exact H) | (simp only [hji10] at H ⊢; exact H)
      have hji10w : (IntKind.i64.wrap ((x3_1.length : Int) - 1)) = ji10 := (i64_w _).trans hji10
      by_cases c11 : 0 ≤ (ji10)
      rotate_left 1
      ·rw [if_neg c11] at H
       exact absurd H (by simp)
      rw [if_pos c11] at H
      have c11b0 : decide (0 ≤ (ji10)) = true := decide_eq_true c11
      clear c11
      by_cases c12 : (ji10) < (x3_1.length : Int)
      rotate_left 1
      ·rw [if_neg c12] at H
       exact absurd H (by simp)
      rw [if_pos c12] at H
      have c12b0 : decide ((ji10) < (x3_1.length : Int)) = true := decide_eq_true c12
      clear c12
      by_cases c13 : (rdOf ByteArray.empty x3_1 (ji10)).toList = ((rdAt l0 x4_1).f0.f0).toList
      ·rw [if_pos c13] at H
       have c13b0 : ((rdOf ByteArray.empty x3_1 (ji10)).toList == ((rdAt l0 x4_1).f0.f0).toList) = true := beq_iff_eq.mpr c13
       have c13b1 : ((rdOf ByteArray.empty x3_1 (ji10)).toList != ((rdAt l0 x4_1).f0.f0).toList) = false := bne_eq_false_iff_eq.mpr c13
       clear c13
       have H' := Aside0.mk H
       clear H
       have p211 : 0 ≤ (x4_1 : Int) := of_decide_eq_true (by first | (with_reducible assumption) | assumption)
       have q211 : x4_1 < (l0.length : Int) := of_decide_eq_true (by first | (with_reducible assumption) | assumption)
       obtain ⟨ad211, e211, hx211_0, hx211_1, hx211_2⟩ := atAt HR0.out x4_1 p211 q211
       cases e211
       replace hx211_0 := cup HB.out hx211_0
       replace hx211_1 := cup HB.out hx211_1
       replace hx211_2 := cup HB.out hx211_2
       replace p211 := eq_true p211
       replace q211 := eq_true q211
       obtain ⟨Ao14, co14, eo14⟩ := Kd.yh1 HO_3.out
       subst eo14
       have p215 : 0 ≤ ((ji10) : Int) := of_decide_eq_true (by first | (with_reducible assumption) | assumption)
       have q215 : (ji10) < (x3_1.length : Int) := of_decide_eq_true (by first | (with_reducible assumption) | assumption)
       obtain ⟨ad215, e215, hx215_0⟩ := Kd.yl8 (Kd.yd6 HO_3.out).2.2 (ji10) p215 q215
       cases e215
       replace p215 := eq_true p215
       replace q215 := eq_true q215
       go_wp2
       go_roundg k1
       case measure => have := HK1.out; omega
       case rel => exact ⟨(x3_1), (wrap64 (x4_1 + 1)), (by first | rfl | (simp; done) | (simp [*]; done)), H', ⟨by have := HK1.out; omega⟩, ⟨by (with_reducible repeat (first | apply Kd.yc7 | apply Kd.R_drewN | apply Kd.R_drew)); exact HO_3.out⟩, ⟨by repeat (first | (with_reducible first | exact HB.out | apply ya2 | apply ya0 | apply ya1) | exact HB.out)⟩⟩
      ·rw [if_neg c13] at H
       have c13b0 : ((rdOf ByteArray.empty x3_1 (ji10)).toList == ((rdAt l0 x4_1).f0.f0).toList) = false := beq_eq_false_iff_ne.mpr c13
       have c13b1 : ((rdOf ByteArray.empty x3_1 (ji10)).toList != ((rdAt l0 x4_1).f0.f0).toList) = true := bne_iff_ne.mpr c13
       by_cases c15 : x3_1.length < 8796093022208
       rotate_left 1
       ·rw [if_neg c15] at H
        exact absurd H (by simp)
       rw [if_pos c15] at H
       have LMc15 := Aside0.mk c15
       clear c15
       obtain ⟨y216, hy216⟩ : ∃ y_ : List ByteArray, y_ = (x3_1 ++ [(rdAt l0 x4_1).f0.f0]) := ⟨_, rfl⟩
       replace H : (yc0.l0 k1 l0 y216 (wrap64 (x4_1 + 1))) = some r := by first | (rw [hy216]; with_reducible exact H) | (have H2_ := (Option.bind_some _ _).symm.trans H; rw [hy216]; with_reducible exact H2_) | (have H2_ := (Option.bind_some _ _).symm.trans H; with_reducible exact H2_) | with_reducible exact H | (rw [hy216]; exact H) | exact H
       have Ny216 := Aside0.mk hy216
       clear hy216
       have H' := Aside0.mk H
       clear H
       have p211 : 0 ≤ (x4_1 : Int) := of_decide_eq_true (by first | (with_reducible assumption) | assumption)
       have q211 : x4_1 < (l0.length : Int) := of_decide_eq_true (by first | (with_reducible assumption) | assumption)
       obtain ⟨ad211, e211, hx211_0, hx211_1, hx211_2⟩ := atAt HR0.out x4_1 p211 q211
       cases e211
       replace hx211_0 := cup HB.out hx211_0
       replace hx211_1 := cup HB.out hx211_1
       replace hx211_2 := cup HB.out hx211_2
       replace p211 := eq_true p211
       replace q211 := eq_true q211
       obtain ⟨Ao16, co16, eo16⟩ := Kd.yh1 HO_3.out
       subst eo16
       have p215 : 0 ≤ ((ji10) : Int) := of_decide_eq_true (by first | (with_reducible assumption) | assumption)
       have q215 : (ji10) < (x3_1.length : Int) := of_decide_eq_true (by first | (with_reducible assumption) | assumption)
       obtain ⟨ad215, e215, hx215_0⟩ := Kd.yl8 (Kd.yd6 HO_3.out).2.2 (ji10) p215 q215
       cases e215
       replace p215 := eq_true p215
       replace q215 := eq_true q215
       go_wp2_with (first | ((with_reducible refine yh0 (b := .append) (xs := #[.tmp 39, .tmp 41]) rfl ?_); (try (refine yd8 (by rfl) ?_; dsimp only)); at_builtin; refine Kd.yp4 Kd.string (w0 := w) w.heap.size rfl (.tmp 39) (.tmp 41) 111 9 (.string ⟨#[]⟩) 16 rfl Tryd.underlying111 info9 rfl (by decide) (by omega) (.slice (some ad215) x3_1.length co16) x3_1 ((rdAt l0 x4_1).f0.f0) [.string ((rdAt l0 x4_1).f0.f0)] (fun _ => True) (fun _ => False) rfl rfl ?aP (fun _ hk => hk.elim) ?aF ?aO ?aB ?aS ?aL ?_; (case aP => exact rfl); (case aB => exact (by repeat (first | (with_reducible first | exact HB.out | apply ya2 | apply ya0 | apply ya1) | exact HB.out))); (case aF => exact (fun _ _ => trivial)); (case aO => exact (by (with_reducible repeat (first | apply Kd.yc7 | apply Kd.R_drewN | apply Kd.R_drew)); exact HO_3.out)); (case aS => exact (yb4 (by repeat (first | (with_reducible first | exact HB.out | apply ya2 | apply ya0 | apply ya1) | exact HB.out)))); (case aL => have := LMc15.out; first | omega | exact Nat.le_of_lt this); intro v217 w17 ho hb hg hat; rw [← Ny216.out] at ho; have n0_ := Aside0.mk (hb); have n1_ := Aside0.mk (ho); clear HB; clear HO_3; have HB := n0_; have HO218 := n1_; clear n0_ n1_; clear ho hb hg hat))
       go_roundg k1
       case measure => have := HK1.out; omega
       case rel => exact ⟨(y216), (wrap64 (x4_1 + 1)), (by first | rfl | (simp; done) | (simp [*]; done)), H', ⟨by have := HK1.out; omega⟩, ⟨by (with_reducible repeat (first | apply Kd.yc7 | apply Kd.R_drewN | apply Kd.R_drew)); exact HO218.out⟩, ⟨by repeat (first | (with_reducible first | exact HB.out | apply ya2 | apply ya0 | apply ya1) | exact HB.out)⟩⟩
def ye2.f (a0 : Int) : Option (ByteArray) := (some (([(wrap64 (48 + (Int.tmod a0 10))) % 256] : List Int) : List Int)).bind fun y219 => (if a0 > 9 then ((some (([(wrap64 (48 + (wrap64 (Int.tdiv a0 10)))) % 256] : List Int) : List Int)).bind fun y222 => (if (strOfNums y222).size + (strOfNums y219).size ≤ 9223372036854775807 then (some ((strOfNums y222) ++ (strOfNums y219))) else (none))) else (some (strOfNums y219)))
set_option maxHeartbeats 8000000 in
set_option maxRecDepth 100000 in
theorem ye2.calls (a0 : Int) (r : ByteArray) (w : World) (h : ye2.f a0 = some r) :
  Calls Tryd.prog 74 #[.int .i64 a0] w fun e w' => e = .returned (.string r) ∧ Below w.heap.size w w' := by
 have HB := Aside0.mk (Below.refl w.heap.size w)
 have H : ((some (([(wrap64 (48 + (Int.tmod a0 10))) % 256] : List Int) : List Int)).bind fun y219 => (if a0 > 9 then ((some (([(wrap64 (48 + (wrap64 (Int.tdiv a0 10)))) % 256] : List Int) : List Int)).bind fun y222 => (if (strOfNums y222).size + (strOfNums y219).size ≤ 9223372036854775807 then (some ((strOfNums y222) ++ (strOfNums y219))) else (none))) else (some (strOfNums y219)))) = some r := h
 clear h
 obtain ⟨y219, hy219⟩ : ∃ y_ : List Int, y_ = (([(wrap64 (48 + (Int.tmod a0 10))) % 256] : List Int)) := ⟨_, rfl⟩
 replace H : (if a0 > 9 then ((some (([(wrap64 (48 + (wrap64 (Int.tdiv a0 10)))) % 256] : List Int) : List Int)).bind fun y222 => (if (strOfNums y222).size + (strOfNums y219).size ≤ 9223372036854775807 then (some ((strOfNums y222) ++ (strOfNums y219))) else (none))) else (some (strOfNums y219))) = some r := by first | (rw [hy219]; with_reducible exact H) | (have H2_ := (Option.bind_some _ _).symm.trans H; rw [hy219]; with_reducible exact H2_) | (have H2_ := (Option.bind_some _ _).symm.trans H; with_reducible exact H2_) | with_reducible exact H | (rw [hy219]; exact H) | exact H
 have Ny219 := Aside0.mk hy219
 clear hy219
 by_cases c2 : a0 > 9
 rotate_left 1
 ·rw [if_neg c2] at H
  have c2b0 : decide (9 < a0) = false := decide_eq_false c2
  clear c2
  obtain rfl := Option.some.inj H
  go_enter Tryd.func74, Tryd.ntmps74
  go_wp2_with (first | ((with_reducible refine yd2 (N := 8) rfl ?_); refine Kd.R_lit (Kd.int .u8) _ 5 ?hg (N := 8) ?hd (xs := ([(wrap64 (48 + (Int.tmod a0 10))) % 256] : List Int)) (inner := [.int .u8 ((wrap64 (48 + (Int.tmod a0 10))) % 256)]) (ok := fun _ => True) (okp := fun _ => True) ?hr ?hp (fun _ hk => hk) trivial (Below.refl _ _) (Nat.le_refl _) (by simp) ?_; (case hd => rfl); (case hg => rfl); (case hr => first | (go_simp; done) | (go_simp; rfl)); (case hp => exact (Reps.one (show Kd.M (Kd.int .u8) _ _ _ ((wrap64 (48 + (Int.tmod a0 10))) % 256) [.int .u8 ((wrap64 (48 + (Int.tmod a0 10))) % 256)] from rfl) (Reps.none _ _))); intro v220 w10 ho11 hb hg_ hnew_; clear hg_ hnew_; (first | rw [← Ny219.out] at ho11 | (simp only [Int.reduceToNat] at ho11; rw [← Ny219.out] at ho11)); have n0_ := Aside0.mk (Kd.yh3 ho11 (yb4 (by repeat (first | (with_reducible first | exact HB.out | apply ya2 | apply ya0 | apply ya1) | exact HB.out)))); have n1_ := Aside0.mk (ya7 (by repeat (first | (with_reducible first | exact HB.out | apply ya2 | apply ya0 | apply ya1) | exact HB.out)) hb); clear HB; have HO221 := n0_; have HB := n1_; clear n0_ n1_; clear hb ho11; have hcv12 := yi1 (P := Tryd.prog) Tryd.underlying69 Tryd.underlying5 Tryd.underlying9 (Kd.yg3 HO221.out)))
  go_ret
  exact ⟨by first | rfl | (simp [yb3, yb2] <;> rfl) | (simp [*, yb3, yb2] <;> rfl), by repeat (first | (with_reducible first | exact HB.out | apply ya2 | apply ya0 | apply ya1) | exact HB.out)⟩

 rw [if_pos c2] at H
 have c2b0 : decide (9 < a0) = true := decide_eq_true c2
 clear c2
 obtain ⟨y222, hy222⟩ : ∃ y_ : List Int, y_ = (([(wrap64 (48 + (wrap64 (Int.tdiv a0 10)))) % 256] : List Int)) := ⟨_, rfl⟩
 replace H : (if (strOfNums y222).size + (strOfNums y219).size ≤ 9223372036854775807 then (some ((strOfNums y222) ++ (strOfNums y219))) else (none)) = some r := by first | (rw [hy222]; with_reducible exact H) | (have H2_ := (Option.bind_some _ _).symm.trans H; rw [hy222]; with_reducible exact H2_) | (have H2_ := (Option.bind_some _ _).symm.trans H; with_reducible exact H2_) | with_reducible exact H | (rw [hy222]; exact H) | exact H
 have Ny222 := Aside0.mk hy222
 clear hy222
 by_cases c3 : (strOfNums y222).size + (strOfNums y219).size ≤ 9223372036854775807
 rotate_left 1
 ·rw [if_neg c3] at H
  exact absurd H (by simp)
 rw [if_pos c3] at H
 have c3b0 := eq_true c3
 have c3b1 : decide ((strOfNums y222).size + (strOfNums y219).size ≤ 9223372036854775807) = true := decide_eq_true c3
 try have c3b2 : (9223372036854775807 < (strOfNums y222).size + (strOfNums y219).size) = False := eq_false (Nat.not_lt.2 c3)
 obtain rfl := Option.some.inj H
 go_enter Tryd.func74, Tryd.ntmps74
 go_wp2_with (first | ((with_reducible refine yd2 (N := 8) rfl ?_); refine Kd.R_lit (Kd.int .u8) _ 5 ?hg (N := 8) ?hd (xs := ([(wrap64 (48 + (Int.tmod a0 10))) % 256] : List Int)) (inner := [.int .u8 ((wrap64 (48 + (Int.tmod a0 10))) % 256)]) (ok := fun _ => True) (okp := fun _ => True) ?hr ?hp (fun _ hk => hk) trivial (Below.refl _ _) (Nat.le_refl _) (by simp) ?_; (case hd => rfl); (case hg => rfl); (case hr => first | (go_simp; done) | (go_simp; rfl)); (case hp => exact (Reps.one (show Kd.M (Kd.int .u8) _ _ _ ((wrap64 (48 + (Int.tmod a0 10))) % 256) [.int .u8 ((wrap64 (48 + (Int.tmod a0 10))) % 256)] from rfl) (Reps.none _ _))); intro v220 w4 ho5 hb hg_ hnew_; clear hg_ hnew_; (first | rw [← Ny219.out] at ho5 | (simp only [Int.reduceToNat] at ho5; rw [← Ny219.out] at ho5)); have n0_ := Aside0.mk (Kd.yh3 ho5 (yb4 (by repeat (first | (with_reducible first | exact HB.out | apply ya2 | apply ya0 | apply ya1) | exact HB.out)))); have n1_ := Aside0.mk (ya7 (by repeat (first | (with_reducible first | exact HB.out | apply ya2 | apply ya0 | apply ya1) | exact HB.out)) hb); clear HB; have HO221 := n0_; have HB := n1_; clear n0_ n1_; clear hb ho5; have hcv6 := yi1 (P := Tryd.prog) Tryd.underlying69 Tryd.underlying5 Tryd.underlying9 (Kd.yg3 HO221.out)) | ((with_reducible refine yd2 (N := 16) rfl ?_); refine Kd.R_lit (Kd.int .u8) _ 5 ?hg (N := 16) ?hd (xs := ([(wrap64 (48 + (wrap64 (Int.tdiv a0 10)))) % 256] : List Int)) (inner := [.int .u8 ((wrap64 (48 + (wrap64 (Int.tdiv a0 10)))) % 256)]) (ok := fun _ => True) (okp := fun _ => True) ?hr ?hp (fun _ hk => hk) trivial (Below.refl _ _) (Nat.le_refl _) (by simp) ?_; (case hd => rfl); (case hg => rfl); (case hr => first | (go_simp; done) | (go_simp; rfl)); (case hp => exact (Reps.one (show Kd.M (Kd.int .u8) _ _ _ ((wrap64 (48 + (wrap64 (Int.tdiv a0 10)))) % 256) [.int .u8 ((wrap64 (48 + (wrap64 (Int.tdiv a0 10)))) % 256)] from rfl) (Reps.none _ _))); intro v223 w7 ho8 hb hg_ hnew_; clear hg_ hnew_; (first | rw [← Ny222.out] at ho8 | (simp only [Int.reduceToNat] at ho8; rw [← Ny222.out] at ho8)); have n0_ := Aside0.mk (Kd.R_elder' (by (with_reducible repeat (first | apply Kd.yc7 | apply Kd.R_drewN | apply Kd.R_drew)); exact HO221.out) (Kd.R_base ho8) hb); have n1_ := Aside0.mk (Kd.yh3 (Kd.R_new' ho8 (Kd.R_lt (by (with_reducible repeat (first | apply Kd.yc7 | apply Kd.R_drewN | apply Kd.R_drew)); exact HO221.out))) (yb4 (by repeat (first | (with_reducible first | exact HB.out | apply ya2 | apply ya0 | apply ya1) | exact HB.out)))); have n2_ := Aside0.mk (ya7 (by repeat (first | (with_reducible first | exact HB.out | apply ya2 | apply ya0 | apply ya1) | exact HB.out)) hb); clear HO221; clear HB; have HO221 := n0_; have HO224 := n1_; have HB := n2_; clear n0_ n1_ n2_; clear hb ho8; have hcv9 := yi1 (P := Tryd.prog) Tryd.underlying69 Tryd.underlying5 Tryd.underlying9 (Kd.yg3 HO224.out)))
 go_ret
 exact ⟨by first | rfl | (simp [yb3, yb2] <;> rfl) | (simp [*, yb3, yb2] <;> rfl), by repeat (first | (with_reducible first | exact HB.out | apply ya2 | apply ya0 | apply ya1) | exact HB.out)⟩
end Go.Proofs.YtffpbhbiamkkpaaDoor.PR
