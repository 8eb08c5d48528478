import Derived.Test.YtidkjifilgjgfaaDoorMx10
-- PRINTED by print.py (a twelfth state) out of the translation. Not trusted: Lean checks it.
namespace Go.Proofs.YtidkjifilgjgfaaDoor.PU
open Go.RowKit Go.Proofs.YtidkjifilgjgfaaDoorW.PrintWords Go.Proofs.YtidkjifilgjgfaaDoorW.PrintLast Go.Proofs.YtidkjifilgjgfaaDoorW.PrintMore
attribute [local go_sem] yg8 yg6 yh9 yh8 yf9 yf8 yg7 yg5   -- for this text's walks alone
set_option linter.unusedVariables false
set_option linter.unusedSimpArgs false

def yj3.f (a0 : Int) : Option (Int × Int) := if a0 < 128 then (some (1, wrap32 (a0))) else (if (a0 / 32) = 6 then (some (2, wrap32 (Go.bits .and .u8 a0 31))) else (if (a0 / 16) = 14 then (some (3, wrap32 (Go.bits .and .u8 a0 15))) else (if (a0 / 8) = 30 then (some (4, wrap32 (Go.bits .and .u8 a0 7))) else (some (0, 0)))))
set_option maxHeartbeats 8000000 in
set_option maxRecDepth 100000 in
theorem yj3.calls (a0 : Int) (r1 : Int) (r2 : Int) (w : World) (h : yj3.f a0 = some (r1, r2)) :
  Calls Tryd.prog 74 #[.int .u8 a0] w fun e w' => e = .returned (.tuple #[.int .i64 r1, .int .i32 r2]) ∧ Drawn0 w w' := by
 have H : (if a0 < 128 then (some (1, wrap32 (a0))) else (if (a0 / 32) = 6 then (some (2, wrap32 (Go.bits .and .u8 a0 31))) else (if (a0 / 16) = 14 then (some (3, wrap32 (Go.bits .and .u8 a0 15))) else (if (a0 / 8) = 30 then (some (4, wrap32 (Go.bits .and .u8 a0 7))) else (some (0, 0)))))) = some (r1, r2) := h
 clear h
 by_cases c2 : a0 < 128
 ·rw [if_pos c2] at H
  have c2b0 : decide (a0 < 128) = true := decide_eq_true c2
  clear c2
  simp only [Option.some.injEq, Prod.mk.injEq] at H
  obtain ⟨rfl, rfl⟩ := H
  go_enter Tryd.func74, Tryd.ntmps74
  go_wp2
  go_ret2
  exact ⟨by first | rfl | (simp; done) | (simp [*]; done), by repeat (first | exact Drawn0.refl _ | apply Drawn0.step)⟩
 ·rw [if_neg c2] at H
  have c2b0 : decide (a0 < 128) = false := decide_eq_false c2
  clear c2
  by_cases c3 : (a0 / 32) = 6
  ·rw [if_pos c3] at H
   have c3b0 : ((a0 / 32) == 6) = true := beq_iff_eq.mpr c3
   have c3b1 : ((a0 / 32) != 6) = false := bne_eq_false_iff_eq.mpr c3
   clear c3
   simp only [Option.some.injEq, Prod.mk.injEq] at H
   obtain ⟨rfl, rfl⟩ := H
   go_enter Tryd.func74, Tryd.ntmps74
   go_wp2
   go_ret2
   exact ⟨by first | rfl | (simp; done) | (simp [*]; done), by repeat (first | exact Drawn0.refl _ | apply Drawn0.step)⟩
  ·rw [if_neg c3] at H
   have c3b0 : ((a0 / 32) == 6) = false := beq_eq_false_iff_ne.mpr c3
   have c3b1 : ((a0 / 32) != 6) = true := bne_iff_ne.mpr c3
   by_cases c4 : (a0 / 16) = 14
   ·rw [if_pos c4] at H
    have c4b0 : ((a0 / 16) == 14) = true := beq_iff_eq.mpr c4
    have c4b1 : ((a0 / 16) != 14) = false := bne_eq_false_iff_eq.mpr c4
    clear c4
    simp only [Option.some.injEq, Prod.mk.injEq] at H
    obtain ⟨rfl, rfl⟩ := H
    go_enter Tryd.func74, Tryd.ntmps74
    go_wp2
    go_ret2
    exact ⟨by first | rfl | (simp; done) | (simp [*]; done), by repeat (first | exact Drawn0.refl _ | apply Drawn0.step)⟩
   ·rw [if_neg c4] at H
    have c4b0 : ((a0 / 16) == 14) = false := beq_eq_false_iff_ne.mpr c4
    have c4b1 : ((a0 / 16) != 14) = true := bne_iff_ne.mpr c4
    by_cases c5 : (a0 / 8) = 30
    ·rw [if_pos c5] at H
     have c5b0 : ((a0 / 8) == 30) = true := beq_iff_eq.mpr c5
     have c5b1 : ((a0 / 8) != 30) = false := bne_eq_false_iff_eq.mpr c5
     clear c5
     simp only [Option.some.injEq, Prod.mk.injEq] at H
     obtain ⟨rfl, rfl⟩ := H
     go_enter Tryd.func74, Tryd.ntmps74
     go_wp2
     go_ret2
     exact ⟨by first | rfl | (simp; done) | (simp [*]; done), by repeat (first | exact Drawn0.refl _ | apply Drawn0.step)⟩
    ·rw [if_neg c5] at H
     have c5b0 : ((a0 / 8) == 30) = false := beq_eq_false_iff_ne.mpr c5
     have c5b1 : ((a0 / 8) != 30) = true := bne_iff_ne.mpr c5
     simp only [Option.some.injEq, Prod.mk.injEq] at H
     obtain ⟨rfl, rfl⟩ := H
     go_enter Tryd.func74, Tryd.ntmps74
     go_wp2
     go_ret2
     exact ⟨by first | rfl | (simp; done) | (simp [*]; done), by repeat (first | exact Drawn0.refl _ | apply Drawn0.step)⟩

def yi6.f (a0 : Int) : Option (Int) := if a0 = 2 then (some 128) else (if a0 = 3 then (some 2048) else (if a0 = 4 then (some 65536) else (some 0)))
set_option maxHeartbeats 8000000 in
set_option maxRecDepth 100000 in
theorem yi6.calls (a0 : Int) (r : Int) (w : World) (h : yi6.f a0 = some r) :
  Calls Tryd.prog 75 #[.int .i64 a0] w fun e w' => e = .returned (.int .i32 r) ∧ Drawn0 w w' := by
 have H : (if a0 = 2 then (some 128) else (if a0 = 3 then (some 2048) else (if a0 = 4 then (some 65536) else (some 0)))) = some r := h
 clear h
 by_cases c2 : a0 = 2
 ·rw [if_pos c2] at H
  have c2b0 : (a0 == 2) = true := beq_iff_eq.mpr c2
  have c2b1 : (a0 != 2) = false := bne_eq_false_iff_eq.mpr c2
  clear c2
  obtain rfl := Option.some.inj H
  go_enter Tryd.func75, Tryd.ntmps75
  go_wp2
  go_ret
  exact ⟨by first | rfl | (simp; done) | (simp [*]; done), by repeat (first | exact Drawn0.refl _ | apply Drawn0.step)⟩
 ·rw [if_neg c2] at H
  have c2b0 : (a0 == 2) = false := beq_eq_false_iff_ne.mpr c2
  have c2b1 : (a0 != 2) = true := bne_iff_ne.mpr c2
  by_cases c3 : a0 = 3
  ·rw [if_pos c3] at H
   have c3b0 : (a0 == 3) = true := beq_iff_eq.mpr c3
   have c3b1 : (a0 != 3) = false := bne_eq_false_iff_eq.mpr c3
   clear c3
   obtain rfl := Option.some.inj H
   go_enter Tryd.func75, Tryd.ntmps75
   go_wp2
   go_ret
   exact ⟨by first | rfl | (simp; done) | (simp [*]; done), by repeat (first | exact Drawn0.refl _ | apply Drawn0.step)⟩
  ·rw [if_neg c3] at H
   have c3b0 : (a0 == 3) = false := beq_eq_false_iff_ne.mpr c3
   have c3b1 : (a0 != 3) = true := bne_iff_ne.mpr c3
   by_cases c4 : a0 = 4
   ·rw [if_pos c4] at H
    have c4b0 : (a0 == 4) = true := beq_iff_eq.mpr c4
    have c4b1 : (a0 != 4) = false := bne_eq_false_iff_eq.mpr c4
    clear c4
    obtain rfl := Option.some.inj H
    go_enter Tryd.func75, Tryd.ntmps75
    go_wp2
    go_ret
    exact ⟨by first | rfl | (simp; done) | (simp [*]; done), by repeat (first | exact Drawn0.refl _ | apply Drawn0.step)⟩
   ·rw [if_neg c4] at H
    have c4b0 : (a0 == 4) = false := beq_eq_false_iff_ne.mpr c4
    have c4b1 : (a0 != 4) = true := bne_iff_ne.mpr c4
    obtain rfl := Option.some.inj H
    go_enter Tryd.func75, Tryd.ntmps75
    go_wp2
    go_ret
    exact ⟨by first | rfl | (simp; done) | (simp [*]; done), by repeat (first | exact Drawn0.refl _ | apply Drawn0.step)⟩

abbrev yf5.f := @Go.Proofs.YtidkjifilgjgfaaDoor.PL.yf5.f
theorem yf5.calls (a0 : Int) (r : Bool) (w : World) (h : yf5.f a0 = some r) :
  Calls Tryd.prog 76 #[.int .i32 a0] w fun e w' => e = .returned (.bool r) ∧ Drawn0 w w' := Go.Proofs.YtidkjifilgjgfaaDoor.PL.yf5.calls a0 r w h

def yk4 : Int → List Int → Option Int
 | r, [] => some r
 | r, c :: l => if c / 64 = 2 then yk4 (Go.bits .or .i32 (wrap32 (r * 64)) (c % 64)) l else none
def yg2.f (a0 : ByteArray) (a1 : Int) : Option (Int × Int) :=
 if (a0.size : Int) ≤ 140737488351232 then
 if a1 < 0 then some (0, 0) else if a1 ≥ a0.size then some (0, 0) else
 (yj3.f (bt a0 a1)).bind fun p => if p.1 = 0 then some (0, 0) else if p.1 > (a0.size : Int) - a1 then some (0, 0) else
 if 1 ≤ p.1 then
 match yk4 p.2 (bytesOf (a0.extract (a1 + 1).toNat (a1 + p.1).toNat)) with
 | none => some (0, 0)
 | some r => (yi6.f p.1).bind fun m => if r < m then some (0, 0) else (yf5.f r).bind fun b => if b = true then some (r, p.1) else some (0, 0)
 else none
 else none

set_option maxHeartbeats 1000000 in
set_option maxRecDepth 100000 in
theorem yg2.calls (a0 : ByteArray) (a1 : Int) (r1 : Int) (r2 : Int) (w : World) (h : yg2.f a0 a1 = some (r1, r2)) :
  Calls Tryd.prog 61 #[.string a0, .int .i64 a1] w fun e w' => e = .returned (.tuple #[.int .i32 r1, .int .i64 r2]) ∧ Below w.heap.size w w' := by
 unfold yg2.f at h
 by_cases hsz : (a0.size : Int) ≤ 140737488351232
 rotate_left 1
 ·rw [if_neg hsz] at h
  exact absurd h (by simp)
 rw [if_pos hsz] at h
 by_cases h0 : a1 < 0
 ·rw [if_pos h0] at h
  obtain ⟨rfl, rfl⟩ := Prod.mk.inj (Option.some.inj h)
  clear h
  go_enter Tryd.func61, Tryd.ntmps61
  go_wp2
  go_ret2
  exact ⟨rfl, Below.refl _ _⟩
 rw [if_neg h0] at h
 by_cases h1 : a1 ≥ a0.size
 ·rw [if_pos h1] at h
  obtain ⟨rfl, rfl⟩ := Prod.mk.inj (Option.some.inj h)
  clear h
  go_enter Tryd.func61, Tryd.ntmps61
  go_wp2
  go_ret2
  exact ⟨rfl, Below.refl _ _⟩
 rw [if_neg h1] at h
 obtain ⟨p, hp, h⟩ := Option.bind_eq_some_iff.1 h
 obtain ⟨n, r0⟩ := p
 have HP := Aside0.mk hp
 clear hp
 have hlt : a1 < (a0.size : Int) := by omega
 have hge : 0 ≤ a1 := by omega
 have hix := bt_at a0 a1
 have e1 := eq_true hge
 have e2 := eq_true hlt
 by_cases hn : n = 0
 ·simp only [hn, if_true] at h
  obtain ⟨rfl, rfl⟩ := Prod.mk.inj (Option.some.inj h)
  clear h
  subst hn
  go_enter Tryd.func61, Tryd.ntmps61
  go_wp2_with (go_at_call 74; (with_reducible refine (yj3.calls (bt a0 a1) 0 r0 _ HP.out).mono ?_); rintro e w' ⟨rfl, ⟨nd, rfl⟩⟩)
  go_ret2
  exact ⟨rfl, by first | exact Below.refl _ _ | exact ya0 (Below.refl _ _) _⟩
 simp only [hn, if_false] at h
 have hnb : (n == 0) = false := beq_eq_false_iff_ne.mpr hn
 by_cases hbig : n > (a0.size : Int) - a1
 ·rw [if_pos hbig] at h
  obtain ⟨rfl, rfl⟩ := Prod.mk.inj (Option.some.inj h)
  clear h
  have hb1 : decide (n > (a0.size : Int) - a1) = true := decide_eq_true hbig
  have hb2 : decide ((a0.size : Int) - a1 < n) = true := decide_eq_true hbig
  clear hbig hn
  go_enter Tryd.func61, Tryd.ntmps61
  go_wp2_with (go_at_call 74; (with_reducible refine (yj3.calls (bt a0 a1) n r0 _ HP.out).mono ?_); rintro e w' ⟨rfl, ⟨nd, rfl⟩⟩)
  go_ret2
  exact ⟨rfl, by first | exact Below.refl _ _ | exact ya0 (Below.refl _ _) _⟩
 rw [if_neg hbig] at h
 have hb1 : decide (n > (a0.size : Int) - a1) = false := decide_eq_false hbig
 have hb2 : decide ((a0.size : Int) - a1 < n) = false := decide_eq_false hbig
 clear hbig hn
 by_cases hsl : 1 ≤ n
 rotate_left 1
 ·rw [if_neg hsl] at h
  exact absurd h (by simp)
 rw [if_pos hsl] at h
 have hnd : n ≤ (a0.size : Int) - a1 := by have := of_decide_eq_false hb1; omega
 have kb := fun (s : ByteArray) (W : World) => print_bytes (P := Tryd.prog) 9 71 5 Tryd.underlying9 Tryd.underlying71 Tryd.underlying5 s W
 obtain ⟨t, ht⟩ : ∃ t, t = a0.extract (a1 + 1).toNat (a1 + n).toNat := ⟨_, rfl⟩
 have ksl : ∀ (W : World), (Instr.slice 9 (.string a0) (some (.int .i64 (a1 + 1))) (some (.int .i64 (a1 + n))) none).run Tryd.prog W = .ok (.string t) W := fun W => by rw [ht]; exact run_slice_string (P := Tryd.prog) W 9 a0 .i64 .i64 (a1 + 1) (a1 + n) Tryd.underlying9 (by omega) (by omega) (by omega)
 have hts : t.size ≤ 140737488351232 := by rw [ht]; simp; omega
 rw [← ht] at h
 have H := Aside0.mk h
 clear h ht
 have hs0 : (a1 + 1).toNat = a1.toNat + 1 := by omega
 clear hs0
 go_enter Tryd.func61, Tryd.ntmps61
 go_wp2_with (go_at_call 74; (with_reducible refine (yj3.calls (bt a0 a1) n r0 _ HP.out).mono ?_); rintro e w' ⟨rfl, ⟨nd, rfl⟩⟩)
 have HBY : Below w.heap.size w (Lib.bytesWorld (w.drewN nd) 5 t) := bytes_below (ya0 (Below.refl _ _) nd) (Nat.le_refl _) 5 t
 have hrd := bytes_reads (w.drewN nd) 5 t (by omega)
 have hcell : ∀ k : Nat, k < t.size → (Lib.bytesWorld (w.drewN nd) 5 t).cell? ⟨w.heap.size, k, none⟩ = some (.int .u8 (bt t k)) := by
  intro k hk
  have := Lib.bytesWorld_cell (w.drewN nd) 5 t k hk
  have hk2 : (k : Int).toNat = k := by omega
  have e3 : (w.drewN nd).heap.size = w.heap.size := rfl
  rw [e3] at this
  rw [this]
  unfold bt
  rw [hk2, dif_pos hk]
  have h' : k < t.data.toList.length := by rw [yj8]; exact hk
  simp [List.getD_eq_getElem?_getD, List.getElem?_eq_getElem h']
  rfl
 have HCELL := Aside0.mk hcell
 clear hcell hrd
 go_loop [4, 5, 42] (fun r v5 i => ∃ (k : Nat) (q : Int), k ≤ t.size ∧ i = .int .i64 k ∧ r = .int .i32 q ∧ v5 = .int .i64 n ∧ Aside0 ((match yk4 q ((bytesOf t).drop k) with | none => some (0, 0) | some r => (yi6.f n).bind fun m => if r < m then some (0, 0) else (yf5.f r).bind fun b => if b = true then some (r, n) else some (0, 0)) = some (r1, r2))) (fun _ _ i => t.size - (intOf i).toNat)
 case atStart => exact ⟨0, r0, Nat.zero_le _, rfl, rfl, rfl, H⟩
 case round =>
  obtain ⟨k, q, hk, rfl, rfl, rfl, HH⟩ := hrel
  clear H
  by_cases hkt : k < t.size
  ·have hc := HCELL.out k hkt
   have hbt := bt_range t k
   obtain ⟨b0, b1⟩ := hbt
   have hdr : (bytesOf t).drop k = bt t k :: (bytesOf t).drop (k + 1) := by
    have hl : k < (bytesOf t).length := by rw [bytesOf_length]; exact hkt
    rw [List.drop_eq_getElem_cons hl]
    congr 1
    have := rd_bytesOf t k
    unfold rd at this
    rw [← this]
    simp [hl]
   have HD := Aside0.mk hdr
   clear hdr
   by_cases h64 : bt t k / 64 = 2
   ·have g1 : ((bt t k / 64) != 2) = false := bne_eq_false_iff_eq.mpr h64
    have HG := Aside0.mk h64
    clear h64
    go_wp2
    refine ⟨⟨k + 1, _, by omega, by simp, rfl, rfl, ⟨?_⟩⟩, by simp [intOf]; omega⟩
    have := HH.out
    rw [HD.out] at this
    simp only [yk4] at this
    rw [if_pos HG.out] at this
    exact this
   ·have g1 : ((bt t k / 64) != 2) = true := by rw [bne_iff_ne]; exact h64
    have HG := Aside0.mk h64
    clear h64
    go_wp2
    go_ret2
    have := HH.out
    rw [HD.out] at this
    simp only [yk4] at this
    rw [if_neg HG.out] at this
    obtain ⟨rfl, rfl⟩ := Prod.mk.inj (Option.some.inj this)
    exact ⟨rfl, HBY⟩
  ·have hke : k = t.size := by omega
   have hd : (bytesOf t).drop k = [] := List.drop_of_length_le (by rw [bytesOf_length]; omega)
   have hf := HH.out
   rw [hd] at hf
   simp only [yk4] at hf
   obtain ⟨m, hm, hf⟩ := Option.bind_eq_some_iff.1 hf
   have HM := Aside0.mk hm
   have hkl : decide (k < t.size) = false := decide_eq_false hkt
   clear hm HH
   by_cases hqm : q < m
   ·rw [if_pos hqm] at hf
    obtain ⟨rfl, rfl⟩ := Prod.mk.inj (Option.some.inj hf)
    have hq1 : decide (q < m) = true := decide_eq_true hqm
    clear hf hqm hd hke
    go_wp2_with (go_at_call 75; refine (yi6.calls n m _ HM.out).mono ?_; rintro e w' ⟨rfl, ⟨nd2, rfl⟩⟩)
    go_ret2
    exact ⟨rfl, by (with_reducible repeat (first | exact HBY | apply ya0 | apply ya1))⟩
   ·rw [if_neg hqm] at hf
    obtain ⟨sb, hsb, hf⟩ := Option.bind_eq_some_iff.1 hf
    have HS := Aside0.mk hsb
    have hq1 : decide (q < m) = false := decide_eq_false hqm
    clear hsb hqm hd hke
    cases sb with
    | true =>
     simp only [if_true] at hf
     obtain ⟨rfl, rfl⟩ := Prod.mk.inj (Option.some.inj hf)
     clear hf
     go_wp2_with (first | (go_at_call 75; refine (yi6.calls n m _ HM.out).mono ?_; rintro e w' ⟨rfl, ⟨nd2, rfl⟩⟩) | (go_at_call 76; refine (yf5.calls q true _ HS.out).mono ?_; rintro e w' ⟨rfl, ⟨nd3, rfl⟩⟩))
     go_ret2
     exact ⟨rfl, by (with_reducible repeat (first | exact HBY | apply ya0 | apply ya1))⟩
    | false =>
     simp only [Bool.false_eq_true, if_false] at hf
     obtain ⟨rfl, rfl⟩ := Prod.mk.inj (Option.some.inj hf)
     clear hf
     go_wp2_with (first | (go_at_call 75; refine (yi6.calls n m _ HM.out).mono ?_; rintro e w' ⟨rfl, ⟨nd2, rfl⟩⟩) | (go_at_call 76; refine (yf5.calls q false _ HS.out).mono ?_; rintro e w' ⟨rfl, ⟨nd3, rfl⟩⟩))
     go_ret2
     exact ⟨rfl, by (with_reducible repeat (first | exact HBY | apply ya0 | apply ya1))⟩

end Go.Proofs.YtidkjifilgjgfaaDoor.PU
