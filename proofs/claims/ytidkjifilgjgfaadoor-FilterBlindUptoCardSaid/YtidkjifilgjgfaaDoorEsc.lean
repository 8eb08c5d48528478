/- print.Escape: byte by byte. -/
import Derived.Test.YtidkjifilgjgfaaDoorMx14
namespace Go.Proofs.YtidkjifilgjgfaaDoor.Esc
open Go.RowKit Go.Proofs.YtidkjifilgjgfaaDoorW.PrintWords Go.Proofs.YtidkjifilgjgfaaDoorW.PrintLast Go.Proofs.YtidkjifilgjgfaaDoorW.PrintMore Go.Plain
set_option linter.unusedVariables false
/-- A byte, escaped. -/
def escB (attr : Bool) (c : UInt8) : List UInt8 :=
  if c = 38 then [38, 97, 109, 112, 59] else if c = 60 then [38, 108, 116, 59] else if c = 62 ∧ attr = false then [38, 103, 116, 59]
  else if c = 34 ∧ attr = true then [38, 113, 117, 111, 116, 59] else if c = 13 then [38, 35, 49, 51, 59]
  else if c = 9 ∧ attr = true then [38, 35, 57, 59] else if c = 10 ∧ attr = true then [38, 35, 49, 48, 59] else [c]
def esc (attr : Bool) (l : List UInt8) : List UInt8 := l.flatMap (escB attr)
theorem escB_len (attr : Bool) (c : UInt8) : (escB attr c).length ≤ 6 := by
  unfold escB
  repeat' split
  all_goals simp
theorem yo8 (attr : Bool) : ∀ l : List UInt8, (esc attr l).length ≤ 6 * l.length
  | [] => by simp [esc]
  | c :: l => by
    have := yo8 attr l
    have := escB_len attr c
    simp [esc] at *
    omega
theorem take_succ (l : List UInt8) (i : Nat) (h : i < l.length) : l.take (i + 1) = l.take i ++ [l[i]] := by rw [List.take_add_one, List.getElem?_eq_getElem h]; rfl
theorem esc_step (attr : Bool) (l : List UInt8) (i : Nat) (h : i < l.length) : esc attr (l.take (i + 1)) = esc attr (l.take i) ++ escB attr l[i] := by
  unfold esc
  rw [take_succ l i h, List.flatMap_append]
  simp only [List.flatMap_cons, List.flatMap_nil, List.append_nil]
abbrev BD (b : Nat) (l : List UInt8) (w : World) : Prop := Lib.IsBuilder 73 5 b b (Lib.byteCells l) w
theorem ws (b : Nat) (l : List UInt8) (s : List UInt8) (w : World) (h : BD b l w) (hl : l.length ≤ 120000000) (hs : s.length ≤ 6) (hb : b ≤ w.heap.size) :
    Calls Tryd.prog 52 #[.pointer (some ⟨b, 0, none⟩), .string ⟨s.toArray⟩] w fun e w' => e = .returned (.tuple #[.int .i64 ((⟨s.toArray⟩ : ByteArray).size), .nilIface]) ∧ (BD b (l ++ s) w' ∧ Below b w w') := by
  refine (Bld.writeString 73 Bld.home_builder b b (Lib.byteCells l) ⟨s.toArray⟩ w h (by rw [PL.mk_size]; simp only [Lib.byteCells, List.length_map]; omega) hb).mono ?_
  rintro e w' ⟨he, hd, hbl⟩
  refine ⟨he, Or.inr ?_, hbl⟩
  have e := PL.lex_Unescape_cells l ⟨s.toArray⟩
  rw [show (⟨s.toArray⟩ : ByteArray).data.toList = s from rfl] at e
  rw [e]; exact hd
theorem wb (b : Nat) (l : List UInt8) (c : UInt8) (x : Int) (hx : (c.toNat : Int) = x) (w : World) (h : BD b l w) (hl : l.length ≤ 120000000) (hb : b ≤ w.heap.size) :
    Calls Tryd.prog 53 #[.pointer (some ⟨b, 0, none⟩), .int .u8 x] w fun e w' => e = .returned .nilIface ∧ (BD b (l ++ [c]) w' ∧ Below b w w') := by
  subst hx
  refine (Bld.writeByte 73 Bld.home_builder b b (Lib.byteCells l) (c.toNat : Int) w h (by simp only [Lib.byteCells, List.length_map]; omega) hb).mono ?_
  rintro e w' ⟨he, hd, hbl⟩
  refine ⟨he, Or.inr ?_, hbl⟩
  have e : Lib.byteCells (l ++ [c]) = Lib.byteCells l ++ [.int .u8 (c.toNat : Int)] := by simp [Lib.byteCells]
  rw [e]; exact hd

theorem itoa_13 : Lib.itoa 13 = [49, 51] := by decide +kernel
theorem itoa_9 : Lib.itoa 9 = [57] := by decide +kernel
theorem itoa_10 : Lib.itoa 10 = [49, 48] := by decide +kernel
theorem yr5 (n : Nat) (x : Int) (hx : (n : Int) = x) (l : List UInt8) (hl : Lib.itoa x = l) (hn : n < 2147483648) (w : World) (h : Refs.Tens w) : Calls Tryd.prog 39 #[.int .i64 x] w fun e w' => e = .returned (.string ⟨l.toArray⟩) ∧ Below w.heap.size w w' := by
  subst hx
  rw [← hl]; exact Refs.yo5 n hn w h
theorem cases8 (c : UInt8) : c = 38 ∨ c = 60 ∨ c = 62 ∨ c = 34 ∨ c = 13 ∨ c = 9 ∨ c = 10 ∨ (c ≠ 38 ∧ c ≠ 60 ∧ c ≠ 62 ∧ c ≠ 34 ∧ c ≠ 13 ∧ c ≠ 9 ∧ c ≠ 10) := by
  by_cases h1 : c = 38
  · exact Or.inl h1
  by_cases h2 : c = 60
  · exact Or.inr (Or.inl h2)
  by_cases h3 : c = 62
  · exact Or.inr (Or.inr (Or.inl h3))
  by_cases h4 : c = 34
  · exact Or.inr (Or.inr (Or.inr (Or.inl h4)))
  by_cases h5 : c = 13
  · exact Or.inr (Or.inr (Or.inr (Or.inr (Or.inl h5))))
  by_cases h6 : c = 9
  · exact Or.inr (Or.inr (Or.inr (Or.inr (Or.inr (Or.inl h6)))))
  by_cases h7 : c = 10
  · exact Or.inr (Or.inr (Or.inr (Or.inr (Or.inr (Or.inr (Or.inl h7))))))
  exact Or.inr (Or.inr (Or.inr (Or.inr (Or.inr (Or.inr (Or.inr ⟨h1, h2, h3, h4, h5, h6, h7⟩))))))
theorem escB_plain (attr : Bool) (c : UInt8) (h : c ≠ 38 ∧ c ≠ 60 ∧ c ≠ 62 ∧ c ≠ 34 ∧ c ≠ 13 ∧ c ≠ 9 ∧ c ≠ 10) : escB attr c = [c] := by
  obtain ⟨h1, h2, h3, h4, h5, h6, h7⟩ := h
  simp [escB, h1, h2, h3, h4, h5, h6, h7]
set_option maxHeartbeats 4000000 in
set_option maxRecDepth 100000 in

theorem escape_calls (s : ByteArray) (attr : Bool) (w : World) (h : Refs.Tens w) (hs : s.size ≤ 18000000) :
    Calls Tryd.prog 43 #[.string s, .bool attr] w fun e w' => e = .returned (.string ⟨(esc attr s.data.toList).toArray⟩) ∧ Below w.heap.size w w' := by
  have HT := Aside0.mk h
  clear h
  have hB0 : BD w.heap.size [] (w.alloc (.cells #[.pointer none, .slice none 0 0] 73)) := by
    refine Or.inl ⟨Nat.le_refl _, .slice none 0 0, heap_alloc_last w _, ?_, by simp [Value.ownBlock]⟩
    exact ⟨rfl, Or.inl ⟨rfl, rfl⟩⟩
  have HB0 := Aside0.mk hB0
  clear hB0
  go_enter Tryd.func43, Tryd.ntmps43
  go_wp2
  go_loopg [10] s.size (fun m v10 wr => ∃ i : Nat, v10 = .int .i64 (i : Int) ∧ i ≤ s.size ∧ Aside0 (m = s.size - i) ∧ Aside0 (BD w.heap.size (esc attr (s.data.toList.take i)) wr) ∧ Aside0 (Below w.heap.size w wr))
  case atStart => exact ⟨0, rfl, Nat.zero_le _, ⟨rfl⟩, HB0, ⟨(Below.refl _ _).alloc (Nat.le_refl _) _⟩⟩
  case round =>
    obtain ⟨i, rfl, hi, HM, HBD, HB⟩ := hrel
    by_cases hlt : i < s.size
    · have q1 := eq_true (show (i : Int) < (s.size : Int) by omega)
      obtain ⟨j, hj⟩ : ∃ j, j = i + 1 := ⟨_, rfl⟩
      have f1 : (i : Int) + 1 = (j : Int) := by omega
      have f2 : IntKind.i64.wrap (j : Int) = (j : Int) := IntWalk.i64_in _ (by omega)
      have q2 := eq_true (show (0 : Int) ≤ (i : Int) by omega)
      have q3 := eq_true hlt
      have hl : i < s.data.toList.length := by rw [← Lib.size_eq]; exact hlt
      obtain ⟨c, hc⟩ : ∃ c, c = s.data.toList[i] := ⟨_, rfl⟩
      have hg : ∀ h, s[i]'h = c := fun h => by rw [hc, Array.getElem_toList]; rfl
      obtain ⟨A, hA⟩ : ∃ A, A = esc attr (s.data.toList.take i) := ⟨_, rfl⟩
      have hst := esc_step attr s.data.toList i hl
      rw [← hj, ← hc, ← hA] at hst
      have hal : A.length ≤ 120000000 := by
        have := yo8 attr (s.data.toList.take i)
        rw [List.length_take, ← hA] at this
        omega
      rw [← hA] at HBD
      have HA := Aside0.mk hst
      have HAL := Aside0.mk hal
      have HJ := Aside0.mk hj
      have HS := Aside0.mk HB.out.size
      clear hc hA hst hal hj hl
      rcases cases8 c with rfl | rfl | rfl | rfl | rfl | rfl | rfl | hne
      · cases attr
        · have HE := Aside0.mk (show escB false 38 = [38, 97, 109, 112, 59] by decide)
          go_wp2_with (go_at_call 52; (with_reducible refine (ws w.heap.size A _ _ HBD.out HAL.out (by decide) HS.out).mono ?_); rintro e w2 ⟨rfl, hbd2, hb2⟩)
          go_roundg (s.size - j)
          · exact ⟨j, rfl, by have := HJ.out; omega, Aside0.mk rfl, Aside0.mk (by rw [HA.out, HE.out]; exact hbd2), Aside0.mk (HB.out.trans hb2)⟩
          · have := HJ.out; have := HM.out; omega
        · have HE := Aside0.mk (show escB true 38 = [38, 97, 109, 112, 59] by decide)
          go_wp2_with (go_at_call 52; (with_reducible refine (ws w.heap.size A _ _ HBD.out HAL.out (by decide) HS.out).mono ?_); rintro e w2 ⟨rfl, hbd2, hb2⟩)
          go_roundg (s.size - j)
          · exact ⟨j, rfl, by have := HJ.out; omega, Aside0.mk rfl, Aside0.mk (by rw [HA.out, HE.out]; exact hbd2), Aside0.mk (HB.out.trans hb2)⟩
          · have := HJ.out; have := HM.out; omega
      · cases attr
        · have HE := Aside0.mk (show escB false 60 = [38, 108, 116, 59] by decide)
          go_wp2_with (go_at_call 52; (with_reducible refine (ws w.heap.size A _ _ HBD.out HAL.out (by decide) HS.out).mono ?_); rintro e w2 ⟨rfl, hbd2, hb2⟩)
          go_roundg (s.size - j)
          · exact ⟨j, rfl, by have := HJ.out; omega, Aside0.mk rfl, Aside0.mk (by rw [HA.out, HE.out]; exact hbd2), Aside0.mk (HB.out.trans hb2)⟩
          · have := HJ.out; have := HM.out; omega
        · have HE := Aside0.mk (show escB true 60 = [38, 108, 116, 59] by decide)
          go_wp2_with (go_at_call 52; (with_reducible refine (ws w.heap.size A _ _ HBD.out HAL.out (by decide) HS.out).mono ?_); rintro e w2 ⟨rfl, hbd2, hb2⟩)
          go_roundg (s.size - j)
          · exact ⟨j, rfl, by have := HJ.out; omega, Aside0.mk rfl, Aside0.mk (by rw [HA.out, HE.out]; exact hbd2), Aside0.mk (HB.out.trans hb2)⟩
          · have := HJ.out; have := HM.out; omega
      · cases attr
        · have HE := Aside0.mk (show escB false 62 = [38, 103, 116, 59] by decide)
          go_wp2_with (go_at_call 52; (with_reducible refine (ws w.heap.size A _ _ HBD.out HAL.out (by decide) HS.out).mono ?_); rintro e w2 ⟨rfl, hbd2, hb2⟩)
          go_roundg (s.size - j)
          · exact ⟨j, rfl, by have := HJ.out; omega, Aside0.mk rfl, Aside0.mk (by rw [HA.out, HE.out]; exact hbd2), Aside0.mk (HB.out.trans hb2)⟩
          · have := HJ.out; have := HM.out; omega
        · have HE := Aside0.mk (show escB true 62 = [62] by decide)
          go_wp2_with (go_at_call 53; (with_reducible refine (wb w.heap.size A 62 _ (by decide) _ HBD.out HAL.out HS.out).mono ?_); rintro e w2 ⟨rfl, hbd2, hb2⟩)
          go_roundg (s.size - j)
          · exact ⟨j, rfl, by have := HJ.out; omega, Aside0.mk rfl, Aside0.mk (by rw [HA.out, HE.out]; exact hbd2), Aside0.mk (HB.out.trans hb2)⟩
          · have := HJ.out; have := HM.out; omega
      · cases attr
        · have HE := Aside0.mk (show escB false 34 = [34] by decide)
          go_wp2_with (go_at_call 53; (with_reducible refine (wb w.heap.size A 34 _ (by decide) _ HBD.out HAL.out HS.out).mono ?_); rintro e w2 ⟨rfl, hbd2, hb2⟩)
          go_roundg (s.size - j)
          · exact ⟨j, rfl, by have := HJ.out; omega, Aside0.mk rfl, Aside0.mk (by rw [HA.out, HE.out]; exact hbd2), Aside0.mk (HB.out.trans hb2)⟩
          · have := HJ.out; have := HM.out; omega
        · have HE := Aside0.mk (show escB true 34 = [38, 113, 117, 111, 116, 59] by decide)
          go_wp2_with (go_at_call 52; (with_reducible refine (ws w.heap.size A _ _ HBD.out HAL.out (by decide) HS.out).mono ?_); rintro e w2 ⟨rfl, hbd2, hb2⟩)
          go_roundg (s.size - j)
          · exact ⟨j, rfl, by have := HJ.out; omega, Aside0.mk rfl, Aside0.mk (by rw [HA.out, HE.out]; exact hbd2), Aside0.mk (HB.out.trans hb2)⟩
          · have := HJ.out; have := HM.out; omega
      · cases attr
        · have HE := Aside0.mk (show escB false 13 = [38, 35, 49, 51, 59] by decide)
          have HI := Aside0.mk (fun W h => yr5 13 13 rfl [49, 51] itoa_13 (by decide) W h)
          have g1 : (⟨#[38, 35]⟩ ++ ⟨#[49, 51]⟩ : ByteArray) = ⟨#[38, 35, 49, 51]⟩ := rfl
          have g2 : (⟨#[38, 35, 49, 51]⟩ ++ ⟨#[59]⟩ : ByteArray) = ⟨#[38, 35, 49, 51, 59]⟩ := rfl
          go_wp2_with (first | (go_at_call 39; (with_reducible refine (HI.out _ (Refs.yf2 HT.out HB.out)).mono ?_); rintro e w1 ⟨rfl, hb1⟩) | (go_at_call 52; (with_reducible refine (ws w.heap.size A _ _ (PL.yh7 HBD.out hb1) HAL.out (by decide) (Nat.le_trans HS.out hb1.size)).mono ?_); rintro e w2 ⟨rfl, hbd2, hb2⟩))
          go_roundg (s.size - j)
          · exact ⟨j, rfl, by have := HJ.out; omega, Aside0.mk rfl, Aside0.mk (by rw [HA.out, HE.out]; exact hbd2), Aside0.mk (HB.out.trans ((hb1.mono HS.out).trans hb2))⟩
          · have := HJ.out; have := HM.out; omega
        · have HE := Aside0.mk (show escB true 13 = [38, 35, 49, 51, 59] by decide)
          have HI := Aside0.mk (fun W h => yr5 13 13 rfl [49, 51] itoa_13 (by decide) W h)
          have g1 : (⟨#[38, 35]⟩ ++ ⟨#[49, 51]⟩ : ByteArray) = ⟨#[38, 35, 49, 51]⟩ := rfl
          have g2 : (⟨#[38, 35, 49, 51]⟩ ++ ⟨#[59]⟩ : ByteArray) = ⟨#[38, 35, 49, 51, 59]⟩ := rfl
          go_wp2_with (first | (go_at_call 39; (with_reducible refine (HI.out _ (Refs.yf2 HT.out HB.out)).mono ?_); rintro e w1 ⟨rfl, hb1⟩) | (go_at_call 52; (with_reducible refine (ws w.heap.size A _ _ (PL.yh7 HBD.out hb1) HAL.out (by decide) (Nat.le_trans HS.out hb1.size)).mono ?_); rintro e w2 ⟨rfl, hbd2, hb2⟩))
          go_roundg (s.size - j)
          · exact ⟨j, rfl, by have := HJ.out; omega, Aside0.mk rfl, Aside0.mk (by rw [HA.out, HE.out]; exact hbd2), Aside0.mk (HB.out.trans ((hb1.mono HS.out).trans hb2))⟩
          · have := HJ.out; have := HM.out; omega
      · cases attr
        · have HE := Aside0.mk (show escB false 9 = [9] by decide)
          go_wp2_with (go_at_call 53; (with_reducible refine (wb w.heap.size A 9 _ (by decide) _ HBD.out HAL.out HS.out).mono ?_); rintro e w2 ⟨rfl, hbd2, hb2⟩)
          go_roundg (s.size - j)
          · exact ⟨j, rfl, by have := HJ.out; omega, Aside0.mk rfl, Aside0.mk (by rw [HA.out, HE.out]; exact hbd2), Aside0.mk (HB.out.trans hb2)⟩
          · have := HJ.out; have := HM.out; omega
        · have HE := Aside0.mk (show escB true 9 = [38, 35, 57, 59] by decide)
          have HI := Aside0.mk (fun W h => yr5 9 9 rfl [57] itoa_9 (by decide) W h)
          have g1 : (⟨#[38, 35]⟩ ++ ⟨#[57]⟩ : ByteArray) = ⟨#[38, 35, 57]⟩ := rfl
          have g2 : (⟨#[38, 35, 57]⟩ ++ ⟨#[59]⟩ : ByteArray) = ⟨#[38, 35, 57, 59]⟩ := rfl
          go_wp2_with (first | (go_at_call 39; (with_reducible refine (HI.out _ (Refs.yf2 HT.out HB.out)).mono ?_); rintro e w1 ⟨rfl, hb1⟩) | (go_at_call 52; (with_reducible refine (ws w.heap.size A _ _ (PL.yh7 HBD.out hb1) HAL.out (by decide) (Nat.le_trans HS.out hb1.size)).mono ?_); rintro e w2 ⟨rfl, hbd2, hb2⟩))
          go_roundg (s.size - j)
          · exact ⟨j, rfl, by have := HJ.out; omega, Aside0.mk rfl, Aside0.mk (by rw [HA.out, HE.out]; exact hbd2), Aside0.mk (HB.out.trans ((hb1.mono HS.out).trans hb2))⟩
          · have := HJ.out; have := HM.out; omega
      · cases attr
        · have HE := Aside0.mk (show escB false 10 = [10] by decide)
          go_wp2_with (go_at_call 53; (with_reducible refine (wb w.heap.size A 10 _ (by decide) _ HBD.out HAL.out HS.out).mono ?_); rintro e w2 ⟨rfl, hbd2, hb2⟩)
          go_roundg (s.size - j)
          · exact ⟨j, rfl, by have := HJ.out; omega, Aside0.mk rfl, Aside0.mk (by rw [HA.out, HE.out]; exact hbd2), Aside0.mk (HB.out.trans hb2)⟩
          · have := HJ.out; have := HM.out; omega
        · have HE := Aside0.mk (show escB true 10 = [38, 35, 49, 48, 59] by decide)
          have HI := Aside0.mk (fun W h => yr5 10 10 rfl [49, 48] itoa_10 (by decide) W h)
          have g1 : (⟨#[38, 35]⟩ ++ ⟨#[49, 48]⟩ : ByteArray) = ⟨#[38, 35, 49, 48]⟩ := rfl
          have g2 : (⟨#[38, 35, 49, 48]⟩ ++ ⟨#[59]⟩ : ByteArray) = ⟨#[38, 35, 49, 48, 59]⟩ := rfl
          go_wp2_with (first | (go_at_call 39; (with_reducible refine (HI.out _ (Refs.yf2 HT.out HB.out)).mono ?_); rintro e w1 ⟨rfl, hb1⟩) | (go_at_call 52; (with_reducible refine (ws w.heap.size A _ _ (PL.yh7 HBD.out hb1) HAL.out (by decide) (Nat.le_trans HS.out hb1.size)).mono ?_); rintro e w2 ⟨rfl, hbd2, hb2⟩))
          go_roundg (s.size - j)
          · exact ⟨j, rfl, by have := HJ.out; omega, Aside0.mk rfl, Aside0.mk (by rw [HA.out, HE.out]; exact hbd2), Aside0.mk (HB.out.trans ((hb1.mono HS.out).trans hb2))⟩
          · have := HJ.out; have := HM.out; omega
      · have HE := Aside0.mk (escB_plain attr c hne)
        have n0 : ((c.toNat : Int) = 38) = False := eq_false (fun h => hne.1 (UInt8.toNat_inj.1 (show c.toNat = 38 by omega)))
        have m0 : (c.toNat = 38) = False := eq_false (fun h => hne.1 (UInt8.toNat_inj.1 h))
        have l0 : ((c.toNat : Int) == 38) = false := beq_eq_false_iff_ne.2 (fun h => n0.mp h)
        have k0 : decide ((c.toNat : Int) = 38) = false := decide_eq_false (fun h => n0.mp h)
        have n1 : ((c.toNat : Int) = 60) = False := eq_false (fun h => hne.2.1 (UInt8.toNat_inj.1 (show c.toNat = 60 by omega)))
        have m1 : (c.toNat = 60) = False := eq_false (fun h => hne.2.1 (UInt8.toNat_inj.1 h))
        have l1 : ((c.toNat : Int) == 60) = false := beq_eq_false_iff_ne.2 (fun h => n1.mp h)
        have k1 : decide ((c.toNat : Int) = 60) = false := decide_eq_false (fun h => n1.mp h)
        have n2 : ((c.toNat : Int) = 62) = False := eq_false (fun h => hne.2.2.1 (UInt8.toNat_inj.1 (show c.toNat = 62 by omega)))
        have m2 : (c.toNat = 62) = False := eq_false (fun h => hne.2.2.1 (UInt8.toNat_inj.1 h))
        have l2 : ((c.toNat : Int) == 62) = false := beq_eq_false_iff_ne.2 (fun h => n2.mp h)
        have k2 : decide ((c.toNat : Int) = 62) = false := decide_eq_false (fun h => n2.mp h)
        have n3 : ((c.toNat : Int) = 34) = False := eq_false (fun h => hne.2.2.2.1 (UInt8.toNat_inj.1 (show c.toNat = 34 by omega)))
        have m3 : (c.toNat = 34) = False := eq_false (fun h => hne.2.2.2.1 (UInt8.toNat_inj.1 h))
        have l3 : ((c.toNat : Int) == 34) = false := beq_eq_false_iff_ne.2 (fun h => n3.mp h)
        have k3 : decide ((c.toNat : Int) = 34) = false := decide_eq_false (fun h => n3.mp h)
        have n4 : ((c.toNat : Int) = 13) = False := eq_false (fun h => hne.2.2.2.2.1 (UInt8.toNat_inj.1 (show c.toNat = 13 by omega)))
        have m4 : (c.toNat = 13) = False := eq_false (fun h => hne.2.2.2.2.1 (UInt8.toNat_inj.1 h))
        have l4 : ((c.toNat : Int) == 13) = false := beq_eq_false_iff_ne.2 (fun h => n4.mp h)
        have k4 : decide ((c.toNat : Int) = 13) = false := decide_eq_false (fun h => n4.mp h)
        have n5 : ((c.toNat : Int) = 9) = False := eq_false (fun h => hne.2.2.2.2.2.1 (UInt8.toNat_inj.1 (show c.toNat = 9 by omega)))
        have m5 : (c.toNat = 9) = False := eq_false (fun h => hne.2.2.2.2.2.1 (UInt8.toNat_inj.1 h))
        have l5 : ((c.toNat : Int) == 9) = false := beq_eq_false_iff_ne.2 (fun h => n5.mp h)
        have k5 : decide ((c.toNat : Int) = 9) = false := decide_eq_false (fun h => n5.mp h)
        have n6 : ((c.toNat : Int) = 10) = False := eq_false (fun h => hne.2.2.2.2.2.2 (UInt8.toNat_inj.1 (show c.toNat = 10 by omega)))
        have m6 : (c.toNat = 10) = False := eq_false (fun h => hne.2.2.2.2.2.2 (UInt8.toNat_inj.1 h))
        have l6 : ((c.toNat : Int) == 10) = false := beq_eq_false_iff_ne.2 (fun h => n6.mp h)
        have k6 : decide ((c.toNat : Int) = 10) = false := decide_eq_false (fun h => n6.mp h)
        clear hne
        go_wp2_with (go_at_call 53; (with_reducible refine (wb w.heap.size A c _ rfl _ HBD.out HAL.out HS.out).mono ?_); rintro e w2 ⟨rfl, hbd2, hb2⟩)
        go_roundg (s.size - j)
        · exact ⟨j, rfl, by have := HJ.out; omega, Aside0.mk rfl, Aside0.mk (by rw [HA.out, HE.out]; exact hbd2), Aside0.mk (HB.out.trans hb2)⟩
        · have := HJ.out; have := HM.out; omega
    · have q1 := eq_false (show ¬ (i : Int) < (s.size : Int) by omega)
      have HR := Aside0.mk (show esc attr (s.data.toList.take i) = esc attr s.data.toList by rw [List.take_of_length_le (by rw [← Lib.size_eq]; omega)])
      go_wp2_with (go_at_call 34; (with_reducible refine (Tryd.Builder_String_any w.heap.size w.heap.size (esc attr (s.data.toList.take i)) _ HBD.out (by have := HB.out.size; omega)).mono ?_); rintro e w5 ⟨rfl, hb5⟩)
      go_ret
      refine ⟨?_, HB.out.trans (hb5.mono (Nat.le_refl _))⟩
      rw [HR.out]
      rfl
end Go.Proofs.YtidkjifilgjgfaaDoor.Esc
