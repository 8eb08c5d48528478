/- PrintOne, walked: trees that are the same are printed alike, and others not. -/
import Derived.Test.YtffpbhbiamkkpaaDoorPInj
import Derived.Test.YtffpbhbiamkkpaaDoorTSame
import Derived.Test.YtffpbhbiamkkpaaDoorFewN
import Derived.Test.YtffpbhbiamkkpaaDoorPEsc
namespace Go.Proofs.YtffpbhbiamkkpaaDoor.PI
open Go Go.RowKit Go.Proofs.YtffpbhbiamkkpaaDoorW.PrintWords Go.Proofs.YtffpbhbiamkkpaaDoorW.PrintLast Go.Proofs.YtffpbhbiamkkpaaDoorW.PrintMore Go.Proofs.YtffpbhbiamkkpaaDoor.PR Go.Proofs.YtffpbhbiamkkpaaDoor.ND
open Go.Proofs.YtffpbhbiamkkpaaDoor.Prt (wt printN Print_calls)
open Go.Proofs.YtffpbhbiamkkpaaDoor.PP (few_ev mk)
open Go.Proofs.YtffpbhbiamkkpaaDoor.TS (normN)
set_option linter.unusedVariables false
theorem box6 {W : World} {b : Nat} {t : TypeId} {a0 a1 a2 a3 a4 a5 : Value} (h : W.heap[b]? = some (.cells #[a0, a1, a2, a3, a4, a5] t (0, 0))) : W.cell? ⟨b, 0, none⟩ = some a0 ∧ W.cell? ⟨b, 1, none⟩ = some a1 ∧ W.cell? ⟨b, 2, none⟩ = some a2 ∧ W.cell? ⟨b, 3, none⟩ = some a3 ∧ W.cell? ⟨b, 4, none⟩ = some a4 ∧ W.cell? ⟨b, 5, none⟩ = some a5 := by
  refine ⟨?_, ?_, ?_, ?_, ?_, ?_⟩ <;> (rw [Lib.cell_of_heap h]; rfl)
set_option maxHeartbeats 8000000 in
set_option maxRecDepth 100000 in
theorem one_walk (n m : Nd) (w : World) (hr : Refs.Tens w) (A3 A4 B3 B4 : Option Addr) (c3 c4 d3 d4 : Nat) (h3 : kAt.C w A3 n.f2.length n.f2) (l3 : n.f2.length ≤ c3) (h4 : kNd.C w A4 n.f3.length n.f3) (l4 : n.f3.length ≤ c4)
    (g3 : kAt.C w B3 m.f2.length m.f2) (m3 : m.f2.length ≤ d3) (g4 : kNd.C w B4 m.f3.length m.f3) (m4 : m.f3.length ≤ d4) :
    Calls Tryd.prog 4 #[.agg #[.int .i64 n.f0, .string n.f1.f0, .string n.f1.f1, .slice A3 n.f2.length c3, .slice A4 n.f3.length c4, .string n.f4], .agg #[.int .i64 m.f0, .string m.f1.f0, .string m.f1.f1, .slice B3 m.f2.length d3, .slice B4 m.f3.length d4, .string m.f4]] w fun e w' => e = .returned (.bool true) ∧ Below w.heap.size w w' := by
  obtain ⟨fa, ka, hfa, hwa⟩ := few_ev n
  obtain ⟨fb, kb, hfb, hwb⟩ := few_ev m
  have HAW := Aside0.mk (fun W hT => Prt.awake_calls W hT)
  have HFA := Aside0.mk (fun W a c => watchbilllaw04_Few.calls ka n.f0 n.f1.f0 n.f1.f1 A3 c3 n.f2 A4 c4 n.f3 n.f4 fa W a l3 c l4 hfa)
  have HFB := Aside0.mk (fun W a c => watchbilllaw04_Few.calls kb m.f0 m.f1.f0 m.f1.f1 B3 d3 m.f2 B4 d4 m.f3 m.f4 fb W a m3 c m4 hfb)
  have HT := Aside0.mk hr
  have H3 := Aside0.mk h3
  have H4 := Aside0.mk h4
  have G3 := Aside0.mk g3
  have G4 := Aside0.mk g4
  have HWA := Aside0.mk hwa
  have HWB := Aside0.mk hwb
  obtain ⟨X, hX⟩ : ∃ X : Obj, (.cells #[.int .i64 n.f0, .string n.f1.f0, .string n.f1.f1, .slice A3 n.f2.length c3, .slice A4 n.f3.length c4, .string n.f4] 27 (0, 0)) = X := ⟨_, rfl⟩
  have hb0 := ((Below.refl w.heap.size w).alloc (Nat.le_refl _) (.cells #[.int .i64 n.f0, .string n.f1.f0, .string n.f1.f1, .slice A3 n.f2.length c3, .slice A4 n.f3.length c4, .string n.f4] 27)).alloc (by simp) (.cells #[.int .i64 m.f0, .string m.f1.f0, .string m.f1.f1, .slice B3 m.f2.length d3, .slice B4 m.f3.length d4, .string m.f4] 27)
  have HB0 := Aside0.mk hb0
  have hkA := (((Below.refl _ _).alloc (Nat.le_refl _) (.cells #[.int .i64 m.f0, .string m.f1.f0, .string m.f1.f1, .slice B3 m.f2.length d3, .slice B4 m.f3.length d4, .string m.f4] 27)).block w.heap.size (by simp)).trans (heap_alloc_last w (.cells #[.int .i64 n.f0, .string n.f1.f0, .string n.f1.f1, .slice A3 n.f2.length c3, .slice A4 n.f3.length c4, .string n.f4] 27))
  have hkB := heap_alloc_last (w.alloc (.cells #[.int .i64 n.f0, .string n.f1.f0, .string n.f1.f1, .slice A3 n.f2.length c3, .slice A4 n.f3.length c4, .string n.f4] 27)) (.cells #[.int .i64 m.f0, .string m.f1.f0, .string m.f1.f1, .slice B3 m.f2.length d3, .slice B4 m.f3.length d4, .string m.f4] 27)
  rw [show (w.alloc (.cells #[.int .i64 n.f0, .string n.f1.f0, .string n.f1.f1, .slice A3 n.f2.length c3, .slice A4 n.f3.length c4, .string n.f4] 27)).heap.size = w.heap.size + 1 by simp] at hkB
  have HKA := Aside0.mk hkA
  have HKB := Aside0.mk hkB
  clear hr h3 h4 g3 g4 hb0 hkA hkB hfa hfb hwa hwb hX X
  go_enter Tryd.func4, Tryd.ntmps4
  go_wp2_with fail
  refine (HAW.out _ (Refs.tens_below HT.out HB0.out)).mono ?_
  rintro e w1 ⟨rfl, hb1⟩
  have HB1 := Aside0.mk (HB0.out.trans (hb1.mono HB0.out.size))
  have HA1 := Aside0.mk ((hb1.block w.heap.size (by simp; omega)).trans HKA.out)
  have HM1 := Aside0.mk ((hb1.block (w.heap.size + 1) (by simp)).trans HKB.out)
  obtain ⟨x0, x1, x2, x3, x4, x5⟩ := box6 HA1.out
  have hlA := blk_lt HA1.out
  have hlB := blk_lt HM1.out
  clear hb1
  go_wp2_with fail
  refine (HFA.out _ (Kd.C_below H3.out HB1.out) (Kd.C_below H4.out HB1.out)).mono ?_
  rintro e w2 ⟨rfl, hb2⟩
  have HB2 := Aside0.mk (HB1.out.trans (hb2.mono HB1.out.size))
  have HA2 := Aside0.mk ((hb2.block w.heap.size hlA).trans HA1.out)
  have HM2 := Aside0.mk ((hb2.block (w.heap.size + 1) hlB).trans HM1.out)
  clear x0 x1 x2 x3 x4 x5 hlA hlB hb2
  cases fa with
  | false =>
    go_wp2_with fail
    go_ret
    exact ⟨rfl, HB2.out⟩
  | true =>
  obtain ⟨x0, x1, x2, x3, x4, x5⟩ := box6 HM2.out
  have hlA := blk_lt HA2.out
  have hlB := blk_lt HM2.out
  go_wp2_with fail
  refine (HFB.out _ (Kd.C_below G3.out HB2.out) (Kd.C_below G4.out HB2.out)).mono ?_
  rintro e w3 ⟨rfl, hb3⟩
  have HB3 := Aside0.mk (HB2.out.trans (hb3.mono HB2.out.size))
  have HA3 := Aside0.mk ((hb3.block w.heap.size hlA).trans HA2.out)
  have HM3 := Aside0.mk ((hb3.block (w.heap.size + 1) hlB).trans HM2.out)
  clear x0 x1 x2 x3 x4 x5 hlA hlB hb3
  cases fb with
  | false =>
    go_wp2_with fail
    go_ret
    exact ⟨rfl, HB3.out⟩
  | true =>
  have ha := HWA.out (by trivial)
  have hb := HWB.out (by trivial)
  have HP := Aside0.mk (fun W hT a c => Print_calls n W (by omega) hT A3 A4 c3 c4 a l3 c l4)
  have HQ := Aside0.mk (fun W hT a c => Print_calls m W (by omega) hT B3 B4 d3 d4 a m3 c m4)
  have HS := Aside0.mk (TS.same_all (wt n + 1) n m (by omega) (by omega) (by omega))
  have hmk : ∀ x : Nd, (⟨(printN x).1.toArray⟩ : ByteArray) = mk (printN x).1 := fun _ => rfl
  have hsame : normN n = normN m → mk (printN n).1 = mk (printN m).1 ∧ (printN n).2 = (printN m).2 := fun h => by rw [print_same h]; exact ⟨rfl, rfl⟩
  have hother : normN n ≠ normN m → (printN n).2 = 0 → (printN m).2 = 0 → mk (printN n).1 ≠ mk (printN m).1 := fun h h1 h2 e => print_other h h1 h2 (by rw [← PP.data_mk (printN n).1, e, PP.data_mk])
  obtain ⟨T, hT⟩ : ∃ T, mk (printN n).1 = T := ⟨_, rfl⟩
  obtain ⟨U, hU⟩ : ∃ U, mk (printN m).1 = U := ⟨_, rfl⟩
  obtain ⟨p, hp⟩ : ∃ p, (printN n).2 = p := ⟨_, rfl⟩
  obtain ⟨q, hq⟩ : ∃ q, (printN m).2 = q := ⟨_, rfl⟩
  simp only [hmk, hT, hp] at HP
  simp only [hmk, hU, hq] at HQ
  rw [hT, hU, hp, hq] at hsame hother
  have HSAME := Aside0.mk hsame
  have HOTHER := Aside0.mk hother
  clear hT hU hp hq hmk hsame hother ha hb
  obtain ⟨x0, x1, x2, x3, x4, x5⟩ := box6 HA3.out
  have hlA := blk_lt HA3.out
  have hlB := blk_lt HM3.out
  go_wp2_with fail
  refine (HP.out _ (Refs.tens_below HT.out HB3.out) (Kd.C_below H3.out HB3.out) (Kd.C_below H4.out HB3.out)).mono ?_
  rintro e w4 ⟨rfl, hb4⟩
  have HB4 := Aside0.mk (HB3.out.trans (hb4.mono HB3.out.size))
  have HA4 := Aside0.mk ((hb4.block w.heap.size hlA).trans HA3.out)
  have HM4 := Aside0.mk ((hb4.block (w.heap.size + 1) hlB).trans HM3.out)
  clear x0 x1 x2 x3 x4 x5 hlA hlB hb4
  obtain ⟨x0, x1, x2, x3, x4, x5⟩ := box6 HM4.out
  have hlA := blk_lt HA4.out
  have hlB := blk_lt HM4.out
  go_wp2_with fail
  refine (HQ.out _ (Refs.tens_below HT.out HB4.out) (Kd.C_below G3.out HB4.out) (Kd.C_below G4.out HB4.out)).mono ?_
  rintro e w5 ⟨rfl, hb5⟩
  have HB5 := Aside0.mk (HB4.out.trans (hb5.mono HB4.out.size))
  obtain ⟨x0', x1', x2', x3', x4', x5'⟩ := box6 ((hb5.block w.heap.size hlA).trans HA4.out)
  obtain ⟨y0, y1, y2, y3, y4, y5⟩ := box6 ((hb5.block (w.heap.size + 1) hlB).trans HM4.out)
  clear x0 x1 x2 x3 x4 x5 hlA hlB hb5
  go_wp2_with fail
  refine (HS.out _ A3 A4 B3 B4 c3 c4 d3 d4 l3 (Kd.C_below H3.out HB5.out) (Kd.C_below H4.out HB5.out) m3 (Kd.C_below G3.out HB5.out) (Kd.C_below G4.out HB5.out)).mono ?_
  rintro e w6 ⟨⟨b, rfl, hbi⟩, hb6⟩
  have HB6 := Aside0.mk (HB5.out.trans (hb6.mono HB5.out.size))
  clear hb6
  cases b with
  | true =>
    obtain ⟨rfl, rfl⟩ := HSAME.out (hbi.1 rfl)
    have z1 : (T.toList == T.toList) = true := by simp
    have z2 : (p == p) = true := by simp
    clear hbi
    go_wp2_with fail
    go_ret
    exact ⟨rfl, HB6.out⟩
  | false =>
    have hne : normN n ≠ normN m := fun h => by have := hbi.2 h; cases this
    have ho := HOTHER.out hne
    clear hbi hne
    by_cases e1 : p = 0
    · subst e1
      by_cases e2 : q = 0
      · subst e2
        have z : T ≠ U := ho rfl rfl
        have z1 : (T.toList == U.toList) = false := by
          rw [Lib.toList_data, Lib.toList_data]
          simpa using fun h => z (bytes_ext h)
        have z2 : (T.toList != U.toList) = true := by unfold bne; rw [z1]; rfl
        clear ho z
        go_wp2_with fail
        go_ret
        exact ⟨rfl, HB6.out⟩
      · have z1 : (q != 0) = true := by simpa using e2
        have z2 : (q == 0) = false := by simpa using e2
        clear ho
        go_wp2_with fail
        go_ret
        exact ⟨rfl, HB6.out⟩
    · have z1 : (p != 0) = true := by simpa using e1
      have z2 : (p == 0) = false := by simpa using e1
      clear ho
      go_wp2_with fail
      go_ret
      exact ⟨rfl, HB6.out⟩
end Go.Proofs.YtffpbhbiamkkpaaDoor.PI
