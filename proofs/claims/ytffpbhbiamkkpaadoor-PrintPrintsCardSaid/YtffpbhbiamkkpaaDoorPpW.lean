/- PrintPrints, walked: any tree is printed to just the document's bytes, or refused; any text is escaped to just its bytes; what was handed in stays. -/
import Derived.Test.YtffpbhbiamkkpaaDoorM8
import Derived.Test.YtffpbhbiamkkpaaDoorRefNode
import Derived.Test.YtffpbhbiamkkpaaDoorPEsc
namespace Go.Proofs.YtffpbhbiamkkpaaDoor.PP
open Go Go.RowKit Go.Proofs.YtffpbhbiamkkpaaDoorW.PrintWords Go.Proofs.YtffpbhbiamkkpaaDoorW.PrintLast Go.Proofs.YtffpbhbiamkkpaaDoorW.PrintMore Go.Proofs.YtffpbhbiamkkpaaDoor.PR Go.Proofs.YtffpbhbiamkkpaaDoor.ND
open Go.Proofs.YtffpbhbiamkkpaaDoor.Prt (wt printN yl1)
open Go.Proofs.YtffpbhbiamkkpaaDoor.Esc (esc yi8)
set_option linter.unusedVariables false
theorem box6 {W : World} {b : Nat} {t : TypeId} {a0 a1 a2 a3 a4 a5 : Value} (h : W.heap[b]? = some (.cells #[a0, a1, a2, a3, a4, a5] t (0, 0))) : W.cell? ⟨b, 0, none⟩ = some a0 ∧ W.cell? ⟨b, 1, none⟩ = some a1 ∧ W.cell? ⟨b, 2, none⟩ = some a2 ∧ W.cell? ⟨b, 3, none⟩ = some a3 ∧ W.cell? ⟨b, 4, none⟩ = some a4 ∧ W.cell? ⟨b, 5, none⟩ = some a5 := by
  refine ⟨?_, ?_, ?_, ?_, ?_, ?_⟩ <;> (rw [Lib.cell_of_heap h]; rfl)
set_option maxHeartbeats 4000000 in
set_option maxRecDepth 100000 in
theorem prints_walk (n : Nd) (s : ByteArray) (attr : Bool) (w : World) (hr : Refs.Tens w) (A3 A4 : Option Addr) (c3 c4 : Nat) (h3 : kAt.C w A3 n.f2.length n.f2) (l3 : n.f2.length ≤ c3) (h4 : kNd.C w A4 n.f3.length n.f3) (l4 : n.f3.length ≤ c4) (hs : s.size ≤ 140737488351232) :
    Calls Tryd.prog 3 #[.agg #[.int .i64 n.f0, .string n.f1.f0, .string n.f1.f1, .slice A3 n.f2.length c3, .slice A4 n.f3.length c4, .string n.f4], .string s, .bool attr] w fun e w' => e = .returned (.bool true) ∧ Below w.heap.size w w' := by
  obtain ⟨fb, fk, hfew, hfw⟩ := few_ev n
  have HAW := Aside0.mk (fun W hT => Prt.awake_calls W hT)
  have HF := Aside0.mk (fun W a c => yg2.calls fk n.f0 n.f1.f0 n.f1.f1 A3 c3 n.f2 A4 c4 n.f3 n.f4 fb W a l3 c l4 hfew)
  have HT := Aside0.mk hr
  have H3 := Aside0.mk h3
  have H4 := Aside0.mk h4
  have hb0 := (Below.refl w.heap.size w).alloc (Nat.le_refl _) (.cells #[.int .i64 n.f0, .string n.f1.f0, .string n.f1.f1, .slice A3 n.f2.length c3, .slice A4 n.f3.length c4, .string n.f4] 27)
  have hk0 := heap_alloc_last w (.cells #[.int .i64 n.f0, .string n.f1.f0, .string n.f1.f1, .slice A3 n.f2.length c3, .slice A4 n.f3.length c4, .string n.f4] 27)
  have HB0 := Aside0.mk hb0
  have HK0 := Aside0.mk hk0
  clear hr h3 h4 hb0 hk0 hfew
  have few : fb = false ∨ 20000 < s.size ∨ (fb = true ∧ s.size ≤ 20000) := by
    cases fb with
    | false => exact Or.inl rfl
    | true => rcases Nat.lt_or_ge 20000 s.size with h | h; exact Or.inr (Or.inl h); exact Or.inr (Or.inr ⟨rfl, h⟩)
  have away : ∀ fb' : Bool, (fb' = false ∨ 20000 < s.size) → fb = fb' → Calls Tryd.prog 3 #[.agg #[.int .i64 n.f0, .string n.f1.f0, .string n.f1.f1, .slice A3 n.f2.length c3, .slice A4 n.f3.length c4, .string n.f4], .string s, .bool attr] w fun e w' => e = .returned (.bool true) ∧ Below w.heap.size w w' := by
    intro fb' h e
    subst e
    cases fb with
    | false =>
      go_enter Tryd.func3, Tryd.ntmps3
      go_wp2_with fail
      refine (HAW.out _ (Refs.yf3 HT.out HB0.out)).mono ?_
      rintro e w1 ⟨rfl, hb1⟩
      have HB1 := Aside0.mk (HB0.out.trans (hb1.mono HB0.out.size))
      obtain ⟨x0, x1, x2, x3, x4, x5⟩ := box6 ((hb1.block w.heap.size (by simp)).trans HK0.out)
      clear hb1
      go_wp2_with fail
      refine (HF.out _ (Kd.yc3 H3.out HB1.out) (Kd.yc3 H4.out HB1.out)).mono ?_
      rintro e w2 ⟨rfl, hb2⟩
      have HB2 := Aside0.mk (HB1.out.trans (hb2.mono HB1.out.size))
      clear hb2
      go_wp2_with fail
      go_ret
      exact ⟨rfl, HB2.out⟩
    | true =>
      have q1 := eq_true (show (20000 : Int) < (s.size : Int) by rcases h with h | h; cases h; omega)
      go_enter Tryd.func3, Tryd.ntmps3
      go_wp2_with fail
      refine (HAW.out _ (Refs.yf3 HT.out HB0.out)).mono ?_
      rintro e w1 ⟨rfl, hb1⟩
      have HB1 := Aside0.mk (HB0.out.trans (hb1.mono HB0.out.size))
      obtain ⟨x0, x1, x2, x3, x4, x5⟩ := box6 ((hb1.block w.heap.size (by simp)).trans HK0.out)
      clear hb1
      go_wp2_with fail
      refine (HF.out _ (Kd.yc3 H3.out HB1.out) (Kd.yc3 H4.out HB1.out)).mono ?_
      rintro e w2 ⟨rfl, hb2⟩
      have HB2 := Aside0.mk (HB1.out.trans (hb2.mono HB1.out.size))
      clear hb2
      go_wp2_with fail
      go_ret
      exact ⟨rfl, HB2.out⟩
  rcases few with h | h | ⟨rfl, h⟩
  · exact away fb (Or.inl h) rfl
  · exact away fb (Or.inr h) rfl
  have hw := hfw rfl
  clear away hfw
  obtain ⟨k1, hp⟩ := ref_print n hw
  obtain ⟨k2, he⟩ := yq0 s attr (by omega)
  have HP := Aside0.mk (fun W hT a c => yl1 n W (by omega) hT A3 A4 c3 c4 a l3 c l4)
  have HRP := Aside0.mk (fun W a c => yf4.calls k1 n.f0 n.f1.f0 n.f1.f1 A3 c3 n.f2 A4 c4 n.f3 n.f4 _ _ W a l3 c l4 hp)
  have HE := Aside0.mk (fun W hT => yi8 s attr W hT (by omega))
  have HRE := Aside0.mk (fun W => ya5.calls k2 s attr _ W (he k2 (Nat.le_refl _)))
  have HC := Aside0.mk (fun W a c => copy_calls (wt n + 1) n (by omega) (by omega) W A3 A4 c3 c4 a l3 c l4)
  have HQ := Aside0.mk (fun W B3 B4 d3 d4 a b c d => equal_all (wt n + 1) n (by omega) (by omega) W A3 A4 B3 B4 c3 c4 d3 d4 a b c d)
  have q1 := eq_false (show ¬ (20000 : Int) < (s.size : Int) by omega)
  have hmk : (⟨(printN n).1.toArray⟩ : ByteArray) = mk (printN n).1 := rfl
  obtain ⟨T, hT⟩ : ∃ T, mk (printN n).1 = T := ⟨_, rfl⟩
  obtain ⟨E, hE⟩ : ∃ E, (⟨(esc attr s.data.toList).toArray⟩ : ByteArray) = E := ⟨_, rfl⟩
  obtain ⟨cd, hcd⟩ : ∃ cd, (printN n).2 = cd := ⟨_, rfl⟩
  simp only [hmk, hT, hcd] at HP HRP
  simp only [hE] at HE HRE
  have y1 : (T.toList == T.toList) = true := by simp
  have y2 : (E.toList == E.toList) = true := by simp
  have y3 : (cd == cd) = true := by simp
  clear hp he hT hE hcd hmk hw h
  go_enter Tryd.func3, Tryd.ntmps3
  go_wp2_with fail
  refine (HAW.out _ (Refs.yf3 HT.out HB0.out)).mono ?_
  rintro e w1 ⟨rfl, hb1⟩
  have HB1 := Aside0.mk (HB0.out.trans (hb1.mono HB0.out.size))
  have HK1 := Aside0.mk ((hb1.block w.heap.size (by simp)).trans HK0.out)
  obtain ⟨x0, x1, x2, x3, x4, x5⟩ := box6 HK1.out
  have hlt : w.heap.size < w1.heap.size := blk_lt HK1.out
  clear hb1
  go_wp2_with fail
  refine (HF.out _ (Kd.yc3 H3.out HB1.out) (Kd.yc3 H4.out HB1.out)).mono ?_
  rintro e w2 ⟨rfl, hb2⟩
  have HB2 := Aside0.mk (HB1.out.trans (hb2.mono HB1.out.size))
  have HK2 := Aside0.mk ((hb2.block w.heap.size hlt).trans HK1.out)
  clear x0 x1 x2 x3 x4 x5 hlt
  obtain ⟨x0, x1, x2, x3, x4, x5⟩ := box6 HK2.out
  have hlt : w.heap.size < w2.heap.size := blk_lt HK2.out
  clear hb2
  go_wp2_with fail
  refine (HC.out _ (Kd.yc3 H3.out HB2.out) (Kd.yc3 H4.out HB2.out)).mono ?_
  rintro e w3 ⟨v3, v4, rfl, hR3, hR4, hb3⟩
  obtain ⟨B3, d3, rfl, hl3, hC3⟩ := Kd.ym8 hR3
  obtain ⟨B4, d4, rfl, hl4, hC4⟩ := Kd.ym8 hR4
  have HB3 := Aside0.mk (HB2.out.trans (hb3.mono HB2.out.size))
  have HK3 := Aside0.mk ((hb3.block w.heap.size hlt).trans HK2.out)
  have HC3 := Aside0.mk hC3
  have HC4 := Aside0.mk hC4
  clear x0 x1 x2 x3 x4 x5 hlt hb3 hR3 hR4 hC3 hC4
  have hb4 := (Below.refl w3.heap.size w3).alloc (Nat.le_refl _) (.cells #[.int .i64 n.f0, .string n.f1.f0, .string n.f1.f1, .slice B3 n.f2.length d3, .slice B4 n.f3.length d4, .string n.f4] 27)
  have hk4 := heap_alloc_last w3 (.cells #[.int .i64 n.f0, .string n.f1.f0, .string n.f1.f1, .slice B3 n.f2.length d3, .slice B4 n.f3.length d4, .string n.f4] 27)
  have HB4 := Aside0.mk hb4
  have HK4 := Aside0.mk hk4
  have hlt : w.heap.size < w3.heap.size := blk_lt HK3.out
  obtain ⟨x0, x1, x2, x3, x4, x5⟩ := box6 ((hb4.block w.heap.size hlt).trans HK3.out)
  have HB34 := Aside0.mk (HB3.out.trans (hb4.mono HB3.out.size))
  have HKb := Aside0.mk ((hb4.block w.heap.size hlt).trans HK3.out)
  clear hb4 hk4
  go_wp2_with fail
  refine (HP.out _ (Refs.yf3 HT.out HB34.out) (Kd.yc3 H3.out HB34.out) (Kd.yc3 H4.out HB34.out)).mono ?_
  rintro e w4 ⟨rfl, hb5⟩
  have HB5 := Aside0.mk (HB34.out.trans (hb5.mono HB34.out.size))
  have HS5 := Aside0.mk (HB4.out.trans (hb5.mono HB4.out.size))
  have HK5 := Aside0.mk ((hb5.block w.heap.size (by simp; omega)).trans HKb.out)
  have HW5 := Aside0.mk ((hb5.block w3.heap.size (by simp)).trans HK4.out)
  clear x0 x1 x2 x3 x4 x5 hlt hb5
  obtain ⟨x0, x1, x2, x3, x4, x5⟩ := box6 HK5.out
  have hlt : w.heap.size < w4.heap.size := blk_lt HK5.out
  have hlt2 : w3.heap.size < w4.heap.size := blk_lt HW5.out
  go_wp2_with fail
  refine (HRP.out _ (Kd.yc3 H3.out HB5.out) (Kd.yc3 H4.out HB5.out)).mono ?_
  rintro e w5 ⟨rfl, hb6⟩
  have HB6 := Aside0.mk (HB5.out.trans (hb6.mono HB5.out.size))
  have HS6 := Aside0.mk (HS5.out.trans (hb6.mono HS5.out.size))
  have HK6 := Aside0.mk ((hb6.block w.heap.size hlt).trans HK5.out)
  have HW6 := Aside0.mk ((hb6.block w3.heap.size hlt2).trans HW5.out)
  clear x0 x1 x2 x3 x4 x5 hlt hlt2 hb6
  have hlt : w.heap.size < w5.heap.size := blk_lt HK6.out
  have hlt2 : w3.heap.size < w5.heap.size := blk_lt HW6.out
  go_wp2_with fail
  refine (HE.out _ (Refs.yf3 HT.out HB6.out)).mono ?_
  rintro e w6 ⟨rfl, hb7⟩
  have HB7 := Aside0.mk (HB6.out.trans (hb7.mono HB6.out.size))
  have HS7 := Aside0.mk (HS6.out.trans (hb7.mono HS6.out.size))
  have HK7 := Aside0.mk ((hb7.block w.heap.size hlt).trans HK6.out)
  have HW7 := Aside0.mk ((hb7.block w3.heap.size hlt2).trans HW6.out)
  clear hlt hlt2 hb7
  have hlt : w.heap.size < w6.heap.size := blk_lt HK7.out
  have hlt2 : w3.heap.size < w6.heap.size := blk_lt HW7.out
  go_wp2_with fail
  refine (HRE.out _).mono ?_
  rintro e w7 ⟨rfl, hb8⟩
  have HB8 := Aside0.mk (HB7.out.trans (hb8.mono HB7.out.size))
  have HS8 := Aside0.mk (HS7.out.trans (hb8.mono HS7.out.size))
  obtain ⟨x0, x1, x2, x3, x4, x5⟩ := box6 ((hb8.block w.heap.size hlt).trans HK7.out)
  obtain ⟨z0, z1, z2, z3, z4, z5⟩ := box6 ((hb8.block w3.heap.size hlt2).trans HW7.out)
  clear hlt hlt2 hb8
  go_wp2_with fail
  refine (HQ.out w7 B3 B4 d3 d4 (Kd.yc3 H3.out HB8.out) (Kd.yc3 H4.out HB8.out) (Kd.yc3 HC3.out HS8.out) (Kd.yc3 HC4.out HS8.out)).mono ?_
  rintro e w8 ⟨rfl, hb9⟩
  have HB9 := Aside0.mk (HB8.out.trans (hb9.mono HB8.out.size))
  clear hb9
  go_wp2_with fail
  go_ret
  exact ⟨rfl, HB9.out⟩
end Go.Proofs.YtffpbhbiamkkpaaDoor.PP
