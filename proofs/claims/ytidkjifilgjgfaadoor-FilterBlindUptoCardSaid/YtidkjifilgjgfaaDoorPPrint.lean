/- print.Print: a tree's bytes, or why there are none. -/
import Derived.Test.YtidkjifilgjgfaaDoorRgt
import Derived.Test.YtidkjifilgjgfaaDoorSrt
import Derived.RegionTactic
namespace Go.Proofs.YtidkjifilgjgfaaDoor.Prt
open Go Go.RowKit Go.Proofs.YtidkjifilgjgfaaDoorW.PrintWords Go.Proofs.YtidkjifilgjgfaaDoorW.PrintLast Go.Proofs.YtidkjifilgjgfaaDoorW.PrintMore Go.Proofs.YtidkjifilgjgfaaDoor.ND
set_option linter.unusedVariables false
theorem cellsByte : Tryd.prog.cellsOf 5 = 1 := by kernel_rfl
set_option maxHeartbeats 1000000 in
set_option maxRecDepth 100000 in
theorem string_calls (B b : Nat) (l : L) (w : World) (h : PD B b l w) (h0 : l ≠ []) :
    Calls Tryd.prog 34 #[.pointer (some ⟨b, 0, none⟩)] w fun e w' => e = .returned (.string ⟨l.toArray⟩) ∧ Below B w w' := by
  obtain ⟨p, v, hbk, hown⟩ : ∃ p v, w.heap[b]? = some (.cells #[p, v] 75 (0, 0)) ∧ w.ownsRow B 5 1 v (Lib.byteCells l).length (Lib.byteCells l) := by
    rcases h with ⟨_, v, h1, h2, _⟩ | ⟨_, v, h1, h2, _⟩
    · exact ⟨_, v, h1, h2⟩
    · exact ⟨_, v, h1, h2⟩
  have hl0 : l.length ≠ 0 := by simpa using h0
  rw [Lib.byteCells_length] at hown
  rcases hown.2 with ⟨_, hz⟩ | ⟨g, cap, cur, rfl, hbg, hg, hnc, hcm, hcs, _⟩
  · exact absurd hz hl0
  have hgd : w.drew.heap[g]? = some (.cells cur 5 (0, 0)) := hg
  have hc1 : w.drew.cell? ⟨b, 1, none⟩ = some (.slice (some ⟨g, 0, none⟩) l.length cap) := by
    have hd : w.drew.heap[b]? = some (.cells #[p, .slice (some ⟨g, 0, none⟩) l.length cap] 75 (0, 0)) := hbk
    rw [Lib.cell_of_heap hd]
    rfl
  have hsd : (Builtin.unsafeSliceData_ #[71] 94 #[.slice (some ⟨g, 0, none⟩) l.length cap]).run Tryd.prog w.drew = .ok (.pointer (some ⟨g, 0, none⟩)) w.drew := Lib.run_unsafeSliceData_row _ _ _ _ _ _ (by omega)
  have hus : (Builtin.unsafeString_ #[94, 3] 9 #[.pointer (some ⟨g, 0, none⟩), .int .i64 l.length]).run Tryd.prog w.drew = .ok (.string ⟨l.toArray⟩) (w.drew.freeze ⟨g, 0, none⟩ l.length) :=
    Lib.run_unsafeString_row w.drew 94 3 9 5 Tryd.underlying94 cellsByte g cur.size (by simp [World.shape?, hgd]) l h0 (by omega) (by unfold maxLen at hcm; omega) (fun j x hx => hown.cells (g := g) rfl j (.int .u8 x.toNat) (by simp [Lib.byteCells, hx]))
  clear hgd hg hnc hcm hcs hown hbk h
  go_enter Tryd.func34, Tryd.ntmps34
  go_wp2
  go_region
  all_goals
    go_wp2
    go_ret
    exact ⟨rfl, Lib.below_freeze (Below.drew (Below.refl B w)) (p := ⟨g, 0, none⟩) hbg _⟩
theorem key_ne {x y : At} (h : keyA x ≠ keyA y) : ¬ (x.f0.f0 = y.f0.f0 ∧ x.f0.f1 = y.f0.f1) := fun k => h (by unfold keyA; rw [k.1, k.2])
theorem attrsF_apart : ∀ (l : List At) (seen : List (L × L)), attrsF seen l = true → (∀ a ∈ l, keyA a ∉ seen) ∧ Apart l
  | [], seen, _ => ⟨fun _ h => (by cases h), List.Pairwise.nil⟩
  | a :: r, seen, h => by
    unfold attrsF at h
    obtain ⟨h1, h2⟩ := Bool.and_eq_true_iff.1 h
    unfold okA at h1
    simp only [Bool.and_eq_true, Bool.not_eq_true', decide_eq_false_iff_not] at h1
    obtain ⟨k1, k2⟩ := attrsF_apart r _ h2
    refine ⟨fun b hb => ?_, List.pairwise_cons.2 ⟨fun b hb => key_ne (fun e => k1 b hb (by simp [e])), k2⟩⟩
    rcases List.mem_cons.1 hb with rfl | hb
    · exact h1.2.2.2
    · exact fun hm => k1 b hb (by simp [hm])
mutual
theorem right_ok : ∀ (n : Nd) (deep : Int) (text : Bool) (left : Int), (rightN n deep text left).1 = true → okN n
  | ⟨k, nm, t, c, x⟩, deep, text, left, h => by
    unfold rightN at h
    by_cases h1 : left - 1 < 0
    · rw [if_pos h1] at h; cases h
    rw [if_neg h1] at h
    by_cases h2 : k = 2
    · rw [if_pos h2] at h
      simp only [Bool.and_eq_true, decide_eq_true_eq] at h
      have ht : t = [] := List.length_eq_zero_iff.1 (by omega)
      have hc : c = [] := List.length_eq_zero_iff.1 (by omega)
      subst ht hc
      exact ⟨List.Pairwise.nil, trivial⟩
    rw [if_neg h2] at h
    by_cases h3 : k = 1 ∧ deep ≤ 24 ∧ x.toList = [] ∧ namedB nm = true ∧ attrsB t = true
    · rw [if_pos h3] at h
      have ha := h3.2.2.2.2
      unfold attrsB at ha
      exact ⟨(attrsF_apart t [] (Bool.and_eq_true_iff.1 ha).1).2, rights_ok c _ _ _ h⟩
    · rw [if_neg h3] at h; cases h
theorem rights_ok : ∀ (l : List Nd) (deep : Int) (b : Bool) (left : Int), (yi1 l deep b left).1 = true → okNs l
  | [], _, _, _, _ => trivial
  | d :: r, deep, b, left, h => by
    unfold yi1 at h
    by_cases h1 : (rightN d deep b left).1 = true
    · rw [if_pos h1] at h; exact ⟨right_ok d _ _ _ h1, rights_ok r _ _ _ h⟩
    · rw [if_neg h1] at h; cases h
end
theorem rightB_ok (n : Nd) (h : rightB n = true) : okN n := by
  unfold rightB at h
  exact right_ok n _ _ _ (Bool.and_eq_true_iff.1 h).2
/-- print.Print's answer. -/
def printN (n : Nd) : L × Int := if rightB n = true then (if 32768 < (nodeO n []).length then ([], 3) else (nodeO n [], 0)) else ([], 4)
theorem sortedSaid : ym2 := fun A0 c0 l w h1 h2 h3 h4 => sorted_calls A0 c0 l w h1 h2 h3 h4
theorem nodeO_ne (n : Nd) (h : rightB n = true) : nodeO n [] ≠ [] := by
  obtain ⟨k, nm, t, c, x⟩ := n
  unfold rightB at h
  have hk : k = 1 := by have := (Bool.and_eq_true_iff.1 h).1; simpa using this
  rw [nodeO_elem k nm t c x [] (by omega)]
  simp
set_option maxHeartbeats 4000000 in
set_option maxRecDepth 100000 in
theorem ym6 (n : Nd) (w : World) (hw : wt n ≤ 2000000) (ht : Refs.Tens w) (A3 A4 : Option Addr) (c3 c4 : Nat) (h3 : kAt.C w A3 n.f2.length n.f2) (l3 : n.f2.length ≤ c3) (h4 : kNd.C w A4 n.f3.length n.f3) (l4 : n.f3.length ≤ c4) :
    Calls Tryd.prog 19 #[.agg #[.int .i64 n.f0, .string n.f1.f0, .string n.f1.f1, .slice A3 n.f2.length c3, .slice A4 n.f3.length c4, .string n.f4]] w fun e w' => e = .returned (.tuple #[.string ⟨(printN n).1.toArray⟩, .int .i64 (printN n).2]) ∧ Below w.heap.size w w' := by
  have hA : Below w.heap.size w (w.alloc (.cells #[.int .i64 n.f0, .string n.f1.f0, .string n.f1.f1, .slice A3 n.f2.length c3, .slice A4 n.f3.length c4, .string n.f4] 54)) := (Below.refl _ _).alloc (Nat.le_refl _) _
  have HR := Aside0.mk (fun W h3 h4 => Right_calls n W (by omega) A3 A4 c3 c4 h3 l3 h4 l4)
  have HX := heap_alloc_last w (.cells #[.int .i64 n.f0, .string n.f1.f0, .string n.f1.f1, .slice A3 n.f2.length c3, .slice A4 n.f3.length c4, .string n.f4] 54)
  have HX := Aside0.mk HX
  have HA := Aside0.mk hA
  have HT := Aside0.mk ht
  have H3 := Aside0.mk h3
  have H4 := Aside0.mk h4
  clear hA ht h3 h4
  cases hr : rightB n with
  | false =>
    have e : printN n = ([], 4) := by unfold printN; rw [hr]; rfl
    rw [e]
    simp only [hr] at HR
    clear hr e
    go_enter Tryd.func19, Tryd.ntmps19
    go_wp2_with fail
    refine (HR.out _ (Kd.yc4 H3.out HA.out) (Kd.yc4 H4.out HA.out)).mono ?_
    rintro e w1 ⟨rfl, hb1⟩
    have HB1 := Aside0.mk hb1
    clear hb1
    go_wp2_with fail
    go_ret2
    exact ⟨rfl, HA.out.trans (HB1.out.mono HA.out.size)⟩
  | true =>
    simp only [hr] at HR
    have hok := rightB_ok n hr
    have hne := nodeO_ne n hr
    have HOK := Aside0.mk hok
    have hp : printN n = if 32768 < (nodeO n []).length then ([], 3) else (nodeO n [], 0) := by unfold printN; rw [hr, if_pos rfl]
    obtain ⟨O, hO⟩ : ∃ O, O = nodeO n [] := ⟨_, rfl⟩
    rw [← hO] at hp hne
    obtain ⟨r, hrr⟩ : ∃ r, r = printN n := ⟨_, rfl⟩
    rw [← hrr] at hp ⊢
    have HPR := Aside0.mk hp
    clear hrr
    have HO := Aside0.mk hO
    have HNE := Aside0.mk hne
    clear hr hok hne hp hO
    go_enter Tryd.func19, Tryd.ntmps19
    go_wp2_with fail
    refine (HR.out _ (Kd.yc4 H3.out HA.out) (Kd.yc4 H4.out HA.out)).mono ?_
    rintro e w1 ⟨rfl, hb1⟩
    have hX := (hb1.block w.heap.size (blk_lt HX.out)).trans HX.out
    have hb01 := HA.out.trans (hb1.mono HA.out.size)
    have HX1 := Aside0.mk hX
    have HB1 := Aside0.mk hb01
    clear hb1 hX hb01
    have g0 : w1.cell? ⟨w.heap.size, 0, none⟩ = some (.int .i64 n.f0) := by rw [Lib.cell_of_heap HX1.out]; rfl
    have g1 : w1.cell? ⟨w.heap.size, 1, none⟩ = some (.string n.f1.f0) := by rw [Lib.cell_of_heap HX1.out]; rfl
    have g2 : w1.cell? ⟨w.heap.size, 2, none⟩ = some (.string n.f1.f1) := by rw [Lib.cell_of_heap HX1.out]; rfl
    have g3 : w1.cell? ⟨w.heap.size, 3, none⟩ = some (.slice A3 n.f2.length c3) := by rw [Lib.cell_of_heap HX1.out]; rfl
    have g4 : w1.cell? ⟨w.heap.size, 4, none⟩ = some (.slice A4 n.f3.length c4) := by rw [Lib.cell_of_heap HX1.out]; rfl
    have g5 : w1.cell? ⟨w.heap.size, 5, none⟩ = some (.string n.f4) := by rw [Lib.cell_of_heap HX1.out]; rfl
    have hs1 := HB1.out.size
    have hlt0 : w.heap.size < w1.heap.size := blk_lt HX1.out
    have hne0 : w.heap.size ≠ w1.heap.size := by omega
    have hPD : PD w.heap.size w1.heap.size [] (w1.alloc (.cells #[.pointer none, .slice none 0 0] 75)) :=
      Or.inl ⟨hs1, .slice none 0 0, heap_alloc_last w1 _, ⟨rfl, Or.inl ⟨rfl, rfl⟩⟩, by simp [Value.ownBlock]⟩
    have HPD := Aside0.mk hPD
    have hlen := nodeO_len n [] (by omega)
    rw [← HO.out] at hlen
    clear hPD
    go_wp2_with fail
    refine (node_calls sortedSaid w1.heap.size w HT.out 2000000 n hw (Nat.le_refl _) HOK.out ⟨#[]⟩ [] _ A3 A4 c3 c4 HPD.out (HB1.out.alloc hs1 _) (by simp; omega) H3.out l3 H4.out l4 (by decide)).mono ?_
    rintro e w2 ⟨rfl, hp2, hb2, hf2⟩
    have hp2' : PD w.heap.size w1.heap.size O w2 := by
      rw [HO.out]
      exact hp2
    have HP2 := Aside0.mk hp2'
    have HB2 := Aside0.mk hb2
    clear hp2 hp2' hb2 hf2 g0 g1 g2 g3 g4 g5
    go_wp2_with fail
    (with_reducible refine (Bld.len2 75 w.heap.size w1.heap.size (Lib.byteCells O) w2 HP2.out).mono ?_)
    rintro e w3 ⟨rfl, rfl⟩
    rw [Lib.byteCells_length]
    by_cases hlt : 32768 < O.length
    · have q1 := eq_true (show (32768 : Int) < (O.length : Int) by omega)
      have HL := Aside0.mk hlt
      clear hlt
      go_wp2_with fail
      go_ret2
      rw [HPR.out, if_pos HL.out]
      exact ⟨rfl, HB2.out⟩
    · have q1 := eq_false (show ¬ (32768 : Int) < (O.length : Int) by omega)
      have HL := Aside0.mk hlt
      clear hlt
      go_wp2_with fail
      (with_reducible refine (string_calls w.heap.size w1.heap.size O w2 HP2.out HNE.out).mono ?_)
      rintro e w4 ⟨rfl, hb4⟩
      have HB4 := Aside0.mk hb4
      clear hb4
      go_wp2_with fail
      go_ret2
      rw [HPR.out, if_neg HL.out]
      exact ⟨rfl, HB2.out.trans HB4.out⟩
end Go.Proofs.YtidkjifilgjgfaaDoor.Prt
