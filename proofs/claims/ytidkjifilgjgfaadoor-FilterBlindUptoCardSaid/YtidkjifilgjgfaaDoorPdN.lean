/- pidf.Encode: a presence's document. -/
import Derived.Test.YtidkjifilgjgfaaDoorPdE
import Derived.Test.YtidkjifilgjgfaaDoorPdG
import Derived.Test.YtidkjifilgjgfaaDoorPdD
namespace Go.Proofs.YtidkjifilgjgfaaDoor.Pd
open Go Go.RowKit Go.Proofs.YtidkjifilgjgfaaDoorW.PrintWords Go.Proofs.YtidkjifilgjgfaaDoorW.PrintLast Go.Proofs.YtidkjifilgjgfaaDoorW.PrintMore
open Go.Proofs.YtidkjifilgjgfaaDoor.ND (Nm At Nd kNm kAt kNd yk3 yj7 yl5 zNd zNm)
set_option linter.unusedVariables false
abbrev sPres : ByteArray := ⟨#[112, 114, 101, 115, 101, 110, 99, 101]⟩
abbrev sEnt : ByteArray := ⟨#[101, 110, 116, 105, 116, 121]⟩
def encN (x : Tu) : Nd := ⟨1, ⟨spF, sTuple⟩, [⟨⟨⟨#[]⟩, sId⟩, x.f0⟩], kidsN x.f1 x.f2 x.f3 x.f4 x.f5 x.f6, ⟨#[]⟩⟩
def presN (e : ByteArray) (ts : List Tu) (ms : List ByteArray) : Nd := ⟨1, ⟨spF, sPres⟩, [⟨⟨⟨#[]⟩, sEnt⟩, e⟩], ts.map encN ++ ms.flatMap (textN spF sNote), ⟨#[]⟩⟩
/-- What Encode comes to: rs: may each tuple be told; nb: may the notes. -/
def encP (e : ByteArray) (ts : List Tu) (ms : List ByteArray) (rs : List Bool) (nb : Bool) : Nd × Int :=
  if e.toList = [] ∨ 12 < ts.length ∨ rs.all (· = true) = false ∨ nb = false then (zNd, 4) else if dstF [] ts = false then (zNd, 41) else (presN e ts ms, 0)
def yt3 (ms : List ByteArray) (r : Bool) : Prop := ∃ k, PL.yc2.f k ms = some r
/-- What is asked of a tuple that is told. -/
def Told (x : Tu) : Prop := x.f5.length ≤ 4 ∧ 0 ≤ x.f4 ∧ x.f4 ≤ 1000 ∧ (x.f4 > 0 → x.f2.toList ≠ []) ∧ 0 ≤ x.f6 ∧ x.f6 ≤ 4294967295
theorem enc_calls (x : Tu) (ht : Told x) (A5 : Option Addr) (c5 : Nat) (W : World) (h5 : Kd.string.C W A5 x.f5.length x.f5) (l5 : x.f5.length ≤ c5) (hT : Refs.Tens W) :
    Calls Tryd.prog 29 #[.agg (tc x.f0 x.f1 x.f2 x.f3 x.f4 (.slice A5 x.f5.length c5) x.f6)] W fun e w' => ∃ v3 v4, e = .returned (.agg (nc 1 spF sTuple v3 v4 ⟨#[]⟩)) ∧ kAt.R 84 w' W.heap.size (fun k => W.heap.size ≤ k) v3 (encN x).f2 ∧ kNd.R 54 w' W.heap.size (fun k => W.heap.size ≤ k) v4 (encN x).f3 ∧ Bw W w' :=
  encode_calls x.f0 x.f1 x.f2 x.f3 x.f4 x.f5 x.f6 A5 c5 W h5 l5 ht.1 hT ht.2.1 ht.2.2.1 ht.2.2.2.1 ht.2.2.2.2.1 ht.2.2.2.2.2
abbrev pc (e : ByteArray) (v1 v2 : Value) : Array Value := #[.string e, v1, v2]
structure Xp (b : Nat) (e : ByteArray) (v1 v2 : Value) (W : World) : Prop where
  hx : W.heap[b]? = some (.cells (pc e v1 v2) 27 (0, 0))
  hz : W.heap[b + 1]? = some (.cells zc 54 (0, 0))
theorem Xp.below {b : Nat} {e : ByteArray} {v1 v2 : Value} {W W1 : World} (h : Xp b e v1 v2 W) (hB : Bw W W1) : Xp b e v1 v2 W1 := ⟨hB.block h.hx, hB.block h.hz⟩
theorem box3 {W : World} {g : Nat} {t : TypeId} {v0 v1 v2 : Value} (h : W.heap[g]? = some (.cells #[v0, v1, v2] t (0, 0))) : W.cell? ⟨g, 0, none⟩ = some v0 ∧ W.cell? ⟨g, 1, none⟩ = some v1 ∧ W.cell? ⟨g, 2, none⟩ = some v2 := by
  refine ⟨?_, ?_, ?_⟩ <;> (rw [Lib.cell_of_heap h]; rfl)
theorem results_cell_tmp {P : Program} {fn : Func} {p q : Tmp} {ty : TypeId} (h : fn.results = #[.cell p ty, .tmp q]) (tmps : Array Value) (w : World) (g : Nat) (t : TypeId) (cs : Array Value) (fr : Nat × Nat) (d : TypeDesc) (v : Value)
    (hp : tmps.getD p undef = .pointer (some ⟨g, 0, none⟩)) (hq : tmps.getD q undef = v) (hg : w.heap[g]? = some (.cells cs t fr))
    (hu : P.underlying ty = some d) (hd : (match d with | .struct _ | .array _ _ => true | _ => false) = true) (hi : (P.info? ty).map (·.size) = some cs.size) :
    (results fn tmps).run P w = .ok (.tuple #[.agg cs, v]) w := by
  have hp' : tmps[p]?.getD undef = .pointer (some ⟨g, 0, none⟩) := by simpa using hp
  have hq' : tmps[q]?.getD undef = v := by simpa using hq
  simp [results, h, hp', hq', asAddr, run_loadVar_row w g t ty cs fr d hg hu hd hi]
/-- The result's box, written over. -/
theorem put6 {W : World} {g : Nat} {t : TypeId} {c0 c1 c2 c3 c4 c5 : Value} (h : W.heap[g]? = some (.cells #[c0, c1, c2, c3, c4, c5] t (0, 0))) (v0 v1 v2 v3 v4 v5 : Value) {w : World} (hB : Bw w W) (hl : w.heap.size ≤ g) :
    ((((((W.setCell ⟨g, 0, none⟩ v0).setCell ⟨g, 1, none⟩ v1).setCell ⟨g, 2, none⟩ v2).setCell ⟨g, 3, none⟩ v3).setCell ⟨g, 4, none⟩ v4).setCell ⟨g, 5, none⟩ v5).heap[g]? = some (.cells #[v0, v1, v2, v3, v4, v5] t (0, 0)) ∧
    Bw w ((((((W.setCell ⟨g, 0, none⟩ v0).setCell ⟨g, 1, none⟩ v1).setCell ⟨g, 2, none⟩ v2).setCell ⟨g, 3, none⟩ v3).setCell ⟨g, 4, none⟩ v4).setCell ⟨g, 5, none⟩ v5) ∧
    ∀ k, k ≠ g → ((((((W.setCell ⟨g, 0, none⟩ v0).setCell ⟨g, 1, none⟩ v1).setCell ⟨g, 2, none⟩ v2).setCell ⟨g, 3, none⟩ v3).setCell ⟨g, 4, none⟩ v4).setCell ⟨g, 5, none⟩ v5).heap[k]? = W.heap[k]? :=
  ⟨yg3 (yg3 (yg3 (yg3 (yg3 (yg3 h 0 _) 1 _) 2 _) 3 _) 4 _) 5 _,
    (((((hB.set ⟨g, 0, none⟩ _ hl).set ⟨g, 1, none⟩ _ hl).set ⟨g, 2, none⟩ _ hl).set ⟨g, 3, none⟩ _ hl).set ⟨g, 4, none⟩ _ hl).set ⟨g, 5, none⟩ _ hl,
    fun k hk => (Below.heap_setCell _ ⟨g, 5, none⟩ _ k hk).trans ((Below.heap_setCell _ ⟨g, 4, none⟩ _ k hk).trans ((Below.heap_setCell _ ⟨g, 3, none⟩ _ k hk).trans ((Below.heap_setCell _ ⟨g, 2, none⟩ _ k hk).trans ((Below.heap_setCell _ ⟨g, 1, none⟩ _ k hk).trans (Below.heap_setCell _ ⟨g, 0, none⟩ _ k hk)))))⟩
/-- The slots of the boxes. -/
def Sp (b g : Nat) (a : Act) : Prop := a.tmps.getD 1 undef = .pointer (some ⟨b, 0, none⟩) ∧ a.tmps.getD 2 undef = .pointer (some ⟨b + 1, 0, none⟩) ∧ a.tmps.getD 5 undef = .pointer (some ⟨g, 0, none⟩)
set_option maxHeartbeats 40000000 in
set_option maxRecDepth 100000 in
theorem Encode_calls (e : ByteArray) (ts : List Tu) (ms : List ByteArray) (rs : List Bool) (nb : Bool) (A B : Option Addr) (c d : Nat) (w : World) (hC : kTu.C w A ts.length ts) (hD : Kd.string.C w B ms.length ms) (lD : ms.length ≤ d) (hT : Refs.Tens w)
    (hlen : rs.length = ts.length) (hrs : ∀ (j : Nat) x r, ts[j]? = some x → rs[j]? = some r → MayIs x r) (htold : ∀ x ∈ ts, MayIs x true → Told x) (hl : ts.length ≤ 1000000) (hid : ∀ x ∈ ts, x.f0.size ≤ 140737488351232) (hnb : yt3 ms nb) (hnl : nb = true → ms.length ≤ 4) :
    Calls Tryd.prog 18 #[.agg (pc e (.slice A ts.length c) (.slice B ms.length d))] w fun ex w' => ∃ v3 v4, ex = .returned (.tuple #[.agg (nc (encP e ts ms rs nb).1.f0 (encP e ts ms rs nb).1.f1.f0 (encP e ts ms rs nb).1.f1.f1 v3 v4 (encP e ts ms rs nb).1.f4), .int .i64 (encP e ts ms rs nb).2]) ∧ kAt.R 84 w' w.heap.size (fun k => w.heap.size ≤ k) v3 (encP e ts ms rs nb).1.f2 ∧ kNd.R 54 w' w.heap.size (fun k => w.heap.size ≤ k) v4 (encP e ts ms rs nb).1.f3 ∧ Bw w w' := by
  obtain ⟨P, hP⟩ : ∃ P, P = encP e ts ms rs nb := ⟨_, rfl⟩
  rw [← hP]
  have HPP := Aside0.mk hP
  have HC := Aside0.mk hC
  have HD := Aside0.mk hD
  have HTN := Aside0.mk hT
  have HLE := Aside0.mk hlen
  have HRS := Aside0.mk hrs
  have HTO := Aside0.mk htold
  have HLT := Aside0.mk hl
  have HID := Aside0.mk hid
  have HNL := Aside0.mk hnl
  have HCON := Aside0.mk (fun W (h : Bw w W) => contains_calls ts rs hlen hrs hl A c W (Kd.yc4 hC h))
  have HDST := Aside0.mk (fun W (h : Bw w W) => distinct_calls A c ts W (Kd.yc4 hC h) hl hid)
  obtain ⟨kn, hkn⟩ := hnb
  have HNOT := Aside0.mk (fun W (h : Bw w W) => PL.yc2.calls kn B d ms nb W (Kd.yc4 hD h) lD hkn)
  clear hP hC hD hT hlen hrs htold hl hid hnl hkn lD
  go_enter Tryd.func18, Tryd.ntmps18
  go_wp2_with fail
  obtain ⟨b, hb⟩ : ∃ b, b = w.heap.size := ⟨_, rfl⟩
  obtain ⟨W0, hW0⟩ : ∃ W0, (w.alloc (.cells (pc e (.slice A ts.length c) (.slice B ms.length d)) 27)).alloc (.cells zc 54) = W0 := ⟨_, rfl⟩
  rw [hW0]
  have B0 : Bw w W0 := hW0 ▸ ((Bw.refl w).alloc _).alloc _
  have hx : W0.heap[b]? = some (.cells (pc e (.slice A ts.length c) (.slice B ms.length d)) 27 (0, 0)) := by
    rw [hb, ← hW0]
    exact Bw.last2 (Bw.refl _)
  have hz : W0.heap[b + 1]? = some (.cells zc 54 (0, 0)) := by
    rw [hb, ← hW0]
    have h := heap_alloc_last (w.alloc (.cells (pc e (.slice A ts.length c) (.slice B ms.length d)) 27)) (.cells zc 54)
    rw [ye3] at h
    exact h
  have hs0 : W0.heap.size = b + 2 := by rw [hb, ← hW0, ye3, ye3]
  clear hW0
  rw [← hb]
  refine (HCON.out _ B0).mono ?_
  rintro e9 w1 ⟨rfl, hb1⟩
  have B1 : Bw w w1 := B0.trans hb1
  have X1 : Xp b e (.slice A ts.length c) (.slice B ms.length d) w1 := ⟨hb1.block hx, hb1.block hz⟩
  have HS0 := Aside0.mk (show b + 2 ≤ w1.heap.size from hs0 ▸ hb1.size)
  have HBB := Aside0.mk hb
  clear hx hz hs0 hb hb1 B0 HCON
  obtain ⟨y0, y1, y2⟩ := box3 X1.hx
  obtain ⟨z0, z1, z2, z3, z4, z5⟩ := box6 X1.hz
  obtain ⟨q0, q1, q2, q3, q4, q5⟩ := fr6 X1.hz
  have HX1 := Aside0.mk X1
  have HB1 := Aside0.mk B1
  clear X1 B1
  cases p1 : e.toList.isEmpty with
  | true =>
    have hPe : P = (zNd, 4) := by rw [HPP.out]; unfold encP; rw [if_pos (Or.inl (List.isEmpty_iff.1 p1))]
    go_wp2_with fail
    (have hl : w.heap.size ≤ b + 1 := (by have := HBB.out; omega); obtain ⟨hE1, hE2, hE3⟩ := put6 (HX1.out).hz (.int .i64 0) (.string ⟨#[]⟩) (.string ⟨#[]⟩) (.slice none 0 0) (.slice none 0 0) (.string ⟨#[]⟩) (HB1.out) hl; rw [hPe]; refine bodyPost_ret (results_cell_tmp rfl _ _ (b + 1) 54 zc (0, 0) _ _ rfl rfl hE1 Tryd.underlying54 rfl (by kernel_rfl)) rfl ⟨_, _, rfl, Kd.R_nil _ _ _ _ _, Kd.R_nil _ _ _ _ _, hE2⟩)
  | false =>
    have p1' : ¬ e.toList = [] := fun h => by rw [h] at p1; cases p1
    by_cases p2 : 12 < ts.length
    · have hPe : P = (zNd, 4) := by rw [HPP.out]; unfold encP; rw [if_pos (Or.inr (Or.inl p2))]
      have g2 := eq_true (show (12 : Int) < (ts.length : Int) by omega)
      go_wp2_with fail
      (have hl : w.heap.size ≤ b + 1 := (by have := HBB.out; omega); obtain ⟨hE1, hE2, hE3⟩ := put6 (HX1.out).hz (.int .i64 0) (.string ⟨#[]⟩) (.string ⟨#[]⟩) (.slice none 0 0) (.slice none 0 0) (.string ⟨#[]⟩) (HB1.out) hl; rw [hPe]; refine bodyPost_ret (results_cell_tmp rfl _ _ (b + 1) 54 zc (0, 0) _ _ rfl rfl hE1 Tryd.underlying54 rfl (by kernel_rfl)) rfl ⟨_, _, rfl, Kd.R_nil _ _ _ _ _, Kd.R_nil _ _ _ _ _, hE2⟩)
    have g2 := eq_false (show ¬ (12 : Int) < (ts.length : Int) by omega)
    cases p3 : rs.all (· = true) with
    | false =>
      have hPe : P = (zNd, 4) := by rw [HPP.out]; unfold encP; rw [if_pos (Or.inr (Or.inr (Or.inl p3)))]
      go_wp2_with fail
      (have hl : w.heap.size ≤ b + 1 := (by have := HBB.out; omega); obtain ⟨hE1, hE2, hE3⟩ := put6 (HX1.out).hz (.int .i64 0) (.string ⟨#[]⟩) (.string ⟨#[]⟩) (.slice none 0 0) (.slice none 0 0) (.string ⟨#[]⟩) (HB1.out) hl; rw [hPe]; refine bodyPost_ret (results_cell_tmp rfl _ _ (b + 1) 54 zc (0, 0) _ _ rfl rfl hE1 Tryd.underlying54 rfl (by kernel_rfl)) rfl ⟨_, _, rfl, Kd.R_nil _ _ _ _ _, Kd.R_nil _ _ _ _ _, hE2⟩)
    | true =>
      cases nb with
      | false =>
        have hPe : P = (zNd, 4) := by rw [HPP.out]; unfold encP; rw [if_pos (Or.inr (Or.inr (Or.inr rfl)))]
        go_wp2_with (go_at_call 24; (refine (HNOT.out _ HB1.out).mono ?_); rintro e8 w2 ⟨rfl, ⟨k2, rfl⟩⟩)
        have hB2 := HB1.out.drewN k2
        have hX2 := HX1.out.below ((Bw.refl w1).drewN k2)
        (have hl : w.heap.size ≤ b + 1 := (by have := HBB.out; omega); obtain ⟨hE1, hE2, hE3⟩ := put6 (hX2).hz (.int .i64 0) (.string ⟨#[]⟩) (.string ⟨#[]⟩) (.slice none 0 0) (.slice none 0 0) (.string ⟨#[]⟩) (hB2) hl; rw [hPe]; refine bodyPost_ret (results_cell_tmp rfl _ _ (b + 1) 54 zc (0, 0) _ _ rfl rfl hE1 Tryd.underlying54 rfl (by kernel_rfl)) rfl ⟨_, _, rfl, Kd.R_nil _ _ _ _ _, Kd.R_nil _ _ _ _ _, hE2⟩)
      | true =>
        have HP3 := Aside0.mk p3
        have HP1 := Aside0.mk p1'
        have HP2 := Aside0.mk p2
        cases hd : dstF [] ts with
        | false =>
          have hPe : P = (zNd, 41) := by
            rw [HPP.out]
            unfold encP
            rw [if_neg (fun h => h.elim p1' (fun h => h.elim p2 (fun h => h.elim (fun h => by rw [p3] at h; cases h) (fun h => by cases h)))), if_pos hd]
          simp only [hd] at HDST
          clear p3 p1' p2
          go_wp2_with (first | (go_at_call 24; (refine (HNOT.out _ HB1.out).mono ?_); rintro e8 w2 ⟨rfl, hdr⟩; have hB2 : Bw w1 w2 := (by obtain ⟨k2, rfl⟩ := hdr; exact (Bw.refl w1).drewN k2); clear hdr; obtain ⟨y0', y1', y2'⟩ := box3 ((HX1.out.below hB2)).hx) | (go_at_call 25; (refine (HDST.out _ (HB1.out.trans hB2)).mono ?_); rintro e7 w3 ⟨rfl, hb3⟩; obtain ⟨z0', z1', z2', z3', z4', z5'⟩ := box6 ((HX1.out.below hB2).below hb3).hz; obtain ⟨q0', q1', q2', q3', q4', q5'⟩ := fr6 ((HX1.out.below hB2).below hb3).hz))
          have hB3 := (HB1.out.trans hB2).trans hb3
          have hX3 := (HX1.out.below hB2).below hb3
          (have hl : w.heap.size ≤ b + 1 := (by have := HBB.out; omega); obtain ⟨hE1, hE2, hE3⟩ := put6 (hX3).hz (.int .i64 0) (.string ⟨#[]⟩) (.string ⟨#[]⟩) (.slice none 0 0) (.slice none 0 0) (.string ⟨#[]⟩) (hB3) hl; rw [hPe]; refine bodyPost_ret (results_cell_tmp rfl _ _ (b + 1) 54 zc (0, 0) _ _ rfl rfl hE1 Tryd.underlying54 rfl (by kernel_rfl)) rfl ⟨_, _, rfl, Kd.R_nil _ _ _ _ _, Kd.R_nil _ _ _ _ _, hE2⟩)
        | true =>
          have hPe : P = (presN e ts ms, 0) := by
            rw [HPP.out]
            unfold encP
            rw [if_neg (fun h => h.elim p1' (fun h => h.elim p2 (fun h => h.elim (fun h => by rw [p3] at h; cases h) (fun h => by cases h)))), if_neg (by rw [hd]; decide)]
          have HPE := Aside0.mk hPe
          have HNLL := Aside0.mk (HNL.out rfl)
          simp only [hd] at HDST
          have hts : ∀ x ∈ ts, Told x := fun x hx => HTO.out x hx (by
            obtain ⟨j, hj⟩ := List.getElem?_of_mem hx
            have hlt : j < ts.length := (List.getElem?_eq_some_iff.1 hj).1
            have hr : rs[j]? = some (rs[j]'(by have := HLE.out; omega)) := List.getElem?_eq_getElem _
            have ht : rs[j]'(by have := HLE.out; omega) = true := by simpa using List.all_eq_true.1 p3 _ (List.getElem_mem _)
            have hm := HRS.out j x _ hj hr
            rwa [ht] at hm)
          have HTD := Aside0.mk hts
          have hlt12 : ts.length ≤ 12 := by omega
          have HL12 := Aside0.mk hlt12
          clear p3 p1' p2 hPe hts hlt12 hd HNL HTO HRS HLE HP3 HP1 HP2
          go_wp2_with (first | (go_at_call 24; (refine (HNOT.out _ HB1.out).mono ?_); rintro e8 w2 ⟨rfl, hdr⟩; have hB2 : Bw w1 w2 := (by obtain ⟨k2, rfl⟩ := hdr; exact (Bw.refl w1).drewN k2); clear hdr; obtain ⟨y0', y1', y2'⟩ := box3 ((HX1.out.below hB2)).hx) | (go_at_call 25; (refine (HDST.out _ (HB1.out.trans hB2)).mono ?_); rintro e7 W3 ⟨rfl, hb3⟩))
          have HB3 := Aside0.mk ((HB1.out.trans hB2).trans hb3)
          have HX3 := Aside0.mk ((HX1.out.below hB2).below hb3)
          have HS3 := Aside0.mk (show b + 2 ≤ W3.heap.size from Nat.le_trans (Nat.le_trans HS0.out hB2.size) hb3.size)
          clear hB2 hb3 HNOT HDST HX1 HB1 HS0 y0 y1 y2 z0 z1 z2 z3 z4 z5 q0 q1 q2 q3 q4 q5 y0' y1' y2'
          refine yi4 (Q := OnN fun a' W' => Fr 73 a' ∧ ∃ g, Sp b g a' ∧ Bw W3 W' ∧ El w g spF sPres [⟨⟨⟨#[]⟩, sEnt⟩, e⟩] [] W') ?reg6 ?_
          case reg6 =>
            obtain ⟨y0, y1, y2⟩ := box3 HX3.out.hx
            have L0 : ∀ W', Bw W3 W' → W'.cell? ⟨b, 0, none⟩ = some (.string e) := fun W' h => h.cell y0
            clear y0 y1 y2
            go_region_held3 (fun w' => Bw W3 w') (with_reducible (first | assumption | exact Bw.drew (Bw.refl _) | exact Bw.alloc (by assumption) _ | exact Bw.trans (by assumption) (by assumption) | (with_reducible (repeat (first | assumption | exact Bw.refl _ | apply Bw.alloc | apply Bw.drew | apply Bw.drewN | refine Bw.trans ?_ (by assumption))); done) | ((repeat (first | assumption | exact Bw.refl _ | apply Bw.alloc | apply Bw.drew | apply Bw.drewN | (refine Bw.set ?_ _ _ ?_; rotate_left; (dsimp only); (first | exact Bw.size (by with_reducible (repeat (first | assumption | exact Bw.refl _ | apply Bw.alloc | apply Bw.drew | apply Bw.drewN | refine Bw.trans ?_ (by assumption)))) | exact Nat.le_succ_of_le (Bw.size (by with_reducible (repeat (first | assumption | exact Bw.refl _ | apply Bw.alloc | apply Bw.drew | apply Bw.drewN | refine Bw.trans ?_ (by assumption))))))) | refine Bw.trans ?_ (by assumption))); done)))
              (first
                | (go_at_call 28; (with_reducible refine (yo7 _ _).mono ?_); rintro e6 w1 ⟨rfl, hb1⟩; (have hsz := Bw.size hb1; (try simp only [ye3, yi9] at hsz)); (first | with_reducible (first | (have HZ := Aside0.mk (Bw.block hb1 HZ.out)) | (have HZ := Aside0.mk (Bw.block hb1 (Bw.block ((Bw.refl _).alloc _) HZ.out))) | (have HZ := Aside0.mk (Bw.last (o := .cells zc 54) hb1)) | (have HZ := Aside0.mk (Bw.lastd (o := .cells zc 54) hb1)) | (have HZ := Aside0.mk (Bw.last2 (o := .cells zc 54) hb1))) | skip))
                | (go_at_call 27; (with_reducible refine (yr7 _ _ _ _ _ _).mono ?_); rintro e6 w1 ⟨rfl, hb1⟩; (have hsz := Bw.size hb1; (try simp only [ye3, yi9] at hsz)); (first | with_reducible (first | (have HZ := Aside0.mk (Bw.block hb1 HZ.out)) | (have HZ := Aside0.mk (Bw.block hb1 (Bw.block ((Bw.refl _).alloc _) HZ.out))) | (have HZ := Aside0.mk (Bw.last (o := .cells zc 54) hb1)) | (have HZ := Aside0.mk (Bw.lastd (o := .cells zc 54) hb1)) | (have HZ := Aside0.mk (Bw.last2 (o := .cells zc 54) hb1))) | skip))
                | (go_at_call 26; (with_reducible refine (yj5 _ _ _ _ _ _ _ _ _ _ _ rfl).mono ?_); rintro e6 w1 ⟨v3, rfl, hR, hb1⟩; obtain ⟨A3, c3, rfl⟩ := Kd.yd9 hR; (try simp only [ye3] at hR); have HR3 := Aside0.mk hR; clear hR; with_reducible (first | (have HZ := Aside0.mk (Bw.block hb1 HZ.out)) | (have HZ := Aside0.mk (Bw.block hb1 (Bw.block ((Bw.refl _).alloc _) HZ.out))) | (have HZ := Aside0.mk (Bw.last (o := .cells zc 54) hb1)) | (have HZ := Aside0.mk (Bw.lastd (o := .cells zc 54) hb1)) | (have HZ := Aside0.mk (Bw.last2 (o := .cells zc 54) hb1))); obtain ⟨z0, z1, z2, z3, z4, z5⟩ := box6 HZ.out; obtain ⟨q0, q1, q2, q3, q4, q5⟩ := fr6 HZ.out; (try simp only [ye3] at z0 z1 z2 z3 z4 z5 q0 q1 q2 q3 q4 q5); (have hsz := Bw.size hb1; (try simp only [ye3, yi9] at hsz)))
                | (go_at_call 26; (with_reducible refine (yj5 _ _ _ _ _ _ _ _ _ _ _ rfl).mono ?_); rintro e6 w1 ⟨v3, rfl, hR, hb1⟩; obtain ⟨A3, c3, rfl⟩ := Kd.yd9 hR; (try simp only [ye3] at hR); have HR3 := Aside0.mk hR; clear hR; (have hsz := Bw.size hb1; (try simp only [ye3, yi9] at hsz))))
            all_goals refine ⟨⟨rfl, rfl⟩, _, ⟨rfl, rfl, rfl⟩, by assumption, ?_⟩
            all_goals
              have hs0 := HS3.out
              have hbb := HBB.out
              have hd0 : W3.drew.heap.size = W3.heap.size := rfl
              have hW1 : Bw W3 w1 := by with_reducible (repeat (first | assumption | exact Bw.refl _ | apply Bw.alloc | apply Bw.drew | apply Bw.drewN | refine Bw.trans ?_ (by assumption)))
              have hs1 := Bw.size hW1
              have r3 : kAt.R 84 w1 w.heap.size _ (.slice A3 1 c3) [⟨⟨⟨#[]⟩, sEnt⟩, e⟩] := Bw.row (Bw.refl _) HR3.out (by omega) (fun k h1 h2 h3 => And.intro h2 h3)
              first
                | (have HZ2 := HZ.out; (try simp only [ye3] at HZ2); (with_reducible refine El.set (HB3.out.trans hW1) ?_ HZ2 ?_ (Kd.R_nil _ _ _ _ _)))
                | (with_reducible refine El.first (HB3.out.trans hW1) ?_ ?_ (Kd.R_nil _ _ _ _ _))
              · omega
              · exact Kd.R_mono r3 (fun k hk => ⟨by omega, by omega⟩)
          intro e6 a' W4 h
          cases e6 <;> try exact h.elim
          obtain ⟨hfr, g, ⟨e1, e2, e3⟩, B4, E4⟩ := h
          obtain ⟨f, rfl, hf⟩ := lay73 hfr
          have e1 := (hf 1).symm.trans e1
          have e2 := (hf 2).symm.trans e2
          have e3 := (hf 5).symm.trans e3
          rw [e1, e2, e3]
          have HX4 := Aside0.mk (HX3.out.below B4)
          have HE4 := Aside0.mk E4
          clear hfr hf e1 e2 e3 HX3 HB3 HS3 B4 E4
          refine (‹∀ (a : Act) (w : World), Code.wp _ _ _ a w → _› _ _ ?_)
          refine wp_seq_k (fun K12 hK12 => ?_)
          refine yi4 (Q := OnN fun a' W' => Fr 73 a' ∧ Sp b g a' ∧ Xp b e (.slice A ts.length c) (.slice B ms.length d) W' ∧ El w g spF sPres [⟨⟨⟨#[]⟩, sEnt⟩, e⟩] (ts.map encN) W') ?tuples ?_
          case tuples =>
            have y1 := (box3 HX4.out.hx).2.1
            go_wp2_with fail
            go_loopg [45] ts.length (fun m v wr => ∃ j : Nat, v = .int .i64 (j : Int) ∧ j ≤ ts.length ∧ Aside0 (m = ts.length - j) ∧ Aside0 (Xp b e (.slice A ts.length c) (.slice B ms.length d) wr) ∧ Aside0 (El w g spF sPres [⟨⟨⟨#[]⟩, sEnt⟩, e⟩] ((ts.take j).map encN) wr))
            case atStart => exact ⟨0, rfl, Nat.zero_le _, ⟨rfl⟩, HX4, HE4⟩
            case round =>
              obtain ⟨j, rfl, hj, HMe, HX, HEr⟩ := hrel
              by_cases hlt : j < ts.length
              · obtain ⟨ad, A5, c5, eA, k0, k1, k2, k3, k4, k5, k6, l5, g5⟩ := atTu (Kd.yc4 HC.out HEr.out.hb) (j : Int) (by omega) (by omega)
                subst eA
                obtain ⟨x, hx⟩ : ∃ x, ts[j]? = some x := ⟨ts[j], List.getElem?_eq_getElem hlt⟩
                have hd : rdTu ts (j : Int) = x := by simp [rdTu, List.getD_eq_getElem?_getD, hx]
                rw [hd] at k0 k1 k2 k3 k4 k5 k6 l5 g5
                simp only [Int.toNat_natCast] at k0 k1 k2 k3 k4 k5 k6
                have htd := HTD.out x (List.mem_of_getElem? hx)
                obtain ⟨xn, hxn⟩ : ∃ xn, xn = encN x := ⟨_, rfl⟩
                have HXN := Aside0.mk hxn
                have HXJ := Aside0.mk hx
                have u1 := eq_true (show (j : Int) < (ts.length : Int) by omega)
                have u2 := eq_true (show (0 : Int) ≤ (j : Int) by omega)
                obtain ⟨z, hz⟩ : ∃ z, z = j + 1 := ⟨_, rfl⟩
                have f1 : (j : Int) + 1 = (z : Int) := by omega
                have f2 : IntKind.i64.wrap (z : Int) = (z : Int) := IntWalk.i64_in _ (by have := HL12.out; omega)
                have HZJ := Aside0.mk hz
                have HLJ := Aside0.mk hlt
                have HL5 := Aside0.mk l5
                have HG5 := Aside0.mk g5
                clear hz hj hd hx hlt l5 g5
                go_wp2_with fail
                obtain ⟨wq, hwq⟩ : ∃ wq, wr.alloc (.cells #[.string x.f0, .string x.f1, .string x.f2, .string x.f3, .int .i64 x.f4, .slice A5 x.f5.length c5, .int .u64 x.f6] 38) = wq := ⟨_, rfl⟩
                rw [hwq]
                have hBq : Bw wr wq := hwq ▸ (Bw.refl wr).alloc _
                have hxb : wq.heap[wr.heap.size]? = some (.cells #[.string x.f0, .string x.f1, .string x.f2, .string x.f3, .int .i64 x.f4, .slice A5 x.f5.length c5, .int .u64 x.f6] 38 (0, 0)) := hwq ▸ heap_alloc_last wr _
                have HX := Aside0.mk (HX.out.below hBq)
                have HE := Aside0.mk (HEr.out.below hBq)
                clear hwq
                obtain ⟨kids, hkk⟩ : ∃ kids, kids = (ts.take j).map encN := ⟨_, rfl⟩
                rw [← hkk] at HE
                have hkl : kids.length ≤ 12 := by
                  have h2 := HL12.out
                  rw [hkk, List.length_map, List.length_take]
                  omega
                have HKK := Aside0.mk hkk
                obtain ⟨v3, v4, hG, h3, h4⟩ := HE.out.ex
                obtain ⟨A4, c4, rfl⟩ := Kd.yd9 h4
                have L1 : ∀ W', Bw wq W' → W'.cell? ⟨g, 4, none⟩ = some (.slice A4 kids.length c4) := fun W' h => h.cell (box6 hG).2.2.2.2.1
                obtain ⟨m0, m1, m2, m3, m4, m5, m6⟩ := box7 hxb
                have M0 : ∀ W', Bw wq W' → W'.cell? ⟨wr.heap.size, 0, none⟩ = some (.string x.f0) := fun W' h => h.cell m0
                have M1 : ∀ W', Bw wq W' → W'.cell? ⟨wr.heap.size, 1, none⟩ = some (.string x.f1) := fun W' h => h.cell m1
                have M2 : ∀ W', Bw wq W' → W'.cell? ⟨wr.heap.size, 2, none⟩ = some (.string x.f2) := fun W' h => h.cell m2
                have M3 : ∀ W', Bw wq W' → W'.cell? ⟨wr.heap.size, 3, none⟩ = some (.string x.f3) := fun W' h => h.cell m3
                have M4 : ∀ W', Bw wq W' → W'.cell? ⟨wr.heap.size, 4, none⟩ = some (.int .i64 x.f4) := fun W' h => h.cell m4
                have M5 : ∀ W', Bw wq W' → W'.cell? ⟨wr.heap.size, 5, none⟩ = some (.slice A5 x.f5.length c5) := fun W' h => h.cell m5
                have M6 : ∀ W', Bw wq W' → W'.cell? ⟨wr.heap.size, 6, none⟩ = some (.int .u64 x.f6) := fun W' h => h.cell m6
                have hw0 : Bw wq wq.drew := (Bw.refl _).drew
                have HG := Aside0.mk hG
                have H3 := Aside0.mk h3
                have H4 := Aside0.mk h4
                have HXB := Aside0.mk HX.out
                have HL := Aside0.mk hkl
                have HN := Aside0.mk (show ∀ k, wq.heap.size ≤ k → (k ≠ g ∧ w.heap.size + 2 ≤ k) ∧ some k ≠ (Value.slice A4 kids.length c4).ownBlock from fun k hk => by
                  have h1 := blk_lt hG
                  have h2 := HE.out.low
                  exact ⟨⟨by omega, by omega⟩, fun e => by have := Kd.R_lt h4 k e.symm; omega⟩)
                have HEN := Aside0.mk (fun W (h : Bw wq W) => show Calls Tryd.prog 29 #[.agg (tc x.f0 x.f1 x.f2 x.f3 x.f4 (.slice A5 x.f5.length c5) x.f6)] W fun e w' => ∃ v3 v4, e = .returned (.agg (nc 1 spF sTuple v3 v4 ⟨#[]⟩)) ∧ kAt.R 84 w' W.heap.size (fun k => W.heap.size ≤ k) v3 xn.f2 ∧ kNd.R 54 w' W.heap.size (fun k => W.heap.size ≤ k) v4 xn.f3 ∧ Bw W w' from by
                  rw [hxn]
                  exact enc_calls x htd A5 c5 W (Kd.yc4 HG5.out (hBq.trans h)) HL5.out (Refs.yf2 HTN.out (HE.out.hb.trans h)))
                have HMK := Aside0.mk (fun (W : World) (v3 v4 : Value) (r3 : kAt.R 84 W w.heap.size (fun k => wq.heap.size ≤ k) v3 xn.f2) (r4 : kNd.R 54 W w.heap.size (fun k => wq.heap.size ≤ k) v4 xn.f3) => show kNd.M W w.heap.size (fun k => wq.heap.size ≤ k) xn [.int .i64 1, .string spF, .string sTuple, v3, v4, .string ⟨#[]⟩] from by
                  have h := yj7 W w.heap.size (fun k => wq.heap.size ≤ k) xn r3 r4
                  rw [hxn] at h ⊢
                  exact h)
                clear hG h3 h4 hkl hkk hxb hBq m0 m1 m2 m3 m4 m5 m6 hxn htd k0 k1 k2 k3 k4 k5 k6
                go_region_law (first
                  | (go_simp; go_at_call 29; (with_reducible refine (HEN.out _ ?_).mono ?_); (exact Bw.trans (a := wq) (by assumption) (by first | exact Bw.refl _ | assumption)); rintro e w1 ⟨v3, v4, rfl, hR3, hR4, hb1⟩; obtain ⟨A8, c8, rfl⟩ := Kd.yd9 hR3; obtain ⟨A9, c9, rfl⟩ := Kd.yd9 hR4; have hw := Bw.trans (a := wq) (by assumption) hb1; have hwa := fun o => hw.alloc o; have HT3 := Aside0.mk (rowT (W0 := wq) (base := w.heap.size) hR3 (Bw.size (by assumption)) (Bw.size HE.out.hb)); have HT4 := Aside0.mk (rowT (W0 := wq) (base := w.heap.size) hR4 (Bw.size (by assumption)) (Bw.size HE.out.hb)); clear hR3 hR4)
                  | (refine Kd.R_append_step kNd (w0 := w) w.heap.size ?p0 (.tmp 50) (.tmp 53) 52 54 (.agg zc) 104 ?p1 Tryd.underlying52 infoNd rfl (by decide) (by decide) (.slice A4 kids.length c4) kids xn _ (fun k => k ≠ g ∧ w.heap.size + 2 ≤ k) (fun k => wq.heap.size ≤ k) ?p2 ?p3 ?p8 ?p5 ?p6 (Kd.ye5 H4.out hw) (Bw.trans HE.out.hb hw) ?p7 ?p4 ?_; (case p0 => rfl); (case p1 => rfl); (case p2 => first | rfl | simp [Act.eval, Act.put]); (case p3 => first | rfl | simp [Act.eval, Act.put]); (case p8 => exact HMK.out _ _ _ HT3.out HT4.out); (case p5 => exact fun k hk => HN.out k hk); (case p6 => exact fun k hk => (HN.out k (Nat.le_trans (Bw.size hw) hk)).1); (case p7 => exact Bw.size (Bw.trans HE.out.hb hw)); (case p4 => have := HL.out; omega); intro v5 w5 hr5 hb5 hg5 hn5; obtain ⟨A6, c6, rfl⟩ := Kd.yd9 hr5; obtain ⟨hE5, hX5⟩ := El.more HE.out hw HG.out H3.out H4.out hg5 hr5; have HE5 := Aside0.mk hE5; have HX5 := Aside0.mk hX5; have hgk := (hg5.block g (blk_lt (hw.block HG.out)) (fun e => (H4.out.1 g e.symm).1 rfl)).trans (hw.block HG.out); obtain ⟨z0, z1, z2, z3, z4, z5⟩ := box6 hgk; have q4 := yd4 hgk 4; clear z0 z1 z2 z3 z5))
                all_goals
                  have hE := HE5.out
                  have hX := HX5.out
                  rw [List.length_append, List.length_singleton] at hE hX
                  have e : kids ++ [xn] = (ts.take z).map encN := by
                    rw [HKK.out, HZJ.out, List.take_add_one, HXJ.out, List.map_append, HXN.out]
                    rfl
                  have hE2 := hE
                  rw [e] at hE2
                  have hX2 := Xp.mk (b := b) ((hX b (by have := HBB.out; omega)).trans HXB.out.hx) ((hX (b + 1) (by have := HBB.out; omega)).trans HXB.out.hz)
                  clear e
                  have HE6 := Aside0.mk hE2
                  have HX6 := Aside0.mk hX2
                  clear hE hX hE2 hX2
                  go_wp2_with fail
                  go_roundg (ts.length - z)
                  case measure => have h1 := HMe.out; have h2 := HZJ.out; have h3 := HLJ.out; omega
                  case rel => exact ⟨z, rfl, by have h2 := HZJ.out; have h3 := HLJ.out; omega, ⟨rfl⟩, HX6, HE6⟩
              · have u1 := eq_false (show ¬ (j : Int) < (ts.length : Int) by omega)
                obtain rfl : j = ts.length := by omega
                have hE := HEr.out
                rw [List.take_length] at hE
                have HE6 := Aside0.mk hE
                clear hE hlt hj
                go_wp2_with fail
                exact ⟨⟨rfl, rfl⟩, ⟨rfl, rfl, rfl⟩, HX.out, HE6.out⟩
          intro e6 a' W5 h
          cases e6 <;> try exact h.elim
          obtain ⟨hfr, ⟨e1, e2, e3⟩, X5, E5⟩ := h
          obtain ⟨f', rfl, hf⟩ := lay73 hfr
          have e1 := (hf 1).symm.trans e1
          have e2 := (hf 2).symm.trans e2
          have e3 := (hf 5).symm.trans e3
          rw [e1, e2, e3]
          obtain ⟨kids5, hk5, E5⟩ : ∃ kids5, kids5 = ts.map encN ∧ El w g spF sPres [⟨⟨⟨#[]⟩, sEnt⟩, e⟩] kids5 W5 := ⟨_, rfl, E5⟩
          have hkl5 : kids5.length ≤ 12 := by
            have := HL12.out
            rw [hk5, List.length_map]; omega
          have HKK5 := Aside0.mk hk5
          have HX5' := Aside0.mk X5
          have HE5' := Aside0.mk E5
          have HL5' := Aside0.mk hkl5
          clear hfr hf e1 e2 e3 hk5 hkl5 HE4 HX4 X5 E5
          refine hK12 _ _ ?_
          refine wp_seq_k (fun K17 hK17 => ?_)
          refine yi4 (Q := OnN fun a' W' => Fr 73 a' ∧ Sp b g a' ∧ Xp b e (.slice A ts.length c) (.slice B ms.length d) W' ∧ El w g spF sPres [⟨⟨⟨#[]⟩, sEnt⟩, e⟩] (kids5 ++ ms.flatMap (textN spF sNote)) W') ?notes ?_
          case notes =>
            have y2 := (box3 HX5'.out.hx).2.2
            go_wp2_with fail
            go_loopg [60] ms.length (fun m v wr => ∃ j : Nat, v = .int .i64 (j : Int) ∧ j ≤ ms.length ∧ Aside0 (m = ms.length - j) ∧ Aside0 (Xp b e (.slice A ts.length c) (.slice B ms.length d) wr) ∧ Aside0 (El w g spF sPres [⟨⟨⟨#[]⟩, sEnt⟩, e⟩] (kids5 ++ (ms.take j).flatMap (textN spF sNote)) wr))
            case atStart => exact ⟨0, rfl, Nat.zero_le _, ⟨rfl⟩, HX5', ⟨by simpa using HE5'.out⟩⟩
            case round =>
              obtain ⟨j, rfl, hj, HMe, HX, HE⟩ := hrel
              by_cases hlt : j < ms.length
              · obtain ⟨ad, c0, eA, _, hcK, hcc⟩ := Kd.C_get (Kd.yc4 HD.out HE.out.hb) (⟨#[]⟩ : ByteArray) (j : Int) (by omega) (by omega)
                subst eA
                obtain ⟨s, hs⟩ : ∃ s, ms[j]? = some s := ⟨_, List.getElem?_eq_getElem hlt⟩
                have hcc0 : wr.cell? (ad.add j) = some (.string s) := by
                  have e : c0 = [.string (ms.getD j ⟨#[]⟩)] := hcK
                  subst e
                  have h := hcc 0 _ rfl
                  simp only [Int.toNat_natCast, show Kd.string.sz = 1 from rfl, Nat.mul_one, Nat.add_zero] at h
                  rw [h, List.getD_eq_getElem?_getD, hs]
                  rfl
                have HS := Aside0.mk hs
                obtain ⟨kids, hkk⟩ : ∃ kids, kids = kids5 ++ (ms.take j).flatMap (textN spF sNote) := ⟨_, rfl⟩
                rw [← hkk] at HE
                have hkl : kids.length ≤ 20 := by
                  have h1 := yr6 spF sNote (ms.take j)
                  have h2 := HL5'.out
                  have h3 := HNLL.out
                  rw [List.length_take] at h1
                  rw [hkk, List.length_append]
                  omega
                have HKK := Aside0.mk hkk
                obtain ⟨v3, v4, hG, h3, h4⟩ := HE.out.ex
                obtain ⟨A4, c4, rfl⟩ := Kd.yd9 h4
                have L1 : ∀ W', Bw wr W' → W'.cell? ⟨g, 4, none⟩ = some (.slice A4 kids.length c4) := fun W' h => h.cell (box6 hG).2.2.2.2.1
                have hw0 : Bw wr wr.drew := (Bw.refl _).drew
                have HG := Aside0.mk hG
                have H3 := Aside0.mk h3
                have H4 := Aside0.mk h4
                have HXB := Aside0.mk HX.out
                have HL := Aside0.mk hkl
                have HN := Aside0.mk (show ∀ k, wr.heap.size ≤ k → (k ≠ g ∧ w.heap.size + 2 ≤ k) ∧ some k ≠ (Value.slice A4 kids.length c4).ownBlock from fun k hk => by
                  have h1 := blk_lt hG
                  have h2 := HE.out.low
                  exact ⟨⟨by omega, by omega⟩, fun e => by have := Kd.R_lt h4 k e.symm; omega⟩)
                have u1 := eq_true (show (j : Int) < (ms.length : Int) by omega)
                have u2 := eq_true (show (0 : Int) ≤ (j : Int) by omega)
                obtain ⟨z, hz⟩ : ∃ z, z = j + 1 := ⟨_, rfl⟩
                have f1 : (j : Int) + 1 = (z : Int) := by omega
                have f2 : IntKind.i64.wrap (z : Int) = (z : Int) := IntWalk.i64_in _ (by have := HNLL.out; omega)
                have HZJ := Aside0.mk hz
                have HLT := Aside0.mk hlt
                clear hG h3 h4 hkl hkk hs hcc hcK hz hlt hj
                go_wp2_with fail
                go_region_law (first
                  | (go_simp; go_at_call 28; (with_reducible refine (yo7 _ _).mono ?_); rintro e w1 ⟨rfl, hb1⟩; have hw := Bw.trans (a := wr) (by assumption) hb1)
                  | (go_simp; go_at_call 30; (with_reducible refine (ym9 _ _ _ _).mono ?_); rintro e w1 ⟨v, rfl, hR, hb1, hln⟩; obtain ⟨A13, c13, rfl⟩ := Kd.yd9 hR; have hw := Bw.trans (a := wr) (by assumption) hb1; have HT := Aside0.mk (rowT (base := w.heap.size) hR (Bw.size (a := wr) (by assumption)) (Bw.size HE.out.hb)); have HLN := Aside0.mk hln; clear hR hln)
                  | (refine Kd.yh3 kNd (w0 := w) w.heap.size ?p0 (.tmp 65) (.tmp 68) 52 54 (.agg zc) 104 ?p1 Tryd.underlying52 infoNd rfl (by decide) (by decide) (.slice A4 kids.length c4) kids _ A13 _ c13 (fun k => k ≠ g ∧ w.heap.size + 2 ≤ k) (fun k => wr.heap.size ≤ k) ?p2 ?p3 (Kd.ye5 H4.out hw) (yq4 HT.out) ?p8 ?p5 ?p6 (Bw.trans HE.out.hb hw) ?p7 ?p4 ?_; (case p0 => rfl); (case p1 => rfl); (case p2 => first | rfl | simp [Act.eval, Act.put]); (case p3 => first | rfl | simp [Act.eval, Act.put]); (case p5 => exact fun k hk => HN.out k hk); (case p6 => exact fun k hk => (HN.out k (Nat.le_trans (Bw.size hw) hk)).1); (case p8 => exact fun _ _ h => kNd.M_mono (fun _ hk => hk.1) h); (case p7 => exact Bw.size (Bw.trans HE.out.hb hw)); (case p4 => have := HL.out; have := HLN.out; omega); intro v5 w5 hr5 hb5 hg5 hn5; obtain ⟨A6, c6, rfl⟩ := Kd.yd9 hr5; obtain ⟨hE5, hX5⟩ := El.more HE.out hw HG.out H3.out H4.out hg5 hr5; have HE5 := Aside0.mk hE5; have HX5 := Aside0.mk hX5; have hgk := (hg5.block g (blk_lt (hw.block HG.out)) (fun e => (H4.out.1 g e.symm).1 rfl)).trans (hw.block HG.out); obtain ⟨z0, z1, z2, z3, z4, z5⟩ := box6 hgk; have q4 := yd4 hgk 4; clear z0 z1 z2 z3 z5))
                all_goals
                  have hE := HE5.out
                  have hX := HX5.out
                  rw [List.length_append] at hE hX
                  have e9 : kids ++ textN spF sNote s = kids5 ++ (ms.take z).flatMap (textN spF sNote) := by
                    rw [HKK.out, HZJ.out, List.take_add_one, HS.out, List.flatMap_append]
                    simp
                  have hE2 := hE
                  rw [e9] at hE2
                  have hX2 := Xp.mk (b := b) ((hX b (by have := HBB.out; omega)).trans HXB.out.hx) ((hX (b + 1) (by have := HBB.out; omega)).trans HXB.out.hz)
                  clear e9
                  have HE6 := Aside0.mk hE2
                  have HX6 := Aside0.mk hX2
                  clear hE hX hE2 hX2
                  go_wp2_with fail
                  go_roundg (ms.length - z)
                  case measure => have h1 := HMe.out; have h2 := HZJ.out; have h3 := HLT.out; omega
                  case rel => exact ⟨z, rfl, by have h2 := HZJ.out; have h3 := HLT.out; omega, ⟨rfl⟩, HX6, HE6⟩
              · have u1 := eq_false (show ¬ (j : Int) < (ms.length : Int) by omega)
                obtain rfl : j = ms.length := by omega
                have hE := HE.out
                rw [List.take_length] at hE
                have HE6 := Aside0.mk hE
                clear hE hlt hj
                go_wp2_with fail
                exact ⟨⟨rfl, rfl⟩, ⟨rfl, rfl, rfl⟩, HX.out, HE6.out⟩
          intro e6 a' W6 h
          cases e6 <;> try exact h.elim
          obtain ⟨hfr, ⟨e1, e2, e3⟩, X6, E6⟩ := h
          obtain ⟨f5, rfl, hf⟩ := lay73 hfr
          have e1 := (hf 1).symm.trans e1
          have e2 := (hf 2).symm.trans e2
          have e3 := (hf 5).symm.trans e3
          rw [e1, e2, e3]
          obtain ⟨kids6, hk6, E6⟩ : ∃ kids6, kids6 = kids5 ++ ms.flatMap (textN spF sNote) ∧ El w g spF sPres [⟨⟨⟨#[]⟩, sEnt⟩, e⟩] kids6 W6 := ⟨_, rfl, E6⟩
          have HKI := Aside0.mk (show P = (⟨1, ⟨spF, sPres⟩, [⟨⟨⟨#[]⟩, sEnt⟩, e⟩], kids6, ⟨#[]⟩⟩, 0) from by rw [HPE.out, hk6, HKK5.out]; rfl)
          obtain ⟨v3, v4, hG, h3, h4⟩ := E6.ex
          obtain ⟨A3, c3, rfl⟩ := Kd.yd9 h3
          obtain ⟨A4, c4, rfl⟩ := Kd.yd9 h4
          obtain ⟨z0, z1, z2, z3, z4, z5⟩ := box6 hG
          obtain ⟨y0, y1, y2, y3, y4, y5⟩ := box6 X6.hz
          obtain ⟨q0, q1, q2, q3, q4, q5⟩ := fr6 X6.hz
          have HBZ := Aside0.mk X6.hz
          have HB6 := Aside0.mk E6.hb
          have HR3 := Aside0.mk h3
          have HR4 := Aside0.mk h4
          clear hfr hf e1 e2 e3 hk6 E6 X6 hG h3 h4 HKK5 HPE HPP
          refine hK17 _ _ ?_
          go_wp2_with fail
          have hbb := HBB.out
          obtain ⟨hE1, hE2, hE3⟩ := put6 HBZ.out (.int .i64 1) (.string spF) (.string sPres) (.slice A3 1 c3) (.slice A4 kids6.length c4) (.string ⟨#[]⟩) HB6.out (show w.heap.size ≤ b + 1 by omega)
          rw [HKI.out]
          refine bodyPost_ret (results_cell_tmp rfl _ _ (b + 1) 54 (nc 1 spF sPres (.slice A3 1 c3) (.slice A4 kids6.length c4) ⟨#[]⟩) (0, 0) _ _ rfl rfl hE1 Tryd.underlying54 rfl (by kernel_rfl)) rfl ⟨_, _, rfl, ?_, ?_, hE2⟩
          · exact Kd.R_mono (Kd.R_step HR3.out (fun k hk _ => hE3 k (by omega))) (fun k hk => by omega)
          · exact Kd.R_mono (Kd.R_step HR4.out (fun k hk _ => hE3 k (by omega))) (fun k hk => by omega)
end Go.Proofs.YtidkjifilgjgfaaDoor.Pd
