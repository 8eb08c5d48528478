import Derived.Test.YtffpbhbiamkkpaaDoorPVx0
-- PRINTED by print.py (a twelfth state) out of the translation. Not trusted: Lean checks it.
namespace Go.Proofs.YtffpbhbiamkkpaaDoor.PV
open Go.RowKit Go.Proofs.YtffpbhbiamkkpaaDoorW.PrintWords Go.Proofs.YtffpbhbiamkkpaaDoorW.PrintLast Go.Proofs.YtffpbhbiamkkpaaDoorW.PrintMore
attribute [local go_sem] max2_int min2_int max_two min_two max_three min_three max_four min_four   -- for this text's walks alone
set_option linter.unusedVariables false
set_option linter.unusedSimpArgs false

/-! ### lex_Tokens: function 23 -/
theorem lex_Tokens_conv {α β : Type} {d : Kd α} {d' : Kd β} (h : α → β) (hd : ∀ w base ok x cs, d.M w base ok x cs → d'.M w base ok (h x) cs) (hsz : d'.sz = d.sz) {e : Nat} {w : World} {base : Nat} {ok : Nat → Prop} {v : Value} {xs : List α} (hR : d.R e w base ok v xs) : d'.R e w base ok v (xs.map h) := by
  obtain ⟨h0, inner, ho, hl, hr⟩ := hR
  refine ⟨h0, inner, ?_, ?_, ?_⟩
  · rw [List.length_map, hsz]; exact ho
  · rw [List.length_map, hsz]; exact hl
  · intro j p hj
    rw [List.getElem?_map] at hj
    obtain ⟨x, hx, rfl⟩ := Option.map_eq_some_iff.1 hj
    rw [hsz]
    exact hd _ _ _ _ _ (hr j x hx)
theorem lex_Tokens_convS {α β : Type} {d : Kd α} {d' : Kd β} (h : α → β) (hd : ∀ w base ok x cs, d.M w base ok x cs → d'.M w base ok (h x) cs) (hsz : d'.sz = d.sz) {e : Nat} {w : World} {base : Nat} {ok : Nat → Prop} {v : Value} {xs : List α} (hR : d.S e w base ok v xs) : d'.S e w base ok v (xs.map h) := by
  obtain ⟨f, hR⟩ := hR
  refine ⟨f, ?_⟩
  have := lex_Tokens_conv (d := Kd.tag f d) (d' := Kd.tag f d') (fun p : α × Nat => (h p.1, p.2)) (fun _ _ _ _ _ hm => hd _ _ _ _ _ hm) hsz hR
  rw [show (xs.map h).zipIdx = xs.zipIdx.map (fun p : α × Nat => (h p.1, p.2)) from by rw [List.zipIdx_map]; rfl]
  exact this
def lex_Tokens_raw (x : Lx.Raw) : S86 := ⟨x.n, x.v⟩
def lex_Tokens_tok (x : Lx.Tok) : S50 := ⟨x.kind, x.at_, x.name, x.attrs.map lex_Tokens_raw, x.text⟩
def lex_Tokens.f (a0 : ByteArray) : Option (List S50 × Int × Int) := (Lx.lexTok a0).map fun r => (r.1.map lex_Tokens_tok, r.2.1, r.2.2)
theorem lex_Tokens.calls (a0 : ByteArray) (r1 : List S50) (r2 : Int) (r3 : Int) (w : World) (hml : MU w) (h : lex_Tokens.f a0 = some (r1, r2, r3)) :
    Calls Tryd.prog 23 #[.string a0] w fun e w' => ∃ v0_ : Value, e = .returned (.tuple #[v0_, .int .i64 r2, .int .i64 r3]) ∧ Kd.S k50 50 w' w.heap.size (fun _ => True) v0_ r1 ∧ Below w.heap.size w w' := by
  obtain ⟨⟨l, a, c⟩, hl, h⟩ := Option.map_eq_some_iff.1 h
  injection h with h1 h2
  injection h2 with h2 h3
  subst h1 h2 h3
  refine (Lx.tokens_calls a0 w hml.1 hml.2 l a c hl).mono ?_
  rintro e w' ⟨v, he, hS, hb⟩
  refine ⟨v, he, lex_Tokens_convS lex_Tokens_tok ?_ rfl hS, hb⟩
  intro w base ok x cs hM
  obtain ⟨_, _, rfl, rfl, ⟨_, _, rfl, rfl, ⟨_, _, rfl, rfl, ⟨_, _, rfl, ⟨u, rfl, hR⟩, rfl⟩⟩⟩⟩ := hM
  refine k50_mkM w base ok (lex_Tokens_tok x) (lex_Tokens_conv lex_Tokens_raw ?_ rfl hR)
  intro w base ok x cs hM
  obtain ⟨_, _, rfl, rfl, rfl⟩ := hM
  exact k86_mkM w base ok (lex_Tokens_raw x)

/-! ### watchbilllaw03_awake: function 20 -/
def watchbilllaw03_awake.f  : Option (Bool) := (lex_Tokens.f (⟨#[60, 97, 32, 98, 61, 39, 49, 39, 62, 120, 38, 108, 116, 59, 60, 47, 97, 62]⟩ : ByteArray)).bind fun bt101 => ((lex_Tokens.f (⟨#[60, 97, 32, 98, 62]⟩ : ByteArray)).bind fun bt106 => (if (bt101.1.length : Int) = 3 then (if bt101.2.1 = 0 then (if bt101.2.2 = 0 then (if 0 < (bt101.1.length : Int) then (if ((rd_T50 bt101.1 0).f2).toList = ([97] : List UInt8) then (if (((rd_T50 bt101.1 0).f3).length : Int) = 1 then (if 0 < (((rd_T50 bt101.1 0).f3).length : Int) then (if ((rd_T86 ((rd_T50 bt101.1 0).f3) 0).f1).toList = ([49] : List UInt8) then (if 1 < (bt101.1.length : Int) then (if ((rd_T50 bt101.1 1).f4).toList = ([120, 60] : List UInt8) then (if ((rd_T50 bt101.1 1).f1) = 9 then (if 2 < (bt101.1.length : Int) then (if ((rd_T50 bt101.1 2).f1) = 14 then (if bt106.2.1 = 4 then (some (bt106.2.2 == 4)) else (none)) else (none)) else (none)) else (none)) else (none)) else (none)) else (none)) else (none)) else (none)) else (none)) else (none)) else (none)) else (none)) else (none)))
set_option maxHeartbeats 8000000 in
set_option maxRecDepth 100000 in
theorem watchbilllaw03_awake.calls  (r : Bool) (w : World) (hml : MU w) (h : watchbilllaw03_awake.f  = some r) :
    Calls Tryd.prog 20 #[] w fun e w' => e = .returned (.bool r) ∧ Below w.heap.size w w' := by
  have HML := Aside0.mk hml
  clear hml
  have HB := Aside0.mk (Below.refl w.heap.size w)
  have H : ((lex_Tokens.f (⟨#[60, 97, 32, 98, 61, 39, 49, 39, 62, 120, 38, 108, 116, 59, 60, 47, 97, 62]⟩ : ByteArray)).bind fun bt101 => ((lex_Tokens.f (⟨#[60, 97, 32, 98, 62]⟩ : ByteArray)).bind fun bt106 => (if (bt101.1.length : Int) = 3 then (if bt101.2.1 = 0 then (if bt101.2.2 = 0 then (if 0 < (bt101.1.length : Int) then (if ((rd_T50 bt101.1 0).f2).toList = ([97] : List UInt8) then (if (((rd_T50 bt101.1 0).f3).length : Int) = 1 then (if 0 < (((rd_T50 bt101.1 0).f3).length : Int) then (if ((rd_T86 ((rd_T50 bt101.1 0).f3) 0).f1).toList = ([49] : List UInt8) then (if 1 < (bt101.1.length : Int) then (if ((rd_T50 bt101.1 1).f4).toList = ([120, 60] : List UInt8) then (if ((rd_T50 bt101.1 1).f1) = 9 then (if 2 < (bt101.1.length : Int) then (if ((rd_T50 bt101.1 2).f1) = 14 then (if bt106.2.1 = 4 then (some (bt106.2.2 == 4)) else (none)) else (none)) else (none)) else (none)) else (none)) else (none)) else (none)) else (none)) else (none)) else (none)) else (none)) else (none)) else (none)) else (none)))) = some r := h
  clear h
  replace H := Option.bind_eq_some_iff.mp H
  obtain ⟨⟨t101, t102, t103⟩, A10, H⟩ := H
  replace H : ((lex_Tokens.f (⟨#[60, 97, 32, 98, 62]⟩ : ByteArray)).bind fun bt106 => (if (t101.length : Int) = 3 then (if t102 = 0 then (if t103 = 0 then (if 0 < (t101.length : Int) then (if ((rd_T50 t101 0).f2).toList = ([97] : List UInt8) then (if (((rd_T50 t101 0).f3).length : Int) = 1 then (if 0 < (((rd_T50 t101 0).f3).length : Int) then (if ((rd_T86 ((rd_T50 t101 0).f3) 0).f1).toList = ([49] : List UInt8) then (if 1 < (t101.length : Int) then (if ((rd_T50 t101 1).f4).toList = ([120, 60] : List UInt8) then (if ((rd_T50 t101 1).f1) = 9 then (if 2 < (t101.length : Int) then (if ((rd_T50 t101 2).f1) = 14 then (if bt106.2.1 = 4 then (some (bt106.2.2 == 4)) else (none)) else (none)) else (none)) else (none)) else (none)) else (none)) else (none)) else (none)) else (none)) else (none)) else (none)) else (none)) else (none)) else (none))) = some r := H
  have A1 := Aside0.mk A10
  clear A10
  replace H := Option.bind_eq_some_iff.mp H
  obtain ⟨⟨t106, t107, t108⟩, A20, H⟩ := H
  replace H : (if (t101.length : Int) = 3 then (if t102 = 0 then (if t103 = 0 then (if 0 < (t101.length : Int) then (if ((rd_T50 t101 0).f2).toList = ([97] : List UInt8) then (if (((rd_T50 t101 0).f3).length : Int) = 1 then (if 0 < (((rd_T50 t101 0).f3).length : Int) then (if ((rd_T86 ((rd_T50 t101 0).f3) 0).f1).toList = ([49] : List UInt8) then (if 1 < (t101.length : Int) then (if ((rd_T50 t101 1).f4).toList = ([120, 60] : List UInt8) then (if ((rd_T50 t101 1).f1) = 9 then (if 2 < (t101.length : Int) then (if ((rd_T50 t101 2).f1) = 14 then (if t107 = 4 then (some (t108 == 4)) else (none)) else (none)) else (none)) else (none)) else (none)) else (none)) else (none)) else (none)) else (none)) else (none)) else (none)) else (none)) else (none)) else (none)) = some r := H
  have A2 := Aside0.mk A20
  clear A20
  by_cases c3 : (t101.length : Int) = 3
  rotate_left 1
  · rw [if_neg c3] at H
    exact absurd H (by simp)

  rw [if_pos c3] at H
  have c3b0 : ((t101.length : Int) == 3) = true := beq_iff_eq.mpr c3
  have c3b1 : ((t101.length : Int) != 3) = false := bne_eq_false_iff_eq.mpr c3
  clear c3
  by_cases c4 : t102 = 0
  rotate_left 1
  · rw [if_neg c4] at H
    exact absurd H (by simp)
  rw [if_pos c4] at H
  have c4b0 : (t102 == 0) = true := beq_iff_eq.mpr c4
  have c4b1 : (t102 != 0) = false := bne_eq_false_iff_eq.mpr c4
  clear c4
  by_cases c5 : t103 = 0
  rotate_left 1
  · rw [if_neg c5] at H
    exact absurd H (by simp)
  rw [if_pos c5] at H
  have c5b0 : (t103 == 0) = true := beq_iff_eq.mpr c5
  have c5b1 : (t103 != 0) = false := bne_eq_false_iff_eq.mpr c5
  clear c5
  by_cases c6 : 0 < (t101.length : Int)
  rotate_left 1
  · rw [if_neg c6] at H
    exact absurd H (by simp)
  rw [if_pos c6] at H
  have c6b0 : decide (0 < (t101.length : Int)) = true := decide_eq_true c6
  have c6b1 : decide (0 < t101.length) = true := decide_eq_true (by omega)
  clear c6
  by_cases c7 : ((rd_T50 t101 0).f2).toList = ([97] : List UInt8)
  rotate_left 1
  · rw [if_neg c7] at H
    exact absurd H (by simp)
  rw [if_pos c7] at H
  have c7b0 : (((rd_T50 t101 0).f2).toList == ([97] : List UInt8)) = true := beq_iff_eq.mpr c7
  have c7b1 : (((rd_T50 t101 0).f2).toList != ([97] : List UInt8)) = false := bne_eq_false_iff_eq.mpr c7
  clear c7
  by_cases c8 : (((rd_T50 t101 0).f3).length : Int) = 1
  rotate_left 1
  · rw [if_neg c8] at H
    exact absurd H (by simp)
  rw [if_pos c8] at H
  have c8b0 : ((((rd_T50 t101 0).f3).length : Int) == 1) = true := beq_iff_eq.mpr c8
  have c8b1 : ((((rd_T50 t101 0).f3).length : Int) != 1) = false := bne_eq_false_iff_eq.mpr c8
  clear c8
  by_cases c9 : 0 < (((rd_T50 t101 0).f3).length : Int)
  rotate_left 1
  · rw [if_neg c9] at H
    exact absurd H (by simp)
  rw [if_pos c9] at H
  have c9b0 : decide (0 < (((rd_T50 t101 0).f3).length : Int)) = true := decide_eq_true c9
  have c9b1 : decide (0 < ((rd_T50 t101 0).f3).length) = true := decide_eq_true (by omega)
  clear c9
  by_cases c10 : ((rd_T86 ((rd_T50 t101 0).f3) 0).f1).toList = ([49] : List UInt8)
  rotate_left 1
  · rw [if_neg c10] at H
    exact absurd H (by simp)
  rw [if_pos c10] at H
  have c10b0 : (((rd_T86 ((rd_T50 t101 0).f3) 0).f1).toList == ([49] : List UInt8)) = true := beq_iff_eq.mpr c10
  have c10b1 : (((rd_T86 ((rd_T50 t101 0).f3) 0).f1).toList != ([49] : List UInt8)) = false := bne_eq_false_iff_eq.mpr c10
  clear c10
  by_cases c11 : 1 < (t101.length : Int)
  rotate_left 1
  · rw [if_neg c11] at H
    exact absurd H (by simp)
  rw [if_pos c11] at H
  have c11b0 : decide (1 < (t101.length : Int)) = true := decide_eq_true c11
  have c11b1 : decide (1 < t101.length) = true := decide_eq_true (by omega)
  clear c11
  by_cases c12 : ((rd_T50 t101 1).f4).toList = ([120, 60] : List UInt8)
  rotate_left 1
  · rw [if_neg c12] at H
    exact absurd H (by simp)
  rw [if_pos c12] at H
  have c12b0 : (((rd_T50 t101 1).f4).toList == ([120, 60] : List UInt8)) = true := beq_iff_eq.mpr c12
  have c12b1 : (((rd_T50 t101 1).f4).toList != ([120, 60] : List UInt8)) = false := bne_eq_false_iff_eq.mpr c12
  clear c12
  by_cases c13 : ((rd_T50 t101 1).f1) = 9
  rotate_left 1
  · rw [if_neg c13] at H
    exact absurd H (by simp)
  rw [if_pos c13] at H
  have c13b0 : (((rd_T50 t101 1).f1) == 9) = true := beq_iff_eq.mpr c13
  have c13b1 : (((rd_T50 t101 1).f1) != 9) = false := bne_eq_false_iff_eq.mpr c13
  clear c13
  by_cases c14 : 2 < (t101.length : Int)
  rotate_left 1
  · rw [if_neg c14] at H
    exact absurd H (by simp)
  rw [if_pos c14] at H
  have c14b0 : decide (2 < (t101.length : Int)) = true := decide_eq_true c14
  have c14b1 : decide (2 < t101.length) = true := decide_eq_true (by omega)
  clear c14
  by_cases c15 : ((rd_T50 t101 2).f1) = 14
  rotate_left 1
  · rw [if_neg c15] at H
    exact absurd H (by simp)
  rw [if_pos c15] at H
  have c15b0 : (((rd_T50 t101 2).f1) == 14) = true := beq_iff_eq.mpr c15
  have c15b1 : (((rd_T50 t101 2).f1) != 14) = false := bne_eq_false_iff_eq.mpr c15
  clear c15
  by_cases c16 : t107 = 4
  rotate_left 1
  · rw [if_neg c16] at H
    exact absurd H (by simp)
  rw [if_pos c16] at H
  have c16b0 : (t107 == 4) = true := beq_iff_eq.mpr c16
  have c16b1 : (t107 != 4) = false := bne_eq_false_iff_eq.mpr c16
  clear c16
  obtain rfl := Option.some.inj H
  go_enter Tryd.func20, Tryd.ntmps20
  go_wp2_with (first | ((with_reducible refine gate_callee (f := 23) rfl ?_); refine goesL_ (some 8) rfl rfl Tryd.func23 (by kernel_rfl) rfl #[.string (⟨#[60, 97, 32, 98, 61, 39, 49, 39, 62, 120, 38, 108, 116, 59, 60, 47, 97, 62]⟩ : ByteArray)] rfl (by (try simp only [List.map_toArray, List.map_cons, List.map_nil]); first | done | rfl | (simp only [List.length_drop, List.length_take]; rfl) | (simp only [ByteArray.size_extract]; rfl)) ?_; (with_reducible refine (lex_Tokens.calls (⟨#[60, 97, 32, 98, 61, 39, 49, 39, 62, 120, 38, 108, 116, 59, 60, 47, 97, 62]⟩ : ByteArray) t101 t102 t103 _ (by exact MU.below HML.out (by repeat (first | (with_reducible first | exact HB.out | apply below_alloc | apply pw_below_drewN | apply below_drew1) | exact HB.out))) A1.out).mono ?_); rintro e w17 ⟨v104, rfl, ho0, hb⟩; refine ⟨_, rfl, ?_⟩; have n0_ := Aside0.mk (Kd.S_lower ho0 (below_size (by repeat (first | (with_reducible first | exact HB.out | apply below_alloc | apply pw_below_drewN | apply below_drew1) | exact HB.out)))); have n1_ := Aside0.mk (below_step (by repeat (first | (with_reducible first | exact HB.out | apply below_alloc | apply pw_below_drewN | apply below_drew1) | exact HB.out)) hb); clear HB; have HO105 := n0_; have HB := n1_; clear n0_ n1_; (try clear hb); (try clear hb2); (try clear hk); (try clear hi); (try clear ho0)) | ((with_reducible refine gate_callee (f := 23) rfl ?_); refine goesL_ (some 13) rfl rfl Tryd.func23 (by kernel_rfl) rfl #[.string (⟨#[60, 97, 32, 98, 62]⟩ : ByteArray)] rfl (by (try simp only [List.map_toArray, List.map_cons, List.map_nil]); first | done | rfl | (simp only [List.length_drop, List.length_take]; rfl) | (simp only [ByteArray.size_extract]; rfl)) ?_; (with_reducible refine (lex_Tokens.calls (⟨#[60, 97, 32, 98, 62]⟩ : ByteArray) t106 t107 t108 _ (by exact MU.below HML.out (by repeat (first | (with_reducible first | exact HB.out | apply below_alloc | apply pw_below_drewN | apply below_drew1) | exact HB.out))) A2.out).mono ?_); rintro e w18 ⟨v109, rfl, ho0, hb⟩; refine ⟨_, rfl, ?_⟩; have n0_ := Aside0.mk (Kd.S_elder' (by (with_reducible repeat (first | apply Kd.S_alloc | apply Kd.S_drewN | apply Kd.S_drew)); exact HO105.out) (Kd.S_base ho0) hb); have n1_ := Aside0.mk (Kd.S_lower (Kd.S_new' ho0 (Kd.S_lt (by (with_reducible repeat (first | apply Kd.S_alloc | apply Kd.S_drewN | apply Kd.S_drew)); exact HO105.out))) (below_size (by repeat (first | (with_reducible first | exact HB.out | apply below_alloc | apply pw_below_drewN | apply below_drew1) | exact HB.out)))); have n2_ := Aside0.mk (below_step (by repeat (first | (with_reducible first | exact HB.out | apply below_alloc | apply pw_below_drewN | apply below_drew1) | exact HB.out)) hb); clear HO105; clear HB; have HO105 := n0_; have HO110 := n1_; have HB := n2_; clear n0_ n1_ n2_; (try clear hb); (try clear hb2); (try clear hk); (try clear hi); (try clear ho0); obtain ⟨Ao19, co19, eo19⟩ := Kd.S_slice HO105.out; subst eo19; have p111 : 0 ≤ (0 : Int) := (by omega); have q111 : 0 < (t101.length : Int) := of_decide_eq_true (by first | (with_reducible assumption) | assumption); obtain ⟨ad111, A111_3, c111_3, e111, hx111_0, hx111_1, hx111_2, hx111_3, hx111_4, hl111_3, hi111_3⟩ := at_T50 (Kd.S_reads' HO105.out).2.2 0 p111 q111; cases e111; obtain ⟨ce111, hce111, hMe111, hcc111⟩ := Kd.S_get HO105.out z50 0 p111 (by first | exact q111 | exact of_decide_eq_true (by first | (with_reducible assumption) | assumption) | (have e_ := (Kd.S_reads' HO105.out).1; omega)); obtain ⟨ve111_3, rfl, ge111_3⟩ := k50_openM hMe111; have hv111_3 := hcc111 3 _ rfl; rw [add_field _ _ 3 (by omega)] at hv111_3; replace hv111_3 := Option.some.inj (hv111_3.symm.trans hx111_3); rw [hv111_3] at ge111_3; have HL111_3 := Aside0.mk (show Kd.R k86 86 _ _ _ _ ((rd_T50 t101 0).f3) from ge111_3); clear hv111_3 ge111_3; clear hcc111 hce111; have qi111 : (0 < t101.length) = True := eq_true (by omega); (try rw [show ((0 : Int)).toNat = 0 from rfl] at hx111_0); (try rw [show 0 * 5 = 0 from rfl] at hx111_0); (try rw [Addr.add_zero'] at hx111_0); (try rw [show ((0 : Int)).toNat = 0 from rfl] at hx111_1); (try rw [show 0 * 5 = 0 from rfl] at hx111_1); (try rw [Addr.add_zero'] at hx111_1); (try rw [show ((0 : Int)).toNat = 0 from rfl] at hx111_2); (try rw [show 0 * 5 = 0 from rfl] at hx111_2); (try rw [Addr.add_zero'] at hx111_2); (try rw [show ((0 : Int)).toNat = 0 from rfl] at hx111_3); (try rw [show 0 * 5 = 0 from rfl] at hx111_3); (try rw [Addr.add_zero'] at hx111_3); (try rw [show ((0 : Int)).toNat = 0 from rfl] at hx111_4); (try rw [show 0 * 5 = 0 from rfl] at hx111_4); (try rw [Addr.add_zero'] at hx111_4); have HR111_3 := Aside0.mk hi111_3; have HC111_3 := Aside0.mk hl111_3; clear hi111_3 hl111_3; replace p111 := eq_true p111; replace q111 := eq_true q111; have p112 : 0 ≤ (0 : Int) := (by omega); have q112 : 0 < (t101.length : Int) := of_decide_eq_true (by first | (with_reducible assumption) | assumption); obtain ⟨ad112, A112_3, c112_3, e112, hx112_0, hx112_1, hx112_2, hx112_3, hx112_4, hl112_3, hi112_3⟩ := at_T50 (Kd.S_reads' HO105.out).2.2 0 p112 q112; obtain rfl : ad111 = ad112 := (by injection e112); obtain ⟨ce112, hce112, hMe112, hcc112⟩ := Kd.S_get HO105.out z50 0 p112 (by first | exact q112 | exact of_decide_eq_true (by first | (with_reducible assumption) | assumption) | (have e_ := (Kd.S_reads' HO105.out).1; omega)); obtain ⟨ve112_3, rfl, ge112_3⟩ := k50_openM hMe112; have hv112_3 := hcc112 3 _ rfl; rw [add_field _ _ 3 (by omega)] at hv112_3; replace hv112_3 := Option.some.inj (hv112_3.symm.trans hx112_3); rw [hv112_3] at ge112_3; have HL112_3 := Aside0.mk (show Kd.R k86 86 _ _ _ _ ((rd_T50 t101 0).f3) from ge112_3); clear hv112_3 ge112_3; clear hcc112 hce112; have qi112 : (0 < t101.length) = True := eq_true (by omega); (try rw [show ((0 : Int)).toNat = 0 from rfl] at hx112_0); (try rw [show 0 * 5 = 0 from rfl] at hx112_0); (try rw [Addr.add_zero'] at hx112_0); (try rw [show ((0 : Int)).toNat = 0 from rfl] at hx112_1); (try rw [show 0 * 5 = 0 from rfl] at hx112_1); (try rw [Addr.add_zero'] at hx112_1); (try rw [show ((0 : Int)).toNat = 0 from rfl] at hx112_2); (try rw [show 0 * 5 = 0 from rfl] at hx112_2); (try rw [Addr.add_zero'] at hx112_2); (try rw [show ((0 : Int)).toNat = 0 from rfl] at hx112_3); (try rw [show 0 * 5 = 0 from rfl] at hx112_3); (try rw [Addr.add_zero'] at hx112_3); (try rw [show ((0 : Int)).toNat = 0 from rfl] at hx112_4); (try rw [show 0 * 5 = 0 from rfl] at hx112_4); (try rw [Addr.add_zero'] at hx112_4); have HR112_3 := Aside0.mk hi112_3; have HC112_3 := Aside0.mk hl112_3; clear hi112_3 hl112_3; replace p112 := eq_true p112; replace q112 := eq_true q112; have ea_ := Option.some.inj (hx111_3.symm.trans hx112_3); injection ea_ with ea_ en_ ec_; subst ea_; subst ec_; clear en_; have p113 : 0 ≤ (0 : Int) := (by omega); have q113 : 0 < (t101.length : Int) := of_decide_eq_true (by first | (with_reducible assumption) | assumption); obtain ⟨ad113, A113_3, c113_3, e113, hx113_0, hx113_1, hx113_2, hx113_3, hx113_4, hl113_3, hi113_3⟩ := at_T50 (Kd.S_reads' HO105.out).2.2 0 p113 q113; obtain rfl : ad111 = ad113 := (by injection e113); obtain ⟨ce113, hce113, hMe113, hcc113⟩ := Kd.S_get HO105.out z50 0 p113 (by first | exact q113 | exact of_decide_eq_true (by first | (with_reducible assumption) | assumption) | (have e_ := (Kd.S_reads' HO105.out).1; omega)); obtain ⟨ve113_3, rfl, ge113_3⟩ := k50_openM hMe113; have hv113_3 := hcc113 3 _ rfl; rw [add_field _ _ 3 (by omega)] at hv113_3; replace hv113_3 := Option.some.inj (hv113_3.symm.trans hx113_3); rw [hv113_3] at ge113_3; have HL113_3 := Aside0.mk (show Kd.R k86 86 _ _ _ _ ((rd_T50 t101 0).f3) from ge113_3); clear hv113_3 ge113_3; clear hcc113 hce113; have qi113 : (0 < t101.length) = True := eq_true (by omega); (try rw [show ((0 : Int)).toNat = 0 from rfl] at hx113_0); (try rw [show 0 * 5 = 0 from rfl] at hx113_0); (try rw [Addr.add_zero'] at hx113_0); (try rw [show ((0 : Int)).toNat = 0 from rfl] at hx113_1); (try rw [show 0 * 5 = 0 from rfl] at hx113_1); (try rw [Addr.add_zero'] at hx113_1); (try rw [show ((0 : Int)).toNat = 0 from rfl] at hx113_2); (try rw [show 0 * 5 = 0 from rfl] at hx113_2); (try rw [Addr.add_zero'] at hx113_2); (try rw [show ((0 : Int)).toNat = 0 from rfl] at hx113_3); (try rw [show 0 * 5 = 0 from rfl] at hx113_3); (try rw [Addr.add_zero'] at hx113_3); (try rw [show ((0 : Int)).toNat = 0 from rfl] at hx113_4); (try rw [show 0 * 5 = 0 from rfl] at hx113_4); (try rw [Addr.add_zero'] at hx113_4); have HR113_3 := Aside0.mk hi113_3; have HC113_3 := Aside0.mk hl113_3; clear hi113_3 hl113_3; replace p113 := eq_true p113; replace q113 := eq_true q113; have ea_ := Option.some.inj (hx111_3.symm.trans hx113_3); injection ea_ with ea_ en_ ec_; subst ea_; subst ec_; clear en_; have p114 : 0 ≤ (0 : Int) := (by omega); have q114 : 0 < (((rd_T50 t101 0).f3).length : Int) := of_decide_eq_true (by first | (with_reducible assumption) | assumption); obtain ⟨ad114, e114, hx114_0, hx114_1⟩ := at_T86 (by repeat (first | (with_reducible exact HR113_3.out) | (with_reducible refine Kd.C_alloc ?_ _) | (with_reducible refine Kd.C_drewN ?_ _) | (with_reducible refine Kd.C_drew ?_) | exact HR113_3.out)) 0 p114 q114; cases e114; have qi114 : (0 < ((rd_T50 t101 0).f3).length) = True := eq_true (by omega); (try rw [show ((0 : Int)).toNat = 0 from rfl] at hx114_0); (try rw [show 0 * 2 = 0 from rfl] at hx114_0); (try rw [Addr.add_zero'] at hx114_0); (try rw [show ((0 : Int)).toNat = 0 from rfl] at hx114_1); (try rw [show 0 * 2 = 0 from rfl] at hx114_1); (try rw [Addr.add_zero'] at hx114_1); replace p114 := eq_true p114; replace q114 := eq_true q114; have p115 : 0 ≤ (1 : Int) := (by omega); have q115 : 1 < (t101.length : Int) := of_decide_eq_true (by first | (with_reducible assumption) | assumption); obtain ⟨ad115, A115_3, c115_3, e115, hx115_0, hx115_1, hx115_2, hx115_3, hx115_4, hl115_3, hi115_3⟩ := at_T50 (Kd.S_reads' HO105.out).2.2 1 p115 q115; obtain rfl : ad111 = ad115 := (by injection e115); obtain ⟨ce115, hce115, hMe115, hcc115⟩ := Kd.S_get HO105.out z50 1 p115 (by first | exact q115 | exact of_decide_eq_true (by first | (with_reducible assumption) | assumption) | (have e_ := (Kd.S_reads' HO105.out).1; omega)); obtain ⟨ve115_3, rfl, ge115_3⟩ := k50_openM hMe115; have hv115_3 := hcc115 3 _ rfl; rw [add_field _ _ 3 (by omega)] at hv115_3; replace hv115_3 := Option.some.inj (hv115_3.symm.trans hx115_3); rw [hv115_3] at ge115_3; have HL115_3 := Aside0.mk (show Kd.R k86 86 _ _ _ _ ((rd_T50 t101 1).f3) from ge115_3); clear hv115_3 ge115_3; clear hcc115 hce115; (try simp only [show (1 : Int).toNat = 1 from rfl, Nat.reduceMul, Nat.reduceEqDiff, Go.Addr.add, ↓reduceIte] at hx115_0); (try simp only [show (1 : Int).toNat = 1 from rfl, Nat.reduceMul, Nat.reduceEqDiff, Go.Addr.add, ↓reduceIte] at hx115_1); (try simp only [show (1 : Int).toNat = 1 from rfl, Nat.reduceMul, Nat.reduceEqDiff, Go.Addr.add, ↓reduceIte] at hx115_2); (try simp only [show (1 : Int).toNat = 1 from rfl, Nat.reduceMul, Nat.reduceEqDiff, Go.Addr.add, ↓reduceIte] at hx115_3); (try simp only [show (1 : Int).toNat = 1 from rfl, Nat.reduceMul, Nat.reduceEqDiff, Go.Addr.add, ↓reduceIte] at hx115_4); have qi115 : (1 < t101.length) = True := eq_true (by omega); (try rw [show ((1 : Int)).toNat = 1 from rfl] at hx115_0); (try rw [show 1 * 5 = 5 from rfl] at hx115_0); (try rw [show ((1 : Int)).toNat = 1 from rfl] at hx115_1); (try rw [show 1 * 5 = 5 from rfl] at hx115_1); (try rw [show ((1 : Int)).toNat = 1 from rfl] at hx115_2); (try rw [show 1 * 5 = 5 from rfl] at hx115_2); (try rw [show ((1 : Int)).toNat = 1 from rfl] at hx115_3); (try rw [show 1 * 5 = 5 from rfl] at hx115_3); (try rw [show ((1 : Int)).toNat = 1 from rfl] at hx115_4); (try rw [show 1 * 5 = 5 from rfl] at hx115_4); have HR115_3 := Aside0.mk hi115_3; have HC115_3 := Aside0.mk hl115_3; clear hi115_3 hl115_3; replace p115 := eq_true p115; replace q115 := eq_true q115; have p116 : 0 ≤ (1 : Int) := (by omega); have q116 : 1 < (t101.length : Int) := of_decide_eq_true (by first | (with_reducible assumption) | assumption); obtain ⟨ad116, A116_3, c116_3, e116, hx116_0, hx116_1, hx116_2, hx116_3, hx116_4, hl116_3, hi116_3⟩ := at_T50 (Kd.S_reads' HO105.out).2.2 1 p116 q116; obtain rfl : ad111 = ad116 := (by injection e116); obtain ⟨ce116, hce116, hMe116, hcc116⟩ := Kd.S_get HO105.out z50 1 p116 (by first | exact q116 | exact of_decide_eq_true (by first | (with_reducible assumption) | assumption) | (have e_ := (Kd.S_reads' HO105.out).1; omega)); obtain ⟨ve116_3, rfl, ge116_3⟩ := k50_openM hMe116; have hv116_3 := hcc116 3 _ rfl; rw [add_field _ _ 3 (by omega)] at hv116_3; replace hv116_3 := Option.some.inj (hv116_3.symm.trans hx116_3); rw [hv116_3] at ge116_3; have HL116_3 := Aside0.mk (show Kd.R k86 86 _ _ _ _ ((rd_T50 t101 1).f3) from ge116_3); clear hv116_3 ge116_3; clear hcc116 hce116; (try simp only [show (1 : Int).toNat = 1 from rfl, Nat.reduceMul, Nat.reduceEqDiff, Go.Addr.add, ↓reduceIte] at hx116_0); (try simp only [show (1 : Int).toNat = 1 from rfl, Nat.reduceMul, Nat.reduceEqDiff, Go.Addr.add, ↓reduceIte] at hx116_1); (try simp only [show (1 : Int).toNat = 1 from rfl, Nat.reduceMul, Nat.reduceEqDiff, Go.Addr.add, ↓reduceIte] at hx116_2); (try simp only [show (1 : Int).toNat = 1 from rfl, Nat.reduceMul, Nat.reduceEqDiff, Go.Addr.add, ↓reduceIte] at hx116_3); (try simp only [show (1 : Int).toNat = 1 from rfl, Nat.reduceMul, Nat.reduceEqDiff, Go.Addr.add, ↓reduceIte] at hx116_4); have qi116 : (1 < t101.length) = True := eq_true (by omega); (try rw [show ((1 : Int)).toNat = 1 from rfl] at hx116_0); (try rw [show 1 * 5 = 5 from rfl] at hx116_0); (try rw [show ((1 : Int)).toNat = 1 from rfl] at hx116_1); (try rw [show 1 * 5 = 5 from rfl] at hx116_1); (try rw [show ((1 : Int)).toNat = 1 from rfl] at hx116_2); (try rw [show 1 * 5 = 5 from rfl] at hx116_2); (try rw [show ((1 : Int)).toNat = 1 from rfl] at hx116_3); (try rw [show 1 * 5 = 5 from rfl] at hx116_3); (try rw [show ((1 : Int)).toNat = 1 from rfl] at hx116_4); (try rw [show 1 * 5 = 5 from rfl] at hx116_4); have HR116_3 := Aside0.mk hi116_3; have HC116_3 := Aside0.mk hl116_3; clear hi116_3 hl116_3; replace p116 := eq_true p116; replace q116 := eq_true q116; have ea_ := Option.some.inj (hx115_3.symm.trans hx116_3); injection ea_ with ea_ en_ ec_; subst ea_; subst ec_; clear en_; have p117 : 0 ≤ (2 : Int) := (by omega); have q117 : 2 < (t101.length : Int) := of_decide_eq_true (by first | (with_reducible assumption) | assumption); obtain ⟨ad117, A117_3, c117_3, e117, hx117_0, hx117_1, hx117_2, hx117_3, hx117_4, hl117_3, hi117_3⟩ := at_T50 (Kd.S_reads' HO105.out).2.2 2 p117 q117; obtain rfl : ad111 = ad117 := (by injection e117); obtain ⟨ce117, hce117, hMe117, hcc117⟩ := Kd.S_get HO105.out z50 2 p117 (by first | exact q117 | exact of_decide_eq_true (by first | (with_reducible assumption) | assumption) | (have e_ := (Kd.S_reads' HO105.out).1; omega)); obtain ⟨ve117_3, rfl, ge117_3⟩ := k50_openM hMe117; have hv117_3 := hcc117 3 _ rfl; rw [add_field _ _ 3 (by omega)] at hv117_3; replace hv117_3 := Option.some.inj (hv117_3.symm.trans hx117_3); rw [hv117_3] at ge117_3; have HL117_3 := Aside0.mk (show Kd.R k86 86 _ _ _ _ ((rd_T50 t101 2).f3) from ge117_3); clear hv117_3 ge117_3; clear hcc117 hce117; (try simp only [show (2 : Int).toNat = 2 from rfl, Nat.reduceMul, Nat.reduceEqDiff, Go.Addr.add, ↓reduceIte] at hx117_0); (try simp only [show (2 : Int).toNat = 2 from rfl, Nat.reduceMul, Nat.reduceEqDiff, Go.Addr.add, ↓reduceIte] at hx117_1); (try simp only [show (2 : Int).toNat = 2 from rfl, Nat.reduceMul, Nat.reduceEqDiff, Go.Addr.add, ↓reduceIte] at hx117_2); (try simp only [show (2 : Int).toNat = 2 from rfl, Nat.reduceMul, Nat.reduceEqDiff, Go.Addr.add, ↓reduceIte] at hx117_3); (try simp only [show (2 : Int).toNat = 2 from rfl, Nat.reduceMul, Nat.reduceEqDiff, Go.Addr.add, ↓reduceIte] at hx117_4); have qi117 : (2 < t101.length) = True := eq_true (by omega); (try rw [show ((2 : Int)).toNat = 2 from rfl] at hx117_0); (try rw [show 2 * 5 = 10 from rfl] at hx117_0); (try rw [show ((2 : Int)).toNat = 2 from rfl] at hx117_1); (try rw [show 2 * 5 = 10 from rfl] at hx117_1); (try rw [show ((2 : Int)).toNat = 2 from rfl] at hx117_2); (try rw [show 2 * 5 = 10 from rfl] at hx117_2); (try rw [show ((2 : Int)).toNat = 2 from rfl] at hx117_3); (try rw [show 2 * 5 = 10 from rfl] at hx117_3); (try rw [show ((2 : Int)).toNat = 2 from rfl] at hx117_4); (try rw [show 2 * 5 = 10 from rfl] at hx117_4); have HR117_3 := Aside0.mk hi117_3; have HC117_3 := Aside0.mk hl117_3; clear hi117_3 hl117_3; replace p117 := eq_true p117; replace q117 := eq_true q117))
  go_ret
  exact ⟨by first | rfl | (simp [errW_none, errW_some] <;> rfl) | (simp [*, errW_none, errW_some] <;> rfl), by repeat (first | (with_reducible first | exact HB.out | apply below_alloc | apply pw_below_drewN | apply below_drew1) | exact HB.out)⟩
/-- THE ONE PURE STATEMENT of watchbilllaw03_awake: yours. -/
def watchbilllaw03_awake.Pure : Prop := watchbilllaw03_awake.f  = some true
theorem watchbilllaw03_awake.walk (P : watchbilllaw03_awake.Pure)  (w : World) (hml : MU w)  :
    Calls Tryd.prog 20 #[] w fun e w' => e = .returned (.bool true) ∧ Below w.heap.size w w' := by
  have h := P  
  refine (watchbilllaw03_awake.calls  true w hml h).mono ?_
  rintro e w' ⟨rfl, hd⟩
  exact ⟨rfl, hd⟩

/-! ### watchbillref03_Begins: function 24 -/
abbrev watchbillref03_Begins.f := @Go.Proofs.YtffpbhbiamkkpaaDoor.PL.watchbillref03_Begins.f
theorem watchbillref03_Begins.calls (a0 : ByteArray) (a1 : Int) (a2 : ByteArray) (r : Bool) (w : World) (h : watchbillref03_Begins.f a0 a1 a2 = some r) :
    Calls Tryd.prog 24 #[.string a0, .int .i64 a1, .string a2] w fun e w' => e = .returned (.bool r) ∧ Drawn0 w w' := Go.Proofs.YtffpbhbiamkkpaaDoor.PL.watchbillref03_Begins.calls a0 a1 a2 r w h

/-! ### watchbillref01_Put: function 86 -/
abbrev watchbillref01_Put.f := @Go.Proofs.YtffpbhbiamkkpaaDoor.PL.watchbillref01_Put.f
theorem watchbillref01_Put.calls (a0 : Int) (r : ByteArray) (w : World) (h : watchbillref01_Put.f a0 = some r) :
    Calls Tryd.prog 86 #[.int .i64 a0] w fun e w' => e = .returned (.string r) ∧ Below w.heap.size w w' := Go.Proofs.YtffpbhbiamkkpaaDoor.PL.watchbillref01_Put.calls a0 r w h

/-! ### watchbillref01_value: function 98 -/
mutual
def watchbillref01_value.j0 : Nat → ByteArray → Int → Option (Int)
  | 0, _, _ => none
  | k + 1, x0, x3 => watchbillref01_value.l0 k x0 x3 1
def watchbillref01_value.l0 : Nat → ByteArray → Int → Int → Option (Int)
  | 0, _, _, _ => none
  | k + 1, x0, x3, x4 => if x4 < (x0.size : Int) then (if 0 ≤ x4 then (watchbillref01_value.l0 k x0 (wrap64 ((wrap64 ((wrap64 (x3 * 64)) + (wrap64 (bt x0 x4)))) - 128)) (wrap64 (x4 + 1))) else (none)) else (some x3)
end
def watchbillref01_value.f (k : Nat) (a0 : ByteArray) : Option (Int) := if 0 < (a0.size : Int) then (if (a0.size : Int) = 2 then (watchbillref01_value.j0 k a0 (wrap64 ((wrap64 (bt a0 0)) - 192))) else (if (a0.size : Int) = 3 then (watchbillref01_value.j0 k a0 (wrap64 ((wrap64 (bt a0 0)) - 224))) else (if (a0.size : Int) = 4 then (watchbillref01_value.j0 k a0 (wrap64 ((wrap64 (bt a0 0)) - 240))) else (watchbillref01_value.j0 k a0 (wrap64 (bt a0 0)))))) else (none)
theorem watchbillref01_value.mono_l : ∀ k, (∀ y0 y1, LeO (watchbillref01_value.j0 k y0 y1) (watchbillref01_value.j0 (k + 1) y0 y1)) ∧ (∀ y0 y1 y2, LeO (watchbillref01_value.l0 k y0 y1 y2) (watchbillref01_value.l0 (k + 1) y0 y1 y2))
  | 0 => ⟨fun _ _ r h => by simp [watchbillref01_value.j0] at h, fun _ _ _ r h => by simp [watchbillref01_value.l0] at h⟩
  | k + 1 => by
    obtain ⟨ih0, ih1⟩ := watchbillref01_value.mono_l k
    refine ⟨?_, ?_⟩
    · intro y0 y1
      unfold watchbillref01_value.j0
      repeat' first
      | (with_reducible exact ih0 _ _)
      | (with_reducible exact ih1 _ _ _)
      | (with_reducible exact LeO.refl _)
      | (with_reducible exact LeO.none _)
      | (with_reducible refine LeO.ite ?_ ?_)
      | (with_reducible refine LeO.bind ?_ (fun _ => ?_))
      | exact ih0 _ _
      | exact ih1 _ _ _
      | exact LeO.none _
      | refine LeO.ite ?_ ?_
      | refine LeO.bind ?_ (fun _ => ?_)
    · intro y0 y1 y2
      unfold watchbillref01_value.l0
      repeat' first
      | (with_reducible exact ih0 _ _)
      | (with_reducible exact ih1 _ _ _)
      | (with_reducible exact LeO.refl _)
      | (with_reducible exact LeO.none _)
      | (with_reducible refine LeO.ite ?_ ?_)
      | (with_reducible refine LeO.bind ?_ (fun _ => ?_))
      | exact ih0 _ _
      | exact ih1 _ _ _
      | exact LeO.none _
      | refine LeO.ite ?_ ?_
      | refine LeO.bind ?_ (fun _ => ?_)
theorem watchbillref01_value.mono : ∀ a0 k, LeO (watchbillref01_value.f k a0) (watchbillref01_value.f (k + 1) a0) := by
  intro a0 k
  obtain ⟨ih0, ih1⟩ := watchbillref01_value.mono_l k
  unfold watchbillref01_value.f
  repeat' first
      | (with_reducible exact ih0 _ _)
      | (with_reducible exact ih1 _ _ _)
      | (with_reducible exact LeO.refl _)
      | (with_reducible exact LeO.none _)
      | (with_reducible refine LeO.ite ?_ ?_)
      | (with_reducible refine LeO.bind ?_ (fun _ => ?_))
      | exact ih0 _ _
      | exact ih1 _ _ _
      | exact LeO.none _
      | refine LeO.ite ?_ ?_
      | refine LeO.bind ?_ (fun _ => ?_)
set_option maxHeartbeats 8000000 in
set_option maxRecDepth 100000 in
theorem watchbillref01_value.calls (k : Nat) (a0 : ByteArray) (r : Int) (w : World) (h : watchbillref01_value.f k a0 = some r) :
    Calls Tryd.prog 98 #[.string a0] w fun e w' => e = .returned (.int .i64 r) ∧ Drawn0 w w' := by
  have H : (if 0 < (a0.size : Int) then (if (a0.size : Int) = 2 then (watchbillref01_value.j0 k a0 (wrap64 ((wrap64 (bt a0 0)) - 192))) else (if (a0.size : Int) = 3 then (watchbillref01_value.j0 k a0 (wrap64 ((wrap64 (bt a0 0)) - 224))) else (if (a0.size : Int) = 4 then (watchbillref01_value.j0 k a0 (wrap64 ((wrap64 (bt a0 0)) - 240))) else (watchbillref01_value.j0 k a0 (wrap64 (bt a0 0)))))) else (none)) = some r := h
  clear h
  by_cases c2 : 0 < (a0.size : Int)
  rotate_left 1
  · rw [if_neg c2] at H
    exact absurd H (by simp)

  rw [if_pos c2] at H
  have c2b0 : decide (0 < (a0.size : Int)) = true := decide_eq_true c2
  have c2b1 : decide (0 < a0.size) = true := decide_eq_true (by omega)
  clear c2
  have HC4 := Aside0.mk H
  clear H
  have p3 : 0 ≤ (0 : Int) := (by omega)
  have q3 : 0 < a0.size := (by have : (0 : Int) < (a0.size : Int) := of_decide_eq_true (by first | (with_reducible assumption) | assumption); omega)
  have hx3 : ∀ h : 0 < a0.size, ((a0[0]'h).toNat : Int) = bt a0 0 := bt_at a0 0
  clear p3
  have qi3 : (0 < (a0.size : Int)) = True := eq_true (of_decide_eq_true (by first | (with_reducible assumption) | assumption))
  replace q3 := eq_true q3
  go_enter Tryd.func98, Tryd.ntmps98
  go_upto_block 0 with (fail)
  go_cut [3] (fun v3 wc => ∃ (kq : Nat) (x3_3 : Int), v3 = .int .i64 x3_3 ∧ Aside0 (watchbillref01_value.j0 kq a0 x3_3 = some r) ∧ Aside0 (kq ≤ k) ∧ Drawn0 w wc)
  case first =>
    have H := HC4.out
    clear HC4
    by_cases c5 : (a0.size : Int) = 2
    · rw [if_pos c5] at H
      have c5b0 : ((a0.size : Int) == 2) = true := beq_iff_eq.mpr c5
      have c5b1 : ((a0.size : Int) != 2) = false := bne_eq_false_iff_eq.mpr c5
      clear c5
      (first | rw [c5b0] | (simp only [i64_w, i32_w]; rw [c5b0]) | skip)
      have H' := Aside0.mk H
      clear H
      go_wp2
      go_meet
      case rel => exact ⟨_, (wrap64 ((wrap64 (bt a0 0)) - 192)), (by first | rfl | (simp; done) | (simp [*]; done)), H', ⟨by first | omega | exact Nat.le_refl _⟩, by repeat (first | exact Drawn0.refl _ | apply Drawn0.step)⟩
    rw [if_neg c5] at H
    have c5b0 : ((a0.size : Int) == 2) = false := beq_eq_false_iff_ne.mpr c5
    have c5b1 : ((a0.size : Int) != 2) = true := bne_iff_ne.mpr c5
    (first | rw [c5b0] | (simp only [i64_w, i32_w]; rw [c5b0]) | skip)
    by_cases c6 : (a0.size : Int) = 3
    · rw [if_pos c6] at H
      have c6b0 : ((a0.size : Int) == 3) = true := beq_iff_eq.mpr c6
      have c6b1 : ((a0.size : Int) != 3) = false := bne_eq_false_iff_eq.mpr c6
      clear c6
      have H' := Aside0.mk H
      clear H
      go_wp2
      go_meet
      case rel => exact ⟨_, (wrap64 ((wrap64 (bt a0 0)) - 224)), (by first | rfl | (simp; done) | (simp [*]; done)), H', ⟨by first | omega | exact Nat.le_refl _⟩, by repeat (first | exact Drawn0.refl _ | apply Drawn0.step)⟩
    rw [if_neg c6] at H
    have c6b0 : ((a0.size : Int) == 3) = false := beq_eq_false_iff_ne.mpr c6
    have c6b1 : ((a0.size : Int) != 3) = true := bne_iff_ne.mpr c6
    by_cases c7 : (a0.size : Int) = 4
    rotate_left 1
    · rw [if_neg c7] at H
      have c7b0 : ((a0.size : Int) == 4) = false := beq_eq_false_iff_ne.mpr c7
      have c7b1 : ((a0.size : Int) != 4) = true := bne_iff_ne.mpr c7
      have H' := Aside0.mk H
      clear H
      go_wp2
      go_meet
      case rel => exact ⟨_, (wrap64 (bt a0 0)), (by first | rfl | (simp; done) | (simp [*]; done)), H', ⟨by first | omega | exact Nat.le_refl _⟩, by repeat (first | exact Drawn0.refl _ | apply Drawn0.step)⟩
    rw [if_pos c7] at H
    have c7b0 : ((a0.size : Int) == 4) = true := beq_iff_eq.mpr c7
    have c7b1 : ((a0.size : Int) != 4) = false := bne_eq_false_iff_eq.mpr c7
    clear c7
    have H' := Aside0.mk H
    clear H
    go_wp2
    go_meet
    case rel => exact ⟨_, (wrap64 ((wrap64 (bt a0 0)) - 240)), (by first | rfl | (simp; done) | (simp [*]; done)), H', ⟨by first | omega | exact Nat.le_refl _⟩, by repeat (first | exact Drawn0.refl _ | apply Drawn0.step)⟩
  case rest =>
    clear HC4
    try clear c2
    try clear c2b0
    try clear c2b1
    try clear p2
    try clear p3
    try clear q3
    try clear hx3
    try clear qi3
    try clear c5
    try clear c5b0
    try clear c5b1
    try clear c6
    try clear c6b0
    try clear c6b1
    try clear p6
    try clear c7
    try clear c7b0
    try clear c7b1
    try clear p3
    try clear q3
    obtain ⟨kq, x3_3, rfl, HA, HJ3, ⟨mc3, rfl⟩⟩ := hcut
    cases kq with
    | zero => exact absurd HA.out (by simp [watchbillref01_value.j0])
    | succ kj3 =>
      have H := HA.out
      clear HA
      simp only [watchbillref01_value.j0] at H
      have H' := Aside0.mk H
      clear H
      go_wp2
      go_loopg [3, 4] kj3 (fun kq v3 v4 w' => ∃ (x3_2 : Int) (x4_2 : Int), v3 = .int .i64 x3_2 ∧ v4 = .int .i64 x4_2 ∧ Aside0 (watchbillref01_value.l0 kq a0 x3_2 x4_2 = some r) ∧ Aside0 (kq ≤ kj3) ∧ Drawn0 w w')
      case atStart => exact ⟨(x3_3), (1), (by first | rfl | (simp; done) | (simp [*]; done)), (by first | rfl | (simp; done) | (simp [*]; done)), H', ⟨Nat.le_refl _⟩, by repeat (first | exact Drawn0.refl _ | apply Drawn0.step)⟩
      case round =>
        clear H'
        try clear c2
        try clear c2b0
        try clear c2b1
        try clear p2
        try clear c3
        try clear p3
        try clear q3
        try clear hx3
        try clear qi3
        try clear c5
        try clear c5b0
        try clear c5b1
        try clear c6
        try clear c6b0
        try clear c6b1
        try clear p6
        try clear c7
        try clear c7b0
        try clear c7b1
        try clear p2
        try clear p3
        try clear p6
        try clear q3
        obtain ⟨x3_2, x4_2, rfl, rfl, HA, HK2, ⟨m2, rfl⟩⟩ := hrel
        cases gk with
        | zero => exact absurd HA.out (by simp [watchbillref01_value.l0])
        | succ k2 =>
          have H := HA.out
          clear HA
          simp only [watchbillref01_value.l0] at H
          by_cases c8 : x4_2 < (a0.size : Int)
          rotate_left 1
          · rw [if_neg c8] at H
            have c8b0 : decide (x4_2 < (a0.size : Int)) = false := decide_eq_false c8
            clear c8
            obtain rfl := Option.some.inj H
            go_wp2
            go_ret
            exact ⟨by first | rfl | (simp; done) | (simp [*]; done), by repeat (first | exact Drawn0.refl _ | apply Drawn0.step)⟩
          rw [if_pos c8] at H
          have c8b0 : decide (x4_2 < (a0.size : Int)) = true := decide_eq_true c8
          clear c8
          by_cases c9 : 0 ≤ x4_2
          rotate_left 1
          · rw [if_neg c9] at H
            exact absurd H (by simp)
          rw [if_pos c9] at H
          have c9b0 : decide (0 ≤ x4_2) = true := decide_eq_true c9
          clear c9
          have H' := Aside0.mk H
          clear H
          have p10 : 0 ≤ (x4_2 : Int) := of_decide_eq_true (by first | (with_reducible assumption) | assumption)
          have q10 : x4_2 < (a0.size : Int) := of_decide_eq_true (by first | (with_reducible assumption) | assumption)
          have hx10 := bt_at a0 x4_2
          replace p10 := eq_true p10
          replace q10 := eq_true q10
          go_wp2
          go_roundg k2
          case measure => have := HJ3.out; have := HK2.out; omega
          case rel => exact ⟨(wrap64 ((wrap64 ((wrap64 (x3_2 * 64)) + (wrap64 (bt a0 x4_2)))) - 128)), (wrap64 (x4_2 + 1)), (by first | rfl | (simp; done) | (simp [*]; done)), (by first | rfl | (simp; done) | (simp [*]; done)), H', ⟨by have := HJ3.out; have := HK2.out; omega⟩, by repeat (first | exact Drawn0.refl _ | apply Drawn0.step)⟩
/-! ### watchbillref01_Sign: function 99 -/
abbrev watchbillref01_Sign.f := @Go.Proofs.YtffpbhbiamkkpaaDoor.PL.watchbillref01_Sign.f
theorem watchbillref01_Sign.calls (a0 : Int) (r : Bool) (w : World) (h : watchbillref01_Sign.f a0 = some r) :
    Calls Tryd.prog 99 #[.int .i64 a0] w fun e w' => e = .returned (.bool r) ∧ Drawn0 w w' := Go.Proofs.YtffpbhbiamkkpaaDoor.PL.watchbillref01_Sign.calls a0 r w h

/-! ### watchbillref01_Rune: function 58 -/
mutual
def watchbillref01_Rune.j0 : Nat → ByteArray → Int → Bool → Option (Int × Int)
  | 0, _, _, _ => none
  | k + 1, x0, x1, x16 => if x16 = true then (some (0, 0)) else (watchbillref01_Rune.l0 k x0 x1 1)
def watchbillref01_Rune.l0 : Nat → ByteArray → Int → Int → Option (Int × Int)
  | 0, _, _, _ => none
  | k + 1, x0, x1, x6 => if x6 ≤ 4 then (watchbillref01_Rune.j2 k x0 x1 x6 (decide (x6 ≤ (wrap64 ((x0.size : Int) - x1))))) else (watchbillref01_Rune.j2 k x0 x1 x6 false)
def watchbillref01_Rune.j2 : Nat → ByteArray → Int → Int → Bool → Option (Int × Int)
  | 0, _, _, _, _ => none
  | k + 1, x0, x1, x6, x26 => if x26 = true then (if 0 ≤ x1 then (if x1 ≤ (wrap64 (x1 + x6)) then (if (wrap64 (x1 + x6)) ≤ (x0.size : Int) then ((watchbillref01_value.f k (x0.extract (x1 : Int).toNat ((wrap64 (x1 + x6)) : Int).toNat)).bind fun t118 => ((watchbillref01_Sign.f t118).bind fun t119 => (if t119 = true then ((watchbillref01_Put.f t118).bind fun t120 => (if t120.toList = (x0.extract (x1 : Int).toNat ((wrap64 (x1 + x6)) : Int).toNat).toList then (some (t118, x6)) else (watchbillref01_Rune.l0 k x0 x1 (wrap64 (x6 + 1))))) else (watchbillref01_Rune.l0 k x0 x1 (wrap64 (x6 + 1)))))) else (none)) else (none)) else (none)) else (some (0, 0))
end
def watchbillref01_Rune.f (k : Nat) (a0 : ByteArray) (a1 : Int) : Option (Int × Int) := if a1 < 0 then (watchbillref01_Rune.j0 k a0 a1 true) else (watchbillref01_Rune.j0 k a0 a1 (decide (a1 ≥ (a0.size : Int))))
theorem watchbillref01_Rune.mono_l : ∀ k, (∀ y0 y1 y2, LeO (watchbillref01_Rune.j0 k y0 y1 y2) (watchbillref01_Rune.j0 (k + 1) y0 y1 y2)) ∧ (∀ y0 y1 y2, LeO (watchbillref01_Rune.l0 k y0 y1 y2) (watchbillref01_Rune.l0 (k + 1) y0 y1 y2)) ∧ (∀ y0 y1 y2 y3, LeO (watchbillref01_Rune.j2 k y0 y1 y2 y3) (watchbillref01_Rune.j2 (k + 1) y0 y1 y2 y3))
  | 0 => ⟨fun _ _ _ r h => by simp [watchbillref01_Rune.j0] at h, fun _ _ _ r h => by simp [watchbillref01_Rune.l0] at h, fun _ _ _ _ r h => by simp [watchbillref01_Rune.j2] at h⟩
  | k + 1 => by
    obtain ⟨ih0, ih1, ih2⟩ := watchbillref01_Rune.mono_l k
    refine ⟨?_, ?_, ?_⟩
    · intro y0 y1 y2
      unfold watchbillref01_Rune.j0
      repeat' first
      | (with_reducible exact ih0 _ _ _)
      | (with_reducible exact ih1 _ _ _)
      | (with_reducible exact ih2 _ _ _ _)
      | (with_reducible exact watchbillref01_value.mono _ _)
      | (with_reducible exact LeO.refl _)
      | (with_reducible exact LeO.none _)
      | (with_reducible refine LeO.ite ?_ ?_)
      | (with_reducible refine LeO.bind ?_ (fun _ => ?_))
      | exact ih0 _ _ _
      | exact ih1 _ _ _
      | exact ih2 _ _ _ _
      | exact watchbillref01_value.mono _ _
      | exact LeO.none _
      | refine LeO.ite ?_ ?_
      | refine LeO.bind ?_ (fun _ => ?_)
    · intro y0 y1 y2
      unfold watchbillref01_Rune.l0
      repeat' first
      | (with_reducible exact ih0 _ _ _)
      | (with_reducible exact ih1 _ _ _)
      | (with_reducible exact ih2 _ _ _ _)
      | (with_reducible exact watchbillref01_value.mono _ _)
      | (with_reducible exact LeO.refl _)
      | (with_reducible exact LeO.none _)
      | (with_reducible refine LeO.ite ?_ ?_)
      | (with_reducible refine LeO.bind ?_ (fun _ => ?_))
      | exact ih0 _ _ _
      | exact ih1 _ _ _
      | exact ih2 _ _ _ _
      | exact watchbillref01_value.mono _ _
      | exact LeO.none _
      | refine LeO.ite ?_ ?_
      | refine LeO.bind ?_ (fun _ => ?_)
    · intro y0 y1 y2 y3
      unfold watchbillref01_Rune.j2
      repeat' first
      | (with_reducible exact ih0 _ _ _)
      | (with_reducible exact ih1 _ _ _)
      | (with_reducible exact ih2 _ _ _ _)
      | (with_reducible exact watchbillref01_value.mono _ _)
      | (with_reducible exact LeO.refl _)
      | (with_reducible exact LeO.none _)
      | (with_reducible refine LeO.ite ?_ ?_)
      | (with_reducible refine LeO.bind ?_ (fun _ => ?_))
      | exact ih0 _ _ _
      | exact ih1 _ _ _
      | exact ih2 _ _ _ _
      | exact watchbillref01_value.mono _ _
      | exact LeO.none _
      | refine LeO.ite ?_ ?_
      | refine LeO.bind ?_ (fun _ => ?_)
theorem watchbillref01_Rune.mono : ∀ a0 a1 k, LeO (watchbillref01_Rune.f k a0 a1) (watchbillref01_Rune.f (k + 1) a0 a1) := by
  intro a0 a1 k
  obtain ⟨ih0, ih1, ih2⟩ := watchbillref01_Rune.mono_l k
  unfold watchbillref01_Rune.f
  repeat' first
      | (with_reducible exact ih0 _ _ _)
      | (with_reducible exact ih1 _ _ _)
      | (with_reducible exact ih2 _ _ _ _)
      | (with_reducible exact watchbillref01_value.mono _ _)
      | (with_reducible exact LeO.refl _)
      | (with_reducible exact LeO.none _)
      | (with_reducible refine LeO.ite ?_ ?_)
      | (with_reducible refine LeO.bind ?_ (fun _ => ?_))
      | exact ih0 _ _ _
      | exact ih1 _ _ _
      | exact ih2 _ _ _ _
      | exact watchbillref01_value.mono _ _
      | exact LeO.none _
      | refine LeO.ite ?_ ?_
      | refine LeO.bind ?_ (fun _ => ?_)
set_option maxHeartbeats 8000000 in
set_option maxRecDepth 100000 in
theorem watchbillref01_Rune.calls (k : Nat) (a0 : ByteArray) (a1 : Int) (r1 : Int) (r2 : Int) (w : World) (h : watchbillref01_Rune.f k a0 a1 = some (r1, r2)) :
    Calls Tryd.prog 58 #[.string a0, .int .i64 a1] w fun e w' => e = .returned (.tuple #[.int .i64 r1, .int .i64 r2]) ∧ Below w.heap.size w w' := by
  have HB := Aside0.mk (Below.refl w.heap.size w)
  have H : (if a1 < 0 then (watchbillref01_Rune.j0 k a0 a1 true) else (watchbillref01_Rune.j0 k a0 a1 (decide (a1 ≥ (a0.size : Int))))) = some (r1, r2) := h
  clear h
  have HC3 := Aside0.mk H
  clear H
  go_enter Tryd.func58, Tryd.ntmps58
  go_upto_region 1 with (fail)
  go_cut [16] (fun v16 wc => ∃ (kq : Nat) (x16_2 : Bool), v16 = .bool x16_2 ∧ Aside0 (watchbillref01_Rune.j0 kq a0 a1 x16_2 = some (r1, r2)) ∧ Aside0 (kq ≤ k) ∧ Aside0 (Below w.heap.size w wc))
  case first =>
    have H := HC3.out
    clear HC3
    by_cases c4 : a1 < 0
    rotate_left 1
    · rw [if_neg c4] at H
      have c4b0 : decide (a1 < 0) = false := decide_eq_false c4
      clear c4
      (first | rw [c4b0] | (simp only [i64_w, i32_w]; rw [c4b0]) | skip)
      have H' := Aside0.mk H
      clear H
      go_wp2
      go_meet
      case rel => exact ⟨_, (decide (a1 ≥ (a0.size : Int))), (by first | rfl | (simp; done) | (simp [*]; done)), H', ⟨by first | omega | exact Nat.le_refl _⟩, ⟨by repeat (first | (with_reducible first | exact HB.out | apply below_alloc | apply pw_below_drewN | apply below_drew1) | exact HB.out)⟩⟩
    rw [if_pos c4] at H
    have c4b0 : decide (a1 < 0) = true := decide_eq_true c4
    clear c4
    (first | rw [c4b0] | (simp only [i64_w, i32_w]; rw [c4b0]) | skip)
    have H' := Aside0.mk H
    clear H
    go_wp2
    go_meet
    case rel => exact ⟨_, (true), (by first | rfl | (simp; done) | (simp [*]; done)), H', ⟨by first | omega | exact Nat.le_refl _⟩, ⟨by repeat (first | (with_reducible first | exact HB.out | apply below_alloc | apply pw_below_drewN | apply below_drew1) | exact HB.out)⟩⟩
  case rest =>
    clear HC3
    try clear p2
    try clear c4
    try clear c4b0
    obtain ⟨kq, x16_2, rfl, HA, HJ2, HB⟩ := hcut
    cases kq with
    | zero => exact absurd HA.out (by simp [watchbillref01_Rune.j0])
    | succ kj2 =>
      have H := HA.out
      clear HA
      simp only [watchbillref01_Rune.j0] at H
      by_cases c5 : x16_2 = true
      · subst c5
        have H1 : (some (0, 0)) = some (r1, r2) := by rw [if_pos rfl] at H; exact H
        clear H
        have H := H1
        clear H1
        simp only [Option.some.injEq, Prod.mk.injEq] at H
        obtain ⟨rfl, rfl⟩ := H
        go_wp2
        go_ret2
        exact ⟨by first | rfl | (simp [errW_none, errW_some] <;> rfl) | (simp [*, errW_none, errW_some] <;> rfl), by repeat (first | (with_reducible first | exact HB.out | apply below_alloc | apply pw_below_drewN | apply below_drew1) | exact HB.out)⟩
      replace c5 := Bool.eq_false_iff.mpr c5
      subst c5
      have H1 : (watchbillref01_Rune.l0 kj2 a0 a1 1) = some (r1, r2) := by rw [if_neg (show ¬ (false = true) by decide)] at H; exact H
      clear H
      have H := H1
      clear H1
      have H' := Aside0.mk H
      clear H
      go_wp2
      go_loopg [6] kj2 (fun kq v6 w' => ∃ (x6_2 : Int), v6 = .int .i64 x6_2 ∧ Aside0 (watchbillref01_Rune.l0 kq a0 a1 x6_2 = some (r1, r2)) ∧ Aside0 (kq ≤ kj2) ∧ Aside0 (Below w.heap.size w w'))
      case atStart => exact ⟨(1), (by first | rfl | (simp; done) | (simp [*]; done)), H', ⟨Nat.le_refl _⟩, ⟨by repeat (first | (with_reducible first | exact HB.out | apply below_alloc | apply pw_below_drewN | apply below_drew1) | exact HB.out)⟩⟩
      case round =>
        clear H'
        try clear p2
        try clear c4
        try clear c4b0
        try clear c5
        try clear p2
        obtain ⟨x6_2, rfl, HA, HK2, HB⟩ := hrel
        cases gk with
        | zero => exact absurd HA.out (by simp [watchbillref01_Rune.l0])
        | succ k2 =>
          have H := HA.out
          clear HA
          simp only [watchbillref01_Rune.l0] at H
          have HC6 := Aside0.mk H
          clear H
          go_upto_region 4 with (fail)
          go_cut [26] (fun v26 wc => ∃ (kq : Nat) (x26_5 : Bool), v26 = .bool x26_5 ∧ Aside0 (watchbillref01_Rune.j2 kq a0 a1 x6_2 x26_5 = some (r1, r2)) ∧ Aside0 (kq ≤ k2) ∧ Aside0 (Below w.heap.size w wc))
          case first =>
            have H := HC6.out
            clear HC6
            by_cases c7 : x6_2 ≤ 4
            rotate_left 1
            · rw [if_neg c7] at H
              have c7b0 : decide (x6_2 ≤ 4) = false := decide_eq_false c7
              clear c7
              (first | rw [c7b0] | (simp only [i64_w, i32_w]; rw [c7b0]) | skip)
              have H' := Aside0.mk H
              clear H
              go_wp2
              go_meet
              case rel => exact ⟨_, (false), (by first | rfl | (simp; done) | (simp [*]; done)), H', ⟨by have := HJ2.out; have := HK2.out; first | omega | exact Nat.le_refl _⟩, ⟨by repeat (first | (with_reducible first | exact HB.out | apply below_alloc | apply pw_below_drewN | apply below_drew1) | exact HB.out)⟩⟩
            rw [if_pos c7] at H
            have c7b0 : decide (x6_2 ≤ 4) = true := decide_eq_true c7
            clear c7
            (first | rw [c7b0] | (simp only [i64_w, i32_w]; rw [c7b0]) | skip)
            have H' := Aside0.mk H
            clear H
            go_wp2
            go_meet
            case rel => exact ⟨_, (decide (x6_2 ≤ (wrap64 ((a0.size : Int) - a1)))), (by first | rfl | (simp; done) | (simp [*]; done)), H', ⟨by have := HJ2.out; have := HK2.out; first | omega | exact Nat.le_refl _⟩, ⟨by repeat (first | (with_reducible first | exact HB.out | apply below_alloc | apply pw_below_drewN | apply below_drew1) | exact HB.out)⟩⟩
          case rest =>
            clear HC6
            try clear p2
            try clear c4
            try clear c4b0
            try clear c5
            try clear p6
            try clear c7
            try clear c7b0
            try clear p2
            obtain ⟨kq, x26_5, rfl, HA, HJ5, HB⟩ := hcut
            cases kq with
            | zero => exact absurd HA.out (by simp [watchbillref01_Rune.j2])
            | succ kj5 =>
              have H := HA.out
              clear HA
              simp only [watchbillref01_Rune.j2] at H
              by_cases c8 : x26_5 = true
              rotate_left 1
              · replace c8 := Bool.eq_false_iff.mpr c8
                subst c8
                have H1 : (some (0, 0)) = some (r1, r2) := by rw [if_neg (show ¬ (false = true) by decide)] at H; exact H
                clear H
                have H := H1
                clear H1
                simp only [Option.some.injEq, Prod.mk.injEq] at H
                obtain ⟨rfl, rfl⟩ := H
                go_wp2
                go_ret2
                exact ⟨by first | rfl | (simp [errW_none, errW_some] <;> rfl) | (simp [*, errW_none, errW_some] <;> rfl), by repeat (first | (with_reducible first | exact HB.out | apply below_alloc | apply pw_below_drewN | apply below_drew1) | exact HB.out)⟩

              subst c8
              have H1 : (if 0 ≤ a1 then (if a1 ≤ (wrap64 (a1 + x6_2)) then (if (wrap64 (a1 + x6_2)) ≤ (a0.size : Int) then ((watchbillref01_value.f kj5 (a0.extract (a1 : Int).toNat ((wrap64 (a1 + x6_2)) : Int).toNat)).bind fun t118 => ((watchbillref01_Sign.f t118).bind fun t119 => (if t119 = true then ((watchbillref01_Put.f t118).bind fun t120 => (if t120.toList = (a0.extract (a1 : Int).toNat ((wrap64 (a1 + x6_2)) : Int).toNat).toList then (some (t118, x6_2)) else (watchbillref01_Rune.l0 kj5 a0 a1 (wrap64 (x6_2 + 1))))) else (watchbillref01_Rune.l0 kj5 a0 a1 (wrap64 (x6_2 + 1)))))) else (none)) else (none)) else (none)) = some (r1, r2) := by rw [if_pos rfl] at H; exact H
              clear H
              have H := H1
              clear H1
              by_cases c9 : 0 ≤ a1
              rotate_left 1
              · rw [if_neg c9] at H
                exact absurd H (by simp)
              rw [if_pos c9] at H
              have c9b0 := eq_true c9
              have c9b1 : decide (0 ≤ a1) = true := decide_eq_true c9
              clear c9
              by_cases c10 : a1 ≤ (wrap64 (a1 + x6_2))
              rotate_left 1
              · rw [if_neg c10] at H
                exact absurd H (by simp)
              rw [if_pos c10] at H
              have c10b0 := eq_true c10
              have c10b1 : decide (a1 ≤ (wrap64 (a1 + x6_2))) = true := decide_eq_true c10
              by_cases c11 : (wrap64 (a1 + x6_2)) ≤ (a0.size : Int)
              rotate_left 1
              · rw [if_neg c11] at H
                exact absurd H (by simp)
              rw [if_pos c11] at H
              have c11b0 := eq_true c11
              have c11b1 : decide ((wrap64 (a1 + x6_2)) ≤ (a0.size : Int)) = true := decide_eq_true c11
              replace H := Option.bind_eq_some_iff.mp H
              obtain ⟨t118, A120, H⟩ := H
              replace H : ((watchbillref01_Sign.f t118).bind fun t119 => (if t119 = true then ((watchbillref01_Put.f t118).bind fun t120 => (if t120.toList = (a0.extract (a1 : Int).toNat ((wrap64 (a1 + x6_2)) : Int).toNat).toList then (some (t118, x6_2)) else (watchbillref01_Rune.l0 kj5 a0 a1 (wrap64 (x6_2 + 1))))) else (watchbillref01_Rune.l0 kj5 a0 a1 (wrap64 (x6_2 + 1))))) = some (r1, r2) := H
              have A12 := Aside0.mk A120
              clear A120
              replace H := Option.bind_eq_some_iff.mp H
              obtain ⟨t119, A130, H⟩ := H
              replace H : (if t119 = true then ((watchbillref01_Put.f t118).bind fun t120 => (if t120.toList = (a0.extract (a1 : Int).toNat ((wrap64 (a1 + x6_2)) : Int).toNat).toList then (some (t118, x6_2)) else (watchbillref01_Rune.l0 kj5 a0 a1 (wrap64 (x6_2 + 1))))) else (watchbillref01_Rune.l0 kj5 a0 a1 (wrap64 (x6_2 + 1)))) = some (r1, r2) := H
              have A13 := Aside0.mk A130
              clear A130
              by_cases c14 : t119 = true
              rotate_left 1
              · replace c14 := Bool.eq_false_iff.mpr c14
                subst c14
                have H1 : (watchbillref01_Rune.l0 kj5 a0 a1 (wrap64 (x6_2 + 1))) = some (r1, r2) := by rw [if_neg (show ¬ (false = true) by decide)] at H; exact H
                clear H
                have H := H1
                clear H1
                have H' := Aside0.mk H
                clear H
                go_wp2_with (first | ((with_reducible refine gate_callee (f := 98) rfl ?_); refine goesL_ (some 36) rfl rfl Tryd.func98 (by kernel_rfl) rfl #[.string (a0.extract (a1 : Int).toNat ((wrap64 (a1 + x6_2)) : Int).toNat)] rfl (by (try simp only [List.map_toArray, List.map_cons, List.map_nil]); first | done | rfl | (simp only [List.length_drop, List.length_take]; rfl) | (simp only [ByteArray.size_extract]; rfl)) ?_; (with_reducible refine (watchbillref01_value.calls kj5 (a0.extract (a1 : Int).toNat ((wrap64 (a1 + x6_2)) : Int).toNat) t118 _ A12.out).mono ?_); rintro e w' ⟨rfl, ⟨nd, rfl⟩⟩; refine ⟨_, rfl, ?_⟩) | ((with_reducible refine gate_callee (f := 99) rfl ?_); refine goesL_ (some 38) rfl rfl Tryd.func99 (by kernel_rfl) rfl #[.int .i64 t118] rfl (by (try simp only [List.map_toArray, List.map_cons, List.map_nil]); first | done | rfl | (simp only [List.length_drop, List.length_take]; rfl) | (simp only [ByteArray.size_extract]; rfl)) ?_; (with_reducible refine (watchbillref01_Sign.calls t118 false _ A13.out).mono ?_); rintro e w' ⟨rfl, ⟨nd, rfl⟩⟩; refine ⟨_, rfl, ?_⟩))
                go_roundg kj5
                case measure => have := HJ2.out; have := HK2.out; have := HJ5.out; omega
                case rel => exact ⟨(wrap64 (x6_2 + 1)), (by first | rfl | (simp; done) | (simp [*]; done)), H', ⟨by have := HJ2.out; have := HK2.out; have := HJ5.out; omega⟩, ⟨by repeat (first | (with_reducible first | exact HB.out | apply below_alloc | apply pw_below_drewN | apply below_drew1) | exact HB.out)⟩⟩
              subst c14
              have H1 : ((watchbillref01_Put.f t118).bind fun t120 => (if t120.toList = (a0.extract (a1 : Int).toNat ((wrap64 (a1 + x6_2)) : Int).toNat).toList then (some (t118, x6_2)) else (watchbillref01_Rune.l0 kj5 a0 a1 (wrap64 (x6_2 + 1))))) = some (r1, r2) := by rw [if_pos rfl] at H; exact H
              clear H
              have H := H1
              clear H1
              replace H := Option.bind_eq_some_iff.mp H
              obtain ⟨t120, A150, H⟩ := H
              replace H : (if t120.toList = (a0.extract (a1 : Int).toNat ((wrap64 (a1 + x6_2)) : Int).toNat).toList then (some (t118, x6_2)) else (watchbillref01_Rune.l0 kj5 a0 a1 (wrap64 (x6_2 + 1)))) = some (r1, r2) := H
              have A15 := Aside0.mk A150
              clear A150
              by_cases c16 : t120.toList = (a0.extract (a1 : Int).toNat ((wrap64 (a1 + x6_2)) : Int).toNat).toList
              rotate_left 1
              · rw [if_neg c16] at H
                have c16b0 : (t120.toList == (a0.extract (a1 : Int).toNat ((wrap64 (a1 + x6_2)) : Int).toNat).toList) = false := beq_eq_false_iff_ne.mpr c16
                have c16b1 : (t120.toList != (a0.extract (a1 : Int).toNat ((wrap64 (a1 + x6_2)) : Int).toNat).toList) = true := bne_iff_ne.mpr c16
                have H' := Aside0.mk H
                clear H
                go_wp2_with (first | ((with_reducible refine gate_callee (f := 98) rfl ?_); refine goesL_ (some 36) rfl rfl Tryd.func98 (by kernel_rfl) rfl #[.string (a0.extract (a1 : Int).toNat ((wrap64 (a1 + x6_2)) : Int).toNat)] rfl (by (try simp only [List.map_toArray, List.map_cons, List.map_nil]); first | done | rfl | (simp only [List.length_drop, List.length_take]; rfl) | (simp only [ByteArray.size_extract]; rfl)) ?_; (with_reducible refine (watchbillref01_value.calls kj5 (a0.extract (a1 : Int).toNat ((wrap64 (a1 + x6_2)) : Int).toNat) t118 _ A12.out).mono ?_); rintro e w' ⟨rfl, ⟨nd, rfl⟩⟩; refine ⟨_, rfl, ?_⟩) | ((with_reducible refine gate_callee (f := 99) rfl ?_); refine goesL_ (some 38) rfl rfl Tryd.func99 (by kernel_rfl) rfl #[.int .i64 t118] rfl (by (try simp only [List.map_toArray, List.map_cons, List.map_nil]); first | done | rfl | (simp only [List.length_drop, List.length_take]; rfl) | (simp only [ByteArray.size_extract]; rfl)) ?_; (with_reducible refine (watchbillref01_Sign.calls t118 true _ A13.out).mono ?_); rintro e w' ⟨rfl, ⟨nd, rfl⟩⟩; refine ⟨_, rfl, ?_⟩) | (go_at_call 86; (with_reducible refine (watchbillref01_Put.calls t118 t120 _ A15.out).mono ?_); rintro e w18 ⟨rfl, hb⟩; have n0_ := Aside0.mk (below_step (by repeat (first | (with_reducible first | exact HB.out | apply below_alloc | apply pw_below_drewN | apply below_drew1) | exact HB.out)) hb); clear HB; have HB := n0_; clear n0_; (try clear hb); (try clear hb2); (try clear hk); (try clear hi)))
                go_roundg kj5
                case measure => have := HJ2.out; have := HK2.out; have := HJ5.out; omega
                case rel => exact ⟨(wrap64 (x6_2 + 1)), (by first | rfl | (simp; done) | (simp [*]; done)), H', ⟨by have := HJ2.out; have := HK2.out; have := HJ5.out; omega⟩, ⟨by repeat (first | (with_reducible first | exact HB.out | apply below_alloc | apply pw_below_drewN | apply below_drew1) | exact HB.out)⟩⟩
              rw [if_pos c16] at H
              have c16b0 : (t120.toList == (a0.extract (a1 : Int).toNat ((wrap64 (a1 + x6_2)) : Int).toNat).toList) = true := beq_iff_eq.mpr c16
              have c16b1 : (t120.toList != (a0.extract (a1 : Int).toNat ((wrap64 (a1 + x6_2)) : Int).toNat).toList) = false := bne_eq_false_iff_eq.mpr c16
              clear c16
              simp only [Option.some.injEq, Prod.mk.injEq] at H
              obtain ⟨rfl, rfl⟩ := H
              go_wp2_with (first | ((with_reducible refine gate_callee (f := 98) rfl ?_); refine goesL_ (some 36) rfl rfl Tryd.func98 (by kernel_rfl) rfl #[.string (a0.extract (a1 : Int).toNat ((wrap64 (a1 + x6_2)) : Int).toNat)] rfl (by (try simp only [List.map_toArray, List.map_cons, List.map_nil]); first | done | rfl | (simp only [List.length_drop, List.length_take]; rfl) | (simp only [ByteArray.size_extract]; rfl)) ?_; (with_reducible refine (watchbillref01_value.calls kj5 (a0.extract (a1 : Int).toNat ((wrap64 (a1 + x6_2)) : Int).toNat) t118 _ A12.out).mono ?_); rintro e w' ⟨rfl, ⟨nd, rfl⟩⟩; refine ⟨_, rfl, ?_⟩) | ((with_reducible refine gate_callee (f := 99) rfl ?_); refine goesL_ (some 38) rfl rfl Tryd.func99 (by kernel_rfl) rfl #[.int .i64 t118] rfl (by (try simp only [List.map_toArray, List.map_cons, List.map_nil]); first | done | rfl | (simp only [List.length_drop, List.length_take]; rfl) | (simp only [ByteArray.size_extract]; rfl)) ?_; (with_reducible refine (watchbillref01_Sign.calls t118 true _ A13.out).mono ?_); rintro e w' ⟨rfl, ⟨nd, rfl⟩⟩; refine ⟨_, rfl, ?_⟩) | (go_at_call 86; (with_reducible refine (watchbillref01_Put.calls t118 t120 _ A15.out).mono ?_); rintro e w17 ⟨rfl, hb⟩; have n0_ := Aside0.mk (below_step (by repeat (first | (with_reducible first | exact HB.out | apply below_alloc | apply pw_below_drewN | apply below_drew1) | exact HB.out)) hb); clear HB; have HB := n0_; clear n0_; (try clear hb); (try clear hb2); (try clear hk); (try clear hi)))
              go_ret2
              exact ⟨by first | rfl | (simp [errW_none, errW_some] <;> rfl) | (simp [*, errW_none, errW_some] <;> rfl), by repeat (first | (with_reducible first | exact HB.out | apply below_alloc | apply pw_below_drewN | apply below_drew1) | exact HB.out)⟩
/-! ### watchbillref01_Check: function 25 -/
def watchbillref01_Check.l0 : Nat → ByteArray → Int → Option (Int)
  | 0, _, _ => none
  | k + 1, x0, x3 => if x3 < (x0.size : Int) then ((watchbillref01_Rune.f k x0 x3).bind fun bt121 => (if bt121.2 = 0 then (some x3) else (watchbillref01_Check.l0 k x0 (wrap64 (x3 + bt121.2))))) else (some (-1))
def watchbillref01_Check.f (k : Nat) (a0 : ByteArray) : Option (Int) := watchbillref01_Check.l0 k a0 0
theorem watchbillref01_Check.mono_l : ∀ k, (∀ y0 y1, LeO (watchbillref01_Check.l0 k y0 y1) (watchbillref01_Check.l0 (k + 1) y0 y1))
  | 0 => fun _ _ r h => by simp [watchbillref01_Check.l0] at h
  | k + 1 => by
    have ih0 := watchbillref01_Check.mono_l k
    · intro y0 y1
      unfold watchbillref01_Check.l0
      repeat' first
      | (with_reducible exact ih0 _ _)
      | (with_reducible exact watchbillref01_Rune.mono _ _ _)
      | (with_reducible exact LeO.refl _)
      | (with_reducible exact LeO.none _)
      | (with_reducible refine LeO.ite ?_ ?_)
      | (with_reducible refine LeO.bind ?_ (fun _ => ?_))
      | exact ih0 _ _
      | exact watchbillref01_Rune.mono _ _ _
      | exact LeO.none _
      | refine LeO.ite ?_ ?_
      | refine LeO.bind ?_ (fun _ => ?_)
theorem watchbillref01_Check.mono : ∀ a0 k, LeO (watchbillref01_Check.f k a0) (watchbillref01_Check.f (k + 1) a0) := by
  intro a0 k
  have ih0 := watchbillref01_Check.mono_l k
  unfold watchbillref01_Check.f
  repeat' first
      | (with_reducible exact ih0 _ _)
      | (with_reducible exact watchbillref01_Rune.mono _ _ _)
      | (with_reducible exact LeO.refl _)
      | (with_reducible exact LeO.none _)
      | (with_reducible refine LeO.ite ?_ ?_)
      | (with_reducible refine LeO.bind ?_ (fun _ => ?_))
      | exact ih0 _ _
      | exact watchbillref01_Rune.mono _ _ _
      | exact LeO.none _
      | refine LeO.ite ?_ ?_
      | refine LeO.bind ?_ (fun _ => ?_)
set_option maxHeartbeats 8000000 in
set_option maxRecDepth 100000 in
theorem watchbillref01_Check.calls (k : Nat) (a0 : ByteArray) (r : Int) (w : World) (h : watchbillref01_Check.f k a0 = some r) :
    Calls Tryd.prog 25 #[.string a0] w fun e w' => e = .returned (.int .i64 r) ∧ Below w.heap.size w w' := by
  have HB := Aside0.mk (Below.refl w.heap.size w)
  have H : (watchbillref01_Check.l0 k a0 0) = some r := h
  clear h
  have H' := Aside0.mk H
  clear H
  go_enter Tryd.func25, Tryd.ntmps25
  go_wp2
  go_loopg [3] k (fun kq v3 w' => ∃ (x3_1 : Int), v3 = .int .i64 x3_1 ∧ Aside0 (watchbillref01_Check.l0 kq a0 x3_1 = some r) ∧ Aside0 (kq ≤ k) ∧ Aside0 (Below w.heap.size w w'))
  case atStart => exact ⟨(0), (by first | rfl | (simp; done) | (simp [*]; done)), H', ⟨Nat.le_refl _⟩, ⟨by repeat (first | (with_reducible first | exact HB.out | apply below_alloc | apply pw_below_drewN | apply below_drew1) | exact HB.out)⟩⟩
  case round =>
    clear H'
    obtain ⟨x3_1, rfl, HA, HK1, HB⟩ := hrel
    cases gk with
    | zero => exact absurd HA.out (by simp [watchbillref01_Check.l0])
    | succ k1 =>
      have H := HA.out
      clear HA
      simp only [watchbillref01_Check.l0] at H
      by_cases c2 : x3_1 < (a0.size : Int)
      rotate_left 1
      · rw [if_neg c2] at H
        have c2b0 : decide (x3_1 < (a0.size : Int)) = false := decide_eq_false c2
        clear c2
        obtain rfl := Option.some.inj H
        go_wp2
        go_ret
        exact ⟨by first | rfl | (simp [errW_none, errW_some] <;> rfl) | (simp [*, errW_none, errW_some] <;> rfl), by repeat (first | (with_reducible first | exact HB.out | apply below_alloc | apply pw_below_drewN | apply below_drew1) | exact HB.out)⟩

      rw [if_pos c2] at H
      have c2b0 : decide (x3_1 < (a0.size : Int)) = true := decide_eq_true c2
      clear c2
      replace H := Option.bind_eq_some_iff.mp H
      obtain ⟨⟨t121, t122⟩, A30, H⟩ := H
      replace H : (if t122 = 0 then (some x3_1) else (watchbillref01_Check.l0 k1 a0 (wrap64 (x3_1 + t122)))) = some r := H
      have A3 := Aside0.mk A30
      clear A30
      by_cases c4 : t122 = 0
      · rw [if_pos c4] at H
        have c4b0 : (t122 == 0) = true := beq_iff_eq.mpr c4
        have c4b1 : (t122 != 0) = false := bne_eq_false_iff_eq.mpr c4
        clear c4
        obtain rfl := Option.some.inj H
        go_wp2_with (first | ((with_reducible refine gate_callee (f := 58) rfl ?_); refine goesL_ (some 13) rfl rfl Tryd.func58 (by kernel_rfl) rfl #[.string a0, .int .i64 x3_1] rfl (by (try simp only [List.map_toArray, List.map_cons, List.map_nil]); first | done | rfl | (simp only [List.length_drop, List.length_take]; rfl) | (simp only [ByteArray.size_extract]; rfl)) ?_; (with_reducible refine (watchbillref01_Rune.calls k1 a0 x3_1 t121 t122 _ A3.out).mono ?_); rintro e w5 ⟨rfl, hb⟩; refine ⟨_, rfl, ?_⟩; have n0_ := Aside0.mk (below_step (by repeat (first | (with_reducible first | exact HB.out | apply below_alloc | apply pw_below_drewN | apply below_drew1) | exact HB.out)) hb); clear HB; have HB := n0_; clear n0_; (try clear hb); (try clear hb2); (try clear hk); (try clear hi)))
        go_ret
        exact ⟨by first | rfl | (simp [errW_none, errW_some] <;> rfl) | (simp [*, errW_none, errW_some] <;> rfl), by repeat (first | (with_reducible first | exact HB.out | apply below_alloc | apply pw_below_drewN | apply below_drew1) | exact HB.out)⟩
      rw [if_neg c4] at H
      have c4b0 : (t122 == 0) = false := beq_eq_false_iff_ne.mpr c4
      have c4b1 : (t122 != 0) = true := bne_iff_ne.mpr c4
      have H' := Aside0.mk H
      clear H
      go_wp2_with (first | ((with_reducible refine gate_callee (f := 58) rfl ?_); refine goesL_ (some 13) rfl rfl Tryd.func58 (by kernel_rfl) rfl #[.string a0, .int .i64 x3_1] rfl (by (try simp only [List.map_toArray, List.map_cons, List.map_nil]); first | done | rfl | (simp only [List.length_drop, List.length_take]; rfl) | (simp only [ByteArray.size_extract]; rfl)) ?_; (with_reducible refine (watchbillref01_Rune.calls k1 a0 x3_1 t121 t122 _ A3.out).mono ?_); rintro e w6 ⟨rfl, hb⟩; refine ⟨_, rfl, ?_⟩; have n0_ := Aside0.mk (below_step (by repeat (first | (with_reducible first | exact HB.out | apply below_alloc | apply pw_below_drewN | apply below_drew1) | exact HB.out)) hb); clear HB; have HB := n0_; clear n0_; (try clear hb); (try clear hb2); (try clear hk); (try clear hi)))
      go_roundg k1
      case measure => have := HK1.out; omega
      case rel => exact ⟨(wrap64 (x3_1 + t122)), (by first | rfl | (simp; done) | (simp [*]; done)), H', ⟨by have := HK1.out; omega⟩, ⟨by repeat (first | (with_reducible first | exact HB.out | apply below_alloc | apply pw_below_drewN | apply below_drew1) | exact HB.out)⟩⟩
end Go.Proofs.YtffpbhbiamkkpaaDoor.PV
