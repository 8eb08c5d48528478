/- print's printer: attrs (declarations and attributes of an element). -/
import Derived.Test.YtidkjifilgjgfaaDoorPSpec
import Derived.Test.YtidkjifilgjgfaaDoorMx12
import Derived.Lib.ItoaLen
import Derived.Carry
namespace Go.Proofs.YtidkjifilgjgfaaDoor.Prt
open Go.RowKit Go.Proofs.YtidkjifilgjgfaaDoorW.PrintWords Go.Proofs.YtidkjifilgjgfaaDoorW.PrintLast Go.Proofs.YtidkjifilgjgfaaDoorW.PrintMore Go.Plain Go.Proofs.YtidkjifilgjgfaaDoor.ND
open Go.Maps (Keyed IsMap Tidy)
set_option linter.unusedVariables false
def ym2 : Prop := ∀ (A0 : Option Addr) (c0 : Nat) (l : List At) (w : World), kAt.C w A0 l.length l → l.length ≤ c0 → l.length ≤ 2000000 → Apart l →
  Calls Tryd.prog 54 #[.slice A0 l.length c0] w fun e w' => ∃ v, e = .returned v ∧ kAt.R 84 w' w.heap.size (fun _ => True) v (srt l) ∧ Below w.heap.size w w'
def MP (mb n : Nat) (D : DataW Unit) (w : World) : Prop := w.ownsMap Tryd.prog 9 (plainElem Tryd.prog 9) mb n D
theorem keyedS : Keyed Tryd.prog 9 := Maps.string_keyed Tryd.underlying9
theorem MP.fr {mb n b : Nat} {D : DataW Unit} {w w' : World} (h : MP mb n D w) (hne : mb ≠ b) (hf : Bld.Fr b w w') : MP mb n D w' := by
  obtain ⟨es, clock, hb, r⟩ := h
  exact ⟨es, clock, hf mb _ hne (fun _ _ e => by cases e) hb, r⟩
theorem MP.below {mb n : Nat} {D : DataW Unit} {w w' : World} (h : MP mb n D w) (hb : Below w.heap.size w w') : MP mb n D w' := by
  obtain ⟨es, clock, hk, r⟩ := h
  exact ⟨es, clock, (hb.block mb (blk_lt hk)).trans hk, r⟩
theorem MP.mono' {mb n n' : Nat} {D : DataW Unit} {w : World} (h : MP mb n D w) (hn : n ≤ n') : MP mb n' D w := World.ownsMap.mono h hn
theorem MP.lt {mb n : Nat} {D : DataW Unit} {w : World} (h : MP mb n D w) : mb < w.heap.size := World.ownsMap.lt h
theorem MP.tidy {mb n : Nat} {D : DataW Unit} {w : World} (h : MP mb n D w) : Tidy D := World.ownsMap.tidy h keyedS
theorem MP.put {mb n : Nat} {D : DataW Unit} {w : World} (h : MP mb n D w) (hn : n < maxLen) (k c : ByteArray) (hk : k.size ≤ maxLen) (hc : c.size ≤ maxLen) :
    ∃ w', (Instr.mapUpdate 104 (.map (some mb)) (.string k) (.string c)).run Tryd.prog w = .ok () w' ∧ MP mb (n + 1) (D.put (.string k.data.toList) (.lit (.string c.data.toList))) w' ∧ w.grownBy w' (some mb) :=
  World.ownsMap.update h keyedS Tryd.underlying104 hn (Go.WideMaps.keyOf_string_mk Tryd.underlying9 hk) (plainElem_string Tryd.underlying9 hc)
theorem MP.look_ok {mb n : Nat} {D : DataW Unit} {w : World} (h : MP mb n D w) (k c : ByteArray) (hh : Bool) (hk : k.size ≤ maxLen) (hc : D.atKey (.string k.data.toList) (.lit (.string [])) = .lit (.string c.data.toList)) (hb : Maps.has D (.string k.data.toList) = hh) :
    (Instr.lookup 104 (.map (some mb)) (.string k) true).run Tryd.prog w = .ok (.tuple #[.string c, .bool hh]) w :=
  Mp.look_str_ok h keyedS Tryd.underlying104 Tryd.underlying9 (Tryd.zeroValue9 _) (Go.WideMaps.keyOf_string_mk Tryd.underlying9 hk) c hh hc hb
theorem MP.look {mb n : Nat} {D : DataW Unit} {w : World} (h : MP mb n D w) (k c : ByteArray) (hk : k.size ≤ maxLen) (hc : D.atKey (.string k.data.toList) (.lit (.string [])) = .lit (.string c.data.toList)) :
    (Instr.lookup 104 (.map (some mb)) (.string k) false).run Tryd.prog w = .ok (.string c) w :=
  Mp.look_str h keyedS Tryd.underlying104 Tryd.underlying9 (Tryd.zeroValue9 _) (Go.WideMaps.keyOf_string_mk Tryd.underlying9 hk) c hc
theorem MP.len {mb n : Nat} {D : DataW Unit} {w : World} (h : MP mb n D w) (N : Nat) (hN : Maps.size D = N) : (Builtin.len_ #[104] 3 #[.map (some mb)]).run Tryd.prog w = .ok (.int .i64 (N : Int)) w := by
  subst hN
  exact World.ownsMap.len h Tryd.underlying104 _
theorem PD.grown {B b mb n : Nat} {l : L} {D : DataW Unit} {w w' : World} (h : PD B b l w) (hm : MP mb n D w) (hg : w.grownBy w' (some mb)) : PD B b l w' := by
  obtain ⟨es, clock, hmb, _⟩ := hm
  have go : ∀ p, Lib.BuilderAt 75 5 B b p (Lib.byteCells l) w → Lib.BuilderAt 75 5 B b p (Lib.byteCells l) w' := by
    rintro p ⟨h0, v, h1, h2, h3⟩
    have hne : b ≠ mb := fun e => by subst e; rw [h1] at hmb; cases hmb
    exact ⟨h0, v, (hg.block b (blk_lt h1) (by simpa using hne)).trans h1, own_other h2 hg (Or.inr (Bld.own_off h2 (fun _ _ e => by cases e) hmb)), h3⟩
  rcases h with h | h
  · exact Or.inl (go _ h)
  · exact Or.inr (go _ h)
/-- A row of attributes under the printer's writes. -/
theorem row_fr {B b base : Nat} {l : L} {v : Value} {xs : List At} {w w' : World} (h : kAt.R 84 w base (fun _ => True) v xs) (hp : PD B b l w) (hf : Bld.Fr b w w') : kAt.R 84 w' base (fun _ => True) v xs := by
  refine Kd.R_mono (Kd.R_step (Kd.yj1 h) ?_) (fun _ _ => trivial)
  rintro k ⟨_, _, hk, q, hq, cells, hc⟩ _
  have hq' : q = 84 := by
    rcases List.mem_cons.1 hq with h | h
    · exact h
    · exact absurd h (by simp [kAt, kNm, Kd.iso, Kd.pair, Kd.string, Kd.scalar])
  subst hq'
  have hb : ∃ v' p, w.heap[b]? = some (.cells #[p, v'] 75 (0, 0)) := by
    rcases hp with ⟨_, v, h1, _⟩ | ⟨_, v, h1, _⟩
    · exact ⟨_, _, h1⟩
    · exact ⟨_, _, h1⟩
  obtain ⟨_, _, hb⟩ := hb
  rw [hf.cells (k := k) (T := 84) (fun e => by subst e; rw [hc] at hb; injection (Option.some.inj hb) with _ e _; exact absurd e (by decide)) (by decide) hc, hc]
theorem yq5 {base mb n : Nat} {D : DataW Unit} {v : Value} {xs : List At} {w w' : World} (h : kAt.R 84 w base (fun _ => True) v xs) (hm : MP mb n D w) (hg : w.grownBy w' (some mb)) : kAt.R 84 w' base (fun _ => True) v xs := by
  refine Kd.R_mono (Kd.R_step (Kd.yj1 h) ?_) (fun _ _ => trivial)
  rintro k ⟨_, _, hk, q, hq, cells, hc⟩ _
  obtain ⟨es, clock, hmb, _⟩ := hm
  exact hg.block k hk (fun e => by cases e; rw [hc] at hmb; cases hmb)
theorem ys8 {b mb : Nat} {w w1 w2 : World} (h : Bld.Fr b w w1) (hg : w1.grownBy w2 (some mb)) (hm : w.heap.size ≤ mb) : Bld.Fr b w w2 := fun k o h1 h2 h3 =>
  have h4 := h k o h1 h2 h3
  (hg.block k (blk_lt h4) (by have := blk_lt h3; simp; omega)).trans h4
def wA (a : At) : Nat := 1 + a.f0.f0.size + a.f0.f1.size + a.f1.size
def wAs (l : List At) : Nat := (l.map wA).sum
theorem spc_len (a : At) : (spc a).length = a.f0.f0.size := (Lib.size_eq _).symm
theorem loc_len (a : At) : (loc a).length = a.f0.f1.size := (Lib.size_eq _).symm
theorem yn8 (n v : L) : (attrO n v).length ≤ 4 + n.length + 6 * v.length := by
  have := Esc.yo8 true v
  unfold attrO
  simp
  omega
theorem itoa_len' (n : Nat) (h : n ≤ 20000000) : (Lib.itoa ((n : Int) + 1)).length ≤ 21 := Lib.itoa_length_le _ (by omega) (by omega)
theorem declStep_len (st : List L × L) (a : At) (h : st.1.length ≤ 20000000) : (yj2 st a).1.length ≤ st.1.length + 1 ∧ (yj2 st a).2.length ≤ st.2.length + 40 * wA a := by
  unfold yj2
  split
  · exact ⟨by omega, by omega⟩
  · have h1 := yn8 ([120, 109, 108, 110, 115, 58] ++ (110 :: Lib.itoa ((st.1.length : Int) + 1))) (spc a)
    have h2 := itoa_len' st.1.length h
    have h3 := spc_len a
    simp only [List.length_append, List.length_cons, List.length_nil] at *
    unfold wA
    omega
theorem yl6 : ∀ (l : List At) (st : List L × L), st.1.length + l.length ≤ 20000000 → (l.foldl yj2 st).1.length ≤ st.1.length + l.length ∧ (l.foldl yj2 st).2.length ≤ st.2.length + 40 * wAs l
  | [], st, _ => by simp [wAs]
  | a :: l, st, h => by
    have h1 := declStep_len st a (by simp at h; omega)
    have h2 := yl6 l (yj2 st a) (by simp at h; omega)
    have e : wAs (a :: l) = wA a + wAs l := by simp [wAs]
    rw [List.foldl_cons, e]
    simp at h ⊢
    omega
theorem prefOf_len (p : List L) (s : L) (hp : p.length ≤ 20000000) : ((prefOf p s).getD []).length ≤ 23 := by
  unfold prefOf
  by_cases e0 : s = []
  · simp [e0]
  by_cases e1 : s = sXML
  · rw [if_neg e0, if_pos e1]; simp [sXmlC]
  rw [if_neg e0, if_neg e1]
  cases h : pos p s with
  | none => simp
  | some i =>
    have hm : s ∈ p := by
      by_cases k : s ∈ p
      · exact k
      · rw [yr4 p s k] at h; cases h
    obtain ⟨i', h1, h2⟩ := yp7 p s hm
    rw [h] at h1
    obtain rfl := Option.some.inj h1
    have := itoa_len' i (by omega)
    simp
    omega
theorem attO_len (p : List L) (a : At) (hp : p.length ≤ 20000000) : (attO p a).length ≤ 40 * wA a := by
  have h1 := yn8 ((prefOf p (spc a)).getD [] ++ loc a) a.f1.data.toList
  have h2 := prefOf_len p (spc a) hp
  have h3 := loc_len a
  have h4 := Lib.size_eq a.f1
  unfold attO wA
  simp only [List.length_append] at h1
  omega
theorem yq8 (p : List L) (hp : p.length ≤ 20000000) : ∀ l : List At, (attsO p l).length ≤ 40 * wAs l
  | [] => by simp [attsO]
  | a :: l => by
    have h1 := attO_len p a hp
    have h2 := yq8 p hp l
    have e : wAs (a :: l) = wA a + wAs l := by simp [wAs]
    have e2 : attsO p (a :: l) = attO p a ++ attsO p l := rfl
    rw [e, e2, List.length_append]
    omega
theorem wAs_take (l : List At) (i : Nat) : wAs (l.take i) ≤ wAs l := by
  have e : wAs l = wAs (l.take i) + wAs (l.drop i) := by unfold wAs; rw [← List.sum_append, ← List.map_append, List.take_append_drop]
  omega
theorem ys9 {l : List At} {a : At} (h : a ∈ l) : wA a ≤ wAs l := by
  unfold wAs
  induction l with
  | nil => simp at h
  | cons b l ih =>
    simp only [List.map_cons, List.sum_cons]
    rcases List.mem_cons.1 h with rfl | h
    · omega
    · have := ih h; omega
theorem yr2 {l l' : List At} (p : l.Perm l') : wAs l = wAs l' := by
  unfold wAs
  exact (p.map wA).sum_nat
set_option maxHeartbeats 4000000 in
set_option maxRecDepth 100000 in
theorem yj9 (hS : ym2) (b : Nat) (A0 : Option Addr) (c0 : Nat) (l : List At) (bs : L) (w0 w : World) (h : PD w0.heap.size b bs w) (h0 : Below w0.heap.size w0 w) (ht : Refs.Tens w0)
    (hC : kAt.C w0 A0 l.length l) (hc : l.length ≤ c0) (hap : Apart l) (hl : l.length ≤ 2000000) (hz : bs.length + 80 * wAs l ≤ 1800000000) (hw : wAs l ≤ 16000000) :
    Calls Tryd.prog 45 #[.pointer (some ⟨b, 0, none⟩), .slice A0 l.length c0] w fun e w' => e = .returned (.tuple #[]) ∧ PD w0.heap.size b (bs ++ attrsO (srt l)) w' ∧ Below w0.heap.size w0 w' ∧ Bld.Fr b w w' := by
  have hsz : w0.heap.size ≤ w.heap.size := h0.size
  obtain ⟨ls, hls⟩ : ∃ ls, ls = srt l := ⟨_, rfl⟩
  have hn : ls.length = l.length := by rw [hls]; exact (yl9 l).length_eq
  have hw' : wAs ls = wAs l := by rw [hls]; exact yr2 (yl9 l)
  have hsort := hS A0 c0 l w (Kd.yc4 hC h0) hc hl hap
  rw [← hls] at hsort ⊢
  rw [← hw'] at hz hw
  have HS := Aside0.mk hsort
  have HP := Aside0.mk h
  have H0 := Aside0.mk h0
  have HT := Aside0.mk ht
  rw [← hn] at hl
  clear hsort h h0 ht hls hw' hC hap hn
  have hmm := @run_makeMap Tryd.prog
  go_enter Tryd.func45, Tryd.ntmps45
  go_wp2_with fail
  refine HS.out.mono ?_
  rintro e w1 ⟨v, rfl, hr, hb1⟩
  obtain ⟨A, c, rfl, hlc, -⟩ := Kd.yj0 hr
  have HR := Aside0.mk hr
  have HB1 := Aside0.mk hb1
  clear hr hb1
  have m0 : MP w1.heap.size 0 (.map []) (w1.alloc (.map #[] 0)) := World.ownsMap_made w1 Tryd.prog 9 (plainElem Tryd.prog 9)
  obtain ⟨w2, hr2, o2, g2⟩ := m0.put (by decide) ⟨#[]⟩ ⟨#[]⟩ (by decide) (by decide)
  obtain ⟨w3, hr3, o3, g3⟩ := o2.put (by decide) ⟨sXML.toArray⟩ ⟨sXmlC.toArray⟩ (by decide) (by decide)
  have O3 : Aside0 (MP w1.heap.size 2 (((DataW.map []).put (.string []) (.lit (.string []))).put (.string sXML) (.lit (.string sXmlC))) w3) := ⟨o3⟩
  have hF : Bld.Fr b w w3 := ys8 (ys8 ((Bld.Fr.below HB1.out).alloc _) g2 HB1.out.size) g3 HB1.out.size
  have hB : Below w0.heap.size w0 w3 := by
    have hb0 : Below w0.heap.size w0 w1 := H0.out.trans (HB1.out.mono hsz)
    exact ((hb0.alloc hb0.size _).grown g2 (by have := hb0.size; simp; omega) (fun k hk => by have := hb0.size; cases hk; omega)).grown g3 (by have := hb0.size; have := g2.size; simp at this; omega) (fun k hk => by have := hb0.size; cases hk; omega)
  have hPD : PD w0.heap.size b bs w3 := (((HP.out.below HB1.out).below ((Below.refl _ _).alloc (Nat.le_refl _) _)).grown m0 g2).grown o2 g3
  have hRow : kAt.R 84 w3 w.heap.size (fun _ => True) (.slice A ls.length c) ls := yq5 (yq5 (Kd.yd7 HR.out _) m0 g2) o2 g3
  have HF3 := Aside0.mk hF
  have HB3 := Aside0.mk hB
  have HP3 := Aside0.mk hPD
  have HR3 := Aside0.mk hRow
  have hmb : w1.heap.size ≠ b := by have := HP.out.lt; have := HB1.out.size; omega
  clear hF hB hPD hRow g2 g3 o2 o3 m0
  unfold sXML sXmlC at hr3
  go_wp2_with fail
  go_loopg [18] ls.length (fun m v18 wr => ∃ j : Nat, v18 = .int .i64 (j : Int) ∧ j ≤ ls.length ∧ Aside0 (m = ls.length - j) ∧ ∃ D, Aside0 (MP w1.heap.size (2 + j) D wr ∧ MRel (decls (ls.take j)).1 D ∧ PD w0.heap.size b (bs ++ (decls (ls.take j)).2) wr ∧ Below w0.heap.size w0 wr ∧ Bld.Fr b w wr ∧ kAt.R 84 wr w.heap.size (fun _ => True) (.slice A ls.length c) ls))
  case atStart => exact ⟨0, rfl, Nat.zero_le _, ⟨rfl⟩, _, ⟨O3.out, MRel.base, by simpa [decls] using HP3.out, HB3.out, HF3.out, HR3.out⟩⟩
  case round =>
    obtain ⟨j, rfl, hj, HM, D, HI⟩ := hrel
    by_cases hlt : j < ls.length
    · obtain ⟨hm, hrl, hp, hb0, hfr, hrow⟩ := HI.out
      obtain ⟨ad, eA, k0, k1, k2⟩ := atAt (Kd.ye8 hrow).2.2 (j : Int) (by omega) (by omega)
      have q1 := eq_true (show (j : Int) < (ls.length : Int) by omega)
      have q2 := eq_true (show (0 : Int) ≤ (j : Int) by omega)
      have hu := Tryd.underlying51
      obtain ⟨a, ha⟩ : ∃ a, a = rdAt ls (j : Int) := ⟨_, rfl⟩
      rw [← ha] at k0 k1 k2
      simp only [Int.toNat_natCast] at k0 k1 k2
      have HA : Aside0 (a = ls[j]) := ⟨by rw [ha]; simp [rdAt, hlt]⟩
      clear ha
      subst eA
      obtain ⟨i, hi⟩ : ∃ i, i = j + 1 := ⟨_, rfl⟩
      have f1 : (j : Int) + 1 = (i : Int) := by omega
      have f2 : IntKind.i64.wrap (i : Int) = (i : Int) := IntWalk.i64_in _ (by omega)
      have HI' := Aside0.mk hi
      clear hi hm hrl hp hb0 hfr hrow
      obtain ⟨hm, hrl, hp, hb0, hfr, hrow⟩ := HI.out
      have hwa : wA a ≤ wAs ls := by rw [HA.out]; exact ys9 (List.getElem_mem _)
      have hks : a.f0.f0.size ≤ maxLen := by unfold wA at hwa; unfold maxLen; omega
      have hA1 : Below wr.heap.size wr (wr.alloc (.cells #[.string a.f0.f0, .string a.f0.f1, .string a.f1] 84)) := (Below.refl _ _).alloc (Nat.le_refl _) _
      have hat := hrl.at_ (spc a)
      have hhas := hrl.has_ (spc a)
      cases hpr : prefOf (decls (ls.take j)).1 (spc a) with
      | some c1 =>
        rw [hpr] at hat hhas
        have hlk := (hm.below hA1).look_ok a.f0.f0 ⟨c1.toArray⟩ true hks hat hhas
        have HPR := Aside0.mk hpr
        have HA1 := Aside0.mk hA1
        clear hm hrl hp hb0 hfr hrow hat hhas hpr hA1
        go_wp2_with fail
        have hst : decls (ls.take i) = decls (ls.take j) := by
          have e1 : ls.take i = ls.take j ++ [a] := by rw [HI'.out, List.take_add_one, List.getElem?_eq_getElem hlt, HA.out]; rfl
          rw [e1, decls_snoc]
          unfold yj2
          rw [HPR.out]
          rfl
        have HST := Aside0.mk hst
        clear hst
        go_roundg (ls.length - i)
        · refine ⟨i, rfl, by have := HI'.out; omega, ⟨rfl⟩, D, ⟨(HI.out.1.below HA1.out).mono' (by have := HI'.out; omega), ?_, ?_, HI.out.2.2.2.1.alloc HI.out.2.2.2.1.size _, HI.out.2.2.2.2.1.alloc _, Kd.yd7 HI.out.2.2.2.2.2 _⟩⟩
          · rw [HST.out]; exact HI.out.2.1
          · rw [HST.out]; exact HI.out.2.2.1.below HA1.out
        · have := HI'.out; have := HM.out; omega
      | none =>
        rw [hpr] at hat hhas
        have hlk := (hm.below hA1).look_ok a.f0.f0 ⟨#[]⟩ false hks hat hhas
        obtain ⟨N2, hN2⟩ : ∃ N2, N2 = 2 + (decls (ls.take j)).1.length := ⟨_, rfl⟩
        obtain ⟨N1, hN1⟩ : ∃ N1, N1 = (decls (ls.take j)).1.length + 1 := ⟨_, rfl⟩
        have hql : (decls (ls.take j)).1.length ≤ ls.length := by
          have := (yl6 (ls.take j) ([], []) (by simp; omega)).1
          simp at this
          unfold decls
          omega
        have hlen := (hm.below hA1).len N2 (by rw [hrl.size_, hN2])
        have f3 : (N2 : Int) - 1 = (N1 : Int) := by omega
        have f4 : IntKind.i64.wrap (N1 : Int) = (N1 : Int) := IntWalk.i64_in _ (by omega)
        have hN1b : N1 ≤ 4000000 := by omega
        have HN1 := Aside0.mk hN1
        have hbw : b < wr.heap.size := hp.lt
        have hmw : w1.heap.size < wr.heap.size := hm.lt
        have HPR := Aside0.mk hpr
        have HA1 := Aside0.mk hA1
        clear hm hrl hp hb0 hfr hrow hat hhas hN2 hN1 hpr hA1
        go_wp2_with fail
        refine (Refs.yo5 N1 (by omega) _ (Refs.yf2 HT.out ((HI.out.2.2.2.1).alloc (HI.out.2.2.2.1).size _))).mono ?_
        rintro e w4 ⟨rfl, hb4⟩
        have hb4' := HA1.out.trans (hb4.mono HA1.out.size)
        have hk4 : w4.heap[wr.heap.size]? = some (.cells #[.string a.f0.f0, .string a.f0.f1, .string a.f1] 84 (0, 0)) := (hb4.block wr.heap.size (by simp)).trans (heap_alloc_last wr _)
        have g0 : w4.cell? ⟨wr.heap.size, 0, none⟩ = some (.string a.f0.f0) := by rw [Lib.cell_of_heap hk4]; rfl
        obtain ⟨I, hI⟩ : ∃ I : ByteArray, I = ⟨(Lib.itoa (N1 : Int)).toArray⟩ := ⟨_, rfl⟩
        rw [← hI]
        have hIs : I.size ≤ 21 := by rw [hI, Lib.size_eq]; exact Lib.itoa_length_le (N1 : Int) (by omega) (by omega)
        have hIz : ((⟨#[110]⟩ ++ I) ++ ⟨#[58]⟩ : ByteArray).size = 1 + I.size + 1 := by rw [ByteArray.size_append, ByteArray.size_append]; rfl
        have HI2 := Aside0.mk hI
        obtain ⟨w5, hr5, o5, g5⟩ := (HI.out.1.below hb4').put (by unfold maxLen; omega) a.f0.f0 ((⟨#[110]⟩ ++ I) ++ ⟨#[58]⟩) hks (by rw [hIz]; unfold maxLen; omega)
        have hk5 := (g5.block wr.heap.size (blk_lt hk4) (by simp; omega)).trans hk4
        have g0' : w5.cell? ⟨wr.heap.size, 0, none⟩ = some (.string a.f0.f0) := by rw [Lib.cell_of_heap hk5]; rfl
        have hP5 : PD w0.heap.size b (bs ++ (decls (ls.take j)).2) w5 := ((HI.out.2.2.1).below hb4').grown (HI.out.1.below hb4') g5
        have hF5 : Bld.Fr b w w5 := ys8 ((HI.out.2.2.2.2.1).trans (Bld.Fr.below hb4')) g5 HB1.out.size
        have h04 : Below w0.heap.size w0 w4 := (HI.out.2.2.2.1).trans (hb4'.mono (HI.out.2.2.2.1).size)
        have h05 : Below w0.heap.size w0 w5 := h04.grown g5 h04.size (fun k hk => by cases hk; have := HB1.out.size; omega)
        have hR5 : kAt.R 84 w5 w.heap.size (fun _ => True) (.slice (some ad) ls.length c) ls := yq5 (Kd.ye5 HI.out.2.2.2.2.2 hb4') (HI.out.1.below hb4') g5
        have HP5 := Aside0.mk hP5
        have HF5 := Aside0.mk hF5
        have H05 := Aside0.mk h05
        have HR5 := Aside0.mk hR5
        have HO5 := Aside0.mk o5
        clear hlen hlk hI hIz hk4 hk5 hP5 hF5 h04 h05 hR5 o5 g5
        go_wp2_with fail
        have hdl : (decls (ls.take j)).2.length ≤ 40 * wAs ls := by
          have h1 := (yl6 (ls.take j) ([], []) (by simp; omega)).2
          have h2 := wAs_take ls j
          unfold decls
          simp at h1
          omega
        refine (yp1 w0.heap.size b _ a.f0.f0 (bs ++ (decls (ls.take j)).2) w5 HP5.out HP5.out.lt H05.out.size (Refs.yf2 HT.out H05.out) (by unfold wA at hwa; omega) ?hnm (by rw [List.length_append]; omega)).mono ?_
        case hnm =>
          rw [ByteArray.size_append, ByteArray.size_append]
          show 6 + (1 + I.size) ≤ 18000000
          omega
        rintro e w6 ⟨rfl, hp6, hb6, hf6⟩
        have hD : ((⟨#[110]⟩ ++ I) ++ ⟨#[58]⟩ : ByteArray).data.toList = 110 :: Lib.itoa (((decls (ls.take j)).1.length : Int) + 1) ++ [58] := by
          rw [HI2.out, HN1.out]
          simp
        have hst : decls (ls.take i) = ((decls (ls.take j)).1 ++ [spc a], (decls (ls.take j)).2 ++ attrO ([120, 109, 108, 110, 115, 58] ++ (110 :: Lib.itoa (((decls (ls.take j)).1.length : Int) + 1))) (spc a)) := by
          have e1 : ls.take i = ls.take j ++ [a] := by rw [HI'.out, List.take_add_one, List.getElem?_eq_getElem hlt, HA.out]; rfl
          rw [e1, decls_snoc]
          unfold yj2
          rw [HPR.out]
          rfl
        have HST := Aside0.mk hst
        have HD := Aside0.mk hD
        have HP6 := Aside0.mk hp6
        have HB6 := Aside0.mk hb6
        have HF6 := Aside0.mk hf6
        clear hst hD hp6 hb6 hf6 hr5 g0 g0'
        go_wp2_with fail
        go_roundg (ls.length - i)
        · refine ⟨i, rfl, by have := HI'.out; omega, ⟨rfl⟩, _, ⟨HO5.out.fr hmb HF6.out |>.mono' (by have := HI'.out; omega), ?_, ?_, H05.out.trans HB6.out, HF5.out.trans HF6.out, row_fr HR5.out HP5.out HF6.out⟩⟩
          · rw [HST.out, HD.out]
            exact MRel.put HI.out.2.1 HI.out.1.tidy (spc a) HPR.out
          · rw [HST.out, ← List.append_assoc]
            have e := HP6.out
            rw [HI2.out, HN1.out] at e
            simpa [spc] using e
        · have := HI'.out; have := HM.out; omega
    · have q1 := eq_false (show ¬ (j : Int) < (ls.length : Int) by omega)
      obtain rfl : j = ls.length := by omega
      have hI := HI.out
      rw [List.take_length] at hI
      obtain ⟨P, hP⟩ : ∃ P, P = decls ls := ⟨_, rfl⟩
      have HPL : P.1.length ≤ 2000000 ∧ P.2.length ≤ 40 * wAs ls := by
        have := yl6 ls ([], []) (by simp; omega)
        rw [hP]
        unfold decls
        simp at this
        omega
      rw [← hP] at hI
      have HI := Aside0.mk hI
      have HP' := Aside0.mk hP
      clear hI hP
      go_wp2_with fail
      obtain ⟨wo, rfl⟩ : ∃ wo : World, wo = wr := ⟨_, rfl⟩
      go_loopg [53] ls.length (fun m v53 wr => ∃ j : Nat, v53 = .int .i64 (j : Int) ∧ j ≤ ls.length ∧ Aside0 (m = ls.length - j) ∧ Aside0 (MP w1.heap.size (2 + ls.length) D wr ∧ PD w0.heap.size b (bs ++ P.2 ++ attsO P.1 (ls.take j)) wr ∧ Below w0.heap.size w0 wr ∧ Bld.Fr b w wr ∧ kAt.R 84 wr w.heap.size (fun _ => True) (.slice A ls.length c) ls))
      case atStart => exact ⟨0, rfl, Nat.zero_le _, ⟨rfl⟩, ⟨HI.out.1, by simpa [attsO] using HI.out.2.2.1, HI.out.2.2.2.1, HI.out.2.2.2.2.1, HI.out.2.2.2.2.2⟩⟩
      case round =>
        obtain ⟨j, rfl, hj, HM2, HJ⟩ := hrel
        by_cases hlt : j < ls.length
        · obtain ⟨hm, hp, hb0, hfr, hrow⟩ := HJ.out
          obtain ⟨ad, eA, k0, k1, k2⟩ := atAt (Kd.ye8 hrow).2.2 (j : Int) (by omega) (by omega)
          have q1 := eq_true (show (j : Int) < (ls.length : Int) by omega)
          have q2 := eq_true (show (0 : Int) ≤ (j : Int) by omega)
          obtain ⟨a, ha⟩ : ∃ a, a = rdAt ls (j : Int) := ⟨_, rfl⟩
          rw [← ha] at k0 k1 k2
          simp only [Int.toNat_natCast] at k0 k1 k2
          have HA : Aside0 (a = ls[j]) := ⟨by rw [ha]; simp [rdAt, hlt]⟩
          clear ha
          subst eA
          obtain ⟨i, hi⟩ : ∃ i, i = j + 1 := ⟨_, rfl⟩
          have f1 : (j : Int) + 1 = (i : Int) := by omega
          have f2 : IntKind.i64.wrap (i : Int) = (i : Int) := IntWalk.i64_in _ (by omega)
          have HI' := Aside0.mk hi
          have hwa : wA a ≤ wAs ls := by rw [HA.out]; exact ys9 (List.getElem_mem _)
          have hks : a.f0.f0.size ≤ maxLen := by unfold wA at hwa; unfold maxLen; omega
          have hA1 : Below wr.heap.size wr (wr.alloc (.cells #[.string a.f0.f0, .string a.f0.f1, .string a.f1] 84)) := (Below.refl _ _).alloc (Nat.le_refl _) _
          obtain ⟨pf, hpf⟩ : ∃ pf : ByteArray, pf = ⟨((prefOf P.1 (spc a)).getD []).toArray⟩ := ⟨_, rfl⟩
          have hlk := (hm.below hA1).look a.f0.f0 pf hks (by rw [hpf]; exact HI.out.2.1.at_ (spc a))
          have hpl := prefOf_len P.1 (spc a) (by omega)
          have hps : pf.size ≤ 23 := by rw [hpf, Lib.size_eq]; exact hpl
          have hal : a.f0.f1.size ≤ 16000000 := by unfold wA at hwa; omega
          have HPF := Aside0.mk hpf
          have HA1 := Aside0.mk hA1
          have hst : attsO P.1 (ls.take i) = attsO P.1 (ls.take j) ++ attO P.1 a := by
            have e1 : ls.take i = ls.take j ++ [a] := by rw [HI'.out, List.take_add_one, List.getElem?_eq_getElem hlt, HA.out]; rfl
            rw [e1, attsO_snoc]
          have HST := Aside0.mk hst
          have hatl : (attsO P.1 (ls.take j)).length ≤ 40 * wAs ls := by
            have h1 := yq8 P.1 (by omega) (ls.take j)
            have h2 := wAs_take ls j
            omega
          clear hi hm hp hb0 hfr hrow hpf hA1 hst hpl
          go_wp2_with fail
          have hP7 := HJ.out.2.1.below HA1.out
          have h07 : Below w0.heap.size w0 (wr.alloc (.cells #[.string a.f0.f0, .string a.f0.f1, .string a.f1] 84)) := HJ.out.2.2.1.alloc HJ.out.2.2.1.size _
          refine (yp1 w0.heap.size b _ a.f1 (bs ++ P.2 ++ attsO P.1 (ls.take j)) _ hP7 hP7.lt h07.size (Refs.yf2 HT.out h07) (by unfold wA at hwa; omega) (by rw [ByteArray.size_append]; omega) (by rw [List.length_append, List.length_append]; omega)).mono ?_
          rintro e w6 ⟨rfl, hp6, hb6, hf6⟩
          have HP6 := Aside0.mk hp6
          have HB6 := Aside0.mk hb6
          have HF6 := Aside0.mk hf6
          have HP7 := Aside0.mk hP7
          have H07 := Aside0.mk h07
          clear hp6 hb6 hf6 hP7 h07 hlk k0 k1 k2
          go_wp2_with fail
          go_roundg (ls.length - i)
          · refine ⟨i, rfl, by have := HI'.out; omega, ⟨rfl⟩, ⟨(HJ.out.1.below HA1.out).fr hmb HF6.out, ?_, H07.out.trans HB6.out, (HJ.out.2.2.2.1.alloc _).trans HF6.out, row_fr (Kd.yd7 HJ.out.2.2.2.2 _) HP7.out HF6.out⟩⟩
            rw [HST.out, ← List.append_assoc]
            have e := HP6.out
            rw [HPF.out] at e
            simpa [attO, loc] using e
          · have := HI'.out; have := HM2.out; omega
        · have q1 := eq_false (show ¬ (j : Int) < (ls.length : Int) by omega)
          obtain rfl : j = ls.length := by omega
          have hJ := HJ.out
          rw [List.take_length] at hJ
          have HJ := Aside0.mk hJ
          clear hJ
          go_wp2_with fail
          go_end0
          refine ⟨rfl, ?_, HJ.out.2.2.1, HJ.out.2.2.2.1⟩
          unfold attrsO
          rw [← HP'.out, ← List.append_assoc]
          exact HJ.out.2.1
end Go.Proofs.YtidkjifilgjgfaaDoor.Prt
