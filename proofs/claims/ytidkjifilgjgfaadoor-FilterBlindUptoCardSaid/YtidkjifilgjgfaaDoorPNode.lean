/- print's printer: node (a tree's bytes), by induction on how much the tree is. -/
import Derived.Test.YtidkjifilgjgfaaDoorPAtt
namespace Go.Proofs.YtidkjifilgjgfaaDoor.Prt
open Go.RowKit Go.Proofs.YtidkjifilgjgfaaDoorW.PrintWords Go.Proofs.YtidkjifilgjgfaaDoorW.PrintLast Go.Proofs.YtidkjifilgjgfaaDoorW.PrintMore Go.Plain Go.Proofs.YtidkjifilgjgfaaDoor.ND
set_option linter.unusedVariables false
theorem eqL {a : ByteArray} {l : L} (h : a.data.toList = l) : (a.toList == l) = true := by rw [Lib.toList_data, h]; simp
theorem neL {a : ByteArray} {l : L} (h : a.data.toList ≠ l) : (a.toList == l) = false := by rw [Lib.toList_data]; simpa using h
theorem neS {a b : ByteArray} (h : a.data.toList ≠ b.data.toList) : (a.toList == b.toList) = false := by rw [Lib.toList_data, Lib.toList_data]; simpa using h
theorem eqS {a b : ByteArray} (h : a.data.toList = b.data.toList) : (a.toList == b.toList) = true := by rw [Lib.toList_data, Lib.toList_data, h]; simp
mutual
def wt : Nd → Nat
  | ⟨_, n, t, c, x⟩ => 1 + n.f0.size + n.f1.size + wAs t + wts c + x.size
def wts : List Nd → Nat
  | [] => 0
  | d :: r => wt d + wts r
end
mutual
def okN : Nd → Prop
  | ⟨_, _, t, c, _⟩ => Apart t ∧ okNs c
def okNs : List Nd → Prop
  | [] => True
  | d :: r => okN d ∧ okNs r
end
/-- What a node's bytes are made of. -/
def bodyO (kids : List Nd) (sp tag : L) : L := match kids with | [] => [47, 62] | d :: r => [62] ++ nodesO (d :: r) sp ++ ([60, 47] ++ tag ++ [62])
theorem nodeO_elem (k : Int) (nm : Nm) (t : List At) (kids : List Nd) (x : ByteArray) (space : L) (hk : k ≠ 2) :
    nodeO ⟨k, nm, t, kids, x⟩ space = 60 :: (if nm.f0.data.toList = sXML then sXmlC ++ nm.f1.data.toList else nm.f1.data.toList) ++ (if nm.f0.data.toList ≠ sXML ∧ nm.f0.data.toList ≠ space then attrO sXmlns nm.f0.data.toList else []) ++ attrsO (srt t)
      ++ bodyO kids (if nm.f0.data.toList ≠ sXML ∧ nm.f0.data.toList ≠ space then nm.f0.data.toList else space) (if nm.f0.data.toList = sXML then sXmlC ++ nm.f1.data.toList else nm.f1.data.toList) := by
  unfold nodeO
  rw [if_neg hk]
  cases kids with
  | nil => simp only [bodyO]
  | cons d r => simp only [bodyO, List.append_assoc]
theorem wts_get : ∀ (l : List Nd) (i : Nat) (h : i < l.length), wt l[i] ≤ wts l
  | d :: r, 0, _ => by simp [wts]
  | d :: r, i + 1, h => by have := wts_get r i (by simpa using h); simp [wts]; omega
theorem yp9 : ∀ (l : List Nd) (i : Nat) (h : i < l.length), okNs l → okN l[i]
  | d :: r, 0, _, h => h.1
  | d :: r, i + 1, hi, h => yp9 r i (by simpa using hi) h.2
theorem yp4 : ∀ (l : List Nd) (i : Nat), wts (l.take i) ≤ wts l
  | [], _ => by simp [wts]
  | d :: r, 0 => by simp [wts]
  | d :: r, i + 1 => by have := yp4 r i; simp [wts]; omega
theorem yp5 : ∀ (l : List Nd) (d : Nd), wts (l ++ [d]) = wts l + wt d
  | [], d => by simp [wts]
  | a :: l, d => by simp [wts, yp5 l d]; omega
theorem yk7 : ∀ (l : List Nd) (d : Nd) (s : L), nodesO (l ++ [d]) s = nodesO l s ++ nodeO d s
  | [], d, s => by simp [nodesO]
  | a :: l, d, s => by simp [nodesO, yk7 l d s]
theorem attrsO_len (l : List At) (h : l.length ≤ 20000000) : (attrsO l).length ≤ 80 * wAs l := by
  have h1 := yl6 l ([], []) (by simpa using h)
  have h2 := yq8 (decls l).1 (by unfold decls; simp at h1; omega) l
  unfold attrsO
  unfold decls at *
  simp at h1 ⊢
  omega
theorem yr3 : ∀ l : List At, l.length ≤ wAs l
  | [] => by simp [wAs]
  | a :: l => by have := yr3 l; simp [wAs, wA] at *; omega
mutual
theorem nodeO_len : ∀ (n : Nd) (s : L), wt n ≤ 20000000 → (nodeO n s).length ≤ 80 * wt n
  | ⟨k, n, t, c, x⟩, s, h => by
    have h1 := Esc.yo8 false x.data.toList
    have h2 := Lib.size_eq x
    have h3 := Lib.size_eq n.f0
    have h4 := Lib.size_eq n.f1
    have h5 := yn8 sXmlns n.f0.data.toList
    have h6 := yr2 (yl9 t)
    have h7 := yr3 (srt t)
    unfold wt at h
    have h8 := attrsO_len (srt t) (by omega)
    have h9 : ∀ s', (nodesO c s').length ≤ 80 * wts c := fun s' => yi3 c s' (by omega)
    have hX : sXmlC.length = 4 := rfl
    have hN : sXmlns.length = 5 := rfl
    unfold nodeO wt
    split
    · omega
    · have ht : (if n.f0.data.toList = sXML then sXmlC ++ n.f1.data.toList else n.f1.data.toList).length ≤ 4 + n.f1.size := by split <;> (try simp only [List.length_append]) <;> omega
      have hn : (if n.f0.data.toList ≠ sXML ∧ n.f0.data.toList ≠ s then attrO sXmlns n.f0.data.toList else []).length ≤ 9 + 6 * n.f0.size := by split <;> (try simp only [List.length_nil]) <;> omega
      cases c with
      | nil => simp only [List.length_append, List.length_cons, List.length_nil]; omega
      | cons d r =>
        have := h9 (if n.f0.data.toList ≠ sXML ∧ n.f0.data.toList ≠ s then n.f0.data.toList else s)
        simp only [List.length_append, List.length_cons, List.length_nil]
        omega
theorem yi3 : ∀ (l : List Nd) (s : L), wts l ≤ 20000000 → (nodesO l s).length ≤ 80 * wts l
  | [], _, _ => by simp [nodesO]
  | d :: r, s, h => by
    unfold wts at h
    have h1 := nodeO_len d s (by omega)
    have h2 := yi3 r s (by omega)
    unfold nodesO wts
    simp
    omega
end
set_option maxHeartbeats 4000000 in
set_option maxRecDepth 100000 in
theorem node_text (n : Nd) (space : ByteArray) (b : Nat) (bs : L) (w0 w : World) (A3 A4 : Option Addr) (c3 c4 : Nat) (hk : n.f0 = 2) (h : PD w0.heap.size b bs w) (h0 : Below w0.heap.size w0 w) (ht : Refs.Tens w0) (hz : bs.length + 80 * wt n ≤ 1600000000) (hw : n.f4.size ≤ 18000000) :
    Calls Tryd.prog 32 #[.pointer (some ⟨b, 0, none⟩), .agg #[.int .i64 n.f0, .string n.f1.f0, .string n.f1.f1, .slice A3 n.f2.length c3, .slice A4 n.f3.length c4, .string n.f4], .string space] w fun e w' => e = .returned (.tuple #[]) ∧ PD w0.heap.size b (bs ++ nodeO n space.data.toList) w' ∧ Below w0.heap.size w0 w' ∧ Bld.Fr b w w' := by
  have hbx := fun (o : Obj) => (Below.refl w.heap.size w).alloc (Nat.le_refl _) o
  have HBX := Aside0.mk hbx
  have HP := Aside0.mk h
  have H0 := Aside0.mk h0
  have HT := Aside0.mk ht
  obtain ⟨k, nm, at', kids, x⟩ := n
  dsimp only at *
  subst hk
  have hx : (Esc.esc false x.data.toList).length ≤ 6 * x.size := by have := Esc.yo8 false x.data.toList; rw [← Lib.size_eq] at this; exact this
  have hwt : x.size ≤ wt ⟨2, nm, at', kids, x⟩ := by unfold wt; omega
  have he : nodeO ⟨2, nm, at', kids, x⟩ space.data.toList = Esc.esc false x.data.toList := by unfold nodeO; rw [if_pos rfl]
  rw [he]
  obtain ⟨W, hW⟩ : ∃ W, W = wt ⟨2, nm, at', kids, x⟩ := ⟨_, rfl⟩
  rw [← hW] at hz hwt
  obtain ⟨E, hE⟩ : ∃ E, E = Esc.esc false x.data.toList := ⟨_, rfl⟩
  have hce := fun w hT => Esc.escape_calls x false w hT hw
  rw [← hE] at hx ⊢
  simp only [← hE] at hce
  have HCE := Aside0.mk hce
  clear h h0 ht he hW hE hce hbx
  go_enter Tryd.func32, Tryd.ntmps32
  go_wp2_with fail
  have h01 := fun o => H0.out.alloc H0.out.size o
  refine (HCE.out _ (Refs.yf2 HT.out (h01 _))).mono ?_
  rintro e w1 ⟨rfl, hb1⟩
  have H01 := Aside0.mk ((h01 _).trans (hb1.mono (h01 _).size))
  have hP1 := (HP.out.below (HBX.out _)).below hb1
  have hF1 := (Bld.Fr.below (b := b) (HBX.out _)).trans (Bld.Fr.below hb1)
  have HP1 := Aside0.mk hP1
  have HF1 := Aside0.mk hF1
  clear hb1 hP1 hF1 h01
  go_wp2_with fail
  refine (yi8 w0.heap.size b [⟨E.toArray⟩] bs w1 1 _ _ HP1.out rfl rfl rfl (by simp) (by simp [cat]; omega)).mono ?_
  rintro e w2 ⟨rfl, hp2, hb2, hf2⟩
  have HP2 := Aside0.mk hp2
  have HB2 := Aside0.mk hb2
  have HF2 := Aside0.mk hf2
  clear hp2 hb2 hf2
  go_wp2_with fail
  exact bodyPost_ret (v := .tuple #[]) (by simp [results, Tryd.results32, go_sem]) rfl ⟨rfl, by simpa [cat] using HP2.out, H01.out.trans HB2.out, HF1.out.trans HF2.out⟩
set_option maxHeartbeats 4000000 in
set_option maxRecDepth 100000 in
theorem node_elem (hS : ym2) (n : Nd) (space : ByteArray) (b : Nat) (bs : L) (w0 w : World) (A3 A4 : Option Addr) (c3 c4 : Nat) (hk : n.f0 ≠ 2) (h : PD w0.heap.size b bs w) (h0 : Below w0.heap.size w0 w) (ht : Refs.Tens w0)
    (hz : bs.length + 80 * wt n ≤ 1600000000) (hw : wt n ≤ 2000000) (hok : okN n) (h3 : kAt.C w0 A3 n.f2.length n.f2) (hc3 : n.f2.length ≤ c3) (h4 : kNd.C w0 A4 n.f3.length n.f3) (hc4 : n.f3.length ≤ c4) (hsp : space.size ≤ 18000000)
    (ih : ∀ (d : Nd), wt d < wt n → okN d → ∀ (space : ByteArray) (bs : L) (w : World) (A3 A4 : Option Addr) (c3 c4 : Nat), PD w0.heap.size b bs w → Below w0.heap.size w0 w → bs.length + 80 * wt d ≤ 1600000000 →
      kAt.C w0 A3 d.f2.length d.f2 → d.f2.length ≤ c3 → kNd.C w0 A4 d.f3.length d.f3 → d.f3.length ≤ c4 → space.size ≤ 18000000 →
      Calls Tryd.prog 32 #[.pointer (some ⟨b, 0, none⟩), .agg #[.int .i64 d.f0, .string d.f1.f0, .string d.f1.f1, .slice A3 d.f2.length c3, .slice A4 d.f3.length c4, .string d.f4], .string space] w fun e w' => e = .returned (.tuple #[]) ∧ PD w0.heap.size b (bs ++ nodeO d space.data.toList) w' ∧ Below w0.heap.size w0 w' ∧ Bld.Fr b w w') :
    Calls Tryd.prog 32 #[.pointer (some ⟨b, 0, none⟩), .agg #[.int .i64 n.f0, .string n.f1.f0, .string n.f1.f1, .slice A3 n.f2.length c3, .slice A4 n.f3.length c4, .string n.f4], .string space] w fun e w' => e = .returned (.tuple #[]) ∧ PD w0.heap.size b (bs ++ nodeO n space.data.toList) w' ∧ Below w0.heap.size w0 w' ∧ Bld.Fr b w w' := by
  have hbx := fun (o : Obj) => (Below.refl w.heap.size w).alloc (Nat.le_refl _) o
  have HBX := Aside0.mk hbx
  have HP := Aside0.mk h
  have H0 := Aside0.mk h0
  have HT := Aside0.mk ht
  have HIH := Aside0.mk ih
  have HOK := Aside0.mk hok
  have H3 := Aside0.mk h3
  have H4 := Aside0.mk h4
  obtain ⟨k, nm, at', kids, x⟩ := n
  dsimp only at *
  have hk1 : (k == 2) = false := by simpa using hk
  have hfin := nodeO_elem k nm at' kids x space.data.toList hk
  have hwt : wt ⟨k, nm, at', kids, x⟩ = 1 + nm.f0.size + nm.f1.size + wAs at' + wts kids + x.size := by unfold wt; rfl
  have hal := yr3 at'
  obtain ⟨hap, hokk⟩ := HOK.out
  have hsz := h0.size
  have hbw := h.lt
  have HW := Aside0.mk hwt
  have hw1 : nm.f1.size ≤ 2000000 := by omega
  have hw0 : nm.f0.size ≤ 2000000 := by omega
  have hwA : wAs at' ≤ 2000000 := by omega
  have hwK : wts kids ≤ 2000000 := by omega
  have hz1 : bs.length + 80 * (1 + nm.f0.size + nm.f1.size + wAs at' + wts kids) ≤ 1600000000 := by omega
  have hkl : kids.length ≤ 2000000 := by
    have : ∀ l : List Nd, l.length ≤ wts l := by
      intro l
      induction l with
      | nil => simp
      | cons d r ih => simp only [wts, List.length_cons]; have : 1 ≤ wt d := by obtain ⟨k, nm, t, c, x⟩ := d; unfold wt; omega
                       omega
    have := this kids
    omega
  have HAP := Aside0.mk hap
  have HOKK := Aside0.mk hokk
  have hsX : sXmlC.length = 4 := rfl
  have hsN : sXmlns.length = 5 := rfl
  have hl0 := yn8 sXmlns nm.f0.data.toList
  rw [← Lib.size_eq] at hl0
  have hatl := attrsO_len (srt at') (by rw [(yl9 at').length_eq]; omega)
  rw [yr2 (yl9 at')] at hatl
  clear h h0 ht ih hok h3 h4 hbx hwt hap hokk hz hw hk
  by_cases hX : nm.f0.data.toList = sXML
  · have b1 := eqL hX
    unfold sXML at b1
    rw [if_pos hX, if_neg (fun c => c.1 hX), if_neg (fun c => c.1 hX)] at hfin
    have HFIN := Aside0.mk hfin
    clear hfin hX
    have hr : (9223372036854775807 < 4 + nm.f1.size) = False := eq_false (by omega)
    go_enter Tryd.func32, Tryd.ntmps32
    go_wp2_with fail
    obtain ⟨T, hT⟩ : ∃ T : ByteArray, T = ⟨#[120, 109, 108, 58]⟩ ++ nm.f1 := ⟨_, rfl⟩
    rw [← hT]
    have hTl : T.data.toList = sXmlC ++ nm.f1.data.toList := by rw [hT, ByteArray.data_append, Array.toList_append]; rfl
    have hTs : T.size = 4 + nm.f1.size := by rw [hT, ByteArray.size_append]; rfl
    have HTL := Aside0.mk hTl
    have HTS := Aside0.mk hTs
    clear hT hTl hTs
    have hT9 : bs.length + (cat [⟨#[60]⟩, T]).length ≤ 2000000000 := by
      have h1 := HTS.out
      have h2 := Lib.size_eq T
      simp only [cat, List.flatMap_cons, List.flatMap_nil, List.length_append, List.length_cons, List.length_nil]
      omega
    (with_reducible refine (yi8 w0.heap.size b [⟨#[60]⟩, T] bs _ 2 (w.heap.size + 1) #[.string ⟨#[60]⟩, .string T] (HP.out.below (HBX.out _)) (by simp) rfl rfl (by simp) hT9).mono ?_)
    rintro e w1 ⟨rfl, hp1, hb1, hf1⟩
    have hk1 := hf1.cells (k := w.heap.size) (T := 54) (by omega) (by decide) (heap_alloc_last w _)
    have g1 : w1.cell? ⟨w.heap.size, 1, none⟩ = some (.string nm.f0) := by rw [Lib.cell_of_heap hk1]; rfl
    have g3 : w1.cell? ⟨w.heap.size, 3, none⟩ = some (.slice A3 at'.length c3) := by rw [Lib.cell_of_heap hk1]; rfl
    have H01 := Aside0.mk ((H0.out.alloc H0.out.size _).trans hb1)
    have HP1 := Aside0.mk hp1
    have HF1 := Aside0.mk ((Bld.Fr.below (b := b) (HBX.out _)).trans hf1)
    have HK1 := Aside0.mk hk1
    clear hp1 hb1 hf1 hk1
    go_wp2_with fail
    obtain ⟨bs1, hbs1⟩ : ∃ bs1, bs1 = bs ++ cat [⟨#[60]⟩, T] := ⟨_, rfl⟩
    have hbl : bs1.length ≤ bs.length + (5 + nm.f1.size + 9 + 6 * nm.f0.size) := by
      have h1 := HTS.out
      have h2 := Lib.size_eq T
      rw [hbs1]
      simp only [cat, List.flatMap_cons, List.flatMap_nil, List.length_append, List.length_cons, List.length_nil]
      omega
    have HPB : Aside0 (PD w0.heap.size b bs1 w1) := ⟨by rw [hbs1]; exact HP1.out⟩
    have hfinal : nodeO ⟨k, nm, at', kids, x⟩ space.data.toList = nodeO ⟨k, nm, at', kids, x⟩ space.data.toList := rfl
    have HB1 := Aside0.mk hbs1
    clear hbs1 hfinal
    refine (yj9 hS b A3 c3 at' bs1 w0 w1 HPB.out H01.out HT.out H3.out hc3 HAP.out (by omega) (by omega) (by omega)).mono ?_
    rintro e wa ⟨rfl, hpa, hba, hfa⟩
    have hka := hfa.cells (k := w.heap.size) (T := 54) (by omega) (by decide) HK1.out
    have g4 : wa.cell? ⟨w.heap.size, 4, none⟩ = some (.slice A4 kids.length c4) := by rw [Lib.cell_of_heap hka]; rfl
    obtain ⟨bs2, hbs2⟩ : ∃ bs2, bs2 = bs1 ++ attrsO (srt at') := ⟨_, rfl⟩
    have hbl2 : bs2.length ≤ bs.length + (14 + nm.f1.size + 6 * nm.f0.size) + 80 * wAs at' := by rw [hbs2, List.length_append]; omega
    have HPA : Aside0 (PD w0.heap.size b bs2 wa) := ⟨by rw [hbs2]; exact hpa⟩
    have HB2 := Aside0.mk hbs2
    have HBA := Aside0.mk hba
    have HFA := Aside0.mk (HF1.out.trans hfa)
    have HKA := Aside0.mk hka
    clear hpa hba hfa hka hbs2 g1 g3
    by_cases hkz : kids = []
    · subst hkz
      go_wp2_with fail
      (with_reducible refine (yi8 w0.heap.size b [⟨#[47, 62]⟩] bs2 _ 1 wa.heap.size #[.string ⟨#[47, 62]⟩] HPA.out rfl rfl rfl (by simp) (by simp [cat]; omega)).mono ?_)
      rintro e wz ⟨rfl, hpz, hbz, hfz⟩
      have HPZ := Aside0.mk hpz
      have HBZ := Aside0.mk hbz
      have HFZ := Aside0.mk hfz
      clear hpz hbz hfz
      go_wp2_with fail
      refine bodyPost_ret (v := .tuple #[]) (by simp [results, Tryd.results32, go_sem]) rfl ⟨rfl, ?_, HBA.out.trans HBZ.out, HFA.out.trans HFZ.out⟩
      have e := HPZ.out
      rw [HB2.out, HB1.out] at e
      rw [HFIN.out]
      simpa [cat, bodyO, HTL.out] using e
    · have z1 : ((kids.length : Int) == 0) = false := by
        have := List.length_pos_iff.2 hkz
        simp
        exact hkz
      have z2 : (kids.length == 0) = false := by simpa using hkz
      have HKZ := Aside0.mk hkz
      clear hkz
      go_wp2_with fail
      (with_reducible refine (yi8 w0.heap.size b [⟨#[62]⟩] bs2 _ 1 wa.heap.size #[.string ⟨#[62]⟩] HPA.out rfl rfl rfl (by simp) (by simp [cat]; omega)).mono ?_)
      rintro e wb ⟨rfl, hpb, hbb, hfb⟩
      have hkb := hfb.cells (k := w.heap.size) (T := 54) (by omega) (by decide) HKA.out
      have g4' : wb.cell? ⟨w.heap.size, 4, none⟩ = some (.slice A4 kids.length c4) := by rw [Lib.cell_of_heap hkb]; rfl
      have HPB2 : Aside0 (PD w0.heap.size b (bs2 ++ [62]) wb) := ⟨by simpa [cat] using hpb⟩
      have HBB := Aside0.mk (HBA.out.trans hbb)
      have HFB := Aside0.mk (HFA.out.trans hfb)
      clear hpb hbb hfb hkb g4
      go_wp2_with fail
      go_loopg [65] kids.length (fun m v65 wr => ∃ j : Nat, v65 = .int .i64 (j : Int) ∧ j ≤ kids.length ∧ Aside0 (m = kids.length - j) ∧ Aside0 (PD w0.heap.size b (bs2 ++ [62] ++ nodesO (kids.take j) space.data.toList) wr ∧ Below w0.heap.size w0 wr ∧ Bld.Fr b w wr))
      case atStart => exact ⟨0, rfl, Nat.zero_le _, ⟨rfl⟩, ⟨by simpa [nodesO] using HPB2.out, HBB.out, HFB.out⟩⟩
      case round =>
        obtain ⟨j, rfl, hj, HM, HJ⟩ := hrel
        by_cases hlt : j < kids.length
        · obtain ⟨hp, hb0, hfr⟩ := HJ.out
          obtain ⟨ad, B3, d3, B4, d4, eA, k0, k1, k2, k3, k4, k5, l3, C3, l4, C4⟩ := atNd H4.out (j : Int) (by omega) (by omega)
          have q1 := eq_true (show (j : Int) < (kids.length : Int) by omega)
          have q2 := eq_true (show (0 : Int) ≤ (j : Int) by omega)
          obtain ⟨d, hd⟩ : ∃ d, d = rdNd kids (j : Int) := ⟨_, rfl⟩
          rw [← hd] at k0 k1 k2 k3 k4 k5 l3 C3 l4 C4
          simp only [Int.toNat_natCast] at k0 k1 k2 k3 k4 k5
          have k0 := yd3 hb0 k0
          have k1 := yd3 hb0 k1
          have k2 := yd3 hb0 k2
          have k3 := yd3 hb0 k3
          have k4 := yd3 hb0 k4
          have k5 := yd3 hb0 k5
          have hdk : d = kids[j] := by rw [hd]; simp [rdNd, hlt]
          clear hd
          subst eA
          obtain ⟨i, hi⟩ : ∃ i, i = j + 1 := ⟨_, rfl⟩
          have f1 : (j : Int) + 1 = (i : Int) := by omega
          have f2 : IntKind.i64.wrap (i : Int) = (i : Int) := IntWalk.i64_in _ (by omega)
          have e1 : kids.take i = kids.take j ++ [d] := by rw [hi, List.take_add_one, List.getElem?_eq_getElem hlt, hdk]; rfl
          have hst : nodesO (kids.take i) space.data.toList = nodesO (kids.take j) space.data.toList ++ nodeO d space.data.toList := by rw [e1, yk7]
          have hsum : wts (kids.take j) + wt d ≤ wts kids := by
            have h1 := yp4 kids i
            rw [e1, yp5] at h1
            exact h1
          have hnl := yi3 (kids.take j) space.data.toList (by omega)
          have hokd : okN d := by rw [hdk]; exact yp9 kids j hlt HOKK.out
          have hA1 : Below wr.heap.size wr (wr.alloc (.cells #[.int .i64 d.f0, .string d.f1.f0, .string d.f1.f1, .slice B3 d.f2.length d3, .slice B4 d.f3.length d4, .string d.f4] 54)) := (Below.refl _ _).alloc (Nat.le_refl _) _
          have hih := HIH.out d (by rw [HW.out]; omega) hokd space (bs2 ++ [62] ++ nodesO (kids.take j) space.data.toList) _ B3 B4 d3 d4 (hp.below hA1) (hb0.alloc hb0.size _) (by simp only [List.length_append, List.length_cons, List.length_nil]; omega) C3 l3 C4 l4 (by omega)
          have HIH2 := Aside0.mk hih
          have HST := Aside0.mk hst
          have HA1 := Aside0.mk hA1
          have HI' := Aside0.mk hi
          clear hih hst hA1 hi e1 hdk C3 C4 hp hb0 hfr hokd
          go_wp2_with fail
          refine HIH2.out.mono ?_
          rintro e wc ⟨rfl, hpc, hbc, hfc⟩
          have HPC := Aside0.mk hpc
          have HBC := Aside0.mk hbc
          have HFC := Aside0.mk hfc
          clear hpc hbc hfc k0 k1 k2 k3 k4 k5
          go_wp2_with fail
          go_roundg (kids.length - i)
          · refine ⟨i, rfl, by have := HI'.out; omega, ⟨rfl⟩, ⟨?_, HBC.out, (HJ.out.2.2.alloc _).trans HFC.out⟩⟩
            rw [HST.out, ← List.append_assoc]
            exact HPC.out
          · have := HI'.out; have := HM.out; omega
        · have q1 := eq_false (show ¬ (j : Int) < (kids.length : Int) by omega)
          obtain rfl : j = kids.length := by omega
          have hJ := HJ.out
          rw [List.take_length] at hJ
          have HJ := Aside0.mk hJ
          have hnl := yi3 kids space.data.toList (by omega)
          have hT8 : (bs2 ++ [62] ++ nodesO kids space.data.toList).length + (cat [⟨#[60, 47]⟩, T, ⟨#[62]⟩]).length ≤ 2000000000 := by
            have h1 := HTS.out
            have h2 := Lib.size_eq T
            simp only [cat, List.flatMap_cons, List.flatMap_nil, List.length_append, List.length_cons, List.length_nil]
            omega
          clear hJ
          go_wp2_with fail
          (with_reducible refine (yi8 w0.heap.size b [⟨#[60, 47]⟩, T, ⟨#[62]⟩] (bs2 ++ [62] ++ nodesO kids space.data.toList) _ 3 wr.heap.size #[.string ⟨#[60, 47]⟩, .string T, .string ⟨#[62]⟩] HJ.out.1 rfl rfl rfl (by simp) hT8).mono ?_)
          rintro e wz ⟨rfl, hpz, hbz, hfz⟩
          have HPZ := Aside0.mk hpz
          have HBZ := Aside0.mk hbz
          have HFZ := Aside0.mk hfz
          clear hpz hbz hfz
          go_wp2_with fail
          go_end0
          refine ⟨rfl, ?_, HJ.out.2.1.trans HBZ.out, HJ.out.2.2.trans HFZ.out⟩
          have e := HPZ.out
          rw [HB2.out, HB1.out] at e
          rw [HFIN.out]
          cases kids with
          | nil => exact absurd rfl HKZ.out
          | cons dd rr => simpa [cat, bodyO, HTL.out] using e
  · have b1 := neL hX
    unfold sXML at b1
    by_cases hN : nm.f0.data.toList = space.data.toList
    · have b2 := eqS hN
      rw [if_neg hX, if_neg (fun c => c.2 hN), if_neg (fun c => c.2 hN)] at hfin
      have HFIN := Aside0.mk hfin
      have HTL : Aside0 (nm.f1.data.toList = nm.f1.data.toList) := ⟨rfl⟩
      have HTS : Aside0 (nm.f1.size ≤ 4 + nm.f1.size) := ⟨by omega⟩
      clear hfin hX hN
      go_enter Tryd.func32, Tryd.ntmps32
      go_wp2_with fail
      have hT9 : bs.length + (cat [⟨#[60]⟩, nm.f1]).length ≤ 2000000000 := by
        have h2 := Lib.size_eq nm.f1
        simp only [cat, List.flatMap_cons, List.flatMap_nil, List.length_append, List.length_cons, List.length_nil]
        omega
      (with_reducible refine (yi8 w0.heap.size b [⟨#[60]⟩, nm.f1] bs _ 2 (w.heap.size + 1) #[.string ⟨#[60]⟩, .string nm.f1] (HP.out.below (HBX.out _)) (by simp) rfl rfl (by simp) hT9).mono ?_)
      rintro e w1 ⟨rfl, hp1, hb1, hf1⟩
      have hk1 := hf1.cells (k := w.heap.size) (T := 54) (by omega) (by decide) (heap_alloc_last w _)
      have g1 : w1.cell? ⟨w.heap.size, 1, none⟩ = some (.string nm.f0) := by rw [Lib.cell_of_heap hk1]; rfl
      have g3 : w1.cell? ⟨w.heap.size, 3, none⟩ = some (.slice A3 at'.length c3) := by rw [Lib.cell_of_heap hk1]; rfl
      have H01 := Aside0.mk ((H0.out.alloc H0.out.size _).trans hb1)
      have HP1 := Aside0.mk hp1
      have HF1 := Aside0.mk ((Bld.Fr.below (b := b) (HBX.out _)).trans hf1)
      have HK1 := Aside0.mk hk1
      clear hp1 hb1 hf1 hk1
      go_wp2_with fail
      obtain ⟨bs1, hbs1⟩ : ∃ bs1, bs1 = bs ++ cat [⟨#[60]⟩, nm.f1] := ⟨_, rfl⟩
      have hbl : bs1.length ≤ bs.length + (5 + nm.f1.size + 9 + 6 * nm.f0.size) := by
        have h1 := HTS.out
        have h2 := Lib.size_eq nm.f1
        rw [hbs1]
        simp only [cat, List.flatMap_cons, List.flatMap_nil, List.length_append, List.length_cons, List.length_nil]
        omega
      have HPB : Aside0 (PD w0.heap.size b bs1 w1) := ⟨by rw [hbs1]; exact HP1.out⟩
      have hfinal : nodeO ⟨k, nm, at', kids, x⟩ space.data.toList = nodeO ⟨k, nm, at', kids, x⟩ space.data.toList := rfl
      have HB1 := Aside0.mk hbs1
      clear hbs1 hfinal
      refine (yj9 hS b A3 c3 at' bs1 w0 w1 HPB.out H01.out HT.out H3.out hc3 HAP.out (by omega) (by omega) (by omega)).mono ?_
      rintro e wa ⟨rfl, hpa, hba, hfa⟩
      have hka := hfa.cells (k := w.heap.size) (T := 54) (by omega) (by decide) HK1.out
      have g4 : wa.cell? ⟨w.heap.size, 4, none⟩ = some (.slice A4 kids.length c4) := by rw [Lib.cell_of_heap hka]; rfl
      obtain ⟨bs2, hbs2⟩ : ∃ bs2, bs2 = bs1 ++ attrsO (srt at') := ⟨_, rfl⟩
      have hbl2 : bs2.length ≤ bs.length + (14 + nm.f1.size + 6 * nm.f0.size) + 80 * wAs at' := by rw [hbs2, List.length_append]; omega
      have HPA : Aside0 (PD w0.heap.size b bs2 wa) := ⟨by rw [hbs2]; exact hpa⟩
      have HB2 := Aside0.mk hbs2
      have HBA := Aside0.mk hba
      have HFA := Aside0.mk (HF1.out.trans hfa)
      have HKA := Aside0.mk hka
      clear hpa hba hfa hka hbs2 g1 g3
      by_cases hkz : kids = []
      · subst hkz
        go_wp2_with fail
        (with_reducible refine (yi8 w0.heap.size b [⟨#[47, 62]⟩] bs2 _ 1 wa.heap.size #[.string ⟨#[47, 62]⟩] HPA.out rfl rfl rfl (by simp) (by simp [cat]; omega)).mono ?_)
        rintro e wz ⟨rfl, hpz, hbz, hfz⟩
        have HPZ := Aside0.mk hpz
        have HBZ := Aside0.mk hbz
        have HFZ := Aside0.mk hfz
        clear hpz hbz hfz
        go_wp2_with fail
        refine bodyPost_ret (v := .tuple #[]) (by simp [results, Tryd.results32, go_sem]) rfl ⟨rfl, ?_, HBA.out.trans HBZ.out, HFA.out.trans HFZ.out⟩
        have e := HPZ.out
        rw [HB2.out, HB1.out] at e
        rw [HFIN.out]
        simpa [cat, bodyO, HTL.out] using e
      · have z1 : ((kids.length : Int) == 0) = false := by
          have := List.length_pos_iff.2 hkz
          simp
          exact hkz
        have z2 : (kids.length == 0) = false := by simpa using hkz
        have HKZ := Aside0.mk hkz
        clear hkz
        go_wp2_with fail
        (with_reducible refine (yi8 w0.heap.size b [⟨#[62]⟩] bs2 _ 1 wa.heap.size #[.string ⟨#[62]⟩] HPA.out rfl rfl rfl (by simp) (by simp [cat]; omega)).mono ?_)
        rintro e wb ⟨rfl, hpb, hbb, hfb⟩
        have hkb := hfb.cells (k := w.heap.size) (T := 54) (by omega) (by decide) HKA.out
        have g4' : wb.cell? ⟨w.heap.size, 4, none⟩ = some (.slice A4 kids.length c4) := by rw [Lib.cell_of_heap hkb]; rfl
        have HPB2 : Aside0 (PD w0.heap.size b (bs2 ++ [62]) wb) := ⟨by simpa [cat] using hpb⟩
        have HBB := Aside0.mk (HBA.out.trans hbb)
        have HFB := Aside0.mk (HFA.out.trans hfb)
        clear hpb hbb hfb hkb g4
        go_wp2_with fail
        go_loopg [65] kids.length (fun m v65 wr => ∃ j : Nat, v65 = .int .i64 (j : Int) ∧ j ≤ kids.length ∧ Aside0 (m = kids.length - j) ∧ Aside0 (PD w0.heap.size b (bs2 ++ [62] ++ nodesO (kids.take j) space.data.toList) wr ∧ Below w0.heap.size w0 wr ∧ Bld.Fr b w wr))
        case atStart => exact ⟨0, rfl, Nat.zero_le _, ⟨rfl⟩, ⟨by simpa [nodesO] using HPB2.out, HBB.out, HFB.out⟩⟩
        case round =>
          obtain ⟨j, rfl, hj, HM, HJ⟩ := hrel
          by_cases hlt : j < kids.length
          · obtain ⟨hp, hb0, hfr⟩ := HJ.out
            obtain ⟨ad, B3, d3, B4, d4, eA, k0, k1, k2, k3, k4, k5, l3, C3, l4, C4⟩ := atNd H4.out (j : Int) (by omega) (by omega)
            have q1 := eq_true (show (j : Int) < (kids.length : Int) by omega)
            have q2 := eq_true (show (0 : Int) ≤ (j : Int) by omega)
            obtain ⟨d, hd⟩ : ∃ d, d = rdNd kids (j : Int) := ⟨_, rfl⟩
            rw [← hd] at k0 k1 k2 k3 k4 k5 l3 C3 l4 C4
            simp only [Int.toNat_natCast] at k0 k1 k2 k3 k4 k5
            have k0 := yd3 hb0 k0
            have k1 := yd3 hb0 k1
            have k2 := yd3 hb0 k2
            have k3 := yd3 hb0 k3
            have k4 := yd3 hb0 k4
            have k5 := yd3 hb0 k5
            have hdk : d = kids[j] := by rw [hd]; simp [rdNd, hlt]
            clear hd
            subst eA
            obtain ⟨i, hi⟩ : ∃ i, i = j + 1 := ⟨_, rfl⟩
            have f1 : (j : Int) + 1 = (i : Int) := by omega
            have f2 : IntKind.i64.wrap (i : Int) = (i : Int) := IntWalk.i64_in _ (by omega)
            have e1 : kids.take i = kids.take j ++ [d] := by rw [hi, List.take_add_one, List.getElem?_eq_getElem hlt, hdk]; rfl
            have hst : nodesO (kids.take i) space.data.toList = nodesO (kids.take j) space.data.toList ++ nodeO d space.data.toList := by rw [e1, yk7]
            have hsum : wts (kids.take j) + wt d ≤ wts kids := by
              have h1 := yp4 kids i
              rw [e1, yp5] at h1
              exact h1
            have hnl := yi3 (kids.take j) space.data.toList (by omega)
            have hokd : okN d := by rw [hdk]; exact yp9 kids j hlt HOKK.out
            have hA1 : Below wr.heap.size wr (wr.alloc (.cells #[.int .i64 d.f0, .string d.f1.f0, .string d.f1.f1, .slice B3 d.f2.length d3, .slice B4 d.f3.length d4, .string d.f4] 54)) := (Below.refl _ _).alloc (Nat.le_refl _) _
            have hih := HIH.out d (by rw [HW.out]; omega) hokd space (bs2 ++ [62] ++ nodesO (kids.take j) space.data.toList) _ B3 B4 d3 d4 (hp.below hA1) (hb0.alloc hb0.size _) (by simp only [List.length_append, List.length_cons, List.length_nil]; omega) C3 l3 C4 l4 (by omega)
            have HIH2 := Aside0.mk hih
            have HST := Aside0.mk hst
            have HA1 := Aside0.mk hA1
            have HI' := Aside0.mk hi
            clear hih hst hA1 hi e1 hdk C3 C4 hp hb0 hfr hokd
            go_wp2_with fail
            refine HIH2.out.mono ?_
            rintro e wc ⟨rfl, hpc, hbc, hfc⟩
            have HPC := Aside0.mk hpc
            have HBC := Aside0.mk hbc
            have HFC := Aside0.mk hfc
            clear hpc hbc hfc k0 k1 k2 k3 k4 k5
            go_wp2_with fail
            go_roundg (kids.length - i)
            · refine ⟨i, rfl, by have := HI'.out; omega, ⟨rfl⟩, ⟨?_, HBC.out, (HJ.out.2.2.alloc _).trans HFC.out⟩⟩
              rw [HST.out, ← List.append_assoc]
              exact HPC.out
            · have := HI'.out; have := HM.out; omega
          · have q1 := eq_false (show ¬ (j : Int) < (kids.length : Int) by omega)
            obtain rfl : j = kids.length := by omega
            have hJ := HJ.out
            rw [List.take_length] at hJ
            have HJ := Aside0.mk hJ
            have hnl := yi3 kids space.data.toList (by omega)
            have hT8 : (bs2 ++ [62] ++ nodesO kids space.data.toList).length + (cat [⟨#[60, 47]⟩, nm.f1, ⟨#[62]⟩]).length ≤ 2000000000 := by
              have h1 := HTS.out
              have h2 := Lib.size_eq nm.f1
              simp only [cat, List.flatMap_cons, List.flatMap_nil, List.length_append, List.length_cons, List.length_nil]
              omega
            clear hJ
            go_wp2_with fail
            (with_reducible refine (yi8 w0.heap.size b [⟨#[60, 47]⟩, nm.f1, ⟨#[62]⟩] (bs2 ++ [62] ++ nodesO kids space.data.toList) _ 3 wr.heap.size #[.string ⟨#[60, 47]⟩, .string nm.f1, .string ⟨#[62]⟩] HJ.out.1 rfl rfl rfl (by simp) hT8).mono ?_)
            rintro e wz ⟨rfl, hpz, hbz, hfz⟩
            have HPZ := Aside0.mk hpz
            have HBZ := Aside0.mk hbz
            have HFZ := Aside0.mk hfz
            clear hpz hbz hfz
            go_wp2_with fail
            go_end0
            refine ⟨rfl, ?_, HJ.out.2.1.trans HBZ.out, HJ.out.2.2.trans HFZ.out⟩
            have e := HPZ.out
            rw [HB2.out, HB1.out] at e
            rw [HFIN.out]
            cases kids with
            | nil => exact absurd rfl HKZ.out
            | cons dd rr => simpa [cat, bodyO, HTL.out] using e
    · have b2 := neS hN
      rw [if_neg hX, if_pos ⟨hX, hN⟩, if_pos ⟨hX, hN⟩] at hfin
      have HFIN := Aside0.mk hfin
      have HTL : Aside0 (nm.f1.data.toList = nm.f1.data.toList) := ⟨rfl⟩
      have HTS : Aside0 (nm.f1.size ≤ 4 + nm.f1.size) := ⟨by omega⟩
      clear hfin hX hN
      go_enter Tryd.func32, Tryd.ntmps32
      go_wp2_with fail
      have hT9 : bs.length + (cat [⟨#[60]⟩, nm.f1]).length ≤ 2000000000 := by
        have h2 := Lib.size_eq nm.f1
        simp only [cat, List.flatMap_cons, List.flatMap_nil, List.length_append, List.length_cons, List.length_nil]
        omega
      (with_reducible refine (yi8 w0.heap.size b [⟨#[60]⟩, nm.f1] bs _ 2 (w.heap.size + 1) #[.string ⟨#[60]⟩, .string nm.f1] (HP.out.below (HBX.out _)) (by simp) rfl rfl (by simp) hT9).mono ?_)
      rintro e w1 ⟨rfl, hp1, hb1, hf1⟩
      have hk1 := hf1.cells (k := w.heap.size) (T := 54) (by omega) (by decide) (heap_alloc_last w _)
      have g1 : w1.cell? ⟨w.heap.size, 1, none⟩ = some (.string nm.f0) := by rw [Lib.cell_of_heap hk1]; rfl
      have g3 : w1.cell? ⟨w.heap.size, 3, none⟩ = some (.slice A3 at'.length c3) := by rw [Lib.cell_of_heap hk1]; rfl
      have H01 := Aside0.mk ((H0.out.alloc H0.out.size _).trans hb1)
      have HP1 := Aside0.mk hp1
      have HF1 := Aside0.mk ((Bld.Fr.below (b := b) (HBX.out _)).trans hf1)
      have HK1 := Aside0.mk hk1
      clear hp1 hb1 hf1 hk1
      go_wp2_with fail
      have hT7 : (bs ++ cat [⟨#[60]⟩, nm.f1]).length ≤ 1800000000 := by
        have h2 := Lib.size_eq nm.f1
        simp only [cat, List.flatMap_cons, List.flatMap_nil, List.length_append, List.length_cons, List.length_nil]
        omega
      have hbw1 := HP1.out.lt
      have hB1 := H01.out.size
      refine (yp1 w0.heap.size b _ nm.f0 (bs ++ cat [⟨#[60]⟩, nm.f1]) w1 HP1.out hbw1 hB1 (Refs.yf2 HT.out H01.out) (by omega) (by decide) hT7).mono ?_
      rintro e w2 ⟨rfl, hp2, hb2, hf2⟩
      have hk2 := hf2.cells (k := w.heap.size) (T := 54) (by omega) (by decide) HK1.out
      have g3' : w2.cell? ⟨w.heap.size, 3, none⟩ = some (.slice A3 at'.length c3) := by rw [Lib.cell_of_heap hk2]; rfl
      have H02 := Aside0.mk (H01.out.trans hb2)
      have HP2 := Aside0.mk hp2
      have HF2 := Aside0.mk (HF1.out.trans hf2)
      have HK2 := Aside0.mk hk2
      clear hp2 hb2 hf2 hk2 g1 g3
      go_wp2_with fail
      obtain ⟨bs1, hbs1⟩ : ∃ bs1, bs1 = bs ++ cat [⟨#[60]⟩, nm.f1] ++ attrO sXmlns nm.f0.data.toList := ⟨_, rfl⟩
      have hbl : bs1.length ≤ bs.length + (5 + nm.f1.size + 9 + 6 * nm.f0.size) := by
        have h1 := HTS.out
        have h2 := Lib.size_eq nm.f1
        rw [hbs1]
        simp only [cat, List.flatMap_cons, List.flatMap_nil, List.length_append, List.length_cons, List.length_nil]
        omega
      have HPB : Aside0 (PD w0.heap.size b bs1 w2) := ⟨by rw [hbs1]; exact HP2.out⟩
      have hfinal : nodeO ⟨k, nm, at', kids, x⟩ space.data.toList = nodeO ⟨k, nm, at', kids, x⟩ space.data.toList := rfl
      have HB1 := Aside0.mk hbs1
      clear hbs1 hfinal
      refine (yj9 hS b A3 c3 at' bs1 w0 w2 HPB.out H02.out HT.out H3.out hc3 HAP.out (by omega) (by omega) (by omega)).mono ?_
      rintro e wa ⟨rfl, hpa, hba, hfa⟩
      have hka := hfa.cells (k := w.heap.size) (T := 54) (by omega) (by decide) HK2.out
      have g4 : wa.cell? ⟨w.heap.size, 4, none⟩ = some (.slice A4 kids.length c4) := by rw [Lib.cell_of_heap hka]; rfl
      obtain ⟨bs2, hbs2⟩ : ∃ bs2, bs2 = bs1 ++ attrsO (srt at') := ⟨_, rfl⟩
      have hbl2 : bs2.length ≤ bs.length + (14 + nm.f1.size + 6 * nm.f0.size) + 80 * wAs at' := by rw [hbs2, List.length_append]; omega
      have HPA : Aside0 (PD w0.heap.size b bs2 wa) := ⟨by rw [hbs2]; exact hpa⟩
      have HB2 := Aside0.mk hbs2
      have HBA := Aside0.mk hba
      have HFA := Aside0.mk (HF2.out.trans hfa)
      have HKA := Aside0.mk hka
      clear hpa hba hfa hka hbs2 g3'
      by_cases hkz : kids = []
      · subst hkz
        go_wp2_with fail
        (with_reducible refine (yi8 w0.heap.size b [⟨#[47, 62]⟩] bs2 _ 1 wa.heap.size #[.string ⟨#[47, 62]⟩] HPA.out rfl rfl rfl (by simp) (by simp [cat]; omega)).mono ?_)
        rintro e wz ⟨rfl, hpz, hbz, hfz⟩
        have HPZ := Aside0.mk hpz
        have HBZ := Aside0.mk hbz
        have HFZ := Aside0.mk hfz
        clear hpz hbz hfz
        go_wp2_with fail
        refine bodyPost_ret (v := .tuple #[]) (by simp [results, Tryd.results32, go_sem]) rfl ⟨rfl, ?_, HBA.out.trans HBZ.out, HFA.out.trans HFZ.out⟩
        have e := HPZ.out
        rw [HB2.out, HB1.out] at e
        rw [HFIN.out]
        simpa [cat, bodyO, HTL.out] using e
      · have z1 : ((kids.length : Int) == 0) = false := by
          have := List.length_pos_iff.2 hkz
          simp
          exact hkz
        have z2 : (kids.length == 0) = false := by simpa using hkz
        have HKZ := Aside0.mk hkz
        clear hkz
        go_wp2_with fail
        (with_reducible refine (yi8 w0.heap.size b [⟨#[62]⟩] bs2 _ 1 wa.heap.size #[.string ⟨#[62]⟩] HPA.out rfl rfl rfl (by simp) (by simp [cat]; omega)).mono ?_)
        rintro e wb ⟨rfl, hpb, hbb, hfb⟩
        have hkb := hfb.cells (k := w.heap.size) (T := 54) (by omega) (by decide) HKA.out
        have g4' : wb.cell? ⟨w.heap.size, 4, none⟩ = some (.slice A4 kids.length c4) := by rw [Lib.cell_of_heap hkb]; rfl
        have HPB2 : Aside0 (PD w0.heap.size b (bs2 ++ [62]) wb) := ⟨by simpa [cat] using hpb⟩
        have HBB := Aside0.mk (HBA.out.trans hbb)
        have HFB := Aside0.mk (HFA.out.trans hfb)
        clear hpb hbb hfb hkb g4
        go_wp2_with fail
        go_loopg [65] kids.length (fun m v65 wr => ∃ j : Nat, v65 = .int .i64 (j : Int) ∧ j ≤ kids.length ∧ Aside0 (m = kids.length - j) ∧ Aside0 (PD w0.heap.size b (bs2 ++ [62] ++ nodesO (kids.take j) nm.f0.data.toList) wr ∧ Below w0.heap.size w0 wr ∧ Bld.Fr b w wr))
        case atStart => exact ⟨0, rfl, Nat.zero_le _, ⟨rfl⟩, ⟨by simpa [nodesO] using HPB2.out, HBB.out, HFB.out⟩⟩
        case round =>
          obtain ⟨j, rfl, hj, HM, HJ⟩ := hrel
          by_cases hlt : j < kids.length
          · obtain ⟨hp, hb0, hfr⟩ := HJ.out
            obtain ⟨ad, B3, d3, B4, d4, eA, k0, k1, k2, k3, k4, k5, l3, C3, l4, C4⟩ := atNd H4.out (j : Int) (by omega) (by omega)
            have q1 := eq_true (show (j : Int) < (kids.length : Int) by omega)
            have q2 := eq_true (show (0 : Int) ≤ (j : Int) by omega)
            obtain ⟨d, hd⟩ : ∃ d, d = rdNd kids (j : Int) := ⟨_, rfl⟩
            rw [← hd] at k0 k1 k2 k3 k4 k5 l3 C3 l4 C4
            simp only [Int.toNat_natCast] at k0 k1 k2 k3 k4 k5
            have k0 := yd3 hb0 k0
            have k1 := yd3 hb0 k1
            have k2 := yd3 hb0 k2
            have k3 := yd3 hb0 k3
            have k4 := yd3 hb0 k4
            have k5 := yd3 hb0 k5
            have hdk : d = kids[j] := by rw [hd]; simp [rdNd, hlt]
            clear hd
            subst eA
            obtain ⟨i, hi⟩ : ∃ i, i = j + 1 := ⟨_, rfl⟩
            have f1 : (j : Int) + 1 = (i : Int) := by omega
            have f2 : IntKind.i64.wrap (i : Int) = (i : Int) := IntWalk.i64_in _ (by omega)
            have e1 : kids.take i = kids.take j ++ [d] := by rw [hi, List.take_add_one, List.getElem?_eq_getElem hlt, hdk]; rfl
            have hst : nodesO (kids.take i) nm.f0.data.toList = nodesO (kids.take j) nm.f0.data.toList ++ nodeO d nm.f0.data.toList := by rw [e1, yk7]
            have hsum : wts (kids.take j) + wt d ≤ wts kids := by
              have h1 := yp4 kids i
              rw [e1, yp5] at h1
              exact h1
            have hnl := yi3 (kids.take j) nm.f0.data.toList (by omega)
            have hokd : okN d := by rw [hdk]; exact yp9 kids j hlt HOKK.out
            have hA1 : Below wr.heap.size wr (wr.alloc (.cells #[.int .i64 d.f0, .string d.f1.f0, .string d.f1.f1, .slice B3 d.f2.length d3, .slice B4 d.f3.length d4, .string d.f4] 54)) := (Below.refl _ _).alloc (Nat.le_refl _) _
            have hih := HIH.out d (by rw [HW.out]; omega) hokd nm.f0 (bs2 ++ [62] ++ nodesO (kids.take j) nm.f0.data.toList) _ B3 B4 d3 d4 (hp.below hA1) (hb0.alloc hb0.size _) (by simp only [List.length_append, List.length_cons, List.length_nil]; omega) C3 l3 C4 l4 (by omega)
            have HIH2 := Aside0.mk hih
            have HST := Aside0.mk hst
            have HA1 := Aside0.mk hA1
            have HI' := Aside0.mk hi
            clear hih hst hA1 hi e1 hdk C3 C4 hp hb0 hfr hokd
            go_wp2_with fail
            refine HIH2.out.mono ?_
            rintro e wc ⟨rfl, hpc, hbc, hfc⟩
            have HPC := Aside0.mk hpc
            have HBC := Aside0.mk hbc
            have HFC := Aside0.mk hfc
            clear hpc hbc hfc k0 k1 k2 k3 k4 k5
            go_wp2_with fail
            go_roundg (kids.length - i)
            · refine ⟨i, rfl, by have := HI'.out; omega, ⟨rfl⟩, ⟨?_, HBC.out, (HJ.out.2.2.alloc _).trans HFC.out⟩⟩
              rw [HST.out, ← List.append_assoc]
              exact HPC.out
            · have := HI'.out; have := HM.out; omega
          · have q1 := eq_false (show ¬ (j : Int) < (kids.length : Int) by omega)
            obtain rfl : j = kids.length := by omega
            have hJ := HJ.out
            rw [List.take_length] at hJ
            have HJ := Aside0.mk hJ
            have hnl := yi3 kids nm.f0.data.toList (by omega)
            have hT8 : (bs2 ++ [62] ++ nodesO kids nm.f0.data.toList).length + (cat [⟨#[60, 47]⟩, nm.f1, ⟨#[62]⟩]).length ≤ 2000000000 := by
              have h1 := HTS.out
              have h2 := Lib.size_eq nm.f1
              simp only [cat, List.flatMap_cons, List.flatMap_nil, List.length_append, List.length_cons, List.length_nil]
              omega
            clear hJ
            go_wp2_with fail
            (with_reducible refine (yi8 w0.heap.size b [⟨#[60, 47]⟩, nm.f1, ⟨#[62]⟩] (bs2 ++ [62] ++ nodesO kids nm.f0.data.toList) _ 3 wr.heap.size #[.string ⟨#[60, 47]⟩, .string nm.f1, .string ⟨#[62]⟩] HJ.out.1 rfl rfl rfl (by simp) hT8).mono ?_)
            rintro e wz ⟨rfl, hpz, hbz, hfz⟩
            have HPZ := Aside0.mk hpz
            have HBZ := Aside0.mk hbz
            have HFZ := Aside0.mk hfz
            clear hpz hbz hfz
            go_wp2_with fail
            go_end0
            refine ⟨rfl, ?_, HJ.out.2.1.trans HBZ.out, HJ.out.2.2.trans HFZ.out⟩
            have e := HPZ.out
            rw [HB2.out, HB1.out] at e
            rw [HFIN.out]
            cases kids with
            | nil => exact absurd rfl HKZ.out
            | cons dd rr => simpa [cat, bodyO, HTL.out] using e
set_option maxHeartbeats 1000000 in
theorem node_calls (hS : ym2) (b : Nat) (w0 : World) (ht : Refs.Tens w0) : ∀ (N : Nat) (n : Nd), wt n ≤ N → N ≤ 2000000 → okN n → ∀ (space : ByteArray) (bs : L) (w : World) (A3 A4 : Option Addr) (c3 c4 : Nat), PD w0.heap.size b bs w → Below w0.heap.size w0 w → bs.length + 80 * wt n ≤ 1600000000 →
      kAt.C w0 A3 n.f2.length n.f2 → n.f2.length ≤ c3 → kNd.C w0 A4 n.f3.length n.f3 → n.f3.length ≤ c4 → space.size ≤ 18000000 →
      Calls Tryd.prog 32 #[.pointer (some ⟨b, 0, none⟩), .agg #[.int .i64 n.f0, .string n.f1.f0, .string n.f1.f1, .slice A3 n.f2.length c3, .slice A4 n.f3.length c4, .string n.f4], .string space] w fun e w' => e = .returned (.tuple #[]) ∧ PD w0.heap.size b (bs ++ nodeO n space.data.toList) w' ∧ Below w0.heap.size w0 w' ∧ Bld.Fr b w w' := by
  intro N
  induction N with
  | zero => intro n h; obtain ⟨k, nm, t, c, x⟩ := n; unfold wt at h; omega
  | succ N ih =>
    intro n h hN hok space bs w A3 A4 c3 c4 hp h0 hz h3 l3 h4 l4 hs
    by_cases hk : n.f0 = 2
    · refine node_text n space b bs w0 w A3 A4 c3 c4 hk hp h0 ht hz ?_
      obtain ⟨k, nm, t, c, x⟩ := n
      unfold wt at h
      show x.size ≤ _
      omega
    · exact node_elem hS n space b bs w0 w A3 A4 c3 c4 hk hp h0 ht hz (by omega) hok h3 l3 h4 l4 hs (fun d hd hokd sp bs' w' B3 B4 d3 d4 hp' h0' hz' C3 e3 C4 e4 hs' => ih d (by omega) (by omega) hokd sp bs' w' B3 B4 d3 d4 hp' h0' hz' C3 e3 C4 e4 hs')
end Go.Proofs.YtidkjifilgjgfaaDoor.Prt
