/- The reference's node, of a right tree: what print writes. -/
import Derived.Test.YtffpbhbiamkkpaaDoorRefShape
import Derived.Test.YtffpbhbiamkkpaaDoorRefPre
import Derived.Test.YtffpbhbiamkkpaaDoorPNode
import Derived.Test.YtffpbhbiamkkpaaDoorPPrint
import Derived.Test.YtffpbhbiamkkpaaDoorPRx10
namespace Go.Proofs.YtffpbhbiamkkpaaDoor.PP
open Go Go.RowKit Go.Proofs.YtffpbhbiamkkpaaDoorW.PrintWords Go.Proofs.YtffpbhbiamkkpaaDoor.PR Go.Proofs.YtffpbhbiamkkpaaDoor.ND
open Go.Proofs.YtffpbhbiamkkpaaDoor.Prt (L sXML sXmlC sXmlns spc loc decls yf1 prefOf pos yj3 yk3 attrO attO attsO attrsO nodeO nodesO wt wts wA wAs)
open Go.Proofs.YtffpbhbiamkkpaaDoor.Esc (esc)
set_option linter.unusedVariables false
section
variable (n : Nd) (hw : wt n ≤ 30000) (hA : Apart n.f2) (h32 : n.f2.length ≤ 32)
include hw
theorem n_l3 (sp tag S : L) (ht : tag.length ≤ 40000) (hS : S.length ≤ 20000000) (hne : n.f3 ≠ []) (hP : ∀ d ∈ n.f3, ∃ K, ∀ k, K ≤ k → ya3.f k d.f0 d.f1.f0 d.f1.f1 d.f2 d.f3 d.f4 (mk sp) = some (mk (nodeO d sp))) : ∀ (d i : Nat) (I : L), n.f3.length - i ≤ d → i ≤ n.f3.length → I.length + 80 * wts (n.f3.drop i) ≤ 3000000 →
    ∃ K, ∀ k, K ≤ k → ya3.l3 k (mk sp) (mk tag) (mk S) (mk I) (i : Int) n.f0 n.f1.f0 n.f1.f1 n.f2 n.f3 n.f4 = some (mk (60 :: tag ++ S ++ ([62] ++ (I ++ nodesO (n.f3.drop i) sp) ++ ([60, 47] ++ tag ++ [62])))) := by
  have lf := yl5 n hw
  have stop : ∀ (i : Nat) (I : L), i = n.f3.length → I.length ≤ 3000000 → ∃ K, ∀ k, K ≤ k → ya3.l3 k (mk sp) (mk tag) (mk S) (mk I) (i : Int) n.f0 n.f1.f0 n.f1.f1 n.f2 n.f3 n.f4 = some (mk (60 :: tag ++ S ++ ([62] ++ (I ++ nodesO (n.f3.drop i) sp) ++ ([60, 47] ++ tag ++ [62])))) := by
    rintro i I rfl hI
    refine ⟨1, fun k hk => ?_⟩
    obtain ⟨k, rfl⟩ : ∃ m, k = m + 1 := ⟨k - 1, by omega⟩
    rw [ya3.l3, if_neg (by omega), List.drop_length, nodesO]
    rw [show (⟨#[60]⟩ : ByteArray) = mk [60] from rfl, show (⟨#[62]⟩ : ByteArray) = mk [62] from rfl, show (⟨#[60, 47]⟩ : ByteArray) = mk [60, 47] from rfl]
    simp only [mk_app, size_mk, List.length_append, List.length_cons, List.length_nil]
    rw [if_pos (by omega), if_pos (by omega), if_pos (by omega), if_pos (by omega), if_pos (by omega), if_pos (by omega), if_pos (by omega)]
    simp only [List.append_assoc, List.cons_append, List.nil_append, List.append_nil]
  intro d
  induction d with
  | zero => intro i I hd hi hI; exact stop i I (by omega) (by omega)
  | succ d ih =>
    intro i I hd hi hI
    by_cases hlt : i < n.f3.length
    · obtain ⟨K1, h1⟩ := hP n.f3[i] (List.getElem_mem _)
      have ed : n.f3.drop i = n.f3[i] :: n.f3.drop (i + 1) := List.drop_eq_getElem_cons hlt
      have hwi := wt_mem n.f3 n.f3[i] (List.getElem_mem _)
      have hl := Prt.yq3 n.f3[i] sp (by omega)
      rw [ed, Prt.wts] at hI
      obtain ⟨K2, h2⟩ := ih (i + 1) (I ++ nodeO n.f3[i] sp) (by omega) (by omega) (by rw [List.length_append]; omega)
      refine ⟨K1 + K2 + 1, fun k hk => ?_⟩
      obtain ⟨k, rfl⟩ : ∃ m, k = m + 1 := ⟨k - 1, by omega⟩
      rw [ya3.l3, if_pos (by omega), if_pos (by omega), yq1 n.f3 i hlt, h1 k (by omega), Option.bind_some, size_mk, size_mk, if_pos (by omega), mk_app, w64s ((i : Int) + 1) (by omega) (by omega)]
      rw [ed, nodesO, ← List.append_assoc I]
      exact h2 k (by omega)
    · exact stop i I (by omega) (by omega)
/-- The name of an attribute with its prefix, as far as the prefixes have been gone through. -/
def curA (pl : List L) (s A : L) (j : Nat) : L := match pos pl s with | some q => if q < j then 110 :: Lib.itoa ((q + 1 : Nat) : Int) ++ [58] ++ A else A | none => A
omit hw in
theorem pos_at : ∀ (pl : List L) (s : L) (j : Nat) (hj : j < pl.length), pl.Nodup → (pl[j] = s ↔ pos pl s = some j)
  | [], s, j, hj, _ => by simp at hj
  | a :: pl, s, j, hj, hn => by
    obtain ⟨h1, h2⟩ := List.nodup_cons.1 hn
    unfold pos
    by_cases e : a = s
    · rw [if_pos e]
      cases j with
      | zero => simp [e]
      | succ j =>
        simp only [List.getElem_cons_succ]
        constructor
        · intro h; exact absurd (List.getElem_mem (l := pl) (by simpa using hj)) (by rw [h, ← e]; exact h1)
        · intro h; cases h
    · rw [if_neg e]
      cases j with
      | zero =>
        simp only [List.getElem_cons_zero]
        constructor
        · intro h; exact absurd h e
        · intro h
          obtain ⟨q, _, hq⟩ := Option.map_eq_some_iff.1 h
          omega
      | succ j =>
        simp only [List.getElem_cons_succ]
        rw [pos_at pl s j (by simpa using hj) h2]
        constructor
        · intro h; rw [h]; rfl
        · intro h
          obtain ⟨q, hq, e⟩ := Option.map_eq_some_iff.1 h
          rw [hq]
          congr 1
          omega
omit hw in
theorem curA_len (pl : List L) (s A : L) (j : Nat) (hj : j ≤ 100000) : (curA pl s A j).length ≤ A.length + 30 := by
  unfold curA
  split
  · rename_i q hq
    split
    · have := Prt.yl6 q (by omega)
      simp only [List.length_append, List.length_cons, List.length_nil]
      have e : ((q + 1 : Nat) : Int) = (q : Int) + 1 := by omega
      rw [e]
      omega
    · omega
  · omega
omit hw in
theorem n_l2 (l : List At) (p : List ByteArray) (pl : List L) (hp : p.map (fun x => x.data.toList) = pl) (hpn : pl.Nodup) (hpl : pl.length ≤ 32) (i : Nat) (hi : i < l.length) (hl : l.length ≤ 32) (x1 x5 : ByteArray) (S A : L) (hS : S.length ≤ 20000000) (hAl : A.length ≤ 40000) (hv : l[i].f1.size ≤ 40000) (R : ByteArray)
    (h : ∃ K, ∀ k, K ≤ k → ya3.l1 k x1 x5 (mk (S ++ attrO (curA pl (spc l[i]) A pl.length) l[i].f1.data.toList)) l p ((i + 1 : Nat) : Int) n.f0 n.f1.f0 n.f1.f1 n.f2 n.f3 n.f4 = some R) : ∀ (d j : Nat), pl.length - j ≤ d → j ≤ pl.length →
    ∃ K, ∀ k, K ≤ k → ya3.l2 k x1 x5 (mk S) l p (i : Int) (mk (curA pl (spc l[i]) A j)) (j : Int) n.f0 n.f1.f0 n.f1.f1 n.f2 n.f3 n.f4 = some R := by
  have hlen : p.length = pl.length := by rw [← hp, List.length_map]
  have stop : ∀ j, j = pl.length → ∃ K, ∀ k, K ≤ k → ya3.l2 k x1 x5 (mk S) l p (i : Int) (mk (curA pl (spc l[i]) A j)) (j : Int) n.f0 n.f1.f0 n.f1.f1 n.f2 n.f3 n.f4 = some R := by
    rintro j rfl
    obtain ⟨K1, h1⟩ := h
    obtain ⟨K2, h2⟩ := yq0 l[i].f1 true (by omega)
    have hc := curA_len pl (spc l[i]) A pl.length (by omega)
    have hel := Esc.yj8 true l[i].f1.data.toList
    rw [← Lib.size_eq] at hel
    refine ⟨K1 + K2 + 1, fun k hk => ?_⟩
    obtain ⟨k, rfl⟩ : ∃ m, k = m + 1 := ⟨k - 1, by omega⟩
    rw [ya3.l2, if_neg (by omega)]
    rw [show (⟨#[32]⟩ : ByteArray) = mk [32] from rfl, show (⟨#[61, 34]⟩ : ByteArray) = mk [61, 34] from rfl, show (⟨#[34]⟩ : ByteArray) = mk [34] from rfl]
    simp only [mk_app, size_mk, List.length_append, List.length_cons, List.length_nil]
    rw [if_pos (by omega), if_pos (by omega), if_pos (by omega), if_pos (by omega), if_pos (by omega), yl3 l i hi, h2 k (by omega), Option.bind_some, show (⟨(esc true l[i].f1.data.toList).toArray⟩ : ByteArray) = mk (esc true l[i].f1.data.toList) from rfl]
    simp only [mk_app, size_mk, List.length_append, List.length_cons, List.length_nil]
    rw [if_pos (by omega), if_pos (by omega), w64s ((i : Int) + 1) (by omega) (by omega)]
    have := h1 k (by omega)
    unfold attrO at this
    simp only [List.append_assoc, List.cons_append, List.nil_append] at this ⊢
    exact this
  intro d
  induction d with
  | zero => intro j hd hj; exact stop j (by omega)
  | succ d ih =>
    intro j hd hj
    by_cases hlt : j < pl.length
    · obtain ⟨K, hK⟩ := ih (j + 1) (by omega) (by omega)
      have hpj : (rdOf ByteArray.empty p (j : Int)).toList = pl[j] := by
        unfold rdOf
        rw [Int.toNat_natCast, List.getD_eq_getElem?_getD, List.getElem?_eq_getElem (by omega), Option.getD_some, Lib.toList_data]
        have : (p.map (fun x => x.data.toList))[j]? = some (p[j]'(by omega)).data.toList := by rw [List.getElem?_map, List.getElem?_eq_getElem (by omega)]; rfl
        rw [hp, List.getElem?_eq_getElem hlt] at this
        exact (Option.some.inj this).symm
      have hs : (rdAt l (i : Int)).f0.f0.toList = spc l[i] := by rw [yl3 l i hi, Lib.toList_data]; rfl
      have pa := pos_at pl (spc l[i]) j hlt hpn
      refine ⟨K + 1, fun k hk => ?_⟩
      obtain ⟨k, rfl⟩ : ∃ m, k = m + 1 := ⟨k - 1, by omega⟩
      rw [ya3.l2, if_pos (by omega), if_pos (by omega), if_pos (by omega), if_pos (by omega), hpj, hs, w64s ((j : Int) + 1) (by omega) (by omega)]
      by_cases c : pl[j] = spc l[i]
      · have e0 : curA pl (spc l[i]) A j = A := by unfold curA; rw [pa.1 c]; exact if_neg (Nat.lt_irrefl _)
        have e1 : curA pl (spc l[i]) A (j + 1) = 110 :: Lib.itoa ((j + 1 : Nat) : Int) ++ [58] ++ A := by unfold curA; rw [pa.1 c]; exact if_pos (Nat.lt_succ_self _)
        have il := Prt.yl6 j (by omega)
        have ej : ((j : Nat) : Int) + 1 = ((j + 1 : Nat) : Int) := by omega
        rw [ej] at il ⊢
        rw [if_pos c, number_f j (by omega), Option.bind_some, e0]
        rw [show (⟨#[110]⟩ : ByteArray) = mk [110] from rfl, show (⟨#[58]⟩ : ByteArray) = mk [58] from rfl]
        simp only [mk_app, size_mk, List.length_append, List.length_cons, List.length_nil]
        rw [if_pos (by omega), if_pos (by omega), if_pos (by omega)]
        have := hK k (by omega)
        rw [e1] at this
        simp only [List.append_assoc, List.cons_append, List.nil_append] at this ⊢
        exact this
      · have e1 : curA pl (spc l[i]) A (j + 1) = curA pl (spc l[i]) A j := by
          unfold curA
          cases hq : pos pl (spc l[i]) with
          | none => rfl
          | some q =>
            have : q ≠ j := fun e => c (pa.2 (by rw [hq, e]))
            by_cases h2 : q < j
            · exact (if_pos (show q < j + 1 by omega)).trans (if_pos h2).symm
            · exact (if_neg (show ¬ q < j + 1 by omega)).trans (if_neg h2).symm
        rw [if_neg c]
        have := hK k (by omega)
        rw [e1] at this
        exact this
    · exact stop j (by omega)
omit hw in
theorem pre_cur (pl : List L) (a : At) (h0 : [] ∉ pl) (h1 : sXML ∉ pl) : curA pl (spc a) (if spc a = sXML then sXmlC ++ loc a else loc a) pl.length = (prefOf pl (spc a)).getD [] ++ loc a := by
  unfold curA prefOf
  by_cases c0 : spc a = []
  · have cx : ¬ ([] : L) = sXML := by simp [Prt.sXML]
    rw [if_pos c0, c0, yj3 pl [] h0, if_neg cx]
    rfl
  rw [if_neg c0]
  by_cases c1 : spc a = sXML
  · rw [if_pos c1, c1, yj3 pl sXML h1, if_pos rfl]
    rfl
  rw [if_neg c1, if_neg c1]
  by_cases c2 : spc a ∈ pl
  · obtain ⟨q, hq, hl⟩ := yk3 pl (spc a) c2
    rw [hq]
    exact (if_pos hl).trans (by simp)
  · rw [yj3 pl (spc a) c2]
    rfl
theorem n_l1 (l : List At) (p : List ByteArray) (pl : List L) (hp : p.map (fun x => x.data.toList) = pl) (hpn : pl.Nodup) (h0 : [] ∉ pl) (h1 : sXML ∉ pl) (hpl : pl.length ≤ 32) (hl : l.length ≤ 32) (hsz : ∀ a ∈ l, a.f0.f0.size ≤ 30000 ∧ a.f0.f1.size ≤ 30000 ∧ a.f1.size ≤ 30000) (sp tag : L) (ht : tag.length ≤ 40000)
    (hP : ∀ d ∈ n.f3, ∃ K, ∀ k, K ≤ k → ya3.f k d.f0 d.f1.f0 d.f1.f1 d.f2 d.f3 d.f4 (mk sp) = some (mk (nodeO d sp))) : ∀ (d i : Nat) (S : L), l.length - i ≤ d → i ≤ l.length → S.length ≤ 250000 * i + 8280000 →
    ∃ K, ∀ k, K ≤ k → ya3.l1 k (mk sp) (mk tag) (mk S) l p (i : Int) n.f0 n.f1.f0 n.f1.f1 n.f2 n.f3 n.f4 = some (mk (60 :: tag ++ (S ++ attsO pl (l.drop i)) ++ Prt.bodyO n.f3 sp tag)) := by
  have lf := yl5 n hw
  have stop : ∀ (i : Nat) (S : L), i = l.length → S.length ≤ 250000 * i + 8280000 → ∃ K, ∀ k, K ≤ k → ya3.l1 k (mk sp) (mk tag) (mk S) l p (i : Int) n.f0 n.f1.f0 n.f1.f1 n.f2 n.f3 n.f4 = some (mk (60 :: tag ++ (S ++ attsO pl (l.drop i)) ++ Prt.bodyO n.f3 sp tag)) := by
    rintro i S rfl hS
    have ea : attsO pl (l.drop l.length) = [] := by rw [List.drop_length]; rfl
    rw [ea, List.append_nil]
    by_cases hk : n.f3.length = 0
    · refine ⟨1, fun k hk2 => ?_⟩
      obtain ⟨k, rfl⟩ : ∃ m, k = m + 1 := ⟨k - 1, by omega⟩
      rw [ya3.l1, if_neg (by omega), if_pos (by omega)]
      rw [show (⟨#[60]⟩ : ByteArray) = mk [60] from rfl, show (⟨#[47, 62]⟩ : ByteArray) = mk [47, 62] from rfl]
      simp only [mk_app, size_mk, List.length_append, List.length_cons, List.length_nil]
      rw [if_pos (by omega), if_pos (by omega), if_pos (by omega), List.length_eq_zero_iff.1 hk]
      simp only [Prt.bodyO, List.append_assoc, List.cons_append, List.nil_append]
    · have hne : n.f3 ≠ [] := fun e => hk (by rw [e]; rfl)
      obtain ⟨K, hK⟩ := n_l3 n hw sp tag S ht (by omega) hne hP n.f3.length 0 [] (by omega) (by omega) (by rw [List.drop_zero]; simp only [List.length_nil]; omega)
      refine ⟨K + 1, fun k hk2 => ?_⟩
      obtain ⟨k, rfl⟩ : ∃ m, k = m + 1 := ⟨k - 1, by omega⟩
      rw [ya3.l1, if_neg (by omega), if_neg (by omega)]
      have := hK k (by omega)
      rw [List.drop_zero, List.nil_append] at this
      have eb : Prt.bodyO n.f3 sp tag = [62] ++ nodesO n.f3 sp ++ ([60, 47] ++ tag ++ [62]) := by
        cases hc : n.f3 with
        | nil => exact absurd hc hne
        | cons d r => rfl
      rw [eb]
      exact this
  intro d
  induction d with
  | zero => intro i S hd hi hS; exact stop i S (by omega) hS
  | succ d ih =>
    intro i S hd hi hS
    by_cases hlt : i < l.length
    · have sz := hsz l[i] (List.getElem_mem _)
      obtain ⟨A0, hA0⟩ : ∃ A0 : L, A0 = if spc l[i] = sXML then sXmlC ++ loc l[i] else loc l[i] := ⟨_, rfl⟩
      have hlo : (loc l[i]).length = l[i].f0.f1.size := Prt.loc_len _
      have hAl : A0.length ≤ 30004 := by
        rw [hA0]
        split
        · rw [List.length_append, hlo]
          have : sXmlC.length = 4 := rfl
          omega
        · omega
      have hpc := pre_cur pl l[i] h0 h1
      rw [← hA0] at hpc
      have hatt : attO pl l[i] = attrO (curA pl (spc l[i]) A0 pl.length) l[i].f1.data.toList := by rw [hpc]; rfl
      have hal := Prt.yk2 (curA pl (spc l[i]) A0 pl.length) l[i].f1.data.toList
      have hcl := curA_len pl (spc l[i]) A0 pl.length (by omega)
      rw [← Lib.size_eq] at hal
      have st := ih (i + 1) (S ++ attrO (curA pl (spc l[i]) A0 pl.length) l[i].f1.data.toList) (by omega) (by omega) (by rw [List.length_append]; omega)
      obtain ⟨K, hK⟩ := n_l2 n l p pl hp hpn hpl i hlt hl (mk sp) (mk tag) S A0 (by omega) (by omega) (by omega) _ st pl.length 0 (by omega) (by omega)
      have e0 : curA pl (spc l[i]) A0 0 = A0 := by
        unfold curA
        cases pos pl (spc l[i]) with
        | none => rfl
        | some q => exact if_neg (Nat.not_lt_zero _)
      rw [e0] at hK
      have ed : attsO pl (l.drop i) = attO pl l[i] ++ attsO pl (l.drop (i + 1)) := by rw [List.drop_eq_getElem_cons hlt]; rfl
      refine ⟨K + 2, fun k hk => ?_⟩
      obtain ⟨k, rfl⟩ : ∃ m, k = m + 2 := ⟨k - 2, by omega⟩
      have fin := hK k (by omega)
      rw [List.append_assoc S, ← hatt, ← ed] at fin
      have hs : (rdAt l (i : Int)).f0.f0.toList = spc l[i] := by rw [yl3 l i hlt, Lib.toList_data]; rfl
      rw [ya3.l1, if_pos (by omega), if_pos (by omega), hs]
      by_cases c : spc l[i] = sXML
      · rw [if_pos c] at hA0
        refine (if_pos c).trans ?_
        rw [yl3 l i hlt, if_pos (by omega), ya3.j3]
        rw [hA0] at fin
        have : (⟨#[120, 109, 108, 58]⟩ : ByteArray) ++ l[i].f0.f1 = mk (sXmlC ++ loc l[i]) := by
          rw [← mk_app, show loc l[i] = l[i].f0.f1.data.toList from rfl, mk_data]
          rfl
        rw [this]
        exact fin
      · rw [if_neg c] at hA0
        refine (if_neg c).trans ?_
        rw [yl3 l i hlt, ya3.j3]
        rw [hA0] at fin
        have : l[i].f0.f1 = mk (loc l[i]) := (mk_data _).symm
        rw [this]
        exact fin
    · exact stop i S (by omega) hS
omit hw in
theorem n_l0 (l : List At) (p : List ByteArray) (pl : List L) (hp : p.map (fun x => x.data.toList) = pl) (hpl : pl.length ≤ 32) (hsz : ∀ x ∈ pl, x.length ≤ 30000) (x1 x5 : ByteArray) (R : L → ByteArray)
    (h : ∀ S : L, S.length ≤ 8280000 → ∃ K, ∀ k, K ≤ k → ya3.l1 k x1 x5 (mk S) l p 0 n.f0 n.f1.f0 n.f1.f1 n.f2 n.f3 n.f4 = some (R S)) : ∀ (d i : Nat) (S : L), pl.length - i ≤ d → i ≤ pl.length → S.length ≤ 250000 * i + 280000 →
    ∃ K, ∀ k, K ≤ k → ya3.l0 k x1 x5 (mk S) l p (i : Int) n.f0 n.f1.f0 n.f1.f1 n.f2 n.f3 n.f4 = some (R (S ++ dstr i (pl.drop i))) := by
  have hlen : p.length = pl.length := by rw [← hp, List.length_map]
  have stop : ∀ (i : Nat) (S : L), i = pl.length → S.length ≤ 250000 * i + 280000 → ∃ K, ∀ k, K ≤ k → ya3.l0 k x1 x5 (mk S) l p (i : Int) n.f0 n.f1.f0 n.f1.f1 n.f2 n.f3 n.f4 = some (R (S ++ dstr i (pl.drop i))) := by
    rintro i S rfl hS
    obtain ⟨K, hK⟩ := h S (by omega)
    refine ⟨K + 1, fun k hk => ?_⟩
    obtain ⟨k, rfl⟩ : ∃ m, k = m + 1 := ⟨k - 1, by omega⟩
    rw [ya3.l0, if_neg (by omega), List.drop_length, dstr, List.append_nil]
    exact hK k (by omega)
  intro d
  induction d with
  | zero => intro i S hd hi hS; exact stop i S (by omega) hS
  | succ d ih =>
    intro i S hd hi hS
    by_cases hlt : i < pl.length
    · have hsl := hsz pl[i] (List.getElem_mem _)
      have hpi : rdOf ByteArray.empty p (i : Int) = mk pl[i] := by
        have h2 : (p.map (fun x => x.data.toList))[i]? = some (p[i]'(by omega)).data.toList := by rw [List.getElem?_map, List.getElem?_eq_getElem (by omega)]; rfl
        rw [hp, List.getElem?_eq_getElem hlt] at h2
        unfold rdOf
        rw [Int.toNat_natCast, List.getD_eq_getElem?_getD, List.getElem?_eq_getElem (by omega), Option.getD_some, Option.some.inj h2, mk_data]
      obtain ⟨K2, h2⟩ := yq0 (mk pl[i]) true (by rw [size_mk]; omega)
      rw [ys4] at h2
      have hel := Esc.yj8 true pl[i]
      have il := Prt.yl6 i (by omega)
      have ej : ((i : Nat) : Int) + 1 = ((i + 1 : Nat) : Int) := by omega
      rw [ej] at il
      have hal := Prt.yk2 ([120, 109, 108, 110, 115, 58] ++ (110 :: Lib.itoa ((i + 1 : Nat) : Int))) pl[i]
      simp only [List.length_append, List.length_cons, List.length_nil] at hal
      obtain ⟨K1, h1⟩ := ih (i + 1) (S ++ attrO ([120, 109, 108, 110, 115, 58] ++ (110 :: Lib.itoa ((i + 1 : Nat) : Int))) pl[i]) (by omega) (by omega) (by rw [List.length_append]; omega)
      refine ⟨K1 + K2 + 1, fun k hk => ?_⟩
      obtain ⟨k, rfl⟩ : ∃ m, k = m + 1 := ⟨k - 1, by omega⟩
      have fin := h1 k (by omega)
      have ed : dstr i (pl.drop i) = attrO ([120, 109, 108, 110, 115, 58] ++ (110 :: Lib.itoa ((i + 1 : Nat) : Int))) pl[i] ++ dstr (i + 1) (pl.drop (i + 1)) := by rw [List.drop_eq_getElem_cons hlt, dstr]
      rw [List.append_assoc, ← ed] at fin
      rw [ya3.l0, if_pos (by omega), size_mk, if_pos (by omega), w64s ((i : Int) + 1) (by omega) (by omega), ej, number_f i (by omega), Option.bind_some]
      rw [show (⟨#[32, 120, 109, 108, 110, 115, 58, 110]⟩ : ByteArray) = mk [32, 120, 109, 108, 110, 115, 58, 110] from rfl, show (⟨#[61, 34]⟩ : ByteArray) = mk [61, 34] from rfl, show (⟨#[34]⟩ : ByteArray) = mk [34] from rfl]
      simp only [mk_app, size_mk, List.length_append, List.length_cons, List.length_nil]
      rw [if_pos (by omega), if_pos (by omega), if_pos (by omega), hpi, h2 k (by omega), Option.bind_some, show (⟨(esc true pl[i]).toArray⟩ : ByteArray) = mk (esc true pl[i]) from rfl]
      simp only [mk_app, size_mk, List.length_append, List.length_cons, List.length_nil]
      rw [if_pos (by omega), if_pos (by omega)]
      unfold attrO at fin
      simp only [List.append_assoc, List.cons_append, List.nil_append] at fin ⊢
      exact fin
    · exact stop i S (by omega) hS
end
theorem shNs_mem : ∀ (l : List Nd) (b : Bool) (d : Nd), d ∈ l → shNs l b = true → shN d = true
  | [], b, d, h, _ => by cases h
  | e :: r, b, d, h, hs => by
    rw [shNs] at hs
    simp only [Bool.and_eq_true] at hs
    rcases List.mem_cons.1 h with rfl | h
    · exact hs.1
    · exact shNs_mem r _ d h hs.2.2
theorem decls_mem (l : List At) : ∀ x ∈ (decls l).1, ∃ a ∈ l, spc a = x := by
  have go : ∀ (l : List At) (st : List L × L) (x : L), x ∈ (l.foldl yf1 st).1 → x ∈ st.1 ∨ ∃ a ∈ l, spc a = x := by
    intro l
    induction l with
    | nil => intro st x h; exact Or.inl h
    | cons a l ih =>
      intro st x h
      rcases ih _ x h with h | ⟨b, hb, e⟩
      · unfold yf1 at h
        split at h
        · exact Or.inl h
        · rcases List.mem_append.1 h with h | h
          · exact Or.inl h
          · exact Or.inr ⟨a, by simp, by simp at h; exact h.symm⟩
      · exact Or.inr ⟨b, by simp [hb], e⟩
  intro x hx
  rcases go l ([], []) x hx with h | h
  · cases h
  · exact h
theorem node_ev : ∀ (m : Nat) (n : Nd), cnt n < m → wt n ≤ 30000 → shN n = true → ∀ sp : L, ∃ K, ∀ k, K ≤ k → ya3.f k n.f0 n.f1.f0 n.f1.f1 n.f2 n.f3 n.f4 (mk sp) = some (mk (nodeO n sp)) := by
  intro m
  induction m with
  | zero => intro n h; omega
  | succ m ih =>
    intro n hm hw hs sp
    have lf := yl5 n hw
    have en : nodeO n sp = nodeO ⟨n.f0, n.f1, n.f2, n.f3, n.f4⟩ sp := by cases n; rfl
    by_cases h2 : n.f0 = 2
    · obtain ⟨K, hK⟩ := yq0 n.f4 false (by omega)
      refine ⟨K + 1, fun k hk => ?_⟩
      obtain ⟨k, rfl⟩ : ∃ m, k = m + 1 := ⟨k - 1, by omega⟩
      rw [ya3.f, if_pos h2, hK k (by omega), en, nodeO, if_pos h2]
      rfl
    have hs' := hs
    have es : shN n = shN ⟨n.f0, n.f1, n.f2, n.f3, n.f4⟩ := by cases n; rfl
    rw [es, shN, if_neg h2] at hs'
    simp only [Bool.and_eq_true, decide_eq_true_eq] at hs'
    obtain ⟨hk1, hx, hnm, hat, hks⟩ := hs'
    unfold attrsB at hat
    simp only [Bool.and_eq_true, decide_eq_true_eq] at hat
    have hA := (Prt.yl7 n.f2 [] hat.1).2
    have hPk : ∀ sp' : L, ∀ d ∈ n.f3, ∃ K, ∀ k, K ≤ k → ya3.f k d.f0 d.f1.f0 d.f1.f1 d.f2 d.f3 d.f4 (mk sp') = some (mk (nodeO d sp')) := fun sp' d hd => ih d (by have := ym6 n.f3 d hd; have := cnt_eq n; omega) (by have := wt_mem n.f3 d hd; omega) (shNs_mem n.f3 false d hd hks) sp'
    have hsl : (srt n.f2).length = n.f2.length := (yj2 n.f2).length_eq
    have hsz : ∀ a ∈ srt n.f2, a.f0.f0.size ≤ 30000 ∧ a.f0.f1.size ≤ 30000 ∧ a.f1.size ≤ 30000 := fun a ha => at_few n hw a ((yj2 n.f2).mem_iff.1 ha)
    obtain ⟨K1, h1⟩ := ref_sorted n.f2 (by omega) hA
    obtain ⟨p, hp, K2, h3⟩ := ref_prefixes (srt n.f2) (by omega) (yn7 n.f2)
    obtain ⟨d1, d2, d3, d4⟩ := decls_str (srt n.f2)
    have hdl := Prt.yk6 (srt n.f2) ([], []) (by simp only [List.length_nil]; omega)
    have hpl : (decls (srt n.f2)).1.length ≤ 32 := by
      have := hdl.1
      unfold Prt.decls
      simp only [List.length_nil] at this
      omega
    have hpz : ∀ x ∈ (decls (srt n.f2)).1, x.length ≤ 30000 := by
      intro x hx
      obtain ⟨a, ha, rfl⟩ := decls_mem _ x hx
      rw [Prt.spc_len]
      exact (hsz a ha).1
    -- the whole from j0 on
    have main : ∀ (sp' tag S : L), tag.length ≤ 40000 → S.length ≤ 280000 → ∃ K, ∀ k, K ≤ k → ya3.j0 k (mk sp') (mk tag) (mk S) n.f0 n.f1.f0 n.f1.f1 n.f2 n.f3 n.f4 = some (mk (60 :: tag ++ (S ++ attrsO (srt n.f2)) ++ Prt.bodyO n.f3 sp' tag)) := by
      intro sp' tag S ht hS
      obtain ⟨K, hK⟩ := n_l0 n (srt n.f2) p (decls (srt n.f2)).1 hp hpl hpz (mk sp') (mk tag) (fun S => mk (60 :: tag ++ (S ++ attsO (decls (srt n.f2)).1 (srt n.f2)) ++ Prt.bodyO n.f3 sp' tag)) (fun S hS => by
        have := n_l1 n hw (srt n.f2) p (decls (srt n.f2)).1 hp d4 d2 d3 hpl (by omega) hsz sp' tag ht (hPk sp') (srt n.f2).length 0 S (by omega) (by omega) (by omega)
        rw [List.drop_zero] at this
        exact this) (decls (srt n.f2)).1.length 0 S (by omega) (by omega) (by omega)
      refine ⟨K1 + K2 + K + 1, fun k hk => ?_⟩
      obtain ⟨k, rfl⟩ : ∃ m, k = m + 1 := ⟨k - 1, by omega⟩
      rw [ya3.j0, h1 k (by omega), Option.bind_some, h3 k (by omega), Option.bind_some]
      have fin := hK k (by omega)
      rw [List.drop_zero, ← d1, List.append_assoc S] at fin
      exact fin
    have hloc : n.f1.f1 = mk n.f1.f1.data.toList := (mk_data _).symm
    have hspc : n.f1.f0 = mk n.f1.f0.data.toList := (mk_data _).symm
    have hll : n.f1.f1.data.toList.length ≤ 30000 := by rw [← Lib.size_eq]; omega
    have hlt : n.f1.f0.toList = n.f1.f0.data.toList := Lib.toList_data _
    rw [en, Prt.yo0 _ _ _ _ _ _ h2]
    by_cases c1 : n.f1.f0.data.toList = sXML
    · have c2 : ¬ (n.f1.f0.data.toList ≠ sXML ∧ n.f1.f0.data.toList ≠ sp) := fun h => h.1 c1
      rw [if_pos c1, if_neg c2, if_neg c2]
      obtain ⟨K, hK⟩ := main sp (sXmlC ++ n.f1.f1.data.toList) [] (by rw [List.length_append]; have : sXmlC.length = 4 := rfl; omega) (by simp)
      refine ⟨K + 1, fun k hk => ?_⟩
      obtain ⟨k, rfl⟩ : ∃ m, k = m + 1 := ⟨k - 1, by omega⟩
      rw [ya3.f, if_neg h2]
      refine (if_pos (hlt.trans c1)).trans ?_
      rw [if_pos (by omega)]
      have e : (⟨#[120, 109, 108, 58]⟩ : ByteArray) ++ n.f1.f1 = mk (sXmlC ++ n.f1.f1.data.toList) := by rw [← mk_app, mk_data]; rfl
      rw [e]
      have fin := hK k (by omega)
      rw [List.append_nil]
      exact fin
    · rw [if_neg c1]
      by_cases c2 : n.f1.f0.data.toList = sp
      · have c3 : ¬ (n.f1.f0.data.toList ≠ sXML ∧ n.f1.f0.data.toList ≠ sp) := fun h => h.2 c2
        rw [if_neg c3, if_neg c3]
        obtain ⟨K, hK⟩ := main sp n.f1.f1.data.toList [] (by omega) (by simp)
        refine ⟨K + 1, fun k hk => ?_⟩
        obtain ⟨k, rfl⟩ : ∃ m, k = m + 1 := ⟨k - 1, by omega⟩
        rw [ya3.f, if_neg h2]
        refine (if_neg (fun h => c1 (hlt.symm.trans h))).trans ?_
        rw [if_pos (by rw [hlt, toList_mk]; exact c2)]
        have fin := hK k (by omega)
        rw [mk_data] at fin
        rw [List.append_nil]
        exact fin
      · have c3 : n.f1.f0.data.toList ≠ sXML ∧ n.f1.f0.data.toList ≠ sp := ⟨c1, c2⟩
        rw [if_pos c3, if_pos c3]
        obtain ⟨K3, h5⟩ := yq0 n.f1.f0 true (by omega)
        have hel := Esc.yj8 true n.f1.f0.data.toList
        rw [← Lib.size_eq] at hel
        have hal := Prt.yk2 sXmlns n.f1.f0.data.toList
        rw [← Lib.size_eq] at hal
        have h5l : sXmlns.length = 5 := rfl
        obtain ⟨K, hK⟩ := main n.f1.f0.data.toList n.f1.f1.data.toList (attrO sXmlns n.f1.f0.data.toList) (by omega) (by omega)
        refine ⟨K + K3 + 1, fun k hk => ?_⟩
        obtain ⟨k, rfl⟩ : ∃ m, k = m + 1 := ⟨k - 1, by omega⟩
        rw [ya3.f, if_neg h2]
        refine (if_neg (fun h => c1 (hlt.symm.trans h))).trans ?_
        rw [if_neg (by rw [hlt, toList_mk]; exact c2), h5 k (by omega), Option.bind_some, show (⟨(esc true n.f1.f0.data.toList).toArray⟩ : ByteArray) = mk (esc true n.f1.f0.data.toList) from rfl]
        rw [show (⟨#[32, 120, 109, 108, 110, 115, 61, 34]⟩ : ByteArray) = mk [32, 120, 109, 108, 110, 115, 61, 34] from rfl, show (⟨#[34]⟩ : ByteArray) = mk [34] from rfl]
        simp only [mk_app, size_mk, List.length_append, List.length_cons, List.length_nil]
        rw [if_pos (by omega), if_pos (by omega)]
        have fin := hK k (by omega)
        rw [mk_data, mk_data] at fin
        have ea : [32, 120, 109, 108, 110, 115, 61, 34] ++ esc true n.f1.f0.data.toList ++ [34] = attrO sXmlns n.f1.f0.data.toList := rfl
        rw [ea, List.append_assoc (60 :: n.f1.f1.data.toList)]
        exact fin
/-- The reference prints what print prints. -/
theorem ref_print (n : Nd) (hw : wt n ≤ 30000) : ∃ k, yf4.f k n.f0 n.f1.f0 n.f1.f1 n.f2 n.f3 n.f4 = some (mk (Prt.printN n).1, (Prt.printN n).2) := by
  obtain ⟨K1, h1⟩ := ref_right n hw
  unfold Prt.printN
  cases hr : rightB n with
  | false =>
    rw [hr] at h1
    refine ⟨K1, ?_⟩
    unfold yf4.f
    rw [h1 K1 (Nat.le_refl _), Option.bind_some, if_neg (by decide), if_neg (by decide)]
    rfl
  | true =>
    rw [hr] at h1
    obtain ⟨K2, h2⟩ := node_ev (cnt n + 1) n (by omega) hw ((rightB_iff n).1 hr).2.2.2 []
    refine ⟨K1 + K2, ?_⟩
    unfold yf4.f
    rw [h1 _ (by omega), Option.bind_some, if_pos rfl, if_pos rfl, show (⟨#[]⟩ : ByteArray) = mk [] from rfl, h2 _ (by omega), Option.bind_some, size_mk]
    by_cases c : 32768 < (nodeO n []).length
    · rw [if_pos c, if_pos (by omega)]
    · rw [if_neg c, if_neg (by omega)]
end Go.Proofs.YtffpbhbiamkkpaaDoor.PP
