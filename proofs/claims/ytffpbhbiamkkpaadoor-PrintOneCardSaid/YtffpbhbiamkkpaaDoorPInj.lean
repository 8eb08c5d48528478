/- Two right trees are printed alike just if they are one but for the order of attributes. No program in sight. -/
import Derived.Test.YtffpbhbiamkkpaaDoorRefRight
import Derived.Test.YtffpbhbiamkkpaaDoorMx6
import Derived.Test.YtffpbhbiamkkpaaDoorPNode
import Derived.Test.YtffpbhbiamkkpaaDoorPPrint
import Derived.Test.YtffpbhbiamkkpaaDoorPRx10
import Derived.Test.YtffpbhbiamkkpaaDoorTEq
import Derived.Test.YtffpbhbiamkkpaaDoorEscBack
namespace Go.Proofs.YtffpbhbiamkkpaaDoor.PI
open Go Go.RowKit Go.Proofs.YtffpbhbiamkkpaaDoorW.PrintWords Go.Proofs.YtffpbhbiamkkpaaDoor.ND
open Go.Proofs.YtffpbhbiamkkpaaDoor.Prt (L sXML sXmlC sXmlns spc loc decls declStep decls_len prefOf pos attrO attO attsO attrsO nodeO nodesO nodeO_elem bodyO printN attrsF_apart)
open Go.Proofs.YtffpbhbiamkkpaaDoor.PG (nameB signsB nameL startB partB runeT)
open Go.Proofs.YtffpbhbiamkkpaaDoor.Lx (cb cb_range runeU runeT_U U1 U2 U3 U4)
open Go.Proofs.YtffpbhbiamkkpaaDoor.PP (pref_some dstr decls_str shN shNs cnt cnts dp dps rightB_iff start_part)
open Go.Proofs.YtffpbhbiamkkpaaDoor.TS (ord ord_perm ord_sorted normN normL)
open Go.Lib (itoa toList_data)
set_option linter.unusedVariables false
/-- A byte that may stand in a name, and ends nothing. -/
def cleanI (n : Int) : Prop := n ≠ 32 ∧ n ≠ 34 ∧ n ≠ 47 ∧ n ≠ 58 ∧ n ≠ 60 ∧ n ≠ 61 ∧ n ≠ 62
def clean (c : UInt8) : Prop := c ≠ 32 ∧ c ≠ 34 ∧ c ≠ 47 ∧ c ≠ 58 ∧ c ≠ 60 ∧ c ≠ 61 ∧ c ≠ 62
theorem part_clean {n : Int} (h : partB n = true) : cleanI n := by
  refine ⟨?_, ?_, ?_, ?_, ?_, ?_, ?_⟩ <;> (rintro rfl; revert h; decide +kernel)
theorem big_clean {n : Int} (h : 128 ≤ n) : cleanI n := by unfold cleanI; omega
theorem cb_add (s : ByteArray) (i n q : Nat) (h : n ≤ q) : cb s (i + n) (q - n) = cb s i q := by
  unfold Lx.cb
  rw [show i + n + (q - n) = i + q by omega]
theorem nameL_clean (s : ByteArray) (hs : s.size ≤ 64) : ∀ (k i : Nat) (first : Bool), nameL k s (i : Int) first = true → ∀ q, i + q < s.size → cleanI (cb s i q)
  | 0, i, first, h, q, hq => by simp [PG.nameL] at h
  | k + 1, i, first, h, q, hq => by
    rw [PG.nameL, if_pos (by omega), runeT_U s i (by omega) (by omega)] at h
    have hp : ∀ {r : Int × Int}, (if r.2 = 0 then false else if (if first then startB r.1 else partB r.1) = true then nameL k s ((i : Int) + r.2) false else false) = true → r.2 ≠ 0 ∧ partB r.1 = true ∧ nameL k s ((i : Int) + r.2) false = true := by
      intro r h
      by_cases h0 : r.2 = 0
      · rw [if_pos h0] at h; cases h
      rw [if_neg h0] at h
      by_cases h1 : (if first then startB r.1 else partB r.1) = true
      · rw [if_pos h1] at h
        refine ⟨h0, ?_, h⟩
        cases first with
        | true => exact start_part h1
        | false => exact h1
      · rw [if_neg h1] at h; cases h
    obtain ⟨h0, h1, h2⟩ := hp h
    have go : ∀ n : Nat, nameL k s ((i : Int) + (n : Int)) false = true → n ≤ q → cleanI (cb s i q) := fun n h3 hn => by
      rw [← cb_add s i n q hn]
      exact nameL_clean s hs k (i + n) false (by rw [Int.natCast_add]; exact h3) (q - n) (by omega)
    unfold runeU at h0 h1 h2
    by_cases u1 : U1 s i
    · rw [if_pos u1] at h0 h1 h2
      rcases Nat.eq_zero_or_pos q with rfl | hq1
      · exact part_clean h1
      · exact go 1 h2 hq1
    rw [if_neg u1] at h0 h1 h2
    by_cases u2 : i + 2 ≤ s.size ∧ U2 s i
    · rw [if_pos u2] at h0 h1 h2
      by_cases h : 2 ≤ q
      · exact go 2 h2 h
      · have u := u2.2
        unfold Lx.U2 at u
        refine big_clean ?_
        rcases (by omega : q = 0 ∨ q = 1) with rfl | rfl <;> omega
    rw [if_neg u2] at h0 h1 h2
    by_cases u3 : i + 3 ≤ s.size ∧ U3 s i
    · rw [if_pos u3] at h0 h1 h2
      by_cases h : 3 ≤ q
      · exact go 3 h2 h
      · have u := u3.2
        unfold Lx.U3 at u
        refine big_clean ?_
        rcases (by omega : q = 0 ∨ q = 1 ∨ q = 2) with rfl | rfl | rfl <;> omega
    rw [if_neg u3] at h0 h1 h2
    by_cases u4 : i + 4 ≤ s.size ∧ U4 s i
    · rw [if_pos u4] at h0 h1 h2
      by_cases h : 4 ≤ q
      · exact go 4 h2 h
      · have u := u4.2
        unfold Lx.U4 at u
        refine big_clean ?_
        rcases (by omega : q = 0 ∨ q = 1 ∨ q = 2 ∨ q = 3) with rfl | rfl | rfl | rfl <;> omega
    · rw [if_neg u4] at h0
      exact absurd rfl h0
theorem clean_of {c : UInt8} (h : cleanI ((c.toNat : Nat) : Int)) : clean c := by
  refine ⟨?_, ?_, ?_, ?_, ?_, ?_, ?_⟩ <;> (rintro rfl; revert h; unfold cleanI; decide)
theorem name_bytes (s : ByteArray) (h : nameB s = true) : s.data.toList ≠ [] ∧ ∀ c ∈ s.data.toList, clean c := by
  unfold PG.nameB at h
  by_cases h0 : s.size = 0
  · rw [if_pos h0] at h; cases h
  rw [if_neg h0] at h
  by_cases h1 : 64 < s.size
  · rw [if_pos h1] at h; cases h
  rw [if_neg h1] at h
  refine ⟨fun e => h0 (by rw [Lib.size_eq, e]; rfl), fun c hc => ?_⟩
  obtain ⟨q, hq, rfl⟩ := List.getElem_of_mem hc
  have hq' : 0 + q < s.size := by rw [Lib.size_eq]; omega
  obtain ⟨c, e1, e2⟩ := Lx.drop_cb s 0 q hq'
  have e3 : s.data.toList[q] = c := by
    rw [List.drop_eq_getElem_cons (show 0 + q < s.data.toList.length by omega)] at e1
    injection e1 with e1 _
    simpa using e1
  rw [e3]
  refine clean_of ?_
  rw [e2]
  exact nameL_clean s (by omega) 65 0 true h q hq'
theorem esc_inj (attr : Bool) {x y : L} (h : Esc.esc attr x = Esc.esc attr y) : x = y := by
  have h1 := Esc.esc_back attr x _ 0 (Nat.le_refl _)
  have h2 := Esc.esc_back attr y _ 0 (Nat.le_refl _)
  rw [h, h2] at h1
  injection h1 with h1
  exact h1.symm
theorem decls_len1 (l : List At) (h : l.length ≤ 1000) : (decls l).1.length ≤ l.length := by
  have := (decls_len l ([], []) (by simp; omega)).1
  simpa [Prt.decls] using this
theorem srt_of_perm {l l' : List At} (p : l.Perm l') (h : attrsB l = true) : srt l = srt l' := by
  unfold attrsB at h
  exact ND.rising_one ((srt_perm l).trans (p.trans (srt_perm l').symm)) ((attrsF_apart l [] (Bool.and_eq_true_iff.1 h).1).2.perm (srt_perm l).symm) (srt_sorted l) (srt_sorted l')
theorem ord_of_perm {l l' : List At} (p : l.Perm l') : ord l = ord l' := TS.rising_one ((ord_perm l).trans (p.trans (ord_perm l').symm)) (ord_sorted l) (ord_sorted l')
theorem cut_at (p : UInt8 → Prop) : ∀ {a b x y : L}, (∀ c ∈ a, ¬ p c) → (∀ c ∈ b, ¬ p c) → (∃ c r, x = c :: r ∧ p c) → (∃ c r, y = c :: r ∧ p c) → a ++ x = b ++ y → a = b ∧ x = y
  | [], [], _, _, _, _, _, _, h => ⟨rfl, h⟩
  | [], d :: b, x, y, _, hb, ⟨c, r, e, hc⟩, _, h => by
    rw [List.nil_append, List.cons_append, e] at h
    injection h with h1 h2
    exact absurd hc (h1 ▸ hb d (by simp))
  | d :: a, [], x, y, ha, _, _, ⟨c, r, e, hc⟩, h => by
    rw [List.nil_append, List.cons_append, e] at h
    injection h with h1 h2
    exact absurd hc (h1 ▸ ha d (by simp))
  | d :: a, d' :: b, x, y, ha, hb, hx, hy, h => by
    rw [List.cons_append, List.cons_append] at h
    injection h with h1 h2
    obtain ⟨e1, e2⟩ := cut_at p (fun c hc => ha c (by simp [hc])) (fun c hc => hb c (by simp [hc])) hx hy h2
    exact ⟨by rw [h1, e1], e2⟩
/-- A name and its value, as they are written. -/
def pairO (a : L × L) : L := attrO a.1 a.2
theorem pairs_inj : ∀ {R R' : List (L × L)} {t t' : L}, (∀ a ∈ R, ∀ c ∈ a.1, c ≠ 61) → (∀ a ∈ R', ∀ c ∈ a.1, c ≠ 61) → (∃ c r, t = c :: r ∧ c ≠ 32) → (∃ c r, t' = c :: r ∧ c ≠ 32) → R.flatMap pairO ++ t = R'.flatMap pairO ++ t' → R = R' ∧ t = t'
  | [], [], _, _, _, _, _, _, h => ⟨rfl, h⟩
  | [], b :: R', t, t', _, _, ⟨c, r, e, hc⟩, _, h => by
    rw [List.flatMap_nil, List.nil_append, List.flatMap_cons, e, pairO, attrO] at h
    simp only [List.cons_append] at h
    injection h with h1 h2
    exact absurd h1 hc
  | b :: R, [], t, t', _, _, _, ⟨c, r, e, hc⟩, h => by
    rw [List.flatMap_nil, List.nil_append, List.flatMap_cons, e, pairO, attrO] at h
    simp only [List.cons_append] at h
    injection h with h1 h2
    exact absurd h1.symm hc
  | a :: R, b :: R', t, t', ha, hb, ht, ht', h => by
    obtain ⟨k, v⟩ := a
    obtain ⟨k', v'⟩ := b
    rw [List.flatMap_cons, List.flatMap_cons, pairO, pairO, attrO, attrO] at h
    simp only [List.cons_append, List.append_assoc, List.nil_append] at h
    injection h with _ h
    obtain ⟨e1, h⟩ := cut_at (fun c => c = 61) (ha (k, v) (by simp)) (hb (k', v') (by simp)) ⟨61, _, rfl, rfl⟩ ⟨61, _, rfl, rfl⟩ h
    injection h with _ h
    injection h with _ h
    obtain ⟨e2, h⟩ := cut_at (fun c => c = 34) (fun c hc => ((Esc.esc_mem true v c hc).2.2.1 rfl).1) (fun c hc => ((Esc.esc_mem true v' c hc).2.2.1 rfl).1) ⟨34, _, rfl, rfl⟩ ⟨34, _, rfl, rfl⟩ h
    injection h with _ h
    obtain ⟨e3, e4⟩ := pairs_inj (fun a h => ha a (by simp [h])) (fun a h => hb a (by simp [h])) ht ht' h
    exact ⟨by rw [show k = k' from e1, esc_inj true e2, e3], e4⟩
theorem pos_get : ∀ (p : List L) (s : L) (i : Nat), pos p s = some i → p[i]? = some s
  | [], _, _, h => by simp [pos] at h
  | a :: p, s, i, h => by
    unfold pos at h
    by_cases e : a = s
    · rw [if_pos e] at h
      obtain rfl := Option.some.inj h
      simp [e]
    · rw [if_neg e] at h
      obtain ⟨j, hj, rfl⟩ := Option.map_eq_some_iff.1 h
      simpa using pos_get p s j hj
theorem itoa_inj : ∀ i j : Fin 40, itoa ((i.val : Int) + 1) = itoa ((j.val : Int) + 1) → i = j := by decide +kernel
theorem itoa_clean : ∀ i : Fin 40, ∀ c ∈ itoa ((i.val : Int) + 1), c ≠ 58 ∧ c ≠ 61 := by decide +kernel
theorem pref_cases {p : List L} {s q : L} (hp : p.length ≤ 40) (h : prefOf p s = some q) : (s = [] ∧ q = []) ∨ (s = sXML ∧ q = [120, 109, 108] ++ [58]) ∨ (∃ i : Fin 40, p[i.val]? = some s ∧ q = (110 :: itoa ((i.val : Int) + 1)) ++ [58]) := by
  unfold prefOf at h
  by_cases e0 : s = []
  · rw [if_pos e0] at h; exact Or.inl ⟨e0, (Option.some.inj h).symm⟩
  rw [if_neg e0] at h
  by_cases e1 : s = sXML
  · rw [if_pos e1] at h; exact Or.inr (Or.inl ⟨e1, (Option.some.inj h).symm⟩)
  rw [if_neg e1] at h
  obtain ⟨i, hi⟩ : ∃ i, pos p s = some i := by
    cases hp : pos p s with
    | none => rw [hp] at h; cases h
    | some i => exact ⟨i, rfl⟩
  rw [hi] at h
  have e : 110 :: itoa ((i : Int) + 1) ++ [58] = q := Option.some.inj h
  have hg := pos_get p s i hi
  have hl : i < p.length := by
    rcases Nat.lt_or_ge i p.length with h | h
    · exact h
    · rw [List.getElem?_eq_none h] at hg; cases hg
  exact Or.inr (Or.inr ⟨⟨i, by omega⟩, hg, e.symm⟩)
theorem pref_shape {p : List L} {s q : L} (hp : p.length ≤ 40) (h : prefOf p s = some q) : q = [] ∨ ∃ d k, q = (d :: k) ++ [58] ∧ (∀ c ∈ d :: k, c ≠ 58) ∧ (∀ c ∈ d :: k, c ≠ 61) ∧ (d = 110 ∨ d :: k = [120, 109, 108]) := by
  rcases pref_cases hp h with ⟨_, e⟩ | ⟨_, e⟩ | ⟨i, _, e⟩
  · exact Or.inl e
  · exact Or.inr ⟨120, [109, 108], e, by decide, by decide, Or.inr rfl⟩
  · refine Or.inr ⟨110, _, e, fun c hc => ?_, fun c hc => ?_, Or.inl rfl⟩
    · rcases List.mem_cons.1 hc with rfl | hc
      · decide
      · exact (itoa_clean i c hc).1
    · rcases List.mem_cons.1 hc with rfl | hc
      · decide
      · exact (itoa_clean i c hc).2
theorem pref_inj {p : List L} {s s' q : L} (hp : p.length ≤ 40) (h : prefOf p s = some q) (h' : prefOf p s' = some q) : s = s' := by
  rcases pref_cases hp h with ⟨a, e⟩ | ⟨a, e⟩ | ⟨i, a, e⟩ <;> rcases pref_cases hp h' with ⟨b, e'⟩ | ⟨b, e'⟩ | ⟨j, b, e'⟩ <;> rw [e] at e'
  · rw [a, b]
  · cases e'
  · cases e'
  · cases e'
  · rw [a, b]
  · injection e' with x y
    exact absurd x (by decide)
  · cases e'
  · injection e' with x y
    exact absurd x (by decide)
  · have e2 := List.append_cancel_right e'
    injection e2 with _ e2
    obtain rfl := itoa_inj i j e2
    exact Option.some.inj (a.symm.trans b)
theorem full_inj {p : List L} {s s' q q' a a' : L} (hp : p.length ≤ 40) (h : prefOf p s = some q) (h' : prefOf p s' = some q') (ha : ∀ c ∈ a, c ≠ 58) (ha' : ∀ c ∈ a', c ≠ 58) (e : q ++ a = q' ++ a') : s = s' ∧ a = a' := by
  rcases pref_shape hp h with e1 | ⟨d, k, e1, k1, _, _⟩ <;> rcases pref_shape hp h' with e2 | ⟨d', k', e2, k2, _, _⟩
  · subst e1; subst e2
    exact ⟨pref_inj hp h h', e⟩
  · subst e1; subst e2
    exact absurd rfl (ha 58 (by rw [List.nil_append] at e; rw [e]; simp))
  · subst e1; subst e2
    exact absurd rfl (ha' 58 (by rw [List.nil_append] at e; rw [← e]; simp))
  · rw [e1, e2, List.append_assoc, List.append_assoc] at e
    obtain ⟨x, y⟩ := cut_at (fun c => c = 58) k1 k2 ⟨58, _, rfl, rfl⟩ ⟨58, _, rfl, rfl⟩ e
    injection y with _ y
    rw [e1] at h
    rw [e2, ← x] at h'
    exact ⟨pref_inj hp h h', y⟩
theorem bytes_ext {a b : ByteArray} (h : a.data.toList = b.data.toList) : a = b := congrArg (fun l : List UInt8 => (⟨l.toArray⟩ : ByteArray)) h
theorem nm_ext {n m : Nm} (h0 : n.f0.data.toList = m.f0.data.toList) (h1 : n.f1.data.toList = m.f1.data.toList) : n = m := by
  obtain ⟨a, b⟩ := n
  obtain ⟨c, d⟩ := m
  rw [bytes_ext (show a.data.toList = c.data.toList from h0), bytes_ext (show b.data.toList = d.data.toList from h1)]
/-- An attribute, as it is written. -/
def rawOf (p : List L) (a : At) : L × L := ((prefOf p (spc a)).getD [] ++ loc a, a.f1.data.toList)
theorem raws_inj (p : List L) (hp : p.length ≤ 40) : ∀ (l l' : List At), (∀ a ∈ l, (prefOf p (spc a)).isSome = true ∧ ∀ c ∈ loc a, c ≠ 58) → (∀ a ∈ l', (prefOf p (spc a)).isSome = true ∧ ∀ c ∈ loc a, c ≠ 58) → l.map (rawOf p) = l'.map (rawOf p) → l = l'
  | [], [], _, _, _ => rfl
  | [], _ :: _, _, _, h => by cases h
  | _ :: _, [], _, _, h => by cases h
  | x :: l, y :: l', h1, h2, h => by
    rw [List.map_cons, List.map_cons] at h
    injection h with ha hb
    have e := raws_inj p hp l l' (fun a h => h1 a (by simp [h])) (fun a h => h2 a (by simp [h])) hb
    obtain ⟨s1, c1⟩ := h1 x (by simp)
    obtain ⟨s2, c2⟩ := h2 y (by simp)
    obtain ⟨q, hq⟩ := Option.isSome_iff_exists.1 s1
    obtain ⟨q', hq'⟩ := Option.isSome_iff_exists.1 s2
    unfold rawOf at ha
    rw [hq, hq', Option.getD_some, Option.getD_some] at ha
    injection ha with ha hv
    obtain ⟨k1, k2⟩ := full_inj hp hq hq' c1 c2 ha
    obtain ⟨xn, xv⟩ := x
    obtain ⟨yn, yv⟩ := y
    rw [e, nm_ext (n := xn) (m := yn) k1 k2, bytes_ext (show xv.data.toList = yv.data.toList from hv)]
def sDecl (i : Nat) : L := [120, 109, 108, 110, 115, 58] ++ (110 :: itoa ((i + 1 : Nat) : Int))
def dRaw : Nat → List L → List (L × L)
  | _, [] => []
  | i, s :: r => (sDecl i, s) :: dRaw (i + 1) r
theorem dRaw_str : ∀ (p : List L) (i : Nat), (dRaw i p).flatMap pairO = dstr i p
  | [], i => by simp [dRaw, dstr]
  | s :: r, i => by rw [dRaw, dstr, List.flatMap_cons, dRaw_str r (i + 1)]; rfl
theorem dRaw_snd : ∀ (p : List L) (i : Nat), (dRaw i p).map Prod.snd = p
  | [], i => by simp [dRaw]
  | s :: r, i => by rw [dRaw, List.map_cons, dRaw_snd r (i + 1)]
theorem dRaw_mem : ∀ (p : List L) (i : Nat), ∀ a ∈ dRaw i p, ∃ j, i ≤ j ∧ j < i + p.length ∧ a.1 = sDecl j
  | [], i, a, h => by simp [dRaw] at h
  | s :: r, i, a, h => by
    rw [dRaw] at h
    rcases List.mem_cons.1 h with rfl | h
    · exact ⟨i, Nat.le_refl _, by simp, rfl⟩
    · obtain ⟨j, h1, h2, h3⟩ := dRaw_mem r (i + 1) a h
      exact ⟨j, by omega, by simp only [List.length_cons]; omega, h3⟩
/-- The declarations and attributes of a row, as they are written. -/
def rawA (l : List At) : List (L × L) := dRaw 0 (decls l).1 ++ l.map (rawOf (decls l).1)
theorem rawA_str (l : List At) : (rawA l).flatMap pairO = attrsO l := by
  unfold rawA attrsO attsO
  rw [List.flatMap_append, dRaw_str, (decls_str l).1, List.flatMap_map]
  rfl
theorem step_some (st : List L × L) (a : At) (s : L) (h : (prefOf st.1 s).isSome = true) : (prefOf (declStep st a).1 s).isSome = true := by
  unfold declStep
  by_cases c : (prefOf st.1 (spc a)).isSome = true
  · rw [if_pos c]; exact h
  · rw [if_neg c]
    rw [pref_some] at h ⊢
    rcases h with h | h | h
    · exact Or.inl h
    · exact Or.inr (Or.inl h)
    · exact Or.inr (Or.inr (List.mem_append_left _ h))
theorem fold_some : ∀ (l : List At) (st : List L × L) (s : L), (prefOf st.1 s).isSome = true → (prefOf (l.foldl declStep st).1 s).isSome = true
  | [], st, s, h => h
  | a :: l, st, s, h => by rw [List.foldl_cons]; exact fold_some l _ s (step_some st a s h)
theorem decls_all : ∀ (l : List At) (st : List L × L), ∀ a ∈ l, (prefOf (l.foldl declStep st).1 (spc a)).isSome = true
  | a :: l, st, b, h => by
    rw [List.foldl_cons]
    rcases List.mem_cons.1 h with rfl | h
    · refine fold_some l _ _ ?_
      unfold declStep
      by_cases c : (prefOf st.1 (spc b)).isSome = true
      · rw [if_pos c]; exact c
      · rw [if_neg c, pref_some]
        exact Or.inr (Or.inr (List.mem_append_right _ (by simp)))
    · exact decls_all l _ b h
/-- What is asked of the attributes of a right element. -/
structure Good (l : List At) : Prop where
  len : l.length ≤ 32
  nam : ∀ a ∈ l, nameB a.f0.f1 = true
  xns : ∀ a ∈ l, spc a = [] → loc a ≠ sXmlns
theorem attrsF_mem : ∀ (l : List At) (seen : List (L × L)), attrsF seen l = true → ∀ a ∈ l, namedB a.f0 = true ∧ isXmlns a.f0 = false
  | [], _, _, _, h => by cases h
  | b :: r, seen, h, a, ha => by
    rw [attrsF, Bool.and_eq_true] at h
    rcases List.mem_cons.1 ha with rfl | ha
    · have h1 := h.1
      unfold okA at h1
      simp only [Bool.and_eq_true, Bool.not_eq_true'] at h1
      exact ⟨h1.1, h1.2.2.1⟩
    · exact attrsF_mem r _ h.2 a ha
theorem named_name {n : Nm} (h : namedB n = true) : nameB n.f1 = true := by
  unfold namedB at h
  simp only [Bool.and_eq_true] at h
  exact h.1.1
theorem good_of {l : List At} (h : attrsB l = true) : Good (srt l) := by
  unfold attrsB at h
  rw [Bool.and_eq_true, decide_eq_true_eq] at h
  refine ⟨by rw [(srt_perm l).length_eq]; exact h.2, fun a ha => named_name (attrsF_mem l _ h.1 a ((srt_perm l).mem_iff.1 ha)).1, fun a ha h0 h1 => ?_⟩
  have k := (attrsF_mem l _ h.1 a ((srt_perm l).mem_iff.1 ha)).2
  unfold isXmlns at k
  rw [toList_data, toList_data, show a.f0.f0.data.toList = [] from h0, show a.f0.f1.data.toList = sXmlns from h1] at k
  cases k
def isN (a : L × L) : Bool := a.1 == sXmlns
def isD (a : L × L) : Bool := a.1.take 6 == [120, 109, 108, 110, 115, 58]
theorem decl_isD (i : Nat) (s : L) : isD (sDecl i, s) = true ∧ isN (sDecl i, s) = false := by
  unfold isD isN sDecl sXmlns
  constructor
  · rfl
  · simp
theorem raw_kind {l : List At} (g : Good l) (a : At) (ha : a ∈ l) : isN (rawOf (decls l).1 a) = false ∧ isD (rawOf (decls l).1 a) = false ∧ ∀ c ∈ (rawOf (decls l).1 a).1, c ≠ 61 := by
  have hp : (decls l).1.length ≤ 40 := Nat.le_trans (decls_len1 l (Nat.le_trans g.len (by omega))) (Nat.le_trans g.len (by omega))
  obtain ⟨q, hq⟩ := Option.isSome_iff_exists.1 (decls_all l ([], []) a ha)
  have hq : prefOf (decls l).1 (spc a) = some q := hq
  obtain ⟨n1, n2⟩ := name_bytes a.f0.f1 (g.nam a ha)
  have n1 : loc a ≠ [] := n1
  have n2 : ∀ c ∈ loc a, clean c := n2
  unfold rawOf
  rw [hq, Option.getD_some]
  unfold isN isD
  rcases pref_shape hp hq with e | ⟨d, k, e, k1, k2, k3⟩
  · subst e
    have hs : spc a = [] := by
      rcases pref_cases hp hq with ⟨e, _⟩ | ⟨_, e⟩ | ⟨i, _, e⟩
      · exact e
      · cases e
      · cases e
    rw [List.nil_append]
    refine ⟨by simpa using g.xns a ha hs, ?_, fun c hc => (n2 c hc).2.2.2.2.2.1⟩
    rw [beq_eq_false_iff_ne]
    intro h
    have : (58 : UInt8) ∈ (loc a).take 6 := by rw [h]; decide
    exact (n2 58 (List.mem_of_mem_take this)).2.2.2.1 rfl
  · subst e
    refine ⟨?_, ?_, fun c hc => ?_⟩
    · rw [beq_eq_false_iff_ne]
      intro h
      have h' : (d :: k ++ [58]) ++ loc a = sXmlns := h
      have : (58 : UInt8) ∈ sXmlns := by rw [← h']; simp
      revert this; decide
    · rw [beq_eq_false_iff_ne]
      intro h
      rcases k3 with rfl | k3
      · simp only [List.cons_append, List.take_succ_cons] at h
        injection h with h _
        exact absurd h (by decide)
      · have h' : (((d :: k) ++ [58]) ++ loc a).take 6 = [120, 109, 108, 110, 115, 58] := h
        rw [k3] at h'
        simp only [List.cons_append, List.nil_append, List.take_succ_cons] at h'
        injection h' with _ h'
        injection h' with _ h'
        injection h' with _ h'
        injection h' with h' _
        exact absurd h' (by decide)
    · rcases List.mem_append.1 hc with hc | hc
      · rcases List.mem_append.1 hc with hc | hc
        · exact k2 c hc
        · obtain rfl : c = 58 := by simpa using hc
          decide
      · exact (n2 c hc).2.2.2.2.2.1
def nsOf (s space : L) : List (L × L) := if s ≠ sXML ∧ s ≠ space then [(sXmlns, s)] else []
def rawN (s space : L) (l : List At) : List (L × L) := nsOf s space ++ rawA l
theorem decl_clean (i : Nat) (h : i < 40) : ∀ c ∈ sDecl i, c ≠ 61 := by
  intro c hc
  unfold sDecl at hc
  rcases List.mem_append.1 hc with hc | hc
  · exact (by decide : ∀ c ∈ ([120, 109, 108, 110, 115, 58] : L), c ≠ 61) c hc
  · rcases List.mem_cons.1 hc with rfl | hc
    · decide
    · exact (itoa_clean ⟨i, h⟩ c hc).2
theorem rawN_clean {l : List At} (g : Good l) (s space : L) : ∀ a ∈ rawN s space l, ∀ c ∈ a.1, c ≠ 61 := by
  intro a ha
  have hp : (decls l).1.length ≤ 32 := Nat.le_trans (decls_len1 l (Nat.le_trans g.len (by omega))) g.len
  rcases List.mem_append.1 ha with ha | ha
  · unfold nsOf at ha
    split at ha
    · obtain rfl : a = (sXmlns, s) := by simpa using ha
      exact (by decide : ∀ c ∈ sXmlns, c ≠ 61)
    · cases ha
  · rcases List.mem_append.1 ha with ha | ha
    · obtain ⟨j, _, h2, h3⟩ := dRaw_mem _ _ a ha
      rw [h3]
      exact decl_clean j (by omega)
    · obtain ⟨b, hb, rfl⟩ := List.mem_map.1 ha
      exact (raw_kind g b hb).2.2
theorem rawN_parts {l : List At} (g : Good l) (s space : L) : (rawN s space l).filter isN = nsOf s space ∧ (rawN s space l).filter isD = dRaw 0 (decls l).1 ∧ (rawN s space l).filter (fun a => !isN a && !isD a) = l.map (rawOf (decls l).1) := by
  have f1 : ∀ a ∈ nsOf s space, isN a = true ∧ isD a = false := by
    intro a ha
    unfold nsOf at ha
    split at ha
    · obtain rfl : a = (sXmlns, s) := by simpa using ha
      exact ⟨rfl, rfl⟩
    · cases ha
  have f2 : ∀ a ∈ dRaw 0 (decls l).1, isN a = false ∧ isD a = true := by
    intro a ha
    obtain ⟨j, _, _, h3⟩ := dRaw_mem _ _ a ha
    obtain ⟨x, y⟩ := a
    dsimp only at h3
    subst h3
    exact ⟨(decl_isD j y).2, (decl_isD j y).1⟩
  have f3 : ∀ a ∈ l.map (rawOf (decls l).1), isN a = false ∧ isD a = false := by
    intro a ha
    obtain ⟨b, hb, rfl⟩ := List.mem_map.1 ha
    exact ⟨(raw_kind g b hb).1, (raw_kind g b hb).2.1⟩
  have all : ∀ (q : L × L → Bool) (x : List (L × L)), (∀ a ∈ x, q a = true) → x.filter q = x := fun q x h => List.filter_eq_self.2 h
  have non : ∀ (q : L × L → Bool) (x : List (L × L)), (∀ a ∈ x, q a = false) → x.filter q = [] := fun q x h => List.filter_eq_nil_iff.2 (fun a ha => by rw [h a ha]; decide)
  unfold rawN rawA
  simp only [List.filter_append]
  refine ⟨?_, ?_, ?_⟩
  · rw [all isN _ (fun a h => (f1 a h).1), non isN _ (fun a h => (f2 a h).1), non isN _ (fun a h => (f3 a h).1)]; simp
  · rw [non isD _ (fun a h => (f1 a h).2), all isD _ (fun a h => (f2 a h).2), non isD _ (fun a h => (f3 a h).2)]; simp
  · rw [non _ (nsOf s space) (fun a h => by rw [(f1 a h).1]; rfl), non _ (dRaw 0 (decls l).1) (fun a h => by rw [(f2 a h).2, Bool.not_true, Bool.and_false]), all _ (l.map (rawOf (decls l).1)) (fun a h => by rw [(f3 a h).1, (f3 a h).2]; rfl)]; simp
theorem rawN_inj {l l' : List At} (g : Good l) (g' : Good l') (s s' space : L) (h : rawN s space l = rawN s' space l') : nsOf s space = nsOf s' space ∧ l = l' := by
  obtain ⟨a1, a2, a3⟩ := rawN_parts g s space
  obtain ⟨b1, b2, b3⟩ := rawN_parts g' s' space
  rw [h] at a1 a2 a3
  have hp : (decls l).1.length ≤ 32 := Nat.le_trans (decls_len1 l (Nat.le_trans g.len (by omega))) g.len
  have e : (decls l).1 = (decls l').1 := by
    rw [← dRaw_snd (decls l).1 0, ← dRaw_snd (decls l').1 0, ← a2, ← b2]
  refine ⟨a1.symm.trans b1, raws_inj (decls l).1 (by omega) l l' (fun a ha => ⟨decls_all l ([], []) a ha, fun c hc => ((name_bytes _ (g.nam a ha)).2 c hc).2.2.2.1⟩) (fun a ha => ⟨?_, fun c hc => ((name_bytes _ (g'.nam a ha)).2 c hc).2.2.2.1⟩) ?_⟩
  · rw [e]; exact decls_all l' ([], []) a ha
  · rw [← a3, e, ← b3]
def tagOf (nm : Nm) : L := if nm.f0.data.toList = sXML then sXmlC ++ nm.f1.data.toList else nm.f1.data.toList
theorem tag_bytes {nm : Nm} (h : nameB nm.f1 = true) : tagOf nm ≠ [] ∧ ∀ c ∈ tagOf nm, c ≠ 32 ∧ c ≠ 47 ∧ c ≠ 62 := by
  obtain ⟨n1, n2⟩ := name_bytes _ h
  unfold tagOf
  split
  · refine ⟨by simp [sXmlC], fun c hc => ?_⟩
    rcases List.mem_append.1 hc with hc | hc
    · exact (by decide : ∀ c ∈ sXmlC, c ≠ 32 ∧ c ≠ 47 ∧ c ≠ 62) c hc
    · exact ⟨(n2 c hc).1, (n2 c hc).2.2.1, (n2 c hc).2.2.2.2.2.2⟩
  · exact ⟨n1, fun c hc => ⟨(n2 c hc).1, (n2 c hc).2.2.1, (n2 c hc).2.2.2.2.2.2⟩⟩
theorem tag_inj {n m : Nm} (h : nameB n.f1 = true) (h' : nameB m.f1 = true) (e : tagOf n = tagOf m) : (n.f0.data.toList = sXML ↔ m.f0.data.toList = sXML) ∧ n.f1.data.toList = m.f1.data.toList := by
  have n2 := (name_bytes _ h).2
  have m2 := (name_bytes _ h').2
  unfold tagOf at e
  by_cases c : n.f0.data.toList = sXML <;> by_cases c' : m.f0.data.toList = sXML
  · rw [if_pos c, if_pos c'] at e
    exact ⟨⟨fun _ => c', fun _ => c⟩, List.append_cancel_left e⟩
  · rw [if_pos c, if_neg c'] at e
    exact absurd rfl (m2 58 (by rw [← e]; simp [sXmlC])).2.2.2.1
  · rw [if_neg c, if_pos c'] at e
    exact absurd rfl (n2 58 (by rw [e]; simp [sXmlC])).2.2.2.1
  · rw [if_neg c, if_neg c'] at e
    exact ⟨⟨fun x => absurd x c, fun x => absurd x c'⟩, e⟩
theorem ns_inj {s s' space : L} (h : s = sXML ↔ s' = sXML) (e : nsOf s space = nsOf s' space) : s = s' := by
  unfold nsOf at e
  by_cases c : s = sXML
  · rw [c, h.1 c]
  have c' : s' ≠ sXML := fun k => c (h.2 k)
  by_cases d : s = space <;> by_cases d' : s' = space
  · rw [d, d']
  · rw [if_neg (fun k => k.2 d), if_pos ⟨c', d'⟩] at e; cases e
  · rw [if_pos ⟨c, d⟩, if_neg (fun k => k.2 d')] at e; cases e
  · rw [if_pos ⟨c, d⟩, if_pos ⟨c', d'⟩] at e
    injection e with e _
    injection e with _ e
def spOf (s space : L) : L := if s ≠ sXML ∧ s ≠ space then s else space
theorem elem_eq (k : Int) (nm : Nm) (t : List At) (kids : List Nd) (x : ByteArray) (space r : L) (hk : k ≠ 2) :
    nodeO ⟨k, nm, t, kids, x⟩ space ++ r = 60 :: (tagOf nm ++ ((rawN nm.f0.data.toList space (srt t)).flatMap pairO ++ (bodyO kids (spOf nm.f0.data.toList space) (tagOf nm) ++ r))) := by
  rw [nodeO_elem k nm t kids x space hk]
  unfold rawN
  rw [List.flatMap_append, rawA_str]
  have e : (nsOf nm.f0.data.toList space).flatMap pairO = if nm.f0.data.toList ≠ sXML ∧ nm.f0.data.toList ≠ space then attrO sXmlns nm.f0.data.toList else [] := by
    unfold nsOf
    split
    · simp [pairO]
    · rfl
  rw [e]
  simp only [List.append_assoc, List.cons_append, tagOf, spOf]
theorem body_head (kids : List Nd) (sp tag r : L) : ∃ c q, bodyO kids sp tag ++ r = c :: q ∧ (c = 47 ∨ c = 62) := by
  cases kids with
  | nil => exact ⟨47, _, rfl, Or.inl rfl⟩
  | cons d l => exact ⟨62, _, (by simp only [bodyO, List.cons_append, List.nil_append]; rfl), Or.inr rfl⟩
theorem raw_head (R : List (L × L)) (t : L) (h : ∃ c q, t = c :: q ∧ (c = 47 ∨ c = 62)) : ∃ c q, R.flatMap pairO ++ t = c :: q ∧ (c = 32 ∨ c = 47 ∨ c = 62) := by
  cases R with
  | nil => obtain ⟨c, q, e, k⟩ := h; exact ⟨c, q, e, Or.inr k⟩
  | cons a R => exact ⟨32, _, (by simp only [List.flatMap_cons, pairO, attrO, List.cons_append]; rfl), Or.inl rfl⟩
theorem shN_text {nm : Nm} {t : List At} {c : List Nd} {x : ByteArray} (h : shN ⟨2, nm, t, c, x⟩ = true) : x.data.toList ≠ [] ∧ nm.f0.data.toList = [] ∧ nm.f1.data.toList = [] ∧ t = [] ∧ c = [] := by
  rw [shN, if_pos rfl] at h
  simp only [Bool.and_eq_true, Bool.not_eq_true', beq_eq_false_iff_ne, beq_iff_eq, decide_eq_true_eq] at h
  rw [toList_data, toList_data, toList_data] at h
  exact ⟨h.1, h.2.2.1.1, h.2.2.1.2, List.length_eq_zero_iff.1 (by omega), List.length_eq_zero_iff.1 (by omega)⟩
theorem shN_elem {k : Int} {nm : Nm} {t : List At} {c : List Nd} {x : ByteArray} (hk : k ≠ 2) (h : shN ⟨k, nm, t, c, x⟩ = true) : k = 1 ∧ x.data.toList = [] ∧ nameB nm.f1 = true ∧ Good (srt t) ∧ shNs c false = true := by
  rw [shN, if_neg hk] at h
  simp only [Bool.and_eq_true, decide_eq_true_eq] at h
  rw [toList_data] at h
  exact ⟨h.1, h.2.1, named_name h.2.2.1, good_of h.2.2.2.1, h.2.2.2.2⟩
theorem text_head {x : ByteArray} (h : x.data.toList ≠ []) (r : L) : ∃ c q, Esc.esc false x.data.toList ++ r = c :: q ∧ c ≠ 60 := by
  have h1 := Esc.esc_long false x.data.toList
  cases e : Esc.esc false x.data.toList with
  | nil => rw [e] at h1; exact absurd (List.length_eq_zero_iff.1 (by simpa using h1)) h
  | cons c q => exact ⟨c, _, rfl, (Esc.esc_mem false _ c (by rw [e]; simp)).1⟩
theorem node_text_eq (nm : Nm) (t : List At) (c : List Nd) (x : ByteArray) (sp : L) : nodeO ⟨2, nm, t, c, x⟩ sp = Esc.esc false x.data.toList := by unfold nodeO; rw [if_pos rfl]
theorem body_inj (sp tag : L) : ∀ (l l' : List Nd) (r r' : L), (∀ r r', nodesO l sp ++ (60 :: 47 :: r) = nodesO l' sp ++ (60 :: 47 :: r') → normL l = normL l' ∧ r = r') → bodyO l sp tag ++ r = bodyO l' sp tag ++ r' → normL l = normL l' ∧ r = r'
  | [], [], r, r', _, h => ⟨rfl, List.append_cancel_left h⟩
  | [], d :: l', r, r', _, h => by
    simp only [bodyO, List.cons_append, List.nil_append] at h
    injection h with h _
    exact absurd h (by decide)
  | d :: l, [], r, r', _, h => by
    simp only [bodyO, List.cons_append, List.nil_append] at h
    injection h with h _
    exact absurd h (by decide)
  | d :: l, d' :: l', r, r', H, h => by
    simp only [bodyO, List.cons_append, List.nil_append, List.append_assoc] at h
    injection h with _ h
    obtain ⟨e1, e2⟩ := H _ _ h
    have e3 := List.append_cancel_left e2
    injection e3 with _ e3
    exact ⟨e1, e3⟩
theorem node_not_end (d : Nd) (sp z r : L) (hd : shN d = true) (h : 60 :: 47 :: r = nodeO d sp ++ z) : False := by
  obtain ⟨k, nm, t, c, x⟩ := d
  by_cases e : k = 2
  · subst e
    obtain ⟨a1, _⟩ := shN_text hd
    rw [node_text_eq] at h
    obtain ⟨d, q, hd, hd60⟩ := text_head a1 z
    rw [hd] at h
    injection h with h _
    exact hd60 h.symm
  · obtain ⟨_, _, a3, _, _⟩ := shN_elem e hd
    rw [elem_eq k nm t c x sp z e] at h
    injection h with _ h
    obtain ⟨t1, t2⟩ := tag_bytes a3
    cases et : tagOf nm with
    | nil => exact t1 et
    | cons y q =>
      rw [et] at h
      injection h with h _
      exact (t2 y (by rw [et]; simp)).2.1 h.symm
theorem after_text (l : List Nd) (b : Bool) (sp r : L) (h : shNs l true = true) : ∃ q, nodesO l sp ++ (60 :: 47 :: r) = 60 :: q := by
  cases l with
  | nil => exact ⟨_, by rw [nodesO]; rfl⟩
  | cons d l =>
    rw [shNs, Bool.and_eq_true, Bool.and_eq_true, Bool.true_and, Bool.not_eq_true', decide_eq_false_iff_not] at h
    obtain ⟨k, nm, t, c, x⟩ := d
    rw [nodesO, List.append_assoc, elem_eq k nm t c x sp _ h.2.1]
    exact ⟨_, rfl⟩
mutual
theorem node_inj : ∀ (n m : Nd) (sp r r' : L), shN n = true → shN m = true → (n.f0 = 2 → ∃ q, r = 60 :: q) → (m.f0 = 2 → ∃ q, r' = 60 :: q) → nodeO n sp ++ r = nodeO m sp ++ r' → normN n = normN m ∧ r = r'
  | ⟨k, nm, t, c, x⟩, ⟨k', nm', t', c', x'⟩, sp, r, r', hn, hm, ht, ht', h => by
    by_cases e : k = 2
    · subst e
      obtain ⟨a1, a2, a3, a4, a5⟩ := shN_text hn
      by_cases e' : k' = 2
      · subst e'
        obtain ⟨b1, b2, b3, b4, b5⟩ := shN_text hm
        rw [node_text_eq, node_text_eq] at h
        obtain ⟨q, hq⟩ := ht rfl
        obtain ⟨q', hq'⟩ := ht' rfl
        obtain ⟨e1, e2⟩ := cut_at (fun c => c = 60) (fun c hc => (Esc.esc_mem false _ c hc).1) (fun c hc => (Esc.esc_mem false _ c hc).1) ⟨60, q, hq, rfl⟩ ⟨60, q', hq', rfl⟩ h
        subst a4 a5 b4 b5
        rw [bytes_ext (esc_inj false e1), nm_ext (a2.trans b2.symm) (a3.trans b3.symm)]
        exact ⟨rfl, e2⟩
      · rw [node_text_eq, elem_eq k' nm' t' c' x' sp r' e'] at h
        obtain ⟨d, q, hd, hd60⟩ := text_head a1 r
        rw [hd] at h
        injection h with h _
        exact absurd h hd60
    · obtain ⟨a1, a2, a3, a4, a5⟩ := shN_elem e hn
      by_cases e' : k' = 2
      · subst e'
        obtain ⟨b1, b2, b3, b4, b5⟩ := shN_text hm
        rw [node_text_eq, elem_eq k nm t c x sp r e] at h
        obtain ⟨d, q, hd, hd60⟩ := text_head b1 r'
        rw [hd] at h
        injection h with h _
        exact absurd h.symm hd60
      · obtain ⟨b1, b2, b3, b4, b5⟩ := shN_elem e' hm
        rw [elem_eq k nm t c x sp r e, elem_eq k' nm' t' c' x' sp r' e'] at h
        injection h with _ h
        have bh := body_head c (spOf nm.f0.data.toList sp) (tagOf nm) r
        have bh' := body_head c' (spOf nm'.f0.data.toList sp) (tagOf nm') r'
        have c1 : ∀ (n : Nm), nameB n.f1 = true → ∀ c ∈ tagOf n, ¬ (c = 32 ∨ c = 47 ∨ c = 62) := fun n hn c hc k => by
          have := (tag_bytes hn).2 c hc
          rcases k with k | k | k
          · exact this.1 k
          · exact this.2.1 k
          · exact this.2.2 k
        obtain ⟨e1, h⟩ := cut_at (fun c => c = 32 ∨ c = 47 ∨ c = 62) (c1 nm a3) (c1 nm' b3) (raw_head _ _ bh) (raw_head _ _ bh') h
        have nb : ∀ {t : L}, (∃ c q, t = c :: q ∧ (c = 47 ∨ c = 62)) → ∃ c r, t = c :: r ∧ c ≠ 32 := by
          rintro t ⟨c, q, e, k⟩
          exact ⟨c, q, e, by rcases k with rfl | rfl <;> decide⟩
        obtain ⟨e2, h⟩ := pairs_inj (rawN_clean a4 _ _) (rawN_clean b4 _ _) (nb bh) (nb bh') h
        obtain ⟨e3, e4⟩ := rawN_inj a4 b4 _ _ _ e2
        obtain ⟨e5, e6⟩ := tag_inj a3 b3 e1
        have e7 := ns_inj e5 e3
        have e8 : normL c = normL c' ∧ r = r' := by
          rw [e7, e1] at h
          exact body_inj (spOf nm'.f0.data.toList sp) (tagOf nm') c c' r r' (fun r r' h => nodes_inj c c' false false _ r r' a5 b5 h) h
        subst a1 b1
        rw [normN, normN, nm_ext e7 e6, e8.1, ord_of_perm ((srt_perm t).symm.trans (e4 ▸ srt_perm t')), bytes_ext (a2.trans b2.symm)]
        exact ⟨rfl, e8.2⟩
theorem nodes_inj : ∀ (l l' : List Nd) (b b' : Bool) (sp r r' : L), shNs l b = true → shNs l' b' = true → nodesO l sp ++ (60 :: 47 :: r) = nodesO l' sp ++ (60 :: 47 :: r') → normL l = normL l' ∧ r = r'
  | [], [], b, b', sp, r, r', _, _, h => by
    simp only [nodesO, List.nil_append] at h
    injection h with _ h
    injection h with _ h
    exact ⟨rfl, h⟩
  | [], d :: l', b, b', sp, r, r', _, h2, h => by
    exfalso
    rw [shNs, Bool.and_eq_true] at h2
    rw [nodesO, List.nil_append, nodesO, List.append_assoc] at h
    exact node_not_end d sp _ r h2.1 h
  | d :: l, [], b, b', sp, r, r', h1, _, h => by
    exfalso
    rw [shNs, Bool.and_eq_true] at h1
    rw [nodesO, nodesO, List.nil_append, List.append_assoc] at h
    exact node_not_end d sp _ r' h1.1 h.symm
  | d :: l, d' :: l', b, b', sp, r, r', h1, h2, h => by
    rw [shNs, Bool.and_eq_true, Bool.and_eq_true] at h1 h2
    rw [nodesO, nodesO, List.append_assoc, List.append_assoc] at h
    obtain ⟨e1, e2⟩ := node_inj d d' sp _ _ h1.1 h2.1 (fun k => after_text l false sp r (by rw [decide_eq_true k] at h1; exact h1.2.2)) (fun k => after_text l' false sp r' (by rw [decide_eq_true k] at h2; exact h2.2.2)) h
    obtain ⟨e3, e4⟩ := nodes_inj l l' _ _ sp r r' h1.2.2 h2.2.2 e2
    rw [normL, normL, e1, e3]
    exact ⟨rfl, e4⟩
end
theorem attrsF_iff : ∀ (l : List At) (seen : List (L × L)), attrsF seen l = true ↔ (∀ a ∈ l, namedB a.f0 = true ∧ signsB a.f1 = true ∧ isXmlns a.f0 = false ∧ keyA a ∉ seen) ∧ (l.map keyA).Nodup
  | [], seen => ⟨fun _ => ⟨fun _ h => (by cases h), List.nodup_nil⟩, fun _ => by unfold attrsF; rfl⟩
  | b :: r, seen => by
    rw [attrsF, Bool.and_eq_true, attrsF_iff r]
    unfold okA
    simp only [Bool.and_eq_true, Bool.not_eq_true', decide_eq_false_iff_not, List.map_cons, List.nodup_cons, List.mem_cons, List.mem_append, List.not_mem_nil, or_false, forall_eq_or_imp, List.mem_map, not_exists, not_and]
    constructor
    · rintro ⟨⟨h1, h2, h3, h4⟩, h5, h6⟩
      exact ⟨⟨⟨h1, h2, h3, h4⟩, fun a ha => ⟨(h5 a ha).1, (h5 a ha).2.1, (h5 a ha).2.2.1, fun k => (h5 a ha).2.2.2 (Or.inl k)⟩⟩, fun a ha e => (h5 a ha).2.2.2 (Or.inr e), h6⟩
    · rintro ⟨⟨⟨h1, h2, h3, h4⟩, h5⟩, h6, h7⟩
      exact ⟨⟨h1, h2, h3, h4⟩, fun a ha => ⟨(h5 a ha).1, (h5 a ha).2.1, (h5 a ha).2.2.1, fun k => k.elim (h5 a ha).2.2.2 (h6 a ha)⟩, h7⟩
theorem attrsB_perm {l l' : List At} (p : l.Perm l') (h : attrsB l = true) : attrsB l' = true := by
  unfold attrsB at *
  rw [Bool.and_eq_true, decide_eq_true_eq, attrsF_iff] at *
  exact ⟨⟨fun a ha => h.1.1 a (p.mem_iff.2 ha), (p.map keyA).nodup_iff.1 h.1.2⟩, by rw [← p.length_eq]; exact h.2⟩
theorem norm_parts {k k' : Int} {nm nm' : Nm} {t t' : List At} {c c' : List Nd} {x x' : ByteArray} (h : normN ⟨k, nm, t, c, x⟩ = normN ⟨k', nm', t', c', x'⟩) : k = k' ∧ nm = nm' ∧ t.Perm t' ∧ normL c = normL c' ∧ x = x' := by
  rw [normN, normN] at h
  injection h with a b d e f
  exact ⟨a, b, (ord_perm t).symm.trans (d ▸ ord_perm t'), e, f⟩
mutual
theorem same_all : ∀ (n m : Nd), normN n = normN m → n.f0 = m.f0 ∧ cnt n = cnt m ∧ dp n = dp m ∧ (shN n = true → shN m = true ∧ ∀ sp, nodeO n sp = nodeO m sp)
  | ⟨k, nm, t, c, x⟩, ⟨k', nm', t', c', x'⟩, h => by
    obtain ⟨rfl, rfl, p, hc, rfl⟩ := norm_parts h
    obtain ⟨i1, i2, i3, i4⟩ := sames_all c c' hc
    refine ⟨rfl, by rw [cnt, cnt, i2], by rw [dp, dp, i3], fun hs => ?_⟩
    rw [shN] at hs
    by_cases e : k = 2
    · subst e
      rw [if_pos rfl] at hs
      rw [shN, if_pos rfl, ← p.length_eq, ← i1]
      exact ⟨hs, fun sp => by rw [node_text_eq, node_text_eq]⟩
    · rw [if_neg e] at hs
      simp only [Bool.and_eq_true] at hs
      obtain ⟨j1, j2⟩ := i4 false hs.2.2.2.2
      refine ⟨?_, fun sp => ?_⟩
      · rw [shN, if_neg e]
        simp only [Bool.and_eq_true]
        exact ⟨hs.1, hs.2.1, hs.2.2.1, attrsB_perm p hs.2.2.2.1, j1⟩
      · rw [nodeO_elem k nm t c x sp e, nodeO_elem k nm t' c' x sp e, srt_of_perm p hs.2.2.2.1]
        congr 1
        cases c with
        | nil => cases c' with
          | nil => rfl
          | cons d l => cases i1
        | cons d l => cases c' with
          | nil => cases i1
          | cons d' l' => simp only [bodyO]; rw [j2]
theorem sames_all : ∀ (l l' : List Nd), normL l = normL l' → l.length = l'.length ∧ cnts l = cnts l' ∧ dps l = dps l' ∧ (∀ b, shNs l b = true → shNs l' b = true ∧ ∀ sp, nodesO l sp = nodesO l' sp)
  | [], [], _ => ⟨rfl, rfl, rfl, fun b h => ⟨h, fun sp => rfl⟩⟩
  | [], d :: l, h => by rw [normL, normL] at h; cases h
  | d :: l, [], h => by rw [normL, normL] at h; cases h
  | d :: l, d' :: l', h => by
    rw [normL, normL] at h
    injection h with h1 h2
    obtain ⟨a0, a1, a2, a3⟩ := same_all d d' h1
    obtain ⟨b0, b1, b2, b3⟩ := sames_all l l' h2
    refine ⟨by rw [List.length_cons, List.length_cons, b0], by rw [cnts, cnts, a1, b1], by rw [dps, dps, a2, b2], fun b hs => ?_⟩
    rw [shNs, Bool.and_eq_true, Bool.and_eq_true] at hs
    obtain ⟨c1, c2⟩ := a3 hs.1
    obtain ⟨d1, d2⟩ := b3 _ hs.2.2
    refine ⟨?_, fun sp => by rw [nodesO, nodesO, c2, d2]⟩
    rw [shNs, Bool.and_eq_true, Bool.and_eq_true, ← a0]
    exact ⟨c1, hs.2.1, d1⟩
end
theorem right_same {n m : Nd} (h : normN n = normN m) (hr : rightB n = true) : rightB m = true := by
  obtain ⟨a, b, c, d⟩ := same_all n m h
  rw [rightB_iff] at *
  rw [← a, ← b, ← c]
  exact ⟨hr.1, hr.2.1, hr.2.2.1, (d hr.2.2.2).1⟩
/-- Trees that are the same are printed alike. -/
theorem print_same {n m : Nd} (h : normN n = normN m) : printN n = printN m := by
  unfold printN
  by_cases hr : rightB n = true
  · rw [if_pos hr, if_pos (right_same h hr), ((same_all n m h).2.2.2 ((rightB_iff n).1 hr).2.2.2).2]
  · rw [if_neg hr, if_neg (fun k => hr (right_same h.symm k))]
theorem print_ok {n : Nd} (h : (printN n).2 = 0) : rightB n = true ∧ (printN n).1 = nodeO n [] := by
  unfold printN at *
  by_cases hr : rightB n = true
  · rw [if_pos hr] at h ⊢
    by_cases hl : 32768 < (nodeO n []).length
    · rw [if_pos hl] at h; cases h
    · rw [if_neg hl]; exact ⟨hr, rfl⟩
  · rw [if_neg hr] at h; cases h
/-- Trees that are not the same are not printed alike. -/
theorem print_other {n m : Nd} (h : normN n ≠ normN m) (hn : (printN n).2 = 0) (hm : (printN m).2 = 0) : (printN n).1 ≠ (printN m).1 := by
  obtain ⟨r1, e1⟩ := print_ok hn
  obtain ⟨r2, e2⟩ := print_ok hm
  rw [e1, e2]
  intro e
  have k1 := (rightB_iff n).1 r1
  have k2 := (rightB_iff m).1 r2
  exact h (node_inj n m [] [] [] k1.2.2.2 k2.2.2.2 (fun k => by rw [k1.1] at k; cases k) (fun k => by rw [k2.1] at k; cases k) (by rw [e])).1
end Go.Proofs.YtffpbhbiamkkpaaDoor.PI
