/- The reference's prefixes and numbers of prefixes: print's. -/
import Derived.Test.YtffpbhbiamkkpaaDoorRefSort
import Derived.Test.YtffpbhbiamkkpaaDoorPAtt
namespace Go.Proofs.YtffpbhbiamkkpaaDoor.PP
open Go Go.RowKit Go.Proofs.YtffpbhbiamkkpaaDoorW.PrintWords Go.Proofs.YtffpbhbiamkkpaaDoor.PR Go.Proofs.YtffpbhbiamkkpaaDoor.ND
open Go.Lib (compareBytes)
open Go.Proofs.YtffpbhbiamkkpaaDoor.Prt (L sXML spc loc decls yf1 prefOf pos yj3 yk3 attrO)
set_option linter.unusedVariables false
def mk (l : L) : ByteArray := ⟨l.toArray⟩
theorem mk_app (a b : L) : mk a ++ mk b = mk (a ++ b) := by
  apply ByteArray.ext
  rw [ByteArray.data_append]
  simp [mk]
theorem mk_data (x : ByteArray) : mk x.data.toList = x := by
  apply ByteArray.ext
  simp [mk]
theorem ys4 (l : L) : (mk l).data.toList = l := by simp [mk]
theorem toList_mk (l : L) : (mk l).toList = l := by rw [Lib.toList_data, ys4]
theorem size_mk (l : L) : (mk l).size = l.length := by rw [Lib.size_eq, ys4]
theorem num_f : ∀ n : Fin 40, ye2.f (((n.val + 1 : Nat)) : Int) = some (mk (Lib.itoa (((n.val + 1 : Nat)) : Int))) := by decide +kernel
theorem number_f (n : Nat) (h : n < 40) : ye2.f ((n + 1 : Nat) : Int) = some (mk (Lib.itoa ((n + 1 : Nat) : Int))) := num_f ⟨n, h⟩
theorem yq2 (p : List L) (s : L) : (prefOf p s).isSome = true ↔ (s = [] ∨ s = sXML ∨ s ∈ p) := by
  unfold prefOf
  by_cases h0 : s = []
  · rw [if_pos h0]; simp [h0]
  rw [if_neg h0]
  by_cases h1 : s = sXML
  · rw [if_pos h1]; simp [h1]
  rw [if_neg h1]
  by_cases h2 : s ∈ p
  · obtain ⟨i, hi, _⟩ := yk3 p s h2
    rw [hi]; simp [h2]
  · rw [yj3 p s h2]; simp [h0, h1, h2]
theorem decls_step (l : List At) (i : Nat) (h : i < l.length) : decls (l.take (i + 1)) = yf1 (decls (l.take i)) l[i] := by
  rw [List.take_add_one, List.getElem?_eq_getElem h]
  exact Prt.yo7 _ _
theorem decl_keep {st : List L × L} {a : At} (h : (prefOf st.1 (spc a)).isSome = true) : yf1 st a = st := by unfold yf1; rw [if_pos h]
theorem decl_new {st : List L × L} {a : At} (h : ¬ (prefOf st.1 (spc a)).isSome = true) : (yf1 st a).1 = st.1 ++ [spc a] := by unfold yf1; rw [if_neg h]
theorem spc_le {x y : At} (h : leA x y = true) : compareBytes (spc x) (spc y) ≤ 0 := by
  unfold leA cfA at h
  simp only [decide_eq_true_eq] at h
  unfold Prt.spc
  split at h
  · exact h
  · rename_i h2
    have : compareBytes x.f0.f0.data.toList y.f0.f0.data.toList = 0 := by simpa using h2
    omega
theorem pre_from (l : List At) (hl : l.length ≤ 50000) (hs : l.Pairwise (fun x y => leA x y = true)) : ∀ (d i : Nat) (out : List ByteArray), l.length - i ≤ d → i ≤ l.length → out.length ≤ i → out.map (fun x => x.data.toList) = (decls (l.take i)).1 →
    (∀ x ∈ (decls (l.take i)).1, ∀ q, (hq : q < l.length) → i ≤ q → compareBytes x (spc l[q]) ≤ 0) → (decls (l.take i)).1.Pairwise (fun x y => compareBytes x y < 0) →
    ∃ o : List ByteArray, o.map (fun x => x.data.toList) = (decls l).1 ∧ ∃ K, ∀ k, K ≤ k → yc0.l0 k l out (i : Int) = some o := by
  have stop : ∀ (i : Nat) (out : List ByteArray), i = l.length → out.map (fun x => x.data.toList) = (decls (l.take i)).1 → ∃ o : List ByteArray, o.map (fun x => x.data.toList) = (decls l).1 ∧ ∃ K, ∀ k, K ≤ k → yc0.l0 k l out (i : Int) = some o := by
    rintro i out rfl hm
    rw [List.take_length] at hm
    refine ⟨out, hm, 1, fun k hk => ?_⟩
    obtain ⟨k, rfl⟩ : ∃ m, k = m + 1 := ⟨k - 1, by omega⟩
    rw [yc0.l0, if_neg (by omega)]
  intro d
  induction d with
  | zero => intro i out hd hi ho hm h1 h2; exact stop i out (by omega) hm
  | succ d ih =>
    intro i out hd hi ho hm h1 h2
    by_cases hlt : i < l.length
    · have es := decls_step l i hlt
      obtain ⟨s, hsp⟩ : ∃ s, spc l[i] = s := ⟨_, rfl⟩
      have hsd : l[i].f0.f0.data.toList = s := hsp
      have stepE : wrap64 ((i : Int) + 1) = ((i + 1 : Nat) : Int) := by rw [w64t _ (by omega) (by omega)]; omega
      have keep : (s = [] ∨ s = sXML ∨ s ∈ (decls (l.take i)).1) → ∃ o : List ByteArray, o.map (fun x => x.data.toList) = (decls l).1 ∧ ∃ K, ∀ k, K ≤ k → yc0.l0 k l out ((i + 1 : Nat) : Int) = some o := by
        intro h
        have e := decl_keep (st := decls (l.take i)) (a := l[i]) ((yq2 _ _).2 (by rw [hsp]; exact h))
        rw [e] at es
        refine ih (i + 1) out (by omega) (by omega) (by omega) (by rw [es]; exact hm) ?_ (by rw [es]; exact h2)
        rw [es]
        exact fun x hx q hq hiq => h1 x hx q hq (by omega)
      have new : ¬ (s = [] ∨ s = sXML ∨ s ∈ (decls (l.take i)).1) → ∃ o : List ByteArray, o.map (fun x => x.data.toList) = (decls l).1 ∧ ∃ K, ∀ k, K ≤ k → yc0.l0 k l (out ++ [l[i].f0.f0]) ((i + 1 : Nat) : Int) = some o := by
        intro h
        have e := decl_new (st := decls (l.take i)) (a := l[i]) (fun k => h (by have := (yq2 _ _).1 k; rw [hsp] at this; exact this))
        rw [← es, hsp] at e
        refine ih (i + 1) (out ++ [l[i].f0.f0]) (by omega) (by omega) (by rw [List.length_append, List.length_singleton]; omega) ?_ ?_ ?_
        · rw [e, List.map_append, hm]
          simp [hsd]
        · rw [e]
          intro x hx q hq hiq
          rcases List.mem_append.1 hx with hx | hx
          · exact h1 x hx q hq (by omega)
          · obtain rfl : x = s := by simpa using hx
            rw [← hsp]
            exact spc_le (List.pairwise_iff_getElem.1 hs i q hlt hq (by omega))
        · rw [e]
          refine List.pairwise_append.2 ⟨h2, by simp, fun x hx y hy => ?_⟩
          obtain rfl : y = s := by simpa using hy
          have h3 := h1 x hx i hlt (Nat.le_refl _)
          rw [hsp] at h3
          rcases Int.lt_or_eq_of_le h3 with h4 | h4
          · exact h4
          · exact absurd (Or.inr (Or.inr (by rw [← cb_eq _ _ h4]; exact hx))) h
      have hrd := rdA l i hlt
      by_cases c0 : s = []
      · obtain ⟨o, ho1, K, hK⟩ := keep (Or.inl c0)
        refine ⟨o, ho1, K + 1, fun k hk => ?_⟩
        obtain ⟨k, rfl⟩ : ∃ m, k = m + 1 := ⟨k - 1, by omega⟩
        rw [yc0.l0, if_pos (by omega), if_pos (by omega), hrd, Lib.toList_data, hsd, if_pos c0, stepE]
        exact hK k (by omega)
      by_cases c1 : s = sXML
      · obtain ⟨o, ho1, K, hK⟩ := keep (Or.inr (Or.inl c1))
        refine ⟨o, ho1, K + 1, fun k hk => ?_⟩
        obtain ⟨k, rfl⟩ : ∃ m, k = m + 1 := ⟨k - 1, by omega⟩
        rw [yc0.l0, if_pos (by omega), if_pos (by omega), hrd, Lib.toList_data, hsd, if_neg c0]
        refine (if_pos c1).trans ?_
        rw [stepE]
        exact hK k (by omega)
      by_cases c2 : out.length = 0
      · have hn : (decls (l.take i)).1 = [] := by rw [← hm, List.length_eq_zero_iff.1 c2]; rfl
        obtain ⟨o, ho1, K, hK⟩ := new (by rw [hn]; simp [c0, c1])
        refine ⟨o, ho1, K + 1, fun k hk => ?_⟩
        obtain ⟨k, rfl⟩ : ∃ m, k = m + 1 := ⟨k - 1, by omega⟩
        rw [yc0.l0, if_pos (by omega), if_pos (by omega), hrd, Lib.toList_data, hsd, if_neg c0]
        refine (if_neg c1).trans ?_
        rw [if_pos (by omega), if_pos (by omega), stepE]
        exact hK k (by omega)
      have hlast : (rdOf ByteArray.empty out (wrap64 ((out.length : Int) - 1))).toList = (out[out.length - 1]'(by omega)).data.toList := by
        rw [w64t _ (by omega) (by omega)]
        unfold rdOf
        rw [show ((out.length : Int) - 1).toNat = out.length - 1 by omega, List.getD_eq_getElem?_getD, List.getElem?_eq_getElem (by omega), Option.getD_some, Lib.toList_data]
      have hpl : (decls (l.take i)).1.length = out.length := by rw [← hm, List.length_map]
      have hpe : ∀ q, (h : q < out.length) → (decls (l.take i)).1[q]'(by omega) = (out[q]'h).data.toList := by
        intro q h
        have : (decls (l.take i)).1[q]? = some (out[q]'h).data.toList := by rw [← hm, List.getElem?_map, List.getElem?_eq_getElem h]; rfl
        rw [List.getElem?_eq_getElem (by omega)] at this
        exact Option.some.inj this
      by_cases c3 : (out[out.length - 1]'(by omega)).data.toList = s
      · obtain ⟨o, ho1, K, hK⟩ := keep (Or.inr (Or.inr (by rw [← c3, ← hpe]; exact List.getElem_mem _)))
        refine ⟨o, ho1, K + 1, fun k hk => ?_⟩
        obtain ⟨k, rfl⟩ : ∃ m, k = m + 1 := ⟨k - 1, by omega⟩
        rw [yc0.l0, if_pos (by omega), if_pos (by omega), hrd, Lib.toList_data, hsd, if_neg c0]
        refine (if_neg c1).trans ?_
        rw [if_neg (by omega), hlast, w64t ((out.length : Int) - 1) (by omega) (by omega), if_pos (by omega), if_pos (by omega), if_pos c3, stepE]
        exact hK k (by omega)
      · have hnm : ¬ s ∈ (decls (l.take i)).1 := by
          intro hmem
          obtain ⟨q, hq, hqe⟩ := List.getElem_of_mem hmem
          by_cases e : q = out.length - 1
          · subst e
            exact c3 (by rw [← hpe _ (by omega)]; exact hqe)
          · have k1 := List.pairwise_iff_getElem.1 h2 q (out.length - 1) hq (by omega) (by omega)
            have k2 := h1 _ (List.getElem_mem (show out.length - 1 < (decls (l.take i)).1.length by omega)) i hlt (Nat.le_refl _)
            rw [hqe] at k1
            rw [hsp, yq7 s] at k2
            omega
        obtain ⟨o, ho1, K, hK⟩ := new (by simp [c0, c1, hnm])
        refine ⟨o, ho1, K + 1, fun k hk => ?_⟩
        obtain ⟨k, rfl⟩ : ∃ m, k = m + 1 := ⟨k - 1, by omega⟩
        rw [yc0.l0, if_pos (by omega), if_pos (by omega), hrd, Lib.toList_data, hsd, if_neg c0]
        refine (if_neg c1).trans ?_
        rw [if_neg (by omega), hlast, w64t ((out.length : Int) - 1) (by omega) (by omega), if_pos (by omega), if_pos (by omega), if_neg c3, if_pos (by omega), stepE]
        exact hK k (by omega)
    · exact stop i out (by omega) hm
theorem ref_prefixes (l : List At) (hl : l.length ≤ 50000) (hs : l.Pairwise (fun x y => leA x y = true)) : ∃ o : List ByteArray, o.map (fun x => x.data.toList) = (decls l).1 ∧ ∃ K, ∀ k, K ≤ k → yc0.f k l = some o :=
  pre_from l hl hs l.length 0 [] (by omega) (by omega) (by simp) (by simp [Prt.decls]) (by simp [Prt.decls]) (by simp [Prt.decls])
/-- The declarations of prefixes, from number i on. -/
def dstr : Nat → List L → L
  | _, [] => []
  | i, s :: r => attrO ([120, 109, 108, 110, 115, 58] ++ (110 :: Lib.itoa ((i + 1 : Nat) : Int))) s ++ dstr (i + 1) r
theorem dstr_app : ∀ (p : List L) (i : Nat) (s : L), dstr i (p ++ [s]) = dstr i p ++ attrO ([120, 109, 108, 110, 115, 58] ++ (110 :: Lib.itoa ((i + p.length + 1 : Nat) : Int))) s
  | [], i, s => by simp [dstr]
  | a :: p, i, s => by
    rw [List.cons_append, dstr, dstr, dstr_app p (i + 1) s, List.append_assoc, List.length_cons]
    rw [show i + 1 + p.length + 1 = i + (p.length + 1) + 1 by omega]
theorem decls_str (l : List At) : (decls l).2 = dstr 0 (decls l).1 ∧ [] ∉ (decls l).1 ∧ sXML ∉ (decls l).1 ∧ (decls l).1.Nodup := by
  have go : ∀ (l : List At) (st : List L × L), (st.2 = dstr 0 st.1 ∧ [] ∉ st.1 ∧ sXML ∉ st.1 ∧ st.1.Nodup) → ((l.foldl yf1 st).2 = dstr 0 (l.foldl yf1 st).1 ∧ [] ∉ (l.foldl yf1 st).1 ∧ sXML ∉ (l.foldl yf1 st).1 ∧ (l.foldl yf1 st).1.Nodup) := by
    intro l
    induction l with
    | nil => intro st h; exact h
    | cons a l ih =>
      intro st h
      rw [List.foldl_cons]
      refine ih _ ?_
      unfold yf1
      by_cases c : (prefOf st.1 (spc a)).isSome = true
      · rw [if_pos c]; exact h
      · rw [if_neg c]
        have hn : ¬ (spc a = [] ∨ spc a = sXML ∨ spc a ∈ st.1) := fun k => c ((yq2 _ _).2 k)
        refine ⟨?_, ?_, ?_, ?_⟩
        · show st.2 ++ _ = _
          rw [dstr_app, h.1, Nat.zero_add]
          rfl
        · intro k
          rcases List.mem_append.1 k with k | k
          · exact h.2.1 k
          · exact hn (Or.inl (by simp at k; exact k))
        · intro k
          rcases List.mem_append.1 k with k | k
          · exact h.2.2.1 k
          · exact hn (Or.inr (Or.inl (by simp at k; exact k.symm)))
        · refine List.nodup_append.2 ⟨h.2.2.2, by simp, ?_⟩
          intro x hx y hy e
          obtain rfl : y = spc a := by simpa using hy
          exact hn (Or.inr (Or.inr (e ▸ hx)))
  exact go l ([], []) ⟨rfl, by simp, by simp, by simp⟩
end Go.Proofs.YtffpbhbiamkkpaaDoor.PP
