/- The document's loop over a text is the text's meaning, byte by byte. -/
import Derived.Test.YtffpbhbiamkkpaaDoorPureLexC
namespace Go.Proofs.YtffpbhbiamkkpaaDoor.PL
open Go.RowKit Go.Proofs.YtffpbhbiamkkpaaDoorW.PrintWords Go.Proofs.YtffpbhbiamkkpaaDoorW.PrintLast Go.Proofs.YtffpbhbiamkkpaaDoorW.PrintMore Go.Plain
set_option linter.unusedVariables false
theorem mk_data (t : ByteArray) : (⟨t.data.toList.toArray⟩ : ByteArray) = t := by cases t; simp
def ints (l : List UInt8) : List Int := l.map fun b => (b.toNat : Int)
def RefSays (s : ByteArray) (attr : Bool) (out : List Int) (i : Nat) : Except Nat (List UInt8) → Prop
  | .ok r => ∃ k, watchbillref03_Unescape.l0 k s attr out i = some (strOfNums (out ++ ints r), 0, 0)
  | .error p => ∃ k, watchbillref03_Unescape.l0 k s attr out i = some (⟨#[]⟩, (p : Int), 16)
theorem bt_data (s : ByteArray) (i : Nat) (h : i < s.data.toList.length) : bt s i = ((s.data.toList[i]).toNat : Int) := by
  have h' : i < s.size := by rw [Lib.size_eq]; exact h
  unfold bt
  rw [Int.toNat_natCast, dif_pos h']
  rfl
theorem bt_is (s : ByteArray) (i : Nat) (h : i < s.data.toList.length) (c : UInt8) : bt s i = (c.toNat : Int) ↔ s.data.toList[i] = c := by
  rw [bt_data s i h]
  constructor
  · intro e
    exact UInt8.toNat_inj.1 (by omega)
  · intro e
    rw [e]
/-- A byte more: what is said of the rest is said of it all. -/
theorem RefSays.step {s : ByteArray} {attr : Bool} {out : List Int} {i j : Nat} {c : UInt8} {x : Except Nat (List UInt8)} (m : Nat) (hstep : ∀ k, watchbillref03_Unescape.l0 (k + m) s attr out i = watchbillref03_Unescape.l0 k s attr (out ++ [(c.toNat : Int)]) j)
    (h : RefSays s attr (out ++ [(c.toNat : Int)]) j x) : RefSays s attr out i (x.map (c :: ·)) := by
  cases x with
  | ok r =>
    obtain ⟨k, hk⟩ := h
    exact ⟨k + m, by rw [hstep, hk]; simp [ints, List.append_assoc]⟩
  | error p =>
    obtain ⟨k, hk⟩ := h
    exact ⟨k + m, by rw [hstep, hk]⟩
theorem blk10 (attr : Bool) : (blk attr 10).toNat = if attr = true then 32 else 10 := by cases attr <;> rfl
theorem j1_true (k : Nat) (s : ByteArray) (attr : Bool) (out : List Int) (i : Nat) (c : Int) (hs : s.size ≤ 140737488351232) (hi : i < s.size) (ho : out.length < 140737488355328) :
    watchbillref03_Unescape.j1 (k + 1) s attr out i c true = watchbillref03_Unescape.l0 k s attr (out ++ [((blk attr 10).toNat : Int)]) ((i + 2 : Nat) : Int) := by
  have e : wrap64 (wrap64 ((i : Int) + 1) + 1) = ((i + 2 : Nat) : Int) := by rw [w64 ((i : Int) + 1) (by omega) (by omega), w64 _ (by omega) (by omega)]; omega
  rw [watchbillref03_Unescape.j1, if_pos rfl, e]
  cases attr with
  | true => rw [if_pos rfl, if_neg (by decide), if_pos rfl, if_pos ho]; rfl
  | false => rw [if_neg (by decide), if_pos ho]; rfl
theorem j1_13 (k : Nat) (s : ByteArray) (attr : Bool) (out : List Int) (i : Nat) (hs : s.size ≤ 140737488351232) (hi : i < s.size) (ho : out.length < 140737488355328) :
    watchbillref03_Unescape.j1 (k + 1) s attr out i 13 false = watchbillref03_Unescape.l0 k s attr (out ++ [((blk attr 10).toNat : Int)]) ((i + 1 : Nat) : Int) := by
  have e : wrap64 ((i : Int) + 1) = ((i + 1 : Nat) : Int) := by rw [w64 _ (by omega) (by omega)]; omega
  rw [watchbillref03_Unescape.j1, if_neg (by decide), if_pos rfl, e]
  cases attr with
  | true => rw [if_pos rfl, if_neg (by decide), if_pos rfl, if_pos ho]; rfl
  | false => rw [if_neg (by decide), if_pos ho]; rfl
theorem j1_else (k : Nat) (s : ByteArray) (attr : Bool) (out : List Int) (i : Nat) (c : UInt8) (hc : c ≠ 13) (hs : s.size ≤ 140737488351232) (hi : i < s.size) (ho : out.length < 140737488355328) :
    watchbillref03_Unescape.j1 (k + 1) s attr out i (c.toNat : Int) false = watchbillref03_Unescape.l0 k s attr (out ++ [((blk attr c).toNat : Int)]) ((i + 1 : Nat) : Int) := by
  have e : wrap64 ((i : Int) + 1) = ((i + 1 : Nat) : Int) := by rw [w64 _ (by omega) (by omega)]; omega
  have hn : ∀ x : UInt8, (c.toNat : Int) = ((x.toNat : Nat) : Int) ↔ c = x := fun x => ⟨fun h => UInt8.toNat_inj.1 (by omega), fun h => by rw [h]⟩
  have h13 : ¬ (c.toNat : Int) = 13 := fun h => hc ((hn 13).1 h)
  rw [watchbillref03_Unescape.j1, if_neg (by decide), if_neg h13, e]
  cases attr with
  | true =>
    rw [if_pos rfl]
    by_cases h9 : c = 9
    · rw [if_pos (show (c.toNat : Int) = 9 from (hn 9).2 h9), if_pos ho, h9]; rfl
    · rw [if_neg (show ¬ (c.toNat : Int) = 9 from fun h => h9 ((hn 9).1 h))]
      by_cases h10 : c = 10
      · rw [if_pos (show (c.toNat : Int) = 10 from (hn 10).2 h10), if_pos ho, h10]; rfl
      · rw [if_neg (show ¬ (c.toNat : Int) = 10 from fun h => h10 ((hn 10).1 h)), if_pos ho]
        have : blk true c = c := by unfold blk; rw [if_neg]; rintro ⟨_, h | h⟩; exact h9 h; exact h10 h
        rw [this]
  | false =>
    rw [if_neg (by decide), if_pos ho]
    have : blk false c = c := by unfold blk; rw [if_neg]; rintro ⟨h, _⟩; cases h
    rw [this]
theorem bt_or (s : ByteArray) (i : Nat) (h : i < s.data.toList.length) : bt s i = ((s.data.toList[i]).toNat : Int) := bt_data s i h
/-- THE DOCUMENT's LOOP is the text's meaning, byte by byte. -/
theorem ref_unesc (s : ByteArray) (hs : s.size ≤ 1000000) (attr : Bool) : ∀ (d i : Nat) (out : List Int), i ≤ s.size → s.size - i ≤ d → out.length ≤ 4 * i →
    RefSays s attr out i (uL refL attr d i (s.data.toList.drop i)) := by
  have hend : ∀ (d i : Nat) (out : List Int), i = s.size → RefSays s attr out i (uL refL attr d i (s.data.toList.drop i)) := by
    intro d i out hi
    have hd : s.data.toList.drop i = [] := List.drop_of_length_le (by rw [← Lib.size_eq]; omega)
    rw [hd]
    have e : uL refL attr d i [] = .ok [] := by cases d <;> rfl
    rw [e]
    refine ⟨1, ?_⟩
    rw [watchbillref03_Unescape.l0, if_neg (by omega)]
    simp [ints]
  intro d
  induction d using Nat.strongRecOn with
  | ind d ih =>
    intro i out hi hd ho
    by_cases hlt : i < s.size
    case neg => exact hend d i out (by omega)
    obtain ⟨d, rfl⟩ : ∃ e, d = e + 1 := ⟨d - 1, by omega⟩
    have hl : i < s.data.toList.length := by rw [← Lib.size_eq]; exact hlt
    have hb := bt_data s i hl
    have e1 : wrap64 ((i : Int) + 1) = ((i + 1 : Nat) : Int) := by rw [w64 _ (by omega) (by omega)]; omega
    have hn : ∀ c x : UInt8, (c.toNat : Int) = ((x.toNat : Nat) : Int) ↔ c = x := fun c x => ⟨fun h => UInt8.toNat_inj.1 (by omega), fun h => by rw [h]⟩
    rw [List.drop_eq_getElem_cons hl, uL]
    by_cases h38 : s.data.toList[i] = 38
    · have hq : s.data.toList[i]? = some 38 := by rw [List.getElem?_eq_getElem hl, h38]
      obtain ⟨k0, hk0⟩ := ref_reference s (by omega) i hlt hq
      have hb38 : bt s i = 38 := by rw [hb, h38]; rfl
      rw [if_pos h38, ← List.drop_eq_getElem_cons hl]
      by_cases hneg : Lib.indexByte (s.data.toList.drop i) 59 < 0
      · rw [if_pos hneg]
        rw [if_pos hneg] at hk0
        refine ⟨k0 + 1, ?_⟩
        rw [watchbillref03_Unescape.l0, if_pos (by omega), if_pos (by omega), if_pos hb38, hk0, Option.bind_some, if_pos (by rw [Lib.toList_data])]
      · rw [if_neg hneg] at hk0 ⊢
        obtain ⟨n, hnn, hlt2, hat⟩ := lex_Unescape_idx _ _ hneg
        rw [List.length_drop, ← Lib.size_eq] at hlt2
        have hn1 : 1 ≤ n := by
          rcases Nat.eq_zero_or_pos n with rfl | h'
          · rw [List.getElem?_drop, Nat.add_zero, hq] at hat
            exact absurd hat (by decide)
          · exact h'
        rw [hnn] at hk0 ⊢
        simp only [Int.toNat_natCast] at hk0 ⊢
        have ht : (s.extract (i + 1) (i + n)).data.toList = (s.data.toList.drop (i + 1)).take (n - 1) := by
          rw [Lib.extract_data]; congr 1; omega
        have hR : refL ((s.data.toList.drop (i + 1)).take (n - 1)) = (refS (s.extract (i + 1) (i + n))).data.toList := by
          unfold refL; rw [← ht, mk_data]
        rw [hR]
        have hle := refS_le (s.extract (i + 1) (i + n))
        unfold refR at hk0
        generalize refS (s.extract (i + 1) (i + n)) = u at hle hk0 hR ⊢
        have husz : u.size = u.data.toList.length := Lib.size_eq u
        by_cases hz : u.size = 0
        · have hu : u.data.toList = [] := List.length_eq_zero_iff.1 (by omega)
          rw [if_pos hz] at hk0
          rw [if_pos hu]
          refine ⟨k0 + 1, ?_⟩
          rw [watchbillref03_Unescape.l0, if_pos (by omega), if_pos (by omega), if_pos hb38, hk0, Option.bind_some, if_pos (by rw [Lib.toList_data])]
        · have hu : ¬ u.data.toList = [] := fun h => hz (by rw [husz, h]; rfl)
          rw [if_neg hz] at hk0
          rw [if_neg hu, List.drop_drop]
          have hlen : (bytesOf u).length = u.size := bytesOf_length u
          have IH := ih d (by omega) (i + n + 1) (out ++ bytesOf u) (by omega) (by omega) (by rw [List.length_append, hlen]; omega)
          have e2 : wrap64 (((i + n : Nat) : Int) + 1) = ((i + n + 1 : Nat) : Int) := by rw [w64 _ (by omega) (by omega)]; omega
          rw [e2] at hk0
          have z1 : (i : Int) < (s.size : Int) := by clear e2; omega
          have z2 : (0 : Int) ≤ (i : Int) := by clear e2; omega
          have z3 : out.length + u.size < 140737488355328 := by clear e2; omega
          clear hn hend e1 hb
          have hstep : ∀ k, k0 ≤ k → watchbillref03_Unescape.l0 (k + 1) s attr out i = watchbillref03_Unescape.l0 k s attr (out ++ bytesOf u) ((i + n + 1 : Nat) : Int) := by
            intro k hk
            have h1 := at_rounds (g := fun k => watchbillref03_reference.f k s i) (fun k => watchbillref03_reference.mono s i k) hk hk0
            rw [watchbillref03_Unescape.l0, if_pos z1, if_pos z2, if_pos hb38, h1, Option.bind_some, if_neg (by rw [Lib.toList_data]; exact hu), if_pos z3]
          rw [show i + (n + 1) = i + n + 1 from (Nat.add_assoc i n 1).symm]
          generalize uL refL attr d (i + n + 1) (s.data.toList.drop (i + n + 1)) = x at IH
          cases x with
          | ok r =>
            obtain ⟨k1, hk1⟩ := IH
            refine ⟨k0 + k1 + 1, ?_⟩
            rw [hstep _ (Nat.le_add_right k0 k1), at_rounds (g := fun k => watchbillref03_Unescape.l0 k s attr (out ++ bytesOf u) ((i + n + 1 : Nat) : Int)) (fun k => (watchbillref03_Unescape.mono_l k).1 _ _ _ _) (Nat.le_add_left k1 k0) hk1]
            simp [ints, bytesOf]
          | error p =>
            obtain ⟨k1, hk1⟩ := IH
            refine ⟨k0 + k1 + 1, ?_⟩
            rw [hstep _ (Nat.le_add_right k0 k1), at_rounds (g := fun k => watchbillref03_Unescape.l0 k s attr (out ++ bytesOf u) ((i + n + 1 : Nat) : Int)) (fun k => (watchbillref03_Unescape.mono_l k).1 _ _ _ _) (Nat.le_add_left k1 k0) hk1]
    · rw [if_neg h38]
      have hb38 : ¬ bt s i = 38 := fun h => h38 ((hn _ 38).1 (hb.symm.trans h))
      by_cases h13 : s.data.toList[i] = 13
      · have hb13 : bt s i = 13 := by rw [hb, h13]; rfl
        by_cases hc : s.data.toList[i] = 13 ∧ (s.data.toList.drop (i + 1)).head? = some 10
        · rw [if_pos hc]
          have hl2 : i + 1 < s.data.toList.length := by
            rcases Nat.lt_or_ge (i + 1) s.data.toList.length with h | h
            · exact h
            · rw [List.drop_of_length_le h] at hc; exact absurd hc.2 (by simp)
          have hb2 : bt s ((i + 1 : Nat) : Int) = 10 := by
            rw [bt_data s (i + 1) hl2]
            have := hc.2
            rw [List.drop_eq_getElem_cons hl2] at this
            rw [show s.data.toList[i + 1] = 10 by simpa using this]
            rfl
          have ht : (s.data.toList.drop (i + 1)).tail = s.data.toList.drop (i + 2) := by rw [List.tail_drop]
          rw [ht]
          have hsz2 : i + 1 < s.size := by rw [Lib.size_eq]; exact hl2
          refine RefSays.step 2 (fun k => ?_) (ih d (by omega) (i + 2) _ (by omega) (by omega) (by simp; omega))
          rw [watchbillref03_Unescape.l0, if_pos (by omega), if_pos (by omega), if_neg hb38, if_pos hb13, e1, if_pos (by omega), if_pos (by omega), hb2]
          exact j1_true k s attr out i _ (by omega) hlt (by omega)
        · rw [if_neg hc, if_pos h13]
          refine RefSays.step 2 (fun k => ?_) (ih d (by omega) (i + 1) _ (by omega) (by omega) (by simp; omega))
          rw [watchbillref03_Unescape.l0, if_pos (by omega), if_pos (by omega), if_neg hb38, if_pos hb13, e1]
          by_cases hsz2 : i + 1 < s.size
          · have hl2 : i + 1 < s.data.toList.length := by rw [← Lib.size_eq]; exact hsz2
            have hb2 : (bt s ((i + 1 : Nat) : Int) == 10) = false := by
              rw [bt_data s (i + 1) hl2]
              refine beq_eq_false_iff_ne.2 (fun h => hc ⟨h13, ?_⟩)
              rw [List.drop_eq_getElem_cons hl2]
              simpa using (hn _ 10).1 h
            rw [if_pos (by omega), if_pos (by omega), hb2, hb13]
            exact j1_13 k s attr out i (by omega) hlt (by omega)
          · rw [if_neg (by omega), hb13]
            exact j1_13 k s attr out i (by omega) hlt (by omega)
      · have hb13 : ¬ bt s i = 13 := fun h => h13 ((hn _ 13).1 (hb.symm.trans h))
        rw [if_neg (fun h => h13 h.1), if_neg h13]
        refine RefSays.step 2 (fun k => ?_) (ih d (by omega) (i + 1) _ (by omega) (by omega) (by simp; omega))
        rw [watchbillref03_Unescape.l0, if_pos (by omega), if_pos (by omega), if_neg hb38, if_neg hb13, hb]
        exact j1_else k s attr out i _ h13 (by omega) hlt (by omega)
end Go.Proofs.YtffpbhbiamkkpaaDoor.PL
