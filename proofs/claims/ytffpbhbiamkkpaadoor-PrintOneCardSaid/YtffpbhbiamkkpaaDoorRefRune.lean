/- The reference's signs: watchbillref01.Rune is utf.Rune, at every place of every text. -/
import Derived.Test.YtffpbhbiamkkpaaDoorMx5
import Derived.Test.YtffpbhbiamkkpaaDoorPVx0
namespace Go.Proofs.YtffpbhbiamkkpaaDoor.Lx
open Go.RowKit Go.Proofs.YtffpbhbiamkkpaaDoor.PU Go.Proofs.YtffpbhbiamkkpaaDoorW.PrintWords
open Go.Proofs.YtffpbhbiamkkpaaDoor.PG (runeT rune_ends char_eq)
set_option linter.unusedVariables false
theorem bt_ext (s : ByteArray) (a b i : Nat) (h : a + i < b) (hb : b ≤ s.size) : bt (s.extract a b) (i : Int) = bt s ((a + i : Nat) : Int) := by
  unfold bt
  have h1 : ((i : Nat) : Int).toNat < (s.extract a b).size := by rw [ByteArray.size_extract, Int.toNat_natCast]; omega
  have h2 : ((a + i : Nat) : Int).toNat < s.size := by rw [Int.toNat_natCast]; omega
  rw [dif_pos h1, dif_pos h2]
  congr 2
  simp [ByteArray.getElem_eq_getElem_data]
  congr 1
theorem bytes_ext (s : ByteArray) (a k : Nat) (h : a + k ≤ s.size) : bytesOf (s.extract a (a + k)) = (List.range k).map fun i => bt s ((a + i : Nat) : Int) := by
  apply List.ext_getElem
  · rw [bytesOf_length, ByteArray.size_extract, List.length_map, List.length_range]; omega
  · intro i h1 h2
    rw [bytesOf_length, ByteArray.size_extract] at h1
    rw [List.getElem_map, List.getElem_range, ← bt_ext s a (a + k) i (by omega) h, ← rd_bytesOf]
    unfold rd
    rw [List.getD_eq_getElem?_getD, Int.toNat_natCast, List.getElem?_eq_getElem (by rw [bytesOf_length, ByteArray.size_extract]; omega), Option.getD_some]
section
variable (s : ByteArray) (i : Nat)
/-- The byte that stands so far behind place i. -/
def cb (q : Nat) : Int := bt s ((i + q : Nat) : Int)
theorem cb_range (q : Nat) : 0 ≤ cb s i q ∧ cb s i q ≤ 255 := bt_range _ _
def r2 : Int := cb s i 0 % 32 * 64 + cb s i 1 % 64
def r3 : Int := (cb s i 0 % 16 * 64 + cb s i 1 % 64) * 64 + cb s i 2 % 64
def r4 : Int := ((cb s i 0 % 8 * 64 + cb s i 1 % 64) * 64 + cb s i 2 % 64) * 64 + cb s i 3 % 64
def U1 : Prop := cb s i 0 < 128
def U2 : Prop := cb s i 0 / 32 = 6 ∧ cb s i 1 / 64 = 2 ∧ 128 ≤ r2 s i
def U3 : Prop := cb s i 0 / 16 = 14 ∧ cb s i 1 / 64 = 2 ∧ cb s i 2 / 64 = 2 ∧ 2048 ≤ r3 s i ∧ (r3 s i < 55296 ∨ 57343 < r3 s i)
def U4 : Prop := cb s i 0 / 8 = 30 ∧ cb s i 1 / 64 = 2 ∧ cb s i 2 / 64 = 2 ∧ cb s i 3 / 64 = 2 ∧ 65536 ≤ r4 s i ∧ r4 s i ≤ 1114111
instance : Decidable (U1 s i) := by unfold U1; infer_instance
instance : Decidable (U2 s i) := by unfold U2; infer_instance
instance : Decidable (U3 s i) := by unfold U3; infer_instance
instance : Decidable (U4 s i) := by unfold U4; infer_instance
def runeU : Int × Int := if U1 s i then (cb s i 0, 1) else if i + 2 ≤ s.size ∧ U2 s i then (r2 s i, 2) else if i + 3 ≤ s.size ∧ U3 s i then (r3 s i, 3) else if i + 4 ≤ s.size ∧ U4 s i then (r4 s i, 4) else (0, 0)
theorem shI (c : Int) (h0 : 0 ≤ c) (h1 : c ≤ 255) : utf_shape.f c = if c < 128 then some (1, c) else if c / 32 = 6 then some (2, c % 32) else if c / 16 = 14 then some (3, c % 16) else if c / 8 = 30 then some (4, c % 8) else some (0, 0) := by
  obtain ⟨n, rfl⟩ := Int.eq_ofNat_of_zero_le h0
  have a1 := and31 ⟨n, by omega⟩
  have a2 := and15 ⟨n, by omega⟩
  have a3 := and7 ⟨n, by omega⟩
  simp only at a1 a2 a3
  unfold utf_shape.f
  rw [a1, a2, a3]
  have w : ∀ x : Nat, x ≤ 255 → wrap32 (x : Int) = x := fun x hx => by unfold wrap32; omega
  rw [w n (by omega), w (n % 32) (by omega), w (n % 16) (by omega), w (n % 8) (by omega)]
  rfl
theorem fold_bad (r d : Int) (l : List Int) (h : d / 64 ≠ 2) : runeFold r (d :: l) = none := by rw [runeFold, if_neg h]
theorem utf_rune (hi : i < s.size) (hs : s.size ≤ 140737488351232) : utf_Rune.f s i = some (runeU s i) := by
  have g0 := cb_range s i 0
  have g1 := cb_range s i 1
  have g2 := cb_range s i 2
  have g3 := cb_range s i 3
  have hc : bt s i = cb s i 0 := rfl
  have scal : ∀ r : Int, 0 ≤ r → utf_scalar.f r = some (decide (r < 55296 ∨ 57344 ≤ r ∧ r ≤ 1114111)) := by
    intro r hr
    show PL.utf_scalar.f r = _
    unfold PL.utf_scalar.f
    by_cases h : r < 55296
    · rw [if_pos hr, if_pos h]; congr 1; symm; exact decide_eq_true (Or.inl h)
    · rw [if_pos hr, if_neg h]
      by_cases k : r ≥ 57344
      · rw [if_pos k]; congr 1
        by_cases m : r ≤ 1114111
        · rw [decide_eq_true m]; symm; exact decide_eq_true (Or.inr ⟨k, m⟩)
        · rw [decide_eq_false m]; symm; exact decide_eq_false (by omega)
      · rw [if_neg k]; congr 1; symm; exact decide_eq_false (by omega)
  unfold utf_Rune.f
  rw [if_pos (by omega), if_neg (by omega), if_neg (by omega), hc, shI _ g0.1 g0.2]
  unfold runeU
  by_cases c1 : U1 s i
  · rw [if_pos (show cb s i 0 < 128 from c1), if_pos c1, Option.bind_some]
    have hb : bytesOf (s.extract ((i : Int) + 1).toNat ((i : Int) + 1).toNat) = [] := by
      have : (s.extract ((i : Int) + 1).toNat ((i : Int) + 1).toNat).size = 0 := by rw [ByteArray.size_extract]; omega
      rw [← List.length_eq_zero_iff, bytesOf_length, this]
    have hu1 : cb s i 0 < 128 := c1
    simp only
    rw [if_neg (by decide), if_neg (by omega), if_pos (by decide), hb]
    simp only [runeFold]
    rw [show utf_least.f 1 = some 0 from by decide +kernel, Option.bind_some, if_neg (by omega), scal _ g0.1, Option.bind_some, if_pos (decide_eq_true (by omega))]
  rw [if_neg (show ¬ cb s i 0 < 128 from c1), if_neg c1]
  by_cases d2 : cb s i 0 / 32 = 6
  · rw [if_pos d2, Option.bind_some]
    have n3 : ¬ (i + 3 ≤ s.size ∧ U3 s i) := fun h => by have := h.2.1; omega
    have n4 : ¬ (i + 4 ≤ s.size ∧ U4 s i) := fun h => by have := h.2.1; omega
    rw [if_neg n3, if_neg n4]
    simp only
    rw [if_neg (by decide)]
    by_cases q2 : i + 2 ≤ s.size
    · rw [if_neg (by omega), if_pos (by decide), show ((i : Int) + 1).toNat = i + 1 by omega, show ((i : Int) + 2).toNat = i + 1 + 1 by omega, bytes_ext s (i + 1) 1 (by omega)]
      rw [show (List.range 1).map (fun k => bt s ((i + 1 + k : Nat) : Int)) = [cb s i 1] from rfl]
      by_cases k1 : cb s i 1 / 64 = 2
      · rw [fold_step _ _ _ (by omega) (by omega) k1, runeFold]
        simp only
        rw [show utf_least.f 2 = some 128 from by decide +kernel, Option.bind_some]
        have hr : cb s i 0 % 32 * 64 + cb s i 1 % 64 = r2 s i := rfl
        rw [hr]
        by_cases k2 : 128 ≤ r2 s i
        · rw [if_neg (by omega), scal _ (by omega), Option.bind_some, if_pos (decide_eq_true (by unfold r2; omega)), if_pos ⟨q2, d2, k1, k2⟩]
        · rw [if_pos (by omega), if_neg (fun h => k2 h.2.2.2)]
      · rw [fold_bad _ _ _ k1, if_neg (fun h => k1 h.2.2.1)]
    · rw [if_pos (by omega), if_neg (fun h => q2 h.1)]
  rw [if_neg d2]
  have x2 : ¬ (i + 2 ≤ s.size ∧ U2 s i) := fun h => d2 h.2.1
  rw [if_neg x2]
  by_cases d3 : cb s i 0 / 16 = 14
  · rw [if_pos d3, Option.bind_some]
    have n4 : ¬ (i + 4 ≤ s.size ∧ U4 s i) := fun h => by have := h.2.1; omega
    rw [if_neg n4]
    simp only
    rw [if_neg (by decide)]
    by_cases q3 : i + 3 ≤ s.size
    · rw [if_neg (by omega), if_pos (by decide), show ((i : Int) + 1).toNat = i + 1 by omega, show ((i : Int) + 3).toNat = i + 1 + 2 by omega, bytes_ext s (i + 1) 2 (by omega)]
      rw [show (List.range 2).map (fun k => bt s ((i + 1 + k : Nat) : Int)) = [cb s i 1, cb s i 2] from rfl]
      by_cases k1 : cb s i 1 / 64 = 2
      · rw [fold_step _ _ _ (by omega) (by omega) k1]
        by_cases k2 : cb s i 2 / 64 = 2
        · rw [fold_step _ _ _ (by omega) (by omega) k2, runeFold]
          simp only
          rw [show utf_least.f 3 = some 2048 from by decide +kernel, Option.bind_some]
          have hr : (cb s i 0 % 16 * 64 + cb s i 1 % 64) * 64 + cb s i 2 % 64 = r3 s i := rfl
          rw [hr]
          by_cases k3 : 2048 ≤ r3 s i
          · rw [if_neg (by omega), scal _ (by omega), Option.bind_some]
            have hm : r3 s i ≤ 65535 := by unfold r3; omega
            by_cases k4 : r3 s i < 55296 ∨ 57343 < r3 s i
            · rw [if_pos (decide_eq_true (by omega)), if_pos ⟨q3, d3, k1, k2, k3, k4⟩]
            · rw [if_neg (by rw [decide_eq_false (by omega)]; decide), if_neg (fun h => k4 h.2.2.2.2.2)]
          · rw [if_pos (by omega), if_neg (fun h => k3 h.2.2.2.2.1)]
        · rw [fold_bad _ _ _ k2, if_neg (fun h => k2 h.2.2.2.1)]
      · rw [fold_bad _ _ _ k1, if_neg (fun h => k1 h.2.2.1)]
    · rw [if_pos (by omega), if_neg (fun h => q3 h.1)]
  rw [if_neg d3]
  have x3 : ¬ (i + 3 ≤ s.size ∧ U3 s i) := fun h => d3 h.2.1
  rw [if_neg x3]
  by_cases d4 : cb s i 0 / 8 = 30
  · rw [if_pos d4, Option.bind_some]
    simp only
    rw [if_neg (by decide)]
    by_cases q4 : i + 4 ≤ s.size
    · rw [if_neg (by omega), if_pos (by decide), show ((i : Int) + 1).toNat = i + 1 by omega, show ((i : Int) + 4).toNat = i + 1 + 3 by omega, bytes_ext s (i + 1) 3 (by omega)]
      rw [show (List.range 3).map (fun k => bt s ((i + 1 + k : Nat) : Int)) = [cb s i 1, cb s i 2, cb s i 3] from rfl]
      by_cases k1 : cb s i 1 / 64 = 2
      · rw [fold_step _ _ _ (by omega) (by omega) k1]
        by_cases k2 : cb s i 2 / 64 = 2
        · rw [fold_step _ _ _ (by omega) (by omega) k2]
          by_cases k3 : cb s i 3 / 64 = 2
          · rw [fold_step _ _ _ (by omega) (by omega) k3, runeFold]
            simp only
            rw [show utf_least.f 4 = some 65536 from by decide +kernel, Option.bind_some]
            have hr : ((cb s i 0 % 8 * 64 + cb s i 1 % 64) * 64 + cb s i 2 % 64) * 64 + cb s i 3 % 64 = r4 s i := rfl
            rw [hr]
            by_cases k4 : 65536 ≤ r4 s i
            · rw [if_neg (by omega), scal _ (by omega), Option.bind_some]
              by_cases k5 : r4 s i ≤ 1114111
              · rw [if_pos (decide_eq_true (by omega)), if_pos ⟨q4, d4, k1, k2, k3, k4, k5⟩]
              · rw [if_neg (by rw [decide_eq_false (by omega)]; decide), if_neg (fun h => k5 h.2.2.2.2.2.2)]
            · rw [if_pos (by omega), if_neg (fun h => k4 h.2.2.2.2.2.1)]
          · rw [fold_bad _ _ _ k3, if_neg (fun h => k3 h.2.2.2.2.1)]
        · rw [fold_bad _ _ _ k2, if_neg (fun h => k2 h.2.2.2.1)]
      · rw [fold_bad _ _ _ k1, if_neg (fun h => k1 h.2.2.1)]
    · rw [if_pos (by omega), if_neg (fun h => q4 h.1)]
  · rw [if_neg d4, Option.bind_some]
    simp only
    rw [if_pos trivial, if_neg (fun h => d4 h.2.1)]
theorem runeT_U (hi : i < s.size) (hs : s.size ≤ 140737488351232) : runeT s i = runeU s i := by
  have h1 : utf_Rune.f s i = some (runeT s i) := (rune_ends s i hs).1
  rw [utf_rune s i hi hs] at h1
  exact (Option.some.inj h1).symm
theorem drop_cb (q : Nat) (h : i + q < s.size) : ∃ c : UInt8, s.data.toList.drop (i + q) = c :: s.data.toList.drop (i + q + 1) ∧ ((c.toNat : Nat) : Int) = cb s i q := by
  have h1 : i + q < s.data.toList.length := by rw [← Lib.size_eq]; exact h
  exact ⟨s.data.toList[i + q], List.drop_eq_getElem_cons h1, (bt_data s (i + q) h1).symm⟩
end
end Go.Proofs.YtffpbhbiamkkpaaDoor.Lx
