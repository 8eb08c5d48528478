/- The reference's signs: watchbillref01.Rune is utf.Rune, at every place of every text. -/
import Derived.Test.YtffpbhbiamkkpaaDoorM1
import Derived.Test.YtffpbhbiamkkpaaDoorPVx1
import Derived.Deep.RegionHeld3
namespace Go.Proofs.YtffpbhbiamkkpaaDoor.Lx
open Go.RowKit Go.Proofs.YtffpbhbiamkkpaaDoor.PU Go.Proofs.YtffpbhbiamkkpaaDoorW.PrintWords
open Go.Proofs.YtffpbhbiamkkpaaDoor.PG (runeT rune_ends char_eq)
set_option linter.unusedVariables false
def signB (n : Int) : Bool := decide (0 ≤ n ∧ n ≤ 1114111 ∧ (n < 55296 ∨ 57343 < n))
theorem sign_f (n : Int) : PV.watchbillref01_Sign.f n = some (signB n) := by
  show PL.watchbillref01_Sign.f n = some (signB n)
  unfold PL.watchbillref01_Sign.f signB
  by_cases h1 : n ≥ 0
  · by_cases h2 : n ≤ 1114111
    · by_cases h3 : n < 55296
      · rw [if_pos h1, if_pos h2, if_pos h3]; congr 1; symm; exact decide_eq_true (by omega)
      · rw [if_pos h1, if_pos h2, if_neg h3]; congr 1
        by_cases h4 : n > 57343
        · rw [decide_eq_true h4]; symm; exact decide_eq_true (by omega)
        · rw [decide_eq_false h4]; symm; exact decide_eq_false (by omega)
    · rw [if_pos h1, if_neg h2]; congr 1; symm; exact decide_eq_false (by omega)
  · rw [if_neg h1]; congr 1; symm; exact decide_eq_false (by omega)
def putI (n : Int) : List Int := if n < 128 then [n] else if n < 2048 then [192 + n / 64, 128 + n % 64] else if n < 65536 then [224 + n / 4096, 128 + n / 64 % 64, 128 + n % 64] else [240 + n / 262144, 128 + n / 4096 % 64, 128 + n / 64 % 64, 128 + n % 64]
theorem put_ref (n : Int) (h : signB n = true) : PV.watchbillref01_Put.f n = some (strOfNums (putI n)) := by
  show PL.watchbillref01_Put.f n = _
  have hs : PL.watchbillref01_Sign.f n = some (signB n) := sign_f n
  have hr : 0 ≤ n ∧ n ≤ 1114111 := by have := of_decide_eq_true h; omega
  obtain ⟨h0, h1⟩ := hr
  unfold PL.watchbillref01_Put.f putI
  rw [hs, h]
  simp only [Option.bind_some, if_true]
  by_cases c1 : n < 128
  · rw [if_pos c1, if_pos c1, show n % 256 = n by omega]
  rw [if_neg c1, if_neg c1]
  have d1 : Int.tdiv n 64 = n / 64 := Int.tdiv_eq_ediv_of_nonneg h0
  have d2 : Int.tdiv n 4096 = n / 4096 := Int.tdiv_eq_ediv_of_nonneg h0
  have d3 : Int.tdiv n 262144 = n / 262144 := Int.tdiv_eq_ediv_of_nonneg h0
  have m0 : Int.tmod n 64 = n % 64 := Int.tmod_eq_emod_of_nonneg h0
  have m1 : Int.tmod (n / 64) 64 = n / 64 % 64 := Int.tmod_eq_emod_of_nonneg (by omega)
  have m2 : Int.tmod (n / 4096) 64 = n / 4096 % 64 := Int.tmod_eq_emod_of_nonneg (by omega)
  have v1 : wrap64 (n / 64) = n / 64 := PL.w64 _ (by omega) (by omega)
  have v2 : wrap64 (n / 4096) = n / 4096 := PL.w64 _ (by omega) (by omega)
  have v3 : wrap64 (n / 262144) = n / 262144 := PL.w64 _ (by omega) (by omega)
  have x0 : wrap64 (128 + n % 64) = 128 + n % 64 := PL.w64 _ (by omega) (by omega)
  have x1 : wrap64 (128 + n / 64 % 64) = 128 + n / 64 % 64 := PL.w64 _ (by omega) (by omega)
  have x2 : wrap64 (128 + n / 4096 % 64) = 128 + n / 4096 % 64 := PL.w64 _ (by omega) (by omega)
  have y0 : (128 + n % 64) % 256 = 128 + n % 64 := by omega
  have y1 : (128 + n / 64 % 64) % 256 = 128 + n / 64 % 64 := by omega
  have y2 : (128 + n / 4096 % 64) % 256 = 128 + n / 4096 % 64 := by omega
  by_cases c2 : n < 2048
  · rw [if_pos c2, if_pos c2, d1, m0, v1, x0, y0, PL.w64 (192 + n / 64) (by omega) (by omega), show (192 + n / 64) % 256 = 192 + n / 64 by omega]
  rw [if_neg c2, if_neg c2]
  by_cases c3 : n < 65536
  · rw [if_pos c3, if_pos c3, d2, v2, d1, v1, m0, m1, x0, x1, y0, y1, PL.w64 (224 + n / 4096) (by omega) (by omega), show (224 + n / 4096) % 256 = 224 + n / 4096 by omega]
  rw [if_neg c3, if_neg c3, d3, v3, d2, v2, d1, v1, m0, m1, m2, x0, x1, x2, y0, y1, y2, PL.w64 (240 + n / 262144) (by omega) (by omega), show (240 + n / 262144) % 256 = 240 + n / 262144 by omega]
theorem putI_range (n : Int) (h : signB n = true) : ∀ x ∈ putI n, 0 ≤ x ∧ x ≤ 255 := by
  have hr : 0 ≤ n ∧ n ≤ 1114111 := by have := of_decide_eq_true h; omega
  unfold putI
  intro x hx
  split at hx
  · simp only [List.mem_cons, List.not_mem_nil, or_false] at hx; omega
  split at hx
  · simp only [List.mem_cons, List.not_mem_nil, or_false] at hx; omega
  split at hx
  · simp only [List.mem_cons, List.not_mem_nil, or_false] at hx; omega
  · simp only [List.mem_cons, List.not_mem_nil, or_false] at hx; omega
theorem nums_bytes : ∀ l : List Int, (∀ x ∈ l, 0 ≤ x ∧ x ≤ 255) → bytesOf (strOfNums l) = l := by
  intro l h
  unfold bytesOf strOfNums
  rw [List.toList_toArray, List.map_map]
  conv => rhs; rw [← List.map_id l]
  refine List.map_congr_left fun x hx => ?_
  have := h x hx
  simp only [Function.comp_apply, id_eq, UInt8.toNat_ofNat']
  omega
theorem bytes_inj {a b : ByteArray} (h : bytesOf a = bytesOf b) : a.toList = b.toList := by
  rw [Lib.toList_data, Lib.toList_data]
  unfold bytesOf at h
  exact (List.map_inj_right (fun x y e => UInt8.toNat_inj.1 (by omega))).1 h
theorem put_is (n : Int) (h : signB n = true) (x : ByteArray) : (strOfNums (putI n)).toList = x.toList ↔ putI n = bytesOf x := by
  have e := nums_bytes _ (putI_range n h)
  constructor
  · intro k
    rw [Lib.toList_data, Lib.toList_data] at k
    rw [← e]
    unfold bytesOf
    rw [k]
  · intro k
    exact bytes_inj (e.trans k)
theorem bt_ext (s : ByteArray) (a b i : Nat) (h : a + i < b) (hb : b ≤ s.size) : bt (s.extract a b) (i : Int) = bt s ((a + i : Nat) : Int) := by
  unfold bt
  have h1 : ((i : Nat) : Int).toNat < (s.extract a b).size := by rw [ByteArray.size_extract, Int.toNat_natCast]; omega
  have h2 : ((a + i : Nat) : Int).toNat < s.size := by rw [Int.toNat_natCast]; omega
  rw [dif_pos h1, dif_pos h2]
  congr 2
  simp [ByteArray.getElem_eq_getElem_data]
  congr 1
theorem bytes_ext (s : ByteArray) (a k : Nat) (h : a + k ≤ s.size) : bytesOf (s.extract a (a + k)) = (List.range k).map fun i => bt s ((a + i : Nat) : Int) := by
  apply List.ext_getElem
  · rw [bytesOf_length, ByteArray.size_extract, List.length_map, List.length_range]; omega
  · intro i h1 h2
    rw [bytesOf_length, ByteArray.size_extract] at h1
    rw [List.getElem_map, List.getElem_range, ← bt_ext s a (a + k) i (by omega) h, ← rd_bytesOf]
    unfold rd
    rw [List.getD_eq_getElem?_getD, Int.toNat_natCast, List.getElem?_eq_getElem (by rw [bytesOf_length, ByteArray.size_extract]; omega), Option.getD_some]
section
variable (s : ByteArray) (i : Nat)
/-- The byte that stands so far behind place i. -/
def cb (q : Nat) : Int := bt s ((i + q : Nat) : Int)
theorem cb_range (q : Nat) : 0 ≤ cb s i q ∧ cb s i q ≤ 255 := bt_range _ _
def r2 : Int := cb s i 0 % 32 * 64 + cb s i 1 % 64
def r3 : Int := (cb s i 0 % 16 * 64 + cb s i 1 % 64) * 64 + cb s i 2 % 64
def r4 : Int := ((cb s i 0 % 8 * 64 + cb s i 1 % 64) * 64 + cb s i 2 % 64) * 64 + cb s i 3 % 64
def U1 : Prop := cb s i 0 < 128
def U2 : Prop := cb s i 0 / 32 = 6 ∧ cb s i 1 / 64 = 2 ∧ 128 ≤ r2 s i
def U3 : Prop := cb s i 0 / 16 = 14 ∧ cb s i 1 / 64 = 2 ∧ cb s i 2 / 64 = 2 ∧ 2048 ≤ r3 s i ∧ (r3 s i < 55296 ∨ 57343 < r3 s i)
def U4 : Prop := cb s i 0 / 8 = 30 ∧ cb s i 1 / 64 = 2 ∧ cb s i 2 / 64 = 2 ∧ cb s i 3 / 64 = 2 ∧ 65536 ≤ r4 s i ∧ r4 s i ≤ 1114111
instance : Decidable (U1 s i) := by unfold U1; infer_instance
instance : Decidable (U2 s i) := by unfold U2; infer_instance
instance : Decidable (U3 s i) := by unfold U3; infer_instance
instance : Decidable (U4 s i) := by unfold U4; infer_instance
def runeU : Int × Int := if U1 s i then (cb s i 0, 1) else if i + 2 ≤ s.size ∧ U2 s i then (r2 s i, 2) else if i + 3 ≤ s.size ∧ U3 s i then (r3 s i, 3) else if i + 4 ≤ s.size ∧ U4 s i then (r4 s i, 4) else (0, 0)
def n2 : Int := (cb s i 0 - 192) * 64 + cb s i 1 - 128
def n3 : Int := ((cb s i 0 - 224) * 64 + cb s i 1 - 128) * 64 + cb s i 2 - 128
def n4 : Int := (((cb s i 0 - 240) * 64 + cb s i 1 - 128) * 64 + cb s i 2 - 128) * 64 + cb s i 3 - 128
theorem m1 : (signB (cb s i 0) = true ∧ putI (cb s i 0) = [cb s i 0]) ↔ U1 s i := by
  have h0 := cb_range s i 0
  unfold U1
  constructor
  · rintro ⟨_, h⟩
    unfold putI at h
    split at h
    · assumption
    split at h
    · simp at h
    split at h <;> simp at h
  · intro h
    exact ⟨decide_eq_true (by omega), by unfold putI; rw [if_pos h]⟩
theorem m2 : (signB (n2 s i) = true ∧ putI (n2 s i) = [cb s i 0, cb s i 1]) ↔ U2 s i := by
  have h0 := cb_range s i 0
  have h1 := cb_range s i 1
  unfold U2
  constructor
  · rintro ⟨hs, h⟩
    have hs := of_decide_eq_true hs
    unfold putI at h
    split at h
    · simp at h
    split at h
    · simp only [List.cons.injEq, and_true] at h
      unfold r2 n2 at *
      omega
    split at h <;> simp at h
  · intro h
    have e : n2 s i = r2 s i := by unfold n2 r2 at *; omega
    have hr : r2 s i < 2048 := by unfold r2 at *; omega
    rw [e]
    refine ⟨decide_eq_true (by omega), ?_⟩
    unfold putI
    rw [if_neg (by omega), if_pos hr]
    unfold r2 at *
    simp only [List.cons.injEq, and_true]
    omega
theorem m3 : (signB (n3 s i) = true ∧ putI (n3 s i) = [cb s i 0, cb s i 1, cb s i 2]) ↔ U3 s i := by
  have h0 := cb_range s i 0
  have h1 := cb_range s i 1
  have h2 := cb_range s i 2
  unfold U3
  constructor
  · rintro ⟨hs, h⟩
    have hs := of_decide_eq_true hs
    unfold putI at h
    split at h
    · simp at h
    split at h
    · simp at h
    split at h
    · simp only [List.cons.injEq, and_true] at h
      unfold r3 n3 at *
      omega
    · simp at h
  · intro h
    have e : n3 s i = r3 s i := by unfold n3 r3 at *; omega
    have hr : r3 s i < 65536 := by unfold r3 at *; omega
    rw [e]
    refine ⟨decide_eq_true (by omega), ?_⟩
    unfold putI
    rw [if_neg (by omega), if_neg (by omega), if_pos hr]
    unfold r3 at *
    simp only [List.cons.injEq, and_true]
    omega
theorem m4 : (signB (n4 s i) = true ∧ putI (n4 s i) = [cb s i 0, cb s i 1, cb s i 2, cb s i 3]) ↔ U4 s i := by
  have h0 := cb_range s i 0
  have h1 := cb_range s i 1
  have h2 := cb_range s i 2
  have h3 := cb_range s i 3
  unfold U4
  constructor
  · rintro ⟨hs, h⟩
    have hs := of_decide_eq_true hs
    unfold putI at h
    split at h
    · simp at h
    split at h
    · simp at h
    split at h
    · simp at h
    · simp only [List.cons.injEq, and_true] at h
      unfold r4 n4 at *
      omega
  · intro h
    have e : n4 s i = r4 s i := by unfold n4 r4 at *; omega
    rw [e]
    refine ⟨decide_eq_true (by omega), ?_⟩
    unfold putI
    rw [if_neg (by omega), if_neg (by omega), if_neg (by omega)]
    unfold r4 at *
    simp only [List.cons.injEq, and_true]
    omega
theorem e2 (h : U2 s i) : n2 s i = r2 s i := by
  have h0 := cb_range s i 0
  have h1 := cb_range s i 1
  unfold U2 at h; unfold n2 r2 at *; omega
theorem e3 (h : U3 s i) : n3 s i = r3 s i := by
  have h0 := cb_range s i 0
  have h1 := cb_range s i 1
  have h2 := cb_range s i 2
  unfold U3 at h; unfold n3 r3 at *; omega
theorem e4 (h : U4 s i) : n4 s i = r4 s i := by
  have h0 := cb_range s i 0
  have h1 := cb_range s i 1
  have h2 := cb_range s i 2
  have h3 := cb_range s i 3
  unfold U4 at h; unfold n4 r4 at *; omega
/-- The number that q bytes would stand for. -/
def nq : Nat → Int
  | 1 => cb s i 0
  | 2 => n2 s i
  | 3 => n3 s i
  | _ => n4 s i
def bq (q : Nat) : List Int := (List.range q).map fun k => cb s i k
def Uq : Nat → Bool
  | 1 => decide (U1 s i)
  | 2 => decide (U2 s i)
  | 3 => decide (U3 s i)
  | _ => decide (U4 s i)
theorem mq (q : Nat) (h1 : 1 ≤ q) (h4 : q ≤ 4) : (signB (nq s i q) = true ∧ putI (nq s i q) = bq s i q) ↔ Uq s i q = true := by
  obtain rfl | rfl | rfl | rfl : q = 1 ∨ q = 2 ∨ q = 3 ∨ q = 4 := by omega
  · exact (m1 s i).trans (by simp [Uq])
  · exact (m2 s i).trans (by simp [Uq])
  · exact (m3 s i).trans (by simp [Uq])
  · exact (m4 s i).trans (by simp [Uq])
theorem value_f (K q : Nat) (h1 : 1 ≤ q) (h4 : q ≤ 4) (hq : i + q ≤ s.size) : PV.watchbillref01_value.f (K + 8) (s.extract i (i + q)) = some (nq s i q) := by
  have hz : (s.extract i (i + q)).size = q := by rw [ByteArray.size_extract]; omega
  have c0 : bt (s.extract i (i + q)) 0 = cb s i 0 := bt_ext s i (i + q) 0 (by omega) hq
  have g0 := cb_range s i 0
  have g1 := cb_range s i 1
  have g2 := cb_range s i 2
  have g3 := cb_range s i 3
  unfold PV.watchbillref01_value.f
  rw [hz, c0, if_pos (by omega)]
  have w0 : wrap64 (cb s i 0) = cb s i 0 := PL.w64 _ (by omega) (by omega)
  obtain rfl | rfl | rfl | rfl : q = 1 ∨ q = 2 ∨ q = 3 ∨ q = 4 := by omega
  · rw [if_neg (by omega), if_neg (by omega), if_neg (by omega), PV.watchbillref01_value.j0, PV.watchbillref01_value.l0, hz, if_neg (by omega), w0]
    rfl
  · have c1 : bt (s.extract i (i + 2)) 1 = cb s i 1 := bt_ext s i (i + 2) 1 (by omega) hq
    rw [if_pos (by omega), PV.watchbillref01_value.j0, PV.watchbillref01_value.l0, hz, if_pos (by omega), if_pos (by omega), c1, w0, PL.w64 (cb s i 0 - 192) (by omega) (by omega), PL.w64 ((cb s i 0 - 192) * 64) (by omega) (by omega), PL.w64 (cb s i 1) (by omega) (by omega), PL.w64 ((cb s i 0 - 192) * 64 + cb s i 1) (by omega) (by omega), PL.w64 ((cb s i 0 - 192) * 64 + cb s i 1 - 128) (by omega) (by omega), PL.w64 (1 + 1) (by omega) (by omega), PV.watchbillref01_value.l0, hz, if_neg (by omega)]
    rfl
  · have c1 : bt (s.extract i (i + 3)) 1 = cb s i 1 := bt_ext s i (i + 3) 1 (by omega) hq
    have c2 : bt (s.extract i (i + 3)) (1 + 1) = cb s i 2 := bt_ext s i (i + 3) 2 (by omega) hq
    rw [if_neg (by omega), if_pos (by omega), PV.watchbillref01_value.j0, PV.watchbillref01_value.l0, hz, if_pos (by omega), if_pos (by omega), c1, w0, PL.w64 (cb s i 0 - 224) (by omega) (by omega), PL.w64 ((cb s i 0 - 224) * 64) (by omega) (by omega), PL.w64 (cb s i 1) (by omega) (by omega), PL.w64 ((cb s i 0 - 224) * 64 + cb s i 1) (by omega) (by omega), PL.w64 ((cb s i 0 - 224) * 64 + cb s i 1 - 128) (by omega) (by omega), PL.w64 (1 + 1) (by omega) (by omega), PV.watchbillref01_value.l0, hz, if_pos (by omega), if_pos (by omega), c2, PL.w64 (((cb s i 0 - 224) * 64 + cb s i 1 - 128) * 64) (by omega) (by omega), PL.w64 (cb s i 2) (by omega) (by omega), PL.w64 (((cb s i 0 - 224) * 64 + cb s i 1 - 128) * 64 + cb s i 2) (by omega) (by omega), PL.w64 (((cb s i 0 - 224) * 64 + cb s i 1 - 128) * 64 + cb s i 2 - 128) (by omega) (by omega), PL.w64 (1 + 1 + 1) (by omega) (by omega), PV.watchbillref01_value.l0, hz, if_neg (by omega)]
    rfl
  · have c1 : bt (s.extract i (i + 4)) 1 = cb s i 1 := bt_ext s i (i + 4) 1 (by omega) hq
    have c2 : bt (s.extract i (i + 4)) (1 + 1) = cb s i 2 := bt_ext s i (i + 4) 2 (by omega) hq
    have c3 : bt (s.extract i (i + 4)) (1 + 1 + 1) = cb s i 3 := bt_ext s i (i + 4) 3 (by omega) hq
    rw [if_neg (by omega), if_neg (by omega), if_pos (by omega), PV.watchbillref01_value.j0, PV.watchbillref01_value.l0, hz, if_pos (by omega), if_pos (by omega), c1, w0, PL.w64 (cb s i 0 - 240) (by omega) (by omega), PL.w64 ((cb s i 0 - 240) * 64) (by omega) (by omega), PL.w64 (cb s i 1) (by omega) (by omega), PL.w64 ((cb s i 0 - 240) * 64 + cb s i 1) (by omega) (by omega), PL.w64 ((cb s i 0 - 240) * 64 + cb s i 1 - 128) (by omega) (by omega), PL.w64 (1 + 1) (by omega) (by omega), PV.watchbillref01_value.l0, hz, if_pos (by omega), if_pos (by omega), c2, PL.w64 (((cb s i 0 - 240) * 64 + cb s i 1 - 128) * 64) (by omega) (by omega), PL.w64 (cb s i 2) (by omega) (by omega), PL.w64 (((cb s i 0 - 240) * 64 + cb s i 1 - 128) * 64 + cb s i 2) (by omega) (by omega), PL.w64 (((cb s i 0 - 240) * 64 + cb s i 1 - 128) * 64 + cb s i 2 - 128) (by omega) (by omega), PL.w64 (1 + 1 + 1) (by omega) (by omega), PV.watchbillref01_value.l0, hz, if_pos (by omega), if_pos (by omega), c3, PL.w64 ((((cb s i 0 - 240) * 64 + cb s i 1 - 128) * 64 + cb s i 2 - 128) * 64) (by omega) (by omega), PL.w64 (cb s i 3) (by omega) (by omega), PL.w64 ((((cb s i 0 - 240) * 64 + cb s i 1 - 128) * 64 + cb s i 2 - 128) * 64 + cb s i 3) (by omega) (by omega), PL.w64 ((((cb s i 0 - 240) * 64 + cb s i 1 - 128) * 64 + cb s i 2 - 128) * 64 + cb s i 3 - 128) (by omega) (by omega), PL.w64 (1 + 1 + 1 + 1) (by omega) (by omega), PV.watchbillref01_value.l0, hz, if_neg (by omega)]
    rfl
theorem ref_step (K q : Nat) (h1 : 1 ≤ q) (h4 : q ≤ 4) (hi : i < s.size) (hs : s.size ≤ 140737488351232) : PV.watchbillref01_Rune.l0 (K + 10) s i q = if i + q ≤ s.size then (if Uq s i q = true then some (nq s i q, (q : Int)) else PV.watchbillref01_Rune.l0 (K + 8) s i ((q + 1 : Nat) : Int)) else some (0, 0) := by
  rw [PV.watchbillref01_Rune.l0, if_pos (by omega), PL.w64 ((s.size : Int) - i) (by omega) (by omega), PV.watchbillref01_Rune.j2]
  by_cases c : i + q ≤ s.size
  · rw [if_pos (decide_eq_true (by omega)), if_pos (by omega), PL.w64 ((i : Int) + q) (by omega) (by omega), if_pos (by omega), if_pos (by omega), if_pos c]
    rw [show ((i : Int) + (q : Int)).toNat = i + q by omega, Int.toNat_natCast, value_f s i K q h1 h4 c, Option.bind_some, sign_f, Option.bind_some]
    have hm := mq s i q h1 h4
    have hb : bytesOf (s.extract i (i + q)) = bq s i q := bytes_ext s i q c
    by_cases hs1 : signB (nq s i q) = true
    · rw [if_pos hs1, put_ref _ hs1, Option.bind_some]
      have hp := put_is (nq s i q) hs1 (s.extract i (i + q))
      rw [hb] at hp
      by_cases hp1 : putI (nq s i q) = bq s i q
      · rw [if_pos (hp.2 hp1), if_pos (hm.1 ⟨hs1, hp1⟩)]
      · rw [if_neg (fun h => hp1 (hp.1 h)), if_neg (fun h => hp1 (hm.2 h).2), PL.w64 ((q : Int) + 1) (by omega) (by omega)]
        rfl
    · rw [if_neg hs1, if_neg (fun h => hs1 (hm.2 h).1), PL.w64 ((q : Int) + 1) (by omega) (by omega)]
      rfl
  · rw [if_neg (by rw [decide_eq_false (by omega)]; decide), if_neg c]
theorem ref_rune (K : Nat) (hi : i < s.size) (hs : s.size ≤ 140737488351232) : PV.watchbillref01_Rune.f (K + 30) s i = some (runeU s i) := by
  unfold PV.watchbillref01_Rune.f
  rw [if_neg (by omega), PV.watchbillref01_Rune.j0, if_neg (by rw [decide_eq_false (by omega)]; decide)]
  rw [show ((1 : Int)) = ((1 : Nat) : Int) from rfl, ref_step s i (K + 19) 1 (by omega) (by omega) hi hs, if_pos (by omega)]
  unfold runeU
  by_cases c1 : U1 s i
  · rw [if_pos (show Uq s i 1 = true from decide_eq_true c1), if_pos c1]; rfl
  rw [if_neg (by simp [Uq, c1]), if_neg c1, ref_step s i (K + 17) 2 (by omega) (by omega) hi hs]
  by_cases q2 : i + 2 ≤ s.size
  · rw [if_pos q2]
    by_cases c2 : U2 s i
    · rw [if_pos (show Uq s i 2 = true from decide_eq_true c2), if_pos ⟨q2, c2⟩, ← e2 s i c2]; rfl
    rw [if_neg (by simp [Uq, c2]), if_neg (fun h => c2 h.2), ref_step s i (K + 15) 3 (by omega) (by omega) hi hs]
    by_cases q3 : i + 3 ≤ s.size
    · rw [if_pos q3]
      by_cases c3 : U3 s i
      · rw [if_pos (show Uq s i 3 = true from decide_eq_true c3), if_pos ⟨q3, c3⟩, ← e3 s i c3]; rfl
      rw [if_neg (by simp [Uq, c3]), if_neg (fun h => c3 h.2), ref_step s i (K + 13) 4 (by omega) (by omega) hi hs]
      by_cases q4 : i + 4 ≤ s.size
      · rw [if_pos q4]
        by_cases c4 : U4 s i
        · rw [if_pos (show Uq s i 4 = true from decide_eq_true c4), if_pos ⟨q4, c4⟩, ← e4 s i c4]; rfl
        rw [if_neg (by simp [Uq, c4]), if_neg (fun h => c4 h.2), PV.watchbillref01_Rune.l0, if_neg (by omega), PV.watchbillref01_Rune.j2, if_neg (by decide)]
      · rw [if_neg q4, if_neg (fun h => q4 h.1)]
    · rw [if_neg q3, if_neg (fun h => q3 h.1), if_neg (fun h => q3 (by omega))]
  · rw [if_neg q2, if_neg (fun h => q2 h.1), if_neg (fun h => q2 (by omega)), if_neg (fun h => q2 (by omega))]
theorem shI (c : Int) (h0 : 0 ≤ c) (h1 : c ≤ 255) : utf_shape.f c = if c < 128 then some (1, c) else if c / 32 = 6 then some (2, c % 32) else if c / 16 = 14 then some (3, c % 16) else if c / 8 = 30 then some (4, c % 8) else some (0, 0) := by
  obtain ⟨n, rfl⟩ := Int.eq_ofNat_of_zero_le h0
  have a1 := and31 ⟨n, by omega⟩
  have a2 := and15 ⟨n, by omega⟩
  have a3 := and7 ⟨n, by omega⟩
  simp only at a1 a2 a3
  unfold utf_shape.f
  rw [a1, a2, a3]
  have w : ∀ x : Nat, x ≤ 255 → wrap32 (x : Int) = x := fun x hx => by unfold wrap32; omega
  rw [w n (by omega), w (n % 32) (by omega), w (n % 16) (by omega), w (n % 8) (by omega)]
  rfl
theorem fold_bad (r d : Int) (l : List Int) (h : d / 64 ≠ 2) : runeFold r (d :: l) = none := by rw [runeFold, if_neg h]
theorem utf_rune (hi : i < s.size) (hs : s.size ≤ 140737488351232) : utf_Rune.f s i = some (runeU s i) := by
  have g0 := cb_range s i 0
  have g1 := cb_range s i 1
  have g2 := cb_range s i 2
  have g3 := cb_range s i 3
  have hc : bt s i = cb s i 0 := rfl
  have scal : ∀ r : Int, 0 ≤ r → utf_scalar.f r = some (decide (r < 55296 ∨ 57344 ≤ r ∧ r ≤ 1114111)) := by
    intro r hr
    show PL.utf_scalar.f r = _
    unfold PL.utf_scalar.f
    by_cases h : r < 55296
    · rw [if_pos hr, if_pos h]; congr 1; symm; exact decide_eq_true (Or.inl h)
    · rw [if_pos hr, if_neg h]
      by_cases k : r ≥ 57344
      · rw [if_pos k]; congr 1
        by_cases m : r ≤ 1114111
        · rw [decide_eq_true m]; symm; exact decide_eq_true (Or.inr ⟨k, m⟩)
        · rw [decide_eq_false m]; symm; exact decide_eq_false (by omega)
      · rw [if_neg k]; congr 1; symm; exact decide_eq_false (by omega)
  unfold utf_Rune.f
  rw [if_pos (by omega), if_neg (by omega), if_neg (by omega), hc, shI _ g0.1 g0.2]
  unfold runeU
  by_cases c1 : U1 s i
  · rw [if_pos (show cb s i 0 < 128 from c1), if_pos c1, Option.bind_some]
    have hb : bytesOf (s.extract ((i : Int) + 1).toNat ((i : Int) + 1).toNat) = [] := by
      have : (s.extract ((i : Int) + 1).toNat ((i : Int) + 1).toNat).size = 0 := by rw [ByteArray.size_extract]; omega
      rw [← List.length_eq_zero_iff, bytesOf_length, this]
    have hu1 : cb s i 0 < 128 := c1
    simp only
    rw [if_neg (by decide), if_neg (by omega), if_pos (by decide), hb]
    simp only [runeFold]
    rw [show utf_least.f 1 = some 0 from by decide +kernel, Option.bind_some, if_neg (by omega), scal _ g0.1, Option.bind_some, if_pos (decide_eq_true (by omega))]
  rw [if_neg (show ¬ cb s i 0 < 128 from c1), if_neg c1]
  by_cases d2 : cb s i 0 / 32 = 6
  · rw [if_pos d2, Option.bind_some]
    have n3 : ¬ (i + 3 ≤ s.size ∧ U3 s i) := fun h => by have := h.2.1; omega
    have n4 : ¬ (i + 4 ≤ s.size ∧ U4 s i) := fun h => by have := h.2.1; omega
    rw [if_neg n3, if_neg n4]
    simp only
    rw [if_neg (by decide)]
    by_cases q2 : i + 2 ≤ s.size
    · rw [if_neg (by omega), if_pos (by decide), show ((i : Int) + 1).toNat = i + 1 by omega, show ((i : Int) + 2).toNat = i + 1 + 1 by omega, bytes_ext s (i + 1) 1 (by omega)]
      rw [show (List.range 1).map (fun k => bt s ((i + 1 + k : Nat) : Int)) = [cb s i 1] from rfl]
      by_cases k1 : cb s i 1 / 64 = 2
      · rw [fold_step _ _ _ (by omega) (by omega) k1, runeFold]
        simp only
        rw [show utf_least.f 2 = some 128 from by decide +kernel, Option.bind_some]
        have hr : cb s i 0 % 32 * 64 + cb s i 1 % 64 = r2 s i := rfl
        rw [hr]
        by_cases k2 : 128 ≤ r2 s i
        · rw [if_neg (by omega), scal _ (by omega), Option.bind_some, if_pos (decide_eq_true (by unfold r2; omega)), if_pos ⟨q2, d2, k1, k2⟩]
        · rw [if_pos (by omega), if_neg (fun h => k2 h.2.2.2)]
      · rw [fold_bad _ _ _ k1, if_neg (fun h => k1 h.2.2.1)]
    · rw [if_pos (by omega), if_neg (fun h => q2 h.1)]
  rw [if_neg d2]
  have x2 : ¬ (i + 2 ≤ s.size ∧ U2 s i) := fun h => d2 h.2.1
  rw [if_neg x2]
  by_cases d3 : cb s i 0 / 16 = 14
  · rw [if_pos d3, Option.bind_some]
    have n4 : ¬ (i + 4 ≤ s.size ∧ U4 s i) := fun h => by have := h.2.1; omega
    rw [if_neg n4]
    simp only
    rw [if_neg (by decide)]
    by_cases q3 : i + 3 ≤ s.size
    · rw [if_neg (by omega), if_pos (by decide), show ((i : Int) + 1).toNat = i + 1 by omega, show ((i : Int) + 3).toNat = i + 1 + 2 by omega, bytes_ext s (i + 1) 2 (by omega)]
      rw [show (List.range 2).map (fun k => bt s ((i + 1 + k : Nat) : Int)) = [cb s i 1, cb s i 2] from rfl]
      by_cases k1 : cb s i 1 / 64 = 2
      · rw [fold_step _ _ _ (by omega) (by omega) k1]
        by_cases k2 : cb s i 2 / 64 = 2
        · rw [fold_step _ _ _ (by omega) (by omega) k2, runeFold]
          simp only
          rw [show utf_least.f 3 = some 2048 from by decide +kernel, Option.bind_some]
          have hr : (cb s i 0 % 16 * 64 + cb s i 1 % 64) * 64 + cb s i 2 % 64 = r3 s i := rfl
          rw [hr]
          by_cases k3 : 2048 ≤ r3 s i
          · rw [if_neg (by omega), scal _ (by omega), Option.bind_some]
            have hm : r3 s i ≤ 65535 := by unfold r3; omega
            by_cases k4 : r3 s i < 55296 ∨ 57343 < r3 s i
            · rw [if_pos (decide_eq_true (by omega)), if_pos ⟨q3, d3, k1, k2, k3, k4⟩]
            · rw [if_neg (by rw [decide_eq_false (by omega)]; decide), if_neg (fun h => k4 h.2.2.2.2.2)]
          · rw [if_pos (by omega), if_neg (fun h => k3 h.2.2.2.2.1)]
        · rw [fold_bad _ _ _ k2, if_neg (fun h => k2 h.2.2.2.1)]
      · rw [fold_bad _ _ _ k1, if_neg (fun h => k1 h.2.2.1)]
    · rw [if_pos (by omega), if_neg (fun h => q3 h.1)]
  rw [if_neg d3]
  have x3 : ¬ (i + 3 ≤ s.size ∧ U3 s i) := fun h => d3 h.2.1
  rw [if_neg x3]
  by_cases d4 : cb s i 0 / 8 = 30
  · rw [if_pos d4, Option.bind_some]
    simp only
    rw [if_neg (by decide)]
    by_cases q4 : i + 4 ≤ s.size
    · rw [if_neg (by omega), if_pos (by decide), show ((i : Int) + 1).toNat = i + 1 by omega, show ((i : Int) + 4).toNat = i + 1 + 3 by omega, bytes_ext s (i + 1) 3 (by omega)]
      rw [show (List.range 3).map (fun k => bt s ((i + 1 + k : Nat) : Int)) = [cb s i 1, cb s i 2, cb s i 3] from rfl]
      by_cases k1 : cb s i 1 / 64 = 2
      · rw [fold_step _ _ _ (by omega) (by omega) k1]
        by_cases k2 : cb s i 2 / 64 = 2
        · rw [fold_step _ _ _ (by omega) (by omega) k2]
          by_cases k3 : cb s i 3 / 64 = 2
          · rw [fold_step _ _ _ (by omega) (by omega) k3, runeFold]
            simp only
            rw [show utf_least.f 4 = some 65536 from by decide +kernel, Option.bind_some]
            have hr : ((cb s i 0 % 8 * 64 + cb s i 1 % 64) * 64 + cb s i 2 % 64) * 64 + cb s i 3 % 64 = r4 s i := rfl
            rw [hr]
            by_cases k4 : 65536 ≤ r4 s i
            · rw [if_neg (by omega), scal _ (by omega), Option.bind_some]
              by_cases k5 : r4 s i ≤ 1114111
              · rw [if_pos (decide_eq_true (by omega)), if_pos ⟨q4, d4, k1, k2, k3, k4, k5⟩]
              · rw [if_neg (by rw [decide_eq_false (by omega)]; decide), if_neg (fun h => k5 h.2.2.2.2.2.2)]
            · rw [if_pos (by omega), if_neg (fun h => k4 h.2.2.2.2.2.1)]
          · rw [fold_bad _ _ _ k3, if_neg (fun h => k3 h.2.2.2.2.1)]
        · rw [fold_bad _ _ _ k2, if_neg (fun h => k2 h.2.2.2.1)]
      · rw [fold_bad _ _ _ k1, if_neg (fun h => k1 h.2.2.1)]
    · rw [if_pos (by omega), if_neg (fun h => q4 h.1)]
  · rw [if_neg d4, Option.bind_some]
    simp only
    rw [if_pos trivial, if_neg (fun h => d4 h.2.1)]
theorem runeT_U (hi : i < s.size) (hs : s.size ≤ 140737488351232) : runeT s i = runeU s i := by
  have h1 : utf_Rune.f s i = some (runeT s i) := (rune_ends s i hs).1
  rw [utf_rune s i hi hs] at h1
  exact (Option.some.inj h1).symm
theorem drop_cb (q : Nat) (h : i + q < s.size) : ∃ c : UInt8, s.data.toList.drop (i + q) = c :: s.data.toList.drop (i + q + 1) ∧ ((c.toNat : Nat) : Int) = cb s i q := by
  have h1 : i + q < s.data.toList.length := by rw [← Lib.size_eq]; exact h
  exact ⟨s.data.toList[i + q], List.drop_eq_getElem_cons h1, (bt_data s (i + q) h1).symm⟩
end
/-- What the reference's Check says of a text whose bytes are 32 and more, and none 239: its bytes are good signs; and it always says something. -/
theorem check_rs (s : ByteArray) (hs : s.size ≤ 140737488351232) (hb : ∀ c ∈ s.data.toList, 32 ≤ c.toNat ∧ c.toNat ≠ 239) : ∀ (d i k : Nat), s.size - i ≤ d → i ≤ s.size → d + 40 ≤ k → ∃ r, PV.watchbillref01_Check.l0 k s i = some r ∧ (r < 0 → RS (s.data.toList.drop i)) := by
  intro d
  induction d with
  | zero =>
    intro i k hd hi hk
    obtain ⟨k, rfl⟩ : ∃ m, k = m + 1 := ⟨k - 1, by omega⟩
    rw [PV.watchbillref01_Check.l0, if_neg (by omega)]
    refine ⟨_, rfl, fun _ => ?_⟩
    rw [List.drop_eq_nil_of_le (by rw [← Lib.size_eq]; omega)]
    exact .nil
  | succ d ih =>
    intro i k hd hi hk
    by_cases hlt : i < s.size
    · obtain ⟨k, rfl⟩ : ∃ m, k = m + 30 + 1 := ⟨k - 31, by omega⟩
      rw [PV.watchbillref01_Check.l0, if_pos (by omega), ref_rune s i k hlt hs, Option.bind_some]
      have e1 : ∀ n : Nat, i + n ≤ s.size → wrap64 ((i : Int) + n) = ((i + n : Nat) : Int) := fun n hn => by rw [PL.w64 _ (by omega) (by omega)]; omega
      have mem : ∀ (q : Nat) (c : UInt8), s.data.toList.drop (i + q) = c :: s.data.toList.drop (i + q + 1) → 32 ≤ c.toNat ∧ c.toNat ≠ 239 := fun q c h => hb c (List.mem_of_mem_drop (i := i + q) (by rw [h]; exact List.mem_cons_self))
      obtain ⟨c0, d0, g0⟩ := drop_cb s i 0 (by omega)
      have b0 := mem 0 c0 d0
      rw [Nat.add_zero] at d0
      unfold runeU
      by_cases c1 : U1 s i
      · rw [if_pos c1]
        simp only
        rw [if_neg (by decide)]
        obtain ⟨r, hr, hR⟩ := ih (i + 1) (k + 30) (by omega) (by omega) (by omega)
        refine ⟨r, by rw [← hr]; exact congrArg _ (e1 1 (by omega)), fun h => ?_⟩
        rw [d0]
        unfold U1 at c1
        exact .one c0 _ b0.1 (by omega) (hR h)
      rw [if_neg c1]
      by_cases c2 : i + 2 ≤ s.size ∧ U2 s i
      · rw [if_pos c2]
        simp only
        rw [if_neg (by decide)]
        obtain ⟨r, hr, hR⟩ := ih (i + 2) (k + 30) (by omega) (by omega) (by omega)
        refine ⟨r, by rw [← hr]; exact congrArg _ (e1 2 (by omega)), fun h => ?_⟩
        obtain ⟨a1, d1, g1⟩ := drop_cb s i 1 (by omega)
        rw [d0, d1]
        have c2 := c2.2
        unfold U2 r2 at c2
        exact .two (c0.toNat % 32 * 64 + a1.toNat % 64) c0 a1 _ (by omega) (by omega) (by omega) (by omega) (hR h)
      rw [if_neg c2]
      by_cases c3 : i + 3 ≤ s.size ∧ U3 s i
      · rw [if_pos c3]
        simp only
        rw [if_neg (by decide)]
        obtain ⟨r, hr, hR⟩ := ih (i + 3) (k + 30) (by omega) (by omega) (by omega)
        refine ⟨r, by rw [← hr]; exact congrArg _ (e1 3 (by omega)), fun h => ?_⟩
        obtain ⟨a1, d1, g1⟩ := drop_cb s i 1 (by omega)
        obtain ⟨a2, d2, g2⟩ := drop_cb s i 2 (by omega)
        rw [d0, d1, d2]
        have c3 := c3.2
        unfold U3 r3 at c3
        exact .three ((c0.toNat % 16 * 64 + a1.toNat % 64) * 64 + a2.toNat % 64) c0 a1 a2 _ (by omega) (by omega) (by omega) (by omega) (by omega) (by omega) (hR h)
      rw [if_neg c3]
      by_cases c4 : i + 4 ≤ s.size ∧ U4 s i
      · rw [if_pos c4]
        simp only
        rw [if_neg (by decide)]
        obtain ⟨r, hr, hR⟩ := ih (i + 4) (k + 30) (by omega) (by omega) (by omega)
        refine ⟨r, by rw [← hr]; exact congrArg _ (e1 4 (by omega)), fun h => ?_⟩
        obtain ⟨a1, d1, g1⟩ := drop_cb s i 1 (by omega)
        obtain ⟨a2, d2, g2⟩ := drop_cb s i 2 (by omega)
        obtain ⟨a3, d3, g3⟩ := drop_cb s i 3 (by omega)
        rw [d0, d1, d2, d3]
        have c4 := c4.2
        unfold U4 r4 at c4
        exact .four (((c0.toNat % 8 * 64 + a1.toNat % 64) * 64 + a2.toNat % 64) * 64 + a3.toNat % 64) c0 a1 a2 a3 _ (by omega) (by omega) (by omega) (by omega) (by omega) (by omega) (hR h)
      rw [if_neg c4]
      simp only
      rw [if_pos trivial]
      exact ⟨_, rfl, fun h => by omega⟩
    · exact ih i k (by omega) hi (by omega)
end Go.Proofs.YtffpbhbiamkkpaaDoor.Lx
namespace Go.Proofs.YtffpbhbiamkkpaaDoor.Lx
open Go Go.RowKit Go.Proofs.YtffpbhbiamkkpaaDoorW.PrintWords Go.Proofs.YtffpbhbiamkkpaaDoorW.PrintLast Go.Proofs.YtffpbhbiamkkpaaDoorW.PrintMore Go.Proofs.YtffpbhbiamkkpaaDoor.PU
set_option linter.unusedVariables false
theorem awake_pure : PV.watchbilllaw03_awake.f = some true := by decide +kernel
/-- May a byte stand in a remark? -/
def okC (c : Int) : Prop := 32 ≤ c ∧ c ≠ 45 ∧ c ≠ 63 ∧ c ≠ 239
abbrev cA : ByteArray := ⟨#[60, 33, 45, 45]⟩
abbrev cB : ByteArray := ⟨#[45, 45, 62]⟩
abbrev oA : ByteArray := ⟨#[60, 63, 120, 32]⟩
abbrev oB : ByteArray := ⟨#[63, 62]⟩
theorem put_data (s r a b : ByteArray) (p : Nat) (hp : p ≤ s.size) : (s.extract 0 p ++ a ++ r ++ b ++ s.extract p s.size).data.toList = s.data.toList.take p ++ ((a.data.toList ++ (r.data.toList ++ b.data.toList)) ++ s.data.toList.drop p) := by
  have e1 : (s.extract 0 p).data.toList = s.data.toList.take p := by
    rw [ByteArray.data_extract, Array.toList_extract, List.extract_eq_take_drop, List.drop_zero, Nat.sub_zero]
  have e2 : (s.extract p s.size).data.toList = s.data.toList.drop p := by
    rw [ByteArray.data_extract, Array.toList_extract, List.extract_eq_take_drop, List.take_of_length_le]
    rw [List.length_drop, ← Lib.size_eq]
    omega
  simp only [ByteArray.data_append, Array.toList_append, e1, e2, List.append_assoc]
theorem put_lex (s r : ByteArray) (a b : ByteArray) (hab : (a = cA ∧ b = cB) ∨ (a = oA ∧ b = oB)) (hs : s.size ≤ 20000) (hr : r.size ≤ 1000) (hR : RS r.data.toList) (hok : ∀ c ∈ r.data.toList, okC ((c.toNat : Nat) : Int)) (l : List Tok) (q : Int) (h : lexTok s = some (l, q, 0)) (x : Tok) (hx : x ∈ l) (hk : x.kind ≠ 4) (p : Nat) (hp : x.at_ = (p : Int)) (hps : p ≤ s.size) :
    ∃ l', lexTok (s.extract 0 p ++ a ++ r ++ b ++ s.extract p s.size) = some (l', 0, 0) ∧ l'.map noPlace = l.map noPlace := by
  have n45 : (45 : UInt8) ∉ r.data.toList := fun h => (hok _ h).2.1 rfl
  have n63 : (63 : UInt8) ∉ r.data.toList := fun h => (hok _ h).2.2.1 rfl
  refine remark_put s _ r.data.toList (a.data.toList ++ (r.data.toList ++ b.data.toList)) hR n45 n63 (by rw [← Lib.size_eq]; exact hr) ?_ hs l q h x hx hk p hp hps (put_data s r a b p hps)
  rcases hab with ⟨rfl, rfl⟩ | ⟨rfl, rfl⟩
  · exact Or.inl rfl
  · exact Or.inr rfl
/-- The reference's Check always says something. -/
theorem check_some (s : ByteArray) (hs : s.size ≤ 140737488351232) : ∀ (d i k : Nat), s.size - i ≤ d → i ≤ s.size → d + 40 ≤ k → ∃ r, PV.watchbillref01_Check.l0 k s i = some r := by
  intro d
  induction d with
  | zero =>
    intro i k hd hi hk
    obtain ⟨k, rfl⟩ : ∃ m, k = m + 1 := ⟨k - 1, by omega⟩
    rw [PV.watchbillref01_Check.l0, if_neg (by omega)]
    exact ⟨_, rfl⟩
  | succ d ih =>
    intro i k hd hi hk
    by_cases hlt : i < s.size
    · obtain ⟨k, rfl⟩ : ∃ m, k = m + 30 + 1 := ⟨k - 31, by omega⟩
      rw [PV.watchbillref01_Check.l0, if_pos (by omega), ref_rune s i k hlt hs, Option.bind_some, ← runeT_U s i hlt hs]
      obtain ⟨e, hn, hb⟩ := Go.Proofs.YtffpbhbiamkkpaaDoor.PG.rune_ends s i hs
      by_cases hz : (Go.Proofs.YtffpbhbiamkkpaaDoor.PG.runeT s i).2 = 0
      · rw [if_pos hz]; exact ⟨_, rfl⟩
      · obtain ⟨_, hb1, _⟩ := hb hz
        obtain ⟨n, hn⟩ : ∃ n : Nat, (Go.Proofs.YtffpbhbiamkkpaaDoor.PG.runeT s i).2 = (n : Int) := ⟨(Go.Proofs.YtffpbhbiamkkpaaDoor.PG.runeT s i).2.toNat, by omega⟩
        rw [if_neg hz, PL.w64 _ (by omega) (by omega), hn]
        obtain ⟨r, hr⟩ := ih (i + n) (k + 30) (by omega) (by omega) (by omega)
        exact ⟨r, by rw [← hr]; congr 1⟩
    · exact ih i k (by omega) hi (by omega)
theorem fineT_P {s : ByteArray} {i : Nat} {P : Tok → Prop} {x : Tok} {q : Nat} (h : FineT s i P (.ok (x, q))) : P x := by
  unfold FineT at h
  exact h.2.2.2
theorem tagL_few (s : ByteArray) (a : Nat) : ∀ (d i : Nat) (l : List Raw) (kd : Int) (l' : List Raw) (q : Nat), tagL s a d i l = some (.ok (kd, l', q)) → l'.length ≤ l.length + d := by
  intro d
  induction d with
  | zero => intro i l kd l' q h; cases h
  | succ d ih =>
    intro i l kd l' q h
    rw [tagL] at h
    split at h
    · cases h
    split at h
    · cases h; omega
    split at h
    · cases h; omega
    split at h
    · split at h <;> cases h
    split at h
    · cases h
    split at h
    · cases h
    obtain ⟨r, _, h⟩ := Option.bind_eq_some_iff.1 h
    cases r with
    | error e => cases h
    | ok p =>
      have := ih _ _ _ _ _ h
      rw [List.length_append, List.length_singleton] at this
      omega
theorem one_few (s : ByteArray) (i : Nat) (hi : i < s.size) (hs : s.size ≤ 1000000) (t : List Tok) (j : Nat) (h : oneS s i = some (.ok (t, j))) : ∀ x ∈ t, x.attrs.length ≤ s.size + 1 := by
  have go : ∀ {r : Except (Int × Int) Nat}, (match r with | .error e => .error e | .ok j => .ok ([], j) : Except (Int × Int) (List Tok × Nat)) = .ok (t, j) → ∀ x ∈ t, x.attrs.length ≤ s.size + 1 := by
    intro r h
    cases r with
    | error p => cases h
    | ok q => cases h; intro x hx; cases hx
  have no : ∀ {P : Tok → Prop} {r : Except (Int × Int) (Tok × Nat)}, FineT s i P r → (∀ x, P x → x.attrs = []) → someTok r = .ok (t, j) → ∀ x ∈ t, x.attrs.length ≤ s.size + 1 := by
    intro P r hf hP h
    obtain ⟨x, rfl, rfl⟩ := one_kinds (s := s) (i := i) h
    intro y hy
    obtain rfl : y = x := by simpa using hy
    rw [hP _ (fineT_P hf)]
    simp
  unfold oneS at h
  by_cases c1 : nextB s i sPi = true
  · rw [if_pos c1] at h; exact go (Option.some.inj h)
  rw [if_neg c1] at h
  by_cases c2 : nextB s i sCom = true
  · rw [if_pos c2] at h; exact go (Option.some.inj h)
  rw [if_neg c2] at h
  by_cases c3 : nextB s i sCd = true
  · rw [if_pos c3] at h
    have hle := nextB_le c3 (by omega)
    obtain ⟨r, hr, hf⟩ := section_fine s i hle hs
    rw [hr, Option.map_some] at h
    exact no hf (fun x hx => hx.2.2) (Option.some.inj h)
  rw [if_neg c3] at h
  by_cases c4 : nextB s i sBD = true
  · rw [if_pos c4] at h; cases h
  rw [if_neg c4] at h
  by_cases c5 : nextB s i sBang = true
  · rw [if_pos c5] at h; cases h
  rw [if_neg c5] at h
  by_cases c6 : nextB s i sEnd2 = true
  · rw [if_pos c6] at h
    have hle := nextB_le c6 (by omega)
    exact no (closing_fine s i hle) (fun x hx => hx.2) (Option.some.inj h)
  rw [if_neg c6] at h
  by_cases c7 : nextB s i sLt = true
  · rw [if_pos c7] at h
    obtain ⟨r, hr, h⟩ := Option.map_eq_some_iff.1 h
    obtain ⟨x, rfl, rfl⟩ := one_kinds (s := s) (i := i) h
    intro y hy
    obtain rfl : y = x := by simpa using hy
    unfold tagS at hr
    split at hr
    · cases hr
    · obtain ⟨r, hr, h⟩ := Option.map_eq_some_iff.1 hr
      cases r with
      | error e => cases h
      | ok p =>
        have := tagL_few s i _ _ _ _ _ _ hr
        cases h
        simpa using this
  rw [if_neg c7] at h
  obtain ⟨r, hr, hf⟩ := text_fine s i hi (fun e => c7 ((bt_first s i hi).2 e)) hs
  rw [hr, Option.map_some] at h
  exact no hf (fun x hx => hx.2.2) (Option.some.inj h)
theorem Runs.few {s : ByteArray} (hs : s.size ≤ 1000000) {i k : Nat} {t : List Tok} (h : Runs s i t k) : ∀ x ∈ t, x.attrs.length ≤ s.size + 1 := by
  induction h with
  | nil i => intro x hx; cases hx
  | cons i j k t t' h1 h2 h3 h4 h5 h6 ih =>
    intro x hx
    rcases List.mem_append.1 hx with hx | hx
    · exact one_few s i h1 hs t j h2 x hx
    · exact ih x hx
theorem attrs_few (s : ByteArray) (hs : s.size ≤ 40000) (l : List Tok) (a c : Int) (h : lexTok s = some (l, a, c)) : ∀ x ∈ l, x.attrs.length ≤ 140737488351232 := by
  unfold lexTok at h
  split at h
  · cases h; intro x hx; cases hx
  obtain ⟨b, _, h⟩ := Option.bind_eq_some_iff.1 h
  split at h
  · cases h; intro x hx; cases hx
  obtain ⟨b, _, h⟩ := Option.bind_eq_some_iff.1 h
  split at h
  · cases h; intro x hx; cases hx
  split at h
  · cases h; intro x hx; cases hx
  · rename_i q hq
    split at h
    · rename_i hq2
      obtain ⟨r, hr, h⟩ := Option.map_eq_some_iff.1 h
      cases r with
      | error e => cases h; intro x hx; cases hx
      | ok l1 =>
        obtain ⟨l2, e, hRn⟩ := runs_of s (by omega) _ q [] l1 hq2 hr
        rw [List.nil_append] at e
        subst e
        obtain rfl : l1 = l := congrArg Prod.fst h
        intro x hx
        have := hRn.few (by omega) x hx
        omega
    · cases h
theorem rise_mem (s : ByteArray) : ∀ (l : List Tok) (i : Int), Rise s i l → ∀ x ∈ l, TokOK s x := by
  intro l
  induction l with
  | nil => intro i _ x h; cases h
  | cons y l ih =>
    intro i h x hx
    rcases List.mem_cons.1 hx with rfl | hx
    · exact h.2.1
    · exact ih _ h.2.2 x hx
set_option maxHeartbeats 4000000 in
set_option maxRecDepth 100000 in
theorem remarks_walk (s r : ByteArray) (k : Int) (w : World) (hM : MU w) (hs : s.size ≤ 140737488351232) (hr : r.size ≤ 140737488351232) : Calls Tryd.prog 8 #[.string s, .string r, .int .i64 k] w fun e w' => e = .returned (.bool true) ∧ Below w.heap.size w w' := by
  have HAW := Aside0.mk (fun W hml => PV.watchbilllaw03_awake.calls true W hml awake_pure)
  have HM := Aside0.mk hM
  clear hM
  by_cases hb : 20000 < s.size
  · have q1 := eq_true (show (20000 : Int) < (s.size : Int) by omega)
    clear hb
    go_enter Tryd.func8, Tryd.ntmps8
    go_wp2_with fail
    refine (HAW.out _ HM.out).mono ?_
    rintro e w1 ⟨rfl, hb1⟩
    have HB1 := Aside0.mk hb1
    clear hb1
    go_wp2_with fail
    go_ret
    exact ⟨rfl, HB1.out⟩
  have q1 := eq_false (show ¬ (20000 : Int) < (s.size : Int) by omega)
  have hs2 : s.size ≤ 20000 := by omega
  clear hb hs
  by_cases hb : 1000 < r.size
  · have q2 := eq_true (show (1000 : Int) < (r.size : Int) by omega)
    clear hb
    go_enter Tryd.func8, Tryd.ntmps8
    go_wp2_with fail
    refine (HAW.out _ HM.out).mono ?_
    rintro e w1 ⟨rfl, hb1⟩
    have HB1 := Aside0.mk hb1
    clear hb1
    go_wp2_with fail
    go_ret
    exact ⟨rfl, HB1.out⟩
  have q2 := eq_false (show ¬ (1000 : Int) < (r.size : Int) by omega)
  have hr2 : r.size ≤ 1000 := by omega
  clear hb hr
  obtain ⟨cr, hcr, hRS⟩ : ∃ c, PV.watchbillref01_Check.f (r.size + 40) r = some c ∧ ((∀ c ∈ r.data.toList, okC ((c.toNat : Nat) : Int)) → c < 0 → RS r.data.toList) := by
    by_cases hall : ∀ c ∈ r.data.toList, 32 ≤ c.toNat ∧ c.toNat ≠ 239
    · obtain ⟨c, h1, h2⟩ := check_rs r (by omega) hall r.size 0 (r.size + 40) (by omega) (by omega) (by omega)
      exact ⟨c, h1, fun _ h => h2 h⟩
    · obtain ⟨c, h1⟩ := check_some r (by omega) r.size 0 (r.size + 40) (by omega) (by omega) (by omega)
      refine ⟨c, h1, fun h => absurd (fun c hc => ?_) hall⟩
      have := h c hc
      unfold okC at this
      omega
  have HCK := Aside0.mk (fun W => PV.watchbillref01_Check.calls (r.size + 40) r cr W hcr)
  clear hcr
  by_cases hc0 : 0 ≤ cr
  · have q3 := eq_true hc0
    have q4 : decide (0 ≤ cr) = true := decide_eq_true hc0
    clear hc0 hRS
    go_enter Tryd.func8, Tryd.ntmps8
    go_wp2_with fail
    refine (HAW.out _ HM.out).mono ?_
    rintro e w1 ⟨rfl, hb1⟩
    have HB1 := Aside0.mk hb1
    clear hb1
    go_wp2_with fail
    refine (HCK.out _).mono ?_
    rintro e w2 ⟨rfl, hb2⟩
    have HB2 := Aside0.mk (HB1.out.trans (hb2.mono HB1.out.size))
    clear hb2
    go_wp2_with fail
    go_ret
    exact ⟨rfl, HB2.out⟩
  have q3 := eq_false hc0
  have q4 : decide (0 ≤ cr) = false := decide_eq_false hc0
  have HRS := Aside0.mk (fun h => hRS h (by omega))
  clear hc0 hRS
  obtain ⟨l, a, c, hl, hsay, hc⟩ := lex_says s (by omega)
  have HT := Aside0.mk (fun W (h : MU W) => tokens_calls s W h.1 h.2 l a c hl)
  have HL := Aside0.mk hl
  obtain ⟨ha0, ha1, hR, hlen⟩ := hsay
  have HR := Aside0.mk hR
  have HAT := Aside0.mk (attrs_few s (by omega) l a c hl)
  clear hl hR ha0 ha1 hc
  go_enter Tryd.func8, Tryd.ntmps8
  go_wp2_with fail
  refine (HAW.out _ HM.out).mono ?_
  rintro e w1 ⟨rfl, hb1⟩
  have HB1 := Aside0.mk hb1
  clear hb1
  go_wp2_with fail
  refine (HCK.out _).mono ?_
  rintro e w2 ⟨rfl, hb2⟩
  have HB2 := Aside0.mk (HB1.out.trans (hb2.mono HB1.out.size))
  clear hb2
  go_wp2_with fail
  go_loopg [7] r.size (fun m v wr => ∃ j : Nat, v = .int .i64 (j : Int) ∧ j ≤ r.size ∧ wr = w2 ∧ Aside0 (m = r.size - j) ∧ Aside0 (∀ q < j, okC (bt r (q : Int))))
  case atStart => exact ⟨0, rfl, Nat.zero_le _, rfl, ⟨rfl⟩, ⟨fun q h => absurd h (by omega)⟩⟩
  case round =>
    obtain ⟨j, rfl, hj, rfl, HMe, HO⟩ := hrel
    by_cases hlt : j < r.size
    · have x1 := eq_true (show (j : Int) < (r.size : Int) by omega)
      have x2 := eq_true (show (0 : Int) ≤ (j : Int) by omega)
      have x3 := bt_nat r j hlt
      have x3r := bt_range r j
      obtain ⟨z, hz⟩ : ∃ z, z = j + 1 := ⟨_, rfl⟩
      have f1 : (j : Int) + 1 = (z : Int) := by omega
      have f2 : IntKind.i64.wrap (z : Int) = (z : Int) := IntWalk.i64_in _ (by omega)
      have HZ := Aside0.mk hz
      clear hz
      have bad : ∀ {P : Prop}, ¬ okC (bt r j) → True := fun _ => trivial
      by_cases y1 : bt r j < 32
      · have z1 : decide (bt r j < 32) = true := decide_eq_true y1
        have z2 := eq_true y1
        clear y1
        go_wp2_with fail
        go_ret
        exact ⟨rfl, HB2.out⟩
      have z1 : decide (bt r j < 32) = false := decide_eq_false y1
      have z2 := eq_false y1
      by_cases y2 : bt r j = 45
      · rw [y2] at x3 z1 z2
        clear y1 y2
        go_wp2_with fail
        go_ret
        exact ⟨rfl, HB2.out⟩
      have z3 : (bt r j == 45) = false := beq_eq_false_iff_ne.2 y2
      have z4 := eq_false y2
      by_cases y3 : bt r j = 63
      · rw [y3] at x3 z1 z2 z3 z4
        clear y1 y2 y3
        go_wp2_with fail
        go_ret
        exact ⟨rfl, HB2.out⟩
      have z5 : (bt r j == 63) = false := beq_eq_false_iff_ne.2 y3
      have z6 := eq_false y3
      by_cases y4 : bt r j = 239
      · rw [y4] at x3 z1 z2 z3 z4 z5 z6
        clear y1 y2 y3 y4
        go_wp2_with fail
        go_ret
        exact ⟨rfl, HB2.out⟩
      have z7 : (bt r j == 239) = false := beq_eq_false_iff_ne.2 y4
      have z8 := eq_false y4
      have HOK := Aside0.mk (show okC (bt r j) from ⟨by omega, y2, y3, y4⟩)
      clear y1 y2 y3 y4
      go_wp2_with fail
      go_roundg (r.size - z)
      case measure => have h1 := HMe.out; have h2 := HZ.out; omega
      case rel =>
        refine ⟨z, rfl, by have h2 := HZ.out; omega, rfl, ⟨rfl⟩, ⟨fun q hq => ?_⟩⟩
        by_cases e : q = j
        · rw [e]; exact HOK.out
        · exact HO.out q (by have h2 := HZ.out; omega)
    · have x1 := eq_false (show ¬ (j : Int) < (r.size : Int) by omega)
      obtain rfl : j = r.size := by omega
      have hall : ∀ c ∈ r.data.toList, okC ((c.toNat : Nat) : Int) := by
        intro c hc
        obtain ⟨q, hq, rfl⟩ := List.getElem_of_mem hc
        rw [← bt_data r q hq]
        exact HO.out q (by rw [Lib.size_eq]; exact hq)
      have HALL := Aside0.mk hall
      have HRS2 := Aside0.mk (HRS.out hall)
      clear hall
      go_wp2_with fail
      refine (HT.out _ (HM.out.below HB2.out)).mono ?_
      rintro e w3 ⟨v, rfl, hS, hb3⟩
      obtain ⟨A, cp, rfl, hcp, hC⟩ := Kd.S_reads hS
      have HB3 := Aside0.mk (HB2.out.trans (hb3.mono HB2.out.size))
      have HC := Aside0.mk hC
      clear hb3 hS hC hcp
      by_cases h0 : c = 0
      · subst h0
        go_wp2_with fail
        go_loopg [11] l.length (fun m v wr => ∃ j : Nat, v = .int .i64 (j : Int) ∧ j ≤ l.length ∧ Aside0 (m = l.length - j) ∧ Aside0 (Below w3.heap.size w3 wr))
        case atStart => exact ⟨0, rfl, Nat.zero_le _, ⟨rfl⟩, ⟨Below.refl _ _⟩⟩
        case round =>
          obtain ⟨j, rfl, hj, HMe, HB⟩ := hrel
          by_cases hlt : j < l.length
          · obtain ⟨x, hx⟩ : ∃ x, l[j]? = some x := ⟨_, List.getElem?_eq_getElem hlt⟩
            obtain ⟨ad, A3, c3, eA, k0, k1, _, _, _, _⟩ := tokAt HC.out j hlt x hx
            have k0 := pw_cell_below HB.out k0
            have k1 := pw_cell_below HB.out k1
            have x1 := eq_true (show (j : Int) < (l.length : Int) by omega)
            have x2 := eq_true (show (0 : Int) ≤ (j : Int) by omega)
            obtain ⟨z, hz⟩ : ∃ z, z = j + 1 := ⟨_, rfl⟩
            have f1 : (j : Int) + 1 = (z : Int) := by omega
            have f2 : IntKind.i64.wrap (z : Int) = (z : Int) := IntWalk.i64_in _ (by omega)
            have HZ := Aside0.mk hz
            have HX := Aside0.mk hx
            subst eA
            clear hz hx
            obtain ⟨kd, hkd⟩ : ∃ kd, x.kind = kd := ⟨_, rfl⟩
            rw [hkd] at k0
            by_cases y1 : kd = 4
            · subst y1
              clear hkd
              go_wp2_with fail
              go_roundg (l.length - z)
              case measure => have h1 := HMe.out; have h2 := HZ.out; omega
              case rel => exact ⟨z, rfl, by have h2 := HZ.out; omega, ⟨rfl⟩, HB⟩
            have z1 : (kd == 4) = false := beq_eq_false_iff_ne.2 y1
            have z2 := eq_false y1
            have hxl := List.mem_of_getElem? HX.out
            obtain ⟨p, hp, hps, _⟩ := rise_mem s l 0 HR.out x hxl
            rw [hp] at k1
            obtain ⟨l1, h1, e1⟩ := put_lex s r cA cB (Or.inl ⟨rfl, rfl⟩) hs2 hr2 HRS2.out HALL.out l a HL.out x hxl (by rw [hkd]; exact y1) p hp (by omega)
            obtain ⟨l2, h2, e2⟩ := put_lex s r oA oB (Or.inr ⟨rfl, rfl⟩) hs2 hr2 HRS2.out HALL.out l a HL.out x hxl (by rw [hkd]; exact y1) p hp (by omega)
            have HT1 := Aside0.mk (fun W (h : MU W) => tokens_calls _ W h.1 h.2 l1 0 0 h1)
            have HT2 := Aside0.mk (fun W (h : MU W) => tokens_calls _ W h.1 h.2 l2 0 0 h2)
            have E1 := Aside0.mk e1
            have E2 := Aside0.mk e2
            have x4 := eq_true (show (0 : Int) ≤ (p : Int) by omega)
            have x5 := eq_true (show (p : Int) ≤ (s.size : Int) by omega)
            have g1 := eq_false (show ¬ 9223372036854775807 < min p s.size + 4 by omega)
            have g2 := eq_false (show ¬ 9223372036854775807 < min p s.size + 4 + r.size by omega)
            have g3 := eq_false (show ¬ 9223372036854775807 < min p s.size + 4 + r.size + 3 by omega)
            have g4 := eq_false (show ¬ 9223372036854775807 < min p s.size + 4 + r.size + 3 + (s.size - p) by omega)
            have g5 := eq_false (show ¬ 9223372036854775807 < min p s.size + 4 + r.size + 2 by omega)
            have g6 := eq_false (show ¬ 9223372036854775807 < min p s.size + 4 + r.size + 2 + (s.size - p) by omega)
            clear hxl hp hps h1 h2 e1 e2 hkd y1
            have HMr := Aside0.mk (HM.out.below (HB3.out.trans (HB.out.mono HB3.out.size)))
            go_wp2_with fail
            · go_roundg (l.length - z)
              case measure => have h1 := HMe.out; have h2 := HZ.out; omega
              case rel => exact ⟨z, rfl, by have h2 := HZ.out; omega, ⟨rfl⟩, HB⟩
            all_goals
              go_region_held3 (fun W => W.cell? ⟨(ad.add (j * 5)).block, (ad.add (j * 5)).off + 1, none⟩ = some (.int .i64 (p : Int)))
                (first | go_keep | (exact pw_cell_below (by assumption) (by assumption)))
                ((go_at_call 23; (with_reducible refine (HT1.out _ (by with_reducible repeat (first | exact HMr.out | apply MU.drewN | apply MU.drew))).mono ?_); rintro e w4 ⟨v4, rfl, hS4, hb4⟩; obtain ⟨A4, cp4, rfl, hcp4, hC4⟩ := Kd.S_reads hS4; clear hS4 hcp4))
              all_goals
                have hb4' : Below wr.heap.size wr w4 := (below_drew (Below.refl _ _)).trans hb4
                have HB4 := Aside0.mk hb4'
                have HC4 := Aside0.mk hC4
                have k1 := pw_cell_below hb4' k1
                have HM4 := Aside0.mk (HMr.out.below hb4')
                clear hb4 hb4' hC4
                go_wp2_with fail
              all_goals
                go_region_held3 (fun W => W.cell? ⟨(ad.add (j * 5)).block, (ad.add (j * 5)).off + 1, none⟩ = some (.int .i64 (p : Int)))
                  (first | go_keep | (exact pw_cell_below (by assumption) (by assumption)))
                  ((go_at_call 23; (with_reducible refine (HT2.out _ (by with_reducible repeat (first | exact HM4.out | apply MU.drewN | apply MU.drew))).mono ?_); rintro e w5 ⟨v5, rfl, hS5, hb5⟩; obtain ⟨A5, cp5, rfl, hcp5, hC5⟩ := Kd.S_reads hS5; clear hS5 hcp5))
              all_goals
                have hb5' : Below w4.heap.size w4 w5 := (below_drew (Below.refl _ _)).trans hb5
                have hl5 : kTok.C w5 (some ad) l.length l := Kd.C_below (Kd.C_below (Kd.C_below HC.out HB.out) HB4.out) hb5'
                have hl4 : kTok.C w5 A4 l1.length l1 := Kd.C_below HC4.out hb5'
                have HS1 := Aside0.mk (same_calls A4 (some ad) cp4 cp l l1 w5 hl4 hl5 E1.out (by omega) HAT.out)
                have HS2 := Aside0.mk (fun nd => same_calls A5 (some ad) cp5 cp l l2 (w5.drewN nd) (Kd.C_drewN hC5 nd) (Kd.C_drewN hl5 nd) E2.out (by omega) HAT.out)
                have HB5 := Aside0.mk (HB.out.trans ((HB4.out.trans (hb5'.mono HB4.out.size)).mono HB.out.size))
                clear hb5 hb5' hl5 hl4 hC5
                go_wp2_with fail
                refine HS1.out.mono ?_
                rintro e w6 ⟨rfl, ⟨nd, rfl⟩⟩
                go_wp2_with fail
                refine (HS2.out _).mono ?_
                rintro e w6 ⟨rfl, ⟨nd2, rfl⟩⟩
                go_wp2_with fail
                go_roundg (l.length - z)
                case measure => have h1 := HMe.out; have h2 := HZ.out; omega
                case rel => exact ⟨z, rfl, by have h2 := HZ.out; omega, ⟨rfl⟩, ⟨pw_below_drewN HB5.out _⟩⟩
          · have x1 := eq_false (show ¬ (j : Int) < (l.length : Int) by omega)
            have HF := Aside0.mk (HB3.out.trans (HB.out.mono HB3.out.size))
            go_wp2_with fail
            go_ret
            exact ⟨rfl, HF.out⟩
      · have n1 : (c != 0) = true := bne_iff_ne.2 h0
        clear h0
        go_wp2_with fail
        go_ret
        exact ⟨rfl, HB3.out⟩
end Go.Proofs.YtffpbhbiamkkpaaDoor.Lx
