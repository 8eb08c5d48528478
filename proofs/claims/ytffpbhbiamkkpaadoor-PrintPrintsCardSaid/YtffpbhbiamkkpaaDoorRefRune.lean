/- The reference's signs: watchbillref01.Rune is utf.Rune, at every place of every text. -/
import Derived.Test.YtffpbhbiamkkpaaDoorRemS
import Derived.Test.YtffpbhbiamkkpaaDoorMa
namespace Go.Proofs.YtffpbhbiamkkpaaDoor.Lx
open Go.RowKit Go.Proofs.YtffpbhbiamkkpaaDoor.PU Go.Proofs.YtffpbhbiamkkpaaDoorW.PrintWords
open Go.Proofs.YtffpbhbiamkkpaaDoor.PG (runeT yi4 yq6)
set_option linter.unusedVariables false
def signB (n : Int) : Bool := decide (0 ≤ n ∧ n ≤ 1114111 ∧ (n < 55296 ∨ 57343 < n))
theorem sign_f (n : Int) : PV.yc8.f n = some (signB n) := by
  show PL.yc8.f n = some (signB n)
  unfold PL.yc8.f signB
  by_cases h1 : n ≥ 0
  · by_cases h2 : n ≤ 1114111
    · by_cases h3 : n < 55296
      · rw [if_pos h1, if_pos h2, if_pos h3]; congr 1; symm; exact decide_eq_true (by omega)
      · rw [if_pos h1, if_pos h2, if_neg h3]; congr 1
        by_cases h4 : n > 57343
        · rw [decide_eq_true h4]; symm; exact decide_eq_true (by omega)
        · rw [decide_eq_false h4]; symm; exact decide_eq_false (by omega)
    · rw [if_pos h1, if_neg h2]; congr 1; symm; exact decide_eq_false (by omega)
  · rw [if_neg h1]; congr 1; symm; exact decide_eq_false (by omega)
def putI (n : Int) : List Int := if n < 128 then [n] else if n < 2048 then [192 + n / 64, 128 + n % 64] else if n < 65536 then [224 + n / 4096, 128 + n / 64 % 64, 128 + n % 64] else [240 + n / 262144, 128 + n / 4096 % 64, 128 + n / 64 % 64, 128 + n % 64]
theorem put_ref (n : Int) (h : signB n = true) : PV.yd5.f n = some (strOfNums (putI n)) := by
  show PL.yd5.f n = _
  have hs : PL.yc8.f n = some (signB n) := sign_f n
  have hr : 0 ≤ n ∧ n ≤ 1114111 := by have := of_decide_eq_true h; omega
  obtain ⟨h0, h1⟩ := hr
  unfold PL.yd5.f putI
  rw [hs, h]
  simp only [Option.bind_some, if_true]
  by_cases c1 : n < 128
  · rw [if_pos c1, if_pos c1, show n % 256 = n by omega]
  rw [if_neg c1, if_neg c1]
  have d1 : Int.tdiv n 64 = n / 64 := Int.tdiv_eq_ediv_of_nonneg h0
  have d2 : Int.tdiv n 4096 = n / 4096 := Int.tdiv_eq_ediv_of_nonneg h0
  have d3 : Int.tdiv n 262144 = n / 262144 := Int.tdiv_eq_ediv_of_nonneg h0
  have m0 : Int.tmod n 64 = n % 64 := Int.tmod_eq_emod_of_nonneg h0
  have m1 : Int.tmod (n / 64) 64 = n / 64 % 64 := Int.tmod_eq_emod_of_nonneg (by omega)
  have m2 : Int.tmod (n / 4096) 64 = n / 4096 % 64 := Int.tmod_eq_emod_of_nonneg (by omega)
  have v1 : wrap64 (n / 64) = n / 64 := PL.w64 _ (by omega) (by omega)
  have v2 : wrap64 (n / 4096) = n / 4096 := PL.w64 _ (by omega) (by omega)
  have v3 : wrap64 (n / 262144) = n / 262144 := PL.w64 _ (by omega) (by omega)
  have x0 : wrap64 (128 + n % 64) = 128 + n % 64 := PL.w64 _ (by omega) (by omega)
  have x1 : wrap64 (128 + n / 64 % 64) = 128 + n / 64 % 64 := PL.w64 _ (by omega) (by omega)
  have x2 : wrap64 (128 + n / 4096 % 64) = 128 + n / 4096 % 64 := PL.w64 _ (by omega) (by omega)
  have y0 : (128 + n % 64) % 256 = 128 + n % 64 := by omega
  have y1 : (128 + n / 64 % 64) % 256 = 128 + n / 64 % 64 := by omega
  have y2 : (128 + n / 4096 % 64) % 256 = 128 + n / 4096 % 64 := by omega
  by_cases c2 : n < 2048
  · rw [if_pos c2, if_pos c2, d1, m0, v1, x0, y0, PL.w64 (192 + n / 64) (by omega) (by omega), show (192 + n / 64) % 256 = 192 + n / 64 by omega]
  rw [if_neg c2, if_neg c2]
  by_cases c3 : n < 65536
  · rw [if_pos c3, if_pos c3, d2, v2, d1, v1, m0, m1, x0, x1, y0, y1, PL.w64 (224 + n / 4096) (by omega) (by omega), show (224 + n / 4096) % 256 = 224 + n / 4096 by omega]
  rw [if_neg c3, if_neg c3, d3, v3, d2, v2, d1, v1, m0, m1, m2, x0, x1, x2, y0, y1, y2, PL.w64 (240 + n / 262144) (by omega) (by omega), show (240 + n / 262144) % 256 = 240 + n / 262144 by omega]
theorem putI_range (n : Int) (h : signB n = true) : ∀ x ∈ putI n, 0 ≤ x ∧ x ≤ 255 := by
  have hr : 0 ≤ n ∧ n ≤ 1114111 := by have := of_decide_eq_true h; omega
  unfold putI
  intro x hx
  split at hx
  · simp only [List.mem_cons, List.not_mem_nil, or_false] at hx; omega
  split at hx
  · simp only [List.mem_cons, List.not_mem_nil, or_false] at hx; omega
  split at hx
  · simp only [List.mem_cons, List.not_mem_nil, or_false] at hx; omega
  · simp only [List.mem_cons, List.not_mem_nil, or_false] at hx; omega
theorem nums_bytes : ∀ l : List Int, (∀ x ∈ l, 0 ≤ x ∧ x ≤ 255) → bytesOf (strOfNums l) = l := by
  intro l h
  unfold bytesOf strOfNums
  rw [List.toList_toArray, List.map_map]
  conv => rhs; rw [← List.map_id l]
  refine List.map_congr_left fun x hx => ?_
  have := h x hx
  simp only [Function.comp_apply, id_eq, UInt8.toNat_ofNat']
  omega
theorem bytes_inj {a b : ByteArray} (h : bytesOf a = bytesOf b) : a.toList = b.toList := by
  rw [Lib.toList_data, Lib.toList_data]
  unfold bytesOf at h
  exact (List.map_inj_right (fun x y e => UInt8.toNat_inj.1 (by omega))).1 h
theorem put_is (n : Int) (h : signB n = true) (x : ByteArray) : (strOfNums (putI n)).toList = x.toList ↔ putI n = bytesOf x := by
  have e := nums_bytes _ (putI_range n h)
  constructor
  · intro k
    rw [Lib.toList_data, Lib.toList_data] at k
    rw [← e]
    unfold bytesOf
    rw [k]
  · intro k
    exact bytes_inj (e.trans k)
theorem bt_ext (s : ByteArray) (a b i : Nat) (h : a + i < b) (hb : b ≤ s.size) : bt (s.extract a b) (i : Int) = bt s ((a + i : Nat) : Int) := by
  unfold bt
  have h1 : ((i : Nat) : Int).toNat < (s.extract a b).size := by rw [ByteArray.size_extract, Int.toNat_natCast]; omega
  have h2 : ((a + i : Nat) : Int).toNat < s.size := by rw [Int.toNat_natCast]; omega
  rw [dif_pos h1, dif_pos h2]
  congr 2
  simp [ByteArray.getElem_eq_getElem_data]
  congr 1
theorem yn6 (s : ByteArray) (a k : Nat) (h : a + k ≤ s.size) : bytesOf (s.extract a (a + k)) = (List.range k).map fun i => bt s ((a + i : Nat) : Int) := by
  apply List.ext_getElem
  · rw [bytesOf_length, ByteArray.size_extract, List.length_map, List.length_range]; omega
  · intro i h1 h2
    rw [bytesOf_length, ByteArray.size_extract] at h1
    rw [List.getElem_map, List.getElem_range, ← bt_ext s a (a + k) i (by omega) h, ← rd_bytesOf]
    unfold rd
    rw [List.getD_eq_getElem?_getD, Int.toNat_natCast, List.getElem?_eq_getElem (by rw [bytesOf_length, ByteArray.size_extract]; omega), Option.getD_some]
section
variable (s : ByteArray) (i : Nat)
/-- The byte that stands so far behind place i. -/
def cb (q : Nat) : Int := bt s ((i + q : Nat) : Int)
theorem ye6 (q : Nat) : 0 ≤ cb s i q ∧ cb s i q ≤ 255 := bt_range _ _
def r2 : Int := cb s i 0 % 32 * 64 + cb s i 1 % 64
def r3 : Int := (cb s i 0 % 16 * 64 + cb s i 1 % 64) * 64 + cb s i 2 % 64
def r4 : Int := ((cb s i 0 % 8 * 64 + cb s i 1 % 64) * 64 + cb s i 2 % 64) * 64 + cb s i 3 % 64
def U1 : Prop := cb s i 0 < 128
def U2 : Prop := cb s i 0 / 32 = 6 ∧ cb s i 1 / 64 = 2 ∧ 128 ≤ r2 s i
def U3 : Prop := cb s i 0 / 16 = 14 ∧ cb s i 1 / 64 = 2 ∧ cb s i 2 / 64 = 2 ∧ 2048 ≤ r3 s i ∧ (r3 s i < 55296 ∨ 57343 < r3 s i)
def U4 : Prop := cb s i 0 / 8 = 30 ∧ cb s i 1 / 64 = 2 ∧ cb s i 2 / 64 = 2 ∧ cb s i 3 / 64 = 2 ∧ 65536 ≤ r4 s i ∧ r4 s i ≤ 1114111
instance : Decidable (U1 s i) := by unfold U1; infer_instance
instance : Decidable (U2 s i) := by unfold U2; infer_instance
instance : Decidable (U3 s i) := by unfold U3; infer_instance
instance : Decidable (U4 s i) := by unfold U4; infer_instance
def runeU : Int × Int := if U1 s i then (cb s i 0, 1) else if i + 2 ≤ s.size ∧ U2 s i then (r2 s i, 2) else if i + 3 ≤ s.size ∧ U3 s i then (r3 s i, 3) else if i + 4 ≤ s.size ∧ U4 s i then (r4 s i, 4) else (0, 0)
def n2 : Int := (cb s i 0 - 192) * 64 + cb s i 1 - 128
def n3 : Int := ((cb s i 0 - 224) * 64 + cb s i 1 - 128) * 64 + cb s i 2 - 128
def n4 : Int := (((cb s i 0 - 240) * 64 + cb s i 1 - 128) * 64 + cb s i 2 - 128) * 64 + cb s i 3 - 128
theorem m1 : (signB (cb s i 0) = true ∧ putI (cb s i 0) = [cb s i 0]) ↔ U1 s i := by
  have h0 := ye6 s i 0
  unfold U1
  constructor
  · rintro ⟨_, h⟩
    unfold putI at h
    split at h
    · assumption
    split at h
    · simp at h
    split at h <;> simp at h
  · intro h
    exact ⟨decide_eq_true (by omega), by unfold putI; rw [if_pos h]⟩
theorem m2 : (signB (n2 s i) = true ∧ putI (n2 s i) = [cb s i 0, cb s i 1]) ↔ U2 s i := by
  have h0 := ye6 s i 0
  have h1 := ye6 s i 1
  unfold U2
  constructor
  · rintro ⟨hs, h⟩
    have hs := of_decide_eq_true hs
    unfold putI at h
    split at h
    · simp at h
    split at h
    · simp only [List.cons.injEq, and_true] at h
      unfold r2 n2 at *
      omega
    split at h <;> simp at h
  · intro h
    have e : n2 s i = r2 s i := by unfold n2 r2 at *; omega
    have hr : r2 s i < 2048 := by unfold r2 at *; omega
    rw [e]
    refine ⟨decide_eq_true (by omega), ?_⟩
    unfold putI
    rw [if_neg (by omega), if_pos hr]
    unfold r2 at *
    simp only [List.cons.injEq, and_true]
    omega
theorem m3 : (signB (n3 s i) = true ∧ putI (n3 s i) = [cb s i 0, cb s i 1, cb s i 2]) ↔ U3 s i := by
  have h0 := ye6 s i 0
  have h1 := ye6 s i 1
  have h2 := ye6 s i 2
  unfold U3
  constructor
  · rintro ⟨hs, h⟩
    have hs := of_decide_eq_true hs
    unfold putI at h
    split at h
    · simp at h
    split at h
    · simp at h
    split at h
    · simp only [List.cons.injEq, and_true] at h
      unfold r3 n3 at *
      omega
    · simp at h
  · intro h
    have e : n3 s i = r3 s i := by unfold n3 r3 at *; omega
    have hr : r3 s i < 65536 := by unfold r3 at *; omega
    rw [e]
    refine ⟨decide_eq_true (by omega), ?_⟩
    unfold putI
    rw [if_neg (by omega), if_neg (by omega), if_pos hr]
    unfold r3 at *
    simp only [List.cons.injEq, and_true]
    omega
theorem m4 : (signB (n4 s i) = true ∧ putI (n4 s i) = [cb s i 0, cb s i 1, cb s i 2, cb s i 3]) ↔ U4 s i := by
  have h0 := ye6 s i 0
  have h1 := ye6 s i 1
  have h2 := ye6 s i 2
  have h3 := ye6 s i 3
  unfold U4
  constructor
  · rintro ⟨hs, h⟩
    have hs := of_decide_eq_true hs
    unfold putI at h
    split at h
    · simp at h
    split at h
    · simp at h
    split at h
    · simp at h
    · simp only [List.cons.injEq, and_true] at h
      unfold r4 n4 at *
      omega
  · intro h
    have e : n4 s i = r4 s i := by unfold n4 r4 at *; omega
    rw [e]
    refine ⟨decide_eq_true (by omega), ?_⟩
    unfold putI
    rw [if_neg (by omega), if_neg (by omega), if_neg (by omega)]
    unfold r4 at *
    simp only [List.cons.injEq, and_true]
    omega
theorem e2 (h : U2 s i) : n2 s i = r2 s i := by
  have h0 := ye6 s i 0
  have h1 := ye6 s i 1
  unfold U2 at h; unfold n2 r2 at *; omega
theorem e3 (h : U3 s i) : n3 s i = r3 s i := by
  have h0 := ye6 s i 0
  have h1 := ye6 s i 1
  have h2 := ye6 s i 2
  unfold U3 at h; unfold n3 r3 at *; omega
theorem e4 (h : U4 s i) : n4 s i = r4 s i := by
  have h0 := ye6 s i 0
  have h1 := ye6 s i 1
  have h2 := ye6 s i 2
  have h3 := ye6 s i 3
  unfold U4 at h; unfold n4 r4 at *; omega
/-- The number that q bytes would stand for. -/
def nq : Nat → Int
  | 1 => cb s i 0
  | 2 => n2 s i
  | 3 => n3 s i
  | _ => n4 s i
def bq (q : Nat) : List Int := (List.range q).map fun k => cb s i k
def Uq : Nat → Bool
  | 1 => decide (U1 s i)
  | 2 => decide (U2 s i)
  | 3 => decide (U3 s i)
  | _ => decide (U4 s i)
theorem mq (q : Nat) (h1 : 1 ≤ q) (h4 : q ≤ 4) : (signB (nq s i q) = true ∧ putI (nq s i q) = bq s i q) ↔ Uq s i q = true := by
  obtain rfl | rfl | rfl | rfl : q = 1 ∨ q = 2 ∨ q = 3 ∨ q = 4 := by omega
  · exact (m1 s i).trans (by simp [Uq])
  · exact (m2 s i).trans (by simp [Uq])
  · exact (m3 s i).trans (by simp [Uq])
  · exact (m4 s i).trans (by simp [Uq])
theorem value_f (K q : Nat) (h1 : 1 ≤ q) (h4 : q ≤ 4) (hq : i + q ≤ s.size) : PV.yb7.f (K + 8) (s.extract i (i + q)) = some (nq s i q) := by
  have hz : (s.extract i (i + q)).size = q := by rw [ByteArray.size_extract]; omega
  have c0 : bt (s.extract i (i + q)) 0 = cb s i 0 := bt_ext s i (i + q) 0 (by omega) hq
  have g0 := ye6 s i 0
  have g1 := ye6 s i 1
  have g2 := ye6 s i 2
  have g3 := ye6 s i 3
  unfold PV.yb7.f
  rw [hz, c0, if_pos (by omega)]
  have w0 : wrap64 (cb s i 0) = cb s i 0 := PL.w64 _ (by omega) (by omega)
  obtain rfl | rfl | rfl | rfl : q = 1 ∨ q = 2 ∨ q = 3 ∨ q = 4 := by omega
  · rw [if_neg (by omega), if_neg (by omega), if_neg (by omega), PV.yb7.j0, PV.yb7.l0, hz, if_neg (by omega), w0]
    rfl
  · have c1 : bt (s.extract i (i + 2)) 1 = cb s i 1 := bt_ext s i (i + 2) 1 (by omega) hq
    rw [if_pos (by omega), PV.yb7.j0, PV.yb7.l0, hz, if_pos (by omega), if_pos (by omega), c1, w0, PL.w64 (cb s i 0 - 192) (by omega) (by omega), PL.w64 ((cb s i 0 - 192) * 64) (by omega) (by omega), PL.w64 (cb s i 1) (by omega) (by omega), PL.w64 ((cb s i 0 - 192) * 64 + cb s i 1) (by omega) (by omega), PL.w64 ((cb s i 0 - 192) * 64 + cb s i 1 - 128) (by omega) (by omega), PL.w64 (1 + 1) (by omega) (by omega), PV.yb7.l0, hz, if_neg (by omega)]
    rfl
  · have c1 : bt (s.extract i (i + 3)) 1 = cb s i 1 := bt_ext s i (i + 3) 1 (by omega) hq
    have c2 : bt (s.extract i (i + 3)) (1 + 1) = cb s i 2 := bt_ext s i (i + 3) 2 (by omega) hq
    rw [if_neg (by omega), if_pos (by omega), PV.yb7.j0, PV.yb7.l0, hz, if_pos (by omega), if_pos (by omega), c1, w0, PL.w64 (cb s i 0 - 224) (by omega) (by omega), PL.w64 ((cb s i 0 - 224) * 64) (by omega) (by omega), PL.w64 (cb s i 1) (by omega) (by omega), PL.w64 ((cb s i 0 - 224) * 64 + cb s i 1) (by omega) (by omega), PL.w64 ((cb s i 0 - 224) * 64 + cb s i 1 - 128) (by omega) (by omega), PL.w64 (1 + 1) (by omega) (by omega), PV.yb7.l0, hz, if_pos (by omega), if_pos (by omega), c2, PL.w64 (((cb s i 0 - 224) * 64 + cb s i 1 - 128) * 64) (by omega) (by omega), PL.w64 (cb s i 2) (by omega) (by omega), PL.w64 (((cb s i 0 - 224) * 64 + cb s i 1 - 128) * 64 + cb s i 2) (by omega) (by omega), PL.w64 (((cb s i 0 - 224) * 64 + cb s i 1 - 128) * 64 + cb s i 2 - 128) (by omega) (by omega), PL.w64 (1 + 1 + 1) (by omega) (by omega), PV.yb7.l0, hz, if_neg (by omega)]
    rfl
  · have c1 : bt (s.extract i (i + 4)) 1 = cb s i 1 := bt_ext s i (i + 4) 1 (by omega) hq
    have c2 : bt (s.extract i (i + 4)) (1 + 1) = cb s i 2 := bt_ext s i (i + 4) 2 (by omega) hq
    have c3 : bt (s.extract i (i + 4)) (1 + 1 + 1) = cb s i 3 := bt_ext s i (i + 4) 3 (by omega) hq
    rw [if_neg (by omega), if_neg (by omega), if_pos (by omega), PV.yb7.j0, PV.yb7.l0, hz, if_pos (by omega), if_pos (by omega), c1, w0, PL.w64 (cb s i 0 - 240) (by omega) (by omega), PL.w64 ((cb s i 0 - 240) * 64) (by omega) (by omega), PL.w64 (cb s i 1) (by omega) (by omega), PL.w64 ((cb s i 0 - 240) * 64 + cb s i 1) (by omega) (by omega), PL.w64 ((cb s i 0 - 240) * 64 + cb s i 1 - 128) (by omega) (by omega), PL.w64 (1 + 1) (by omega) (by omega), PV.yb7.l0, hz, if_pos (by omega), if_pos (by omega), c2, PL.w64 (((cb s i 0 - 240) * 64 + cb s i 1 - 128) * 64) (by omega) (by omega), PL.w64 (cb s i 2) (by omega) (by omega), PL.w64 (((cb s i 0 - 240) * 64 + cb s i 1 - 128) * 64 + cb s i 2) (by omega) (by omega), PL.w64 (((cb s i 0 - 240) * 64 + cb s i 1 - 128) * 64 + cb s i 2 - 128) (by omega) (by omega), PL.w64 (1 + 1 + 1) (by omega) (by omega), PV.yb7.l0, hz, if_pos (by omega), if_pos (by omega), c3, PL.w64 ((((cb s i 0 - 240) * 64 + cb s i 1 - 128) * 64 + cb s i 2 - 128) * 64) (by omega) (by omega), PL.w64 (cb s i 3) (by omega) (by omega), PL.w64 ((((cb s i 0 - 240) * 64 + cb s i 1 - 128) * 64 + cb s i 2 - 128) * 64 + cb s i 3) (by omega) (by omega), PL.w64 ((((cb s i 0 - 240) * 64 + cb s i 1 - 128) * 64 + cb s i 2 - 128) * 64 + cb s i 3 - 128) (by omega) (by omega), PL.w64 (1 + 1 + 1 + 1) (by omega) (by omega), PV.yb7.l0, hz, if_neg (by omega)]
    rfl
theorem yp2 (K q : Nat) (h1 : 1 ≤ q) (h4 : q ≤ 4) (hi : i < s.size) (hs : s.size ≤ 140737488351232) : PV.yb1.l0 (K + 10) s i q = if i + q ≤ s.size then (if Uq s i q = true then some (nq s i q, (q : Int)) else PV.yb1.l0 (K + 8) s i ((q + 1 : Nat) : Int)) else some (0, 0) := by
  rw [PV.yb1.l0, if_pos (by omega), PL.w64 ((s.size : Int) - i) (by omega) (by omega), PV.yb1.j2]
  by_cases c : i + q ≤ s.size
  · rw [if_pos (decide_eq_true (by omega)), if_pos (by omega), PL.w64 ((i : Int) + q) (by omega) (by omega), if_pos (by omega), if_pos (by omega), if_pos c]
    rw [show ((i : Int) + (q : Int)).toNat = i + q by omega, Int.toNat_natCast, value_f s i K q h1 h4 c, Option.bind_some, sign_f, Option.bind_some]
    have hm := mq s i q h1 h4
    have hb : bytesOf (s.extract i (i + q)) = bq s i q := yn6 s i q c
    by_cases hs1 : signB (nq s i q) = true
    · rw [if_pos hs1, put_ref _ hs1, Option.bind_some]
      have hp := put_is (nq s i q) hs1 (s.extract i (i + q))
      rw [hb] at hp
      by_cases hp1 : putI (nq s i q) = bq s i q
      · rw [if_pos (hp.2 hp1), if_pos (hm.1 ⟨hs1, hp1⟩)]
      · rw [if_neg (fun h => hp1 (hp.1 h)), if_neg (fun h => hp1 (hm.2 h).2), PL.w64 ((q : Int) + 1) (by omega) (by omega)]
        rfl
    · rw [if_neg hs1, if_neg (fun h => hs1 (hm.2 h).1), PL.w64 ((q : Int) + 1) (by omega) (by omega)]
      rfl
  · rw [if_neg (by rw [decide_eq_false (by omega)]; decide), if_neg c]
theorem ref_rune (K : Nat) (hi : i < s.size) (hs : s.size ≤ 140737488351232) : PV.yb1.f (K + 30) s i = some (runeU s i) := by
  unfold PV.yb1.f
  rw [if_neg (by omega), PV.yb1.j0, if_neg (by rw [decide_eq_false (by omega)]; decide)]
  rw [show ((1 : Int)) = ((1 : Nat) : Int) from rfl, yp2 s i (K + 19) 1 (by omega) (by omega) hi hs, if_pos (by omega)]
  unfold runeU
  by_cases c1 : U1 s i
  · rw [if_pos (show Uq s i 1 = true from decide_eq_true c1), if_pos c1]; rfl
  rw [if_neg (by simp [Uq, c1]), if_neg c1, yp2 s i (K + 17) 2 (by omega) (by omega) hi hs]
  by_cases q2 : i + 2 ≤ s.size
  · rw [if_pos q2]
    by_cases c2 : U2 s i
    · rw [if_pos (show Uq s i 2 = true from decide_eq_true c2), if_pos ⟨q2, c2⟩, ← e2 s i c2]; rfl
    rw [if_neg (by simp [Uq, c2]), if_neg (fun h => c2 h.2), yp2 s i (K + 15) 3 (by omega) (by omega) hi hs]
    by_cases q3 : i + 3 ≤ s.size
    · rw [if_pos q3]
      by_cases c3 : U3 s i
      · rw [if_pos (show Uq s i 3 = true from decide_eq_true c3), if_pos ⟨q3, c3⟩, ← e3 s i c3]; rfl
      rw [if_neg (by simp [Uq, c3]), if_neg (fun h => c3 h.2), yp2 s i (K + 13) 4 (by omega) (by omega) hi hs]
      by_cases q4 : i + 4 ≤ s.size
      · rw [if_pos q4]
        by_cases c4 : U4 s i
        · rw [if_pos (show Uq s i 4 = true from decide_eq_true c4), if_pos ⟨q4, c4⟩, ← e4 s i c4]; rfl
        rw [if_neg (by simp [Uq, c4]), if_neg (fun h => c4 h.2), PV.yb1.l0, if_neg (by omega), PV.yb1.j2, if_neg (by decide)]
      · rw [if_neg q4, if_neg (fun h => q4 h.1)]
    · rw [if_neg q3, if_neg (fun h => q3 h.1), if_neg (fun h => q3 (by omega))]
  · rw [if_neg q2, if_neg (fun h => q2 h.1), if_neg (fun h => q2 (by omega)), if_neg (fun h => q2 (by omega))]
theorem shI (c : Int) (h0 : 0 ≤ c) (h1 : c ≤ 255) : yi0.f c = if c < 128 then some (1, c) else if c / 32 = 6 then some (2, c % 32) else if c / 16 = 14 then some (3, c % 16) else if c / 8 = 30 then some (4, c % 8) else some (0, 0) := by
  obtain ⟨n, rfl⟩ := Int.eq_ofNat_of_zero_le h0
  have a1 := and31 ⟨n, by omega⟩
  have a2 := and15 ⟨n, by omega⟩
  have a3 := and7 ⟨n, by omega⟩
  simp only at a1 a2 a3
  unfold yi0.f
  rw [a1, a2, a3]
  have w : ∀ x : Nat, x ≤ 255 → wrap32 (x : Int) = x := fun x hx => by unfold wrap32; omega
  rw [w n (by omega), w (n % 32) (by omega), w (n % 16) (by omega), w (n % 8) (by omega)]
  rfl
theorem ym1 (r d : Int) (l : List Int) (h : d / 64 ≠ 2) : yg6 r (d :: l) = none := by rw [yg6, if_neg h]
theorem utf_rune (hi : i < s.size) (hs : s.size ≤ 140737488351232) : yf5.f s i = some (runeU s i) := by
  have g0 := ye6 s i 0
  have g1 := ye6 s i 1
  have g2 := ye6 s i 2
  have g3 := ye6 s i 3
  have hc : bt s i = cb s i 0 := rfl
  have scal : ∀ r : Int, 0 ≤ r → yf2.f r = some (decide (r < 55296 ∨ 57344 ≤ r ∧ r ≤ 1114111)) := by
    intro r hr
    show PL.yf2.f r = _
    unfold PL.yf2.f
    by_cases h : r < 55296
    · rw [if_pos hr, if_pos h]; congr 1; symm; exact decide_eq_true (Or.inl h)
    · rw [if_pos hr, if_neg h]
      by_cases k : r ≥ 57344
      · rw [if_pos k]; congr 1
        by_cases m : r ≤ 1114111
        · rw [decide_eq_true m]; symm; exact decide_eq_true (Or.inr ⟨k, m⟩)
        · rw [decide_eq_false m]; symm; exact decide_eq_false (by omega)
      · rw [if_neg k]; congr 1; symm; exact decide_eq_false (by omega)
  unfold yf5.f
  rw [if_pos (by omega), if_neg (by omega), if_neg (by omega), hc, shI _ g0.1 g0.2]
  unfold runeU
  by_cases c1 : U1 s i
  · rw [if_pos (show cb s i 0 < 128 from c1), if_pos c1, Option.bind_some]
    have hb : bytesOf (s.extract ((i : Int) + 1).toNat ((i : Int) + 1).toNat) = [] := by
      have : (s.extract ((i : Int) + 1).toNat ((i : Int) + 1).toNat).size = 0 := by rw [ByteArray.size_extract]; omega
      rw [← List.length_eq_zero_iff, bytesOf_length, this]
    have hu1 : cb s i 0 < 128 := c1
    simp only
    rw [if_neg (by decide), if_neg (by omega), if_pos (by decide), hb]
    simp only [yg6]
    rw [show yg8.f 1 = some 0 from by decide +kernel, Option.bind_some, if_neg (by omega), scal _ g0.1, Option.bind_some, if_pos (decide_eq_true (by omega))]
  rw [if_neg (show ¬ cb s i 0 < 128 from c1), if_neg c1]
  by_cases d2 : cb s i 0 / 32 = 6
  · rw [if_pos d2, Option.bind_some]
    have n3 : ¬ (i + 3 ≤ s.size ∧ U3 s i) := fun h => by have := h.2.1; omega
    have n4 : ¬ (i + 4 ≤ s.size ∧ U4 s i) := fun h => by have := h.2.1; omega
    rw [if_neg n3, if_neg n4]
    simp only
    rw [if_neg (by decide)]
    by_cases q2 : i + 2 ≤ s.size
    · rw [if_neg (by omega), if_pos (by decide), show ((i : Int) + 1).toNat = i + 1 by omega, show ((i : Int) + 2).toNat = i + 1 + 1 by omega, yn6 s (i + 1) 1 (by omega)]
      rw [show (List.range 1).map (fun k => bt s ((i + 1 + k : Nat) : Int)) = [cb s i 1] from rfl]
      by_cases k1 : cb s i 1 / 64 = 2
      · rw [yk5 _ _ _ (by omega) (by omega) k1, yg6]
        simp only
        rw [show yg8.f 2 = some 128 from by decide +kernel, Option.bind_some]
        have hr : cb s i 0 % 32 * 64 + cb s i 1 % 64 = r2 s i := rfl
        rw [hr]
        by_cases k2 : 128 ≤ r2 s i
        · rw [if_neg (by omega), scal _ (by omega), Option.bind_some, if_pos (decide_eq_true (by unfold r2; omega)), if_pos ⟨q2, d2, k1, k2⟩]
        · rw [if_pos (by omega), if_neg (fun h => k2 h.2.2.2)]
      · rw [ym1 _ _ _ k1, if_neg (fun h => k1 h.2.2.1)]
    · rw [if_pos (by omega), if_neg (fun h => q2 h.1)]
  rw [if_neg d2]
  have x2 : ¬ (i + 2 ≤ s.size ∧ U2 s i) := fun h => d2 h.2.1
  rw [if_neg x2]
  by_cases d3 : cb s i 0 / 16 = 14
  · rw [if_pos d3, Option.bind_some]
    have n4 : ¬ (i + 4 ≤ s.size ∧ U4 s i) := fun h => by have := h.2.1; omega
    rw [if_neg n4]
    simp only
    rw [if_neg (by decide)]
    by_cases q3 : i + 3 ≤ s.size
    · rw [if_neg (by omega), if_pos (by decide), show ((i : Int) + 1).toNat = i + 1 by omega, show ((i : Int) + 3).toNat = i + 1 + 2 by omega, yn6 s (i + 1) 2 (by omega)]
      rw [show (List.range 2).map (fun k => bt s ((i + 1 + k : Nat) : Int)) = [cb s i 1, cb s i 2] from rfl]
      by_cases k1 : cb s i 1 / 64 = 2
      · rw [yk5 _ _ _ (by omega) (by omega) k1]
        by_cases k2 : cb s i 2 / 64 = 2
        · rw [yk5 _ _ _ (by omega) (by omega) k2, yg6]
          simp only
          rw [show yg8.f 3 = some 2048 from by decide +kernel, Option.bind_some]
          have hr : (cb s i 0 % 16 * 64 + cb s i 1 % 64) * 64 + cb s i 2 % 64 = r3 s i := rfl
          rw [hr]
          by_cases k3 : 2048 ≤ r3 s i
          · rw [if_neg (by omega), scal _ (by omega), Option.bind_some]
            have hm : r3 s i ≤ 65535 := by unfold r3; omega
            by_cases k4 : r3 s i < 55296 ∨ 57343 < r3 s i
            · rw [if_pos (decide_eq_true (by omega)), if_pos ⟨q3, d3, k1, k2, k3, k4⟩]
            · rw [if_neg (by rw [decide_eq_false (by omega)]; decide), if_neg (fun h => k4 h.2.2.2.2.2)]
          · rw [if_pos (by omega), if_neg (fun h => k3 h.2.2.2.2.1)]
        · rw [ym1 _ _ _ k2, if_neg (fun h => k2 h.2.2.2.1)]
      · rw [ym1 _ _ _ k1, if_neg (fun h => k1 h.2.2.1)]
    · rw [if_pos (by omega), if_neg (fun h => q3 h.1)]
  rw [if_neg d3]
  have x3 : ¬ (i + 3 ≤ s.size ∧ U3 s i) := fun h => d3 h.2.1
  rw [if_neg x3]
  by_cases d4 : cb s i 0 / 8 = 30
  · rw [if_pos d4, Option.bind_some]
    simp only
    rw [if_neg (by decide)]
    by_cases q4 : i + 4 ≤ s.size
    · rw [if_neg (by omega), if_pos (by decide), show ((i : Int) + 1).toNat = i + 1 by omega, show ((i : Int) + 4).toNat = i + 1 + 3 by omega, yn6 s (i + 1) 3 (by omega)]
      rw [show (List.range 3).map (fun k => bt s ((i + 1 + k : Nat) : Int)) = [cb s i 1, cb s i 2, cb s i 3] from rfl]
      by_cases k1 : cb s i 1 / 64 = 2
      · rw [yk5 _ _ _ (by omega) (by omega) k1]
        by_cases k2 : cb s i 2 / 64 = 2
        · rw [yk5 _ _ _ (by omega) (by omega) k2]
          by_cases k3 : cb s i 3 / 64 = 2
          · rw [yk5 _ _ _ (by omega) (by omega) k3, yg6]
            simp only
            rw [show yg8.f 4 = some 65536 from by decide +kernel, Option.bind_some]
            have hr : ((cb s i 0 % 8 * 64 + cb s i 1 % 64) * 64 + cb s i 2 % 64) * 64 + cb s i 3 % 64 = r4 s i := rfl
            rw [hr]
            by_cases k4 : 65536 ≤ r4 s i
            · rw [if_neg (by omega), scal _ (by omega), Option.bind_some]
              by_cases k5 : r4 s i ≤ 1114111
              · rw [if_pos (decide_eq_true (by omega)), if_pos ⟨q4, d4, k1, k2, k3, k4, k5⟩]
              · rw [if_neg (by rw [decide_eq_false (by omega)]; decide), if_neg (fun h => k5 h.2.2.2.2.2.2)]
            · rw [if_pos (by omega), if_neg (fun h => k4 h.2.2.2.2.2.1)]
          · rw [ym1 _ _ _ k3, if_neg (fun h => k3 h.2.2.2.2.1)]
        · rw [ym1 _ _ _ k2, if_neg (fun h => k2 h.2.2.2.1)]
      · rw [ym1 _ _ _ k1, if_neg (fun h => k1 h.2.2.1)]
    · rw [if_pos (by omega), if_neg (fun h => q4 h.1)]
  · rw [if_neg d4, Option.bind_some]
    simp only
    rw [if_pos trivial, if_neg (fun h => d4 h.2.1)]
theorem runeT_U (hi : i < s.size) (hs : s.size ≤ 140737488351232) : runeT s i = runeU s i := by
  have h1 : yf5.f s i = some (runeT s i) := (yi4 s i hs).1
  rw [utf_rune s i hi hs] at h1
  exact (Option.some.inj h1).symm
end
end Go.Proofs.YtffpbhbiamkkpaaDoor.Lx
