/- What lex's small functions, and the document's, come to: signs, digits, a reference's inner part. -/
import Derived.Test.YtffpbhbiamkkpaaDoorPLx5
namespace Go.Proofs.YtffpbhbiamkkpaaDoor.PL
open Go.RowKit Go.Proofs.YtffpbhbiamkkpaaDoorW.PrintWords Go.Proofs.YtffpbhbiamkkpaaDoorW.PrintLast Go.Proofs.YtffpbhbiamkkpaaDoorW.PrintMore
set_option linter.unusedVariables false
def charB (n : Int) : Bool := decide (n = 9 ∨ n = 10 ∨ n = 13 ∨ (32 ≤ n ∧ n ≤ 55295) ∨ (57344 ≤ n ∧ n ≤ 65533) ∨ (65536 ≤ n ∧ n ≤ 1114111))
theorem w64 (x : Int) (h0 : -9223372036854775808 ≤ x) (h1 : x ≤ 9223372036854775807) : wrap64 x = x := by
  unfold wrap64
  omega
theorem w64_1 : wrap64 1 = 1 := w64 _ (by omega) (by omega)
theorem w64_2 : wrap64 2 = 2 := w64 _ (by omega) (by omega)
theorem w64_3 : wrap64 3 = 3 := w64 _ (by omega) (by omega)
theorem w64_4 : wrap64 4 = 4 := w64 _ (by omega) (by omega)
theorem w64_5 : wrap64 5 = 5 := w64 _ (by omega) (by omega)
theorem w64_6 : wrap64 6 = 6 := w64 _ (by omega) (by omega)
theorem w64_7 : wrap64 7 = 7 := w64 _ (by omega) (by omega)
theorem utf_char (n : Int) : utf_Char.f 11 n = some (charB n) := by
  unfold utf_Char.f utf_within.f charB
  simp [utf_within.l0, w64_1, w64_2, w64_3, w64_4, w64_5, rd_T102]
  repeat' split
  all_goals first | (simp; omega) | omega | (exfalso; omega) | skip
theorem ref_char (n : Int) : watchbillref01_Char.f 12 n = some (charB n) := by
  unfold watchbillref01_Char.f watchbillref01_in.f charB
  simp [watchbillref01_in.l0, w64_1, w64_2, w64_3, w64_4, w64_5, w64_6, w64_7, rd]
  repeat' split
  all_goals first | (simp; omega) | omega | (exfalso; omega) | skip
theorem or192 : ∀ x : Fin 32, Go.bits .or .u8 ((x.val : Nat) : Int) 192 = 192 + ((x.val : Nat) : Int) := by decide +kernel
theorem or224 : ∀ x : Fin 16, Go.bits .or .u8 ((x.val : Nat) : Int) 224 = 224 + ((x.val : Nat) : Int) := by decide +kernel
theorem or240 : ∀ x : Fin 8, Go.bits .or .u8 ((x.val : Nat) : Int) 240 = 240 + ((x.val : Nat) : Int) := by decide +kernel
theorem or128 : ∀ x : Fin 64, Go.bits .or .u8 ((x.val : Nat) : Int) 128 = 128 + ((x.val : Nat) : Int) := by decide +kernel
theorem and63 (r : Int) (h0 : 0 ≤ r) (h1 : r ≤ 1114111) : Go.bits .and .i32 r 63 = r % 64 := by
  obtain ⟨n, rfl⟩ := Int.eq_ofNat_of_zero_le h0
  have hn : n < 2 ^ 32 := by omega
  have e : Go.bits .and .i32 ((n : Nat) : Int) 63 = Go.IntKind.i32.wrap ((n &&& 63 : Nat) : Int) := by
    unfold Go.bits
    simp
    rw [show Go.IntKind.i32.bits = 32 from rfl, Nat.mod_eq_of_lt hn]
  have e2 : n &&& 63 = n % 64 := Nat.and_two_pow_sub_one_eq_mod n 6
  rw [e, e2]
  have h3 : n % 64 < 64 := Nat.mod_lt _ (by decide)
  have h4 : ((n : Nat) : Int) % 64 = ((n % 64 : Nat) : Int) := by omega
  rw [h4]
  generalize n % 64 = m at h3
  have : ∀ x : Fin 64, Go.IntKind.i32.wrap ((x.val : Nat) : Int) = ((x.val : Nat) : Int) := by decide +kernel
  exact this ⟨m, h3⟩
theorem u8w (x : Int) (h0 : 0 ≤ x) (h1 : x < 256) : Go.IntKind.u8.wrap x = x := by
  obtain ⟨n, rfl⟩ := Int.eq_ofNat_of_zero_le h0
  have : ∀ x : Fin 256, Go.IntKind.u8.wrap ((x.val : Nat) : Int) = ((x.val : Nat) : Int) := by decide +kernel
  exact this ⟨n, by omega⟩
theorem or_at (N : Nat) (c : Int) (H : ∀ x : Fin N, Go.bits .or .u8 ((x.val : Nat) : Int) c = c + ((x.val : Nat) : Int)) (x : Int) (h0 : 0 ≤ x) (h1 : x < N) : Go.bits .or .u8 x c = c + x := by
  obtain ⟨n, rfl⟩ := Int.eq_ofNat_of_zero_le h0
  exact H ⟨n, by omega⟩
theorem put_tail (r : Int) (h0 : 0 ≤ r) (h1 : r ≤ 1114111) : utf_Put_tail r = 128 + r % 64 := by
  unfold utf_Put_tail
  rw [and63 r h0 h1]
  have : r % 64 % 256 = r % 64 := by omega
  rw [this]
  exact or_at 64 128 or128 _ (by omega) (by omega)
theorem char_put (n : Int) (h : watchbillref01_Sign.f n = some true) (h0 : 0 ≤ n) (h1 : n ≤ 1114111) : watchbillref01_Put.f n = some (strOfNums (utf_Put_bytes n)) := by
  unfold watchbillref01_Put.f utf_Put_bytes
  rw [h]
  have t0 := put_tail n h0 h1
  have t1 := put_tail (n / 64) (by omega) (by omega)
  have t2 := put_tail (n / 4096) (by omega) (by omega)
  simp only [Option.bind_some, if_true]
  by_cases c1 : n < 128
  · rw [if_pos c1, if_pos c1, show n % 256 = n by omega]
  rw [if_neg c1, if_neg c1]
  by_cases c2 : n < 2048
  · rw [if_pos c2, if_pos c2, t0, u8w (n / 64) (by omega) (by omega), or_at 32 192 or192 (n / 64) (by omega) (by omega)]
    rw [show Int.tdiv n 64 = n / 64 from Int.tdiv_eq_ediv_of_nonneg h0, show Int.tmod n 64 = n % 64 from Int.tmod_eq_emod_of_nonneg h0]
    rw [w64 (n / 64) (by omega) (by omega), w64 (192 + n / 64) (by omega) (by omega), w64 (128 + n % 64) (by omega) (by omega), show (192 + n / 64) % 256 = 192 + n / 64 by omega, show (128 + n % 64) % 256 = 128 + n % 64 by omega]
  rw [if_neg c2, if_neg c2]
  have d1 : Int.tdiv n 64 = n / 64 := Int.tdiv_eq_ediv_of_nonneg h0
  have d2 : Int.tdiv n 4096 = n / 4096 := Int.tdiv_eq_ediv_of_nonneg h0
  have d3 : Int.tdiv n 262144 = n / 262144 := Int.tdiv_eq_ediv_of_nonneg h0
  have m0 : Int.tmod n 64 = n % 64 := Int.tmod_eq_emod_of_nonneg h0
  have m1 : Int.tmod (n / 64) 64 = n / 64 % 64 := Int.tmod_eq_emod_of_nonneg (by omega)
  have m2 : Int.tmod (n / 4096) 64 = n / 4096 % 64 := Int.tmod_eq_emod_of_nonneg (by omega)
  have v1 : wrap64 (n / 64) = n / 64 := w64 _ (by omega) (by omega)
  have v2 : wrap64 (n / 4096) = n / 4096 := w64 _ (by omega) (by omega)
  have v3 : wrap64 (n / 262144) = n / 262144 := w64 _ (by omega) (by omega)
  have x0 : wrap64 (128 + n % 64) = 128 + n % 64 := w64 _ (by omega) (by omega)
  have x1 : wrap64 (128 + n / 64 % 64) = 128 + n / 64 % 64 := w64 _ (by omega) (by omega)
  have x2 : wrap64 (128 + n / 4096 % 64) = 128 + n / 4096 % 64 := w64 _ (by omega) (by omega)
  have y0 : (128 + n % 64) % 256 = 128 + n % 64 := by omega
  have y1 : (128 + n / 64 % 64) % 256 = 128 + n / 64 % 64 := by omega
  have y2 : (128 + n / 4096 % 64) % 256 = 128 + n / 4096 % 64 := by omega
  by_cases c3 : n < 65536
  · rw [if_pos c3, if_pos c3, t0, t1, u8w (n / 4096) (by omega) (by omega), or_at 16 224 or224 (n / 4096) (by omega) (by omega)]
    rw [d2, v2, d1, v1, m0, m1, x0, x1, y0, y1, w64 (224 + n / 4096) (by omega) (by omega), show (224 + n / 4096) % 256 = 224 + n / 4096 by omega]
  rw [if_neg c3, if_neg c3, t0, t1, t2, u8w (n / 262144) (by omega) (by omega), or_at 8 240 or240 (n / 262144) (by omega) (by omega)]
  rw [d3, v3, d2, v2, d1, v1, m0, m1, m2, x0, x1, x2, y0, y1, y2, w64 (240 + n / 262144) (by omega) (by omega), show (240 + n / 262144) % 256 = 240 + n / 262144 by omega]
def smallI (c : Int) : Int := if 65 ≤ c ∧ c ≤ 90 then (c + 32) % 256 else c
def sDig (s : Int) : Int := if 97 ≤ s ∧ s ≤ 102 then s - 87 else if 48 ≤ s ∧ s ≤ 57 then s - 48 else 99
theorem dig_eq : ∀ x : Fin 256, lex_dig ((x.val : Nat) : Int) = sDig (smallI ((x.val : Nat) : Int)) := by decide +kernel
theorem dig_at (c : Int) (h0 : 0 ≤ c) (h1 : c ≤ 255) : lex_dig c = sDig (smallI c) := by
  obtain ⟨n, rfl⟩ := Int.eq_ofNat_of_zero_le h0
  exact dig_eq ⟨n, by omega⟩
theorem small_f (c : Int) : watchbillref03_small.f c = some (smallI c) := by
  unfold watchbillref03_small.f smallI
  by_cases h1 : c ≥ 65
  · by_cases h2 : c ≤ 90
    · rw [if_pos h1, if_pos h2, if_pos ⟨h1, h2⟩]
    · rw [if_pos h1, if_neg h2, if_neg (fun h => h2 h.2)]
  · rw [if_neg h1, if_neg (fun h => h1 h.1)]
theorem smallI_range (c : Int) (h0 : 0 ≤ c) (h1 : c ≤ 255) : 0 ≤ smallI c ∧ smallI c ≤ 255 := by
  unfold smallI
  split <;> omega
theorem number_step (k : Nat) (x0 : ByteArray) (base r : Int) (i : Nat) (h : i < x0.size) :
    watchbillref03_number.l0 (k + 5) x0 base r i = if sDig (smallI (bt x0 i)) ≥ base then some (-1) else if r < 2000000 then watchbillref03_number.l0 k x0 base (wrap64 (wrap64 (r * base) + sDig (smallI (bt x0 i)))) (wrap64 (i + 1)) else watchbillref03_number.l0 k x0 base r (wrap64 (i + 1)) := by
  have hb := bt_range x0 i
  have hs := smallI_range (bt x0 i) hb.1 hb.2
  rw [watchbillref03_number.l0, if_pos (show (i : Int) < (x0.size : Int) by omega), if_pos (show (0 : Int) ≤ (i : Int) by omega), small_f, Option.bind_some]
  generalize smallI (bt x0 i) = s at hs
  have j4 : ∀ d, watchbillref03_number.j4 (k + 1) x0 base r i d = if d ≥ base then some (-1) else if r < 2000000 then watchbillref03_number.l0 k x0 base (wrap64 (wrap64 (r * base) + d)) (wrap64 (i + 1)) else watchbillref03_number.l0 k x0 base r (wrap64 (i + 1)) := fun d => by rw [watchbillref03_number.j4]
  have j2 : ∀ d, watchbillref03_number.j2 (k + 3) x0 base r i d s = watchbillref03_number.j4 (k + 1) x0 base r i (if 97 ≤ s ∧ s ≤ 102 then s - 87 else d) := by
    intro d
    have ws : wrap64 (wrap64 s - 87) = s - 87 := by rw [w64 s (by omega) (by omega), w64 _ (by omega) (by omega)]
    rw [watchbillref03_number.j2]
    by_cases h1 : s ≥ 97
    · by_cases h2 : s ≤ 102
      · rw [if_pos h1, decide_eq_true h2, watchbillref03_number.j3, if_pos rfl, if_pos ⟨h1, h2⟩, ws]
      · rw [if_pos h1, decide_eq_false h2, watchbillref03_number.j3, if_neg (by decide), if_neg (fun h => h2 h.2)]
    · rw [if_neg h1, watchbillref03_number.j3, if_neg (by decide), if_neg (fun h => h1 h.1)]
  have ws : wrap64 (wrap64 s - 48) = s - 48 := by rw [w64 s (by omega) (by omega), w64 _ (by omega) (by omega)]
  unfold sDig
  rw [← j4]
  by_cases h1 : s ≥ 48
  · by_cases h2 : s ≤ 57
    · rw [if_pos h1, decide_eq_true h2, watchbillref03_number.j1, if_pos rfl, ws, j2, if_pos (show 48 ≤ s ∧ s ≤ 57 from ⟨h1, h2⟩)]
    · rw [if_pos h1, decide_eq_false h2, watchbillref03_number.j1, if_neg (by decide), j2, if_neg (show ¬ (48 ≤ s ∧ s ≤ 57) from fun h => h2 h.2)]
  · rw [if_neg h1, watchbillref03_number.j1, if_neg (by decide), j2, if_neg (show ¬ (48 ≤ s ∧ s ≤ 57) from fun h => h1 h.1)]
def NRel (q r : Int) : Prop := (q = r ∧ 0 ≤ q ∧ q < 2000000) ∨ (2000000 ≤ q ∧ q ≤ 2097152 ∧ 2000000 ≤ r ∧ r ≤ 33000000)
theorem number_ok (x0 : ByteArray) (hsz : x0.size ≤ 140737488351232) (base : Int) (hb : base = 10 ∨ base = 16) : ∀ (d i : Nat) (q r : Int), i + d = x0.size → NRel q r →
    match lex_digs base q ((bytesOf x0).drop i) with
    | none => ∃ k, watchbillref03_number.l0 k x0 base r i = some (-1)
    | some q' => ∃ k r', NRel q' r' ∧ watchbillref03_number.l0 k x0 base r i = some (if x0.toList = [] then -1 else r') := by
  intro d
  induction d with
  | zero =>
    intro i q r hi hr
    have hd : (bytesOf x0).drop i = [] := List.drop_of_length_le (by rw [bytesOf_length]; omega)
    rw [hd]
    simp only [lex_digs]
    refine ⟨1, r, hr, ?_⟩
    rw [watchbillref03_number.l0, if_neg (by omega)]
    split <;> rfl
  | succ d ih =>
    intro i q r hi hr
    have hlt : i < x0.size := by omega
    have hdr : (bytesOf x0).drop i = bt x0 i :: (bytesOf x0).drop (i + 1) := by
      have hl : i < (bytesOf x0).length := by rw [bytesOf_length]; exact hlt
      rw [List.drop_eq_getElem_cons hl]
      congr 1
      have := rd_bytesOf x0 i
      unfold rd at this
      rw [← this]
      simp [hl]
    have hbt := bt_range x0 i
    rw [hdr]
    simp only [lex_digs]
    rw [dig_at _ hbt.1 hbt.2]
    have hst := fun k => number_step k x0 base r i hlt
    have hrange : 0 ≤ sDig (smallI (bt x0 i)) ∧ (sDig (smallI (bt x0 i)) < 16 ∨ sDig (smallI (bt x0 i)) = 99) := by
      unfold sDig
      split
      · omega
      · split <;> omega
    generalize sDig (smallI (bt x0 i)) = g at hst hrange
    by_cases hg : g ≥ base
    · rw [if_pos hg]
      exact ⟨0 + 5, by rw [hst, if_pos hg]⟩
    · rw [if_neg hg]
      have e1 : wrap64 ((i : Int) + 1) = ((i + 1 : Nat) : Int) := by rw [w64 _ (by omega) (by omega)]; omega
      by_cases hr2 : r < 2000000
      · have hb2 : base ≤ 16 ∧ 10 ≤ base := by omega
        obtain ⟨hqr, hq0, hq1⟩ : q = r ∧ 0 ≤ q ∧ q < 2000000 := by
          rcases hr with h | h
          · exact h
          · omega
        subst hqr
        have hm0 : 0 ≤ q * base := Int.mul_nonneg hq0 (by omega)
        have hm1 : q * base ≤ 32000000 := by rcases hb with rfl | rfl <;> omega
        have e2 : wrap64 (wrap64 (q * base) + g) = q * base + g := by rw [w64 (q * base) (by omega) (by omega), w64 _ (by omega) (by omega)]
        have := ih (i + 1) (min (q * base + g) 2097152) (q * base + g) (by omega) (by
          by_cases hlt : q * base + g < 2000000
          · exact Or.inl ⟨by omega, by omega, by omega⟩
          · exact Or.inr ⟨by omega, by omega, by omega, by omega⟩)
        revert this
        split
        · rintro ⟨k, hk⟩
          exact ⟨k + 5, by rw [hst, if_neg hg, if_pos hr2, e2, e1, hk]⟩
        · rintro ⟨k, r', hr', hk⟩
          exact ⟨k + 5, r', hr', by rw [hst, if_neg hg, if_pos hr2, e2, e1, hk]⟩
      · obtain ⟨a, b, c, d'⟩ : 2000000 ≤ q ∧ q ≤ 2097152 ∧ 2000000 ≤ r ∧ r ≤ 33000000 := by
          rcases hr with h | h
          · omega
          · exact h
        have hm0 : 20000000 ≤ q * base := by rcases hb with rfl | rfl <;> omega
        have := ih (i + 1) (min (q * base + g) 2097152) r (by omega) (Or.inr ⟨by omega, by omega, by omega, by omega⟩)
        revert this
        split
        · rintro ⟨k, hk⟩
          exact ⟨k + 5, by rw [hst, if_neg hg, if_neg hr2, e1, hk]⟩
        · rintro ⟨k, r', hr', hk⟩
          exact ⟨k + 5, r', hr', by rw [hst, if_neg hg, if_neg hr2, e1, hk]⟩
/-- A number's sign. -/
def numS (base : Int) (u : ByteArray) : ByteArray :=
  match lex_digs base 0 (bytesOf u) with
  | none => ⟨#[]⟩
  | some n => if u.toList = [] then ⟨#[]⟩ else if charB n = true then strOfNums (utf_Put_bytes n) else ⟨#[]⟩
def begins (t p : ByteArray) : Bool := decide (p.size ≤ t.size) && ((t.extract 0 p.size).toList == p.toList)
/-- What a reference's inner part stands for. -/
def refS (t : ByteArray) : ByteArray :=
  if t.toList = ([108, 116] : List UInt8) then ⟨#[60]⟩ else if t.toList = ([103, 116] : List UInt8) then ⟨#[62]⟩
  else if t.toList = ([97, 109, 112] : List UInt8) then ⟨#[38]⟩ else if t.toList = ([113, 117, 111, 116] : List UInt8) then ⟨#[34]⟩
  else if t.toList = ([97, 112, 111, 115] : List UInt8) then ⟨#[39]⟩
  else if begins t ⟨#[35, 120]⟩ = true then numS 16 (t.extract 2 t.size)
  else if begins t ⟨#[35]⟩ = true then numS 10 (t.extract 1 t.size) else ⟨#[]⟩
theorem cut_f (t p : ByteArray) : strings_CutPrefix.f t p = some (if begins t p = true then (t.extract p.size t.size, true) else (t, false)) := by
  unfold strings_CutPrefix.f stringslite_CutPrefix.f stringslite_HasPrefix.f begins
  by_cases h : p.size ≤ t.size
  · rw [if_pos (by omega), if_pos (by omega), if_pos (by omega), decide_eq_true h, Bool.true_and, Option.bind_some]
    cases hb : (t.extract 0 ((p.size : Nat) : Int).toNat).toList == p.toList with
    | true =>
      simp only [Int.toNat_natCast] at hb
      rw [if_pos rfl, if_pos (by omega), if_pos (by omega), Option.bind_some, hb]
      simp
    | false =>
      simp only [Int.toNat_natCast] at hb
      rw [if_neg (by decide), Option.bind_some, hb]
      simp
  · rw [if_neg (by omega), Option.bind_some, decide_eq_false h]
    simp
theorem scalar_char (n : Int) (h : charB n = true) : utf_scalar.f n = some true ∧ 0 ≤ n ∧ n ≤ 1114111 := by
  have hc : n = 9 ∨ n = 10 ∨ n = 13 ∨ (32 ≤ n ∧ n ≤ 55295) ∨ (57344 ≤ n ∧ n ≤ 65533) ∨ (65536 ≤ n ∧ n ≤ 1114111) := by simpa [charB] using h
  refine ⟨?_, by omega, by omega⟩
  unfold utf_scalar.f
  rw [if_pos (by omega)]
  by_cases h1 : n < 55296
  · rw [if_pos h1]
  · rw [if_neg h1, if_pos (by omega), decide_eq_true (by omega)]
theorem put_f (n : Int) (h : charB n = true) : utf_Put.f n = some (strOfNums (utf_Put_bytes n)) := by
  obtain ⟨h1, h2, h3⟩ := scalar_char n h
  unfold utf_Put.f
  rw [h1, Option.bind_some, if_pos rfl, if_pos ⟨h2, h3⟩]
theorem j0_f (n : Int) (ok : Bool) : lex_reference.j0 12 n ok = some (if ok = true then (if charB n = true then strOfNums (utf_Put_bytes n) else ⟨#[]⟩) else ⟨#[]⟩) := by
  rw [lex_reference.j0]
  cases ok with
  | false => rfl
  | true =>
    rw [if_pos rfl, if_pos rfl, utf_char, Option.bind_some]
    by_cases h : charB n = true
    · rw [if_pos h, if_pos h, put_f n h]
      rfl
    · rw [if_neg h, if_neg h]
theorem digits_f (u : ByteArray) (hu : u.size ≤ 140737488351232) (base : Int) (hb : base = 10 ∨ base = 16) :
    ((lex_digits.f u base).bind fun b => lex_reference.j0 12 b.1 b.2) = some (numS base u) := by
  unfold lex_digits.f numS
  rw [if_pos (by omega), if_pos (by omega), if_pos (by omega)]
  cases lex_digs base 0 (bytesOf u) with
  | none => rw [Option.bind_some, j0_f]; rfl
  | some n =>
    simp only [Option.bind_some]
    rw [j0_f]
    by_cases hu : u.toList = []
    · rw [if_pos hu, hu]; rfl
    · rw [if_neg hu, if_pos (by cases h : u.toList with | nil => exact absurd h hu | cons a b => rfl)]
theorem lex_ref (t : ByteArray) (ht : t.size ≤ 140737488351232) : lex_reference.f 12 t = some (refS t) := by
  unfold lex_reference.f refS
  by_cases h1 : t.toList = ([108, 116] : List UInt8)
  · rw [if_pos h1, if_pos h1]
  rw [if_neg h1, if_neg h1]
  by_cases h2 : t.toList = ([103, 116] : List UInt8)
  · rw [if_pos h2, if_pos h2]
  rw [if_neg h2, if_neg h2]
  by_cases h3 : t.toList = ([97, 109, 112] : List UInt8)
  · rw [if_pos h3, if_pos h3]
  rw [if_neg h3, if_neg h3]
  by_cases h4 : t.toList = ([113, 117, 111, 116] : List UInt8)
  · rw [if_pos h4, if_pos h4]
  rw [if_neg h4, if_neg h4]
  by_cases h5 : t.toList = ([97, 112, 111, 115] : List UInt8)
  · rw [if_pos h5, if_pos h5]
  rw [if_neg h5, if_neg h5, cut_f, Option.bind_some]
  have hx : ∀ a b : Nat, (t.extract a b).size ≤ 140737488351232 := fun a b => by
    rw [ByteArray.size_extract]; omega
  by_cases h6 : begins t ⟨#[35, 120]⟩ = true
  · rw [if_pos h6, if_pos h6]
    simp only [if_true]
    exact digits_f _ (hx _ _) 16 (Or.inr rfl)
  rw [if_neg h6, if_neg h6]
  simp only [Bool.false_eq_true, if_false]
  rw [cut_f, Option.bind_some]
  by_cases h7 : begins t ⟨#[35]⟩ = true
  · rw [if_pos h7, if_pos h7]
    simp only [if_true]
    exact digits_f _ (hx _ _) 10 (Or.inl rfl)
  rw [if_neg h7, if_neg h7]
  simp only [Bool.false_eq_true, if_false]
  rw [j0_f]
  rfl
def namesL : List ByteArray := [⟨#[108, 116]⟩, ⟨#[60]⟩, ⟨#[103, 116]⟩, ⟨#[62]⟩, ⟨#[97, 109, 112]⟩, ⟨#[38]⟩, ⟨#[113, 117, 111, 116]⟩, ⟨#[34]⟩, ⟨#[97, 112, 111, 115]⟩, ⟨#[39]⟩]
theorem ref_step (k : Nat) (x1 x6 : Int) (t : ByteArray) (i : Nat) (hi : i + 1 < 10) : watchbillref03_reference.l0 (k + 1) x1 x6 t namesL i = if (rdOf ByteArray.empty namesL i).toList = t.toList then some (rdOf ByteArray.empty namesL ((i + 1 : Nat) : Int), wrap64 (x6 + 1)) else watchbillref03_reference.l0 k x1 x6 t namesL ((i + 2 : Nat) : Int) := by
  have hl : (namesL.length : Int) = 10 := rfl
  have e1 : wrap64 ((i : Int) + 1) = ((i + 1 : Nat) : Int) := by rw [w64 _ (by omega) (by omega)]; omega
  have e2 : wrap64 ((i : Int) + 2) = ((i + 2 : Nat) : Int) := by rw [w64 _ (by omega) (by omega)]; omega
  rw [watchbillref03_reference.l0, hl, e1, e2, if_pos (by omega), if_pos (by omega), if_pos (by omega), if_pos (show (0 : Int) ≤ ((i + 1 : Nat) : Int) by omega)]
theorem ref_end (k : Nat) (x1 x6 : Int) (t : ByteArray) : watchbillref03_reference.l0 (k + 1) x1 x6 t namesL 10 = ((watchbillref03_Begins.f t 0 (⟨#[35, 120]⟩ : ByteArray)).bind fun t151 => (if t151 = true then (if 2 ≤ (t.size : Int) then ((watchbillref03_number.f k (t.extract 2 t.size) 16).bind fun t152 => (watchbillref03_reference.j1 k x1 x6 t152)) else (none)) else ((watchbillref03_Begins.f t 0 (⟨#[35]⟩ : ByteArray)).bind fun t153 => (if t153 = true then (if 1 ≤ (t.size : Int) then ((watchbillref03_number.f k (t.extract 1 t.size) 10).bind fun t154 => (watchbillref03_reference.j1 k x1 x6 t154)) else (none)) else (watchbillref03_reference.j1 k x1 x6 (-1)))))) := by
  have hl : (namesL.length : Int) = 10 := rfl
  have e1 : wrap64 ((10 : Int) + 1) = 11 := w64 _ (by omega) (by omega)
  rw [watchbillref03_reference.l0, hl, e1, if_neg (by omega)]
theorem begins_f (t p : ByteArray) (ht : t.size ≤ 140737488351232) (hp : p.size ≤ 10) : watchbillref03_Begins.f t 0 p = some (begins t p) := by
  have e0 : wrap64 ((t.size : Int) - 0) = (t.size : Int) := by rw [w64 _ (by omega) (by omega)]; omega
  have e1 : wrap64 ((0 : Int) + (p.size : Int)) = (p.size : Int) := by rw [w64 _ (by omega) (by omega)]; omega
  unfold watchbillref03_Begins.f begins
  rw [if_pos (by omega), e0, e1]
  by_cases h : p.size ≤ t.size
  · rw [if_pos (by omega), if_pos (by omega), if_pos (by omega), if_pos (by omega), decide_eq_true h, Bool.true_and]
    rfl
  · rw [if_neg (by omega), decide_eq_false h, Bool.false_and]
theorem one_byte (s : ByteArray) (i : Nat) (h : i < s.size) (c : UInt8) : (s.extract i (i + 1)).toList = [c] ↔ s.data.toList[i]? = some c := by
  have hl : i < s.data.toList.length := by rw [← Lib.size_eq]; exact h
  rw [Lib.toList_data, Lib.extract_data, show i + 1 - i = 1 by omega, List.drop_eq_getElem_cons hl, List.getElem?_eq_getElem hl]
  simp
theorem index_ok (s : ByteArray) (hs : s.size ≤ 140737488351232) (c : UInt8) : ∀ (d i : Nat), i + d = s.size →
    ∃ k, watchbillref03_Index.l0 k s ⟨#[c]⟩ i = some (if Lib.indexByte (s.data.toList.drop i) c < 0 then -1 else i + Lib.indexByte (s.data.toList.drop i) c) := by
  have hp : ((⟨#[c]⟩ : ByteArray).size : Int) = 1 := rfl
  have ew : wrap64 ((s.size : Int) - 1) = (s.size : Int) - 1 := w64 _ (by omega) (by omega)
  intro d
  induction d with
  | zero =>
    intro i hi
    refine ⟨1, ?_⟩
    have hd : s.data.toList.drop i = [] := List.drop_of_length_le (by rw [← Lib.size_eq]; omega)
    rw [watchbillref03_Index.l0, hp, ew, if_neg (by omega), hd]
    rfl
  | succ d ih =>
    intro i hi
    have hlt : i < s.size := by omega
    have hl : i < s.data.toList.length := by rw [← Lib.size_eq]; exact hlt
    have e1 : wrap64 ((i : Int) + 1) = ((i + 1 : Nat) : Int) := by rw [w64 _ (by omega) (by omega)]; omega
    obtain ⟨k, hk⟩ := ih (i + 1) (by omega)
    refine ⟨k + 1, ?_⟩
    rw [watchbillref03_Index.l0, hp, ew, e1, if_pos (by omega), if_pos (by omega), if_pos (by omega), if_pos (by omega), hk]
    rw [List.drop_eq_getElem_cons hl]
    have hcl : (⟨#[c]⟩ : ByteArray).toList = [c] := by rw [Lib.toList_data]
    have ho := one_byte s i hlt c
    rw [List.getElem?_eq_getElem hl] at ho
    have hge := Lib.indexByte_ge (s.data.toList.drop (i + 1)) c
    simp only [Int.toNat_natCast]
    rw [hcl]
    by_cases hc : s.data.toList[i] = c
    · rw [if_pos (ho.2 (by rw [hc]))]
      unfold Lib.indexByte
      simp [hc]
    · rw [if_neg (fun h => hc (by simpa using ho.1 h))]
      conv => rhs; unfold Lib.indexByte
      generalize Lib.indexByte (List.drop (i + 1) s.data.toList) c = x at hge
      have hcb : (s.data.toList[i] == c) = false := beq_eq_false_iff_ne.2 hc
      simp only [hcb, Bool.false_eq_true, if_false]
      by_cases hx : x = -1
      · subst hx
        rfl
      · have hxb : (x == -1) = false := beq_eq_false_iff_ne.2 hx
        simp only [hxb, Bool.false_eq_true, if_false]
        rw [if_neg (by omega), if_neg (by omega)]
        congr 1
        omega
end Go.Proofs.YtffpbhbiamkkpaaDoor.PL
