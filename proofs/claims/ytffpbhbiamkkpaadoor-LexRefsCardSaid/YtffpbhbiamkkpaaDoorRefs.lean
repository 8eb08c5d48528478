/- LexRefs: what a number's reference stands for (no program in sight), then the walk: it returns true, whatever its input. -/
import Derived.Test.YtffpbhbiamkkpaaDoorPureLexE
import Derived.Test.YtffpbhbiamkkpaaDoorF16
import Derived.Lib.ItoaNum
import Derived.Test.YtffpbhbiamkkpaaDoorPTx1
import Derived.Test.YtffpbhbiamkkpaaDoorShelfI
import Derived.Lib.AppendIntMem
import Derived.Lib.SmallJoins
namespace Go.Proofs.YtffpbhbiamkkpaaDoor.PL
open Go.RowKit Go.Proofs.YtffpbhbiamkkpaaDoorW.PrintWords Go.Proofs.YtffpbhbiamkkpaaDoorW.PrintLast Go.Proofs.YtffpbhbiamkkpaaDoorW.PrintMore Go.Plain
set_option linter.unusedVariables false
def numsOf (l : List UInt8) : List Int := l.map fun b => (b.toNat : Int)
theorem digs_append (base : Int) : ∀ (l m : List Int) (n : Int), lex_digs base n (l ++ m) = (lex_digs base n l).bind fun q => lex_digs base q m
  | [], m, n => rfl
  | c :: l, m, n => by
    rw [List.cons_append, lex_digs, lex_digs]
    split
    · rfl
    · exact digs_append base l m _
theorem dig48 (d : Nat) (h : d < 10) : lex_dig ((UInt8.ofNat (48 + d)).toNat : Int) = d := by
  have : ∀ d : Fin 10, lex_dig ((UInt8.ofNat (48 + d.val)).toNat : Int) = (d.val : Int) := by decide +kernel
  exact this ⟨d, h⟩
theorem dig16 (d : Nat) (h : d < 16) : lex_dig ((F16.dg d).toNat : Int) = d := by
  have : ∀ d : Fin 16, lex_dig ((F16.dg d.val).toNat : Int) = (d.val : Int) := by decide +kernel
  exact this ⟨d, h⟩
/-- Noughts ahead play no part. -/
theorem digs_zeros (base : Int) (hb : base = 10 ∨ base = 16) (l : List Int) : ∀ m, lex_digs base 0 (List.replicate m 48 ++ l) = lex_digs base 0 l
  | 0 => rfl
  | m + 1 => by
    rw [List.replicate_succ, List.cons_append, lex_digs]
    have h0 : lex_dig 48 = 0 := by decide
    rw [h0, if_neg (by omega)]
    have : min (0 * base + 0) 2097152 = (0 : Int) := by rw [Int.zero_mul]; decide
    rw [this, digs_zeros base hb l m]
theorem digs_step (base : Nat) (hb : base = 10 ∨ base = 16) (u : Nat) (c : Int) (hc : lex_dig c = ((u % base : Nat) : Int)) : lex_digs base (min ((u / base : Nat) : Int) 2097152) [c] = some (min (u : Int) 2097152) := by
  rw [lex_digs, hc]
  have h1 : u % base < base := Nat.mod_lt _ (by omega)
  rw [if_neg (by omega), lex_digs]
  have h2 : u = base * (u / base) + u % base := (Nat.div_add_mod u base).symm
  rcases hb with rfl | rfl
  · congr 1; omega
  · congr 1; omega
theorem digs_dec (u : Nat) : lex_digs 10 0 (numsOf (Lib.decDigits u)) = some (min (u : Int) 2097152) := by
  induction u using Nat.strongRecOn with
  | ind u ih =>
    rw [Lib.decDigits]
    by_cases h : u < 10
    · rw [dif_pos h]
      show lex_digs 10 0 [((UInt8.ofNat (48 + u)).toNat : Int)] = _
      rw [lex_digs, dig48 u h, if_neg (by omega), lex_digs]
      congr 1; omega
    · rw [dif_neg h]
      show lex_digs 10 0 (List.map _ (_ ++ [_])) = _
      rw [List.map_append, digs_append]
      have := ih (u / 10) (by omega)
      unfold numsOf at this
      rw [this, Option.bind_some]
      exact digs_step 10 (Or.inl rfl) u _ (dig48 (u % 10) (by omega))
theorem digs_hex : ∀ (d u : Nat) (acc : List UInt8), u < 16 ^ d → lex_digs 16 0 (numsOf (F16.hexL d u acc)) = lex_digs 16 (min (u : Int) 2097152) (numsOf acc)
  | 0, u, acc, h => by
    have : u = 0 := by simpa using h
    subst this
    show lex_digs 16 0 (((F16.dg (0 % 16)).toNat : Int) :: numsOf acc) = _
    rw [lex_digs, dig16 _ (by decide), if_neg (by decide)]
    rfl
  | d + 1, u, acc, h => by
    rw [F16.hexL]
    have hs : ∀ v : Nat, v < 16 → ∀ n l, lex_digs 16 n (((F16.dg v).toNat : Int) :: l) = lex_digs 16 (min (n * 16 + v) 2097152) l := fun v hv n l => by
      rw [lex_digs, dig16 v hv, if_neg (by omega)]
    by_cases hu : 16 ≤ u
    · rw [if_pos hu, digs_hex d (u / 16) _ (by rw [Nat.pow_succ] at h; omega)]
      show lex_digs 16 _ (((F16.dg (u % 16)).toNat : Int) :: numsOf acc) = _
      rw [hs _ (Nat.mod_lt _ (by decide))]
      congr 1
      omega
    · rw [if_neg hu]
      show lex_digs 16 0 (((F16.dg u).toNat : Int) :: numsOf acc) = _
      rw [hs u (by omega)]
      congr 1
      omega
/-- A number's sign, or nothing. -/
def signS (u : Nat) : ByteArray := if charB u = true then strOfNums (utf_Put_bytes u) else ⟨#[]⟩
theorem numS_of (base : Int) (s : ByteArray) (u : Nat) (h : lex_digs base 0 (bytesOf s) = some (min (u : Int) 2097152)) (hne : s.toList ≠ []) : numS base s = signS u := by
  unfold numS signS
  rw [h]
  simp only
  rw [if_neg hne]
  by_cases hu : (u : Int) ≤ 2097152
  · rw [Int.min_eq_left hu]
  · have h1 : charB (min (u : Int) 2097152) = false := by
      rw [Int.min_eq_right (by omega)]; decide
    have h2 : charB (u : Int) = false := decide_eq_false (by omega)
    rw [h1, h2, if_neg (by decide), if_neg (by decide)]
theorem bytes_mk (l : List UInt8) : bytesOf ⟨l.toArray⟩ = numsOf l := by
  rfl
theorem index_at (x : UInt8) : ∀ l : List UInt8, x ∉ l → ∀ t, Lib.indexByte (l ++ x :: t) x = (l.length : Int)
  | [], _, t => by show (if x == x then (0 : Int) else _) = _; rw [if_pos (by simp)]; rfl
  | b :: l, h, t => by
    have hb : ¬ (b == x) = true := by simp at h ⊢; exact fun e => h.1 e.symm
    have ih := index_at x l (fun hm => h (by simp [hm])) t
    show (if b == x then 0 else if Lib.indexByte (l ++ x :: t) x == -1 then -1 else Lib.indexByte (l ++ x :: t) x + 1) = _
    rw [if_neg hb, ih, if_neg (by simp)]
    simp
theorem uL_one (R : List UInt8 → List UInt8) (attr : Bool) (d : Nat) (l : List UInt8) (h : 59 ∉ l) : uL R attr (d + 1) 0 (38 :: (l ++ [59])) = if R l = [] then .error 0 else .ok (R l) := by
  have hi : Lib.indexByte (38 :: (l ++ [59])) 59 = (l.length : Int) + 1 := by
    have := index_at 59 (38 :: l) (by simpa using h) []
    simpa using this
  rw [uL, if_pos rfl, hi, if_neg (by omega)]
  have e1 : ((l.length : Int) + 1).toNat - 1 = l.length := by omega
  have e2 : ((l.length : Int) + 1).toNat + 1 = l.length + 2 := by omega
  rw [e1, e2, List.take_left]
  by_cases hr : R l = []
  · rw [if_pos hr, if_pos hr]
  · rw [if_neg hr, if_neg hr, List.drop_of_length_le (by simp)]
    have : ∀ i, uL R attr d i [] = .ok [] := fun i => by cases d <;> rfl
    rw [this]
    simp [Except.map]
theorem zmem (m : Nat) (l : List UInt8) (x : UInt8) (hx : x ≠ 48) (h : x ∉ l) : x ∉ List.replicate m 48 ++ l := by
  intro hm
  rcases List.mem_append.1 hm with h1 | h1
  · exact hx (List.eq_of_mem_replicate h1)
  · exact h h1
theorem dec_mem (u : Nat) : ∀ b ∈ Lib.decDigits u, b < 58 := by
  induction u using Nat.strongRecOn with
  | ind u ih =>
    intro b hb
    rw [Lib.decDigits] at hb
    have hd : ∀ d : Fin 10, UInt8.ofNat (48 + d.val) < 58 := by decide +kernel
    by_cases h : u < 10
    · rw [dif_pos h] at hb
      obtain rfl := List.mem_singleton.1 hb
      exact hd ⟨u, h⟩
    · rw [dif_neg h] at hb
      rcases List.mem_append.1 hb with h1 | h1
      · exact ih _ (by omega) b h1
      · obtain rfl := List.mem_singleton.1 h1
        exact hd ⟨u % 10, Nat.mod_lt _ (by decide)⟩
theorem dec_ne (u : Nat) : Lib.decDigits u ≠ [] := by
  rw [Lib.decDigits]
  by_cases h : u < 10
  · rw [dif_pos h]; simp
  · rw [dif_neg h]; simp
theorem hex_mem : ∀ (d u : Nat) (acc : List UInt8), u < 16 ^ d → (∀ b ∈ acc, b ≠ 59) → ∀ b ∈ F16.hexL d u acc, b ≠ 59
  | 0, u, acc, h, ha, b, hb => by
    rcases List.mem_cons.1 hb with rfl | h1
    · have : u = 0 := by simpa using h
      subst this; decide
    · exact ha b h1
  | d + 1, u, acc, h, ha, b, hb => by
    have hd : ∀ d : Fin 16, F16.dg d.val ≠ 59 := by decide +kernel
    rw [F16.hexL] at hb
    by_cases hu : 16 ≤ u
    · rw [if_pos hu] at hb
      refine hex_mem d (u / 16) _ (by rw [Nat.pow_succ] at h; omega) ?_ b hb
      intro c hc
      rcases List.mem_cons.1 hc with rfl | h1
      · exact hd ⟨u % 16, Nat.mod_lt _ (by decide)⟩
      · exact ha c h1
    · rw [if_neg hu] at hb
      rcases List.mem_cons.1 hb with rfl | h1
      · exact hd ⟨u, by omega⟩
      · exact ha b h1
theorem hex_ne : ∀ (d u : Nat) (acc : List UInt8), F16.hexL d u acc ≠ []
  | 0, u, acc => by simp [F16.hexL]
  | d + 1, u, acc => by
    rw [F16.hexL]
    by_cases hu : 16 ≤ u
    · rw [if_pos hu]; exact hex_ne d _ _
    · rw [if_neg hu]; simp
theorem begins_mk (l p : List UInt8) : begins ⟨(p ++ l).toArray⟩ ⟨p.toArray⟩ = true := by
  unfold begins
  simp only [mk_size, Lib.toList_data, Lib.extract_data]
  simp
theorem drop_mk (l p : List UInt8) (n : Nat) (hn : p.length = n) : (⟨(p ++ l).toArray⟩ : ByteArray).extract n (⟨(p ++ l).toArray⟩ : ByteArray).size = ⟨l.toArray⟩ := by
  rw [← mk_of (ByteArray.extract _ _ _), Lib.extract_data, mk_size]
  subst hn
  simp
theorem head_ne {t : ByteArray} {l p : List UInt8} {a : UInt8} (ht : t = ⟨(35 :: l).toArray⟩) (ha : a ≠ 35) : ¬ t.toList = a :: p := by
  subst ht
  rw [Lib.toList_data]
  intro h
  have : (35 : UInt8) = a := by simpa using congrArg List.head? h
  exact ha this.symm
theorem refS_dec (u m : Nat) : refS ⟨(35 :: (List.replicate m 48 ++ Lib.decDigits u)).toArray⟩ = signS u := by
  obtain ⟨t, ht⟩ : ∃ t : ByteArray, t = ⟨(35 :: (List.replicate m 48 ++ Lib.decDigits u)).toArray⟩ := ⟨_, rfl⟩
  rw [← ht]
  unfold refS
  rw [if_neg (head_ne ht (by decide)), if_neg (head_ne ht (by decide)), if_neg (head_ne ht (by decide)), if_neg (head_ne ht (by decide)), if_neg (head_ne ht (by decide))]
  have hz : ∀ b ∈ List.replicate m 48 ++ Lib.decDigits u, b < 58 := by
    intro b hb
    rcases List.mem_append.1 hb with h1 | h1
    · rw [List.eq_of_mem_replicate h1]; decide
    · exact dec_mem u b h1
  have hn : (List.replicate m 48 ++ Lib.decDigits u) ≠ [] := by simp [dec_ne u]
  have hb1 : ¬ begins t ⟨#[35, 120]⟩ = true := by
    subst ht
    unfold begins
    cases hl : List.replicate m 48 ++ Lib.decDigits u with
    | nil => exact absurd hl hn
    | cons b l =>
      rw [hl] at hz
      have := hz b (by simp)
      intro h
      rw [Bool.and_eq_true] at h
      have h2 := h.2
      simp only [Lib.toList_data, Lib.extract_data] at h2
      have h3 : b = 120 := by simpa [show (ByteArray.size ⟨#[35, 120]⟩) = 2 from rfl] using h2
      subst h3
      exact absurd this (by decide)
  have hb2 : begins t ⟨#[35]⟩ = true := by
    subst ht
    have h := begins_mk (List.replicate m 48 ++ Lib.decDigits u) [35]
    rw [List.singleton_append] at h
    exact h
  rw [if_neg hb1, if_pos hb2]
  have hd : t.extract 1 t.size = ⟨(List.replicate m 48 ++ Lib.decDigits u).toArray⟩ := by
    subst ht
    have h := drop_mk (List.replicate m 48 ++ Lib.decDigits u) [35] 1 rfl
    rw [List.singleton_append] at h
    exact h
  rw [hd]
  refine numS_of 10 _ u ?_ (by rw [Lib.toList_data]; exact hn)
  rw [bytes_mk]
  show lex_digs 10 0 (List.map _ _) = _
  rw [List.map_append, List.map_replicate]
  exact (digs_zeros 10 (Or.inl rfl) _ m).trans (digs_dec u)
theorem refS_hex (u m : Nat) (hu : u < 4294967296) : refS ⟨(35 :: 120 :: (List.replicate m 48 ++ F16.hex u)).toArray⟩ = signS u := by
  obtain ⟨t, ht⟩ : ∃ t : ByteArray, t = ⟨(35 :: 120 :: (List.replicate m 48 ++ F16.hex u)).toArray⟩ := ⟨_, rfl⟩
  rw [← ht]
  unfold refS
  rw [if_neg (head_ne ht (by decide)), if_neg (head_ne ht (by decide)), if_neg (head_ne ht (by decide)), if_neg (head_ne ht (by decide)), if_neg (head_ne ht (by decide))]
  have hn : (List.replicate m 48 ++ F16.hex u) ≠ [] := by simp [F16.hex, hex_ne]
  have hb2 : begins t ⟨#[35, 120]⟩ = true := by
    subst ht
    have h := begins_mk (List.replicate m 48 ++ F16.hex u) [35, 120]
    rw [List.cons_append, List.singleton_append] at h
    exact h
  rw [if_pos hb2]
  have hd : t.extract 2 t.size = ⟨(List.replicate m 48 ++ F16.hex u).toArray⟩ := by
    subst ht
    have h := drop_mk (List.replicate m 48 ++ F16.hex u) [35, 120] 2 rfl
    rw [List.cons_append, List.singleton_append] at h
    exact h
  rw [hd]
  refine numS_of 16 _ u ?_ (by rw [Lib.toList_data]; exact hn)
  rw [bytes_mk]
  show lex_digs 16 0 (List.map _ _) = _
  rw [List.map_append, List.map_replicate]
  refine (digs_zeros 16 (Or.inr rfl) _ m).trans ((digs_hex 8 u [] hu).trans rfl)
/-- What a number's reference comes to. -/
def numU (u : Nat) : ByteArray × Int × Int := if charB u = true then (strOfNums (utf_Put_bytes u), 0, 0) else (⟨#[]⟩, 0, 16)
theorem put_ne (n : Int) : (strOfNums (utf_Put_bytes n)).data.toList ≠ [] := by
  unfold strOfNums utf_Put_bytes
  split
  · simp
  split
  · simp
  split <;> simp
theorem unesc_of (u : Nat) (l : List UInt8) (attr : Bool) (hl : l.length ≤ 100) (h59 : 59 ∉ l) (hr : refS ⟨l.toArray⟩ = signS u) : lex_Unescape.f ⟨(38 :: (l ++ [59])).toArray⟩ attr = some (numU u) := by
  rw [unescape_ok _ (by rw [mk_size]; simp; omega), uL_one _ _ _ _ h59]
  unfold refL
  rw [hr]
  unfold signS numU
  by_cases hc : charB u = true
  · rw [if_pos hc, if_pos hc, if_neg (put_ne _)]
    simp [outU]
  · rw [if_neg hc, if_neg hc, if_pos rfl]
    rfl
end Go.Proofs.YtffpbhbiamkkpaaDoor.PL
namespace Go.Proofs.YtffpbhbiamkkpaaDoor.Refs
open Go.RowKit Go.Proofs.YtffpbhbiamkkpaaDoorW.PrintWords Go.Proofs.YtffpbhbiamkkpaaDoorW.PrintLast Go.Proofs.YtffpbhbiamkkpaaDoorW.PrintMore Go.Plain
set_option linter.unusedVariables false
theorem awake_ok : PT.watchbilllaw03_awake.f = some true := by decide +kernel
/-- The table of tens. -/
abbrev Tens (w : World) : Prop := Lib.TabIs Tryd.prog w "internal/strconv.uint64pow10" .u64 Lib.pow10Tab
theorem tens_below {w w' : World} (h : Tens w) (hb : Below w.heap.size w w') : Tens w' :=
  Go.Joins.var_stays (g := 0) (by kernel_rfl) h hb (Nat.le_refl _)
/-- The world has what is asked of it. -/
structure Rdy (w : World) : Prop where
  ml : ML w
  tz : F16.TZ w
  tens : Tens w
def zs (m : Nat) : ByteArray := ⟨(List.replicate m 48).toArray⟩
theorem zs_succ (i : Nat) : zs i ++ ⟨#[48]⟩ = zs (i + 1) := by
  unfold zs
  rw [← PL.mk_of (_ ++ _)]
  simp [List.replicate_succ']
theorem str_dec (m : Nat) (l : List UInt8) : ((⟨#[38, 35]⟩ ++ zs m) ++ ⟨l.toArray⟩) ++ ⟨#[59]⟩ = (⟨(38 :: ((35 :: (List.replicate m 48 ++ l)) ++ [59])).toArray⟩ : ByteArray) := by
  unfold zs
  rw [← PL.mk_of (_ ++ _)]
  simp
theorem str_hex (m : Nat) (l : List UInt8) : ((⟨#[38, 35, 120]⟩ ++ zs m) ++ ⟨l.toArray⟩) ++ ⟨#[59]⟩ = (⟨(38 :: ((35 :: 120 :: (List.replicate m 48 ++ l)) ++ [59])).toArray⟩ : ByteArray) := by
  unfold zs
  rw [← PL.mk_of (_ ++ _)]
  simp
/-- The three texts. -/
def txt (u m : Nat) : Nat → ByteArray
  | 0 => ((⟨#[38, 35]⟩ ++ zs m) ++ ⟨(Lib.itoa (u : Int)).toArray⟩) ++ ⟨#[59]⟩
  | _ => ((⟨#[38, 35, 120]⟩ ++ zs m) ++ ⟨(F16.hex u).toArray⟩) ++ ⟨#[59]⟩
theorem dec_len (u : Nat) (hu : u < 2147483648) : (Lib.decDigits u).length ≤ 20 := by
  rw [Lib.decDigits_length]
  rcases Nat.eq_zero_or_pos u with h | h
  · subst h; decide +kernel
  · have := Lib.numDigits_eq u h (by omega)
    split at this <;> omega
theorem hex_len : ∀ (d u : Nat) (acc : List UInt8), (F16.hexL d u acc).length ≤ d + 1 + acc.length
  | 0, u, acc => by simp [F16.hexL]; omega
  | d + 1, u, acc => by
    rw [F16.hexL]
    by_cases hu : 16 ≤ u
    · rw [if_pos hu]; have := hex_len d (u / 16) (F16.dg (u % 16) :: acc); simp at this; omega
    · rw [if_neg hu]; simp; omega
theorem F16hex_len (u : Nat) : (F16.hex u).length ≤ 9 := hex_len 8 u []
theorem txt_ok (u m : Nat) (hu : u < 2147483648) (hm : m < 9) (k : Nat) (attr : Bool) : PL.lex_Unescape.f (txt u m k) attr = some (PL.numU u) := by
  have hhx : (F16.hex u).length ≤ 9 := hex_len 8 u []
  have hx : PL.lex_Unescape.f (((⟨#[38, 35, 120]⟩ ++ zs m) ++ ⟨(F16.hex u).toArray⟩) ++ ⟨#[59]⟩) attr = some (PL.numU u) := by
    rw [str_hex]
    refine PL.unesc_of u _ attr (by simp; omega) ?_ (PL.refS_hex u m (by omega))
    have := PL.zmem m (F16.hex u) 59 (by decide) (fun h => PL.hex_mem 8 u [] (by omega) (by simp) 59 h rfl)
    simpa using this
  cases k with
  | zero =>
    show PL.lex_Unescape.f (((⟨#[38, 35]⟩ ++ zs m) ++ ⟨(Lib.itoa (u : Int)).toArray⟩) ++ ⟨#[59]⟩) attr = _
    rw [Lib.itoa_nonneg, str_dec]
    have hl := dec_len u hu
    refine PL.unesc_of u _ attr (by simp; omega) ?_ (PL.refS_dec u m)
    have := PL.zmem m (Lib.decDigits u) 59 (by decide) (fun h => absurd (PL.dec_mem u 59 h) (by decide))
    simpa using this
  | succ k => exact hx
theorem five_ok : PL.lex_Unescape.f ⟨#[38, 108, 116, 59, 38, 103, 116, 59, 38, 97, 109, 112, 59, 38, 113, 117, 111, 116, 59, 38, 97, 112, 111, 115, 59]⟩ true = some (⟨#[60, 62, 38, 34, 39]⟩, 0, 0) := by decide +kernel
theorem Rdy.below {w w1 : World} (h : Rdy w) (hb : Below w.heap.size w w1) : Rdy w1 := ⟨h.ml.below hb, h.tz.below hb, tens_below h.tens hb⟩
theorem cells_below {b : Nat} {f : Nat → ByteArray} {w w1 : World} (hb : Below w.heap.size w w1) (hl : b < w.heap.size) (h : ∀ k, k < 3 → w.cell? ⟨b, k, none⟩ = some (.string (f k))) : ∀ k, k < 3 → w1.cell? ⟨b, k, none⟩ = some (.string (f k)) :=
  fun k hk => (hb.cell (p := ⟨b, k, none⟩) hl).trans (h k hk)
theorem itoa_calls (u : Nat) (hu : u < 2147483648) (w : World) (h : Tens w) : Calls Tryd.prog 27 #[.int .i64 (u : Int)] w fun e w' => e = .returned (.string ⟨(Lib.itoa (u : Int)).toArray⟩) ∧ Below w.heap.size w w' := by
  refine (Tryd.ShelfI_strconv_Itoa (u : Int) (by omega) (by omega) w h).mono ?_
  rintro e w' ⟨he, k, os, rfl⟩
  exact ⟨he, Lib.below_grow _ w (Nat.le_refl _) k os⟩
theorem char_f (n : Int) : PL.utf_Char.f 11 n = some (PL.charB n) := PL.utf_char n
set_option maxHeartbeats 4000000 in
set_option maxRecDepth 100000 in
theorem walk (a0 a1 : Int) (w : World) (h : Rdy w) (h0 : -2147483648 ≤ a0 ∧ a0 ≤ 2147483647) (h1 : 0 ≤ a1 ∧ a1 ≤ 255) :
    Calls Tryd.prog 9 #[.int .i32 a0, .int .u8 a1] w fun e w' => e = .returned (.bool true) ∧ Below w.heap.size w w' := by
  have HR := Aside0.mk h
  clear h
  by_cases hn : a0 < 0
  · have q1 := eq_true hn
    have q2 : decide (a0 < 0) = true := decide_eq_true hn
    go_enter Tryd.func9, Tryd.ntmps9
    go_wp2_with (go_at_call 20; (with_reducible refine (PT.watchbilllaw03_awake.calls true _ HR.out.ml awake_ok).mono ?_); rintro e w' ⟨rfl, hb⟩)
    go_ret
    exact ⟨rfl, hb⟩
  · obtain ⟨u, rfl⟩ : ∃ u : Nat, a0 = u := ⟨a0.toNat, by omega⟩
    have hu : u < 2147483648 := by omega
    have q1 := eq_false hn
    have q2 : decide ((u : Int) < 0) = false := decide_eq_false hn
    obtain ⟨m, hm⟩ : ∃ m : Nat, (m : Int) = a1.tmod 9 := ⟨(a1.tmod 9).toNat, by rw [Int.tmod_eq_emod_of_nonneg h1.1]; omega⟩
    have hm9 : m < 9 := by rw [Int.tmod_eq_emod_of_nonneg h1.1] at hm; omega
    have hm' : a1.tmod 9 = (m : Int) := hm.symm
    clear hm
    go_enter Tryd.func9, Tryd.ntmps9
    go_wp2_with (go_at_call 20; (with_reducible refine (PT.watchbilllaw03_awake.calls true _ HR.out.ml awake_ok).mono ?_); rintro e w1 ⟨rfl, hb⟩)
    have HB1 := Aside0.mk hb
    clear hb
    go_loopg [5, 6] m (fun k v5 v6 wr => ∃ i : Nat, v5 = .string (zs i) ∧ v6 = .int .i64 (i : Int) ∧ i ≤ m ∧ k = m - i ∧ Aside0 (Below w.heap.size w wr))
    case atStart => exact ⟨0, rfl, rfl, Nat.zero_le _, rfl, HB1⟩
    case round =>
      obtain ⟨i, rfl, rfl, him, hk, HB⟩ := hrel
      have HK := Aside0.mk hk
      clear hk
      by_cases hlt : i < m
      · have q3 := eq_true (show (i : Int) < (m : Int) by omega)
        obtain ⟨j, hj⟩ : ∃ j, j = i + 1 := ⟨_, rfl⟩
        have e1 : (i : Int) + 1 = (j : Int) := by omega
        have e2 : IntKind.i64.wrap (j : Int) = (j : Int) := IntWalk.i64_in _ (by omega)
        have e3 : zs i ++ ⟨#[48]⟩ = zs j := by rw [hj]; exact zs_succ i
        have e4 : (zs i).size = i := by unfold zs; rw [PL.mk_size]; simp
        have e5 := eq_false (show ¬ 9223372036854775807 < i + 1 by omega)
        have HJ := Aside0.mk hj
        clear hj
        go_wp2
        go_roundg (m - j)
        · refine ⟨j, rfl, rfl, ?_, rfl, HB⟩
          have := HJ.out; omega
        · have := HJ.out; have := HK.out; omega
      · have q3 := eq_false (show ¬ (i : Int) < (m : Int) by omega)
        obtain rfl : i = m := by omega
        clear hlt him HK
        obtain ⟨I, hI⟩ : ∃ I : ByteArray, I = ⟨(Lib.itoa (u : Int)).toArray⟩ := ⟨_, rfl⟩
        obtain ⟨H, hH⟩ : ∃ H : ByteArray, H = ⟨(F16.hex u).toArray⟩ := ⟨_, rfl⟩
        have HCI := Aside0.mk (fun W => itoa_calls u hu W)
        have HCH := Aside0.mk (fun W => F16.fi_calls u (by omega) W)
        rw [← hI] at HCI
        rw [← hH] at HCH
        have HT0 := Aside0.mk (show txt u i 0 = ((⟨#[38, 35]⟩ ++ zs i) ++ I) ++ ⟨#[59]⟩ by rw [hI]; rfl)
        have HT1 := Aside0.mk (show txt u i 1 = ((⟨#[38, 35, 120]⟩ ++ zs i) ++ H) ++ ⟨#[59]⟩ by rw [hH]; rfl)
        have HT2 := Aside0.mk (show txt u i 2 = ((⟨#[38, 35, 120]⟩ ++ zs i) ++ H) ++ ⟨#[59]⟩ by rw [hH]; rfl)
        have e4 : (zs i).size = i := by unfold zs; rw [PL.mk_size]; simp
        obtain ⟨li, hli⟩ : ∃ li, I.size = li := ⟨_, rfl⟩
        obtain ⟨lh, hlh⟩ : ∃ lh, H.size = lh := ⟨_, rfl⟩
        have hli9 : li ≤ 20 := by rw [← hli, hI, PL.mk_size, Lib.itoa_nonneg]; exact dec_len u hu
        have hlh9 : lh ≤ 9 := by rw [← hlh, hH, PL.mk_size]; exact F16hex_len u
        clear hI hH
        have e5 := eq_false (show ¬ 9223372036854775807 < 2 + i by omega)
        have e6 := eq_false (show ¬ 9223372036854775807 < 2 + i + li by omega)
        have e7 := eq_false (show ¬ 9223372036854775807 < 2 + i + li + 1 by omega)
        have e8 := eq_false (show ¬ 9223372036854775807 < 3 + i by omega)
        have e9 := eq_false (show ¬ 9223372036854775807 < 3 + i + lh by omega)
        have e10 := eq_false (show ¬ 9223372036854775807 < 3 + i + lh + 1 by omega)
        have w1 : IntKind.i64.wrap (u : Int) = (u : Int) := IntWalk.i64_in _ (by omega)
        clear hli9 hlh9
        go_wp2_with (first
          | (go_at_call 27; (with_reducible refine (HCI.out _ (HR.out.below HB.out).tens).mono ?_); rintro e w2 ⟨rfl, hb2⟩)
          | (go_at_call 28; (with_reducible refine (HCH.out _ ((HR.out.below HB.out).below hb2).tz).mono ?_); rintro e w3 ⟨rfl, hb3⟩)
          | (go_at_call 28; (with_reducible refine (HCH.out _ (((HR.out.below HB.out).below hb2).below hb3).tz).mono ?_); rintro e w4 ⟨rfl, hb4⟩))
        obtain ⟨b, hbe⟩ : ∃ b, b = w4.heap.size := ⟨_, rfl⟩
        have hB4 : Below w.heap.size w w4 := HB.out.trans ((hb2.mono HB.out.size).trans ((hb3.mono (Nat.le_trans HB.out.size hb2.size)).trans (hb4.mono (Nat.le_trans (Nat.le_trans HB.out.size hb2.size) hb3.size))))
        have HA := Aside0.mk (show Below w.heap.size w (w4.alloc (.cells #[.string (((⟨#[38, 35]⟩ ++ zs i) ++ I) ++ ⟨#[59]⟩), .string (((⟨#[38, 35, 120]⟩ ++ zs i) ++ H) ++ ⟨#[59]⟩), .string (((⟨#[38, 35, 120]⟩ ++ zs i) ++ H) ++ ⟨#[59]⟩)] 58)) from hB4.alloc hB4.size _)
        have HC := Aside0.mk (show ∀ k, k < 3 → (w4.alloc (.cells #[.string (((⟨#[38, 35]⟩ ++ zs i) ++ I) ++ ⟨#[59]⟩), .string (((⟨#[38, 35, 120]⟩ ++ zs i) ++ H) ++ ⟨#[59]⟩), .string (((⟨#[38, 35, 120]⟩ ++ zs i) ++ H) ++ ⟨#[59]⟩)] 58)).cell? ⟨b, k, none⟩ = some (.string (txt u i k)) by
          intro k hk
          rw [hbe, World.cell?_alloc_new]
          obtain rfl | rfl | rfl : k = 0 ∨ k = 1 ∨ k = 2 := by omega
          · rw [HT0.out]; rfl
          · rw [HT1.out]; rfl
          · rw [HT2.out]; rfl)
        have HM := Aside0.mk hB4.size
        rw [← hbe] at HM ⊢
        have HBE := Aside0.mk hbe
        clear hb2 hb3 hb4 HCI HCH HT0 HT1 HT2 hB4 e4 hli hlh e5 e6 e7 e8 e9 e10 HB hbe hm'
        go_loopg [8] 3 (fun n v8 wr => ∃ k : Nat, v8 = .int .i64 (k : Int) ∧ k ≤ 3 ∧ Aside0 (n = 3 - k) ∧ Aside0 (∀ k, k < 3 → wr.cell? ⟨b, k, none⟩ = some (.string (txt u i k))) ∧ Aside0 (Below w.heap.size w wr) ∧ Aside0 (b < wr.heap.size))
        case atStart => exact ⟨0, rfl, by omega, Aside0.mk rfl, HC, HA, Aside0.mk (by rw [HBE.out]; show _ < (w4.heap.push _).size; rw [Array.size_push]; omega)⟩
        case round =>
          obtain ⟨k, rfl, hk3, HN, HC, HB, HL⟩ := hrel
          by_cases hk : k < 3
          · have q4 := eq_true (show (k : Int) < 3 by omega)
            have q5 := eq_true (show (0 : Int) ≤ (k : Int) by omega)
            obtain ⟨T, hT⟩ : ∃ T, T = txt u i k := ⟨_, rfl⟩
            have hc := HC.out k hk
            rw [← hT] at hc
            have HU := Aside0.mk (show ∀ attr, PL.lex_Unescape.f T attr = some (PL.numU u) from fun attr => by rw [hT]; exact txt_ok u i hu hm9 k attr)
            have HT := Aside0.mk hT
            clear hT
            obtain ⟨j, hj⟩ : ∃ j, j = k + 1 := ⟨_, rfl⟩
            have f1 : (k : Int) + 1 = (j : Int) := by omega
            have f2 : IntKind.i64.wrap (j : Int) = (j : Int) := IntWalk.i64_in _ (by omega)
            have HJ := Aside0.mk hj
            clear hj
            have HCH := Aside0.mk (PL.utf_char (u : Int))
            by_cases hch : PL.charB (u : Int) = true
            · have HPU := Aside0.mk (PL.put_f (u : Int) hch)
              rw [hch] at HCH
              unfold PL.numU at HU
              rw [if_pos hch] at HU
              obtain ⟨p, hp⟩ : ∃ p, p = strOfNums (PL.utf_Put_bytes u) := ⟨_, rfl⟩
              rw [← hp] at HPU HU
              clear hp
              go_wp2_with (first
                | (go_at_call 21; (with_reducible refine (PL.lex_Unescape.calls T _ p 0 0 _ (HR.out.below HB.out).ml (HU.out _)).mono ?_); rintro e w6 ⟨rfl, hb6⟩)
                | (go_at_call 29; (with_reducible refine (PL.utf_Char.calls 11 (u : Int) true _ HCH.out).mono ?_); rintro e w7 ⟨rfl, hb7⟩)
                | (go_at_call 30; (with_reducible refine (PL.utf_Put.calls (u : Int) p _ HPU.out).mono ?_); rintro e w8 ⟨rfl, hb8⟩))
              go_roundg (3 - j)
              · have h68 : Below wr.heap.size wr w8 := hb6.trans ((hb7.mono hb6.size).trans (hb8.mono (Nat.le_trans hb6.size hb7.size)))
                exact ⟨j, rfl, by have := HJ.out; omega, Aside0.mk rfl, Aside0.mk (cells_below h68 HL.out HC.out), Aside0.mk (HB.out.trans (h68.mono HB.out.size)), Aside0.mk (Nat.lt_of_lt_of_le HL.out h68.size)⟩
              · have := HJ.out; have := HN.out; omega
            · have hch' : PL.charB (u : Int) = false := by simpa using hch
              rw [hch'] at HCH
              unfold PL.numU at HU
              rw [if_neg hch] at HU
              go_wp2_with (first
                | (go_at_call 21; (with_reducible refine (PL.lex_Unescape.calls T _ ⟨#[]⟩ 0 16 _ (HR.out.below HB.out).ml (HU.out _)).mono ?_); rintro e w6 ⟨rfl, hb6⟩)
                | (go_at_call 29; (with_reducible refine (PL.utf_Char.calls 11 (u : Int) false _ HCH.out).mono ?_); rintro e w7 ⟨rfl, hb7⟩))
              go_roundg (3 - j)
              · have h67 : Below wr.heap.size wr w7 := hb6.trans (hb7.mono hb6.size)
                exact ⟨j, rfl, by have := HJ.out; omega, Aside0.mk rfl, Aside0.mk (cells_below h67 HL.out HC.out), Aside0.mk (HB.out.trans (h67.mono HB.out.size)), Aside0.mk (Nat.lt_of_lt_of_le HL.out h67.size)⟩
              · have := HJ.out; have := HN.out; omega
          · have q4 := eq_false (show ¬ (k : Int) < 3 by omega)
            have HF := Aside0.mk five_ok
            go_wp2_with (go_at_call 21; (with_reducible refine (PL.lex_Unescape.calls _ true ⟨#[60, 62, 38, 34, 39]⟩ 0 0 _ (HR.out.below HB.out).ml HF.out).mono ?_); rintro e w9 ⟨rfl, hb9⟩)
            go_ret
            exact ⟨rfl, HB.out.trans (hb9.mono HB.out.size)⟩
end Go.Proofs.YtffpbhbiamkkpaaDoor.Refs
