/- The lexer's methods up, value, comment. -/
import Derived.Test.YtffpbhbiamkkpaaDoorLxA
import Derived.Test.YtffpbhbiamkkpaaDoorPLx2
import Derived.Lib.IndexMore
import Derived.IntWalk
import Derived.Test.YtffpbhbiamkkpaaDoorUL
namespace Go.Proofs.YtffpbhbiamkkpaaDoor.Lx
open Go.RowKit Go.Proofs.YtffpbhbiamkkpaaDoorW.PrintWords Go.Proofs.YtffpbhbiamkkpaaDoorW.PrintLast Go.Proofs.YtffpbhbiamkkpaaDoorW.PrintMore Go.Proofs.YtffpbhbiamkkpaaDoor.PU
set_option linter.unusedVariables false

theorem drop_data (s : ByteArray) (i : Nat) : (s.extract i s.size).data.toList = s.data.toList.drop i := by
  rw [Lib.extract_data, List.take_of_length_le (by rw [List.length_drop, ← Lib.size_eq]; exact Nat.le_refl _)]
theorem ib_calls (l : ByteArray) (c : Int) (W : World) : Calls Tryd.prog 47 #[.string l, .int .u8 c] W fun e w' => e = .returned (.int .i64 (Lib.indexByte l.data.toList c.toNat.toUInt8)) ∧ Drawn0 W w' :=
  (Tryd.strings_IndexByte l c W).mono (by rintro e w' ⟨rfl, rfl⟩; exact ⟨rfl, Drawn0.refl _⟩)
theorem ix_calls (l t : ByteArray) (W : World) (hs : l.size < 4294967281) (hml : ML W) : Calls Tryd.prog 130 #[.string l, .string t] W fun e w' => e = .returned (.int .i64 (Lib.index l.data.toList t.data.toList)) ∧ Drawn0 W w' := by
  obtain ⟨m, hm⟩ := hml
  exact (Tryd.strings_Index l t m W hs hm).mono (by rintro e w' ⟨rfl, rfl⟩; exact ⟨rfl, Drawn0.refl _⟩)
theorem Moved.ml {g : Nat} {w w' : World} {s : ByteArray} {i : Nat} {v : Value} (h : Moved g w w' s i v) (hml : ML w) (hg : g ≠ 1) : ML w' := by
  obtain ⟨m, hm⟩ := hml
  refine ⟨m, ?_⟩
  have hlt := ML.lt ⟨m, hm⟩
  have := h.old _ hlt (Ne.symm hg)
  unfold World.cell? at hm ⊢
  simp only [this]
  exact hm
theorem index_len {l : List UInt8} {t : List UInt8} {n : Nat} (h : Lib.index l t = (n : Int)) : n + t.length ≤ l.length := by
  have := Lib.index_room l t (by omega)
  omega

/-- What stands up to t: how many bytes; or what is wrong. -/
def upS (s t : ByteArray) (start i : Nat) : Except (Int × Int) Nat :=
  if Lib.index (s.data.toList.drop i) t.data.toList < 0 then .error (start, 2) else .ok (Lib.index (s.data.toList.drop i) t.data.toList).toNat
def UpPost (g : Nat) (w : World) (s t : ByteArray) (i : Nat) (v : Value) : Except (Int × Int) Nat → Ending → World → Prop
  | .ok n, e, w' => e = .returned (.string (s.extract i (i + n))) ∧ Moved g w w' s (i + n + t.size) v
  | .error (a, c), e, w' => gaveUp e a c ∧ ∃ j, Moved g w w' s j v

set_option maxHeartbeats 1000000 in
set_option maxRecDepth 100000 in
theorem up_calls (g : Nat) (s t : ByteArray) (start i : Nat) (v : Value) (w : World) (h : At w g s i v) (hml : ML w) (hi : i ≤ s.size) (hs : s.size < 4294967281) :
    Calls Tryd.prog 126 #[.pointer (some ⟨g, 0, none⟩), .string t, .int .i64 (start : Int)] w (UpPost g w s t i v (upS s t start i)) := by
  have c0 := h.c0
  have c1 := h.c1
  have f1 := h.f0 1
  have HV := Aside0.mk h.moved
  have HML := Aside0.mk hml
  have HP := Aside0.mk (fun W (hm : ML W) => ix_calls (s.extract i s.size) t W (by rw [ByteArray.size_extract]; omega) hm)
  rw [drop_data] at HP
  have hxl := fun n => index_len (l := s.data.toList.drop i) (t := t.data.toList) (n := n)
  have hup : upS s t start i = if Lib.index (s.data.toList.drop i) t.data.toList < 0 then .error (start, 2) else .ok (Lib.index (s.data.toList.drop i) t.data.toList).toNat := rfl
  generalize hx : Lib.index (s.data.toList.drop i) t.data.toList = x at HP hxl hup
  clear hx h hml
  have q0 := eq_true (show (0 : Int) ≤ (i : Int) by omega)
  have q1 := eq_true (show (i : Int) ≤ (s.size : Int) by omega)
  have q2 := eq_true (show i ≤ s.size by omega)
  by_cases hx0 : x < 0
  · rw [if_pos hx0] at hup
    have HU := Aside0.mk hup
    have hx1 := eq_true hx0
    have hx2 : decide (x < 0) = true := decide_eq_true hx0
    clear hup hxl
    go_enter Tryd.func126, Tryd.ntmps126
    go_wp2
    go_quiet ((go_at_call 130; (with_reducible refine (HP.out _ (by with_reducible repeat (first | exact HML.out | apply ML.drewN | apply ML.drew))).mono ?_); rintro e w' ⟨rfl, ⟨nd, rfl⟩⟩; exact ⟨rfl, _, World.drewN_drewN _ _ _⟩))
    go_wp2_with (go_at_call 91; (with_reducible refine (fail_calls _ _ _ _).mono ?_); rintro e w' ⟨hgu, rfl⟩; unfold gaveUp at hgu; subst hgu)
    refine ⟨rfl, ?_⟩
    rw [HU.out]
    exact ⟨rfl, i, by repeat (first | (with_reducible exact HV.out) | (with_reducible apply Moved.drewN) | (with_reducible apply Moved.drew))⟩
  · rw [if_neg hx0] at hup
    obtain ⟨n, rfl⟩ := Int.eq_ofNat_of_zero_le (show 0 ≤ x by omega)
    rw [Int.toNat_natCast] at hup
    have HU := Aside0.mk hup
    have hx1 := eq_false hx0
    have hx2 : decide ((n : Int) < 0) = false := decide_eq_false hx0
    have hxl := hxl n rfl
    rw [List.length_drop, ← Lib.size_eq s] at hxl
    have hts : t.data.toList.length = t.size := (Lib.size_eq t).symm
    obtain ⟨k, hk⟩ : ∃ k : Nat, k = i + n := ⟨_, rfl⟩
    obtain ⟨m, hm⟩ : ∃ m : Nat, m = n + t.size := ⟨_, rfl⟩
    obtain ⟨j, hj⟩ : ∃ j : Nat, j = i + n + t.size := ⟨_, rfl⟩
    have e1 : (i : Int) + (n : Int) = (k : Int) := by omega
    have e2 : (n : Int) + (t.size : Int) = (m : Int) := by omega
    have e3 : (i : Int) + (m : Int) = (j : Int) := by omega
    have k1 := eq_true (show (0 : Int) ≤ (k : Int) by omega)
    have k2 := eq_true (show (i : Int) ≤ (k : Int) by omega)
    have k3 := eq_true (show (k : Int) ≤ (s.size : Int) by omega)
    have k4 := eq_true (show i ≤ k by omega)
    have k5 := eq_true (show k ≤ s.size by omega)
    have k6 := eq_true (show (0 : Int) ≤ (n : Int) by omega)
    have w1 : IntKind.i64.wrap (k : Int) = (k : Int) := IntWalk.i64_in _ (by omega)
    have b1 : m ≤ s.size := by omega
    have b2 : j ≤ s.size := by omega
    have HK := Aside0.mk hk
    have HJ := Aside0.mk hj
    clear hup hxl hk hj hm hts
    go_enter Tryd.func126, Tryd.ntmps126
    go_wp2
    go_quiet ((go_at_call 130; (with_reducible refine (HP.out _ (by with_reducible repeat (first | exact HML.out | apply ML.drewN | apply ML.drew))).mono ?_); rintro e w' ⟨rfl, ⟨nd, rfl⟩⟩; exact ⟨rfl, _, World.drewN_drewN _ _ _⟩))
    go_wp2
    go_quiet (fail)
    go_wp2
    go_ret
    rw [HU.out]
    exact ⟨by rw [← HK.out]; rfl, by repeat (first | (with_reducible exact HV.out) | (with_reducible apply Moved.drewN) | (with_reducible apply Moved.drew) | refine Moved.set (i := i) ?_ (q := i + n + t.size) (by have := HJ.out; omega))⟩

/-- A value behind its quote: it, and the place behind; or what is wrong. -/
def valueS (s : ByteArray) (start i : Nat) : Option (Except (Int × Int) (ByteArray × Nat)) :=
  if Lib.indexByte (s.data.toList.drop (i + 1)) (bt s i).toNat.toUInt8 < 0 then some (.error (start, 2))
  else if 0 ≤ Lib.indexByte (s.extract (i + 1) (i + 1 + (Lib.indexByte (s.data.toList.drop (i + 1)) (bt s i).toNat.toUInt8).toNat)).data.toList 60 then
    some (.error (((i + 1 : Nat) : Int) + Lib.indexByte (s.extract (i + 1) (i + 1 + (Lib.indexByte (s.data.toList.drop (i + 1)) (bt s i).toNat.toUInt8).toNat)).data.toList 60, 11))
  else (PL.lex_Unescape.f (s.extract (i + 1) (i + 1 + (Lib.indexByte (s.data.toList.drop (i + 1)) (bt s i).toNat.toUInt8).toNat)) true).map fun u =>
    if u.2.2 = 0 then .ok (u.1, i + 1 + (Lib.indexByte (s.data.toList.drop (i + 1)) (bt s i).toNat.toUInt8).toNat + 1) else .error (((i + 1 : Nat) : Int) + u.2.1, u.2.2)
def ValuePost (g : Nat) (w : World) (s : ByteArray) (v : Value) : Except (Int × Int) (ByteArray × Nat) → Ending → World → Prop
  | .ok (r, j), e, w' => e = .returned (.string r) ∧ Moved g w w' s j v
  | .error (a, c), e, w' => gaveUp e a c ∧ ∃ j, Moved g w w' s j v
theorem go_range (s : ByteArray) (attr : Bool) (t : ByteArray) (a e : Int) : ∀ (d i : Nat) (acc : List UInt8), i ≤ s.size → PL.lex_Unescape_go s attr d i acc = some (t, a, e) → 0 ≤ a ∧ a ≤ s.size
  | 0, _, _, _, h => by cases h
  | d + 1, i, acc, hi, h => by
    rw [PL.lex_Unescape_go] at h
    by_cases h1 : i < s.size
    · rw [if_pos h1] at h
      by_cases h2 : Lib.indexByte (s.data.toList.drop i) 38 < 0
      · rw [if_pos h2] at h
        obtain ⟨p, _, h⟩ := Option.bind_eq_some_iff.1 h
        split at h
        · obtain ⟨_, rfl, _⟩ := PL.lex_Unescape_inj h; omega
        · cases h
      · rw [if_neg h2] at h
        obtain ⟨n, hn, hlt, _⟩ := PL.lex_Unescape_idx _ _ h2
        rw [List.length_drop, ← Lib.size_eq] at hlt
        rw [hn] at h
        simp only [Int.toNat_natCast] at h
        obtain ⟨p, _, h⟩ := Option.bind_eq_some_iff.1 h
        split at h
        case isFalse => cases h
        by_cases h3 : Lib.indexByte (s.data.toList.drop (i + n)) 59 < 0
        · rw [if_pos h3] at h
          obtain ⟨_, rfl, _⟩ := PL.lex_Unescape_inj h; omega
        · rw [if_neg h3] at h
          obtain ⟨m, hm, hlt2, _⟩ := PL.lex_Unescape_idx _ _ h3
          rw [List.length_drop, ← Lib.size_eq] at hlt2
          rw [hm] at h
          simp only [Int.toNat_natCast] at h
          obtain ⟨u, _, h⟩ := Option.bind_eq_some_iff.1 h
          split at h
          · obtain ⟨_, rfl, _⟩ := PL.lex_Unescape_inj h; omega
          · split at h
            · exact go_range s attr t a e d _ _ (by omega) h
            · cases h
    · rw [if_neg h1] at h
      obtain ⟨_, rfl, _⟩ := PL.lex_Unescape_inj h; omega
theorem unescape_range (s : ByteArray) (attr : Bool) (t : ByteArray) (a e : Int) (h : PL.lex_Unescape.f s attr = some (t, a, e)) : 0 ≤ a ∧ a ≤ s.size := by
  unfold PL.lex_Unescape.f at h
  split at h
  · exact go_range s attr t a e _ 0 [] (Nat.zero_le _) h
  · cases h

set_option maxHeartbeats 1000000 in
set_option maxRecDepth 100000 in
theorem value_calls (g : Nat) (s : ByteArray) (start i : Nat) (v : Value) (w : World) (r : Except (Int × Int) (ByteArray × Nat)) (h : At w g s i v) (hml : ML w) (hg : g ≠ 1) (hi : i < s.size) (hs : s.size < 4294967281) (hr : valueS s start i = some r) :
    Calls Tryd.prog 129 #[.pointer (some ⟨g, 0, none⟩), .int .i64 (start : Int)] w (ValuePost g w s v r) := by
  have c0 := h.c0
  have c1 := h.c1
  have HV := Aside0.mk h.moved
  have HML := Aside0.mk hml
  obtain ⟨f, hf⟩ : ∃ f : Nat, f = i + 1 := ⟨_, rfl⟩
  have HP := Aside0.mk (fun W => ib_calls (s.extract f s.size) (bt s i) W)
  rw [drop_data] at HP
  unfold valueS at hr
  rw [← hf] at hr
  have hxl := fun hx => Go.Plain.index_lt (l := s.data.toList.drop f) (c := (bt s i).toNat.toUInt8) hx
  rw [List.length_drop, ← Lib.size_eq s] at hxl
  generalize hx : Lib.indexByte (s.data.toList.drop f) (bt s i).toNat.toUInt8 = x at HP hr hxl
  have hb := bt_nat s i hi
  have HF := Aside0.mk hf
  clear hx h hml
  have q0 := eq_true (show (0 : Int) ≤ (i : Int) by omega)
  have q1 := eq_true (show (i : Int) < (s.size : Int) by omega)
  have q2 := eq_true (show i < s.size by omega)
  have q3 := eq_true (show (0 : Int) ≤ (f : Int) by omega)
  have q4 := eq_true (show (f : Int) ≤ (s.size : Int) by omega)
  have q5 := eq_true (show f ≤ s.size by omega)
  have e1 : (i : Int) + 1 = (f : Int) := by omega
  clear hf
  by_cases hx0 : x < 0
  · rw [if_pos hx0] at hr
    obtain rfl := Option.some.inj hr
    have hx1 := eq_true hx0
    have hx2 : decide (x < 0) = true := decide_eq_true hx0
    clear hr hxl
    go_enter Tryd.func129, Tryd.ntmps129
    go_wp2
    go_quiet ((go_at_call 47; (with_reducible refine (HP.out _).mono ?_); rintro e w' ⟨rfl, ⟨nd, rfl⟩⟩; exact ⟨rfl, _, World.drewN_drewN _ _ _⟩))
    go_wp2_with (go_at_call 91; (with_reducible refine (fail_calls _ _ _ _).mono ?_); rintro e w' ⟨hgu, rfl⟩; unfold gaveUp at hgu; subst hgu)
    refine ⟨rfl, ?_⟩
    exact ⟨rfl, i, by repeat (first | (with_reducible exact HV.out) | (with_reducible apply Moved.drewN) | (with_reducible apply Moved.drew))⟩
  · rw [if_neg hx0] at hr
    have hxl := hxl hx0
    obtain ⟨n, rfl⟩ := Int.eq_ofNat_of_zero_le (show 0 ≤ x by omega)
    simp only [Int.toNat_natCast] at hr hxl
    have hx1 := eq_false hx0
    have hx2 : decide ((n : Int) < 0) = false := decide_eq_false hx0
    obtain ⟨k, hk⟩ : ∃ k : Nat, k = f + n := ⟨_, rfl⟩
    rw [← hk] at hr
    have e2 : (f : Int) + (n : Int) = (k : Int) := by omega
    have k1 := eq_true (show (0 : Int) ≤ (k : Int) by omega)
    have k2 := eq_true (show (f : Int) ≤ (k : Int) by omega)
    have k3 := eq_true (show (k : Int) ≤ (s.size : Int) by omega)
    have k4 := eq_true (show f ≤ k by omega)
    have k5 := eq_true (show k ≤ s.size by omega)
    have hks : k + 1 ≤ s.size := by omega
    clear hk hxl
    have HQ := Aside0.mk (fun W => ib_calls (s.extract f k) 60 W)
    generalize hy : Lib.indexByte (s.extract f k).data.toList 60 = y at hr
    have hyl := Lib.indexByte_ge (s.extract f k).data.toList 60
    have hyu := fun hx => Go.Plain.index_lt (l := (s.extract f k).data.toList) (c := 60) hx
    rw [← Lib.size_eq, ByteArray.size_extract] at hyu
    have HQ := Aside0.mk (show ∀ W, Calls Tryd.prog 47 #[.string (s.extract f k), .int .u8 60] W fun e w' => e = .returned (.int .i64 y) ∧ Drawn0 W w' from fun W => by rw [← hy]; exact HQ.out W)
    rw [hy] at hyl hyu
    clear hy
    have hyu2 : y ≤ s.size := by
      rcases Int.lt_or_le y 0 with h | h
      · omega
      · have := hyu (by omega); omega
    clear hyu
    by_cases hy0 : 0 ≤ y
    · rw [if_pos hy0] at hr
      obtain rfl := Option.some.inj hr
      have hy1 := eq_true hy0
      have hy2 : decide (0 ≤ y) = true := decide_eq_true hy0
      clear hr
      go_enter Tryd.func129, Tryd.ntmps129
      go_wp2
      go_quiet ((go_at_call 47; (with_reducible refine (HP.out _).mono ?_); rintro e w' ⟨rfl, ⟨nd, rfl⟩⟩; exact ⟨rfl, _, World.drewN_drewN _ _ _⟩))
      go_wp2_with (first | (go_at_call 47; (with_reducible refine (HQ.out _).mono ?_); rintro e w' ⟨rfl, ⟨nd, rfl⟩⟩) | (go_at_call 91; (with_reducible refine (fail_calls _ _ _ _).mono ?_); rintro e w' ⟨hgu, rfl⟩; unfold gaveUp at hgu; subst hgu))
      refine ⟨rfl, ?_⟩
      exact ⟨rfl, i, by repeat (first | (with_reducible exact HV.out) | (with_reducible apply Moved.drewN) | (with_reducible apply Moved.drew))⟩
    · rw [if_neg hy0] at hr
      obtain ⟨⟨u, a, c⟩, hu, hr⟩ := Option.map_eq_some_iff.1 hr
      simp only at hr
      have hru := unescape_range _ _ _ _ _ hu
      rw [ByteArray.size_extract] at hru
      have HU := Aside0.mk hu
      have hy1 := eq_false hy0
      have hy2 : decide (0 ≤ y) = false := decide_eq_false hy0
      have b1 : (0 : Int) ≤ a := hru.1
      have b2 : a ≤ (s.size : Int) := by omega
      clear hu hru
      by_cases hc : c = 0
      · rw [if_pos hc] at hr
        subst hr hc
        obtain ⟨j, hj⟩ : ∃ j : Nat, j = k + 1 := ⟨_, rfl⟩
        have e3 : (k : Int) + 1 = (j : Int) := by omega
        have b3 : j ≤ s.size := by omega
        have HJ := Aside0.mk hj
        clear hj
        go_enter Tryd.func129, Tryd.ntmps129
        go_wp2
        go_quiet ((go_at_call 47; (with_reducible refine (HP.out _).mono ?_); rintro e w' ⟨rfl, ⟨nd, rfl⟩⟩; exact ⟨rfl, _, World.drewN_drewN _ _ _⟩))
        go_wp2_with (first | (go_at_call 47; (with_reducible refine (HQ.out _).mono ?_); rintro e w' ⟨rfl, ⟨nd, rfl⟩⟩) | (go_at_call 21; (with_reducible refine (PL.lex_Unescape.calls (s.extract f k) true u a 0 _ (by with_reducible repeat (first | exact HML.out | apply ML.drewN | apply ML.drew)) HU.out).mono ?_); rintro e w2 ⟨rfl, hb2⟩; have HV2 := Aside0.mk (Moved.below (by repeat (first | (with_reducible exact HV.out) | (with_reducible apply Moved.drewN) | (with_reducible apply Moved.drew))) hb2); clear hb2; have d0 := HV2.out.me.c0; have d1 := HV2.out.me.c1; have df := HV2.out.me.f0 1))
        go_ret
        exact ⟨rfl, by repeat (first | (with_reducible exact HV2.out) | (with_reducible apply Moved.drewN) | (with_reducible apply Moved.drew) | refine Moved.set (i := i) ?_ (q := k + 1) (by have := HJ.out; omega))⟩
      · rw [if_neg hc] at hr
        subst hr
        have hc1 : (c == 0) = false := beq_eq_false_iff_ne.2 hc
        have hc2 : (c != 0) = true := bne_iff_ne.2 hc
        go_enter Tryd.func129, Tryd.ntmps129
        go_wp2
        go_quiet ((go_at_call 47; (with_reducible refine (HP.out _).mono ?_); rintro e w' ⟨rfl, ⟨nd, rfl⟩⟩; exact ⟨rfl, _, World.drewN_drewN _ _ _⟩))
        go_wp2_with (first | (go_at_call 47; (with_reducible refine (HQ.out _).mono ?_); rintro e w' ⟨rfl, ⟨nd, rfl⟩⟩) | (go_at_call 91; (with_reducible refine (fail_calls _ _ _ _).mono ?_); rintro e w' ⟨hgu, rfl⟩; unfold gaveUp at hgu; subst hgu) | (go_at_call 21; (with_reducible refine (PL.lex_Unescape.calls (s.extract f k) true u a c _ (by with_reducible repeat (first | exact HML.out | apply ML.drewN | apply ML.drew)) HU.out).mono ?_); rintro e w2 ⟨rfl, hb2⟩; have HV2 := Aside0.mk (Moved.below (by repeat (first | (with_reducible exact HV.out) | (with_reducible apply Moved.drewN) | (with_reducible apply Moved.drew))) hb2); clear hb2; have d0 := HV2.out.me.c0; have d1 := HV2.out.me.c1; have df := HV2.out.me.f0 1))
        refine ⟨rfl, ?_⟩
        exact ⟨rfl, i, by repeat (first | (with_reducible exact HV2.out) | (with_reducible apply Moved.drewN) | (with_reducible apply Moved.drew))⟩

abbrev sDash : ByteArray := ⟨#[45, 45]⟩
abbrev sGt : ByteArray := ⟨#[62]⟩
/-- A comment: the place behind it, or what is wrong. -/
def commentS (s : ByteArray) (i : Nat) : Except (Int × Int) Nat :=
  match upS s sDash i (i + 4) with
  | .error e => .error e
  | .ok n => if nextB s (i + 4 + n + 2) sGt then .ok (i + 4 + n + 2 + 1) else .error (i, 4)
def GoPost (g : Nat) (w : World) (s : ByteArray) (v : Value) : Except (Int × Int) Nat → Ending → World → Prop
  | .ok j, e, w' => e = .returned (.tuple #[]) ∧ Moved g w w' s j v
  | .error (a, c), e, w' => gaveUp e a c ∧ ∃ j, Moved g w w' s j v
theorem nextB_le {s t : ByteArray} {i : Nat} (h : nextB s i t = true) (hi : i ≤ s.size) : i + t.size ≤ s.size := by
  unfold nextB at h
  rw [← drop_data, ← Lib.hasPrefix_raw] at h
  simp only [Bool.and_eq_true, decide_eq_true_eq, ByteArray.size_extract] at h
  omega

set_option maxHeartbeats 1000000 in
set_option maxRecDepth 100000 in
theorem comment_calls (g : Nat) (s : ByteArray) (i : Nat) (v : Value) (w : World) (h : At w g s i v) (hml : ML w) (hg : g ≠ 1) (hi : i + 4 ≤ s.size) (hs : s.size < 4294967281) :
    Calls Tryd.prog 93 #[.pointer (some ⟨g, 0, none⟩)] w (GoPost g w s v (commentS s i)) := by
  have c0 := h.c0
  have c1 := h.c1
  have f1 := h.f0 1
  have HV := Aside0.mk h.moved
  have HML := Aside0.mk hml
  obtain ⟨f, hf⟩ : ∃ f : Nat, f = i + 4 := ⟨_, rfl⟩
  have hsp : commentS s i = match upS s sDash i f with
    | .error e => .error e
    | .ok n => if nextB s (f + n + 2) sGt then .ok (f + n + 2 + 1) else .error (i, 4) := by rw [hf]; rfl
  have HUP := Aside0.mk (fun (W : World) (h : At W g s f v) (hm : ML W) => up_calls g s sDash i f v W h hm (by omega) hs)
  have hxl : ∀ n, upS s sDash i f = .ok n → f + n + 2 ≤ s.size := by
    intro n hn
    unfold upS at hn
    split at hn
    · cases hn
    · rename_i h0
      have := Lib.index_room (s.data.toList.drop f) sDash.data.toList (by omega)
      rw [List.length_drop, ← Lib.size_eq s] at this
      have h2 : sDash.data.toList.length = 2 := rfl
      cases hn
      omega
  generalize upS s sDash i f = x at hsp HUP hxl
  have e1 : (i : Int) + 4 = (f : Int) := by omega
  have b0 : f ≤ s.size := by omega
  have HF := Aside0.mk hf
  clear hf h hml
  have q0 := eq_true (show (0 : Int) ≤ (i : Int) by omega)
  cases x with
  | error p =>
    obtain ⟨a, c⟩ := p
    have HS := Aside0.mk hsp
    clear hsp hxl
    go_enter Tryd.func93, Tryd.ntmps93
    go_wp2_with (go_at_call 126; (with_reducible refine (HUP.out _ (HV.out.set (i := i) (q := f) (by have := HF.out; omega)).me (Moved.ml (HV.out.set (i := i) (q := f) (j := (f : Int)) rfl) HML.out hg)).mono ?_); rintro e w' ⟨hgu, k, hk⟩; unfold gaveUp at hgu; subst hgu; have HK := Aside0.mk hk; clear hk)
    refine ⟨rfl, ?_⟩
    rw [HS.out]
    exact ⟨rfl, k, (HV.out.set (i := i) (q := f) (by have := HF.out; omega)).trans HK.out⟩
  | ok n =>
    have hxl := hxl n rfl
    simp only at hsp
    obtain ⟨k, hk⟩ : ∃ k : Nat, k = f + n + 2 := ⟨_, rfl⟩
    rw [← hk] at hsp hxl
    have HUP := Aside0.mk (show ∀ (W : World), At W g s f v → ML W → Calls Tryd.prog 126 #[.pointer (some ⟨g, 0, none⟩), .string sDash, .int .i64 (i : Int)] W (fun e w' => e = .returned (.string (s.extract f (f + n))) ∧ Moved g W w' s k v) from fun W h hm => by rw [hk]; exact HUP.out W h hm)
    obtain ⟨j, hj⟩ : ∃ j : Nat, j = k + 1 := ⟨_, rfl⟩
    have e2 : (k : Int) + 1 = (j : Int) := by omega
    have HJ := Aside0.mk hj
    have HK := Aside0.mk hk
    clear hj hk
    cases hb : nextB s k sGt with
    | true =>
      rw [hb, if_pos rfl] at hsp
      have hjl := nextB_le hb hxl
      have b1 : j ≤ s.size := by have := HJ.out; have h1 : sGt.size = 1 := rfl; omega
      have HS := Aside0.mk hsp
      have HN := Aside0.mk (fun (W : World) (h : At W g s k v) => next_calls g s sGt k v W h hxl)
      rw [hb] at HN
      clear hsp hb hjl
      go_enter Tryd.func93, Tryd.ntmps93
      go_wp2_with (first | (go_at_call 126; (with_reducible refine (HUP.out _ (HV.out.set (i := i) (q := f) (by have := HF.out; omega)).me (Moved.ml (HV.out.set (i := i) (q := f) (j := (f : Int)) rfl) HML.out hg)).mono ?_); rintro e w2 ⟨rfl, hm2⟩; have HV2 := Aside0.mk ((HV.out.set (i := i) (q := f) (j := (f : Int)) rfl).trans hm2); clear hm2; have d1 := HV2.out.me.c1; have df := HV2.out.me.f0 1) | (go_at_call 54; (with_reducible refine (HN.out _ HV2.out.me).mono ?_); rintro e w3 ⟨rfl, ⟨nd, rfl⟩⟩))
      go_end0
      rw [HS.out]
      exact ⟨rfl, by repeat (first | (with_reducible exact HV2.out) | (with_reducible apply Moved.drewN) | (with_reducible apply Moved.drew) | refine Moved.set (i := k) ?_ (q := k + 1) (by have := HJ.out; omega))⟩
    | false =>
      rw [hb, if_neg (by decide)] at hsp
      have HS := Aside0.mk hsp
      have HN := Aside0.mk (fun (W : World) (h : At W g s k v) => next_calls g s sGt k v W h hxl)
      rw [hb] at HN
      clear hsp hb
      go_enter Tryd.func93, Tryd.ntmps93
      go_wp2_with (first | (go_at_call 126; (with_reducible refine (HUP.out _ (HV.out.set (i := i) (q := f) (by have := HF.out; omega)).me (Moved.ml (HV.out.set (i := i) (q := f) (j := (f : Int)) rfl) HML.out hg)).mono ?_); rintro e w2 ⟨rfl, hm2⟩; have HV2 := Aside0.mk ((HV.out.set (i := i) (q := f) (j := (f : Int)) rfl).trans hm2); clear hm2; have d1 := HV2.out.me.c1; have df := HV2.out.me.f0 1) | (go_at_call 54; (with_reducible refine (HN.out _ HV2.out.me).mono ?_); rintro e w3 ⟨rfl, ⟨nd, rfl⟩⟩) | (go_at_call 91; (with_reducible refine (fail_calls _ _ _ _).mono ?_); rintro e w' ⟨hgu, rfl⟩; unfold gaveUp at hgu; subst hgu))
      refine ⟨rfl, ?_⟩
      rw [HS.out]
      exact ⟨rfl, k, by repeat (first | (with_reducible exact HV2.out) | (with_reducible apply Moved.drewN) | (with_reducible apply Moved.drew))⟩
end Go.Proofs.YtffpbhbiamkkpaaDoor.Lx
