/- The lexer's remaining methods: lower, quoted, setting; order (an instruction), section (CDATA), declaration. -/
import Derived.Test.YtffpbhbiamkkpaaDoorLxD
import Derived.Test.YtffpbhbiamkkpaaDoorNam
import Derived.Test.YtffpbhbiamkkpaaDoorShelfM
namespace Go.Proofs.YtffpbhbiamkkpaaDoor.Lx
open Go.RowKit Go.Proofs.YtffpbhbiamkkpaaDoorW.PrintWords Go.Proofs.YtffpbhbiamkkpaaDoorW.PrintLast Go.Proofs.YtffpbhbiamkkpaaDoorW.PrintMore Go.Proofs.YtffpbhbiamkkpaaDoor.PU Go.Shelf
set_option linter.unusedVariables false
def lowF (r : Int) : Int := if 65 ≤ r ∧ r ≤ 90 then r + 32 else r
abbrev U8 (w : World) : Prop := Lib.Utf8Tabs 4 5 w
set_option maxHeartbeats 400000 in
theorem low_gives (w : World) : MapAtRunes Tryd.prog 152 #[] lowF w := by
  intro W x hx hb
  unfold FnGives
  by_cases h1 : 65 ≤ x
  · by_cases h2 : x ≤ 90
    · have e : lowF (x : Int) = (x : Int) + 32 := by unfold lowF; rw [if_pos (by omega)]
      rw [e]
      have q1 := eq_true (show (65 : Int) ≤ (x : Int) by omega)
      have q2 := eq_true (show (x : Int) ≤ 90 by omega)
      go_enter Tryd.func152, Tryd.ntmps152
      go_wp2
      go_ret
      exact ⟨rfl, 0, rfl⟩
    · have e : lowF (x : Int) = (x : Int) := by unfold lowF; rw [if_neg (by omega)]
      rw [e]
      have q1 := eq_true (show (65 : Int) ≤ (x : Int) by omega)
      have q2 := eq_false (show ¬ (x : Int) ≤ 90 by omega)
      go_enter Tryd.func152, Tryd.ntmps152
      go_wp2
      go_ret
      exact ⟨rfl, 0, rfl⟩
  · have e : lowF (x : Int) = (x : Int) := by unfold lowF; rw [if_neg (by omega)]
    rw [e]
    have q1 := eq_false (show ¬ (65 : Int) ≤ (x : Int) by omega)
    go_enter Tryd.func152, Tryd.ntmps152
    go_wp2
    go_ret
    exact ⟨rfl, 0, rfl⟩
def lowerL (s : ByteArray) : ByteArray := ⟨(Lib.mapD lowF s.data.toList).toArray⟩
set_option maxHeartbeats 400000 in
theorem lower_calls (s : ByteArray) (w : World) (hT : U8 w) (hs : s.size < 35184372088832) : Calls Tryd.prog 123 #[.string s] w fun e w' => e = .returned (.string (lowerL s)) ∧ Below w.heap.size w w' := by
  have hc := Tryd.strings_Map_runes 152 #[] (enters_of Tryd.func152 (by kernel_rfl) rfl) lowF s w hs (low_gives w) (fun x hx => by unfold lowF; split <;> omega) hT
  have HC := Aside0.mk hc
  clear hc hT
  go_enter Tryd.func123, Tryd.ntmps123
  go_wp2_with fail
  refine HC.out.mono ?_
  rintro e w1 ⟨rfl, hb⟩
  have HB := Aside0.mk hb
  clear hb
  go_wp2_with fail
  go_ret
  exact ⟨rfl, HB.out⟩
/-- A value in quotes that stands at i, and the place behind; none: none does. -/
def quotedS (s : ByteArray) (i : Nat) : Option (ByteArray × Nat) :=
  if i < s.size ∧ (bt s i = 34 ∨ bt s i = 39) then
    (if Lib.indexByte (s.data.toList.drop (i + 1)) (bt s i).toNat.toUInt8 < 0 then none
     else some (s.extract (i + 1) (i + 1 + (Lib.indexByte (s.data.toList.drop (i + 1)) (bt s i).toNat.toUInt8).toNat), i + 1 + (Lib.indexByte (s.data.toList.drop (i + 1)) (bt s i).toNat.toUInt8).toNat + 1))
  else none
def QuotedPost (g : Nat) (w : World) (s : ByteArray) (i : Nat) (v : Value) : Option (ByteArray × Nat) → Ending → World → Prop
  | none, e, w' => e = .returned (.tuple #[.string ⟨#[]⟩, .bool false]) ∧ Moved g w w' s i v
  | some (r, j), e, w' => e = .returned (.tuple #[.string r, .bool true]) ∧ Moved g w w' s j v
theorem quotedS_le {s : ByteArray} {i j : Nat} {r : ByteArray} (h : quotedS s i = some (r, j)) : i < j ∧ j ≤ s.size ∧ r.size ≤ s.size := by
  unfold quotedS at h
  split at h
  · rename_i h1
    have hxl := fun hx => Go.Plain.index_lt (l := s.data.toList.drop (i + 1)) (c := (bt s i).toNat.toUInt8) hx
    rw [List.length_drop, ← Lib.size_eq s] at hxl
    generalize Lib.indexByte (s.data.toList.drop (i + 1)) (bt s i).toNat.toUInt8 = x at h hxl
    split at h
    · cases h
    · rename_i h2
      have := hxl h2
      injection h with h
      injection h with h3 h4
      subst h3 h4
      rw [ByteArray.size_extract]
      omega
  · cases h
set_option maxHeartbeats 2000000 in
set_option maxRecDepth 100000 in
theorem quoted_calls (g : Nat) (s : ByteArray) (i : Nat) (v : Value) (w : World) (h : At w g s i v) (hi : i ≤ s.size) (hs : s.size < 4294967281) :
    Calls Tryd.prog 122 #[.pointer (some ⟨g, 0, none⟩)] w (QuotedPost g w s i v (quotedS s i)) := by
  have c0 := h.c0
  have c1 := h.c1
  have f1 := h.f0 1
  have HV := Aside0.mk h.moved
  have q0 := eq_true (show (0 : Int) ≤ (i : Int) by omega)
  clear h
  by_cases hlt : i < s.size
  rotate_left 1
  · have hq : quotedS s i = none := by unfold quotedS; rw [if_neg (fun h => hlt h.1)]
    rw [hq]
    have q1 := eq_true (show (s.size : Int) ≤ (i : Int) by omega)
    have q2 := eq_true (show s.size ≤ i by omega)
    have q3 : decide (s.size ≤ i) = true := decide_eq_true (by omega)
    clear hq hlt
    go_enter Tryd.func122, Tryd.ntmps122
    go_wp2
    go_quiet (fail)
    go_wp2
    go_ret2
    exact ⟨rfl, (by repeat (first | (with_reducible exact HV.out) | (with_reducible apply Moved.drewN) | (with_reducible apply Moved.drew)))⟩
  have q1 := eq_false (show ¬ (s.size : Int) ≤ (i : Int) by omega)
  have q2 := eq_false (show ¬ s.size ≤ i by omega)
  have q3 : decide (s.size ≤ i) = false := decide_eq_false (by omega)
  have q4 := eq_true (show (i : Int) < (s.size : Int) by omega)
  have q5 := eq_true hlt
  have hb := bt_nat s i hlt
  by_cases hc : bt s i = 34 ∨ bt s i = 39
  rotate_left 1
  · have hq : quotedS s i = none := by unfold quotedS; rw [if_neg (fun h => hc h.2)]
    rw [hq]
    have n1 : (bt s i == 34) = false := by simp; exact fun h => hc (Or.inl h)
    have n2 : (bt s i == 39) = false := by simp; exact fun h => hc (Or.inr h)
    have n3 : (bt s i != 34) = true := by simp; exact fun h => hc (Or.inl h)
    have n4 : (bt s i != 39) = true := by simp; exact fun h => hc (Or.inr h)
    clear hq hc
    go_enter Tryd.func122, Tryd.ntmps122
    go_wp2
    go_quiet (fail)
    go_wp2
    go_ret2
    exact ⟨rfl, (by repeat (first | (with_reducible exact HV.out) | (with_reducible apply Moved.drewN) | (with_reducible apply Moved.drew)))⟩
  obtain ⟨f, hf⟩ : ∃ f : Nat, f = i + 1 := ⟨_, rfl⟩
  have HP := Aside0.mk (fun W => ib_calls (s.extract f s.size) (bt s i) W)
  rw [drop_data] at HP
  have hr : quotedS s i = quotedS s i := rfl
  conv at hr => rhs; unfold quotedS; rw [if_pos ⟨hlt, hc⟩, ← hf]
  have hxl := fun hx => Go.Plain.index_lt (l := s.data.toList.drop f) (c := (bt s i).toNat.toUInt8) hx
  rw [List.length_drop, ← Lib.size_eq s] at hxl
  generalize hx : Lib.indexByte (s.data.toList.drop f) (bt s i).toNat.toUInt8 = x at HP hr hxl
  have HF := Aside0.mk hf
  have q6 := eq_true (show (0 : Int) ≤ (f : Int) by omega)
  have q7 := eq_true (show (f : Int) ≤ (s.size : Int) by omega)
  have q8 := eq_true (show f ≤ s.size by omega)
  have e1 : (i : Int) + 1 = (f : Int) := by omega
  have hpick : (bt s i == 34) = true ∨ ((bt s i == 34) = false ∧ (bt s i == 39) = true) := by
    rcases hc with h | h
    · exact Or.inl (by simp [h])
    · exact Or.inr ⟨by simp [h], by simp [h]⟩
  clear hx hf hc
  by_cases hx0 : x < 0
  · rw [if_pos hx0] at hr
    rw [hr]
    have hx1 := eq_true hx0
    have hx2 : decide (x < 0) = true := decide_eq_true hx0
    clear hr hxl
    rcases hpick with n1 | ⟨n1, n2⟩
    · have n3 : (bt s i != 34) = false := by rw [bne, n1]; rfl
      go_enter Tryd.func122, Tryd.ntmps122
      go_wp2
      go_quiet (fail)
      go_wp2
      go_quiet ((go_at_call 47; (with_reducible refine (HP.out _).mono ?_); rintro e w' ⟨rfl, ⟨nd, rfl⟩⟩; exact ⟨rfl, _, (World.drewN_drewN _ _ _).trans (congrArg (World.drewN _) (Nat.add_assoc _ _ _))⟩))
      go_wp2
      go_ret2
      exact ⟨rfl, (by repeat (first | (with_reducible exact HV.out) | (with_reducible apply Moved.drewN) | (with_reducible apply Moved.drew)))⟩
    · have n3 : (bt s i != 34) = true := by rw [bne, n1]; rfl
      have n4 : (bt s i != 39) = false := by rw [bne, n2]; rfl
      go_enter Tryd.func122, Tryd.ntmps122
      go_wp2
      go_quiet (fail)
      go_wp2
      go_quiet ((go_at_call 47; (with_reducible refine (HP.out _).mono ?_); rintro e w' ⟨rfl, ⟨nd, rfl⟩⟩; exact ⟨rfl, _, (World.drewN_drewN _ _ _).trans (congrArg (World.drewN _) (Nat.add_assoc _ _ _))⟩))
      go_wp2
      go_ret2
      exact ⟨rfl, (by repeat (first | (with_reducible exact HV.out) | (with_reducible apply Moved.drewN) | (with_reducible apply Moved.drew)))⟩
  · rw [if_neg hx0] at hr
    have hxl := hxl hx0
    obtain ⟨n, rfl⟩ := Int.eq_ofNat_of_zero_le (show 0 ≤ x by omega)
    simp only [Int.toNat_natCast] at hr hxl
    have hx1 := eq_false hx0
    have hx2 : decide ((n : Int) < 0) = false := decide_eq_false hx0
    obtain ⟨k, hk⟩ : ∃ k : Nat, k = f + n := ⟨_, rfl⟩
    obtain ⟨j, hj⟩ : ∃ j : Nat, j = k + 1 := ⟨_, rfl⟩
    obtain ⟨m, hm⟩ : ∃ m : Nat, m = n + 2 := ⟨_, rfl⟩
    have hfi := HF.out
    rw [← hk, ← hj] at hr
    rw [hr]
    have e2 : (f : Int) + (n : Int) = (k : Int) := by omega
    have e3 : (n : Int) + 2 = (m : Int) := by omega
    have e4 : (i : Int) + (m : Int) = (j : Int) := by omega
    have k1 := eq_true (show (0 : Int) ≤ (k : Int) by omega)
    have k2 := eq_true (show (f : Int) ≤ (k : Int) by omega)
    have k3 := eq_true (show (k : Int) ≤ (s.size : Int) by omega)
    have k4 := eq_true (show f ≤ k by omega)
    have k5 := eq_true (show k ≤ s.size by omega)
    have b1 : j ≤ s.size := by omega
    have b2 : m ≤ s.size + 2 := by omega
    clear hr hxl hk hj hm hfi
    rcases hpick with n1 | ⟨n1, n2⟩
    · have n3 : (bt s i != 34) = false := by rw [bne, n1]; rfl
      go_enter Tryd.func122, Tryd.ntmps122
      go_wp2
      go_quiet (fail)
      go_wp2
      go_quiet ((go_at_call 47; (with_reducible refine (HP.out _).mono ?_); rintro e w' ⟨rfl, ⟨nd, rfl⟩⟩; exact ⟨rfl, _, (World.drewN_drewN _ _ _).trans (congrArg (World.drewN _) (Nat.add_assoc _ _ _))⟩))
      go_wp2
      go_quiet (fail)
      go_wp2
      go_ret2
      exact ⟨rfl, (by repeat (first | (with_reducible exact HV.out) | (with_reducible apply Moved.drewN) | (with_reducible apply Moved.drew) | refine Moved.set (i := i) ?_ (q := j) (by omega)))⟩
    · have n3 : (bt s i != 34) = true := by rw [bne, n1]; rfl
      have n4 : (bt s i != 39) = false := by rw [bne, n2]; rfl
      go_enter Tryd.func122, Tryd.ntmps122
      go_wp2
      go_quiet (fail)
      go_wp2
      go_quiet ((go_at_call 47; (with_reducible refine (HP.out _).mono ?_); rintro e w' ⟨rfl, ⟨nd, rfl⟩⟩; exact ⟨rfl, _, (World.drewN_drewN _ _ _).trans (congrArg (World.drewN _) (Nat.add_assoc _ _ _))⟩))
      go_wp2
      go_quiet (fail)
      go_wp2
      go_ret2
      exact ⟨rfl, (by repeat (first | (with_reducible exact HV.out) | (with_reducible apply Moved.drewN) | (with_reducible apply Moved.drew) | refine Moved.set (i := i) ?_ (q := j) (by omega)))⟩
end Go.Proofs.YtffpbhbiamkkpaaDoor.Lx
