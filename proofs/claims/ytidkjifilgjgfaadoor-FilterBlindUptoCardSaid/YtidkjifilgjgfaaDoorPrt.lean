/- print's printer: put. -/
import Derived.Test.YtidkjifilgjgfaaDoorEsc
import Derived.Test.YtidkjifilgjgfaaDoorBld2
namespace Go.Proofs.YtidkjifilgjgfaaDoor.Prt
open Go.RowKit Go.Proofs.YtidkjifilgjgfaaDoorW.PrintWords Go.Proofs.YtidkjifilgjgfaaDoorW.PrintLast Go.Proofs.YtidkjifilgjgfaaDoorW.PrintMore Go.Plain
set_option linter.unusedVariables false
theorem home_printer : Bld.Home 75 := ⟨by decide, by kernel_rfl⟩
abbrev PD (B b : Nat) (l : List UInt8) (w : World) : Prop := Lib.IsBuilder 75 5 B b (Lib.byteCells l) w
def cat (l : List ByteArray) : List UInt8 := l.flatMap fun s => s.data.toList
set_option maxHeartbeats 2000000 in
set_option maxRecDepth 100000 in
theorem put_calls (B b sb so cap : Nat) (l : List ByteArray) (bs : List UInt8) (cs : Array Value) (z : Nat × Nat) (w : World) (h : PD B b bs w) (hB : B ≤ w.heap.size)
    (hl : l.length ≤ 1000) (hz : bs.length + (cat l).length ≤ 2000000000) (hsb : sb ≠ b) (hblk : w.heap[sb]? = some (.cells cs 9 z)) (hcell : ∀ k (h : k < l.length), w.cell? ⟨sb, so + k, none⟩ = some (.string l[k])) :
    Calls Tryd.prog 42 #[.pointer (some ⟨b, 0, none⟩), .slice (some ⟨sb, so, none⟩) l.length cap] w fun e w' => e = .returned (.tuple #[]) ∧ PD B b (bs ++ cat l) w' ∧ Below B w w' ∧ Bld.Fr b w w' := by
  have HD := Aside0.mk h
  have HC := Aside0.mk hcell
  have HK := Aside0.mk hblk
  clear h hcell hblk
  go_enter Tryd.func42, Tryd.ntmps42
  go_wp2
  go_loopg [8] l.length (fun m v8 wr => ∃ i : Nat, v8 = .int .i64 (i : Int) ∧ i ≤ l.length ∧ Aside0 (m = l.length - i) ∧ Aside0 (PD B b (bs ++ cat (l.take i)) wr) ∧ Aside0 (Below B w wr) ∧ Aside0 (Bld.Fr b w wr))
  case atStart => exact ⟨0, rfl, Nat.zero_le _, ⟨rfl⟩, ⟨by simpa [cat] using HD.out⟩, ⟨Below.refl _ _⟩, ⟨Bld.Fr.refl _ _⟩⟩
  case round =>
    obtain ⟨i, rfl, hi, HM, HP, HB, HF⟩ := hrel
    by_cases hlt : i < l.length
    · have q1 := eq_true (show (i : Int) < (l.length : Int) by omega)
      have q2 := eq_true (show (0 : Int) ≤ (i : Int) by omega)
      have hblk := HF.out.cells hsb (by decide) HK.out
      obtain ⟨s, hs⟩ : ∃ s, s = l[i] := ⟨_, rfl⟩
      have hc : wr.cell? ⟨sb, so + i, none⟩ = some (.string s) := by
        rw [hs, ← HC.out i hlt]
        exact (Lib.cell_of_heap hblk _).trans (Lib.cell_of_heap HK.out _).symm
      obtain ⟨j, hj⟩ : ∃ j, j = i + 1 := ⟨_, rfl⟩
      have f1 : (i : Int) + 1 = (j : Int) := by omega
      have f2 : IntKind.i64.wrap (j : Int) = (j : Int) := IntWalk.i64_in _ (by omega)
      have hcat : cat (l.take j) = cat (l.take i) ++ s.data.toList := by
        unfold cat
        rw [hj, List.take_add_one, List.getElem?_eq_getElem hlt, List.flatMap_append, hs]
        simp only [Option.toList_some, List.flatMap_cons, List.flatMap_nil, List.append_nil]
      have HH := Aside0.mk hcat
      have hle : (cat (l.take i)).length + s.size ≤ (cat l).length := by
        have e : cat l = cat (l.take j) ++ cat (l.drop j) := by unfold cat; rw [← List.flatMap_append, List.take_append_drop]
        have := congrArg List.length e
        rw [hcat] at this
        simp only [List.length_append, ← Lib.size_eq] at this
        omega
      have HL := Aside0.mk hle
      have HJ := Aside0.mk hj
      clear hs hj hcat hle hblk
      go_wp2_with (go_at_call 52; (with_reducible refine (Bld.writeString2 75 home_printer B b (Lib.byteCells (bs ++ cat (l.take i))) s _ HP.out (by have := HL.out; simp only [Lib.byteCells, List.length_map, List.length_append]; omega) (Nat.le_trans hB HB.out.size)).mono ?_); rintro e w2 ⟨rfl, hd, hb2, hf2⟩)
      go_roundg (l.length - j)
      · refine ⟨j, rfl, by have := HJ.out; omega, ⟨rfl⟩, ⟨Or.inr ?_⟩, ⟨HB.out.trans hb2⟩, ⟨HF.out.trans hf2⟩⟩
        rw [HH.out, ← List.append_assoc, PL.lex_Unescape_cells]
        exact hd
      · have := HJ.out; have := HM.out; omega
    · have q1 := eq_false (show ¬ (i : Int) < (l.length : Int) by omega)
      obtain rfl : i = l.length := by omega
      have HQ := HP.out
      rw [List.take_length] at HQ
      have HP := Aside0.mk HQ
      clear HQ
      go_wp2
      go_end0
      exact ⟨rfl, HP.out, HB.out, HF.out⟩
/-- An attribute's bytes. -/
def attrO (name value : List UInt8) : List UInt8 := 32 :: name ++ [61, 34] ++ Esc.esc true value ++ [34]
theorem PD.below {B b : Nat} {l : List UInt8} {w w' : World} (h : PD B b l w) (hb : Below w.heap.size w w') : PD B b l w' := by
  have go : ∀ p, Lib.BuilderAt 75 5 B b p (Lib.byteCells l) w → Lib.BuilderAt 75 5 B b p (Lib.byteCells l) w' := by
    rintro p ⟨h0, v, h1, h2, h3⟩
    exact ⟨h0, v, (hb.block b (blk_lt h1)).trans h1, pw_own_below h2 hb, h3⟩
  rcases h with h | h
  · exact Or.inl (go _ h)
  · exact Or.inr (go _ h)
theorem PD.lt {B b : Nat} {l : List UInt8} {w : World} (h : PD B b l w) : b < w.heap.size := by
  rcases h with ⟨_, v, h1, _⟩ | ⟨_, v, h1, _⟩ <;> exact blk_lt h1
theorem PD.base {B b : Nat} {l : List UInt8} {w : World} (h : PD B b l w) : B ≤ b := by
  rcases h with ⟨h1, _⟩ | ⟨h1, _⟩ <;> exact h1
/-- put of texts that stand in a slice that has just been made. -/
theorem yi8 (B b : Nat) (l : List ByteArray) (bs : List UInt8) (w : World) (n H : Nat) (cs : Array Value) (h : PD B b bs w) (hH : H = w.heap.size) (hn : n = l.length) (hcs : cs = (l.map Value.string).toArray)
    (hl : l.length ≤ 1000) (hz : bs.length + (cat l).length ≤ 2000000000) :
    Calls Tryd.prog 42 #[.pointer (some ⟨b, 0, none⟩), .slice (some ⟨H, 0, none⟩) n n] (w.alloc (.cells cs 9)) fun e w' => e = .returned (.tuple #[]) ∧ PD B b (bs ++ cat l) w' ∧ Below B w w' ∧ Bld.Fr b w w' := by
  subst hn hcs hH
  have hb := h.lt
  have hB := h.base
  have hA : Below w.heap.size w (w.alloc (.cells (l.map Value.string).toArray 9)) := (Below.refl _ _).alloc (Nat.le_refl _) _
  refine (put_calls B b w.heap.size 0 l.length l bs _ (0, 0) _ (h.below hA) (by have := hA.size; omega) hl hz (by omega) (heap_alloc_last w _) ?_).mono ?_
  · intro k hk
    rw [Lib.cell_of_heap (heap_alloc_last w _)]
    simp [hk]
  · rintro e w' ⟨he, hd, hbl, hf⟩
    exact ⟨he, hd, (hA.mono (by omega)).trans hbl, (Bld.Fr.below hA).trans hf⟩
set_option maxHeartbeats 2000000 in
set_option maxRecDepth 100000 in
theorem yp1 (B b : Nat) (name value : ByteArray) (bs : List UInt8) (w : World) (h : PD B b bs w) (hbw : b < w.heap.size) (hB : B ≤ w.heap.size) (ht : Refs.Tens w) (hs : value.size ≤ 18000000) (hn : name.size ≤ 18000000) (hz : bs.length ≤ 1800000000) :
    Calls Tryd.prog 44 #[.pointer (some ⟨b, 0, none⟩), .string name, .string value] w fun e w' => e = .returned (.tuple #[]) ∧ PD B b (bs ++ attrO name.data.toList value.data.toList) w' ∧ Below B w w' ∧ Bld.Fr b w w' := by
  have HD := Aside0.mk h
  have HT := Aside0.mk ht
  have hl := Esc.yo8 true value.data.toList
  rw [← Lib.size_eq] at hl
  obtain ⟨E, hE⟩ : ∃ E, E = Esc.esc true value.data.toList := ⟨_, rfl⟩
  rw [← hE] at hl
  have HE := Aside0.mk hE
  clear h ht hE
  go_enter Tryd.func44, Tryd.ntmps44
  go_wp2_with fail
  refine (Esc.escape_calls value true w HT.out hs).mono ?_
  rintro e w1 ⟨rfl, hb1⟩
  rw [← HE.out]
  have HB1 := Aside0.mk hb1
  clear hb1
  go_wp2_with fail
  refine (yi8 B b [⟨#[32]⟩, name, ⟨#[61, 34]⟩, ⟨E.toArray⟩, ⟨#[34]⟩] bs w1 5 _ _ (HD.out.below HB1.out) rfl rfl rfl (by simp) (by simp [cat]; omega)).mono ?_
  rintro e w2 ⟨rfl, hd, hb2, hf2⟩
  go_wp2
  go_end0
  refine ⟨rfl, ?_, (HB1.out.mono hB).trans hb2, (Bld.Fr.below HB1.out).trans hf2⟩
  have e : cat [⟨#[32]⟩, name, ⟨#[61, 34]⟩, ⟨E.toArray⟩, ⟨#[34]⟩] = attrO name.data.toList value.data.toList := by
    unfold attrO cat
    rw [← HE.out]
    simp
  rw [← e]
  exact hd
end Go.Proofs.YtidkjifilgjgfaaDoor.Prt
