/- LexUnescapes' plain law. -/
import Derived.Test.YtffpbhbiamkkpaaDoorPTx1
import Derived.Test.YtffpbhbiamkkpaaDoorPureLexD
import Derived.Test.YtffpbhbiamkkpaaDoorPureLexE
namespace Go.Proofs.YtffpbhbiamkkpaaDoor.Pure
open Go.RowKit Go.Proofs.YtffpbhbiamkkpaaDoor.PT Go.Proofs.YtffpbhbiamkkpaaDoorW.PrintWords Go.Proofs.YtffpbhbiamkkpaaDoorW.PrintLast Go.Plain
set_option linter.unusedVariables false
theorem awake_ok : watchbilllaw03_awake.f = some true := by decide +kernel
theorem nums_ints (l : List UInt8) : strOfNums (PL.ints l) = ⟨l.toArray⟩ := by
  unfold strOfNums PL.ints
  rw [List.map_map]
  congr 2
  have : ((fun n : Int => UInt8.ofNat n.toNat) ∘ fun b : UInt8 => (b.toNat : Int)) = id := by
    funext b
    simp
  rw [this, List.map_id]
theorem unesc_both (s : ByteArray) (hs : s.size ≤ 1000000) (attr : Bool) : ∃ k r, PL.lex_Unescape.f s attr = some r ∧ PL.watchbillref03_Unescape.f k s attr = some r := by
  have h := PL.ref_unesc s hs attr (s.size + 1) 0 [] (Nat.zero_le _) (by omega) (by simp)
  rw [List.drop_zero] at h
  have h2 := PL.unescape_ok s hs attr
  generalize uL PL.refL attr (s.size + 1) 0 s.data.toList = x at h h2
  cases x with
  | ok r =>
    obtain ⟨k, hk⟩ := h
    refine ⟨k, _, h2, hk.trans ?_⟩
    rw [List.nil_append, nums_ints]
    rfl
  | error p =>
    obtain ⟨k, hk⟩ := h
    exact ⟨k, _, h2, hk⟩
theorem LexUnescapes : watchbilllaw03_LexUnescapes.Pure := by
  intro s attr _
  by_cases hs : s.size ≤ 20000
  · obtain ⟨k, r, h1, h2⟩ := unesc_both s (by omega) attr
    refine ⟨k, ?_⟩
    unfold watchbilllaw03_LexUnescapes.f
    rw [awake_ok, Option.bind_some, if_pos rfl, if_neg (by omega)]
    show (PL.lex_Unescape.f s attr).bind (fun a => (PL.watchbillref03_Unescape.f k s attr).bind _) = _
    rw [h1, Option.bind_some, h2, Option.bind_some, if_pos rfl, if_pos rfl]
    simp
  · refine ⟨0, ?_⟩
    unfold watchbilllaw03_LexUnescapes.f
    rw [awake_ok, Option.bind_some, if_pos rfl, if_pos (by omega)]
end Go.Proofs.YtffpbhbiamkkpaaDoor.Pure
