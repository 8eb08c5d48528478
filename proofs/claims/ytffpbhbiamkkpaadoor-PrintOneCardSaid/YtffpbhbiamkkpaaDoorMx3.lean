/- A text's meaning byte by byte; by chunks it is the same. No program in sight. -/
import Derived.Lib.IndexLaws
import Derived.Test.YtffpbhbiamkkpaaDoorMx4
import Derived.Lib.Replace
import Derived.Lib.CountLaws
import Derived.Lib.SplitLaws
namespace Go.Plain
open Go.Lib
/-- A byte as it stands for in a value (attr). -/
def blk (attr : Bool) (c : UInt8) : UInt8 := if attr = true ∧ (c = 9 ∨ c = 10) then 32 else c
/-- A text from place i on, as it stands for; or where it is wrong. R: what a reference's inner part stands for. -/
def uL (R : List UInt8 → List UInt8) (attr : Bool) : Nat → Nat → List UInt8 → Except Nat (List UInt8)
  | 0, _, _ => .ok []
  | _ + 1, _, [] => .ok []
  | d + 1, i, b :: l =>
    if b = 38 then
      if indexByte (b :: l) 59 < 0 then .error i
      else if R (l.take ((indexByte (b :: l) 59).toNat - 1)) = [] then .error i
      else (uL R attr d (i + (indexByte (b :: l) 59).toNat + 1) ((b :: l).drop ((indexByte (b :: l) 59).toNat + 1))).map (R (l.take ((indexByte (b :: l) 59).toNat - 1)) ++ ·)
    else if b = 13 ∧ l.head? = some 10 then (uL R attr d (i + 2) l.tail).map (blk attr 10 :: ·)
    else (uL R attr d (i + 1) l).map (blk attr (if b = 13 then 10 else b) :: ·)
end Go.Plain
namespace Go.Proofs.YtffpbhbiamkkpaaDoor.PL
open Go.RowKit Go.Proofs.YtffpbhbiamkkpaaDoorW.PrintWords Go.Proofs.YtffpbhbiamkkpaaDoorW.PrintLast Go.Proofs.YtffpbhbiamkkpaaDoorW.PrintMore
set_option linter.unusedVariables false
/-- What an inner part stands for, as bytes. -/
def refL (l : List UInt8) : List UInt8 := (refS ⟨l.toArray⟩).data.toList
end Go.Proofs.YtffpbhbiamkkpaaDoor.PL
namespace Go.Proofs.YtffpbhbiamkkpaaDoor.PL
open Go.RowKit Go.Proofs.YtffpbhbiamkkpaaDoorW.PrintWords Go.Proofs.YtffpbhbiamkkpaaDoorW.PrintLast Go.Proofs.YtffpbhbiamkkpaaDoorW.PrintMore Go.Plain
set_option linter.unusedVariables false
theorem mk_size (l : List UInt8) : (⟨l.toArray⟩ : ByteArray).size = l.length := by rw [Lib.size_eq]
theorem index_at (x : UInt8) : ∀ l : List UInt8, x ∉ l → ∀ t, Lib.indexByte (l ++ x :: t) x = (l.length : Int)
  | [], _, t => by show (if x == x then (0 : Int) else _) = _; rw [if_pos (by simp)]; rfl
  | b :: l, h, t => by
    have hb : ¬ (b == x) = true := by simp at h ⊢; exact fun e => h.1 e.symm
    have ih := index_at x l (fun hm => h (by simp [hm])) t
    show (if b == x then 0 else if Lib.indexByte (l ++ x :: t) x == -1 then -1 else Lib.indexByte (l ++ x :: t) x + 1) = _
    rw [if_neg hb, ih, if_neg (by simp)]
    simp
end Go.Proofs.YtffpbhbiamkkpaaDoor.PL
