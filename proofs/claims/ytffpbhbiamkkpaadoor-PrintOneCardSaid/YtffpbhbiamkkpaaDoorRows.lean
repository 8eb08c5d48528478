/-
  NARROWER THAN 'FOR EVERY INPUT', by the rows' own cells (each row's printed sentence says how): PrintPrints: loops, laid · PrintOne: loops, laid · LexUnescapes: laid · LexPlain: laid · LexRises: laid · LexRemarks: laid · LexRefs: laid · PrintEscapes: laid.
  DERIVED. THE GIVEN ROWS OF THIS SEAT. 8 by the template 'for every input the law returns true; each argument reads behind the call as it read before'; 0 by the template 'total and deterministic' (their statements: YtffpbhbiamkkpaaDoorTotals.lean).
  GIVEN WITH THE SEED: the statements are not yours to turn. If you find one false, say at which input.
  Laid BY PROGRAM, IN A SANDBOX (cutbox-rows.mjs): the forced cells as the released guide's own fill.sh prints them over the translation 5367bdf44a3d6408… (all of the seat's roots in one cut). By AI agents, Wed Nov 11 2026. No macro, syntax, notation, axiom, sorry.
-/
import Derived.Test.YtffpbhbiamkkpaaDoorChecked
import GoSem.PinnedTables
import GoSem.Claim
import GoSem.ClaimJoined
import GoSem.ClaimMapViews
import Derived.JoinedTies
import Derived.KernelRfl
namespace Go.Proofs.YtffpbhbiamkkpaaDoor
/- THE CELL 'sum', in the pinned program and in every row, IS THE sha256 OF THE DUMP (.gsa) THAT YtffpbhbiamkkpaaDoorProg.lean LOADS. Nothing in Lean hashes anything: it is a label: what it is worth is what the hold of that sum in a sandbox is worth. -/
noncomputable def Tryd.pinned : Pinned := { name := "ytffpbhbiamkkpaadoor", sum := "5367bdf44a3d6408523e94ff93385ae2a70f69df3eb19aaf12d133a34c692c45", checked := Tryd.checked }
namespace Rows
def none {H : Type} : Left H := { results := [], args := [] }

/- WHAT THE LISTED PACKAGE-LEVEL VARIABLES READ AS WHEN THE CALL BEGINS. Each datum BY PROGRAM (the guide's laid-datum.mjs) off the statement by which the dump's own 'gosem.cut.vars' lays the variable. In a bare row this is a premise. The card (YtffpbhbiamkkpaaDoorCards.lean) ties it to the program's text. -/
def laid_math_bits_deBruijn32tab {H : Type} : DataW H := .agg [.lit (.int .u8 0), .lit (.int .u8 1), .lit (.int .u8 28), .lit (.int .u8 2), .lit (.int .u8 29), .lit (.int .u8 14), .lit (.int .u8 24), .lit (.int .u8 3), .lit (.int .u8 30), .lit (.int .u8 22), .lit (.int .u8 20), .lit (.int .u8 15), .lit (.int .u8 25), .lit (.int .u8 17), .lit (.int .u8 4), .lit (.int .u8 8), .lit (.int .u8 31), .lit (.int .u8 27), .lit (.int .u8 13), .lit (.int .u8 23), .lit (.int .u8 21), .lit (.int .u8 19), .lit (.int .u8 16), .lit (.int .u8 7), .lit (.int .u8 26), .lit (.int .u8 12), .lit (.int .u8 18), .lit (.int .u8 6), .lit (.int .u8 11), .lit (.int .u8 5), .lit (.int .u8 10), .lit (.int .u8 9)]
def laid_math_bits_deBruijn64tab {H : Type} : DataW H := .agg [.lit (.int .u8 0), .lit (.int .u8 1), .lit (.int .u8 56), .lit (.int .u8 2), .lit (.int .u8 57), .lit (.int .u8 49), .lit (.int .u8 28), .lit (.int .u8 3), .lit (.int .u8 61), .lit (.int .u8 58), .lit (.int .u8 42), .lit (.int .u8 50), .lit (.int .u8 38), .lit (.int .u8 29), .lit (.int .u8 17), .lit (.int .u8 4), .lit (.int .u8 62), .lit (.int .u8 47), .lit (.int .u8 59), .lit (.int .u8 36), .lit (.int .u8 45), .lit (.int .u8 43), .lit (.int .u8 51), .lit (.int .u8 22), .lit (.int .u8 53), .lit (.int .u8 39), .lit (.int .u8 33), .lit (.int .u8 30), .lit (.int .u8 24), .lit (.int .u8 18), .lit (.int .u8 12), .lit (.int .u8 5), .lit (.int .u8 63), .lit (.int .u8 55), .lit (.int .u8 48), .lit (.int .u8 27), .lit (.int .u8 60), .lit (.int .u8 41), .lit (.int .u8 37), .lit (.int .u8 16), .lit (.int .u8 46), .lit (.int .u8 35), .lit (.int .u8 44), .lit (.int .u8 21), .lit (.int .u8 52), .lit (.int .u8 32), .lit (.int .u8 23), .lit (.int .u8 11), .lit (.int .u8 54), .lit (.int .u8 26), .lit (.int .u8 40), .lit (.int .u8 15), .lit (.int .u8 34), .lit (.int .u8 20), .lit (.int .u8 31), .lit (.int .u8 10), .lit (.int .u8 25), .lit (.int .u8 14), .lit (.int .u8 19), .lit (.int .u8 9), .lit (.int .u8 13), .lit (.int .u8 8), .lit (.int .u8 7), .lit (.int .u8 6)]
def laid_internal_strconv_uint64pow10 {H : Type} : DataW H := .agg [.lit (.int .u64 1), .lit (.int .u64 10), .lit (.int .u64 100), .lit (.int .u64 1000), .lit (.int .u64 10000), .lit (.int .u64 100000), .lit (.int .u64 1000000), .lit (.int .u64 10000000), .lit (.int .u64 100000000), .lit (.int .u64 1000000000), .lit (.int .u64 10000000000), .lit (.int .u64 100000000000), .lit (.int .u64 1000000000000), .lit (.int .u64 10000000000000), .lit (.int .u64 100000000000000), .lit (.int .u64 1000000000000000), .lit (.int .u64 10000000000000000), .lit (.int .u64 100000000000000000), .lit (.int .u64 1000000000000000000), .lit (.int .u64 10000000000000000000)]
def laid_unicode_utf8_acceptRanges {H : Type} : DataW H := .agg [.agg [.lit (.int .u8 128), .lit (.int .u8 191)], .agg [.lit (.int .u8 160), .lit (.int .u8 191)], .agg [.lit (.int .u8 128), .lit (.int .u8 159)], .agg [.lit (.int .u8 144), .lit (.int .u8 191)], .agg [.lit (.int .u8 128), .lit (.int .u8 143)], .agg [.lit (.int .u8 0), .lit (.int .u8 0)], .agg [.lit (.int .u8 0), .lit (.int .u8 0)], .agg [.lit (.int .u8 0), .lit (.int .u8 0)], .agg [.lit (.int .u8 0), .lit (.int .u8 0)], .agg [.lit (.int .u8 0), .lit (.int .u8 0)], .agg [.lit (.int .u8 0), .lit (.int .u8 0)], .agg [.lit (.int .u8 0), .lit (.int .u8 0)], .agg [.lit (.int .u8 0), .lit (.int .u8 0)], .agg [.lit (.int .u8 0), .lit (.int .u8 0)], .agg [.lit (.int .u8 0), .lit (.int .u8 0)], .agg [.lit (.int .u8 0), .lit (.int .u8 0)]]
/-- One of Go's own tables, pinned by name: the form's constant. -/
def laid_unicode_utf8_first : DataW Unit := Go.Pinned.utf8First

/-- 'watchbilllaw05.PrintPrints': WHATEVER THE INPUT: true; the input reads as it did. -/
def printPrintsSpec : ChangeSpec := { name := "printPrints", fn := fun _ => fun
  | [d1, d2, d3] => { results := [.lit (.bool true)], args := [d1, d2, d3] }
  | _ => none }
def printPrintsRow : OpenClaim := { program := "ytffpbhbiamkkpaadoor", sum := "5367bdf44a3d6408523e94ff93385ae2a70f69df3eb19aaf12d133a34c692c45", func := "watchbill/watchbilllaw05.PrintPrints", spec := "printPrints", inPlace := ["internal/abi.NoEscape", "internal/bytealg.abigen_runtime_cmpstring"], unfollowed := true, recurses := true, named := ["internal/strconv.uint64pow10", "math/bits.deBruijn32tab", "math/bits.deBruijn64tab"], loops := true, plainKeys := false, apart := false, laid := [("math/bits.deBruijn32tab", laid_math_bits_deBruijn32tab), ("math/bits.deBruijn64tab", laid_math_bits_deBruijn64tab), ("internal/strconv.uint64pow10", laid_internal_strconv_uint64pow10)] }
def PrintPrintsSaid : Prop := printPrintsRow.holds Tryd.pinned (OpenSpec.ofChange printPrintsSpec)

/-- ITS FALSE NEIGHBOUR: 'it returns false'. Refute it at one input. -/
def printPrintsWrong : ChangeSpec := { name := "printPrints", fn := fun _ => fun
  | [d1, d2, d3] => { results := [.lit (.bool false)], args := [d1, d2, d3] }
  | _ => none }
def PrintPrintsWrongFalsely : Prop := printPrintsRow.holds Tryd.pinned (OpenSpec.ofChange printPrintsWrong)

/-- 'watchbilllaw05.PrintOne': WHATEVER THE INPUT: true; the input reads as it did. -/
def printOneSpec : ChangeSpec := { name := "printOne", fn := fun _ => fun
  | [d1, d2] => { results := [.lit (.bool true)], args := [d1, d2] }
  | _ => none }
def printOneRow : OpenClaim := { program := "ytffpbhbiamkkpaadoor", sum := "5367bdf44a3d6408523e94ff93385ae2a70f69df3eb19aaf12d133a34c692c45", func := "watchbill/watchbilllaw05.PrintOne", spec := "printOne", inPlace := ["internal/abi.NoEscape", "internal/bytealg.abigen_runtime_cmpstring"], unfollowed := true, recurses := true, named := ["internal/strconv.uint64pow10", "math/bits.deBruijn32tab", "math/bits.deBruijn64tab"], loops := true, plainKeys := false, apart := false, laid := [("math/bits.deBruijn32tab", laid_math_bits_deBruijn32tab), ("math/bits.deBruijn64tab", laid_math_bits_deBruijn64tab), ("internal/strconv.uint64pow10", laid_internal_strconv_uint64pow10)] }
def PrintOneSaid : Prop := printOneRow.holds Tryd.pinned (OpenSpec.ofChange printOneSpec)

/-- ITS FALSE NEIGHBOUR: 'it returns false'. Refute it at one input. -/
def printOneWrong : ChangeSpec := { name := "printOne", fn := fun _ => fun
  | [d1, d2] => { results := [.lit (.bool false)], args := [d1, d2] }
  | _ => none }
def PrintOneWrongFalsely : Prop := printOneRow.holds Tryd.pinned (OpenSpec.ofChange printOneWrong)

/-- 'watchbilllaw03.LexUnescapes': WHATEVER THE INPUT: true; the input reads as it did. -/
def lexUnescapesSpec : ChangeSpec := { name := "lexUnescapes", fn := fun _ => fun
  | [d1, d2] => { results := [.lit (.bool true)], args := [d1, d2] }
  | _ => none }
def lexUnescapesRow : OpenClaim := { program := "ytffpbhbiamkkpaadoor", sum := "5367bdf44a3d6408523e94ff93385ae2a70f69df3eb19aaf12d133a34c692c45", func := "watchbill/watchbilllaw03.LexUnescapes", spec := "lexUnescapes", inPlace := ["internal/bytealg.IndexByteString", "internal/abi.NoEscape", "internal/bytealg.MakeNoZero", "internal/bytealg.IndexString", "internal/bytealg.CountString"], unfollowed := true, recurses := true, named := ["unicode/utf8.first", "unicode/utf8.acceptRanges", "internal/bytealg.MaxLen"], plainKeys := false, apart := false, laid := [("unicode/utf8.acceptRanges", laid_unicode_utf8_acceptRanges), ("unicode/utf8.first", laid_unicode_utf8_first)] }
def LexUnescapesSaid : Prop := lexUnescapesRow.holds Tryd.pinned (OpenSpec.ofChange lexUnescapesSpec)

/-- ITS FALSE NEIGHBOUR: 'it returns false'. Refute it at one input. -/
def lexUnescapesWrong : ChangeSpec := { name := "lexUnescapes", fn := fun _ => fun
  | [d1, d2] => { results := [.lit (.bool false)], args := [d1, d2] }
  | _ => none }
def LexUnescapesWrongFalsely : Prop := lexUnescapesRow.holds Tryd.pinned (OpenSpec.ofChange lexUnescapesWrong)

/-- 'watchbilllaw03.LexPlain': WHATEVER THE INPUT: true; the input reads as it did. -/
def lexPlainSpec : ChangeSpec := { name := "lexPlain", fn := fun _ => fun
  | [d1, d2] => { results := [.lit (.bool true)], args := [d1, d2] }
  | _ => none }
def lexPlainRow : OpenClaim := { program := "ytffpbhbiamkkpaadoor", sum := "5367bdf44a3d6408523e94ff93385ae2a70f69df3eb19aaf12d133a34c692c45", func := "watchbill/watchbilllaw03.LexPlain", spec := "lexPlain", inPlace := ["internal/bytealg.IndexByteString", "internal/abi.NoEscape", "internal/bytealg.MakeNoZero", "internal/bytealg.IndexString", "internal/bytealg.CountString"], unfollowed := true, recurses := true, named := ["unicode/utf8.first", "unicode/utf8.acceptRanges", "internal/bytealg.MaxLen"], plainKeys := false, apart := false, laid := [("unicode/utf8.acceptRanges", laid_unicode_utf8_acceptRanges), ("unicode/utf8.first", laid_unicode_utf8_first)] }
def LexPlainSaid : Prop := lexPlainRow.holds Tryd.pinned (OpenSpec.ofChange lexPlainSpec)

/-- ITS FALSE NEIGHBOUR: 'it returns false'. Refute it at one input. -/
def lexPlainWrong : ChangeSpec := { name := "lexPlain", fn := fun _ => fun
  | [d1, d2] => { results := [.lit (.bool false)], args := [d1, d2] }
  | _ => none }
def LexPlainWrongFalsely : Prop := lexPlainRow.holds Tryd.pinned (OpenSpec.ofChange lexPlainWrong)

/-- 'watchbilllaw03.LexRises': WHATEVER THE INPUT: true; the input reads as it did. -/
def lexRisesSpec : ChangeSpec := { name := "lexRises", fn := fun _ => fun
  | [d] => { results := [.lit (.bool true)], args := [d] }
  | _ => none }
def lexRisesRow : OpenClaim := { program := "ytffpbhbiamkkpaadoor", sum := "5367bdf44a3d6408523e94ff93385ae2a70f69df3eb19aaf12d133a34c692c45", func := "watchbill/watchbilllaw03.LexRises", spec := "lexRises", inPlace := ["internal/bytealg.IndexByteString", "internal/abi.NoEscape", "internal/bytealg.MakeNoZero", "internal/bytealg.IndexString", "internal/bytealg.CountString"], unfollowed := true, recurses := true, named := ["unicode/utf8.first", "unicode/utf8.acceptRanges", "internal/bytealg.MaxLen"], plainKeys := false, apart := false, laid := [("unicode/utf8.acceptRanges", laid_unicode_utf8_acceptRanges), ("unicode/utf8.first", laid_unicode_utf8_first)] }
def LexRisesSaid : Prop := lexRisesRow.holds Tryd.pinned (OpenSpec.ofChange lexRisesSpec)

/-- ITS FALSE NEIGHBOUR: 'it returns false'. Refute it at one input. -/
def lexRisesWrong : ChangeSpec := { name := "lexRises", fn := fun _ => fun
  | [d] => { results := [.lit (.bool false)], args := [d] }
  | _ => none }
def LexRisesWrongFalsely : Prop := lexRisesRow.holds Tryd.pinned (OpenSpec.ofChange lexRisesWrong)

/-- 'watchbilllaw03.LexRemarks': WHATEVER THE INPUT: true; the input reads as it did. -/
def lexRemarksSpec : ChangeSpec := { name := "lexRemarks", fn := fun _ => fun
  | [d1, d2, d3] => { results := [.lit (.bool true)], args := [d1, d2, d3] }
  | _ => none }
def lexRemarksRow : OpenClaim := { program := "ytffpbhbiamkkpaadoor", sum := "5367bdf44a3d6408523e94ff93385ae2a70f69df3eb19aaf12d133a34c692c45", func := "watchbill/watchbilllaw03.LexRemarks", spec := "lexRemarks", inPlace := ["internal/bytealg.IndexByteString", "internal/abi.NoEscape", "internal/bytealg.MakeNoZero", "internal/bytealg.IndexString", "internal/bytealg.CountString"], unfollowed := true, recurses := true, named := ["unicode/utf8.first", "unicode/utf8.acceptRanges", "internal/bytealg.MaxLen"], plainKeys := false, apart := false, laid := [("unicode/utf8.acceptRanges", laid_unicode_utf8_acceptRanges), ("unicode/utf8.first", laid_unicode_utf8_first)] }
def LexRemarksSaid : Prop := lexRemarksRow.holds Tryd.pinned (OpenSpec.ofChange lexRemarksSpec)

/-- ITS FALSE NEIGHBOUR: 'it returns false'. Refute it at one input. -/
def lexRemarksWrong : ChangeSpec := { name := "lexRemarks", fn := fun _ => fun
  | [d1, d2, d3] => { results := [.lit (.bool false)], args := [d1, d2, d3] }
  | _ => none }
def LexRemarksWrongFalsely : Prop := lexRemarksRow.holds Tryd.pinned (OpenSpec.ofChange lexRemarksWrong)

/-- 'watchbilllaw03.LexRefs': WHATEVER THE INPUT: true; the input reads as it did. -/
def lexRefsSpec : ChangeSpec := { name := "lexRefs", fn := fun _ => fun
  | [d1, d2] => { results := [.lit (.bool true)], args := [d1, d2] }
  | _ => none }
def lexRefsRow : OpenClaim := { program := "ytffpbhbiamkkpaadoor", sum := "5367bdf44a3d6408523e94ff93385ae2a70f69df3eb19aaf12d133a34c692c45", func := "watchbill/watchbilllaw03.LexRefs", spec := "lexRefs", inPlace := ["internal/bytealg.IndexByteString", "internal/abi.NoEscape", "internal/bytealg.MakeNoZero", "internal/bytealg.IndexString", "internal/bytealg.CountString"], unfollowed := true, recurses := true, named := ["unicode/utf8.first", "unicode/utf8.acceptRanges", "internal/bytealg.MaxLen", "internal/strconv.uint64pow10", "math/bits.deBruijn32tab", "math/bits.deBruijn64tab"], plainKeys := false, apart := false, laid := [("math/bits.deBruijn32tab", laid_math_bits_deBruijn32tab), ("math/bits.deBruijn64tab", laid_math_bits_deBruijn64tab), ("internal/strconv.uint64pow10", laid_internal_strconv_uint64pow10), ("unicode/utf8.acceptRanges", laid_unicode_utf8_acceptRanges), ("unicode/utf8.first", laid_unicode_utf8_first)] }
def LexRefsSaid : Prop := lexRefsRow.holds Tryd.pinned (OpenSpec.ofChange lexRefsSpec)

/-- ITS FALSE NEIGHBOUR: 'it returns false'. Refute it at one input. -/
def lexRefsWrong : ChangeSpec := { name := "lexRefs", fn := fun _ => fun
  | [d1, d2] => { results := [.lit (.bool false)], args := [d1, d2] }
  | _ => none }
def LexRefsWrongFalsely : Prop := lexRefsRow.holds Tryd.pinned (OpenSpec.ofChange lexRefsWrong)

/-- 'watchbilllaw05.PrintEscapes': WHATEVER THE INPUT: true; the input reads as it did. -/
def printEscapesSpec : ChangeSpec := { name := "printEscapes", fn := fun _ => fun
  | [d1, d2] => { results := [.lit (.bool true)], args := [d1, d2] }
  | _ => none }
def printEscapesRow : OpenClaim := { program := "ytffpbhbiamkkpaadoor", sum := "5367bdf44a3d6408523e94ff93385ae2a70f69df3eb19aaf12d133a34c692c45", func := "watchbill/watchbilllaw05.PrintEscapes", spec := "printEscapes", inPlace := ["internal/abi.NoEscape", "internal/bytealg.abigen_runtime_cmpstring", "internal/bytealg.IndexByteString", "internal/bytealg.CountString", "internal/bytealg.IndexString", "internal/bytealg.MakeNoZero"], unfollowed := true, recurses := true, named := ["internal/strconv.uint64pow10", "math/bits.deBruijn32tab", "math/bits.deBruijn64tab", "internal/bytealg.MaxLen", "unicode/utf8.first", "unicode/utf8.acceptRanges"], plainKeys := false, apart := false, laid := [("math/bits.deBruijn32tab", laid_math_bits_deBruijn32tab), ("math/bits.deBruijn64tab", laid_math_bits_deBruijn64tab), ("internal/strconv.uint64pow10", laid_internal_strconv_uint64pow10), ("unicode/utf8.acceptRanges", laid_unicode_utf8_acceptRanges), ("unicode/utf8.first", laid_unicode_utf8_first)] }
def PrintEscapesSaid : Prop := printEscapesRow.holds Tryd.pinned (OpenSpec.ofChange printEscapesSpec)

/-- ITS FALSE NEIGHBOUR: 'it returns false'. Refute it at one input. -/
def printEscapesWrong : ChangeSpec := { name := "printEscapes", fn := fun _ => fun
  | [d1, d2] => { results := [.lit (.bool false)], args := [d1, d2] }
  | _ => none }
def PrintEscapesWrongFalsely : Prop := printEscapesRow.holds Tryd.pinned (OpenSpec.ofChange printEscapesWrong)

/- THE SECOND FORM. 'bulk': how many values and letters a reading holds, each counted each time it is reached (what is shared counts as often as it is met; a slice's spare places count too). A statement '..UptoSaid' is the law's where the arguments, and the package variables that the reading takes, are together of bulk at most 1048576: NARROWER than '..Said'. Prove '..Said' where nothing that the law and all that it calls make is longer than what came in: it says more and counts as full. Else prove '..UptoSaid'. A law counts once. -/
mutual
def uptoBulk {H : Type} : DataW H → Nat
  | .lit (.string bytes) => bytes.length + 1
  | .lit _ => 1
  | .nil => 1
  | .ptr d => uptoBulk d + 1
  | .slice elems spare => uptoBulkAll elems + uptoBulkAll spare + 1
  | .agg parts => uptoBulkAll parts + 1
  | .iface _ d => uptoBulk d + 1
  | .map entries => uptoBulkEntries entries + 1
  | .held _ => 1
def uptoBulkAll {H : Type} : List (DataW H) → Nat
  | [] => 0
  | d :: r => uptoBulk d + uptoBulkAll r
def uptoBulkEntries {H : Type} : List (Lit × DataW H) → Nat
  | [] => 0
  | x :: r => uptoBulkEntry x + uptoBulkEntries r
def uptoBulkEntry {H : Type} : Lit × DataW H → Nat
  | (.string bytes, d) => bytes.length + uptoBulk d + 1
  | (_, d) => uptoBulk d + 1
 end
def uptoSmall : (H : Type) → List (DataW H) → Bool := fun _ ds => decide (uptoBulkAll ds ≤ 1048576)
def OpenSpec.upto (s : _root_.Go.ChangeSpec) : _root_.Go.OpenSpec := { _root_.Go.OpenSpec.ofChange s with cond := some uptoSmall }

/-- 'watchbilllaw05.PrintPrints', WHERE WHAT IT READS IS OF BULK AT MOST 1048576: true; the input reads as it did. -/
def printPrintsUptoRow : OpenClaim := { program := "ytffpbhbiamkkpaadoor", sum := "5367bdf44a3d6408523e94ff93385ae2a70f69df3eb19aaf12d133a34c692c45", func := "watchbill/watchbilllaw05.PrintPrints", spec := "printPrints", inPlace := ["internal/abi.NoEscape", "internal/bytealg.abigen_runtime_cmpstring"], unfollowed := true, recurses := true, named := ["internal/strconv.uint64pow10", "math/bits.deBruijn32tab", "math/bits.deBruijn64tab"], loops := true, plainKeys := false, apart := false, laid := [("math/bits.deBruijn32tab", laid_math_bits_deBruijn32tab), ("math/bits.deBruijn64tab", laid_math_bits_deBruijn64tab), ("internal/strconv.uint64pow10", laid_internal_strconv_uint64pow10)], narrowed := true }
def PrintPrintsUptoSaid : Prop := printPrintsUptoRow.holds Tryd.pinned (OpenSpec.upto printPrintsSpec)

/-- 'watchbilllaw05.PrintOne', WHERE WHAT IT READS IS OF BULK AT MOST 1048576: true; the input reads as it did. -/
def printOneUptoRow : OpenClaim := { program := "ytffpbhbiamkkpaadoor", sum := "5367bdf44a3d6408523e94ff93385ae2a70f69df3eb19aaf12d133a34c692c45", func := "watchbill/watchbilllaw05.PrintOne", spec := "printOne", inPlace := ["internal/abi.NoEscape", "internal/bytealg.abigen_runtime_cmpstring"], unfollowed := true, recurses := true, named := ["internal/strconv.uint64pow10", "math/bits.deBruijn32tab", "math/bits.deBruijn64tab"], loops := true, plainKeys := false, apart := false, laid := [("math/bits.deBruijn32tab", laid_math_bits_deBruijn32tab), ("math/bits.deBruijn64tab", laid_math_bits_deBruijn64tab), ("internal/strconv.uint64pow10", laid_internal_strconv_uint64pow10)], narrowed := true }
def PrintOneUptoSaid : Prop := printOneUptoRow.holds Tryd.pinned (OpenSpec.upto printOneSpec)

/-- 'watchbilllaw03.LexUnescapes', WHERE WHAT IT READS IS OF BULK AT MOST 1048576: true; the input reads as it did. -/
def lexUnescapesUptoRow : OpenClaim := { program := "ytffpbhbiamkkpaadoor", sum := "5367bdf44a3d6408523e94ff93385ae2a70f69df3eb19aaf12d133a34c692c45", func := "watchbill/watchbilllaw03.LexUnescapes", spec := "lexUnescapes", inPlace := ["internal/bytealg.IndexByteString", "internal/abi.NoEscape", "internal/bytealg.MakeNoZero", "internal/bytealg.IndexString", "internal/bytealg.CountString"], unfollowed := true, recurses := true, named := ["unicode/utf8.first", "unicode/utf8.acceptRanges", "internal/bytealg.MaxLen"], plainKeys := false, apart := false, laid := [("unicode/utf8.acceptRanges", laid_unicode_utf8_acceptRanges), ("unicode/utf8.first", laid_unicode_utf8_first)], narrowed := true }
def LexUnescapesUptoSaid : Prop := lexUnescapesUptoRow.holds Tryd.pinned (OpenSpec.upto lexUnescapesSpec)

/-- 'watchbilllaw03.LexPlain', WHERE WHAT IT READS IS OF BULK AT MOST 1048576: true; the input reads as it did. -/
def lexPlainUptoRow : OpenClaim := { program := "ytffpbhbiamkkpaadoor", sum := "5367bdf44a3d6408523e94ff93385ae2a70f69df3eb19aaf12d133a34c692c45", func := "watchbill/watchbilllaw03.LexPlain", spec := "lexPlain", inPlace := ["internal/bytealg.IndexByteString", "internal/abi.NoEscape", "internal/bytealg.MakeNoZero", "internal/bytealg.IndexString", "internal/bytealg.CountString"], unfollowed := true, recurses := true, named := ["unicode/utf8.first", "unicode/utf8.acceptRanges", "internal/bytealg.MaxLen"], plainKeys := false, apart := false, laid := [("unicode/utf8.acceptRanges", laid_unicode_utf8_acceptRanges), ("unicode/utf8.first", laid_unicode_utf8_first)], narrowed := true }
def LexPlainUptoSaid : Prop := lexPlainUptoRow.holds Tryd.pinned (OpenSpec.upto lexPlainSpec)

/-- 'watchbilllaw03.LexRises', WHERE WHAT IT READS IS OF BULK AT MOST 1048576: true; the input reads as it did. -/
def lexRisesUptoRow : OpenClaim := { program := "ytffpbhbiamkkpaadoor", sum := "5367bdf44a3d6408523e94ff93385ae2a70f69df3eb19aaf12d133a34c692c45", func := "watchbill/watchbilllaw03.LexRises", spec := "lexRises", inPlace := ["internal/bytealg.IndexByteString", "internal/abi.NoEscape", "internal/bytealg.MakeNoZero", "internal/bytealg.IndexString", "internal/bytealg.CountString"], unfollowed := true, recurses := true, named := ["unicode/utf8.first", "unicode/utf8.acceptRanges", "internal/bytealg.MaxLen"], plainKeys := false, apart := false, laid := [("unicode/utf8.acceptRanges", laid_unicode_utf8_acceptRanges), ("unicode/utf8.first", laid_unicode_utf8_first)], narrowed := true }
def LexRisesUptoSaid : Prop := lexRisesUptoRow.holds Tryd.pinned (OpenSpec.upto lexRisesSpec)

/-- 'watchbilllaw03.LexRemarks', WHERE WHAT IT READS IS OF BULK AT MOST 1048576: true; the input reads as it did. -/
def lexRemarksUptoRow : OpenClaim := { program := "ytffpbhbiamkkpaadoor", sum := "5367bdf44a3d6408523e94ff93385ae2a70f69df3eb19aaf12d133a34c692c45", func := "watchbill/watchbilllaw03.LexRemarks", spec := "lexRemarks", inPlace := ["internal/bytealg.IndexByteString", "internal/abi.NoEscape", "internal/bytealg.MakeNoZero", "internal/bytealg.IndexString", "internal/bytealg.CountString"], unfollowed := true, recurses := true, named := ["unicode/utf8.first", "unicode/utf8.acceptRanges", "internal/bytealg.MaxLen"], plainKeys := false, apart := false, laid := [("unicode/utf8.acceptRanges", laid_unicode_utf8_acceptRanges), ("unicode/utf8.first", laid_unicode_utf8_first)], narrowed := true }
def LexRemarksUptoSaid : Prop := lexRemarksUptoRow.holds Tryd.pinned (OpenSpec.upto lexRemarksSpec)

/-- 'watchbilllaw03.LexRefs', WHERE WHAT IT READS IS OF BULK AT MOST 1048576: true; the input reads as it did. -/
def lexRefsUptoRow : OpenClaim := { program := "ytffpbhbiamkkpaadoor", sum := "5367bdf44a3d6408523e94ff93385ae2a70f69df3eb19aaf12d133a34c692c45", func := "watchbill/watchbilllaw03.LexRefs", spec := "lexRefs", inPlace := ["internal/bytealg.IndexByteString", "internal/abi.NoEscape", "internal/bytealg.MakeNoZero", "internal/bytealg.IndexString", "internal/bytealg.CountString"], unfollowed := true, recurses := true, named := ["unicode/utf8.first", "unicode/utf8.acceptRanges", "internal/bytealg.MaxLen", "internal/strconv.uint64pow10", "math/bits.deBruijn32tab", "math/bits.deBruijn64tab"], plainKeys := false, apart := false, laid := [("math/bits.deBruijn32tab", laid_math_bits_deBruijn32tab), ("math/bits.deBruijn64tab", laid_math_bits_deBruijn64tab), ("internal/strconv.uint64pow10", laid_internal_strconv_uint64pow10), ("unicode/utf8.acceptRanges", laid_unicode_utf8_acceptRanges), ("unicode/utf8.first", laid_unicode_utf8_first)], narrowed := true }
def LexRefsUptoSaid : Prop := lexRefsUptoRow.holds Tryd.pinned (OpenSpec.upto lexRefsSpec)

/-- 'watchbilllaw05.PrintEscapes', WHERE WHAT IT READS IS OF BULK AT MOST 1048576: true; the input reads as it did. -/
def printEscapesUptoRow : OpenClaim := { program := "ytffpbhbiamkkpaadoor", sum := "5367bdf44a3d6408523e94ff93385ae2a70f69df3eb19aaf12d133a34c692c45", func := "watchbill/watchbilllaw05.PrintEscapes", spec := "printEscapes", inPlace := ["internal/abi.NoEscape", "internal/bytealg.abigen_runtime_cmpstring", "internal/bytealg.IndexByteString", "internal/bytealg.CountString", "internal/bytealg.IndexString", "internal/bytealg.MakeNoZero"], unfollowed := true, recurses := true, named := ["internal/strconv.uint64pow10", "math/bits.deBruijn32tab", "math/bits.deBruijn64tab", "internal/bytealg.MaxLen", "unicode/utf8.first", "unicode/utf8.acceptRanges"], plainKeys := false, apart := false, laid := [("math/bits.deBruijn32tab", laid_math_bits_deBruijn32tab), ("math/bits.deBruijn64tab", laid_math_bits_deBruijn64tab), ("internal/strconv.uint64pow10", laid_internal_strconv_uint64pow10), ("unicode/utf8.acceptRanges", laid_unicode_utf8_acceptRanges), ("unicode/utf8.first", laid_unicode_utf8_first)], narrowed := true }
def PrintEscapesUptoSaid : Prop := printEscapesUptoRow.holds Tryd.pinned (OpenSpec.upto printEscapesSpec)

end Rows
end Go.Proofs.YtffpbhbiamkkpaaDoor
