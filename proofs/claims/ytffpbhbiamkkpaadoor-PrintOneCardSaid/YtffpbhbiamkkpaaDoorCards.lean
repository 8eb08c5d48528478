/-
  DERIVED. GIVEN WITH THE SEED: THE CARDS: each row of YtffpbhbiamkkpaaDoorRows.lean that lists a variable, with what it lists TIED to the program's text (the seventh form; the later family's looks); each row that meets fmt, with fmt's text TOLD by the authors' own Lean function (tested against real Go, not proved from fmt's source: count such statements apart). THE CARD IS WHAT COUNTS. Prove the row's statement (the work); the ties are given (YtffpbhbiamkkpaaDoorTie.lean); close each card by the builder's one call (the guide's Derived/Test/ToyasCard.lean, 'card_holds'). Laid BY PROGRAM, IN A SANDBOX (cutbox-door.mjs). By AI agents, Wed Nov 11 2026. No macro, syntax, notation, axiom, sorry.
-/
import Derived.Test.YtffpbhbiamkkpaaDoorRows
import GoSem.ClaimSeven
namespace Go.Proofs.YtffpbhbiamkkpaaDoor
namespace Rows

/-- THE TIED CARD OF 'watchbilllaw05.PrintPrints'. -/
def printPrintsCard : Claim7 := { stood := { row := printPrintsRow, standIns := [], harness := (true, "92de90493c2ec28abee6996e61d5d825b6725902fef1625eacd23d517f8c5627"), looks := true }, kinds := [], alts := [], laidByText := true, laidKinds := [.data, .data, .data], laidTests := true, laidLooks := .later }
def PrintPrintsCardSaid : Prop := Claim7.holds Tryd.pinned (.plain (OpenSpec.ofChange printPrintsSpec)) printPrintsCard

/-- THE TIED CARD OF 'watchbilllaw05.PrintOne'. -/
def printOneCard : Claim7 := { stood := { row := printOneRow, standIns := [], harness := (true, "92de90493c2ec28abee6996e61d5d825b6725902fef1625eacd23d517f8c5627"), looks := true }, kinds := [], alts := [], laidByText := true, laidKinds := [.data, .data, .data], laidTests := true, laidLooks := .later }
def PrintOneCardSaid : Prop := Claim7.holds Tryd.pinned (.plain (OpenSpec.ofChange printOneSpec)) printOneCard

/-- THE TIED CARD OF 'watchbilllaw03.LexUnescapes'. -/
def lexUnescapesCard : Claim7 := { stood := { row := lexUnescapesRow, standIns := [], harness := (true, "92de90493c2ec28abee6996e61d5d825b6725902fef1625eacd23d517f8c5627"), looks := true }, kinds := [], alts := [], laidByText := true, laidKinds := [.data, .pinned], laidTests := true, laidLooks := .later }
def LexUnescapesCardSaid : Prop := Claim7.holds Tryd.pinned (.plain (OpenSpec.ofChange lexUnescapesSpec)) lexUnescapesCard

/-- THE TIED CARD OF 'watchbilllaw03.LexPlain'. -/
def lexPlainCard : Claim7 := { stood := { row := lexPlainRow, standIns := [], harness := (true, "92de90493c2ec28abee6996e61d5d825b6725902fef1625eacd23d517f8c5627"), looks := true }, kinds := [], alts := [], laidByText := true, laidKinds := [.data, .pinned], laidTests := true, laidLooks := .later }
def LexPlainCardSaid : Prop := Claim7.holds Tryd.pinned (.plain (OpenSpec.ofChange lexPlainSpec)) lexPlainCard

/-- THE TIED CARD OF 'watchbilllaw03.LexRises'. -/
def lexRisesCard : Claim7 := { stood := { row := lexRisesRow, standIns := [], harness := (true, "92de90493c2ec28abee6996e61d5d825b6725902fef1625eacd23d517f8c5627"), looks := true }, kinds := [], alts := [], laidByText := true, laidKinds := [.data, .pinned], laidTests := true, laidLooks := .later }
def LexRisesCardSaid : Prop := Claim7.holds Tryd.pinned (.plain (OpenSpec.ofChange lexRisesSpec)) lexRisesCard

/-- THE TIED CARD OF 'watchbilllaw03.LexRemarks'. -/
def lexRemarksCard : Claim7 := { stood := { row := lexRemarksRow, standIns := [], harness := (true, "92de90493c2ec28abee6996e61d5d825b6725902fef1625eacd23d517f8c5627"), looks := true }, kinds := [], alts := [], laidByText := true, laidKinds := [.data, .pinned], laidTests := true, laidLooks := .later }
def LexRemarksCardSaid : Prop := Claim7.holds Tryd.pinned (.plain (OpenSpec.ofChange lexRemarksSpec)) lexRemarksCard

/-- THE TIED CARD OF 'watchbilllaw03.LexRefs'. -/
def lexRefsCard : Claim7 := { stood := { row := lexRefsRow, standIns := [], harness := (true, "92de90493c2ec28abee6996e61d5d825b6725902fef1625eacd23d517f8c5627"), looks := true }, kinds := [], alts := [], laidByText := true, laidKinds := [.data, .data, .data, .data, .pinned], laidTests := true, laidLooks := .later }
def LexRefsCardSaid : Prop := Claim7.holds Tryd.pinned (.plain (OpenSpec.ofChange lexRefsSpec)) lexRefsCard

/-- THE TIED CARD OF 'watchbilllaw05.PrintEscapes'. -/
def printEscapesCard : Claim7 := { stood := { row := printEscapesRow, standIns := [], harness := (true, "92de90493c2ec28abee6996e61d5d825b6725902fef1625eacd23d517f8c5627"), looks := true }, kinds := [], alts := [], laidByText := true, laidKinds := [.data, .data, .data, .data, .pinned], laidTests := true, laidLooks := .later }
def PrintEscapesCardSaid : Prop := Claim7.holds Tryd.pinned (.plain (OpenSpec.ofChange printEscapesSpec)) printEscapesCard

/-- THE SECOND FORM's CARD OF 'watchbilllaw05.PrintPrints'. -/
def printPrintsUptoCard : Claim7 := { stood := { row := printPrintsUptoRow, standIns := [], harness := (true, "92de90493c2ec28abee6996e61d5d825b6725902fef1625eacd23d517f8c5627"), looks := true }, kinds := [], alts := [], laidByText := true, laidKinds := [.data, .data, .data], laidTests := true, laidLooks := .later }
def PrintPrintsUptoCardSaid : Prop := Claim7.holds Tryd.pinned (.plain (OpenSpec.upto printPrintsSpec)) printPrintsUptoCard

/-- THE SECOND FORM's CARD OF 'watchbilllaw05.PrintOne'. -/
def printOneUptoCard : Claim7 := { stood := { row := printOneUptoRow, standIns := [], harness := (true, "92de90493c2ec28abee6996e61d5d825b6725902fef1625eacd23d517f8c5627"), looks := true }, kinds := [], alts := [], laidByText := true, laidKinds := [.data, .data, .data], laidTests := true, laidLooks := .later }
def PrintOneUptoCardSaid : Prop := Claim7.holds Tryd.pinned (.plain (OpenSpec.upto printOneSpec)) printOneUptoCard

/-- THE SECOND FORM's CARD OF 'watchbilllaw03.LexUnescapes'. -/
def lexUnescapesUptoCard : Claim7 := { stood := { row := lexUnescapesUptoRow, standIns := [], harness := (true, "92de90493c2ec28abee6996e61d5d825b6725902fef1625eacd23d517f8c5627"), looks := true }, kinds := [], alts := [], laidByText := true, laidKinds := [.data, .pinned], laidTests := true, laidLooks := .later }
def LexUnescapesUptoCardSaid : Prop := Claim7.holds Tryd.pinned (.plain (OpenSpec.upto lexUnescapesSpec)) lexUnescapesUptoCard

/-- THE SECOND FORM's CARD OF 'watchbilllaw03.LexPlain'. -/
def lexPlainUptoCard : Claim7 := { stood := { row := lexPlainUptoRow, standIns := [], harness := (true, "92de90493c2ec28abee6996e61d5d825b6725902fef1625eacd23d517f8c5627"), looks := true }, kinds := [], alts := [], laidByText := true, laidKinds := [.data, .pinned], laidTests := true, laidLooks := .later }
def LexPlainUptoCardSaid : Prop := Claim7.holds Tryd.pinned (.plain (OpenSpec.upto lexPlainSpec)) lexPlainUptoCard

/-- THE SECOND FORM's CARD OF 'watchbilllaw03.LexRises'. -/
def lexRisesUptoCard : Claim7 := { stood := { row := lexRisesUptoRow, standIns := [], harness := (true, "92de90493c2ec28abee6996e61d5d825b6725902fef1625eacd23d517f8c5627"), looks := true }, kinds := [], alts := [], laidByText := true, laidKinds := [.data, .pinned], laidTests := true, laidLooks := .later }
def LexRisesUptoCardSaid : Prop := Claim7.holds Tryd.pinned (.plain (OpenSpec.upto lexRisesSpec)) lexRisesUptoCard

/-- THE SECOND FORM's CARD OF 'watchbilllaw03.LexRemarks'. -/
def lexRemarksUptoCard : Claim7 := { stood := { row := lexRemarksUptoRow, standIns := [], harness := (true, "92de90493c2ec28abee6996e61d5d825b6725902fef1625eacd23d517f8c5627"), looks := true }, kinds := [], alts := [], laidByText := true, laidKinds := [.data, .pinned], laidTests := true, laidLooks := .later }
def LexRemarksUptoCardSaid : Prop := Claim7.holds Tryd.pinned (.plain (OpenSpec.upto lexRemarksSpec)) lexRemarksUptoCard

/-- THE SECOND FORM's CARD OF 'watchbilllaw03.LexRefs'. -/
def lexRefsUptoCard : Claim7 := { stood := { row := lexRefsUptoRow, standIns := [], harness := (true, "92de90493c2ec28abee6996e61d5d825b6725902fef1625eacd23d517f8c5627"), looks := true }, kinds := [], alts := [], laidByText := true, laidKinds := [.data, .data, .data, .data, .pinned], laidTests := true, laidLooks := .later }
def LexRefsUptoCardSaid : Prop := Claim7.holds Tryd.pinned (.plain (OpenSpec.upto lexRefsSpec)) lexRefsUptoCard

/-- THE SECOND FORM's CARD OF 'watchbilllaw05.PrintEscapes'. -/
def printEscapesUptoCard : Claim7 := { stood := { row := printEscapesUptoRow, standIns := [], harness := (true, "92de90493c2ec28abee6996e61d5d825b6725902fef1625eacd23d517f8c5627"), looks := true }, kinds := [], alts := [], laidByText := true, laidKinds := [.data, .data, .data, .data, .pinned], laidTests := true, laidLooks := .later }
def PrintEscapesUptoCardSaid : Prop := Claim7.holds Tryd.pinned (.plain (OpenSpec.upto printEscapesSpec)) printEscapesUptoCard
end Rows
end Go.Proofs.YtffpbhbiamkkpaaDoor
