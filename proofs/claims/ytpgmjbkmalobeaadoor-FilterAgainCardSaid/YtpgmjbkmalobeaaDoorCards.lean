/-
  DERIVED. GIVEN WITH THE SEED: THE CARDS: each row of YtpgmjbkmalobeaaDoorRows.lean that lists a variable, with what it lists TIED to the program's text (the seventh form; the later family's looks); each row that meets fmt, with fmt's text TOLD by the authors' own Lean function (tested against real Go, not proved from fmt's source: count such statements apart). THE CARD IS WHAT COUNTS. Prove the row's statement (the work); the ties are given (YtpgmjbkmalobeaaDoorTie.lean); close each card by the builder's one call (the guide's Derived/Test/ToyasCard.lean, 'card_holds'). Laid BY PROGRAM, IN A SANDBOX (cutbox-door.mjs). By AI agents, Wed Nov 11 2026. No macro, syntax, notation, axiom, sorry.
-/
import Derived.Test.YtpgmjbkmalobeaaDoorRows
import GoSem.ClaimSeven
namespace Go.Proofs.YtpgmjbkmalobeaaDoor
namespace Rows

/-- THE TIED CARD OF 'watchbilllaw23.FilterBlind'. -/
def filterBlindCard : Claim7 := { stood := { row := filterBlindRow, standIns := [], harness := (true, "a76f55b1c936b4a0903f1dd35cb073c76c92ac59f5627afa8ba431a74300c8c4"), looks := false }, kinds := [], alts := [], laidByText := true, laidKinds := [.data, .data, .data], laidTests := true, laidLooks := .later }
def FilterBlindCardSaid : Prop := Claim7.holds Tryd.pinned (.plain (OpenSpec.ofChange filterBlindSpec)) filterBlindCard

/-- THE TIED CARD OF 'watchbilllaw23.FilterAgain'. -/
def filterAgainCard : Claim7 := { stood := { row := filterAgainRow, standIns := [], harness := (true, "a76f55b1c936b4a0903f1dd35cb073c76c92ac59f5627afa8ba431a74300c8c4"), looks := false }, kinds := [], alts := [], laidByText := true, laidKinds := [.data, .data, .data], laidTests := true, laidLooks := .later }
def FilterAgainCardSaid : Prop := Claim7.holds Tryd.pinned (.plain (OpenSpec.ofChange filterAgainSpec)) filterAgainCard

/-- THE SECOND FORM's CARD OF 'watchbilllaw23.FilterBlind'. -/
def filterBlindUptoCard : Claim7 := { stood := { row := filterBlindUptoRow, standIns := [], harness := (true, "a76f55b1c936b4a0903f1dd35cb073c76c92ac59f5627afa8ba431a74300c8c4"), looks := false }, kinds := [], alts := [], laidByText := true, laidKinds := [.data, .data, .data], laidTests := true, laidLooks := .later }
def FilterBlindUptoCardSaid : Prop := Claim7.holds Tryd.pinned (.plain (OpenSpec.upto filterBlindSpec)) filterBlindUptoCard

/-- THE SECOND FORM's CARD OF 'watchbilllaw23.FilterAgain'. -/
def filterAgainUptoCard : Claim7 := { stood := { row := filterAgainUptoRow, standIns := [], harness := (true, "a76f55b1c936b4a0903f1dd35cb073c76c92ac59f5627afa8ba431a74300c8c4"), looks := false }, kinds := [], alts := [], laidByText := true, laidKinds := [.data, .data, .data], laidTests := true, laidLooks := .later }
def FilterAgainUptoCardSaid : Prop := Claim7.holds Tryd.pinned (.plain (OpenSpec.upto filterAgainSpec)) filterAgainUptoCard
end Rows
end Go.Proofs.YtpgmjbkmalobeaaDoor
