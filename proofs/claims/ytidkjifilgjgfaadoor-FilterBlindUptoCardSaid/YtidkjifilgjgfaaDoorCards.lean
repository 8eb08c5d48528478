/-
  DERIVED. GIVEN WITH THE SEED: THE CARDS: each row of YtidkjifilgjgfaaDoorRows.lean that lists a variable, with what it lists TIED to the program's text (the seventh form; the later family's looks); each row that meets fmt, with fmt's text TOLD by the authors' own Lean function (tested against real Go, not proved from fmt's source: count such statements apart). THE CARD IS WHAT COUNTS. Prove the row's statement (the work); the ties are given (YtidkjifilgjgfaaDoorTie.lean); close each card by the builder's one call (the guide's Derived/Test/ToyasCard.lean, 'card_holds'). Laid BY PROGRAM, IN A SANDBOX (cutbox-door.mjs). By AI agents, Wed Nov 11 2026. No macro, syntax, notation, axiom, sorry.
-/
import Derived.Test.YtidkjifilgjgfaaDoorRows
import GoSem.ClaimSeven
namespace Go.Proofs.YtidkjifilgjgfaaDoor
namespace Rows

/-- THE TIED CARD OF 'watchbilllaw23.FilterBlind'. -/
def filterBlindCard : Claim7 := { stood := { row := filterBlindRow, standIns := [], harness := (true, "d69b063b717b7242c83b2c0735510b2089927c084c2be56a5bc08ba73cee2068"), looks := false }, kinds := [], alts := [], laidByText := true, laidKinds := [.data, .data, .data], laidTests := true, laidLooks := .later }
def FilterBlindCardSaid : Prop := Claim7.holds Tryd.pinned (.plain (OpenSpec.ofChange filterBlindSpec)) filterBlindCard

/-- THE SECOND FORM's CARD OF 'watchbilllaw23.FilterBlind'. -/
def filterBlindUptoCard : Claim7 := { stood := { row := filterBlindUptoRow, standIns := [], harness := (true, "d69b063b717b7242c83b2c0735510b2089927c084c2be56a5bc08ba73cee2068"), looks := false }, kinds := [], alts := [], laidByText := true, laidKinds := [.data, .data, .data], laidTests := true, laidLooks := .later }
def FilterBlindUptoCardSaid : Prop := Claim7.holds Tryd.pinned (.plain (OpenSpec.upto filterBlindSpec)) filterBlindUptoCard
end Rows
end Go.Proofs.YtidkjifilgjgfaaDoor
