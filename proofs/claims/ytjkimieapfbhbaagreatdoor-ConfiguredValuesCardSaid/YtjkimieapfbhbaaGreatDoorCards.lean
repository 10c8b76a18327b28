/-
  DERIVED. GIVEN WITH THE SEED: THE CARDS: each row of YtjkimieapfbhbaaGreatDoorRows.lean that lists a variable, with what it lists TIED to the program's text (the seventh form; the later family's looks); each row that meets fmt, with fmt's text TOLD by the authors' own Lean function (tested against real Go, not proved from fmt's source: count such statements apart). THE CARD IS WHAT COUNTS. Prove the row's statement (the work); the ties are given (YtjkimieapfbhbaaGreatDoorTie.lean); close each card by the builder's one call (the guide's Derived/Test/ToyasCard.lean, 'card_holds'). Laid BY PROGRAM, IN A SANDBOX (cutbox-door.mjs). By AI agents, Wed Nov 11 2026. No macro, syntax, notation, axiom, sorry.
-/
import Derived.Test.YtjkimieapfbhbaaGreatDoorRows
import GoSem.ClaimSeven
namespace Go.Proofs.YtjkimieapfbhbaaGreatDoor
namespace Rows

/-- THE TIED CARD OF 'substationtop.ConfiguredValues'. -/
def configuredValuesCard : Claim7 := { stood := { row := configuredValuesRow, standIns := [], harness := (true, "e85b14e5bba70fc30c81007066203be96fc94ed60ae2d3827ed93bb64f261f41"), looks := true }, kinds := [], alts := [], laidByText := true, laidKinds := [.data, .data, .data], laidTests := true, laidLooks := .later }
def ConfiguredValuesCardSaid : Prop := Claim7.holds Tryz.pinned (.plain (OpenSpec.ofChange configuredValuesSpec)) configuredValuesCard

/-- THE SECOND FORM's CARD OF 'substationtop.ConfiguredValues'. -/
def configuredValuesUptoCard : Claim7 := { stood := { row := configuredValuesUptoRow, standIns := [], harness := (true, "e85b14e5bba70fc30c81007066203be96fc94ed60ae2d3827ed93bb64f261f41"), looks := true }, kinds := [], alts := [], laidByText := true, laidKinds := [.data, .data, .data], laidTests := true, laidLooks := .later }
def ConfiguredValuesUptoCardSaid : Prop := Claim7.holds Tryz.pinned (.plain (OpenSpec.upto configuredValuesSpec)) configuredValuesUptoCard
end Rows
end Go.Proofs.YtjkimieapfbhbaaGreatDoor
