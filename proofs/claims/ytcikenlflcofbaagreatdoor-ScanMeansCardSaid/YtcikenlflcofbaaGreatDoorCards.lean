/-
  DERIVED. GIVEN WITH THE SEED: THE CARDS: each row of YtcikenlflcofbaaGreatDoorRows.lean that lists a variable, with what it lists TIED to the program's text (the seventh form; the later family's looks); each row that meets fmt, with fmt's text TOLD by the authors' own Lean function (tested against real Go, not proved from fmt's source: count such statements apart). THE CARD IS WHAT COUNTS. Prove the row's statement (the work); the ties are given (YtcikenlflcofbaaGreatDoorTie.lean); close each card by the builder's one call (the guide's Derived/Test/ToyasCard.lean, 'card_holds'). Laid BY PROGRAM, IN A SANDBOX (cutbox-door.mjs). By AI agents, Wed Nov 11 2026. No macro, syntax, notation, axiom, sorry.
-/
import Derived.Test.YtcikenlflcofbaaGreatDoorRows
import GoSem.ClaimSeven
namespace Go.Proofs.YtcikenlflcofbaaGreatDoor
namespace Rows

/-- THE TIED CARD OF 'substationlaw28.ScanMeans'. -/
def scanMeansCard : Claim7 := { stood := { row := scanMeansRow, standIns := [], harness := (true, "595218efb14952f2ed5b4fc1951850d763c7df7c1d1b5ead52e5fc309c4da98f"), looks := true }, kinds := [], alts := [], laidByText := true, laidKinds := [.data, .data, .data, .sentinel, .sentinel], laidTests := true, laidLooks := .later }
def ScanMeansCardSaid : Prop := Claim7.holds Tryz.pinned (.plain (OpenSpec.ofChange scanMeansSpec)) scanMeansCard

/-- THE TIED CARD OF 'substationlaw28.ScanSteps'. -/
def scanStepsCard : Claim7 := { stood := { row := scanStepsRow, standIns := [], harness := (true, "595218efb14952f2ed5b4fc1951850d763c7df7c1d1b5ead52e5fc309c4da98f"), looks := true }, kinds := [], alts := [], laidByText := true, laidKinds := [.data, .data, .data, .sentinel, .sentinel], laidTests := true, laidLooks := .later }
def ScanStepsCardSaid : Prop := Claim7.holds Tryz.pinned (.plain (OpenSpec.ofChange scanStepsSpec)) scanStepsCard

/-- THE SECOND FORM's CARD OF 'substationlaw28.ScanMeans'. -/
def scanMeansUptoCard : Claim7 := { stood := { row := scanMeansUptoRow, standIns := [], harness := (true, "595218efb14952f2ed5b4fc1951850d763c7df7c1d1b5ead52e5fc309c4da98f"), looks := true }, kinds := [], alts := [], laidByText := true, laidKinds := [.data, .data, .data, .sentinel, .sentinel], laidTests := true, laidLooks := .later }
def ScanMeansUptoCardSaid : Prop := Claim7.holds Tryz.pinned (.plain (OpenSpec.upto scanMeansSpec)) scanMeansUptoCard

/-- THE SECOND FORM's CARD OF 'substationlaw28.ScanSteps'. -/
def scanStepsUptoCard : Claim7 := { stood := { row := scanStepsUptoRow, standIns := [], harness := (true, "595218efb14952f2ed5b4fc1951850d763c7df7c1d1b5ead52e5fc309c4da98f"), looks := true }, kinds := [], alts := [], laidByText := true, laidKinds := [.data, .data, .data, .sentinel, .sentinel], laidTests := true, laidLooks := .later }
def ScanStepsUptoCardSaid : Prop := Claim7.holds Tryz.pinned (.plain (OpenSpec.upto scanStepsSpec)) scanStepsUptoCard
end Rows
end Go.Proofs.YtcikenlflcofbaaGreatDoor
