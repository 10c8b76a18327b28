/-
  DERIVED. GIVEN WITH THE SEED: THE CARDS: each row of YtmbmngnnfkdngaaGreatDoorRows.lean that lists a variable, with what it lists TIED to the program's text (the seventh form; the later family's looks); each row that meets fmt, with fmt's text TOLD by the authors' own Lean function (tested against real Go, not proved from fmt's source: count such statements apart). THE CARD IS WHAT COUNTS. Prove the row's statement (the work); the ties are given (YtmbmngnnfkdngaaGreatDoorTie.lean); close each card by the builder's one call (the guide's Derived/Test/ToyasCard.lean, 'card_holds'). Laid BY PROGRAM, IN A SANDBOX (cutbox-door.mjs). By AI agents, Wed Nov 11 2026. No macro, syntax, notation, axiom, sorry.
-/
import Derived.Test.YtmbmngnnfkdngaaGreatDoorRows
import GoSem.ClaimSeven
namespace Go.Proofs.YtmbmngnnfkdngaaGreatDoor
namespace Rows

/-- THE TIED CARD OF 'substationlaw26.EquationParses'. -/
def equationParsesCard : Claim7 := { stood := { row := equationParsesRow, standIns := [], harness := (true, "6db4aa6cac841dd8e175488dbb897812c7cb22845225c7111244d9ef2a9ae7df"), looks := true }, kinds := [], alts := [], laidByText := true, laidKinds := [.data, .data, .data, .sentinel, .sentinel], laidTests := true, laidLooks := .later }
def EquationParsesCardSaid : Prop := Claim7.holds Tryz.pinned (.plain (OpenSpec.ofChange equationParsesSpec)) equationParsesCard

/-- THE TIED CARD OF 'substationlaw26.EquationRules'. -/
def equationRulesCard : Claim7 := { stood := { row := equationRulesRow, standIns := [], harness := (true, "6db4aa6cac841dd8e175488dbb897812c7cb22845225c7111244d9ef2a9ae7df"), looks := true }, kinds := [], alts := [], laidByText := true, laidKinds := [.data, .data, .data, .sentinel, .sentinel], laidTests := true, laidLooks := .later }
def EquationRulesCardSaid : Prop := Claim7.holds Tryz.pinned (.plain (OpenSpec.ofChange equationRulesSpec)) equationRulesCard

/-- THE SECOND FORM's CARD OF 'substationlaw26.EquationParses'. -/
def equationParsesUptoCard : Claim7 := { stood := { row := equationParsesUptoRow, standIns := [], harness := (true, "6db4aa6cac841dd8e175488dbb897812c7cb22845225c7111244d9ef2a9ae7df"), looks := true }, kinds := [], alts := [], laidByText := true, laidKinds := [.data, .data, .data, .sentinel, .sentinel], laidTests := true, laidLooks := .later }
def EquationParsesUptoCardSaid : Prop := Claim7.holds Tryz.pinned (.plain (OpenSpec.upto equationParsesSpec)) equationParsesUptoCard

/-- THE SECOND FORM's CARD OF 'substationlaw26.EquationRules'. -/
def equationRulesUptoCard : Claim7 := { stood := { row := equationRulesUptoRow, standIns := [], harness := (true, "6db4aa6cac841dd8e175488dbb897812c7cb22845225c7111244d9ef2a9ae7df"), looks := true }, kinds := [], alts := [], laidByText := true, laidKinds := [.data, .data, .data, .sentinel, .sentinel], laidTests := true, laidLooks := .later }
def EquationRulesUptoCardSaid : Prop := Claim7.holds Tryz.pinned (.plain (OpenSpec.upto equationRulesSpec)) equationRulesUptoCard
end Rows
end Go.Proofs.YtmbmngnnfkdngaaGreatDoor
