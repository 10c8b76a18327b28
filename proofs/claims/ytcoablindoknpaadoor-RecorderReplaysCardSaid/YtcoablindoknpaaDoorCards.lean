/-
  DERIVED. GIVEN WITH THE SEED: THE CARDS: each row of YtcoablindoknpaaDoorRows.lean that lists a variable, with what it lists TIED to the program's text (the seventh form; the later family's looks); each row that meets fmt, with fmt's text TOLD by the authors' own Lean function (tested against real Go, not proved from fmt's source: count such statements apart). THE CARD IS WHAT COUNTS. Prove the row's statement (the work); the ties are given (YtcoablindoknpaaDoorTie.lean); close each card by the builder's one call (the guide's Derived/Test/ToyasCard.lean, 'card_holds'). Laid BY PROGRAM, IN A SANDBOX (cutbox-door.mjs). By AI agents, Wed Nov 11 2026. No macro, syntax, notation, axiom, sorry.
-/
import Derived.Test.YtcoablindoknpaaDoorRows
import GoSem.ClaimSeven
namespace Go.Proofs.YtcoablindoknpaaDoor
namespace Rows

/-- THE TIED CARD OF 'substationlaw37.RecorderRecords'. -/
def recorderRecordsCard : Claim7 := { stood := { row := recorderRecordsRow, standIns := [], harness := (true, "4be4bf0c542436d8d23980b927ce76e8b6654d96be44a941c3c48291c8515b16"), looks := false }, kinds := [], alts := [], laidByText := true, laidKinds := [.data, .data, .data], laidTests := true, laidLooks := .later }
def RecorderRecordsCardSaid : Prop := Claim7.holds Tryd.pinned (.plain (OpenSpec.ofChange recorderRecordsSpec)) recorderRecordsCard

/-- THE TIED CARD OF 'substationlaw37.RecorderKeepsLast'. -/
def recorderKeepsLastCard : Claim7 := { stood := { row := recorderKeepsLastRow, standIns := [], harness := (true, "4be4bf0c542436d8d23980b927ce76e8b6654d96be44a941c3c48291c8515b16"), looks := false }, kinds := [], alts := [], laidByText := true, laidKinds := [.data, .data, .data], laidTests := true, laidLooks := .later }
def RecorderKeepsLastCardSaid : Prop := Claim7.holds Tryd.pinned (.plain (OpenSpec.ofChange recorderKeepsLastSpec)) recorderKeepsLastCard

/-- THE TIED CARD OF 'substationlaw37.RecorderChanges'. -/
def recorderChangesCard : Claim7 := { stood := { row := recorderChangesRow, standIns := [], harness := (true, "4be4bf0c542436d8d23980b927ce76e8b6654d96be44a941c3c48291c8515b16"), looks := false }, kinds := [], alts := [], laidByText := true, laidKinds := [.data, .data, .data], laidTests := true, laidLooks := .later }
def RecorderChangesCardSaid : Prop := Claim7.holds Tryd.pinned (.plain (OpenSpec.ofChange recorderChangesSpec)) recorderChangesCard

/-- THE TIED CARD OF 'substationlaw37.RecorderFormats'. -/
def recorderFormatsCard : Claim7 := { stood := { row := recorderFormatsRow, standIns := [], harness := (true, "4be4bf0c542436d8d23980b927ce76e8b6654d96be44a941c3c48291c8515b16"), looks := false }, kinds := [], alts := [], laidByText := true, laidKinds := [.data, .data, .data], laidTests := true, laidLooks := .later }
def RecorderFormatsCardSaid : Prop := Claim7.holds Tryd.pinned (.plain (OpenSpec.ofChange recorderFormatsSpec)) recorderFormatsCard

/-- THE TIED CARD OF 'substationlaw37.RecorderParses'. -/
def recorderParsesCard : Claim7 := { stood := { row := recorderParsesRow, standIns := [], harness := (true, "4be4bf0c542436d8d23980b927ce76e8b6654d96be44a941c3c48291c8515b16"), looks := false }, kinds := [], alts := [], laidByText := true, laidKinds := [.data, .data, .data], laidTests := true, laidLooks := .later }
def RecorderParsesCardSaid : Prop := Claim7.holds Tryd.pinned (.plain (OpenSpec.ofChange recorderParsesSpec)) recorderParsesCard

/-- THE TIED CARD OF 'substationlaw37.RecorderMerges'. -/
def recorderMergesCard : Claim7 := { stood := { row := recorderMergesRow, standIns := [], harness := (true, "4be4bf0c542436d8d23980b927ce76e8b6654d96be44a941c3c48291c8515b16"), looks := false }, kinds := [], alts := [], laidByText := true, laidKinds := [.data, .data, .data], laidTests := true, laidLooks := .later }
def RecorderMergesCardSaid : Prop := Claim7.holds Tryd.pinned (.plain (OpenSpec.ofChange recorderMergesSpec)) recorderMergesCard

/-- THE TIED CARD OF 'substationlaw37.RecorderExamples'. -/
def recorderExamplesCard : Claim7 := { stood := { row := recorderExamplesRow, standIns := [], harness := (true, "4be4bf0c542436d8d23980b927ce76e8b6654d96be44a941c3c48291c8515b16"), looks := false }, kinds := [], alts := [], laidByText := true, laidKinds := [.data, .data, .data], laidTests := true, laidLooks := .later }
def RecorderExamplesCardSaid : Prop := Claim7.holds Tryd.pinned (.plain (OpenSpec.ofChange recorderExamplesSpec)) recorderExamplesCard

/-- THE TIED CARD OF 'substationlaw37.RecorderReplays'. -/
def recorderReplaysCard : Claim7 := { stood := { row := recorderReplaysRow, standIns := [], harness := (true, "4be4bf0c542436d8d23980b927ce76e8b6654d96be44a941c3c48291c8515b16"), looks := false }, kinds := [], alts := [], laidByText := true, laidKinds := [.data, .data, .data], laidTests := true, laidLooks := .later }
def RecorderReplaysCardSaid : Prop := Claim7.holds Tryd.pinned (.plain (OpenSpec.ofChange recorderReplaysSpec)) recorderReplaysCard

/-- THE SECOND FORM's CARD OF 'substationlaw37.RecorderRecords'. -/
def recorderRecordsUptoCard : Claim7 := { stood := { row := recorderRecordsUptoRow, standIns := [], harness := (true, "4be4bf0c542436d8d23980b927ce76e8b6654d96be44a941c3c48291c8515b16"), looks := false }, kinds := [], alts := [], laidByText := true, laidKinds := [.data, .data, .data], laidTests := true, laidLooks := .later }
def RecorderRecordsUptoCardSaid : Prop := Claim7.holds Tryd.pinned (.plain (OpenSpec.upto recorderRecordsSpec)) recorderRecordsUptoCard

/-- THE SECOND FORM's CARD OF 'substationlaw37.RecorderKeepsLast'. -/
def recorderKeepsLastUptoCard : Claim7 := { stood := { row := recorderKeepsLastUptoRow, standIns := [], harness := (true, "4be4bf0c542436d8d23980b927ce76e8b6654d96be44a941c3c48291c8515b16"), looks := false }, kinds := [], alts := [], laidByText := true, laidKinds := [.data, .data, .data], laidTests := true, laidLooks := .later }
def RecorderKeepsLastUptoCardSaid : Prop := Claim7.holds Tryd.pinned (.plain (OpenSpec.upto recorderKeepsLastSpec)) recorderKeepsLastUptoCard

/-- THE SECOND FORM's CARD OF 'substationlaw37.RecorderChanges'. -/
def recorderChangesUptoCard : Claim7 := { stood := { row := recorderChangesUptoRow, standIns := [], harness := (true, "4be4bf0c542436d8d23980b927ce76e8b6654d96be44a941c3c48291c8515b16"), looks := false }, kinds := [], alts := [], laidByText := true, laidKinds := [.data, .data, .data], laidTests := true, laidLooks := .later }
def RecorderChangesUptoCardSaid : Prop := Claim7.holds Tryd.pinned (.plain (OpenSpec.upto recorderChangesSpec)) recorderChangesUptoCard

/-- THE SECOND FORM's CARD OF 'substationlaw37.RecorderFormats'. -/
def recorderFormatsUptoCard : Claim7 := { stood := { row := recorderFormatsUptoRow, standIns := [], harness := (true, "4be4bf0c542436d8d23980b927ce76e8b6654d96be44a941c3c48291c8515b16"), looks := false }, kinds := [], alts := [], laidByText := true, laidKinds := [.data, .data, .data], laidTests := true, laidLooks := .later }
def RecorderFormatsUptoCardSaid : Prop := Claim7.holds Tryd.pinned (.plain (OpenSpec.upto recorderFormatsSpec)) recorderFormatsUptoCard

/-- THE SECOND FORM's CARD OF 'substationlaw37.RecorderParses'. -/
def recorderParsesUptoCard : Claim7 := { stood := { row := recorderParsesUptoRow, standIns := [], harness := (true, "4be4bf0c542436d8d23980b927ce76e8b6654d96be44a941c3c48291c8515b16"), looks := false }, kinds := [], alts := [], laidByText := true, laidKinds := [.data, .data, .data], laidTests := true, laidLooks := .later }
def RecorderParsesUptoCardSaid : Prop := Claim7.holds Tryd.pinned (.plain (OpenSpec.upto recorderParsesSpec)) recorderParsesUptoCard

/-- THE SECOND FORM's CARD OF 'substationlaw37.RecorderMerges'. -/
def recorderMergesUptoCard : Claim7 := { stood := { row := recorderMergesUptoRow, standIns := [], harness := (true, "4be4bf0c542436d8d23980b927ce76e8b6654d96be44a941c3c48291c8515b16"), looks := false }, kinds := [], alts := [], laidByText := true, laidKinds := [.data, .data, .data], laidTests := true, laidLooks := .later }
def RecorderMergesUptoCardSaid : Prop := Claim7.holds Tryd.pinned (.plain (OpenSpec.upto recorderMergesSpec)) recorderMergesUptoCard

/-- THE SECOND FORM's CARD OF 'substationlaw37.RecorderExamples'. -/
def recorderExamplesUptoCard : Claim7 := { stood := { row := recorderExamplesUptoRow, standIns := [], harness := (true, "4be4bf0c542436d8d23980b927ce76e8b6654d96be44a941c3c48291c8515b16"), looks := false }, kinds := [], alts := [], laidByText := true, laidKinds := [.data, .data, .data], laidTests := true, laidLooks := .later }
def RecorderExamplesUptoCardSaid : Prop := Claim7.holds Tryd.pinned (.plain (OpenSpec.upto recorderExamplesSpec)) recorderExamplesUptoCard

/-- THE SECOND FORM's CARD OF 'substationlaw37.RecorderReplays'. -/
def recorderReplaysUptoCard : Claim7 := { stood := { row := recorderReplaysUptoRow, standIns := [], harness := (true, "4be4bf0c542436d8d23980b927ce76e8b6654d96be44a941c3c48291c8515b16"), looks := false }, kinds := [], alts := [], laidByText := true, laidKinds := [.data, .data, .data], laidTests := true, laidLooks := .later }
def RecorderReplaysUptoCardSaid : Prop := Claim7.holds Tryd.pinned (.plain (OpenSpec.upto recorderReplaysSpec)) recorderReplaysUptoCard
end Rows
end Go.Proofs.YtcoablindoknpaaDoor
