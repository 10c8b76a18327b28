/-
  DERIVED. GIVEN WITH THE SEED: THE CARDS: each row of YtcikenlflcofbaaDoorRows.lean that lists a variable, with what it lists TIED to the program's text (the seventh form; the later family's looks); each row that meets fmt, with fmt's text TOLD by the authors' own Lean function (tested against real Go, not proved from fmt's source: count such statements apart). THE CARD IS WHAT COUNTS. Prove the row's statement (the work); the ties are given (YtcikenlflcofbaaDoorTie.lean); close each card by the builder's one call (the guide's Derived/Test/ToyasCard.lean, 'card_holds'). Laid BY PROGRAM, IN A SANDBOX (cutbox-door.mjs). By AI agents, Wed Nov 11 2026. No macro, syntax, notation, axiom, sorry.
-/
import Derived.Test.YtcikenlflcofbaaDoorRows
import GoSem.ClaimSeven
namespace Go.Proofs.YtcikenlflcofbaaDoor
namespace Rows

/-- THE TIED CARD OF 'substationlaw27.BytecodePrefix'. -/
def bytecodePrefixCard : Claim7 := { stood := { row := bytecodePrefixRow, standIns := [], harness := (true, "20ad3a75ad127071d9958441e25e9dcae420eb2415e4e1c6408fc7277b4366ae"), looks := true }, kinds := [], alts := [], laidByText := true, laidKinds := [.data, .data, .data, .sentinel, .sentinel], laidTests := true, laidLooks := .later }
def BytecodePrefixCardSaid : Prop := Claim7.holds Tryd.pinned (.plain (OpenSpec.ofChange bytecodePrefixSpec)) bytecodePrefixCard

/-- THE TIED CARD OF 'substationlaw27.BytecodeExamples'. -/
def bytecodeExamplesCard : Claim7 := { stood := { row := bytecodeExamplesRow, standIns := [], harness := (true, "20ad3a75ad127071d9958441e25e9dcae420eb2415e4e1c6408fc7277b4366ae"), looks := true }, kinds := [], alts := [], laidByText := true, laidKinds := [.data, .data, .data, .sentinel, .sentinel], laidTests := true, laidLooks := .later }
def BytecodeExamplesCardSaid : Prop := Claim7.holds Tryd.pinned (.plain (OpenSpec.ofChange bytecodeExamplesSpec)) bytecodeExamplesCard

/-- THE TIED CARD OF 'substationlaw27.BytecodeSound'. -/
def bytecodeSoundCard : Claim7 := { stood := { row := bytecodeSoundRow, standIns := [], harness := (true, "20ad3a75ad127071d9958441e25e9dcae420eb2415e4e1c6408fc7277b4366ae"), looks := true }, kinds := [], alts := [], laidByText := true, laidKinds := [.data, .data, .data, .sentinel, .sentinel], laidTests := true, laidLooks := .later }
def BytecodeSoundCardSaid : Prop := Claim7.holds Tryd.pinned (.plain (OpenSpec.ofChange bytecodeSoundSpec)) bytecodeSoundCard

/-- THE TIED CARD OF 'substationlaw28.ScanTimers'. -/
def scanTimersCard : Claim7 := { stood := { row := scanTimersRow, standIns := [], harness := (true, "20ad3a75ad127071d9958441e25e9dcae420eb2415e4e1c6408fc7277b4366ae"), looks := true }, kinds := [], alts := [], laidByText := true, laidKinds := [.data, .data, .data, .sentinel, .sentinel], laidTests := true, laidLooks := .later }
def ScanTimersCardSaid : Prop := Claim7.holds Tryd.pinned (.plain (OpenSpec.ofChange scanTimersSpec)) scanTimersCard

/-- THE TIED CARD OF 'substationlaw28.ScanEdges'. -/
def scanEdgesCard : Claim7 := { stood := { row := scanEdgesRow, standIns := [], harness := (true, "20ad3a75ad127071d9958441e25e9dcae420eb2415e4e1c6408fc7277b4366ae"), looks := true }, kinds := [], alts := [], laidByText := true, laidKinds := [.data, .data, .data, .sentinel, .sentinel], laidTests := true, laidLooks := .later }
def ScanEdgesCardSaid : Prop := Claim7.holds Tryd.pinned (.plain (OpenSpec.ofChange scanEdgesSpec)) scanEdgesCard

/-- THE TIED CARD OF 'substationlaw28.ScanOrder'. -/
def scanOrderCard : Claim7 := { stood := { row := scanOrderRow, standIns := [], harness := (true, "20ad3a75ad127071d9958441e25e9dcae420eb2415e4e1c6408fc7277b4366ae"), looks := true }, kinds := [], alts := [], laidByText := true, laidKinds := [.data, .data, .data, .sentinel, .sentinel], laidTests := true, laidLooks := .later }
def ScanOrderCardSaid : Prop := Claim7.holds Tryd.pinned (.plain (OpenSpec.ofChange scanOrderSpec)) scanOrderCard

/-- THE TIED CARD OF 'substationlaw28.ScanExamples'. -/
def scanExamplesCard : Claim7 := { stood := { row := scanExamplesRow, standIns := [], harness := (true, "20ad3a75ad127071d9958441e25e9dcae420eb2415e4e1c6408fc7277b4366ae"), looks := true }, kinds := [], alts := [], laidByText := true, laidKinds := [.data, .data, .data, .sentinel, .sentinel], laidTests := true, laidLooks := .later }
def ScanExamplesCardSaid : Prop := Claim7.holds Tryd.pinned (.plain (OpenSpec.ofChange scanExamplesSpec)) scanExamplesCard

/-- THE TIED CARD OF 'substationlaw28.ScanRuns'. -/
def scanRunsCard : Claim7 := { stood := { row := scanRunsRow, standIns := [], harness := (true, "20ad3a75ad127071d9958441e25e9dcae420eb2415e4e1c6408fc7277b4366ae"), looks := true }, kinds := [], alts := [], laidByText := true, laidKinds := [.data, .data, .data, .sentinel, .sentinel], laidTests := true, laidLooks := .later }
def ScanRunsCardSaid : Prop := Claim7.holds Tryd.pinned (.plain (OpenSpec.ofChange scanRunsSpec)) scanRunsCard

/-- THE SECOND FORM's CARD OF 'substationlaw27.BytecodePrefix'. -/
def bytecodePrefixUptoCard : Claim7 := { stood := { row := bytecodePrefixUptoRow, standIns := [], harness := (true, "20ad3a75ad127071d9958441e25e9dcae420eb2415e4e1c6408fc7277b4366ae"), looks := true }, kinds := [], alts := [], laidByText := true, laidKinds := [.data, .data, .data, .sentinel, .sentinel], laidTests := true, laidLooks := .later }
def BytecodePrefixUptoCardSaid : Prop := Claim7.holds Tryd.pinned (.plain (OpenSpec.upto bytecodePrefixSpec)) bytecodePrefixUptoCard

/-- THE SECOND FORM's CARD OF 'substationlaw27.BytecodeExamples'. -/
def bytecodeExamplesUptoCard : Claim7 := { stood := { row := bytecodeExamplesUptoRow, standIns := [], harness := (true, "20ad3a75ad127071d9958441e25e9dcae420eb2415e4e1c6408fc7277b4366ae"), looks := true }, kinds := [], alts := [], laidByText := true, laidKinds := [.data, .data, .data, .sentinel, .sentinel], laidTests := true, laidLooks := .later }
def BytecodeExamplesUptoCardSaid : Prop := Claim7.holds Tryd.pinned (.plain (OpenSpec.upto bytecodeExamplesSpec)) bytecodeExamplesUptoCard

/-- THE SECOND FORM's CARD OF 'substationlaw27.BytecodeSound'. -/
def bytecodeSoundUptoCard : Claim7 := { stood := { row := bytecodeSoundUptoRow, standIns := [], harness := (true, "20ad3a75ad127071d9958441e25e9dcae420eb2415e4e1c6408fc7277b4366ae"), looks := true }, kinds := [], alts := [], laidByText := true, laidKinds := [.data, .data, .data, .sentinel, .sentinel], laidTests := true, laidLooks := .later }
def BytecodeSoundUptoCardSaid : Prop := Claim7.holds Tryd.pinned (.plain (OpenSpec.upto bytecodeSoundSpec)) bytecodeSoundUptoCard

/-- THE SECOND FORM's CARD OF 'substationlaw28.ScanTimers'. -/
def scanTimersUptoCard : Claim7 := { stood := { row := scanTimersUptoRow, standIns := [], harness := (true, "20ad3a75ad127071d9958441e25e9dcae420eb2415e4e1c6408fc7277b4366ae"), looks := true }, kinds := [], alts := [], laidByText := true, laidKinds := [.data, .data, .data, .sentinel, .sentinel], laidTests := true, laidLooks := .later }
def ScanTimersUptoCardSaid : Prop := Claim7.holds Tryd.pinned (.plain (OpenSpec.upto scanTimersSpec)) scanTimersUptoCard

/-- THE SECOND FORM's CARD OF 'substationlaw28.ScanEdges'. -/
def scanEdgesUptoCard : Claim7 := { stood := { row := scanEdgesUptoRow, standIns := [], harness := (true, "20ad3a75ad127071d9958441e25e9dcae420eb2415e4e1c6408fc7277b4366ae"), looks := true }, kinds := [], alts := [], laidByText := true, laidKinds := [.data, .data, .data, .sentinel, .sentinel], laidTests := true, laidLooks := .later }
def ScanEdgesUptoCardSaid : Prop := Claim7.holds Tryd.pinned (.plain (OpenSpec.upto scanEdgesSpec)) scanEdgesUptoCard

/-- THE SECOND FORM's CARD OF 'substationlaw28.ScanOrder'. -/
def scanOrderUptoCard : Claim7 := { stood := { row := scanOrderUptoRow, standIns := [], harness := (true, "20ad3a75ad127071d9958441e25e9dcae420eb2415e4e1c6408fc7277b4366ae"), looks := true }, kinds := [], alts := [], laidByText := true, laidKinds := [.data, .data, .data, .sentinel, .sentinel], laidTests := true, laidLooks := .later }
def ScanOrderUptoCardSaid : Prop := Claim7.holds Tryd.pinned (.plain (OpenSpec.upto scanOrderSpec)) scanOrderUptoCard

/-- THE SECOND FORM's CARD OF 'substationlaw28.ScanExamples'. -/
def scanExamplesUptoCard : Claim7 := { stood := { row := scanExamplesUptoRow, standIns := [], harness := (true, "20ad3a75ad127071d9958441e25e9dcae420eb2415e4e1c6408fc7277b4366ae"), looks := true }, kinds := [], alts := [], laidByText := true, laidKinds := [.data, .data, .data, .sentinel, .sentinel], laidTests := true, laidLooks := .later }
def ScanExamplesUptoCardSaid : Prop := Claim7.holds Tryd.pinned (.plain (OpenSpec.upto scanExamplesSpec)) scanExamplesUptoCard

/-- THE SECOND FORM's CARD OF 'substationlaw28.ScanRuns'. -/
def scanRunsUptoCard : Claim7 := { stood := { row := scanRunsUptoRow, standIns := [], harness := (true, "20ad3a75ad127071d9958441e25e9dcae420eb2415e4e1c6408fc7277b4366ae"), looks := true }, kinds := [], alts := [], laidByText := true, laidKinds := [.data, .data, .data, .sentinel, .sentinel], laidTests := true, laidLooks := .later }
def ScanRunsUptoCardSaid : Prop := Claim7.holds Tryd.pinned (.plain (OpenSpec.upto scanRunsSpec)) scanRunsUptoCard
end Rows
end Go.Proofs.YtcikenlflcofbaaDoor
