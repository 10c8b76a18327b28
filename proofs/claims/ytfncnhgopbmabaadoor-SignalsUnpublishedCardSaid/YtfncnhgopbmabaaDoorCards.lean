/-
  DERIVED. GIVEN WITH THE SEED: THE CARDS: each row of YtfncnhgopbmabaaDoorRows.lean that lists a variable, with what it lists TIED to the program's text (the seventh form; the later family's looks); each row that meets fmt, with fmt's text TOLD by the authors' own Lean function (tested against real Go, not proved from fmt's source: count such statements apart). THE CARD IS WHAT COUNTS. Prove the row's statement (the work); the ties are given (YtfncnhgopbmabaaDoorTie.lean); close each card by the builder's one call (the guide's Derived/Test/ToyasCard.lean, 'card_holds'). Laid BY PROGRAM, IN A SANDBOX (cutbox-door.mjs). By AI agents, Wed Nov 11 2026. No macro, syntax, notation, axiom, sorry.
-/
import Derived.Test.YtfncnhgopbmabaaDoorRows
import GoSem.ClaimSeven
namespace Go.Proofs.YtfncnhgopbmabaaDoor
namespace Rows

/-- THE TIED CARD OF 'substationlaw08.SignalsNames'. -/
def signalsNamesCard : Claim7 := { stood := { row := signalsNamesRow, standIns := [], harness := (true, "b8be26a71909d4cdd50b9a4474e94cdf251266edce2184f25078e5967afc5a24"), looks := false }, kinds := [], alts := [], laidByText := true, laidKinds := [.data, .data, .data], laidTests := true, laidLooks := .later }
def SignalsNamesCardSaid : Prop := Claim7.holds Tryd.pinned (.plain (OpenSpec.ofChange signalsNamesSpec)) signalsNamesCard

/-- THE TIED CARD OF 'substationlaw08.SignalsFinds'. -/
def signalsFindsCard : Claim7 := { stood := { row := signalsFindsRow, standIns := [], harness := (true, "b8be26a71909d4cdd50b9a4474e94cdf251266edce2184f25078e5967afc5a24"), looks := false }, kinds := [], alts := [], laidByText := true, laidKinds := [.data, .data, .data], laidTests := true, laidLooks := .later }
def SignalsFindsCardSaid : Prop := Claim7.holds Tryd.pinned (.plain (OpenSpec.ofChange signalsFindsSpec)) signalsFindsCard

/-- THE TIED CARD OF 'substationlaw08.SignalsReaders'. -/
def signalsReadersCard : Claim7 := { stood := { row := signalsReadersRow, standIns := [], harness := (true, "b8be26a71909d4cdd50b9a4474e94cdf251266edce2184f25078e5967afc5a24"), looks := false }, kinds := [], alts := [], laidByText := true, laidKinds := [.data, .data, .data], laidTests := true, laidLooks := .later }
def SignalsReadersCardSaid : Prop := Claim7.holds Tryd.pinned (.plain (OpenSpec.ofChange signalsReadersSpec)) signalsReadersCard

/-- THE TIED CARD OF 'substationlaw08.SignalsChecks'. -/
def signalsChecksCard : Claim7 := { stood := { row := signalsChecksRow, standIns := [], harness := (true, "b8be26a71909d4cdd50b9a4474e94cdf251266edce2184f25078e5967afc5a24"), looks := false }, kinds := [], alts := [], laidByText := true, laidKinds := [.data, .data, .data], laidTests := true, laidLooks := .later }
def SignalsChecksCardSaid : Prop := Claim7.holds Tryd.pinned (.plain (OpenSpec.ofChange signalsChecksSpec)) signalsChecksCard

/-- THE TIED CARD OF 'substationlaw08.SignalsUnpublished'. -/
def signalsUnpublishedCard : Claim7 := { stood := { row := signalsUnpublishedRow, standIns := [], harness := (true, "b8be26a71909d4cdd50b9a4474e94cdf251266edce2184f25078e5967afc5a24"), looks := false }, kinds := [], alts := [], laidByText := true, laidKinds := [.data, .data, .data], laidTests := true, laidLooks := .later }
def SignalsUnpublishedCardSaid : Prop := Claim7.holds Tryd.pinned (.plain (OpenSpec.ofChange signalsUnpublishedSpec)) signalsUnpublishedCard

/-- THE TIED CARD OF 'substationlaw08.SignalsDenote'. -/
def signalsDenoteCard : Claim7 := { stood := { row := signalsDenoteRow, standIns := [], harness := (true, "b8be26a71909d4cdd50b9a4474e94cdf251266edce2184f25078e5967afc5a24"), looks := false }, kinds := [], alts := [], laidByText := true, laidKinds := [.data, .data, .data], laidTests := true, laidLooks := .later }
def SignalsDenoteCardSaid : Prop := Claim7.holds Tryd.pinned (.plain (OpenSpec.ofChange signalsDenoteSpec)) signalsDenoteCard

/-- THE SECOND FORM's CARD OF 'substationlaw08.SignalsNames'. -/
def signalsNamesUptoCard : Claim7 := { stood := { row := signalsNamesUptoRow, standIns := [], harness := (true, "b8be26a71909d4cdd50b9a4474e94cdf251266edce2184f25078e5967afc5a24"), looks := false }, kinds := [], alts := [], laidByText := true, laidKinds := [.data, .data, .data], laidTests := true, laidLooks := .later }
def SignalsNamesUptoCardSaid : Prop := Claim7.holds Tryd.pinned (.plain (OpenSpec.upto signalsNamesSpec)) signalsNamesUptoCard

/-- THE SECOND FORM's CARD OF 'substationlaw08.SignalsFinds'. -/
def signalsFindsUptoCard : Claim7 := { stood := { row := signalsFindsUptoRow, standIns := [], harness := (true, "b8be26a71909d4cdd50b9a4474e94cdf251266edce2184f25078e5967afc5a24"), looks := false }, kinds := [], alts := [], laidByText := true, laidKinds := [.data, .data, .data], laidTests := true, laidLooks := .later }
def SignalsFindsUptoCardSaid : Prop := Claim7.holds Tryd.pinned (.plain (OpenSpec.upto signalsFindsSpec)) signalsFindsUptoCard

/-- THE SECOND FORM's CARD OF 'substationlaw08.SignalsReaders'. -/
def signalsReadersUptoCard : Claim7 := { stood := { row := signalsReadersUptoRow, standIns := [], harness := (true, "b8be26a71909d4cdd50b9a4474e94cdf251266edce2184f25078e5967afc5a24"), looks := false }, kinds := [], alts := [], laidByText := true, laidKinds := [.data, .data, .data], laidTests := true, laidLooks := .later }
def SignalsReadersUptoCardSaid : Prop := Claim7.holds Tryd.pinned (.plain (OpenSpec.upto signalsReadersSpec)) signalsReadersUptoCard

/-- THE SECOND FORM's CARD OF 'substationlaw08.SignalsChecks'. -/
def signalsChecksUptoCard : Claim7 := { stood := { row := signalsChecksUptoRow, standIns := [], harness := (true, "b8be26a71909d4cdd50b9a4474e94cdf251266edce2184f25078e5967afc5a24"), looks := false }, kinds := [], alts := [], laidByText := true, laidKinds := [.data, .data, .data], laidTests := true, laidLooks := .later }
def SignalsChecksUptoCardSaid : Prop := Claim7.holds Tryd.pinned (.plain (OpenSpec.upto signalsChecksSpec)) signalsChecksUptoCard

/-- THE SECOND FORM's CARD OF 'substationlaw08.SignalsUnpublished'. -/
def signalsUnpublishedUptoCard : Claim7 := { stood := { row := signalsUnpublishedUptoRow, standIns := [], harness := (true, "b8be26a71909d4cdd50b9a4474e94cdf251266edce2184f25078e5967afc5a24"), looks := false }, kinds := [], alts := [], laidByText := true, laidKinds := [.data, .data, .data], laidTests := true, laidLooks := .later }
def SignalsUnpublishedUptoCardSaid : Prop := Claim7.holds Tryd.pinned (.plain (OpenSpec.upto signalsUnpublishedSpec)) signalsUnpublishedUptoCard

/-- THE SECOND FORM's CARD OF 'substationlaw08.SignalsDenote'. -/
def signalsDenoteUptoCard : Claim7 := { stood := { row := signalsDenoteUptoRow, standIns := [], harness := (true, "b8be26a71909d4cdd50b9a4474e94cdf251266edce2184f25078e5967afc5a24"), looks := false }, kinds := [], alts := [], laidByText := true, laidKinds := [.data, .data, .data], laidTests := true, laidLooks := .later }
def SignalsDenoteUptoCardSaid : Prop := Claim7.holds Tryd.pinned (.plain (OpenSpec.upto signalsDenoteSpec)) signalsDenoteUptoCard
end Rows
end Go.Proofs.YtfncnhgopbmabaaDoor
