/-
  DERIVED. GIVEN WITH THE SEED: THE CARDS: each row of YtceggplnggkdnaaGreatDoorRows.lean that lists a variable, with what it lists TIED to the program's text (the seventh form; the later family's looks); each row that meets fmt, with fmt's text TOLD by the authors' own Lean function (tested against real Go, not proved from fmt's source: count such statements apart). THE CARD IS WHAT COUNTS. Prove the row's statement (the work); the ties are given (YtceggplnggkdnaaGreatDoorTie.lean); close each card by the builder's one call (the guide's Derived/Test/ToyasCard.lean, 'card_holds'). Laid BY PROGRAM, IN A SANDBOX (cutbox-door.mjs). By AI agents, Wed Nov 11 2026. No macro, syntax, notation, axiom, sorry.
-/
import Derived.Test.YtceggplnggkdnaaGreatDoorRows
import GoSem.ClaimSeven
namespace Go.Proofs.YtceggplnggkdnaaGreatDoor
namespace Rows

/-- THE TIED CARD OF 'trellislaw27.EvalRing'. -/
def evalRingCard : Claim7 := { stood := { row := evalRingRow, standIns := [], harness := (true, "36651854b00404a642cbee133ca642ab854553e432116df473c19819445ffab4"), looks := true }, kinds := [], alts := [], laidByText := true, laidKinds := [.data, .handle, .data, .data, .data], laidTests := true, laidLooks := .later }
def EvalRingCardSaid : Prop := Claim7.holds Tryz.pinned (.plain (OpenSpec.ofChange evalRingSpec)) evalRingCard

/-- THE TIED CARD OF 'trellislaw27.EvalLimits'. -/
def evalLimitsCard : Claim7 := { stood := { row := evalLimitsRow, standIns := [], harness := (true, "36651854b00404a642cbee133ca642ab854553e432116df473c19819445ffab4"), looks := true }, kinds := [], alts := [], laidByText := true, laidKinds := [.data, .handle, .data, .data, .data], laidTests := true, laidLooks := .later }
def EvalLimitsCardSaid : Prop := Claim7.holds Tryz.pinned (.plain (OpenSpec.ofChange evalLimitsSpec)) evalLimitsCard

/-- THE TIED CARD OF 'trellislaw27.EvalFull'. -/
def evalFullCard : Claim7 := { stood := { row := evalFullRow, standIns := [], harness := (true, "36651854b00404a642cbee133ca642ab854553e432116df473c19819445ffab4"), looks := true }, kinds := [], alts := [], laidByText := true, laidKinds := [.data, .handle, .data, .data, .data], laidTests := true, laidLooks := .later }
def EvalFullCardSaid : Prop := Claim7.holds Tryz.pinned (.plain (OpenSpec.ofChange evalFullSpec)) evalFullCard

/-- THE TIED CARD OF 'trellislaw27.EvalNil'. -/
def evalNilCard : Claim7 := { stood := { row := evalNilRow, standIns := [], harness := (true, "36651854b00404a642cbee133ca642ab854553e432116df473c19819445ffab4"), looks := true }, kinds := [], alts := [], laidByText := true, laidKinds := [.data, .handle, .data, .data, .data], laidTests := true, laidLooks := .later }
def EvalNilCardSaid : Prop := Claim7.holds Tryz.pinned (.plain (OpenSpec.ofChange evalNilSpec)) evalNilCard

/-- THE TIED CARD OF 'trellislaw28.RunFault'. -/
def runFaultCard : Claim7 := { stood := { row := runFaultRow, standIns := [], harness := (true, "36651854b00404a642cbee133ca642ab854553e432116df473c19819445ffab4"), looks := true }, kinds := [], alts := [], laidByText := true, laidKinds := [.data, .handle, .data, .data, .data], laidTests := true, laidLooks := .later }
def RunFaultCardSaid : Prop := Claim7.holds Tryz.pinned (.plain (OpenSpec.ofChange runFaultSpec)) runFaultCard

/-- THE TIED CARD OF 'trellislaw28.RunLong'. -/
def runLongCard : Claim7 := { stood := { row := runLongRow, standIns := [], harness := (true, "36651854b00404a642cbee133ca642ab854553e432116df473c19819445ffab4"), looks := true }, kinds := [], alts := [], laidByText := true, laidKinds := [.data, .handle, .data, .data, .data], laidTests := true, laidLooks := .later }
def RunLongCardSaid : Prop := Claim7.holds Tryz.pinned (.plain (OpenSpec.ofChange runLongSpec)) runLongCard

/-- THE TIED CARD OF 'trellislaw28.RunNil'. -/
def runNilCard : Claim7 := { stood := { row := runNilRow, standIns := [], harness := (true, "36651854b00404a642cbee133ca642ab854553e432116df473c19819445ffab4"), looks := true }, kinds := [], alts := [], laidByText := true, laidKinds := [.data, .handle, .data, .data, .data], laidTests := true, laidLooks := .later }
def RunNilCardSaid : Prop := Claim7.holds Tryz.pinned (.plain (OpenSpec.ofChange runNilSpec)) runNilCard

/-- THE TIED CARD OF 'trellistop.WholeRunPrint'. -/
def wholeRunPrintCard : Claim7 := { stood := { row := wholeRunPrintRow, standIns := [], harness := (true, "36651854b00404a642cbee133ca642ab854553e432116df473c19819445ffab4"), looks := true }, kinds := [], alts := [], laidByText := true, laidKinds := [.data, .handle, .data, .data, .data], laidTests := true, laidLooks := .later }
def WholeRunPrintCardSaid : Prop := Claim7.holds Tryz.pinned (.plain (OpenSpec.ofChange wholeRunPrintSpec)) wholeRunPrintCard

/-- THE SECOND FORM's CARD OF 'trellislaw27.EvalRing'. -/
def evalRingUptoCard : Claim7 := { stood := { row := evalRingUptoRow, standIns := [], harness := (true, "36651854b00404a642cbee133ca642ab854553e432116df473c19819445ffab4"), looks := true }, kinds := [], alts := [], laidByText := true, laidKinds := [.data, .handle, .data, .data, .data], laidTests := true, laidLooks := .later }
def EvalRingUptoCardSaid : Prop := Claim7.holds Tryz.pinned (.plain (OpenSpec.upto evalRingSpec)) evalRingUptoCard

/-- THE SECOND FORM's CARD OF 'trellislaw27.EvalLimits'. -/
def evalLimitsUptoCard : Claim7 := { stood := { row := evalLimitsUptoRow, standIns := [], harness := (true, "36651854b00404a642cbee133ca642ab854553e432116df473c19819445ffab4"), looks := true }, kinds := [], alts := [], laidByText := true, laidKinds := [.data, .handle, .data, .data, .data], laidTests := true, laidLooks := .later }
def EvalLimitsUptoCardSaid : Prop := Claim7.holds Tryz.pinned (.plain (OpenSpec.upto evalLimitsSpec)) evalLimitsUptoCard

/-- THE SECOND FORM's CARD OF 'trellislaw27.EvalFull'. -/
def evalFullUptoCard : Claim7 := { stood := { row := evalFullUptoRow, standIns := [], harness := (true, "36651854b00404a642cbee133ca642ab854553e432116df473c19819445ffab4"), looks := true }, kinds := [], alts := [], laidByText := true, laidKinds := [.data, .handle, .data, .data, .data], laidTests := true, laidLooks := .later }
def EvalFullUptoCardSaid : Prop := Claim7.holds Tryz.pinned (.plain (OpenSpec.upto evalFullSpec)) evalFullUptoCard

/-- THE SECOND FORM's CARD OF 'trellislaw27.EvalNil'. -/
def evalNilUptoCard : Claim7 := { stood := { row := evalNilUptoRow, standIns := [], harness := (true, "36651854b00404a642cbee133ca642ab854553e432116df473c19819445ffab4"), looks := true }, kinds := [], alts := [], laidByText := true, laidKinds := [.data, .handle, .data, .data, .data], laidTests := true, laidLooks := .later }
def EvalNilUptoCardSaid : Prop := Claim7.holds Tryz.pinned (.plain (OpenSpec.upto evalNilSpec)) evalNilUptoCard

/-- THE SECOND FORM's CARD OF 'trellislaw28.RunFault'. -/
def runFaultUptoCard : Claim7 := { stood := { row := runFaultUptoRow, standIns := [], harness := (true, "36651854b00404a642cbee133ca642ab854553e432116df473c19819445ffab4"), looks := true }, kinds := [], alts := [], laidByText := true, laidKinds := [.data, .handle, .data, .data, .data], laidTests := true, laidLooks := .later }
def RunFaultUptoCardSaid : Prop := Claim7.holds Tryz.pinned (.plain (OpenSpec.upto runFaultSpec)) runFaultUptoCard

/-- THE SECOND FORM's CARD OF 'trellislaw28.RunLong'. -/
def runLongUptoCard : Claim7 := { stood := { row := runLongUptoRow, standIns := [], harness := (true, "36651854b00404a642cbee133ca642ab854553e432116df473c19819445ffab4"), looks := true }, kinds := [], alts := [], laidByText := true, laidKinds := [.data, .handle, .data, .data, .data], laidTests := true, laidLooks := .later }
def RunLongUptoCardSaid : Prop := Claim7.holds Tryz.pinned (.plain (OpenSpec.upto runLongSpec)) runLongUptoCard

/-- THE SECOND FORM's CARD OF 'trellislaw28.RunNil'. -/
def runNilUptoCard : Claim7 := { stood := { row := runNilUptoRow, standIns := [], harness := (true, "36651854b00404a642cbee133ca642ab854553e432116df473c19819445ffab4"), looks := true }, kinds := [], alts := [], laidByText := true, laidKinds := [.data, .handle, .data, .data, .data], laidTests := true, laidLooks := .later }
def RunNilUptoCardSaid : Prop := Claim7.holds Tryz.pinned (.plain (OpenSpec.upto runNilSpec)) runNilUptoCard

/-- THE SECOND FORM's CARD OF 'trellistop.WholeRunPrint'. -/
def wholeRunPrintUptoCard : Claim7 := { stood := { row := wholeRunPrintUptoRow, standIns := [], harness := (true, "36651854b00404a642cbee133ca642ab854553e432116df473c19819445ffab4"), looks := true }, kinds := [], alts := [], laidByText := true, laidKinds := [.data, .handle, .data, .data, .data], laidTests := true, laidLooks := .later }
def WholeRunPrintUptoCardSaid : Prop := Claim7.holds Tryz.pinned (.plain (OpenSpec.upto wholeRunPrintSpec)) wholeRunPrintUptoCard
end Rows
end Go.Proofs.YtceggplnggkdnaaGreatDoor
