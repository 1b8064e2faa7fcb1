/-
  DERIVED. GIVEN WITH THE SEED: THE CARDS: each row of YtgfmiladfeoldaaGreatDoorRows.lean that lists a variable, with what it lists TIED to the program's text (the seventh form; the later family's looks); each row that meets fmt, with fmt's text TOLD by the authors' own Lean function (tested against real Go, not proved from fmt's source: count such statements apart). THE CARD IS WHAT COUNTS. Prove the row's statement (the work); the ties are given (YtgfmiladfeoldaaGreatDoorTie.lean); close each card by the builder's one call (the guide's Derived/Test/ToyasCard.lean, 'card_holds'). Laid BY PROGRAM, IN A SANDBOX (cutbox-door.mjs). By AI agents, Wed Nov 11 2026. No macro, syntax, notation, axiom, sorry.
-/
import Derived.Test.YtgfmiladfeoldaaGreatDoorRows
import GoSem.ClaimSeven
namespace Go.Proofs.YtgfmiladfeoldaaGreatDoor
namespace Rows

/-- THE TIED CARD OF 'trellislaw26.SyntaxBack'. -/
def syntaxBackCard : Claim7 := { stood := { row := syntaxBackRow, standIns := [], harness := (true, "1f45b84775363bf8e2222e170eabc7910a866ce765de4deb505d72284f205f1a"), looks := true }, kinds := [], alts := [], laidByText := true, laidKinds := [.data], laidTests := true, laidLooks := .later }
def SyntaxBackCardSaid : Prop := Claim7.holds Tryz.pinned (.plain (OpenSpec.ofChange syntaxBackSpec)) syntaxBackCard

/-- THE TIED CARD OF 'trellislaw26.SyntaxTrees'. -/
def syntaxTreesCard : Claim7 := { stood := { row := syntaxTreesRow, standIns := [], harness := (true, "1f45b84775363bf8e2222e170eabc7910a866ce765de4deb505d72284f205f1a"), looks := true }, kinds := [], alts := [], laidByText := true, laidKinds := [.data], laidTests := true, laidLooks := .later }
def SyntaxTreesCardSaid : Prop := Claim7.holds Tryz.pinned (.plain (OpenSpec.ofChange syntaxTreesSpec)) syntaxTreesCard

/-- THE TIED CARD OF 'trellislaw26.SyntaxBlanks'. -/
def syntaxBlanksCard : Claim7 := { stood := { row := syntaxBlanksRow, standIns := [], harness := (true, "1f45b84775363bf8e2222e170eabc7910a866ce765de4deb505d72284f205f1a"), looks := true }, kinds := [], alts := [], laidByText := true, laidKinds := [.data], laidTests := true, laidLooks := .later }
def SyntaxBlanksCardSaid : Prop := Claim7.holds Tryz.pinned (.plain (OpenSpec.ofChange syntaxBlanksSpec)) syntaxBlanksCard

/-- THE TIED CARD OF 'trellislaw26.SyntaxKeeps'. -/
def syntaxKeepsCard : Claim7 := { stood := { row := syntaxKeepsRow, standIns := [], harness := (true, "1f45b84775363bf8e2222e170eabc7910a866ce765de4deb505d72284f205f1a"), looks := true }, kinds := [], alts := [], laidByText := true, laidKinds := [.data], laidTests := true, laidLooks := .later }
def SyntaxKeepsCardSaid : Prop := Claim7.holds Tryz.pinned (.plain (OpenSpec.ofChange syntaxKeepsSpec)) syntaxKeepsCard

/-- THE TIED CARD OF 'trellislaw26.SyntaxStays'. -/
def syntaxStaysCard : Claim7 := { stood := { row := syntaxStaysRow, standIns := [], harness := (true, "1f45b84775363bf8e2222e170eabc7910a866ce765de4deb505d72284f205f1a"), looks := true }, kinds := [], alts := [], laidByText := true, laidKinds := [.data], laidTests := true, laidLooks := .later }
def SyntaxStaysCardSaid : Prop := Claim7.holds Tryz.pinned (.plain (OpenSpec.ofChange syntaxStaysSpec)) syntaxStaysCard

/-- THE TIED CARD OF 'trellislaw26.SyntaxParses'. -/
def syntaxParsesCard : Claim7 := { stood := { row := syntaxParsesRow, standIns := [], harness := (true, "1f45b84775363bf8e2222e170eabc7910a866ce765de4deb505d72284f205f1a"), looks := true }, kinds := [], alts := [], laidByText := true, laidKinds := [.data, .data, .data, .data], laidTests := true, laidLooks := .later }
def SyntaxParsesCardSaid : Prop := Claim7.holds Tryz.pinned (.plain (OpenSpec.ofChange syntaxParsesSpec)) syntaxParsesCard

/-- THE TIED CARD OF 'trellislaw26.SyntaxPrints'. -/
def syntaxPrintsCard : Claim7 := { stood := { row := syntaxPrintsRow, standIns := [], harness := (true, "1f45b84775363bf8e2222e170eabc7910a866ce765de4deb505d72284f205f1a"), looks := true }, kinds := [], alts := [], laidByText := true, laidKinds := [.data, .data, .data, .data], laidTests := true, laidLooks := .later }
def SyntaxPrintsCardSaid : Prop := Claim7.holds Tryz.pinned (.plain (OpenSpec.ofChange syntaxPrintsSpec)) syntaxPrintsCard

/-- THE TIED CARD OF 'trellislaw26.SyntaxLimits'. -/
def syntaxLimitsCard : Claim7 := { stood := { row := syntaxLimitsRow, standIns := [], harness := (true, "1f45b84775363bf8e2222e170eabc7910a866ce765de4deb505d72284f205f1a"), looks := true }, kinds := [], alts := [], laidByText := true, laidKinds := [.data, .data, .data, .data], laidTests := true, laidLooks := .later }
def SyntaxLimitsCardSaid : Prop := Claim7.holds Tryz.pinned (.plain (OpenSpec.ofChange syntaxLimitsSpec)) syntaxLimitsCard

/-- THE TIED CARD OF 'trellislaw26.SyntaxTexts'. -/
def syntaxTextsCard : Claim7 := { stood := { row := syntaxTextsRow, standIns := [], harness := (true, "1f45b84775363bf8e2222e170eabc7910a866ce765de4deb505d72284f205f1a"), looks := true }, kinds := [], alts := [], laidByText := true, laidKinds := [.data, .data, .data, .data], laidTests := true, laidLooks := .later }
def SyntaxTextsCardSaid : Prop := Claim7.holds Tryz.pinned (.plain (OpenSpec.ofChange syntaxTextsSpec)) syntaxTextsCard

/-- THE SECOND FORM's CARD OF 'trellislaw26.SyntaxBack'. -/
def syntaxBackUptoCard : Claim7 := { stood := { row := syntaxBackUptoRow, standIns := [], harness := (true, "1f45b84775363bf8e2222e170eabc7910a866ce765de4deb505d72284f205f1a"), looks := true }, kinds := [], alts := [], laidByText := true, laidKinds := [.data], laidTests := true, laidLooks := .later }
def SyntaxBackUptoCardSaid : Prop := Claim7.holds Tryz.pinned (.plain (OpenSpec.upto syntaxBackSpec)) syntaxBackUptoCard

/-- THE SECOND FORM's CARD OF 'trellislaw26.SyntaxTrees'. -/
def syntaxTreesUptoCard : Claim7 := { stood := { row := syntaxTreesUptoRow, standIns := [], harness := (true, "1f45b84775363bf8e2222e170eabc7910a866ce765de4deb505d72284f205f1a"), looks := true }, kinds := [], alts := [], laidByText := true, laidKinds := [.data], laidTests := true, laidLooks := .later }
def SyntaxTreesUptoCardSaid : Prop := Claim7.holds Tryz.pinned (.plain (OpenSpec.upto syntaxTreesSpec)) syntaxTreesUptoCard

/-- THE SECOND FORM's CARD OF 'trellislaw26.SyntaxBlanks'. -/
def syntaxBlanksUptoCard : Claim7 := { stood := { row := syntaxBlanksUptoRow, standIns := [], harness := (true, "1f45b84775363bf8e2222e170eabc7910a866ce765de4deb505d72284f205f1a"), looks := true }, kinds := [], alts := [], laidByText := true, laidKinds := [.data], laidTests := true, laidLooks := .later }
def SyntaxBlanksUptoCardSaid : Prop := Claim7.holds Tryz.pinned (.plain (OpenSpec.upto syntaxBlanksSpec)) syntaxBlanksUptoCard

/-- THE SECOND FORM's CARD OF 'trellislaw26.SyntaxKeeps'. -/
def syntaxKeepsUptoCard : Claim7 := { stood := { row := syntaxKeepsUptoRow, standIns := [], harness := (true, "1f45b84775363bf8e2222e170eabc7910a866ce765de4deb505d72284f205f1a"), looks := true }, kinds := [], alts := [], laidByText := true, laidKinds := [.data], laidTests := true, laidLooks := .later }
def SyntaxKeepsUptoCardSaid : Prop := Claim7.holds Tryz.pinned (.plain (OpenSpec.upto syntaxKeepsSpec)) syntaxKeepsUptoCard

/-- THE SECOND FORM's CARD OF 'trellislaw26.SyntaxStays'. -/
def syntaxStaysUptoCard : Claim7 := { stood := { row := syntaxStaysUptoRow, standIns := [], harness := (true, "1f45b84775363bf8e2222e170eabc7910a866ce765de4deb505d72284f205f1a"), looks := true }, kinds := [], alts := [], laidByText := true, laidKinds := [.data], laidTests := true, laidLooks := .later }
def SyntaxStaysUptoCardSaid : Prop := Claim7.holds Tryz.pinned (.plain (OpenSpec.upto syntaxStaysSpec)) syntaxStaysUptoCard

/-- THE SECOND FORM's CARD OF 'trellislaw26.SyntaxParses'. -/
def syntaxParsesUptoCard : Claim7 := { stood := { row := syntaxParsesUptoRow, standIns := [], harness := (true, "1f45b84775363bf8e2222e170eabc7910a866ce765de4deb505d72284f205f1a"), looks := true }, kinds := [], alts := [], laidByText := true, laidKinds := [.data, .data, .data, .data], laidTests := true, laidLooks := .later }
def SyntaxParsesUptoCardSaid : Prop := Claim7.holds Tryz.pinned (.plain (OpenSpec.upto syntaxParsesSpec)) syntaxParsesUptoCard

/-- THE SECOND FORM's CARD OF 'trellislaw26.SyntaxPrints'. -/
def syntaxPrintsUptoCard : Claim7 := { stood := { row := syntaxPrintsUptoRow, standIns := [], harness := (true, "1f45b84775363bf8e2222e170eabc7910a866ce765de4deb505d72284f205f1a"), looks := true }, kinds := [], alts := [], laidByText := true, laidKinds := [.data, .data, .data, .data], laidTests := true, laidLooks := .later }
def SyntaxPrintsUptoCardSaid : Prop := Claim7.holds Tryz.pinned (.plain (OpenSpec.upto syntaxPrintsSpec)) syntaxPrintsUptoCard

/-- THE SECOND FORM's CARD OF 'trellislaw26.SyntaxLimits'. -/
def syntaxLimitsUptoCard : Claim7 := { stood := { row := syntaxLimitsUptoRow, standIns := [], harness := (true, "1f45b84775363bf8e2222e170eabc7910a866ce765de4deb505d72284f205f1a"), looks := true }, kinds := [], alts := [], laidByText := true, laidKinds := [.data, .data, .data, .data], laidTests := true, laidLooks := .later }
def SyntaxLimitsUptoCardSaid : Prop := Claim7.holds Tryz.pinned (.plain (OpenSpec.upto syntaxLimitsSpec)) syntaxLimitsUptoCard

/-- THE SECOND FORM's CARD OF 'trellislaw26.SyntaxTexts'. -/
def syntaxTextsUptoCard : Claim7 := { stood := { row := syntaxTextsUptoRow, standIns := [], harness := (true, "1f45b84775363bf8e2222e170eabc7910a866ce765de4deb505d72284f205f1a"), looks := true }, kinds := [], alts := [], laidByText := true, laidKinds := [.data, .data, .data, .data], laidTests := true, laidLooks := .later }
def SyntaxTextsUptoCardSaid : Prop := Claim7.holds Tryz.pinned (.plain (OpenSpec.upto syntaxTextsSpec)) syntaxTextsUptoCard
end Rows
end Go.Proofs.YtgfmiladfeoldaaGreatDoor
