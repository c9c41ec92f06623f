/-
  DERIVED. GIVEN WITH THE SEED: THE CARDS: each row of YtcgkfgklggjmaaaDoorRows.lean that lists a variable, with what it lists TIED to the program's text (the seventh form; the later family's looks); each row that meets fmt, with fmt's text TOLD by the authors' own Lean function (tested against real Go, not proved from fmt's source: count such statements apart). THE CARD IS WHAT COUNTS. Prove the row's statement (the work); the ties are given (YtcgkfgklggjmaaaDoorTie.lean); close each card by the builder's one call (the guide's Derived/Test/ToyasCard.lean, 'card_holds'). Laid BY PROGRAM, IN A SANDBOX (cutbox-door.mjs). By AI agents, Wed Nov 11 2026. No macro, syntax, notation, axiom, sorry.
-/
import Derived.Test.YtcgkfgklggjmaaaDoorRows
import GoSem.ClaimSeven
namespace Go.Proofs.YtcgkfgklggjmaaaDoor
namespace Rows

/-- THE TIED CARD OF 'poundagelaw09.CheckParts'. -/
def checkPartsCard : Claim7 := { stood := { row := checkPartsRow, standIns := [], harness := (true, "9f786f7eea1bc6dff26e3f1bae4c1ea40d9235b3249582d695280f6280949fe9"), looks := true }, kinds := [], alts := [], laidByText := true, laidKinds := [.data, .data, .data], laidTests := true, laidLooks := .later }
def CheckPartsCardSaid : Prop := Claim7.holds Tryd.pinned (.plain (OpenSpec.ofChange checkPartsSpec)) checkPartsCard

/-- THE TIED CARD OF 'poundagelaw09.CheckPlain'. -/
def checkPlainCard : Claim7 := { stood := { row := checkPlainRow, standIns := [], harness := (true, "9f786f7eea1bc6dff26e3f1bae4c1ea40d9235b3249582d695280f6280949fe9"), looks := true }, kinds := [], alts := [], laidByText := true, laidKinds := [.data, .data, .data], laidTests := true, laidLooks := .later }
def CheckPlainCardSaid : Prop := Claim7.holds Tryd.pinned (.plain (OpenSpec.ofChange checkPlainSpec)) checkPlainCard

/-- THE TIED CARD OF 'poundagelaw08.ShowParts'. -/
def showPartsCard : Claim7 := { stood := { row := showPartsRow, standIns := [], harness := (true, "9f786f7eea1bc6dff26e3f1bae4c1ea40d9235b3249582d695280f6280949fe9"), looks := true }, kinds := [], alts := [], laidByText := true, laidKinds := [.data, .data, .data, .data, .pinned], laidTests := true, laidLooks := .later }
def ShowPartsCardSaid : Prop := Claim7.holds Tryd.pinned (.plain (OpenSpec.ofChange showPartsSpec)) showPartsCard

/-- THE TIED CARD OF 'poundagelaw08.ShowLines'. -/
def showLinesCard : Claim7 := { stood := { row := showLinesRow, standIns := [], harness := (true, "9f786f7eea1bc6dff26e3f1bae4c1ea40d9235b3249582d695280f6280949fe9"), looks := true }, kinds := [], alts := [], laidByText := true, laidKinds := [.data, .data, .data, .data, .pinned], laidTests := true, laidLooks := .later }
def ShowLinesCardSaid : Prop := Claim7.holds Tryd.pinned (.plain (OpenSpec.ofChange showLinesSpec)) showLinesCard

/-- THE TIED CARD OF 'poundagelaw07.ParseItems'. -/
def parseItemsCard : Claim7 := { stood := { row := parseItemsRow, standIns := [], harness := (true, "9f786f7eea1bc6dff26e3f1bae4c1ea40d9235b3249582d695280f6280949fe9"), looks := true }, kinds := [], alts := [], laidByText := true, laidKinds := [.data, .data, .data, .sentinel, .sentinel], laidTests := true, laidLooks := .later }
def ParseItemsCardSaid : Prop := Claim7.holds Tryd.pinned (.plain (OpenSpec.ofChange parseItemsSpec)) parseItemsCard

/-- THE TIED CARD OF 'poundagelaw07.ParseCuts'. -/
def parseCutsCard : Claim7 := { stood := { row := parseCutsRow, standIns := [], harness := (true, "9f786f7eea1bc6dff26e3f1bae4c1ea40d9235b3249582d695280f6280949fe9"), looks := true }, kinds := [], alts := [], laidByText := true, laidKinds := [.data, .data, .data, .sentinel, .sentinel], laidTests := true, laidLooks := .later }
def ParseCutsCardSaid : Prop := Claim7.holds Tryd.pinned (.plain (OpenSpec.ofChange parseCutsSpec)) parseCutsCard

/-- THE TIED CARD OF 'poundagelaw07.ParseNumbers'. -/
def parseNumbersCard : Claim7 := { stood := { row := parseNumbersRow, standIns := [], harness := (true, "9f786f7eea1bc6dff26e3f1bae4c1ea40d9235b3249582d695280f6280949fe9"), looks := true }, kinds := [], alts := [], laidByText := true, laidKinds := [.data, .data, .data, .sentinel, .sentinel], laidTests := true, laidLooks := .later }
def ParseNumbersCardSaid : Prop := Claim7.holds Tryd.pinned (.plain (OpenSpec.ofChange parseNumbersSpec)) parseNumbersCard

/-- THE SECOND FORM's CARD OF 'poundagelaw09.CheckParts'. -/
def checkPartsUptoCard : Claim7 := { stood := { row := checkPartsUptoRow, standIns := [], harness := (true, "9f786f7eea1bc6dff26e3f1bae4c1ea40d9235b3249582d695280f6280949fe9"), looks := true }, kinds := [], alts := [], laidByText := true, laidKinds := [.data, .data, .data], laidTests := true, laidLooks := .later }
def CheckPartsUptoCardSaid : Prop := Claim7.holds Tryd.pinned (.plain (OpenSpec.upto checkPartsSpec)) checkPartsUptoCard

/-- THE SECOND FORM's CARD OF 'poundagelaw09.CheckPlain'. -/
def checkPlainUptoCard : Claim7 := { stood := { row := checkPlainUptoRow, standIns := [], harness := (true, "9f786f7eea1bc6dff26e3f1bae4c1ea40d9235b3249582d695280f6280949fe9"), looks := true }, kinds := [], alts := [], laidByText := true, laidKinds := [.data, .data, .data], laidTests := true, laidLooks := .later }
def CheckPlainUptoCardSaid : Prop := Claim7.holds Tryd.pinned (.plain (OpenSpec.upto checkPlainSpec)) checkPlainUptoCard

/-- THE SECOND FORM's CARD OF 'poundagelaw08.ShowParts'. -/
def showPartsUptoCard : Claim7 := { stood := { row := showPartsUptoRow, standIns := [], harness := (true, "9f786f7eea1bc6dff26e3f1bae4c1ea40d9235b3249582d695280f6280949fe9"), looks := true }, kinds := [], alts := [], laidByText := true, laidKinds := [.data, .data, .data, .data, .pinned], laidTests := true, laidLooks := .later }
def ShowPartsUptoCardSaid : Prop := Claim7.holds Tryd.pinned (.plain (OpenSpec.upto showPartsSpec)) showPartsUptoCard

/-- THE SECOND FORM's CARD OF 'poundagelaw08.ShowLines'. -/
def showLinesUptoCard : Claim7 := { stood := { row := showLinesUptoRow, standIns := [], harness := (true, "9f786f7eea1bc6dff26e3f1bae4c1ea40d9235b3249582d695280f6280949fe9"), looks := true }, kinds := [], alts := [], laidByText := true, laidKinds := [.data, .data, .data, .data, .pinned], laidTests := true, laidLooks := .later }
def ShowLinesUptoCardSaid : Prop := Claim7.holds Tryd.pinned (.plain (OpenSpec.upto showLinesSpec)) showLinesUptoCard

/-- THE SECOND FORM's CARD OF 'poundagelaw07.ParseItems'. -/
def parseItemsUptoCard : Claim7 := { stood := { row := parseItemsUptoRow, standIns := [], harness := (true, "9f786f7eea1bc6dff26e3f1bae4c1ea40d9235b3249582d695280f6280949fe9"), looks := true }, kinds := [], alts := [], laidByText := true, laidKinds := [.data, .data, .data, .sentinel, .sentinel], laidTests := true, laidLooks := .later }
def ParseItemsUptoCardSaid : Prop := Claim7.holds Tryd.pinned (.plain (OpenSpec.upto parseItemsSpec)) parseItemsUptoCard

/-- THE SECOND FORM's CARD OF 'poundagelaw07.ParseCuts'. -/
def parseCutsUptoCard : Claim7 := { stood := { row := parseCutsUptoRow, standIns := [], harness := (true, "9f786f7eea1bc6dff26e3f1bae4c1ea40d9235b3249582d695280f6280949fe9"), looks := true }, kinds := [], alts := [], laidByText := true, laidKinds := [.data, .data, .data, .sentinel, .sentinel], laidTests := true, laidLooks := .later }
def ParseCutsUptoCardSaid : Prop := Claim7.holds Tryd.pinned (.plain (OpenSpec.upto parseCutsSpec)) parseCutsUptoCard

/-- THE SECOND FORM's CARD OF 'poundagelaw07.ParseNumbers'. -/
def parseNumbersUptoCard : Claim7 := { stood := { row := parseNumbersUptoRow, standIns := [], harness := (true, "9f786f7eea1bc6dff26e3f1bae4c1ea40d9235b3249582d695280f6280949fe9"), looks := true }, kinds := [], alts := [], laidByText := true, laidKinds := [.data, .data, .data, .sentinel, .sentinel], laidTests := true, laidLooks := .later }
def ParseNumbersUptoCardSaid : Prop := Claim7.holds Tryd.pinned (.plain (OpenSpec.upto parseNumbersSpec)) parseNumbersUptoCard
end Rows
end Go.Proofs.YtcgkfgklggjmaaaDoor
