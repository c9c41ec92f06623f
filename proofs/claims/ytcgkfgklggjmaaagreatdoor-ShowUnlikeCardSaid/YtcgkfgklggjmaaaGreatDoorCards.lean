/-
  DERIVED. GIVEN WITH THE SEED: THE CARDS: each row of YtcgkfgklggjmaaaGreatDoorRows.lean that lists a variable, with what it lists TIED to the program's text (the seventh form; the later family's looks); each row that meets fmt, with fmt's text TOLD by the authors' own Lean function (tested against real Go, not proved from fmt's source: count such statements apart). THE CARD IS WHAT COUNTS. Prove the row's statement (the work); the ties are given (YtcgkfgklggjmaaaGreatDoorTie.lean); close each card by the builder's one call (the guide's Derived/Test/ToyasCard.lean, 'card_holds'). Laid BY PROGRAM, IN A SANDBOX (cutbox-door.mjs). By AI agents, Wed Nov 11 2026. No macro, syntax, notation, axiom, sorry.
-/
import Derived.Test.YtcgkfgklggjmaaaGreatDoorRows
import GoSem.ClaimSeven
namespace Go.Proofs.YtcgkfgklggjmaaaGreatDoor
namespace Rows

/-- THE TIED CARD OF 'poundagelaw08.ShowIs'. -/
def showIsCard : Claim7 := { stood := { row := showIsRow, standIns := [], harness := (true, "d235174d10202d22f78c718a098cbe62151e409a1c7dbbc5a94709ac99241c03"), looks := true }, kinds := [], alts := [], laidByText := true, laidKinds := [.data, .data, .data, .data, .pinned], laidTests := true, laidLooks := .later }
def ShowIsCardSaid : Prop := Claim7.holds Tryz.pinned (.plain (OpenSpec.ofChange showIsSpec)) showIsCard

/-- THE TIED CARD OF 'poundagelaw07.ParseIs'. -/
def parseIsCard : Claim7 := { stood := { row := parseIsRow, standIns := [], harness := (true, "d235174d10202d22f78c718a098cbe62151e409a1c7dbbc5a94709ac99241c03"), looks := true }, kinds := [], alts := [], laidByText := true, laidKinds := [.data, .data, .data, .sentinel, .sentinel], laidTests := true, laidLooks := .later }
def ParseIsCardSaid : Prop := Claim7.holds Tryz.pinned (.plain (OpenSpec.ofChange parseIsSpec)) parseIsCard

/-- THE TIED CARD OF 'poundagelaw08.ShowBack'. -/
def showBackCard : Claim7 := { stood := { row := showBackRow, standIns := [], harness := (true, "d235174d10202d22f78c718a098cbe62151e409a1c7dbbc5a94709ac99241c03"), looks := true }, kinds := [], alts := [], laidByText := true, laidKinds := [.data, .data, .data, .data, .sentinel, .sentinel, .pinned], laidTests := true, laidLooks := .later }
def ShowBackCardSaid : Prop := Claim7.holds Tryz.pinned (.plain (OpenSpec.ofChange showBackSpec)) showBackCard

/-- THE TIED CARD OF 'poundagelaw08.ShowUnlike'. -/
def showUnlikeCard : Claim7 := { stood := { row := showUnlikeRow, standIns := [], harness := (true, "d235174d10202d22f78c718a098cbe62151e409a1c7dbbc5a94709ac99241c03"), looks := true }, kinds := [], alts := [], laidByText := true, laidKinds := [.data, .data, .data, .data, .sentinel, .sentinel, .pinned], laidTests := true, laidLooks := .later }
def ShowUnlikeCardSaid : Prop := Claim7.holds Tryz.pinned (.plain (OpenSpec.ofChange showUnlikeSpec)) showUnlikeCard

/-- THE TIED CARD OF 'poundagelaw10.CoreReads'. -/
def coreReadsCard : Claim7 := { stood := { row := coreReadsRow, standIns := [], harness := (true, "d235174d10202d22f78c718a098cbe62151e409a1c7dbbc5a94709ac99241c03"), looks := true }, kinds := [], alts := [], laidByText := true, laidKinds := [.data, .data, .data, .sentinel, .sentinel], laidTests := true, laidLooks := .later }
def CoreReadsCardSaid : Prop := Claim7.holds Tryz.pinned (.plain (OpenSpec.ofChange coreReadsSpec)) coreReadsCard

/-- THE TIED CARD OF 'poundagelaw10.CoreCan'. -/
def coreCanCard : Claim7 := { stood := { row := coreCanRow, standIns := [], harness := (true, "d235174d10202d22f78c718a098cbe62151e409a1c7dbbc5a94709ac99241c03"), looks := true }, kinds := [], alts := [], laidByText := true, laidKinds := [.data, .data, .data, .sentinel, .sentinel], laidTests := true, laidLooks := .later }
def CoreCanCardSaid : Prop := Claim7.holds Tryz.pinned (.plain (OpenSpec.ofChange coreCanSpec)) coreCanCard

/-- THE TIED CARD OF 'poundagelaw10.CoreMakes'. -/
def coreMakesCard : Claim7 := { stood := { row := coreMakesRow, standIns := [], harness := (true, "d235174d10202d22f78c718a098cbe62151e409a1c7dbbc5a94709ac99241c03"), looks := true }, kinds := [], alts := [], laidByText := true, laidKinds := [.data, .data, .data, .sentinel, .sentinel], laidTests := true, laidLooks := .later }
def CoreMakesCardSaid : Prop := Claim7.holds Tryz.pinned (.plain (OpenSpec.ofChange coreMakesSpec)) coreMakesCard

/-- THE TIED CARD OF 'poundagelaw10.CoreNames'. -/
def coreNamesCard : Claim7 := { stood := { row := coreNamesRow, standIns := [], harness := (true, "d235174d10202d22f78c718a098cbe62151e409a1c7dbbc5a94709ac99241c03"), looks := true }, kinds := [], alts := [], laidByText := true, laidKinds := [.data, .data, .data, .sentinel, .sentinel], laidTests := true, laidLooks := .later }
def CoreNamesCardSaid : Prop := Claim7.holds Tryz.pinned (.plain (OpenSpec.ofChange coreNamesSpec)) coreNamesCard

/-- THE TIED CARD OF 'poundagelaw10.CoreWindows'. -/
def coreWindowsCard : Claim7 := { stood := { row := coreWindowsRow, standIns := [], harness := (true, "d235174d10202d22f78c718a098cbe62151e409a1c7dbbc5a94709ac99241c03"), looks := true }, kinds := [], alts := [], laidByText := true, laidKinds := [.data, .data, .data, .sentinel, .sentinel], laidTests := true, laidLooks := .later }
def CoreWindowsCardSaid : Prop := Claim7.holds Tryz.pinned (.plain (OpenSpec.ofChange coreWindowsSpec)) coreWindowsCard

/-- THE SECOND FORM's CARD OF 'poundagelaw08.ShowIs'. -/
def showIsUptoCard : Claim7 := { stood := { row := showIsUptoRow, standIns := [], harness := (true, "d235174d10202d22f78c718a098cbe62151e409a1c7dbbc5a94709ac99241c03"), looks := true }, kinds := [], alts := [], laidByText := true, laidKinds := [.data, .data, .data, .data, .pinned], laidTests := true, laidLooks := .later }
def ShowIsUptoCardSaid : Prop := Claim7.holds Tryz.pinned (.plain (OpenSpec.upto showIsSpec)) showIsUptoCard

/-- THE SECOND FORM's CARD OF 'poundagelaw07.ParseIs'. -/
def parseIsUptoCard : Claim7 := { stood := { row := parseIsUptoRow, standIns := [], harness := (true, "d235174d10202d22f78c718a098cbe62151e409a1c7dbbc5a94709ac99241c03"), looks := true }, kinds := [], alts := [], laidByText := true, laidKinds := [.data, .data, .data, .sentinel, .sentinel], laidTests := true, laidLooks := .later }
def ParseIsUptoCardSaid : Prop := Claim7.holds Tryz.pinned (.plain (OpenSpec.upto parseIsSpec)) parseIsUptoCard

/-- THE SECOND FORM's CARD OF 'poundagelaw08.ShowBack'. -/
def showBackUptoCard : Claim7 := { stood := { row := showBackUptoRow, standIns := [], harness := (true, "d235174d10202d22f78c718a098cbe62151e409a1c7dbbc5a94709ac99241c03"), looks := true }, kinds := [], alts := [], laidByText := true, laidKinds := [.data, .data, .data, .data, .sentinel, .sentinel, .pinned], laidTests := true, laidLooks := .later }
def ShowBackUptoCardSaid : Prop := Claim7.holds Tryz.pinned (.plain (OpenSpec.upto showBackSpec)) showBackUptoCard

/-- THE SECOND FORM's CARD OF 'poundagelaw08.ShowUnlike'. -/
def showUnlikeUptoCard : Claim7 := { stood := { row := showUnlikeUptoRow, standIns := [], harness := (true, "d235174d10202d22f78c718a098cbe62151e409a1c7dbbc5a94709ac99241c03"), looks := true }, kinds := [], alts := [], laidByText := true, laidKinds := [.data, .data, .data, .data, .sentinel, .sentinel, .pinned], laidTests := true, laidLooks := .later }
def ShowUnlikeUptoCardSaid : Prop := Claim7.holds Tryz.pinned (.plain (OpenSpec.upto showUnlikeSpec)) showUnlikeUptoCard

/-- THE SECOND FORM's CARD OF 'poundagelaw10.CoreReads'. -/
def coreReadsUptoCard : Claim7 := { stood := { row := coreReadsUptoRow, standIns := [], harness := (true, "d235174d10202d22f78c718a098cbe62151e409a1c7dbbc5a94709ac99241c03"), looks := true }, kinds := [], alts := [], laidByText := true, laidKinds := [.data, .data, .data, .sentinel, .sentinel], laidTests := true, laidLooks := .later }
def CoreReadsUptoCardSaid : Prop := Claim7.holds Tryz.pinned (.plain (OpenSpec.upto coreReadsSpec)) coreReadsUptoCard

/-- THE SECOND FORM's CARD OF 'poundagelaw10.CoreCan'. -/
def coreCanUptoCard : Claim7 := { stood := { row := coreCanUptoRow, standIns := [], harness := (true, "d235174d10202d22f78c718a098cbe62151e409a1c7dbbc5a94709ac99241c03"), looks := true }, kinds := [], alts := [], laidByText := true, laidKinds := [.data, .data, .data, .sentinel, .sentinel], laidTests := true, laidLooks := .later }
def CoreCanUptoCardSaid : Prop := Claim7.holds Tryz.pinned (.plain (OpenSpec.upto coreCanSpec)) coreCanUptoCard

/-- THE SECOND FORM's CARD OF 'poundagelaw10.CoreMakes'. -/
def coreMakesUptoCard : Claim7 := { stood := { row := coreMakesUptoRow, standIns := [], harness := (true, "d235174d10202d22f78c718a098cbe62151e409a1c7dbbc5a94709ac99241c03"), looks := true }, kinds := [], alts := [], laidByText := true, laidKinds := [.data, .data, .data, .sentinel, .sentinel], laidTests := true, laidLooks := .later }
def CoreMakesUptoCardSaid : Prop := Claim7.holds Tryz.pinned (.plain (OpenSpec.upto coreMakesSpec)) coreMakesUptoCard

/-- THE SECOND FORM's CARD OF 'poundagelaw10.CoreNames'. -/
def coreNamesUptoCard : Claim7 := { stood := { row := coreNamesUptoRow, standIns := [], harness := (true, "d235174d10202d22f78c718a098cbe62151e409a1c7dbbc5a94709ac99241c03"), looks := true }, kinds := [], alts := [], laidByText := true, laidKinds := [.data, .data, .data, .sentinel, .sentinel], laidTests := true, laidLooks := .later }
def CoreNamesUptoCardSaid : Prop := Claim7.holds Tryz.pinned (.plain (OpenSpec.upto coreNamesSpec)) coreNamesUptoCard

/-- THE SECOND FORM's CARD OF 'poundagelaw10.CoreWindows'. -/
def coreWindowsUptoCard : Claim7 := { stood := { row := coreWindowsUptoRow, standIns := [], harness := (true, "d235174d10202d22f78c718a098cbe62151e409a1c7dbbc5a94709ac99241c03"), looks := true }, kinds := [], alts := [], laidByText := true, laidKinds := [.data, .data, .data, .sentinel, .sentinel], laidTests := true, laidLooks := .later }
def CoreWindowsUptoCardSaid : Prop := Claim7.holds Tryz.pinned (.plain (OpenSpec.upto coreWindowsSpec)) coreWindowsUptoCard
end Rows
end Go.Proofs.YtcgkfgklggjmaaaGreatDoor
