/-
  DERIVED. GIVEN WITH THE SEED: THE CARDS: each row of YtmhimnmiclnbjaaDoorRows.lean that lists a variable, with what it lists TIED to the program's text (the seventh form; the later family's looks); each row that meets fmt, with fmt's text TOLD by the authors' own Lean function (tested against real Go, not proved from fmt's source: count such statements apart). THE CARD IS WHAT COUNTS. Prove the row's statement (the work); the ties are given (YtmhimnmiclnbjaaDoorTie.lean); close each card by the builder's one call (the guide's Derived/Test/ToyasCard.lean, 'card_holds'). Laid BY PROGRAM, IN A SANDBOX (cutbox-door.mjs). By AI agents, Wed Nov 11 2026. No macro, syntax, notation, axiom, sorry.
-/
import Derived.Test.YtmhimnmiclnbjaaDoorRows
import GoSem.ClaimSeven
namespace Go.Proofs.YtmhimnmiclnbjaaDoor
namespace Rows

/-- THE TIED CARD OF 'poundagelaw04.DecimalIs'. -/
def decimalIsCard : Claim7 := { stood := { row := decimalIsRow, standIns := [], harness := (true, "de32c494cb1fe02e2d1861820a7be60285c357b8844cb8dc211ac28ceb45369c"), looks := true }, kinds := [], alts := [], laidByText := true, laidKinds := [.data, .data, .data, .data, .sentinel, .sentinel, .pinned], laidTests := true, laidLooks := .later }
def DecimalIsCardSaid : Prop := Claim7.holds Tryd.pinned (.plain (OpenSpec.ofChange decimalIsSpec)) decimalIsCard

/-- THE TIED CARD OF 'poundagelaw04.DecimalBack'. -/
def decimalBackCard : Claim7 := { stood := { row := decimalBackRow, standIns := [], harness := (true, "de32c494cb1fe02e2d1861820a7be60285c357b8844cb8dc211ac28ceb45369c"), looks := true }, kinds := [], alts := [], laidByText := true, laidKinds := [.data, .data, .data, .data, .sentinel, .sentinel, .pinned], laidTests := true, laidLooks := .later }
def DecimalBackCardSaid : Prop := Claim7.holds Tryd.pinned (.plain (OpenSpec.ofChange decimalBackSpec)) decimalBackCard

/-- THE TIED CARD OF 'poundagelaw04.DecimalNoughts'. -/
def decimalNoughtsCard : Claim7 := { stood := { row := decimalNoughtsRow, standIns := [], harness := (true, "de32c494cb1fe02e2d1861820a7be60285c357b8844cb8dc211ac28ceb45369c"), looks := true }, kinds := [], alts := [], laidByText := true, laidKinds := [.data, .data, .data, .data, .sentinel, .sentinel, .pinned], laidTests := true, laidLooks := .later }
def DecimalNoughtsCardSaid : Prop := Claim7.holds Tryd.pinned (.plain (OpenSpec.ofChange decimalNoughtsSpec)) decimalNoughtsCard

/-- THE TIED CARD OF 'poundagelaw04.DecimalPlaces'. -/
def decimalPlacesCard : Claim7 := { stood := { row := decimalPlacesRow, standIns := [], harness := (true, "de32c494cb1fe02e2d1861820a7be60285c357b8844cb8dc211ac28ceb45369c"), looks := true }, kinds := [], alts := [], laidByText := true, laidKinds := [.data, .data, .data, .data, .sentinel, .sentinel, .pinned], laidTests := true, laidLooks := .later }
def DecimalPlacesCardSaid : Prop := Claim7.holds Tryd.pinned (.plain (OpenSpec.ofChange decimalPlacesSpec)) decimalPlacesCard

/-- THE SECOND FORM's CARD OF 'poundagelaw04.DecimalIs'. -/
def decimalIsUptoCard : Claim7 := { stood := { row := decimalIsUptoRow, standIns := [], harness := (true, "de32c494cb1fe02e2d1861820a7be60285c357b8844cb8dc211ac28ceb45369c"), looks := true }, kinds := [], alts := [], laidByText := true, laidKinds := [.data, .data, .data, .data, .sentinel, .sentinel, .pinned], laidTests := true, laidLooks := .later }
def DecimalIsUptoCardSaid : Prop := Claim7.holds Tryd.pinned (.plain (OpenSpec.upto decimalIsSpec)) decimalIsUptoCard

/-- THE SECOND FORM's CARD OF 'poundagelaw04.DecimalBack'. -/
def decimalBackUptoCard : Claim7 := { stood := { row := decimalBackUptoRow, standIns := [], harness := (true, "de32c494cb1fe02e2d1861820a7be60285c357b8844cb8dc211ac28ceb45369c"), looks := true }, kinds := [], alts := [], laidByText := true, laidKinds := [.data, .data, .data, .data, .sentinel, .sentinel, .pinned], laidTests := true, laidLooks := .later }
def DecimalBackUptoCardSaid : Prop := Claim7.holds Tryd.pinned (.plain (OpenSpec.upto decimalBackSpec)) decimalBackUptoCard

/-- THE SECOND FORM's CARD OF 'poundagelaw04.DecimalNoughts'. -/
def decimalNoughtsUptoCard : Claim7 := { stood := { row := decimalNoughtsUptoRow, standIns := [], harness := (true, "de32c494cb1fe02e2d1861820a7be60285c357b8844cb8dc211ac28ceb45369c"), looks := true }, kinds := [], alts := [], laidByText := true, laidKinds := [.data, .data, .data, .data, .sentinel, .sentinel, .pinned], laidTests := true, laidLooks := .later }
def DecimalNoughtsUptoCardSaid : Prop := Claim7.holds Tryd.pinned (.plain (OpenSpec.upto decimalNoughtsSpec)) decimalNoughtsUptoCard

/-- THE SECOND FORM's CARD OF 'poundagelaw04.DecimalPlaces'. -/
def decimalPlacesUptoCard : Claim7 := { stood := { row := decimalPlacesUptoRow, standIns := [], harness := (true, "de32c494cb1fe02e2d1861820a7be60285c357b8844cb8dc211ac28ceb45369c"), looks := true }, kinds := [], alts := [], laidByText := true, laidKinds := [.data, .data, .data, .data, .sentinel, .sentinel, .pinned], laidTests := true, laidLooks := .later }
def DecimalPlacesUptoCardSaid : Prop := Claim7.holds Tryd.pinned (.plain (OpenSpec.upto decimalPlacesSpec)) decimalPlacesUptoCard
end Rows
end Go.Proofs.YtmhimnmiclnbjaaDoor
