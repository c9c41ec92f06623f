/-
  DERIVED. GIVEN WITH THE SEED: THE CARDS: each row of YtaccanfjplgfnaaDoorRows.lean that lists a variable, with what it lists TIED to the program's text (the seventh form; the later family's looks); each row that meets fmt, with fmt's text TOLD by the authors' own Lean function (tested against real Go, not proved from fmt's source: count such statements apart). THE CARD IS WHAT COUNTS. Prove the row's statement (the work); the ties are given (YtaccanfjplgfnaaDoorTie.lean); close each card by the builder's one call (the guide's Derived/Test/ToyasCard.lean, 'card_holds'). Laid BY PROGRAM, IN A SANDBOX (cutbox-door.mjs). By AI agents, Wed Nov 11 2026. No macro, syntax, notation, axiom, sorry.
-/
import Derived.Test.YtaccanfjplgfnaaDoorRows
import GoSem.ClaimSeven
namespace Go.Proofs.YtaccanfjplgfnaaDoor
namespace Rows

/-- THE TIED CARD OF 'poundagelaw03.DateIs'. -/
def dateIsCard : Claim7 := { stood := { row := dateIsRow, standIns := [], harness := (true, "f68350472976b21beaf80e6e3a811bb5ad95b4ce56ba79bdf399f765a5ee0139"), looks := false }, kinds := [], alts := [], laidByText := true, laidKinds := [.data, .data, .data], laidTests := true, laidLooks := .later }
def DateIsCardSaid : Prop := Claim7.holds Tryd.pinned (.plain (OpenSpec.ofChange dateIsSpec)) dateIsCard

/-- THE TIED CARD OF 'poundagelaw03.DateOrder'. -/
def dateOrderCard : Claim7 := { stood := { row := dateOrderRow, standIns := [], harness := (true, "f68350472976b21beaf80e6e3a811bb5ad95b4ce56ba79bdf399f765a5ee0139"), looks := false }, kinds := [], alts := [], laidByText := true, laidKinds := [.data, .data, .data], laidTests := true, laidLooks := .later }
def DateOrderCardSaid : Prop := Claim7.holds Tryd.pinned (.plain (OpenSpec.ofChange dateOrderSpec)) dateOrderCard

/-- THE TIED CARD OF 'poundagelaw03.DateYears'. -/
def dateYearsCard : Claim7 := { stood := { row := dateYearsRow, standIns := [], harness := (true, "f68350472976b21beaf80e6e3a811bb5ad95b4ce56ba79bdf399f765a5ee0139"), looks := false }, kinds := [], alts := [], laidByText := true, laidKinds := [.data, .data, .data], laidTests := true, laidLooks := .later }
def DateYearsCardSaid : Prop := Claim7.holds Tryd.pinned (.plain (OpenSpec.ofChange dateYearsSpec)) dateYearsCard

/-- THE TIED CARD OF 'poundagelaw03.DateReads'. -/
def dateReadsCard : Claim7 := { stood := { row := dateReadsRow, standIns := [], harness := (true, "f68350472976b21beaf80e6e3a811bb5ad95b4ce56ba79bdf399f765a5ee0139"), looks := false }, kinds := [], alts := [], laidByText := true, laidKinds := [.data, .data, .data], laidTests := true, laidLooks := .later }
def DateReadsCardSaid : Prop := Claim7.holds Tryd.pinned (.plain (OpenSpec.ofChange dateReadsSpec)) dateReadsCard

/-- THE TIED CARD OF 'poundagelaw03.DateBack'. -/
def dateBackCard : Claim7 := { stood := { row := dateBackRow, standIns := [], harness := (true, "f68350472976b21beaf80e6e3a811bb5ad95b4ce56ba79bdf399f765a5ee0139"), looks := false }, kinds := [], alts := [], laidByText := true, laidKinds := [.data, .data, .data], laidTests := true, laidLooks := .later }
def DateBackCardSaid : Prop := Claim7.holds Tryd.pinned (.plain (OpenSpec.ofChange dateBackSpec)) dateBackCard

/-- THE TIED CARD OF 'poundagelaw03.DateTexts'. -/
def dateTextsCard : Claim7 := { stood := { row := dateTextsRow, standIns := [], harness := (true, "f68350472976b21beaf80e6e3a811bb5ad95b4ce56ba79bdf399f765a5ee0139"), looks := false }, kinds := [], alts := [], laidByText := true, laidKinds := [.data, .data, .data], laidTests := true, laidLooks := .later }
def DateTextsCardSaid : Prop := Claim7.holds Tryd.pinned (.plain (OpenSpec.ofChange dateTextsSpec)) dateTextsCard

/-- THE SECOND FORM's CARD OF 'poundagelaw03.DateIs'. -/
def dateIsUptoCard : Claim7 := { stood := { row := dateIsUptoRow, standIns := [], harness := (true, "f68350472976b21beaf80e6e3a811bb5ad95b4ce56ba79bdf399f765a5ee0139"), looks := false }, kinds := [], alts := [], laidByText := true, laidKinds := [.data, .data, .data], laidTests := true, laidLooks := .later }
def DateIsUptoCardSaid : Prop := Claim7.holds Tryd.pinned (.plain (OpenSpec.upto dateIsSpec)) dateIsUptoCard

/-- THE SECOND FORM's CARD OF 'poundagelaw03.DateOrder'. -/
def dateOrderUptoCard : Claim7 := { stood := { row := dateOrderUptoRow, standIns := [], harness := (true, "f68350472976b21beaf80e6e3a811bb5ad95b4ce56ba79bdf399f765a5ee0139"), looks := false }, kinds := [], alts := [], laidByText := true, laidKinds := [.data, .data, .data], laidTests := true, laidLooks := .later }
def DateOrderUptoCardSaid : Prop := Claim7.holds Tryd.pinned (.plain (OpenSpec.upto dateOrderSpec)) dateOrderUptoCard

/-- THE SECOND FORM's CARD OF 'poundagelaw03.DateYears'. -/
def dateYearsUptoCard : Claim7 := { stood := { row := dateYearsUptoRow, standIns := [], harness := (true, "f68350472976b21beaf80e6e3a811bb5ad95b4ce56ba79bdf399f765a5ee0139"), looks := false }, kinds := [], alts := [], laidByText := true, laidKinds := [.data, .data, .data], laidTests := true, laidLooks := .later }
def DateYearsUptoCardSaid : Prop := Claim7.holds Tryd.pinned (.plain (OpenSpec.upto dateYearsSpec)) dateYearsUptoCard

/-- THE SECOND FORM's CARD OF 'poundagelaw03.DateReads'. -/
def dateReadsUptoCard : Claim7 := { stood := { row := dateReadsUptoRow, standIns := [], harness := (true, "f68350472976b21beaf80e6e3a811bb5ad95b4ce56ba79bdf399f765a5ee0139"), looks := false }, kinds := [], alts := [], laidByText := true, laidKinds := [.data, .data, .data], laidTests := true, laidLooks := .later }
def DateReadsUptoCardSaid : Prop := Claim7.holds Tryd.pinned (.plain (OpenSpec.upto dateReadsSpec)) dateReadsUptoCard

/-- THE SECOND FORM's CARD OF 'poundagelaw03.DateBack'. -/
def dateBackUptoCard : Claim7 := { stood := { row := dateBackUptoRow, standIns := [], harness := (true, "f68350472976b21beaf80e6e3a811bb5ad95b4ce56ba79bdf399f765a5ee0139"), looks := false }, kinds := [], alts := [], laidByText := true, laidKinds := [.data, .data, .data], laidTests := true, laidLooks := .later }
def DateBackUptoCardSaid : Prop := Claim7.holds Tryd.pinned (.plain (OpenSpec.upto dateBackSpec)) dateBackUptoCard

/-- THE SECOND FORM's CARD OF 'poundagelaw03.DateTexts'. -/
def dateTextsUptoCard : Claim7 := { stood := { row := dateTextsUptoRow, standIns := [], harness := (true, "f68350472976b21beaf80e6e3a811bb5ad95b4ce56ba79bdf399f765a5ee0139"), looks := false }, kinds := [], alts := [], laidByText := true, laidKinds := [.data, .data, .data], laidTests := true, laidLooks := .later }
def DateTextsUptoCardSaid : Prop := Claim7.holds Tryd.pinned (.plain (OpenSpec.upto dateTextsSpec)) dateTextsUptoCard
end Rows
end Go.Proofs.YtaccanfjplgfnaaDoor
