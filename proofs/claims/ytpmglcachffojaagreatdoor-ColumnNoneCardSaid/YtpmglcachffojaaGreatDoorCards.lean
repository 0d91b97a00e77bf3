/-
  DERIVED. GIVEN WITH THE SEED: THE CARDS: each row of YtpmglcachffojaaGreatDoorRows.lean that lists a variable, with what it lists TIED to the program's text (the seventh form; the later family's looks); each row that meets fmt, with fmt's text TOLD by the authors' own Lean function (tested against real Go, not proved from fmt's source: count such statements apart). THE CARD IS WHAT COUNTS. Prove the row's statement (the work); the ties are given (YtpmglcachffojaaGreatDoorTie.lean); close each card by the builder's one call (the guide's Derived/Test/ToyasCard.lean, 'card_holds'). Laid BY PROGRAM, IN A SANDBOX (cutbox-door.mjs). By AI agents, Wed Nov 11 2026. No macro, syntax, notation, axiom, sorry.
-/
import Derived.Test.YtpmglcachffojaaGreatDoorRows
import GoSem.ClaimSeven
namespace Go.Proofs.YtpmglcachffojaaGreatDoor
namespace Rows

/-- THE TIED CARD OF 'pilasterlaw16.ColumnPuts'. -/
def columnPutsCard : Claim7 := { stood := { row := columnPutsRow, standIns := [], harness := (true, "12320e3ce19828759ca7bf4767e04fb5a7a75b29517b4913a43a0b309d085dce"), looks := false }, kinds := [], alts := [], laidByText := true, laidKinds := [.data, .pinned], laidTests := true, laidLooks := .later }
def ColumnPutsCardSaid : Prop := Claim7.holds Tryz.pinned (.plain (OpenSpec.ofChange columnPutsSpec)) columnPutsCard

/-- THE TIED CARD OF 'pilasterlaw20.StripePuts'. -/
def stripePutsCard : Claim7 := { stood := { row := stripePutsRow, standIns := [], harness := (true, "12320e3ce19828759ca7bf4767e04fb5a7a75b29517b4913a43a0b309d085dce"), looks := false }, kinds := [], alts := [], laidByText := true, laidKinds := [.data, .pinned], laidTests := true, laidLooks := .later }
def StripePutsCardSaid : Prop := Claim7.holds Tryz.pinned (.plain (OpenSpec.ofChange stripePutsSpec)) stripePutsCard

/-- THE TIED CARD OF 'pilasterlaw20.StripeChunks'. -/
def stripeChunksCard : Claim7 := { stood := { row := stripeChunksRow, standIns := [], harness := (true, "12320e3ce19828759ca7bf4767e04fb5a7a75b29517b4913a43a0b309d085dce"), looks := false }, kinds := [], alts := [], laidByText := true, laidKinds := [.data, .pinned], laidTests := true, laidLooks := .later }
def StripeChunksCardSaid : Prop := Claim7.holds Tryz.pinned (.plain (OpenSpec.ofChange stripeChunksSpec)) stripeChunksCard

/-- THE TIED CARD OF 'pilasterlaw20.StripeIndexes'. -/
def stripeIndexesCard : Claim7 := { stood := { row := stripeIndexesRow, standIns := [], harness := (true, "12320e3ce19828759ca7bf4767e04fb5a7a75b29517b4913a43a0b309d085dce"), looks := false }, kinds := [], alts := [], laidByText := true, laidKinds := [.data, .pinned], laidTests := true, laidLooks := .later }
def StripeIndexesCardSaid : Prop := Claim7.holds Tryz.pinned (.plain (OpenSpec.ofChange stripeIndexesSpec)) stripeIndexesCard

/-- THE TIED CARD OF 'pilasterlaw16.ColumnBack'. -/
def columnBackCard : Claim7 := { stood := { row := columnBackRow, standIns := [], harness := (true, "12320e3ce19828759ca7bf4767e04fb5a7a75b29517b4913a43a0b309d085dce"), looks := false }, kinds := [], alts := [], laidByText := true, laidKinds := [.data, .pinned], laidTests := true, laidLooks := .later }
def ColumnBackCardSaid : Prop := Claim7.holds Tryz.pinned (.plain (OpenSpec.ofChange columnBackSpec)) columnBackCard

/-- THE TIED CARD OF 'pilasterlaw16.ColumnNone'. -/
def columnNoneCard : Claim7 := { stood := { row := columnNoneRow, standIns := [], harness := (true, "12320e3ce19828759ca7bf4767e04fb5a7a75b29517b4913a43a0b309d085dce"), looks := false }, kinds := [], alts := [], laidByText := true, laidKinds := [.data, .pinned], laidTests := true, laidLooks := .later }
def ColumnNoneCardSaid : Prop := Claim7.holds Tryz.pinned (.plain (OpenSpec.ofChange columnNoneSpec)) columnNoneCard

/-- THE TIED CARD OF 'pilasterlaw16.ColumnTakes'. -/
def columnTakesCard : Claim7 := { stood := { row := columnTakesRow, standIns := [], harness := (true, "12320e3ce19828759ca7bf4767e04fb5a7a75b29517b4913a43a0b309d085dce"), looks := false }, kinds := [], alts := [], laidByText := true, laidKinds := [.data, .pinned], laidTests := true, laidLooks := .later }
def ColumnTakesCardSaid : Prop := Claim7.holds Tryz.pinned (.plain (OpenSpec.ofChange columnTakesSpec)) columnTakesCard

/-- THE SECOND FORM's CARD OF 'pilasterlaw16.ColumnPuts'. -/
def columnPutsUptoCard : Claim7 := { stood := { row := columnPutsUptoRow, standIns := [], harness := (true, "12320e3ce19828759ca7bf4767e04fb5a7a75b29517b4913a43a0b309d085dce"), looks := false }, kinds := [], alts := [], laidByText := true, laidKinds := [.data, .pinned], laidTests := true, laidLooks := .later }
def ColumnPutsUptoCardSaid : Prop := Claim7.holds Tryz.pinned (.plain (OpenSpec.upto columnPutsSpec)) columnPutsUptoCard

/-- THE SECOND FORM's CARD OF 'pilasterlaw20.StripePuts'. -/
def stripePutsUptoCard : Claim7 := { stood := { row := stripePutsUptoRow, standIns := [], harness := (true, "12320e3ce19828759ca7bf4767e04fb5a7a75b29517b4913a43a0b309d085dce"), looks := false }, kinds := [], alts := [], laidByText := true, laidKinds := [.data, .pinned], laidTests := true, laidLooks := .later }
def StripePutsUptoCardSaid : Prop := Claim7.holds Tryz.pinned (.plain (OpenSpec.upto stripePutsSpec)) stripePutsUptoCard

/-- THE SECOND FORM's CARD OF 'pilasterlaw20.StripeChunks'. -/
def stripeChunksUptoCard : Claim7 := { stood := { row := stripeChunksUptoRow, standIns := [], harness := (true, "12320e3ce19828759ca7bf4767e04fb5a7a75b29517b4913a43a0b309d085dce"), looks := false }, kinds := [], alts := [], laidByText := true, laidKinds := [.data, .pinned], laidTests := true, laidLooks := .later }
def StripeChunksUptoCardSaid : Prop := Claim7.holds Tryz.pinned (.plain (OpenSpec.upto stripeChunksSpec)) stripeChunksUptoCard

/-- THE SECOND FORM's CARD OF 'pilasterlaw20.StripeIndexes'. -/
def stripeIndexesUptoCard : Claim7 := { stood := { row := stripeIndexesUptoRow, standIns := [], harness := (true, "12320e3ce19828759ca7bf4767e04fb5a7a75b29517b4913a43a0b309d085dce"), looks := false }, kinds := [], alts := [], laidByText := true, laidKinds := [.data, .pinned], laidTests := true, laidLooks := .later }
def StripeIndexesUptoCardSaid : Prop := Claim7.holds Tryz.pinned (.plain (OpenSpec.upto stripeIndexesSpec)) stripeIndexesUptoCard

/-- THE SECOND FORM's CARD OF 'pilasterlaw16.ColumnBack'. -/
def columnBackUptoCard : Claim7 := { stood := { row := columnBackUptoRow, standIns := [], harness := (true, "12320e3ce19828759ca7bf4767e04fb5a7a75b29517b4913a43a0b309d085dce"), looks := false }, kinds := [], alts := [], laidByText := true, laidKinds := [.data, .pinned], laidTests := true, laidLooks := .later }
def ColumnBackUptoCardSaid : Prop := Claim7.holds Tryz.pinned (.plain (OpenSpec.upto columnBackSpec)) columnBackUptoCard

/-- THE SECOND FORM's CARD OF 'pilasterlaw16.ColumnNone'. -/
def columnNoneUptoCard : Claim7 := { stood := { row := columnNoneUptoRow, standIns := [], harness := (true, "12320e3ce19828759ca7bf4767e04fb5a7a75b29517b4913a43a0b309d085dce"), looks := false }, kinds := [], alts := [], laidByText := true, laidKinds := [.data, .pinned], laidTests := true, laidLooks := .later }
def ColumnNoneUptoCardSaid : Prop := Claim7.holds Tryz.pinned (.plain (OpenSpec.upto columnNoneSpec)) columnNoneUptoCard

/-- THE SECOND FORM's CARD OF 'pilasterlaw16.ColumnTakes'. -/
def columnTakesUptoCard : Claim7 := { stood := { row := columnTakesUptoRow, standIns := [], harness := (true, "12320e3ce19828759ca7bf4767e04fb5a7a75b29517b4913a43a0b309d085dce"), looks := false }, kinds := [], alts := [], laidByText := true, laidKinds := [.data, .pinned], laidTests := true, laidLooks := .later }
def ColumnTakesUptoCardSaid : Prop := Claim7.holds Tryz.pinned (.plain (OpenSpec.upto columnTakesSpec)) columnTakesUptoCard
end Rows
end Go.Proofs.YtpmglcachffojaaGreatDoor
