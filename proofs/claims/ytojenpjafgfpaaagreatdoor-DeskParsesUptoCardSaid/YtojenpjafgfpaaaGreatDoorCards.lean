/-
  DERIVED. GIVEN WITH THE SEED: THE CARDS: each row of YtojenpjafgfpaaaGreatDoorRows.lean that lists a variable, with what it lists TIED to the program's text (the seventh form; the later family's looks); each row that meets fmt, with fmt's text TOLD by the authors' own Lean function (tested against real Go, not proved from fmt's source: count such statements apart). THE CARD IS WHAT COUNTS. Prove the row's statement (the work); the ties are given (YtojenpjafgfpaaaGreatDoorTie.lean); close each card by the builder's one call (the guide's Derived/Test/ToyasCard.lean, 'card_holds'). Laid BY PROGRAM, IN A SANDBOX (cutbox-door.mjs). By AI agents, Wed Nov 11 2026. No macro, syntax, notation, axiom, sorry.
-/
import Derived.Test.YtojenpjafgfpaaaGreatDoorRows
import GoSem.ClaimSeven
namespace Go.Proofs.YtojenpjafgfpaaaGreatDoor
namespace Rows

/-- THE TIED CARD OF 'pilasterlaw32.DeskEvents'. -/
def deskEventsCard : Claim7 := { stood := { row := deskEventsRow, standIns := [], harness := (true, "8ba72f6ad08c293f67a056c5468cb8c5c86d53d59f0a77db2098ba3b92a592af"), looks := false }, kinds := [], alts := [], laidByText := true, laidKinds := [.data, .data, .data], laidTests := true, laidLooks := .later }
def DeskEventsCardSaid : Prop := Claim7.holds Tryz.pinned (.plain (OpenSpec.ofChange deskEventsSpec)) deskEventsCard

/-- THE TIED CARD OF 'pilasterlaw32.DeskParses'. -/
def deskParsesCard : Claim7 := { stood := { row := deskParsesRow, standIns := [], harness := (true, "8ba72f6ad08c293f67a056c5468cb8c5c86d53d59f0a77db2098ba3b92a592af"), looks := false }, kinds := [], alts := [], laidByText := true, laidKinds := [.data, .data, .data], laidTests := true, laidLooks := .later }
def DeskParsesCardSaid : Prop := Claim7.holds Tryz.pinned (.plain (OpenSpec.ofChange deskParsesSpec)) deskParsesCard

/-- THE SECOND FORM's CARD OF 'pilasterlaw32.DeskEvents'. -/
def deskEventsUptoCard : Claim7 := { stood := { row := deskEventsUptoRow, standIns := [], harness := (true, "8ba72f6ad08c293f67a056c5468cb8c5c86d53d59f0a77db2098ba3b92a592af"), looks := false }, kinds := [], alts := [], laidByText := true, laidKinds := [.data, .data, .data], laidTests := true, laidLooks := .later }
def DeskEventsUptoCardSaid : Prop := Claim7.holds Tryz.pinned (.plain (OpenSpec.upto deskEventsSpec)) deskEventsUptoCard

/-- THE SECOND FORM's CARD OF 'pilasterlaw32.DeskParses'. -/
def deskParsesUptoCard : Claim7 := { stood := { row := deskParsesUptoRow, standIns := [], harness := (true, "8ba72f6ad08c293f67a056c5468cb8c5c86d53d59f0a77db2098ba3b92a592af"), looks := false }, kinds := [], alts := [], laidByText := true, laidKinds := [.data, .data, .data], laidTests := true, laidLooks := .later }
def DeskParsesUptoCardSaid : Prop := Claim7.holds Tryz.pinned (.plain (OpenSpec.upto deskParsesSpec)) deskParsesUptoCard
end Rows
end Go.Proofs.YtojenpjafgfpaaaGreatDoor
