/-
  DERIVED. GIVEN WITH THE SEED: THE CARDS: each row of YtojenpjafgfpaaaDoorRows.lean that lists a variable, with what it lists TIED to the program's text (the seventh form; the later family's looks); each row that meets fmt, with fmt's text TOLD by the authors' own Lean function (tested against real Go, not proved from fmt's source: count such statements apart). THE CARD IS WHAT COUNTS. Prove the row's statement (the work); the ties are given (YtojenpjafgfpaaaDoorTie.lean); close each card by the builder's one call (the guide's Derived/Test/ToyasCard.lean, 'card_holds'). Laid BY PROGRAM, IN A SANDBOX (cutbox-door.mjs). By AI agents, Wed Nov 11 2026. No macro, syntax, notation, axiom, sorry.
-/
import Derived.Test.YtojenpjafgfpaaaDoorRows
import GoSem.ClaimSeven
namespace Go.Proofs.YtojenpjafgfpaaaDoor
namespace Rows

/-- THE TIED CARD OF 'pilasterlaw32.DeskPrints'. -/
def deskPrintsCard : Claim7 := { stood := { row := deskPrintsRow, standIns := [], harness := (true, "d1d0ee755c5c0856c3aeffe35ef6a0c5fd38a98f41ac4fc7a6e467ee99fe241f"), looks := false }, kinds := [], alts := [], laidByText := true, laidKinds := [.data, .data, .data], laidTests := true, laidLooks := .later }
def DeskPrintsCardSaid : Prop := Claim7.holds Tryd.pinned (.plain (OpenSpec.ofChange deskPrintsSpec)) deskPrintsCard

/-- THE TIED CARD OF 'pilasterlaw32.DeskBack'. -/
def deskBackCard : Claim7 := { stood := { row := deskBackRow, standIns := [], harness := (true, "d1d0ee755c5c0856c3aeffe35ef6a0c5fd38a98f41ac4fc7a6e467ee99fe241f"), looks := false }, kinds := [], alts := [], laidByText := true, laidKinds := [.data, .data, .data], laidTests := true, laidLooks := .later }
def DeskBackCardSaid : Prop := Claim7.holds Tryd.pinned (.plain (OpenSpec.ofChange deskBackSpec)) deskBackCard

/-- THE TIED CARD OF 'pilasterlaw32.DeskLines'. -/
def deskLinesCard : Claim7 := { stood := { row := deskLinesRow, standIns := [], harness := (true, "d1d0ee755c5c0856c3aeffe35ef6a0c5fd38a98f41ac4fc7a6e467ee99fe241f"), looks := false }, kinds := [], alts := [], laidByText := true, laidKinds := [.data, .data, .data], laidTests := true, laidLooks := .later }
def DeskLinesCardSaid : Prop := Claim7.holds Tryd.pinned (.plain (OpenSpec.ofChange deskLinesSpec)) deskLinesCard

/-- THE SECOND FORM's CARD OF 'pilasterlaw32.DeskPrints'. -/
def deskPrintsUptoCard : Claim7 := { stood := { row := deskPrintsUptoRow, standIns := [], harness := (true, "d1d0ee755c5c0856c3aeffe35ef6a0c5fd38a98f41ac4fc7a6e467ee99fe241f"), looks := false }, kinds := [], alts := [], laidByText := true, laidKinds := [.data, .data, .data], laidTests := true, laidLooks := .later }
def DeskPrintsUptoCardSaid : Prop := Claim7.holds Tryd.pinned (.plain (OpenSpec.upto deskPrintsSpec)) deskPrintsUptoCard

/-- THE SECOND FORM's CARD OF 'pilasterlaw32.DeskBack'. -/
def deskBackUptoCard : Claim7 := { stood := { row := deskBackUptoRow, standIns := [], harness := (true, "d1d0ee755c5c0856c3aeffe35ef6a0c5fd38a98f41ac4fc7a6e467ee99fe241f"), looks := false }, kinds := [], alts := [], laidByText := true, laidKinds := [.data, .data, .data], laidTests := true, laidLooks := .later }
def DeskBackUptoCardSaid : Prop := Claim7.holds Tryd.pinned (.plain (OpenSpec.upto deskBackSpec)) deskBackUptoCard

/-- THE SECOND FORM's CARD OF 'pilasterlaw32.DeskLines'. -/
def deskLinesUptoCard : Claim7 := { stood := { row := deskLinesUptoRow, standIns := [], harness := (true, "d1d0ee755c5c0856c3aeffe35ef6a0c5fd38a98f41ac4fc7a6e467ee99fe241f"), looks := false }, kinds := [], alts := [], laidByText := true, laidKinds := [.data, .data, .data], laidTests := true, laidLooks := .later }
def DeskLinesUptoCardSaid : Prop := Claim7.holds Tryd.pinned (.plain (OpenSpec.upto deskLinesSpec)) deskLinesUptoCard
end Rows
end Go.Proofs.YtojenpjafgfpaaaDoor
