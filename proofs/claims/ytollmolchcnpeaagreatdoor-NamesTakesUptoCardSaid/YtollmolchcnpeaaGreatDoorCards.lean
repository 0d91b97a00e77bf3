/-
  DERIVED. GIVEN WITH THE SEED: THE CARDS: each row of YtollmolchcnpeaaGreatDoorRows.lean that lists a variable, with what it lists TIED to the program's text (the seventh form; the later family's looks); each row that meets fmt, with fmt's text TOLD by the authors' own Lean function (tested against real Go, not proved from fmt's source: count such statements apart). THE CARD IS WHAT COUNTS. Prove the row's statement (the work); the ties are given (YtollmolchcnpeaaGreatDoorTie.lean); close each card by the builder's one call (the guide's Derived/Test/ToyasCard.lean, 'card_holds'). Laid BY PROGRAM, IN A SANDBOX (cutbox-door.mjs). By AI agents, Wed Nov 11 2026. No macro, syntax, notation, axiom, sorry.
-/
import Derived.Test.YtollmolchcnpeaaGreatDoorRows
import GoSem.ClaimSeven
namespace Go.Proofs.YtollmolchcnpeaaGreatDoor
namespace Rows

/-- THE TIED CARD OF 'pilasterlaw24.NamesTakes'. -/
def namesTakesCard : Claim7 := { stood := { row := namesTakesRow, standIns := [], harness := (true, "9af0218ae6cdc0d177d8344019b801d1d2c1aabf447e497d41bea8b17885f0e7"), looks := true }, kinds := [], alts := [], laidByText := true, laidKinds := [.data, .data, .data, .data, .sentinel, .sentinel, .pinned], laidTests := true, laidLooks := .later }
def NamesTakesCardSaid : Prop := Claim7.holds Tryz.pinned (.plain (OpenSpec.ofChange namesTakesSpec)) namesTakesCard

/-- THE SECOND FORM's CARD OF 'pilasterlaw24.NamesTakes'. -/
def namesTakesUptoCard : Claim7 := { stood := { row := namesTakesUptoRow, standIns := [], harness := (true, "9af0218ae6cdc0d177d8344019b801d1d2c1aabf447e497d41bea8b17885f0e7"), looks := true }, kinds := [], alts := [], laidByText := true, laidKinds := [.data, .data, .data, .data, .sentinel, .sentinel, .pinned], laidTests := true, laidLooks := .later }
def NamesTakesUptoCardSaid : Prop := Claim7.holds Tryz.pinned (.plain (OpenSpec.upto namesTakesSpec)) namesTakesUptoCard
end Rows
end Go.Proofs.YtollmolchcnpeaaGreatDoor
