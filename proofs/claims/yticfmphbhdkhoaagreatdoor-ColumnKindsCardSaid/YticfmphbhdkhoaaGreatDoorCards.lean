/-
  DERIVED. GIVEN WITH THE SEED: THE CARDS: each row of YticfmphbhdkhoaaGreatDoorRows.lean that lists a variable, with what it lists TIED to the program's text (the seventh form; the later family's looks); each row that meets fmt, with fmt's text TOLD by the authors' own Lean function (tested against real Go, not proved from fmt's source: count such statements apart). THE CARD IS WHAT COUNTS. Prove the row's statement (the work); the ties are given (YticfmphbhdkhoaaGreatDoorTie.lean); close each card by the builder's one call (the guide's Derived/Test/ToyasCard.lean, 'card_holds'). Laid BY PROGRAM, IN A SANDBOX (cutbox-door.mjs). By AI agents, Wed Nov 11 2026. No macro, syntax, notation, axiom, sorry.
-/
import Derived.Test.YticfmphbhdkhoaaGreatDoorRows
import GoSem.ClaimSeven
namespace Go.Proofs.YticfmphbhdkhoaaGreatDoor
namespace Rows

/-- THE TIED CARD OF 'pilasterlaw16.ColumnPuts'. -/
def columnPutsCard : Claim7 := { stood := { row := columnPutsRow, standIns := [], harness := (true, "856a4e4f1a010756f2aabcb08d6cfbec3cc717e42248613d2ac88e9b9f435f1d"), looks := false }, kinds := [], alts := [], laidByText := true, laidKinds := [.data, .pinned], laidTests := true, laidLooks := .later }
def ColumnPutsCardSaid : Prop := Claim7.holds Tryz.pinned (.plain (OpenSpec.ofChange columnPutsSpec)) columnPutsCard

/-- THE TIED CARD OF 'pilasterlaw16.ColumnKinds'. -/
def columnKindsCard : Claim7 := { stood := { row := columnKindsRow, standIns := [], harness := (true, "856a4e4f1a010756f2aabcb08d6cfbec3cc717e42248613d2ac88e9b9f435f1d"), looks := false }, kinds := [], alts := [], laidByText := true, laidKinds := [.data, .pinned], laidTests := true, laidLooks := .later }
def ColumnKindsCardSaid : Prop := Claim7.holds Tryz.pinned (.plain (OpenSpec.ofChange columnKindsSpec)) columnKindsCard

/-- THE SECOND FORM's CARD OF 'pilasterlaw16.ColumnPuts'. -/
def columnPutsUptoCard : Claim7 := { stood := { row := columnPutsUptoRow, standIns := [], harness := (true, "856a4e4f1a010756f2aabcb08d6cfbec3cc717e42248613d2ac88e9b9f435f1d"), looks := false }, kinds := [], alts := [], laidByText := true, laidKinds := [.data, .pinned], laidTests := true, laidLooks := .later }
def ColumnPutsUptoCardSaid : Prop := Claim7.holds Tryz.pinned (.plain (OpenSpec.upto columnPutsSpec)) columnPutsUptoCard

/-- THE SECOND FORM's CARD OF 'pilasterlaw16.ColumnKinds'. -/
def columnKindsUptoCard : Claim7 := { stood := { row := columnKindsUptoRow, standIns := [], harness := (true, "856a4e4f1a010756f2aabcb08d6cfbec3cc717e42248613d2ac88e9b9f435f1d"), looks := false }, kinds := [], alts := [], laidByText := true, laidKinds := [.data, .pinned], laidTests := true, laidLooks := .later }
def ColumnKindsUptoCardSaid : Prop := Claim7.holds Tryz.pinned (.plain (OpenSpec.upto columnKindsSpec)) columnKindsUptoCard
end Rows
end Go.Proofs.YticfmphbhdkhoaaGreatDoor
