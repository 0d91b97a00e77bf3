/-
  DERIVED. GIVEN WITH THE SEED: THE CARDS: each row of YtollmolchcnpeaaDoorRows.lean that lists a variable, with what it lists TIED to the program's text (the seventh form; the later family's looks); each row that meets fmt, with fmt's text TOLD by the authors' own Lean function (tested against real Go, not proved from fmt's source: count such statements apart). THE CARD IS WHAT COUNTS. Prove the row's statement (the work); the ties are given (YtollmolchcnpeaaDoorTie.lean); close each card by the builder's one call (the guide's Derived/Test/ToyasCard.lean, 'card_holds'). Laid BY PROGRAM, IN A SANDBOX (cutbox-door.mjs). By AI agents, Wed Nov 11 2026. No macro, syntax, notation, axiom, sorry.
-/
import Derived.Test.YtollmolchcnpeaaDoorRows
import GoSem.ClaimSeven
namespace Go.Proofs.YtollmolchcnpeaaDoor
namespace Rows

/-- THE TIED CARD OF 'pilasterlaw24.NamesChosen'. -/
def namesChosenCard : Claim7 := { stood := { row := namesChosenRow, standIns := [], harness := (true, "efcf8b47e2b92107691cd61e967cbff9d778b21fd2ec98a0c3eda792e889b5a9"), looks := true }, kinds := [], alts := [], laidByText := true, laidKinds := [.data, .data, .data], laidTests := true, laidLooks := .later }
def NamesChosenCardSaid : Prop := Claim7.holds Tryd.pinned (.plain (OpenSpec.ofChange namesChosenSpec)) namesChosenCard

/-- THE TIED CARD OF 'pilasterlaw24.NamesApart'. -/
def namesApartCard : Claim7 := { stood := { row := namesApartRow, standIns := [], harness := (true, "efcf8b47e2b92107691cd61e967cbff9d778b21fd2ec98a0c3eda792e889b5a9"), looks := true }, kinds := [], alts := [], laidByText := true, laidKinds := [.data, .data, .data], laidTests := true, laidLooks := .later }
def NamesApartCardSaid : Prop := Claim7.holds Tryd.pinned (.plain (OpenSpec.ofChange namesApartSpec)) namesApartCard

/-- THE TIED CARD OF 'pilasterlaw24.NamesPuts'. -/
def namesPutsCard : Claim7 := { stood := { row := namesPutsRow, standIns := [], harness := (true, "efcf8b47e2b92107691cd61e967cbff9d778b21fd2ec98a0c3eda792e889b5a9"), looks := true }, kinds := [], alts := [], laidByText := true, laidKinds := [.data, .data, .data], laidTests := true, laidLooks := .later }
def NamesPutsCardSaid : Prop := Claim7.holds Tryd.pinned (.plain (OpenSpec.ofChange namesPutsSpec)) namesPutsCard

/-- THE TIED CARD OF 'pilasterlaw24.NamesBack'. -/
def namesBackCard : Claim7 := { stood := { row := namesBackRow, standIns := [], harness := (true, "efcf8b47e2b92107691cd61e967cbff9d778b21fd2ec98a0c3eda792e889b5a9"), looks := true }, kinds := [], alts := [], laidByText := true, laidKinds := [.data, .data, .data, .data, .sentinel, .sentinel, .pinned], laidTests := true, laidLooks := .later }
def NamesBackCardSaid : Prop := Claim7.holds Tryd.pinned (.plain (OpenSpec.ofChange namesBackSpec)) namesBackCard

/-- THE SECOND FORM's CARD OF 'pilasterlaw24.NamesChosen'. -/
def namesChosenUptoCard : Claim7 := { stood := { row := namesChosenUptoRow, standIns := [], harness := (true, "efcf8b47e2b92107691cd61e967cbff9d778b21fd2ec98a0c3eda792e889b5a9"), looks := true }, kinds := [], alts := [], laidByText := true, laidKinds := [.data, .data, .data], laidTests := true, laidLooks := .later }
def NamesChosenUptoCardSaid : Prop := Claim7.holds Tryd.pinned (.plain (OpenSpec.upto namesChosenSpec)) namesChosenUptoCard

/-- THE SECOND FORM's CARD OF 'pilasterlaw24.NamesApart'. -/
def namesApartUptoCard : Claim7 := { stood := { row := namesApartUptoRow, standIns := [], harness := (true, "efcf8b47e2b92107691cd61e967cbff9d778b21fd2ec98a0c3eda792e889b5a9"), looks := true }, kinds := [], alts := [], laidByText := true, laidKinds := [.data, .data, .data], laidTests := true, laidLooks := .later }
def NamesApartUptoCardSaid : Prop := Claim7.holds Tryd.pinned (.plain (OpenSpec.upto namesApartSpec)) namesApartUptoCard

/-- THE SECOND FORM's CARD OF 'pilasterlaw24.NamesPuts'. -/
def namesPutsUptoCard : Claim7 := { stood := { row := namesPutsUptoRow, standIns := [], harness := (true, "efcf8b47e2b92107691cd61e967cbff9d778b21fd2ec98a0c3eda792e889b5a9"), looks := true }, kinds := [], alts := [], laidByText := true, laidKinds := [.data, .data, .data], laidTests := true, laidLooks := .later }
def NamesPutsUptoCardSaid : Prop := Claim7.holds Tryd.pinned (.plain (OpenSpec.upto namesPutsSpec)) namesPutsUptoCard

/-- THE SECOND FORM's CARD OF 'pilasterlaw24.NamesBack'. -/
def namesBackUptoCard : Claim7 := { stood := { row := namesBackUptoRow, standIns := [], harness := (true, "efcf8b47e2b92107691cd61e967cbff9d778b21fd2ec98a0c3eda792e889b5a9"), looks := true }, kinds := [], alts := [], laidByText := true, laidKinds := [.data, .data, .data, .data, .sentinel, .sentinel, .pinned], laidTests := true, laidLooks := .later }
def NamesBackUptoCardSaid : Prop := Claim7.holds Tryd.pinned (.plain (OpenSpec.upto namesBackSpec)) namesBackUptoCard
end Rows
end Go.Proofs.YtollmolchcnpeaaDoor
