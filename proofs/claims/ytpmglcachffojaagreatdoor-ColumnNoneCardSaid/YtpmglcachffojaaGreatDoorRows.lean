/-
  NARROWER THAN 'FOR EVERY INPUT', by the rows' own cells (each row's printed sentence says how): ColumnPuts: laid · StripePuts: laid · StripeChunks: laid · StripeIndexes: laid · ColumnBack: laid · ColumnNone: laid · ColumnTakes: laid.
  DERIVED. THE GIVEN ROWS OF THIS SEAT. 7 by the template 'for every input the law returns true; each argument reads behind the call as it read before'; 0 by the template 'total and deterministic' (their statements: YtpmglcachffojaaGreatDoorTotals.lean).
  GIVEN WITH THE SEED: the statements are not yours to turn. If you find one false, say at which input.
  Laid BY PROGRAM, IN A SANDBOX (cutbox-rows.mjs): the forced cells as the released guide's own fill.sh prints them over the translation 7ea31cd931c51208… (all of the seat's roots in one cut). By AI agents, Wed Nov 11 2026. No macro, syntax, notation, axiom, sorry.
-/
import Derived.Test.YtpmglcachffojaaGreatDoorChecked
import GoSem.PinnedTables
import GoSem.Claim
import GoSem.ClaimJoined
import GoSem.ClaimMapViews
import Derived.JoinedTies
import Derived.KernelRfl
namespace Go.Proofs.YtpmglcachffojaaGreatDoor
/- THE CELL 'sum', in the pinned program and in every row, IS THE sha256 OF THE DUMP (.gsa) THAT YtpmglcachffojaaGreatDoorProg.lean LOADS. Nothing in Lean hashes anything: it is a label: what it is worth is what the hold of that sum in a sandbox is worth. -/
noncomputable def Tryz.pinned : Pinned := { name := "ytpmglcachffojaagreatdoor", sum := "7ea31cd931c512086f16a14a38e607592b6e85ec17f993e3ce8ce611d0b34ab4", checked := Tryz.checked }
namespace Rows
def none {H : Type} : Left H := { results := [], args := [] }

/- WHAT THE LISTED PACKAGE-LEVEL VARIABLES READ AS WHEN THE CALL BEGINS. Each datum BY PROGRAM (the guide's laid-datum.mjs) off the statement by which the dump's own 'gosem.cut.vars' lays the variable. In a bare row this is a premise. The card (YtpmglcachffojaaGreatDoorCards.lean) ties it to the program's text. -/
def laid_unicode_utf8_acceptRanges {H : Type} : DataW H := .agg [.agg [.lit (.int .u8 128), .lit (.int .u8 191)], .agg [.lit (.int .u8 160), .lit (.int .u8 191)], .agg [.lit (.int .u8 128), .lit (.int .u8 159)], .agg [.lit (.int .u8 144), .lit (.int .u8 191)], .agg [.lit (.int .u8 128), .lit (.int .u8 143)], .agg [.lit (.int .u8 0), .lit (.int .u8 0)], .agg [.lit (.int .u8 0), .lit (.int .u8 0)], .agg [.lit (.int .u8 0), .lit (.int .u8 0)], .agg [.lit (.int .u8 0), .lit (.int .u8 0)], .agg [.lit (.int .u8 0), .lit (.int .u8 0)], .agg [.lit (.int .u8 0), .lit (.int .u8 0)], .agg [.lit (.int .u8 0), .lit (.int .u8 0)], .agg [.lit (.int .u8 0), .lit (.int .u8 0)], .agg [.lit (.int .u8 0), .lit (.int .u8 0)], .agg [.lit (.int .u8 0), .lit (.int .u8 0)], .agg [.lit (.int .u8 0), .lit (.int .u8 0)]]
/-- One of Go's own tables, pinned by name: the form's constant. -/
def laid_unicode_utf8_first : DataW Unit := Go.Pinned.utf8First

/-- 'pilasterlaw16.ColumnPuts': WHATEVER THE INPUT: true; the input reads as it did. -/
def columnPutsSpec : ChangeSpec := { name := "columnPuts", fn := fun _ => fun
  | [d1, d2] => { results := [.lit (.bool true)], args := [d1, d2] }
  | _ => none }
def columnPutsRow : OpenClaim := { program := "ytpmglcachffojaagreatdoor", sum := "7ea31cd931c512086f16a14a38e607592b6e85ec17f993e3ce8ce611d0b34ab4", func := "pilaster/pilasterlaw16.ColumnPuts", spec := "columnPuts", inPlace := ["internal/bytealg.MakeNoZero", "internal/abi.NoEscape"], unfollowed := true, recurses := true, named := ["unicode/utf8.first", "unicode/utf8.acceptRanges"], apart := false, laid := [("unicode/utf8.acceptRanges", laid_unicode_utf8_acceptRanges), ("unicode/utf8.first", laid_unicode_utf8_first)] }
def ColumnPutsSaid : Prop := columnPutsRow.holds Tryz.pinned (OpenSpec.ofChange columnPutsSpec)

/-- ITS FALSE NEIGHBOUR: 'it returns false'. Refute it at one input. -/
def columnPutsWrong : ChangeSpec := { name := "columnPuts", fn := fun _ => fun
  | [d1, d2] => { results := [.lit (.bool false)], args := [d1, d2] }
  | _ => none }
def ColumnPutsWrongFalsely : Prop := columnPutsRow.holds Tryz.pinned (OpenSpec.ofChange columnPutsWrong)

/-- 'pilasterlaw20.StripePuts': WHATEVER THE INPUT: true; the input reads as it did. -/
def stripePutsSpec : ChangeSpec := { name := "stripePuts", fn := fun _ => fun
  | [d1, d2] => { results := [.lit (.bool true)], args := [d1, d2] }
  | _ => none }
def stripePutsRow : OpenClaim := { program := "ytpmglcachffojaagreatdoor", sum := "7ea31cd931c512086f16a14a38e607592b6e85ec17f993e3ce8ce611d0b34ab4", func := "pilaster/pilasterlaw20.StripePuts", spec := "stripePuts", inPlace := ["internal/bytealg.MakeNoZero", "internal/abi.NoEscape", "math/bits.Add64"], unfollowed := true, recurses := true, named := ["unicode/utf8.first", "unicode/utf8.acceptRanges"], apart := false, laid := [("unicode/utf8.acceptRanges", laid_unicode_utf8_acceptRanges), ("unicode/utf8.first", laid_unicode_utf8_first)] }
def StripePutsSaid : Prop := stripePutsRow.holds Tryz.pinned (OpenSpec.ofChange stripePutsSpec)

/-- ITS FALSE NEIGHBOUR: 'it returns false'. Refute it at one input. -/
def stripePutsWrong : ChangeSpec := { name := "stripePuts", fn := fun _ => fun
  | [d1, d2] => { results := [.lit (.bool false)], args := [d1, d2] }
  | _ => none }
def StripePutsWrongFalsely : Prop := stripePutsRow.holds Tryz.pinned (OpenSpec.ofChange stripePutsWrong)

/-- 'pilasterlaw20.StripeChunks': WHATEVER THE INPUT: true; the input reads as it did. -/
def stripeChunksSpec : ChangeSpec := { name := "stripeChunks", fn := fun _ => fun
  | [d1, d2, d3] => { results := [.lit (.bool true)], args := [d1, d2, d3] }
  | _ => none }
def stripeChunksRow : OpenClaim := { program := "ytpmglcachffojaagreatdoor", sum := "7ea31cd931c512086f16a14a38e607592b6e85ec17f993e3ce8ce611d0b34ab4", func := "pilaster/pilasterlaw20.StripeChunks", spec := "stripeChunks", inPlace := ["internal/bytealg.MakeNoZero", "internal/abi.NoEscape", "math/bits.Add64"], unfollowed := true, recurses := true, named := ["unicode/utf8.first", "unicode/utf8.acceptRanges"], apart := false, laid := [("unicode/utf8.acceptRanges", laid_unicode_utf8_acceptRanges), ("unicode/utf8.first", laid_unicode_utf8_first)] }
def StripeChunksSaid : Prop := stripeChunksRow.holds Tryz.pinned (OpenSpec.ofChange stripeChunksSpec)

/-- ITS FALSE NEIGHBOUR: 'it returns false'. Refute it at one input. -/
def stripeChunksWrong : ChangeSpec := { name := "stripeChunks", fn := fun _ => fun
  | [d1, d2, d3] => { results := [.lit (.bool false)], args := [d1, d2, d3] }
  | _ => none }
def StripeChunksWrongFalsely : Prop := stripeChunksRow.holds Tryz.pinned (OpenSpec.ofChange stripeChunksWrong)

/-- 'pilasterlaw20.StripeIndexes': WHATEVER THE INPUT: true; the input reads as it did. -/
def stripeIndexesSpec : ChangeSpec := { name := "stripeIndexes", fn := fun _ => fun
  | [d1, d2, d3] => { results := [.lit (.bool true)], args := [d1, d2, d3] }
  | _ => none }
def stripeIndexesRow : OpenClaim := { program := "ytpmglcachffojaagreatdoor", sum := "7ea31cd931c512086f16a14a38e607592b6e85ec17f993e3ce8ce611d0b34ab4", func := "pilaster/pilasterlaw20.StripeIndexes", spec := "stripeIndexes", inPlace := ["internal/bytealg.MakeNoZero", "internal/abi.NoEscape", "math/bits.Add64"], unfollowed := true, recurses := true, named := ["unicode/utf8.first", "unicode/utf8.acceptRanges"], apart := false, laid := [("unicode/utf8.acceptRanges", laid_unicode_utf8_acceptRanges), ("unicode/utf8.first", laid_unicode_utf8_first)] }
def StripeIndexesSaid : Prop := stripeIndexesRow.holds Tryz.pinned (OpenSpec.ofChange stripeIndexesSpec)

/-- ITS FALSE NEIGHBOUR: 'it returns false'. Refute it at one input. -/
def stripeIndexesWrong : ChangeSpec := { name := "stripeIndexes", fn := fun _ => fun
  | [d1, d2, d3] => { results := [.lit (.bool false)], args := [d1, d2, d3] }
  | _ => none }
def StripeIndexesWrongFalsely : Prop := stripeIndexesRow.holds Tryz.pinned (OpenSpec.ofChange stripeIndexesWrong)

/-- 'pilasterlaw16.ColumnBack': WHATEVER THE INPUT: true; the input reads as it did. -/
def columnBackSpec : ChangeSpec := { name := "columnBack", fn := fun _ => fun
  | [d1, d2] => { results := [.lit (.bool true)], args := [d1, d2] }
  | _ => none }
def columnBackRow : OpenClaim := { program := "ytpmglcachffojaagreatdoor", sum := "7ea31cd931c512086f16a14a38e607592b6e85ec17f993e3ce8ce611d0b34ab4", func := "pilaster/pilasterlaw16.ColumnBack", spec := "columnBack", inPlace := ["internal/bytealg.MakeNoZero", "internal/abi.NoEscape"], unfollowed := true, recurses := true, named := ["unicode/utf8.first", "unicode/utf8.acceptRanges"], apart := false, laid := [("unicode/utf8.acceptRanges", laid_unicode_utf8_acceptRanges), ("unicode/utf8.first", laid_unicode_utf8_first)] }
def ColumnBackSaid : Prop := columnBackRow.holds Tryz.pinned (OpenSpec.ofChange columnBackSpec)

/-- ITS FALSE NEIGHBOUR: 'it returns false'. Refute it at one input. -/
def columnBackWrong : ChangeSpec := { name := "columnBack", fn := fun _ => fun
  | [d1, d2] => { results := [.lit (.bool false)], args := [d1, d2] }
  | _ => none }
def ColumnBackWrongFalsely : Prop := columnBackRow.holds Tryz.pinned (OpenSpec.ofChange columnBackWrong)

/-- 'pilasterlaw16.ColumnNone': WHATEVER THE INPUT: true; the input reads as it did. -/
def columnNoneSpec : ChangeSpec := { name := "columnNone", fn := fun _ => fun
  | [d1, d2] => { results := [.lit (.bool true)], args := [d1, d2] }
  | _ => none }
def columnNoneRow : OpenClaim := { program := "ytpmglcachffojaagreatdoor", sum := "7ea31cd931c512086f16a14a38e607592b6e85ec17f993e3ce8ce611d0b34ab4", func := "pilaster/pilasterlaw16.ColumnNone", spec := "columnNone", inPlace := ["internal/bytealg.MakeNoZero", "internal/abi.NoEscape"], unfollowed := true, recurses := true, named := ["unicode/utf8.first", "unicode/utf8.acceptRanges"], apart := false, laid := [("unicode/utf8.acceptRanges", laid_unicode_utf8_acceptRanges), ("unicode/utf8.first", laid_unicode_utf8_first)] }
def ColumnNoneSaid : Prop := columnNoneRow.holds Tryz.pinned (OpenSpec.ofChange columnNoneSpec)

/-- ITS FALSE NEIGHBOUR: 'it returns false'. Refute it at one input. -/
def columnNoneWrong : ChangeSpec := { name := "columnNone", fn := fun _ => fun
  | [d1, d2] => { results := [.lit (.bool false)], args := [d1, d2] }
  | _ => none }
def ColumnNoneWrongFalsely : Prop := columnNoneRow.holds Tryz.pinned (OpenSpec.ofChange columnNoneWrong)

/-- 'pilasterlaw16.ColumnTakes': WHATEVER THE INPUT: true; the input reads as it did. -/
def columnTakesSpec : ChangeSpec := { name := "columnTakes", fn := fun _ => fun
  | [d1, d2] => { results := [.lit (.bool true)], args := [d1, d2] }
  | _ => none }
def columnTakesRow : OpenClaim := { program := "ytpmglcachffojaagreatdoor", sum := "7ea31cd931c512086f16a14a38e607592b6e85ec17f993e3ce8ce611d0b34ab4", func := "pilaster/pilasterlaw16.ColumnTakes", spec := "columnTakes", inPlace := ["internal/bytealg.MakeNoZero", "internal/abi.NoEscape"], unfollowed := true, recurses := true, named := ["unicode/utf8.first", "unicode/utf8.acceptRanges"], apart := false, laid := [("unicode/utf8.acceptRanges", laid_unicode_utf8_acceptRanges), ("unicode/utf8.first", laid_unicode_utf8_first)] }
def ColumnTakesSaid : Prop := columnTakesRow.holds Tryz.pinned (OpenSpec.ofChange columnTakesSpec)

/-- ITS FALSE NEIGHBOUR: 'it returns false'. Refute it at one input. -/
def columnTakesWrong : ChangeSpec := { name := "columnTakes", fn := fun _ => fun
  | [d1, d2] => { results := [.lit (.bool false)], args := [d1, d2] }
  | _ => none }
def ColumnTakesWrongFalsely : Prop := columnTakesRow.holds Tryz.pinned (OpenSpec.ofChange columnTakesWrong)

/- THE SECOND FORM. 'bulk': how many values and letters a reading holds, each counted each time it is reached (what is shared counts as often as it is met; a slice's spare places count too). A statement '..UptoSaid' is the law's where the arguments, and the package variables that the reading takes, are together of bulk at most 1048576: NARROWER than '..Said'. Prove '..Said' where nothing that the law and all that it calls make is longer than what came in: it says more and counts as full. Else prove '..UptoSaid'. A law counts once. -/
mutual
def uptoBulk {H : Type} : DataW H → Nat
  | .lit (.string bytes) => bytes.length + 1
  | .lit _ => 1
  | .nil => 1
  | .ptr d => uptoBulk d + 1
  | .slice elems spare => uptoBulkAll elems + uptoBulkAll spare + 1
  | .agg parts => uptoBulkAll parts + 1
  | .iface _ d => uptoBulk d + 1
  | .map entries => uptoBulkEntries entries + 1
  | .held _ => 1
def uptoBulkAll {H : Type} : List (DataW H) → Nat
  | [] => 0
  | d :: r => uptoBulk d + uptoBulkAll r
def uptoBulkEntries {H : Type} : List (Lit × DataW H) → Nat
  | [] => 0
  | x :: r => uptoBulkEntry x + uptoBulkEntries r
def uptoBulkEntry {H : Type} : Lit × DataW H → Nat
  | (.string bytes, d) => bytes.length + uptoBulk d + 1
  | (_, d) => uptoBulk d + 1
 end
def uptoSmall : (H : Type) → List (DataW H) → Bool := fun _ ds => decide (uptoBulkAll ds ≤ 1048576)
def OpenSpec.upto (s : _root_.Go.ChangeSpec) : _root_.Go.OpenSpec := { _root_.Go.OpenSpec.ofChange s with cond := some uptoSmall }

/-- 'pilasterlaw16.ColumnPuts', WHERE WHAT IT READS IS OF BULK AT MOST 1048576: true; the input reads as it did. -/
def columnPutsUptoRow : OpenClaim := { program := "ytpmglcachffojaagreatdoor", sum := "7ea31cd931c512086f16a14a38e607592b6e85ec17f993e3ce8ce611d0b34ab4", func := "pilaster/pilasterlaw16.ColumnPuts", spec := "columnPuts", inPlace := ["internal/bytealg.MakeNoZero", "internal/abi.NoEscape"], unfollowed := true, recurses := true, named := ["unicode/utf8.first", "unicode/utf8.acceptRanges"], apart := false, laid := [("unicode/utf8.acceptRanges", laid_unicode_utf8_acceptRanges), ("unicode/utf8.first", laid_unicode_utf8_first)], narrowed := true }
def ColumnPutsUptoSaid : Prop := columnPutsUptoRow.holds Tryz.pinned (OpenSpec.upto columnPutsSpec)

/-- 'pilasterlaw20.StripePuts', WHERE WHAT IT READS IS OF BULK AT MOST 1048576: true; the input reads as it did. -/
def stripePutsUptoRow : OpenClaim := { program := "ytpmglcachffojaagreatdoor", sum := "7ea31cd931c512086f16a14a38e607592b6e85ec17f993e3ce8ce611d0b34ab4", func := "pilaster/pilasterlaw20.StripePuts", spec := "stripePuts", inPlace := ["internal/bytealg.MakeNoZero", "internal/abi.NoEscape", "math/bits.Add64"], unfollowed := true, recurses := true, named := ["unicode/utf8.first", "unicode/utf8.acceptRanges"], apart := false, laid := [("unicode/utf8.acceptRanges", laid_unicode_utf8_acceptRanges), ("unicode/utf8.first", laid_unicode_utf8_first)], narrowed := true }
def StripePutsUptoSaid : Prop := stripePutsUptoRow.holds Tryz.pinned (OpenSpec.upto stripePutsSpec)

/-- 'pilasterlaw20.StripeChunks', WHERE WHAT IT READS IS OF BULK AT MOST 1048576: true; the input reads as it did. -/
def stripeChunksUptoRow : OpenClaim := { program := "ytpmglcachffojaagreatdoor", sum := "7ea31cd931c512086f16a14a38e607592b6e85ec17f993e3ce8ce611d0b34ab4", func := "pilaster/pilasterlaw20.StripeChunks", spec := "stripeChunks", inPlace := ["internal/bytealg.MakeNoZero", "internal/abi.NoEscape", "math/bits.Add64"], unfollowed := true, recurses := true, named := ["unicode/utf8.first", "unicode/utf8.acceptRanges"], apart := false, laid := [("unicode/utf8.acceptRanges", laid_unicode_utf8_acceptRanges), ("unicode/utf8.first", laid_unicode_utf8_first)], narrowed := true }
def StripeChunksUptoSaid : Prop := stripeChunksUptoRow.holds Tryz.pinned (OpenSpec.upto stripeChunksSpec)

/-- 'pilasterlaw20.StripeIndexes', WHERE WHAT IT READS IS OF BULK AT MOST 1048576: true; the input reads as it did. -/
def stripeIndexesUptoRow : OpenClaim := { program := "ytpmglcachffojaagreatdoor", sum := "7ea31cd931c512086f16a14a38e607592b6e85ec17f993e3ce8ce611d0b34ab4", func := "pilaster/pilasterlaw20.StripeIndexes", spec := "stripeIndexes", inPlace := ["internal/bytealg.MakeNoZero", "internal/abi.NoEscape", "math/bits.Add64"], unfollowed := true, recurses := true, named := ["unicode/utf8.first", "unicode/utf8.acceptRanges"], apart := false, laid := [("unicode/utf8.acceptRanges", laid_unicode_utf8_acceptRanges), ("unicode/utf8.first", laid_unicode_utf8_first)], narrowed := true }
def StripeIndexesUptoSaid : Prop := stripeIndexesUptoRow.holds Tryz.pinned (OpenSpec.upto stripeIndexesSpec)

/-- 'pilasterlaw16.ColumnBack', WHERE WHAT IT READS IS OF BULK AT MOST 1048576: true; the input reads as it did. -/
def columnBackUptoRow : OpenClaim := { program := "ytpmglcachffojaagreatdoor", sum := "7ea31cd931c512086f16a14a38e607592b6e85ec17f993e3ce8ce611d0b34ab4", func := "pilaster/pilasterlaw16.ColumnBack", spec := "columnBack", inPlace := ["internal/bytealg.MakeNoZero", "internal/abi.NoEscape"], unfollowed := true, recurses := true, named := ["unicode/utf8.first", "unicode/utf8.acceptRanges"], apart := false, laid := [("unicode/utf8.acceptRanges", laid_unicode_utf8_acceptRanges), ("unicode/utf8.first", laid_unicode_utf8_first)], narrowed := true }
def ColumnBackUptoSaid : Prop := columnBackUptoRow.holds Tryz.pinned (OpenSpec.upto columnBackSpec)

/-- 'pilasterlaw16.ColumnNone', WHERE WHAT IT READS IS OF BULK AT MOST 1048576: true; the input reads as it did. -/
def columnNoneUptoRow : OpenClaim := { program := "ytpmglcachffojaagreatdoor", sum := "7ea31cd931c512086f16a14a38e607592b6e85ec17f993e3ce8ce611d0b34ab4", func := "pilaster/pilasterlaw16.ColumnNone", spec := "columnNone", inPlace := ["internal/bytealg.MakeNoZero", "internal/abi.NoEscape"], unfollowed := true, recurses := true, named := ["unicode/utf8.first", "unicode/utf8.acceptRanges"], apart := false, laid := [("unicode/utf8.acceptRanges", laid_unicode_utf8_acceptRanges), ("unicode/utf8.first", laid_unicode_utf8_first)], narrowed := true }
def ColumnNoneUptoSaid : Prop := columnNoneUptoRow.holds Tryz.pinned (OpenSpec.upto columnNoneSpec)

/-- 'pilasterlaw16.ColumnTakes', WHERE WHAT IT READS IS OF BULK AT MOST 1048576: true; the input reads as it did. -/
def columnTakesUptoRow : OpenClaim := { program := "ytpmglcachffojaagreatdoor", sum := "7ea31cd931c512086f16a14a38e607592b6e85ec17f993e3ce8ce611d0b34ab4", func := "pilaster/pilasterlaw16.ColumnTakes", spec := "columnTakes", inPlace := ["internal/bytealg.MakeNoZero", "internal/abi.NoEscape"], unfollowed := true, recurses := true, named := ["unicode/utf8.first", "unicode/utf8.acceptRanges"], apart := false, laid := [("unicode/utf8.acceptRanges", laid_unicode_utf8_acceptRanges), ("unicode/utf8.first", laid_unicode_utf8_first)], narrowed := true }
def ColumnTakesUptoSaid : Prop := columnTakesUptoRow.holds Tryz.pinned (OpenSpec.upto columnTakesSpec)

end Rows
end Go.Proofs.YtpmglcachffojaaGreatDoor
