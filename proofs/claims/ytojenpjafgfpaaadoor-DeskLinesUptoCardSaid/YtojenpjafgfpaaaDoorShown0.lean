/- What Print, Parse and Show say at the law's own example. No program in sight. -/
import Derived.Test.YtojenpjafgfpaaaDoorShow3
import Derived.Test.YtojenpjafgfpaaaDoorParse
namespace Go.Proofs.YtojenpjafgfpaaaDoor
open Go Go.RowKit

def ex8 : EE := ⟨8, 0, 0, 0, [], [], ⟨0, []⟩, [], []⟩
def exS : List UInt8 := [48, 56, 49, 48, 49, 48, 48, 48, 49, 56, 48, 48, 50, 48, 48, 48, 51, 56, 48, 48, 10]
def exA : AA := ⟨0, 2, [], ⟨0, []⟩⟩
set_option maxRecDepth 100000 in
theorem print_ex : printOf [ex8] = exS := by decide +kernel
set_option maxRecDepth 100000 in
theorem parse_ex : parseOf exS = ([ex8], 0, 0) := by decide +kernel
set_option maxRecDepth 100000 in
theorem show_ex : showOf [exA] = [48, 32, 50, 124, 48, 124, 10] := by decide +kernel
end Go.Proofs.YtojenpjafgfpaaaDoor
