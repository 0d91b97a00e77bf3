/- A part of what None leans on. -/
import Derived.Test.YtpmglcachffojaaGreatDoorZ1
import Derived.OpenShut
import Derived.ProofKit
import Derived.Deep.Slices
import Derived.Carry
import Derived.Deep.DeepHandedRow
import Derived.Lib.LaidU8T
import Derived.Lib.LaidIn
import Derived.Deep.DeepWitnessRowRef
set_option maxRecDepth 100000
set_option maxHeartbeats 16000000
namespace Go.Proofs.YtpmglcachffojaaGreatDoor
section
open Go Go.RowKit Go.ChangeShapes Go.WideShapes Go.ChangeAt Go.Deep
instance:Inhabited VV:=⟨⟨false,0,⟨#[]⟩⟩⟩
theorem own:ownKnob Tryz.prog.godebug=none:=by kernel_rfl
theorem kqy:laidOutB Tryz.prog=true:=by kernel_rfl
noncomputable def xxx (os:Os):World :=
 let w0:=World.holding Tryz.prog os ⟨#[],#[],[]⟩
 let put (h:Array Obj) (g:Nat) (cs:Array Value):Array Obj:=h.modify g fun
  | .cells _ t frozen=>.cells cs t frozen
  | o=>o
 let h1:=put w0.heap 0 (Lib.firstTab.map fun z=>Value.int .u8 z).toArray
 let h2:=put h1 1 ((List.range 16).flatMap fun i=>[Value.int .u8 (Lib.accLo i),Value.int .u8 (Lib.accHi i)]).toArray
 { w0 with heap:=h2 }
end
end Go.Proofs.YtpmglcachffojaaGreatDoor
