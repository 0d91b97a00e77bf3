/- A part of what Chunks leans on. -/
import Derived.Test.YtpmglcachffojaaGreatDoorZ23
import Derived.Test.YtpmglcachffojaaGreatDoorZ24
set_option maxRecDepth 100000
set_option maxHeartbeats 16000000
namespace Go.Proofs.YtpmglcachffojaaGreatDoor
section
open Go Go.RowKit
attribute [local go_sem ↓] Go.wp_at_zero Go.wp_at_succ
def SS.ok (s : SS) : Prop := i64 s.count ∧ s.min.ok ∧ s.max.ok ∧ i64 s.sum ∧ s.min.s.size ≤ 1000000 ∧ s.max.s.size ≤ 1000000
end
end Go.Proofs.YtpmglcachffojaaGreatDoor
