/- A part of what Puts leans on. -/
import Derived.Test.YtpmglcachffojaaGreatDoorZ43
set_option maxRecDepth 100000
set_option maxHeartbeats 16000000
namespace Go.Proofs.YtpmglcachffojaaGreatDoor
section
open Go Go.RowKit
theorem jj3 {cols : List CC} {rows : List RR} (h : putE cols rows = 0) : schB cols = true ∧ rows.length ≤ 32 ∧ rows.all (rowB cols) = true := by
 have hs : schB cols = true := by
  cases hq : schB cols with
  | true => rfl
  | false => rw [uu0 hq] at h; exact absurd h (by decide)
 have h32 : rows.length ≤ 32 := by
  by_cases h2 : rows.length ≤ 32
  · exact h2
  · rw [uu1 hs h2] at h; exact absurd h (by decide)
 refine ⟨hs, h32, ?_⟩
 cases hq : rows.all (rowB cols) with
 | true => rfl
 | false => rw [uu2 hs h32 hq] at h; exact absurd h (by decide)
theorem xqF (F F2 : Nat → Prop) (A A2 : Option Addr) (n c n2 c2 : Nat) (cols : List CC) (rows : List RR) (w : World) (h : Sl tCol F w A n c cols) (h2 : Sl tRow F2 w A2 n2 c2 rows) (hn : n ≤ 4096) (hn2 : n2 ≤ 4096) (hU : Lib.Utf8Tabs 0 1 w) :
 Calls Tryz.prog 21 #[.slice A n c, .slice A2 n2 c2] w (uuD cols rows w) := by
 by_cases hE : putE cols rows = 0
 · obtain ⟨hs, h32, hall⟩ := jj3 hE
   exact xqE F F2 A A2 n c n2 c2 cols rows w h h2 hU hs h32 hall
 · exact r20put_no F F2 A A2 n c n2 c2 cols rows w h h2 hn hn2 hU hE
end
end Go.Proofs.YtpmglcachffojaaGreatDoor
