/- A part of what Puts leans on. -/
import Derived.Test.YtpmglcachffojaaGreatDoorZ27
set_option maxRecDepth 100000
set_option maxHeartbeats 16000000
namespace Go.Proofs.YtpmglcachffojaaGreatDoor
section
open Go Go.RowKit
theorem idxs_any (F : Nat → Prop) (A : Option Addr) (n c : Nat) (l : List ByteArray) (w : World) (h : Sl tStr F w A n c l) (hs : ∀ s ∈ l, s.size ≤ 300) (hn : n ≤ 4611686018427387904) :
 Calls Tryz.prog 163 #[.slice A n c, .func (.func 98) #[] #[]] w fun e w' => e = .returned (.int .i64 (-1)) ∧ Below w.heap.size w w' := by
 have HL := zH h.len; have HS := zH hs
 clear hs
 go_enter Tryz.func163, Tryz.ntmps163
 go_wp2_with fail
 go_loopw [8] (fun i wr => ∃ j : Nat, j ≤ n ∧ i = .int .i64 j ∧ Below w.heap.size w wr) (fun i _ => n - (intOf i).toNat)
 case atStart => exact ⟨0, Nat.zero_le _, rfl, zR⟩
 case round =>
  obtain ⟨j, hj, rfl, hb⟩ := hrel
  have HB := zH hb
  have hsz := hb.size
  by_cases hlt : j < n
  · have hjl : j < l.length := by rw [← HL.out]; exact hlt
    obtain ⟨b, o, u, rfl, _, hbl, hr, hc⟩ := (h.below hb zN).at1 hjl rfl
    have hsm := HS.out _ (List.getElem_mem hjl)
    obtain ⟨s, hs⟩ : ∃ s, s = l[j] := ⟨_, rfl⟩
    obtain ⟨hr, _⟩ := hr
    injection hr with hr; subst hr
    rw [← hs] at hc hsm
    have HD := zH (show decide (300 < s.size) = false from decide_eq_false (by omega))
    have hi1 : (0 : Int) ≤ (j : Int) := by omega
    have hi2 : (j : Int) < (n : Int) := by omega
    clear hb hs hsm
    go_wp2_with (first
     | (go_at_call 98; refine (long1_any s _).mono ?_; rintro e w1 ⟨rfl, hb1⟩; rw [HD.out]; have HB1 := zH (HB.out.trans (hb1.mono hsz)); clear hb1)
     | fail)
    go_roundw
    case rel => exact ⟨j + 1, by omega, by go_num, HB1.out⟩
    case measure => simp [intOf]; omega
  · obtain rfl : j = n := by omega
    go_wp2_with fail
    go_ret
    exact ⟨rfl, HB.out⟩
theorem long_any (F : Nat → Prop) (A : Option Addr) (n c : Nat) (l : List ByteArray) (w : World) (h : Sl tStr F w A n c l) (hs : ∀ s ∈ l, s.size ≤ 300) (hn : n ≤ 4611686018427387904) :
 Calls Tryz.prog 97 #[.slice A n c, .func (.func 98) #[] #[]] w fun e w' => e = .returned (.bool false) ∧ Below w.heap.size w w' := by
 have H := zH h; have HS := zH hs; have HN := zH hn
 clear h hs hn
 go_enter Tryz.func97, Tryz.ntmps97
 go_wp2_with (first
  | (go_at_call 163; refine (idxs_any F A n c l _ H.out HS.out HN.out).mono ?_; rintro e w1 ⟨rfl, hb1⟩; have HB1 := zH hb1; clear hb1)
  | fail)
 go_ret
 exact ⟨rfl, HB1.out⟩
end
end Go.Proofs.YtpmglcachffojaaGreatDoor
