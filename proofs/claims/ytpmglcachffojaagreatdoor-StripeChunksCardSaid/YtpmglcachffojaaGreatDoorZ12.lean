/- A part of what Chunks leans on. -/
import Derived.Test.YtpmglcachffojaaGreatDoorZ10
set_option maxRecDepth 100000
set_option maxHeartbeats 16000000
namespace Go.Proofs.YtpmglcachffojaaGreatDoor
section
open Go Go.RowKit
theorem jjB (a b : Int) (a0 : -9223372036854775808 ≤ a) (a1 : a ≤ 9223372036854775807) (b0 : -9223372036854775808 ≤ b) (b1 : b ≤ 9223372036854775807) (w : World) :
 Calls Tryz.prog 262 #[.int .i64 a, .int .i64 b] w fun e w' => e = .returned (.tuple (yyH a b)) ∧ w = w' := by
 obtain ⟨g, hg⟩ : ∃ g : Int, g = (gapN a b : Nat) := ⟨_, rfl⟩
 have hgn : g = if b < a then a - b else b - a := by rw [hg]; unfold gapN; split <;> omega
 have HV : Hid (yyH a b = if g < 9223372036854775808 then #[.int .u64 g, .bool (decide (b < a)), .bool true] else #[.int .u64 0, .bool false, .bool false]) := zH (by
  unfold yyH; rw [hg]
  by_cases h : gapN a b < 9223372036854775808
  · rw [if_pos h, if_pos (by omega)]
  · rw [if_neg h, if_neg (by omega)])
 obtain ⟨p, hp⟩ : ∃ p, p = IntKind.u64.wrap b := ⟨_, rfl⟩
 obtain ⟨q, hq⟩ : ∃ q, q = IntKind.u64.wrap a := ⟨_, rfl⟩
 have HP := zH hp; have HQ := zH hq
 rw [IntKind.wrap_u64] at hp hq
 have hg0 : 0 ≤ g := by rw [hgn]; split <;> omega
 have hg1 : g < 18446744073709551616 := by rw [hgn]; split <;> omega
 by_cases hba : b < a
 · rw [if_pos hba] at hgn
   have F1 := zH (show IntKind.u64.wrap (q - p) = g by rw [IntKind.wrap_u64]; omega)
   have d1 : decide (b < a) = true := decide_eq_true hba
   rw [d1] at HV
   clear hg hgn hp hq d1
   by_cases hz : g < 9223372036854775808
   · rw [if_pos hz] at HV
     have hz2 : ¬ g ≥ 9223372036854775808 := by omega
     have hz3 : ¬ (9223372036854775808 : Int) ≤ g := by omega
     go_enter Tryz.func262, Tryz.ntmps262
     go_upto_region 3 with fail
     rw [← HP.out, ← HQ.out, F1.out]
     go_wp2_with fail
     go_ret3
     exact ⟨by rw [HV.out]; rfl, rfl⟩
   · rw [if_neg hz] at HV
     have hz2 : g ≥ 9223372036854775808 := by omega
     have hz3 : (9223372036854775808 : Int) ≤ g := by omega
     go_enter Tryz.func262, Tryz.ntmps262
     go_upto_region 3 with fail
     rw [← HP.out, ← HQ.out, F1.out]
     go_wp2_with fail
     go_ret3
     exact ⟨by rw [HV.out]; rfl, rfl⟩
 · rw [if_neg hba] at hgn
   have F1 := zH (show IntKind.u64.wrap (p - q) = g by rw [IntKind.wrap_u64]; omega)
   have d1 : decide (b < a) = false := decide_eq_false hba
   rw [d1] at HV
   clear hg hgn hp hq d1
   by_cases hz : g < 9223372036854775808
   · rw [if_pos hz] at HV
     have hz2 : ¬ g ≥ 9223372036854775808 := by omega
     have hz3 : ¬ (9223372036854775808 : Int) ≤ g := by omega
     go_enter Tryz.func262, Tryz.ntmps262
     go_upto_region 7 with fail
     rw [← HP.out, ← HQ.out, F1.out]
     go_wp2_with fail
     go_ret3
     exact ⟨by rw [HV.out]; rfl, rfl⟩
   · rw [if_neg hz] at HV
     have hz2 : g ≥ 9223372036854775808 := by omega
     have hz3 : (9223372036854775808 : Int) ≤ g := by omega
     go_enter Tryz.func262, Tryz.ntmps262
     go_upto_region 7 with fail
     rw [← HP.out, ← HQ.out, F1.out]
     go_wp2_with fail
     go_ret3
     exact ⟨by rw [HV.out]; rfl, rfl⟩
end
end Go.Proofs.YtpmglcachffojaaGreatDoor
