/- names.File and the reference's File: a bucket's file in a directory. -/
import Derived.Test.YtollmolchcnpeaaGreatDoorNPut
import Derived.Test.YtollmolchcnpeaaGreatDoorNP4
namespace Go.Proofs.YtollmolchcnpeaaGreatDoor
open Go Go.RowKit

theorem itoa_small {b : Int} (h0 : 0 ≤ b) (h4 : b < 4) : Lib.itoa b = [UInt8.ofNat (48 + b.toNat)] := by
  rw [Lib.itoa, if_neg (by omega), Lib.decDigits, dif_pos (by omega)]
set_option maxRecDepth 100000 in
set_option maxHeartbeats 2000000 in
theorem nfile_any (d : DD) (b : Int) (hb : i64 b) (f : List UInt8) (hf : f = nfile d b) (w : World) (ht : Tab w) : Calls Tryz.prog 17 #[.agg #[.int .i64 d.kind, .int .i64 d.lo, .int .i64 d.hi], .int .i64 b] w (StrPost f w) := by
  obtain ⟨p, hp⟩ : ∃ p, p = nput d := ⟨_, rfl⟩
  have hpl : p.length ≤ 27 := by rw [hp]; exact nput_len d
  have HP := Lib.hid hp; have HF := Lib.hid hf; have HT := Lib.hid ht; have HBI := Lib.hid hb
  have HB0 := Lib.hid (show Below w.heap.size w (w.alloc (.cells #[.int .i64 d.kind, .int .i64 d.lo, .int .i64 d.hi] 24)) from (Below.refl _ _).alloc (Nat.le_refl _) _)
  clear hp hf ht hb
  by_cases hno : p = [] ∨ b < 0 ∨ 4 ≤ b
  · have HFE := Lib.hid (show f = [] by rw [HF.out, nfile, if_pos (by rw [← HP.out]; exact hno)])
    rcases (show p = [] ∨ (p ≠ [] ∧ b < 0) ∨ (p ≠ [] ∧ ¬ b < 0 ∧ 4 ≤ b) by by_cases h : p = []; exact .inl h; rcases hno with h1 | h1 | h1; exact .inl h1; exact .inr (.inl ⟨h, h1⟩); exact .inr (.inr ⟨h, by omega, h1⟩)) with h | ⟨h, q1⟩ | ⟨h, q1, q2⟩
    · have hpe : p.isEmpty = true := by rw [h]; rfl
      clear h hno
      go_enter Tryz.func17, Tryz.ntmps17
      go_wp2_with (first
        | (go_at_call 10; refine (nput_any d p HP.out _ (HT.out.below HB0.out)).mono ?_; rintro e w1 ⟨rfl, hb1⟩; have HB1 := Lib.hid (HB0.out.trans (hb1.mono (by simp))); clear hb1)
        | fail)
      go_ret
      exact ⟨by rw [HFE.out]; rfl, HB1.out⟩
    · have hpe : p.isEmpty = false := by cases p with | nil => exact absurd rfl h | cons _ _ => rfl
      clear h hno
      go_enter Tryz.func17, Tryz.ntmps17
      go_wp2_with (first
        | (go_at_call 10; refine (nput_any d p HP.out _ (HT.out.below HB0.out)).mono ?_; rintro e w1 ⟨rfl, hb1⟩; have HB1 := Lib.hid (HB0.out.trans (hb1.mono (by simp))); clear hb1)
        | fail)
      go_ret
      exact ⟨by rw [HFE.out]; rfl, HB1.out⟩
    · have hpe : p.isEmpty = false := by cases p with | nil => exact absurd rfl h | cons _ _ => rfl
      clear h hno
      go_enter Tryz.func17, Tryz.ntmps17
      go_wp2_with (first
        | (go_at_call 10; refine (nput_any d p HP.out _ (HT.out.below HB0.out)).mono ?_; rintro e w1 ⟨rfl, hb1⟩; have HB1 := Lib.hid (HB0.out.trans (hb1.mono (by simp))); clear hb1)
        | fail)
      go_ret
      exact ⟨by rw [HFE.out]; rfl, HB1.out⟩
  · have h : p ≠ [] := fun e => hno (.inl e)
    have q1 : ¬ b < 0 := by omega
    have q2 : ¬ 4 ≤ b := by omega
    have hpe : p.isEmpty = false := by cases p with | nil => exact absurd rfl h | cons _ _ => rfl
    obtain ⟨s, hs⟩ : ∃ s, s = Lib.itoa b := ⟨_, rfl⟩
    have hse := hs.trans (itoa_small (by omega) (by omega))
    have HFE := Lib.hid (show f = p ++ buck ++ s by rw [HF.out, nfile, if_neg (by rw [← HP.out]; exact hno), hse, HP.out, List.append_assoc])
    have hsl : s.length = 1 := by rw [hse]; rfl
    have b1 : ¬ 9223372036854775807 < p.length + 8 := by omega
    have b2 : ¬ 9223372036854775807 < p.length + 8 + s.length := by omega
    have HS := Lib.hid hs
    clear h hno hs hse hsl
    go_enter Tryz.func17, Tryz.ntmps17
    go_wp2_with (first
      | (go_at_call 10; refine (nput_any d p HP.out _ (HT.out.below HB0.out)).mono ?_; rintro e w1 ⟨rfl, hb1⟩; have HB1 := Lib.hid (HB0.out.trans (hb1.mono (by simp))); have hs1 := HB1.out.size; clear hb1)
      | (go_at_call 35; refine (itoa_p b HBI.out s HS.out _ (HT.out.below HB1.out)).mono ?_; rintro e w2 ⟨rfl, hb2⟩; have HB2 := Lib.hid (HB1.out.trans (hb2.mono hs1)); clear hb2)
      | fail)
    go_ret
    exact ⟨by rw [HFE.out, ← ba_append, ← ba_append]; rfl, HB2.out⟩

set_option maxRecDepth 100000 in
set_option maxHeartbeats 2000000 in
theorem rnfile_any (d : DD) (b : Int) (f : List UInt8) (hf : f = nfile d b) (w : World) : Calls Tryz.prog 18 #[.agg #[.int .i64 d.kind, .int .i64 d.lo, .int .i64 d.hi], .int .i64 b] w (StrPost f w) := by
  obtain ⟨p, hp⟩ : ∃ p, p = nput d := ⟨_, rfl⟩
  have hpl : p.length ≤ 27 := by rw [hp]; exact nput_len d
  have HP := Lib.hid hp; have HF := Lib.hid hf
  have HB0 := Lib.hid (show Below w.heap.size w (w.alloc (.cells #[.int .i64 d.kind, .int .i64 d.lo, .int .i64 d.hi] 24)) from (Below.refl _ _).alloc (Nat.le_refl _) _)
  clear hp hf
  by_cases hno : p = [] ∨ b < 0 ∨ 4 ≤ b
  · have HFE := Lib.hid (show f = [] by rw [HF.out, nfile, if_pos (by rw [← HP.out]; exact hno)])
    rcases (show p = [] ∨ (p ≠ [] ∧ b < 0) ∨ (p ≠ [] ∧ ¬ b < 0 ∧ 4 ≤ b) by by_cases h : p = []; exact .inl h; rcases hno with h1 | h1 | h1; exact .inl h1; exact .inr (.inl ⟨h, h1⟩); exact .inr (.inr ⟨h, by omega, h1⟩)) with h | ⟨h, q1⟩ | ⟨h, q1, q2⟩
    · have hpe : p.isEmpty = true := by rw [h]; rfl
      clear h hno
      go_enter Tryz.func18, Tryz.ntmps18
      go_wp2_with (first
        | (go_at_call 15; refine (rnput_any d p HP.out _).mono ?_; rintro e w1 ⟨rfl, hb1⟩; have HB1 := Lib.hid (HB0.out.trans (hb1.mono (by simp))); clear hb1)
        | fail)
      go_ret
      exact ⟨by rw [HFE.out]; rfl, HB1.out⟩
    · have hpe : p.isEmpty = false := by cases p with | nil => exact absurd rfl h | cons _ _ => rfl
      clear h hno
      go_enter Tryz.func18, Tryz.ntmps18
      go_wp2_with (first
        | (go_at_call 15; refine (rnput_any d p HP.out _).mono ?_; rintro e w1 ⟨rfl, hb1⟩; have HB1 := Lib.hid (HB0.out.trans (hb1.mono (by simp))); clear hb1)
        | fail)
      go_ret
      exact ⟨by rw [HFE.out]; rfl, HB1.out⟩
    · have hpe : p.isEmpty = false := by cases p with | nil => exact absurd rfl h | cons _ _ => rfl
      clear h hno
      go_enter Tryz.func18, Tryz.ntmps18
      go_wp2_with (first
        | (go_at_call 15; refine (rnput_any d p HP.out _).mono ?_; rintro e w1 ⟨rfl, hb1⟩; have HB1 := Lib.hid (HB0.out.trans (hb1.mono (by simp))); clear hb1)
        | fail)
      go_ret
      exact ⟨by rw [HFE.out]; rfl, HB1.out⟩
  · have h : p ≠ [] := fun e => hno (.inl e)
    have q1 : ¬ b < 0 := by omega
    have q2 : ¬ 4 ≤ b := by omega
    have hpe : p.isEmpty = false := by cases p with | nil => exact absurd rfl h | cons _ _ => rfl
    obtain ⟨c, hc⟩ : ∃ c : UInt8, c = UInt8.ofNat (48 + b.toNat) := ⟨_, rfl⟩
    have hcn : ((c.toNat : Nat) : Int) = 48 + b := by rw [hc, dig_nat _ (by omega)]; omega
    have HFE := Lib.hid (show f = p ++ buck ++ [c] by rw [HF.out, nfile, if_neg (by rw [← HP.out]; exact hno), hc, HP.out, List.append_assoc])
    have b1 : ¬ 9223372036854775807 < p.length + 8 := by omega
    have b2 : ¬ 9223372036854775807 < p.length + 8 + 1 := by omega
    have hw8 : IntKind.u8.wrap (48 + b) = 48 + b := by rw [IntKind.wrap_u8]; omega
    have hcv := fun w1 : World => run_b1 w1 c (48 + b) hcn.symm w1.heap.size rfl
    have HC := Lib.hid hc; have HCN := Lib.hid hcn
    clear h hno hc hcn
    go_enter Tryz.func18, Tryz.ntmps18
    go_wp2_with (first
      | (go_at_call 15; refine (rnput_any d p HP.out _).mono ?_; rintro e w1 ⟨rfl, hb1⟩; have HB1 := Lib.hid (HB0.out.trans (hb1.mono (by simp))); have hs1 := HB1.out.size; clear hb1)
      | fail)
    go_ret
    exact ⟨by rw [HFE.out, ← ba_append, ← ba_append]; rfl, HB1.out.alloc hs1 _⟩
end Go.Proofs.YtollmolchcnpeaaGreatDoor
