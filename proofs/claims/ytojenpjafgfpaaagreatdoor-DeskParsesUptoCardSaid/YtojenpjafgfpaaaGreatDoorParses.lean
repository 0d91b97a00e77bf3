/- The law DeskParses: any script is read, or refused, as the reference does: its walk. -/
import Derived.Test.YtojenpjafgfpaaaGreatDoorShown
import Derived.Test.YtojenpjafgfpaaaGreatDoorRParse
import Derived.Test.YtojenpjafgfpaaaGreatDoorSame2
import Derived.Deep.CutRange
namespace Go.Proofs.YtojenpjafgfpaaaGreatDoor
open Go Go.RowKit
attribute [local go_sem ↓] Go.wp_at_zero Go.wp_at_succ

def PaPostR (r : List EE × Nat × Int) (w : World) (e : Ending) (w' : World) : Prop :=
  ∃ A n c, e = .returned (.tuple #[.slice A n c, .int .i64 (r.2.1 : Nat), .int .i64 r.2.2]) ∧ Below w.heap.size w w' ∧ Sl tEE (fun b => w.heap.size ≤ b) w' A n c r.1
theorem parse_r (s : List UInt8) (mx : Int) (w : World) (hm : w.cell? ⟨0, 0, none⟩ = some (.int .i64 mx)) (hs : s.length ≤ 9223372036854775807) (r : List EE × Nat × Int) (hr : r = parseOf s) :
    Calls Tryz.prog 12 #[.string ⟨s.toArray⟩] w (PaPostR r w) := by
  subst hr; exact parse_any s mx w hm hs
theorem rparse_r (s : List UInt8) (w : World) (hs : s.length ≤ 9223372036854775807) (r : List EE × Nat × Int) (hr : r = parseOf s) :
    Calls Tryz.prog 13 #[.string ⟨s.toArray⟩] w (PaPostR r w) := by
  subst hr; exact rparse_any s w hs

theorem cut_fin (s : ByteArray) (k : Nat) (w1 : World) : ∃ t : List UInt8, t.length ≤ k ∧ Value.string (s.extract 0 k) = .string ⟨t.toArray⟩ ∧ w1 = w1 := by
  refine ⟨(s.extract 0 k).data.toList, ?_, by rw [byteArray_toList], rfl⟩
  rw [Array.length_toList]; show (s.extract 0 k).size ≤ k
  rw [ByteArray.size_extract]; omega
set_option maxRecDepth 100000 in
set_option maxHeartbeats 8000000 in
theorem parses_any (s : ByteArray) (mx : Int) (w : World) (hm : w.cell? ⟨0, 0, none⟩ = some (.int .i64 mx)) (ht : Tab w) (hs : s.size ≤ 9223372036854775807) :
    Calls Tryz.prog 4 #[.string s] w fun e w' => e = .returned (.bool true) ∧ Below w.heap.size w w' := by
  have HT := Lib.hid ht
  clear ht
  go_enter Tryz.func4, Tryz.ntmps4
  go_upto_if 14 with (first
    | (go_at_call 5; refine (shown_any mx _ hm HT.out).mono ?_; rintro e w1 ⟨rfl, hb1⟩; have HB1 := Lib.hid hb1; have hs1 := hb1.size; clear hb1)
    | fail)
  go_cut [0] from 14 to 16 (fun v wx => ∃ t : List UInt8, t.length ≤ 66000 ∧ v = .string ⟨t.toArray⟩ ∧ wx = w1)
  case first =>
    by_cases h9 : 66000 < s.size
    · have h9' : (66000 : Int) < (s.size : Int) := by omega
      clear h9
      go_wp2_with fail
      go_meet
      exact cut_fin s 66000 w1
    · have hq : decide ((66000 : Int) < (s.size : Int)) = false := by simp; omega
      have hq' : ¬ (66000 : Int) < (s.size : Int) := by omega
      go_wp2_with fail
      go_meet
      exact ⟨s.data.toList, by rw [Array.length_toList]; show s.size ≤ 66000; omega, by rw [byteArray_toList], rfl⟩
  case rest =>
    obtain ⟨t, ht, rfl, rfl⟩ := hcut
    have hm1 := kcell HB1.out hm
    obtain ⟨r, hr⟩ : ∃ r, r = parseOf t := ⟨_, rfl⟩
    have HR := Lib.hid hr
    clear hr
    obtain ⟨rl, rn, re⟩ := r
    go_wp2_with (first
      | (go_at_call 12; refine (parse_r t mx _ hm1 (by omega) (rl, rn, re) HR.out).mono ?_; rintro e w4 ⟨A4, n4, c4, rfl, hb4, hk4⟩; have HB4 := Lib.hid (HB1.out.trans (hb4.mono hs1)); have HK4 := Lib.hid hk4; have hs4 := HB4.out.size; clear hb4 hk4)
      | (go_at_call 13; refine (rparse_r t _ (by omega) (rl, rn, re) HR.out).mono ?_; rintro e w5 ⟨A5, n5, c5, rfl, hb5, hk5⟩; have HB5 := Lib.hid (HB4.out.trans (hb5.mono hs4)); have HK5 := Lib.hid hk5; have HK6 := Lib.hid (HK4.out.below hb5 (Nat.le_refl _)); have hs5 := HB5.out.size; clear hb5 hk5)
      | (go_at_call 9; refine (sameEvents_any _ _ A4 A5 n4 c4 n5 c5 rl _ HK6.out HK5.out).mono ?_; rintro e w6 ⟨rfl, hb6⟩; have HB6 := Lib.hid (HB5.out.trans (hb6.mono hs5)); clear hb6)
      | fail)
    go_ret
    exact ⟨rfl, HB6.out⟩
end Go.Proofs.YtojenpjafgfpaaaGreatDoor
