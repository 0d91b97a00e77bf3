/- slices.Equal at bytes. -/
import Derived.Test.YtojenpjafgfpaaaGreatDoorBase
import Derived.Deep.QuietTactic
import Derived.BigQuiet
namespace Go.Proofs.YtojenpjafgfpaaaGreatDoor
open Go Go.RowKit

def EqPost (r : Bool) (w : World) (e : Ending) (w' : World) : Prop := e = .returned (.bool r) ∧ Below w.heap.size w w'
theorem bdrewN {B : Nat} {a w : World} (h : Below B a w) (n : Nat) : Below B a (w.drewN n) := ⟨h.os, h.tape, h.output, h.size, h.block⟩
theorem u8_ne {x y : UInt8} (h : x ≠ y) : ((x.toNat : Int) != (y.toNat : Int)) = true := by
  rw [bne_iff_ne]; intro e; exact h (UInt8.toNat_inj.1 (by omega))
theorem take_eq_all {l m : List UInt8} (h : l.length = m.length) (h2 : l.take l.length = m.take l.length) : l = m := by
  rw [List.take_of_length_le (Nat.le_refl _), List.take_of_length_le (by omega)] at h2; exact h2

set_option maxRecDepth 100000 in
set_option maxHeartbeats 1000000 in
theorem eqB_any (F F' : Nat → Prop) (A A' : Option Addr) (n c n' c' : Nat) (l m : List UInt8) (w : World) (h : Bs F w A n c l) (h' : Bs F' w A' n' c' m) (hn : n ≤ 4294967296) (hn' : n' ≤ 4294967296) (r : Bool) (hr : r = decide (l = m)) :
    Calls Tryz.prog 18 #[.slice A n c, .slice A' n' c'] w (EqPost r w) := by
  have HR := Lib.hid hr; clear hr
  have HL := Lib.hid h.len; have HM := Lib.hid h'.len
  by_cases hnn : n = n'
  · subst hnn
    go_enter Tryz.func18, Tryz.ntmps18
    go_wp2
    go_loopw [13] (fun i wr => ∃ k : Nat, k ≤ n ∧ i = .int .i64 k ∧ l.take k = m.take k ∧ Below w.heap.size w wr) (fun i _ => n - (intOf i).toNat)
    case atStart => exact ⟨0, Nat.zero_le _, rfl, rfl, Below.refl _ _⟩
    case round =>
      obtain ⟨k, hk, rfl, hpre, hb⟩ := hrel
      have HP := Lib.hid hpre; clear hpre
      by_cases hlt : k < n
      · have hkl : k < l.length := by rw [← HL.out]; exact hlt
        have hkm : k < m.length := by rw [← HM.out]; exact hlt
        obtain ⟨b, o, rfl, _, hbl, hc⟩ := bs_at (h.below hb (Nat.le_refl _)) hkl
        obtain ⟨b', o', rfl, _, hbl', hc'⟩ := bs_at (h'.below hb (Nat.le_refl _)) hkm
        obtain ⟨x, hx⟩ : ∃ x, x = l[k] := ⟨_, rfl⟩
        obtain ⟨y, hy⟩ : ∃ y, y = m[k] := ⟨_, rfl⟩
        rw [← hx] at hc; rw [← hy] at hc'
        have HX := Lib.hid hx; have HY := Lib.hid hy; clear hx hy
        have hi1 : (0 : Int) ≤ (k : Int) := by omega
        have hi2 : (k : Int) < (n : Int) := by omega
        by_cases hxy : x = y
        · subst hxy
          have hnx : l.take (k + 1) = m.take (k + 1) := by
            rw [List.take_succ_eq_append_getElem hkl, List.take_succ_eq_append_getElem hkm, HP.out, ← HX.out, ← HY.out]
          have HNX := Lib.hid hnx; clear hnx
          go_wp2_with fail
          go_quiet (fail)
          go_wp2_with fail
          go_roundw
          case rel => exact ⟨k + 1, by omega, by go_num, HNX.out, bdrewN hb _⟩
          case measure => simp [intOf]; omega
        · have hne := u8_ne hxy
          have hfin : r = false := by
            rw [HR.out]
            refine decide_eq_false fun e => hxy ?_
            rw [HX.out, HY.out]
            subst e; rfl
          have HFIN := Lib.hid hfin
          clear hxy hfin
          go_wp2_with fail
          go_quiet (fail)
          go_wp2_with fail
          go_ret
          exact ⟨by rw [HFIN.out]; rfl, bdrewN hb _⟩
      · obtain rfl : k = n := by omega
        have hfin : r = true := by
          rw [HR.out]
          refine decide_eq_true (take_eq_all (by rw [← HL.out, ← HM.out]) ?_)
          rw [← HL.out]; exact HP.out
        have HFIN := Lib.hid hfin
        clear hfin
        go_wp2_with fail
        go_ret
        exact ⟨by rw [HFIN.out]; rfl, hb⟩
  · have hfin : r = false := by
      rw [HR.out]
      refine decide_eq_false fun e => hnn ?_
      rw [HL.out, HM.out, e]
    have HFIN := Lib.hid hfin
    clear hfin
    go_enter Tryz.func18, Tryz.ntmps18
    go_wp2
    go_ret
    exact ⟨by rw [HFIN.out]; rfl, Below.refl _ _⟩
end Go.Proofs.YtojenpjafgfpaaaGreatDoor
