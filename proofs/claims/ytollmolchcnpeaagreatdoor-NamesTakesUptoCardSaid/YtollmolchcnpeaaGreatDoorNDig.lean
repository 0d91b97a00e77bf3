/- strings.HasPrefix, strings.Repeat of a nought; names.digits and the reference's digits. -/
import Derived.Test.YtollmolchcnpeaaGreatDoorNMay
import Derived.Test.YtollmolchcnpeaaGreatDoorNP2
namespace Go.Proofs.YtollmolchcnpeaaGreatDoor
open Go Go.RowKit

theorem ba_append (a b : List UInt8) : ((⟨a.toArray⟩ : ByteArray) ++ ⟨b.toArray⟩) = ⟨(a ++ b).toArray⟩ := by
  apply ByteArray.ext
  rw [ByteArray.data_append]
  simp
def hasP (s p : ByteArray) : Bool := decide (p.size ≤ s.size) && ((s.extract 0 p.size).toList == p.toList)
theorem hasp1_any (s p : ByteArray) (b : Bool) (hb : b = hasP s p) (w : World) : Calls Tryz.prog 86 #[.string s, .string p] w fun e w' => e = .returned (.bool b) ∧ w = w' := by
  subst hb
  by_cases h : p.size ≤ s.size
  · have h2 : (p.size : Int) ≤ (s.size : Int) := by omega
    have HB := Lib.hid (show hasP s p = ((s.extract 0 p.size).toList == p.toList) by unfold hasP; rw [decide_eq_true h]; simp)
    clear h
    go_enter Tryz.func86, Tryz.ntmps86
    go_wp2_with fail
    go_ret
    exact ⟨by rw [HB.out]; rfl, by first | rfl | trivial | fail⟩
  · have h2 : ¬ (p.size : Int) ≤ (s.size : Int) := by omega
    have HB := Lib.hid (show hasP s p = false by unfold hasP; rw [decide_eq_false h]; rfl)
    clear h
    go_enter Tryz.func86, Tryz.ntmps86
    go_wp2_with fail
    go_ret
    exact ⟨by rw [HB.out]; rfl, by first | rfl | trivial | fail⟩
theorem hasp_any (s p : ByteArray) (b : Bool) (hb : b = hasP s p) (w : World) : Calls Tryz.prog 64 #[.string s, .string p] w fun e w' => e = .returned (.bool b) ∧ w = w' := by
  have HB := Lib.hid hb
  clear hb
  go_enter Tryz.func64, Tryz.ntmps64
  go_wp2_with (go_at_call 86; refine (hasp1_any s p b HB.out _).mono ?_; rintro e w' ⟨rfl, rfl⟩)
  go_ret
  exact ⟨rfl, by first | rfl | trivial | fail⟩

set_option maxRecDepth 100000 in
theorem rep0_zero (w : World) : Calls Tryz.prog 39 #[.string ⟨#[48]⟩, .int .i64 0] w fun e w' => e = .returned (.string ⟨#[]⟩) ∧ w = w' := by
  go_enter Tryz.func39, Tryz.ntmps39
  go_wp2_with fail
  go_ret
  exact ⟨rfl, by first | rfl | trivial | fail⟩
set_option maxRecDepth 100000 in
theorem rep0_one (w : World) : Calls Tryz.prog 39 #[.string ⟨#[48]⟩, .int .i64 1] w fun e w' => e = .returned (.string ⟨#[48]⟩) ∧ w = w' := by
  go_enter Tryz.func39, Tryz.ntmps39
  go_wp2_with fail
  go_ret
  exact ⟨rfl, by first | rfl | trivial | fail⟩
set_option maxRecDepth 100000 in
set_option maxHeartbeats 4000000 in
theorem rep0_more (c : Nat) (h2 : 2 ≤ c) (h9 : c ≤ 9) (w : World) : Calls Tryz.prog 39 #[.string ⟨#[48]⟩, .int .i64 c] w fun e w' => e = .returned (.string ⟨(List.replicate c 48).toArray⟩) ∧ w = w' := by
  have q0 : ((c : Int) == 0) = false := beq_no (by omega)
  have q1 : ((c : Int) == 1) = false := beq_no (by omega)
  have q2 : ¬ (c : Int) < 0 := by omega
  have q3 : (c : Int) ≤ 64 := by omega
  have q4 : (c : Int) ≤ 128 := by omega
  have q5 : (0 : Int) ≤ (c : Int) := by omega
  have q6 : (c : Int) ≤ 9223372036854775807 := by omega
  go_enter Tryz.func39, Tryz.ntmps39
  go_wp2_with (first
    | (go_at_call 63; refine (Tryz.bits_Mul 1 c (by omega) (by omega) _).mono ?_; rintro e w1 ⟨rfl, hw1⟩; obtain rfl := hw1.symm; rw [show (1 * c / 18446744073709551616 : Nat) = 0 by omega, show (1 * c % 18446744073709551616 : Nat) = c by omega])
    | (go_at_call 64; (first | refine (hasp_any _ _ false (by decide +kernel) _).mono ?_ | refine (hasp_any _ _ true (by decide +kernel) _).mono ?_); rintro e w2 ⟨rfl, hw2⟩; obtain rfl := hw2)
    | fail)
  go_ret
  refine ⟨?_, by first | rfl | trivial | fail⟩
  rcases (show c = 2 ∨ c = 3 ∨ c = 4 ∨ c = 5 ∨ c = 6 ∨ c = 7 ∨ c = 8 ∨ c = 9 by omega) with rfl | rfl | rfl | rfl | rfl | rfl | rfl | rfl <;> rfl
theorem rep0_any (c : Nat) (h9 : c ≤ 9) (z : List UInt8) (hz : z = List.replicate c 48) (w : World) : Calls Tryz.prog 39 #[.string ⟨#[48]⟩, .int .i64 c] w fun e w' => e = .returned (.string ⟨z.toArray⟩) ∧ w = w' := by
  subst hz
  match c, h9 with
  | 0, _ => exact rep0_zero w
  | 1, _ => exact rep0_one w
  | c + 2, h => exact rep0_more (c + 2) (by omega) h w

set_option maxRecDepth 100000 in
set_option maxHeartbeats 1000000 in
theorem digits_any (n : Int) (h0 : 0 ≤ n) (h1 : n ≤ 1073741824) (p : List UInt8) (hp : p = digs n) (w : World) (ht : Tab w) :
    Calls Tryz.prog 26 #[.int .i64 n] w fun e w' => e = .returned (.string ⟨p.toArray⟩) ∧ Below w.heap.size w w' := by
  obtain ⟨q, hq⟩ : ∃ q, q = Lib.itoa n := ⟨_, rfl⟩
  have hqd : q = Lib.decDigits n.toNat := by rw [hq, Lib.itoa, if_neg (by omega)]
  have hdz := dz_itoa n.toNat
  have hlen := dz_len10 n.toNat (by omega)
  have hql : q.length ≤ 10 := by
    have := congrArg List.length hdz
    rw [List.length_append, ← hqd] at this
    omega
  obtain ⟨z, hz⟩ : ∃ z : List UInt8, z = List.replicate (9 - q.length) 48 := ⟨_, rfl⟩
  have HP := Lib.hid (show p = z ++ q by rw [hp, hz, hqd]; exact hdz)
  have hzl : z.length ≤ 9 := by rw [hz, List.length_replicate]; omega
  have HQ := Lib.hid hq; have HZ := Lib.hid hz; have HT := Lib.hid ht; have HN : Hid (i64 n) := Lib.hid (by unfold i64; omega)
  have hc : max (0 : Int) (9 - (q.length : Int)) = ((9 - q.length : Nat) : Int) := by omega
  have hcat : ¬ (9223372036854775807 : Int) < (z.length : Int) + (q.length : Int) := by omega
  clear hp hq hqd hdz hlen hz ht h0 h1
  go_enter Tryz.func26, Tryz.ntmps26
  go_wp2_with (first
    | (go_at_call 35; refine (itoa_p n HN.out q HQ.out _ HT.out).mono ?_; rintro e w1 ⟨rfl, hb1⟩; have HB1 := Lib.hid hb1; clear hb1)
    | (go_at_call 39; refine (rep0_any (9 - q.length) (by omega) z HZ.out _).mono ?_; rintro e w2 ⟨rfl, hw2⟩; obtain rfl := hw2)
    | fail)
  go_ret
  exact ⟨by rw [HP.out, ← ba_append]; rfl, HB1.out⟩
theorem run_bs {F : Nat → Prop} {w : World} {A : Option Addr} {n c : Nat} {l : List UInt8} (h : Bs F w A n c l) : (convert 55 9 (.slice A n c)).run Tryz.prog w = .ok (.string ⟨l.toArray⟩) w := by
  obtain ⟨hn, _, _, css, hrd, hr⟩ := h
  subst hn
  have hcs := reps_u8_eq hr
  subst hcs
  rw [bvs_css] at hrd
  cases A with
  | none =>
    have : l = [] := by
      cases l with
      | nil => rfl
      | cons x t => obtain ⟨_, _, h, _⟩ := hrd (by simp [bvs]); cases h
    subst this
    rw [List.length_nil, run_convert_bytes_string w _ _ _ none 0 c undBytes undByte undString]
    simp [Conv.bytesToString]
    rfl
  | some a =>
    refine run_convert_bytes_back w _ _ _ a c l undBytes undByte undString (fun j hj => ?_)
    obtain ⟨b, o, e, _, _, hc⟩ := hrd (by intro h0; cases l with | nil => simp at hj | cons x t => simp [bvs] at h0)
    injection e with e; subst e
    rw [add_lit]
    exact hc j _ (by rw [bvs_get l j hj])
/-- string([]byte{c}). -/
theorem run_b1 (w : World) (c : UInt8) (v : Int) (hv : v = (c.toNat : Int)) (p : Nat) (hp : p = w.heap.size) : (convert 55 9 (.slice (some ⟨p, 0, none⟩) 1 1)).run Tryz.prog (w.alloc (.cells #[.int .u8 v] 5)) = .ok (.string ⟨[c].toArray⟩) (w.alloc (.cells #[.int .u8 v] 5)) := by
  subst hv hp
  exact run_bs (F := fun b => b = w.heap.size) (bs_mk (l := [c]) (Rd.new w [.int .u8 (c.toNat : Int)] 5) rfl (Nat.le_refl _) (by simp [maxLen]))
set_option maxRecDepth 100000 in
set_option maxHeartbeats 2000000 in
theorem rdigits_any (n : Int) (h0 : 0 ≤ n) (h1 : n ≤ 1073741824) (p : List UInt8) (hp : p = digs n) (w : World) :
    Calls Tryz.prog 33 #[.int .i64 n] w fun e w' => e = .returned (.string ⟨p.toArray⟩) ∧ Below w.heap.size w w' := by
  have hpl : p.length ≤ 10 := by rw [hp]; exact digs_len h1
  have HP := Lib.hid (show p = dz 9 n.toNat from hp)
  obtain ⟨N, hN⟩ : ∃ N : Nat, n = (N : Int) := ⟨n.toNat, by omega⟩
  subst hN
  have hNb : N ≤ 1073741824 := by omega
  clear hp h0 h1
  go_enter Tryz.func33, Tryz.ntmps33
  go_wp2_with fail
  go_loopw [0, 3, 4] (fun nv sv iv wr => ∃ (j m : Nat) (s : List UInt8), nv = .int .i64 (m : Int) ∧ sv = .string ⟨s.toArray⟩ ∧ iv = .int .i64 (j : Int) ∧ s.length = j ∧ m ≤ 1073741824 ∧ p = dz (9 - j) m ++ s ∧ Below w.heap.size w wr)
    (fun nv _ iv _ => (9 - (intOf iv).toNat) + (intOf nv).toNat)
  case atStart => exact ⟨0, N, [], rfl, rfl, rfl, rfl, hNb, by rw [HP.out]; simp, Below.refl _ _⟩
  case round =>
    obtain ⟨j, m, s, rfl, rfl, rfl, hsl, hm, hdz, hb⟩ := hrel
    have hj10 : j ≤ 10 := by
      have := congrArg List.length hdz
      rw [List.length_append, hsl] at this
      omega
    have HSL := Lib.hid hsl; have HDZ := Lib.hid hdz; have HB := Lib.hid hb
    have hsz := hb.size
    clear hsl hdz hb
    by_cases hgo : j < 9 ∨ 0 < m
    · have hst := dz_step (9 - j) m (by omega)
      obtain ⟨c, hc⟩ : ∃ c : UInt8, c = UInt8.ofNat (48 + m % 10) := ⟨_, rfl⟩
      have hcn : ((c.toNat : Nat) : Int) = 48 + (m : Int) % 10 := by rw [hc, dig_nat _ (Nat.mod_lt _ (by decide))]; omega
      have HST := Lib.hid (show p = dz (9 - (j + 1)) (m / 10) ++ ([c] ++ s) by rw [HDZ.out, hst, hc, List.append_assoc]; rfl)
      have hw8 : IntKind.u8.wrap (48 + (m : Int) % 10) = 48 + (m : Int) % 10 := by rw [IntKind.wrap_u8]; omega
      have hcv := run_b1 wr c (48 + (m : Int) % 10) hcn.symm wr.heap.size rfl
      have hcat : ¬ (9223372036854775807 : Int) < 1 + (j : Int) := by omega
      have hdiv : 0 ≤ (m : Int) / 10 ∧ (m : Int) / 10 ≤ 1073741824 := by omega
      have hsz2 : (⟨s.toArray⟩ : ByteArray).size = j := by rw [← HSL.out]; show s.toArray.size = _; rw [List.size_toArray]
      have HC := Lib.hid hc; have HCN := Lib.hid hcn
      clear hst hc hcn
      by_cases hj : j < 9
      all_goals
        have hq : (j : Int) < 9 ∨ ¬ (j : Int) < 9 ∧ (0 : Int) < (m : Int) := by omega
      · have hq1 : (j : Int) < 9 := by omega
        clear hq hgo hj
        go_wp2_with fail
        go_roundw
        case rel => exact ⟨j + 1, m / 10, [c] ++ s, by go_num, by rw [ba_append], by go_num, by simp [HSL.out], by omega, HST.out, HB.out.alloc hsz _⟩
        case measure => simp [intOf]; omega
      · have hq1 : ¬ (j : Int) < 9 := by omega
        have hq2 : (0 : Int) < (m : Int) := by omega
        clear hq hgo hj
        go_wp2_with fail
        go_roundw
        case rel => exact ⟨j + 1, m / 10, [c] ++ s, by go_num, by rw [ba_append], by go_num, by simp [HSL.out], by omega, HST.out, HB.out.alloc hsz _⟩
        case measure => simp [intOf]; omega
    · have hq1 : ¬ (j : Int) < 9 := by omega
      have hq2 : ¬ (0 : Int) < (m : Int) := by omega
      have HF := Lib.hid (show p = s by
        rw [HDZ.out, show 9 - j = 0 by omega, show m = 0 by omega, dz_zero]; rfl)
      clear hgo
      go_wp2_with fail
      go_ret
      exact ⟨by rw [HF.out]; rfl, HB.out⟩
end Go.Proofs.YtollmolchcnpeaaGreatDoor
