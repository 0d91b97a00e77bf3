/- The layers varint and wire: Take, one, shaped, TakeValue. -/
import Derived.Test.YtojenpjafgfpaaaDoorWire2
import Derived.BigQuiet
import Derived.Deep.CutRange
namespace Go.Proofs.YtojenpjafgfpaaaDoor
open Go Go.RowKit

theorem or_shl (x y k : Nat) (hx : x < 128 ^ k) (hk : k ≤ 9) :
    ∃ z : Nat, bits BinOp.or IntKind.u64 (x : Int) (IntKind.u64.wrap ((y : Int) % 128 * 2 ^ (7 * k))) = (z : Int) ∧ z < 18446744073709551616 ∧ (k < 9 ∨ y % 128 ≤ 1 → z = x + y % 128 * 128 ^ k) := by
  have e1 : (2 : Nat) ^ (7 * k) = 128 ^ k := by rw [Nat.pow_mul]
  have e2 : ((y : Int) % 128 * 2 ^ (7 * k)) = ((y % 128 * 128 ^ k : Nat) : Int) := by
    rw [← e1]; push_cast; rfl
  rw [e2, IntKind.wrap_u64]
  have h9 : (128 : Nat) ^ 9 ≤ 18446744073709551616 := by decide
  have hx9 : x < 18446744073709551616 := Nat.lt_of_lt_of_le hx (Nat.le_trans (Nat.pow_le_pow_right (show 0 < 128 by decide) hk) h9)
  have e3 : (((y % 128 * 128 ^ k : Nat) : Int) % 18446744073709551616) = ((y % 128 * 128 ^ k % 18446744073709551616 : Nat) : Int) := by generalize y % 128 * 128 ^ k = a; omega
  rw [e3, u64_or_nat _ _ hx9 (Nat.mod_lt _ (by decide))]
  refine ⟨_, rfl, ?_, fun h => ?_⟩
  · have e64 : (2 : Nat) ^ 64 = 18446744073709551616 := by decide
    have h1 : x < 2 ^ 64 := by rw [e64]; exact hx9
    have h2 : y % 128 * 128 ^ k % 18446744073709551616 < 2 ^ 64 := by rw [e64]; exact Nat.mod_lt _ (by decide)
    have h3 := Nat.or_lt_two_pow h1 h2
    rw [e64] at h3
    exact h3
  · have hlt : y % 128 * 128 ^ k < 18446744073709551616 := by
      rcases h with h | h
      · have : 128 ^ k ≤ 128 ^ 8 := Nat.pow_le_pow_right (by omega) (by omega)
        have h2 : y % 128 * 128 ^ k ≤ 127 * 128 ^ 8 := Nat.mul_le_mul (by omega) this
        exact Nat.lt_of_le_of_lt h2 (by decide)
      · have : 128 ^ k ≤ 128 ^ 9 := Nat.pow_le_pow_right (by omega) hk
        have h2 : y % 128 * 128 ^ k ≤ 1 * 128 ^ 9 := Nat.mul_le_mul h this
        exact Nat.lt_of_le_of_lt h2 (by decide)
    rw [Nat.mod_eq_of_lt hlt, ← e1, Nat.or_comm, ← Nat.shiftLeft_eq, Nat.add_comm]
    exact (Nat.shiftLeft_add_eq_or_of_lt (by rw [e1]; exact hx) _).symm
theorem u64_or0 (x : Nat) (hx : x < 18446744073709551616) : bits BinOp.or IntKind.u64 (x : Int) 0 = (x : Int) := by
  rw [show (0 : Int) = ((0 : Nat) : Int) from rfl, u64_or_nat _ _ hx (by decide)]
  simp
theorem vtk_more (k x : Nat) (c : UInt8) (r : List UInt8) (hk : k < 10) (hc : 128 ≤ c.toNat) : vtk (10 - k) k x (c :: r) = vtk (10 - (k + 1)) (k + 1) (x + (c.toNat - 128) * 128 ^ k) r := by
  obtain ⟨f, hf⟩ : ∃ f, 10 - k = f + 1 := ⟨9 - k, by omega⟩
  rw [hf, show 10 - (k + 1) = f by omega]
  simp [vtk, hc]
theorem vtk_out (k x : Nat) (r : List UInt8) (hk : 9 ≤ k) : vtk (10 - (k + 1)) (k + 1) x r = none := by
  rw [show 10 - (k + 1) = 0 by omega]
  simp only [vtk]
theorem vtk_bad (k x : Nat) (c : UInt8) (r : List UInt8) (hk : k < 10) (hc : c.toNat < 128) (hb : c.toNat = 0 ∧ 0 < k ∨ k = 9 ∧ 1 < c.toNat) : vtk (10 - k) k x (c :: r) = none := by
  obtain ⟨f, hf⟩ : ∃ f, 10 - k = f + 1 := ⟨9 - k, by omega⟩
  rw [hf]
  simp only [vtk]
  rw [if_neg (by omega), if_pos hb]
theorem vtk_ok (k x : Nat) (c : UInt8) (r : List UInt8) (hk : k < 10) (hc : c.toNat < 128) (hb : ¬ (c.toNat = 0 ∧ 0 < k ∨ k = 9 ∧ 1 < c.toNat)) : vtk (10 - k) k x (c :: r) = some (x + c.toNat * 128 ^ k, r) := by
  obtain ⟨f, hf⟩ : ∃ f, 10 - k = f + 1 := ⟨9 - k, by omega⟩
  rw [hf]
  simp only [vtk]
  rw [if_neg (by omega), if_neg hb]

/-- The error's number, with the value and the rest. -/
def TkPost (l : List UInt8) (w : World) (e : Ending) (w' : World) : Prop :=
  ∃ x A n c, e = .returned (.tuple #[.int .u64 (x : Nat), .slice A n c, .int .i64 (okc (vtake l).isSome 2)]) ∧ Below w.heap.size w w' ∧
    (∀ v r, vtake l = some (v, r) → x = v ∧ x < 18446744073709551616 ∧ OwnB w' w.heap.size A n c r)

set_option maxRecDepth 100000 in
set_option maxHeartbeats 1000000 in
theorem vtake_any (F : Nat → Prop) (A : Option Addr) (n c : Nat) (l : List UInt8) (w : World) (h : Bs F w A n c l) (hn : n ≤ 4294967296) :
    Calls Tryd.prog 105 #[.slice A n c] w (TkPost l w) := by
  have HL := Lib.hid h.len
  obtain ⟨m, hm⟩ : ∃ m, m = min n 10 := ⟨_, rfl⟩
  have hmn : m ≤ n := by omega
  have hm10 : m ≤ 10 := by omega
  have HM := Lib.hid hm; clear hm
  go_enter Tryd.func105, Tryd.ntmps105
  go_upto_region 2 with fail
  go_cut [8, 10, 11] from 8 to 11 (fun s8 s10 s11 wx => s8 = .slice A n c ∧ s10 = .int .i64 m ∧ s11 = .int .i64 0 ∧ wx = w)
  case first =>
    go_wp2_with fail
    all_goals (go_meet; have hm := HM.out; exact ⟨rfl, by congr 1; omega, rfl, rfl⟩)
  obtain ⟨rfl, rfl, rfl, rfl⟩ := hcut
  go_wp2_with fail
  go_loopw [5, 11] (fun v i wr => ∃ (k x : Nat), k ≤ m ∧ i = .int .i64 k ∧ v = .int .u64 (x : Nat) ∧ wr = wc ∧ vtk (10 - k) k x (l.drop k) = vtake l ∧ (k < 10 → x < 128 ^ k) ∧ x < 18446744073709551616)
    (fun _ i _ => m - (intOf i).toNat)
  case atStart => exact ⟨0, 0, Nat.zero_le _, rfl, rfl, rfl, rfl, by omega, by omega⟩
  case round =>
    obtain ⟨k, x, hk, rfl, rfl, rfl, hv, hx, hx2⟩ := hrel
    by_cases hlt : k < m
    · have hkl : k < l.length := by rw [← HL.out]; omega
      obtain ⟨b, o, u, rfl, _, hbl, hrep, hc⟩ := h.at1 hkl (by decide)
      obtain ⟨y, hf⟩ : ∃ v, v = l[k] := ⟨_, rfl⟩
      rw [← hf] at hrep
      obtain rfl : u = .int .u8 (y.toNat : Int) := by simpa [tU8] using hrep
      clear hrep
      have HF := Lib.hid hf; have HV := Lib.hid hv; clear hf hv
      have hy : y.toNat < 256 := y.toNat_lt
      have ha1 := u8_andNot128 y.toNat hy
      have ha2 := u8_and128 y.toNat hy
      have hdrop : l.drop k = y :: l.drop (k + 1) := by rw [HF.out]; exact List.drop_eq_getElem_cons hkl
      have HV' := Lib.hid (show vtk (10 - k) k x (y :: l.drop (k + 1)) = vtake l by rw [← hdrop]; exact HV.out)
      clear hdrop
      have hxk := hx (by omega)
      obtain ⟨z, hor, hz, hzv⟩ := or_shl x y.toNat k hxk (by omega)
      have HZV := Lib.hid hzv; clear hzv
      have HXK := Lib.hid hxk; clear hxk hx
      by_cases hmore : 128 ≤ y.toNat
      · have hb1 : ((y.toNat : Int) / 128 * 128 != 0) = true := by simp; omega
        go_wp2_with fail
        go_roundw
        case rel =>
          refine ⟨k + 1, z, by omega, by go_num, by simp, by simp, ?_, fun hk9 => ?_, hz⟩
          · rw [← HV'.out, vtk_more k x y _ (by omega) hmore]
            rcases Nat.lt_or_ge k 9 with h9 | h9
            · rw [HZV.out (.inl h9), show y.toNat % 128 = y.toNat - 128 by omega]
            · rw [vtk_out _ _ _ h9, vtk_out _ _ _ h9]
          · rw [HZV.out (.inl (by omega)), Nat.pow_succ]
            have h1 := HXK.out
            have h2 : y.toNat % 128 * 128 ^ k ≤ 127 * 128 ^ k := Nat.mul_le_mul_right _ (by omega)
            omega
        case measure => simp [intOf]; omega
      · have hb1 : ((y.toNat : Int) / 128 * 128 != 0) = false := by simp; omega
        by_cases hbad : y.toNat = 0 ∧ 0 < k ∨ k = 9 ∧ 1 < y.toNat
        · have hN : vtake l = none := by rw [← HV'.out]; exact vtk_bad k x y _ (by omega) (by omega) hbad
          have HN := Lib.hid hN; clear hN
          rcases hbad with ⟨h1, h2⟩ | ⟨h1, h2⟩
          · have hor0 := u64_or0 x hx2
            clear hor
            have h3 : ¬ k = 0 := by omega
            have h3' : (0 : Int) < (k : Int) := by omega
            go_wp2_with fail
            go_ret3
            exact ⟨0, none, 0, 0, by rw [HN.out]; rfl, Below.refl _ _, by rw [HN.out]; simp⟩
          · have h3 : ¬ y.toNat = 0 := by omega
            have h4 : ¬ (y.toNat : Int) = 0 := by omega
            have h1' : ((k : Int) == 9) = true := by simp; omega
            clear h1
            have h2' : (1 : Int) < (y.toNat : Int) := by omega
            go_wp2_with fail
            go_ret3
            exact ⟨0, none, 0, 0, by rw [HN.out]; rfl, Below.refl _ _, by rw [HN.out]; simp⟩
        · have hS := vtk_ok k x y (l.drop (k + 1)) (by omega) (by omega) hbad
          rw [HV'.out] at hS
          have HS := Lib.hid hS; clear hS
          have hzx : z = x + y.toNat * 128 ^ k := by
            rw [HZV.out (by omega), show y.toNat % 128 = y.toNat by omega]
          have HZX := Lib.hid hzx; clear hzx
          have hsl := (h.weaken (F' := fun b => F b ∧ b < wr.heap.size) (fun b h1 h2 => ⟨h1, h2⟩)).cut (lo := k + 1) (hi := n) (by omega) (Nat.le_refl _)
          rw [List.take_of_length_le (by rw [← HL.out]; exact Nat.le_refl _)] at hsl
          have hcap := h.2.1
          have HSL := Lib.hid hsl; clear hsl
          have hok : (y.toNat = 0 ∧ ¬ 0 < k) ∨ (¬ y.toNat = 0 ∧ ((k : Int) == 9) = true ∧ y.toNat = 1) ∨ (¬ y.toNat = 0 ∧ ((k : Int) == 9) = false) := by simp; omega
          have hk1 : k + 1 ≤ n := by omega
          clear hbad hmore
          by_cases hck : c = k + 1
          · have hs2 := HSL.out
            rw [if_pos hck, show c - (k + 1) = 0 by omega] at hs2
            have HS2 := Lib.hid hs2; clear hs2
            rcases hok with ⟨hy0, hk0⟩ | ⟨hy0, hk9, hy1⟩ | ⟨hy0, hk9⟩
            · have hzx : z = z := rfl
              have hyb : ((y.toNat : Int) == 0) = true := by simp [hy0]
              clear hy0
              go_wp2_with (go_at_call 106; refine (cloneB_any elemBytes _ _ _ _ (l.drop (k + 1)) _ HS2.out (by simp) (by omega)).mono ?_; rintro e w1 ⟨A1, n1, c1, rfl, hown, hb⟩)
              go_ret3
              exact ⟨z, A1, n1, c1, by rw [HS.out]; first | rfl | (rw [hzx]; rfl), hb, fun v r hv => by rw [HS.out] at hv; injection hv with hv; injection hv with h1 h2; subst h1 h2; exact ⟨HZX.out, hz, own_u8 hown⟩⟩
            · have hzx : z = z := rfl
              have hy2 : ¬ 1 < y.toNat := by omega
              have hy3 : ¬ (1 : Int) < (y.toNat : Int) := by omega
              have HY := Lib.hid hy1; clear hy1
              go_wp2_with (go_at_call 106; refine (cloneB_any elemBytes _ _ _ _ (l.drop (k + 1)) _ HS2.out (by simp) (by omega)).mono ?_; rintro e w1 ⟨A1, n1, c1, rfl, hown, hb⟩)
              go_ret3
              exact ⟨z, A1, n1, c1, by rw [HS.out]; first | rfl | (rw [hzx]; rfl), hb, fun v r hv => by rw [HS.out] at hv; injection hv with hv; injection hv with h1 h2; subst h1 h2; exact ⟨HZX.out, hz, own_u8 hown⟩⟩
            · have hzx : z = z := rfl
              go_wp2_with (go_at_call 106; refine (cloneB_any elemBytes _ _ _ _ (l.drop (k + 1)) _ HS2.out (by simp) (by omega)).mono ?_; rintro e w1 ⟨A1, n1, c1, rfl, hown, hb⟩)
              go_ret3
              exact ⟨z, A1, n1, c1, by rw [HS.out]; first | rfl | (rw [hzx]; rfl), hb, fun v r hv => by rw [HS.out] at hv; injection hv with hv; injection hv with h1 h2; subst h1 h2; exact ⟨HZX.out, hz, own_u8 hown⟩⟩
          · have hs2 := HSL.out
            rw [if_neg hck, Option.map_some, add_lit, show (k + 1) * tU8.size = k + 1 from Nat.mul_one _] at hs2
            have HS2 := Lib.hid hs2; clear hs2
            rcases hok with ⟨hy0, hk0⟩ | ⟨hy0, hk9, hy1⟩ | ⟨hy0, hk9⟩
            · have hzx : z = z := rfl
              have hyb : ((y.toNat : Int) == 0) = true := by simp [hy0]
              clear hy0
              go_wp2_with (go_at_call 106; refine (cloneB_any elemBytes _ _ _ _ (l.drop (k + 1)) _ HS2.out (by simp) (by omega)).mono ?_; rintro e w1 ⟨A1, n1, c1, rfl, hown, hb⟩)
              go_ret3
              exact ⟨z, A1, n1, c1, by rw [HS.out]; first | rfl | (rw [hzx]; rfl), hb, fun v r hv => by rw [HS.out] at hv; injection hv with hv; injection hv with h1 h2; subst h1 h2; exact ⟨HZX.out, hz, own_u8 hown⟩⟩
            · have hzx : z = z := rfl
              have hy2 : ¬ 1 < y.toNat := by omega
              have hy3 : ¬ (1 : Int) < (y.toNat : Int) := by omega
              have HY := Lib.hid hy1; clear hy1
              go_wp2_with (go_at_call 106; refine (cloneB_any elemBytes _ _ _ _ (l.drop (k + 1)) _ HS2.out (by simp) (by omega)).mono ?_; rintro e w1 ⟨A1, n1, c1, rfl, hown, hb⟩)
              go_ret3
              exact ⟨z, A1, n1, c1, by rw [HS.out]; first | rfl | (rw [hzx]; rfl), hb, fun v r hv => by rw [HS.out] at hv; injection hv with hv; injection hv with h1 h2; subst h1 h2; exact ⟨HZX.out, hz, own_u8 hown⟩⟩
            · have hzx : z = z := rfl
              go_wp2_with (go_at_call 106; refine (cloneB_any elemBytes _ _ _ _ (l.drop (k + 1)) _ HS2.out (by simp) (by omega)).mono ?_; rintro e w1 ⟨A1, n1, c1, rfl, hown, hb⟩)
              go_ret3
              exact ⟨z, A1, n1, c1, by rw [HS.out]; first | rfl | (rw [hzx]; rfl), hb, fun v r hv => by rw [HS.out] at hv; injection hv with hv; injection hv with h1 h2; subst h1 h2; exact ⟨HZX.out, hz, own_u8 hown⟩⟩
    · obtain rfl : k = m := by omega
      have hN : vtake l = none := by
        rw [← hv]
        have hm := HM.out
        rcases Nat.lt_or_ge n 10 with h1 | h1
        · have : k = l.length := by rw [← HL.out]; omega
          rw [List.drop_of_length_le (by omega)]
          obtain ⟨f, hf⟩ : ∃ f, 10 - k = f + 1 := ⟨9 - k, by omega⟩
          rw [hf]; simp only [vtk]
        · rw [show 10 - k = 0 by omega]; simp only [vtk]
      have HN := Lib.hid hN; clear hN hv
      go_wp2
      go_ret3
      exact ⟨0, none, 0, 0, by rw [HN.out]; rfl, Below.refl _ _, by rw [HN.out]; simp⟩
end Go.Proofs.YtojenpjafgfpaaaDoor
