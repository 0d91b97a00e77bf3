/- The reference 32: digits (of XRef6), digit. -/
import Derived.Test.YtojenpjafgfpaaaGreatDoorRef4
import Derived.Test.YtojenpjafgfpaaaGreatDoorShow2
import Derived.Test.YtojenpjafgfpaaaGreatDoorTake5
import Derived.Test.YtojenpjafgfpaaaGreatDoorShow3
import Derived.Test.YtojenpjafgfpaaaGreatDoorHex
import Derived.Test.YtojenpjafgfpaaaGreatDoorBackP
namespace Go.Proofs.YtojenpjafgfpaaaGreatDoor
open Go Go.RowKit
attribute [local go_sem ↓] Go.wp_at_zero Go.wp_at_succ

theorem run_hexix (i : Nat) (hi : i < 16) (v : Int) (hv : v = (i : Int)) (w : World) : (Instr.index 9 (.string ⟨#[48, 49, 50, 51, 52, 53, 54, 55, 56, 57, 97, 98, 99, 100, 101, 102]⟩) (.int .u8 v)).run Tryz.prog w = .ok (.int .u8 ((hexD i).toNat : Int)) w := by
  subst hv
  rw [run_index_string w 9 ⟨#[48, 49, 50, 51, 52, 53, 54, 55, 56, 57, 97, 98, 99, 100, 101, 102]⟩ .u8 i (by kernel_rfl)]
  have h : 0 ≤ (i : Int) ∧ (i : Int) < ((⟨#[48, 49, 50, 51, 52, 53, 54, 55, 56, 57, 97, 98, 99, 100, 101, 102]⟩ : ByteArray).size : Nat) := ⟨by omega, by show (i : Int) < 16; omega⟩
  rw [dif_pos h]
  have e := dig_get i (by show i < 16; exact hi)
  have e2 : (⟨#[48, 49, 50, 51, 52, 53, 54, 55, 56, 57, 97, 98, 99, 100, 101, 102]⟩ : ByteArray)[(i : Int).toNat]'(by rw [Int.toNat_natCast]; show i < 16; exact hi) = hexD i := by simpa using e
  rw [e2]
/-- append(b, x, y) at bytes: the two laid into a block of their own. -/
theorem bs_two (w : World) (x y : UInt8) (p : Nat) (hp : p = w.heap.size) : Bs (fun _ => True) (w.alloc (.cells #[.int .u8 (x.toNat : Int), .int .u8 (y.toNat : Int)] 5)) (some ⟨p, 0, none⟩) 2 2 [x, y] := by
  subst hp
  exact (Sl.new2 (T := tU8) (c1 := [.int .u8 (x.toNat : Int)]) (c2 := [.int .u8 (y.toNat : Int)]) rfl rfl 5 _ rfl)

theorem step_apb (w a0 : World) {ops : Array Oper} {o : Oper} {a : Act} {Q : Exit → Act → World → Prop} {K : Act → World → Prop} {E' : Prop} (hgd : o.guard = none) (s x : Operand) (ho : o.op = .call { callee := .builtin .append, args := #[s, x], argTypes := #[30, 30] }) (B : Nat) (A : Option Addr) (n c : Nat) (xs : List UInt8) (hs : a.eval s = .slice A n c)
    (hown : OwnB w B A n c xs) (hb : Below B a0 w) (hB : B ≤ a0.heap.size) (F : Nat → Prop) (A2 : Option Addr) (m c2 : Nat) (ys : List UInt8) (hx : a.eval x = .slice A2 m c2) (hsl : Bs F w A2 m c2 ys) (hlim : n + m ≤ 68719476736)
    (h : ∀ A' c' w', OwnB w' B A' (n + m) c' (xs ++ ys) → Below B a0 w' → w.grownBy w' (A.map (·.block)) → K (a.put o.dst (.slice A' (n + m) c')) w') :
    if Region.wanted o (yielded ops a.tmps) = true then Oper.wp Tryz.prog o a w K Q else E' := by
  have hw : Region.wanted o (yielded ops a.tmps) = true := by simp [Region.wanted, hgd]
  rw [if_pos hw]
  exact wp_apb w a0 s x ho B A n c xs hs hown hb hB F A2 m c2 ys hx hsl hlim h

set_option maxRecDepth 100000 in
set_option maxHeartbeats 2000000 in
theorem rdigits_any (F : Nat → Prop) (A : Option Addr) (n c : Nat) (l : List UInt8) (w : World) (h : Bs F w A n c l) (hn : n ≤ 8589934592) :
    Calls Tryz.prog 72 #[.slice A n c] w fun e w' => e = .returned (.string ⟨(hexOf l).toArray⟩) ∧ Below w.heap.size w w' := by
  have HL := Lib.hid h.len
  have HNEW := Lib.hid (OwnB.new0 w w.heap.size (Nat.le_refl _))
  have HB0 := Lib.hid (show Below w.heap.size w (w.alloc (.cells #[] 5)) from (Below.refl _ _).alloc (Nat.le_refl _) _)
  go_enter Tryz.func72, Tryz.ntmps72
  go_wp2
  go_loopw [3, 4] (fun v i wr => ∃ (k : Nat) (A2 : Option Addr) (m c2 : Nat), k ≤ n ∧ i = .int .i64 k ∧ v = .slice A2 m c2 ∧ OwnB wr w.heap.size A2 m c2 (hexOf (l.take k)) ∧ Below w.heap.size w wr)
    (fun _ i _ => n - (intOf i).toNat)
  case atStart => exact ⟨0, _, 0, 0, Nat.zero_le _, rfl, rfl, HNEW.out, HB0.out⟩
  case round =>
    obtain ⟨k, A2, m, c2, hk, rfl, rfl, hown, hb⟩ := hrel
    clear HNEW HB0
    by_cases hlt : k < n
    · have hkl : k < l.length := by rw [← HL.out]; exact hlt
      obtain ⟨b, o, u, rfl, _, hbl, hrep, hc0⟩ := h.at1 hkl (by decide)
      have hc := kcell hb hc0
      obtain ⟨x, hf⟩ : ∃ v, v = l[k] := ⟨_, rfl⟩
      rw [← hf] at hrep
      obtain rfl : u = .int .u8 (x.toNat : Int) := by simpa [tU8] using hrep
      clear hrep
      have HF := Lib.hid hf; have HO := Lib.hid hown; have HBR := Lib.hid hb; clear hf
      have hsz := hb.size
      have hm : m = (hexOf (l.take k)).length := hown.len
      have hm2 : m ≤ 17179869184 := by rw [hm, hexOf_len, List.length_take]; omega
      clear hm hown hb
      have hx : x.toNat < 256 := x.toNat_lt
      have hq : 0 ≤ (x.toNat : Int) / 16 ∧ (x.toNat : Int) / 16 < 16 := by omega
      have hq2 : 0 ≤ (x.toNat : Int) % 16 ∧ (x.toNat : Int) % 16 < 16 := by omega
      have hi1 : (0 : Int) ≤ (k : Int) := by omega
      have hi2 : (k : Int) < (n : Int) := by omega
      have hix1 := run_hexix (x.toNat / 16) (by omega) (IntKind.u8.wrap ((x.toNat : Int) / 16)) (by rw [IntKind.wrap_u8]; omega)
      have hix2 := run_hexix (x.toNat % 16) (by omega) ((x.toNat : Int) % 16) (by omega)
      have hix3 := run_hexix (x.toNat % 16) (by omega) ((x.toNat : Int).tmod 16) (by rw [Int.tmod_eq_emod_of_nonneg (by omega)]; omega)
      go_wp2_with fail
      have HC0 := Lib.hid hc0; clear hc0
      go_region_held3 (fun w' => w'.cell? ⟨b, o + k, none⟩ = some (.int .u8 (x.toNat : Int)))
        (first | go_keep | exact kcell hb6 HC0.out)
        (first
          | ((with_reducible refine at_app (.tmp 12) (.tmp 25) _ rfl ?_); refine step_apb (wr.drew.alloc (.cells #[.int .u8 ((hexD (x.toNat / 16)).toNat : Int), .int .u8 ((hexD (x.toNat % 16)).toNat : Int)] 5)) w rfl (.tmp 12) (.tmp 25) rfl w.heap.size A2 m c2 _ rfl (HO.out.keepB ((Below.refl wr.heap.size wr).drew.alloc (Nat.le_refl _) _)) ((HBR.out.drew).alloc hsz _) (Nat.le_refl _) _ _ 2 2 [hexD (x.toNat / 16), hexD (x.toNat % 16)] rfl (bs_two wr.drew _ _ _ rfl) (by omega) ?_; intro A6 c6 w6 h6 hb6 _)
          | fail)
      all_goals
        go_wp2_with fail
        go_roundw
        case rel =>
          have e1 : hexOf (l.take (k + 1)) = hexOf (l.take k) ++ [hexD (x.toNat / 16), hexD (x.toNat % 16)] := by
            rw [List.take_succ_eq_append_getElem hkl, hexOf_append, ← HF.out]; simp [hexOf]
          exact ⟨k + 1, A6, m + 2, c6, by omega, by go_num, rfl, by rw [e1]; exact h6, hb6⟩
        case measure => simp [intOf]; omega
    · obtain rfl : k = n := by omega
      rw [show l.take k = l from List.take_of_length_le (by rw [← HL.out]; exact Nat.le_refl _)] at hown
      have hcv := run_bs hown.bs
      go_wp2_with fail
      go_ret
      exact ⟨rfl, hb⟩
end Go.Proofs.YtojenpjafgfpaaaGreatDoor
/- The reference 32: digit. -/
namespace Go.Proofs.YtojenpjafgfpaaaGreatDoor
open Go Go.RowKit
attribute [local go_sem ↓] Go.wp_at_zero Go.wp_at_succ

theorem digI_hexD (k : Nat) (hk : k < 16) : digI (hexD k) = (k : Int) := by
  have e : ∀ x : Fin 16, digI (hexD x.val) = (x.val : Int) := by decide +kernel
  exact e ⟨k, hk⟩
theorem hexD_unhex {c : UInt8} {m : Nat} (h : unhexD c = some m) : hexD m = c := by
  unfold unhexD at h
  split at h
  · injection h with h; subst h; unfold hexD; rw [if_pos (by omega), show 48 + (c.toNat - 48) = c.toNat by omega, UInt8.ofNat_toNat]
  · split at h
    · injection h with h; subst h; unfold hexD; rw [if_neg (by omega), show 87 + (c.toNat - 87) = c.toNat by omega, UInt8.ofNat_toNat]
    · cases h
theorem dig_none (c : UInt8) (h : ∀ k, k < 16 → hexD k ≠ c) : (digI c).toNat = 0 := by
  unfold digI
  cases hc : unhexD c with
  | none => rfl
  | some m => exact absurd (hexD_unhex hc) (h m (unhexD_lt hc))
theorem run_hexixI (i : Nat) (hi : i < 16) (v : Int) (hv : v = (i : Int)) (w : World) : (Instr.index 9 (.string ⟨#[48, 49, 50, 51, 52, 53, 54, 55, 56, 57, 97, 98, 99, 100, 101, 102]⟩) (.int .i64 v)).run Tryz.prog w = .ok (.int .u8 ((hexD i).toNat : Int)) w := by
  subst hv
  rw [run_index_string w 9 ⟨#[48, 49, 50, 51, 52, 53, 54, 55, 56, 57, 97, 98, 99, 100, 101, 102]⟩ .i64 i (by kernel_rfl)]
  have h : 0 ≤ (i : Int) ∧ (i : Int) < ((⟨#[48, 49, 50, 51, 52, 53, 54, 55, 56, 57, 97, 98, 99, 100, 101, 102]⟩ : ByteArray).size : Nat) := ⟨by omega, by show (i : Int) < 16; omega⟩
  rw [dif_pos h]
  have e := dig_get i (by show i < 16; exact hi)
  have e2 : (⟨#[48, 49, 50, 51, 52, 53, 54, 55, 56, 57, 97, 98, 99, 100, 101, 102]⟩ : ByteArray)[(i : Int).toNat]'(by rw [Int.toNat_natCast]; show i < 16; exact hi) = hexD i := by simpa using e
  rw [e2]

set_option maxRecDepth 100000 in
set_option maxHeartbeats 1000000 in
theorem rdigit_any (c : UInt8) (w : World) : Calls Tryz.prog 71 #[.int .u8 (c.toNat : Int)] w fun e w' => e = .returned (.int .u8 ((digI c).toNat : Int)) ∧ w' = w := by
  go_enter Tryz.func71, Tryz.ntmps71
  go_wp2
  go_loopw [3] (fun i wr => ∃ (k : Nat), k ≤ 16 ∧ i = .int .i64 k ∧ wr = w ∧ ∀ j, j < k → hexD j ≠ c)
    (fun i _ => 16 - (intOf i).toNat)
  case atStart => exact ⟨0, by omega, rfl, rfl, fun j hj => by omega⟩
  case round =>
    obtain ⟨k, hk, rfl, rfl, hno⟩ := hrel
    have HNO := Lib.hid hno; clear hno
    by_cases hlt : k < 16
    · have hix := run_hexixI k hlt (k : Int) rfl
      by_cases heq : hexD k = c
      · have HEQ := Lib.hid heq
        have hd := digI_hexD k hlt
        rw [heq] at hd
        have HD := Lib.hid hd
        have hc2 : (((hexD k).toNat : Int) == (c.toNat : Int)) = true := by rw [heq]; simp
        have hwr : IntKind.u8.wrap (k : Int) = (k : Int) := by rw [IntKind.wrap_u8]; omega
        clear hd heq
        go_wp2_with fail
        go_ret
        exact ⟨by rw [HD.out]; rfl, by first | rfl | trivial | fail⟩
      · have hc2 : (((hexD k).toNat : Int) == (c.toNat : Int)) = false := by
          simp only [beq_eq_false_iff_ne, ne_eq, Int.natCast_inj]
          intro h; exact heq (UInt8.toNat_inj.1 h)
        have HEQ := Lib.hid heq
        clear heq
        go_wp2_with fail
        go_roundw
        case rel => exact ⟨k + 1, by omega, by go_num, trivial, fun j hj => by rcases Nat.lt_or_ge j k with h | h; exact HNO.out j h; rw [show j = k by omega]; exact HEQ.out⟩
        case measure => simp [intOf]; omega
    · obtain rfl : k = 16 := by omega
      have HD := Lib.hid (dig_none c HNO.out)
      go_wp2_with fail
      go_ret
      exact ⟨by rw [HD.out]; rfl, by first | rfl | trivial | fail⟩
end Go.Proofs.YtojenpjafgfpaaaGreatDoor
/- A line by the reference: its digits taken by pairs, put again and held against the text. Plain Lean; no program in sight. -/
namespace Go.Proofs.YtojenpjafgfpaaaGreatDoor
open Go Go.RowKit

/-- The bytes of a line's pairs. -/
def bsOf (s : List UInt8) (m : Nat) : List UInt8 := (List.range m).map (decAt s)
theorem bsOf_succ (s : List UInt8) (m : Nat) : bsOf s (m + 1) = bsOf s m ++ [decAt s m] := by unfold bsOf; rw [List.range_succ, List.map_append]; rfl
theorem bsOf_len (s : List UInt8) (m : Nat) : (bsOf s m).length = m := by simp [bsOf]
theorem unhex_bsOf {s b : List UInt8} (h : unhex s = some b) : b = bsOf s (s.length / 2) := by
  rcases Nat.mod_two_eq_zero_or_one s.length with hp | hp
  · by_cases hk : ∀ k, k < s.length / 2 → okAt s k
    · rw [unhex_ok (s.length / 2) s (by omega) hk] at h
      exact (Option.some.inj h).symm
    · obtain ⟨k, h2⟩ := Classical.not_forall.1 hk
      obtain ⟨h3, h4⟩ := Classical.not_imp.1 h2
      rw [unhex_bad k s (by omega) h4] at h; cases h
  · rw [unhex_odd (s.length / 2) s (by omega)] at h; cases h
theorem rline_yes {s : List UInt8} (h : hexOf (bsOf s (s.length / 2)) = s) : lineOf s = takeEvent (bsOf s (s.length / 2)) := by
  have := lineOf_hex (bsOf s (s.length / 2))
  rw [h] at this; exact this
theorem rline_no {s : List UInt8} (h : hexOf (bsOf s (s.length / 2)) ≠ s) : lineOf s = none := by
  unfold lineOf
  cases hu : unhex s with
  | none => rfl
  | some b => exact absurd (by rw [← unhex_bsOf hu]; exact hex_unhex _ s b (Nat.le_refl _) hu) h
end Go.Proofs.YtojenpjafgfpaaaGreatDoor
