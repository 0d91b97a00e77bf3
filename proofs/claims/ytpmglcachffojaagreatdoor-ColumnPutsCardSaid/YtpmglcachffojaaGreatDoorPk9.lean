/- rle.Cut: where a run ends. value.Number; patched.based at the least of all. ints.whole, left; ints.Put's functions; column.known. ints.left; nulls.is. boolrle.Put, given what byterle.Put answers. -/
import Derived.Test.YtpmglcachffojaaGreatDoorPk8
import Derived.Test.YtpmglcachffojaaGreatDoorPk2
namespace Go.Proofs.YtpmglcachffojaaGreatDoor
open Go Go.RowKit

theorem tw_take (x0 : Int) : ∀ (l : List Int) (k : Nat), ((l.take k).takeWhile (· == x0)).length = min k (l.takeWhile (· == x0)).length
  | _, 0 => by simp
  | [], k + 1 => by simp
  | a :: r, k + 1 => by
    rw [List.take_succ_cons, List.takeWhile_cons, List.takeWhile_cons]
    cases h : (a == x0) with
    | true => rw [if_pos rfl, if_pos rfl, List.length_cons, List.length_cons, tw_take x0 r k]; omega
    | false => rw [if_neg (by simp), if_neg (by simp)]; simp
theorem sameN_five (l : List Int) (i m : Nat) (hm : m = min l.length (i + 5)) (hi : i < l.length) : sameN ((l.take m).drop i) = min 5 (sameN (l.drop i)) := by
  have e : (l.take m).drop i = (l.drop i).take 5 := by
    rw [List.drop_take]
    by_cases h : l.length ≤ i + 5
    · rw [List.take_of_length_le (by rw [List.length_drop]; omega), List.take_of_length_le (by rw [List.length_drop]; omega)]
    · rw [show m - i = 5 by omega]
  rw [e]
  unfold sameN
  rw [tw_take]
  congr 4
  match hd : l.drop i with
  | [] => rfl
  | _ :: _ => rfl
set_option maxRecDepth 100000 in
set_option maxHeartbeats 1000000 in
theorem cut_any (F : Nat → Prop) (A : Option Addr) (n c : Nat) (l : List Int) (w : World) (h : Sl tI64 F w A n c l) (hl : l ≠ []) (hn : n ≤ 4294967296) :
    Calls Tryz.prog 161 #[.slice A n c] w fun e w' => e = .returned (.int .i64 ((cutN l : Nat) : Int)) ∧ Below w.heap.size w w' := by
  have HS := Lib.hid (same_any F A n c l w h hl)
  have HH := Lib.hid h
  have hlen := h.len
  have hpos := List.length_pos_iff.2 hl
  have hc2 := h.2.1
  have hc3 := h.2.2.1
  unfold maxLen at hc3
  have hsl := sameN_le l
  obtain ⟨s, hs⟩ : ∃ s, s = sameN l := ⟨_, rfl⟩
  obtain ⟨t, ht⟩ : ∃ t, t = cutN l := ⟨_, rfl⟩
  obtain ⟨b, o, rfl, _, _⟩ := sl_cells h hl
  have HT := Lib.hid ht
  have hsn : s ≤ n := by omega
  rw [← hs] at HS
  rw [← ht]
  have hn1 : 1 ≤ n := by omega
  by_cases h3 : 3 ≤ s
  · have HM := Lib.hid (show min (s : Int) 512 = (t : Int) by rw [ht, cutN, ← hs, if_pos h3]; omega)
    have z : (3 : Int) ≤ (s : Int) := by omega
    clear h hlen hpos hs ht hsl h3
    go_enter Tryz.func161, Tryz.ntmps161
    go_wp2_with (first
      | (go_at_call 204; refine HS.out.mono ?_; rintro e w1 ⟨rfl, hb1⟩; have HB1 := Lib.hid hb1; clear hb1)
      | fail)
    go_ret
    exact ⟨by rw [← HM.out]; rfl, HB1.out⟩
  · obtain ⟨en, hen⟩ : ∃ en, en = min n 512 := ⟨_, rfl⟩
    have hen1 : 1 ≤ en ∧ en ≤ 512 ∧ en ≤ n := by omega
    have HEN := Lib.hid (show min (n : Int) 512 = (en : Int) by omega)
    have HC := Lib.hid (show t = cutAt l (en - 1) 1 by
      rw [ht, cutN, ← hs, if_neg h3]
      by_cases h1 : l.length ≤ 1
      · rw [if_pos h1, show en - 1 = 0 by omega, cutAt]; omega
      · rw [if_neg h1, hen, ← hlen])
    have z : ¬ (3 : Int) ≤ (s : Int) := by omega
    have HLN := Lib.hid hlen
    have HE1 := Lib.hid hen1
    clear h hlen hpos hs ht hsl h3 hen hen1
    go_enter Tryz.func161, Tryz.ntmps161
    go_wp2_with (first
      | (go_at_call 204; refine HS.out.mono ?_; rintro e w1 ⟨rfl, hb1⟩; have HB1 := Lib.hid hb1; clear hb1)
      | fail)
    try rw [HEN.out]
    go_loopw [5] (fun iv wr => ∃ i : Nat, 1 ≤ i ∧ i ≤ en ∧ iv = .int .i64 (i : Int) ∧ Below w.heap.size w wr ∧ Hid (t = cutAt l (en - i) i))
      (fun iv _ => en - (intOf iv).toNat)
    case atStart => exact ⟨1, Nat.le_refl _, HE1.out.1, rfl, HB1.out, HC⟩
    case round =>
      obtain ⟨i, hi1, hi, rfl, hb, HCI⟩ := hrel
      have HB := Lib.hid hb
      clear hb
      by_cases hlt : i < en
      · have hiE := HE1.out
        obtain ⟨m, hm⟩ : ∃ m, m = min n (i + 5) := ⟨_, rfl⟩
        have HM := Lib.hid (show min (n : Int) ((i : Int) + 5) = (m : Int) by omega)
        have him : i < m ∧ m ≤ n := by omega
        have HF5 := Lib.hid (sameN_five l i m (by rw [hm, HLN.out]) (by rw [← HLN.out]; omega))
        have hcut := (HH.out.below HB.out (Nat.le_refl _)).cut (lo := i) (hi := m) (by omega) him.2
        have hci : ¬ c = i := by omega
        rw [if_neg hci] at hcut
        have hcut2 : Sl tI64 F wr (some ⟨b, o + i, none⟩) (m - i) (c - i) ((l.take m).drop i) := by
          simpa [Addr.add, show tI64.size = 1 from rfl, show ¬ i = 0 by omega] using hcut
        obtain ⟨s5, hs5⟩ : ∃ s5, s5 = min 5 (sameN (l.drop i)) := ⟨_, rfl⟩
        have HC5 := Lib.hid (same_any F _ _ _ _ wr hcut2 (by intro e; have := congrArg List.length e; rw [List.length_drop, List.length_take] at this; have := HLN.out; simp at *; omega))
        rw [HF5.out, ← hs5] at HC5
        have HS5 := Lib.hid hs5
        have i0 : (0 : Int) ≤ (i : Int) := by omega
        have i1 : (i : Int) < (en : Int) := by omega
        have i2 : (i : Int) ≤ (m : Int) := by omega
        have i3 : (m : Int) ≤ (c : Int) := by omega
        have i4 : i ≤ m := by omega
        have i5 : m ≤ c := by omega
        clear hm him hcut hcut2 hs5 hiE
        have zm := HM.out
        have i6 : (c : Int) ≤ 9223372036854775807 := by omega
        by_cases h5 : s5 = 5
        · have HFIN := Lib.hid (show t = i by
            have := HS5.out
            rw [HCI.out, show en - i = (en - i - 1) + 1 by omega, cutAt, if_pos (by omega)])
          have h5I : (s5 : Int) = 5 := by omega
          clear h5
          go_wp2_with (first
            | (go_at_call 204; refine HC5.out.mono ?_; rintro e w2 ⟨rfl, hb2⟩; have HB2 := Lib.hid (HB.out.trans (hb2.mono HB.out.size)); clear hb2)
            | fail)
          go_ret
          exact ⟨by rw [HFIN.out]; rfl, HB2.out⟩
        · have HFIN := Lib.hid (show t = cutAt l (en - (i + 1)) (i + 1) by
            have := HS5.out
            rw [HCI.out, show en - i = (en - (i + 1)) + 1 by omega, cutAt, if_neg (by omega)])
          have h5I : ¬ (s5 : Int) = 5 := by omega
          clear h5
          go_wp2_with (first
            | (go_at_call 204; refine HC5.out.mono ?_; rintro e w2 ⟨rfl, hb2⟩; have HB2 := Lib.hid (HB.out.trans (hb2.mono HB.out.size)); clear hb2)
            | fail)
          go_roundw
          case rel => exact ⟨i + 1, by omega, by omega, by go_num, HB2.out, HFIN⟩
          case measure => simp [intOf]; omega
      · obtain rfl : i = en := by omega
        have i1 : ¬ (i : Int) < (i : Int) := by omega
        go_wp2_with fail
        go_ret
        exact ⟨by rw [HCI.out, Nat.sub_self, cutAt]; rfl, HB.out⟩
end Go.Proofs.YtpmglcachffojaaGreatDoor
namespace Go.Proofs.YtpmglcachffojaaGreatDoor
open Go Go.RowKit

set_option maxRecDepth 100000 in
theorem isnum_any (k : Int) (w : World) : Calls Tryz.prog 44 #[.int .i64 k] w fun e w' => e = .returned (.bool (decide (1 ≤ k ∧ k ≤ 5))) ∧ w = w' := by
  by_cases h : 1 ≤ k ∧ k ≤ 5
  · rw [decide_eq_true h]
    obtain rfl | rfl | rfl | rfl | rfl : k = 1 ∨ k = 2 ∨ k = 3 ∨ k = 4 ∨ k = 5 := by omega
    all_goals
      clear h
      go_enter Tryz.func44, Tryz.ntmps44
      go_wp2_with fail
      go_ret
      exact ⟨rfl, rfl⟩
  · rw [decide_eq_false h]
    have e1 : (k == 1) = false := beq_no (by omega)
    have e2 : (k == 2) = false := beq_no (by omega)
    have e3 : (k == 3) = false := beq_no (by omega)
    have e4 : (k == 4) = false := beq_no (by omega)
    have e5 : (k == 5) = false := beq_no (by omega)
    have h1 : ¬ k = 1 := by omega
    have h2 : ¬ k = 2 := by omega
    have h3 : ¬ k = 3 := by omega
    have h4 : ¬ k = 4 := by omega
    have h5 : ¬ k = 5 := by omega
    clear h
    go_enter Tryz.func44, Tryz.ntmps44
    go_wp2_with fail
    go_ret
    exact ⟨rfl, rfl⟩
set_option maxRecDepth 100000 in
theorem based_least (w : World) : Calls Tryz.prog 292 #[.int .i64 (-9223372036854775808)] w fun e w' => e = .returned (.slice none 0 0) ∧ Below w.heap.size w w' := by
  have HV := Lib.hid (show diffV 0 (-9223372036854775808) = #[.int .u64 0, .bool false, .bool false] by unfold diffV gapN; rw [if_neg (by omega)])
  go_enter Tryz.func292, Tryz.ntmps292
  go_wp2_with (first
    | (go_at_call 320; refine (diff_any 0 (-9223372036854775808) (by decide) (by decide) (by decide) (by decide) _).mono ?_; rintro e w1 ⟨rfl, hb1⟩; rw [HV.out]; have HB1 := Lib.hid hb1; clear hb1)
    | fail)
  go_ret
  exact ⟨rfl, HB1.out⟩
end Go.Proofs.YtpmglcachffojaaGreatDoor
namespace Go.Proofs.YtpmglcachffojaaGreatDoor
open Go Go.RowKit

set_option maxRecDepth 100000 in
theorem whole_any (x : Int) (h0 : -9223372036854775808 ≤ x) (h1 : x ≤ 9223372036854775807) (w : World) : Calls Tryz.prog 94 #[.int .i64 x] w fun e w' => e = .returned (.int .i64 (x / 1000)) ∧ w = w' := by
  obtain ⟨q, hq⟩ : ∃ q, q = x.tdiv 1000 := ⟨_, rfl⟩
  obtain ⟨r, hr⟩ : ∃ r, r = x.tmod 1000 := ⟨_, rfl⟩
  have hqr : 1000 * q + r = x := by rw [hq, hr]; exact Int.mul_tdiv_add_tmod x 1000
  have hb : (0 ≤ x → 0 ≤ r ∧ r < 1000) ∧ (x < 0 → -1000 < r ∧ r ≤ 0) := by
    rw [hr]
    refine ⟨fun h => ⟨Int.tmod_nonneg 1000 h, Int.tmod_lt_of_pos x (by decide)⟩, fun h => ?_⟩
    have e : x.tmod 1000 = -((-x).tmod 1000) := by rw [Int.neg_tmod, Int.neg_neg]
    have h1 := Int.tmod_nonneg 1000 (show 0 ≤ -x by omega)
    have h2 := Int.tmod_lt_of_pos (-x) (show (0 : Int) < 1000 by decide)
    omega
  have hq0 : -9223372036854776 ≤ q ∧ q ≤ 9223372036854775 := by omega
  by_cases hneg : r < 0
  · have HD := Lib.hid (show x / 1000 = q - 1 by omega)
    obtain ⟨q0, q1⟩ := hq0
    have HQ := hq.symm; have HR := hr.symm
    clear hb hqr hq hr
    go_enter Tryz.func94, Tryz.ntmps94
    go_wp2_with fail
    go_ret
    exact ⟨by rw [HD.out]; rfl, rfl⟩
  · have HD := Lib.hid (show x / 1000 = q by omega)
    obtain ⟨q0, q1⟩ := hq0
    have HQ := hq.symm; have HR := hr.symm
    clear hb hqr hq hr
    go_enter Tryz.func94, Tryz.ntmps94
    go_wp2_with fail
    go_ret
    exact ⟨by rw [HD.out]; rfl, rfl⟩
theorem eqb_of (a b : Int) : (a == b) = decide (a = b) := rfl
set_option maxRecDepth 100000 in
theorem known_any (k : Int) (w : World) : Calls Tryz.prog 38 #[.int .i64 k] w fun e w' => e = .returned (.bool (decide (1 ≤ k ∧ k ≤ 7))) ∧ w = w' := by
  obtain ⟨p, hp⟩ : ∃ p, p = decide (1 ≤ k ∧ k ≤ 5) := ⟨_, rfl⟩
  have HN := Lib.hid (isnum_any k)
  rw [← hp] at HN
  have HP := Lib.hid hp
  clear hp
  cases p with
  | true =>
    have hk : 1 ≤ k ∧ k ≤ 5 := by have := HP.out; simpa using this.symm
    rw [decide_eq_true (show 1 ≤ k ∧ k ≤ 7 by omega)]
    clear hk
    go_enter Tryz.func38, Tryz.ntmps38
    go_wp2_with (first
      | (go_at_call 44; refine (HN.out _).mono ?_; rintro e w1 ⟨rfl, rfl⟩)
      | fail)
    go_ret
    exact ⟨rfl, rfl⟩
  | false =>
    have hk : ¬ (1 ≤ k ∧ k ≤ 5) := by have := HP.out; simpa using this.symm
    have HD := Lib.hid (show decide (1 ≤ k ∧ k ≤ 7) = ((k == 6) || (k == 7)) by
      rw [eqb_of, eqb_of, ← Bool.decide_or]; exact decide_eq_decide.2 (by omega))
    obtain ⟨rr, hrr⟩ : ∃ rr, rr = decide (1 ≤ k ∧ k ≤ 7) := ⟨_, rfl⟩
    rw [← hrr] at HD ⊢
    clear hk hrr
    go_enter Tryz.func38, Tryz.ntmps38
    go_wp2_with (first
      | (go_at_call 44; refine (HN.out _).mono ?_; rintro e w1 ⟨rfl, rfl⟩)
      | fail)
    all_goals go_ret
    all_goals exact ⟨by rw [HD.out]; simp [*], rfl⟩
end Go.Proofs.YtpmglcachffojaaGreatDoor
namespace Go.Proofs.YtpmglcachffojaaGreatDoor
open Go Go.RowKit

set_option maxRecDepth 100000 in
theorem left_any (x : Int) (_ : -9223372036854775808 ≤ x) (_ : x ≤ 9223372036854775807) (w : World) : Calls Tryz.prog 95 #[.int .i64 x] w fun e w' => e = .returned (.int .i64 (x % 1000)) ∧ w = w' := by
  obtain ⟨q, hq⟩ : ∃ q, q = x.tdiv 1000 := ⟨_, rfl⟩
  obtain ⟨r, hr⟩ : ∃ r, r = x.tmod 1000 := ⟨_, rfl⟩
  have hqr : 1000 * q + r = x := by rw [hq, hr]; exact Int.mul_tdiv_add_tmod x 1000
  have hb : -1000 < r ∧ r < 1000 := by
    rw [hr]
    have h3 := Int.tmod_lt_of_pos x (show (0 : Int) < 1000 by decide)
    have e : x.tmod 1000 = -((-x).tmod 1000) := by rw [Int.neg_tmod, Int.neg_neg]
    have h2 := Int.tmod_lt_of_pos (-x) (show (0 : Int) < 1000 by decide)
    omega
  have HD := Lib.hid (show x % 1000 = (r + 1000) % 1000 by omega)
  obtain ⟨r0, r1⟩ := hb
  have HR := hr.symm
  clear hqr hq hr
  go_enter Tryz.func95, Tryz.ntmps95
  go_wp2_with fail
  go_ret
  refine ⟨?_, rfl⟩
  rw [HD.out]
  first
    | rfl
    | (show Ending.returned (Value.int IntKind.i64 ((r + 1000).tmod 1000)) = _; rw [Int.tmod_eq_emod_of_nonneg (by omega)])
theorem is_any (b : Bool) (n : Int) (s : ByteArray) (w : World) : Calls Tryz.prog 147 #[.agg #[.bool b, .int .i64 n, .string s]] w fun e w' => e = .returned (.bool (!b)) ∧ Below w.heap.size w w' := by
  go_enter Tryz.func147, Tryz.ntmps147
  go_wp2_with fail
  go_ret
  exact ⟨rfl, (Below.refl _ _).alloc (Nat.le_refl _) _⟩
theorem isnull_any (b : Bool) (n : Int) (s : ByteArray) (w : World) : Calls Tryz.prog 159 #[.agg #[.bool b, .int .i64 n, .string s]] w fun e w' => e = .returned (.bool b) ∧ Below w.heap.size w w' := by
  go_enter Tryz.func159, Tryz.ntmps159
  go_wp2_with fail
  go_ret
  exact ⟨rfl, (Below.refl _ _).alloc (Nat.le_refl _) _⟩
theorem isone_any (x : Int) (w : World) : Calls Tryz.prog 91 #[.int .i64 x] w fun e w' => e = .returned (.bool (x == 1)) ∧ w = w' := by
  go_enter Tryz.func91, Tryz.ntmps91
  go_wp2_with fail
  go_ret
  exact ⟨rfl, rfl⟩
theorem ident_any (x : Int) (w : World) : Calls Tryz.prog 96 #[.int .i64 x] w fun e w' => e = .returned (.int .i64 x) ∧ w = w' := by
  go_enter Tryz.func96, Tryz.ntmps96
  go_wp2_with fail
  go_ret
  exact ⟨rfl, rfl⟩
end Go.Proofs.YtpmglcachffojaaGreatDoor
namespace Go.Proofs.YtpmglcachffojaaGreatDoor
open Go Go.RowKit

def b01 (b : Bool) : Nat := if b then 1 else 0
/-- Truths as bytes. -/
def boolB (l : List Bool) : List UInt8 := pack 1 (l.map b01)
def boolAt (s : Nat) (l : List Bool) (i : Nat) : List UInt8 := be s (catN 1 ((l.take i).map b01) * 2 ^ (8 * s - i))
theorem boolAt_byte (s : Nat) (l : List Bool) (i j : Nat) (h : j < (boolAt s l i).length) : ((boolAt s l i)[j]).toNat = catN 1 ((l.take i).map b01) * 2 ^ (8 * s - i) / 256 ^ (s - 1 - j) % 256 := be_byte _ _ _ h
theorem boolAt_false (s : Nat) (l : List Bool) (i : Nat) (h : i < l.length) (hs : i < 8 * s) (hf : l[i] = false) : boolAt s l (i + 1) = boolAt s l i := by
  unfold boolAt
  rw [List.take_succ_eq_append_getElem h, List.map_append, List.map_singleton, catN_snoc, hf, show b01 false = 0 from rfl, Nat.add_zero, Nat.pow_one, Nat.mul_assoc, show 8 * s - i = (8 * s - (i + 1)) + 1 by omega, Nat.pow_succ, Nat.mul_comm (2 ^ _) 2]
theorem boolAt_true (s : Nat) (l : List Bool) (i : Nat) (h : i < l.length) (hs : i < 8 * s) (hf : l[i] = true) :
    (boolAt s l i).set (i / 8) (UInt8.ofNat (catN 1 ((l.take i).map b01) * 2 ^ (8 * s - i) / 256 ^ (s - 1 - i / 8) % 256 + 1 * 2 ^ (8 - i % 8 - 1))) = boolAt s l (i + 1) := by
  unfold boolAt
  rw [put_in (n := 1) hs (by omega) (by omega), List.take_succ_eq_append_getElem h, List.map_append, List.map_singleton, catN_snoc, hf]
  rfl
set_option maxRecDepth 100000 in
set_option maxHeartbeats 1000000 in
theorem boolput_any (HP : ∀ (F : Nat → Prop) (A : Option Addr) (m c : Nat) (bs : List UInt8) (w : World), Bs F w A m c bs → m ≤ 512 → Calls Tryz.prog 160 #[.slice A m c] w (RunPost (some (byB bs)) w))
    (F : Nat → Prop) (A : Option Addr) (n c : Nat) (l : List Bool) (w : World) (h : Sl tBool F w A n c l) (hn : n ≤ 4096) :
    Calls Tryz.prog 89 #[.slice A n c] w (RunPost (some (byB (boolB l))) w) := by
  have HH := Lib.hid h; have HL := Lib.hid h.len; have HPP := Lib.hid HP
  obtain ⟨s, hs⟩ : ∃ s, s = (n + 7) / 8 := ⟨_, rfl⟩
  have zs : ((n : Int) + 8 - 1) / 8 = (s : Int) := by omega
  have hs5 : s ≤ 512 := by omega
  have hns : n ≤ 8 * s := by omega
  have HS := Lib.hid hs; have HNS := Lib.hid hns
  have hmk := run_mkB s (by omega)
  have HMK := Lib.hid (own_mkB s (by omega) w w.heap.size (Nat.le_refl _))
  have HB0 := Lib.hid (show Below w.heap.size w (w.alloc (.cells (madeCells #[.int .u8 0] s) 5)) from (Below.refl _ _).alloc (Nat.le_refl _) _)
  have HZ := Lib.hid (show boolAt s l 0 = List.replicate s 0 by unfold boolAt; rw [List.take_zero, List.map_nil, show catN 1 [] = 0 from rfl, Nat.zero_mul, be_zero])
  have HFIN := Lib.hid (show boolAt s l n = boolB l by unfold boolAt boolB pack packSize; rw [List.take_of_length_le (by rw [← HL.out]; exact Nat.le_refl _), List.length_map, ← HL.out, Nat.mul_one, ← hs])
  have z0 : ¬ (n : Int) > 4096 := by omega
  clear h HP hs hns
  go_enter Tryz.func89, Tryz.ntmps89
  go_wp2_with fail
  obtain ⟨g, hg⟩ : ∃ g, g = w.heap.size := ⟨_, rfl⟩
  rw [← hg]
  have HG := Lib.hid hg
  clear hg
  go_loopw [18] (fun iv wr => ∃ i : Nat, i ≤ n ∧ iv = .int .i64 (i : Int) ∧ OwnB wr w.heap.size (some ⟨g, 0, none⟩) s s (boolAt s l i) ∧ Below w.heap.size w wr)
    (fun iv _ => n - (intOf iv).toNat)
  case atStart => exact ⟨0, Nat.zero_le _, rfl, by rw [HZ.out, HG.out]; exact HMK.out, HB0.out⟩
  case round =>
    obtain ⟨i, hi, rfl, ho, hb⟩ := hrel
    have HO := Lib.hid ho; have HB := Lib.hid hb
    clear ho hb
    by_cases hlt : i < n
    · have hil : i < l.length := by rw [← HL.out]; exact hlt
      have hsl := HH.out.below HB.out (Nat.le_refl _)
      obtain ⟨b, o, u, rfl, _, hbl, hr, hc⟩ := hsl.at1 hil rfl
      obtain ⟨v, hv⟩ : ∃ v, v = l[i] := ⟨_, rfl⟩
      rw [← hv] at hr
      injection hr with hr
      subst hr
      have hi1 : (0 : Int) ≤ (i : Int) := by omega
      have hi2 : (i : Int) < (n : Int) := by omega
      have h8 : i < 8 * s := by have := HNS.out; omega
      cases v with
      | false =>
        have HT := Lib.hid (boolAt_false s l i hil h8 hv.symm)
        clear hv hsl
        go_wp2_with fail
        go_roundw
        case rel => exact ⟨i + 1, by omega, by go_num, by rw [HT.out]; exact HO.out, HB.out⟩
        case measure => simp [intOf]; omega
      | true =>
        have HT := Lib.hid (boolAt_true s l i hil h8 hv.symm)
        obtain ⟨j, hj⟩ : ∃ j, j = i / 8 := ⟨_, rfl⟩
        obtain ⟨e, he⟩ : ∃ e, e = i % 8 := ⟨_, rfl⟩
        have zj : (i : Int) / 8 = (j : Int) := by omega
        have ze : (i : Int) % 8 = (e : Int) := by omega
        have hl2 : j < (boolAt s l i).length := by unfold boolAt; rw [be_len]; omega
        obtain ⟨bb, hbb⟩ : ∃ bb, bb = catN 1 ((l.take i).map b01) * 2 ^ (8 * s - i) / 256 ^ (s - 1 - j) % 256 := ⟨_, rfl⟩
        have hb8 : bb < 256 := by rw [hbb]; exact Nat.mod_lt _ (by decide)
        have hbf : bb % 2 ^ (8 - e) = 0 := by rw [hbb, hj, he]; exact byte_free h8
        have g0 : wr.cell? ⟨g, j, none⟩ = some (.int .u8 (bb : Int)) := by
          rw [HO.out.own.cell1 oneU8 hl2, hbb, boolAt_byte]
        have g1 : wr.frozen? ⟨g, j, none⟩ = false := HO.out.own.free1 oneU8 j
        have he8 : e < 8 := by omega
        obtain ⟨x, hx⟩ : ∃ x, x = UInt8.ofNat (bb + 1 * 2 ^ (8 - e - 1)) := ⟨_, rfl⟩
        have hor : bits BinOp.or IntKind.u8 (bb : Int) ((128 : Int) / 2 ^ e) = ((x.toNat : Nat) : Int) := by
          rw [hx, ← or_byte hb8 hbf (by omega) (shl_in (n := 1) (c := 1) (by decide) (by omega))]
          congr 1
          obtain rfl | rfl | rfl | rfl | rfl | rfl | rfl | rfl : e = 0 ∨ e = 1 ∨ e = 2 ∨ e = 3 ∨ e = 4 ∨ e = 5 ∨ e = 6 ∨ e = 7 := by omega
          all_goals decide
        rw [← hj, ← he, ← hbb, ← hx] at HT
        have HR := Lib.hid hor
        have hj1 : (0 : Int) ≤ (j : Int) := by omega
        have hj2 : (j : Int) < (s : Int) := by have := HNS.out; omega
        have hr1 := HO.out.own.set1 oneU8 j x trivial
        rw [HT.out] at hr1
        have HR1 := Lib.hid (own_u8 ⟨_, hr1.drew⟩)
        have HB1 := Lib.hid ((bsetc HB.out (HO.out.own.base1 oneU8).1 (j := j) (.int .u8 (x.toNat : Int))).drew)
        clear hv hsl hl2 hbb hb8 hbf hx hor hr1 hj he
        go_upto_region 8 with fail
        go_region
        rw [HR.out]
        go_wp2_with fail
        go_roundw
        case rel => exact ⟨i + 1, by omega, by go_num, HR1.out, HB1.out⟩
        case measure => simp [intOf]; omega
    · obtain rfl : n = i := by omega
      go_wp2_with (first
        | (go_at_call 160; refine (HPP.out _ _ s s _ _ HO.out.bs hs5).mono ?_; rintro e w2 ⟨hb2, A2, n2, c2, rfl, ho2⟩; have HB2 := Lib.hid hb2; have HO2 := Lib.hid ho2; clear hb2 ho2)
        | fail)
      go_ret2
      exact ⟨HB.out.trans (HB2.out.mono HB.out.size), A2, n2, c2, rfl, by rw [← HFIN.out]; exact HO2.out.down HB.out.size⟩
end Go.Proofs.YtpmglcachffojaaGreatDoor
