/- ints.whole, left; ints.Put's functions; column.known. ints.left; nulls.is. boolrle.Put, given what byterle.Put answers. -/
import Derived.Test.YticfmphbhdkhoaaGreatDoorPk9
import Derived.Test.YticfmphbhdkhoaaGreatDoorPk1
namespace Go.Proofs.YticfmphbhdkhoaaGreatDoor
open Go Go.RowKit

set_option maxRecDepth 100000 in
theorem whole_any (x : Int) (h0 : -9223372036854775808 ≤ x) (h1 : x ≤ 9223372036854775807) (w : World) : Calls Tryz.prog 35 #[.int .i64 x] w fun e w' => e = .returned (.int .i64 (x / 1000)) ∧ w = w' := by
  obtain ⟨q, hq⟩ : ∃ q, q = x.tdiv 1000 := ⟨_, rfl⟩
  obtain ⟨r, hr⟩ : ∃ r, r = x.tmod 1000 := ⟨_, rfl⟩
  have hqr : 1000 * q + r = x := by rw [hq, hr]; exact Int.mul_tdiv_add_tmod x 1000
  have hb : (0 ≤ x → 0 ≤ r ∧ r < 1000) ∧ (x < 0 → -1000 < r ∧ r ≤ 0) := by
    rw [hr]
    refine ⟨fun h => ⟨Int.tmod_nonneg 1000 h, Int.tmod_lt_of_pos x (by decide)⟩, fun h => ?_⟩
    have e : x.tmod 1000 = -((-x).tmod 1000) := by rw [Int.neg_tmod, Int.neg_neg]
    have h1 := Int.tmod_nonneg 1000 (show 0 ≤ -x by omega)
    have h2 := Int.tmod_lt_of_pos (-x) (show (0 : Int) < 1000 by decide)
    omega
  have hq0 : -9223372036854776 ≤ q ∧ q ≤ 9223372036854775 := by omega
  by_cases hneg : r < 0
  · have HD := Lib.hid (show x / 1000 = q - 1 by omega)
    obtain ⟨q0, q1⟩ := hq0
    have HQ := hq.symm; have HR := hr.symm
    clear hb hqr hq hr
    go_enter Tryz.func35, Tryz.ntmps35
    go_wp2_with fail
    go_ret
    exact ⟨by rw [HD.out]; rfl, rfl⟩
  · have HD := Lib.hid (show x / 1000 = q by omega)
    obtain ⟨q0, q1⟩ := hq0
    have HQ := hq.symm; have HR := hr.symm
    clear hb hqr hq hr
    go_enter Tryz.func35, Tryz.ntmps35
    go_wp2_with fail
    go_ret
    exact ⟨by rw [HD.out]; rfl, rfl⟩
theorem eqb_of (a b : Int) : (a == b) = decide (a = b) := rfl
set_option maxRecDepth 100000 in
theorem known_any (k : Int) (w : World) : Calls Tryz.prog 13 #[.int .i64 k] w fun e w' => e = .returned (.bool (decide (1 ≤ k ∧ k ≤ 7))) ∧ w = w' := by
  obtain ⟨p, hp⟩ : ∃ p, p = decide (1 ≤ k ∧ k ≤ 5) := ⟨_, rfl⟩
  have HN := Lib.hid (isnum_any k)
  rw [← hp] at HN
  have HP := Lib.hid hp
  clear hp
  cases p with
  | true =>
    have hk : 1 ≤ k ∧ k ≤ 5 := by have := HP.out; simpa using this.symm
    rw [decide_eq_true (show 1 ≤ k ∧ k ≤ 7 by omega)]
    clear hk
    go_enter Tryz.func13, Tryz.ntmps13
    go_wp2_with (first
      | (go_at_call 19; refine (HN.out _).mono ?_; rintro e w1 ⟨rfl, rfl⟩)
      | fail)
    go_ret
    exact ⟨rfl, rfl⟩
  | false =>
    have hk : ¬ (1 ≤ k ∧ k ≤ 5) := by have := HP.out; simpa using this.symm
    have HD := Lib.hid (show decide (1 ≤ k ∧ k ≤ 7) = ((k == 6) || (k == 7)) by
      rw [eqb_of, eqb_of, ← Bool.decide_or]; exact decide_eq_decide.2 (by omega))
    obtain ⟨rr, hrr⟩ : ∃ rr, rr = decide (1 ≤ k ∧ k ≤ 7) := ⟨_, rfl⟩
    rw [← hrr] at HD ⊢
    clear hk hrr
    go_enter Tryz.func13, Tryz.ntmps13
    go_wp2_with (first
      | (go_at_call 19; refine (HN.out _).mono ?_; rintro e w1 ⟨rfl, rfl⟩)
      | fail)
    all_goals go_ret
    all_goals exact ⟨by rw [HD.out]; simp [*], rfl⟩
end Go.Proofs.YticfmphbhdkhoaaGreatDoor
namespace Go.Proofs.YticfmphbhdkhoaaGreatDoor
open Go Go.RowKit

set_option maxRecDepth 100000 in
theorem left_any (x : Int) (_ : -9223372036854775808 ≤ x) (_ : x ≤ 9223372036854775807) (w : World) : Calls Tryz.prog 36 #[.int .i64 x] w fun e w' => e = .returned (.int .i64 (x % 1000)) ∧ w = w' := by
  obtain ⟨q, hq⟩ : ∃ q, q = x.tdiv 1000 := ⟨_, rfl⟩
  obtain ⟨r, hr⟩ : ∃ r, r = x.tmod 1000 := ⟨_, rfl⟩
  have hqr : 1000 * q + r = x := by rw [hq, hr]; exact Int.mul_tdiv_add_tmod x 1000
  have hb : -1000 < r ∧ r < 1000 := by
    rw [hr]
    have h3 := Int.tmod_lt_of_pos x (show (0 : Int) < 1000 by decide)
    have e : x.tmod 1000 = -((-x).tmod 1000) := by rw [Int.neg_tmod, Int.neg_neg]
    have h2 := Int.tmod_lt_of_pos (-x) (show (0 : Int) < 1000 by decide)
    omega
  have HD := Lib.hid (show x % 1000 = (r + 1000) % 1000 by omega)
  obtain ⟨r0, r1⟩ := hb
  have HR := hr.symm
  clear hqr hq hr
  go_enter Tryz.func36, Tryz.ntmps36
  go_wp2_with fail
  go_ret
  refine ⟨?_, rfl⟩
  rw [HD.out]
  first
    | rfl
    | (show Ending.returned (Value.int IntKind.i64 ((r + 1000).tmod 1000)) = _; rw [Int.tmod_eq_emod_of_nonneg (by omega)])
theorem is_any (b : Bool) (n : Int) (s : ByteArray) (w : World) : Calls Tryz.prog 56 #[.agg #[.bool b, .int .i64 n, .string s]] w fun e w' => e = .returned (.bool (!b)) ∧ Below w.heap.size w w' := by
  go_enter Tryz.func56, Tryz.ntmps56
  go_wp2_with fail
  go_ret
  exact ⟨rfl, (Below.refl _ _).alloc (Nat.le_refl _) _⟩
theorem isnull_any (b : Bool) (n : Int) (s : ByteArray) (w : World) : Calls Tryz.prog 54 #[.agg #[.bool b, .int .i64 n, .string s]] w fun e w' => e = .returned (.bool b) ∧ Below w.heap.size w w' := by
  go_enter Tryz.func54, Tryz.ntmps54
  go_wp2_with fail
  go_ret
  exact ⟨rfl, (Below.refl _ _).alloc (Nat.le_refl _) _⟩
theorem isone_any (x : Int) (w : World) : Calls Tryz.prog 32 #[.int .i64 x] w fun e w' => e = .returned (.bool (x == 1)) ∧ w = w' := by
  go_enter Tryz.func32, Tryz.ntmps32
  go_wp2_with fail
  go_ret
  exact ⟨rfl, rfl⟩
theorem ident_any (x : Int) (w : World) : Calls Tryz.prog 37 #[.int .i64 x] w fun e w' => e = .returned (.int .i64 x) ∧ w = w' := by
  go_enter Tryz.func37, Tryz.ntmps37
  go_wp2_with fail
  go_ret
  exact ⟨rfl, rfl⟩
end Go.Proofs.YticfmphbhdkhoaaGreatDoor
namespace Go.Proofs.YticfmphbhdkhoaaGreatDoor
open Go Go.RowKit

def b01 (b : Bool) : Nat := if b then 1 else 0
/-- Truths as bytes. -/
def boolB (l : List Bool) : List UInt8 := pack 1 (l.map b01)
def boolAt (s : Nat) (l : List Bool) (i : Nat) : List UInt8 := be s (catN 1 ((l.take i).map b01) * 2 ^ (8 * s - i))
theorem boolAt_byte (s : Nat) (l : List Bool) (i j : Nat) (h : j < (boolAt s l i).length) : ((boolAt s l i)[j]).toNat = catN 1 ((l.take i).map b01) * 2 ^ (8 * s - i) / 256 ^ (s - 1 - j) % 256 := be_byte _ _ _ h
theorem boolAt_false (s : Nat) (l : List Bool) (i : Nat) (h : i < l.length) (hs : i < 8 * s) (hf : l[i] = false) : boolAt s l (i + 1) = boolAt s l i := by
  unfold boolAt
  rw [List.take_succ_eq_append_getElem h, List.map_append, List.map_singleton, catN_snoc, hf, show b01 false = 0 from rfl, Nat.add_zero, Nat.pow_one, Nat.mul_assoc, show 8 * s - i = (8 * s - (i + 1)) + 1 by omega, Nat.pow_succ, Nat.mul_comm (2 ^ _) 2]
theorem boolAt_true (s : Nat) (l : List Bool) (i : Nat) (h : i < l.length) (hs : i < 8 * s) (hf : l[i] = true) :
    (boolAt s l i).set (i / 8) (UInt8.ofNat (catN 1 ((l.take i).map b01) * 2 ^ (8 * s - i) / 256 ^ (s - 1 - i / 8) % 256 + 1 * 2 ^ (8 - i % 8 - 1))) = boolAt s l (i + 1) := by
  unfold boolAt
  rw [put_in (n := 1) hs (by omega) (by omega), List.take_succ_eq_append_getElem h, List.map_append, List.map_singleton, catN_snoc, hf]
  rfl
set_option maxRecDepth 100000 in
set_option maxHeartbeats 1000000 in
theorem boolput_any (HP : ∀ (F : Nat → Prop) (A : Option Addr) (m c : Nat) (bs : List UInt8) (w : World), Bs F w A m c bs → m ≤ 512 → Calls Tryz.prog 57 #[.slice A m c] w (RunPost (some (byB bs)) w))
    (F : Nat → Prop) (A : Option Addr) (n c : Nat) (l : List Bool) (w : World) (h : Sl tBool F w A n c l) (hn : n ≤ 4096) :
    Calls Tryz.prog 30 #[.slice A n c] w (RunPost (some (byB (boolB l))) w) := by
  have HH := Lib.hid h; have HL := Lib.hid h.len; have HPP := Lib.hid HP
  obtain ⟨s, hs⟩ : ∃ s, s = (n + 7) / 8 := ⟨_, rfl⟩
  have zs : ((n : Int) + 8 - 1) / 8 = (s : Int) := by omega
  have hs5 : s ≤ 512 := by omega
  have hns : n ≤ 8 * s := by omega
  have HS := Lib.hid hs; have HNS := Lib.hid hns
  have hmk := run_mkB s (by omega)
  have HMK := Lib.hid (own_mkB s (by omega) w w.heap.size (Nat.le_refl _))
  have HB0 := Lib.hid (show Below w.heap.size w (w.alloc (.cells (madeCells #[.int .u8 0] s) 5)) from (Below.refl _ _).alloc (Nat.le_refl _) _)
  have HZ := Lib.hid (show boolAt s l 0 = List.replicate s 0 by unfold boolAt; rw [List.take_zero, List.map_nil, show catN 1 [] = 0 from rfl, Nat.zero_mul, be_zero])
  have HFIN := Lib.hid (show boolAt s l n = boolB l by unfold boolAt boolB pack packSize; rw [List.take_of_length_le (by rw [← HL.out]; exact Nat.le_refl _), List.length_map, ← HL.out, Nat.mul_one, ← hs])
  have z0 : ¬ (n : Int) > 4096 := by omega
  clear h HP hs hns
  go_enter Tryz.func30, Tryz.ntmps30
  go_wp2_with fail
  obtain ⟨g, hg⟩ : ∃ g, g = w.heap.size := ⟨_, rfl⟩
  rw [← hg]
  have HG := Lib.hid hg
  clear hg
  go_loopw [18] (fun iv wr => ∃ i : Nat, i ≤ n ∧ iv = .int .i64 (i : Int) ∧ OwnB wr w.heap.size (some ⟨g, 0, none⟩) s s (boolAt s l i) ∧ Below w.heap.size w wr)
    (fun iv _ => n - (intOf iv).toNat)
  case atStart => exact ⟨0, Nat.zero_le _, rfl, by rw [HZ.out, HG.out]; exact HMK.out, HB0.out⟩
  case round =>
    obtain ⟨i, hi, rfl, ho, hb⟩ := hrel
    have HO := Lib.hid ho; have HB := Lib.hid hb
    clear ho hb
    by_cases hlt : i < n
    · have hil : i < l.length := by rw [← HL.out]; exact hlt
      have hsl := HH.out.below HB.out (Nat.le_refl _)
      obtain ⟨b, o, u, rfl, _, hbl, hr, hc⟩ := hsl.at1 hil rfl
      obtain ⟨v, hv⟩ : ∃ v, v = l[i] := ⟨_, rfl⟩
      rw [← hv] at hr
      injection hr with hr
      subst hr
      have hi1 : (0 : Int) ≤ (i : Int) := by omega
      have hi2 : (i : Int) < (n : Int) := by omega
      have h8 : i < 8 * s := by have := HNS.out; omega
      cases v with
      | false =>
        have HT := Lib.hid (boolAt_false s l i hil h8 hv.symm)
        clear hv hsl
        go_wp2_with fail
        go_roundw
        case rel => exact ⟨i + 1, by omega, by go_num, by rw [HT.out]; exact HO.out, HB.out⟩
        case measure => simp [intOf]; omega
      | true =>
        have HT := Lib.hid (boolAt_true s l i hil h8 hv.symm)
        obtain ⟨j, hj⟩ : ∃ j, j = i / 8 := ⟨_, rfl⟩
        obtain ⟨e, he⟩ : ∃ e, e = i % 8 := ⟨_, rfl⟩
        have zj : (i : Int) / 8 = (j : Int) := by omega
        have ze : (i : Int) % 8 = (e : Int) := by omega
        have hl2 : j < (boolAt s l i).length := by unfold boolAt; rw [be_len]; omega
        obtain ⟨bb, hbb⟩ : ∃ bb, bb = catN 1 ((l.take i).map b01) * 2 ^ (8 * s - i) / 256 ^ (s - 1 - j) % 256 := ⟨_, rfl⟩
        have hb8 : bb < 256 := by rw [hbb]; exact Nat.mod_lt _ (by decide)
        have hbf : bb % 2 ^ (8 - e) = 0 := by rw [hbb, hj, he]; exact byte_free h8
        have g0 : wr.cell? ⟨g, j, none⟩ = some (.int .u8 (bb : Int)) := by
          rw [HO.out.own.cell1 oneU8 hl2, hbb, boolAt_byte]
        have g1 : wr.frozen? ⟨g, j, none⟩ = false := HO.out.own.free1 oneU8 j
        have he8 : e < 8 := by omega
        obtain ⟨x, hx⟩ : ∃ x, x = UInt8.ofNat (bb + 1 * 2 ^ (8 - e - 1)) := ⟨_, rfl⟩
        have hor : bits BinOp.or IntKind.u8 (bb : Int) ((128 : Int) / 2 ^ e) = ((x.toNat : Nat) : Int) := by
          rw [hx, ← or_byte hb8 hbf (by omega) (shl_in (n := 1) (c := 1) (by decide) (by omega))]
          congr 1
          obtain rfl | rfl | rfl | rfl | rfl | rfl | rfl | rfl : e = 0 ∨ e = 1 ∨ e = 2 ∨ e = 3 ∨ e = 4 ∨ e = 5 ∨ e = 6 ∨ e = 7 := by omega
          all_goals decide
        rw [← hj, ← he, ← hbb, ← hx] at HT
        have HR := Lib.hid hor
        have hj1 : (0 : Int) ≤ (j : Int) := by omega
        have hj2 : (j : Int) < (s : Int) := by have := HNS.out; omega
        have hr1 := HO.out.own.set1 oneU8 j x trivial
        rw [HT.out] at hr1
        have HR1 := Lib.hid (own_u8 ⟨_, hr1.drew⟩)
        have HB1 := Lib.hid ((bsetc HB.out (HO.out.own.base1 oneU8).1 (j := j) (.int .u8 (x.toNat : Int))).drew)
        clear hv hsl hl2 hbb hb8 hbf hx hor hr1 hj he
        go_upto_region 8 with fail
        go_region
        rw [HR.out]
        go_wp2_with fail
        go_roundw
        case rel => exact ⟨i + 1, by omega, by go_num, HR1.out, HB1.out⟩
        case measure => simp [intOf]; omega
    · obtain rfl : n = i := by omega
      go_wp2_with (first
        | (go_at_call 57; refine (HPP.out _ _ s s _ _ HO.out.bs hs5).mono ?_; rintro e w2 ⟨hb2, A2, n2, c2, rfl, ho2⟩; have HB2 := Lib.hid hb2; have HO2 := Lib.hid ho2; clear hb2 ho2)
        | fail)
      go_ret2
      exact ⟨HB.out.trans (HB2.out.mono HB.out.size), A2, n2, c2, rfl, by rw [← HFIN.out]; exact HO2.out.down HB.out.size⟩
end Go.Proofs.YticfmphbhdkhoaaGreatDoor
