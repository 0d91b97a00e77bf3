/- patched.based: a base as bytes. rle.same, times: how many numbers are as the first one. rle.Cut: where a run ends. value.Number; patched.based at the least of all. -/
import Derived.Test.YticfmphbhdkhoaaGreatDoorPk8
namespace Go.Proofs.YticfmphbhdkhoaaGreatDoor
open Go Go.RowKit

set_option maxRecDepth 100000 in
set_option maxHeartbeats 1000000 in
theorem based_any (b : Int) (b0 : -9223372036854775808 < b) (b1 : b ≤ 9223372036854775807) (w : World) :
    Calls Tryz.prog 132 #[.int .i64 b] w (Own1 w (baseB b)) := by
  obtain ⟨u, hu⟩ : ∃ u, u = b.natAbs := ⟨_, rfl⟩
  have hug : gapN 0 b = u := by rw [hu]; unfold gapN; rw [Int.sub_zero]
  have hul : u < 9223372036854775808 := by omega
  have hu64 : U64 u := Nat.lt_trans hul (by decide)
  obtain ⟨fl, hfl⟩ : ∃ fl, fl = decide (b < 0) := ⟨_, rfl⟩
  have HV := Lib.hid (show diffV 0 b = #[.int .u64 (u : Int), .bool fl, .bool true] by unfold diffV; rw [hug, if_pos hul, ← hfl])
  obtain ⟨q, hq⟩ : ∃ q, q = bl u / 8 := ⟨_, rfl⟩
  obtain ⟨bb, hbb⟩ : ∃ bb, bb = bl u := ⟨_, rfl⟩
  have hbb64 : bb ≤ 64 := by rw [hbb]; exact bl_le64 hu64
  have hq8 : q ≤ 8 := by omega
  have HQ := Lib.hid (show (bb : Int) / 8 = (q : Int) by omega)
  have htop : u / 256 ^ q < 128 := by
    have h1 := bl_lt hu64
    rw [byte_pow]
    refine Nat.div_lt_of_lt_mul (Nat.lt_of_lt_of_le h1 ?_)
    rw [show (128 : Nat) = 2 ^ 7 from rfl, ← Nat.pow_add]
    exact Nat.pow_le_pow_right (by decide) (by omega)
  have HTOP := Lib.hid htop
  have HB : Hid (baseB b = be (q + 1) (u + if fl then 128 * 256 ^ q else 0)) := Lib.hid (by
    unfold baseB
    rw [← hu, ← hq, hfl]
    by_cases h : b < 0
    · rw [if_pos h, decide_eq_true h, if_pos rfl]
    · rw [if_neg h, decide_eq_false h, if_neg (by simp)])
  have HBB := Lib.hid hbb; have HU64 := Lib.hid hu64
  have hb0' : -9223372036854775808 ≤ b := by omega
  clear hu hug hul hfl hq htop hbb hu64
  go_enter Tryz.func132, Tryz.ntmps132
  go_wp2_with (first
    | (go_at_call 158; refine (diff_any 0 b (by decide) (by decide) hb0' b1 _).mono ?_; rintro e w1 ⟨rfl, hb1⟩; rw [HV.out]; have HB1 := Lib.hid hb1; clear hb1)
    | (go_at_call 152; refine (wbits_any u HU64.out _).mono ?_; rintro e w2 ⟨rfl, rfl⟩; rw [← HBB.out])
    | fail)
  go_loopw [6, 7] (fun av iv wr => ∃ (j : Nat) (z : Int) (A2 : Option Addr) (c2 : Nat), j ≤ q + 1 ∧ z = (j : Int) - 1 ∧ iv = .int .i64 z ∧ av = .slice A2 (q + 1 - j) c2 ∧ OwnB wr w.heap.size A2 (q + 1 - j) c2 ((be (q + 1) u).take (q + 1 - j)) ∧ Below w.heap.size w wr)
    (fun _ iv _ => (intOf iv + 1).toNat)
  case atStart => exact ⟨q + 1, (q : Int), none, 0, Nat.le_refl _, by omega, by first | rfl | rw [HQ.out] | go_num, by rw [Nat.sub_self], by rw [Nat.sub_self, List.take_zero]; exact OwnB.nil_ _ _, HB1.out⟩
  case round =>
    obtain ⟨j, z, A2, c2, hj, hz, rfl, rfl, ho, hb⟩ := hrel
    have HO := Lib.hid ho; have HB2 := Lib.hid hb
    clear ho hb
    cases j with
    | zero =>
      have z1 : ¬ 0 ≤ z := by omega
      clear hz
      have ho := HO.out
      rw [Nat.sub_zero, List.take_of_length_le (by rw [be_len]; exact Nat.le_refl _)] at ho
      have HO2 := Lib.hid ho
      obtain ⟨g, rfl⟩ := ho.own.some1 oneU8 (by intro h; have := congrArg List.length h; rw [be_len] at this; simp at this)
      clear ho HO
      cases fl with
      | false =>
        go_wp2_with fail
        go_ret
        exact ⟨_, _, c2, rfl, by rw [HB.out, if_neg (by simp), Nat.add_zero]; exact HO2.out, HB2.out⟩
      | true =>
        have hl0 : 0 < (be (q + 1) u).length := by rw [be_len]; omega
        obtain ⟨t, ht⟩ : ∃ t, t = u / 256 ^ q := ⟨_, rfl⟩
        have ht128 : t < 128 := by rw [ht]; exact HTOP.out
        have hg : ((be (q + 1) u)[0]'hl0).toNat = t := by rw [be_byte, show q + 1 - 1 - 0 = q by omega, ← ht, Nat.mod_eq_of_lt (by omega)]
        have g0 : wr.cell? ⟨g, 0, none⟩ = some (.int .u8 (t : Int)) := by rw [HO2.out.own.cell1 oneU8 hl0, hg]
        have g1 : wr.frozen? ⟨g, 0, none⟩ = false := HO2.out.own.free1 oneU8 0
        obtain ⟨y, hy⟩ : ∃ y : UInt8, y = UInt8.ofNat (t + 128) := ⟨_, rfl⟩
        have hor : bits BinOp.or IntKind.u8 (t : Int) 128 = ((y.toNat : Nat) : Int) := by
          rw [u8_or128_right _ (by omega) (by omega), hy, UInt8.toNat_ofNat', Nat.mod_eq_of_lt (by omega)]
          omega
        have HFIN := Lib.hid (show (be (q + 1) u).set 0 y = be (q + 1) (u + 128 * 256 ^ q) by
          have := be_set (q + 1) u 0 128 (by omega) (by rw [show q + 1 - 1 - 0 = q by omega, ← ht]; omega)
          rw [show q + 1 - 1 - 0 = q by omega, ← ht, Nat.mod_eq_of_lt (by omega)] at this
          rw [hy]; exact this)
        have HHOR := Lib.hid hor
        have hq0 : (0 : Int) < (q : Int) + 1 := by omega
        clear hg ht hy hl0 hor
        go_wp2_with fail
        rw [HHOR.out]
        go_ret
        have hr := HO2.out.own.set1 oneU8 0 y trivial
        refine ⟨_, _, c2, rfl, ?_, bsetc HB2.out (HO2.out.own.base1 oneU8).1 _⟩
        rw [HB.out, if_pos (by simp), ← HFIN.out]
        exact own_u8 ⟨_, hr⟩
    | succ i =>
      obtain rfl : z = (i : Int) := by omega
      have z0 : (0 : Int) ≤ (i : Int) := by omega
      clear hz
      obtain ⟨p, hp⟩ : ∃ p, q + 1 - (i + 1) = p := ⟨_, rfl⟩
      obtain ⟨y, hy⟩ : ∃ y : UInt8, y = UInt8.ofNat (u / 256 ^ i) := ⟨_, rfl⟩
      have hyn : ((y.toNat : Nat) : Int) = ((u / 2 ^ (8 * i) % 256 : Nat) : Int) := by rw [hy, UInt8.toNat_ofNat', byte_pow]
      have f1 : IntKind.u8.wrap ((u : Int) / 2 ^ (8 * i)) = ((y.toNat : Nat) : Int) := by
        rw [hyn, IntKind.wrap_u8, show (u : Int) / 2 ^ (8 * i) = ((u / 2 ^ (8 * i) : Nat) : Int) by simp]
        omega
      have f2 : (u : Int) / 2 ^ (8 * i) % 256 = ((y.toNat : Nat) : Int) := by
        rw [hyn, show (u : Int) / 2 ^ (8 * i) = ((u / 2 ^ (8 * i) : Nat) : Int) by simp]
        omega
      have HT := Lib.hid (show (be (q + 1) u).take (p + 1) = (be (q + 1) u).take p ++ [y] by rw [be_take (q + 1) u p (by omega), hy, show q + 1 - 1 - p = i by omega])
      rw [hp] at HO
      have HP := Lib.hid hp
      rw [hp]
      have hp8 : p ≤ 9 := by omega
      clear hp hy hyn
      go_wp2_with (first
        | (at_builtin; refine apb1 wr w rfl (.tmp 23) (.tmp 29) rfl w.heap.size A2 p c2 ((be (q + 1) u).take p) rfl HO.out HB2.out (Nat.le_refl _) _ rfl y rfl (by omega) ?_; intro A3 c3 w3 h3 hb3 _)
        | fail)
      go_roundw
      case rel => exact ⟨i, (i : Int) - 1, A3, c3, by omega, rfl, by first | rfl | go_num, by rw [show q + 1 - i = p + 1 by have := HP.out; omega], by rw [show q + 1 - i = p + 1 by have := HP.out; omega, HT.out]; exact h3, hb3⟩
      case measure => simp [intOf]
end Go.Proofs.YticfmphbhdkhoaaGreatDoor
namespace Go.Proofs.YticfmphbhdkhoaaGreatDoor
open Go Go.RowKit

theorem same_stop (x0 : Int) : ∀ (l : List Int) (j : Nat) (h : j < l.length), (∀ x ∈ l.take j, x = x0) → l[j] ≠ x0 → (l.takeWhile (· == x0)).length = j
  | [], _, h, _, _ => absurd h (by simp)
  | a :: r, 0, _, _, h2 => by
    have : (a == x0) = false := by simpa using h2
    rw [List.takeWhile_cons, this]; rfl
  | a :: r, j + 1, h, h1, h2 => by
    have ha : a = x0 := h1 a (by simp)
    have : (a == x0) = true := by simpa using ha
    rw [List.takeWhile_cons, this, if_pos rfl, List.length_cons, same_stop x0 r j (by simpa using h) (fun x hx => h1 x (by rw [List.take_succ_cons]; exact List.mem_cons_of_mem _ hx)) (by simpa using h2)]
theorem same_all (x0 : Int) : ∀ (l : List Int), (∀ x ∈ l, x = x0) → (l.takeWhile (· == x0)).length = l.length
  | [], _ => rfl
  | a :: r, h1 => by
    have ha : a = x0 := h1 a (by simp)
    have : (a == x0) = true := by simpa using ha
    rw [List.takeWhile_cons, this, if_pos rfl, List.length_cons, List.length_cons, same_all x0 r fun x hx => h1 x (List.mem_cons_of_mem _ hx)]
theorem same1_any (x x0 : Int) (r : Bool) (hr : r = !(x == x0)) (kb b o n c : Nat) (w : World) (hk : w.cell? ⟨kb, 0, none⟩ = some (.slice (some ⟨b, o, none⟩) n c)) (h0 : w.cell? ⟨b, o, none⟩ = some (.int .i64 x0)) (hn : 1 ≤ n) :
    Calls Tryz.prog 95 #[.int .i64 x, .pointer (some ⟨kb, 0, none⟩)] w fun e w' => e = .returned (.bool r) ∧ w = w' := by
  have hn1 : (0 : Int) < (n : Int) := by omega
  have HR := Lib.hid hr
  clear hr hn
  go_enter Tryz.func95, Tryz.ntmps95
  go_wp2_with fail
  go_ret
  exact ⟨by rw [HR.out]; rfl, rfl⟩
set_option maxRecDepth 100000 in
set_option maxHeartbeats 1000000 in
theorem idx95_any (x0 : Int) (kb b o n c : Nat) (F : Nat → Prop) (l : List Int) (w : World) (h : Sl tI64 F w (some ⟨b, o, none⟩) n c l) (hx0 : x0 = l.headD 0) (hk : w.cell? ⟨kb, 0, none⟩ = some (.slice (some ⟨b, o, none⟩) n c)) :
    Calls Tryz.prog 94 #[.slice (some ⟨b, o, none⟩) n c, .func (.func 95) #[] #[.pointer (some ⟨kb, 0, none⟩)]] w fun e w' => e = .returned (.int .i64 (if sameN l = n then (-1 : Int) else ((sameN l : Nat) : Int))) ∧ w = w' := by
  have HL := Lib.hid h.len
  have HK := Lib.hid hk; have HX0 := Lib.hid hx0; have HH := Lib.hid h
  have hmax : n ≤ 9223372036854775807 := by have h2 := h.2.1; have h3 := h.2.2.1; unfold maxLen at h3; omega
  obtain ⟨rr, hrr⟩ : ∃ rr : Int, rr = if sameN l = n then (-1 : Int) else ((sameN l : Nat) : Int) := ⟨_, rfl⟩
  rw [← hrr]
  have HRR := Lib.hid hrr
  clear hk hx0 h hrr
  go_enter Tryz.func94, Tryz.ntmps94
  go_wp2_with fail
  go_loopw [8] (fun i wr => ∃ j : Nat, j ≤ n ∧ i = .int .i64 j ∧ wr = w ∧ Hid (∀ x ∈ l.take j, x = x0)) (fun i _ => n - (intOf i).toNat)
  case atStart => exact ⟨0, Nat.zero_le _, rfl, rfl, Lib.hid (by simp)⟩
  case round =>
    obtain ⟨j, hj, rfl, rfl, HA⟩ := hrel
    by_cases hlt : j < n
    · have hjl : j < l.length := by rw [← HL.out]; exact hlt
      obtain ⟨b', o', he, _, hcell⟩ := sl_cells HH.out (by intro e; rw [e] at hjl; simp at hjl)
      injection he with he; injection he with e1 e2 _
      subst e1; subst e2
      have hd0 : l[0]'(by omega) = x0 := by rw [HX0.out]; match l, hjl with | _ :: _, _ => rfl
      have hc0 := (hcell 0 (by omega)).1
      rw [hd0, Nat.add_zero] at hc0
      obtain ⟨d, hd⟩ : ∃ d, d = l[j] := ⟨_, rfl⟩
      have hcj := (hcell j hjl).1
      rw [← hd] at hcj
      obtain ⟨r, hr⟩ : ∃ r, r = !(d == x0) := ⟨_, rfl⟩
      have HD := Lib.hid hd; have HR := Lib.hid hr; have HC0 := Lib.hid hc0
      clear hc0 hd hr hcell hd0
      have hi1 : (0 : Int) ≤ (j : Int) := by omega
      have hi2 : (j : Int) < (n : Int) := by omega
      cases r with
      | true =>
        have HS := Lib.hid (show sameN l = j by
          unfold sameN
          rw [← HX0.out]
          exact same_stop x0 l j hjl HA.out (by rw [← HD.out]; have := HR.out; simpa using this))
        go_wp2_with (first
          | (go_at_call 95; refine (same1_any d x0 true HR.out kb b o n c _ HK.out HC0.out (by omega)).mono ?_; rintro e w1 ⟨rfl, rfl⟩)
          | fail)
        go_ret
        exact ⟨by rw [HRR.out, HS.out, if_neg (by omega)]; rfl, rfl⟩
      | false =>
        have HN : Hid (∀ x ∈ l.take (j + 1), x = x0) := Lib.hid (by
          intro x hx
          rw [List.take_succ_eq_append_getElem hjl, List.mem_append, List.mem_singleton] at hx
          rcases hx with hx | rfl
          · exact HA.out x hx
          · rw [← HD.out]; have := HR.out; simpa using this)
        go_wp2_with (first
          | (go_at_call 95; refine (same1_any d x0 false HR.out kb b o n c _ HK.out HC0.out (by omega)).mono ?_; rintro e w1 ⟨rfl, rfl⟩)
          | fail)
        go_roundw
        case rel => exact ⟨j + 1, by omega, by go_num, by trivial, HN⟩
        case measure => simp [intOf]; omega
    · obtain rfl : n = j := by omega
      have HS := Lib.hid (show sameN l = n by
        unfold sameN
        rw [← HX0.out, same_all x0 l (by have := HA.out; rwa [List.take_of_length_le (by rw [← HL.out]; exact Nat.le_refl _)] at this), ← HL.out])
      go_wp2_with fail
      go_ret
      exact ⟨by rw [HRR.out, if_pos HS.out]; rfl, rfl⟩
set_option maxRecDepth 100000 in
theorem same_any (F : Nat → Prop) (A : Option Addr) (n c : Nat) (l : List Int) (w : World) (h : Sl tI64 F w A n c l) (hl : l ≠ []) :
    Calls Tryz.prog 74 #[.slice A n c] w fun e w' => e = .returned (.int .i64 ((sameN l : Nat) : Int)) ∧ Below w.heap.size w w' := by
  obtain ⟨b, o, rfl, _, _⟩ := sl_cells h hl
  obtain ⟨w1, hw1⟩ : ∃ w1, w1 = w.alloc (.cells #[.slice (some ⟨b, o, none⟩) n c] 61) := ⟨_, rfl⟩
  obtain ⟨kb, hkb⟩ : ∃ kb, kb = w.heap.size := ⟨_, rfl⟩
  have hk : w1.cell? ⟨kb, 0, none⟩ = some (.slice (some ⟨b, o, none⟩) n c) := by rw [hw1, hkb, Lib.cell_of_heap (heap_alloc_new w _)]; rfl
  have HI := Lib.hid (idx95_any (l.headD 0) kb b o n c F l w1 (by rw [hw1]; exact h.alloc _) rfl hk)
  have HB := Lib.hid (show Below w.heap.size w w1 by rw [hw1]; exact (Below.refl _ _).alloc (Nat.le_refl _) _)
  obtain ⟨s, hs⟩ : ∃ s, s = sameN l := ⟨_, rfl⟩
  have HLN := Lib.hid h.len
  rw [← hs] at HI ⊢
  have HW := Lib.hid hw1; have HKB := Lib.hid hkb
  clear h hw1 hkb hs
  by_cases hsn : s = n
  · rw [if_pos hsn] at HI
    subst hsn
    go_enter Tryz.func74, Tryz.ntmps74
    go_upto_region 1 with fail
    rw [← HW.out, ← HKB.out]
    go_wp2_with (first
      | (go_at_call 94; refine HI.out.mono ?_; rintro e w2 ⟨rfl, rfl⟩)
      | fail)
    go_ret
    exact ⟨rfl, HB.out⟩
  · rw [if_neg hsn] at HI
    clear hsn
    go_enter Tryz.func74, Tryz.ntmps74
    go_upto_region 1 with fail
    rw [← HW.out, ← HKB.out]
    go_wp2_with (first
      | (go_at_call 94; refine HI.out.mono ?_; rintro e w2 ⟨rfl, rfl⟩)
      | fail)
    go_ret
    exact ⟨rfl, HB.out⟩
set_option maxRecDepth 100000 in
set_option maxHeartbeats 1000000 in
theorem times_any (F : Nat → Prop) (A : Option Addr) (n c : Nat) (l : List Int) (w : World) (h : Sl tI64 F w A n c l) (hl : l ≠ []) (hn : n ≤ 512) (sg : Bool) (hk : NumOk sg l) :
    Calls Tryz.prog 96 #[.slice A n c, .bool sg] w (RunPost (timesB sg l) w) := by
  have HS := Lib.hid (same_any F A n c l w h hl)
  obtain ⟨b, o, rfl, _, hcell⟩ := sl_cells h hl
  have hlen := h.len
  have hpos := List.length_pos_iff.2 hl
  obtain ⟨x0, hx0⟩ : ∃ x0, x0 = l.headD 0 := ⟨_, rfl⟩
  have hd0 : l[0]'(by omega) = x0 := by rw [hx0]; match l, hl with | _ :: _, _ => rfl
  have hc0 := (hcell 0 (by omega)).1
  rw [hd0, Nat.add_zero] at hc0
  have hxk := hk x0 (by rw [← hd0]; exact List.getElem_mem _)
  obtain ⟨x1, x2, x3⟩ := hxk
  have HX3 := Lib.hid x3
  obtain ⟨s, hs⟩ : ∃ s, s = sameN l := ⟨_, rfl⟩
  have HT := Lib.hid (show timesB sg l = if s = n ∧ 3 ≤ n ∧ n ≤ 10 then some (repB (uOf sg x0) n) else none by unfold timesB; rw [← hs, ← hlen, ← hx0])
  rw [← hs] at HS
  have hn0 : (0 : Int) < (n : Int) := by omega
  have HC0 := Lib.hid hc0
  clear hs hx0 hd0 hc0 hcell hlen hpos h hk x3
  by_cases hsn : s = n
  · subst hsn
    by_cases hr : 3 ≤ s ∧ s ≤ 10
    · have HP := Lib.hid (rput_any sg x0 x1 x2 HX3.out s hn)
      rw [if_pos hr] at HP
      rw [if_pos ⟨rfl, hr⟩] at HT
      clear hr
      go_enter Tryz.func96, Tryz.ntmps96
      go_wp2_with (first
        | (go_at_call 74; refine HS.out.mono ?_; rintro e w1 ⟨rfl, hb1⟩; have hc1 := kcell hb1 HC0.out; have HB1 := Lib.hid hb1; clear hb1)
        | (go_at_call 120; refine (HP.out _).mono ?_; rintro e w2 ⟨hb2, A3, n3, c3, rfl, ho3⟩; have HB2 := Lib.hid hb2; have HO3 := Lib.hid ho3; clear hb2 ho3)
        | fail)
      go_ret2
      exact ⟨HB1.out.trans (HB2.out.mono HB1.out.size), by rw [HT.out]; exact ⟨A3, n3, c3, rfl, HO3.out.down HB1.out.size⟩⟩
    · have HP := Lib.hid (rput_any sg x0 x1 x2 HX3.out s hn)
      rw [if_neg hr] at HP
      rw [if_neg (fun h => hr h.2)] at HT
      clear hr
      go_enter Tryz.func96, Tryz.ntmps96
      go_wp2_with (first
        | (go_at_call 74; refine HS.out.mono ?_; rintro e w1 ⟨rfl, hb1⟩; have hc1 := kcell hb1 HC0.out; have HB1 := Lib.hid hb1; clear hb1)
        | (go_at_call 120; refine (HP.out _).mono ?_; rintro e w2 ⟨hb2, rfl⟩; have HB2 := Lib.hid hb2; clear hb2)
        | fail)
      go_ret2
      exact ⟨HB1.out.trans (HB2.out.mono HB1.out.size), by rw [HT.out]; rfl⟩
  · have HN := Lib.hid (show timesB sg l = none by rw [HT.out, if_neg (fun h => hsn h.1)])
    have hsI : ¬ (s : Int) = (n : Int) := by omega
    clear hsn
    go_enter Tryz.func96, Tryz.ntmps96
    go_wp2_with (first
      | (go_at_call 74; refine HS.out.mono ?_; rintro e w1 ⟨rfl, hb1⟩; have hc1 := kcell hb1 HC0.out; have HB1 := Lib.hid hb1; clear hb1)
      | fail)
    go_ret2
    exact ⟨HB1.out, by rw [HN.out]; rfl⟩
end Go.Proofs.YticfmphbhdkhoaaGreatDoor
namespace Go.Proofs.YticfmphbhdkhoaaGreatDoor
open Go Go.RowKit

theorem tw_take (x0 : Int) : ∀ (l : List Int) (k : Nat), ((l.take k).takeWhile (· == x0)).length = min k (l.takeWhile (· == x0)).length
  | _, 0 => by simp
  | [], k + 1 => by simp
  | a :: r, k + 1 => by
    rw [List.take_succ_cons, List.takeWhile_cons, List.takeWhile_cons]
    cases h : (a == x0) with
    | true => rw [if_pos rfl, if_pos rfl, List.length_cons, List.length_cons, tw_take x0 r k]; omega
    | false => rw [if_neg (by simp), if_neg (by simp)]; simp
theorem sameN_five (l : List Int) (i m : Nat) (hm : m = min l.length (i + 5)) (hi : i < l.length) : sameN ((l.take m).drop i) = min 5 (sameN (l.drop i)) := by
  have e : (l.take m).drop i = (l.drop i).take 5 := by
    rw [List.drop_take]
    by_cases h : l.length ≤ i + 5
    · rw [List.take_of_length_le (by rw [List.length_drop]; omega), List.take_of_length_le (by rw [List.length_drop]; omega)]
    · rw [show m - i = 5 by omega]
  rw [e]
  unfold sameN
  rw [tw_take]
  congr 4
  match hd : l.drop i with
  | [] => rfl
  | _ :: _ => rfl
set_option maxRecDepth 100000 in
set_option maxHeartbeats 1000000 in
theorem cut_any (F : Nat → Prop) (A : Option Addr) (n c : Nat) (l : List Int) (w : World) (h : Sl tI64 F w A n c l) (hl : l ≠ []) (hn : n ≤ 4294967296) :
    Calls Tryz.prog 58 #[.slice A n c] w fun e w' => e = .returned (.int .i64 ((cutN l : Nat) : Int)) ∧ Below w.heap.size w w' := by
  have HS := Lib.hid (same_any F A n c l w h hl)
  have HH := Lib.hid h
  have hlen := h.len
  have hpos := List.length_pos_iff.2 hl
  have hc2 := h.2.1
  have hc3 := h.2.2.1
  unfold maxLen at hc3
  have hsl := sameN_le l
  obtain ⟨s, hs⟩ : ∃ s, s = sameN l := ⟨_, rfl⟩
  obtain ⟨t, ht⟩ : ∃ t, t = cutN l := ⟨_, rfl⟩
  obtain ⟨b, o, rfl, _, _⟩ := sl_cells h hl
  have HT := Lib.hid ht
  have hsn : s ≤ n := by omega
  rw [← hs] at HS
  rw [← ht]
  have hn1 : 1 ≤ n := by omega
  by_cases h3 : 3 ≤ s
  · have HM := Lib.hid (show min (s : Int) 512 = (t : Int) by rw [ht, cutN, ← hs, if_pos h3]; omega)
    have z : (3 : Int) ≤ (s : Int) := by omega
    clear h hlen hpos hs ht hsl h3
    go_enter Tryz.func58, Tryz.ntmps58
    go_wp2_with (first
      | (go_at_call 74; refine HS.out.mono ?_; rintro e w1 ⟨rfl, hb1⟩; have HB1 := Lib.hid hb1; clear hb1)
      | fail)
    go_ret
    exact ⟨by rw [← HM.out]; rfl, HB1.out⟩
  · obtain ⟨en, hen⟩ : ∃ en, en = min n 512 := ⟨_, rfl⟩
    have hen1 : 1 ≤ en ∧ en ≤ 512 ∧ en ≤ n := by omega
    have HEN := Lib.hid (show min (n : Int) 512 = (en : Int) by omega)
    have HC := Lib.hid (show t = cutAt l (en - 1) 1 by
      rw [ht, cutN, ← hs, if_neg h3]
      by_cases h1 : l.length ≤ 1
      · rw [if_pos h1, show en - 1 = 0 by omega, cutAt]; omega
      · rw [if_neg h1, hen, ← hlen])
    have z : ¬ (3 : Int) ≤ (s : Int) := by omega
    have HLN := Lib.hid hlen
    have HE1 := Lib.hid hen1
    clear h hlen hpos hs ht hsl h3 hen hen1
    go_enter Tryz.func58, Tryz.ntmps58
    go_wp2_with (first
      | (go_at_call 74; refine HS.out.mono ?_; rintro e w1 ⟨rfl, hb1⟩; have HB1 := Lib.hid hb1; clear hb1)
      | fail)
    try rw [HEN.out]
    go_loopw [5] (fun iv wr => ∃ i : Nat, 1 ≤ i ∧ i ≤ en ∧ iv = .int .i64 (i : Int) ∧ Below w.heap.size w wr ∧ Hid (t = cutAt l (en - i) i))
      (fun iv _ => en - (intOf iv).toNat)
    case atStart => exact ⟨1, Nat.le_refl _, HE1.out.1, rfl, HB1.out, HC⟩
    case round =>
      obtain ⟨i, hi1, hi, rfl, hb, HCI⟩ := hrel
      have HB := Lib.hid hb
      clear hb
      by_cases hlt : i < en
      · have hiE := HE1.out
        obtain ⟨m, hm⟩ : ∃ m, m = min n (i + 5) := ⟨_, rfl⟩
        have HM := Lib.hid (show min (n : Int) ((i : Int) + 5) = (m : Int) by omega)
        have him : i < m ∧ m ≤ n := by omega
        have HF5 := Lib.hid (sameN_five l i m (by rw [hm, HLN.out]) (by rw [← HLN.out]; omega))
        have hcut := (HH.out.below HB.out (Nat.le_refl _)).cut (lo := i) (hi := m) (by omega) him.2
        have hci : ¬ c = i := by omega
        rw [if_neg hci] at hcut
        have hcut2 : Sl tI64 F wr (some ⟨b, o + i, none⟩) (m - i) (c - i) ((l.take m).drop i) := by
          simpa [Addr.add, show tI64.size = 1 from rfl, show ¬ i = 0 by omega] using hcut
        obtain ⟨s5, hs5⟩ : ∃ s5, s5 = min 5 (sameN (l.drop i)) := ⟨_, rfl⟩
        have HC5 := Lib.hid (same_any F _ _ _ _ wr hcut2 (by intro e; have := congrArg List.length e; rw [List.length_drop, List.length_take] at this; have := HLN.out; simp at *; omega))
        rw [HF5.out, ← hs5] at HC5
        have HS5 := Lib.hid hs5
        have i0 : (0 : Int) ≤ (i : Int) := by omega
        have i1 : (i : Int) < (en : Int) := by omega
        have i2 : (i : Int) ≤ (m : Int) := by omega
        have i3 : (m : Int) ≤ (c : Int) := by omega
        have i4 : i ≤ m := by omega
        have i5 : m ≤ c := by omega
        clear hm him hcut hcut2 hs5 hiE
        have zm := HM.out
        have i6 : (c : Int) ≤ 9223372036854775807 := by omega
        by_cases h5 : s5 = 5
        · have HFIN := Lib.hid (show t = i by
            have := HS5.out
            rw [HCI.out, show en - i = (en - i - 1) + 1 by omega, cutAt, if_pos (by omega)])
          have h5I : (s5 : Int) = 5 := by omega
          clear h5
          go_wp2_with (first
            | (go_at_call 74; refine HC5.out.mono ?_; rintro e w2 ⟨rfl, hb2⟩; have HB2 := Lib.hid (HB.out.trans (hb2.mono HB.out.size)); clear hb2)
            | fail)
          go_ret
          exact ⟨by rw [HFIN.out]; rfl, HB2.out⟩
        · have HFIN := Lib.hid (show t = cutAt l (en - (i + 1)) (i + 1) by
            have := HS5.out
            rw [HCI.out, show en - i = (en - (i + 1)) + 1 by omega, cutAt, if_neg (by omega)])
          have h5I : ¬ (s5 : Int) = 5 := by omega
          clear h5
          go_wp2_with (first
            | (go_at_call 74; refine HC5.out.mono ?_; rintro e w2 ⟨rfl, hb2⟩; have HB2 := Lib.hid (HB.out.trans (hb2.mono HB.out.size)); clear hb2)
            | fail)
          go_roundw
          case rel => exact ⟨i + 1, by omega, by omega, by go_num, HB2.out, HFIN⟩
          case measure => simp [intOf]; omega
      · obtain rfl : i = en := by omega
        have i1 : ¬ (i : Int) < (i : Int) := by omega
        go_wp2_with fail
        go_ret
        exact ⟨by rw [HCI.out, Nat.sub_self, cutAt]; rfl, HB.out⟩
end Go.Proofs.YticfmphbhdkhoaaGreatDoor
namespace Go.Proofs.YticfmphbhdkhoaaGreatDoor
open Go Go.RowKit

set_option maxRecDepth 100000 in
theorem isnum_any (k : Int) (w : World) : Calls Tryz.prog 19 #[.int .i64 k] w fun e w' => e = .returned (.bool (decide (1 ≤ k ∧ k ≤ 5))) ∧ w = w' := by
  by_cases h : 1 ≤ k ∧ k ≤ 5
  · rw [decide_eq_true h]
    obtain rfl | rfl | rfl | rfl | rfl : k = 1 ∨ k = 2 ∨ k = 3 ∨ k = 4 ∨ k = 5 := by omega
    all_goals
      clear h
      go_enter Tryz.func19, Tryz.ntmps19
      go_wp2_with fail
      go_ret
      exact ⟨rfl, rfl⟩
  · rw [decide_eq_false h]
    have e1 : (k == 1) = false := beq_no (by omega)
    have e2 : (k == 2) = false := beq_no (by omega)
    have e3 : (k == 3) = false := beq_no (by omega)
    have e4 : (k == 4) = false := beq_no (by omega)
    have e5 : (k == 5) = false := beq_no (by omega)
    have h1 : ¬ k = 1 := by omega
    have h2 : ¬ k = 2 := by omega
    have h3 : ¬ k = 3 := by omega
    have h4 : ¬ k = 4 := by omega
    have h5 : ¬ k = 5 := by omega
    clear h
    go_enter Tryz.func19, Tryz.ntmps19
    go_wp2_with fail
    go_ret
    exact ⟨rfl, rfl⟩
set_option maxRecDepth 100000 in
theorem based_least (w : World) : Calls Tryz.prog 132 #[.int .i64 (-9223372036854775808)] w fun e w' => e = .returned (.slice none 0 0) ∧ Below w.heap.size w w' := by
  have HV := Lib.hid (show diffV 0 (-9223372036854775808) = #[.int .u64 0, .bool false, .bool false] by unfold diffV gapN; rw [if_neg (by omega)])
  go_enter Tryz.func132, Tryz.ntmps132
  go_wp2_with (first
    | (go_at_call 158; refine (diff_any 0 (-9223372036854775808) (by decide) (by decide) (by decide) (by decide) _).mono ?_; rintro e w1 ⟨rfl, hb1⟩; rw [HV.out]; have HB1 := Lib.hid hb1; clear hb1)
    | fail)
  go_ret
  exact ⟨rfl, HB1.out⟩
end Go.Proofs.YticfmphbhdkhoaaGreatDoor
