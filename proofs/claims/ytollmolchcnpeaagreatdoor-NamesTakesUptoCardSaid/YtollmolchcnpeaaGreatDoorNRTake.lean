/- pilasterref24.Take: a directory by its name, as the reference reads it. -/
import Derived.Test.YtollmolchcnpeaaGreatDoorNNum
namespace Go.Proofs.YtollmolchcnpeaaGreatDoor
open Go Go.RowKit

theorem hi_at {l : List Int} {q : Nat} (hq : l.length = q + 1) : l[q]? = some (hiOf l) := by
  unfold hiOf
  rw [last_at l q hq]
  exact List.getElem?_eq_getElem _
theorem lo_at {l : List Int} (h : 1 < l.length) : l[0]? = some (loOf l) := by
  unfold loOf
  rw [if_pos h]
  match l, h with
  | a :: r, _ => rfl
theorem own_get {w : World} {B n c g : Nat} {l : List Int} (h : OwnF tI64 3 (fun _ => False) w B (some ⟨g, 0, none⟩) n c l) {q : Nat} {v : Int} (hv : l[q]? = some v) : w.cell? ⟨g, q, none⟩ = some (.int .i64 v) := by
  obtain ⟨hq, rfl⟩ := List.getElem?_eq_some_iff.1 hv
  exact h.cell1 oneI64 hq

set_option maxRecDepth 100000 in
set_option maxHeartbeats 4000000 in
theorem rntake_any (s : List UInt8) (hs : s.length ≤ 9223372036854775807) (w : World) : Calls Tryz.prog 6 #[.string ⟨s.toArray⟩] w (NtPost s w) := by
  obtain ⟨ns, hns⟩ : ∃ ns, ns = numsOf s := ⟨_, rfl⟩
  obtain ⟨lo, hlo⟩ : ∃ x, x = loOf ns := ⟨_, rfl⟩
  obtain ⟨hi, hhi⟩ : ∃ x, x = hiOf ns := ⟨_, rfl⟩
  have HNS := Lib.hid hns; have HLO := Lib.hid hlo; have HHI := Lib.hid hhi; have HS := Lib.hid hs
  have HB0 := Lib.hid (show Below w.heap.size w (w.alloc (.cells #[.int .i64 0, .int .i64 0, .int .i64 0] 24)) from (Below.refl _ _).alloc (Nat.le_refl _) _)
  clear hns hlo hhi hs
  go_enter Tryz.func6, Tryz.ntmps6
  go_wp2_with (first
    | (go_at_call 14; refine (rnums_any s HS.out _).mono ?_; rintro e w1 ⟨A, n, c, rfl, ho, hb1⟩; rw [← HNS.out] at ho; have HO := Lib.hid ho; have HB1 := Lib.hid (HB0.out.trans (hb1.mono (by simp))); have HR1 := Lib.hid (show w1.heap[w.heap.size]? = some zrow from (hb1.block _ (by simp)).trans (heap_alloc_new w _)); have hz1 : w.heap.size < w1.heap.size := (by have := hb1.size; simp at this; omega); have HNL := Lib.hid ho.len; have HCAP := Lib.hid ho.cap; clear hb1 ho)
    | fail)
  go_loopw [5] (fun kv wr => ∃ k : Int, 1 ≤ k ∧ k ≤ 5 ∧ kv = .int .i64 k ∧ (∀ j : Int, 1 ≤ j → j < k → ¬ (s ≠ [] ∧ nput ⟨j, lo, hi⟩ = s)) ∧ Below w1.heap.size w1 wr)
    (fun kv _ => (5 - intOf kv).toNat)
  case atStart => exact ⟨1, by omega, by omega, rfl, fun j h1 h2 => by omega, Below.refl _ _⟩
  case round =>
    obtain ⟨k, hk1, hk5, rfl, hno, hb⟩ := hrel
    have HNO := Lib.hid hno; have HB := Lib.hid hb
    have hsz := hb.size
    clear hno hb
    by_cases hk4 : k ≤ 4
    · have s0 : decide (k ≤ 4) = true := decide_eq_true hk4
      go_upto_if 17 with fail
      obtain ⟨D, hD⟩ : ∃ D, D = wr.heap.size := ⟨_, rfl⟩
      obtain ⟨wd, hwd⟩ : ∃ wd, wd = wr.alloc (.cells #[.int .i64 k, .int .i64 0, .int .i64 0] 24) := ⟨_, rfl⟩
      rw [← hD, ← hwd]
      have hbd : Below wr.heap.size wr wd := by rw [hwd]; exact (Below.refl _ _).alloc (Nat.le_refl _) _
      have hkd : wd.heap[D]? = some (.cells #[.int .i64 k, .int .i64 0, .int .i64 0] 24 (0, 0)) := by rw [hwd, hD]; exact heap_alloc_new _ _
      have hDs : w1.heap.size ≤ D := by rw [hD]; exact hsz
      have HKD := Lib.hid hkd
      have HBD := Lib.hid (bthen HB.out hbd)
      have HOD := Lib.hid (HO.out.keepB HBD.out)
      have HDS := Lib.hid hDs
      have hzD : D < wd.heap.size := blk_lt hkd
      have HZD := Lib.hid hzD
      clear hwd hbd hkd hD hDs hzD HB hsz
      go_cut [] from 17 to 24 (fun wx => wx.heap[D]? = some (.cells #[.int .i64 k, .int .i64 0, .int .i64 hi] 24 (0, 0)) ∧ Below w1.heap.size w1 wx)
      case first =>
        by_cases h0 : n = 0
        · have hhi : hi = 0 := by
            have h := HNL.out
            have : ns = [] := List.length_eq_zero_iff.1 (by omega)
            rw [HHI.out, this]; rfl
          subst hhi
          subst h0
          go_wp2_with fail
          go_meet
          exact ⟨HKD.out, HBD.out⟩
        · obtain ⟨q, hq⟩ : ∃ q, n = q + 1 := ⟨n - 1, by omega⟩
          subst hq
          clear h0
          have hne : ns ≠ [] := by rintro rfl; have := HNL.out; simp at this
          obtain ⟨g, hA⟩ := HOD.out.some1 oneI64 hne
          have HOG := HOD.out
          rw [hA] at HOG
          have y0 : wd.cell? ⟨g, q, none⟩ = some (.int .i64 hi) := by rw [HHI.out]; exact own_get HOG (hi_at HNL.out.symm)
          have hq9 : q ≤ 9223372036854775806 := by have := HCAP.out; unfold maxLen at this; omega
          have w1' : wrap64 (q : Int) = (q : Int) := by unfold wrap64; omega
          have z0 : 0 < q + 1 := by omega
          have z1 : decide (0 < q + 1) = true := decide_eq_true z0
          have j1 : (0 : Int) ≤ (q : Int) := by omega
          have j2 : (q : Int) < (q : Int) + 1 := by omega
          have f2 := Lib.frozen_of_heap HKD.out 2
          have g2 : wd.cell? ⟨D, 2, none⟩ = some (.int .i64 0) := by rw [Lib.cell_of_heap HKD.out]; rfl
          subst hA
          clear HOG hne
          go_wp2_with fail
          go_meet
          exact ⟨heap_set HKD.out rfl, bsetc HBD.out HDS.out _⟩
      case rest =>
        obtain ⟨hkx, hbx⟩ := hcut
        rename World => wx
        have HKX := Lib.hid hkx
        have HBX := Lib.hid hbx
        have HOX := Lib.hid (HO.out.keepB hbx)
        clear hkx hbx
        refine ‹∀ (a : Act) (w_1 : World), Code.wp _ _ _ a w_1 → _› _ _ ?_
        go_upto_if 27 with fail
        go_cut [] from 27 to 31 (fun wy => wy.heap[D]? = some (.cells #[.int .i64 k, .int .i64 lo, .int .i64 hi] 24 (0, 0)) ∧ Below w1.heap.size w1 wy)
        case first =>
          by_cases h1 : 1 < n
          · have hne : ns ≠ [] := by rintro rfl; have := HNL.out; simp at this; omega
            obtain ⟨g, hA⟩ := HOX.out.some1 oneI64 hne
            have HOG := HOX.out
            rw [hA] at HOG
            have y0 : wx.cell? ⟨g, 0, none⟩ = some (.int .i64 lo) := by rw [HLO.out]; exact own_get HOG (lo_at (by rw [← HNL.out]; exact h1))
            have z1 : (1 : Int) < (n : Int) := by omega
            have j2 : (0 : Int) < (n : Int) := by omega
            have j3 : 0 < n := by omega
            have f1 := Lib.frozen_of_heap HKX.out 1
            have g1 : wx.cell? ⟨D, 1, none⟩ = some (.int .i64 0) := by rw [Lib.cell_of_heap HKX.out]; rfl
            subst hA
            clear HOG hne h1
            go_wp2_with fail
            go_meet
            exact ⟨heap_set HKX.out rfl, bsetc HBX.out HDS.out _⟩
          · have hlo : lo = 0 := by rw [HLO.out]; unfold loOf; rw [if_neg (by rw [← HNL.out]; exact h1)]
            subst hlo
            obtain h2 | h2 : n = 0 ∨ n = 1 := by omega
            · subst h2
              clear h1
              go_wp2_with fail
              go_meet
              exact ⟨HKX.out, HBX.out⟩
            · subst h2
              clear h1
              go_wp2_with fail
              go_meet
              exact ⟨HKX.out, HBX.out⟩
        case rest =>
          obtain ⟨hky, hby⟩ := hcut
          rename World => wy
          have HKY := Lib.hid hky
          have HBY := Lib.hid hby
          have HRY := Lib.hid ((hby.block _ hz1).trans HR1.out)
          have d0 : wy.cell? ⟨D, 0, none⟩ = some (.int .i64 k) := by rw [Lib.cell_of_heap hky]; rfl
          have d1 : wy.cell? ⟨D, 1, none⟩ = some (.int .i64 lo) := by rw [Lib.cell_of_heap hky]; rfl
          have d2 : wy.cell? ⟨D, 2, none⟩ = some (.int .i64 hi) := by rw [Lib.cell_of_heap hky]; rfl
          have hzy := hby.size
          clear hky hby
          refine ‹∀ (a : Act) (w_1 : World), Code.wp _ _ _ a w_1 → _› _ _ ?_
          have hwk : IntKind.i64.wrap (k + 1) = k + 1 := by rw [IntKind.wrap_i64]; omega
          have hwk2 : wrap64 (k + 1) = k + 1 := by unfold wrap64; omega
          by_cases hse : s = []
          · have hpe : s.isEmpty = true := by rw [hse]; rfl
            have HSE := Lib.hid hse
            clear hse
            go_wp2_with fail
            go_roundw
            case rel => exact ⟨k + 1, by omega, by omega, rfl, fun j h1 h2 h3 => absurd HSE.out h3.1, HBY.out⟩
            case measure => simp [intOf]; omega
          · have hpe : s.isEmpty = false := by cases s with | nil => exact absurd rfl hse | cons _ _ => rfl
            have HSE := Lib.hid hse
            clear hse
            obtain ⟨p, hp⟩ : ∃ p, p = nput ⟨k, lo, hi⟩ := ⟨_, rfl⟩
            have HP := Lib.hid hp
            clear hp
            by_cases hps : p = s
            · have t0 : (p == s) = true := by simpa using hps
              have HPS := Lib.hid hps
              clear hps
              go_upto_region 11 with (first
                | (go_at_call 15; refine (rnput_any ⟨k, lo, hi⟩ p HP.out _).mono ?_; rintro e w5 ⟨rfl, hb⟩; have e0 := kcell hb d0; have e1 := kcell hb d1; have e2 := kcell hb d2; have HB5 := Lib.hid ((HB1.out.trans (HBY.out.mono (by omega))).trans (hb.mono (by omega))); have HR5 := Lib.hid ((hb.block _ (by omega)).trans HRY.out); clear hb)
                | fail)
              have r0 := Lib.frozen_of_heap HR5.out 0
              have r1 := Lib.frozen_of_heap HR5.out 1
              have r2 := Lib.frozen_of_heap HR5.out 2
              have c0 : w5.cell? ⟨w.heap.size, 0, none⟩ = some (.int .i64 0) := by rw [Lib.cell_of_heap HR5.out]; rfl
              have c1 : w5.cell? ⟨w.heap.size, 1, none⟩ = some (.int .i64 0) := by rw [Lib.cell_of_heap HR5.out]; rfl
              have c2 : w5.cell? ⟨w.heap.size, 2, none⟩ = some (.int .i64 0) := by rw [Lib.cell_of_heap HR5.out]; rfl
              go_wp2_with fail
              refine bodyPost_ret (results_row2 rfl _ _ w.heap.size 24 #[.int .i64 k, .int .i64 lo, .int .i64 hi] (0, 0) _ rfl (heap_set (cs' := #[.int .i64 k, .int .i64 lo, .int .i64 hi]) (heap_set (cs' := #[.int .i64 k, .int .i64 lo, .int .i64 0]) (heap_set (cs' := #[.int .i64 k, .int .i64 0, .int .i64 0]) HR5.out rfl) rfl) rfl) Tryz.underlying24 rfl (by kernel_rfl)) rfl ?_
              exact ⟨⟨k, lo, hi⟩, true, rfl, rtake_some HSE.out (HP.out.symm.trans HPS.out), bsetc (bsetc (bsetc HB5.out (Nat.le_refl _) _) (Nat.le_refl _) _) (Nat.le_refl _) _⟩
            · have t0 : (p == s) = false := by simpa using hps
              have HPS := Lib.hid hps
              clear hps
              go_wp2_with (first
                | (go_at_call 15; refine (rnput_any ⟨k, lo, hi⟩ p HP.out _).mono ?_; rintro e w5 ⟨rfl, hb⟩; have HB5 := Lib.hid (HBY.out.trans (hb.mono hzy)); clear hb)
                | fail)
              go_roundw
              case rel => exact ⟨k + 1, by omega, by omega, rfl, fun j h1 h2 => by
                  by_cases hj : j < k
                  · exact HNO.out j h1 hj
                  · obtain rfl : j = k := by omega
                    rintro ⟨_, h4⟩
                    exact HPS.out (HP.out.trans h4), HB5.out⟩
              case measure => simp [intOf]; omega
    · obtain rfl : k = 5 := by omega
      have s0 : decide ((5 : Int) ≤ 4) = false := by decide
      have HRQ := Lib.hid ((HB.out.block _ hz1).trans HR1.out)
      have r0 := Lib.frozen_of_heap HRQ.out 0
      have r1 := Lib.frozen_of_heap HRQ.out 1
      have r2 := Lib.frozen_of_heap HRQ.out 2
      have c0 : wr.cell? ⟨w.heap.size, 0, none⟩ = some (.int .i64 0) := by rw [Lib.cell_of_heap HRQ.out]; rfl
      have c1 : wr.cell? ⟨w.heap.size, 1, none⟩ = some (.int .i64 0) := by rw [Lib.cell_of_heap HRQ.out]; rfl
      have c2 : wr.cell? ⟨w.heap.size, 2, none⟩ = some (.int .i64 0) := by rw [Lib.cell_of_heap HRQ.out]; rfl
      go_wp2_with fail
      refine bodyPost_ret (results_row2 rfl _ _ w.heap.size 24 #[.int .i64 0, .int .i64 0, .int .i64 0] (0, 0) _ rfl (heap_set (heap_set (heap_set HRQ.out rfl) rfl) rfl) Tryz.underlying24 rfl (by kernel_rfl)) rfl ?_
      exact ⟨DD.zero, false, rfl, rtake_none (fun j h1 h4 => by rw [← HNS.out, ← HLO.out, ← HHI.out]; exact HNO.out j h1 (by omega)), bsetc (bsetc (bsetc (HB1.out.trans (HB.out.mono (by omega))) (Nat.le_refl _) _) (Nat.le_refl _) _) (Nat.le_refl _) _⟩
end Go.Proofs.YtollmolchcnpeaaGreatDoor
