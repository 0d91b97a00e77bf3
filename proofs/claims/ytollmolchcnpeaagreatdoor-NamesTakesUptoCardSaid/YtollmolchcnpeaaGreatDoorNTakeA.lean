/- names.Take at any text. (Printed by gen_ntake2.py.) -/
import Derived.Test.YtollmolchcnpeaaGreatDoorNErr
import Derived.Deep.CutRange
namespace Go.Proofs.YtollmolchcnpeaaGreatDoor
open Go Go.RowKit

set_option maxRecDepth 100000 in
set_option maxHeartbeats 8000000 in
theorem ntake_bad (s : List UInt8) (hs : s.length < 4294967281) (mx : Int) (w : World) (hm : w.cell? ⟨2, 0, none⟩ = some (.int .i64 mx)) (ht : Tab w) (p0 : List UInt8) (ps : List (List UInt8)) (hp : pieces s = p0 :: ps) (hpl : ps.length ≤ 4294967296) (j : Nat) (hj : j < ps.length) (hok : ∀ i, (hi : i < j) → ∃ v, Lib.atoiAll (ps[i]'(by omega)) = .ok v) (hbad : ∀ v, Lib.atoiAll ps[j] ≠ .ok v) (he : ErrVars w) :
    Calls Tryz.prog 5 #[.string ⟨s.toArray⟩] w (NtPost s w) := by
  obtain ⟨n, hn1⟩ : ∃ n, n = (p0 :: ps).length := ⟨_, rfl⟩
  obtain ⟨B, hB⟩ : ∃ B, B = (w.alloc (.cells #[.int .i64 0, .int .i64 0, .int .i64 0] 24)).heap.size := ⟨_, rfl⟩
  have hB1 : B = w.heap.size + 1 := by rw [hB]; simp
  have hle : ∀ p ∈ ps, p.length ≤ 9223372036854775806 := fun p h => by
    have := pieces_len (s := s) (p := p) (by rw [hp]; exact List.mem_cons_of_mem _ h)
    omega
  have HLE := Lib.hid hle
  obtain ⟨N, hN⟩ : ∃ N, N = ps.length := ⟨_, rfl⟩
  have hnz : n = N + 1 := by rw [hn1, hN]; rfl
  have hN0 : N ≠ 0 := by omega
  have q1 : (1 : Int) ≤ (n : Int) := by omega
  have q2 : 1 ≤ n := by omega
  have q4 : 1 < n := by omega
  have q5 : ¬ n = 1 := by omega
  have q6 : n - 1 = N := by omega
  have q7 : ¬ N = 0 := hN0
  have q8 : N ≤ 4294967296 := by omega
  have q3 : n ≤ 4294967297 := by omega
  have HB0 := Lib.hid (show Below w.heap.size w (w.alloc (.cells #[.int .i64 0, .int .i64 0, .int .i64 0] 24)) from (Below.refl _ _).alloc (Nat.le_refl _) _)
  have HM := Lib.hid hm; have HT := Lib.hid ht; have HP := Lib.hid hp; have HJ := Lib.hid hj; have HOK := Lib.hid hok; have HBAD := Lib.hid hbad; have HEV := Lib.hid he; have HN1 := Lib.hid hn1; have HBE := Lib.hid hB; have HNZ := Lib.hid hnz; have HNL := Lib.hid hN; have HB1E := Lib.hid hB1
  clear hm ht hp hn1 hB hle hnz hN hB1 hpl hN0 hok hbad he
  go_enter Tryz.func5, Tryz.ntmps5
  go_wp2_with (first
    | (go_at_call 11; refine (split_p s hs mx _ (kcell HB0.out HM.out) _ HP.out n HN1.out B HBE.out).mono ?_; rintro e w1 ⟨rfl, hk1, hb1, hz1⟩; have HSP := Lib.hid hk1; have HB1 := Lib.hid (HB0.out.trans (hb1.mono (by simp))); have HR1 := Lib.hid (show w1.heap[w.heap.size]? = some (.cells #[.int .i64 0, .int .i64 0, .int .i64 0] 24 (0, 0)) from (hb1.block _ (by simp)).trans (heap_alloc_new w _)); clear hk1 hb1)
    | fail)
  go_loopw [5, 16] (fun nv iv wr => ∃ (t : Nat) (A : Option Addr) (c : Nat) (ns : List Int), t ≤ j ∧ iv = .int .i64 (t : Int) ∧ nv = .slice A t c ∧ OwnF tI64 3 (fun _ => False) wr w1.heap.size A t c ns ∧ Below w1.heap.size w1 wr)
    (fun _ iv _ => j - (intOf iv).toNat)
  case atStart => exact ⟨0, none, 0, [], Nat.zero_le _, rfl, rfl, OwnF.nil_ _ _ _ _ _, Below.refl _ _⟩
  case round =>
    obtain ⟨t, A, c, ns, htl, rfl, rfl, ho, hb⟩ := hrel
    have HO := Lib.hid ho; have HB := Lib.hid hb
    have hsz := hb.size
    have hsp := (hb.block B (by have := HB1E.out; omega)).trans HSP.out
    have HTL := Lib.hid htl
    have hlt : t < ps.length := by have := HJ.out; omega
    have HLT := Lib.hid hlt
    have hR := (hb.block _ (by have := HB1E.out; omega)).trans HR1.out
    have HRR := Lib.hid hR
    have HEW := Lib.hid (((HEV.out.below HB1.out)).below hb)
    clear ho hb hR
    have i1 : (0 : Int) ≤ (t : Int) := by omega
    have i2 : (t : Int) < (N : Int) := by have := HNL.out; omega
    obtain ⟨p, hp⟩ : ∃ p, p = ps[t] := ⟨_, rfl⟩
    have y0 : wr.cell? ⟨B, 1 + t, none⟩ = some (.string ⟨p.toArray⟩) := by
      rw [Lib.cell_of_heap hsp, hp, Nat.add_comm]
      simp [hlt]
      try rfl
    have hpl2 : p.length ≤ s.length := pieces_len (s := s) (p := p) (by rw [HP.out, hp]; exact List.mem_cons_of_mem _ (List.getElem_mem _))
    have HPL := Lib.hid hpl2
    have HPE := Lib.hid hp
    clear hsp hp hpl2
    by_cases htj : t < j
    · obtain ⟨v, hv⟩ := HOK.out t htj
      have hv2 : Lib.atoiAll p = .ok v := by rw [HPE.out]; exact hv
      have HV := Lib.hid hv2
      have HV2 := Lib.hid (Lib.atoiAll_bounds hv2)
      clear hv hv2 hlt
      go_wp2_with (first
        | (go_at_call 12; refine (atoi_p p v HV.out (by have := HPL.out; omega) _).mono ?_; rintro e w3 ⟨rfl, hb3⟩; have HB3 := Lib.hid hb3; have HO3 := Lib.hid (HO.out.keepB hb3); clear hb3)
        | (at_builtin; refine apl1 (T := tI64) elemInt w3 w1 rfl (.tmp 28) (.tmp 30) rfl w1.heap.size A t c _ rfl (fun _ => False) (fun _ => False) HO3.out (HB.out.trans (HB3.out.mono hsz)) (Nat.le_refl _) _ rfl [.int .i64 v] v ⟨rfl, HV2.out⟩ 3 rfl (fun _ _ _ _ h => h) (by have := HLT.out; have := HNL.out; omega) ?_; intro A5 c5 w5 h5)
        | fail)
      go_roundw
      case rel => exact ⟨t + 1, A5, c5, _, by omega, by go_num, rfl, h5.own.weaken (fun _ h _ => h.1.elim id id) (fun _ _ _ _ h => h), h5.below⟩
      case measure => simp [intOf]; omega
    · obtain rfl : t = j := by omega
      have HBD := Lib.hid (show ∀ v, Lib.atoiAll p ≠ .ok v by rw [HPE.out]; exact HBAD.out)
      have hRl : w.heap.size < wr.heap.size := by have := HB1E.out; omega
      clear htj hlt
      go_upto_region 8 with (first
        | (go_at_call 12; refine (atoi_bad p HBD.out (by have := HPL.out; omega) _ HEW.out).mono ?_; rintro e w3 ⟨x, M, rfl, hb3⟩; have HB3 := Lib.hid ((HB1.out.trans (HB.out.mono (by have := HB1E.out; omega))).trans (hb3.mono (by omega))); have hR3 := (hb3.block _ hRl).trans HRR.out; have HR3 := Lib.hid hR3; clear hb3 hR3)
        | fail)
      have r0 := Lib.frozen_of_heap HR3.out 0
      have r1 := Lib.frozen_of_heap HR3.out 1
      have r2 := Lib.frozen_of_heap HR3.out 2
      have c0 : w3.cell? ⟨w.heap.size, 0, none⟩ = some (.int .i64 0) := by rw [Lib.cell_of_heap HR3.out]; rfl
      have c1 : w3.cell? ⟨w.heap.size, 1, none⟩ = some (.int .i64 0) := by rw [Lib.cell_of_heap HR3.out]; rfl
      have c2 : w3.cell? ⟨w.heap.size, 2, none⟩ = some (.int .i64 0) := by rw [Lib.cell_of_heap HR3.out]; rfl
      go_wp2_with fail
      refine bodyPost_ret (results_row2 rfl _ _ w.heap.size 24 #[.int .i64 0, .int .i64 0, .int .i64 0] (0, 0) _ rfl (heap_set (heap_set (heap_set HR3.out rfl) rfl) rfl) Tryz.underlying24 rfl (by kernel_rfl)) rfl ?_
      exact ⟨DD.zero, false, rfl, take_err HP.out (List.getElem_mem HLT.out) HBAD.out, bsetc (bsetc (bsetc HB3.out (Nat.le_refl _) _) (Nat.le_refl _) _) (Nat.le_refl _) _⟩

set_option maxRecDepth 100000 in
set_option maxHeartbeats 8000000 in
theorem ntake_bare (s : List UInt8) (hs : s.length < 4294967281) (mx : Int) (w : World) (hm : w.cell? ⟨2, 0, none⟩ = some (.int .i64 mx)) (ht : Tab w) (p0 : List UInt8) (hp : pieces s = [p0]) :
    Calls Tryz.prog 5 #[.string ⟨s.toArray⟩] w (NtPost s w) := by
  obtain ⟨n, hn1⟩ : ∃ n, n = [p0].length := ⟨_, rfl⟩
  obtain ⟨B, hB⟩ : ∃ B, B = (w.alloc (.cells #[.int .i64 0, .int .i64 0, .int .i64 0] 24)).heap.size := ⟨_, rfl⟩
  have hB1 : B = w.heap.size + 1 := by rw [hB]; simp
  have hnz : n = 1 := hn1
  have HB0 := Lib.hid (show Below w.heap.size w (w.alloc (.cells #[.int .i64 0, .int .i64 0, .int .i64 0] 24)) from (Below.refl _ _).alloc (Nat.le_refl _) _)
  have HM := Lib.hid hm; have HT := Lib.hid ht; have HP := Lib.hid hp; have HN : Hid (Nums [] []) := Lib.hid rfl; have HN1 := Lib.hid hn1; have HBE := Lib.hid hB; have HNZ := Lib.hid hnz; have HB1E := Lib.hid hB1
  clear hm ht hp hB hB1 hn1
  subst hnz
  go_enter Tryz.func5, Tryz.ntmps5
  go_wp2_with (first
    | (go_at_call 11; refine (split_p s hs mx _ (kcell HB0.out HM.out) _ HP.out _ HN1.out B HBE.out).mono ?_; rintro e w1 ⟨rfl, hk1, hb1, hz1⟩; have HSP := Lib.hid hk1; have HB1 := Lib.hid (HB0.out.trans (hb1.mono (by simp))); have HR1 := Lib.hid (show w1.heap[w.heap.size]? = some (.cells #[.int .i64 0, .int .i64 0, .int .i64 0] 24 (0, 0)) from (hb1.block _ (by simp)).trans (heap_alloc_new w _)); clear hk1 hb1)
    | fail)
  go_loopw [5, 16] (fun nv iv wr => iv = .int .i64 0 ∧ nv = .slice none 0 0 ∧ wr = w1)
    (fun _ _ _ => 0)
  case atStart => exact ⟨rfl, rfl, rfl⟩
  case round =>
      obtain ⟨rfl, rfl, rfl⟩ := hrel
      obtain ⟨w1, hw1⟩ : ∃ w1, w1 = wr := ⟨_, rfl⟩
      have hsz : w1.heap.size ≤ wr.heap.size := by rw [hw1]; exact Nat.le_refl _
      have HB : Hid (Below w1.heap.size w1 wr) := Lib.hid (by rw [hw1]; exact Below.refl _ _)
      rw [← hw1] at HSP HB1 HR1
      have hsp := HSP.out
      have hzw : w1.heap.size = B + 1 := by rw [hw1]; exact hz1
      clear hw1 hz1
      obtain ⟨t, ht0⟩ : ∃ t : Nat, t = 0 := ⟨_, rfl⟩
      have HT0 := Lib.hid ht0
      clear ht0
      obtain ⟨lo, hi, hlh⟩ : ∃ lo hi, lohi [] = (lo, hi) := ⟨_, _, rfl⟩
      have HLH := Lib.hid hlh
      obtain ⟨wd, hwd⟩ : ∃ wd, wd = wr.alloc (.cells #[.int .i64 0, .int .i64 0, .int .i64 0] 24) := ⟨_, rfl⟩
      have hbd : Below wr.heap.size wr wd := by rw [hwd]; exact (Below.refl _ _).alloc (Nat.le_refl _) _
      have HDD := Lib.hid (show wd.heap[wr.heap.size]? = some (.cells #[.int .i64 0, .int .i64 0, .int .i64 0] 24 (0, 0)) by rw [hwd]; exact heap_alloc_new _ _)
      have HBD := Lib.hid hbd
      have HWD := Lib.hid hwd
      clear hwd hlh hbd hsp
      go_upto_region 12 with fail
      rw [← HWD.out]
      clear HWD
      go_cut [34] from 33 to 33 (fun v wx => v = .int .i64 (t : Int) ∧ wx = wd)
      case first =>
        go_wp2_with fail
        go_meet
        exact ⟨by rw [HT0.out]; rfl, rfl⟩
      obtain ⟨rfl, hwc⟩ := hcut
      rw [hwc]
      clear hwc
      refine ‹∀ (a : Act) (w_1 : World), Code.wp _ _ _ a w_1 → _› _ _ ?_
      go_cut [] from 35 to 50 (fun wx => wx.heap[wr.heap.size]? = some (.cells #[.int .i64 0, .int .i64 lo, .int .i64 hi] 24 (0, 0)) ∧ Below wr.heap.size wr wx ∧ wr.heap.size < wx.heap.size)
      case first =>
        have hsz0 := blk_lt HDD.out
        have f1 := Lib.frozen_of_heap HDD.out 1
        have f2 := Lib.frozen_of_heap HDD.out 2
        have g1 : wd.cell? ⟨wr.heap.size, 1, none⟩ = some (.int .i64 0) := by rw [Lib.cell_of_heap HDD.out]; rfl
        have g2 : wd.cell? ⟨wr.heap.size, 2, none⟩ = some (.int .i64 0) := by rw [Lib.cell_of_heap HDD.out]; rfl
        obtain ⟨rfl, rfl⟩ : 0 = lo ∧ 0 = hi := by have := HLH.out; simpa [lohi] using this
        have z1 : ((t : Int) == 1) = false := beq_no (by have := HT0.out; omega)
        have z2 : ((t : Int) == 2) = false := beq_no (by have := HT0.out; omega)
        go_wp2_with fail
        go_meet
        exact ⟨HDD.out, HBD.out, hsz0⟩
      case rest =>
        obtain ⟨hkx, hbx, hzx⟩ := hcut
        rename World => wx
        have HKX := Lib.hid hkx
        have HB1X := Lib.hid (HB.out.trans (hbx.mono hsz))
        have hRl : w.heap.size < w1.heap.size := by have := HB1E.out; omega
        have hBl : B < w1.heap.size := by have := HB1E.out; omega
        have HTX := Lib.hid ((HT.out.below HB1.out).below HB1X.out)
        have u0 := Lib.frozen_of_heap hkx 0
        have v0 : wx.cell? ⟨wr.heap.size, 0, none⟩ = some (.int .i64 0) := by rw [Lib.cell_of_heap hkx]; rfl
        obtain ⟨D, hD⟩ : ∃ D, D = wr.heap.size := ⟨_, rfl⟩
        rw [← hD] at HKX u0 v0 hzx ⊢
        have hDl : w1.heap.size ≤ D := by omega
        clear hkx hbx hD HDD HBD HB
        go_wp2_with fail
        go_loopw [] (fun wq => ∃ k : Int, 1 ≤ k ∧ k ≤ 5 ∧ (∀ j : Int, 1 ≤ j → j < k → ¬ (word j = p0 ∧ nput ⟨j, lo, hi⟩ = s)) ∧ wq.heap[D]? = some (.cells #[.int .i64 k, .int .i64 lo, .int .i64 hi] 24 (0, 0)) ∧ Below w1.heap.size w1 wq)
          (fun wq => (5 - kindAt D wq).toNat)
        case atStart => exact ⟨1, by omega, by omega, fun j h1 h2 => by omega, heap_set HKX.out rfl, bsetc HB1X.out hDl _⟩
        case round =>
          clear HKX HB1X HTX u0 v0
          rename World => wq
          obtain ⟨k, hk1, hk5, hno, hkq, hbq⟩ := hrel
          have HNO := Lib.hid hno
          have hR : wq.heap[w.heap.size]? = some zrow := (hbq.block _ hRl).trans HR1.out
          have hSp : wq.heap[B]? = some (.cells (([p0] : List (List UInt8)).map fun p => Value.string ⟨p.toArray⟩).toArray 9 (0, 0)) := (hbq.block _ hBl).trans HSP.out
          have hHeld : NtS D B w.heap.size ⟨k, lo, hi⟩ p0 (.cells (([p0] : List (List UInt8)).map fun p => Value.string ⟨p.toArray⟩).toArray 9 (0, 0)) w1 wq.drew :=
            ⟨by rw [World.cell?_drew, Lib.cell_of_heap hkq]; rfl, by rw [World.cell?_drew, Lib.cell_of_heap hkq]; rfl, by rw [World.cell?_drew, Lib.cell_of_heap hkq]; rfl, by rw [World.cell?_drew, Lib.cell_of_heap hSp]; rfl, Lib.hid ⟨((HT.out.below HB1.out).below hbq).below (Below.refl _ _).drew, hbq.drew, hbq.size, hkq, hR, hSp⟩⟩
          have x0 : wq.cell? ⟨D, 0, none⟩ = some (.int .i64 k) := by rw [Lib.cell_of_heap hkq]; rfl
          have HKQ := Lib.hid hkq
          have HBQ := Lib.hid hbq
          have HRQ := Lib.hid hR
          clear hno hkq hbq hR hSp
          by_cases hk4 : k ≤ 4
          · have s0 : decide (k ≤ 4) = true := decide_eq_true hk4
            have hwk : IntKind.i64.wrap (k + 1) = k + 1 := by rw [IntKind.wrap_i64]; omega
            obtain ⟨wk, hwk2⟩ : ∃ wk, wk = word k := ⟨_, rfl⟩
            have HWK := Lib.hid hwk2
            clear hwk2
            by_cases hwe : wk = p0
            · obtain ⟨pq, hpq⟩ : ∃ pq, pq = nput ⟨k, lo, hi⟩ := ⟨_, rfl⟩
              have HPQ := Lib.hid hpq
              clear hpq
              have HWE := Lib.hid hwe
              clear HBE HSP HR1
              by_cases hps : pq = s
              · have HPS := Lib.hid hps
                have e1 : (wk == p0) = true := by simpa using hwe
                have e2 : (pq == s) = true := by simpa using hps
                clear hwe hps
                go_upto_region 20 with fail
                refine wp_region_held_drew (S := (fun w' => w'.cell? ⟨D, 0, none⟩ = some (.int .i64 k) ∧ w'.cell? ⟨D, 1, none⟩ = some (.int .i64 lo) ∧ w'.cell? ⟨D, 2, none⟩ = some (.int .i64 hi) ∧ w'.cell? ⟨B, 0, none⟩ = some (.string ⟨p0.toArray⟩) ∧ Hid (Tab w' ∧ Below w1.heap.size w1 w' ∧ w1.heap.size ≤ w'.heap.size ∧ w'.heap[D]? = some (.cells #[.int .i64 k, .int .i64 lo, .int .i64 hi] 24 (0, 0)) ∧ w'.heap[w.heap.size]? = some zrow ∧ w'.heap[B]? = some (.cells (([p0] : List (List UInt8)).map fun p => Value.string ⟨p.toArray⟩).toArray 9 (0, 0))))) (by kernel_rfl) ?_ (fun hHeld => ?_)
                · ((try dsimp only); (first | exact hHeld | exact ntS_keep (d := ⟨k, lo, hi⟩) hHeld hb))
                (refine wpAnyH_take (i := 0) (oi := ⟨_, _, _, _, _, _⟩) (v := ?_) rfl (by kernel_rfl) (by kernel_rfl) (by kernel_rfl) (fun _ _ _ h => h) (Or.inl ⟨by rfl, ?_⟩) (by assumption) ?_; rotate_left; · (intro w hSw; (try dsimp only at hSw); go_simp; try with_reducible rfl)); (try simp only [Act.put]); (try simp only [List.setIfInBounds_toArray]); (try simp only [List.set_cons_succ]); (try simp only [List.set_cons_zero])
                (refine wpAnyH_take (i := 1) (oi := ⟨_, _, _, _, _, _⟩) (v := ?_) rfl (by kernel_rfl) (by kernel_rfl) (by kernel_rfl) (fun _ _ _ h => h) (Or.inl ⟨by rfl, ?_⟩) (by assumption) ?_; rotate_left; · (intro w hSw; (try dsimp only at hSw); go_simp; try with_reducible rfl)); (try simp only [Act.put]); (try simp only [List.setIfInBounds_toArray]); (try simp only [List.set_cons_succ]); (try simp only [List.set_cons_zero])
                (refine wpAnyH_take (i := 3) (oi := ⟨_, _, _, _, _, _⟩) (v := ?_) rfl (by kernel_rfl) (by kernel_rfl) (by kernel_rfl) (fun _ _ _ h => h) (Or.inl ⟨by rfl, ?_⟩) (by assumption) ?_; rotate_left; · (intro w hSw; (try dsimp only at hSw); go_simp; try with_reducible rfl)); (try simp only [Act.put]); (try simp only [List.setIfInBounds_toArray]); (try simp only [List.set_cons_succ]); (try simp only [List.set_cons_zero])
                (refine wpAnyH_take (i := 4) (oi := ⟨_, _, _, _, _, _⟩) (v := ?_) rfl (by kernel_rfl) (by kernel_rfl) (by kernel_rfl) (fun _ _ _ h => h) (Or.inl ⟨by rfl, ?_⟩) (by assumption) ?_; rotate_left; · (intro w hSw; (try dsimp only at hSw); go_simp; try with_reducible rfl)); (try simp only [Act.put]); (try simp only [List.setIfInBounds_toArray]); (try simp only [List.set_cons_succ]); (try simp only [List.set_cons_zero])
                (refine wpAnyH_take (i := 5) (oi := ⟨_, _, _, _, _, _⟩) (v := ?_) rfl (by kernel_rfl) (by kernel_rfl) (by kernel_rfl) (fun _ _ _ h => h) (Or.inl ⟨by rfl, ?_⟩) (by assumption) ?_; rotate_left; · (intro w hSw; (try dsimp only at hSw); go_simp; try with_reducible rfl)); (try simp only [Act.put]); (try simp only [List.setIfInBounds_toArray]); (try simp only [List.set_cons_succ]); (try simp only [List.set_cons_zero])
                refine wpAnyH_ready (rs := [2]) (by kernel_rfl) (by simp) ?_
                refine AllReadyH.cons (o := ⟨_, _, _, _, _, _⟩) rfl (fun K hK => ?_) ?_
                · (go_simp; (first | (go_at_call 13; refine (word_p k wk HWK.out _).mono ?_; rintro e w2 ⟨rfl, rfl⟩) | (go_at_call 10; refine (nput_any ⟨k, lo, hi⟩ pq HPQ.out _ hHeld.2.2.2.2.out.1).mono ?_; rintro e w2 ⟨rfl, hb⟩) | skip))
                  refine hK.out _ _ ?_ (fun hHeld => ?_)
                  · ((try dsimp only); (first | exact hHeld | exact ntS_keep (d := ⟨k, lo, hi⟩) hHeld hb))
                  clear hK K; (try simp only [Act.put]); (try simp only [List.setIfInBounds_toArray]); (try simp only [List.set_cons_succ]); (try simp only [List.set_cons_zero])
                  (refine wpAnyH_take (i := 6) (oi := ⟨_, _, _, _, _, _⟩) (v := ?_) rfl (by kernel_rfl) (by kernel_rfl) (by kernel_rfl) (fun _ _ _ h => h) (Or.inl ⟨by rfl, ?_⟩) (by assumption) ?_; rotate_left; · (intro w hSw; (try dsimp only at hSw); go_simp; try with_reducible rfl)); (try simp only [Act.put]); (try simp only [List.setIfInBounds_toArray]); (try simp only [List.set_cons_succ]); (try simp only [List.set_cons_zero])
                  (refine wpAnyH_take (i := 7) (oi := ⟨_, _, _, _, _, _⟩) (v := ?_) rfl (by kernel_rfl) (by kernel_rfl) (by kernel_rfl) (fun _ _ _ h => h) (Or.inl ⟨by rfl, ?_⟩) (by assumption) ?_; rotate_left; · (intro w hSw; (try dsimp only at hSw); go_simp; try with_reducible rfl)); (try simp only [Act.put]); (try simp only [List.setIfInBounds_toArray]); (try simp only [List.set_cons_succ]); (try simp only [List.set_cons_zero])
                  (refine wpAnyH_take (i := 8) (oi := ⟨_, _, _, _, _, _⟩) (v := ?_) rfl (by kernel_rfl) (by kernel_rfl) (by kernel_rfl) (fun _ _ _ h => h) (Or.inl ⟨by rfl, ?_⟩) (by assumption) ?_; rotate_left; · (intro w hSw; (try dsimp only at hSw); go_simp; try with_reducible rfl)); (try simp only [Act.put]); (try simp only [List.setIfInBounds_toArray]); (try simp only [List.set_cons_succ]); (try simp only [List.set_cons_zero])
                  (refine wpAnyH_take (i := 10) (oi := ⟨_, _, _, _, _, _⟩) (v := ?_) rfl (by kernel_rfl) (by kernel_rfl) (by kernel_rfl) (fun _ _ _ h => h) (Or.inl ⟨by rfl, ?_⟩) (by assumption) ?_; rotate_left; · (intro w hSw; (try dsimp only at hSw); go_simp; try with_reducible rfl)); (try simp only [Act.put]); (try simp only [List.setIfInBounds_toArray]); (try simp only [List.set_cons_succ]); (try simp only [List.set_cons_zero])
                  refine wpAnyH_ready (rs := [9]) (by kernel_rfl) (by simp) ?_
                  refine AllReadyH.cons (o := ⟨_, _, _, _, _, _⟩) rfl (fun K hK => ?_) ?_
                  · (go_simp; (first | (go_at_call 13; refine (word_p k wk HWK.out _).mono ?_; rintro e w2 ⟨rfl, rfl⟩) | (go_at_call 10; refine (nput_any ⟨k, lo, hi⟩ pq HPQ.out _ hHeld.2.2.2.2.out.1).mono ?_; rintro e w2 ⟨rfl, hb⟩) | skip))
                    refine hK.out _ _ ?_ (fun hHeld => ?_)
                    · ((try dsimp only); (first | exact hHeld | exact ntS_keep (d := ⟨k, lo, hi⟩) hHeld hb))
                    clear hK K; (try simp only [Act.put]); (try simp only [List.setIfInBounds_toArray]); (try simp only [List.set_cons_succ]); (try simp only [List.set_cons_zero])
                    (refine wpAnyH_take (i := 11) (oi := ⟨_, _, _, _, _, _⟩) (v := ?_) rfl (by kernel_rfl) (by kernel_rfl) (by kernel_rfl) (fun _ _ _ h => h) (Or.inl ⟨by rfl, ?_⟩) (by assumption) ?_; rotate_left; · (intro w hSw; (try dsimp only at hSw); go_simp; try with_reducible rfl)); (try simp only [Act.put]); (try simp only [List.setIfInBounds_toArray]); (try simp only [List.set_cons_succ]); (try simp only [List.set_cons_zero])
                    (refine wpAnyH_take (i := 12) (oi := ⟨_, _, _, _, _, _⟩) (v := ?_) rfl (by kernel_rfl) (by kernel_rfl) (by kernel_rfl) (fun _ _ _ h => h) (Or.inl ⟨by rfl, ?_⟩) (by assumption) ?_; rotate_left; · (intro w hSw; (try dsimp only at hSw); go_simp; try with_reducible rfl)); (try simp only [Act.put]); (try simp only [List.setIfInBounds_toArray]); (try simp only [List.set_cons_succ]); (try simp only [List.set_cons_zero])
                    refine wpAnyH_done (by kernel_rfl) ?_ _
                    obtain ⟨c0, c1, c2, _, hh⟩ := hHeld
                    obtain ⟨_, b1, b2, b3, b4, _⟩ := hh.out
                    have r0 := Lib.frozen_of_heap b4 0
                    have r1 := Lib.frozen_of_heap b4 1
                    have r2 := Lib.frozen_of_heap b4 2
                    have d0 := show _ = some (.int .i64 0) from (Lib.cell_of_heap b4 0).trans rfl
                    have d1 := show _ = some (.int .i64 0) from (Lib.cell_of_heap b4 1).trans rfl
                    have d2 := show _ = some (.int .i64 0) from (Lib.cell_of_heap b4 2).trans rfl
                    have BB := Lib.hid b1
                    have B4 := Lib.hid b4
                    go_wp2_with fail
                    refine bodyPost_ret (results_row2 rfl _ _ w.heap.size 24 #[.int .i64 k, .int .i64 lo, .int .i64 hi] (0, 0) _ rfl (heap_set (cs' := #[.int .i64 k, .int .i64 lo, .int .i64 hi]) (heap_set (cs' := #[.int .i64 k, .int .i64 lo, .int .i64 0]) (heap_set (cs' := #[.int .i64 k, .int .i64 0, .int .i64 0]) B4.out rfl) rfl) rfl) Tryz.underlying24 rfl (by kernel_rfl)) rfl ?_
                    exact ⟨⟨k, lo, hi⟩, true, rfl, take_some (d := ⟨k, lo, hi⟩) hk1 hk4 HP.out (HWK.out.symm.trans HWE.out) (HPQ.out.symm.trans HPS.out), bsetc (bsetc (bsetc (HB1.out.trans (BB.out.mono (by omega))) (Nat.le_refl _) _) (Nat.le_refl _) _) (Nat.le_refl _) _⟩
                  exact AllReadyH.nil
                exact AllReadyH.nil
              · have HPS := Lib.hid hps
                have e1 : (wk == p0) = true := by simpa using hwe
                have e2 : (pq == s) = false := by simpa using hps
                clear hwe hps
                go_upto_region 20 with fail
                refine wp_region_held_drew (S := (fun w' => w'.cell? ⟨D, 0, none⟩ = some (.int .i64 k) ∧ w'.cell? ⟨D, 1, none⟩ = some (.int .i64 lo) ∧ w'.cell? ⟨D, 2, none⟩ = some (.int .i64 hi) ∧ w'.cell? ⟨B, 0, none⟩ = some (.string ⟨p0.toArray⟩) ∧ Hid (Tab w' ∧ Below w1.heap.size w1 w' ∧ w1.heap.size ≤ w'.heap.size ∧ w'.heap[D]? = some (.cells #[.int .i64 k, .int .i64 lo, .int .i64 hi] 24 (0, 0)) ∧ w'.heap[w.heap.size]? = some zrow ∧ w'.heap[B]? = some (.cells (([p0] : List (List UInt8)).map fun p => Value.string ⟨p.toArray⟩).toArray 9 (0, 0))))) (by kernel_rfl) ?_ (fun hHeld => ?_)
                · ((try dsimp only); (first | exact hHeld | exact ntS_keep (d := ⟨k, lo, hi⟩) hHeld hb))
                (refine wpAnyH_take (i := 0) (oi := ⟨_, _, _, _, _, _⟩) (v := ?_) rfl (by kernel_rfl) (by kernel_rfl) (by kernel_rfl) (fun _ _ _ h => h) (Or.inl ⟨by rfl, ?_⟩) (by assumption) ?_; rotate_left; · (intro w hSw; (try dsimp only at hSw); go_simp; try with_reducible rfl)); (try simp only [Act.put]); (try simp only [List.setIfInBounds_toArray]); (try simp only [List.set_cons_succ]); (try simp only [List.set_cons_zero])
                (refine wpAnyH_take (i := 1) (oi := ⟨_, _, _, _, _, _⟩) (v := ?_) rfl (by kernel_rfl) (by kernel_rfl) (by kernel_rfl) (fun _ _ _ h => h) (Or.inl ⟨by rfl, ?_⟩) (by assumption) ?_; rotate_left; · (intro w hSw; (try dsimp only at hSw); go_simp; try with_reducible rfl)); (try simp only [Act.put]); (try simp only [List.setIfInBounds_toArray]); (try simp only [List.set_cons_succ]); (try simp only [List.set_cons_zero])
                (refine wpAnyH_take (i := 3) (oi := ⟨_, _, _, _, _, _⟩) (v := ?_) rfl (by kernel_rfl) (by kernel_rfl) (by kernel_rfl) (fun _ _ _ h => h) (Or.inl ⟨by rfl, ?_⟩) (by assumption) ?_; rotate_left; · (intro w hSw; (try dsimp only at hSw); go_simp; try with_reducible rfl)); (try simp only [Act.put]); (try simp only [List.setIfInBounds_toArray]); (try simp only [List.set_cons_succ]); (try simp only [List.set_cons_zero])
                (refine wpAnyH_take (i := 4) (oi := ⟨_, _, _, _, _, _⟩) (v := ?_) rfl (by kernel_rfl) (by kernel_rfl) (by kernel_rfl) (fun _ _ _ h => h) (Or.inl ⟨by rfl, ?_⟩) (by assumption) ?_; rotate_left; · (intro w hSw; (try dsimp only at hSw); go_simp; try with_reducible rfl)); (try simp only [Act.put]); (try simp only [List.setIfInBounds_toArray]); (try simp only [List.set_cons_succ]); (try simp only [List.set_cons_zero])
                (refine wpAnyH_take (i := 5) (oi := ⟨_, _, _, _, _, _⟩) (v := ?_) rfl (by kernel_rfl) (by kernel_rfl) (by kernel_rfl) (fun _ _ _ h => h) (Or.inl ⟨by rfl, ?_⟩) (by assumption) ?_; rotate_left; · (intro w hSw; (try dsimp only at hSw); go_simp; try with_reducible rfl)); (try simp only [Act.put]); (try simp only [List.setIfInBounds_toArray]); (try simp only [List.set_cons_succ]); (try simp only [List.set_cons_zero])
                refine wpAnyH_ready (rs := [2]) (by kernel_rfl) (by simp) ?_
                refine AllReadyH.cons (o := ⟨_, _, _, _, _, _⟩) rfl (fun K hK => ?_) ?_
                · (go_simp; (first | (go_at_call 13; refine (word_p k wk HWK.out _).mono ?_; rintro e w2 ⟨rfl, rfl⟩) | (go_at_call 10; refine (nput_any ⟨k, lo, hi⟩ pq HPQ.out _ hHeld.2.2.2.2.out.1).mono ?_; rintro e w2 ⟨rfl, hb⟩) | skip))
                  refine hK.out _ _ ?_ (fun hHeld => ?_)
                  · ((try dsimp only); (first | exact hHeld | exact ntS_keep (d := ⟨k, lo, hi⟩) hHeld hb))
                  clear hK K; (try simp only [Act.put]); (try simp only [List.setIfInBounds_toArray]); (try simp only [List.set_cons_succ]); (try simp only [List.set_cons_zero])
                  (refine wpAnyH_take (i := 6) (oi := ⟨_, _, _, _, _, _⟩) (v := ?_) rfl (by kernel_rfl) (by kernel_rfl) (by kernel_rfl) (fun _ _ _ h => h) (Or.inl ⟨by rfl, ?_⟩) (by assumption) ?_; rotate_left; · (intro w hSw; (try dsimp only at hSw); go_simp; try with_reducible rfl)); (try simp only [Act.put]); (try simp only [List.setIfInBounds_toArray]); (try simp only [List.set_cons_succ]); (try simp only [List.set_cons_zero])
                  (refine wpAnyH_take (i := 7) (oi := ⟨_, _, _, _, _, _⟩) (v := ?_) rfl (by kernel_rfl) (by kernel_rfl) (by kernel_rfl) (fun _ _ _ h => h) (Or.inl ⟨by rfl, ?_⟩) (by assumption) ?_; rotate_left; · (intro w hSw; (try dsimp only at hSw); go_simp; try with_reducible rfl)); (try simp only [Act.put]); (try simp only [List.setIfInBounds_toArray]); (try simp only [List.set_cons_succ]); (try simp only [List.set_cons_zero])
                  (refine wpAnyH_take (i := 8) (oi := ⟨_, _, _, _, _, _⟩) (v := ?_) rfl (by kernel_rfl) (by kernel_rfl) (by kernel_rfl) (fun _ _ _ h => h) (Or.inl ⟨by rfl, ?_⟩) (by assumption) ?_; rotate_left; · (intro w hSw; (try dsimp only at hSw); go_simp; try with_reducible rfl)); (try simp only [Act.put]); (try simp only [List.setIfInBounds_toArray]); (try simp only [List.set_cons_succ]); (try simp only [List.set_cons_zero])
                  (refine wpAnyH_take (i := 10) (oi := ⟨_, _, _, _, _, _⟩) (v := ?_) rfl (by kernel_rfl) (by kernel_rfl) (by kernel_rfl) (fun _ _ _ h => h) (Or.inl ⟨by rfl, ?_⟩) (by assumption) ?_; rotate_left; · (intro w hSw; (try dsimp only at hSw); go_simp; try with_reducible rfl)); (try simp only [Act.put]); (try simp only [List.setIfInBounds_toArray]); (try simp only [List.set_cons_succ]); (try simp only [List.set_cons_zero])
                  refine wpAnyH_ready (rs := [9]) (by kernel_rfl) (by simp) ?_
                  refine AllReadyH.cons (o := ⟨_, _, _, _, _, _⟩) rfl (fun K hK => ?_) ?_
                  · (go_simp; (first | (go_at_call 13; refine (word_p k wk HWK.out _).mono ?_; rintro e w2 ⟨rfl, rfl⟩) | (go_at_call 10; refine (nput_any ⟨k, lo, hi⟩ pq HPQ.out _ hHeld.2.2.2.2.out.1).mono ?_; rintro e w2 ⟨rfl, hb⟩) | skip))
                    refine hK.out _ _ ?_ (fun hHeld => ?_)
                    · ((try dsimp only); (first | exact hHeld | exact ntS_keep (d := ⟨k, lo, hi⟩) hHeld hb))
                    clear hK K; (try simp only [Act.put]); (try simp only [List.setIfInBounds_toArray]); (try simp only [List.set_cons_succ]); (try simp only [List.set_cons_zero])
                    (refine wpAnyH_take (i := 11) (oi := ⟨_, _, _, _, _, _⟩) (v := ?_) rfl (by kernel_rfl) (by kernel_rfl) (by kernel_rfl) (fun _ _ _ h => h) (Or.inl ⟨by rfl, ?_⟩) (by assumption) ?_; rotate_left; · (intro w hSw; (try dsimp only at hSw); go_simp; try with_reducible rfl)); (try simp only [Act.put]); (try simp only [List.setIfInBounds_toArray]); (try simp only [List.set_cons_succ]); (try simp only [List.set_cons_zero])
                    (refine wpAnyH_take (i := 12) (oi := ⟨_, _, _, _, _, _⟩) (v := ?_) rfl (by kernel_rfl) (by kernel_rfl) (by kernel_rfl) (fun _ _ _ h => h) (Or.inl ⟨by rfl, ?_⟩) (by assumption) ?_; rotate_left; · (intro w hSw; (try dsimp only at hSw); go_simp; try with_reducible rfl)); (try simp only [Act.put]); (try simp only [List.setIfInBounds_toArray]); (try simp only [List.set_cons_succ]); (try simp only [List.set_cons_zero])
                    refine wpAnyH_done (by kernel_rfl) ?_ _
                    obtain ⟨c0, c1, c2, _, hh⟩ := hHeld
                    obtain ⟨_, b1, b2, b3, b4, _⟩ := hh.out
                    have r0 := Lib.frozen_of_heap b3 0
                    have BB := Lib.hid b1
                    have B3 := Lib.hid b3
                    go_wp2_with fail
                    go_roundw
                    case rel => exact ⟨k + 1, by omega, by omega, fun j h1 h2 => by
                        by_cases hj : j < k
                        · exact HNO.out j h1 hj
                        · obtain rfl : j = k := by omega
                          rintro ⟨h3, h4⟩
                          exact HPS.out (HPQ.out.trans h4), heap_set B3.out rfl, bsetc BB.out hDl _⟩
                    case measure =>
                      rw [kindAt_row HKQ.out]
                      exact Nat.lt_of_le_of_lt (Nat.le_of_eq (congrArg (fun z : Int => (5 - z).toNat) (kindAt_row (k := k + 1) (heap_set (cs' := #[.int .i64 (k + 1), .int .i64 lo, .int .i64 hi]) B3.out rfl)))) (by show (5 - (k + 1)).toNat < (5 - k).toNat; omega)
                  exact AllReadyH.nil
                exact AllReadyH.nil
            · have HWE := Lib.hid hwe
              have e1 : (wk == p0) = false := by simpa using hwe
              clear hwe
              go_upto_region 20 with fail
              refine wp_region_held_drew (S := (fun w' => w'.cell? ⟨D, 0, none⟩ = some (.int .i64 k) ∧ w'.cell? ⟨D, 1, none⟩ = some (.int .i64 lo) ∧ w'.cell? ⟨D, 2, none⟩ = some (.int .i64 hi) ∧ w'.cell? ⟨B, 0, none⟩ = some (.string ⟨p0.toArray⟩) ∧ Hid (Tab w' ∧ Below w1.heap.size w1 w' ∧ w1.heap.size ≤ w'.heap.size ∧ w'.heap[D]? = some (.cells #[.int .i64 k, .int .i64 lo, .int .i64 hi] 24 (0, 0)) ∧ w'.heap[w.heap.size]? = some zrow ∧ w'.heap[B]? = some (.cells (([p0] : List (List UInt8)).map fun p => Value.string ⟨p.toArray⟩).toArray 9 (0, 0))))) (by kernel_rfl) ?_ (fun hHeld => ?_)
              · ((try dsimp only); (first | exact hHeld | exact ntS_keep (d := ⟨k, lo, hi⟩) hHeld hb))
              (refine wpAnyH_take (i := 0) (oi := ⟨_, _, _, _, _, _⟩) (v := ?_) rfl (by kernel_rfl) (by kernel_rfl) (by kernel_rfl) (fun _ _ _ h => h) (Or.inl ⟨by rfl, ?_⟩) (by assumption) ?_; rotate_left; · (intro w hSw; (try dsimp only at hSw); go_simp; try with_reducible rfl)); (try simp only [Act.put]); (try simp only [List.setIfInBounds_toArray]); (try simp only [List.set_cons_succ]); (try simp only [List.set_cons_zero])
              (refine wpAnyH_take (i := 1) (oi := ⟨_, _, _, _, _, _⟩) (v := ?_) rfl (by kernel_rfl) (by kernel_rfl) (by kernel_rfl) (fun _ _ _ h => h) (Or.inl ⟨by rfl, ?_⟩) (by assumption) ?_; rotate_left; · (intro w hSw; (try dsimp only at hSw); go_simp; try with_reducible rfl)); (try simp only [Act.put]); (try simp only [List.setIfInBounds_toArray]); (try simp only [List.set_cons_succ]); (try simp only [List.set_cons_zero])
              (refine wpAnyH_take (i := 3) (oi := ⟨_, _, _, _, _, _⟩) (v := ?_) rfl (by kernel_rfl) (by kernel_rfl) (by kernel_rfl) (fun _ _ _ h => h) (Or.inl ⟨by rfl, ?_⟩) (by assumption) ?_; rotate_left; · (intro w hSw; (try dsimp only at hSw); go_simp; try with_reducible rfl)); (try simp only [Act.put]); (try simp only [List.setIfInBounds_toArray]); (try simp only [List.set_cons_succ]); (try simp only [List.set_cons_zero])
              (refine wpAnyH_take (i := 4) (oi := ⟨_, _, _, _, _, _⟩) (v := ?_) rfl (by kernel_rfl) (by kernel_rfl) (by kernel_rfl) (fun _ _ _ h => h) (Or.inl ⟨by rfl, ?_⟩) (by assumption) ?_; rotate_left; · (intro w hSw; (try dsimp only at hSw); go_simp; try with_reducible rfl)); (try simp only [Act.put]); (try simp only [List.setIfInBounds_toArray]); (try simp only [List.set_cons_succ]); (try simp only [List.set_cons_zero])
              (refine wpAnyH_take (i := 5) (oi := ⟨_, _, _, _, _, _⟩) (v := ?_) rfl (by kernel_rfl) (by kernel_rfl) (by kernel_rfl) (fun _ _ _ h => h) (Or.inl ⟨by rfl, ?_⟩) (by assumption) ?_; rotate_left; · (intro w hSw; (try dsimp only at hSw); go_simp; try with_reducible rfl)); (try simp only [Act.put]); (try simp only [List.setIfInBounds_toArray]); (try simp only [List.set_cons_succ]); (try simp only [List.set_cons_zero])
              refine wpAnyH_ready (rs := [2]) (by kernel_rfl) (by simp) ?_
              refine AllReadyH.cons (o := ⟨_, _, _, _, _, _⟩) rfl (fun K hK => ?_) ?_
              · (go_simp; (first | (go_at_call 13; refine (word_p k wk HWK.out _).mono ?_; rintro e w2 ⟨rfl, rfl⟩) | (go_at_call 10; refine (nput_any ⟨k, lo, hi⟩ pq HPQ.out _ hHeld.2.2.2.2.out.1).mono ?_; rintro e w2 ⟨rfl, hb⟩) | skip))
                refine hK.out _ _ ?_ (fun hHeld => ?_)
                · ((try dsimp only); (first | exact hHeld | exact ntS_keep (d := ⟨k, lo, hi⟩) hHeld hb))
                clear hK K; (try simp only [Act.put]); (try simp only [List.setIfInBounds_toArray]); (try simp only [List.set_cons_succ]); (try simp only [List.set_cons_zero])
                (refine wpAnyH_take (i := 6) (oi := ⟨_, _, _, _, _, _⟩) (v := ?_) rfl (by kernel_rfl) (by kernel_rfl) (by kernel_rfl) (fun _ _ _ h => h) (Or.inl ⟨by rfl, ?_⟩) (by assumption) ?_; rotate_left; · (intro w hSw; (try dsimp only at hSw); go_simp; try with_reducible rfl)); (try simp only [Act.put]); (try simp only [List.setIfInBounds_toArray]); (try simp only [List.set_cons_succ]); (try simp only [List.set_cons_zero])
                (refine wpAnyH_take (i := 7) (oi := ⟨_, _, _, _, _, _⟩) (v := ?_) rfl (by kernel_rfl) (by kernel_rfl) (by kernel_rfl) (fun _ _ _ h => h) (Or.inl ⟨by rfl, ?_⟩) (by assumption) ?_; rotate_left; · (intro w hSw; (try dsimp only at hSw); go_simp; try with_reducible rfl)); (try simp only [Act.put]); (try simp only [List.setIfInBounds_toArray]); (try simp only [List.set_cons_succ]); (try simp only [List.set_cons_zero])
                (refine wpAnyH_take (i := 8) (oi := ⟨_, _, _, _, _, _⟩) (v := undef) rfl (by kernel_rfl) (by kernel_rfl) (by kernel_rfl) (fun _ _ _ h => h) (Or.inr ⟨by rfl, rfl⟩) (by assumption) ?_); (try simp only [Act.put]); (try simp only [List.setIfInBounds_toArray]); (try simp only [List.set_cons_succ]); (try simp only [List.set_cons_zero])
                (refine wpAnyH_take (i := 10) (oi := ⟨_, _, _, _, _, _⟩) (v := undef) rfl (by kernel_rfl) (by kernel_rfl) (by kernel_rfl) (fun _ _ _ h => h) (Or.inr ⟨by rfl, rfl⟩) (by assumption) ?_); (try simp only [Act.put]); (try simp only [List.setIfInBounds_toArray]); (try simp only [List.set_cons_succ]); (try simp only [List.set_cons_zero])
                refine wpAnyH_ready (rs := [9]) (by kernel_rfl) (by simp) ?_
                refine AllReadyH.cons (o := ⟨_, _, _, _, _, _⟩) rfl (fun K hK => ?_) ?_
                · (go_simp; (first | (go_at_call 13; refine (word_p k wk HWK.out _).mono ?_; rintro e w2 ⟨rfl, rfl⟩) | (go_at_call 10; refine (nput_any ⟨k, lo, hi⟩ pq HPQ.out _ hHeld.2.2.2.2.out.1).mono ?_; rintro e w2 ⟨rfl, hb⟩) | skip))
                  refine hK.out _ _ ?_ (fun hHeld => ?_)
                  · ((try dsimp only); (first | exact hHeld | exact ntS_keep (d := ⟨k, lo, hi⟩) hHeld hb))
                  clear hK K; (try simp only [Act.put]); (try simp only [List.setIfInBounds_toArray]); (try simp only [List.set_cons_succ]); (try simp only [List.set_cons_zero])
                  (refine wpAnyH_take (i := 11) (oi := ⟨_, _, _, _, _, _⟩) (v := undef) rfl (by kernel_rfl) (by kernel_rfl) (by kernel_rfl) (fun _ _ _ h => h) (Or.inr ⟨by rfl, rfl⟩) (by assumption) ?_); (try simp only [Act.put]); (try simp only [List.setIfInBounds_toArray]); (try simp only [List.set_cons_succ]); (try simp only [List.set_cons_zero])
                  (refine wpAnyH_take (i := 12) (oi := ⟨_, _, _, _, _, _⟩) (v := ?_) rfl (by kernel_rfl) (by kernel_rfl) (by kernel_rfl) (fun _ _ _ h => h) (Or.inl ⟨by rfl, ?_⟩) (by assumption) ?_; rotate_left; · (intro w hSw; (try dsimp only at hSw); go_simp; try with_reducible rfl)); (try simp only [Act.put]); (try simp only [List.setIfInBounds_toArray]); (try simp only [List.set_cons_succ]); (try simp only [List.set_cons_zero])
                  refine wpAnyH_done (by kernel_rfl) ?_ _
                  obtain ⟨c0, c1, c2, _, hh⟩ := hHeld
                  obtain ⟨_, b1, b2, b3, b4, _⟩ := hh.out
                  have r0 := Lib.frozen_of_heap b3 0
                  have BB := Lib.hid b1
                  have B3 := Lib.hid b3
                  go_wp2_with fail
                  go_roundw
                  case rel => exact ⟨k + 1, by omega, by omega, fun j h1 h2 => by
                      by_cases hj : j < k
                      · exact HNO.out j h1 hj
                      · obtain rfl : j = k := by omega
                        rintro ⟨h3, h4⟩
                        exact HWE.out (HWK.out.trans h3), heap_set B3.out rfl, bsetc BB.out hDl _⟩
                  case measure =>
                    rw [kindAt_row HKQ.out]
                    exact Nat.lt_of_le_of_lt (Nat.le_of_eq (congrArg (fun z : Int => (5 - z).toNat) (kindAt_row (k := k + 1) (heap_set (cs' := #[.int .i64 (k + 1), .int .i64 lo, .int .i64 hi]) B3.out rfl)))) (by show (5 - (k + 1)).toNat < (5 - k).toNat; omega)
                exact AllReadyH.nil
              exact AllReadyH.nil
          · obtain rfl : k = 5 := by omega
            have s0 : decide ((5 : Int) ≤ 4) = false := by decide
            have r0 := Lib.frozen_of_heap HRQ.out 0
            have r1 := Lib.frozen_of_heap HRQ.out 1
            have r2 := Lib.frozen_of_heap HRQ.out 2
            have c0 : wq.cell? ⟨w.heap.size, 0, none⟩ = some (.int .i64 0) := by rw [Lib.cell_of_heap HRQ.out]; rfl
            have c1 : wq.cell? ⟨w.heap.size, 1, none⟩ = some (.int .i64 0) := by rw [Lib.cell_of_heap HRQ.out]; rfl
            have c2 : wq.cell? ⟨w.heap.size, 2, none⟩ = some (.int .i64 0) := by rw [Lib.cell_of_heap HRQ.out]; rfl
            clear hHeld
            go_wp2_with fail
            refine bodyPost_ret (results_row2 rfl _ _ w.heap.size 24 #[.int .i64 0, .int .i64 0, .int .i64 0] (0, 0) _ rfl (heap_set (heap_set (heap_set HRQ.out rfl) rfl) rfl) Tryz.underlying24 rfl (by kernel_rfl)) rfl ?_
            exact ⟨DD.zero, false, rfl, take_none HP.out HN.out (fun j h1 h4 => by rw [HLH.out]; exact HNO.out j h1 (by omega)), bsetc (bsetc (bsetc (HB1.out.trans (HBQ.out.mono (by omega))) (Nat.le_refl _) _) (Nat.le_refl _) _) (Nat.le_refl _) _⟩


theorem ntake_any (s : List UInt8) (hs : s.length < 4294967281) (mx : Int) (w : World) (hm : w.cell? ⟨2, 0, none⟩ = some (.int .i64 mx)) (ht : Tab w) (he : ErrVars w) :
    Calls Tryz.prog 5 #[.string ⟨s.toArray⟩] w (NtPost s w) := by
  obtain ⟨p0, ps, hp⟩ := pieces_ne s
  have hpl := pieces_many s hs hp
  rcases nums_or ps with ⟨ns, hn⟩ | ⟨j, hj, h1, h2⟩
  · by_cases h0 : ps = []
    · subst h0
      exact ntake_bare s hs mx w hm ht p0 hp
    · exact ntake_ok s hs mx w hm ht p0 ps hp h0 hpl ns hn
  · exact ntake_bad s hs mx w hm ht p0 ps hp hpl j hj h1 h2 he
end Go.Proofs.YtollmolchcnpeaaGreatDoor
