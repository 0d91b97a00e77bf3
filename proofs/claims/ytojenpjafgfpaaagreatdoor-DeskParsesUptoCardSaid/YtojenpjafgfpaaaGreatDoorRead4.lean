/- The layer desk: the reader: node. -/
import Derived.Test.YtojenpjafgfpaaaGreatDoorRead3
import Derived.Test.YtojenpjafgfpaaaGreatDoorCall
namespace Go.Proofs.YtojenpjafgfpaaaGreatDoor
open Go Go.RowKit
attribute [local go_sem ↓] Go.wp_at_zero Go.wp_at_succ

set_option maxRecDepth 100000 in
set_option maxHeartbeats 4000000 in
theorem rnode_any (g : Nat) (bad : Bool) (F : Nat → Prop) (A : Option Addr) (n c : Nat) (l : List UInt8) (w : World) (h : Bs F w A n c l) (hn : n ≤ 4294967296) (hg : RdAt g bad w) :
    Calls Tryz.prog 50 #[.pointer (some ⟨g, 0, none⟩), .slice A n c] w (NdPost g bad l w) := by
  have HG := Lib.hid hg; clear hg
  have hlt := HG.out.lt
  go_enter Tryz.func50, Tryz.ntmps50
  go_wp2_with (go_at_call 17; refine (rfields_any g bad F A n c l _ (h.alloc _) hn (heap_allocd HG.out _)).mono ?_)
  rintro e w1 ⟨A1, n1, c1, rfl, hg1, hrd1, hs1⟩
  have hp1 : w1.heap[w.heap.size]? = some (.cells (pcells PP.zero none 0 0 none 0 0) 55 (0, 0)) := (hg1.block _ (by simp) (by simp; omega)).trans (heap_alloc_new w _)
  have hsz1 : w.heap.size + 1 ≤ w1.heap.size := by have := hg1.size; simpa using this
  have hst : NdSt w w.heap.size w1.heap.size g w1.heap.size (bad || (rdFields l).1) PP.zero (fun _ => 0) none 0 0 none 0 0 A1 n1 c1 (rdFields l).2 w1 :=
    ⟨hp1, Col.nil_ _ _ _ _ _ _ _, Col.nil_ _ _ _ _ _ _ _, hrd1, grown_trans (grown_alloc (grown_of_below (Below.refl _ w)) _) hg1,
      (hs1.weaken (F' := fun b => (w.heap.size < b ∧ b < w1.heap.size)) fun b hb hl => ⟨by simp at hb; omega, hl⟩), by unfold i64; decide, by unfold i64; decide, ⟨by decide, by decide, by decide⟩, hlt, rfl, by omega, Nat.le_refl _, Nat.le_refl _⟩
  clear hg1 hrd1 hs1 hp1
  obtain ⟨L, hL⟩ : ∃ L, L = (rdFields l).2 := ⟨_, rfl⟩
  obtain ⟨b1, hb1⟩ : ∃ b1, b1 = (bad || (rdFields l).1) := ⟨_, rfl⟩
  rw [← hL, ← hb1] at hst
  have HLL := Lib.hid hL; have HBB := Lib.hid hb1
  clear hL hb1
  have HN := Lib.hid hst.fl.len
  have hn1 : n1 ≤ 4294967296 := by rw [HN.out, HLL.out]; exact rdFields_count (by rw [← h.len]; exact hn)
  have HST := Lib.hid hst; clear hst
  go_wp2_with fail
  go_loopw [12] (fun i wr => ∃ (j : Nat) (b2 : Bool) (p : PP) (S : Nat) (col : Nat → Nat) (A2 : Option Addr) (m2 c2 : Nat) (A3 : Option Addr) (m3 c3 : Nat), j ≤ n1 ∧ i = .int .i64 j ∧ m2 ≤ j ∧ m3 ≤ j ∧ NdSt w w.heap.size w1.heap.size g S b2 p col A2 m2 c2 A3 m3 c3 A1 n1 c1 L wr ∧ (L.take j).foldl nodeStep (b1, PP.zero) = (b2, p))
    (fun i _ => n1 - (intOf i).toNat)
  case atStart => exact ⟨0, b1, PP.zero, w1.heap.size, _, none, 0, 0, none, 0, 0, Nat.zero_le _, rfl, Nat.le_refl _, Nat.le_refl _, HST.out, rfl⟩
  case round =>
    clear HST
    obtain ⟨j, b2, p, S, col, A2, m2, c2, A3, m3, c3, hj, rfl, hm2, hm3, hst, hfold⟩ := hrel
    have HFO := Lib.hid hfold; clear hfold
    have HST := Lib.hid hst; clear hst
    have q1 := HST.out.hg; have q2 := HST.out.hP; have q3 := HST.out.hB; have q4 := HST.out.hS
    by_cases hlt2 : j < n1
    · have hjl : j < L.length := by rw [← HN.out]; exact hlt2
      obtain ⟨b, o, cs, rfl, hb, hbl, hrep, hc⟩ := HST.out.fl.at_ hjl (by decide)
      obtain ⟨f, hf⟩ : ∃ f, f = L[j] := ⟨_, rfl⟩
      have hnext := foldl_take nodeStep (b1, PP.zero) L j hjl
      rw [HFO.out, ← hf] at hnext
      rw [← hf] at hrep
      obtain ⟨A4, n4, c4, rfl, hftag, hfn, hfb⟩ := hrep
      obtain ⟨g0, g1, g2, g3⟩ := cells4 hc
      have hfm : f ∈ L := by rw [hf]; exact List.getElem_mem hjl
      clear hc hf
      have HFB := Lib.hid hfb; clear hfb
      have hz := zagI_bd f.n hfn
      obtain ⟨t, ht⟩ : ∃ t, t = f.tag := ⟨_, rfl⟩
      rw [← ht] at g0 hftag
      have HT := Lib.hid ht; clear ht
      have HNX := Lib.hid hnext; clear hnext
      obtain ⟨wb, hwb, hBb, hCb, hSb, hKb⟩ := boxed wr [.int .i64 t, .bool f.bytes, .int .u64 (f.n : Int), .slice A4 n4 c4] 75
      have HSB := Lib.hid (HST.out.below hBb)
      have hn4 : n4 ≤ 4294967296 := by rw [HFB.out.len]; exact Nat.le_trans (rdFields_mem (l := l) (by rw [← HLL.out]; exact hfm)) (by rw [← h.len]; exact hn)
      have HFB2 := Lib.hid (hKb HFB.out)
      have k0 : wb.cell? ⟨wr.heap.size, 0, none⟩ = some (.int .i64 t) := hCb 0 _ rfl
      have k2 : wb.cell? ⟨wr.heap.size, 2, none⟩ = some (.int .u64 (f.n : Int)) := hCb 2 _ rfl
      have k3 : wb.cell? ⟨wr.heap.size, 3, none⟩ = some (.slice A4 n4 c4) := hCb 3 _ rfl
      have q5 := HSB.out.hS
      clear hCb hKb hBb hSb
      go_upto_region 4 with fail
      rw [← hwb]
      clear hwb g0 g1 g2 g3 hb hbl HST HFB
      obtain ⟨d0, d1, d2, d3, d4, d5, d6⟩ := HSB.out.cells
      have e0 := HSB.out.free 0
      have e1 := HSB.out.free 1
      have e2 := HSB.out.free 2
      have e3 := HSB.out.free 3
      have e4 := HSB.out.free 4
      have e5 := HSB.out.free 5
      have e6 := HSB.out.free 6
      by_cases h1 : t = 1
      · subst h1
        have HS := Lib.hid (show nodeStep (b2, p) f = (b2, { p with op := zagI f.n }) by simp [nodeStep, ← HT.out])
        go_wp2_with (go_at_call 47; refine (zag_any f.n _ hfn).mono ?_; rintro e w' ⟨rfl, rfl⟩)
        go_roundw
        case rel => exact ⟨j + 1, b2, { p with op := zagI f.n }, S, col, A2, m2, c2, A3, m3, c3, by omega, by go_num, by omega, by omega, HSB.out.put rfl rfl rfl ⟨hz.1, hz.2⟩ HSB.out.clm HSB.out.vok, by rw [HNX.out, HS.out]⟩
        case measure => simp [intOf]; omega
      by_cases h2 : t = 2
      · subst h2
        clear h1
        have HS := Lib.hid (show nodeStep (b2, p) f = (b2, { p with col := zagI f.n }) by simp [nodeStep, ← HT.out])
        go_wp2_with (go_at_call 47; refine (zag_any f.n _ hfn).mono ?_; rintro e w' ⟨rfl, rfl⟩)
        go_roundw
        case rel => exact ⟨j + 1, b2, { p with col := zagI f.n }, S, col, A2, m2, c2, A3, m3, c3, by omega, by go_num, by omega, by omega, HSB.out.put rfl rfl rfl HSB.out.op ⟨hz.1, hz.2⟩ HSB.out.vok, by rw [HNX.out, HS.out]⟩
        case measure => simp [intOf]; omega
      obtain ⟨rv, hrv⟩ : ∃ rv, rv = rdValue f.b := ⟨_, rfl⟩
      have HRV := Lib.hid hrv; clear hrv
      by_cases h3 : t = 3
      · subst h3
        clear h1 h2
        have HS := Lib.hid (show nodeStep (b2, p) f = (b2 || rv.1, { p with v := rv.2 }) by simp [nodeStep, ← HT.out, ← HRV.out])
        go_wp2_with (first
          | (go_at_call 47; refine (zag_any f.n _ hfn).mono ?_; rintro e w' ⟨rfl, rfl⟩)
          | (go_at_call 48; refine (rvalue_rv g b2 _ A4 n4 c4 f.b _ HFB2.out hn4 HSB.out.rd HRV.out).mono ?_; rintro e w2 ⟨rfl, hg2, hr2, hvok, hvs⟩; have H2 := Lib.hid (HSB.out.grow hg2 hr2); obtain ⟨d0', d1', d2', d3', d4', d5', d6'⟩ := H2.out.cells; have e2' := H2.out.free 2; have e3' := H2.out.free 3; have e4' := H2.out.free 4; have HOK := Lib.hid hvok; clear hg2 hr2 hvok))
        go_roundw
        case rel =>
          exact ⟨j + 1, b2 || rv.1, { p with v := rv.2 }, S, col, A2, m2, c2, A3, m3, c3, by omega, by go_num, by omega, by omega,
            ((H2.out.put (p2 := { p with v := ⟨rv.2.null, p.v.n, p.v.s⟩ }) rfl rfl rfl HSB.out.op HSB.out.clm HSB.out.vok).put (p2 := { p with v := ⟨rv.2.null, rv.2.n, p.v.s⟩ }) rfl rfl rfl HSB.out.op HSB.out.clm ⟨HOK.out.1, HOK.out.2.1, HSB.out.vok.2.2⟩).put rfl rfl rfl HSB.out.op HSB.out.clm HOK.out, by rw [HNX.out, HS.out]⟩
        case measure => simp [intOf]; omega
      by_cases h4 : t = 4
      · subst h4
        clear h1 h2 h3
        have HS := Lib.hid (show nodeStep (b2, p) f = (b2 || rv.1, { p with vals := p.vals ++ [rv.2] }) by simp [nodeStep, ← HT.out, ← HRV.out])
        go_wp2_with (go_at_call 47; refine (zag_any f.n _ hfn).mono ?_; rintro e w' ⟨rfl, rfl⟩)
        go_region_law (first
            | (refine step_callee2 rfl 48 Tryz.func48 (by kernel_rfl) (by kernel_rfl) (.tmp 40) (.tmp 42) _ rfl (.pointer (some ⟨g, 0, none⟩)) (.slice A4 n4 c4) rfl rfl (rvalue_rv g b2 _ A4 n4 c4 f.b _ HFB2.out.drew hn4 HSB.out.drew.rd HRV.out) ?_; rintro e w2 ⟨rfl, hg2, hr2, hvok, hvs⟩; have H2 := Lib.hid (HSB.out.drew.grow hg2 hr2); obtain ⟨d0', d1', d2', d3', d4', d5', d6'⟩ := H2.out.cells; have e5' := H2.out.free 5; have HOK := Lib.hid hvok; have k3' := hg2.cell k3 (fun e => by have hh : wr.heap.size = g := Option.some.inj e; omega); have hq5 : S ≤ w2.heap.size := H2.out.hS; have hlP2 : w.heap.size < w2.heap.size := (by omega); obtain ⟨Fv, hvo, hvc, hva⟩ := H2.out.vals; have HVO := Lib.hid hvo; have HVC := Lib.hid hvc; have HVA := Lib.hid hva; clear hg2 hr2 hvok hvo hvc hva; refine ⟨_, rfl, ?_⟩)
            | (have _hq := hq5; refine step_apl1 (T := tVV) elemVV w2 w2 rfl (.tmp 39) (.tmp 44) rfl w1.heap.size A2 m2 c2 p.vals rfl Fv (fun _ => False) HVO.out (Below.refl _ _) (by omega) _ rfl [.bool rv.2.null, .int .i64 rv.2.n, .string rv.2.s] rv.2 ⟨rfl, HOK.out⟩ 53 rfl (fun _ _ _ _ h => h) (by omega) ?_; intro A6 c6 w6 h6; have hgr6 := grown_trans (grown_alloc (grown_of_below (Below.refl _ w2)) _) h6.grown; obtain ⟨r1, _, _, _⟩ := H2.out.rest hgr6 (fun b hb => (H2.out.vals.lies hb).1); have d5'' : w6.cell? ⟨w.heap.size, 5, none⟩ = some (.slice A2 m2 c2) := (by rw [Lib.cell_of_heap r1]; rfl); have e5'' := Lib.frozen_of_heap r1 5; have k3'' := hgr6.cell k3' (fun e => by have hh : wr.heap.size < S := (H2.out.vals.lies e.symm).2.1; omega); clear r1 hgr6)
            | fail)
        all_goals
          go_wp2_with fail
          go_roundw
          case rel =>
            exact ⟨j + 1, b2 || rv.1, { p with vals := p.vals ++ [rv.2] }, w6.heap.size, _, A6, m2 + 1, c6, A3, m3, c3, by omega, by go_num, by omega, by omega, H2.out.addV HVC.out HVA.out (fun _ h => h.elim) h6 ((Below.refl _ _).alloc (Nat.le_refl _) _), by rw [HNX.out, HS.out]⟩
          case measure => simp [intOf]; omega
      by_cases h5 : t = 5
      · subst h5
        clear h1 h2 h3 h4
        have HS := Lib.hid (show nodeStep (b2, p) f = (b2, { p with l := p.l ++ [zagI f.n] }) by simp [nodeStep, ← HT.out])
        obtain ⟨Fv, hvo, hvc, hva⟩ := HSB.out.nums
        have HVO := Lib.hid hvo; have HVC := Lib.hid hvc; have HVA := Lib.hid hva; clear hvo hvc hva
        go_wp2_with (first
          | (go_at_call 47; refine (zag_any f.n _ hfn).mono ?_; rintro e w' ⟨rfl, rfl⟩)
          | (at_builtin; refine apl1 (T := tI64) elemI64 wb wb rfl (.tmp 50) (.tmp 52) rfl w1.heap.size A3 m3 c3 p.l rfl Fv (fun _ => False) HVO.out (Below.refl _ _) (by omega) _ rfl [.int .i64 (zagI f.n)] (zagI f.n) ⟨rfl, hz⟩ 3 rfl (fun _ _ _ _ h => h) (by omega) ?_; intro A6 c6 w6 h6; obtain ⟨r1, _, _, _⟩ := HSB.out.rest (grown_trans (grown_alloc (grown_of_below (Below.refl _ _)) _) h6.grown) (fun b hb => (HSB.out.nums.lies hb).1); have d6' : w6.cell? ⟨w.heap.size, 6, none⟩ = some (.slice A3 m3 c3) := (by rw [Lib.cell_of_heap r1]; rfl); have e6' := Lib.frozen_of_heap r1 6; clear r1))
        go_roundw
        case rel => exact ⟨j + 1, b2, { p with l := p.l ++ [zagI f.n] }, w6.heap.size, _, A2, m2, c2, A6, m3 + 1, c6, by omega, by go_num, by omega, by omega, HSB.out.addN HVC.out HVA.out (fun _ h => h.elim) h6 ((Below.refl _ _).alloc (Nat.le_refl _) _), by rw [HNX.out, HS.out]⟩
        case measure => simp [intOf]; omega
      · have HS := Lib.hid (show nodeStep (b2, p) f = (b2, p) by simp [nodeStep, ← HT.out, h1, h2, h3, h4, h5])
        have m1 : (t == 1) = false := by simpa using h1
        have m2' : (t == 2) = false := by simpa using h2
        have m3' : (t == 3) = false := by simpa using h3
        have m4 : (t == 4) = false := by simpa using h4
        have m5 : (t == 5) = false := by simpa using h5
        clear h1 h2 h3 h4 h5
        go_wp2_with (go_at_call 47; refine (zag_any f.n _ hfn).mono ?_; rintro e w' ⟨rfl, rfl⟩)
        go_roundw
        case rel => exact ⟨j + 1, b2, p, S, col, A2, m2, c2, A3, m3, c3, by omega, by go_num, by omega, by omega, HSB.out, by rw [HNX.out, HS.out]⟩
        case measure => simp [intOf]; omega
    · obtain rfl : j = n1 := by omega
      have hfin : (b2, p) = (L.foldl nodeStep (b1, PP.zero)) := by rw [← HFO.out, List.take_of_length_le (by rw [← HN.out]; exact Nat.le_refl _)]
      have hre : ((bad || (rdNode l).1, (rdNode l).2) : Bool × PP) = (b2, p) := by
        rw [hfin, HLL.out, HBB.out, nodeFold_or]
        rfl
      have HRE := Lib.hid hre; clear hfin hre
      obtain ⟨d0, d1, d2, d3, d4, d5, d6⟩ := HST.out.cells
      have e0 := HST.out.free 0
      have e1 := HST.out.free 1
      have e2 := HST.out.free 2
      have e3 := HST.out.free 3
      have e4 := HST.out.free 4
      have e5 := HST.out.free 5
      have e6 := HST.out.free 6
      have HHP := Lib.hid HST.out.heap
      go_wp2_with fail
      refine bodyPost_ret (results_cell_row rfl _ _ w.heap.size 55 (pcells p A2 m2 c2 A3 m3 c3) (0, 0) _ rfl (by have hk := HHP.out; (repeat (first | with_reducible exact hk | with_reducible apply heap_set)); all_goals rfl) Tryz.underlying55 rfl (by kernel_rfl)) rfl ?_
      obtain ⟨hr1, hr2⟩ := Prod.mk.inj HRE.out
      have k1 := HST.out.op
      have k2 := HST.out.clm
      have k3 := HST.out.vok
      have hX := ((((((HST.out.put (j := 0) (p2 := p) rfl rfl rfl k1 k2 k3).put (j := 1) (p2 := p) rfl rfl rfl k1 k2 k3).put (j := 2) (p2 := p) rfl rfl rfl k1 k2 k3).put (j := 3) (p2 := p) rfl rfl rfl k1 k2 k3).put (j := 4) (p2 := p) rfl rfl rfl k1 k2 k3).put (j := 5) (p2 := p) rfl rfl rfl k1 k2 k3).put (j := 6) (p2 := p) rfl rfl rfl k1 k2 k3
      unfold NdPost
      rw [hr1, hr2]
      exact ⟨A2, m2, c2, A3, m3, c3, rfl, hX.gr, hX.rd, A2, m2, c2, A3, m3, c3, rfl, k1, k2, k3, hX.vals.sl.weaken (fun b hb _ => by omega), hX.nums.sl.weaken (fun b hb _ => by omega)⟩
end Go.Proofs.YtojenpjafgfpaaaGreatDoor
