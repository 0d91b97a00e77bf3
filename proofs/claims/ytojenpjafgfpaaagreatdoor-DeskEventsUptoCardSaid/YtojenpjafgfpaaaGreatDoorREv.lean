/- The reference 32: TakeEvent. (Printed by gen_rev.py.) -/
import Derived.Test.YtojenpjafgfpaaaGreatDoorREv0
namespace Go.Proofs.YtojenpjafgfpaaaGreatDoor
open Go Go.RowKit
attribute [local go_sem ↓] Go.wp_at_zero Go.wp_at_succ

theorem ty_drew {α : Type} (T : Ty α) {F : Nat → Prop} {w : World} {cs : List Value} {x : α} (h : T.rep F w cs x) : T.rep F w.drew cs x := T.keep h (Nat.le_refl _) fun _ _ _ => rfl
theorem rputEvent_e (x : EE) (Z0 : Option Addr) (y0 v0 : Nat) (Z1 : Option Addr) (y1 v1 : Nat) (Z2 : Option Addr) (y2 v2 : Nat) (Z3 : Option Addr) (y3 v3 : Nat) (Z4 : Option Addr) (y4 v4 : Nat) (F : Nat → Prop) (w : World) (h : tEE.rep F w (ecellsL x Z0 y0 v0 Z1 y1 v1 Z2 y2 v2 Z3 y3 v3 Z4 y4 v4) x) (hl : evLen x ≤ 4294967000) (p : List UInt8) (hp : p = putEvent x) :
    Calls Tryz.prog 11 #[.agg #[.int .i64 x.kind, .int .i64 x.id, .int .i64 x.n, .int .i64 x.m, .slice Z0 y0 v0, .slice Z1 y1 v1, .int .i64 x.list.high, .slice Z2 y2 v2, .slice Z3 y3 v3, .slice Z4 y4 v4]] w (Own1 w p) := by subst hp; exact rputEvent_any x F _ w h hl

set_option maxRecDepth 100000 in
set_option maxHeartbeats 16000000 in
theorem rtakeEv_any (F : Nat → Prop) (A : Option Addr) (n c : Nat) (l : List UInt8) (w : World) (h : Bs F w A n c l) (hn : n ≤ 2097152) :
    Calls Tryz.prog 8 #[.slice A n c] w (TePost l w) := by
  have HL := Lib.hid h.len
  have HH := Lib.hid h
  clear h
  cases hT : wtake l with
  | none =>
    have HN := Lib.hid (show takeEvent l = none by rw [← rtakeEvent_eq l (fun L h => by rw [hT] at h; cases h)]; unfold rtakeEvent; rw [hT])
    have HT := Lib.hid hT; clear hT
    go_enter Tryz.func8, Tryz.ntmps8
    go_upto_region 3 with (first
      | (go_at_call 19; refine (rwtake_none F A n c l _ (HH.out.alloc _) (by omega) HT.out).mono ?_; rintro e w1 ⟨A1, n1, c1, rfl, hb1, hs1⟩; have HB1 := Lib.hid hb1; clear hb1 hs1)
      | fail)
    have HB2 := Lib.hid (((Below.refl _ w).alloc (Nat.le_refl _) _).trans (HB1.out.mono (by simp)))
    have HBK := Lib.hid (show w1.heap[w.heap.size]? = some (.cells #[.int .i64 0, .int .i64 0, .int .i64 0, .int .i64 0, .slice none 0 0, .slice none 0 0, .int .i64 0, .slice none 0 0, .slice none 0 0, .slice none 0 0] 29 (0, 0)) from (HB1.out.block _ (by simp)).trans (heap_alloc_new w _))
    have z0 : w1.cell? ⟨w.heap.size, 0, none⟩ = some (.int .i64 0) := (by rw [Lib.cell_of_heap HBK.out]; rfl)
    have z1 : w1.cell? ⟨w.heap.size, 1, none⟩ = some (.int .i64 0) := (by rw [Lib.cell_of_heap HBK.out]; rfl)
    have z2 : w1.cell? ⟨w.heap.size, 2, none⟩ = some (.int .i64 0) := (by rw [Lib.cell_of_heap HBK.out]; rfl)
    have z3 : w1.cell? ⟨w.heap.size, 3, none⟩ = some (.int .i64 0) := (by rw [Lib.cell_of_heap HBK.out]; rfl)
    have z4 : w1.cell? ⟨w.heap.size, 4, none⟩ = some (.slice none 0 0) := (by rw [Lib.cell_of_heap HBK.out]; rfl)
    have z5 : w1.cell? ⟨w.heap.size, 5, none⟩ = some (.slice none 0 0) := (by rw [Lib.cell_of_heap HBK.out]; rfl)
    have z6 : w1.cell? ⟨w.heap.size, 6, none⟩ = some (.int .i64 0) := (by rw [Lib.cell_of_heap HBK.out]; rfl)
    have z7 : w1.cell? ⟨w.heap.size, 7, none⟩ = some (.slice none 0 0) := (by rw [Lib.cell_of_heap HBK.out]; rfl)
    have z8 : w1.cell? ⟨w.heap.size, 8, none⟩ = some (.slice none 0 0) := (by rw [Lib.cell_of_heap HBK.out]; rfl)
    have z9 : w1.cell? ⟨w.heap.size, 9, none⟩ = some (.slice none 0 0) := (by rw [Lib.cell_of_heap HBK.out]; rfl)
    have u0 := Lib.frozen_of_heap HBK.out 0
    have u1 := Lib.frozen_of_heap HBK.out 1
    have u2 := Lib.frozen_of_heap HBK.out 2
    have u3 := Lib.frozen_of_heap HBK.out 3
    have u4 := Lib.frozen_of_heap HBK.out 4
    have u5 := Lib.frozen_of_heap HBK.out 5
    have u6 := Lib.frozen_of_heap HBK.out 6
    have u7 := Lib.frozen_of_heap HBK.out 7
    have u8 := Lib.frozen_of_heap HBK.out 8
    have u9 := Lib.frozen_of_heap HBK.out 9
    go_wp2_with fail
    refine bodyPost_ret (results_row2 rfl _ _ w.heap.size 29 #[.int .i64 0, .int .i64 0, .int .i64 0, .int .i64 0, .slice none 0 0, .slice none 0 0, .int .i64 0, .slice none 0 0, .slice none 0 0, .slice none 0 0] (0, 0) _ rfl (heap_set10 HBK.out) Tryz.underlying29 rfl (by kernel_rfl)) rfl ?_
    unfold TePost tkEv
    rw [HN.out]
    exact ⟨_, rfl, below_set10 HB2.out (Nat.le_refl _), rep_zero _ _⟩
  | some L =>
    have hLL : L = (rdFields l).2 := by simp [rdFields, hT]
    have hcount : L.length ≤ 4294967296 := by rw [hLL]; exact rdFields_count (by have := HL.out; omega)
    have hmem : ∀ f ∈ L, f.b.length ≤ 4294967000 := fun f hf => Nat.le_trans (rdFields_mem (l := l) (by rw [← hLL]; exact hf)) (by have := HL.out; omega)
    have hevl : evLen (rdEvent false L).2 ≤ 4294967000 := by
      have := rdEvent_len l false
      rw [← hLL] at this
      have := HL.out
      omega
    have HM := Lib.hid hmem; have HEL := Lib.hid hevl; have HT := Lib.hid hT
    clear hT hLL hmem hevl
    go_enter Tryz.func8, Tryz.ntmps8
    go_wp2_with (first
      | (go_at_call 19; refine (rwtake_some F A n c l L _ (HH.out.alloc _) (by omega) HT.out).mono ?_; rintro e w1 ⟨A1, n1, c1, rfl, hb1, hs1⟩; have HB1 := Lib.hid hb1; have HS1 := Lib.hid hs1; clear hb1 hs1)
      | fail)
    have hsz1 : w.heap.size + 1 ≤ w1.heap.size := by have := HB1.out.size; simpa using this
    have hb0 : Below w.heap.size w w1 := ((Below.refl _ w).alloc (Nat.le_refl _) _).trans (HB1.out.mono (by simp))
    have hst : EvQ w w1.heap.size (w1.heap.size + 1) EE.zero (fun _ => 0) none 0 0 none 0 0 none 0 0 none 0 0 none 0 0 A1 n1 c1 L (w1.alloc (.cells #[.int .i64 0, .int .i64 0, .int .i64 0, .int .i64 0, .slice none 0 0, .slice none 0 0, .int .i64 0, .slice none 0 0, .slice none 0 0, .slice none 0 0] 29)) :=
      ⟨heap_alloc_new w1 _, heap_allocd ((HB1.out.block _ (by simp)).trans (heap_alloc_new w _)) _, Col.nil_ _ _ _ _ _ _ _, Col.nil_ _ _ _ _ _ _ _, Col.nil_ _ _ _ _ _ _ _, Col.nil_ _ _ _ _ _ _ _, Col.nil_ _ _ _ _ _ _ _, hb0.alloc (by omega) _,
        (HS1.out.weaken (F' := fun b => w.heap.size < b ∧ b < w1.heap.size) fun b hb hl => ⟨by simp at hb; omega, hl⟩).alloc _, ⟨by unfold i64; decide, by unfold i64; decide, by unfold i64; decide, by unfold i64; decide, by unfold i64; decide⟩, by omega, by omega, by simp⟩
    have HST := Lib.hid hst; clear hst hb0
    have HN := Lib.hid HS1.out.len
    have hn1 : n1 ≤ 4294967296 := by rw [HN.out]; exact hcount
    go_loopw [7] (fun i wr => ∃ (j : Nat) (b2 : Bool) (x : EE) (S : Nat) (col : Nat → Nat) (Z0 : Option Addr) (y0 v0 : Nat) (Z1 : Option Addr) (y1 v1 : Nat) (Z2 : Option Addr) (y2 v2 : Nat) (Z3 : Option Addr) (y3 v3 : Nat) (Z4 : Option Addr) (y4 v4 : Nat), j ≤ n1 ∧ i = .int .i64 j ∧ y0 ≤ j ∧ y1 ≤ j ∧ y2 ≤ j ∧ y3 ≤ j ∧ y4 ≤ j ∧ EvQ w w1.heap.size S x col Z0 y0 v0 Z1 y1 v1 Z2 y2 v2 Z3 y3 v3 Z4 y4 v4 A1 n1 c1 L wr ∧ (L.take j).foldl eventStep (false, EE.zero) = (b2, x))
      (fun i _ => n1 - (intOf i).toNat)
    case atStart => exact ⟨0, false, EE.zero, w1.heap.size + 1, _, none, 0, 0, none, 0, 0, none, 0, 0, none, 0, 0, none, 0, 0, Nat.zero_le _, rfl, Nat.le_refl _, Nat.le_refl _, Nat.le_refl _, Nat.le_refl _, Nat.le_refl _, HST.out, rfl⟩
    case round =>
      clear HST HS1 HB1
      obtain ⟨j, b2, x, S, col, Z0, y0, v0, Z1, y1, v1, Z2, y2, v2, Z3, y3, v3, Z4, y4, v4, hj, rfl, hy0, hy1, hy2, hy3, hy4, hst, hfold⟩ := hrel
      obtain ⟨wb, rfl⟩ : ∃ wb : World, wb = wr := ⟨_, rfl⟩
      have HFO := Lib.hid hfold; clear hfold
      have HSB := Lib.hid hst; clear hst
      have q1 := HSB.out.hg; have q3 := HSB.out.hP; have q5 := HSB.out.hS
      have d0 : wb.cell? ⟨w1.heap.size, 0, none⟩ = some (.int .i64 x.kind) := HSB.out.cell rfl
      have d1 : wb.cell? ⟨w1.heap.size, 1, none⟩ = some (.int .i64 x.id) := HSB.out.cell rfl
      have d2 : wb.cell? ⟨w1.heap.size, 2, none⟩ = some (.int .i64 x.n) := HSB.out.cell rfl
      have d3 : wb.cell? ⟨w1.heap.size, 3, none⟩ = some (.int .i64 x.m) := HSB.out.cell rfl
      have d4 : wb.cell? ⟨w1.heap.size, 4, none⟩ = some (.slice Z0 y0 v0) := HSB.out.cell rfl
      have d5 : wb.cell? ⟨w1.heap.size, 5, none⟩ = some (.slice Z1 y1 v1) := HSB.out.cell rfl
      have d6 : wb.cell? ⟨w1.heap.size, 6, none⟩ = some (.int .i64 x.list.high) := HSB.out.cell rfl
      have d7 : wb.cell? ⟨w1.heap.size, 7, none⟩ = some (.slice Z2 y2 v2) := HSB.out.cell rfl
      have d8 : wb.cell? ⟨w1.heap.size, 8, none⟩ = some (.slice Z3 y3 v3) := HSB.out.cell rfl
      have d9 : wb.cell? ⟨w1.heap.size, 9, none⟩ = some (.slice Z4 y4 v4) := HSB.out.cell rfl
      by_cases hlt2 : j < n1
      · have hjl : j < L.length := by rw [← HN.out]; exact hlt2
        obtain ⟨b, o, cs, rfl, hb, hbl, hrep, hc⟩ := HSB.out.fl.at_ hjl (by decide)
        obtain ⟨f, hf⟩ : ∃ f, f = L[j] := ⟨_, rfl⟩
        have hnext := foldl_take eventStep (false, EE.zero) L j hjl
        rw [HFO.out, ← hf] at hnext
        rw [← hf] at hrep
        obtain ⟨A4, n4, c4, rfl, hftag, hfn, hfb⟩ := hrep
        obtain ⟨g0, g1, g2, g3⟩ := cells4 hc
        have hfm : f ∈ L := by rw [hf]; exact List.getElem_mem hjl
        clear hc hf g1
        have hn4 : n4 ≤ 4294967000 := by rw [hfb.len]; exact HM.out f hfm
        have HFB := Lib.hid hfb; clear hfb
        have hz := zagI_bd f.n hfn
        obtain ⟨t, ht⟩ : ∃ t, t = f.tag := ⟨_, rfl⟩
        rw [← ht] at g0 hftag
        have HT2 := Lib.hid ht; clear ht
        have HNX := Lib.hid hnext; clear hnext hb hbl
        have e0 := HSB.out.free 0
        have e1 := HSB.out.free 1
        have e2 := HSB.out.free 2
        have e3 := HSB.out.free 3
        have e4 := HSB.out.free 4
        have e5 := HSB.out.free 5
        have e6 := HSB.out.free 6
        have e7 := HSB.out.free 7
        have e8 := HSB.out.free 8
        have e9 := HSB.out.free 9
        have M := Lib.hid HSB.out.nums
        by_cases h1 : t = 1
        · subst h1
          have HS := Lib.hid (show eventStep (b2, x) f = (b2, { x with kind := zagI f.n }) by simp [eventStep, ← HT2.out])
          go_wp2_with (go_at_call 20; refine (rzag_any f.n _ hfn).mono ?_; rintro e w' ⟨rfl, rfl⟩)
          go_roundw
          case rel => exact ⟨j + 1, b2, { x with kind := zagI f.n }, S, col, Z0, y0, v0, Z1, y1, v1, Z2, y2, v2, Z3, y3, v3, Z4, y4, v4, by omega, by go_num, by omega, by omega, by omega, by omega, by omega, HSB.out.put (x2 := { x with kind := zagI f.n }) rfl rfl rfl rfl rfl rfl ⟨⟨hz.1, hz.2⟩, M.out.2.1, M.out.2.2.1, M.out.2.2.2.1, M.out.2.2.2.2⟩, by rw [HNX.out, HS.out]⟩
          case measure => simp [intOf]; omega
        by_cases h2 : t = 2
        · subst h2
          clear h1
          have HS := Lib.hid (show eventStep (b2, x) f = (b2, { x with id := zagI f.n }) by simp [eventStep, ← HT2.out])
          go_wp2_with (go_at_call 20; refine (rzag_any f.n _ hfn).mono ?_; rintro e w' ⟨rfl, rfl⟩)
          go_roundw
          case rel => exact ⟨j + 1, b2, { x with id := zagI f.n }, S, col, Z0, y0, v0, Z1, y1, v1, Z2, y2, v2, Z3, y3, v3, Z4, y4, v4, by omega, by go_num, by omega, by omega, by omega, by omega, by omega, HSB.out.put (x2 := { x with id := zagI f.n }) rfl rfl rfl rfl rfl rfl ⟨M.out.1, ⟨hz.1, hz.2⟩, M.out.2.2.1, M.out.2.2.2.1, M.out.2.2.2.2⟩, by rw [HNX.out, HS.out]⟩
          case measure => simp [intOf]; omega
        by_cases h3 : t = 3
        · subst h3
          clear h1 h2
          have HS := Lib.hid (show eventStep (b2, x) f = (b2, { x with n := zagI f.n }) by simp [eventStep, ← HT2.out])
          go_wp2_with (go_at_call 20; refine (rzag_any f.n _ hfn).mono ?_; rintro e w' ⟨rfl, rfl⟩)
          go_roundw
          case rel => exact ⟨j + 1, b2, { x with n := zagI f.n }, S, col, Z0, y0, v0, Z1, y1, v1, Z2, y2, v2, Z3, y3, v3, Z4, y4, v4, by omega, by go_num, by omega, by omega, by omega, by omega, by omega, HSB.out.put (x2 := { x with n := zagI f.n }) rfl rfl rfl rfl rfl rfl ⟨M.out.1, M.out.2.1, ⟨hz.1, hz.2⟩, M.out.2.2.2.1, M.out.2.2.2.2⟩, by rw [HNX.out, HS.out]⟩
          case measure => simp [intOf]; omega
        by_cases h4 : t = 4
        · subst h4
          clear h1 h2 h3
          have HS := Lib.hid (show eventStep (b2, x) f = (b2, { x with m := zagI f.n }) by simp [eventStep, ← HT2.out])
          go_wp2_with (go_at_call 20; refine (rzag_any f.n _ hfn).mono ?_; rintro e w' ⟨rfl, rfl⟩)
          go_roundw
          case rel => exact ⟨j + 1, b2, { x with m := zagI f.n }, S, col, Z0, y0, v0, Z1, y1, v1, Z2, y2, v2, Z3, y3, v3, Z4, y4, v4, by omega, by go_num, by omega, by omega, by omega, by omega, by omega, HSB.out.put (x2 := { x with m := zagI f.n }) rfl rfl rfl rfl rfl rfl ⟨M.out.1, M.out.2.1, M.out.2.2.1, ⟨hz.1, hz.2⟩, M.out.2.2.2.2⟩, by rw [HNX.out, HS.out]⟩
          case measure => simp [intOf]; omega
        by_cases h5 : t = 5
        · subst h5
          clear h1 h2 h3 h4
          obtain ⟨rv, hrv⟩ : ∃ rv : Bool × List VV, rv = rdRow f.b := ⟨_, rfl⟩
          have HRV := Lib.hid hrv; clear hrv
          have HS := Lib.hid (show eventStep (b2, x) f = (b2 || rv.1, { x with rows := x.rows ++ [rv.2] }) by simp [eventStep, ← HT2.out, ← HRV.out])
          go_wp2_with (go_at_call 20; refine (rzag_any f.n _ hfn).mono ?_; rintro e w' ⟨rfl, rfl⟩)
          go_region_law (first
            | (refine step_callee1 rfl 21 Tryz.func21 (by kernel_rfl) (by kernel_rfl) (.tmp 59) _ rfl (.slice A4 n4 c4) rfl (rrow_any _ A4 n4 c4 f.b _ HFB.out.drew hn4 (congrArg Prod.snd HRV.out)) ?_; rintro e w2 ⟨A5, n5, c5, rfl, hb2, hvok⟩; have H2 := Lib.hid (HSB.out.drew.below hb2); have d4' : w2.cell? ⟨w1.heap.size, 4, none⟩ = some (.slice Z0 y0 v0) := H2.out.cell rfl; have e4' := H2.out.free 4; have HOK := Lib.hid hvok; have g3' := kcell (W := wb.drew) hb2 g3; have hq5 : S ≤ w2.heap.size := H2.out.hS; have d4x := kcell ((Below.refl _ w2).alloc (Nat.le_refl _) (.cells #[.slice A5 n5 c5] 51)) d4'; obtain ⟨Fv, hvo, hvc, hva⟩ := H2.out.rows; have HVO := Lib.hid hvo; have HVC := Lib.hid hvc; have HVA := Lib.hid hva; clear hb2 hvok hvo hvc hva; refine ⟨_, rfl, ?_⟩)
            | (have _hq := hq5; refine step_apl1 (T := (tSl tVV)) elemRw w2 w2 rfl (.tmp 54) (.tmp 61) rfl (w1.heap.size + 1) Z0 y0 v0 x.rows rfl Fv (fun b => wb.drew.heap.size ≤ b) HVO.out (Below.refl _ _) (by omega) _ rfl [.slice A5 n5 c5] rv.2 ⟨A5, n5, c5, rfl, HOK.out⟩ 51 rfl (fun b hb _ _ h => by have h5 : wb.heap.size ≤ b := h; have h6 : b < S := (HVA.out b (by rw [hb]; rfl)).1; omega) (by omega) ?_; intro A6 c6 w6 h6; have hgr6 := grown_trans (grown_alloc (grown_of_below (Below.refl _ w2)) _) h6.grown; obtain ⟨r1, _, _, _⟩ := H2.out.rest hgr6 (fun b hb => (H2.out.rows.lies hb).1); have d4'' : w6.cell? ⟨w1.heap.size, 4, none⟩ = some (.slice Z0 y0 v0) := (by rw [Lib.cell_of_heap r1]; rfl); have e4'' := Lib.frozen_of_heap r1 4; clear r1 hgr6)
            | fail)
          all_goals
            go_wp2_with fail
            go_roundw
            case rel => exact ⟨j + 1, b2 || rv.1, { x with rows := x.rows ++ [rv.2] }, w6.heap.size, _, A6, y0 + 1, c6, Z1, y1, v1, Z2, y2, v2, Z3, y3, v3, Z4, y4, v4, by omega, by go_num, by omega, by omega, by omega, by omega, by omega, H2.out.addRw HVC.out HVA.out (fun _ h => Nat.le_trans q5 h) h6 ((Below.refl _ _).alloc (Nat.le_refl _) _), by rw [HNX.out, HS.out]⟩
            case measure => simp [intOf]; omega
        by_cases h6 : t = 6
        · subst h6
          clear h1 h2 h3 h4 h5
          obtain ⟨rv, hrv⟩ : ∃ rv : Bool × KK, rv = rdKey f.b := ⟨_, rfl⟩
          have HRV := Lib.hid hrv; clear hrv
          have HS := Lib.hid (show eventStep (b2, x) f = (b2 || rv.1, { x with keys := x.keys ++ [rv.2] }) by simp [eventStep, ← HT2.out, ← HRV.out])
          go_wp2_with (go_at_call 20; refine (rzag_any f.n _ hfn).mono ?_; rintro e w' ⟨rfl, rfl⟩)
          go_region_law (first
            | (refine step_callee1 rfl 22 Tryz.func22 (by kernel_rfl) (by kernel_rfl) (.tmp 72) _ rfl (.slice A4 n4 c4) rfl (rkeyR_any _ A4 n4 c4 f.b _ HFB.out.drew hn4 (congrArg Prod.snd HRV.out)) ?_; rintro e w2 ⟨rfl, hb2, hvok⟩; have H2 := Lib.hid (HSB.out.drew.below hb2); have d5' : w2.cell? ⟨w1.heap.size, 5, none⟩ = some (.slice Z1 y1 v1) := H2.out.cell rfl; have e5' := H2.out.free 5; have HOK := Lib.hid hvok; have g3' := kcell (W := wb.drew) hb2 g3; have hq5 : S ≤ w2.heap.size := H2.out.hS; have d5x := kcell ((Below.refl _ w2).alloc (Nat.le_refl _) (.cells #[.int .i64 rv.2.id, .int .i64 rv.2.bucket, .int .i64 rv.2.row] 71)) d5'; obtain ⟨Fv, hvo, hvc, hva⟩ := H2.out.keys; have HVO := Lib.hid hvo; have HVC := Lib.hid hvc; have HVA := Lib.hid hva; clear hb2 hvok hvo hvc hva; refine ⟨_, rfl, ?_⟩)
            | (have _hq := hq5; refine step_apl1 (T := tKK) elemKK w2 w2 rfl (.tmp 67) (.tmp 74) rfl (w1.heap.size + 1) Z1 y1 v1 x.keys rfl Fv (fun _ => False) HVO.out (Below.refl _ _) (by omega) _ rfl [.int .i64 rv.2.id, .int .i64 rv.2.bucket, .int .i64 rv.2.row] rv.2 ⟨rfl, HOK.out⟩ 71 rfl (fun _ _ _ _ h => h) (by omega) ?_; intro A6 c6 w6 h6; have hgr6 := grown_trans (grown_alloc (grown_of_below (Below.refl _ w2)) _) h6.grown; obtain ⟨r1, _, _, _⟩ := H2.out.rest hgr6 (fun b hb => (H2.out.keys.lies hb).1); have d5'' : w6.cell? ⟨w1.heap.size, 5, none⟩ = some (.slice Z1 y1 v1) := (by rw [Lib.cell_of_heap r1]; rfl); have e5'' := Lib.frozen_of_heap r1 5; clear r1 hgr6)
            | fail)
          all_goals
            go_wp2_with fail
            go_roundw
            case rel => exact ⟨j + 1, b2 || rv.1, { x with keys := x.keys ++ [rv.2] }, w6.heap.size, _, Z0, y0, v0, A6, y1 + 1, c6, Z2, y2, v2, Z3, y3, v3, Z4, y4, v4, by omega, by go_num, by omega, by omega, by omega, by omega, by omega, H2.out.addKy HVC.out HVA.out (fun _ h => h.elim) h6 ((Below.refl _ _).alloc (Nat.le_refl _) _), by rw [HNX.out, HS.out]⟩
            case measure => simp [intOf]; omega
        by_cases h7 : t = 7
        · subst h7
          clear h1 h2 h3 h4 h5 h6
          have HS := Lib.hid (show eventStep (b2, x) f = (b2, { x with list := { x.list with high := zagI f.n } }) by simp [eventStep, ← HT2.out])
          go_wp2_with (go_at_call 20; refine (rzag_any f.n _ hfn).mono ?_; rintro e w' ⟨rfl, rfl⟩)
          go_roundw
          case rel => exact ⟨j + 1, b2, { x with list := { x.list with high := zagI f.n } }, S, col, Z0, y0, v0, Z1, y1, v1, Z2, y2, v2, Z3, y3, v3, Z4, y4, v4, by omega, by go_num, by omega, by omega, by omega, by omega, by omega, HSB.out.put (x2 := { x with list := { x.list with high := zagI f.n } }) rfl rfl rfl rfl rfl rfl ⟨M.out.1, M.out.2.1, M.out.2.2.1, M.out.2.2.2.1, ⟨hz.1, hz.2⟩⟩, by rw [HNX.out, HS.out]⟩
          case measure => simp [intOf]; omega
        by_cases h8 : t = 8
        · subst h8
          clear h1 h2 h3 h4 h5 h6 h7
          have HS := Lib.hid (show eventStep (b2, x) f = (b2, { x with list := { x.list with except := x.list.except ++ [zagI f.n] } }) by simp [eventStep, ← HT2.out])
          obtain ⟨Fv, hvo, hvc, hva⟩ := HSB.out.exc
          have HVO := Lib.hid hvo; have HVC := Lib.hid hvc; have HVA := Lib.hid hva; clear hvo hvc hva
          go_wp2_with (first
          | (go_at_call 20; refine (rzag_any f.n _ hfn).mono ?_; rintro e w' ⟨rfl, rfl⟩)
          | (at_builtin; refine apl1 (T := tI64) elemI64 wb wb rfl (.tmp 86) (.tmp 88) rfl (w1.heap.size + 1) Z2 y2 v2 x.list.except rfl Fv (fun _ => False) HVO.out (Below.refl _ _) (by omega) _ rfl [.int .i64 (zagI f.n)] (zagI f.n) ⟨rfl, hz⟩ 3 rfl (fun _ _ _ _ h => h) (by omega) ?_; intro A6 c6 w6 h6; obtain ⟨r1, _, _, _⟩ := HSB.out.rest (grown_trans (grown_alloc (grown_of_below (Below.refl _ _)) _) h6.grown) (fun b hb => (HSB.out.exc.lies hb).1); have d7' : w6.cell? ⟨w1.heap.size, 7, none⟩ = some (.slice Z2 y2 v2) := (by rw [Lib.cell_of_heap r1]; rfl); have e7' := Lib.frozen_of_heap r1 7; clear r1)
          | fail)
          go_roundw
          case rel => exact ⟨j + 1, b2, { x with list := { x.list with except := x.list.except ++ [zagI f.n] } }, w6.heap.size, _, Z0, y0, v0, Z1, y1, v1, A6, y2 + 1, c6, Z3, y3, v3, Z4, y4, v4, by omega, by go_num, by omega, by omega, by omega, by omega, by omega, HSB.out.addEx HVC.out HVA.out (fun _ h => h.elim) h6 ((Below.refl _ _).alloc (Nat.le_refl _) _), by rw [HNX.out, HS.out]⟩
          case measure => simp [intOf]; omega
        by_cases h9 : t = 9
        · subst h9
          clear h1 h2 h3 h4 h5 h6 h7 h8
          have HS := Lib.hid (show eventStep (b2, x) f = (b2, { x with cols := x.cols ++ [zagI f.n] }) by simp [eventStep, ← HT2.out])
          obtain ⟨Fv, hvo, hvc, hva⟩ := HSB.out.cols
          have HVO := Lib.hid hvo; have HVC := Lib.hid hvc; have HVA := Lib.hid hva; clear hvo hvc hva
          go_wp2_with (first
          | (go_at_call 20; refine (rzag_any f.n _ hfn).mono ?_; rintro e w' ⟨rfl, rfl⟩)
          | (at_builtin; refine apl1 (T := tI64) elemI64 wb wb rfl (.tmp 95) (.tmp 97) rfl (w1.heap.size + 1) Z3 y3 v3 x.cols rfl Fv (fun _ => False) HVO.out (Below.refl _ _) (by omega) _ rfl [.int .i64 (zagI f.n)] (zagI f.n) ⟨rfl, hz⟩ 3 rfl (fun _ _ _ _ h => h) (by omega) ?_; intro A6 c6 w6 h6; obtain ⟨r1, _, _, _⟩ := HSB.out.rest (grown_trans (grown_alloc (grown_of_below (Below.refl _ _)) _) h6.grown) (fun b hb => (HSB.out.cols.lies hb).1); have d8' : w6.cell? ⟨w1.heap.size, 8, none⟩ = some (.slice Z3 y3 v3) := (by rw [Lib.cell_of_heap r1]; rfl); have e8' := Lib.frozen_of_heap r1 8; clear r1)
          | fail)
          go_roundw
          case rel => exact ⟨j + 1, b2, { x with cols := x.cols ++ [zagI f.n] }, w6.heap.size, _, Z0, y0, v0, Z1, y1, v1, Z2, y2, v2, A6, y3 + 1, c6, Z4, y4, v4, by omega, by go_num, by omega, by omega, by omega, by omega, by omega, HSB.out.addCl HVC.out HVA.out (fun _ h => h.elim) h6 ((Below.refl _ _).alloc (Nat.le_refl _) _), by rw [HNX.out, HS.out]⟩
          case measure => simp [intOf]; omega
        by_cases h10 : t = 10
        · subst h10
          clear h1 h2 h3 h4 h5 h6 h7 h8 h9
          obtain ⟨rv, hrv⟩ : ∃ rv : Bool × PP, rv = rdNode f.b := ⟨_, rfl⟩
          have HRV := Lib.hid hrv; clear hrv
          have HS := Lib.hid (show eventStep (b2, x) f = (b2 || rv.1, { x with pred := x.pred ++ [rv.2] }) by simp [eventStep, ← HT2.out, ← HRV.out])
          go_wp2_with (go_at_call 20; refine (rzag_any f.n _ hfn).mono ?_; rintro e w' ⟨rfl, rfl⟩)
          go_region_law (first
            | (refine step_callee1 rfl 23 Tryz.func23 (by kernel_rfl) (by kernel_rfl) (.tmp 108) _ rfl (.slice A4 n4 c4) rfl (rasked_any _ A4 n4 c4 f.b _ HFB.out.drew hn4 (congrArg Prod.snd HRV.out)) ?_; rintro e w2 ⟨A2, m2, c2, A3, m3, c3, rfl, hb2, hvok⟩; have H2 := Lib.hid (HSB.out.drew.below hb2); have d9' : w2.cell? ⟨w1.heap.size, 9, none⟩ = some (.slice Z4 y4 v4) := H2.out.cell rfl; have e9' := H2.out.free 9; have HOK := Lib.hid hvok; have g3' := kcell (W := wb.drew) hb2 g3; have hq5 : S ≤ w2.heap.size := H2.out.hS; have d9x := kcell ((Below.refl _ w2).alloc (Nat.le_refl _) (.cells #[.int .i64 rv.2.op, .int .i64 rv.2.col, .bool rv.2.v.null, .int .i64 rv.2.v.n, .string rv.2.v.s, .slice A2 m2 c2, .slice A3 m3 c3] 55)) d9'; obtain ⟨Fv, hvo, hvc, hva⟩ := H2.out.pred; have HVO := Lib.hid hvo; have HVC := Lib.hid hvc; have HVA := Lib.hid hva; clear hb2 hvok hvo hvc hva; refine ⟨_, rfl, ?_⟩)
            | (have _hq := hq5; refine step_apl1 (T := tPP) elemPP w2 w2 rfl (.tmp 103) (.tmp 110) rfl (w1.heap.size + 1) Z4 y4 v4 x.pred rfl Fv (fun b => wb.drew.heap.size ≤ b) HVO.out (Below.refl _ _) (by omega) _ rfl [.int .i64 rv.2.op, .int .i64 rv.2.col, .bool rv.2.v.null, .int .i64 rv.2.v.n, .string rv.2.v.s, .slice A2 m2 c2, .slice A3 m3 c3] rv.2 HOK.out 55 rfl (fun b hb _ _ h => by have h5 : wb.heap.size ≤ b := h; have h6 : b < S := (HVA.out b (by rw [hb]; rfl)).1; omega) (by omega) ?_; intro A6 c6 w6 h6; have hgr6 := grown_trans (grown_alloc (grown_of_below (Below.refl _ w2)) _) h6.grown; obtain ⟨r1, _, _, _⟩ := H2.out.rest hgr6 (fun b hb => (H2.out.pred.lies hb).1); have d9'' : w6.cell? ⟨w1.heap.size, 9, none⟩ = some (.slice Z4 y4 v4) := (by rw [Lib.cell_of_heap r1]; rfl); have e9'' := Lib.frozen_of_heap r1 9; clear r1 hgr6)
            | fail)
          all_goals
            go_wp2_with fail
            go_roundw
            case rel => exact ⟨j + 1, b2 || rv.1, { x with pred := x.pred ++ [rv.2] }, w6.heap.size, _, Z0, y0, v0, Z1, y1, v1, Z2, y2, v2, Z3, y3, v3, A6, y4 + 1, c6, by omega, by go_num, by omega, by omega, by omega, by omega, by omega, H2.out.addPr HVC.out HVA.out (fun _ h => Nat.le_trans q5 h) h6 ((Below.refl _ _).alloc (Nat.le_refl _) _), by rw [HNX.out, HS.out]⟩
            case measure => simp [intOf]; omega
        · have HS := Lib.hid (show eventStep (b2, x) f = (b2, x) by simp [eventStep, ← HT2.out, h1, h2, h3, h4, h5, h6, h7, h8, h9, h10])
          have n1' : (t == 1) = false := by simpa using h1
          have n2' : (t == 2) = false := by simpa using h2
          have n3' : (t == 3) = false := by simpa using h3
          have n4' : (t == 4) = false := by simpa using h4
          have n5' : (t == 5) = false := by simpa using h5
          have n6' : (t == 6) = false := by simpa using h6
          have n7' : (t == 7) = false := by simpa using h7
          have n8' : (t == 8) = false := by simpa using h8
          have n9' : (t == 9) = false := by simpa using h9
          have n10' : (t == 10) = false := by simpa using h10
          clear h1 h2 h3 h4 h5 h6 h7 h8 h9 h10
          go_wp2_with (go_at_call 20; refine (rzag_any f.n _ hfn).mono ?_; rintro e w' ⟨rfl, rfl⟩)
          go_roundw
          case rel => exact ⟨j + 1, b2, x, S, col, Z0, y0, v0, Z1, y1, v1, Z2, y2, v2, Z3, y3, v3, Z4, y4, v4, by omega, by go_num, by omega, by omega, by omega, by omega, by omega, HSB.out, by rw [HNX.out, HS.out]⟩
          case measure => simp [intOf]; omega
      · obtain rfl : j = n1 := by omega
        have hx : (rdEvent false L).2 = x := by
          have := HFO.out
          rw [List.take_of_length_le (by rw [← HN.out]; exact Nat.le_refl _)] at this
          unfold rdEvent; rw [this]
        have hrep := HSB.out.rep
        have hEX : evLen x ≤ 4294967000 := by rw [← hx]; exact HEL.out
        have hrt : rtakeEvent l = takeEvent l := rtakeEvent_eq l fun L2 h2 => by
          rw [HT.out] at h2; injection h2 with h2; subst h2
          rw [hx]; exact ⟨ee_oks hrep, hEX⟩
        have hsrc : Bs F wb A n c l := HH.out.below HSB.out.gr (Nat.le_refl _)
        have hcv0 := run_bs hsrc
        have HREP := Lib.hid hrep; have HEX := Lib.hid hEX; have HSRC := Lib.hid hsrc; have HX := Lib.hid hx; have HRT := Lib.hid hrt
        clear hx hrep hEX hsrc hrt
        by_cases heq : putEvent x = l
        · have HEQ := Lib.hid heq.symm
          have HTV := Lib.hid (show takeEvent l = some x by rw [← HRT.out]; unfold rtakeEvent; rw [HT.out]; dsimp only; rw [HX.out, if_pos heq])
          clear heq
          go_wp2_with fail
          refine wp_region_held_drew (S := (fun w' => w'.cell? ⟨w1.heap.size, 0, none⟩ = some (.int .i64 x.kind) ∧ w'.cell? ⟨w1.heap.size, 1, none⟩ = some (.int .i64 x.id) ∧ w'.cell? ⟨w1.heap.size, 2, none⟩ = some (.int .i64 x.n) ∧ w'.cell? ⟨w1.heap.size, 3, none⟩ = some (.int .i64 x.m) ∧ w'.cell? ⟨w1.heap.size, 4, none⟩ = some (.slice Z0 y0 v0) ∧ w'.cell? ⟨w1.heap.size, 5, none⟩ = some (.slice Z1 y1 v1) ∧ w'.cell? ⟨w1.heap.size, 6, none⟩ = some (.int .i64 x.list.high) ∧ w'.cell? ⟨w1.heap.size, 7, none⟩ = some (.slice Z2 y2 v2) ∧ w'.cell? ⟨w1.heap.size, 8, none⟩ = some (.slice Z3 y3 v3) ∧ w'.cell? ⟨w1.heap.size, 9, none⟩ = some (.slice Z4 y4 v4) ∧ (convert 30 9 (.slice A n c)).run Tryz.prog w' = .ok (.string ⟨l.toArray⟩) w')) (by kernel_rfl) ?_ (fun hHeld => ?_)
          · ((try dsimp only); (first | exact ⟨d0, d1, d2, d3, d4, d5, d6, d7, d8, d9, run_bs HSRC.out.drew⟩ | exact ⟨kcell (W := wb.drew) hb4 d0, kcell (W := wb.drew) hb4 d1, kcell (W := wb.drew) hb4 d2, kcell (W := wb.drew) hb4 d3, kcell (W := wb.drew) hb4 d4, kcell (W := wb.drew) hb4 d5, kcell (W := wb.drew) hb4 d6, kcell (W := wb.drew) hb4 d7, kcell (W := wb.drew) hb4 d8, kcell (W := wb.drew) hb4 d9, run_bs (HSRC.out.drew.below hb4 (Nat.le_refl _))⟩ | go_keep))
          (refine wpAnyH_take (i := 0) (oi := ⟨_, _, _, _, _, _⟩) (v := ?_) rfl (by kernel_rfl) (by kernel_rfl) (by kernel_rfl) (fun _ _ _ h => h) (Or.inl ⟨by rfl, ?_⟩) (by assumption) ?_; rotate_left; · (intro w hSw; (try dsimp only at hSw); go_simp; try with_reducible rfl)); (try simp only [Act.put]); (try simp only [List.setIfInBounds_toArray]); (try simp only [List.set_cons_succ]); (try simp only [List.set_cons_zero])
          (refine wpAnyH_take (i := 3) (oi := ⟨_, _, _, _, _, _⟩) (v := ?_) rfl (by kernel_rfl) (by kernel_rfl) (by kernel_rfl) (fun _ _ _ h => h) (Or.inl ⟨by rfl, ?_⟩) (by assumption) ?_; rotate_left; · (intro w hSw; (try dsimp only at hSw); go_simp; try with_reducible rfl)); (try simp only [Act.put]); (try simp only [List.setIfInBounds_toArray]); (try simp only [List.set_cons_succ]); (try simp only [List.set_cons_zero])
          (refine wpAnyH_take (i := 4) (oi := ⟨_, _, _, _, _, _⟩) (v := ?_) rfl (by kernel_rfl) (by kernel_rfl) (by kernel_rfl) (fun _ _ _ h => h) (Or.inl ⟨by rfl, ?_⟩) (by assumption) ?_; rotate_left; · (intro w hSw; (try dsimp only at hSw); go_simp; try with_reducible rfl)); (try simp only [Act.put]); (try simp only [List.setIfInBounds_toArray]); (try simp only [List.set_cons_succ]); (try simp only [List.set_cons_zero])
          refine wpAnyH_ready (rs := [1]) (by kernel_rfl) (by simp) ?_
          refine AllReadyH.cons (o := ⟨_, _, _, _, _, _⟩) rfl (fun K hK => ?_) ?_
          · (go_simp; ((go_at_call 11; refine (rputEvent_e x Z0 y0 v0 Z1 y1 v1 Z2 y2 v2 Z3 y3 v3 Z4 y4 v4 _ _ (ty_drew tEE HREP.out) HEX.out l HEQ.out).mono ?_; rintro e w4 ⟨A5, n5, c5, rfl, hown4, hb4⟩; have hcv4 := run_bs hown4.bs)))
            refine hK.out _ _ ?_ (fun hHeld => ?_)
            · ((try dsimp only); (first | exact ⟨d0, d1, d2, d3, d4, d5, d6, d7, d8, d9, run_bs HSRC.out.drew⟩ | exact ⟨kcell (W := wb.drew) hb4 d0, kcell (W := wb.drew) hb4 d1, kcell (W := wb.drew) hb4 d2, kcell (W := wb.drew) hb4 d3, kcell (W := wb.drew) hb4 d4, kcell (W := wb.drew) hb4 d5, kcell (W := wb.drew) hb4 d6, kcell (W := wb.drew) hb4 d7, kcell (W := wb.drew) hb4 d8, kcell (W := wb.drew) hb4 d9, run_bs (HSRC.out.drew.below hb4 (Nat.le_refl _))⟩ | go_keep))
            clear hK K; (try simp only [Act.put]); (try simp only [List.setIfInBounds_toArray]); (try simp only [List.set_cons_succ]); (try simp only [List.set_cons_zero])
            refine wpAnyH_ready (rs := [2]) (by kernel_rfl) (by simp) ?_
            refine AllReadyH.cons (o := ⟨_, _, _, _, _, _⟩) rfl (fun K hK => ?_) ?_
            · go_simp
              refine hK.out _ _ ?_ (fun hHeld => ?_)
              · ((try dsimp only); (first | exact ⟨d0, d1, d2, d3, d4, d5, d6, d7, d8, d9, run_bs HSRC.out.drew⟩ | exact ⟨kcell (W := wb.drew) hb4 d0, kcell (W := wb.drew) hb4 d1, kcell (W := wb.drew) hb4 d2, kcell (W := wb.drew) hb4 d3, kcell (W := wb.drew) hb4 d4, kcell (W := wb.drew) hb4 d5, kcell (W := wb.drew) hb4 d6, kcell (W := wb.drew) hb4 d7, kcell (W := wb.drew) hb4 d8, kcell (W := wb.drew) hb4 d9, run_bs (HSRC.out.drew.below hb4 (Nat.le_refl _))⟩ | go_keep))
              clear hK K; (try simp only [Act.put]); (try simp only [List.setIfInBounds_toArray]); (try simp only [List.set_cons_succ]); (try simp only [List.set_cons_zero])
              (refine wpAnyH_take (i := 5) (oi := ⟨_, _, _, _, _, _⟩) (v := ?_) rfl (by kernel_rfl) (by kernel_rfl) (by kernel_rfl) (fun _ _ _ h => h) (Or.inl ⟨by rfl, ?_⟩) (by assumption) ?_; rotate_left; · (intro w hSw; (try dsimp only at hSw); go_simp; try with_reducible rfl)); (try simp only [Act.put]); (try simp only [List.setIfInBounds_toArray]); (try simp only [List.set_cons_succ]); (try simp only [List.set_cons_zero])
              refine wpAnyH_done (by kernel_rfl) ?_ _
              have hb4' : Below wb.heap.size wb w4 := (show Below wb.heap.size wb wb.drew from (Below.refl _ _).drew).trans hb4
              have HBK := Lib.hid (show w4.heap[w.heap.size]? = some (.cells #[.int .i64 0, .int .i64 0, .int .i64 0, .int .i64 0, .slice none 0 0, .slice none 0 0, .int .i64 0, .slice none 0 0, .slice none 0 0, .slice none 0 0] 29 (0, 0)) from (hb4'.block _ (by omega)).trans HSB.out.res)
              have z0 : w4.cell? ⟨w.heap.size, 0, none⟩ = some (.int .i64 0) := (by rw [Lib.cell_of_heap HBK.out]; rfl)
              have z1 : w4.cell? ⟨w.heap.size, 1, none⟩ = some (.int .i64 0) := (by rw [Lib.cell_of_heap HBK.out]; rfl)
              have z2 : w4.cell? ⟨w.heap.size, 2, none⟩ = some (.int .i64 0) := (by rw [Lib.cell_of_heap HBK.out]; rfl)
              have z3 : w4.cell? ⟨w.heap.size, 3, none⟩ = some (.int .i64 0) := (by rw [Lib.cell_of_heap HBK.out]; rfl)
              have z4 : w4.cell? ⟨w.heap.size, 4, none⟩ = some (.slice none 0 0) := (by rw [Lib.cell_of_heap HBK.out]; rfl)
              have z5 : w4.cell? ⟨w.heap.size, 5, none⟩ = some (.slice none 0 0) := (by rw [Lib.cell_of_heap HBK.out]; rfl)
              have z6 : w4.cell? ⟨w.heap.size, 6, none⟩ = some (.int .i64 0) := (by rw [Lib.cell_of_heap HBK.out]; rfl)
              have z7 : w4.cell? ⟨w.heap.size, 7, none⟩ = some (.slice none 0 0) := (by rw [Lib.cell_of_heap HBK.out]; rfl)
              have z8 : w4.cell? ⟨w.heap.size, 8, none⟩ = some (.slice none 0 0) := (by rw [Lib.cell_of_heap HBK.out]; rfl)
              have z9 : w4.cell? ⟨w.heap.size, 9, none⟩ = some (.slice none 0 0) := (by rw [Lib.cell_of_heap HBK.out]; rfl)
              have u0 := Lib.frozen_of_heap HBK.out 0
              have u1 := Lib.frozen_of_heap HBK.out 1
              have u2 := Lib.frozen_of_heap HBK.out 2
              have u3 := Lib.frozen_of_heap HBK.out 3
              have u4 := Lib.frozen_of_heap HBK.out 4
              have u5 := Lib.frozen_of_heap HBK.out 5
              have u6 := Lib.frozen_of_heap HBK.out 6
              have u7 := Lib.frozen_of_heap HBK.out 7
              have u8 := Lib.frozen_of_heap HBK.out 8
              have u9 := Lib.frozen_of_heap HBK.out 9
              have HB4 := Lib.hid (HSB.out.gr.trans (hb4'.mono HSB.out.gr.size))
              have HR4 := Lib.hid (tEE.below HREP.out hb4' (Nat.le_refl _))
              have j0 := kcell hb4' d0
              have j1 := kcell hb4' d1
              have j2 := kcell hb4' d2
              have j3 := kcell hb4' d3
              have j4 := kcell hb4' d4
              have j5 := kcell hb4' d5
              have j6 := kcell hb4' d6
              have j7 := kcell hb4' d7
              have j8 := kcell hb4' d8
              have j9 := kcell hb4' d9
              have hne : ¬ w.heap.size = w1.heap.size := by omega
              have hne' : ¬ w1.heap.size = w.heap.size := by omega
              clear hb4' hb4 hown4 hcv4 hcv0 d0 d1 d2 d3 d4 d5 d6 d7 d8 d9
              go_wp2_with fail
              refine bodyPost_ret (results_row2 rfl _ _ w.heap.size 29 #[.int .i64 x.kind, .int .i64 x.id, .int .i64 x.n, .int .i64 x.m, .slice Z0 y0 v0, .slice Z1 y1 v1, .int .i64 x.list.high, .slice Z2 y2 v2, .slice Z3 y3 v3, .slice Z4 y4 v4] (0, 0) _ rfl (heap_set10 HBK.out) Tryz.underlying29 rfl (by kernel_rfl)) rfl ?_
              unfold TePost tkEv
              rw [HTV.out]
              have q2 : ¬ (fun b => w1.heap.size + 1 ≤ b) w.heap.size := by show ¬ (w1.heap.size + 1 ≤ w.heap.size); omega
              exact ⟨_, rfl, below_set10 HB4.out (Nat.le_refl _), tEE.weaken (ty_set10 tEE HR4.out q2) fun b hb _ => by omega⟩
            exact AllReadyH.nil
          exact AllReadyH.nil
        · obtain ⟨p, hp⟩ : ∃ p, p = putEvent x := ⟨_, rfl⟩
          have HP := Lib.hid hp
          have hpq : (p == l) = false := beq_eq_false_iff_ne.2 (by rw [hp]; exact heq)
          clear HN
          have HN := Lib.hid (show takeEvent l = none by rw [← HRT.out]; unfold rtakeEvent; rw [HT.out]; dsimp only; rw [HX.out, if_neg heq])
          clear heq hp
          go_wp2_with fail
          refine wp_region_held_drew (S := (fun w' => w'.cell? ⟨w1.heap.size, 0, none⟩ = some (.int .i64 x.kind) ∧ w'.cell? ⟨w1.heap.size, 1, none⟩ = some (.int .i64 x.id) ∧ w'.cell? ⟨w1.heap.size, 2, none⟩ = some (.int .i64 x.n) ∧ w'.cell? ⟨w1.heap.size, 3, none⟩ = some (.int .i64 x.m) ∧ w'.cell? ⟨w1.heap.size, 4, none⟩ = some (.slice Z0 y0 v0) ∧ w'.cell? ⟨w1.heap.size, 5, none⟩ = some (.slice Z1 y1 v1) ∧ w'.cell? ⟨w1.heap.size, 6, none⟩ = some (.int .i64 x.list.high) ∧ w'.cell? ⟨w1.heap.size, 7, none⟩ = some (.slice Z2 y2 v2) ∧ w'.cell? ⟨w1.heap.size, 8, none⟩ = some (.slice Z3 y3 v3) ∧ w'.cell? ⟨w1.heap.size, 9, none⟩ = some (.slice Z4 y4 v4) ∧ (convert 30 9 (.slice A n c)).run Tryz.prog w' = .ok (.string ⟨l.toArray⟩) w')) (by kernel_rfl) ?_ (fun hHeld => ?_)
          · ((try dsimp only); (first | exact ⟨d0, d1, d2, d3, d4, d5, d6, d7, d8, d9, run_bs HSRC.out.drew⟩ | exact ⟨kcell (W := wb.drew) hb4 d0, kcell (W := wb.drew) hb4 d1, kcell (W := wb.drew) hb4 d2, kcell (W := wb.drew) hb4 d3, kcell (W := wb.drew) hb4 d4, kcell (W := wb.drew) hb4 d5, kcell (W := wb.drew) hb4 d6, kcell (W := wb.drew) hb4 d7, kcell (W := wb.drew) hb4 d8, kcell (W := wb.drew) hb4 d9, run_bs (HSRC.out.drew.below hb4 (Nat.le_refl _))⟩ | go_keep))
          (refine wpAnyH_take (i := 0) (oi := ⟨_, _, _, _, _, _⟩) (v := ?_) rfl (by kernel_rfl) (by kernel_rfl) (by kernel_rfl) (fun _ _ _ h => h) (Or.inl ⟨by rfl, ?_⟩) (by assumption) ?_; rotate_left; · (intro w hSw; (try dsimp only at hSw); go_simp; try with_reducible rfl)); (try simp only [Act.put]); (try simp only [List.setIfInBounds_toArray]); (try simp only [List.set_cons_succ]); (try simp only [List.set_cons_zero])
          (refine wpAnyH_take (i := 3) (oi := ⟨_, _, _, _, _, _⟩) (v := ?_) rfl (by kernel_rfl) (by kernel_rfl) (by kernel_rfl) (fun _ _ _ h => h) (Or.inl ⟨by rfl, ?_⟩) (by assumption) ?_; rotate_left; · (intro w hSw; (try dsimp only at hSw); go_simp; try with_reducible rfl)); (try simp only [Act.put]); (try simp only [List.setIfInBounds_toArray]); (try simp only [List.set_cons_succ]); (try simp only [List.set_cons_zero])
          (refine wpAnyH_take (i := 4) (oi := ⟨_, _, _, _, _, _⟩) (v := ?_) rfl (by kernel_rfl) (by kernel_rfl) (by kernel_rfl) (fun _ _ _ h => h) (Or.inl ⟨by rfl, ?_⟩) (by assumption) ?_; rotate_left; · (intro w hSw; (try dsimp only at hSw); go_simp; try with_reducible rfl)); (try simp only [Act.put]); (try simp only [List.setIfInBounds_toArray]); (try simp only [List.set_cons_succ]); (try simp only [List.set_cons_zero])
          refine wpAnyH_ready (rs := [1]) (by kernel_rfl) (by simp) ?_
          refine AllReadyH.cons (o := ⟨_, _, _, _, _, _⟩) rfl (fun K hK => ?_) ?_
          · (go_simp; ((go_at_call 11; refine (rputEvent_e x Z0 y0 v0 Z1 y1 v1 Z2 y2 v2 Z3 y3 v3 Z4 y4 v4 _ _ (ty_drew tEE HREP.out) HEX.out p HP.out).mono ?_; rintro e w4 ⟨A5, n5, c5, rfl, hown4, hb4⟩; have hcv4 := run_bs hown4.bs)))
            refine hK.out _ _ ?_ (fun hHeld => ?_)
            · ((try dsimp only); (first | exact ⟨d0, d1, d2, d3, d4, d5, d6, d7, d8, d9, run_bs HSRC.out.drew⟩ | exact ⟨kcell (W := wb.drew) hb4 d0, kcell (W := wb.drew) hb4 d1, kcell (W := wb.drew) hb4 d2, kcell (W := wb.drew) hb4 d3, kcell (W := wb.drew) hb4 d4, kcell (W := wb.drew) hb4 d5, kcell (W := wb.drew) hb4 d6, kcell (W := wb.drew) hb4 d7, kcell (W := wb.drew) hb4 d8, kcell (W := wb.drew) hb4 d9, run_bs (HSRC.out.drew.below hb4 (Nat.le_refl _))⟩ | go_keep))
            clear hK K; (try simp only [Act.put]); (try simp only [List.setIfInBounds_toArray]); (try simp only [List.set_cons_succ]); (try simp only [List.set_cons_zero])
            refine wpAnyH_ready (rs := [2]) (by kernel_rfl) (by simp) ?_
            refine AllReadyH.cons (o := ⟨_, _, _, _, _, _⟩) rfl (fun K hK => ?_) ?_
            · go_simp
              refine hK.out _ _ ?_ (fun hHeld => ?_)
              · ((try dsimp only); (first | exact ⟨d0, d1, d2, d3, d4, d5, d6, d7, d8, d9, run_bs HSRC.out.drew⟩ | exact ⟨kcell (W := wb.drew) hb4 d0, kcell (W := wb.drew) hb4 d1, kcell (W := wb.drew) hb4 d2, kcell (W := wb.drew) hb4 d3, kcell (W := wb.drew) hb4 d4, kcell (W := wb.drew) hb4 d5, kcell (W := wb.drew) hb4 d6, kcell (W := wb.drew) hb4 d7, kcell (W := wb.drew) hb4 d8, kcell (W := wb.drew) hb4 d9, run_bs (HSRC.out.drew.below hb4 (Nat.le_refl _))⟩ | go_keep))
              clear hK K; (try simp only [Act.put]); (try simp only [List.setIfInBounds_toArray]); (try simp only [List.set_cons_succ]); (try simp only [List.set_cons_zero])
              (refine wpAnyH_take (i := 5) (oi := ⟨_, _, _, _, _, _⟩) (v := ?_) rfl (by kernel_rfl) (by kernel_rfl) (by kernel_rfl) (fun _ _ _ h => h) (Or.inl ⟨by rfl, ?_⟩) (by assumption) ?_; rotate_left; · (intro w hSw; (try dsimp only at hSw); go_simp; try with_reducible rfl)); (try simp only [Act.put]); (try simp only [List.setIfInBounds_toArray]); (try simp only [List.set_cons_succ]); (try simp only [List.set_cons_zero])
              refine wpAnyH_done (by kernel_rfl) ?_ _
              have hb4' : Below wb.heap.size wb w4 := (show Below wb.heap.size wb wb.drew from (Below.refl _ _).drew).trans hb4
              have HBK := Lib.hid (show w4.heap[w.heap.size]? = some (.cells #[.int .i64 0, .int .i64 0, .int .i64 0, .int .i64 0, .slice none 0 0, .slice none 0 0, .int .i64 0, .slice none 0 0, .slice none 0 0, .slice none 0 0] 29 (0, 0)) from (hb4'.block _ (by omega)).trans HSB.out.res)
              have z0 : w4.cell? ⟨w.heap.size, 0, none⟩ = some (.int .i64 0) := (by rw [Lib.cell_of_heap HBK.out]; rfl)
              have z1 : w4.cell? ⟨w.heap.size, 1, none⟩ = some (.int .i64 0) := (by rw [Lib.cell_of_heap HBK.out]; rfl)
              have z2 : w4.cell? ⟨w.heap.size, 2, none⟩ = some (.int .i64 0) := (by rw [Lib.cell_of_heap HBK.out]; rfl)
              have z3 : w4.cell? ⟨w.heap.size, 3, none⟩ = some (.int .i64 0) := (by rw [Lib.cell_of_heap HBK.out]; rfl)
              have z4 : w4.cell? ⟨w.heap.size, 4, none⟩ = some (.slice none 0 0) := (by rw [Lib.cell_of_heap HBK.out]; rfl)
              have z5 : w4.cell? ⟨w.heap.size, 5, none⟩ = some (.slice none 0 0) := (by rw [Lib.cell_of_heap HBK.out]; rfl)
              have z6 : w4.cell? ⟨w.heap.size, 6, none⟩ = some (.int .i64 0) := (by rw [Lib.cell_of_heap HBK.out]; rfl)
              have z7 : w4.cell? ⟨w.heap.size, 7, none⟩ = some (.slice none 0 0) := (by rw [Lib.cell_of_heap HBK.out]; rfl)
              have z8 : w4.cell? ⟨w.heap.size, 8, none⟩ = some (.slice none 0 0) := (by rw [Lib.cell_of_heap HBK.out]; rfl)
              have z9 : w4.cell? ⟨w.heap.size, 9, none⟩ = some (.slice none 0 0) := (by rw [Lib.cell_of_heap HBK.out]; rfl)
              have u0 := Lib.frozen_of_heap HBK.out 0
              have u1 := Lib.frozen_of_heap HBK.out 1
              have u2 := Lib.frozen_of_heap HBK.out 2
              have u3 := Lib.frozen_of_heap HBK.out 3
              have u4 := Lib.frozen_of_heap HBK.out 4
              have u5 := Lib.frozen_of_heap HBK.out 5
              have u6 := Lib.frozen_of_heap HBK.out 6
              have u7 := Lib.frozen_of_heap HBK.out 7
              have u8 := Lib.frozen_of_heap HBK.out 8
              have u9 := Lib.frozen_of_heap HBK.out 9
              have HB4 := Lib.hid (HSB.out.gr.trans (hb4'.mono HSB.out.gr.size))
              have HR4 := Lib.hid (tEE.below HREP.out hb4' (Nat.le_refl _))
              have j0 := kcell hb4' d0
              have j1 := kcell hb4' d1
              have j2 := kcell hb4' d2
              have j3 := kcell hb4' d3
              have j4 := kcell hb4' d4
              have j5 := kcell hb4' d5
              have j6 := kcell hb4' d6
              have j7 := kcell hb4' d7
              have j8 := kcell hb4' d8
              have j9 := kcell hb4' d9
              have hne : ¬ w.heap.size = w1.heap.size := by omega
              have hne' : ¬ w1.heap.size = w.heap.size := by omega
              clear hb4' hb4 hown4 hcv4 hcv0 d0 d1 d2 d3 d4 d5 d6 d7 d8 d9
              go_wp2_with fail
              refine bodyPost_ret (results_row2 rfl _ _ w.heap.size 29 #[.int .i64 0, .int .i64 0, .int .i64 0, .int .i64 0, .slice none 0 0, .slice none 0 0, .int .i64 0, .slice none 0 0, .slice none 0 0, .slice none 0 0] (0, 0) _ rfl (heap_set10 HBK.out) Tryz.underlying29 rfl (by kernel_rfl)) rfl ?_
              unfold TePost tkEv
              rw [HN.out]
              exact ⟨_, rfl, below_set10 HB4.out (Nat.le_refl _), rep_zero _ _⟩
            exact AllReadyH.nil
          exact AllReadyH.nil
end Go.Proofs.YtojenpjafgfpaaaGreatDoor
