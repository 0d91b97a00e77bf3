/- The layer desk: the reader: event. (Printed by gen_read6.py.) -/
import Derived.Test.YtojenpjafgfpaaaGreatDoorRead5
namespace Go.Proofs.YtojenpjafgfpaaaGreatDoor
open Go Go.RowKit
attribute [local go_sem ↓] Go.wp_at_zero Go.wp_at_succ

/-- 'key', 'node', 'fields', their readings as letters. -/
def KyPostL (g : Nat) (bad : Bool) (rv : Bool × KK) (w : World) (e : Ending) (w' : World) : Prop :=
  e = .returned (.agg #[.int .i64 rv.2.id, .int .i64 rv.2.bucket, .int .i64 rv.2.row]) ∧ w.grownBy w' (some g) ∧ RdAt g (bad || rv.1) w' ∧ rv.2.ok
theorem rkey_rv (g : Nat) (bad : Bool) (F : Nat → Prop) (A : Option Addr) (n c : Nat) (l : List UInt8) (w : World) (h : Bs F w A n c l) (hn : n ≤ 4294967296) (hg : RdAt g bad w) {rv : Bool × KK} (hrv : rv = rdKey l) :
    Calls Tryz.prog 49 #[.pointer (some ⟨g, 0, none⟩), .slice A n c] w (KyPostL g bad rv w) := by
  subst hrv; exact rkey_any g bad F A n c l w h hn hg
def NdPostL (g : Nat) (bad : Bool) (rv : Bool × PP) (w : World) (e : Ending) (w' : World) : Prop :=
  ∃ A2 m2 c2 A3 m3 c3, e = .returned (.agg #[.int .i64 rv.2.op, .int .i64 rv.2.col, .bool rv.2.v.null, .int .i64 rv.2.v.n, .string rv.2.v.s, .slice A2 m2 c2, .slice A3 m3 c3]) ∧ w.grownBy w' (some g) ∧ RdAt g (bad || rv.1) w' ∧
    tPP.rep (fun b => w.heap.size ≤ b) w' [.int .i64 rv.2.op, .int .i64 rv.2.col, .bool rv.2.v.null, .int .i64 rv.2.v.n, .string rv.2.v.s, .slice A2 m2 c2, .slice A3 m3 c3] rv.2
theorem rnode_rv (g : Nat) (bad : Bool) (F : Nat → Prop) (A : Option Addr) (n c : Nat) (l : List UInt8) (w : World) (h : Bs F w A n c l) (hn : n ≤ 4294967296) (hg : RdAt g bad w) {rv : Bool × PP} (hrv : rv = rdNode l) :
    Calls Tryz.prog 50 #[.pointer (some ⟨g, 0, none⟩), .slice A n c] w (NdPostL g bad rv w) := by
  subst hrv; exact rnode_any g bad F A n c l w h hn hg
def FsPostL (g : Nat) (bad : Bool) (rf : Bool × List Fld) (w : World) (e : Ending) (w' : World) : Prop :=
  ∃ A n c, e = .returned (.slice A n c) ∧ w.grownBy w' (some g) ∧ RdAt g (bad || rf.1) w' ∧ Sl tFld (fun b => w.heap.size ≤ b) w' A n c rf.2
theorem rfields_rv (g : Nat) (bad : Bool) (F : Nat → Prop) (A : Option Addr) (n c : Nat) (l : List UInt8) (w : World) (h : Bs F w A n c l) (hn : n ≤ 4294967296) (hg : RdAt g bad w) {rf : Bool × List Fld} (hrf : rf = rdFields l) :
    Calls Tryz.prog 17 #[.pointer (some ⟨g, 0, none⟩), .slice A n c] w (FsPostL g bad rf w) := by
  subst hrf; exact rfields_any g bad F A n c l w h hn hg

set_option maxRecDepth 100000 in
set_option maxHeartbeats 8000000 in
theorem revent_any (g : Nat) (bad : Bool) (F : Nat → Prop) (A1 : Option Addr) (n1 c1 : Nat) (L : List Fld) (w : World) (h : Sl tFld F w A1 n1 c1 L) (hF : ¬ F g) (hn1 : n1 ≤ 4294967296) (hLb : ∀ f ∈ L, f.b.length ≤ 4294967296) (hg : RdAt g bad w) :
    Calls Tryz.prog 16 #[.pointer (some ⟨g, 0, none⟩), .slice A1 n1 c1] w (EvPost g bad L w) := by
  have hlt := hg.lt

  have hst : EvSt w w.heap.size (w.heap.size + 1) g (w.heap.size + 1) bad EE.zero (fun _ => 0) none 0 0 none 0 0 none 0 0 none 0 0 none 0 0 A1 n1 c1 L (w.alloc (.cells #[.int .i64 0, .int .i64 0, .int .i64 0, .int .i64 0, .slice none 0 0, .slice none 0 0, .int .i64 0, .slice none 0 0, .slice none 0 0, .slice none 0 0] 29)) :=
    ⟨heap_alloc_new w _, Col.nil_ _ _ _ _ _ _ _, Col.nil_ _ _ _ _ _ _ _, Col.nil_ _ _ _ _ _ _ _, Col.nil_ _ _ _ _ _ _ _, Col.nil_ _ _ _ _ _ _ _, heap_allocd hg _, grown_alloc (grown_of_below (Below.refl _ w)) _,
      (h.weaken (F' := fun b => b ≠ w.heap.size ∧ b ≠ g ∧ b < w.heap.size + 1) fun b hb hl => ⟨by omega, fun e => hF (e ▸ hb), by omega⟩).alloc _, ⟨by unfold i64; decide, by unfold i64; decide, by unfold i64; decide, by unfold i64; decide, by unfold i64; decide⟩, hlt, rfl, by omega, Nat.le_refl _, by simp⟩
  have HST := Lib.hid hst; clear hst hg
  have HN := Lib.hid h.len
  go_enter Tryz.func16, Tryz.ntmps16
  go_wp2_with fail
  go_loopw [13] (fun i wr => ∃ (j : Nat) (b2 : Bool) (x : EE) (S : Nat) (col : Nat → Nat) (Z0 : Option Addr) (y0 v0 : Nat) (Z1 : Option Addr) (y1 v1 : Nat) (Z2 : Option Addr) (y2 v2 : Nat) (Z3 : Option Addr) (y3 v3 : Nat) (Z4 : Option Addr) (y4 v4 : Nat), j ≤ n1 ∧ i = .int .i64 j ∧ y0 ≤ j ∧ y1 ≤ j ∧ y2 ≤ j ∧ y3 ≤ j ∧ y4 ≤ j ∧ EvSt w w.heap.size (w.heap.size + 1) g S b2 x col Z0 y0 v0 Z1 y1 v1 Z2 y2 v2 Z3 y3 v3 Z4 y4 v4 A1 n1 c1 L wr ∧ (L.take j).foldl eventStep (bad, EE.zero) = (b2, x))
    (fun i _ => n1 - (intOf i).toNat)
  case atStart => exact ⟨0, bad, EE.zero, w.heap.size + 1, _, none, 0, 0, none, 0, 0, none, 0, 0, none, 0, 0, none, 0, 0, Nat.zero_le _, rfl, Nat.le_refl _, Nat.le_refl _, Nat.le_refl _, Nat.le_refl _, Nat.le_refl _, HST.out, rfl⟩
  case round =>
    clear HST
    obtain ⟨j, b2, x, S, col, Z0, y0, v0, Z1, y1, v1, Z2, y2, v2, Z3, y3, v3, Z4, y4, v4, hj, rfl, hy0, hy1, hy2, hy3, hy4, hst, hfold⟩ := hrel
    obtain ⟨wo, rfl⟩ : ∃ wo : World, wo = wr := ⟨_, rfl⟩
    have HFO := Lib.hid hfold; clear hfold
    have HST := Lib.hid hst; clear hst
    have q1 := HST.out.hg; have q3 := HST.out.hB; have q4 := HST.out.hS
    by_cases hlt2 : j < n1
    · have hjl : j < L.length := by rw [← HN.out]; exact hlt2
      obtain ⟨b, o, cs, rfl, hb, hbl, hrep, hc⟩ := HST.out.fl.at_ hjl (by decide)
      obtain ⟨f, hf⟩ : ∃ f, f = L[j] := ⟨_, rfl⟩
      have hnext := foldl_take eventStep (bad, EE.zero) L j hjl
      rw [HFO.out, ← hf] at hnext
      rw [← hf] at hrep
      obtain ⟨A4, n4, c4, rfl, hftag, hfn, hfb⟩ := hrep
      obtain ⟨g0, g1, g2, g3⟩ := cells4 hc
      have hfm : f ∈ L := by rw [hf]; exact List.getElem_mem hjl
      clear hc hf
      have HFB := Lib.hid hfb; clear hfb
      have hz := zagI_bd f.n hfn
      obtain ⟨t, ht⟩ : ∃ t, t = f.tag := ⟨_, rfl⟩
      rw [← ht] at g0 hftag
      have HT := Lib.hid ht; clear ht
      have HNX := Lib.hid hnext; clear hnext
      obtain ⟨wb, hwb, hBb, hCb, hSb, hKb⟩ := boxed wo [.int .i64 t, .bool f.bytes, .int .u64 (f.n : Int), .slice A4 n4 c4] 75
      have HSB := Lib.hid (HST.out.below hBb)
      have hn4 : n4 ≤ 4294967296 := by rw [HFB.out.len]; exact hLb f hfm
      have HFB2 := Lib.hid (hKb HFB.out)
      have k0 : wb.cell? ⟨wo.heap.size, 0, none⟩ = some (.int .i64 t) := hCb 0 _ rfl
      have k2 : wb.cell? ⟨wo.heap.size, 2, none⟩ = some (.int .u64 (f.n : Int)) := hCb 2 _ rfl
      have k3 : wb.cell? ⟨wo.heap.size, 3, none⟩ = some (.slice A4 n4 c4) := hCb 3 _ rfl
      have q5 := HSB.out.hS
      have q6 : wo.heap.size < wb.heap.size := by omega
      clear hCb hKb hBb hSb
      go_upto_region 4 with fail
      rw [← hwb]
      clear hwb g0 g1 g2 g3 hb hbl HST HFB

      have d0 : wb.cell? ⟨w.heap.size, 0, none⟩ = some (.int .i64 x.kind) := HSB.out.cell rfl
      have d1 : wb.cell? ⟨w.heap.size, 1, none⟩ = some (.int .i64 x.id) := HSB.out.cell rfl
      have d2 : wb.cell? ⟨w.heap.size, 2, none⟩ = some (.int .i64 x.n) := HSB.out.cell rfl
      have d3 : wb.cell? ⟨w.heap.size, 3, none⟩ = some (.int .i64 x.m) := HSB.out.cell rfl
      have d4 : wb.cell? ⟨w.heap.size, 4, none⟩ = some (.slice Z0 y0 v0) := HSB.out.cell rfl
      have d5 : wb.cell? ⟨w.heap.size, 5, none⟩ = some (.slice Z1 y1 v1) := HSB.out.cell rfl
      have d6 : wb.cell? ⟨w.heap.size, 6, none⟩ = some (.int .i64 x.list.high) := HSB.out.cell rfl
      have d7 : wb.cell? ⟨w.heap.size, 7, none⟩ = some (.slice Z2 y2 v2) := HSB.out.cell rfl
      have d8 : wb.cell? ⟨w.heap.size, 8, none⟩ = some (.slice Z3 y3 v3) := HSB.out.cell rfl
      have d9 : wb.cell? ⟨w.heap.size, 9, none⟩ = some (.slice Z4 y4 v4) := HSB.out.cell rfl
      have e0 := HSB.out.free 0
      have e1 := HSB.out.free 1
      have e2 := HSB.out.free 2
      have e3 := HSB.out.free 3
      have e4 := HSB.out.free 4
      have e5 := HSB.out.free 5
      have e6 := HSB.out.free 6
      have e7 := HSB.out.free 7
      have e8 := HSB.out.free 8
      have e9 := HSB.out.free 9
      obtain ⟨m0, m1, m2, m3, m4⟩ := HSB.out.nums
      have M := Lib.hid HSB.out.nums
      clear m0 m1 m2 m3 m4
      by_cases h1 : t = 1
      · subst h1
        have HS := Lib.hid (show eventStep (b2, x) f = (b2, { x with kind := zagI f.n }) by simp [eventStep, ← HT.out])
        go_wp2_with (go_at_call 47; refine (zag_any f.n _ hfn).mono ?_; rintro e w' ⟨rfl, rfl⟩)
        go_roundw
        case rel => exact ⟨j + 1, b2, { x with kind := zagI f.n }, S, col, Z0, y0, v0, Z1, y1, v1, Z2, y2, v2, Z3, y3, v3, Z4, y4, v4, by omega, by go_num, by omega, by omega, by omega, by omega, by omega, HSB.out.put (x2 := { x with kind := zagI f.n }) rfl rfl rfl rfl rfl rfl ⟨⟨hz.1, hz.2⟩, M.out.2.1, M.out.2.2.1, M.out.2.2.2.1, M.out.2.2.2.2⟩, by rw [HNX.out, HS.out]⟩
        case measure => simp [intOf]; omega
      by_cases h2 : t = 2
      · subst h2
        clear h1
        have HS := Lib.hid (show eventStep (b2, x) f = (b2, { x with id := zagI f.n }) by simp [eventStep, ← HT.out])
        go_wp2_with (go_at_call 47; refine (zag_any f.n _ hfn).mono ?_; rintro e w' ⟨rfl, rfl⟩)
        go_roundw
        case rel => exact ⟨j + 1, b2, { x with id := zagI f.n }, S, col, Z0, y0, v0, Z1, y1, v1, Z2, y2, v2, Z3, y3, v3, Z4, y4, v4, by omega, by go_num, by omega, by omega, by omega, by omega, by omega, HSB.out.put (x2 := { x with id := zagI f.n }) rfl rfl rfl rfl rfl rfl ⟨M.out.1, ⟨hz.1, hz.2⟩, M.out.2.2.1, M.out.2.2.2.1, M.out.2.2.2.2⟩, by rw [HNX.out, HS.out]⟩
        case measure => simp [intOf]; omega
      by_cases h3 : t = 3
      · subst h3
        clear h1 h2
        have HS := Lib.hid (show eventStep (b2, x) f = (b2, { x with n := zagI f.n }) by simp [eventStep, ← HT.out])
        go_wp2_with (go_at_call 47; refine (zag_any f.n _ hfn).mono ?_; rintro e w' ⟨rfl, rfl⟩)
        go_roundw
        case rel => exact ⟨j + 1, b2, { x with n := zagI f.n }, S, col, Z0, y0, v0, Z1, y1, v1, Z2, y2, v2, Z3, y3, v3, Z4, y4, v4, by omega, by go_num, by omega, by omega, by omega, by omega, by omega, HSB.out.put (x2 := { x with n := zagI f.n }) rfl rfl rfl rfl rfl rfl ⟨M.out.1, M.out.2.1, ⟨hz.1, hz.2⟩, M.out.2.2.2.1, M.out.2.2.2.2⟩, by rw [HNX.out, HS.out]⟩
        case measure => simp [intOf]; omega
      by_cases h4 : t = 4
      · subst h4
        clear h1 h2 h3
        have HS := Lib.hid (show eventStep (b2, x) f = (b2, { x with m := zagI f.n }) by simp [eventStep, ← HT.out])
        go_wp2_with (go_at_call 47; refine (zag_any f.n _ hfn).mono ?_; rintro e w' ⟨rfl, rfl⟩)
        go_roundw
        case rel => exact ⟨j + 1, b2, { x with m := zagI f.n }, S, col, Z0, y0, v0, Z1, y1, v1, Z2, y2, v2, Z3, y3, v3, Z4, y4, v4, by omega, by go_num, by omega, by omega, by omega, by omega, by omega, HSB.out.put (x2 := { x with m := zagI f.n }) rfl rfl rfl rfl rfl rfl ⟨M.out.1, M.out.2.1, M.out.2.2.1, ⟨hz.1, hz.2⟩, M.out.2.2.2.2⟩, by rw [HNX.out, HS.out]⟩
        case measure => simp [intOf]; omega
      by_cases h5 : t = 5
      · subst h5
        clear h1 h2 h3 h4
        obtain ⟨rf, hrf⟩ : ∃ rf : Bool × List Fld, rf = rdFields f.b := ⟨_, rfl⟩
        have HRF := Lib.hid hrf
        obtain ⟨rw, hrw⟩ : ∃ rw : Bool × List VV, rw = rdRow f.b := ⟨_, rfl⟩
        have HRW := Lib.hid hrw
        have hbnd : rf.2.length ≤ 4294967296 := by rw [hrf]; exact rdFields_count (hLb f hfm)
        have hbnd2 : ∀ fx ∈ rf.2, fx.b.length ≤ 4294967296 := fun fx hfx => Nat.le_trans (rdFields_mem (l := f.b) (by rw [← hrf]; exact hfx)) (hLb f hfm)
        have HBND := Lib.hid hbnd2
        clear hrf hrw hbnd2
        have HS := Lib.hid (show eventStep (b2, x) f = (b2 || rw.1, { x with rows := x.rows ++ [rw.2] }) by simp [eventStep, ← HT.out, ← HRW.out])
        go_wp2_with (first
          | (go_at_call 47; refine (zag_any f.n _ hfn).mono ?_; rintro e w' ⟨rfl, rfl⟩)
          | (go_at_call 17; refine (rfields_rv g b2 _ A4 n4 c4 f.b _ HFB2.out hn4 HSB.out.rd HRF.out).mono ?_; rintro e w3 ⟨A5, n5, c5, rfl, hg3, hr3, hs3⟩; have H3 := Lib.hid (HSB.out.grow hg3 hr3); have HG3 := Lib.hid hg3; have HS3 := Lib.hid hs3; clear hg3 hr3 hs3))
        have hn5 := HS3.out.len
        have HN5 := Lib.hid hn5; 
        have hn5' : n5 ≤ 4294967296 := by rw [HN5.out]; exact hbnd
        clear hn5
        have q7 : S ≤ w3.heap.size := H3.out.hS
        have HSF : Hid (Sl tFld (fun b => S ≤ b ∧ b < w3.heap.size) w3 A5 n5 c5 rf.2) := Lib.hid (HS3.out.weaken fun b hb hl => ⟨by omega, hl⟩)
        go_loopw [8, 45] (fun v i wr => ∃ (k : Nat) (b4 : Bool) (A6 : Option Addr) (m6 c6 : Nat), k ≤ n5 ∧ i = .int .i64 k ∧ v = .slice A6 m6 c6 ∧ OwnF tVV 53 (fun _ => False) wr w3.heap.size A6 m6 c6 ((rf.2.take k).map fun fx => (rdValue fx.b).2) ∧
            EvSt w w.heap.size (w.heap.size + 1) g S b4 x col Z0 y0 v0 Z1 y1 v1 Z2 y2 v2 Z3 y3 v3 Z4 y4 v4 (some ⟨b, o, none⟩) n1 c1 L wr ∧ Sl tFld (fun b => S ≤ b ∧ b < w3.heap.size) wr A5 n5 c5 rf.2 ∧ w3.heap.size ≤ wr.heap.size ∧ b4 = ((b2 || rf.1) || (rf.2.take k).any fun fx => (rdValue fx.b).1))
          (fun _ i _ => n5 - (intOf i).toNat)
        case atStart => exact ⟨0, _, none, 0, 0, Nat.zero_le _, rfl, rfl, OwnF.nil_ _ _ _ _ _, H3.out, HSF.out, Nat.le_refl _, by simp⟩
        case round =>
          obtain ⟨k, b4, A6, m6, c6, hk, rfl, rfl, hown, hev, hsl, hge, hb4⟩ := hrel
          have hm6 : m6 ≤ n5 := by rw [hown.len, HN5.out]; simp; omega
          have HOWN := Lib.hid hown; have HEV := Lib.hid hev; have HSL := Lib.hid hsl; have HB4 := Lib.hid hb4
          clear hown hev hsl hb4
          by_cases hk2 : k < n5
          · have hkl : k < rf.2.length := by rw [← HN5.out]; exact hk2
            obtain ⟨bb, oo, cs', rfl, hbb, hbl', hrep', hc'⟩ := HSL.out.at_ hkl (by decide)
            obtain ⟨fx, hfx⟩ : ∃ fx, fx = rf.2[k] := ⟨_, rfl⟩
            have hfxm : fx ∈ rf.2 := by rw [hfx]; exact List.getElem_mem hkl
            rw [← hfx] at hrep'
            have HFX := Lib.hid hfx
            obtain ⟨A7, n7, c7, rfl, _, _, hfb7⟩ := hrep'
            obtain ⟨g0, g1, g2, g3⟩ := cells4 hc'
            clear hc' hfx
            have HFB7 := Lib.hid hfb7
            have hn7 : n7 ≤ 4294967296 := by rw [HFB7.out.len]; exact HBND.out fx hfxm
            clear hfb7
            obtain ⟨wb2, hwb2, hBb2, hCb2, hSb2, hKb2⟩ := boxed wr [.int .i64 fx.tag, .bool fx.bytes, .int .u64 (fx.n : Int), .slice A7 n7 c7] 75
            have HB2 := Lib.hid hBb2
            have HEB := Lib.hid (HEV.out.below hBb2)
            have HFB8 := Lib.hid (hKb2 HFB7.out)
            have k5 : wb2.cell? ⟨wr.heap.size, 3, none⟩ = some (.slice A7 n7 c7) := hCb2 3 _ rfl
            have q8 : w3.heap.size ≤ wb2.heap.size := by omega
            clear hCb2 hKb2 hBb2 hSb2
            obtain ⟨rv, hrv⟩ : ∃ rv, rv = rdValue fx.b := ⟨_, rfl⟩
            have HRV := Lib.hid hrv; clear hrv
            go_upto_region 19 with fail
            rw [← hwb2]
            clear hwb2
            go_wp2_with (first
              | (go_at_call 48; refine (rvalue_rv g b4 _ A7 n7 c7 fx.b _ HFB8.out hn7 HEB.out.rd HRV.out).mono ?_; rintro e w5 ⟨rfl, hg5, hr5, hvok, _⟩; have H5 := Lib.hid (HEB.out.grow hg5 hr5); have HO5 := Lib.hid ((HOWN.out.keepB HB2.out).gset hg5 (fun h => h) (by omega)); have HG5 := Lib.hid hg5; have q9 : w3.heap.size ≤ w5.heap.size := Nat.le_trans q8 hg5.size; have HOK := Lib.hid hvok; clear hg5 hr5 hvok)
              | (at_builtin; refine apl1 (T := tVV) elemRow w5 w5 rfl (.tmp 49) (.tmp 54) rfl w3.heap.size A6 m6 c6 _ rfl (fun _ => False) (fun _ => False) HO5.out (Below.refl _ _) q9 _ rfl [.bool rv.2.null, .int .i64 rv.2.n, .string rv.2.s] rv.2 ⟨rfl, HOK.out⟩ 53 rfl (fun _ _ _ _ h => h) (by omega) ?_; intro A8 c8 w8 h8)
              | fail)
            go_roundw
            case rel =>
              have hgr8 := grown_trans (grown_alloc (grown_of_below (Below.refl _ w5)) _) h8.grown
              have hA6 : ∀ kk, A6.map (·.block) = some kk → w3.heap.size ≤ kk := fun kk hkk => (HO5.out.lies' hkk).2.1
              have e1 : ((rf.2.take (k + 1)).map fun fx => (rdValue fx.b).2) = ((rf.2.take k).map fun fx => (rdValue fx.b).2) ++ [rv.2] := by
                rw [List.take_succ_eq_append_getElem hkl, List.map_append, ← HFX.out, HRV.out]; rfl
              refine ⟨k + 1, b4 || rv.1, A8, m6 + 1, c8, by omega, by go_num, rfl, ?_, H5.out.stepN hgr8 (fun kk hkk => Nat.le_trans q7 (hA6 kk hkk)), ?_, Nat.le_trans q9 hgr8.size, ?_⟩
              · rw [e1]; exact h8.own.flat flatVV
              · exact ((HSL.out.below HB2.out (Nat.le_refl _)).grown HG5.out (fun kk hkk => by have := Option.some.inj hkk; omega)).grown hgr8 (fun kk hkk => by have := hA6 kk hkk; omega)
              · rw [List.take_succ_eq_append_getElem hkl, List.any_append, ← HFX.out, HB4.out, HRV.out]
                simp [Bool.or_assoc]
            case measure => simp [intOf]; omega
          · obtain rfl : k = n5 := by omega
            have hrw1 : rw = (rf.1 || rf.2.any fun fx => (rdValue fx.b).1, rf.2.map fun fx => (rdValue fx.b).2) := by rw [HRW.out, HRF.out]; rfl
            have htk : rf.2.take k = rf.2 := List.take_of_length_le (by rw [← HN5.out]; exact Nat.le_refl _)
            have hrow : Sl tVV (fun b => w3.heap.size ≤ b) wr A6 m6 c6 rw.2 := by
              have h0 := HOWN.out.sl
              rw [htk] at h0
              rw [hrw1]
              refine h0.weaken fun b hb _ => ?_
              rcases hb with hb | hb
              · exact hb.elim
              · exact hb.2
            have HROW := Lib.hid hrow
            have HB5 : Hid (b4 = (b2 || rw.1)) := Lib.hid (by rw [HB4.out, htk, hrw1]; simp [Bool.or_assoc])
            clear hrw1 htk hrow
            obtain ⟨Fv, hvo, hvc, hva⟩ := HEV.out.rows
            have HVO := Lib.hid hvo; have HVC := Lib.hid hvc; have HVA := Lib.hid hva; clear hvo hvc hva
            have d4' : wr.cell? ⟨w.heap.size, 4, none⟩ = some (.slice Z0 y0 v0) := HEV.out.cell rfl
            have e4' := HEV.out.free 4
            have q8 := HEV.out.hS
            go_wp2_with (first
              | (at_builtin; refine apl1 (T := tSl tVV) elemRw wr wr rfl (.tmp 58) (.tmp 60) rfl (w.heap.size + 1) Z0 y0 v0 x.rows rfl Fv (fun b => w3.heap.size ≤ b) HVO.out (Below.refl _ _) (by omega) _ rfl [.slice A6 m6 c6] rw.2 ⟨A6, m6, c6, rfl, HROW.out⟩ 51 rfl (fun b hb _ _ h => by have h6 : b < S := (HVA.out b (by rw [hb]; rfl)).1; omega) (by omega) ?_; intro A8 c8 w8 h8; obtain ⟨r1, _, _, _⟩ := HEV.out.rest (grown_trans (grown_alloc (grown_of_below (Below.refl _ _)) _) h8.grown) (fun b hb => (HEV.out.rows.lies hb).1); have d4'' : w8.cell? ⟨w.heap.size, 4, none⟩ = some (.slice Z0 y0 v0) := (by rw [Lib.cell_of_heap r1]; rfl); have e4'' := Lib.frozen_of_heap r1 4; clear r1)
              | fail)
            go_roundw
            case rel => exact ⟨j + 1, b4, { x with rows := x.rows ++ [rw.2] }, w8.heap.size, _, A8, y0 + 1, c8, Z1, y1, v1, Z2, y2, v2, Z3, y3, v3, Z4, y4, v4, by omega, by go_num, by omega, by omega, by omega, by omega, by omega, HEV.out.addRw HVC.out HVA.out (fun _ h => Nat.le_trans q7 h) h8 ((Below.refl _ _).alloc (Nat.le_refl _) _), by rw [HNX.out, HS.out, HB5.out]⟩
            case measure => simp [intOf]; omega
      by_cases h6 : t = 6
      · subst h6
        clear h1 h2 h3 h4 h5
        obtain ⟨rv, hrv⟩ : ∃ rv : Bool × KK, rv = rdKey f.b := ⟨_, rfl⟩
        have HRV := Lib.hid hrv; clear hrv
        have HS := Lib.hid (show eventStep (b2, x) f = (b2 || rv.1, { x with keys := x.keys ++ [rv.2] }) by simp [eventStep, ← HT.out, ← HRV.out])
        go_wp2_with (go_at_call 47; refine (zag_any f.n _ hfn).mono ?_; rintro e w' ⟨rfl, rfl⟩)
        go_region_law (first
            | (refine step_callee2 rfl 49 Tryz.func49 (by kernel_rfl) (by kernel_rfl) (.tmp 67) (.tmp 69) _ rfl (.pointer (some ⟨g, 0, none⟩)) (.slice A4 n4 c4) rfl rfl (rkey_rv g b2 _ A4 n4 c4 f.b _ HFB2.out.drew hn4 HSB.out.drew.rd HRV.out) ?_; rintro e w2 ⟨rfl, hg2, hr2, hvok⟩; have H2 := Lib.hid (HSB.out.drew.grow hg2 hr2); have d5' : w2.cell? ⟨w.heap.size, 5, none⟩ = some (.slice Z1 y1 v1) := H2.out.cell rfl; have e5' := H2.out.free 5; have HOK := Lib.hid hvok; have k3' := hg2.cell k3 (fun e => by have hh : wo.heap.size = g := Option.some.inj e; omega); have hq5 : S ≤ w2.heap.size := H2.out.hS; have hlP2 : w.heap.size < w2.heap.size := (by omega); obtain ⟨Fv, hvo, hvc, hva⟩ := H2.out.keys; have HVO := Lib.hid hvo; have HVC := Lib.hid hvc; have HVA := Lib.hid hva; clear hg2 hr2 hvok hvo hvc hva; refine ⟨_, rfl, ?_⟩)
            | (have _hq := hq5; refine step_apl1 (T := tKK) elemKK w2 w2 rfl (.tmp 66) (.tmp 71) rfl (w.heap.size + 1) Z1 y1 v1 x.keys rfl Fv (fun _ => False) HVO.out (Below.refl _ _) (by omega) _ rfl [.int .i64 rv.2.id, .int .i64 rv.2.bucket, .int .i64 rv.2.row] rv.2 ⟨rfl, HOK.out⟩ 71 rfl (fun _ _ _ _ h => h) (by omega) ?_; intro A6 c6 w6 h6; have hgr6 := grown_trans (grown_alloc (grown_of_below (Below.refl _ w2)) _) h6.grown; obtain ⟨r1, _, _, _⟩ := H2.out.rest hgr6 (fun b hb => (H2.out.keys.lies hb).1); have d5'' : w6.cell? ⟨w.heap.size, 5, none⟩ = some (.slice Z1 y1 v1) := (by rw [Lib.cell_of_heap r1]; rfl); have e5'' := Lib.frozen_of_heap r1 5; have k3'' := hgr6.cell k3' (fun e => by have hh : wo.heap.size < S := (H2.out.keys.lies e.symm).2.1; omega); clear r1 hgr6)
            | fail)
        all_goals
          go_wp2_with fail
          go_roundw
          case rel => exact ⟨j + 1, b2 || rv.1, { x with keys := x.keys ++ [rv.2] }, w6.heap.size, _, Z0, y0, v0, A6, y1 + 1, c6, Z2, y2, v2, Z3, y3, v3, Z4, y4, v4, by omega, by go_num, by omega, by omega, by omega, by omega, by omega, H2.out.addKy HVC.out HVA.out (fun _ h => h.elim) h6 ((Below.refl _ _).alloc (Nat.le_refl _) _), by rw [HNX.out, HS.out]⟩
          case measure => simp [intOf]; omega
      by_cases h7 : t = 7
      · subst h7
        clear h1 h2 h3 h4 h5 h6
        have HS := Lib.hid (show eventStep (b2, x) f = (b2, { x with list := { x.list with high := zagI f.n } }) by simp [eventStep, ← HT.out])
        go_wp2_with (go_at_call 47; refine (zag_any f.n _ hfn).mono ?_; rintro e w' ⟨rfl, rfl⟩)
        go_roundw
        case rel => exact ⟨j + 1, b2, { x with list := { x.list with high := zagI f.n } }, S, col, Z0, y0, v0, Z1, y1, v1, Z2, y2, v2, Z3, y3, v3, Z4, y4, v4, by omega, by go_num, by omega, by omega, by omega, by omega, by omega, HSB.out.put (x2 := { x with list := { x.list with high := zagI f.n } }) rfl rfl rfl rfl rfl rfl ⟨M.out.1, M.out.2.1, M.out.2.2.1, M.out.2.2.2.1, ⟨hz.1, hz.2⟩⟩, by rw [HNX.out, HS.out]⟩
        case measure => simp [intOf]; omega
      by_cases h8 : t = 8
      · subst h8
        clear h1 h2 h3 h4 h5 h6 h7
        have HS := Lib.hid (show eventStep (b2, x) f = (b2, { x with list := { x.list with except := x.list.except ++ [zagI f.n] } }) by simp [eventStep, ← HT.out])
        obtain ⟨Fv, hvo, hvc, hva⟩ := HSB.out.exc
        have HVO := Lib.hid hvo; have HVC := Lib.hid hvc; have HVA := Lib.hid hva; clear hvo hvc hva
        go_wp2_with (first
          | (go_at_call 47; refine (zag_any f.n _ hfn).mono ?_; rintro e w' ⟨rfl, rfl⟩)
          | (at_builtin; refine apl1 (T := tI64) elemI64 wb wb rfl (.tmp 83) (.tmp 85) rfl (w.heap.size + 1) Z2 y2 v2 x.list.except rfl Fv (fun _ => False) HVO.out (Below.refl _ _) (by omega) _ rfl [.int .i64 (zagI f.n)] (zagI f.n) ⟨rfl, hz⟩ 3 rfl (fun _ _ _ _ h => h) (by omega) ?_; intro A6 c6 w6 h6; obtain ⟨r1, _, _, _⟩ := HSB.out.rest (grown_trans (grown_alloc (grown_of_below (Below.refl _ _)) _) h6.grown) (fun b hb => (HSB.out.exc.lies hb).1); have d7' : w6.cell? ⟨w.heap.size, 7, none⟩ = some (.slice Z2 y2 v2) := (by rw [Lib.cell_of_heap r1]; rfl); have e7' := Lib.frozen_of_heap r1 7; clear r1)
          | fail)
        go_roundw
        case rel => exact ⟨j + 1, b2, { x with list := { x.list with except := x.list.except ++ [zagI f.n] } }, w6.heap.size, _, Z0, y0, v0, Z1, y1, v1, A6, y2 + 1, c6, Z3, y3, v3, Z4, y4, v4, by omega, by go_num, by omega, by omega, by omega, by omega, by omega, HSB.out.addEx HVC.out HVA.out (fun _ h => h.elim) h6 ((Below.refl _ _).alloc (Nat.le_refl _) _), by rw [HNX.out, HS.out]⟩
        case measure => simp [intOf]; omega
      by_cases h9 : t = 9
      · subst h9
        clear h1 h2 h3 h4 h5 h6 h7 h8
        have HS := Lib.hid (show eventStep (b2, x) f = (b2, { x with cols := x.cols ++ [zagI f.n] }) by simp [eventStep, ← HT.out])
        obtain ⟨Fv, hvo, hvc, hva⟩ := HSB.out.cols
        have HVO := Lib.hid hvo; have HVC := Lib.hid hvc; have HVA := Lib.hid hva; clear hvo hvc hva
        go_wp2_with (first
          | (go_at_call 47; refine (zag_any f.n _ hfn).mono ?_; rintro e w' ⟨rfl, rfl⟩)
          | (at_builtin; refine apl1 (T := tI64) elemI64 wb wb rfl (.tmp 92) (.tmp 94) rfl (w.heap.size + 1) Z3 y3 v3 x.cols rfl Fv (fun _ => False) HVO.out (Below.refl _ _) (by omega) _ rfl [.int .i64 (zagI f.n)] (zagI f.n) ⟨rfl, hz⟩ 3 rfl (fun _ _ _ _ h => h) (by omega) ?_; intro A6 c6 w6 h6; obtain ⟨r1, _, _, _⟩ := HSB.out.rest (grown_trans (grown_alloc (grown_of_below (Below.refl _ _)) _) h6.grown) (fun b hb => (HSB.out.cols.lies hb).1); have d8' : w6.cell? ⟨w.heap.size, 8, none⟩ = some (.slice Z3 y3 v3) := (by rw [Lib.cell_of_heap r1]; rfl); have e8' := Lib.frozen_of_heap r1 8; clear r1)
          | fail)
        go_roundw
        case rel => exact ⟨j + 1, b2, { x with cols := x.cols ++ [zagI f.n] }, w6.heap.size, _, Z0, y0, v0, Z1, y1, v1, Z2, y2, v2, A6, y3 + 1, c6, Z4, y4, v4, by omega, by go_num, by omega, by omega, by omega, by omega, by omega, HSB.out.addCl HVC.out HVA.out (fun _ h => h.elim) h6 ((Below.refl _ _).alloc (Nat.le_refl _) _), by rw [HNX.out, HS.out]⟩
        case measure => simp [intOf]; omega
      by_cases h10 : t = 10
      · subst h10
        clear h1 h2 h3 h4 h5 h6 h7 h8 h9
        obtain ⟨rv, hrv⟩ : ∃ rv : Bool × PP, rv = rdNode f.b := ⟨_, rfl⟩
        have HRV := Lib.hid hrv; clear hrv
        have HS := Lib.hid (show eventStep (b2, x) f = (b2 || rv.1, { x with pred := x.pred ++ [rv.2] }) by simp [eventStep, ← HT.out, ← HRV.out])
        go_wp2_with (go_at_call 47; refine (zag_any f.n _ hfn).mono ?_; rintro e w' ⟨rfl, rfl⟩)
        go_region_law (first
            | (refine step_callee2 rfl 50 Tryz.func50 (by kernel_rfl) (by kernel_rfl) (.tmp 101) (.tmp 103) _ rfl (.pointer (some ⟨g, 0, none⟩)) (.slice A4 n4 c4) rfl rfl (rnode_rv g b2 _ A4 n4 c4 f.b _ HFB2.out.drew hn4 HSB.out.drew.rd HRV.out) ?_; rintro e w2 ⟨A2, m2, c2, A3, m3, c3, rfl, hg2, hr2, hvok⟩; have H2 := Lib.hid (HSB.out.drew.grow hg2 hr2); have d9' : w2.cell? ⟨w.heap.size, 9, none⟩ = some (.slice Z4 y4 v4) := H2.out.cell rfl; have e9' := H2.out.free 9; have HOK := Lib.hid hvok; have k3' := hg2.cell k3 (fun e => by have hh : wo.heap.size = g := Option.some.inj e; omega); have hq5 : S ≤ w2.heap.size := H2.out.hS; have hlP2 : w.heap.size < w2.heap.size := (by omega); obtain ⟨Fv, hvo, hvc, hva⟩ := H2.out.pred; have HVO := Lib.hid hvo; have HVC := Lib.hid hvc; have HVA := Lib.hid hva; clear hg2 hr2 hvok hvo hvc hva; refine ⟨_, rfl, ?_⟩)
            | (have _hq := hq5; refine step_apl1 (T := tPP) elemPP w2 w2 rfl (.tmp 100) (.tmp 105) rfl (w.heap.size + 1) Z4 y4 v4 x.pred rfl Fv (fun b => wb.drew.heap.size ≤ b) HVO.out (Below.refl _ _) (by omega) _ rfl [.int .i64 rv.2.op, .int .i64 rv.2.col, .bool rv.2.v.null, .int .i64 rv.2.v.n, .string rv.2.v.s, .slice A2 m2 c2, .slice A3 m3 c3] rv.2 HOK.out 55 rfl (fun b hb _ _ h => by have h5 : wb.heap.size ≤ b := h; have h6 : b < S := (HVA.out b (by rw [hb]; rfl)).1; omega) (by omega) ?_; intro A6 c6 w6 h6; have hgr6 := grown_trans (grown_alloc (grown_of_below (Below.refl _ w2)) _) h6.grown; obtain ⟨r1, _, _, _⟩ := H2.out.rest hgr6 (fun b hb => (H2.out.pred.lies hb).1); have d9'' : w6.cell? ⟨w.heap.size, 9, none⟩ = some (.slice Z4 y4 v4) := (by rw [Lib.cell_of_heap r1]; rfl); have e9'' := Lib.frozen_of_heap r1 9; have k3'' := hgr6.cell k3' (fun e => by have hh : wo.heap.size < S := (H2.out.pred.lies e.symm).2.1; omega); clear r1 hgr6)
            | fail)
        all_goals
          go_wp2_with fail
          go_roundw
          case rel => exact ⟨j + 1, b2 || rv.1, { x with pred := x.pred ++ [rv.2] }, w6.heap.size, _, Z0, y0, v0, Z1, y1, v1, Z2, y2, v2, Z3, y3, v3, A6, y4 + 1, c6, by omega, by go_num, by omega, by omega, by omega, by omega, by omega, H2.out.addPr HVC.out HVA.out (fun _ h => Nat.le_trans q5 h) h6 ((Below.refl _ _).alloc (Nat.le_refl _) _), by rw [HNX.out, HS.out]⟩
          case measure => simp [intOf]; omega
      · have HS := Lib.hid (show eventStep (b2, x) f = (b2, x) by simp [eventStep, ← HT.out, h1, h2, h3, h4, h5, h6, h7, h8, h9, h10])
        have n1' : (t == 1) = false := by simpa using h1
        have n2' : (t == 2) = false := by simpa using h2
        have n3' : (t == 3) = false := by simpa using h3
        have n4' : (t == 4) = false := by simpa using h4
        have n5' : (t == 5) = false := by simpa using h5
        have n6' : (t == 6) = false := by simpa using h6
        have n7' : (t == 7) = false := by simpa using h7
        have n8' : (t == 8) = false := by simpa using h8
        have n9' : (t == 9) = false := by simpa using h9
        have n10' : (t == 10) = false := by simpa using h10
        clear h1 h2 h3 h4 h5 h6 h7 h8 h9 h10
        go_wp2_with (go_at_call 47; refine (zag_any f.n _ hfn).mono ?_; rintro e w' ⟨rfl, rfl⟩)
        go_roundw
        case rel => exact ⟨j + 1, b2, x, S, col, Z0, y0, v0, Z1, y1, v1, Z2, y2, v2, Z3, y3, v3, Z4, y4, v4, by omega, by go_num, by omega, by omega, by omega, by omega, by omega, HSB.out, by rw [HNX.out, HS.out]⟩
        case measure => simp [intOf]; omega
    · obtain rfl : j = n1 := by omega
      have hfin : rdEvent bad L = (b2, x) := by rw [← HFO.out, List.take_of_length_le (by rw [← HN.out]; exact Nat.le_refl _)]; rfl
      have HRE := Lib.hid hfin; clear hfin
      have d0 : wo.cell? ⟨w.heap.size, 0, none⟩ = some (.int .i64 x.kind) := HST.out.cell rfl
      have d1 : wo.cell? ⟨w.heap.size, 1, none⟩ = some (.int .i64 x.id) := HST.out.cell rfl
      have d2 : wo.cell? ⟨w.heap.size, 2, none⟩ = some (.int .i64 x.n) := HST.out.cell rfl
      have d3 : wo.cell? ⟨w.heap.size, 3, none⟩ = some (.int .i64 x.m) := HST.out.cell rfl
      have d4 : wo.cell? ⟨w.heap.size, 4, none⟩ = some (.slice Z0 y0 v0) := HST.out.cell rfl
      have d5 : wo.cell? ⟨w.heap.size, 5, none⟩ = some (.slice Z1 y1 v1) := HST.out.cell rfl
      have d6 : wo.cell? ⟨w.heap.size, 6, none⟩ = some (.int .i64 x.list.high) := HST.out.cell rfl
      have d7 : wo.cell? ⟨w.heap.size, 7, none⟩ = some (.slice Z2 y2 v2) := HST.out.cell rfl
      have d8 : wo.cell? ⟨w.heap.size, 8, none⟩ = some (.slice Z3 y3 v3) := HST.out.cell rfl
      have d9 : wo.cell? ⟨w.heap.size, 9, none⟩ = some (.slice Z4 y4 v4) := HST.out.cell rfl
      have e0 := HST.out.free 0
      have e1 := HST.out.free 1
      have e2 := HST.out.free 2
      have e3 := HST.out.free 3
      have e4 := HST.out.free 4
      have e5 := HST.out.free 5
      have e6 := HST.out.free 6
      have e7 := HST.out.free 7
      have e8 := HST.out.free 8
      have e9 := HST.out.free 9
      have k1 := HST.out.nums
      have hX := (((((((((HST.out.put (j := 0) (u := .int .i64 x.kind) (x2 := x) rfl rfl rfl rfl rfl rfl k1).put (j := 1) (u := .int .i64 x.id) (x2 := x) rfl rfl rfl rfl rfl rfl k1).put (j := 2) (u := .int .i64 x.n) (x2 := x) rfl rfl rfl rfl rfl rfl k1).put (j := 3) (u := .int .i64 x.m) (x2 := x) rfl rfl rfl rfl rfl rfl k1).put (j := 4) (u := .slice Z0 y0 v0) (x2 := x) rfl rfl rfl rfl rfl rfl k1).put (j := 5) (u := .slice Z1 y1 v1) (x2 := x) rfl rfl rfl rfl rfl rfl k1).put (j := 6) (u := .int .i64 x.list.high) (x2 := x) rfl rfl rfl rfl rfl rfl k1).put (j := 7) (u := .slice Z2 y2 v2) (x2 := x) rfl rfl rfl rfl rfl rfl k1).put (j := 8) (u := .slice Z3 y3 v3) (x2 := x) rfl rfl rfl rfl rfl rfl k1).put (j := 9) (u := .slice Z4 y4 v4) (x2 := x) rfl rfl rfl rfl rfl rfl k1
      have HX := Lib.hid hX
      clear hX
      go_wp2_with fail
      refine bodyPost_ret (results_cell_row rfl _ _ w.heap.size 29 (ecells x Z0 y0 v0 Z1 y1 v1 Z2 y2 v2 Z3 y3 v3 Z4 y4 v4) (0, 0) _ rfl HX.out.heap Tryz.underlying29 rfl (by kernel_rfl)) rfl ?_
      have hX := HX.out
      unfold EvPost
      rw [HRE.out]
      obtain ⟨u1, u2, u3, u4, u5⟩ := k1
      exact ⟨Z0, y0, v0, Z1, y1, v1, Z2, y2, v2, Z3, y3, v3, Z4, y4, v4, rfl, hX.gr, hX.rd, Z0, y0, v0, Z1, y1, v1, Z2, y2, v2, Z3, y3, v3, Z4, y4, v4, rfl, u1, u2, u3, u4, u5, hX.rows.sl.weaken (fun b hb _ => by omega), hX.keys.sl.weaken (fun b hb _ => by omega), hX.exc.sl.weaken (fun b hb _ => by omega), hX.cols.sl.weaken (fun b hb _ => by omega), hX.pred.sl.weaken (fun b hb _ => by omega)⟩
end Go.Proofs.YtojenpjafgfpaaaGreatDoor
