/- The layer desk: the reader: key. -/
import Derived.Test.YtojenpjafgfpaaaDoorRead
namespace Go.Proofs.YtojenpjafgfpaaaDoor
open Go Go.RowKit
attribute [local go_sem ↓] Go.wp_at_zero Go.wp_at_succ

def kcs (k : KK) : Array Value := #[.int .i64 k.id, .int .i64 k.bucket, .int .i64 k.row]
theorem kcs_put (k : KK) (j : Nat) (hj : j < 3) (x : Int) : (kcs k).setIfInBounds j (.int .i64 x) = kcs (k.put j x) := by
  match j, hj with
  | 0, _ => rfl
  | 1, _ => rfl
  | 2, _ => rfl
theorem kcs_get (k : KK) (j : Nat) (hj : j < 3) : ∃ u, (kcs k)[j]? = some u := by
  match j, hj with
  | 0, _ => exact ⟨_, rfl⟩
  | 1, _ => exact ⟨_, rfl⟩
  | 2, _ => exact ⟨_, rfl⟩
def pcs (b : Nat) : Array Value := #[.pointer (some ⟨b, 0, none⟩), .pointer (some ⟨b, 1, none⟩), .pointer (some ⟨b, 2, none⟩)]
theorem pcs_get (b : Nat) (j : Nat) (hj : j < 3) : (pcs b)[j]? = some (.pointer (some ⟨b, j, none⟩)) := by
  match j, hj with
  | 0, _ => rfl
  | 1, _ => rfl
  | 2, _ => rfl
theorem kput_ok {k : KK} (h : k.ok) {x : Int} (hx : i64 x) (j : Nat) : (k.put j x).ok := by
  obtain ⟨h1, h2, h3⟩ := h
  match j with
  | 0 => exact ⟨hx, h2, h3⟩
  | 1 => exact ⟨h1, hx, h3⟩
  | _ + 2 => exact ⟨h1, h2, hx⟩

theorem rdFields_count {l : List UInt8} (h : l.length ≤ 4294967296) : (rdFields l).2.length ≤ 4294967296 := by
  unfold rdFields
  cases hw : wtake l with
  | none => simp
  | some L => have := wtake_count _ l L (Nat.le_refl _) hw; simp only; omega
def KyPost (g : Nat) (bad : Bool) (l : List UInt8) (w : World) (e : Ending) (w' : World) : Prop :=
  e = .returned (.agg (kcs (rdKey l).2)) ∧ w.grownBy w' (some g) ∧ RdAt g (bad || (rdKey l).1) w' ∧ (rdKey l).2.ok

set_option maxRecDepth 100000 in
set_option maxHeartbeats 3000000 in
theorem rkey_any (g : Nat) (bad : Bool) (F : Nat → Prop) (A : Option Addr) (n c : Nat) (l : List UInt8) (w : World) (h : Bs F w A n c l) (hn : n ≤ 4294967296) (hg : RdAt g bad w) :
    Calls Tryd.prog 89 #[.pointer (some ⟨g, 0, none⟩), .slice A n c] w (KyPost g bad l w) := by
  have HG := Lib.hid hg; clear hg
  have hlt := HG.out.lt
  go_enter Tryd.func89, Tryd.ntmps89
  go_wp2_with (go_at_call 75; refine (rfields_any g bad F A n c l _ ((h.alloc _).alloc _) hn (heap_allocd (heap_allocd HG.out _) _)).mono ?_)
  rintro e w1 ⟨A1, n1, c1, rfl, hg1, hrd1, hs1⟩
  have hk1 : w1.heap[w.heap.size]? = some (.cells (kcs KK.zero) 60 (0, 0)) := (hg1.block _ (by simp; omega) (by simp; omega)).trans (heap_allocd (heap_alloc_new w _) _)
  have hp1 : w1.heap[w.heap.size + 1]? = some (.cells (pcs w.heap.size) 152 (0, 0)) := (hg1.block _ (by simp) (by simp; omega)).trans (by have := heap_alloc_new (w.alloc (.cells #[.int .i64 0, .int .i64 0, .int .i64 0] 60)) (.cells (pcs w.heap.size) 152 (0, 0)); rw [World.size_alloc] at this; exact this)
  have hw1 : w.grownBy w1 (some g) := grown_trans (grown_alloc (grown_alloc (grown_of_below (Below.refl _ w)) _) _) hg1
  have hs1 : Sl tFld (fun b => w.heap.size + 2 ≤ b) w1 A1 n1 c1 (rdFields l).2 := hs1.weaken fun b hb _ => by simp at hb; omega
  obtain ⟨L, hL⟩ : ∃ L, L = (rdFields l).2 := ⟨_, rfl⟩
  obtain ⟨b1, hb1⟩ : ∃ b1, b1 = (bad || (rdFields l).1) := ⟨_, rfl⟩
  rw [← hL] at hs1
  rw [← hb1] at hrd1
  have HLL := Lib.hid hL; have HBB := Lib.hid hb1
  clear hL hb1 hg1
  have HN := Lib.hid hs1.len
  have hn1 : n1 ≤ 4294967296 := by rw [HN.out, HLL.out]; exact rdFields_count (by rw [← h.len]; exact hn)
  go_wp2_with fail
  go_loopw [16] (fun i wr => ∃ (j : Nat) (kk : KK), j ≤ n1 ∧ j ≤ 3 ∧ i = .int .i64 j ∧ wr.heap[w.heap.size]? = some (.cells (kcs kk) 60 (0, 0)) ∧ wr.heap[w.heap.size + 1]? = some (.cells (pcs w.heap.size) 152 (0, 0)) ∧ RdAt g b1 wr ∧ w.grownBy wr (some g) ∧
      Sl tFld (fun b => w.heap.size + 2 ≤ b) wr A1 n1 c1 L ∧ kk.ok ∧ keyOf j kk (L.drop j) = keyOf 0 KK.zero L)
    (fun i _ => n1 - (intOf i).toNat)
  case atStart => exact ⟨0, KK.zero, Nat.zero_le _, by omega, rfl, hk1, hp1, hrd1, hw1, hs1, ⟨by unfold i64; decide, by unfold i64; decide, by unfold i64; decide⟩, rfl⟩
  case round =>
    clear hk1 hp1 hrd1 hw1 hs1
    obtain ⟨j, kk, hj, hj3, rfl, hk, hp, hrd, hw, hs, hok, hkey⟩ := hrel
    have HK := Lib.hid hk; have HP := Lib.hid hp; have HRD := Lib.hid hrd; have HW := Lib.hid hw; have HOK := Lib.hid hok; have HKEY := Lib.hid hkey
    have hsz := hw.size
    by_cases hlt2 : j < n1
    · have hjl : j < L.length := by rw [← HN.out]; exact hlt2
      obtain ⟨b, o, cs, rfl, hb, hbl, hrep, hc⟩ := hs.at_ hjl (by decide)
      obtain ⟨f, hf⟩ : ∃ f, f = L[j] := ⟨_, rfl⟩
      have hdrop : L.drop j = f :: L.drop (j + 1) := by rw [hf]; exact List.drop_eq_getElem_cons hjl
      rw [← hf] at hrep
      obtain ⟨A3, n3, c3, rfl, _, hfn, _⟩ := hrep
      obtain ⟨g0, g1, g2, g3⟩ := cells4 hc
      clear hc hf
      have HS := Lib.hid hs; clear hs
      have HD := Lib.hid hdrop; clear hdrop hkey hok hw
      by_cases h3 : j < 3
      · have h3' : ¬ (3 : Int) ≤ (j : Int) := by omega
        obtain ⟨u, hu⟩ := kcs_get kk j h3
        obtain ⟨wb, hwb, hBb, hCb, hSb, hKb⟩ := boxed wr [.int .i64 f.tag, .bool f.bytes, .int .u64 (f.n : Int), .slice A3 n3 c3] 80
        have HBb := Lib.hid hBb
        have c1' : wb.cell? ⟨w.heap.size + 1, j, none⟩ = some (.pointer (some ⟨w.heap.size, j, none⟩)) := by rw [Lib.cell_of_heap (below_heap hBb HP.out)]; exact pcs_get _ j h3
        have c2' : wb.cell? ⟨wr.heap.size, 2, none⟩ = some (.int .u64 (f.n : Int)) := hCb 2 _ rfl
        have c3' : wb.cell? ⟨w.heap.size, j, none⟩ = some u := by rw [Lib.cell_of_heap (below_heap hBb HK.out)]; exact hu
        have f3' := Lib.frozen_of_heap (below_heap hBb HK.out) j
        have hlw : w.heap.size < wr.heap.size := by omega
        have hne1 : ¬ w.heap.size = wr.heap.size := by omega
        have HSZ := Lib.hid hSb
        have hz := zagI_bd f.n hfn
        clear hCb hKb hSb hBb hk hp hrd hu
        go_wp2_with fail
        rw [← hwb]
        clear hwb
        go_region_held3 (fun w' => w'.cell? ⟨w.heap.size + 1, j, none⟩ = some (.pointer (some ⟨w.heap.size, j, none⟩)) ∧ w'.cell? ⟨wr.heap.size, 2, none⟩ = some (.int .u64 (f.n : Int)))
          (first | exact ⟨c1', c2'⟩ | assumption | go_keep)
          (first
            | (go_at_call 87; refine (zag_any f.n _ hfn).mono ?_; rintro e w' ⟨rfl, rfl⟩))
        all_goals
          go_wp2_with fail
          go_roundw
          case rel =>
            refine ⟨j + 1, kk.put j (zagI f.n), by omega, by omega, by go_num, ?_, ?_, ?_, ?_, ?_, kput_ok HOK.out ⟨hz.1, hz.2⟩ j, ?_⟩
            · exact heap_set (below_heap HBb.out HK.out) (kcs_put kk j h3 _)
            · exact heap_setne (below_heap HBb.out HP.out) (by omega)
            · exact heap_setne (HRD.out.below HBb.out) (by omega)
            · exact grown_drew (grown_setnew (grown_trans HW.out (grown_of_below HBb.out)) (Nat.le_refl _) _ _)
            · exact slsetc ((HS.out.below HBb.out (Nat.le_refl _)).drew) (by omega) _
            · rw [← HKEY.out, HD.out, keyOf, if_neg (by omega)]
          case measure => simp [intOf]; omega
      · have hj4 : j = 3 := by omega
        have h3' : (3 : Int) ≤ (j : Int) := by omega
        have hkey := HKEY.out
        rw [HD.out, keyOf, if_pos (by omega)] at hkey
        have HKEY2 := Lib.hid hkey
        obtain ⟨wb, hwb, hBb, _, hSb, _⟩ := boxed wr [.int .i64 f.tag, .bool f.bytes, .int .u64 (f.n : Int), .slice A3 n3 c3] 80
        have HBb := Lib.hid hBb
        have q0 := (hrd.below hBb).cell
        have f0 := Lib.frozen_of_heap (hrd.below hBb) 0
        have k0 : wb.cell? ⟨w.heap.size, 0, none⟩ = some (.int .i64 kk.id) := by rw [Lib.cell_of_heap (below_heap hBb HK.out)]; rfl
        have k1 : wb.cell? ⟨w.heap.size, 1, none⟩ = some (.int .i64 kk.bucket) := by rw [Lib.cell_of_heap (below_heap hBb HK.out)]; rfl
        have k2 : wb.cell? ⟨w.heap.size, 2, none⟩ = some (.int .i64 kk.row) := by rw [Lib.cell_of_heap (below_heap hBb HK.out)]; rfl
        have p0 := Lib.frozen_of_heap (below_heap hBb HK.out) 0
        have p1 := Lib.frozen_of_heap (below_heap hBb HK.out) 1
        have p2 := Lib.frozen_of_heap (below_heap hBb HK.out) 2
        have hne1 : ¬ g = w.heap.size := by omega
        have hne2 : ¬ w.heap.size = g := by omega
        clear hkey hk hp hrd hj4 hSb hBb
        go_upto_region 6 with fail
        rw [← hwb]
        clear hwb
        go_wp2_with fail
        refine bodyPost_ret (results_cell_row rfl _ _ w.heap.size 60 (kcs kk) (0, 0) _ rfl (heap_set (cs := kcs kk) (heap_set (cs := kcs kk) (heap_set (cs := kcs kk) (heap_setne (below_heap HBb.out HK.out) (Ne.symm hne1)) rfl) rfl) rfl) Tryd.underlying60 rfl (by kernel_rfl)) rfl ⟨?_, ?_, ?_, ?_⟩
        · rw [show (rdKey l).2 = kk by simp only [rdKey]; rw [← HLL.out, ← HKEY2.out]]
        · exact grown_setnew (grown_setnew (grown_setnew (grown_set (grown_trans HW.out (grown_of_below HBb.out)) _ _) (Nat.le_refl _) _ _) (Nat.le_refl _) _ _) (Nat.le_refl _) _ _
        · rw [show (bad || (rdKey l).1) = true by simp only [rdKey]; rw [← HLL.out, ← HKEY2.out]; simp]
          exact heap_setne (heap_setne (heap_setne ((HRD.out.below HBb.out).set true) hne1) hne1) hne1
        · rw [show (rdKey l).2 = kk by simp only [rdKey]; rw [← HLL.out, ← HKEY2.out]]; exact HOK.out
    · obtain rfl : j = n1 := by omega
      have hkey := HKEY.out
      rw [List.drop_of_length_le (by rw [← HN.out]; exact Nat.le_refl _), keyOf] at hkey
      have HKEY2 := Lib.hid hkey
      have k0 : wr.cell? ⟨w.heap.size, 0, none⟩ = some (.int .i64 kk.id) := by rw [Lib.cell_of_heap (HK.out)]; rfl
      have k1 : wr.cell? ⟨w.heap.size, 1, none⟩ = some (.int .i64 kk.bucket) := by rw [Lib.cell_of_heap (HK.out)]; rfl
      have k2 : wr.cell? ⟨w.heap.size, 2, none⟩ = some (.int .i64 kk.row) := by rw [Lib.cell_of_heap (HK.out)]; rfl
      have p0 := Lib.frozen_of_heap (HK.out) 0
      have p1 := Lib.frozen_of_heap (HK.out) 1
      have p2 := Lib.frozen_of_heap (HK.out) 2
      have hne1 : ¬ g = w.heap.size := by omega
      clear hkey hk hp hrd
      go_wp2_with fail
      refine bodyPost_ret (results_cell_row rfl _ _ w.heap.size 60 (kcs kk) (0, 0) _ rfl (heap_set (cs := kcs kk) (heap_set (cs := kcs kk) (heap_set (cs := kcs kk) HK.out rfl) rfl) rfl) Tryd.underlying60 rfl (by kernel_rfl)) rfl ⟨?_, ?_, ?_, ?_⟩
      · rw [show (rdKey l).2 = kk by simp only [rdKey]; rw [← HLL.out, ← HKEY2.out]]
      · exact grown_setnew (grown_setnew (grown_setnew HW.out (Nat.le_refl _) _ _) (Nat.le_refl _) _ _) (Nat.le_refl _) _ _
      · rw [show (bad || (rdKey l).1) = b1 by simp only [rdKey]; rw [← HLL.out, ← HKEY2.out, HBB.out]; simp]
        exact heap_setne (heap_setne (heap_setne HRD.out hne1) hne1) hne1
      · rw [show (rdKey l).2 = kk by simp only [rdKey]; rw [← HLL.out, ← HKEY2.out]]; exact HOK.out
end Go.Proofs.YtojenpjafgfpaaaDoor
