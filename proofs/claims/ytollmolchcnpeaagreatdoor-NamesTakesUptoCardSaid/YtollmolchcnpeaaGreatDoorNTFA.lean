/- names.TakeFile at any path. (Printed by gen_ntfa.py.) -/
import Derived.Test.YtollmolchcnpeaaGreatDoorNTakeA
namespace Go.Proofs.YtollmolchcnpeaaGreatDoor
open Go Go.RowKit

def TfPost (s : List UInt8) (w : World) (e : Ending) (w' : World) : Prop := ∃ d k b, e = .returned (.tuple #[.agg #[.int .i64 d.kind, .int .i64 d.lo, .int .i64 d.hi], .int .i64 k, .bool b]) ∧ ntf s = (d, k, b) ∧ Below w.heap.size w w'
theorem cut_lens (s sep : List UInt8) : (Lib.cut s sep).1.length ≤ s.length ∧ (Lib.cut s sep).2.1.length ≤ s.length := by
  unfold Lib.cut
  split <;> simp <;> omega

set_option maxRecDepth 100000 in
set_option maxHeartbeats 4000000 in
theorem ntf_any (f : List UInt8) (hs : f.length < 4294967281) (mx : Int) (w : World) (hm : w.cell? ⟨2, 0, none⟩ = some (.int .i64 mx)) (ht : Tab w) (he : ErrVars w) :
    Calls Tryz.prog 7 #[.string ⟨f.toArray⟩] w (TfPost f w) := by
  obtain ⟨p, c, okc, hc⟩ : ∃ p c b, Lib.cut f buck = (p, c, b) := ⟨_, _, _, rfl⟩
  have hl := cut_lens f buck
  rw [hc] at hl
  dsimp only at hl
  have HPL := Lib.hid (show p.length < 4294967281 by omega)
  have HCL := Lib.hid (show c.length ≤ 281474976710656 by omega)
  have HFL := Lib.hid hs
  have HB0 := Lib.hid (show Below w.heap.size w (w.alloc (.cells #[.int .i64 0, .int .i64 0, .int .i64 0] 24)) from (Below.refl _ _).alloc (Nat.le_refl _) _)
  have HM := Lib.hid hm; have HT := Lib.hid ht; have HC := Lib.hid hc; have HE := Lib.hid he
  clear hm ht hc hl he hs
  go_enter Tryz.func7, Tryz.ntmps7
  go_upto_region 3 with (first
    | (go_at_call 16; refine (cut_p f HFL.out mx _ (kcell HB0.out HM.out) _ _ _ HC.out).mono ?_; rintro e w1 ⟨rfl, hb1⟩; have HB1 := Lib.hid (HB0.out.trans (hb1.mono (by simp))); have HR1 := Lib.hid (show w1.heap[w.heap.size]? = some (.cells #[.int .i64 0, .int .i64 0, .int .i64 0] 24 (0, 0)) from (hb1.block _ (by simp)).trans (heap_alloc_new w _)); have hz1 : w.heap.size < w1.heap.size := (by have := hb1.size; simp at this; omega); clear hb1)
    | (go_at_call 5; refine (ntake_any p HPL.out mx _ (kcell HB1.out HM.out) (HT.out.below HB1.out) (HE.out.below HB1.out)).mono ?_; rintro e w2 ⟨d, is, rfl, hd, hb2⟩; have HD := Lib.hid hd; have HB2 := Lib.hid (HB1.out.trans (hb2.mono (by omega))); have HR2 := Lib.hid ((hb2.block _ hz1).trans HR1.out); have hz2 : w.heap.size < w2.heap.size := (by have := hb2.size; omega); clear hb2 hd)
    | fail)
  obtain ⟨wd, hwd⟩ : ∃ wd, wd = w2.alloc (.cells #[.int .i64 d.kind, .int .i64 d.lo, .int .i64 d.hi] 24) := ⟨_, rfl⟩
  rw [← hwd]
  have hsd : wd.heap.size = w2.heap.size + 1 := by rw [hwd, World.size_alloc]
  have hbd : Below w2.heap.size w2 wd := by rw [hwd]; exact (Below.refl _ _).alloc (Nat.le_refl _) _
  have HDD := Lib.hid (show wd.heap[w2.heap.size]? = some (.cells #[.int .i64 d.kind, .int .i64 d.lo, .int .i64 d.hi] 24 (0, 0)) by rw [hwd]; exact heap_alloc_new _ _)
  have HBD := Lib.hid (HB2.out.trans (hbd.mono (by omega)))
  have HRD := Lib.hid ((hbd.block _ hz2).trans HR2.out)
  have hzd : w.heap.size < wd.heap.size := by omega
  obtain ⟨D, hD⟩ : ∃ D, D = w2.heap.size := ⟨_, rfl⟩
  rw [← hD] at HDD hsd ⊢
  have HZD := Lib.hid (show D < wd.heap.size by omega)
  clear hwd hbd hD hsd
  by_cases hat : ∃ k, Lib.atoiAll c = .ok k
  · obtain ⟨k, hk⟩ := hat
    have HA := Lib.hid hk
    have HKI := Lib.hid (show i64 k from Lib.atoiAll_bounds hk)
    clear hk
    go_upto_region 4 with (first
      | (go_at_call 12; refine (atoi_p c k HA.out (by have := HCL.out; omega) _).mono ?_; rintro e w3 ⟨rfl, hb3⟩; have HB3 := Lib.hid (HBD.out.trans (hb3.mono (by omega))); have HR3 := Lib.hid ((hb3.block _ hzd).trans HRD.out); have HD3 := Lib.hid ((hb3.block _ HZD.out).trans HDD.out); have hz3 : w.heap.size < w3.heap.size := (by have := hb3.size; omega); clear hb3)
      | fail)
    cases okc with
    | false =>
      have r0 := Lib.frozen_of_heap HR3.out 0
      have r1 := Lib.frozen_of_heap HR3.out 1
      have r2 := Lib.frozen_of_heap HR3.out 2
      have z0 : w3.cell? ⟨w.heap.size, 0, none⟩ = some (.int .i64 0) := by rw [Lib.cell_of_heap HR3.out]; rfl
      have z1 : w3.cell? ⟨w.heap.size, 1, none⟩ = some (.int .i64 0) := by rw [Lib.cell_of_heap HR3.out]; rfl
      have z2 : w3.cell? ⟨w.heap.size, 2, none⟩ = some (.int .i64 0) := by rw [Lib.cell_of_heap HR3.out]; rfl
      go_wp2_with fail
      refine bodyPost_ret (results_row3 rfl _ _ w.heap.size 24 #[.int .i64 0, .int .i64 0, .int .i64 0] (0, 0) _ rfl (heap_set (heap_set (heap_set HR3.out rfl) rfl) rfl) Tryz.underlying24 rfl (by kernel_rfl)) rfl ?_
      exact ⟨DD.zero, 0, false, rfl, tf_none (by rw [HC.out]; intro d b h1; cases h1), bsetc (bsetc (bsetc HB3.out (Nat.le_refl _) _) (Nat.le_refl _) _) (Nat.le_refl _) _⟩
    | true =>
      cases is with
      | false =>
        have r0 := Lib.frozen_of_heap HR3.out 0
        have r1 := Lib.frozen_of_heap HR3.out 1
        have r2 := Lib.frozen_of_heap HR3.out 2
        have z0 : w3.cell? ⟨w.heap.size, 0, none⟩ = some (.int .i64 0) := by rw [Lib.cell_of_heap HR3.out]; rfl
        have z1 : w3.cell? ⟨w.heap.size, 1, none⟩ = some (.int .i64 0) := by rw [Lib.cell_of_heap HR3.out]; rfl
        have z2 : w3.cell? ⟨w.heap.size, 2, none⟩ = some (.int .i64 0) := by rw [Lib.cell_of_heap HR3.out]; rfl
        go_wp2_with fail
        refine bodyPost_ret (results_row3 rfl _ _ w.heap.size 24 #[.int .i64 0, .int .i64 0, .int .i64 0] (0, 0) _ rfl (heap_set (heap_set (heap_set HR3.out rfl) rfl) rfl) Tryz.underlying24 rfl (by kernel_rfl)) rfl ?_
        exact ⟨DD.zero, 0, false, rfl, tf_none (by rw [HC.out]; intro d b _ h2; rw [HD.out] at h2; cases h2), bsetc (bsetc (bsetc HB3.out (Nat.le_refl _) _) (Nat.le_refl _) _) (Nat.le_refl _) _⟩
      | true =>
        obtain ⟨g, hg⟩ : ∃ g, g = nfile d k := ⟨_, rfl⟩
        have HF := Lib.hid hg
        clear hg
        have d0 : w3.cell? ⟨D, 0, none⟩ = some (.int .i64 d.kind) := by rw [Lib.cell_of_heap HD3.out]; rfl
        have d1 : w3.cell? ⟨D, 1, none⟩ = some (.int .i64 d.lo) := by rw [Lib.cell_of_heap HD3.out]; rfl
        have d2 : w3.cell? ⟨D, 2, none⟩ = some (.int .i64 d.hi) := by rw [Lib.cell_of_heap HD3.out]; rfl
        by_cases hfs : g = f
        · have t0 : (g == f) = true := by simpa using hfs
          have HFS := Lib.hid hfs
          clear hfs
          go_upto_region 6 with (first
            | (go_at_call 17; refine (nfile_any d k HKI.out g HF.out _ (HT.out.below HB3.out)).mono ?_; rintro e w4 ⟨rfl, hb4⟩; have HB4 := Lib.hid (HB3.out.trans (hb4.mono (by omega))); have HR4 := Lib.hid ((hb4.block _ hz3).trans HR3.out); have e0 := kcell hb4 d0; have e1 := kcell hb4 d1; have e2 := kcell hb4 d2; clear hb4)
            | fail)
          have hfs := HFS.out
          have r0 := Lib.frozen_of_heap HR4.out 0
          have r1 := Lib.frozen_of_heap HR4.out 1
          have r2 := Lib.frozen_of_heap HR4.out 2
          have z0 : w4.cell? ⟨w.heap.size, 0, none⟩ = some (.int .i64 0) := by rw [Lib.cell_of_heap HR4.out]; rfl
          have z1 : w4.cell? ⟨w.heap.size, 1, none⟩ = some (.int .i64 0) := by rw [Lib.cell_of_heap HR4.out]; rfl
          have z2 : w4.cell? ⟨w.heap.size, 2, none⟩ = some (.int .i64 0) := by rw [Lib.cell_of_heap HR4.out]; rfl
          go_wp2_with fail
          refine bodyPost_ret (results_row3 rfl _ _ w.heap.size 24 #[.int .i64 d.kind, .int .i64 d.lo, .int .i64 d.hi] (0, 0) _ rfl (heap_set (cs' := #[.int .i64 d.kind, .int .i64 d.lo, .int .i64 d.hi]) (heap_set (cs' := #[.int .i64 d.kind, .int .i64 d.lo, .int .i64 0]) (heap_set (cs' := #[.int .i64 d.kind, .int .i64 0, .int .i64 0]) HR4.out rfl) rfl) rfl) Tryz.underlying24 rfl (by kernel_rfl)) rfl ?_
          exact ⟨d, k, true, rfl, tf_some (by rw [HC.out]) (HF.out.symm.trans hfs), bsetc (bsetc (bsetc HB4.out (Nat.le_refl _) _) (Nat.le_refl _) _) (Nat.le_refl _) _⟩
        · have t0 : (g == f) = false := by simpa using hfs
          have HFS := Lib.hid hfs
          clear hfs
          go_upto_region 5 with (first
            | (go_at_call 17; refine (nfile_any d k HKI.out g HF.out _ (HT.out.below HB3.out)).mono ?_; rintro e w4 ⟨rfl, hb4⟩; have HB4 := Lib.hid (HB3.out.trans (hb4.mono (by omega))); have HR4 := Lib.hid ((hb4.block _ hz3).trans HR3.out); have e0 := kcell hb4 d0; have e1 := kcell hb4 d1; have e2 := kcell hb4 d2; clear hb4)
            | fail)
          have r0 := Lib.frozen_of_heap HR4.out 0
          have r1 := Lib.frozen_of_heap HR4.out 1
          have r2 := Lib.frozen_of_heap HR4.out 2
          have z0 : w4.cell? ⟨w.heap.size, 0, none⟩ = some (.int .i64 0) := by rw [Lib.cell_of_heap HR4.out]; rfl
          have z1 : w4.cell? ⟨w.heap.size, 1, none⟩ = some (.int .i64 0) := by rw [Lib.cell_of_heap HR4.out]; rfl
          have z2 : w4.cell? ⟨w.heap.size, 2, none⟩ = some (.int .i64 0) := by rw [Lib.cell_of_heap HR4.out]; rfl
          go_wp2_with fail
          refine bodyPost_ret (results_row3 rfl _ _ w.heap.size 24 #[.int .i64 0, .int .i64 0, .int .i64 0] (0, 0) _ rfl (heap_set (heap_set (heap_set HR4.out rfl) rfl) rfl) Tryz.underlying24 rfl (by kernel_rfl)) rfl ?_
          exact ⟨DD.zero, 0, false, rfl, tf_none (by rw [HC.out]; intro d' b _ h2 h3 h4; rw [HD.out] at h2; injection h2 with h2 _; rw [HA.out] at h3; injection h3 with h3; subst h2 h3; exact HFS.out (HF.out.trans h4)), bsetc (bsetc (bsetc HB4.out (Nat.le_refl _) _) (Nat.le_refl _) _) (Nat.le_refl _) _⟩
  · have HA := Lib.hid (show ∀ v, Lib.atoiAll c ≠ .ok v from fun v hv => hat ⟨v, hv⟩)
    clear hat
    go_upto_region 4 with (first
      | (go_at_call 12; refine (atoi_bad c HA.out HCL.out _ (HE.out.below HBD.out)).mono ?_; rintro e w3 ⟨k, M, rfl, hb3⟩; have HB3 := Lib.hid (HBD.out.trans (hb3.mono (by omega))); have HR3 := Lib.hid ((hb3.block _ hzd).trans HRD.out); clear hb3)
      | fail)
    cases okc with
    | false =>
      have r0 := Lib.frozen_of_heap HR3.out 0
      have r1 := Lib.frozen_of_heap HR3.out 1
      have r2 := Lib.frozen_of_heap HR3.out 2
      have z0 : w3.cell? ⟨w.heap.size, 0, none⟩ = some (.int .i64 0) := by rw [Lib.cell_of_heap HR3.out]; rfl
      have z1 : w3.cell? ⟨w.heap.size, 1, none⟩ = some (.int .i64 0) := by rw [Lib.cell_of_heap HR3.out]; rfl
      have z2 : w3.cell? ⟨w.heap.size, 2, none⟩ = some (.int .i64 0) := by rw [Lib.cell_of_heap HR3.out]; rfl
      go_wp2_with fail
      refine bodyPost_ret (results_row3 rfl _ _ w.heap.size 24 #[.int .i64 0, .int .i64 0, .int .i64 0] (0, 0) _ rfl (heap_set (heap_set (heap_set HR3.out rfl) rfl) rfl) Tryz.underlying24 rfl (by kernel_rfl)) rfl ?_
      exact ⟨DD.zero, 0, false, rfl, tf_none (by rw [HC.out]; intro d b h1; cases h1), bsetc (bsetc (bsetc HB3.out (Nat.le_refl _) _) (Nat.le_refl _) _) (Nat.le_refl _) _⟩
    | true =>
      cases is with
      | false =>
        have r0 := Lib.frozen_of_heap HR3.out 0
        have r1 := Lib.frozen_of_heap HR3.out 1
        have r2 := Lib.frozen_of_heap HR3.out 2
        have z0 : w3.cell? ⟨w.heap.size, 0, none⟩ = some (.int .i64 0) := by rw [Lib.cell_of_heap HR3.out]; rfl
        have z1 : w3.cell? ⟨w.heap.size, 1, none⟩ = some (.int .i64 0) := by rw [Lib.cell_of_heap HR3.out]; rfl
        have z2 : w3.cell? ⟨w.heap.size, 2, none⟩ = some (.int .i64 0) := by rw [Lib.cell_of_heap HR3.out]; rfl
        go_wp2_with fail
        refine bodyPost_ret (results_row3 rfl _ _ w.heap.size 24 #[.int .i64 0, .int .i64 0, .int .i64 0] (0, 0) _ rfl (heap_set (heap_set (heap_set HR3.out rfl) rfl) rfl) Tryz.underlying24 rfl (by kernel_rfl)) rfl ?_
        exact ⟨DD.zero, 0, false, rfl, tf_none (by rw [HC.out]; intro d b _ h2; rw [HD.out] at h2; cases h2), bsetc (bsetc (bsetc HB3.out (Nat.le_refl _) _) (Nat.le_refl _) _) (Nat.le_refl _) _⟩
      | true =>
        have r0 := Lib.frozen_of_heap HR3.out 0
        have r1 := Lib.frozen_of_heap HR3.out 1
        have r2 := Lib.frozen_of_heap HR3.out 2
        have z0 : w3.cell? ⟨w.heap.size, 0, none⟩ = some (.int .i64 0) := by rw [Lib.cell_of_heap HR3.out]; rfl
        have z1 : w3.cell? ⟨w.heap.size, 1, none⟩ = some (.int .i64 0) := by rw [Lib.cell_of_heap HR3.out]; rfl
        have z2 : w3.cell? ⟨w.heap.size, 2, none⟩ = some (.int .i64 0) := by rw [Lib.cell_of_heap HR3.out]; rfl
        go_wp2_with fail
        refine bodyPost_ret (results_row3 rfl _ _ w.heap.size 24 #[.int .i64 0, .int .i64 0, .int .i64 0] (0, 0) _ rfl (heap_set (heap_set (heap_set HR3.out rfl) rfl) rfl) Tryz.underlying24 rfl (by kernel_rfl)) rfl ?_
        exact ⟨DD.zero, 0, false, rfl, tf_none (by rw [HC.out]; intro d b _ _ h3; exact absurd h3 (HA.out b)), bsetc (bsetc (bsetc HB3.out (Nat.le_refl _) _) (Nat.le_refl _) _) (Nat.le_refl _) _⟩
end Go.Proofs.YtollmolchcnpeaaGreatDoor
