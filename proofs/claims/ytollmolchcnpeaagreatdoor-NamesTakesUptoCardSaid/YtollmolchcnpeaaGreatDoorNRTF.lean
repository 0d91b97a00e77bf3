/- pilasterref24.TakeFile: a file by its path, as the reference reads it. -/
import Derived.Test.YtollmolchcnpeaaGreatDoorNRTake
import Derived.Test.YtollmolchcnpeaaGreatDoorNTFA
namespace Go.Proofs.YtollmolchcnpeaaGreatDoor
open Go Go.RowKit

theorem ba_front (f : List UInt8) (n : Nat) : (⟨f.toArray⟩ : ByteArray).extract 0 n = ⟨(f.take n).toArray⟩ := by
  apply ByteArray.ext
  simp
theorem run_front (f : List UInt8) (n : Nat) (h : n ≤ f.length) (w : World) : (Instr.slice 9 (.string ⟨f.toArray⟩) none (some (.int .i64 (n : Int))) none).run Tryz.prog w = .ok (.string ⟨(f.take n).toArray⟩) w := by
  have hs : (⟨f.toArray⟩ : ByteArray).size = f.length := List.size_toArray ..
  rw [← ba_front]
  simp [Instr.slice, Instr.sliceBounds, Instr.sliceBound, asIntOf, run_underlying undString, hs]
  omega

set_option maxRecDepth 100000 in
set_option maxHeartbeats 4000000 in
theorem rntf_any (f : List UInt8) (hs : f.length < 4294967281) (w : World) : Calls Tryz.prog 8 #[.string ⟨f.toArray⟩] w (TfPost f w) := by
  have HFL := Lib.hid hs
  have HB0 := Lib.hid (show Below w.heap.size w (w.alloc (.cells #[.int .i64 0, .int .i64 0, .int .i64 0] 24)) from (Below.refl _ _).alloc (Nat.le_refl _) _)
  by_cases h9 : 9 < f.length
  · obtain ⟨n, hn⟩ : ∃ n, f.length = n + 9 := ⟨f.length - 9, by omega⟩
    have HN := Lib.hid hn
    have HN1 := Lib.hid h9
    have w1 : wrap64 ((f.length : Int) - 9) = (n : Int) := by unfold wrap64; omega
    have s0 : decide ((n : Int) < 1) = false := decide_eq_false (by omega)
    have hsl := run_front f n (by omega)
    obtain ⟨x, hx⟩ : ∃ x, f[f.length - 1]? = some x := ⟨_, List.getElem?_eq_getElem (by omega)⟩
    obtain ⟨q, hq⟩ : ∃ q, q = n + 8 := ⟨_, rfl⟩
    have hix := run_ix f q (by omega) x (by have := (List.getElem?_eq_some_iff.1 hx).2; rw [← this]; congr 1; omega)
    have w2 : wrap64 ((f.length : Int) - 1) = (q : Int) := by unfold wrap64; omega
    obtain ⟨p, hp⟩ : ∃ p, p = f.take n := ⟨_, rfl⟩
    rw [← hp] at hsl
    obtain ⟨k, hk⟩ : ∃ k : Int, k = (x.toNat : Int) - 48 := ⟨_, rfl⟩
    have hxb := x.toNat_lt
    have w3 : wrap64 (wrap64 (x.toNat : Int) - 48) = k := by unfold wrap64; omega
    have HPL := Lib.hid (show p.length ≤ 9223372036854775807 by rw [hp, List.length_take]; omega)
    have HP := Lib.hid hp; have HX := Lib.hid hx; have HK := Lib.hid hk
    have HKI := Lib.hid (show i64 k by unfold i64; omega)
    clear hs hn h9 hp hx hk hxb hq
    go_enter Tryz.func8, Tryz.ntmps8
    go_upto_region 4 with fail
    rw [w1]
    go_upto_region 5 with (first
      | (go_at_call 6; refine (rntake_any p HPL.out _).mono ?_; rintro e w2' ⟨d, is, rfl, hd, hb2⟩; have HD := Lib.hid hd; have HB2 := Lib.hid (HB0.out.trans (hb2.mono (by simp))); have HR2 := Lib.hid (show w2'.heap[w.heap.size]? = some (.cells #[.int .i64 0, .int .i64 0, .int .i64 0] 24 (0, 0)) from (hb2.block _ (by simp)).trans (heap_alloc_new w _)); have hz2 : w.heap.size < w2'.heap.size := (by have := hb2.size; simp at this; omega); clear hb2 hd)
      | fail)
    obtain ⟨wd, hwd⟩ : ∃ wd, wd = w2'.alloc (.cells #[.int .i64 d.kind, .int .i64 d.lo, .int .i64 d.hi] 24) := ⟨_, rfl⟩
    rw [← hwd]
    have hsd : wd.heap.size = w2'.heap.size + 1 := by rw [hwd, World.size_alloc]
    have hbd : Below w2'.heap.size w2' wd := by rw [hwd]; exact (Below.refl _ _).alloc (Nat.le_refl _) _
    have HDD := Lib.hid (show wd.heap[w2'.heap.size]? = some (.cells #[.int .i64 d.kind, .int .i64 d.lo, .int .i64 d.hi] 24 (0, 0)) by rw [hwd]; exact heap_alloc_new _ _)
    have HBD := Lib.hid (HB2.out.trans (hbd.mono (by omega)))
    have HRD := Lib.hid ((hbd.block _ hz2).trans HR2.out)
    have hzd : w.heap.size < wd.heap.size := by omega
    obtain ⟨D, hD⟩ : ∃ D, D = w2'.heap.size := ⟨_, rfl⟩
    rw [← hD] at HDD hsd ⊢
    have HZD := Lib.hid (show D < wd.heap.size by omega)
    clear hwd hbd hD hsd
    go_upto_region 6 with fail
    rw [w3]
    clear w1 w2 w3 hix hsl s0
    cases is with
    | false =>
      have r0 := Lib.frozen_of_heap HRD.out 0
      have r1 := Lib.frozen_of_heap HRD.out 1
      have r2 := Lib.frozen_of_heap HRD.out 2
      have z0 : wd.cell? ⟨w.heap.size, 0, none⟩ = some (.int .i64 0) := by rw [Lib.cell_of_heap HRD.out]; rfl
      have z1 : wd.cell? ⟨w.heap.size, 1, none⟩ = some (.int .i64 0) := by rw [Lib.cell_of_heap HRD.out]; rfl
      have z2 : wd.cell? ⟨w.heap.size, 2, none⟩ = some (.int .i64 0) := by rw [Lib.cell_of_heap HRD.out]; rfl
      go_wp2_with fail
      refine bodyPost_ret (results_row3 rfl _ _ w.heap.size 24 #[.int .i64 0, .int .i64 0, .int .i64 0] (0, 0) _ rfl (heap_set (heap_set (heap_set HRD.out rfl) rfl) rfl) Tryz.underlying24 rfl (by kernel_rfl)) rfl ?_
      exact ⟨DD.zero, 0, false, rfl, rtf_none (fun hl d' h2 => by have ht : f.take (f.length - 9) = p := (by rw [HP.out, show f.length - 9 = n by have := HN.out; omega]); rw [ht, HD.out] at h2; cases h2), bsetc (bsetc (bsetc HBD.out (Nat.le_refl _) _) (Nat.le_refl _) _) (Nat.le_refl _) _⟩
    | true =>
      obtain ⟨g, hg⟩ : ∃ g, g = nfile d k := ⟨_, rfl⟩
      have HF := Lib.hid hg
      clear hg
      have d0 : wd.cell? ⟨D, 0, none⟩ = some (.int .i64 d.kind) := by rw [Lib.cell_of_heap HDD.out]; rfl
      have d1 : wd.cell? ⟨D, 1, none⟩ = some (.int .i64 d.lo) := by rw [Lib.cell_of_heap HDD.out]; rfl
      have d2 : wd.cell? ⟨D, 2, none⟩ = some (.int .i64 d.hi) := by rw [Lib.cell_of_heap HDD.out]; rfl
      by_cases hfs : g = f
      · have t0 : (g == f) = true := by simpa using hfs
        have HFS := Lib.hid hfs
        clear hfs
        go_upto_region 8 with (first
          | (go_at_call 18; refine (rnfile_any d k g HF.out _).mono ?_; rintro e w4 ⟨rfl, hb4⟩; have HB4 := Lib.hid (HBD.out.trans (hb4.mono (by omega))); have HR4 := Lib.hid ((hb4.block _ hzd).trans HRD.out); have e0 := kcell hb4 d0; have e1 := kcell hb4 d1; have e2 := kcell hb4 d2; clear hb4)
          | fail)
        have r0 := Lib.frozen_of_heap HR4.out 0
        have r1 := Lib.frozen_of_heap HR4.out 1
        have r2 := Lib.frozen_of_heap HR4.out 2
        have z0 : w4.cell? ⟨w.heap.size, 0, none⟩ = some (.int .i64 0) := by rw [Lib.cell_of_heap HR4.out]; rfl
        have z1 : w4.cell? ⟨w.heap.size, 1, none⟩ = some (.int .i64 0) := by rw [Lib.cell_of_heap HR4.out]; rfl
        have z2 : w4.cell? ⟨w.heap.size, 2, none⟩ = some (.int .i64 0) := by rw [Lib.cell_of_heap HR4.out]; rfl
        go_wp2_with fail
        refine bodyPost_ret (results_row3 rfl _ _ w.heap.size 24 #[.int .i64 d.kind, .int .i64 d.lo, .int .i64 d.hi] (0, 0) _ rfl (heap_set (cs' := #[.int .i64 d.kind, .int .i64 d.lo, .int .i64 d.hi]) (heap_set (cs' := #[.int .i64 d.kind, .int .i64 d.lo, .int .i64 0]) (heap_set (cs' := #[.int .i64 d.kind, .int .i64 0, .int .i64 0]) HR4.out rfl) rfl) rfl) Tryz.underlying24 rfl (by kernel_rfl)) rfl ?_
        exact ⟨d, k, true, rfl, rtf_some HN1.out (HF.out.symm.trans HFS.out), bsetc (bsetc (bsetc HB4.out (Nat.le_refl _) _) (Nat.le_refl _) _) (Nat.le_refl _) _⟩
      · have t0 : (g == f) = false := by simpa using hfs
        have HFS := Lib.hid hfs
        clear hfs
        go_upto_region 7 with (first
          | (go_at_call 18; refine (rnfile_any d k g HF.out _).mono ?_; rintro e w4 ⟨rfl, hb4⟩; have HB4 := Lib.hid (HBD.out.trans (hb4.mono (by omega))); have HR4 := Lib.hid ((hb4.block _ hzd).trans HRD.out); have e0 := kcell hb4 d0; have e1 := kcell hb4 d1; have e2 := kcell hb4 d2; clear hb4)
          | fail)
        have r0 := Lib.frozen_of_heap HR4.out 0
        have r1 := Lib.frozen_of_heap HR4.out 1
        have r2 := Lib.frozen_of_heap HR4.out 2
        have z0 : w4.cell? ⟨w.heap.size, 0, none⟩ = some (.int .i64 0) := by rw [Lib.cell_of_heap HR4.out]; rfl
        have z1 : w4.cell? ⟨w.heap.size, 1, none⟩ = some (.int .i64 0) := by rw [Lib.cell_of_heap HR4.out]; rfl
        have z2 : w4.cell? ⟨w.heap.size, 2, none⟩ = some (.int .i64 0) := by rw [Lib.cell_of_heap HR4.out]; rfl
        go_wp2_with fail
        refine bodyPost_ret (results_row3 rfl _ _ w.heap.size 24 #[.int .i64 0, .int .i64 0, .int .i64 0] (0, 0) _ rfl (heap_set (heap_set (heap_set HR4.out rfl) rfl) rfl) Tryz.underlying24 rfl (by kernel_rfl)) rfl ?_
        exact ⟨DD.zero, 0, false, rfl, rtf_none (fun hl d' h2 => by have ht : f.take (f.length - 9) = p := (by rw [HP.out, show f.length - 9 = n by have := HN.out; omega]); rw [ht, HD.out] at h2; injection h2 with h2 _; subst h2; have hq : f[f.length - 1]'(by omega) = x := ((List.getElem?_eq_some_iff.1 HX.out).2); rw [hq, ← HK.out]; exact fun h4 => HFS.out (HF.out.trans h4)), bsetc (bsetc (bsetc HB4.out (Nat.le_refl _) _) (Nat.le_refl _) _) (Nat.le_refl _) _⟩
  · have w1 : wrap64 ((f.length : Int) - 9) = (f.length : Int) - 9 := by unfold wrap64; omega
    have s0 : (f.length : Int) - 9 < 1 := by omega
    have HR0 := Lib.hid (heap_alloc_new w (.cells #[.int .i64 0, .int .i64 0, .int .i64 0] 24))
    have HN9 := Lib.hid h9
    obtain ⟨wa, hwa⟩ : ∃ wa, wa = w.alloc (.cells #[.int .i64 0, .int .i64 0, .int .i64 0] 24) := ⟨_, rfl⟩
    rw [← hwa] at HB0 HR0
    have HWA := Lib.hid hwa
    clear hs h9 hwa
    go_enter Tryz.func8, Tryz.ntmps8
    go_upto_region 3 with fail
    rw [← HWA.out]
    clear HWA
    have r0 := Lib.frozen_of_heap HR0.out 0
    have r1 := Lib.frozen_of_heap HR0.out 1
    have r2 := Lib.frozen_of_heap HR0.out 2
    have z0 : wa.cell? ⟨w.heap.size, 0, none⟩ = some (.int .i64 0) := by rw [Lib.cell_of_heap HR0.out]; rfl
    have z1 : wa.cell? ⟨w.heap.size, 1, none⟩ = some (.int .i64 0) := by rw [Lib.cell_of_heap HR0.out]; rfl
    have z2 : wa.cell? ⟨w.heap.size, 2, none⟩ = some (.int .i64 0) := by rw [Lib.cell_of_heap HR0.out]; rfl
    go_wp2_with fail
    refine bodyPost_ret (results_row3 rfl _ _ w.heap.size 24 #[.int .i64 0, .int .i64 0, .int .i64 0] (0, 0) _ rfl (heap_set (heap_set (heap_set HR0.out rfl) rfl) rfl) Tryz.underlying24 rfl (by kernel_rfl)) rfl ?_
    exact ⟨DD.zero, 0, false, rfl, rtf_none (fun hl => absurd hl HN9.out), bsetc (bsetc (bsetc HB0.out (Nat.le_refl _) _) (Nat.le_refl _) _) (Nat.le_refl _) _⟩
end Go.Proofs.YtollmolchcnpeaaGreatDoor
