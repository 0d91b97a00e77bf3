/- names.Take at a directory's own name, names.TakeFile at a file's own path. -/
import Derived.Test.YtollmolchcnpeaaDoorNTake
namespace Go.Proofs.YtollmolchcnpeaaDoor
open Go Go.RowKit

theorem ntake_good (d : DD) (hd : may d = true) (s : List UInt8) (hs : s = nput d) (mx : Int) (w : World) (hm : w.cell? ⟨2, 0, none⟩ = some (.int .i64 mx)) (ht : Tab w) :
    Calls Tryd.prog 17 #[.string ⟨s.toArray⟩] w fun e w' => e = .returned (.tuple #[.agg #[.int .i64 d.kind, .int .i64 d.lo, .int .i64 d.hi], .bool true]) ∧ Below w.heap.size w w' := by
  have hb := (may_iff d).1 hd
  have hp := pieces_nput hd
  rw [← hs] at hp
  have hl : s.length < 4294967281 := by rw [hs]; have := nput_len d; omega
  have key : ∀ ps ns, pieces s = word d.kind :: ps → ps ≠ [] → ps.length ≤ 4294967296 → Nums ps ns → Calls Tryd.prog 17 #[.string ⟨s.toArray⟩] w fun e w' => e = .returned (.tuple #[.agg #[.int .i64 d.kind, .int .i64 d.lo, .int .i64 d.hi], .bool true]) ∧ Below w.heap.size w w' := fun ps ns h1 h2 h3 h4 =>
    (ntake_ok s hl mx w hm ht _ ps h1 h2 h3 ns h4).mono fun e w' ⟨d', b, he, hn, hb⟩ => by
      rw [ntake_yes hd hs.symm] at hn
      cases hn
      exact ⟨he, hb⟩
  by_cases h1 : d.kind = 1
  · rw [if_pos h1] at hp
    exact key _ [d.hi] hp (by simp) (by simp) (by unfold Nums; rw [List.map_cons, List.map_nil, atoi_digs (by omega) (by omega)]; rfl)
  · rw [if_neg h1] at hp
    exact key _ [d.lo, d.hi] hp (by simp) (by simp) (by unfold Nums; rw [List.map_cons, List.map_cons, List.map_nil, atoi_digs (by omega) (by omega), atoi_digs (by omega) (by omega)]; rfl)

set_option maxRecDepth 100000 in
set_option maxHeartbeats 4000000 in
theorem ntf_good (d : DD) (k : Int) (hd : may d = true) (h0 : 0 ≤ k) (h4 : k < 4) (f : List UInt8) (hf : f = nfile d k) (mx : Int) (w : World) (hm : w.cell? ⟨2, 0, none⟩ = some (.int .i64 mx)) (ht : Tab w) :
    Calls Tryd.prog 18 #[.string ⟨f.toArray⟩] w fun e w' => e = .returned (.tuple #[.agg #[.int .i64 d.kind, .int .i64 d.lo, .int .i64 d.hi], .int .i64 k, .bool true]) ∧ Below w.heap.size w w' := by
  have hne : nfile d k ≠ [] := by rw [nfile_eq hd h0 h4]; simp [buck]
  have hc := cut_file hne
  rw [← hf] at hc
  obtain ⟨p, hp⟩ : ∃ p, p = nput d := ⟨_, rfl⟩
  obtain ⟨c, hcc⟩ : ∃ c, c = [UInt8.ofNat (48 + k.toNat)] := ⟨_, rfl⟩
  have ha := atoi_one h0 h4
  rw [← hcc] at ha
  rw [← hcc, ← hp] at hc
  have hcl : c.length ≤ 9223372036854775806 := by rw [hcc]; simp
  have hfl : f.length < 4294967281 := by
    rw [hf, nfile_eq hd h0 h4]
    have := nput_len d
    simp [buck]; omega
  have HK := Lib.hid (show i64 k by unfold i64; omega)
  have HFL := Lib.hid hfl; have HCL := Lib.hid hcl
  have HB0 := Lib.hid (show Below w.heap.size w (w.alloc (.cells #[.int .i64 0, .int .i64 0, .int .i64 0] 28)) from (Below.refl _ _).alloc (Nat.le_refl _) _)
  have HM := Lib.hid hm; have HT := Lib.hid ht; have HD := Lib.hid hd; have HF := Lib.hid hf; have HC := Lib.hid hc; have HP := Lib.hid hp; have HA := Lib.hid ha
  clear hm ht hd hf hc hp hcc hne hfl hcl ha h0 h4
  go_enter Tryd.func18, Tryd.ntmps18
  go_upto_region 3 with (first
    | (go_at_call 33; refine (cut_p f HFL.out mx _ (kcell HB0.out HM.out) _ _ _ HC.out).mono ?_; rintro e w1 ⟨rfl, hb1⟩; have HB1 := Lib.hid (HB0.out.trans (hb1.mono (by simp))); have HR1 := Lib.hid (show w1.heap[w.heap.size]? = some (.cells #[.int .i64 0, .int .i64 0, .int .i64 0] 28 (0, 0)) from (hb1.block _ (by simp)).trans (heap_alloc_new w _)); have hz1 : w.heap.size < w1.heap.size := (by have := hb1.size; simp at this; omega); clear hb1)
    | (go_at_call 17; refine (ntake_good d HD.out p HP.out mx _ (kcell HB1.out HM.out) (HT.out.below HB1.out)).mono ?_; rintro e w2 ⟨rfl, hb2⟩; have HB2 := Lib.hid (HB1.out.trans (hb2.mono (by omega))); have HR2 := Lib.hid ((hb2.block _ hz1).trans HR1.out); have hz2 : w.heap.size < w2.heap.size := (by have := hb2.size; omega); clear hb2)
    | fail)
  obtain ⟨wd, hwd⟩ : ∃ wd, wd = w2.alloc (.cells #[.int .i64 d.kind, .int .i64 d.lo, .int .i64 d.hi] 28) := ⟨_, rfl⟩
  rw [← hwd]
  have hsd : wd.heap.size = w2.heap.size + 1 := by rw [hwd, World.size_alloc]
  have hbd : Below w2.heap.size w2 wd := by rw [hwd]; exact (Below.refl _ _).alloc (Nat.le_refl _) _
  have HDD := Lib.hid (show wd.heap[w2.heap.size]? = some (.cells #[.int .i64 d.kind, .int .i64 d.lo, .int .i64 d.hi] 28 (0, 0)) by rw [hwd]; exact heap_alloc_new _ _)
  have HBD := Lib.hid (HB2.out.trans (hbd.mono (by omega)))
  have HRD := Lib.hid ((hbd.block _ hz2).trans HR2.out)
  have hzd : w.heap.size < wd.heap.size := by omega
  obtain ⟨D, hD⟩ : ∃ D, D = w2.heap.size := ⟨_, rfl⟩
  rw [← hD] at HDD hsd ⊢
  have HZD := Lib.hid (show D < wd.heap.size by omega)
  clear hwd hbd hD hsd
  go_upto_region 4 with (first
    | (go_at_call 32; refine (atoi_p c k HA.out HCL.out _).mono ?_; rintro e w3 ⟨rfl, hb3⟩; have HB3 := Lib.hid (HBD.out.trans (hb3.mono (by omega))); have HR3 := Lib.hid ((hb3.block _ hzd).trans HRD.out); have HD3 := Lib.hid ((hb3.block _ HZD.out).trans HDD.out); have hz3 : w.heap.size < w3.heap.size := (by have := hb3.size; omega); clear hb3)
    | fail)
  have d0 : w3.cell? ⟨D, 0, none⟩ = some (.int .i64 d.kind) := by rw [Lib.cell_of_heap HD3.out]; rfl
  have d1 : w3.cell? ⟨D, 1, none⟩ = some (.int .i64 d.lo) := by rw [Lib.cell_of_heap HD3.out]; rfl
  have d2 : w3.cell? ⟨D, 2, none⟩ = some (.int .i64 d.hi) := by rw [Lib.cell_of_heap HD3.out]; rfl
  go_upto_region 6 with (first
    | (go_at_call 15; refine (nfile_any d k HK.out f HF.out _ (HT.out.below HB3.out)).mono ?_; rintro e w4 ⟨rfl, hb4⟩; have HB4 := Lib.hid (HB3.out.trans (hb4.mono (by omega))); have HR4 := Lib.hid ((hb4.block _ hz3).trans HR3.out); have e0 := kcell hb4 d0; have e1 := kcell hb4 d1; have e2 := kcell hb4 d2; have hz4 : w.heap.size < w4.heap.size := (by have := hb4.size; omega); clear hb4)
    | fail)
  have r0 := Lib.frozen_of_heap HR4.out 0
  have r1 := Lib.frozen_of_heap HR4.out 1
  have r2 := Lib.frozen_of_heap HR4.out 2
  have z0 : w4.cell? ⟨w.heap.size, 0, none⟩ = some (.int .i64 0) := by rw [Lib.cell_of_heap HR4.out]; rfl
  have z1 : w4.cell? ⟨w.heap.size, 1, none⟩ = some (.int .i64 0) := by rw [Lib.cell_of_heap HR4.out]; rfl
  have z2 : w4.cell? ⟨w.heap.size, 2, none⟩ = some (.int .i64 0) := by rw [Lib.cell_of_heap HR4.out]; rfl
  go_wp2_with fail
  refine bodyPost_ret (results_row3 rfl _ _ w.heap.size 28 #[.int .i64 d.kind, .int .i64 d.lo, .int .i64 d.hi] (0, 0) _ rfl (heap_set (cs' := #[.int .i64 d.kind, .int .i64 d.lo, .int .i64 d.hi]) (heap_set (cs' := #[.int .i64 d.kind, .int .i64 d.lo, .int .i64 0]) (heap_set (cs' := #[.int .i64 d.kind, .int .i64 0, .int .i64 0]) HR4.out rfl) rfl) rfl) Tryd.underlying28 rfl (by kernel_rfl)) rfl ?_
  exact ⟨rfl, bsetc (bsetc (bsetc HB4.out (Nat.le_refl _) _) (Nat.le_refl _) _) (Nat.le_refl _) _⟩
end Go.Proofs.YtollmolchcnpeaaDoor
