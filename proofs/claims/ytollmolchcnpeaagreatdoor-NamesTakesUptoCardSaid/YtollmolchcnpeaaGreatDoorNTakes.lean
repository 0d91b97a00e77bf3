/- The law NamesTakes: Take and TakeFile, as the reference says: its walk. (Printed by gen_ntakes.py.) -/
import Derived.Test.YtollmolchcnpeaaGreatDoorNRTF
namespace Go.Proofs.YtollmolchcnpeaaGreatDoor
open Go Go.RowKit

set_option maxRecDepth 100000 in
set_option maxHeartbeats 4000000 in
theorem ntakes_any (s : List UInt8) (hs : s.length < 4294967281) (mx : Int) (w : World) (hm : w.cell? ⟨2, 0, none⟩ = some (.int .i64 mx)) (ht : Tab w) (he : ErrVars w) :
    Calls Tryz.prog 3 #[.string ⟨s.toArray⟩] w fun e w' => e = .returned (.bool true) ∧ Below w.heap.size w w' := by
  have HS := Lib.hid hs; have HM := Lib.hid hm; have HT := Lib.hid ht; have HE := Lib.hid he
  clear hs hm ht he
  go_enter Tryz.func3, Tryz.ntmps3
  go_upto_region 2 with (first
    | (go_at_call 4; refine (nshown_any _ HT.out).mono ?_; rintro e w1 ⟨rfl, hb1⟩; have HB1 := Lib.hid hb1; clear hb1)
    | fail)
  go_upto_region 3 with (first
    | (go_at_call 5; refine (ntake_any s HS.out mx _ (kcell HB1.out HM.out) (HT.out.below HB1.out) (HE.out.below HB1.out)).mono ?_; rintro e v1 ⟨d1, b1, rfl, hd, hb⟩; have HR1 := Lib.hid hd; have HBv1 := Lib.hid (HB1.out.trans (hb.mono HB1.out.size)); clear hd hb)
    | fail)
  obtain ⟨X1, hX⟩ : ∃ X, X = v1.heap.size := ⟨_, rfl⟩
  obtain ⟨u1, hu⟩ : ∃ u, u = v1.alloc (.cells #[.int .i64 d1.kind, .int .i64 d1.lo, .int .i64 d1.hi] 24) := ⟨_, rfl⟩
  have hx : u1.heap[X1]? = some (.cells #[.int .i64 d1.kind, .int .i64 d1.lo, .int .i64 d1.hi] 24 (0, 0)) := by rw [hu, hX]; exact heap_alloc_new _ _
  have hb : Below v1.heap.size v1 u1 := by rw [hu]; exact (Below.refl _ _).alloc (Nat.le_refl _) _
  rw [← hX, ← hu]
  have HX1 := Lib.hid hx
  have HZ1 := Lib.hid (blk_lt hx)
  have HBu1 := Lib.hid (HBv1.out.trans (hb.mono HBv1.out.size))
  clear hX hu hx hb
  go_upto_region 4 with (first
    | (go_at_call 6; refine (rntake_any s (by have := HS.out; omega) _).mono ?_; rintro e v2 ⟨d2, b2, rfl, hd, hb⟩; have HR2 := Lib.hid hd; have HBv2 := Lib.hid (HBu1.out.trans (hb.mono HBu1.out.size)); have HX1v2 := Lib.hid ((hb.block _ HZ1.out).trans HX1.out); have HZ1v2 := Lib.hid (Nat.lt_of_lt_of_le HZ1.out hb.size); clear hd hb)
    | fail)
  obtain ⟨X2, hX⟩ : ∃ X, X = v2.heap.size := ⟨_, rfl⟩
  obtain ⟨u2, hu⟩ : ∃ u, u = v2.alloc (.cells #[.int .i64 d2.kind, .int .i64 d2.lo, .int .i64 d2.hi] 24) := ⟨_, rfl⟩
  have hx : u2.heap[X2]? = some (.cells #[.int .i64 d2.kind, .int .i64 d2.lo, .int .i64 d2.hi] 24 (0, 0)) := by rw [hu, hX]; exact heap_alloc_new _ _
  have hb : Below v2.heap.size v2 u2 := by rw [hu]; exact (Below.refl _ _).alloc (Nat.le_refl _) _
  rw [← hX, ← hu]
  have HX2 := Lib.hid hx
  have HZ2 := Lib.hid (blk_lt hx)
  have HBu2 := Lib.hid (HBv2.out.trans (hb.mono HBv2.out.size))
  have HX1w2 := Lib.hid ((hb.block _ HZ1v2.out).trans HX1v2.out)
  have HZ1w2 := Lib.hid (Nat.lt_of_lt_of_le HZ1v2.out hb.size)
  clear hX hu hx hb
  go_upto_region 5 with (first
    | (go_at_call 7; refine (ntf_any s HS.out mx _ (kcell HBu2.out HM.out) (HT.out.below HBu2.out) (HE.out.below HBu2.out)).mono ?_; rintro e v3 ⟨d3, k3, b3, rfl, hd, hb⟩; have HR3 := Lib.hid hd; have HBv3 := Lib.hid (HBu2.out.trans (hb.mono HBu2.out.size)); have HX1v3 := Lib.hid ((hb.block _ HZ1w2.out).trans HX1w2.out); have HZ1v3 := Lib.hid (Nat.lt_of_lt_of_le HZ1w2.out hb.size); have HX2v3 := Lib.hid ((hb.block _ HZ2.out).trans HX2.out); have HZ2v3 := Lib.hid (Nat.lt_of_lt_of_le HZ2.out hb.size); clear hd hb)
    | fail)
  obtain ⟨X3, hX⟩ : ∃ X, X = v3.heap.size := ⟨_, rfl⟩
  obtain ⟨u3, hu⟩ : ∃ u, u = v3.alloc (.cells #[.int .i64 d3.kind, .int .i64 d3.lo, .int .i64 d3.hi] 24) := ⟨_, rfl⟩
  have hx : u3.heap[X3]? = some (.cells #[.int .i64 d3.kind, .int .i64 d3.lo, .int .i64 d3.hi] 24 (0, 0)) := by rw [hu, hX]; exact heap_alloc_new _ _
  have hb : Below v3.heap.size v3 u3 := by rw [hu]; exact (Below.refl _ _).alloc (Nat.le_refl _) _
  rw [← hX, ← hu]
  have HX3 := Lib.hid hx
  have HZ3 := Lib.hid (blk_lt hx)
  have HBu3 := Lib.hid (HBv3.out.trans (hb.mono HBv3.out.size))
  have HX1w3 := Lib.hid ((hb.block _ HZ1v3.out).trans HX1v3.out)
  have HZ1w3 := Lib.hid (Nat.lt_of_lt_of_le HZ1v3.out hb.size)
  have HX2w3 := Lib.hid ((hb.block _ HZ2v3.out).trans HX2v3.out)
  have HZ2w3 := Lib.hid (Nat.lt_of_lt_of_le HZ2v3.out hb.size)
  clear hX hu hx hb
  go_upto_region 6 with (first
    | (go_at_call 8; refine (rntf_any s HS.out _).mono ?_; rintro e v4 ⟨d4, k4, b4, rfl, hd, hb⟩; have HR4 := Lib.hid hd; have HBv4 := Lib.hid (HBu3.out.trans (hb.mono HBu3.out.size)); have HX1v4 := Lib.hid ((hb.block _ HZ1w3.out).trans HX1w3.out); have HZ1v4 := Lib.hid (Nat.lt_of_lt_of_le HZ1w3.out hb.size); have HX2v4 := Lib.hid ((hb.block _ HZ2w3.out).trans HX2w3.out); have HZ2v4 := Lib.hid (Nat.lt_of_lt_of_le HZ2w3.out hb.size); have HX3v4 := Lib.hid ((hb.block _ HZ3.out).trans HX3.out); have HZ3v4 := Lib.hid (Nat.lt_of_lt_of_le HZ3.out hb.size); clear hd hb)
    | fail)
  obtain ⟨X4, hX⟩ : ∃ X, X = v4.heap.size := ⟨_, rfl⟩
  obtain ⟨u4, hu⟩ : ∃ u, u = v4.alloc (.cells #[.int .i64 d4.kind, .int .i64 d4.lo, .int .i64 d4.hi] 24) := ⟨_, rfl⟩
  have hx : u4.heap[X4]? = some (.cells #[.int .i64 d4.kind, .int .i64 d4.lo, .int .i64 d4.hi] 24 (0, 0)) := by rw [hu, hX]; exact heap_alloc_new _ _
  have hb : Below v4.heap.size v4 u4 := by rw [hu]; exact (Below.refl _ _).alloc (Nat.le_refl _) _
  rw [← hX, ← hu]
  have HX4 := Lib.hid hx
  have HZ4 := Lib.hid (blk_lt hx)
  have HBu4 := Lib.hid (HBv4.out.trans (hb.mono HBv4.out.size))
  have HX1w4 := Lib.hid ((hb.block _ HZ1v4.out).trans HX1v4.out)
  have HZ1w4 := Lib.hid (Nat.lt_of_lt_of_le HZ1v4.out hb.size)
  have HX2w4 := Lib.hid ((hb.block _ HZ2v4.out).trans HX2v4.out)
  have HZ2w4 := Lib.hid (Nat.lt_of_lt_of_le HZ2v4.out hb.size)
  have HX3w4 := Lib.hid ((hb.block _ HZ3v4.out).trans HX3v4.out)
  have HZ3w4 := Lib.hid (Nat.lt_of_lt_of_le HZ3v4.out hb.size)
  clear hX hu hx hb
  obtain ⟨rfl, rfl⟩ : d1 = d2 ∧ b1 = b2 := by have := HR1.out.symm.trans HR2.out; injection this with h1 h2; exact ⟨h1, h2⟩
  obtain ⟨rfl, rfl, rfl⟩ : d3 = d4 ∧ k3 = k4 ∧ b3 = b4 := by have := HR3.out.symm.trans HR4.out; injection this with h1 h2; injection h2 with h2 h3; exact ⟨h1, h2, h3⟩
  have x10 : u4.cell? ⟨X1, 0, none⟩ = some (.int .i64 d1.kind) := by rw [Lib.cell_of_heap HX1w4.out]; rfl
  have x11 : u4.cell? ⟨X1, 1, none⟩ = some (.int .i64 d1.lo) := by rw [Lib.cell_of_heap HX1w4.out]; rfl
  have x12 : u4.cell? ⟨X1, 2, none⟩ = some (.int .i64 d1.hi) := by rw [Lib.cell_of_heap HX1w4.out]; rfl
  have x20 : u4.cell? ⟨X2, 0, none⟩ = some (.int .i64 d1.kind) := by rw [Lib.cell_of_heap HX2w4.out]; rfl
  have x21 : u4.cell? ⟨X2, 1, none⟩ = some (.int .i64 d1.lo) := by rw [Lib.cell_of_heap HX2w4.out]; rfl
  have x22 : u4.cell? ⟨X2, 2, none⟩ = some (.int .i64 d1.hi) := by rw [Lib.cell_of_heap HX2w4.out]; rfl
  have x30 : u4.cell? ⟨X3, 0, none⟩ = some (.int .i64 d3.kind) := by rw [Lib.cell_of_heap HX3w4.out]; rfl
  have x31 : u4.cell? ⟨X3, 1, none⟩ = some (.int .i64 d3.lo) := by rw [Lib.cell_of_heap HX3w4.out]; rfl
  have x32 : u4.cell? ⟨X3, 2, none⟩ = some (.int .i64 d3.hi) := by rw [Lib.cell_of_heap HX3w4.out]; rfl
  have x40 : u4.cell? ⟨X4, 0, none⟩ = some (.int .i64 d3.kind) := by rw [Lib.cell_of_heap HX4.out]; rfl
  have x41 : u4.cell? ⟨X4, 1, none⟩ = some (.int .i64 d3.lo) := by rw [Lib.cell_of_heap HX4.out]; rfl
  have x42 : u4.cell? ⟨X4, 2, none⟩ = some (.int .i64 d3.hi) := by rw [Lib.cell_of_heap HX4.out]; rfl
  go_wp2_with fail
  go_ret
  exact ⟨rfl, HBu4.out⟩
end Go.Proofs.YtollmolchcnpeaaGreatDoor
