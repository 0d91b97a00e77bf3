/- The layer bits: numbers packed bit by bit. bits.Pack: numbers packed. The layer repeat: a number a few times. repeat.Put: a number a few times. direct.Head, Plain. -/
import Derived.Test.YtpmglcachffojaaGreatDoorPk5
import Derived.Laws.OwnMore
namespace Go.Proofs.YtpmglcachffojaaGreatDoor
open Go Go.RowKit

theorem fits_any (m k : Nat) (r : Bool) (hr : r = decide (m ≤ 4096 ∧ k ≤ 64)) (w : World) : Calls Tryz.prog 316 #[.int .i64 (m : Int), .int .i64 (k : Int)] w fun e w' => e = .returned (.bool r) ∧ w = w' := by
  have HR := Lib.hid (show r = (decide ((m : Int) ≤ 4096) && decide ((k : Int) ≤ 64)) by rw [hr, ← Bool.decide_and]; exact decide_eq_decide.2 (by omega))
  clear hr
  have z0 : (0 : Int) ≤ (m : Int) := by omega
  have z1 : (0 : Int) ≤ (k : Int) := by omega
  go_enter Tryz.func316, Tryz.ntmps316
  by_cases h1 : (m : Int) ≤ 4096
  · have e1 : decide ((m : Int) ≤ 4096) = true := decide_eq_true h1
    by_cases h2 : (k : Int) ≤ 64
    · have e2 : decide ((k : Int) ≤ 64) = true := decide_eq_true h2
      rw [e1, e2] at HR
      go_wp2_with fail
      go_ret
      exact ⟨by rw [HR.out]; rfl, rfl⟩
    · have e2 : decide ((k : Int) ≤ 64) = false := decide_eq_false h2
      rw [e1, e2] at HR
      go_wp2_with fail
      go_ret
      exact ⟨by rw [HR.out]; rfl, rfl⟩
  · have e1 : decide ((m : Int) ≤ 4096) = false := decide_eq_false h1
    rw [e1] at HR
    go_wp2_with fail
    go_ret
    exact ⟨by rw [HR.out]; rfl, rfl⟩
theorem size_any (m k : Nat) (hm : m ≤ 4096) (hk : k ≤ 64) (w : World) : Calls Tryz.prog 317 #[.int .i64 (m : Int), .int .i64 (k : Int)] w fun e w' => e = .returned (.int .i64 ((packSize m k : Nat) : Int)) ∧ w = w' := by
  have hmk : m * k ≤ 4096 * 64 := Nat.mul_le_mul hm hk
  obtain ⟨q, hq⟩ : ∃ q, q = m * k := ⟨_, rfl⟩
  have f1 : (m : Int) * (k : Int) = (q : Int) := by rw [hq]; simp
  have hq2 : q ≤ 262144 := by rw [hq]; omega
  have HQ := Lib.hid (show packSize m k = (q + 7) / 8 by rw [hq]; rfl)
  clear hmk hq
  go_enter Tryz.func317, Tryz.ntmps317
  go_wp2_with (first
    | (go_at_call 316; refine (fits_any m k true (decide_eq_true ⟨hm, hk⟩).symm _).mono ?_; rintro e w1 ⟨rfl, rfl⟩)
    | fail)
  go_ret
  exact ⟨by rw [HQ.out]; go_num, rfl⟩
/-- While numbers are packed: where the bits so far end, the bytes. -/
structure PkR (w0 : World) (B atb ob g s cap a : Nat) (L : List UInt8) (w : World) : Prop where
  at_ : w.heap[atb]? = some (.cells #[.int .i64 (a : Int)] 3 (0, 0))
  out : w.heap[ob]? = some (.cells #[.slice (some ⟨g, 0, none⟩) s cap] 41 (0, 0))
  row : OwnB w B (some ⟨g, 0, none⟩) s cap L
  below : Below B w0 w
theorem heap_setne {w : World} {g b j : Nat} {o : Obj} {v : Value} (h : w.heap[b]? = some o) (hne : b ≠ g) : (w.setCell ⟨g, j, none⟩ v).heap[b]? = some o := (Below.heap_setCell w ⟨g, j, none⟩ v b hne).trans h
section
variable {w0 w : World} {B atb ob g s cap a : Nat} {L : List UInt8}
theorem PkR.own (h : PkR w0 B atb ob g s cap a L w) : OwnF tU8 5 (fun _ => False) w B (some ⟨g, 0, none⟩) s cap L := h.row.ownF (by simp)
theorem PkR.store (h : PkR w0 B atb ob g s cap a L w) (h2 : atb ≠ g) (h3 : ob ≠ g) (j : Nat) (x : UInt8) : PkR w0 B atb ob g s cap a (L.set j x) ((w.setCell ⟨g, j, none⟩ (.int .u8 (x.toNat : Int))).drew) := by
  have hr := (h.own.set1 oneU8 j x trivial).drew
  exact ⟨heap_setne h.at_ h2, heap_setne h.out h3, own_u8 ⟨_, hr⟩, (bsetc h.below (h.own.base1 oneU8).1 _).drew⟩
theorem PkR.move (h : PkR w0 B atb ob g s cap a L w) (h1 : atb ≠ ob) (h2 : atb ≠ g) (hB : B ≤ atb) (a' : Nat) : PkR w0 B atb ob g s cap a' L (w.setCell ⟨atb, 0, none⟩ (.int .i64 (a' : Int))) :=
  ⟨heap_set h.at_ rfl, heap_setne h.out (Ne.symm h1), own_u8 ⟨_, h.own.setCell (p := ⟨atb, 0, none⟩) (by simp) (fun e => h2 (by injection e with e; injection e with e1 _ _; exact e1.symm)) _⟩, bsetc h.below hB _⟩
theorem PkR.byte (h : PkR w0 B atb ob g s cap a L w) {j : Nat} (hj : j < L.length) : w.cell? ⟨g, j, none⟩ = some (.int .u8 ((L[j].toNat : Nat) : Int)) := h.own.cell1 oneU8 hj
end
theorem or_byte {b d : Nat} {r : Nat} (hb : b < 256) (hf : b % 2 ^ r = 0) (hr : r ≤ 8) (hd : d < 2 ^ r) : bits BinOp.or IntKind.u8 (b : Int) (d : Int) = (((UInt8.ofNat (b + d)).toNat : Nat) : Int) := by
  have hlt := room_lt hb hf hr hd
  rw [u8_or_nat _ _ hb (by omega), room_or hf hd, UInt8.toNat_ofNat', Nat.mod_eq_of_lt hlt]
theorem shl_in {c n e : Nat} (hc : c < 2 ^ n) (hn : n ≤ 8 - e) : c * 2 ^ (8 - e - n) < 2 ^ (8 - e) := by
  have := Nat.mul_lt_mul_of_pos_right hc (Nat.pow_pos (n := 8 - e - n) (show 0 < 2 by decide))
  rwa [← Nat.pow_add, show n + (8 - e - n) = 8 - e by omega] at this
theorem pow_le256 {k : Nat} (h : k ≤ 8) : 2 ^ k ≤ 256 := by have := Nat.pow_le_pow_right (show 0 < 2 by decide) h; simpa using this
set_option maxRecDepth 100000 in
set_option maxHeartbeats 1000000 in
theorem put_any (w0 : World) (B atb ob g s cap a V : Nat) (hne1 : atb ≠ ob) (hne2 : atb ≠ g) (hne3 : ob ≠ g) (hB : B ≤ atb) (hs : s ≤ 65536) (c n : Nat) (hn1 : 1 ≤ n) (hn8 : n ≤ 8) (hc : c < 2 ^ n) (ha : a + n ≤ 8 * s) (w : World) (h : PkR w0 B atb ob g s cap a (be s (V * 2 ^ (8 * s - a))) w) :
    Calls Tryz.prog 318 #[.int .u8 (c : Int), .int .i64 (n : Int), .pointer (some ⟨atb, 0, none⟩), .pointer (some ⟨ob, 0, none⟩)] w fun e w' => e = .returned (.tuple #[]) ∧ PkR w0 B atb ob g s cap (a + n) (be s ((V * 2 ^ n + c) * 2 ^ (8 * s - (a + n)))) w' := by
  have HH := Lib.hid h
  obtain ⟨L, hL⟩ : ∃ L, L = be s (V * 2 ^ (8 * s - a)) := ⟨_, rfl⟩
  rw [← hL] at h HH
  have HLE := Lib.hid hL
  obtain ⟨e, he⟩ : ∃ e, e = a % 8 := ⟨_, rfl⟩
  obtain ⟨j, hj⟩ : ∃ j, j = a / 8 := ⟨_, rfl⟩
  have f1 : (a : Int) % 8 = (e : Int) := by omega
  have f2 : (a : Int) / 8 = (j : Int) := by omega
  have hjs : j < s := by omega
  have a0 : w.cell? ⟨atb, 0, none⟩ = some (.int .i64 (a : Int)) := by rw [Lib.cell_of_heap h.at_]; rfl
  have o0 : w.cell? ⟨ob, 0, none⟩ = some (.slice (some ⟨g, 0, none⟩) s cap) := by rw [Lib.cell_of_heap h.out]; rfl
  have hlen : j < L.length := by rw [hL, be_len]; exact hjs
  obtain ⟨b, hb⟩ : ∃ b, b = V * 2 ^ (8 * s - a) / 256 ^ (s - 1 - j) % 256 := ⟨_, rfl⟩
  have hb8 : b < 256 := by rw [hb]; exact Nat.mod_lt _ (by decide)
  have hbf : b % 2 ^ (8 - e) = 0 := by rw [hb, hj, he]; exact byte_free (V := V) (by omega)
  have g0 : w.cell? ⟨g, j, none⟩ = some (.int .u8 (b : Int)) := by
    rw [h.byte hlen, hb]
    subst hL
    rw [be_byte]
  have g1 : w.frozen? ⟨g, j, none⟩ = false := h.own.free1 oneU8 j
  have HE := Lib.hid he; have HJ := Lib.hid hj; have HBB := Lib.hid hb; have HC := Lib.hid hc; have HA := Lib.hid ha
  have i1 : (0 : Int) ≤ (j : Int) := by omega
  have i2 : (j : Int) < (s : Int) := by omega
  have he8 : e < 8 := by omega
  by_cases hroom : n ≤ 8 - e
  · have z1 : (n : Int) ≤ 8 - (e : Int) := by omega
    have hd := shl_in hc hroom
    have hd2 : c * 2 ^ (8 - e - n) < 256 := Nat.lt_of_lt_of_le hd (pow_le256 (by omega))
    obtain ⟨x, hx⟩ : ∃ x, x = UInt8.ofNat (b + c * 2 ^ (8 - e - n)) := ⟨_, rfl⟩
    have hor : bits BinOp.or IntKind.u8 (b : Int) ((c : Int) * 2 ^ (8 - e - n) % 256) = ((x.toNat : Nat) : Int) := by
      rw [hx, ← or_byte hb8 hbf (by omega) hd]
      congr 1
      rw [show (c : Int) * 2 ^ (8 - e - n) = ((c * 2 ^ (8 - e - n) : Nat) : Int) by simp]
      omega
    have HFIN := Lib.hid (show L.set j x = be s ((V * 2 ^ n + c) * 2 ^ (8 * s - (a + n))) by
      rw [HLE.out, hx, hb, HJ.out, HE.out]
      exact put_in (by omega) (by omega) hc)
    clear h hlen he hj hb hL hc ha hd hd2 hx hb8 hbf
    go_enter Tryz.func318, Tryz.ntmps318
    go_upto_region 2 with fail
    go_region
    obtain ⟨wd, hwd⟩ : ∃ wd, wd = (w.setCell ⟨g, j, none⟩ (.int .u8 ((x.toNat : Nat) : Int))).drew := ⟨_, rfl⟩
    have HD := HH.out.store hne2 hne3 j x
    rw [← hwd] at HD
    rw [HFIN.out] at HD
    have HW := Lib.hid HD
    have a0' : wd.cell? ⟨atb, 0, none⟩ = some (.int .i64 (a : Int)) := by rw [Lib.cell_of_heap HD.at_]; rfl
    have a1' := Lib.frozen_of_heap HD.at_ 0
    first | rw [hor] | skip
    rw [← hwd]
    clear hwd HD g0 g1 a0 o0 HFIN HH
    go_wp2_with fail
    go_end0
    refine ⟨rfl, ?_⟩
    have hm := HW.out.move hne1 hne2 hB (a + n)
    rwa [Int.natCast_add] at hm
  · have z1 : ¬ (n : Int) ≤ 8 - (e : Int) := by omega
    have hn0 : a % 8 + n > 8 := by omega
    have hjs2 : j + 1 < s := by omega
    obtain ⟨m, hm⟩ : ∃ m, n = (8 - e) + m := ⟨n - (8 - e), by omega⟩
    have hcm : c / 2 ^ (n - (8 - e)) < 2 ^ (8 - e) := by
      rw [Nat.div_lt_iff_lt_mul (Nat.pow_pos (by decide)), ← Nat.pow_add, show 8 - e + (n - (8 - e)) = n by omega]
      exact hc
    have hd2 : c / 2 ^ (n - (8 - e)) < 256 := Nat.lt_of_lt_of_le hcm (pow_le256 (by omega))
    obtain ⟨x, hx⟩ : ∃ x, x = UInt8.ofNat (b + c / 2 ^ (n - (8 - e))) := ⟨_, rfl⟩
    have hor : bits BinOp.or IntKind.u8 (b : Int) ((c : Int) / 2 ^ (n - (8 - e))) = ((x.toNat : Nat) : Int) := by
      rw [hx, ← or_byte hb8 hbf (by omega) hcm]
      congr 1
    obtain ⟨y, hy⟩ : ∃ y, y = UInt8.ofNat (c * 2 ^ (16 - e - n) % 256) := ⟨_, rfl⟩
    have HFIN := Lib.hid (show (L.set j x).set (j + 1) y = be s ((V * 2 ^ n + c) * 2 ^ (8 * s - (a + n))) by
      rw [HLE.out, hx, hb, HJ.out, hy, HE.out]
      exact put_over (by omega) (by omega) hn8 hc)
    have HHS := Lib.hid (HH.out.store hne2 hne3 j x)
    clear h hlen he hj hb hL hc ha hd2 hx hb8 hbf hcm hm hn0
    go_enter Tryz.func318, Tryz.ntmps318
    go_upto_region 3 with fail
    go_region
    obtain ⟨wd, hwd⟩ : ∃ wd, wd = (w.setCell ⟨g, j, none⟩ (.int .u8 ((x.toNat : Nat) : Int))).drew := ⟨_, rfl⟩
    have hw := HHS.out
    rw [← hwd] at hw ⊢
    have HW := Lib.hid hw
    have hl2 : j + 1 < (L.set j x).length := by rw [List.length_set, HLE.out, be_len]; exact hjs2
    have b0 : wd.cell? ⟨g, j + 1, none⟩ = some (.int .u8 0) := by
      rw [hw.byte hl2]
      have h1 : (L.set j x)[j + 1].toNat = 0 := by
        rw [List.getElem_set_ne (by omega)]
        have h2 := HLE.out
        subst h2
        rw [be_byte]
        have h3 := byte_free (V := V * 2 ^ (8 - e)) (s := s) (at_ := a + (8 - e)) (by have := HE.out; omega)
        rw [show (a + (8 - e)) / 8 = j + 1 by have := HE.out; have := HJ.out; omega, show (a + (8 - e)) % 8 = 0 by have := HE.out; omega, Nat.mod_eq_of_lt (Nat.mod_lt _ (by decide)), Nat.mul_assoc, ← Nat.pow_add, show 8 - e + (8 * s - (a + (8 - e))) = 8 * s - a by have := HA.out; omega] at h3
        exact h3
      rw [h1]; rfl
    have b1 : wd.frozen? ⟨g, j + 1, none⟩ = false := hw.own.free1 oneU8 (j + 1)
    have a0' : wd.cell? ⟨atb, 0, none⟩ = some (.int .i64 (a : Int)) := by rw [Lib.cell_of_heap hw.at_]; rfl
    have o0' : wd.cell? ⟨ob, 0, none⟩ = some (.slice (some ⟨g, 0, none⟩) s cap) := by rw [Lib.cell_of_heap hw.out]; rfl
    have i3 : (0 : Int) ≤ (j : Int) + 1 := by omega
    have i4 : (j : Int) + 1 < (s : Int) := by omega
    have HHS2 := Lib.hid (hw.store hne2 hne3 (j + 1) y)
    rw [HFIN.out] at HHS2
    clear hwd hw hl2 g0 g1 a0 o0 HH HHS HFIN hor
    have hor2 : bits BinOp.or IntKind.u8 0 ((c : Int) * 2 ^ (8 - n + (8 - e)) % 256) = ((y.toNat : Nat) : Int) := by
      have h1 : (c : Int) * 2 ^ (8 - n + (8 - e)) % 256 = ((c * 2 ^ (16 - e - n) % 256 : Nat) : Int) := by
        rw [show 8 - n + (8 - e) = 16 - e - n by omega]
        simp
      rw [h1, hy, show (0 : Int) = ((0 : Nat) : Int) from rfl, u8_or_nat 0 _ (by decide) (Nat.mod_lt _ (by decide)), Nat.zero_or, UInt8.toNat_ofNat', Nat.mod_mod]
    have hor3 : (c : Int) * 2 ^ (16 - e - n) % 256 = ((y.toNat : Nat) : Int) := by
      rw [hy, UInt8.toNat_ofNat', Nat.mod_mod]
      simp
    have HOR3 := Lib.hid hor3
    clear hor3
    go_upto_region 4 with fail
    go_region
    have hor3 := HOR3.out
    obtain ⟨wd', hwd⟩ : ∃ wd', wd' = (wd.setCell ⟨g, j + 1, none⟩ (.int .u8 ((y.toNat : Nat) : Int))).drew := ⟨_, rfl⟩
    first | rw [hor2] | rw [hor3] | skip
    have HD := HHS2.out
    rw [← hwd] at HD ⊢
    have HW2 := Lib.hid HD
    have a2' : wd'.cell? ⟨atb, 0, none⟩ = some (.int .i64 (a : Int)) := by rw [Lib.cell_of_heap HD.at_]; rfl
    have a3' := Lib.frozen_of_heap HD.at_ 0
    clear hwd HD HHS2 hor2 hy b0 b1 a0' o0' HW
    go_wp2_with fail
    go_end0
    refine ⟨rfl, ?_⟩
    have hm := HW2.out.move hne1 hne2 hB (a + n)
    rwa [Int.natCast_add] at hm
theorem run_mkG {P : Program} {t e : TypeId} {z : Value} {by_ : Nat} (ht : P.underlying t = some (.slice e)) (hi : (P.info? e).map (fun i => (i.zero, i.size, i.bytes)) = some (some z, 1, by_)) (hb8 : by_ ≤ 8) (s : Nat) (hs : s ≤ 65536) (w : World) :
    (Instr.makeSlice t (.int .i64 (s : Int)) (.int .i64 (s : Int))).run P w = .ok (.slice (some ⟨w.heap.size, 0, none⟩) s s) (w.alloc (.cells (madeCells z.cells s) e)) := by
  cases h : P.info? e with
  | none => rw [h] at hi; cases hi
  | some i =>
    rw [h] at hi
    have h1 : (i.zero, i.size, i.bytes) = (some z, 1, by_) := by simpa using hi
    injection h1 with h2 h3
    injection h3 with h3 h4
    have hm : by_ * s ≤ 8 * 65536 := Nat.mul_le_mul hb8 hs
    have := run_makeSlice (P := P) w t e i z ht h h2 .i64 .i64 (s : Int) (s : Int) (by omega) (Int.le_refl _) (by rw [h3]; omega) (by rw [h4, ← Int.natCast_mul]; omega) (by omega)
    rw [h3, Int.toNat_natCast, Nat.mul_one] at this
    exact this
/-- make([]byte, s). -/
theorem run_mkB (s : Nat) (hs : s ≤ 65536) (w : World) : (Instr.makeSlice 41 (.int .i64 (s : Int)) (.int .i64 (s : Int))).run Tryz.prog w = .ok (.slice (some ⟨w.heap.size, 0, none⟩) s s) (w.alloc (.cells (madeCells #[.int .u8 0] s) 5)) :=
  run_mkG (z := .int .u8 0) undBytes infoByte (by decide) s hs w
theorem own_mkB (s : Nat) (hs : s ≤ 65536) (w : World) (B : Nat) (hB : B ≤ w.heap.size) : OwnB (w.alloc (.cells (madeCells #[.int .u8 0] s) 5)) B (some ⟨w.heap.size, 0, none⟩) s s (List.replicate s 0) := by
  have h := World.ownsRow_lit (base := B) (e := 5) (size := 1) w (madeCells #[.int .u8 0] s) s hB (by unfold maxLen; omega) (by rw [size_madeCells, Nat.mul_one])
  rw [toList_madeCells_one] at h
  unfold OwnB
  rw [show bvs (List.replicate s 0) = List.replicate s (.int .u8 0) by unfold bvs; rw [List.map_replicate]; rfl]
  exact h
end Go.Proofs.YtpmglcachffojaaGreatDoor
namespace Go.Proofs.YtpmglcachffojaaGreatDoor
open Go Go.RowKit

theorem PkR.drew {w0 w : World} {B atb ob g s cap a : Nat} {L : List UInt8} (h : PkR w0 B atb ob g s cap a L w) : PkR w0 B atb ob g s cap a L w.drew := ⟨h.at_, h.out, own_u8 ⟨_, h.own.drew⟩, h.below.drew⟩
theorem pk_start (s : Nat) (hs : s ≤ 65536) (w wp : World) (hwp : wp = ((w.alloc (.cells (madeCells #[.int .u8 0] s) 5)).alloc (.cells #[.slice (some ⟨w.heap.size, 0, none⟩) s s] 41)).alloc (.cells #[.int .i64 0] 3)) :
    PkR w w.heap.size (w.heap.size + 1 + 1) (w.heap.size + 1) w.heap.size s s 0 (be s (0 * 2 ^ (8 * s - 0))) wp := by
  obtain ⟨w1, h1⟩ : ∃ w1, w1 = w.alloc (.cells (madeCells #[.int .u8 0] s) 5) := ⟨_, rfl⟩
  obtain ⟨w2, h2⟩ : ∃ w2, w2 = w1.alloc (.cells #[.slice (some ⟨w.heap.size, 0, none⟩) s s] 41) := ⟨_, rfl⟩
  have s1 : w1.heap.size = w.heap.size + 1 := by rw [h1, World.size_alloc]
  have s2 : w2.heap.size = w.heap.size + 1 + 1 := by rw [h2, World.size_alloc, s1]
  rw [← h1, ← h2] at hwp
  have b1 : Below w.heap.size w w1 := by rw [h1]; exact (Below.refl _ _).alloc (Nat.le_refl _) _
  have b2 : Below w.heap.size w w2 := by rw [h2]; exact b1.alloc b1.size _
  have hrow := own_mkB s hs w w.heap.size (Nat.le_refl _)
  rw [← h1] at hrow
  have k1 : Below w1.heap.size w1 w2 := by rw [h2]; exact (Below.refl _ _).alloc (Nat.le_refl _) _
  have k2 : Below w2.heap.size w2 wp := by rw [hwp]; exact (Below.refl _ _).alloc (Nat.le_refl _) _
  refine ⟨?_, ?_, ?_, ?_⟩
  · rw [hwp, ← s2]; exact heap_alloc_new _ _
  · rw [k2.block _ (by omega), h2, ← s1]; exact heap_alloc_new _ _
  · rw [Nat.zero_mul, be_zero]
    exact (hrow.keepB k1).keepB k2
  · rw [hwp]; exact b2.alloc b2.size _
theorem chunk_and (x rest m : Nat) (h1 : 1 ≤ m) (h8 : m ≤ 8) : bits BinOp.and IntKind.u8 (IntKind.u8.wrap ((x : Int) / 2 ^ rest)) (IntKind.u8.wrap (IntKind.u8.wrap (2 ^ m) - 1)) = ((x / 2 ^ rest % 2 ^ m : Nat) : Int) := by
  have e1 : IntKind.u8.wrap ((x : Int) / 2 ^ rest) = ((x / 2 ^ rest % 256 : Nat) : Int) := by
    rw [IntKind.wrap_u8, show (x : Int) / 2 ^ rest = ((x / 2 ^ rest : Nat) : Int) by simp]
    omega
  have e2 : IntKind.u8.wrap (IntKind.u8.wrap (2 ^ m) - 1) = ((2 ^ m - 1 : Nat) : Int) := by
    obtain rfl | rfl | rfl | rfl | rfl | rfl | rfl | rfl : m = 1 ∨ m = 2 ∨ m = 3 ∨ m = 4 ∨ m = 5 ∨ m = 6 ∨ m = 7 ∨ m = 8 := by omega
    all_goals decide
  have h256 := pow_le256 h8
  have hp : 0 < 2 ^ m := Nat.pow_pos (by decide)
  rw [e1, e2, u8_and_nat _ _ (Nat.mod_lt _ (by decide)) (by omega), Nat.and_two_pow_sub_one_eq_mod]
  congr 1
  rw [Nat.mod_mod_of_dvd]
  have : (256 : Nat) = 2 ^ m * 2 ^ (8 - m) := by rw [← Nat.pow_add, show m + (8 - m) = 8 by omega]
  exact ⟨_, this⟩
theorem chunk_step (C x : Nat) {k left m rest : Nat} (h1 : left ≤ k) (h2 : m ≤ left) (h3 : rest = left - m) : (C * 2 ^ (k - left) + x / 2 ^ left) * 2 ^ m + x / 2 ^ rest % 2 ^ m = C * 2 ^ (k - rest) + x / 2 ^ rest := by
  have e1 : x / 2 ^ left = x / 2 ^ rest / 2 ^ m := by rw [Nat.div_div_eq_div_mul, ← Nat.pow_add, show rest + m = left by omega]
  rw [e1, Nat.add_mul, Nat.mul_assoc, ← Nat.pow_add, show k - left + m = k - rest by omega, Nat.add_assoc, Nat.mul_comm (x / 2 ^ rest / 2 ^ m), Nat.div_add_mod]
theorem fits0_any (k : Nat) (hk : k ≤ 64) (w : World) : Calls Tryz.prog 316 #[.int .i64 0, .int .i64 (k : Int)] w fun e w' => e = .returned (.bool true) ∧ w = w' := fits_any 0 k true (decide_eq_true ⟨by omega, hk⟩).symm w
def PackPost (k : Nat) (l : List Nat) (w : World) (e : Ending) (w' : World) : Prop := ∃ A s c, e = .returned (.tuple #[.slice A s c, .int .i64 0]) ∧ OwnB w' w.heap.size A s c (pack k l) ∧ Below w.heap.size w w'
set_option maxRecDepth 100000 in
set_option maxHeartbeats 4000000 in
theorem pack_any (F : Nat → Prop) (A : Option Addr) (n c : Nat) (l : List Nat) (w : World) (h : Sl tU64 F w A n c l) (hn : n ≤ 4096) (k : Nat) (hk : k ≤ 64) (hx : ∀ x ∈ l, x < 2 ^ k) :
    Calls Tryz.prog 285 #[.slice A n c, .int .i64 (k : Int)] w (PackPost k l w) := by
  have HH := Lib.hid h; have HX := Lib.hid hx
  have HL := Lib.hid h.len
  obtain ⟨s, hs⟩ : ∃ s, s = packSize n k := ⟨_, rfl⟩
  have hmk : n * k ≤ 4096 * 64 := Nat.mul_le_mul hn hk
  have hs6 : s ≤ 40000 := by rw [hs]; unfold packSize; omega
  have HS := Lib.hid hs
  have hmk2 := run_mkB s (by omega)
  clear h hx hmk hs
  go_enter Tryz.func285, Tryz.ntmps285
  go_upto_region 3 with (first
    | (go_at_call 316; refine (fits0_any k hk _).mono ?_; rintro e w1 ⟨rfl, rfl⟩)
    | fail)
  go_upto_region 8 with (first
    | (go_at_call 316; refine (fits_any n k true (decide_eq_true ⟨hn, hk⟩).symm _).mono ?_; rintro e w1 ⟨rfl, rfl⟩)
    | (go_at_call 317; refine (size_any n k hn hk _).mono ?_; rintro e w1 ⟨rfl, rfl⟩; rw [← HS.out])
    | fail)
  obtain ⟨wp, hwp⟩ : ∃ wp, wp = ((w.alloc (.cells (madeCells #[.int .u8 0] s) 5)).alloc (.cells #[.slice (some ⟨w.heap.size, 0, none⟩) s s] 41)).alloc (.cells #[.int .i64 0] 3) := ⟨_, rfl⟩
  have hpk := pk_start s (by omega) w wp hwp
  rw [← hwp]
  obtain ⟨g, hg⟩ : ∃ g, g = w.heap.size := ⟨_, rfl⟩
  obtain ⟨ob, hob⟩ : ∃ ob, ob = w.heap.size + 1 := ⟨_, rfl⟩
  obtain ⟨atb, hatb⟩ : ∃ atb, atb = w.heap.size + 1 + 1 := ⟨_, rfl⟩
  have hne1 : atb ≠ ob := by omega
  have hne2 : atb ≠ g := by omega
  have hne3 : ob ≠ g := by omega
  have hBa : w.heap.size ≤ atb := by omega
  rw [← hatb, ← hob, ← hg] at hpk ⊢
  rw [hg] at hpk
  have hpk2 : PkR w w.heap.size atb ob g s s 0 (be s (0 * 2 ^ (8 * s - 0))) wp := by rw [hg]; exact hpk
  have HPK := Lib.hid hpk2
  have HNE1 := Lib.hid hne1; have HNE2 := Lib.hid hne2; have HNE3 := Lib.hid hne3; have HBA := Lib.hid hBa
  clear hwp hpk hpk2 hg hob hatb hne1 hne2 hne3 hBa hmk2
  have hns : n * k ≤ 8 * s := by rw [HS.out]; unfold packSize; omega
  have HNS := Lib.hid hns
  clear hns
  go_wp2_with fail
  go_loopw [31] (fun iv wr => ∃ i : Nat, i ≤ n ∧ iv = .int .i64 (i : Int) ∧ PkR w w.heap.size atb ob g s s (i * k) (be s (catN k (l.take i) * 2 ^ (8 * s - i * k))) wr)
    (fun iv _ => n - (intOf iv).toNat)
  case atStart => exact ⟨0, Nat.zero_le _, rfl, by rw [Nat.zero_mul]; exact HPK.out⟩
  case round =>
    obtain ⟨i, hi, rfl, hp⟩ := hrel
    have HP := Lib.hid hp
    clear hp
    by_cases hlt : i < n
    · have hil : i < l.length := by rw [← HL.out]; exact hlt
      obtain ⟨x, hx⟩ : ∃ x, x = l[i] := ⟨_, rfl⟩
      have hxk : x < 2 ^ k := by rw [hx]; exact HX.out _ (List.getElem_mem _)
      have hsl := HH.out.below HP.out.below (Nat.le_refl _)
      obtain ⟨b, o, u, rfl, _, hbl, hr, hc⟩ := hsl.at1 hil rfl
      rw [← hx] at hr
      obtain ⟨hr, hx64⟩ := hr
      injection hr with hr
      subst hr
      have hi1 : (0 : Int) ≤ (i : Int) := by omega
      have hi2 : (i : Int) < (n : Int) := by omega
      have hsh : x / 2 ^ k = 0 := Nat.div_eq_of_lt hxk
      have hik : i * k + k ≤ 8 * s := by
        have h1 : (i + 1) * k ≤ n * k := Nat.mul_le_mul_right k hlt
        rw [Nat.add_mul, Nat.one_mul] at h1
        have := HNS.out; omega
      have HIK := Lib.hid hik
      have HTK := Lib.hid (show catN k (l.take (i + 1)) = catN k (l.take i) * 2 ^ k + x by rw [List.take_succ_eq_append_getElem hil, catN_snoc, ← hx])
      have HXK := Lib.hid hxk
      clear hx hxk hsl hik
      have hshI : (x : Int) / 2 ^ k = 0 := by
        have h1 : ((x / 2 ^ k : Nat) : Int) = 0 := by rw [hsh]; rfl
        simpa using h1
      go_upto_region 11 with fail
      go_cut [42] from 35 to 41 (fun v wx => v = .bool false ∧ wx = wr)
      case first =>
        by_cases hk64 : (k : Int) < 64
        · go_wp2_with fail
          go_meet
          exact ⟨rfl, rfl⟩
        · have hk1 : (64 : Int) ≤ (k : Int) := by omega
          go_wp2_with fail
          go_meet
          exact ⟨rfl, rfl⟩
      case rest =>
        obtain ⟨rfl, hwc⟩ := hcut
        rw [hwc]
        clear hwc hsh hshI
        refine ‹∀ (a : Act) (w_1 : World), Code.wp _ _ _ a w_1 → _› _ _ ?_
        go_wp2_with fail
        obtain ⟨wi, rfl⟩ : ∃ wi, wi = wr := ⟨wr, rfl⟩
        go_loopw [11] (fun lv wq => ∃ left : Nat, left ≤ k ∧ lv = .int .i64 (left : Int) ∧ PkR w w.heap.size atb ob g s s (i * k + (k - left)) (be s ((catN k (l.take i) * 2 ^ (k - left) + x / 2 ^ left) * 2 ^ (8 * s - (i * k + (k - left))))) wq)
          (fun lv _ => (intOf lv).toNat)
        case atStart => exact ⟨k, Nat.le_refl _, rfl, by rw [Nat.sub_self, Nat.add_zero, Nat.pow_zero, Nat.mul_one, Nat.div_eq_of_lt HXK.out, Nat.add_zero]; exact HP.out⟩
        case round =>
          obtain ⟨left, hlk, rfl, hp2⟩ := hrel
          have HP2 := Lib.hid hp2
          clear hp2
          by_cases h0 : left = 0
          · subst h0
            go_wp2_with fail
            go_roundw
            case rel =>
              refine ⟨i + 1, by omega, by go_num, ?_⟩
              have h1 := HP2.out
              rw [Nat.sub_zero, Nat.pow_zero, Nat.div_one, ← HTK.out, show i * k + k = (i + 1) * k by rw [Nat.add_mul, Nat.one_mul]] at h1
              exact h1
            case measure => simp [intOf]; omega
          · obtain ⟨m, hm⟩ : ∃ m, m = min left ((left - 1) % 8 + 1) := ⟨_, rfl⟩
            obtain ⟨rest, hrest⟩ : ∃ rest, rest = left - m := ⟨_, rfl⟩
            have hm1 : 1 ≤ m ∧ m ≤ 8 ∧ m ≤ left := by omega
            have z0 : (0 : Int) < (left : Int) := by omega
            have z1 : 0 < left := by omega
            have zm : min (left : Int) (((left : Int) - 1) % 8 + 1) = (m : Int) := by omega
            have zr : (left : Int) - (m : Int) = (rest : Int) := by omega
            have HM := Lib.hid hm; have HR := Lib.hid hrest; have HM1 := Lib.hid hm1
            clear hm hrest hm1
            obtain ⟨q, hq⟩ : ∃ q, q = x / 2 ^ rest % 2 ^ m := ⟨_, rfl⟩
            have hand := chunk_and x rest m (by have := HM1.out; omega) (by have := HM1.out; omega)
            have hcn : q < 2 ^ m := by rw [hq]; exact Nat.mod_lt _ (Nat.pow_pos (by decide))
            rw [← hq] at hand
            have HCN := Lib.hid hcn
            have hat : i * k + (k - left) + m ≤ 8 * s := by have := HIK.out; have := HM1.out; omega
            have HST := Lib.hid (chunk_step (catN k (l.take i)) x (k := k) (left := left) (m := m) (rest := rest) hlk HM1.out.2.2 HR.out)
            rw [← hq] at HST
            have HATL := Lib.hid hat
            clear hq hcn hat
            have HAT := Lib.hid (show i * k + (k - left) + m = i * k + (k - rest) by have := HR.out; have := HM1.out; omega)
            go_upto_region 17 with fail
            go_region_with (first
              | (go_at_call 318; refine (put_any w w.heap.size atb ob g s s (i * k + (k - left)) (catN k (l.take i) * 2 ^ (k - left) + x / 2 ^ left) HNE1.out HNE2.out HNE3.out HBA.out (by omega) q m HM1.out.1 HM1.out.2.1 HCN.out HATL.out _ HP2.out.drew).mono ?_; rintro e w2 ⟨rfl, hp3⟩; rw [HST.out, HAT.out] at hp3; have HP3 := Lib.hid hp3; clear hp3)
              | fail)
            go_wp2_with fail
            go_roundw
            case rel => exact ⟨rest, by have := HR.out; omega, rfl, HP3.out⟩
            case measure => simp [intOf]; have := HR.out; have := HM1.out; omega
    · obtain rfl : n = i := by omega
      have o0 : wr.cell? ⟨ob, 0, none⟩ = some (.slice (some ⟨g, 0, none⟩) s s) := by rw [Lib.cell_of_heap HP.out.out]; rfl
      have hfin : pack k l = be s (catN k (l.take n) * 2 ^ (8 * s - n * k)) := by
        unfold pack
        rw [← HL.out, ← HS.out, List.take_of_length_le (by rw [← HL.out]; exact Nat.le_refl _)]
      have HFIN := Lib.hid hfin
      clear hfin
      go_wp2_with fail
      go_ret2
      exact ⟨_, s, s, rfl, by rw [HFIN.out]; exact HP.out.row, HP.out.below⟩
end Go.Proofs.YtpmglcachffojaaGreatDoor
namespace Go.Proofs.YtpmglcachffojaaGreatDoor
open Go Go.RowKit

theorem rplain_any (sg : Bool) (x : Int) (h0 : -9223372036854775808 ≤ x) (h1 : x ≤ 9223372036854775807) (hs : sg = true ∨ 0 ≤ x) (w : World) :
    Calls Tryz.prog 312 #[.int .i64 x, .bool sg] w fun e w' => e = .returned (.tuple #[.int .u64 ((uOf sg x : Nat) : Int), .bool true]) ∧ w = w' := by
  cases sg with
  | true =>
    go_enter Tryz.func312, Tryz.ntmps312
    go_wp2_with (first
      | (go_at_call 179; refine (zig_any x _ h0 h1).mono ?_; rintro e w1 ⟨rfl, rfl⟩)
      | fail)
    go_ret2
    exact ⟨rfl, rfl⟩
  | false =>
    have hx : 0 ≤ x := hs.resolve_left (by decide)
    obtain ⟨k, rfl⟩ := Int.eq_ofNat_of_zero_le hx
    have hu : uOf false (k : Int) = k := by unfold uOf; simp
    have HU := Lib.hid hu
    have f1 : IntKind.u64.wrap (k : Int) = (k : Int) := u64_wrap_nat k (by omega)
    clear hs hu
    go_enter Tryz.func312, Tryz.ntmps312
    go_wp2_with fail
    go_ret2
    exact ⟨by rw [HU.out]; rfl, rfl⟩
theorem rlong_any (u : Nat) (hu : U64 u) (w : World) : Calls Tryz.prog 313 #[.int .u64 (u : Int)] w fun e w' => e = .returned (.int .i64 ((long u : Nat) : Int)) ∧ w = w' := by
  have hb := bl_le64 hu
  obtain ⟨b, hbe⟩ : ∃ b, b = bl u := ⟨_, rfl⟩
  have HB := Lib.hid hbe
  rw [← hbe] at hb
  have HL := Lib.hid (show ((long u : Nat) : Int) = max 1 (((b : Int) + 7) / 8) by unfold long; rw [← hbe]; omega)
  clear hbe
  go_enter Tryz.func313, Tryz.ntmps313
  go_wp2_with (first
    | (go_at_call 315; refine (wbits_any u hu _).mono ?_; rintro e w1 ⟨rfl, rfl⟩; rw [← HB.out])
    | fail)
  go_ret
  exact ⟨by rw [HL.out]; rfl, rfl⟩
theorem be_take (n u t : Nat) (h : t < n) : (be n u).take (t + 1) = (be n u).take t ++ [UInt8.ofNat (u / 256 ^ (n - 1 - t))] := by
  have hl : t < (be n u).length := by rw [be_len]; exact h
  rw [List.take_succ_eq_append_getElem hl]
  have := be_get n u t h
  rw [List.getElem?_eq_getElem hl] at this
  rw [Option.some.inj this]
set_option maxRecDepth 100000 in
set_option maxHeartbeats 1000000 in
theorem rhigh_any (B u n : Nat) (_ : U64 u) (hn : n ≤ 8) (A : Option Addr) (m c : Nat) (L : List UInt8) (hm : m ≤ 100) (w : World) (h : OwnB w B A m c L) (hB : B ≤ w.heap.size) :
    Calls Tryz.prog 314 #[.int .u64 (u : Int), .int .i64 (n : Int), .slice A m c] w fun e w' => ∃ A' m' c', e = .returned (.slice A' m' c') ∧ OwnB w' B A' m' c' (L ++ be n u) ∧ Below B w w' := by
  have HH := Lib.hid h
  clear h
  go_enter Tryz.func314, Tryz.ntmps314
  go_wp2_with fail
  go_loopw [2, 7] (fun av iv wr => ∃ (j : Nat) (z : Int) (A2 : Option Addr) (c2 : Nat), j ≤ n ∧ z = (j : Int) - 1 ∧ iv = .int .i64 z ∧ av = .slice A2 (m + (n - j)) c2 ∧ OwnB wr B A2 (m + (n - j)) c2 (L ++ (be n u).take (n - j)) ∧ Below B w wr)
    (fun _ iv _ => (intOf iv + 1).toNat)
  case atStart => exact ⟨n, (n : Int) - 1, A, c, Nat.le_refl _, rfl, by first | rfl | go_num, by simp, by rw [Nat.sub_self, Nat.add_zero, List.take_zero, List.append_nil]; exact HH.out, Below.refl _ _⟩
  case round =>
    obtain ⟨j, z, A2, c2, hj, hz, rfl, rfl, ho, hb⟩ := hrel
    have HO := Lib.hid ho; have HB := Lib.hid hb
    clear ho hb
    cases j with
    | zero =>
      have z1 : ¬ 0 ≤ z := by omega
      clear hz
      go_wp2_with fail
      go_ret
      exact ⟨A2, _, c2, rfl, by have := HO.out; rw [Nat.sub_zero, List.take_of_length_le (by rw [be_len]; exact Nat.le_refl _)] at this; exact this, HB.out⟩
    | succ i =>
      obtain rfl : z = (i : Int) := by omega
      have z0 : (0 : Int) ≤ (i : Int) := by omega
      clear hz
      obtain ⟨p, hp⟩ : ∃ p, n - (i + 1) = p := ⟨_, rfl⟩
      obtain ⟨y, hy⟩ : ∃ y : UInt8, y = UInt8.ofNat (u / 256 ^ i) := ⟨_, rfl⟩
      have hyn : ((y.toNat : Nat) : Int) = ((u / 2 ^ (8 * i) % 256 : Nat) : Int) := by rw [hy, UInt8.toNat_ofNat', byte_pow]
      have f1 : IntKind.u8.wrap ((u : Int) / 2 ^ (8 * i)) = ((y.toNat : Nat) : Int) := by
        rw [hyn, IntKind.wrap_u8, show (u : Int) / 2 ^ (8 * i) = ((u / 2 ^ (8 * i) : Nat) : Int) by simp]
        omega
      have f2 : (u : Int) / 2 ^ (8 * i) % 256 = ((y.toNat : Nat) : Int) := by
        rw [hyn, show (u : Int) / 2 ^ (8 * i) = ((u / 2 ^ (8 * i) : Nat) : Int) by simp]
        omega
      have HT := Lib.hid (show (be n u).take (p + 1) = (be n u).take p ++ [y] by rw [be_take n u p (by omega), hy, show n - 1 - p = i by omega])
      rw [hp] at HO
      have HP := Lib.hid hp
      rw [hp]
      have hp8 : p ≤ 8 := by omega
      clear hp hy hyn
      go_wp2_with (first
        | (at_builtin; refine apb1 wr w rfl (.tmp 14) (.tmp 20) rfl B A2 (m + p) c2 (L ++ (be n u).take p) rfl HO.out HB.out hB _ rfl y rfl (by omega) ?_; intro A3 c3 w3 h3 hb3 _)
        | fail)
      go_roundw
      case rel => exact ⟨i, (i : Int) - 1, A3, c3, by omega, rfl, by first | rfl | go_num, by rw [show n - i = p + 1 by have := HP.out; omega]; rfl, by rw [show n - i = p + 1 by have := HP.out; omega, HT.out, ← List.append_assoc]; exact h3, hb3⟩
      case measure => simp [intOf]
end Go.Proofs.YtpmglcachffojaaGreatDoor
namespace Go.Proofs.YtpmglcachffojaaGreatDoor
open Go Go.RowKit

theorem i64_or_nat (a b : Nat) (ha : a < 1048576) (hb : b < 1048576) : bits .or .i64 (a : Int) (b : Int) = ((a ||| b : Nat) : Int) := by
  have hx : a ||| b < 2 ^ 20 := Nat.or_lt_two_pow (by omega) (by omega)
  show IntKind.i64.wrap ((BitVec.ofInt 64 (a : Int) ||| BitVec.ofInt 64 (b : Int)).toNat : Int) = _
  rw [BitVec.toNat_or, ofInt_u64 a (by omega), ofInt_u64 b (by omega)]
  rw [IntKind.wrap_i64]
  omega
/-- What a kind of runs answers: the bytes, or that the numbers are none of its. -/
def RunPost (o : Option (List UInt8)) (w : World) (e : Ending) (w' : World) : Prop := Below w.heap.size w w' ∧ match o with
  | none => e = .returned (.tuple #[.slice none 0 0, .int .i64 1])
  | some b => ∃ A n c, e = .returned (.tuple #[.slice A n c, .int .i64 0]) ∧ OwnB w' w.heap.size A n c b
set_option maxRecDepth 100000 in
set_option maxHeartbeats 1000000 in
theorem rput_any (sg : Bool) (x : Int) (h0 : -9223372036854775808 ≤ x) (h1 : x ≤ 9223372036854775807) (hs : sg = true ∨ 0 ≤ x) (t : Nat) (ht : t ≤ 512) (w : World) :
    Calls Tryz.prog 281 #[.int .i64 x, .int .i64 (t : Int), .bool sg] w (RunPost (if 3 ≤ t ∧ t ≤ 10 then some (repB (uOf sg x) t) else none) w) := by
  have hu := uOf_lt (sg := sg) h0 h1
  obtain ⟨u, hue⟩ : ∃ u, u = uOf sg x := ⟨_, rfl⟩
  have HPL := Lib.hid (rplain_any sg x h0 h1 hs)
  rw [← hue] at hu HPL ⊢
  have HU := Lib.hid hu
  clear hue hs hu
  by_cases hc : 3 ≤ t ∧ t ≤ 10
  · rw [if_pos hc]
    have z1 : ¬ (t : Int) < 3 := by omega
    have z2 : ¬ (t : Int) > 10 := by omega
    have hl := long_le HU.out
    obtain ⟨n, hn⟩ : ∃ n, n + 1 = long u := ⟨long u - 1, by omega⟩
    have HN := Lib.hid hn
    rw [← hn] at hl
    obtain ⟨y, hy⟩ : ∃ y : UInt8, y = UInt8.ofNat (8 * n + t - 3) := ⟨_, rfl⟩
    have HY := Lib.hid (show bits .or .i64 ((n : Int) * 8) ((t : Int) - 3) % 256 = ((y.toNat : Nat) : Int) by
      have e1 := i64_or_nat (n * 8) (t - 3) (by omega) (by omega)
      rw [nat_join 3 (n * 8) (t - 3) (by omega) (by omega)] at e1
      rw [show (n : Int) * 8 = ((n * 8 : Nat) : Int) by simp, show (t : Int) - 3 = ((t - 3 : Nat) : Int) by omega, e1, hy, UInt8.toNat_ofNat']
      omega)
    have HYB := Lib.hid (show repB u t = [y] ++ be (n + 1) u by rw [repB, ← HN.out, hy]; simp)
    clear hn hy
    have HHI : Hid (∀ w : World, Calls Tryz.prog 314 #[.int .u64 (u : Int), .int .i64 ((n : Int) + 1), .slice (some ⟨w.heap.size, 0, none⟩) 1 1] (w.alloc (.cells #[.int .u8 ((y.toNat : Nat) : Int)] 5)) fun e w' => ∃ A' m' c', e = .returned (.slice A' m' c') ∧ OwnB w' w.heap.size A' m' c' ([y] ++ be (n + 1) u) ∧ Below w.heap.size w w') := Lib.hid (fun w => by
      have ho : OwnB (w.alloc (.cells #[.int .u8 ((y.toNat : Nat) : Int)] 5)) w.heap.size (some ⟨w.heap.size, 0, none⟩) 1 1 [y] := World.ownsRow_lit w #[.int .u8 ((y.toNat : Nat) : Int)] 1 (Nat.le_refl _) (by simp [maxLen]) rfl
      have hb : Below w.heap.size w (w.alloc (.cells #[.int .u8 ((y.toNat : Nat) : Int)] 5)) := (Below.refl _ _).alloc (Nat.le_refl _) _
      refine (rhigh_any w.heap.size u (n + 1) HU.out (by omega) _ 1 1 [y] (by omega) _ ho hb.size).mono ?_
      rintro e w1 ⟨A3, m3, c3, rfl, h3, hb3⟩
      exact ⟨A3, m3, c3, rfl, h3, hb.trans hb3⟩)
    go_enter Tryz.func281, Tryz.ntmps281
    go_wp2_with (first
      | (go_at_call 312; refine (HPL.out _).mono ?_; rintro e w1 ⟨rfl, rfl⟩)
      | (go_at_call 313; refine (rlong_any u HU.out _).mono ?_; rintro e w1 ⟨rfl, rfl⟩; rw [← HN.out])
      | (rw [HY.out]; go_at_call 314; refine (HHI.out w).mono ?_; rintro e w1 ⟨A3, m3, c3, rfl, h3, hb3⟩; have HH3 := Lib.hid h3; have HB3 := Lib.hid hb3; clear h3 hb3)
      | fail)
    go_ret2
    exact ⟨HB3.out, A3, m3, c3, rfl, by rw [HYB.out]; exact HH3.out⟩
  · rw [if_neg hc]
    by_cases z1 : (t : Int) < 3
    · clear hc
      go_enter Tryz.func281, Tryz.ntmps281
      go_wp2_with (first
        | (go_at_call 312; refine (HPL.out _).mono ?_; rintro e w1 ⟨rfl, rfl⟩)
        | fail)
      go_ret2
      exact ⟨Below.refl _ _, rfl⟩
    · have z2 : (t : Int) > 10 := by omega
      clear hc
      go_enter Tryz.func281, Tryz.ntmps281
      go_wp2_with (first
        | (go_at_call 312; refine (HPL.out _).mono ?_; rintro e w1 ⟨rfl, rfl⟩)
        | fail)
      go_ret2
      exact ⟨Below.refl _ _, rfl⟩
end Go.Proofs.YtpmglcachffojaaGreatDoor
namespace Go.Proofs.YtpmglcachffojaaGreatDoor
open Go Go.RowKit

theorem infoU64 : (Tryz.prog.info? 112).map (fun i => (i.zero, i.size, i.bytes)) = some (some (.int .u64 0), 1, 8) := by kernel_rfl
theorem elemU64 : ElemOf Tryz.prog 264 112 1 := ElemOf.mk' (by kernel_rfl) infoU64 rfl (by decide) (by decide)
/-- Numbers of 64 bits in a row of the call's own. -/
abbrev OwnU (w : World) (B : Nat) (A : Option Addr) (n c : Nat) (l : List Nat) : Prop := OwnF tU64 112 (fun _ => False) w B A n c l
theorem ownU_of {F : Nat → Prop} {w : World} {B n c : Nat} {A : Option Addr} {l : List Nat} (h : OwnF tU64 112 F w B A n c l) : OwnU w B A n c l := own_row1 oneU64 (h.row1 oneU64).1 (h.row1 oneU64).2
theorem ownU_nil (w : World) (B : Nat) : OwnU w B none 0 0 [] := ⟨⟨[], World.ownsRow_nil _ _ _ _, Reps.nil_⟩, fun _ _ _ h => h, rfl⟩
section
variable (w a0 : World) {ops : Array Oper} {rest : List Oper} {o : Oper} {a : Act} {Q : Exit → Act → World → Prop}
/-- append(l, u) at numbers of 64 bits. -/
theorem apu1 (hgd : o.guard = none) (s x : Operand) (ho : o.op = .call { callee := .builtin .append, args := #[s, x], argTypes := #[264, 264] }) (B : Nat) (A : Option Addr) (n c : Nat) (xs : List Nat) (hs : a.eval s = .slice A n c)
    (hown : OwnU w B A n c xs) (hb : Below B a0 w) (hB : B ≤ a0.heap.size) (obj : Obj) (hx : a.eval x = .slice (some ⟨w.heap.size, 0, none⟩) 1 1) (y : Nat) (hy : U64 y) (hobj : obj = .cells #[.int .u64 (y : Int)] 112) (hlim : n ≤ 34359738368)
    (h : ∀ A' c' w', OwnU w' B A' (n + 1) c' (xs ++ [y]) → Below B a0 w' → wpList Tryz.prog ops Q rest (a.put o.dst (.slice A' (n + 1) c')) w') : wpList Tryz.prog ops Q (o :: rest) a (w.alloc obj) :=
  apl1 (T := tU64) elemU64 w a0 hgd s x ho B A n c xs hs (fun _ => False) (fun _ => False) hown hb hB obj hx [.int .u64 (y : Int)] y ⟨rfl, hy⟩ 112 hobj (fun _ _ _ _ h => h) hlim fun A' c' w' ha => h A' c' w' (ownU_of ha.own) ha.below
end

theorem head_any (k c m : Nat) (hk : k ≤ 3) (hc : c ≤ 31) (hm : 1 ≤ m) (hm2 : m ≤ 512) (w : World) :
    Calls Tryz.prog 286 #[.int .i64 (k : Int), .int .i64 (c : Int), .int .i64 (m : Int)] w (Own1 w (headB k c m)) := by
  obtain ⟨m, rfl⟩ : ∃ n, m = n + 1 := ⟨m - 1, by omega⟩
  obtain ⟨x, hx⟩ : ∃ x, x = k * 16384 + c * 512 + m := ⟨_, rfl⟩
  have e1 := i64_or_nat (k * 16384) (c * 512) (by omega) (by omega)
  rw [nat_join 14 (k * 16384) (c * 512) (by omega) (by omega)] at e1
  have e2 := i64_or_nat (k * 16384 + c * 512) m (by omega) (by omega)
  rw [nat_join 9 (k * 16384 + c * 512) m (by omega) (by omega), ← hx] at e2
  have f1 : bits .or .i64 ((k : Int) * 16384) ((c : Int) * 512) = ((k * 16384 + c * 512 : Nat) : Int) := by
    rw [show (k : Int) * 16384 = ((k * 16384 : Nat) : Int) by simp, show (c : Int) * 512 = ((c * 512 : Nat) : Int) by simp]; exact e1
  have F := Lib.hid (show bits .or .i64 (bits .or .i64 ((k : Int) * 16384) ((c : Int) * 512)) (m : Int) = (x : Int) by rw [f1]; exact e2)
  obtain ⟨y, hy⟩ : ∃ y : UInt8, y = UInt8.ofNat (x / 256) := ⟨_, rfl⟩
  obtain ⟨z, hz⟩ : ∃ z : UInt8, z = UInt8.ofNat x := ⟨_, rfl⟩
  have HY := Lib.hid (show (x : Int) / 256 % 256 = ((y.toNat : Nat) : Int) by rw [hy, UInt8.toNat_ofNat']; omega)
  have HZ := Lib.hid (show (x : Int) % 256 = ((z.toNat : Nat) : Int) by rw [hz, UInt8.toNat_ofNat']; omega)
  have HB := Lib.hid (show headB k c (m + 1) = [y, z] by rw [headB, hy, hz, hx]; congr 2 <;> (try congr 1) <;> (try congr 1) <;> omega)
  clear e1 e2 f1 hx hy hz
  go_enter Tryz.func286, Tryz.ntmps286
  go_wp2_with fail
  rw [F.out, HY.out, HZ.out]
  go_ret
  exact ⟨_, 2, 2, rfl, by rw [HB.out]; exact World.ownsRow_lit w #[.int .u8 ((y.toNat : Nat) : Int), .int .u8 ((z.toNat : Nat) : Int)] 2 (Nat.le_refl _) (by simp [maxLen]) rfl, (Below.refl _ _).alloc (Nat.le_refl _) _⟩
set_option maxRecDepth 100000 in
set_option maxHeartbeats 1000000 in
theorem dplain_any (F : Nat → Prop) (A : Option Addr) (n c : Nat) (l : List Int) (w : World) (h : Sl tI64 F w A n c l) (hn : n ≤ 4294967296) (sg : Bool) (hl : NumOk sg l) :
    Calls Tryz.prog 282 #[.slice A n c, .bool sg] w fun e w' => ∃ A' n' c', e = .returned (.tuple #[.slice A' n' c', .int .i64 0]) ∧ OwnU w' w.heap.size A' n' c' (l.map (uOf sg)) ∧ Below w.heap.size w w' := by
  have HH := Lib.hid h; have HK := Lib.hid hl; have HL := Lib.hid h.len
  clear h hl
  go_enter Tryz.func282, Tryz.ntmps282
  go_wp2_with fail
  go_loopw [6, 12] (fun av iv wr => ∃ (i : Nat) (A2 : Option Addr) (c2 : Nat), i ≤ n ∧ iv = .int .i64 (i : Int) ∧ av = .slice A2 i c2 ∧ OwnU wr w.heap.size A2 i c2 ((l.take i).map (uOf sg)) ∧ Below w.heap.size w wr)
    (fun _ iv _ => n - (intOf iv).toNat)
  case atStart => exact ⟨0, none, 0, Nat.zero_le _, rfl, rfl, ownU_nil _ _, Below.refl _ _⟩
  case round =>
    obtain ⟨i, A2, c2, hi, rfl, rfl, ho, hb⟩ := hrel
    have HO := Lib.hid ho; have HB := Lib.hid hb
    clear ho hb
    by_cases hlt : i < n
    · have hil : i < l.length := by rw [← HL.out]; exact hlt
      obtain ⟨x, hx⟩ : ∃ x, x = l[i] := ⟨_, rfl⟩
      have hxk := HK.out x (by rw [hx]; exact List.getElem_mem _)
      have hsl := HH.out.below HB.out (Nat.le_refl _)
      obtain ⟨b, o, u, rfl, _, hbl, hr, hc⟩ := hsl.at1 hil rfl
      rw [← hx] at hr
      obtain ⟨hr, _⟩ := hr
      injection hr with hr
      subst hr
      have HT := Lib.hid (show (l.take (i + 1)).map (uOf sg) = (l.take i).map (uOf sg) ++ [uOf sg x] by rw [List.take_succ_eq_append_getElem hil, List.map_append, ← hx]; rfl)
      obtain ⟨v, hv⟩ : ∃ v, v = uOf sg x := ⟨_, rfl⟩
      have hvu : U64 v := by rw [hv]; exact uOf_lt hxk.1 hxk.2.1
      obtain ⟨x0, x1, xs⟩ := hxk
      have hi1 : (0 : Int) ≤ (i : Int) := by omega
      have hi2 : (i : Int) < (n : Int) := by omega
      rw [← hv] at HT
      have HVU := Lib.hid hvu
      clear hx hsl hvu
      cases sg with
      | true =>
        have HZ := Lib.hid (show zigN x = v by rw [hv]; rfl)
        clear hv xs
        go_wp2_with (first
          | (go_at_call 179; refine (zig_any x _ x0 x1).mono ?_; rintro e w1 ⟨rfl, rfl⟩; rw [HZ.out])
          | (at_builtin; refine apu1 wr w rfl (.tmp 23) (.tmp 25) rfl w.heap.size A2 i c2 _ rfl HO.out HB.out (Nat.le_refl _) _ rfl v HVU.out rfl (by omega) ?_; intro A3 c3 w3 h3 hb3)
          | fail)
        go_roundw
        case rel => exact ⟨i + 1, A3, c3, by omega, by go_num, rfl, by rw [HT.out]; exact h3, hb3⟩
        case measure => simp [intOf]; omega
      | false =>
        have xge : 0 ≤ x := xs.resolve_left (by decide)
        obtain ⟨k, rfl⟩ := Int.eq_ofNat_of_zero_le xge
        have HZ := Lib.hid (show k = v by rw [hv]; unfold uOf; simp)
        have xn : ¬ (k : Int) < 0 := by omega
        obtain rfl := HZ.out
        clear hv xs
        go_wp2_with (first
          | (at_builtin; refine apu1 wr w rfl (.tmp 23) (.tmp 25) rfl w.heap.size A2 i c2 _ rfl HO.out HB.out (Nat.le_refl _) _ rfl k HVU.out rfl (by omega) ?_; intro A3 c3 w3 h3 hb3)
          | fail)
        go_roundw
        case rel => exact ⟨i + 1, A3, c3, by omega, by go_num, rfl, by rw [HT.out]; exact h3, hb3⟩
        case measure => simp [intOf]; omega
    · obtain rfl : n = i := by omega
      have HT := Lib.hid (show l.take n = l by rw [List.take_of_length_le (by rw [← HL.out]; exact Nat.le_refl _)])
      go_wp2_with fail
      go_ret2
      exact ⟨A2, n, c2, rfl, by have := HO.out; rwa [HT.out] at this, HB.out⟩
theorem headB_len (k c m : Nat) : (headB k c m).length = 2 := rfl
theorem lt_most {l : List Nat} (h : ∀ x ∈ l, U64 x) {x : Nat} (hx : x ∈ l) : x < 2 ^ closeN (most l) := by
  have h1 := bl_lt (h x hx)
  have h2 := most_mem hx
  have h3 := closeN_ge (most_le64 l h)
  exact Nat.lt_of_lt_of_le h1 (Nat.pow_le_pow_right (by decide) (by omega))
set_option maxRecDepth 100000 in
set_option maxHeartbeats 1000000 in
theorem dput_any (F : Nat → Prop) (A : Option Addr) (n c : Nat) (l : List Int) (w : World) (h : Sl tI64 F w A n c l) (hn1 : 1 ≤ n) (hn : n ≤ 512) (sg : Bool) (hl : NumOk sg l) :
    Calls Tryz.prog 246 #[.slice A n c, .bool sg] w (RunPost (some (dirB sg l)) w) := by
  have HH := Lib.hid h
  have HK := Lib.hid hl
  have hln := h.len
  obtain ⟨us, hus⟩ : ∃ us, us = l.map (uOf sg) := ⟨_, rfl⟩
  have hu : ∀ u ∈ us, U64 u := by rw [hus]; exact hl.u
  have hlu : us.length = n := by rw [hus, List.length_map]; exact hln.symm
  obtain ⟨k, hk⟩ : ∃ k, k = most us := ⟨_, rfl⟩
  have hk64 : k ≤ 64 := by rw [hk]; exact most_le64 us hu
  obtain ⟨q, hq⟩ : ∃ q, q = closeN k := ⟨_, rfl⟩
  have hq64 : q ≤ 64 := by rw [hq]; exact closeN_le k
  have hx : ∀ x ∈ us, x < 2 ^ q := fun x hx => by rw [hq, hk]; exact lt_most hu hx
  obtain ⟨hc1, hc2⟩ := codeN_eq hk64
  rw [← hq] at hc1 hc2
  obtain ⟨d, hd⟩ : ∃ d, d = codeN q := ⟨_, rfl⟩
  rw [← hd] at hc1 hc2
  have HB := Lib.hid (show dirB sg l = headB 1 d n ++ pack q us by rw [dirB, ← hus, ← hk, ← hq, ← hd, ← hln])
  have HX := Lib.hid hx; have HQ := Lib.hid hq; have HKK := Lib.hid hk; have HC := Lib.hid hc1; have HUS := Lib.hid hus; have HLU := Lib.hid hlu
  clear h hl hu hx hq hk hc1 hus hd hln hlu
  go_enter Tryz.func246, Tryz.ntmps246
  go_upto_region 4 with (first
    | (go_at_call 282; refine (dplain_any F A n c l _ HH.out (by omega) sg HK.out).mono ?_; rintro e w1 ⟨A1, n1, c1, rfl, ho1, hb1⟩; have HO1 := Lib.hid ho1; have HB1 := Lib.hid hb1; rw [← HUS.out] at HO1; clear ho1 hb1)
    | fail)
  have HS1 := Lib.hid HO1.out.sl
  obtain rfl : n1 = n := by rw [HO1.out.len, HLU.out]
  go_wp2_with (first
    | (go_at_call 284; refine (wmost_any _ A1 n1 c1 us _ HS1.out).mono ?_; rintro e w2 ⟨rfl, rfl⟩; rw [← HKK.out])
    | (go_at_call 283; refine (wclose_any k hk64 _).mono ?_; rintro e w2 ⟨rfl, hb2⟩; rw [← HQ.out]; have HB2 := Lib.hid hb2; clear hb2; have HS2 := Lib.hid (HS1.out.below HB2.out (Nat.le_refl _)))
    | (go_at_call 285; refine (pack_any _ A1 n1 c1 us _ HS2.out (by omega) q hq64 HX.out).mono ?_; rintro e w3 ⟨A3, s3, c3, rfl, ho3, hb3⟩; have HO3 := Lib.hid ho3; have HB3 := Lib.hid hb3; clear ho3 hb3)
    | (go_at_call 287; refine (wcode_any (q : Int) _).mono ?_; rintro e w4 ⟨rfl, hb4⟩; rw [HC.out]; have HB4 := Lib.hid hb4; clear hb4)
    | (go_at_call 286; refine (head_any 1 d n1 (by omega) hc2 hn1 hn _).mono ?_; rintro e w5 ⟨A5, n5, c5, rfl, ho5, hb5⟩; have HO5 := Lib.hid ho5; have HB5 := Lib.hid hb5; clear ho5 hb5
       have HSS := Lib.hid (sl2 HO5.out.bs ((HO3.out.bs.below HB4.out (Nat.le_refl _)).below HB5.out (Nat.le_refl _)) 41)
       have HN := Lib.hid (show [headB 1 d n1, pack q us].flatten.length ≤ 4294967296 by have := packSize_le n1 q hq64; simp [headB_len, pack_len, HLU.out]; omega))
    | (go_at_call 224; refine (concatB_any (T := tU8) elemBytes (fun _ => True) _ _ _ [headB 1 d n1, pack q us] _ HSS.out (by omega) HN.out).mono ?_; rintro e w6 ⟨A6, n6, c6, rfl, ho6, hb6⟩; have HO6 := Lib.hid ho6; have HB6 := Lib.hid hb6; clear ho6 hb6)
    | fail)
  go_ret2
  have b2 := HB1.out.trans (HB2.out.mono HB1.out.size)
  have b3 := b2.trans (HB3.out.mono b2.size)
  have b4 := b3.trans (HB4.out.mono b3.size)
  have b5 := b4.trans (HB5.out.mono b4.size)
  have b6 := b5.alloc b5.size (.cells #[.slice A5 n5 c5, .slice A3 s3 c3] 41)
  have hc6 := b6.size
  refine ⟨b6.trans (HB6.out.mono hc6), A6, n6, c6, rfl, ?_⟩
  have := own_u8 (HO6.out.down hc6)
  rw [HB.out]
  simpa using this
end Go.Proofs.YtpmglcachffojaaGreatDoor
