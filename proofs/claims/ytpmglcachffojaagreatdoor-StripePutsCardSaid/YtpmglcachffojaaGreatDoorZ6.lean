/- A part of what Puts leans on. -/
import Derived.Test.YtpmglcachffojaaGreatDoorZ2
import Derived.Test.YtpmglcachffojaaGreatDoorZ5
set_option maxRecDepth 100000
set_option maxHeartbeats 16000000
namespace Go.Proofs.YtpmglcachffojaaGreatDoor
section
open Go Go.RowKit
theorem kqP (m k : Nat) (r : Bool) (hr : r = decide (m ≤ 4096 ∧ k ≤ 64)) (w : World) : Calls Tryz.prog 316 #[.int .i64 (m : Int), .int .i64 (k : Int)] w fun e w' => e = .returned (.bool r) ∧ w = w' := by
 have HR := zH (show r = (decide ((m : Int) ≤ 4096) && decide ((k : Int) ≤ 64)) by rw [hr, ← Bool.decide_and]; exact decide_eq_decide.2 (by omega))
 clear hr
 have z0 : (0 : Int) ≤ (m : Int) := by omega
 have z1 : (0 : Int) ≤ (k : Int) := by omega
 go_enter Tryz.func316, Tryz.ntmps316
 by_cases h1 : (m : Int) ≤ 4096
 · have e1 : decide ((m : Int) ≤ 4096) = true := decide_eq_true h1
   by_cases h2 : (k : Int) ≤ 64
   · have e2 : decide ((k : Int) ≤ 64) = true := decide_eq_true h2
     rw [e1, e2] at HR
     go_wp2_with fail
     go_ret
     exact ⟨by rw [HR.out]; rfl, rfl⟩
   · have e2 : decide ((k : Int) ≤ 64) = false := decide_eq_false h2
     rw [e1, e2] at HR
     go_wp2_with fail
     go_ret
     exact ⟨by rw [HR.out]; rfl, rfl⟩
 · have e1 : decide ((m : Int) ≤ 4096) = false := decide_eq_false h1
   rw [e1] at HR
   go_wp2_with fail
   go_ret
   exact ⟨by rw [HR.out]; rfl, rfl⟩
theorem size_any (m k : Nat) (hm : m ≤ 4096) (hk : k ≤ 64) (w : World) : Calls Tryz.prog 317 #[.int .i64 (m : Int), .int .i64 (k : Int)] w fun e w' => e = .returned (.int .i64 ((zzD m k : Nat) : Int)) ∧ w = w' := by
 have hmk : m * k ≤ 4096 * 64 := Nat.mul_le_mul hm hk
 obtain ⟨q, hq⟩ : ∃ q, q = m * k := ⟨_, rfl⟩
 have f1 : (m : Int) * (k : Int) = (q : Int) := by rw [hq]; simp
 have hq2 : q ≤ 262144 := by rw [hq]; omega
 have HQ := zH (show zzD m k = (q + 7) / 8 by rw [hq]; rfl)
 clear hmk hq
 go_enter Tryz.func317, Tryz.ntmps317
 go_wp2_with (first
  | (go_at_call 316; refine (kqP m k true (decide_eq_true ⟨hm, hk⟩).symm _).mono ?_; rintro e w1 ⟨rfl, rfl⟩)
  | fail)
 go_ret
 exact ⟨by rw [HQ.out]; go_num, rfl⟩
structure PkR (w0 : World) (B atb ob g s cap a : Nat) (L : List UInt8) (w : World) : Prop where
 at_ : w.heap[atb]? = some (.cells #[.int .i64 (a : Int)] 3 (0, 0))
 out : w.heap[ob]? = some (.cells #[.slice (some ⟨g, 0, none⟩) s cap] 41 (0, 0))
 row : OwnB w B (some ⟨g, 0, none⟩) s cap L
 below : Below B w0 w
theorem zzg {w : World} {g b j : Nat} {o : Obj} {v : Value} (h : w.heap[b]? = some o) (hne : b ≠ g) : (w.setCell ⟨g, j, none⟩ v).heap[b]? = some o := (Below.heap_setCell w ⟨g, j, none⟩ v b hne).trans h
section
variable {w0 w : World} {B atb ob g s cap a : Nat} {L : List UInt8}
theorem PkR.own (h : PkR w0 B atb ob g s cap a L w) : OwnF tU8 5 (fun _ => False) w B (some ⟨g, 0, none⟩) s cap L := h.row.ownF (by simp)
theorem PkR.store (h : PkR w0 B atb ob g s cap a L w) (h2 : atb ≠ g) (h3 : ob ≠ g) (j : Nat) (x : UInt8) : PkR w0 B atb ob g s cap a (L.set j x) ((w.setCell ⟨g, j, none⟩ (.int .u8 (x.toNat : Int))).drew) := by
 have hr := (h.own.set1 yyz j x trivial).drew
 exact ⟨zzg h.at_ h2, zzg h.out h3, yye ⟨_, hr⟩, (zzf h.below (h.own.base1 yyz).1 _).drew⟩
theorem PkR.move (h : PkR w0 B atb ob g s cap a L w) (h1 : atb ≠ ob) (h2 : atb ≠ g) (hB : B ≤ atb) (a' : Nat) : PkR w0 B atb ob g s cap a' L (w.setCell ⟨atb, 0, none⟩ (.int .i64 (a' : Int))) :=
 ⟨zza h.at_ rfl, zzg h.out (Ne.symm h1), yye ⟨_, h.own.setCell (p := ⟨atb, 0, none⟩) (by simp) (fun e => h2 (by injection e with e; injection e with e1 _ _; exact e1.symm)) _⟩, zzf h.below hB _⟩
theorem PkR.byte (h : PkR w0 B atb ob g s cap a L w) {j : Nat} (hj : j < L.length) : w.cell? ⟨g, j, none⟩ = some (.int .u8 ((L[j].toNat : Nat) : Int)) := h.own.cell1 yyz hj
end
theorem zqs {b d : Nat} {r : Nat} (hb : b < 256) (hf : b % 2 ^ r = 0) (hr : r ≤ 8) (hd : d < 2 ^ r) : bits BinOp.or IntKind.u8 (b : Int) (d : Int) = (((UInt8.ofNat (b + d)).toNat : Nat) : Int) := by
 have hlt := kqK hb hf hr hd
 rw [u8_or_nat _ _ hb (by omega), room_or hf hd, UInt8.toNat_ofNat', Nat.mod_eq_of_lt hlt]
theorem shl_in {c n e : Nat} (hc : c < 2 ^ n) (hn : n ≤ 8 - e) : c * 2 ^ (8 - e - n) < 2 ^ (8 - e) := by
 have := Nat.mul_lt_mul_of_pos_right hc (Nat.pow_pos (n := 8 - e - n) (show 0 < 2 by decide))
 rwa [← Nat.pow_add, show n + (8 - e - n) = 8 - e by omega] at this
theorem jjr {k : Nat} (h : k ≤ 8) : 2 ^ k ≤ 256 := by have := Nat.pow_le_pow_right (show 0 < 2 by decide) h; simpa using this
theorem put_any (w0 : World) (B atb ob g s cap a V : Nat) (hne1 : atb ≠ ob) (hne2 : atb ≠ g) (hne3 : ob ≠ g) (hB : B ≤ atb) (hs : s ≤ 65536) (c n : Nat) (hn1 : 1 ≤ n) (hn8 : n ≤ 8) (hc : c < 2 ^ n) (ha : a + n ≤ 8 * s) (w : World) (h : PkR w0 B atb ob g s cap a (be s (V * 2 ^ (8 * s - a))) w) :
 Calls Tryz.prog 318 #[.int .u8 (c : Int), .int .i64 (n : Int), .pointer (some ⟨atb, 0, none⟩), .pointer (some ⟨ob, 0, none⟩)] w fun e w' => e = .returned (.tuple #[]) ∧ PkR w0 B atb ob g s cap (a + n) (be s ((V * 2 ^ n + c) * 2 ^ (8 * s - (a + n)))) w' := by
 have HH := zH h
 obtain ⟨L, hL⟩ : ∃ L, L = be s (V * 2 ^ (8 * s - a)) := ⟨_, rfl⟩
 rw [← hL] at h HH
 have HLE := zH hL
 obtain ⟨e, he⟩ : ∃ e, e = a % 8 := ⟨_, rfl⟩
 obtain ⟨j, hj⟩ : ∃ j, j = a / 8 := ⟨_, rfl⟩
 have f1 : (a : Int) % 8 = (e : Int) := by omega
 have f2 : (a : Int) / 8 = (j : Int) := by omega
 have hjs : j < s := by omega
 have a0 : w.cell? ⟨atb, 0, none⟩ = some (.int .i64 (a : Int)) := by rw [zC h.at_]; rfl
 have o0 : w.cell? ⟨ob, 0, none⟩ = some (.slice (some ⟨g, 0, none⟩) s cap) := by rw [zC h.out]; rfl
 have hlen : j < L.length := by rw [hL, zz2]; exact hjs
 obtain ⟨b, hb⟩ : ∃ b, b = V * 2 ^ (8 * s - a) / 256 ^ (s - 1 - j) % 256 := ⟨_, rfl⟩
 have hb8 : b < 256 := by rw [hb]; exact Nat.mod_lt _ (by decide)
 have hbf : b % 2 ^ (8 - e) = 0 := by rw [hb, hj, he]; exact yyQ (V := V) (by omega)
 have g0 : w.cell? ⟨g, j, none⟩ = some (.int .u8 (b : Int)) := by
  rw [h.byte hlen, hb]
  subst hL
  rw [uug]
 have g1 : w.frozen? ⟨g, j, none⟩ = false := h.own.free1 yyz j
 have HE := zH he; have HJ := zH hj; have HBB := zH hb; have HC := zH hc; have HA := zH ha
 have i1 : (0 : Int) ≤ (j : Int) := by omega
 have i2 : (j : Int) < (s : Int) := by omega
 have he8 : e < 8 := by omega
 by_cases hroom : n ≤ 8 - e
 · have z1 : (n : Int) ≤ 8 - (e : Int) := by omega
   have hd := shl_in hc hroom
   have hd2 : c * 2 ^ (8 - e - n) < 256 := Nat.lt_of_lt_of_le hd (jjr (by omega))
   obtain ⟨x, hx⟩ : ∃ x, x = UInt8.ofNat (b + c * 2 ^ (8 - e - n)) := ⟨_, rfl⟩
   have hor : bits BinOp.or IntKind.u8 (b : Int) ((c : Int) * 2 ^ (8 - e - n) % 256) = ((x.toNat : Nat) : Int) := by
    rw [hx, ← zqs hb8 hbf (by omega) hd]
    congr 1
    rw [show (c : Int) * 2 ^ (8 - e - n) = ((c * 2 ^ (8 - e - n) : Nat) : Int) by simp]
    omega
   have HFIN := zH (show L.set j x = be s ((V * 2 ^ n + c) * 2 ^ (8 * s - (a + n))) by
    rw [HLE.out, hx, hb, HJ.out, HE.out]
    exact qzj (by omega) (by omega) hc)
   clear h hlen he hj hb hL hc ha hd hd2 hx hb8 hbf
   go_enter Tryz.func318, Tryz.ntmps318
   go_upto_region 2 with fail
   go_region
   obtain ⟨wd, hwd⟩ : ∃ wd, wd = (w.setCell ⟨g, j, none⟩ (.int .u8 ((x.toNat : Nat) : Int))).drew := ⟨_, rfl⟩
   have HD := HH.out.store hne2 hne3 j x
   rw [← hwd] at HD
   rw [HFIN.out] at HD
   have HW := zH HD
   have a0' : wd.cell? ⟨atb, 0, none⟩ = some (.int .i64 (a : Int)) := by rw [zC HD.at_]; rfl
   have a1' := zF HD.at_ 0
   first | rw [hor] | skip
   rw [← hwd]
   clear hwd HD g0 g1 a0 o0 HFIN HH
   go_wp2_with fail
   go_end0
   refine ⟨rfl, ?_⟩
   have hm := HW.out.move hne1 hne2 hB (a + n)
   rwa [Int.natCast_add] at hm
 · have z1 : ¬ (n : Int) ≤ 8 - (e : Int) := by omega
   have hn0 : a % 8 + n > 8 := by omega
   have hjs2 : j + 1 < s := by omega
   obtain ⟨m, hm⟩ : ∃ m, n = (8 - e) + m := ⟨n - (8 - e), by omega⟩
   have hcm : c / 2 ^ (n - (8 - e)) < 2 ^ (8 - e) := by
    rw [Nat.div_lt_iff_lt_mul (Nat.pow_pos (by decide)), ← Nat.pow_add, show 8 - e + (n - (8 - e)) = n by omega]
    exact hc
   have hd2 : c / 2 ^ (n - (8 - e)) < 256 := Nat.lt_of_lt_of_le hcm (jjr (by omega))
   obtain ⟨x, hx⟩ : ∃ x, x = UInt8.ofNat (b + c / 2 ^ (n - (8 - e))) := ⟨_, rfl⟩
   have hor : bits BinOp.or IntKind.u8 (b : Int) ((c : Int) / 2 ^ (n - (8 - e))) = ((x.toNat : Nat) : Int) := by
    rw [hx, ← zqs hb8 hbf (by omega) hcm]
    congr 1
   obtain ⟨y, hy⟩ : ∃ y, y = UInt8.ofNat (c * 2 ^ (16 - e - n) % 256) := ⟨_, rfl⟩
   have HFIN := zH (show (L.set j x).set (j + 1) y = be s ((V * 2 ^ n + c) * 2 ^ (8 * s - (a + n))) by
    rw [HLE.out, hx, hb, HJ.out, hy, HE.out]
    exact put_over (by omega) (by omega) hn8 hc)
   have HHS := zH (HH.out.store hne2 hne3 j x)
   clear h hlen he hj hb hL hc ha hd2 hx hb8 hbf hcm hm hn0
   go_enter Tryz.func318, Tryz.ntmps318
   go_upto_region 3 with fail
   go_region
   obtain ⟨wd, hwd⟩ : ∃ wd, wd = (w.setCell ⟨g, j, none⟩ (.int .u8 ((x.toNat : Nat) : Int))).drew := ⟨_, rfl⟩
   have hw := HHS.out
   rw [← hwd] at hw ⊢
   have HW := zH hw
   have hl2 : j + 1 < (L.set j x).length := by rw [List.length_set, HLE.out, zz2]; exact hjs2
   have b0 : wd.cell? ⟨g, j + 1, none⟩ = some (.int .u8 0) := by
    rw [hw.byte hl2]
    have h1 : (L.set j x)[j + 1].toNat = 0 := by
     rw [List.getElem_set_ne (by omega)]
     have h2 := HLE.out
     subst h2
     rw [uug]
     have h3 := yyQ (V := V * 2 ^ (8 - e)) (s := s) (at_ := a + (8 - e)) (by have := HE.out; omega)
     rw [show (a + (8 - e)) / 8 = j + 1 by have := HE.out; have := HJ.out; omega, show (a + (8 - e)) % 8 = 0 by have := HE.out; omega, Nat.mod_eq_of_lt (Nat.mod_lt _ (by decide)), Nat.mul_assoc, ← Nat.pow_add, show 8 - e + (8 * s - (a + (8 - e))) = 8 * s - a by have := HA.out; omega] at h3
     exact h3
    rw [h1]; rfl
   have b1 : wd.frozen? ⟨g, j + 1, none⟩ = false := hw.own.free1 yyz (j + 1)
   have a0' : wd.cell? ⟨atb, 0, none⟩ = some (.int .i64 (a : Int)) := by rw [zC hw.at_]; rfl
   have o0' : wd.cell? ⟨ob, 0, none⟩ = some (.slice (some ⟨g, 0, none⟩) s cap) := by rw [zC hw.out]; rfl
   have i3 : (0 : Int) ≤ (j : Int) + 1 := by omega
   have i4 : (j : Int) + 1 < (s : Int) := by omega
   have HHS2 := zH (hw.store hne2 hne3 (j + 1) y)
   rw [HFIN.out] at HHS2
   clear hwd hw hl2 g0 g1 a0 o0 HH HHS HFIN hor
   have hor2 : bits BinOp.or IntKind.u8 0 ((c : Int) * 2 ^ (8 - n + (8 - e)) % 256) = ((y.toNat : Nat) : Int) := by
    have h1 : (c : Int) * 2 ^ (8 - n + (8 - e)) % 256 = ((c * 2 ^ (16 - e - n) % 256 : Nat) : Int) := by
     rw [show 8 - n + (8 - e) = 16 - e - n by omega]
     simp
    rw [h1, hy, show (0 : Int) = ((0 : Nat) : Int) from rfl, u8_or_nat 0 _ (by decide) (Nat.mod_lt _ (by decide)), Nat.zero_or, UInt8.toNat_ofNat', Nat.mod_mod]
   have hor3 : (c : Int) * 2 ^ (16 - e - n) % 256 = ((y.toNat : Nat) : Int) := by
    rw [hy, UInt8.toNat_ofNat', Nat.mod_mod]
    simp
   have HOR3 := zH hor3
   clear hor3
   go_upto_region 4 with fail
   go_region
   have hor3 := HOR3.out
   obtain ⟨wd', hwd⟩ : ∃ wd', wd' = (wd.setCell ⟨g, j + 1, none⟩ (.int .u8 ((y.toNat : Nat) : Int))).drew := ⟨_, rfl⟩
   first | rw [hor2] | rw [hor3] | skip
   have HD := HHS2.out
   rw [← hwd] at HD ⊢
   have HW2 := zH HD
   have a2' : wd'.cell? ⟨atb, 0, none⟩ = some (.int .i64 (a : Int)) := by rw [zC HD.at_]; rfl
   have a3' := zF HD.at_ 0
   clear hwd HD HHS2 hor2 hy b0 b1 a0' o0' HW
   go_wp2_with fail
   go_end0
   refine ⟨rfl, ?_⟩
   have hm := HW2.out.move hne1 hne2 hB (a + n)
   rwa [Int.natCast_add] at hm
theorem run_mkG {P : Program} {t e : TypeId} {z : Value} {by_ : Nat} (ht : P.underlying t = some (.slice e)) (hi : (P.info? e).map (fun i => (i.zero, i.size, i.bytes)) = some (some z, 1, by_)) (hb8 : by_ ≤ 8) (s : Nat) (hs : s ≤ 65536) (w : World) :
 (Instr.makeSlice t (.int .i64 (s : Int)) (.int .i64 (s : Int))).run P w = .ok (.slice (some ⟨w.heap.size, 0, none⟩) s s) (w.alloc (.cells (madeCells z.cells s) e)) := by
 cases h : P.info? e with
 | none => rw [h] at hi; cases hi
 | some i =>
   rw [h] at hi
   have h1 : (i.zero, i.size, i.bytes) = (some z, 1, by_) := by simpa using hi
   injection h1 with h2 h3
   injection h3 with h3 h4
   have hm : by_ * s ≤ 8 * 65536 := Nat.mul_le_mul hb8 hs
   have := run_makeSlice (P := P) w t e i z ht h h2 .i64 .i64 (s : Int) (s : Int) (by omega) (Int.le_refl _) (by rw [h3]; omega) (by rw [h4, ← Int.natCast_mul]; omega) (by omega)
   rw [h3, Int.toNat_natCast, Nat.mul_one] at this
   exact this
theorem kqQ (s : Nat) (hs : s ≤ 65536) (w : World) : (Instr.makeSlice 41 (.int .i64 (s : Int)) (.int .i64 (s : Int))).run Tryz.prog w = .ok (.slice (some ⟨w.heap.size, 0, none⟩) s s) (w.alloc (.cells (madeCells #[.int .u8 0] s) 5)) :=
 run_mkG (z := .int .u8 0) yya vvJ (by decide) s hs w
theorem kqR (s : Nat) (hs : s ≤ 65536) (w : World) (B : Nat) (hB : B ≤ w.heap.size) : OwnB (w.alloc (.cells (madeCells #[.int .u8 0] s) 5)) B (some ⟨w.heap.size, 0, none⟩) s s (List.replicate s 0) := by
 have h := World.ownsRow_lit (base := B) (e := 5) (size := 1) w (madeCells #[.int .u8 0] s) s hB (by unfold maxLen; omega) (by rw [size_madeCells, Nat.mul_one])
 rw [toList_madeCells_one] at h
 unfold OwnB
 rw [show bvs (List.replicate s 0) = List.replicate s (.int .u8 0) by unfold bvs; rw [List.map_replicate]; rfl]
 exact h
end
section
open Go Go.RowKit
theorem xxi {w : World} {B : Nat} {A : Option Addr} {n c m : Nat} {L : List UInt8} {x : Nat} (h : OwnB w B A n c (L ++ vput x)) (hm : m = L.length) : n ≤ m + 10 := by
 have h1 := h.len
 have h2 := yyF x
 simp at h1; omega
def qzP (tag : Int) (bytes : Bool) (n : Nat) (A : Option Addr) (k c : Nat) (w : World) (e : Ending) (w' : World) : Prop :=
 e = .returned (.agg #[.int .i64 tag, .bool bytes, .int .u64 (n : Int), .slice A k c]) ∧ Below w.heap.size w w'
theorem jjB (tag : Int) (is : Bool) (w : World) :
 Calls Tryz.prog 118 #[.int .i64 tag, .bool is] w (qzP tag false (b2n is) none 0 0 w) := by
 cases is
 all_goals
  go_enter Tryz.func118, Tryz.ntmps118
  go_wp2
  exact bodyPost_ret (v := .agg #[_, _, _, _]) (by simp [results, Tryz.results118, go_sem, b2n]) rfl ⟨rfl, ((Below.refl _ w).alloc zN _).alloc (by simp) _⟩
theorem qxl (tag x : Int) (w : World) (h0 : -9223372036854775808 ≤ x) (h1 : x ≤ 9223372036854775807) :
 Calls Tryz.prog 121 #[.int .i64 tag, .int .i64 x] w (qzP tag false (zigN x) none 0 0 w) := by
 go_enter Tryz.func121, Tryz.ntmps121
 go_wp2_with (go_at_call 179; refine (kqI x _ h0 h1).mono ?_; rintro e w' ⟨rfl, rfl⟩)
 exact bodyPost_ret (v := .agg #[_, _, _, _]) (by simp [results, Tryz.results121, go_sem]) rfl ⟨rfl, (Below.refl _ w).alloc zN _⟩
theorem kqZ (tag : Int) (A : Option Addr) (n c : Nat) (w : World) :
 Calls Tryz.prog 119 #[.int .i64 tag, .slice A n c] w (qzP tag true 0 A n c w) := by
 go_enter Tryz.func119, Tryz.ntmps119
 go_wp2
 exact bodyPost_ret (v := .agg #[_, _, _, _]) (by simp [results, Tryz.results119, go_sem]) rfl ⟨rfl, (Below.refl _ w).alloc zN _⟩
def PutPost (l : List Fld) (w : World) (e : Ending) (w' : World) : Prop :=
 ∃ A n c, e = .returned (.tuple #[.slice A n c, .int .i64 (okc (wput l).isSome 1)]) ∧ OwnB w' w.heap.size A n c (dput l) ∧ Below w.heap.size w w'
theorem qxm (F : Nat → Prop) (A : Option Addr) (n c : Nat) (l : List Fld) (w : World) (h : Sl tFld F w A n c l) (hlen : n ≤ 4294967296) (hl : wlen l ≤ 4294967200) :
 Calls Tryz.prog 122 #[.slice A n c] w (PutPost l w) := by
 have HL := zH h.len
 go_enter Tryz.func122, Tryz.ntmps122
 go_wp2
 go_loopw [4, 10] (fun v i wr => ∃ (k : Nat) (L : List UInt8) (A2 : Option Addr) (m c2 : Nat), k ≤ n ∧ i = .int .i64 k ∧ v = .slice A2 m c2 ∧ OwnB wr w.heap.size A2 m c2 L ∧ wput (l.take k) = some L ∧ Below w.heap.size w wr)
  (fun _ i _ => n - (intOf i).toNat)
 case atStart => exact ⟨0, [], none, 0, 0, Nat.zero_le _, rfl, rfl, OwnB.nil_ _ _, by simp [wput], zR⟩
 case round =>
  obtain ⟨k, L, A2, m, c2, hk, rfl, rfl, hown, hL, hb⟩ := hrel
  by_cases hlt : k < n
  · have hkl : k < l.length := by rw [← HL.out]; exact hlt
    have HO := zH hown; have HW := zH hL
    clear hown hL
    obtain ⟨b, o, cs, rfl, _, hbl, hrep, hc⟩ := (h.below hb zN).at_ hkl (by decide)
    obtain ⟨A3, n3, c3, rfl, ht, hn3, hs3⟩ := hrep
    obtain ⟨f, hf⟩ : ∃ f, f = l[k] := ⟨_, rfl⟩
    rw [← hf] at hc ht hn3 hs3
    have HF := zH hf; clear hf
    obtain ⟨g0, g1, g2, g3⟩ := cells4 hc
    clear hc
    obtain ⟨ht0, ht1⟩ := ht
    by_cases htag : 1 ≤ f.tag ∧ f.tag ≤ 100
    · obtain ⟨tag, isb, fn, fb⟩ := f
      dsimp only at *
      obtain ⟨t, rfl⟩ := Int.eq_ofNat_of_zero_le (show 0 ≤ tag by omega)
      have htl : (t : Int) ≤ 100 := htag.2
      have htg : (1 : Int) ≤ (t : Int) := htag.1
      clear htag
      have hwl := uu8 l k hkl
      rw [← HF.out] at hwl
      dsimp only at hwl
      have hLl : L.length ≤ wlen (l.take k) := kqF _ _ HW.out
      have hml := HO.out.len
      have h3l := hs3.len
      have hb1 : m + n3 + 20 ≤ 4294967200 := by omega
      have HM := zH hml; have H3L := zH h3l
      clear hml h3l hLl hwl
      have hsz := hb.size
      have HN3 := zH (uuw n3 (by omega))
      have hfin : ∀ (w' : World) (A' : Option Addr) (m' c' : Nat) (x : List UInt8), x = fld ⟨(t : Int), isb, fn, fb⟩ → OwnB w' w.heap.size A' m' c' (L ++ x) → Below w.heap.size w w' →
       ∃ (k' : Nat) (L' : List UInt8) (A'' : Option Addr) (m'' c'' : Nat), k' ≤ n ∧ Value.int .i64 ((k : Int) + 1) = .int .i64 k' ∧ Value.slice A' m' c' = .slice A'' m'' c'' ∧ OwnB w' w.heap.size A'' m'' c'' L' ∧ wput (l.take k') = some L' ∧ Below w.heap.size w w' := by
       intro w' A' m' c' x hx ho hbl'
       refine ⟨k + 1, L ++ x, A', m', c', by omega, by go_num, rfl, ho, ?_, hbl'⟩
       rw [zT hkl, ← HF.out, hx]
       exact uu9 _ _ _ HW.out (by simp [zqm]; omega)
      have HFIN := zH hfin
      clear hfin
      cases isb
      · have HS1 := zH ((HO.out.bs.any.alloc (.cells #[.int .i64 (t : Int), .bool false, .int .u64 (fn : Int), .slice A3 n3 c3] 114)).drew)
        have HB0 := zH ((hb.alloc hsz (.cells #[.int .i64 (t : Int), .bool false, .int .u64 (fn : Int), .slice A3 n3 c3] 114)).drew)
        go_wp2_with fail
        go_region_held3 (fun w' => w'.cell? ⟨wr.heap.size, 2, none⟩ = some (.int .u64 (fn : Int)))
         (first | go_keep | (exact (hb1.cell (p := ⟨wr.heap.size, 2, none⟩) (by simp)).trans (by simp)) | (exact (hb2.cell (p := ⟨wr.heap.size, 2, none⟩) (by have := hb1.size; simp at this; show wr.heap.size < _; omega)).trans (by assumption)))
         (first
           | (go_at_call_of 180 (Value.slice A2 m c2); refine (uuO (fun _ => True) A2 m c2 L _ _ HS1.out (by omega) (by omega) (by omega)).mono ?_; rintro e w1 ⟨A4, n4, c4, rfl, hown1, hb1⟩; have hn4 : n4 ≤ m + 10 := xxi hown1 HM.out)
           | (go_at_call 180; refine (uuO (fun _ => True) A4 n4 c4 _ _ _ hown1.bs.any (by omega) (by omega) (by omega)).mono ?_; rintro e w2 ⟨A5, n5, c5, rfl, hown2, hb2⟩))
        have hs1 := hb1.size
        simp only [World.size_drew, zS] at hs1
        have HO5 := zH (hown2.down (B' := w.heap.size) (by omega))
        have HB5 := zH ((HB0.out.trans (hb1.mono (by simp; omega))).trans (hb2.mono (by omega)))
        clear hown1 hown2 hb1 hb2 HS1 HB0
        go_wp2
        go_roundw
        case rel =>
         have ho := HO5.out
         rw [List.append_assoc, show ((t : Int) * 8).toNat = 8 * t by omega, yyj] at ho
         exact HFIN.out _ _ _ _ _ (by simp [fld]) ho HB5.out
        case measure => simp [intOf]; omega
      · have H2 := zH (u64_or2 t (by omega))
        have HS1 := zH ((HO.out.bs.any.alloc (.cells #[.int .i64 (t : Int), .bool true, .int .u64 (fn : Int), .slice A3 n3 c3] 114)).drew)
        have HB0 := zH ((hb.alloc hsz (.cells #[.int .i64 (t : Int), .bool true, .int .u64 (fn : Int), .slice A3 n3 c3] 114)).drew)
        go_wp2_with fail
        go_region_held3 (fun w' => w'.cell? ⟨wr.heap.size, 3, none⟩ = some (.slice A3 n3 c3))
         (first | go_keep | (exact (hb1.cell (p := ⟨wr.heap.size, 3, none⟩) (by simp)).trans (by simp)) | (exact (hb2.cell (p := ⟨wr.heap.size, 3, none⟩) (by have := hb1.size; simp at this; show wr.heap.size < _; omega)).trans (by assumption)))
         (first
           | (go_at_call_of 180 (Value.slice A2 m c2); refine (uuO (fun _ => True) A2 m c2 L _ _ HS1.out (by omega) (by rw [H2.out]; omega) (by rw [H2.out]; omega)).mono ?_; rintro e w1 ⟨A4, n4, c4, rfl, hown1, hb1⟩; have hn4 : n4 ≤ m + 10 := xxi hown1 HM.out)
           | (go_at_call 180; refine (uuO (fun _ => True) A4 n4 c4 _ _ _ hown1.bs.any (by omega) (by rw [HN3.out]; omega) (by rw [HN3.out]; omega)).mono ?_; rintro e w2 ⟨A5, n5, c5, rfl, hown2, hb2⟩))
        have hs1 := hb1.size
        simp only [World.size_drew, zS] at hs1
        have hn5 : n5 ≤ n4 + 10 := xxi hown2 hown1.len
        have HO5 := zH (hown2.down (B' := w.heap.size) (by omega))
        have HB5 := zH ((HB0.out.trans (hb1.mono (by simp; omega))).trans (hb2.mono (by omega)))
        have HS5 := zH (((hs3.keep (w' := w2) (by have := hb2.size; omega) (fun b' _ hl => ((hb2.block b' (by omega)).trans (hb1.block b' (by simp; omega))).trans (Below.heap_alloc _ _ _ hl)))))
        clear hown1 hown2 hb1 hb2 HS1 HB0
        go_wp2_with (at_builtin; refine apb w2 w rfl (.tmp 37) (.tmp 39) rfl w.heap.size A5 n5 c5 _ rfl HO5.out HB5.out zN F A3 n3 c3 fb rfl HS5.out (by omega) ?_; intro A6 c6 w6 h6 hb6 _)
        go_roundw
        case rel =>
         have ho := h6
         rw [List.append_assoc, List.append_assoc, H2.out, HN3.out, yyj, yyj] at ho
         exact HFIN.out _ _ _ _ _ (by simp [fld, H3L.out]) ho hb6
        case measure => simp [intOf]; omega
    · have hbad : wput l = none := kqE l k hkl (by rw [← HF.out]; simp [zqm]; omega)
      have HBAD := zH hbad; clear hbad
      have HB0 := zH (hb.alloc hb.size (.cells #[.int .i64 f.tag, .bool f.bytes, .int .u64 (f.n : Int), .slice A3 n3 c3] 114))
      have hnot : f.tag < 1 ∨ 100 < f.tag := by omega
      clear htag
      rcases hnot with hnot | hnot
      · go_wp2
        go_ret2
        refine ⟨none, 0, 0, by rw [HBAD.out]; rfl, ?_, HB0.out⟩
        rw [show dput l = [] by simp [dput, HBAD.out]]
        exact OwnB.nil_ _ _
      · have hnot2 : 1 ≤ f.tag := by omega
        go_wp2
        go_ret2
        refine ⟨none, 0, 0, by rw [HBAD.out]; rfl, ?_, HB0.out⟩
        rw [show dput l = [] by simp [dput, HBAD.out]]
        exact OwnB.nil_ _ _
  · obtain rfl : k = n := by omega
    have hfull : wput l = some L := by rw [← hL, zL (by rw [← HL.out]; exact Nat.le_refl _)]
    have HFU := zH hfull; clear hfull hL
    go_wp2
    go_ret2
    refine ⟨A2, m, c2, by rw [HFU.out]; rfl, ?_, hb⟩
    rw [show dput l = L by simp [dput, HFU.out]]
    exact hown
end
section
open Go Go.RowKit
attribute [local go_sem ↓] Go.wp_at_zero Go.wp_at_succ
theorem kqn (b : Bool) : b2n b < 18446744073709551616 := by cases b <;> decide
theorem vvZ (v : VV) (hs : v.s.size ≤ 4294967000) : wlen (zz5 v) ≤ 4294967200 := by
 have e : v.s.data.toList.length = v.s.size := Array.length_toList
 simp only [zz5, wlen, fnum, ftxt, e, List.length_nil]
 omega
theorem qzQ (F : Nat → Prop) (A : Option Addr) (n c : Nat) (l : List Fld) (w : World) (h : Sl tFld F w A n c l) (hlen : n ≤ 4294967296) (hl : wlen l ≤ 4294967200) :
 Calls Tryz.prog 116 #[.slice A n c] w (Own1 w (dput l)) := by
 go_enter Tryz.func116, Tryz.ntmps116
 go_wp2_with (go_at_call 122; refine (qxm F A n c l _ h hlen hl).mono ?_; rintro e w1 ⟨A1, n1, c1, rfl, hown, hb⟩)
 go_ret
 exact ⟨A1, n1, c1, rfl, hown, hb⟩
theorem uuz (v : VV) (hv : v.ok) (hs : v.s.size ≤ 4294967000) (w : World) :
 Calls Tryz.prog 120 #[.agg #[.bool v.null, .int .i64 v.n, .string v.s]] w (Own1 w (xxu v)) := by
 obtain ⟨h0, h1, h2⟩ := hv
 have hsb := fun w => zqW w v.s
 have HW := zH (show wlen (zz5 v) ≤ 4294967200 from vvZ v hs)
 have HZ := zH (uu7 v.n h0 h1)
 go_enter Tryz.func120, Tryz.ntmps120
 go_wp2_with fail
 refine regL [(some 2, fun w' => w'.cell? ⟨w.heap.size, 0, none⟩ = some (.bool v.null)), (some 5, fun w' => w'.cell? ⟨w.heap.size, 1, none⟩ = some (.int .i64 v.n)), (some 8, fun w' => w'.cell? ⟨w.heap.size, 2, none⟩ = some (.string v.s))] (by kernel_rfl) ?_ (fun hHeld => ?_)
 · exact ⟨fun h => (by first | exact gone (c := 2) (by decide +kernel) h | (dsimp only; (go_keep; done)) | fail), fun h => (by first | exact gone (c := 5) (by decide +kernel) h | (dsimp only; (go_keep; done)) | fail), fun h => (by first | exact gone (c := 8) (by decide +kernel) h | (dsimp only; (go_keep; done)) | fail), trivial⟩
 iterate 6
  all_goals
   repeat ((first | (refine tkP 0 (oi := ⟨_, _, _, _, _, _⟩) (v := ?_) rfl (by decide +kernel) rfl (fun _ _ _ h => h) rfl hHeld ?_ ?_) | (refine tkL 1 0 rfl (oi := ⟨_, _, _, _, _, _⟩) (v := ?_) rfl (by decide +kernel) rfl (fun _ _ _ h => h) rfl hHeld ?_ ?_) | (refine tkP 3 (oi := ⟨_, _, _, _, _, _⟩) (v := ?_) rfl (by decide +kernel) rfl (fun _ _ _ h => h) rfl hHeld ?_ ?_) | (refine tkL 4 1 rfl (oi := ⟨_, _, _, _, _, _⟩) (v := ?_) rfl (by decide +kernel) rfl (fun _ _ _ h => h) rfl hHeld ?_ ?_) | (refine tkP 6 (oi := ⟨_, _, _, _, _, _⟩) (v := ?_) rfl (by decide +kernel) rfl (fun _ _ _ h => h) rfl hHeld ?_ ?_) | (refine tkL 7 2 rfl (oi := ⟨_, _, _, _, _, _⟩) (v := ?_) rfl (by decide +kernel) rfl (fun _ _ _ h => h) rfl hHeld ?_ ?_) | (refine tkP 12 (oi := ⟨_, _, _, _, _, _⟩) (v := ?_) rfl (by decide +kernel) rfl (fun _ _ _ h => h) rfl hHeld ?_ ?_)); rotate_left; (focus (intro w; (try intro hSw); (try dsimp only at hSw); go_simp; try with_reducible rfl)); intro hHeld; (try simp only [Act.put]); (try simp only [List.setIfInBounds_toArray]); (try simp only [List.set_cons_succ]); (try simp only [List.set_cons_zero]))
   first | (refine rd1 2 (o := ⟨_, _, _, _, _, _⟩) (by decide +kernel) rfl (fun K hK => ?_)) | (refine rd2 2 8 (o := ⟨_, _, _, _, _, _⟩) (o' := ⟨_, _, _, _, _, _⟩) (by decide +kernel) rfl rfl (fun K hK => ?_) (fun K hK => ?_)) | (refine rd1 5 (o := ⟨_, _, _, _, _, _⟩) (by decide +kernel) rfl (fun K hK => ?_)) | (refine rd2 5 8 (o := ⟨_, _, _, _, _, _⟩) (o' := ⟨_, _, _, _, _, _⟩) (by decide +kernel) rfl rfl (fun K hK => ?_) (fun K hK => ?_)) | (refine rd1 8 (o := ⟨_, _, _, _, _, _⟩) (by decide +kernel) rfl (fun K hK => ?_)) | (refine rd1 9 (o := ⟨_, _, _, _, _, _⟩) (by decide +kernel) rfl (fun K hK => ?_)) | (refine rd1 10 (o := ⟨_, _, _, _, _, _⟩) (by decide +kernel) rfl (fun K hK => ?_)) | (refine rd1 11 (o := ⟨_, _, _, _, _, _⟩) (by decide +kernel) rfl (fun K hK => ?_))
  all_goals
   first  | (go_simp; (first | (go_at_call 118; refine (jjB _ _ _).mono ?_; rintro e w1 ⟨rfl, hb1⟩) | (go_at_call 121; refine (qxl _ _ _ h0 h1).mono ?_; rintro e w2 ⟨rfl, hb2⟩) | (go_at_call 119; refine (kqZ _ _ _ _ _).mono ?_; rintro e w3 ⟨rfl, hb3⟩) | (go_at_call 116; refine (qzQ (fun _ => True) _ 3 3 (zz5 v) _ (by refine Sl.new3 (uuN (by unfold i64; omega) (kqn _)) (uuN (by unfold i64; omega) HZ.out) (xx3 (by unfold i64; omega) ?_) _ _ rfl; (repeat (first | assumption | exact Sl.nil_ _ _ _ | exact (kqH (by assumption)).any | (refine kqa (by assumption) ?_; simp; done) | refine Sl.below ?_ (by assumption) zN | refine Sl.alloc ?_ _ | refine Sl.drew ?_))) (by omega) HW.out).mono ?_; rintro e w4 ⟨A4, n4, c4, rfl, hown, hb4⟩))) | go_simp
   refine hK.out _ _ ?_ (fun hHeld => ?_)
   · (try dsimp only); exact ⟨fun h => (by first | exact gone (c := 2) (by decide +kernel) h | (dsimp only; have hh := hHeld.get (k := 0) (c := 2) rfl (by decide +kernel); (try dsimp only at hh); first | with_reducible exact hh | with_reducible exact xxK hh _ | exact zze (by assumption) hh | exact xxK hh _) | fail), fun h => (by first | exact gone (c := 5) (by decide +kernel) h | (dsimp only; have hh := hHeld.get (k := 1) (c := 5) rfl (by decide +kernel); (try dsimp only at hh); first | with_reducible exact hh | with_reducible exact xxK hh _ | exact zze (by assumption) hh | exact xxK hh _) | fail), fun h => (by first | exact gone (c := 8) (by decide +kernel) h | (dsimp only; have hh := hHeld.get (k := 2) (c := 8) rfl (by decide +kernel); (try dsimp only at hh); first | with_reducible exact hh | with_reducible exact xxK hh _ | exact zze (by assumption) hh | exact xxK hh _) | fail), trivial⟩
   clear hK K; (try simp only [Act.put]); (try simp only [List.setIfInBounds_toArray]); (try simp only [List.set_cons_succ]); (try simp only [List.set_cons_zero])
 all_goals
  repeat ((first | (refine tkP 12 (oi := ⟨_, _, _, _, _, _⟩) (v := ?_) rfl (by decide +kernel) rfl (fun _ _ _ h => h) rfl hHeld ?_ ?_)); rotate_left; (focus (intro w; (try intro hSw); (try dsimp only at hSw); go_simp; try with_reducible rfl)); intro hHeld; (try simp only [Act.put]); (try simp only [List.setIfInBounds_toArray]); (try simp only [List.set_cons_succ]); (try simp only [List.set_cons_zero]))
  refine qzw (by decide +kernel) ?_ _
  go_wp2
  go_ret
  exact ⟨A4, n4, c4, rfl, hown.down (by have := hb1.size; have := hb2.size; have := hb3.size; simp at *; omega), by (repeat (first | exact zR | assumption | refine vvH ?_ (by assumption) | refine yy1 ?_ _ | refine vvI ?_))⟩
end
end Go.Proofs.YtpmglcachffojaaGreatDoor
