/- A part of what Chunks leans on. -/
import Derived.Test.YtpmglcachffojaaGreatDoorZ3
import Derived.Test.YtpmglcachffojaaGreatDoorZ5
import Derived.Deep.MidRow
set_option maxRecDepth 100000
set_option maxHeartbeats 16000000
namespace Go.Proofs.YtpmglcachffojaaGreatDoor
section
open Go Go.RowKit
def xxo (r : Nat) : Nat := if r % 2 = 1 then (r / 2) ^^^ 2197175160 else r / 2
def yyL : Nat → Nat → Nat
 | 0, r => r
 | k + 1, r => xxo (yyL k r)
def yyf (i : Nat) : Nat := yyL 8 i
def uuu (r : Nat) (c : UInt8) : Nat := (r / 256) ^^^ yyf ((r ^^^ c.toNat) % 256)
def zzE (b : List UInt8) : Nat := b.foldl uuu 4294967295
def yyM (b : List UInt8) : Nat := 4294967295 - zzE b
def zzz (s i : Nat) : UInt8 := UInt8.ofNat (s / 256 ^ i)
def vvf (b : List UInt8) : List UInt8 := b ++ [zzz (yyM b) 0, zzz (yyM b) 1, zzz (yyM b) 2, zzz (yyM b) 3]
theorem jjO {a b : Nat} (ha : a < 4294967296) (hb : b < 4294967296) : a ^^^ b < 4294967296 := Nat.xor_lt_two_pow (n := 32) ha hb
theorem zq2 {r : Nat} (h : r < 4294967296) : xxo r < 4294967296 := by
 unfold xxo
 split
 · exact jjO (by omega) (by omega)
 · omega
theorem vvg {r : Nat} (h : r < 4294967296) : ∀ k, yyL k r < 4294967296
 | 0 => h
 | k + 1 => zq2 (vvg h k)
theorem xxX {i : Nat} (h : i < 4294967296) : yyf i < 4294967296 := vvg h 8
theorem xqf {r : Nat} (c : UInt8) (h : r < 4294967296) : uuu r c < 4294967296 := jjO (by omega) (xxX (by omega))
theorem xxp (b : List UInt8) (c : UInt8) : zzE (b ++ [c]) = uuu (zzE b) c := by unfold zzE; rw [List.foldl_append]; rfl
theorem yyT (b : List UInt8) : zzE b < 4294967296 := by
 suffices h : ∀ r : List UInt8, zzE r.reverse < 4294967296 by
  have := h b.reverse; rwa [List.reverse_reverse] at this
 intro r
 induction r with
 | nil => exact (by decide : 4294967295 < 4294967296)
 | cons c r ih => rw [List.reverse_cons, xxp]; exact xqf c ih
theorem kqo (b : List UInt8) : (vvf b).length = b.length + 4 := by unfold vvf; simp
theorem jjj (a : Nat) (h : a < 4294967296) : a ^^^ 4294967295 = 4294967295 - a := by
 have e : (BitVec.ofNat 32 a ^^^ BitVec.allOnes 32) = ~~~ BitVec.ofNat 32 a := BitVec.xor_allOnes
 have e2 := congrArg BitVec.toNat e
 rw [BitVec.toNat_xor, BitVec.toNat_not, BitVec.toNat_ofNat, BitVec.toNat_allOnes, Nat.mod_eq_of_lt (by omega)] at e2
 exact e2
theorem u32_half (r : Nat) (h : r < 4294967296) : bits BinOp.xor IntKind.u32 ((r : Int) / 2) 2197175160 = (((r / 2) ^^^ 2197175160 : Nat) : Int) := by
 rw [show (r : Int) / 2 = ((r / 2 : Nat) : Int) by omega]
 exact u32_xor_nat (r / 2) 2197175160 (by omega) (by omega)
theorem u32_ones (r : Nat) (h : r < 4294967296) : bits BinOp.xor IntKind.u32 (r : Int) 4294967295 = ((4294967295 - r : Nat) : Int) := by
 rw [← jjj r h]
 exact u32_xor_nat r 4294967295 h (by omega)
theorem xqg {k : IntKind} {a b : Int} (h : a = b) : Ending.returned (.int k a) = .returned (.int k b) := by rw [h]
theorem xqh (i : Nat) (hi : i < 256) (w : World) : Calls Tryz.prog 129 #[.int .i64 (i : Int)] w fun e w' => e = .returned (.int .u32 (yyf i : Nat)) ∧ w = w' := by
 go_enter Tryz.func129, Tryz.ntmps129
 go_wp2_with fail
 go_loopw [3, 4, 5] (fun rv kv lv wr => ∃ (k : Nat), k ≤ 8 ∧ kv = .int .i64 (k : Int) ∧ rv = .int .u32 (yyL k i : Nat) ∧ w = wr) (fun _ kv _ _ => 8 - (intOf kv).toNat)
 case atStart => exact ⟨0, Nat.zero_le _, rfl, rfl, rfl⟩
 case round =>
  obtain ⟨k, hk, rfl, rfl, rfl⟩ := hrel
  by_cases hlt : k < 8
  · have hi1 : (k : Int) < 8 := by omega
    have hb := vvg (r := i) (by omega) k
    have hs : yyL (k + 1) i = xxo (yyL k i) := rfl
    obtain ⟨r, hr⟩ : ∃ r, r = yyL k i := ⟨_, rfl⟩
    rw [← hr] at hb hs ⊢
    unfold xxo at hs
    have HS := zH hs
    clear hr hs
    by_cases h2 : r % 2 = 1
    · have h3 : ((r : Int) % 2 == 1) = true := by rw [beq_iff_eq]; omega
      have HE := zH (show (r / 2) ^^^ 2197175160 = yyL (k + 1) i by rw [HS.out, if_pos h2])
      clear h2
      go_wp2_with fail
      go_roundw
      case rel => exact ⟨k + 1, by omega, by go_num, by rw [← HE.out, u32_half r hb], trivial⟩
      case measure => simp [intOf]; omega
    · have h3 : ((r : Int) % 2 == 1) = false := by rw [beq_eq_false_iff_ne]; omega
      have HE := zH (show r / 2 = yyL (k + 1) i by rw [HS.out, if_neg h2])
      clear h2
      go_wp2_with fail
      go_roundw
      case rel => exact ⟨k + 1, by omega, by go_num, by rw [← HE.out]; rfl, trivial⟩
      case measure => simp [intOf]; omega
  · obtain rfl : k = 8 := by omega
    go_wp2_with fail
    go_ret
    exact ⟨rfl, rfl⟩
def tabL (i : Nat) : List Value := (List.range 256).map fun j => Value.int .u32 (if j < i then (yyf j : Int) else 0)
def uuv : Array Value := (tabL 256).toArray
theorem yys (i : Nat) : (tabL i).length = 256 := by simp [tabL]
theorem vvA (i j : Nat) (h : j < 256) : (tabL i)[j]? = some (Value.int .u32 (if j < i then (yyf j : Int) else 0)) := by
 simp [tabL, h]
theorem yyU : Tryz.zeroCells39 = (tabL 0).toArray := by kernel_rfl
theorem tabL_set (i : Nat) (hi : i < 256) : (tabL i).toArray.setIfInBounds i (.int .u32 (yyf i : Int)) = (tabL (i + 1)).toArray := by
 rw [List.setIfInBounds_toArray]
 congr 1
 refine List.ext_getElem? fun j => ?_
 rw [List.getElem?_set]
 by_cases hj : j < 256
 · rw [vvA _ _ hj, vvA _ _ hj, yys]
   by_cases e : i = j
   · subst e; rw [if_pos rfl, if_pos hi, if_pos (by omega)]
   · rw [if_neg e]
     by_cases h2 : j < i
     · rw [if_pos h2, if_pos (by omega)]
     · rw [if_neg h2, if_neg (by omega)]
 · rw [List.getElem?_eq_none (by rw [yys]; omega), if_neg (by omega), List.getElem?_eq_none (by rw [yys]; omega)]
def TabC (g : Nat) (w : World) : Prop := w.heap[g]? = some (.cells uuv 39 (0, 0))
theorem TabC.keep {g : Nat} {w w' : World} (h : TabC g w) (hb : Below w.heap.size w w') : TabC g w' := (hb.block _ (zzb h)).trans h
theorem xxc {g : Nat} {t : TypeId} {fr : Nat × Nat} : ∀ (vs old pre : List Value) (w : World), w.heap[g]? = some (.cells (pre ++ old).toArray t fr) → old.length = vs.length → (w.setCells g pre.length vs).heap[g]? = some (.cells (pre ++ vs).toArray t fr)
 | [], old, pre, w, h, hl => by
   obtain rfl : old = [] := List.length_eq_zero_iff.1 hl
   exact h
 | v :: r, [], pre, w, h, hl => by simp at hl
 | v :: r, u :: old, pre, w, h, hl => by
   have h1 : (w.setCell ⟨g, pre.length, none⟩ v).heap[g]? = some (.cells ((pre ++ [v]) ++ old).toArray t fr) := zza h (by rw [List.setIfInBounds_toArray]; congr 1; rw [List.set_append_right _ _ zN]; simp)
   have h2 := xxc r old (pre ++ [v]) _ h1 (by simpa using hl)
   rw [List.length_append, List.length_singleton] at h2
   rw [List.append_assoc, List.singleton_append] at h2
   exact h2
theorem uuw {B b : Nat} {a : World} (hb : B ≤ b) : ∀ (vs : List Value) (o : Nat) (w : World), Below B a w → Below B a (w.setCells b o vs)
 | [], _, _, h => h
 | v :: r, o, _, h => uuw hb r (o + 1) _ (zzd h hb v)
structure NewR (w0 : World) (i : Nat) (w : World) : Prop where
 tab : w.heap[w0.heap.size + 1]? = some (.cells (tabL i).toArray 39 (0, 0))
 res : w.heap[w0.heap.size]? = some (.cells (tabL 0).toArray 39 (0, 0))
 below : Below w0.heap.size w0 w
theorem NewR.set {w0 w : World} {i : Nat} (h : NewR w0 i w) (hi : i < 256) : NewR w0 (i + 1) (w.setCell ⟨w0.heap.size + 1, i, none⟩ (.int .u32 (yyf i : Int))) :=
 ⟨zza h.tab (tabL_set i hi), (Below.heap_setCell _ _ _ _ (by simp)).trans h.res, zzd h.below (by omega) _⟩
theorem u32_step (r : Nat) (h : r < 4294967296) : bits BinOp.xor IntKind.u32 ((r : Int) / 2) (bits BinOp.and IntKind.u32 (r : Int) 1 * 2197175160 % 4294967296) = ((xxo r : Nat) : Int) := by
 rw [show bits BinOp.and IntKind.u32 (r : Int) 1 = ((r % 2 : Nat) : Int) by rw [show (1 : Int) = ((1 : Nat) : Int) from rfl, u32_and_nat r 1 h (by omega), nat_mask1], show (r : Int) / 2 = ((r / 2 : Nat) : Int) by omega]
 unfold xxo
 rcases Nat.mod_two_eq_zero_or_one r with h2 | h2
 · rw [h2, if_neg (by omega), show (((0 : Nat) : Int) * 2197175160) % 4294967296 = ((0 : Nat) : Int) by decide, u32_xor_nat _ _ (by omega) (by omega), Nat.xor_zero]
 · rw [h2, if_pos rfl, show (((1 : Nat) : Int) * 2197175160) % 4294967296 = ((2197175160 : Nat) : Int) by decide, u32_xor_nat _ _ (by omega) (by omega)]
structure NewX (w0 w : World) : Prop where
 res : w.heap[w0.heap.size]? = some (.cells uuv 39 (0, 0))
 below : Below w0.heap.size w0 w
theorem xqi (w : World) : Calls Tryz.prog 19 #[] w fun e w' => e = .returned (.agg uuv) ∧ Below w.heap.size w w' := by
 have hr0 : NewR w 0 ((w.alloc (.cells Tryz.zeroCells39 39)).alloc (.cells Tryz.zeroCells39 39)) := by
  have h1 := heap_alloc_new (w.alloc (.cells Tryz.zeroCells39 39)) (.cells Tryz.zeroCells39 39)
  rw [zS, yyU] at h1
  have h2 := heap_alloc_new w (.cells Tryz.zeroCells39 39)
  rw [yyU] at h2
  rw [yyU]
  exact ⟨h1, (Below.heap_alloc _ _ _ (by simp)).trans h2, ((zR).alloc zN _).alloc (by simp) _⟩
 have HR0 := zH hr0
 clear hr0
 go_enter Tryz.func19, Tryz.ntmps19
 go_wp2_with fail
 go_loopw [4] (fun iv wr => ∃ (i : Nat), i ≤ 256 ∧ iv = .int .i64 (i : Int) ∧ NewR w i wr) (fun iv _ => 256 - (intOf iv).toNat)
 case atStart => exact ⟨0, Nat.zero_le _, rfl, HR0.out⟩
 case round =>
  obtain ⟨i, hi, rfl, hr⟩ := hrel
  have HR := zH hr
  clear hr
  obtain ⟨wo, hwo⟩ : ∃ wo, wo = wr := ⟨_, rfl⟩
  rw [← hwo] at HR ⊢
  clear hwo wr
  by_cases hlt : i < 256
  · have hi1 : (i : Int) < 256 := by omega
    have hi0 : (0 : Int) ≤ (i : Int) := by omega
    have hi2 : (i : Int) < 4294967296 := by omega
    go_wp2_with fail
    go_loopw [3, 9] (fun rv kv wx => ∃ (k : Nat), k ≤ 8 ∧ kv = .int .i64 (k : Int) ∧ rv = .int .u32 (yyL k i : Nat) ∧ wo = wx) (fun _ kv _ => 8 - (intOf kv).toNat)
    case atStart => exact ⟨0, Nat.zero_le _, rfl, rfl, rfl⟩
    case round =>
     obtain ⟨k, hk, rfl, rfl, rfl⟩ := hrel
     by_cases hk8 : k < 8
     · have hk1 : (k : Int) < 8 := by omega
       have hb := vvg (r := i) (by omega) k
       have hs : yyL (k + 1) i = xxo (yyL k i) := rfl
       obtain ⟨r, hr⟩ : ∃ r, r = yyL k i := ⟨_, rfl⟩
       rw [← hr] at hb hs ⊢
       have HS := zH hs; have HB := zH hb
       clear hr hs
       go_wp2_with fail
       go_roundw
       case rel => exact ⟨k + 1, by omega, by go_num, by rw [HS.out, ← u32_step r HB.out], trivial⟩
       case measure => simp [intOf]; omega
     · obtain rfl : k = 8 := by omega
       have HS := zH (HR.out.set hlt)
       have hc : wo.cell? ⟨w.heap.size + 1, i, none⟩ = some (.int .u32 0) := by
        rw [zC HR.out.tab]
        have := vvA i i hlt
        rw [if_neg (by omega)] at this
        simpa using this
       have hf := zF HR.out.tab i
       obtain ⟨z, hz⟩ : ∃ z : Int, z = ((yyL 8 i : Nat) : Int) := ⟨_, rfl⟩
       have HZ := zH hz
       rw [← hz]
       clear hz
       go_wp2_with fail
       go_roundw
       case rel => exact ⟨i + 1, by omega, by go_num, by rw [HZ.out]; exact HS.out⟩
       case measure => simp [intOf]; omega
  · obtain rfl : i = 256 := by omega
    have hra : wo.rangeAt (w.heap.size + 1) 0 (tabL 256) := World.rangeAt_of_block HR.out.tab 0 256
    have hth : wo.there w.heap.size 0 (tabL 256).toArray.size := by
     intro j hj
     rw [List.size_toArray, yys] at hj
     refine ⟨?_, zF HR.out.res _⟩
     rw [zC HR.out.res]
     have := vvA 0 j hj
     simp [this]
    have h1c : (tabL 256).toArray.all (·.oneCell') = true := by kernel_rfl
    have HX := zH (show NewX w (wo.setCells w.heap.size 0 (tabL 256).toArray.toList) from ⟨xxc (tabL 256) (tabL 0) [] wo HR.out.res (by rw [yys, yys]), uuw zN _ _ _ HR.out.below⟩)
    go_wp2_with (first
     | (with_reducible refine wpList_load_mid rfl _ _ rfl (w.heap.size + 1) 0 rfl (tabL 256) _ hra Tryz.underlying39 rfl (by kernel_rfl) ?_)
     | (with_reducible refine wpList_store_mid rfl _ _ _ rfl w.heap.size 0 (tabL 256).toArray rfl rfl hth (by kernel_rfl) h1c ?_)
     | fail)
    refine bodyPost_ret (results_cell_row rfl _ _ w.heap.size _ _ (0, 0) _ rfl HX.out.res Tryz.underlying39 rfl (by kernel_rfl)) rfl ⟨rfl, HX.out.below⟩
theorem sum_any (F : Nat → Prop) (A : Option Addr) (n c : Nat) (l : List UInt8) (w : World) (h : Sl tU8 F w A n c l) (hn : n ≤ 4294967296) : Calls Tryz.prog 68 #[.slice A n c] w fun e w' => e = .returned (.int .u32 (yyM l : Nat)) ∧ w = w' := by
 have HH := zH h; have HL := zH h.len
 clear h
 go_enter Tryz.func68, Tryz.ntmps68
 go_wp2_with fail
 go_loopw [3, 4] (fun rv kv wr => ∃ (k : Nat), k ≤ n ∧ kv = .int .i64 (k : Int) ∧ rv = .int .u32 (zzE (l.take k) : Nat) ∧ w = wr) (fun _ kv _ => n - (intOf kv).toNat)
 case atStart => exact ⟨0, Nat.zero_le _, rfl, rfl, rfl⟩
 case round =>
  obtain ⟨k, hk, rfl, rfl, rfl⟩ := hrel
  by_cases hlt : k < n
  · have hkl : k < l.length := by rw [← HL.out]; exact hlt
    obtain ⟨b, o, u, rfl, _, _, hr, hc⟩ := HH.out.at1 hkl rfl
    obtain ⟨x, hx⟩ : ∃ x, x = l[k] := ⟨_, rfl⟩
    rw [← hx] at hr
    injection hr with hr; subst hr
    have hb := yyT (l.take k)
    have hs : zzE (l.take (k + 1)) = uuu (zzE (l.take k)) x := by rw [zT hkl, xxp, hx]
    obtain ⟨r, hr⟩ : ∃ r, r = zzE (l.take k) := ⟨_, rfl⟩
    rw [← hr] at hb hs ⊢
    unfold uuu at hs
    obtain ⟨q, hq⟩ : ∃ q, q = r ^^^ x.toNat := ⟨_, rfl⟩
    have hx8 : x.toNat < 256 := x.toNat_lt
    have hq32 : q < 4294967296 := by rw [hq]; exact jjO hb (by omega)
    have HQ := zH (show wrap64 ((bits BinOp.xor IntKind.u32 (r : Int) ((x.toNat : Int) % 4294967296)).tmod 256) = ((q % 256 : Nat) : Int) by
     rw [show (x.toNat : Int) % 4294967296 = ((x.toNat : Nat) : Int) by omega, u32_xor_nat r x.toNat hb (by omega), ← hq]
     have : ((q : Nat) : Int).tmod 256 = ((q % 256 : Nat) : Int) := by rw [Int.tmod_eq_emod_of_nonneg (by omega)]; omega
     rw [this]; unfold wrap64; omega)
    rw [← hq] at hs
    obtain ⟨z, hz⟩ : ∃ z, z = yyf (q % 256) := ⟨_, rfl⟩
    have hz32 : z < 4294967296 := by rw [hz]; exact xxX (by omega)
    have HZ := zH hz
    rw [← hz] at hs
    have HS := zH (show bits BinOp.xor IntKind.u32 ((r : Int) / 256) (z : Int) = ((zzE (l.take (k + 1)) : Nat) : Int) by
     rw [hs, show (r : Int) / 256 = ((r / 256 : Nat) : Int) by omega]
     exact u32_xor_nat _ _ (by omega) hz32)
    have hi0 : (0 : Int) ≤ (k : Int) := by omega
    have hi1 : (k : Int) < (n : Int) := by omega
    have hq256 : q % 256 < 256 := Nat.mod_lt _ (by omega)
    clear hr hs hx hq hz hq32 hx8 hz32
    go_wp2_with (first
     | (go_at_call 129; rw [HQ.out]; refine (xqh (q % 256) hq256 _).mono ?_; rintro e w' ⟨rfl, rfl⟩; rw [← HZ.out])
     | fail)
    go_roundw
    case rel => exact ⟨k + 1, by omega, by go_num, by rw [HS.out], trivial⟩
    case measure => simp [intOf]; omega
  · obtain rfl : k = n := by omega
    have e1 : l.take k = l := zL (by rw [← HL.out]; exact Nat.le_refl _)
    have HE := zH (show bits BinOp.xor IntKind.u32 ((zzE l : Nat) : Int) 4294967295 = ((yyM l : Nat) : Int) from u32_ones _ (yyT l))
    rw [e1]
    go_wp2_with fail
    go_ret
    exact ⟨xqg HE.out, rfl⟩
end
section
open Go Go.RowKit
theorem jjT (m k : Nat) (r : Bool) (hr : r = decide (m ≤ 4096 ∧ k ≤ 64)) (w : World) : Calls Tryz.prog 316 #[.int .i64 (m : Int), .int .i64 (k : Int)] w fun e w' => e = .returned (.bool r) ∧ w = w' := by
 have HR := zH (show r = (decide ((m : Int) ≤ 4096) && decide ((k : Int) ≤ 64)) by rw [hr, ← Bool.decide_and]; exact decide_eq_decide.2 (by omega))
 clear hr
 have z0 : (0 : Int) ≤ (m : Int) := by omega
 have z1 : (0 : Int) ≤ (k : Int) := by omega
 go_enter Tryz.func316, Tryz.ntmps316
 by_cases h1 : (m : Int) ≤ 4096
 · have e1 : decide ((m : Int) ≤ 4096) = true := decide_eq_true h1
   by_cases h2 : (k : Int) ≤ 64
   · have e2 : decide ((k : Int) ≤ 64) = true := decide_eq_true h2
     rw [e1, e2] at HR
     go_wp2_with fail
     go_ret
     exact ⟨by rw [HR.out]; rfl, rfl⟩
   · have e2 : decide ((k : Int) ≤ 64) = false := decide_eq_false h2
     rw [e1, e2] at HR
     go_wp2_with fail
     go_ret
     exact ⟨by rw [HR.out]; rfl, rfl⟩
 · have e1 : decide ((m : Int) ≤ 4096) = false := decide_eq_false h1
   rw [e1] at HR
   go_wp2_with fail
   go_ret
   exact ⟨by rw [HR.out]; rfl, rfl⟩
theorem size_any (m k : Nat) (hm : m ≤ 4096) (hk : k ≤ 64) (w : World) : Calls Tryz.prog 317 #[.int .i64 (m : Int), .int .i64 (k : Int)] w fun e w' => e = .returned (.int .i64 ((zzx m k : Nat) : Int)) ∧ w = w' := by
 have hmk : m * k ≤ 4096 * 64 := Nat.mul_le_mul hm hk
 obtain ⟨q, hq⟩ : ∃ q, q = m * k := ⟨_, rfl⟩
 have f1 : (m : Int) * (k : Int) = (q : Int) := by rw [hq]; simp
 have hq2 : q ≤ 262144 := by rw [hq]; omega
 have HQ := zH (show zzx m k = (q + 7) / 8 by rw [hq]; rfl)
 clear hmk hq
 go_enter Tryz.func317, Tryz.ntmps317
 go_wp2_with (first
  | (go_at_call 316; refine (jjT m k true (decide_eq_true ⟨hm, hk⟩).symm _).mono ?_; rintro e w1 ⟨rfl, rfl⟩)
  | fail)
 go_ret
 exact ⟨by rw [HQ.out]; go_num, rfl⟩
structure PkR (w0 : World) (B atb ob g s cap a : Nat) (L : List UInt8) (w : World) : Prop where
 at_ : w.heap[atb]? = some (.cells #[.int .i64 (a : Int)] 3 (0, 0))
 out : w.heap[ob]? = some (.cells #[.slice (some ⟨g, 0, none⟩) s cap] 41 (0, 0))
 row : OwnB w B (some ⟨g, 0, none⟩) s cap L
 below : Below B w0 w
theorem zzc {w : World} {g b j : Nat} {o : Obj} {v : Value} (h : w.heap[b]? = some o) (hne : b ≠ g) : (w.setCell ⟨g, j, none⟩ v).heap[b]? = some o := (Below.heap_setCell w ⟨g, j, none⟩ v b hne).trans h
section
variable {w0 w : World} {B atb ob g s cap a : Nat} {L : List UInt8}
theorem PkR.own (h : PkR w0 B atb ob g s cap a L w) : OwnF tU8 5 (fun _ => False) w B (some ⟨g, 0, none⟩) s cap L := h.row.ownF (by simp)
theorem PkR.store (h : PkR w0 B atb ob g s cap a L w) (h2 : atb ≠ g) (h3 : ob ≠ g) (j : Nat) (x : UInt8) : PkR w0 B atb ob g s cap a (L.set j x) ((w.setCell ⟨g, j, none⟩ (.int .u8 (x.toNat : Int))).drew) := by
 have hr := (h.own.set1 yyn j x trivial).drew
 exact ⟨zzc h.at_ h2, zzc h.out h3, zzG ⟨_, hr⟩, (zzd h.below (h.own.base1 yyn).1 _).drew⟩
theorem PkR.move (h : PkR w0 B atb ob g s cap a L w) (h1 : atb ≠ ob) (h2 : atb ≠ g) (hB : B ≤ atb) (a' : Nat) : PkR w0 B atb ob g s cap a' L (w.setCell ⟨atb, 0, none⟩ (.int .i64 (a' : Int))) :=
 ⟨zza h.at_ rfl, zzc h.out (Ne.symm h1), zzG ⟨_, h.own.setCell (p := ⟨atb, 0, none⟩) (by simp) (fun e => h2 (by injection e with e; injection e with e1 _ _; exact e1.symm)) _⟩, zzd h.below hB _⟩
theorem PkR.byte (h : PkR w0 B atb ob g s cap a L w) {j : Nat} (hj : j < L.length) : w.cell? ⟨g, j, none⟩ = some (.int .u8 ((L[j].toNat : Nat) : Int)) := h.own.cell1 yyn hj
end
theorem qzq {b d : Nat} {r : Nat} (hb : b < 256) (hf : b % 2 ^ r = 0) (hr : r ≤ 8) (hd : d < 2 ^ r) : bits BinOp.or IntKind.u8 (b : Int) (d : Int) = (((UInt8.ofNat (b + d)).toNat : Nat) : Int) := by
 have hlt := qzl hb hf hr hd
 rw [u8_or_nat _ _ hb (by omega), room_or hf hd, UInt8.toNat_ofNat', Nat.mod_eq_of_lt hlt]
theorem shl_in {c n e : Nat} (hc : c < 2 ^ n) (hn : n ≤ 8 - e) : c * 2 ^ (8 - e - n) < 2 ^ (8 - e) := by
 have := Nat.mul_lt_mul_of_pos_right hc (Nat.pow_pos (n := 8 - e - n) (show 0 < 2 by decide))
 rwa [← Nat.pow_add, show n + (8 - e - n) = 8 - e by omega] at this
theorem uuB {k : Nat} (h : k ≤ 8) : 2 ^ k ≤ 256 := by have := Nat.pow_le_pow_right (show 0 < 2 by decide) h; simpa using this
theorem put_any (w0 : World) (B atb ob g s cap a V : Nat) (hne1 : atb ≠ ob) (hne2 : atb ≠ g) (hne3 : ob ≠ g) (hB : B ≤ atb) (hs : s ≤ 65536) (c n : Nat) (hn1 : 1 ≤ n) (hn8 : n ≤ 8) (hc : c < 2 ^ n) (ha : a + n ≤ 8 * s) (w : World) (h : PkR w0 B atb ob g s cap a (be s (V * 2 ^ (8 * s - a))) w) :
 Calls Tryz.prog 318 #[.int .u8 (c : Int), .int .i64 (n : Int), .pointer (some ⟨atb, 0, none⟩), .pointer (some ⟨ob, 0, none⟩)] w fun e w' => e = .returned (.tuple #[]) ∧ PkR w0 B atb ob g s cap (a + n) (be s ((V * 2 ^ n + c) * 2 ^ (8 * s - (a + n)))) w' := by
 have HH := zH h
 obtain ⟨L, hL⟩ : ∃ L, L = be s (V * 2 ^ (8 * s - a)) := ⟨_, rfl⟩
 rw [← hL] at h HH
 have HLE := zH hL
 obtain ⟨e, he⟩ : ∃ e, e = a % 8 := ⟨_, rfl⟩
 obtain ⟨j, hj⟩ : ∃ j, j = a / 8 := ⟨_, rfl⟩
 have f1 : (a : Int) % 8 = (e : Int) := by omega
 have f2 : (a : Int) / 8 = (j : Int) := by omega
 have hjs : j < s := by omega
 have a0 : w.cell? ⟨atb, 0, none⟩ = some (.int .i64 (a : Int)) := by rw [zC h.at_]; rfl
 have o0 : w.cell? ⟨ob, 0, none⟩ = some (.slice (some ⟨g, 0, none⟩) s cap) := by rw [zC h.out]; rfl
 have hlen : j < L.length := by rw [hL, zz1]; exact hjs
 obtain ⟨b, hb⟩ : ∃ b, b = V * 2 ^ (8 * s - a) / 256 ^ (s - 1 - j) % 256 := ⟨_, rfl⟩
 have hb8 : b < 256 := by rw [hb]; exact Nat.mod_lt _ (by decide)
 have hbf : b % 2 ^ (8 - e) = 0 := by rw [hb, hj, he]; exact yyR (V := V) (by omega)
 have g0 : w.cell? ⟨g, j, none⟩ = some (.int .u8 (b : Int)) := by
  rw [h.byte hlen, hb]
  subst hL
  rw [vvy]
 have g1 : w.frozen? ⟨g, j, none⟩ = false := h.own.free1 yyn j
 have HE := zH he; have HJ := zH hj; have HBB := zH hb; have HC := zH hc; have HA := zH ha
 have i1 : (0 : Int) ≤ (j : Int) := by omega
 have i2 : (j : Int) < (s : Int) := by omega
 have he8 : e < 8 := by omega
 by_cases hroom : n ≤ 8 - e
 · have z1 : (n : Int) ≤ 8 - (e : Int) := by omega
   have hd := shl_in hc hroom
   have hd2 : c * 2 ^ (8 - e - n) < 256 := Nat.lt_of_lt_of_le hd (uuB (by omega))
   obtain ⟨x, hx⟩ : ∃ x, x = UInt8.ofNat (b + c * 2 ^ (8 - e - n)) := ⟨_, rfl⟩
   have hor : bits BinOp.or IntKind.u8 (b : Int) ((c : Int) * 2 ^ (8 - e - n) % 256) = ((x.toNat : Nat) : Int) := by
    rw [hx, ← qzq hb8 hbf (by omega) hd]
    congr 1
    rw [show (c : Int) * 2 ^ (8 - e - n) = ((c * 2 ^ (8 - e - n) : Nat) : Int) by simp]
    omega
   have HFIN := zH (show L.set j x = be s ((V * 2 ^ n + c) * 2 ^ (8 * s - (a + n))) by
    rw [HLE.out, hx, hb, HJ.out, HE.out]
    exact kqf (by omega) (by omega) hc)
   clear h hlen he hj hb hL hc ha hd hd2 hx hb8 hbf
   go_enter Tryz.func318, Tryz.ntmps318
   go_upto_region 2 with fail
   go_region
   obtain ⟨wd, hwd⟩ : ∃ wd, wd = (w.setCell ⟨g, j, none⟩ (.int .u8 ((x.toNat : Nat) : Int))).drew := ⟨_, rfl⟩
   have HD := HH.out.store hne2 hne3 j x
   rw [← hwd] at HD
   rw [HFIN.out] at HD
   have HW := zH HD
   have a0' : wd.cell? ⟨atb, 0, none⟩ = some (.int .i64 (a : Int)) := by rw [zC HD.at_]; rfl
   have a1' := zF HD.at_ 0
   first | rw [hor] | skip
   rw [← hwd]
   clear hwd HD g0 g1 a0 o0 HFIN HH
   go_wp2_with fail
   go_end0
   refine ⟨rfl, ?_⟩
   have hm := HW.out.move hne1 hne2 hB (a + n)
   rwa [Int.natCast_add] at hm
 · have z1 : ¬ (n : Int) ≤ 8 - (e : Int) := by omega
   have hn0 : a % 8 + n > 8 := by omega
   have hjs2 : j + 1 < s := by omega
   obtain ⟨m, hm⟩ : ∃ m, n = (8 - e) + m := ⟨n - (8 - e), by omega⟩
   have hcm : c / 2 ^ (n - (8 - e)) < 2 ^ (8 - e) := by
    rw [Nat.div_lt_iff_lt_mul (Nat.pow_pos (by decide)), ← Nat.pow_add, show 8 - e + (n - (8 - e)) = n by omega]
    exact hc
   have hd2 : c / 2 ^ (n - (8 - e)) < 256 := Nat.lt_of_lt_of_le hcm (uuB (by omega))
   obtain ⟨x, hx⟩ : ∃ x, x = UInt8.ofNat (b + c / 2 ^ (n - (8 - e))) := ⟨_, rfl⟩
   have hor : bits BinOp.or IntKind.u8 (b : Int) ((c : Int) / 2 ^ (n - (8 - e))) = ((x.toNat : Nat) : Int) := by
    rw [hx, ← qzq hb8 hbf (by omega) hcm]
    congr 1
   obtain ⟨y, hy⟩ : ∃ y, y = UInt8.ofNat (c * 2 ^ (16 - e - n) % 256) := ⟨_, rfl⟩
   have HFIN := zH (show (L.set j x).set (j + 1) y = be s ((V * 2 ^ n + c) * 2 ^ (8 * s - (a + n))) by
    rw [HLE.out, hx, hb, HJ.out, hy, HE.out]
    exact put_over (by omega) (by omega) hn8 hc)
   have HHS := zH (HH.out.store hne2 hne3 j x)
   clear h hlen he hj hb hL hc ha hd2 hx hb8 hbf hcm hm hn0
   go_enter Tryz.func318, Tryz.ntmps318
   go_upto_region 3 with fail
   go_region
   obtain ⟨wd, hwd⟩ : ∃ wd, wd = (w.setCell ⟨g, j, none⟩ (.int .u8 ((x.toNat : Nat) : Int))).drew := ⟨_, rfl⟩
   have hw := HHS.out
   rw [← hwd] at hw ⊢
   have HW := zH hw
   have hl2 : j + 1 < (L.set j x).length := by rw [List.length_set, HLE.out, zz1]; exact hjs2
   have b0 : wd.cell? ⟨g, j + 1, none⟩ = some (.int .u8 0) := by
    rw [hw.byte hl2]
    have h1 : (L.set j x)[j + 1].toNat = 0 := by
     rw [List.getElem_set_ne (by omega)]
     have h2 := HLE.out
     subst h2
     rw [vvy]
     have h3 := yyR (V := V * 2 ^ (8 - e)) (s := s) (at_ := a + (8 - e)) (by have := HE.out; omega)
     rw [show (a + (8 - e)) / 8 = j + 1 by have := HE.out; have := HJ.out; omega, show (a + (8 - e)) % 8 = 0 by have := HE.out; omega, Nat.mod_eq_of_lt (Nat.mod_lt _ (by decide)), Nat.mul_assoc, ← Nat.pow_add, show 8 - e + (8 * s - (a + (8 - e))) = 8 * s - a by have := HA.out; omega] at h3
     exact h3
    rw [h1]; rfl
   have b1 : wd.frozen? ⟨g, j + 1, none⟩ = false := hw.own.free1 yyn (j + 1)
   have a0' : wd.cell? ⟨atb, 0, none⟩ = some (.int .i64 (a : Int)) := by rw [zC hw.at_]; rfl
   have o0' : wd.cell? ⟨ob, 0, none⟩ = some (.slice (some ⟨g, 0, none⟩) s cap) := by rw [zC hw.out]; rfl
   have i3 : (0 : Int) ≤ (j : Int) + 1 := by omega
   have i4 : (j : Int) + 1 < (s : Int) := by omega
   have HHS2 := zH (hw.store hne2 hne3 (j + 1) y)
   rw [HFIN.out] at HHS2
   clear hwd hw hl2 g0 g1 a0 o0 HH HHS HFIN hor
   have hor2 : bits BinOp.or IntKind.u8 0 ((c : Int) * 2 ^ (8 - n + (8 - e)) % 256) = ((y.toNat : Nat) : Int) := by
    have h1 : (c : Int) * 2 ^ (8 - n + (8 - e)) % 256 = ((c * 2 ^ (16 - e - n) % 256 : Nat) : Int) := by
     rw [show 8 - n + (8 - e) = 16 - e - n by omega]
     simp
    rw [h1, hy, show (0 : Int) = ((0 : Nat) : Int) from rfl, u8_or_nat 0 _ (by decide) (Nat.mod_lt _ (by decide)), Nat.zero_or, UInt8.toNat_ofNat', Nat.mod_mod]
   have hor3 : (c : Int) * 2 ^ (16 - e - n) % 256 = ((y.toNat : Nat) : Int) := by
    rw [hy, UInt8.toNat_ofNat', Nat.mod_mod]
    simp
   have HOR3 := zH hor3
   clear hor3
   go_upto_region 4 with fail
   go_region
   have hor3 := HOR3.out
   obtain ⟨wd', hwd⟩ : ∃ wd', wd' = (wd.setCell ⟨g, j + 1, none⟩ (.int .u8 ((y.toNat : Nat) : Int))).drew := ⟨_, rfl⟩
   first | rw [hor2] | rw [hor3] | skip
   have HD := HHS2.out
   rw [← hwd] at HD ⊢
   have HW2 := zH HD
   have a2' : wd'.cell? ⟨atb, 0, none⟩ = some (.int .i64 (a : Int)) := by rw [zC HD.at_]; rfl
   have a3' := zF HD.at_ 0
   clear hwd HD HHS2 hor2 hy b0 b1 a0' o0' HW
   go_wp2_with fail
   go_end0
   refine ⟨rfl, ?_⟩
   have hm := HW2.out.move hne1 hne2 hB (a + n)
   rwa [Int.natCast_add] at hm
theorem run_mkG {P : Program} {t e : TypeId} {z : Value} {by_ : Nat} (ht : P.underlying t = some (.slice e)) (hi : (P.info? e).map (fun i => (i.zero, i.size, i.bytes)) = some (some z, 1, by_)) (hb8 : by_ ≤ 8) (s : Nat) (hs : s ≤ 65536) (w : World) :
 (Instr.makeSlice t (.int .i64 (s : Int)) (.int .i64 (s : Int))).run P w = .ok (.slice (some ⟨w.heap.size, 0, none⟩) s s) (w.alloc (.cells (madeCells z.cells s) e)) := by
 cases h : P.info? e with
 | none => rw [h] at hi; cases hi
 | some i =>
   rw [h] at hi
   have h1 : (i.zero, i.size, i.bytes) = (some z, 1, by_) := by simpa using hi
   injection h1 with h2 h3
   injection h3 with h3 h4
   have hm : by_ * s ≤ 8 * 65536 := Nat.mul_le_mul hb8 hs
   have := run_makeSlice (P := P) w t e i z ht h h2 .i64 .i64 (s : Int) (s : Int) (by omega) (Int.le_refl _) (by rw [h3]; omega) (by rw [h4, ← Int.natCast_mul]; omega) (by omega)
   rw [h3, Int.toNat_natCast, Nat.mul_one] at this
   exact this
theorem qzr (s : Nat) (hs : s ≤ 65536) (w : World) : (Instr.makeSlice 41 (.int .i64 (s : Int)) (.int .i64 (s : Int))).run Tryz.prog w = .ok (.slice (some ⟨w.heap.size, 0, none⟩) s s) (w.alloc (.cells (madeCells #[.int .u8 0] s) 5)) :=
 run_mkG (z := .int .u8 0) zz6 vv1 (by decide) s hs w
theorem qzs (s : Nat) (hs : s ≤ 65536) (w : World) (B : Nat) (hB : B ≤ w.heap.size) : OwnB (w.alloc (.cells (madeCells #[.int .u8 0] s) 5)) B (some ⟨w.heap.size, 0, none⟩) s s (List.replicate s 0) := by
 have h := World.ownsRow_lit (base := B) (e := 5) (size := 1) w (madeCells #[.int .u8 0] s) s hB (by unfold maxLen; omega) (by rw [size_madeCells, Nat.mul_one])
 rw [toList_madeCells_one] at h
 unfold OwnB
 rw [show bvs (List.replicate s 0) = List.replicate s (.int .u8 0) by unfold bvs; rw [List.map_replicate]; rfl]
 exact h
end
section
open Go Go.RowKit
theorem zq6 (sg : Bool) (x : Int) (h0 : -9223372036854775808 ≤ x) (h1 : x ≤ 9223372036854775807) (hs : sg = true ∨ 0 ≤ x) (w : World) :
 Calls Tryz.prog 312 #[.int .i64 x, .bool sg] w fun e w' => e = .returned (.tuple #[.int .u64 ((uOf sg x : Nat) : Int), .bool true]) ∧ w = w' := by
 cases sg with
 | true =>
   go_enter Tryz.func312, Tryz.ntmps312
   go_wp2_with (first
    | (go_at_call 179; refine (qzk x _ h0 h1).mono ?_; rintro e w1 ⟨rfl, rfl⟩)
    | fail)
   go_ret2
   exact ⟨rfl, rfl⟩
 | false =>
   have hx : 0 ≤ x := hs.resolve_left (by decide)
   obtain ⟨k, rfl⟩ := Int.eq_ofNat_of_zero_le hx
   have hu : uOf false (k : Int) = k := by unfold uOf; simp
   have HU := zH hu
   have f1 : IntKind.u64.wrap (k : Int) = (k : Int) := yyh k (by omega)
   clear hs hu
   go_enter Tryz.func312, Tryz.ntmps312
   go_wp2_with fail
   go_ret2
   exact ⟨by rw [HU.out]; rfl, rfl⟩
theorem xqs (u : Nat) (hu : U64 u) (w : World) : Calls Tryz.prog 313 #[.int .u64 (u : Int)] w fun e w' => e = .returned (.int .i64 ((long u : Nat) : Int)) ∧ w = w' := by
 have hb := yya hu
 obtain ⟨b, hbe⟩ : ∃ b, b = bl u := ⟨_, rfl⟩
 have HB := zH hbe
 rw [← hbe] at hb
 have HL := zH (show ((long u : Nat) : Int) = max 1 (((b : Int) + 7) / 8) by unfold long; rw [← hbe]; omega)
 clear hbe
 go_enter Tryz.func313, Tryz.ntmps313
 go_wp2_with (first
  | (go_at_call 315; refine (xxn u hu _).mono ?_; rintro e w1 ⟨rfl, rfl⟩; rw [← HB.out])
  | fail)
 go_ret
 exact ⟨by rw [HL.out]; rfl, rfl⟩
theorem qzt (n u t : Nat) (h : t < n) : (be n u).take (t + 1) = (be n u).take t ++ [UInt8.ofNat (u / 256 ^ (n - 1 - t))] := by
 have hl : t < (be n u).length := by rw [zz1]; exact h
 rw [zT hl]
 have := kqe n u t h
 rw [List.getElem?_eq_getElem hl] at this
 rw [Option.some.inj this]
theorem xqt (B u n : Nat) (_ : U64 u) (hn : n ≤ 8) (A : Option Addr) (m c : Nat) (L : List UInt8) (hm : m ≤ 100) (w : World) (h : OwnB w B A m c L) (hB : B ≤ w.heap.size) :
 Calls Tryz.prog 314 #[.int .u64 (u : Int), .int .i64 (n : Int), .slice A m c] w fun e w' => ∃ A' m' c', e = .returned (.slice A' m' c') ∧ OwnB w' B A' m' c' (L ++ be n u) ∧ Below B w w' := by
 have HH := zH h
 clear h
 go_enter Tryz.func314, Tryz.ntmps314
 go_wp2_with fail
 go_loopw [2, 7] (fun av iv wr => ∃ (j : Nat) (z : Int) (A2 : Option Addr) (c2 : Nat), j ≤ n ∧ z = (j : Int) - 1 ∧ iv = .int .i64 z ∧ av = .slice A2 (m + (n - j)) c2 ∧ OwnB wr B A2 (m + (n - j)) c2 (L ++ (be n u).take (n - j)) ∧ Below B w wr)
  (fun _ iv _ => (intOf iv + 1).toNat)
 case atStart => exact ⟨n, (n : Int) - 1, A, c, Nat.le_refl _, rfl, by first | rfl | go_num, by simp, by rw [Nat.sub_self, Nat.add_zero, List.take_zero, List.append_nil]; exact HH.out, zR⟩
 case round =>
  obtain ⟨j, z, A2, c2, hj, hz, rfl, rfl, ho, hb⟩ := hrel
  have HO := zH ho; have HB := zH hb
  clear ho hb
  cases j with
  | zero =>
    have z1 : ¬ 0 ≤ z := by omega
    clear hz
    go_wp2_with fail
    go_ret
    exact ⟨A2, _, c2, rfl, by have := HO.out; rw [Nat.sub_zero, zL (by rw [zz1]; exact Nat.le_refl _)] at this; exact this, HB.out⟩
  | succ i =>
    obtain rfl : z = (i : Int) := by omega
    have z0 : (0 : Int) ≤ (i : Int) := by omega
    clear hz
    obtain ⟨p, hp⟩ : ∃ p, n - (i + 1) = p := ⟨_, rfl⟩
    obtain ⟨y, hy⟩ : ∃ y : UInt8, y = UInt8.ofNat (u / 256 ^ i) := ⟨_, rfl⟩
    have hyn : ((y.toNat : Nat) : Int) = ((u / 2 ^ (8 * i) % 256 : Nat) : Int) := by rw [hy, UInt8.toNat_ofNat', xxC]
    have f1 : IntKind.u8.wrap ((u : Int) / 2 ^ (8 * i)) = ((y.toNat : Nat) : Int) := by
     rw [hyn, IntKind.wrap_u8, show (u : Int) / 2 ^ (8 * i) = ((u / 2 ^ (8 * i) : Nat) : Int) by simp]
     omega
    have f2 : (u : Int) / 2 ^ (8 * i) % 256 = ((y.toNat : Nat) : Int) := by
     rw [hyn, show (u : Int) / 2 ^ (8 * i) = ((u / 2 ^ (8 * i) : Nat) : Int) by simp]
     omega
    have HT := zH (show (be n u).take (p + 1) = (be n u).take p ++ [y] by rw [qzt n u p (by omega), hy, show n - 1 - p = i by omega])
    rw [hp] at HO
    have HP := zH hp
    rw [hp]
    have hp8 : p ≤ 8 := by omega
    clear hp hy hyn
    go_wp2_with (first
     | (at_builtin; refine apb1 wr w rfl (.tmp 14) (.tmp 20) rfl B A2 (m + p) c2 (L ++ (be n u).take p) rfl HO.out HB.out hB _ rfl y rfl (by omega) ?_; intro A3 c3 w3 h3 hb3 _)
     | fail)
    go_roundw
    case rel => exact ⟨i, (i : Int) - 1, A3, c3, by omega, rfl, by first | rfl | go_num, by rw [show n - i = p + 1 by have := HP.out; omega]; rfl, by rw [show n - i = p + 1 by have := HP.out; omega, HT.out, ← List.append_assoc]; exact h3, hb3⟩
    case measure => simp [intOf]
end
section
open Go Go.RowKit
theorem xxI (a b : Nat) (ha : a < 1048576) (hb : b < 1048576) : bits .or .i64 (a : Int) (b : Int) = ((a ||| b : Nat) : Int) := by
 have hx : a ||| b < 2 ^ 20 := Nat.or_lt_two_pow (by omega) (by omega)
 show IntKind.i64.wrap ((BitVec.ofInt 64 (a : Int) ||| BitVec.ofInt 64 (b : Int)).toNat : Int) = _
 rw [BitVec.toNat_or, ofInt_u64 a (by omega), ofInt_u64 b (by omega)]
 rw [IntKind.wrap_i64]
 omega
def zzF (o : Option (List UInt8)) (w : World) (e : Ending) (w' : World) : Prop := Below w.heap.size w w' ∧ match o with
 | none => e = .returned (.tuple #[.slice none 0 0, .int .i64 1])
 | some b => ∃ A n c, e = .returned (.tuple #[.slice A n c, .int .i64 0]) ∧ OwnB w' w.heap.size A n c b
theorem zqj (sg : Bool) (x : Int) (h0 : -9223372036854775808 ≤ x) (h1 : x ≤ 9223372036854775807) (hs : sg = true ∨ 0 ≤ x) (t : Nat) (ht : t ≤ 512) (w : World) :
 Calls Tryz.prog 281 #[.int .i64 x, .int .i64 (t : Int), .bool sg] w (zzF (if 3 ≤ t ∧ t ≤ 10 then some (repB (uOf sg x) t) else none) w) := by
 have hu := kqi (sg := sg) h0 h1
 obtain ⟨u, hue⟩ : ∃ u, u = uOf sg x := ⟨_, rfl⟩
 have HPL := zH (zq6 sg x h0 h1 hs)
 rw [← hue] at hu HPL ⊢
 have HU := zH hu
 clear hue hs hu
 by_cases hc : 3 ≤ t ∧ t ≤ 10
 · rw [if_pos hc]
   have z1 : ¬ (t : Int) < 3 := by omega
   have z2 : ¬ (t : Int) > 10 := by omega
   have hl := long_le HU.out
   obtain ⟨n, hn⟩ : ∃ n, n + 1 = long u := ⟨long u - 1, by omega⟩
   have HN := zH hn
   rw [← hn] at hl
   obtain ⟨y, hy⟩ : ∃ y : UInt8, y = UInt8.ofNat (8 * n + t - 3) := ⟨_, rfl⟩
   have HY := zH (show bits .or .i64 ((n : Int) * 8) ((t : Int) - 3) % 256 = ((y.toNat : Nat) : Int) by
    have e1 := xxI (n * 8) (t - 3) (by omega) (by omega)
    rw [nat_join 3 (n * 8) (t - 3) (by omega) (by omega)] at e1
    rw [show (n : Int) * 8 = ((n * 8 : Nat) : Int) by simp, show (t : Int) - 3 = ((t - 3 : Nat) : Int) by omega, e1, hy, UInt8.toNat_ofNat']
    omega)
   have HYB := zH (show repB u t = [y] ++ be (n + 1) u by rw [repB, ← HN.out, hy]; simp)
   clear hn hy
   have HHI : Hid (∀ w : World, Calls Tryz.prog 314 #[.int .u64 (u : Int), .int .i64 ((n : Int) + 1), .slice (some ⟨w.heap.size, 0, none⟩) 1 1] (w.alloc (.cells #[.int .u8 ((y.toNat : Nat) : Int)] 5)) fun e w' => ∃ A' m' c', e = .returned (.slice A' m' c') ∧ OwnB w' w.heap.size A' m' c' ([y] ++ be (n + 1) u) ∧ Below w.heap.size w w') := zH (fun w => by
    have ho : OwnB (w.alloc (.cells #[.int .u8 ((y.toNat : Nat) : Int)] 5)) w.heap.size (some ⟨w.heap.size, 0, none⟩) 1 1 [y] := World.ownsRow_lit w #[.int .u8 ((y.toNat : Nat) : Int)] 1 zN (by simp [maxLen]) rfl
    have hb : Below w.heap.size w (w.alloc (.cells #[.int .u8 ((y.toNat : Nat) : Int)] 5)) := (zR).alloc zN _
    refine (xqt w.heap.size u (n + 1) HU.out (by omega) _ 1 1 [y] (by omega) _ ho hb.size).mono ?_
    rintro e w1 ⟨A3, m3, c3, rfl, h3, hb3⟩
    exact ⟨A3, m3, c3, rfl, h3, hb.trans hb3⟩)
   go_enter Tryz.func281, Tryz.ntmps281
   go_wp2_with (first
    | (go_at_call 312; refine (HPL.out _).mono ?_; rintro e w1 ⟨rfl, rfl⟩)
    | (go_at_call 313; refine (xqs u HU.out _).mono ?_; rintro e w1 ⟨rfl, rfl⟩; rw [← HN.out])
    | (rw [HY.out]; go_at_call 314; refine (HHI.out w).mono ?_; rintro e w1 ⟨A3, m3, c3, rfl, h3, hb3⟩; have HH3 := zH h3; have HB3 := zH hb3; clear h3 hb3)
    | fail)
   go_ret2
   exact ⟨HB3.out, A3, m3, c3, rfl, by rw [HYB.out]; exact HH3.out⟩
 · rw [if_neg hc]
   by_cases z1 : (t : Int) < 3
   · clear hc
     go_enter Tryz.func281, Tryz.ntmps281
     go_wp2_with (first
      | (go_at_call 312; refine (HPL.out _).mono ?_; rintro e w1 ⟨rfl, rfl⟩)
      | fail)
     go_ret2
     exact ⟨zR, rfl⟩
   · have z2 : (t : Int) > 10 := by omega
     clear hc
     go_enter Tryz.func281, Tryz.ntmps281
     go_wp2_with (first
      | (go_at_call 312; refine (HPL.out _).mono ?_; rintro e w1 ⟨rfl, rfl⟩)
      | fail)
     go_ret2
     exact ⟨zR, rfl⟩
end
section
open Go Go.RowKit
theorem qzT (sg : Bool) (x : Int) (h0 : -9223372036854775808 ≤ x) (h1 : x ≤ 9223372036854775807) (hs : sg = true ∨ 0 ≤ x) (w : World) :
 Calls Tryz.prog 255 #[.int .i64 x, .bool sg] w fun e w' => e = .returned (.tuple #[.int .u64 ((uOf sg x : Nat) : Int), .bool true]) ∧ w = w' := by
 cases sg with
 | true =>
   have HZ := zH (show zigN x = uOf true x from rfl)
   go_enter Tryz.func255, Tryz.ntmps255
   go_wp2_with (first
    | (go_at_call 127; refine (rzig_any x _ h0 h1).mono ?_; rintro e w1 ⟨rfl, rfl⟩; rw [HZ.out])
    | fail)
   go_ret2
   exact ⟨rfl, rfl⟩
 | false =>
   have hx : 0 ≤ x := hs.resolve_left (by decide)
   obtain ⟨k, rfl⟩ := Int.eq_ofNat_of_zero_le hx
   have hk : uOf false (k : Int) = k := by unfold uOf; simp
   have HK := zH hk
   have hm : max (k : Int) 0 = (k : Int) := by omega
   have q : (k : Int) ≥ 0 := hx
   have q2 : (k : Int) < 18446744073709551616 := by omega
   clear hk hs
   go_enter Tryz.func255, Tryz.ntmps255
   go_wp2_with fail
   go_ret2
   exact ⟨by rw [HK.out]; rfl, rfl⟩
theorem rhead_any (k c m : Nat) (hk : k ≤ 3) (hc : c ≤ 31) (hm : 1 ≤ m) (hm2 : m ≤ 512) (w : World) :
 Calls Tryz.prog 260 #[.int .i64 (k : Int), .int .i64 (c : Int), .int .i64 (m : Int)] w (Own1 w (yyc k c m)) := by
 obtain ⟨x, hx⟩ : ∃ x, x = 16384 * k + 512 * c + m - 1 := ⟨_, rfl⟩
 have F := zH (show 16384 * (k : Int) + 512 * (c : Int) + (m : Int) - 1 = (x : Int) by omega)
 obtain ⟨y, hy⟩ : ∃ y : UInt8, y = UInt8.ofNat (x / 256) := ⟨_, rfl⟩
 obtain ⟨z, hz⟩ : ∃ z : UInt8, z = UInt8.ofNat x := ⟨_, rfl⟩
 have HY := zH (show (x : Int) / 256 = ((y.toNat : Nat) : Int) by rw [hy, UInt8.toNat_ofNat']; omega)
 have HZ := zH (show (x : Int) % 256 = ((z.toNat : Nat) : Int) by rw [hz, UInt8.toNat_ofNat']; omega)
 have HB := zH (show yyc k c m = [y, z] by rw [yyc, hy, hz, hx])
 have q1 : ¬ (k : Int) < 0 := by omega
 have q2 : ¬ (k : Int) > 3 := by omega
 have q2' : ¬ (3 : Int) < k := by omega
 have q3 : ¬ (c : Int) < 0 := by omega
 have q4 : ¬ (c : Int) > 31 := by omega
 have q4' : ¬ (31 : Int) < c := by omega
 have q5 : ¬ (m : Int) < 1 := by omega
 have q6 : ¬ (m : Int) > 512 := by omega
 have q6' : ¬ (512 : Int) < m := by omega
 clear hx hy hz
 go_enter Tryz.func260, Tryz.ntmps260
 go_wp2_with fail
 rw [F.out, HY.out, HZ.out]
 go_ret
 exact ⟨_, 2, 2, rfl, by rw [HB.out]; exact World.ownsRow_lit w #[.int .u8 ((y.toNat : Nat) : Int), .int .u8 ((z.toNat : Nat) : Int)] 2 zN (by simp [maxLen]) rfl, (zR).alloc zN _⟩
end
end Go.Proofs.YtpmglcachffojaaGreatDoor
