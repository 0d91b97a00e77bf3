/- A part of what Puts leans on. -/
import Derived.Test.YtpmglcachffojaaGreatDoorZ7
set_option maxRecDepth 100000
set_option maxHeartbeats 16000000
namespace Go.Proofs.YtpmglcachffojaaGreatDoor
section
open Go Go.RowKit
theorem jjY (sg : Bool) (x : Int) (h0 : -9223372036854775808 ≤ x) (h1 : x ≤ 9223372036854775807) (hs : sg = true ∨ 0 ≤ x) (w : World) :
 Calls Tryz.prog 255 #[.int .i64 x, .bool sg] w fun e w' => e = .returned (.tuple #[.int .u64 ((uOf sg x : Nat) : Int), .bool true]) ∧ w = w' := by
 cases sg with
 | true =>
   have HZ := zH (show zigN x = uOf true x from rfl)
   go_enter Tryz.func255, Tryz.ntmps255
   go_wp2_with (first
    | (go_at_call 127; refine (uuW x _ h0 h1).mono ?_; rintro e w1 ⟨rfl, rfl⟩; rw [HZ.out])
    | fail)
   go_ret2
   exact ⟨rfl, rfl⟩
 | false =>
   have hx : 0 ≤ x := hs.resolve_left (by decide)
   obtain ⟨k, rfl⟩ := Int.eq_ofNat_of_zero_le hx
   have hk : uOf false (k : Int) = k := by unfold uOf; simp
   have HK := zH hk
   have hm : max (k : Int) 0 = (k : Int) := by omega
   have q : (k : Int) ≥ 0 := hx
   have q2 : (k : Int) < 18446744073709551616 := by omega
   clear hk hs
   go_enter Tryz.func255, Tryz.ntmps255
   go_wp2_with fail
   go_ret2
   exact ⟨by rw [HK.out]; rfl, rfl⟩
theorem r7put_any (sg : Bool) (x : Int) (h0 : -9223372036854775808 ≤ x) (h1 : x ≤ 9223372036854775807) (hs : sg = true ∨ 0 ≤ x) (t : Nat) (ht : t ≤ 512) (w : World) :
 Calls Tryz.prog 215 #[.int .i64 x, .int .i64 (t : Int), .bool sg] w (zzq (if 3 ≤ t ∧ t ≤ 10 then some (repB (uOf sg x) t) else none) w) := by
 have hu := jjh (sg := sg) h0 h1
 obtain ⟨u, hue⟩ : ∃ u, u = uOf sg x := ⟨_, rfl⟩
 have HPL := zH (jjY sg x h0 h1 hs)
 rw [← hue] at hu HPL ⊢
 have HU := zH hu
 clear hue hs hu
 by_cases hc : 3 ≤ t ∧ t ≤ 10
 · rw [if_pos hc]
   have z1 : ¬ (t : Int) < 3 := by omega
   have z2 : ¬ (t : Int) > 10 := by omega
   have z3 : ¬ (10 : Int) < (t : Int) := by omega
   have hl := xqV HU.out
   obtain ⟨n, hn⟩ : ∃ n, n + 1 = long u := ⟨long u - 1, by omega⟩
   have HN := zH hn
   rw [← hn] at hl
   obtain ⟨b, hb⟩ : ∃ b, b = bl u := ⟨_, rfl⟩
   have hb64 := yyk HU.out
   rw [← hb] at hb64
   have HB := zH hb
   have zm : max 1 (((b : Int) + 7) / 8) = (n : Int) + 1 := by
    unfold long at hn
    rw [← hb] at hn
    omega
   obtain ⟨y, hy⟩ : ∃ y : UInt8, y = UInt8.ofNat (8 * n + t - 3) := ⟨_, rfl⟩
   have HY := zH (show 8 * (n : Int) + (t : Int) - 3 = ((y.toNat : Nat) : Int) by
    rw [hy, UInt8.toNat_ofNat']; omega)
   have HYB := zH (show repB u t = [y] ++ be (n + 1) u by rw [repB, ← HN.out, hy]; simp)
   have HO1 : Hid (OwnB (w.alloc (.cells #[.int .u8 ((y.toNat : Nat) : Int)] 5)) w.heap.size (some ⟨w.heap.size, 0, none⟩) 1 1 [y]) := zH (World.ownsRow_lit w #[.int .u8 ((y.toNat : Nat) : Int)] 1 zN (by simp [maxLen]) rfl)
   have HB1 : Hid (Below w.heap.size w (w.alloc (.cells #[.int .u8 ((y.toNat : Nat) : Int)] 5))) := zH ((zR).alloc zN _)
   clear hn hy hb hc
   go_enter Tryz.func215, Tryz.ntmps215
   go_wp2_with (first
    | (go_at_call 255; refine (HPL.out _).mono ?_; rintro e w1 ⟨rfl, rfl⟩)
    | (go_at_call 256; refine (vv2 u HU.out _).mono ?_; rintro e w1 ⟨rfl, rfl⟩; rw [← HB.out])
    | fail)
   rw [HY.out]
   go_loopw [11, 12] (fun av iv wr => ∃ (j : Nat) (z : Int) (A2 : Option Addr) (c2 : Nat), j ≤ n + 1 ∧ z = (j : Int) - 1 ∧ iv = .int .i64 z ∧ av = .slice A2 (1 + (n + 1 - j)) c2 ∧ OwnB wr w.heap.size A2 (1 + (n + 1 - j)) c2 ([y] ++ (be (n + 1) u).take (n + 1 - j)) ∧ Below w.heap.size w wr)
    (fun _ iv _ => (intOf iv + 1).toNat)
   case atStart => exact ⟨n + 1, (n : Int), some ⟨w.heap.size, 0, none⟩, 1, Nat.le_refl _, by omega, by first | rfl | go_num, by simp, by rw [Nat.sub_self, Nat.add_zero, List.take_zero, List.append_nil]; exact HO1.out, HB1.out⟩
   case round =>
    obtain ⟨j, z, A2, c2, hj, hz, rfl, rfl, ho, hbb⟩ := hrel
    have HO := zH ho; have HBB := zH hbb
    clear ho hbb
    cases j with
    | zero =>
      have z1 : ¬ 0 ≤ z := by omega
      have z4 : ¬ z ≥ 0 := z1
      clear hz
      go_wp2_with fail
      go_ret2
      exact ⟨HBB.out, A2, _, c2, rfl, by rw [HYB.out]; have := HO.out; rw [Nat.sub_zero, zL (by rw [zz2]; exact Nat.le_refl _)] at this; exact this⟩
    | succ i =>
      obtain rfl : z = (i : Int) := by omega
      have z0 : (0 : Int) ≤ (i : Int) := by omega
      clear hz
      obtain ⟨p, hp⟩ : ∃ p, n + 1 - (i + 1) = p := ⟨_, rfl⟩
      obtain ⟨v, hy⟩ : ∃ v : UInt8, v = UInt8.ofNat (u / 256 ^ i) := ⟨_, rfl⟩
      have hyn : ((v.toNat : Nat) : Int) = ((u / 2 ^ (8 * i) % 256 : Nat) : Int) := by rw [hy, UInt8.toNat_ofNat', xxw]
      have f1 : IntKind.u8.wrap ((u : Int) / 2 ^ (8 * i)) = ((v.toNat : Nat) : Int) := by
       rw [hyn, IntKind.wrap_u8, show (u : Int) / 2 ^ (8 * i) = ((u / 2 ^ (8 * i) : Nat) : Int) by simp]
       omega
      have f2 : (u : Int) / 2 ^ (8 * i) % 256 = ((v.toNat : Nat) : Int) := by
       rw [hyn, show (u : Int) / 2 ^ (8 * i) = ((u / 2 ^ (8 * i) : Nat) : Int) by simp]
       omega
      have HT := zH (show (be (n + 1) u).take (p + 1) = (be (n + 1) u).take p ++ [v] by rw [kqS (n + 1) u p (by omega), hy, show n + 1 - 1 - p = i by omega])
      rw [hp] at HO
      have HP := zH hp
      rw [hp]
      have hp8 : p ≤ 8 := by omega
      clear hp hy hyn
      go_wp2_with (first
       | (at_builtin; refine apb1 wr w rfl (.tmp 48) (.tmp 54) rfl w.heap.size A2 (1 + p) c2 ([y] ++ (be (n + 1) u).take p) rfl HO.out HBB.out zN _ rfl v rfl (by omega) ?_; intro A3 c3 w3 h3 hb3 _)
       | fail)
      go_roundw
      case rel => exact ⟨i, (i : Int) - 1, A3, c3, by omega, rfl, by first | rfl | go_num, by rw [show n + 1 - i = p + 1 by have := HP.out; omega]; rfl, by rw [show n + 1 - i = p + 1 by have := HP.out; omega, HT.out, ← List.append_assoc]; exact h3, hb3⟩
      case measure => simp [intOf]
 · rw [if_neg hc]
   by_cases z1 : (t : Int) < 3
   · clear hc
     go_enter Tryz.func215, Tryz.ntmps215
     go_wp2_with (first
      | (go_at_call 255; refine (HPL.out _).mono ?_; rintro e w1 ⟨rfl, rfl⟩)
      | fail)
     go_ret2
     exact ⟨zR, rfl⟩
   · have z2 : (t : Int) > 10 := by omega
     have z3 : (10 : Int) < (t : Int) := by omega
     clear hc
     go_enter Tryz.func215, Tryz.ntmps215
     go_wp2_with (first
      | (go_at_call 255; refine (HPL.out _).mono ?_; rintro e w1 ⟨rfl, rfl⟩)
      | fail)
     go_ret2
     exact ⟨zR, rfl⟩
theorem jjZ (k c m : Nat) (hk : k ≤ 3) (hc : c ≤ 31) (hm : 1 ≤ m) (hm2 : m ≤ 512) (w : World) :
 Calls Tryz.prog 260 #[.int .i64 (k : Int), .int .i64 (c : Int), .int .i64 (m : Int)] w (Own1 w (zz7 k c m)) := by
 obtain ⟨x, hx⟩ : ∃ x, x = 16384 * k + 512 * c + m - 1 := ⟨_, rfl⟩
 have F := zH (show 16384 * (k : Int) + 512 * (c : Int) + (m : Int) - 1 = (x : Int) by omega)
 obtain ⟨y, hy⟩ : ∃ y : UInt8, y = UInt8.ofNat (x / 256) := ⟨_, rfl⟩
 obtain ⟨z, hz⟩ : ∃ z : UInt8, z = UInt8.ofNat x := ⟨_, rfl⟩
 have HY := zH (show (x : Int) / 256 = ((y.toNat : Nat) : Int) by rw [hy, UInt8.toNat_ofNat']; omega)
 have HZ := zH (show (x : Int) % 256 = ((z.toNat : Nat) : Int) by rw [hz, UInt8.toNat_ofNat']; omega)
 have HB := zH (show zz7 k c m = [y, z] by rw [zz7, hy, hz, hx])
 have q1 : ¬ (k : Int) < 0 := by omega
 have q2 : ¬ (k : Int) > 3 := by omega
 have q2' : ¬ (3 : Int) < k := by omega
 have q3 : ¬ (c : Int) < 0 := by omega
 have q4 : ¬ (c : Int) > 31 := by omega
 have q4' : ¬ (31 : Int) < c := by omega
 have q5 : ¬ (m : Int) < 1 := by omega
 have q6 : ¬ (m : Int) > 512 := by omega
 have q6' : ¬ (512 : Int) < m := by omega
 clear hx hy hz
 go_enter Tryz.func260, Tryz.ntmps260
 go_wp2_with fail
 rw [F.out, HY.out, HZ.out]
 go_ret
 exact ⟨_, 2, 2, rfl, by rw [HB.out]; exact World.ownsRow_lit w #[.int .u8 ((y.toNat : Nat) : Int), .int .u8 ((z.toNat : Nat) : Int)] 2 zN (by simp [maxLen]) rfl, (zR).alloc zN _⟩
end
end Go.Proofs.YtpmglcachffojaaGreatDoor
