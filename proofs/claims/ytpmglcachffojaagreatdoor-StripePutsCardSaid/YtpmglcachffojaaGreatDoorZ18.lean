/- A part of what Puts leans on. -/
import Derived.Test.YtpmglcachffojaaGreatDoorZ14
import Derived.Test.YtpmglcachffojaaGreatDoorZ16
set_option maxRecDepth 100000
set_option maxHeartbeats 16000000
namespace Go.Proofs.YtpmglcachffojaaGreatDoor
section
open Go Go.RowKit
def AbovePost (l : List Int) (w : World) (e : Ending) (w' : World) : Prop := Below w.heap.size w w' ∧
 if (upN l).all (· < 9223372036854775808) then ∃ A2 c2, e = .returned (.tuple #[.int .i64 (zzM l), .slice A2 l.length c2, .bool (decide (zzM l ≠ -9223372036854775808))]) ∧ OwnU w' w.heap.size A2 l.length c2 (upN l)
 else e = .returned (.tuple #[.int .i64 0, .slice none 0 0, .bool false])
theorem zqd (l : List Int) (k : Nat) (h : k < l.length) (a : Int) : (l.take (k + 1)).foldl min a = min ((l.take k).foldl min a) l[k] := by
 rw [zT h, List.foldl_append]; rfl
theorem xqs (F : Nat → Prop) (A : Option Addr) (n c : Nat) (l : List Int) (w : World) (h : Sl tI64 F w A n c l) (hl : l ≠ []) (hn : n ≤ 4096) :
 Calls Tryz.prog 264 #[.slice A n c] w (AbovePost l w) := by
 have HL := zH h.len
 have hpos := List.length_pos_iff.2 hl
 have hmem := uum hl
 obtain ⟨b, o, rfl, hbl, hcell⟩ := zzV h hl
 obtain ⟨y, hy⟩ : ∃ y, y = l[0] := ⟨_, rfl⟩
 have hc0 := (hcell 0 hpos).1
 rw [← hy, Nat.add_zero] at hc0
 have HY := zH (show l.headD 0 = y by rw [hy]; match l, hpos with | _ :: _, _ => rfl)
 have HC0 := zH hc0; have HCE := zH hcell; have HPO := zH hpos; have HMEM := zH hmem
 have HUL := zH (vvA l)
 have hn0 : (0 : Int) < (n : Int) := by have := HL.out; omega
 clear h hy hcell hl hmem hpos
 go_enter Tryz.func264, Tryz.ntmps264
 go_wp2_with fail
 go_loopw [5, 6] (fun bv iv wr => ∃ (k : Nat) (m : Int), k ≤ n ∧ iv = .int .i64 (k : Int) ∧ bv = .int .i64 m ∧ Hid (m = (l.take k).foldl min y) ∧ Below w.heap.size w wr) (fun _ iv _ => n - (intOf iv).toNat)
 case atStart => exact ⟨0, y, Nat.zero_le _, rfl, rfl, zH rfl, zR⟩
 case round =>
  obtain ⟨k, m, hk, rfl, rfl, HE, hb⟩ := hrel
  have HB := zH hb
  have hk0 : (0 : Int) ≤ (k : Int) := by omega
  clear hb
  by_cases hlt : k < n
  · have q1 : (k : Int) < (n : Int) := by omega
    have hkl : k < l.length := by rw [← HL.out]; exact hlt
    obtain ⟨x, hx⟩ : ∃ x, x = l[k] := ⟨_, rfl⟩
    have hc := (HCE.out k hkl).1
    rw [← hx] at hc
    have HE2 : Hid (min m x = (l.take (k + 1)).foldl min y) := zH (by rw [zqd l k hkl, ← HE.out, hx])
    have c1 := zze HB.out hc
    clear hc hx
    go_wp2_with fail
    go_roundw
    case rel => exact ⟨k + 1, min m x, by omega, by go_num, rfl, HE2, HB.out⟩
    case measure => simp [intOf]; omega
  · obtain rfl : k = n := by omega
    have hm : m = zzM l := by rw [HE.out, HL.out, List.take_length, zzM, HY.out]
    have HM := zH hm
    have hb2 : Below w.heap.size w (wr.alloc (.cells #[] 112)) := HB.out.alloc HB.out.size _
    have HB2 := zH hb2
    have q1 : ¬ (k : Int) < (k : Int) := by omega
    have ho2 : OwnU (wr.alloc (.cells #[] 112)) w.heap.size (some ⟨wr.heap.size, 0, none⟩) 0 0 [] := OwnF.empty _ _ _ wr _ HB.out.size (fun _ hb => hb.elim)
    have HO2 := zH ho2
    clear hm hb2 ho2
    go_wp2_with fail
    go_loopw [7, 8] (fun sv iv wq => ∃ (i : Nat) (A2 : Option Addr) (c2 : Nat), i ≤ k ∧ iv = .int .i64 (i : Int) ∧ sv = .slice A2 i c2 ∧ OwnU wq w.heap.size A2 i c2 ((upN l).take i) ∧ Below w.heap.size w wq ∧ Hid (∀ j (_ : j < (upN l).length), j < i → (upN l)[j] < 9223372036854775808)) (fun _ iv _ => k - (intOf iv).toNat)
    case atStart => exact ⟨0, _, 0, Nat.zero_le _, rfl, rfl, HO2.out, HB2.out, zH (fun j _ hj => by omega)⟩
    case round =>
     obtain ⟨i, A2, c2, hi, rfl, rfl, ho, hb, HJ⟩ := hrel
     have HO := zH ho; have HB3 := zH hb
     clear ho hb
     by_cases hlt2 : i < k
     · have hil : i < l.length := by rw [← HL.out]; exact hlt2
       have hiu : i < (upN l).length := by rw [HUL.out]; exact hil
       obtain ⟨x, hx⟩ : ∃ x, x = l[i] := ⟨_, rfl⟩
       have hcx := HCE.out i hil
       rw [← hx] at hcx
       have c1 := zze HB3.out hcx.1
       have i0 : (0 : Int) ≤ (i : Int) := by omega
       have i1 : (i : Int) < (k : Int) := by omega
       have hmm := HMEM.out
       rw [← HM.out] at hmm
       have hxm : m ≤ x := hmm.2 x (by rw [hx]; exact List.getElem_mem _)
       obtain ⟨jm, hjm, hjm2⟩ := List.getElem_of_mem hmm.1
       have hmr := HCE.out jm hjm
       rw [hjm2] at hmr
       obtain ⟨u, hu⟩ : ∃ u, u = gapN m x := ⟨_, rfl⟩
       have hut : (upN l)[i]'hiu = u := by
        have e1 : (upN l)[i]'hiu = (l[i] - zzM l).toNat := by simp [upN]
        rw [e1, hu, ← HM.out, ← hx]; unfold gapN; omega
       have HT := zH (show (upN l).take (i + 1) = (upN l).take i ++ [u] by rw [zT hiu, hut])
       have HDV := uuv m x hmr.2.1 hmr.2.2 hcx.2.1 hcx.2.2
       have hnl : decide (x < m) = false := decide_eq_false (by omega)
       by_cases hok : u < 9223372036854775808
       · have HU := zH (show U64 u by unfold U64; omega)
         have HD : Hid (∀ w, Calls Tryz.prog 262 #[.int .i64 m, .int .i64 x] w fun e w' => e = .returned (.tuple #[.int .u64 (u : Int), .bool false, .bool true]) ∧ w = w') := zH (fun w => by
          refine (HDV w).mono fun e w' h => ⟨?_, h.2⟩
          rw [h.1]
          unfold yyI
          rw [← hu, if_pos hok, hnl])
         have HJ2 : Hid (∀ j (_ : j < (upN l).length), j < i + 1 → (upN l)[j] < 9223372036854775808) := zH (fun j hj hji => by
          by_cases hjp : j = i
          · subst hjp; rw [hut]; exact hok
          · exact HJ.out j hj (by omega))
         clear HDV hcx hu hut hx hnl hmm hxm hjm hjm2 hmr hok
         go_wp2_with (first
          | (go_at_call 262; refine (HD.out _).mono ?_; rintro e w3 ⟨rfl, rfl⟩)
          | (at_builtin; refine apu1 _ w rfl (.tmp 46) (.tmp 48) rfl w.heap.size A2 i c2 _ rfl HO.out HB3.out zN _ rfl u HU.out rfl (by omega) ?_; intro A3 c3 w3 h3 hb3)
          | fail)
         go_roundw
         case rel => exact ⟨i + 1, A3, c3, by omega, by go_num, rfl, by rw [HT.out]; exact h3, hb3, HJ2⟩
         case measure => simp [intOf]; omega
       · have HD : Hid (∀ w, Calls Tryz.prog 262 #[.int .i64 m, .int .i64 x] w fun e w' => e = .returned (.tuple #[.int .u64 0, .bool false, .bool false]) ∧ w = w') := zH (fun w => by
          refine (HDV w).mono fun e w' h => ⟨?_, h.2⟩
          rw [h.1]
          unfold yyI
          rw [← hu, if_neg hok])
         have HBAD : Hid (¬ (upN l).all (· < 9223372036854775808) = true) := zH (fun hall => by
          have := List.all_eq_true.1 hall u (by rw [← hut]; exact List.getElem_mem _)
          exact hok (by simpa using this))
         clear HDV hcx hu hut hx hnl hmm hxm hjm hjm2 hmr hok
         go_wp2_with (first
          | (go_at_call 262; refine (HD.out _).mono ?_; rintro e w3 ⟨rfl, rfl⟩)
          | fail)
         go_ret3
         exact ⟨HB3.out, by rw [if_neg HBAD.out]; rfl⟩
     · obtain rfl : i = k := by omega
       have hall : (upN l).take i = upN l := zL (by rw [HUL.out, ← HL.out]; exact Nat.le_refl _)
       rw [hall] at HO
       have HGOOD : Hid ((upN l).all (· < 9223372036854775808) = true) := zH (List.all_eq_true.2 fun u hu => by
        obtain ⟨j, hj, rfl⟩ := List.getElem_of_mem hu
        exact decide_eq_true (HJ.out j hj (by have := HUL.out; have := HL.out; omega)))
       clear hall
       by_cases hz : m = -9223372036854775808
       · have hd : decide (m ≠ -9223372036854775808) = false := by simp [hz]
         have HD := zH hd
         have hb1 : (m == -9223372036854775808) = true := xxQ hz
         clear hd
         go_wp2_with fail
         go_ret3
         exact ⟨HB3.out, by rw [if_pos HGOOD.out, ← HM.out, HD.out, ← HL.out]; exact ⟨A2, c2, rfl, HO.out⟩⟩
       · have hd : decide (m ≠ -9223372036854775808) = (m != -9223372036854775808) := by simp [bne, zzv hz, hz]
         have HD := zH hd
         clear hd
         go_wp2_with fail
         go_ret3
         exact ⟨HB3.out, by rw [if_pos HGOOD.out, ← HM.out, HD.out, ← HL.out]; exact ⟨A2, c2, rfl, HO.out⟩⟩
theorem xqt (b : Int) (b0 : -9223372036854775808 < b) (b1 : b ≤ 9223372036854775807) (w : World) :
 Calls Tryz.prog 266 #[.int .i64 b] w (Own1 w (vvN b)) := by
 obtain ⟨u, hu⟩ : ∃ u, u = b.natAbs := ⟨_, rfl⟩
 have hug : gapN 0 b = u := by rw [hu]; unfold gapN; rw [Int.sub_zero]
 have hul : u < 9223372036854775808 := by omega
 have hu64 : U64 u := Nat.lt_trans hul (by decide)
 obtain ⟨fl, hfl⟩ : ∃ fl, fl = decide (b < 0) := ⟨_, rfl⟩
 have HV := zH (show yyI 0 b = #[.int .u64 (u : Int), .bool fl, .bool true] by unfold yyI; rw [hug, if_pos hul, ← hfl])
 obtain ⟨q, hq⟩ : ∃ q, q = bl u / 8 := ⟨_, rfl⟩
 obtain ⟨bb, hbb⟩ : ∃ bb, bb = bl u := ⟨_, rfl⟩
 have hbb64 : bb ≤ 64 := by rw [hbb]; exact yyk hu64
 have hq8 : q ≤ 8 := by omega
 have HQ := zH (show (bb : Int) / 8 = (q : Int) by omega)
 have htop : u / 256 ^ q < 128 := by
  have h1 := uuI hu64
  rw [xxw]
  refine Nat.div_lt_of_lt_mul (Nat.lt_of_lt_of_le h1 ?_)
  rw [show (128 : Nat) = 2 ^ 7 from rfl, ← Nat.pow_add]
  exact Nat.pow_le_pow_right (by decide) (by omega)
 have HTOP := zH htop
 have HB : Hid (vvN b = be (q + 1) (u + if fl then 128 * 256 ^ q else 0)) := zH (by
  unfold vvN
  rw [← hu, ← hq, hfl]
  by_cases h : b < 0
  · rw [if_pos h, decide_eq_true h, if_pos rfl]
  · rw [if_neg h, decide_eq_false h, if_neg (by simp)])
 have HBB := zH hbb; have HU64 := zH hu64
 have hb0' : -9223372036854775808 ≤ b := by omega
 have HO1 := zH (OwnB.new0 w w.heap.size zN)
 have HB1 : Hid (Below w.heap.size w (w.alloc (.cells #[] 5))) := zH ((zR).alloc zN _)
 clear hu hug hul hfl hq htop hbb hu64
 go_enter Tryz.func266, Tryz.ntmps266
 go_wp2_with (first
  | (go_at_call 262; refine (uuv 0 b (by decide) (by decide) hb0' b1 _).mono ?_; rintro e w1 ⟨rfl, rfl⟩; rw [HV.out])
  | (go_at_call 256; refine (vv2 u HU64.out _).mono ?_; rintro e w2 ⟨rfl, rfl⟩; rw [← HBB.out])
  | fail)
 go_loopw [7, 8] (fun av iv wr => ∃ (j : Nat) (z : Int) (A2 : Option Addr) (c2 : Nat), j ≤ q + 1 ∧ z = (j : Int) - 1 ∧ iv = .int .i64 z ∧ av = .slice A2 (q + 1 - j) c2 ∧ OwnB wr w.heap.size A2 (q + 1 - j) c2 ((be (q + 1) u).take (q + 1 - j)) ∧ Below w.heap.size w wr)
  (fun _ iv _ => (intOf iv + 1).toNat)
 case atStart => exact ⟨q + 1, (q : Int), _, 0, Nat.le_refl _, by omega, by first | rfl | rw [HQ.out] | go_num, by rw [Nat.sub_self], by rw [Nat.sub_self, List.take_zero]; exact HO1.out, HB1.out⟩
 case round =>
  obtain ⟨j, z, A2, c2, hj, hz, rfl, rfl, ho, hb⟩ := hrel
  have HO := zH ho; have HB2 := zH hb
  clear ho hb
  cases j with
  | zero =>
    have z1 : ¬ 0 ≤ z := by omega
    have z2 : ¬ z ≥ 0 := z1
    clear hz
    have ho := HO.out
    rw [Nat.sub_zero, zL (by rw [zz2]; exact Nat.le_refl _)] at ho
    have HO2 := zH ho
    obtain ⟨g, rfl⟩ := ho.own.some1 yyz (by intro h; have := congrArg List.length h; rw [zz2] at this; simp at this)
    clear ho HO
    cases fl with
    | false =>
      go_wp2_with fail
      go_ret
      exact ⟨_, _, c2, rfl, by rw [HB.out, if_neg (by simp), Nat.add_zero]; exact HO2.out, HB2.out⟩
    | true =>
      have hl0 : 0 < (be (q + 1) u).length := by rw [zz2]; omega
      obtain ⟨t, ht⟩ : ∃ t, t = u / 256 ^ q := ⟨_, rfl⟩
      have ht128 : t < 128 := by rw [ht]; exact HTOP.out
      have hg : ((be (q + 1) u)[0]'hl0).toNat = t := by rw [uug, show q + 1 - 1 - 0 = q by omega, ← ht, Nat.mod_eq_of_lt (by omega)]
      have g0 : wr.cell? ⟨g, 0, none⟩ = some (.int .u8 (t : Int)) := by rw [HO2.out.own.cell1 yyz hl0, hg]
      have g1 : wr.frozen? ⟨g, 0, none⟩ = false := HO2.out.own.free1 yyz 0
      obtain ⟨y, hy⟩ : ∃ y : UInt8, y = UInt8.ofNat (t + 128) := ⟨_, rfl⟩
      have hor : (t : Int) + 128 = ((y.toNat : Nat) : Int) := by
       rw [hy, UInt8.toNat_ofNat', Nat.mod_eq_of_lt (by omega)]
       omega
      have HFIN := zH (show (be (q + 1) u).set 0 y = be (q + 1) (u + 128 * 256 ^ q) by
       have := xqR (q + 1) u 0 128 (by omega) (by rw [show q + 1 - 1 - 0 = q by omega, ← ht]; omega)
       rw [show q + 1 - 1 - 0 = q by omega, ← ht, Nat.mod_eq_of_lt (by omega)] at this
       rw [hy]; exact this)
      have HHOR := zH hor
      have hq0 : (0 : Int) < (q : Int) + 1 := by omega
      clear hg ht hy hl0 hor
      go_wp2_with fail
      rw [HHOR.out]
      go_ret
      have hr := HO2.out.own.set1 yyz 0 y trivial
      refine ⟨_, _, c2, rfl, ?_, zzf HB2.out (HO2.out.own.base1 yyz).1 _⟩
      rw [HB.out, if_pos (by simp), ← HFIN.out]
      exact yye ⟨_, hr⟩
  | succ i =>
    obtain rfl : z = (i : Int) := by omega
    have z0 : (0 : Int) ≤ (i : Int) := by omega
    clear hz
    obtain ⟨p, hp⟩ : ∃ p, q + 1 - (i + 1) = p := ⟨_, rfl⟩
    obtain ⟨y, hy⟩ : ∃ y : UInt8, y = UInt8.ofNat (u / 256 ^ i) := ⟨_, rfl⟩
    have hyn : ((y.toNat : Nat) : Int) = ((u / 2 ^ (8 * i) % 256 : Nat) : Int) := by rw [hy, UInt8.toNat_ofNat', xxw]
    have f1 : IntKind.u8.wrap ((u : Int) / 2 ^ (8 * i)) = ((y.toNat : Nat) : Int) := by
     rw [hyn, IntKind.wrap_u8, show (u : Int) / 2 ^ (8 * i) = ((u / 2 ^ (8 * i) : Nat) : Int) by simp]
     omega
    have f2 : (u : Int) / 2 ^ (8 * i) % 256 = ((y.toNat : Nat) : Int) := by
     rw [hyn, show (u : Int) / 2 ^ (8 * i) = ((u / 2 ^ (8 * i) : Nat) : Int) by simp]
     omega
    have HT := zH (show (be (q + 1) u).take (p + 1) = (be (q + 1) u).take p ++ [y] by rw [kqS (q + 1) u p (by omega), hy, show q + 1 - 1 - p = i by omega])
    rw [hp] at HO
    have HP := zH hp
    rw [hp]
    have hp8 : p ≤ 9 := by omega
    clear hp hy hyn
    go_wp2_with (first
     | (at_builtin; refine apb1 wr w rfl (.tmp 26) (.tmp 32) rfl w.heap.size A2 p c2 ((be (q + 1) u).take p) rfl HO.out HB2.out zN _ rfl y rfl (by omega) ?_; intro A3 c3 w3 h3 hb3 _)
     | fail)
    go_roundw
    case rel => exact ⟨i, (i : Int) - 1, A3, c3, by omega, rfl, by first | rfl | go_num, by rw [show q + 1 - i = p + 1 by have := HP.out; omega], by rw [show q + 1 - i = p + 1 by have := HP.out; omega, HT.out]; exact h3, hb3⟩
    case measure => simp [intOf]
end
end Go.Proofs.YtpmglcachffojaaGreatDoor
