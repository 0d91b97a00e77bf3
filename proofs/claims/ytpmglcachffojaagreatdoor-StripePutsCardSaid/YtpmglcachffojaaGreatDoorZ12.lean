/- A part of what Puts leans on. -/
import Derived.Test.YtpmglcachffojaaGreatDoorZ11
set_option maxRecDepth 100000
set_option maxHeartbeats 16000000
namespace Go.Proofs.YtpmglcachffojaaGreatDoor
section
open Go Go.RowKit
theorem zzY.least {sg : Bool} {l : List Int} (h : zzY sg l) (hl : l ≠ []) : -9223372036854775808 ≤ zzM l ∧ zzM l ≤ 9223372036854775807 ∧ (sg = true ∨ 0 ≤ zzM l) := h _ (uum hl).1
theorem vva {f : Bool} {l : List Int} (h : yyp f l = true) : ∀ x ∈ zzk l, x < 9223372036854775808 := fun x hx => by
 obtain ⟨j, hj, rfl⟩ := List.getElem_of_mem hx
 have hj2 : j + 1 < l.length := by rw [zzT] at hj; omega
 rw [yyN l j hj2]
 exact ((yyr f l).1 h j hj2).1
theorem delp_none (F : Nat → Prop) (A : Option Addr) (n c : Nat) (l : List Int) (w : World) (h : Sl tI64 F w A n c l) (hn1 : 1 ≤ n) (hn : n ≤ 512) (sg : Bool) (hl : zzY sg l) (hd : delB sg l = none) :
 Calls Tryz.prog 247 #[.slice A n c, .bool sg] w (zzq none w) := by
 have hlen := h.len
 have hne : l ≠ [] := by intro e; rw [e] at hlen; simp at hlen; omega
 have hml := hl.least hne
 have HMIN := zH (uun F A n c l w h hne)
 obtain ⟨mn, hmn⟩ : ∃ mn, mn = zzM l := ⟨_, rfl⟩
 rw [← hmn] at hml HMIN
 obtain ⟨m0, m1, m2⟩ := hml
 have HM2 := zH m2
 have HH := zH h
 clear hmn m2
 by_cases hn2 : n < 2
 · have z : (n : Int) < 2 := by omega
   clear hn2 hlen
   go_enter Tryz.func247, Tryz.ntmps247
   go_wp2_with fail
   go_ret2
   exact ⟨zR, rfl⟩
 · have z : ¬ (n : Int) < 2 := by omega
   have hw : yyp (yym l) l = false := by
    unfold delB at hd
    by_cases hc : l.length < 2 ∨ yyp (yym l) l = false
    · exact hc.resolve_left (by omega)
    · rw [if_neg hc] at hd; cases hd
   have HDF : Hid (Calls Tryz.prog 288 #[.slice A n c] w fun e w' => e = .returned (.tuple #[.agg #[.int .u64 0, .bool false], .slice none 0 0, .bool false, .bool false]) ∧ Below w.heap.size w w') := zH ((qzC F A n c l w h (by omega) hn).mono fun e w1 hp => by
    obtain ⟨hb1, he⟩ := hp
    rw [hw, if_neg (by simp)] at he
    exact ⟨he, hb1⟩)
   clear hd hw h hlen
   cases sg with
   | true =>
     go_enter Tryz.func247, Tryz.ntmps247
     go_upto_region 3 with (first
      | (go_at_call 205; refine HMIN.out.mono ?_; rintro e w1 ⟨rfl, rfl⟩)
      | fail)
     go_wp2_with (first
      | (go_at_call 288; refine HDF.out.mono ?_; rintro e w1 ⟨rfl, hb1⟩; have HB1 := zH hb1; clear hb1)
      | fail)
     go_ret2
     exact ⟨HB1.out.alloc HB1.out.size _, rfl⟩
   | false =>
     have m3 : ¬ mn < 0 := by rcases HM2.out with h | h; cases h; exact Int.not_lt.2 h
     go_enter Tryz.func247, Tryz.ntmps247
     go_upto_region 3 with (first
      | (go_at_call 205; refine HMIN.out.mono ?_; rintro e w1 ⟨rfl, rfl⟩)
      | fail)
     go_wp2_with (first
      | (go_at_call 288; refine HDF.out.mono ?_; rintro e w1 ⟨rfl, hb1⟩; have HB1 := zH hb1; clear hb1)
      | fail)
     go_ret2
     exact ⟨HB1.out.alloc HB1.out.size _, rfl⟩
end
section
open Go Go.RowKit
theorem based_any (b : Int) (b0 : -9223372036854775808 < b) (b1 : b ≤ 9223372036854775807) (w : World) :
 Calls Tryz.prog 292 #[.int .i64 b] w (Own1 w (vvN b)) := by
 obtain ⟨u, hu⟩ : ∃ u, u = b.natAbs := ⟨_, rfl⟩
 have hug : gapN 0 b = u := by rw [hu]; unfold gapN; rw [Int.sub_zero]
 have hul : u < 9223372036854775808 := by omega
 have hu64 : U64 u := Nat.lt_trans hul (by decide)
 obtain ⟨fl, hfl⟩ : ∃ fl, fl = decide (b < 0) := ⟨_, rfl⟩
 have HV := zH (show yyI 0 b = #[.int .u64 (u : Int), .bool fl, .bool true] by unfold yyI; rw [hug, if_pos hul, ← hfl])
 obtain ⟨q, hq⟩ : ∃ q, q = bl u / 8 := ⟨_, rfl⟩
 obtain ⟨bb, hbb⟩ : ∃ bb, bb = bl u := ⟨_, rfl⟩
 have hbb64 : bb ≤ 64 := by rw [hbb]; exact yyk hu64
 have hq8 : q ≤ 8 := by omega
 have HQ := zH (show (bb : Int) / 8 = (q : Int) by omega)
 have htop : u / 256 ^ q < 128 := by
  have h1 := uuI hu64
  rw [xxw]
  refine Nat.div_lt_of_lt_mul (Nat.lt_of_lt_of_le h1 ?_)
  rw [show (128 : Nat) = 2 ^ 7 from rfl, ← Nat.pow_add]
  exact Nat.pow_le_pow_right (by decide) (by omega)
 have HTOP := zH htop
 have HB : Hid (vvN b = be (q + 1) (u + if fl then 128 * 256 ^ q else 0)) := zH (by
  unfold vvN
  rw [← hu, ← hq, hfl]
  by_cases h : b < 0
  · rw [if_pos h, decide_eq_true h, if_pos rfl]
  · rw [if_neg h, decide_eq_false h, if_neg (by simp)])
 have HBB := zH hbb; have HU64 := zH hu64
 have hb0' : -9223372036854775808 ≤ b := by omega
 clear hu hug hul hfl hq htop hbb hu64
 go_enter Tryz.func292, Tryz.ntmps292
 go_wp2_with (first
  | (go_at_call 320; refine (xx9 0 b (by decide) (by decide) hb0' b1 _).mono ?_; rintro e w1 ⟨rfl, hb1⟩; rw [HV.out]; have HB1 := zH hb1; clear hb1)
  | (go_at_call 315; refine (xxR u HU64.out _).mono ?_; rintro e w2 ⟨rfl, rfl⟩; rw [← HBB.out])
  | fail)
 go_loopw [6, 7] (fun av iv wr => ∃ (j : Nat) (z : Int) (A2 : Option Addr) (c2 : Nat), j ≤ q + 1 ∧ z = (j : Int) - 1 ∧ iv = .int .i64 z ∧ av = .slice A2 (q + 1 - j) c2 ∧ OwnB wr w.heap.size A2 (q + 1 - j) c2 ((be (q + 1) u).take (q + 1 - j)) ∧ Below w.heap.size w wr)
  (fun _ iv _ => (intOf iv + 1).toNat)
 case atStart => exact ⟨q + 1, (q : Int), none, 0, Nat.le_refl _, by omega, by first | rfl | rw [HQ.out] | go_num, by rw [Nat.sub_self], by rw [Nat.sub_self, List.take_zero]; exact OwnB.nil_ _ _, HB1.out⟩
 case round =>
  obtain ⟨j, z, A2, c2, hj, hz, rfl, rfl, ho, hb⟩ := hrel
  have HO := zH ho; have HB2 := zH hb
  clear ho hb
  cases j with
  | zero =>
    have z1 : ¬ 0 ≤ z := by omega
    clear hz
    have ho := HO.out
    rw [Nat.sub_zero, zL (by rw [zz2]; exact Nat.le_refl _)] at ho
    have HO2 := zH ho
    obtain ⟨g, rfl⟩ := ho.own.some1 yyz (by intro h; have := congrArg List.length h; rw [zz2] at this; simp at this)
    clear ho HO
    cases fl with
    | false =>
      go_wp2_with fail
      go_ret
      exact ⟨_, _, c2, rfl, by rw [HB.out, if_neg (by simp), Nat.add_zero]; exact HO2.out, HB2.out⟩
    | true =>
      have hl0 : 0 < (be (q + 1) u).length := by rw [zz2]; omega
      obtain ⟨t, ht⟩ : ∃ t, t = u / 256 ^ q := ⟨_, rfl⟩
      have ht128 : t < 128 := by rw [ht]; exact HTOP.out
      have hg : ((be (q + 1) u)[0]'hl0).toNat = t := by rw [uug, show q + 1 - 1 - 0 = q by omega, ← ht, Nat.mod_eq_of_lt (by omega)]
      have g0 : wr.cell? ⟨g, 0, none⟩ = some (.int .u8 (t : Int)) := by rw [HO2.out.own.cell1 yyz hl0, hg]
      have g1 : wr.frozen? ⟨g, 0, none⟩ = false := HO2.out.own.free1 yyz 0
      obtain ⟨y, hy⟩ : ∃ y : UInt8, y = UInt8.ofNat (t + 128) := ⟨_, rfl⟩
      have hor : bits BinOp.or IntKind.u8 (t : Int) 128 = ((y.toNat : Nat) : Int) := by
       rw [u8_or128_right _ (by omega) (by omega), hy, UInt8.toNat_ofNat', Nat.mod_eq_of_lt (by omega)]
       omega
      have HFIN := zH (show (be (q + 1) u).set 0 y = be (q + 1) (u + 128 * 256 ^ q) by
       have := xqR (q + 1) u 0 128 (by omega) (by rw [show q + 1 - 1 - 0 = q by omega, ← ht]; omega)
       rw [show q + 1 - 1 - 0 = q by omega, ← ht, Nat.mod_eq_of_lt (by omega)] at this
       rw [hy]; exact this)
      have HHOR := zH hor
      have hq0 : (0 : Int) < (q : Int) + 1 := by omega
      clear hg ht hy hl0 hor
      go_wp2_with fail
      rw [HHOR.out]
      go_ret
      have hr := HO2.out.own.set1 yyz 0 y trivial
      refine ⟨_, _, c2, rfl, ?_, zzf HB2.out (HO2.out.own.base1 yyz).1 _⟩
      rw [HB.out, if_pos (by simp), ← HFIN.out]
      exact yye ⟨_, hr⟩
  | succ i =>
    obtain rfl : z = (i : Int) := by omega
    have z0 : (0 : Int) ≤ (i : Int) := by omega
    clear hz
    obtain ⟨p, hp⟩ : ∃ p, q + 1 - (i + 1) = p := ⟨_, rfl⟩
    obtain ⟨y, hy⟩ : ∃ y : UInt8, y = UInt8.ofNat (u / 256 ^ i) := ⟨_, rfl⟩
    have hyn : ((y.toNat : Nat) : Int) = ((u / 2 ^ (8 * i) % 256 : Nat) : Int) := by rw [hy, UInt8.toNat_ofNat', xxw]
    have f1 : IntKind.u8.wrap ((u : Int) / 2 ^ (8 * i)) = ((y.toNat : Nat) : Int) := by
     rw [hyn, IntKind.wrap_u8, show (u : Int) / 2 ^ (8 * i) = ((u / 2 ^ (8 * i) : Nat) : Int) by simp]
     omega
    have f2 : (u : Int) / 2 ^ (8 * i) % 256 = ((y.toNat : Nat) : Int) := by
     rw [hyn, show (u : Int) / 2 ^ (8 * i) = ((u / 2 ^ (8 * i) : Nat) : Int) by simp]
     omega
    have HT := zH (show (be (q + 1) u).take (p + 1) = (be (q + 1) u).take p ++ [y] by rw [kqS (q + 1) u p (by omega), hy, show q + 1 - 1 - p = i by omega])
    rw [hp] at HO
    have HP := zH hp
    rw [hp]
    have hp8 : p ≤ 9 := by omega
    clear hp hy hyn
    go_wp2_with (first
     | (at_builtin; refine apb1 wr w rfl (.tmp 23) (.tmp 29) rfl w.heap.size A2 p c2 ((be (q + 1) u).take p) rfl HO.out HB2.out zN _ rfl y rfl (by omega) ?_; intro A3 c3 w3 h3 hb3 _)
     | fail)
    go_roundw
    case rel => exact ⟨i, (i : Int) - 1, A3, c3, by omega, rfl, by first | rfl | go_num, by rw [show q + 1 - i = p + 1 by have := HP.out; omega], by rw [show q + 1 - i = p + 1 by have := HP.out; omega, HT.out]; exact h3, hb3⟩
    case measure => simp [intOf]
end
section
open Go Go.RowKit
theorem uuc {k : Nat} : zzt (k : Int) = ((zzz k : Nat) : Int) := by
 unfold zzz
 have := xxP (k : Int)
 omega
theorem r8put_any (F : Nat → Prop) (A : Option Addr) (n c : Nat) (l : List Int) (w : World) (h : Sl tI64 F w A n c l) (hn1 : 1 ≤ n) (hn : n ≤ 512) (sg : Bool) (hl : zzY sg l) :
 Calls Tryz.prog 217 #[.slice A n c, .bool sg] w (zzq (some (dirB sg l)) w) := by
 have HH := zH h
 have HK := zH hl
 have hln := h.len
 obtain ⟨us, hus⟩ : ∃ us, us = l.map (uOf sg) := ⟨_, rfl⟩
 have hu : ∀ u ∈ us, U64 u := by rw [hus]; exact hl.u
 have hlu : us.length = n := by rw [hus, List.length_map]; exact hln.symm
 obtain ⟨k, hk⟩ : ∃ k, k = most us := ⟨_, rfl⟩
 have hk64 : k ≤ 64 := by rw [hk]; exact yyR us hu
 obtain ⟨q, hq⟩ : ∃ q, q = zzz k := ⟨_, rfl⟩
 have hq64 : q ≤ 64 := by rw [hq]; exact yyl k
 have hx : ∀ x ∈ us, x < 2 ^ q := fun x hx => by rw [hq, hk]; exact lt_most hu hx
 obtain ⟨hc1, hc2⟩ := xx4 hk64
 rw [← hq] at hc1 hc2
 obtain ⟨d, hd⟩ : ∃ d, d = zz1 q := ⟨_, rfl⟩
 rw [← hd] at hc1 hc2
 have HB := zH (show dirB sg l = zz7 1 d n ++ pack q us by rw [dirB, ← hus, ← hk, ← hq, ← hd, ← hln])
 have HX := zH hx; have HQ := zH (show zzt (k : Int) = (q : Int) by rw [hq]; exact uuc)
 have HKK := zH hk; have HC := zH hc1; have HUS := zH hus; have HLU := zH hlu
 have z1 : ¬ (n : Int) < 1 := by omega
 have z2 : ¬ (n : Int) > 512 := by omega
 have z2' : ¬ (512 : Int) < n := by omega
 have hkz : (k : Int) ≤ 64 := by omega
 clear h hl hu hx hq hk hc1 hus hd hln hlu
 go_enter Tryz.func217, Tryz.ntmps217
 go_wp2_with (first
  | (go_at_call 214; refine (yyZ F A n c l _ HH.out (by omega) sg HK.out).mono ?_; rintro e w1 ⟨A1, n1, c1, rfl, ho1, hb1⟩; rw [← HUS.out] at ho1; obtain rfl : n1 = n := (by rw [ho1.len, HLU.out]); have HO1 := zH ho1; have HB1 := zH hb1; have HS1 := zH ho1.sl; clear ho1 hb1)
  | (go_at_call 258; refine (jjE _ A1 n1 c1 us _ HS1.out).mono ?_; rintro e w2 ⟨rfl, rfl⟩; rw [← HKK.out])
  | (go_at_call 257; refine (vvf (k : Int) hkz _).mono ?_; rintro e w2 ⟨rfl, rfl⟩; rw [HQ.out])
  | (go_at_call 259; refine (uub _ A1 n1 c1 us _ HS1.out (by omega) q hq64 HX.out).mono ?_; rintro e w3 ⟨A3, s3, c3, rfl, ho3, hb3⟩; have hs3 : s3 ≤ 4096 := (by rw [ho3.len, yyG, HLU.out]; have := zzO n1 q hq64; omega); have HO3 := zH ho3; have HB3 := zH hb3; clear ho3 hb3)
  | (go_at_call 261; refine (vv1 (q : Int) _).mono ?_; rintro e w4 ⟨rfl, rfl⟩; rw [HC.out])
  | (go_at_call 260; refine (jjZ 1 d n1 (by omega) hc2 hn1 hn _).mono ?_; rintro e w5 ⟨A5, n5, c5, rfl, ho5, hb5⟩; obtain rfl : n5 = 2 := ho5.len; have HO5 := zH ho5; have HB5 := zH hb5; clear ho5 hb5)
  | (at_builtin; refine apb w5 w3 rfl (.tmp 42) (.tmp 43) rfl w3.heap.size A5 2 c5 _ rfl HO5.out HB5.out zN _ A3 s3 c3 (pack q us) rfl (HO3.out.bs.below HB5.out zN) (by omega) ?_; intro A6 c6 w6 h6 hb6 _)
  | fail)
 go_ret2
 have b3 := HB1.out.trans (HB3.out.mono HB1.out.size)
 refine ⟨b3.trans (hb6.mono b3.size), A6, _, c6, rfl, ?_⟩
 rw [HB.out]
 exact h6.down b3.size
end
end Go.Proofs.YtpmglcachffojaaGreatDoor
