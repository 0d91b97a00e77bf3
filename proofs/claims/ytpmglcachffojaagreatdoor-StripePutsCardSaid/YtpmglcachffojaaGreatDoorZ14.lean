/- A part of what Puts leans on. -/
import Derived.Test.YtpmglcachffojaaGreatDoorZ13
import Derived.Deep.QuietTactic
import Derived.BigQuiet
set_option maxRecDepth 100000
set_option maxHeartbeats 16000000
namespace Go.Proofs.YtpmglcachffojaaGreatDoor
section
open Go Go.RowKit
theorem uuv (a b : Int) (a0 : -9223372036854775808 ≤ a) (a1 : a ≤ 9223372036854775807) (b0 : -9223372036854775808 ≤ b) (b1 : b ≤ 9223372036854775807) (w : World) :
 Calls Tryz.prog 262 #[.int .i64 a, .int .i64 b] w fun e w' => e = .returned (.tuple (yyI a b)) ∧ w = w' := by
 obtain ⟨g, hg⟩ : ∃ g : Int, g = (gapN a b : Nat) := ⟨_, rfl⟩
 have hgn : g = if b < a then a - b else b - a := by rw [hg]; unfold gapN; split <;> omega
 have HV : Hid (yyI a b = if g < 9223372036854775808 then #[.int .u64 g, .bool (decide (b < a)), .bool true] else #[.int .u64 0, .bool false, .bool false]) := zH (by
  unfold yyI; rw [hg]
  by_cases h : gapN a b < 9223372036854775808
  · rw [if_pos h, if_pos (by omega)]
  · rw [if_neg h, if_neg (by omega)])
 obtain ⟨p, hp⟩ : ∃ p, p = IntKind.u64.wrap b := ⟨_, rfl⟩
 obtain ⟨q, hq⟩ : ∃ q, q = IntKind.u64.wrap a := ⟨_, rfl⟩
 have HP := zH hp; have HQ := zH hq
 rw [IntKind.wrap_u64] at hp hq
 have hg0 : 0 ≤ g := by rw [hgn]; split <;> omega
 have hg1 : g < 18446744073709551616 := by rw [hgn]; split <;> omega
 by_cases hba : b < a
 · rw [if_pos hba] at hgn
   have F1 := zH (show IntKind.u64.wrap (q - p) = g by rw [IntKind.wrap_u64]; omega)
   have d1 : decide (b < a) = true := decide_eq_true hba
   rw [d1] at HV
   clear hg hgn hp hq d1
   by_cases hz : g < 9223372036854775808
   · rw [if_pos hz] at HV
     have hz2 : ¬ g ≥ 9223372036854775808 := by omega
     have hz3 : ¬ (9223372036854775808 : Int) ≤ g := by omega
     go_enter Tryz.func262, Tryz.ntmps262
     go_upto_region 3 with fail
     rw [← HP.out, ← HQ.out, F1.out]
     go_wp2_with fail
     go_ret3
     exact ⟨by rw [HV.out]; rfl, rfl⟩
   · rw [if_neg hz] at HV
     have hz2 : g ≥ 9223372036854775808 := by omega
     have hz3 : (9223372036854775808 : Int) ≤ g := by omega
     go_enter Tryz.func262, Tryz.ntmps262
     go_upto_region 3 with fail
     rw [← HP.out, ← HQ.out, F1.out]
     go_wp2_with fail
     go_ret3
     exact ⟨by rw [HV.out]; rfl, rfl⟩
 · rw [if_neg hba] at hgn
   have F1 := zH (show IntKind.u64.wrap (p - q) = g by rw [IntKind.wrap_u64]; omega)
   have d1 : decide (b < a) = false := decide_eq_false hba
   rw [d1] at HV
   clear hg hgn hp hq d1
   by_cases hz : g < 9223372036854775808
   · rw [if_pos hz] at HV
     have hz2 : ¬ g ≥ 9223372036854775808 := by omega
     have hz3 : ¬ (9223372036854775808 : Int) ≤ g := by omega
     go_enter Tryz.func262, Tryz.ntmps262
     go_upto_region 7 with fail
     rw [← HP.out, ← HQ.out, F1.out]
     go_wp2_with fail
     go_ret3
     exact ⟨by rw [HV.out]; rfl, rfl⟩
   · rw [if_neg hz] at HV
     have hz2 : g ≥ 9223372036854775808 := by omega
     have hz3 : (9223372036854775808 : Int) ≤ g := by omega
     go_enter Tryz.func262, Tryz.ntmps262
     go_upto_region 7 with fail
     rw [← HP.out, ← HQ.out, F1.out]
     go_wp2_with fail
     go_ret3
     exact ⟨by rw [HV.out]; rfl, rfl⟩
theorem fallsB_at (l : List Int) (h0 : 0 < l.length) (h1 : 1 < l.length) : yym l = decide (l[1] < l[0]) := by
 match l, h0, h1 with
 | _ :: _ :: _, _, _ => rfl
theorem r9put_any (F : Nat → Prop) (A : Option Addr) (n c : Nat) (l : List Int) (w : World) (h : Sl tI64 F w A n c l) (hn1 : 1 ≤ n) (hn : n ≤ 512) (sg : Bool) (hl : zzY sg l) :
 Calls Tryz.prog 218 #[.slice A n c, .bool sg] w (zzq (delB sg l) w) := by
 have HH := zH h; have HK := zH hl; have HL := zH h.len
 have z2 : ¬ (n : Int) > 512 := by omega
 have z2' : ¬ (512 : Int) < n := by omega
 by_cases h2 : n < 2
 · have hd : delB sg l = none := by unfold delB; rw [if_pos (.inl (by rw [← h.len]; exact h2))]
   rw [hd]
   have z1 : (n : Int) < 2 := by omega
   clear h hl hd h2
   go_enter Tryz.func218, Tryz.ntmps218
   go_wp2_with (first
    | (go_at_call 214; refine (yyZ F _ n c l _ HH.out (by omega) sg HK.out).mono ?_; rintro e w1 ⟨A1, m1, c1, rfl, _, hb1⟩; have HB1 := zH hb1; clear hb1)
    | fail)
   go_ret2
   exact ⟨HB1.out, rfl⟩
 · have z1 : ¬ (n : Int) < 2 := by omega
   have hlen := h.len
   have hne : l ≠ [] := by intro e; rw [e] at hlen; simp at hlen; omega
   obtain ⟨b, o, rfl, hbl, hcell⟩ := zzV h hne
   have HCE := zH hcell
   have h0l : 0 < l.length := by omega
   have h1l : 1 < l.length := by omega
   obtain ⟨x0, hx0⟩ : ∃ x0, x0 = l[0]'h0l := ⟨_, rfl⟩
   obtain ⟨x1, hx1⟩ : ∃ x1, x1 = l[1]'h1l := ⟨_, rfl⟩
   have hc0 := (hcell 0 h0l).1
   have hc1 := (hcell 1 h1l).1
   rw [← hx0, Nat.add_zero] at hc0
   rw [← hx1] at hc1
   have HC0 := zH hc0; have HC1 := zH hc1
   obtain ⟨f, hf⟩ : ∃ f, f = decide (x1 < x0) := ⟨_, rfl⟩
   have HF := zH hf
   have HFB := zH (show yym l = f by rw [hf, hx0, hx1]; exact fallsB_at l h0l h1l)
   obtain ⟨g0, hg0⟩ : ∃ g0, g0 = gapN x0 x1 := ⟨_, rfl⟩
   have hsl := zzT l
   have HG0 := zH (show ∀ i (h1 : 1 ≤ i) (h2 : 0 < ((zzk l).take i).length), ((zzk l).take i)[0] = g0 from fun i h1 h2 => by
    rw [List.getElem_take, yyN l 0 (by omega), hg0, hx0, hx1])
   have HGH := zH (show (zzk l).headD 0 = g0 by rw [hg0, hx0, hx1]; exact (zqt l (by omega)).1)
   have HX0K := zH (hl x0 (by rw [hx0]; exact List.getElem_mem _))
   have HXH := zH (show l.headD 0 = x0 by rw [hx0]; match l, h0l with | _ :: _, _ => rfl)
   have HB0F := zH (show ∀ w1, Below w.heap.size w w1 → Below w.heap.size w (w1.alloc (.cells #[] 112)) from fun w1 hb => hb.alloc hb.size _)
   have HX0 := zH hx0
   have hn0 : (0 : Int) < (n : Int) := by omega
   have hn1' : (1 : Int) < (n : Int) := by omega
   clear h hl hbl hcell hx0 hx1 hc0 hc1 hf hg0 hne hsl hlen
   go_enter Tryz.func218, Tryz.ntmps218
   go_upto_region 5 with (first
    | (go_at_call 214; refine (yyZ F _ n c l _ HH.out (by omega) sg HK.out).mono ?_; rintro e w1 ⟨A1, m1, c1, rfl, _, hb1⟩; have HB1 := zH hb1; clear hb1)
    | fail)
   obtain ⟨w2, hw2⟩ : ∃ w2, w2 = w1.alloc (.cells #[] 112) := ⟨_, rfl⟩
   obtain ⟨g2, hg2⟩ : ∃ g2, g2 = w1.heap.size := ⟨_, rfl⟩
   rw [← hw2, ← hg2]
   have ho2 : OwnU w2 w.heap.size (some ⟨g2, 0, none⟩) 0 0 [] := by rw [hw2, hg2]; exact OwnF.empty _ _ _ w1 _ HB1.out.size (fun _ hb => hb.elim)
   have hb2 : Below w.heap.size w w2 := by rw [hw2]; exact HB0F.out w1 HB1.out
   have HO2 := zH ho2; have HB2 := zH hb2
   have c0 := zze hb2 HC0.out
   have c1 := zze hb2 HC1.out
   clear hw2 hg2 ho2 hb2
   go_quiet (fail)
   rw [← HF.out]
   clear c0 c1
   go_wp2_with fail
   go_loopw [8, 10, 11] (fun sv mv iv wr => ∃ (i : Nat) (A2 : Option Addr) (c2 : Nat) (m : Bool), 1 ≤ i ∧ i ≤ n ∧ iv = .int .i64 (i : Int) ∧ sv = .slice A2 (i - 1) c2 ∧ mv = .bool m ∧ OwnU wr w.heap.size A2 (i - 1) c2 ((zzk l).take (i - 1)) ∧ Below w.heap.size w wr ∧
    m = ((zzk l).take (i - 1)).all (· == g0) ∧ Hid (∀ j (h : j + 1 < l.length), j + 1 < i → gapN l[j] l[j + 1] < 9223372036854775808 ∧ (l[j] = l[j + 1] ∨ decide (l[j + 1] < l[j]) = f))) (fun _ _ iv _ => n - (intOf iv).toNat)
   case atStart => exact ⟨1, _, 0, true, Nat.le_refl _, hn1, rfl, rfl, rfl, HO2.out.drewN _, zzA HB2.out _, rfl, zH (fun j _ hj => by omega)⟩
   case round =>
    obtain ⟨i, A2, c2, m, hi1, hi, rfl, rfl, rfl, ho, hb, hm, HJ⟩ := hrel
    have HO := zH ho; have HB := zH hb; have HMM := zH hm
    clear ho hb hm
    by_cases hlt : i < n
    · have hil : i < l.length := by rw [← HL.out]; exact hlt
      obtain ⟨p, hp⟩ : ∃ p, p = i - 1 := ⟨_, rfl⟩
      have hpi : (i : Int) - 1 = (p : Int) := by omega
      obtain ⟨x, hx⟩ : ∃ x, x = l[p]'(by omega) := ⟨_, rfl⟩
      obtain ⟨y, hy⟩ : ∃ y, y = l[i] := ⟨_, rfl⟩
      have hcx := HCE.out p (by omega)
      have hcy := HCE.out i hil
      rw [← hx] at hcx
      rw [← hy] at hcy
      have c0 := zze HB.out hcx.1
      have c1 := zze HB.out hcy.1
      have p0 : (0 : Int) ≤ (p : Int) := by omega
      have p1 : (p : Int) < (n : Int) := by omega
      have i0 : (0 : Int) ≤ (i : Int) := by omega
      have i1 : (i : Int) < (n : Int) := by omega
      obtain ⟨gn, hgn⟩ : ∃ gn, gn = gapN x y := ⟨_, rfl⟩
      have hgpi : (zzk l)[p]'(by rw [zzT]; omega) = gn := by
       have hpq : p + 1 = i := by omega
       have e1 : l[p + 1]'(by omega) = l[i] := by simp only [hpq]
       rw [yyN l p (by omega), hgn, hx, hy, e1]
      have HT := zH (show (zzk l).take i = (zzk l).take (i - 1) ++ [gn] by
       rw [← hgpi, ← hp]
       have h1 := zT (l := zzk l) (i := p) (by rw [zzT]; omega)
       rw [← h1, show p + 1 = i by omega])
      have HDV := uuv x y hcx.2.1 hcx.2.2 hcy.2.1 hcy.2.2
      have HNX := zH (show gn < 9223372036854775808 → (x = y ∨ decide (y < x) = f) → ∀ j (h : j + 1 < l.length), j + 1 < i + 1 → gapN (l[j]'(Nat.lt_of_succ_lt h)) (l[j + 1]'h) < 9223372036854775808 ∧ ((l[j]'(Nat.lt_of_succ_lt h)) = (l[j + 1]'h) ∨ decide ((l[j + 1]'h) < (l[j]'(Nat.lt_of_succ_lt h))) = f) from fun h1 h2 j hj hji => by
       by_cases hjp : j = p
       · subst hjp
         have e1 : l[j + 1] = y := by rw [hy]; congr 1; omega
         rw [e1, ← hx, ← hgn]
         exact ⟨h1, h2⟩
       · exact HJ.out j hj (by omega))
      have HBADF := zH (show ¬ (gn < 9223372036854775808 ∧ (x = y ∨ decide (y < x) = f)) → delB sg l = none from fun hno => by
       have hfalse : yyp (yym l) l = false := by
        cases hw : yyp (yym l) l with
        | false => rfl
        | true =>
          rw [HFB.out] at hw
          have h1 := (yyr f l).1 hw p (by omega)
          have hpq : p + 1 = i := by omega
          have e1 : l[p + 1]'(by omega) = y := by rw [hy]; simp only [hpq]
          rw [e1, ← hx, ← hgn] at h1
          exact absurd h1 hno
       exact if_pos (.inr hfalse))
      have hgz : gn = 0 ↔ x = y := by rw [hgn]; unfold gapN; omega
      have HGZ := zH hgz
      by_cases hok : gn < 9223372036854775808
      · have HGU := zH (show U64 gn by unfold U64; omega)
        obtain ⟨dn, hdn⟩ : ∃ dn, dn = decide (y < x) := ⟨_, rfl⟩
        have HD : Hid (∀ w, Calls Tryz.prog 262 #[.int .i64 x, .int .i64 y] w fun e w' => e = .returned (.tuple #[.int .u64 (gn : Int), .bool dn, .bool true]) ∧ w' = w) := zH (fun w => by
         refine (HDV w).mono fun e w' h => ⟨?_, h.2.symm⟩
         rw [h.1]
         unfold yyI
         rw [← hgn, if_pos hok, ← hdn])
        have HDN := zH hdn
        have HGG := zH (True.intro)
        clear HDV hcx hcy hgn hgpi hdn hx hy hp hgz
        by_cases hz : gn = 0
        · have HJ2 := zH (HNX.out hok (.inl (HGZ.out.1 hz)))
          have u0 : ¬ (gn : Int) > 0 := by omega
          have u0' : ¬ (0 : Int) < (gn : Int) := by omega
          have HZ := zH hz
          clear hz
          go_wp2_with fail
          go_quiet ((go_at_call 262; exact Calls.quiet_of_same (HD.out _)))
          go_upto_region 14 with (first
           | (at_builtin; refine apu1 _ w rfl (.tmp 78) (.tmp 80) rfl w.heap.size A2 (i - 1) c2 _ rfl (HO.out.drewN _) (zzA HB.out _) zN _ rfl gn HGU.out rfl (by omega) ?_; intro A3 c3 w3 h3 hb3)
           | fail)
          rw [show i - 1 + 1 = i by omega] at h3
          rw [← HT.out] at h3
          have H3 := zH h3; have HB3 := zH hb3
          have ht0 : 0 < ((zzk l).take i).length := by rw [← h3.len]; omega
          obtain ⟨bs, os, us, hAs, _, _, hrs, hcs⟩ := h3.sl.at1 (k := 0) ht0 rfl
          subst hAs
          rw [Nat.add_zero] at hcs
          have hrs : [us] = [Value.int .u64 ((((zzk l).take i)[0]'ht0 : Nat) : Int)] := hrs.1
          injection hrs with hrs
          rw [HG0.out i hi1 ht0] at hrs
          subst hrs
          clear h3 hb3
          have q5 : (0 : Int) < (i : Int) := by omega
          cases m with
          | false =>
            go_wp2_with fail
            go_roundw
            case rel => exact ⟨i + 1, _, c3, false, by omega, by omega, by go_num, by rw [show i + 1 - 1 = i by omega], rfl, by rw [show i + 1 - 1 = i by omega]; exact H3.out, HB3.out, by rw [show i + 1 - 1 = i by omega, HT.out, List.all_append, ← HMM.out]; rfl, HJ2⟩
            case measure => simp [intOf]; omega
          | true =>
            by_cases hgg : gn = g0
            · have hb1 : ((gn : Int) == (g0 : Int)) = true := xxQ (by omega)
              have hb2 : (gn : Int) = (g0 : Int) := by omega
              have hb3 := HGG.out
              go_wp2_with fail
              go_roundw
              case rel => exact ⟨i + 1, _, c3, true, by omega, by omega, by go_num, by rw [show i + 1 - 1 = i by omega], rfl, by rw [show i + 1 - 1 = i by omega]; exact H3.out, HB3.out, by rw [show i + 1 - 1 = i by omega, HT.out, List.all_append, ← HMM.out]; simp [hgg], HJ2⟩
              case measure => simp [intOf]; omega
            · have hb1 : ((gn : Int) == (g0 : Int)) = false := zzv (by omega)
              have hb2 : ¬ (gn : Int) = (g0 : Int) := by omega
              go_wp2_with fail
              go_roundw
              case rel => exact ⟨i + 1, _, c3, false, by omega, by omega, by go_num, by rw [show i + 1 - 1 = i by omega], rfl, by rw [show i + 1 - 1 = i by omega]; exact H3.out, HB3.out, by rw [show i + 1 - 1 = i by omega, HT.out, List.all_append, ← HMM.out]; simp [hgg], HJ2⟩
              case measure => simp [intOf]; omega
        · have u0 : (gn : Int) > 0 := by omega
          have u0' : (0 : Int) < (gn : Int) := by omega
          by_cases hdf : dn = f
          · have HJ2 := zH (HNX.out hok (.inr (by rw [← HDN.out]; exact hdf)))
            subst hdf
            go_wp2_with fail
            go_quiet ((go_at_call 262; exact Calls.quiet_of_same (HD.out _)))
            go_upto_region 14 with (first
             | (at_builtin; refine apu1 _ w rfl (.tmp 78) (.tmp 80) rfl w.heap.size A2 (i - 1) c2 _ rfl (HO.out.drewN _) (zzA HB.out _) zN _ rfl gn HGU.out rfl (by omega) ?_; intro A3 c3 w3 h3 hb3)
             | fail)
            rw [show i - 1 + 1 = i by omega] at h3
            rw [← HT.out] at h3
            have H3 := zH h3; have HB3 := zH hb3
            have ht0 : 0 < ((zzk l).take i).length := by rw [← h3.len]; omega
            obtain ⟨bs, os, us, hAs, _, _, hrs, hcs⟩ := h3.sl.at1 (k := 0) ht0 rfl
            subst hAs
            rw [Nat.add_zero] at hcs
            have hrs : [us] = [Value.int .u64 ((((zzk l).take i)[0]'ht0 : Nat) : Int)] := hrs.1
            injection hrs with hrs
            rw [HG0.out i hi1 ht0] at hrs
            subst hrs
            clear h3 hb3
            have q5 : (0 : Int) < (i : Int) := by omega
            cases m with
            | false =>
              go_wp2_with fail
              go_roundw
              case rel => exact ⟨i + 1, _, c3, false, by omega, by omega, by go_num, by rw [show i + 1 - 1 = i by omega], rfl, by rw [show i + 1 - 1 = i by omega]; exact H3.out, HB3.out, by rw [show i + 1 - 1 = i by omega, HT.out, List.all_append, ← HMM.out]; rfl, HJ2⟩
              case measure => simp [intOf]; omega
            | true =>
              by_cases hgg : gn = g0
              · have hb1 : ((gn : Int) == (g0 : Int)) = true := xxQ (by omega)
                have hb2 : (gn : Int) = (g0 : Int) := by omega
                have hb3 := HGG.out
                go_wp2_with fail
                go_roundw
                case rel => exact ⟨i + 1, _, c3, true, by omega, by omega, by go_num, by rw [show i + 1 - 1 = i by omega], rfl, by rw [show i + 1 - 1 = i by omega]; exact H3.out, HB3.out, by rw [show i + 1 - 1 = i by omega, HT.out, List.all_append, ← HMM.out]; simp [hgg], HJ2⟩
                case measure => simp [intOf]; omega
              · have hb1 : ((gn : Int) == (g0 : Int)) = false := zzv (by omega)
                have hb2 : ¬ (gn : Int) = (g0 : Int) := by omega
                go_wp2_with fail
                go_roundw
                case rel => exact ⟨i + 1, _, c3, false, by omega, by omega, by go_num, by rw [show i + 1 - 1 = i by omega], rfl, by rw [show i + 1 - 1 = i by omega]; exact H3.out, HB3.out, by rw [show i + 1 - 1 = i by omega, HT.out, List.all_append, ← HMM.out]; simp [hgg], HJ2⟩
                case measure => simp [intOf]; omega
          · have HBAD := zH (HBADF.out (fun h => h.2.elim (fun h => hz (HGZ.out.2 h)) (fun h => hdf (by rw [HDN.out]; exact h))))
            clear HNX HBADF HDN
            cases dn <;> cases f <;> first | (exact absurd rfl hdf) | skip
            all_goals
             go_wp2_with fail
             go_quiet ((go_at_call 262; exact Calls.quiet_of_same (HD.out _)))
             go_wp2_with fail
             go_ret2
             rw [HBAD.out]
             exact ⟨zzA HB.out _, rfl⟩
      · have HBAD := zH (HBADF.out (fun h => hok h.1))
        have HD : Hid (∀ w, Calls Tryz.prog 262 #[.int .i64 x, .int .i64 y] w fun e w' => e = .returned (.tuple #[.int .u64 0, .bool false, .bool false]) ∧ w' = w) := zH (fun w => by
         refine (HDV w).mono fun e w' h => ⟨?_, h.2.symm⟩
         rw [h.1]
         unfold yyI
         rw [← hgn, if_neg hok])
        clear HDV hcx hcy hgn hgpi hx hy hp hgz HNX HBADF
        go_wp2_with fail
        go_quiet ((go_at_call 262; exact Calls.quiet_of_same (HD.out _)))
        go_wp2_with fail
        go_ret2
        rw [HBAD.out]
        exact ⟨zzA HB.out _, rfl⟩
    · obtain rfl : i = n := by omega
      have hone : yyp (yym l) l = true := by
       rw [HFB.out]
       exact (yyr f l).2 fun j hj => HJ.out j hj (by have := HL.out; omega)
      obtain ⟨S, hS⟩ : ∃ S, S = zzk l := ⟨_, rfl⟩
      have hSl : S.length = i - 1 := by rw [hS, zzT, ← HL.out]
      obtain ⟨q, hq⟩ : ∃ q, q = i - 1 := ⟨_, rfl⟩
      have hall : (zzk l).take (i - 1) = S := by rw [hS]; exact zL (by rw [← hS, hSl]; exact Nat.le_refl _)
      have hmv := HMM.out
      have ho := HO.out
      rw [hall] at hmv ho
      rw [← hq] at ho hSl
      rw [← hq]
      have hgh := HGH.out
      rw [← hS] at hgh
      have hev : qzn S = m := by unfold qzn; rw [hgh, hmv]
      have hgl : g0 < 9223372036854775808 := by
       have h1 := vva hone g0 (by rw [← hS]; match S, hSl, hgh with | [], h0, _ => (simp at h0; omega) | a :: r, _, e => (rw [← e]; simp))
       exact h1
      obtain ⟨T, hT⟩ : ∃ T, T = S.tail := ⟨_, rfl⟩
      have hSU : ∀ x ∈ S, x < 9223372036854775808 := fun x hx => vva hone x (by rw [← hS]; exact hx)
      have HTU := zH (show ∀ x ∈ T, U64 x from fun x hx => Nat.lt_trans (hSU x (by rw [hT] at hx; exact List.mem_of_mem_tail hx)) (by decide))
      obtain ⟨st, hst⟩ : ∃ st, st = xqW l := ⟨_, rfl⟩
      have HST := zH (show (if f then -(g0 : Int) else (g0 : Int)) = st by rw [hst, xqW, ← hS, hgh, HFB.out])
      obtain ⟨k, hk⟩ : ∃ k, k = delW l := ⟨_, rfl⟩
      have HDEL : Hid (delB sg l = some (zz7 3 (if m then 0 else zz1 k) i ++ vput (uOf sg x0) ++ vput (zigN st) ++ (if m then [] else pack k T))) := zH (by
       unfold delB
       rw [if_neg (by rw [hone]; simp; omega), HXH.out, ← hst, ← hS, hev, ← hT, ← HL.out, ← hk])
      obtain ⟨mo, hmo⟩ : ∃ mo, mo = most T := ⟨_, rfl⟩
      have HMO := zH hmo
      have hmo64 : mo ≤ 64 := by rw [hmo]; exact yyR T HTU.out
      have hkc : k = zzz (max 2 mo) := by rw [hk, delW, ← hS, ← hT, ← hmo]
      have HKC := zH (show zzt ((max 2 mo : Nat) : Int) = (k : Int) by rw [hkc]; exact uuc)
      have hk64 : k ≤ 64 := by rw [hkc]; exact yyl _
      have hcc := xx4 (b := max 2 mo) (by omega)
      rw [← hkc] at hcc
      have HCC := zH hcc
      have HLT := zH (show ∀ x ∈ T, x < 2 ^ k from fun x hx => by
       have h1 := uuI (HTU.out x hx)
       have h2 := vvM hx
       have h3 := yyS (b := max 2 mo) (by omega)
       exact Nat.lt_of_lt_of_le h1 (Nat.pow_le_pow_right (by decide) (by omega)))
      have hq1 : 1 ≤ q := by omega
      have hq5 : q ≤ 512 := by omega
      have hS0 : 0 < S.length := by omega
      have HSL := zH ho.sl.any
      obtain ⟨bs, os, us, hAs, hF0, hb0, hrs0, hcs⟩ := ho.sl.at1 (k := 0) hS0 rfl
      clear hF0 hb0
      subst hAs
      rw [Nat.add_zero] at hcs
      have hrs : [us] = [Value.int .u64 ((S[0]'hS0 : Nat) : Int)] := hrs0.1
      clear hrs0
      injection hrs with hrs
      have hg00 : S[0]'hS0 = g0 := by rw [← hgh]; match S, hS0 with | _ :: _, _ => rfl
      rw [hg00] at hrs
      subst hrs
      have hcap := ho.sl.2.1
      have hcapm : c2 ≤ 9223372036854775807 := by have := ho.sl.2.2.1; unfold maxLen at this; omega
      have HM2 := zH (show m = false → 2 ≤ q from fun hm => by
       rcases Nat.lt_or_ge 1 q with h | h
       · exact h
       · exfalso
         rw [hm] at hmv
         match S, hSl, hgh, hmv with
         | [], h0, _, _ => simp at h0; omega
         | [a], _, e, h1 => (have e : a = g0 := e; rw [e] at h1; simp at h1)
         | a :: b :: r, h0, _, _ => simp at h0; omega)
      have HTL := zH (show T = S.drop 1 by rw [hT]; exact (List.drop_one).symm)
      have HSLN := zH hSl
      have HGL := zH hgl
      have c0 := zze HB.out HC0.out
      have hst0 : -9223372036854775808 ≤ st ∧ st ≤ 9223372036854775807 := by have := HST.out; cases f <;> simp at this <;> omega
      have HST0 := zH hst0
      have hgi : (g0 : Int) < 9223372036854775808 := by omega
      have hq0 : (0 : Int) < (q : Int) := by omega
      obtain ⟨w4, rfl⟩ : ∃ w4, w4 = wr := ⟨wr, rfl⟩
      have HHO := zH HB.out.size
      clear hone hS hall hmv ho hgh hev hgl hT hSU hst hk hmo hkc hcc hS0 hg00 hSl hst0 hq HJ HMM HO
      have hst1 := HST.out
      cases f
      all_goals
       have hst2 : _ = st := hst1
       simp only [if_true, if_false, Bool.false_eq_true] at hst2
       clear hst1
       go_upto_if 98 with fail
       try rw [hst2]
       clear hst2
       go_cut [16, 17] from 99 to 105 (fun cv wv wx => cv = .int .i64 ((if m then 0 else zz1 k : Nat) : Int) ∧ wv = .int .i64 ((if m then 0 else k : Nat) : Int) ∧ wx = w4)
       case first =>
        cases m with
        | true =>
          simp only [Bool.not_true]
          go_wp2_with fail
          go_meet
          exact ⟨rfl, rfl, rfl⟩
        | false =>
          simp only [Bool.not_false]
          have hq2 := HM2.out rfl
          have hct := HSL.out.cut (lo := 1) (hi := q) (by omega) zN
          rw [if_neg (by omega), zL (by rw [HSLN.out]; exact Nat.le_refl _), ← HTL.out] at hct
          have hct2 : Sl tU64 (fun _ => True) w4 (some ⟨bs, os + 1, none⟩) (q - 1) (c2 - 1) T := by
           have e1 : (⟨bs, os, none⟩ : Addr).add (1 * 1) = ⟨bs, os + 1, none⟩ := yy4 bs os 1
           rw [← e1]; exact hct
          have HCT := zH hct2
          have j0 : (1 : Int) ≤ (q : Int) := by omega
          have j1 : (q : Int) ≤ (c2 : Int) := by omega
          have j2 : ¬ c2 = 1 := by omega
          have j3 : ¬ 1 = c2 := by omega
          have j4 : (c2 : Int) ≤ 9223372036854775807 := by omega
          have j5 : (1 : Int) ≤ (c2 : Int) := by omega
          have HMX := zH (show max (2 : Int) (mo : Int) = ((max 2 mo : Nat) : Int) by omega)
          clear hct hct2
          go_wp2_with (first
           | (go_at_call 258; refine (jjE _ _ (q - 1) (c2 - 1) T _ HCT.out).mono ?_; rintro e w5 ⟨rfl, rfl⟩; rw [← HMO.out])
           | (go_at_call 257; rw [HMX.out]; refine (vvf _ (by omega) _).mono ?_; rintro e w5 ⟨rfl, rfl⟩; rw [HKC.out])
           | (go_at_call 261; refine (vv1 (k : Int) _).mono ?_; rintro e w5 ⟨rfl, rfl⟩; rw [HCC.out.1])
           | fail)
          go_meet
          exact ⟨rfl, rfl, rfl⟩
       case rest =>
        obtain ⟨rfl, rfl, hwc⟩ := hcut
        rw [hwc]
        clear hwc
        obtain ⟨d, hd1⟩ : ∃ d, d = if m then 0 else zz1 k := ⟨_, rfl⟩
        obtain ⟨kk, hd2⟩ : ∃ kk, kk = if m then 0 else k := ⟨_, rfl⟩
        have hdd : d ≤ 31 := by rw [hd1]; split; exact Nat.zero_le _; exact HCC.out.2
        rw [← hd1] at HDEL
        rw [← hd1, ← hd2]
        have HD2 := zH hd2
        clear hd1 hd2
        refine ‹∀ (a : Act) (w_1 : World), Code.wp _ _ _ a w_1 → _› _ _ ?_
        repeat (rename ∀ (_ : Act) (_ : World), _ => hX; clear hX)
        have hi0 : 0 < i := by omega
        go_upto_region 23 with fail
        go_cut [18] from 106 to 114 (fun v wx => ∃ A5 n5 c5, v = .slice A5 n5 c5 ∧ OwnB wx w.heap.size A5 n5 c5 (zz7 3 d i ++ vput (uOf sg x0)) ∧ Below w4.heap.size w4 wx)
        case first =>
         go_region_with (first
          | (go_at_call 260; refine (jjZ 3 d i (by omega) hdd (by omega) hn _).mono ?_; rintro e w5 ⟨A5, n5, c5, rfl, ho5, hb5⟩; have hz5 := zze hb5 c0; have HO5 := zH ho5; have HB5 := zH hb5; clear ho5 hb5)
          | (go_at_call 263; refine (rpi_any _ A5 n5 c5 (zz7 3 d i) x0 sg _ HO5.out.bs (by have := HO5.out.len; rw [xxV] at this; omega) HX0K.out.1 HX0K.out.2.1 HX0K.out.2.2).mono ?_; rintro e w6 ⟨A6, n6, c6, rfl, ho6, hb6⟩; have HO6 := zH ho6; have HB6 := zH hb6; clear ho6 hb6)
          | fail)
         all_goals
          go_wp2_with fail
          go_meet
          first
           | (have b5 : Below w4.heap.size w4 w5 := (Below.refl _ w4).drew.trans HB5.out
              have hz := HHO.out; have hz5 := b5.size
              exact ⟨A6, n6, c6, rfl, HO6.out.down (by omega), b5.trans (HB6.out.mono b5.size)⟩)
           | (have b5 : Below w4.heap.size w4 w5 := HB5.out
              have hz := HHO.out; have hz5 := b5.size
              exact ⟨A6, n6, c6, rfl, HO6.out.down (by omega), b5.trans (HB6.out.mono b5.size)⟩)
        case rest =>
         obtain ⟨A5, n5, c5, rfl, ho5, hb5⟩ := hcut
         have HO5 := zH ho5; have HB5 := zH hb5
         obtain ⟨R, hR⟩ : ∃ R, R = zz7 3 d i ++ vput (uOf sg x0) := ⟨_, rfl⟩
         have hRl : R.length ≤ 12 := by rw [hR, List.length_append, xxV]; have := yyF (uOf sg x0); omega
         rw [← hR] at HO5 HDEL
         have hn5 : n5 ≤ 12 := by rw [ho5.len, ← hR]; exact hRl
         clear ho5 hb5 hR
         have hzs : uOf true st = zigN st := rfl
         rw [← hzs] at HDEL
         have HRL := zH hRl
         clear hzs hRl
         refine ‹∀ (a : Act) (w_1 : World), Code.wp _ _ _ a w_1 → _› _ _ ?_
         go_upto_if 119 with (first
          | (go_at_call 263; refine (rpi_any _ A5 n5 c5 R st true _ HO5.out.bs (by omega) HST0.out.1 HST0.out.2 (.inl rfl)).mono ?_; rintro e w6 ⟨A6, n6, c6, rfl, ho6, hb6⟩; have HO6 := zH ho6; have HB6 := zH hb6; clear ho6 hb6)
          | fail)
         have HBW := zH ((HB.out.trans (HB5.out.mono HB.out.size)))
         have hn6 : n6 ≤ 22 := by have h1 := HO6.out.len; have h2 := yyF (uOf true st); have h3 := HRL.out; rw [List.length_append] at h1; omega
         cases m with
         | true =>
           simp only [Bool.not_true]
           have hd := HDEL.out
           rw [if_pos rfl, List.append_nil] at hd
           have HDL := zH hd
           clear hd
           go_wp2_with fail
           go_ret2
           rw [HDL.out]
           exact ⟨HBW.out.trans (HB6.out.mono HBW.out.size), A6, n6, c6, rfl, HO6.out.down HBW.out.size⟩
         | false =>
           simp only [Bool.not_false]
           have hd := HDEL.out
           rw [if_neg (by decide)] at hd
           have HDL := zH hd
           have hq2 := HM2.out rfl
           have hkk : kk = k := by have := HD2.out; rw [if_neg (by decide)] at this; exact this
           subst hkk
           have hct := HSL.out.cut (lo := 1) (hi := q) (by omega) zN
           rw [if_neg (by omega), zL (by rw [HSLN.out]; exact Nat.le_refl _), ← HTL.out] at hct
           have hct2 : Sl tU64 (fun _ => True) w4 (some ⟨bs, os + 1, none⟩) (q - 1) (c2 - 1) T := by
            have e1 : (⟨bs, os, none⟩ : Addr).add (1 * 1) = ⟨bs, os + 1, none⟩ := yy4 bs os 1
            rw [← e1]; exact hct
           have HCT := zH ((hct2.below HB5.out zN).below HB6.out zN)
           have j0 : (1 : Int) ≤ (q : Int) := by omega
           have j1 : (q : Int) ≤ (c2 : Int) := by omega
           have j2 : ¬ c2 = 1 := by omega
           have j3 : ¬ 1 = c2 := by omega
           have j4 : (c2 : Int) ≤ 9223372036854775807 := by omega
           have j5 : (1 : Int) ≤ (c2 : Int) := by omega
           have hqn : q - 1 ≤ 4096 := by omega
           have hTlen : T.length = q - 1 := by rw [HTL.out, List.length_drop, HSLN.out]
           have HTLN := zH hTlen
           clear hct hct2 hd hTlen
           go_wp2_with (first
            | (go_at_call 259; refine (uub _ _ (q - 1) (c2 - 1) T _ HCT.out hqn kk hk64 HLT.out).mono ?_; rintro e w7 ⟨A7, s7, c7, rfl, ho7, hb7⟩; have hs7 : s7 ≤ 40000 := (by rw [ho7.len, yyG, HTLN.out]; have := zzO (q - 1) kk hk64; omega); have HO7 := zH ho7; have HB7 := zH hb7; clear ho7 hb7)
            | (at_builtin; refine apb w7 wc rfl (.tmp 127) (.tmp 128) rfl wc.heap.size A6 n6 c6 _ rfl (HO6.out.keepB HB7.out) (HB6.out.trans (HB7.out.mono HB6.out.size)) zN _ A7 s7 c7 _ rfl HO7.out.bs (by omega) ?_; intro A8 c8 w8 h8 hb8 _)
            | fail)
           go_ret2
           rw [HDL.out]
           exact ⟨HBW.out.trans (hb8.mono HBW.out.size), A8, _, c8, rfl, h8.down HBW.out.size⟩
end
end Go.Proofs.YtpmglcachffojaaGreatDoor
