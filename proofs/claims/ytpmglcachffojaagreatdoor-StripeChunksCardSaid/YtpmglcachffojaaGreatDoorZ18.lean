/- A part of what Chunks leans on. -/
import Derived.Test.YtpmglcachffojaaGreatDoorZ17
import Derived.Laws.EntriesVeiled
import Derived.Lib.MakeNoZero
import Derived.Laws.IdiomCopy
set_option maxRecDepth 100000
set_option maxHeartbeats 16000000
namespace Go.Proofs.YtpmglcachffojaaGreatDoor
section
open Go Go.RowKit
def qzy (F : Nat → Prop) (w : World) (cs : List Value) : Nat → Prop
 | 0 => cs = [.func (.func 245) #[] #[]]
 | 1 => cs = [.func (.func 246) #[] #[]]
 | 2 => cs = [.func (.func 247) #[] #[]]
 | c + 3 => ∃ b, cs = [.func (.func 248) #[] #[.pointer (some ⟨b, 0, none⟩)]] ∧ F b ∧ b < w.heap.size ∧ w.cell? ⟨b, 0, none⟩ = some (.int .i64 (c : Int))
theorem uuH {F : Nat → Prop} {w : World} {cs : List Value} {j : Nat} (h : qzy F w cs j) : ∃ u : Value, cs = [u] ∧ u.oneCell' = true := by
 match j, h with
 | 0, h => exact ⟨_, h, rfl⟩
 | 1, h => exact ⟨_, h, rfl⟩
 | 2, h => exact ⟨_, h, rfl⟩
 | _ + 3, ⟨_, h, _⟩ => exact ⟨_, h, rfl⟩
def xqM : Ty Nat where
 size := 1
 rep F w cs j := qzy F w cs j
 len h := by obtain ⟨_, rfl, _⟩ := uuH h; rfl
 one h := by obtain ⟨_, rfl, h1⟩ := uuH h; intro u hu; simp at hu; subst hu; exact h1
 keep {F w w' cs x} h hs hk := by
  match x, h with
  | 0, h => exact h
  | 1, h => exact h
  | 2, h => exact h
  | _ + 3, ⟨b, h1, h2, h3, h4⟩ => exact ⟨b, h1, h2, by omega, (World.cell?_of_block (a := ⟨b, 0, none⟩) (hk b h2 h3)).trans h4⟩
 weaken {F F' w cs x} h hF := by
  match x, h with
  | 0, h => exact h
  | 1, h => exact h
  | 2, h => exact h
  | _ + 3, ⟨b, h1, h2, h3, h4⟩ => exact ⟨b, h1, hF b h2 h3, h3, h4⟩
theorem infoKind : (Tryz.prog.info? 260).map (fun i => (i.zero, i.size, i.bytes)) = some (some (.agg #[.nilFunc]), 1, 8) := by kernel_rfl
theorem elemKind : zzL Tryz.prog 257 260 1 := zzL.mk' (by kernel_rfl) infoKind rfl (by decide) (by decide)
theorem xqN (w : World) : Calls Tryz.prog 206 #[] w fun e w' => ∃ A c, e = .returned (.slice A 34 c) ∧ Sl xqM (fun _ => True) w' A 34 c (List.range 34) ∧ Below w.heap.size w w' := by
 obtain ⟨w1, hw1⟩ : ∃ w1, w1 = w.alloc (.cells #[.func (.func 245) #[] #[], .func (.func 246) #[] #[], .func (.func 247) #[] #[]] 260) := ⟨_, rfl⟩
 have ho : Own xqM 260 w1 w.heap.size (some ⟨w.heap.size, 0, none⟩) 3 3 (List.range 3) := by
  refine ⟨fun _ => False, ⟨[[.func (.func 245) #[] #[]], [.func (.func 246) #[] #[]], [.func (.func 247) #[] #[]]], ?_, ?_⟩, fun _ _ _ h => h, rfl⟩
  · rw [hw1]
    exact World.ownsRow_lit w #[.func (.func 245) #[] #[], .func (.func 246) #[] #[], .func (.func 247) #[] #[]] 3 zN (by simp [maxLen]) rfl
  · exact Reps.mk3 (T := xqM) (F := fun _ => False) (w := w1) (x1 := 0) (x2 := 1) (x3 := 2) rfl rfl rfl
 have HO := zH ho
 have HB := zH (show Below w.heap.size w w1 by rw [hw1]; exact (zR).alloc zN _)
 have HW1 := zH hw1
 clear ho hw1
 go_enter Tryz.func206, Tryz.ntmps206
 go_wp2_with fail
 rw [← HW1.out]
 go_loopw [1, 7] (fun lv iv wr => ∃ (i m : Nat) (A2 : Option Addr) (c2 : Nat), i ≤ 31 ∧ m = 3 + i ∧ iv = .int .i64 (i : Int) ∧ lv = .slice A2 m c2 ∧ Own xqM 260 wr w.heap.size A2 m c2 (List.range m) ∧ Below w.heap.size w wr)
  (fun _ iv _ => 31 - (intOf iv).toNat)
 case atStart => exact ⟨0, 3, _, 3, by omega, rfl, rfl, rfl, HO.out, HB.out⟩
 case round =>
  obtain ⟨i, m, A2, c2, hi, hm, rfl, rfl, ⟨F2, ho2⟩, hb2⟩ := hrel
  have HO2 := zH ho2; have HB2 := zH hb2; have HM := zH hm
  have hm34 : m ≤ 34 := by omega
  clear ho2 hb2 hm
  by_cases hlt : i < 31
  · have i1 : (i : Int) < 31 := by omega
    obtain ⟨p, hp⟩ : ∃ p, p = wr.heap.size := ⟨_, rfl⟩
    obtain ⟨w4, hw4⟩ : ∃ w4, w4 = wr.alloc (.cells #[.int .i64 (i : Int)] 3) := ⟨_, rfl⟩
    have hb4 : Below wr.heap.size wr w4 := by rw [hw4]; exact (zR).alloc zN _
    have HO4 := zH (HO2.out.keepB hb4)
    have HB4 := zH (HB2.out.trans (hb4.mono HB2.out.size))
    have HC4 := zH (show w4.cell? ⟨p, 0, none⟩ = some (.int .i64 (i : Int)) by rw [hw4, hp, zC (heap_alloc_new _ _)]; rfl)
    have HP4 := zH (show p < w4.heap.size by rw [hw4, hp, zS]; omega)
    have hG : ∀ b, A2 = some ⟨b, 0, none⟩ → w.heap.size ≤ b → b < w4.heap.size → ¬ b = p := fun b e _ _ h => by
     have := (zz7 HO2.out (b := b) (by rw [e]; rfl)).2.2
     omega
    have HGG := zH hG
    have HW4 := zH hw4; have HP := zH hp
    clear hw4 hb4 hG hp
    go_upto_region 5 with fail
    rw [← HW4.out, ← HP.out]
    go_wp2_with (first
     | (at_builtin; refine apl1 (T := xqM) elemKind w4 w rfl (.tmp 10) (.tmp 13) rfl w.heap.size A2 m c2 _ rfl F2 (fun b => b = p) HO4.out HB4.out zN _ rfl [.func (.func 248) #[] #[.pointer (some ⟨p, 0, none⟩)]] (i + 3) ⟨p, rfl, rfl, HP4.out, HC4.out⟩ 260 rfl HGG.out (by omega) ?_; intro A5 c5 w5 h5; have HA5 := zH h5.own; have HB5 := zH h5.below; clear h5)
     | fail)
    go_roundw
    case rel => exact ⟨i + 1, m + 1, A5, c5, by omega, by have := HM.out; omega, by go_num, rfl, ⟨_, by rw [List.range_succ, show List.range m ++ [m] = List.range m ++ [i + 3] by rw [HM.out, Nat.add_comm]]; exact HA5.out⟩, HB5.out⟩
    case measure => simp [intOf]; omega
  · obtain rfl : i = 31 := by omega
    have hm34 : m = 34 := by have := HM.out; omega
    subst hm34
    go_wp2_with fail
    go_ret
    exact ⟨A2, c2, rfl, HO2.out.sl.any, HB2.out⟩
theorem wN_ok (c : Nat) (h : c ≤ 30) : wOf (c : Int) = ((wN c : Nat) : Int) ∧ wN c ≤ 63 ∧ zzU ((wN c : Nat) : Int) = ((zz3 (wN c) : Nat) : Int) := by
 have h1 := kqg (c : Int)
 have e : wOf (c : Int) = ((wN c : Nat) : Int) := by unfold wN; omega
 have h2 := qz7 (c := (c : Int)) (by omega) (by omega)
 have h3 := wOf_mono (c := (c : Int)) (d := 31) (by omega) (by omega) (by omega)
 have h4 := kqg 31
 rw [e] at h2 h3
 refine ⟨e, by omega, ?_⟩
 unfold zz3
 rw [h2]; omega
theorem qxd (F : Nat → Prop) (A : Option Addr) (n c : Nat) (l : List Int) (w : World) (h : Sl tI64 F w A n c l) (hn1 : 1 ≤ n) (hn : n ≤ 512) (sg : Bool) (hl : yyb sg l) (d p : Nat) (hd : d ≤ 30) (hp : w.cell? ⟨p, 0, none⟩ = some (.int .i64 (d : Int))) :
 Calls Tryz.prog 248 #[.slice A n c, .bool sg, .pointer (some ⟨p, 0, none⟩)] w (zzF (patB (wN d) l) w) := by
 obtain ⟨e1, e2, e3⟩ := wN_ok d hd
 have HE1 := zH e1; have HE2 := zH e2; have HE3 := zH e3; have HH := zH h; have HK := zH hl
 obtain ⟨o, ho⟩ : ∃ o, o = patB (wN d) l := ⟨_, rfl⟩
 have HO := zH ho
 clear e1 e2 e3 h hl
 rw [← ho]
 clear ho
 go_enter Tryz.func248, Tryz.ntmps248
 cases o with
 | none =>
   go_wp2_with (first
    | (go_at_call 250; refine (xqd (d : Int) (by omega) (by omega) _).mono ?_; rintro e w1 ⟨rfl, hb1⟩; rw [HE1.out]; have HB1 := zH hb1; clear hb1)
    | (go_at_call 249; refine (zqp F A n c l _ (HH.out.below HB1.out zN) hn1 hn sg HK.out (wN d) HE2.out HE3.out).mono ?_; rw [← HO.out]; rintro e w2 ⟨hb2, rfl⟩; have HB2 := zH hb2; clear hb2)
    | fail)
   go_ret2
   exact ⟨HB1.out.trans (HB2.out.mono HB1.out.size), rfl⟩
 | some b =>
   go_wp2_with (first
    | (go_at_call 250; refine (xqd (d : Int) (by omega) (by omega) _).mono ?_; rintro e w1 ⟨rfl, hb1⟩; rw [HE1.out]; have HB1 := zH hb1; clear hb1)
    | (go_at_call 249; refine (zqp F A n c l _ (HH.out.below HB1.out zN) hn1 hn sg HK.out (wN d) HE2.out HE3.out).mono ?_; rw [← HO.out]; rintro e w2 ⟨hb2, A2, n2, c2, rfl, ho2⟩; have HB2 := zH hb2; have HO2 := zH ho2; clear hb2 ho2)
    | fail)
   go_ret2
   exact ⟨HB1.out.trans (HB2.out.mono HB1.out.size), A2, n2, c2, rfl, HO2.out.down HB1.out.size⟩
end
section
open Go Go.RowKit
def kindB (sg : Bool) (l : List Int) : Nat → Option (List UInt8)
 | 0 => yyK sg l
 | 1 => some (dirB sg l)
 | 2 => delB sg l
 | c + 3 => patB (wN c) l
def outK (sg : Bool) (l : List Int) (j : Nat) : List UInt8 := (List.range j).foldl (fun a j => zzv a (kindB sg l j)) []
theorem kqE (sg : Bool) (l : List Int) (j : Nat) : outK sg l (j + 1) = zzv (outK sg l j) (kindB sg l j) := by unfold outK; rw [List.range_succ, List.foldl_append]; rfl
theorem outK_run (sg : Bool) (l : List Int) (c : Nat) : outK sg l (c + 3) = qzn sg l c := by
 induction c with
 | zero => rfl
 | succ c ih => rw [show c + 1 + 3 = (c + 3) + 1 by omega, kqE, ih, jjg]; rfl
theorem jjW {F : Nat → Prop} {w : World} {u : Value} {j : Nat} (h : qzy F w [u] j) : ∃ f caps, u = .func f #[] caps ∧
 ((f = .func 245 ∧ caps = #[] ∧ j = 0) ∨ (f = .func 246 ∧ caps = #[] ∧ j = 1) ∨ (f = .func 247 ∧ caps = #[] ∧ j = 2) ∨
   ∃ d p, f = .func 248 ∧ caps = #[.pointer (some ⟨p, 0, none⟩)] ∧ j = d + 3 ∧ w.cell? ⟨p, 0, none⟩ = some (.int .i64 (d : Int))) := by
 match j, h with
 | 0, h => exact ⟨_, _, by injection h, .inl ⟨rfl, rfl, rfl⟩⟩
 | 1, h => exact ⟨_, _, by injection h, .inr (.inl ⟨rfl, rfl, rfl⟩)⟩
 | 2, h => exact ⟨_, _, by injection h, .inr (.inr (.inl ⟨rfl, rfl, rfl⟩))⟩
 | d + 3, ⟨p, h1, _, _, h4⟩ => exact ⟨_, _, by injection h1, .inr (.inr (.inr ⟨d, p, rfl, rfl, rfl, h4⟩))⟩
def KPost (o : Option (List UInt8)) (w0 : World) (bv ev : Value) (w : World) : Prop := Below w0.heap.size w0 w ∧ match o with
 | none => bv = .slice none 0 0 ∧ ev = .int .i64 1
 | some b => ∃ A n c, bv = .slice A n c ∧ ev = .int .i64 0 ∧ OwnB w w0.heap.size A n c b
def OutP (w0 : World) (ov : Value) (p : List UInt8) (w : World) : Prop := (p = [] ∧ ov = .slice none 0 0) ∨ (∃ g m c, p ≠ [] ∧ ov = .slice (some ⟨g, 0, none⟩) m c ∧ OwnB w w0.heap.size (some ⟨g, 0, none⟩) m c p)
theorem OutP.keep {w0 w w' : World} {ov : Value} {p : List UInt8} (h : OutP w0 ov p w) (hb : Below w.heap.size w w') : OutP w0 ov p w' := by
 rcases h with h | ⟨g, m, c, h1, h2, h3⟩
 · exact .inl h
 · exact .inr ⟨g, m, c, h1, h2, h3.keepB hb⟩
theorem kindB_ne (sg : Bool) (l : List Int) : ∀ j x, kindB sg l j = some x → x ≠ []
 | 0, x, h => kqk sg l x h
 | 1, x, h => by cases h; exact qzo sg l
 | 2, x, h => qx9 sg l x h
 | _ + 3, x, h => xqa _ l x h
theorem run_any (F : Nat → Prop) (A : Option Addr) (n c : Nat) (l : List Int) (w : World) (h : Sl tI64 F w A n c l) (hn1 : 1 ≤ n) (hn : n ≤ 512) (sg : Bool) (hl : yyb sg l) :
 Calls Tryz.prog 162 #[.slice A n c, .bool sg] w (zzF (some (runB sg l)) w) := by
 have hlen := h.len
 have hne : l ≠ [] := by intro e; rw [e] at hlen; simp at hlen; omega
 have hml := hl.least hne
 have HMIN := zH (vvD F A n c l w h hne)
 have HH := zH h; have HNE := zH hne; have HK := zH hl
 obtain ⟨mn, hmn⟩ : ∃ mn, mn = zzA l := ⟨_, rfl⟩
 rw [← hmn] at hml HMIN
 obtain ⟨m0, m1, m2⟩ := hml
 have m3 : sg = false → ¬ mn < 0 := fun e => by rcases m2 with h | h; rw [e] at h; cases h; exact Int.not_lt.2 h
 have HM3 := zH m3
 have qT := xqJ
 have hn5 : ¬ (n : Int) > 512 := by omega
 have hn6 : ¬ (n : Int) < 1 := by omega
 clear h hl hlen hne hmn m2 m3
 go_enter Tryz.func162, Tryz.ntmps162
 go_upto_region 1 with fail
 go_cut [27] from 11 to 27 (fun v wx => v = .bool false ∧ wx = w)
 case first =>
  cases sg with
  | true =>
    go_wp2_with fail
    go_meet
    exact ⟨rfl, rfl⟩
  | false =>
    have m3 := HM3.out rfl
    go_wp2_with (first
     | (go_at_call 205; refine HMIN.out.mono ?_; rintro e w1 ⟨rfl, rfl⟩)
     | fail)
    go_meet
    exact ⟨by congr 1; simp; omega, rfl⟩
 case rest =>
  obtain ⟨rfl, hwc⟩ := hcut
  rw [hwc]
  clear hwc HMIN HM3 m0 m1
  refine ‹∀ (a : Act) (w_1 : World), Code.wp _ _ _ a w_1 → _› _ _ ?_
  go_wp2_with (first
   | (go_at_call 206; refine (xqN _).mono ?_; rintro e w1 ⟨A1, c1, rfl, hs1, hb1⟩; have HS1 := zH hs1; have HB1 := zH hb1; clear hs1 hb1)
   | fail)
  go_loopw [6, 30] (fun ov iv wr => ∃ (j : Nat), j ≤ 34 ∧ iv = .int .i64 (j : Int) ∧ OutP w ov (outK sg l j) wr ∧ Below w1.heap.size w1 wr)
   (fun _ iv _ => 34 - (intOf iv).toNat)
  case atStart => exact ⟨0, by omega, rfl, .inl ⟨rfl, rfl⟩, zR⟩
  case round =>
   rename_i ov _ _
   obtain ⟨j, hj, rfl, ho, hb⟩ := hrel
   have HO := zH ho; have HB := zH hb
   have HBW := zH (HB1.out.trans (hb.mono HB1.out.size))
   clear ho hb
   by_cases hlt : j < 34
   · have hj1 : (j : Int) < 34 := by omega
     have hj0 : (0 : Int) ≤ (j : Int) := by omega
     have hsl := HS1.out.below HB.out zN
     obtain ⟨b, o, u, hA, _, hbl, hr, hc⟩ := hsl.at1 (by rw [List.length_range]; exact hlt) rfl
     rw [List.getElem_range] at hr
     obtain ⟨f, caps, rfl, hu⟩ := jjW hr
     have HU := zH hu
     clear hr hsl hu
     subst hA
     obtain ⟨w5, hw5⟩ : ∃ w5, w5 = wr.alloc (.cells #[.func f #[] caps] 260) := ⟨_, rfl⟩
     obtain ⟨k8, hk8⟩ : ∃ k8, k8 = wr.heap.size := ⟨_, rfl⟩
     have hb5 : Below wr.heap.size wr w5 := by rw [hw5]; exact (zR).alloc zN _
     have hd0 : w5.cell? ⟨k8, 0, none⟩ = some (.func f #[] caps) := by rw [hw5, hk8, zC (heap_alloc_new _ _)]; rfl
     have HB5 := zH hb5; have HW5 := zH hw5; have HK8 := zH hk8
     have HSL5 := zH (HH.out.below (HBW.out.trans (hb5.mono HBW.out.size)) zN)
     clear hw5 hk8 hb5
     go_upto_region 7 with fail
     rw [← HW5.out, ← HK8.out]
     obtain ⟨kb, hkb⟩ : ∃ kb, kb = kindB sg l j := ⟨_, rfl⟩
     have HKB := zH hkb
     clear hkb
     go_cut [9, 10] from 34 to 41 (fun bv ev wx => ∃ wd, wd = wx ∧ KPost kb w5 bv ev wd)
     case first =>
      have HHK := HKB.out
      rcases HU.out with ⟨rfl, rfl, hj⟩ | ⟨rfl, rfl, hj⟩ | ⟨rfl, rfl, hj⟩ | ⟨d, p, rfl, rfl, hj, hp⟩
      · have HC := zH (xqC F A n c l w5 HSL5.out HNE.out hn sg HK.out)
        rw [show yyK sg l = kb by rw [HHK, hj]; rfl] at HC
        clear hj HHK
        cases kb with
        | none =>
          go_wp2_with (first | (go_at_call 245; refine HC.out.mono ?_; rintro e w6 ⟨hb6, rfl⟩; have HB6 := zH hb6; clear hb6) | fail)
          go_meet
          exact ⟨_, rfl, HB6.out, rfl, rfl⟩
        | some kb =>
          go_wp2_with (first | (go_at_call 245; refine HC.out.mono ?_; rintro e w6 ⟨hb6, A6, n6, c6, rfl, ho6⟩; have HB6 := zH hb6; have HO6 := zH ho6; clear hb6 ho6) | fail)
          go_meet
          exact ⟨_, rfl, HB6.out, A6, n6, c6, rfl, rfl, HO6.out⟩
      · have HC := zH (dput_any F A n c l w5 HSL5.out hn1 hn sg HK.out)
        rw [show some (dirB sg l) = kb by rw [HHK, hj]; rfl] at HC
        clear hj HHK
        cases kb with
        | none =>
          go_wp2_with (first | (go_at_call 246; refine HC.out.mono ?_; rintro e w6 ⟨hb6, rfl⟩; have HB6 := zH hb6; clear hb6) | fail)
          go_meet
          exact ⟨_, rfl, HB6.out, rfl, rfl⟩
        | some kb =>
          go_wp2_with (first | (go_at_call 246; refine HC.out.mono ?_; rintro e w6 ⟨hb6, A6, n6, c6, rfl, ho6⟩; have HB6 := zH hb6; have HO6 := zH ho6; clear hb6 ho6) | fail)
          go_meet
          exact ⟨_, rfl, HB6.out, A6, n6, c6, rfl, rfl, HO6.out⟩
      · have HC := zH (zq9 F A n c l w5 HSL5.out hn1 hn sg HK.out)
        rw [show delB sg l = kb by rw [HHK, hj]; rfl] at HC
        clear hj HHK
        cases kb with
        | none =>
          go_wp2_with (first | (go_at_call 247; refine HC.out.mono ?_; rintro e w6 ⟨hb6, rfl⟩; have HB6 := zH hb6; clear hb6) | fail)
          go_meet
          exact ⟨_, rfl, HB6.out, rfl, rfl⟩
        | some kb =>
          go_wp2_with (first | (go_at_call 247; refine HC.out.mono ?_; rintro e w6 ⟨hb6, A6, n6, c6, rfl, ho6⟩; have HB6 := zH hb6; have HO6 := zH ho6; clear hb6 ho6) | fail)
          go_meet
          exact ⟨_, rfl, HB6.out, A6, n6, c6, rfl, rfl, HO6.out⟩
      · have HC := zH (qxd F A n c l w5 HSL5.out hn1 hn sg HK.out d p (by omega) (zzh HB5.out hp))
        rw [show patB (wN d) l = kb by rw [HHK, hj]; rfl] at HC
        clear hj HHK
        cases kb with
        | none =>
          go_wp2_with (first | (go_at_call 248; refine HC.out.mono ?_; rintro e w6 ⟨hb6, rfl⟩; have HB6 := zH hb6; clear hb6) | fail)
          go_meet
          exact ⟨_, rfl, HB6.out, rfl, rfl⟩
        | some kb =>
          go_wp2_with (first | (go_at_call 248; refine HC.out.mono ?_; rintro e w6 ⟨hb6, A6, n6, c6, rfl, ho6⟩; have HB6 := zH hb6; have HO6 := zH ho6; clear hb6 ho6) | fail)
          go_meet
          exact ⟨_, rfl, HB6.out, A6, n6, c6, rfl, rfl, HO6.out⟩
     case rest =>
      rename_i bv ev _ _
      obtain ⟨wx, rfl, hb6, hkp⟩ := hcut
      refine ‹∀ (a : Act) (w_1 : World), Code.wp _ _ _ a w_1 → _› _ _ ?_
      have hbw : Below wr.heap.size wr wx := HB5.out.trans (hb6.mono HB5.out.size)
      have HO6 := zH (HO.out.keep hbw)
      have HB6 := zH (HB.out.trans (hbw.mono HB.out.size))
      have HS6 := zH (HBW.out.size)
      have hs5 : w.heap.size ≤ w5.heap.size := Nat.le_trans HBW.out.size HB5.out.size
      have HS5 := zH hs5
      have HST := zH (kqE sg l j)
      rw [← HKB.out] at HST
      clear hb6 hbw hd0 HU hs5 HSL5 HB5 HW5 HK8 HO HB HBW HS6
      cases kb with
      | none =>
        obtain ⟨rfl, rfl⟩ := hkp
        go_wp2_with fail
        go_roundw
        case rel => exact ⟨j + 1, by omega, by go_num, by rw [HST.out]; exact HO6.out, HB6.out⟩
        case measure => simp [intOf]; omega
      | some kb =>
        obtain ⟨A6, n6, c6, rfl, rfl, hk6⟩ := hkp
        have hkne := kindB_ne sg l j kb HKB.out.symm
        obtain ⟨g6, rfl⟩ := hk6.own.some1 yyn hkne
        have HK6 := zH (hk6.down HS5.out)
        have HKNE := zH hkne
        have hl6 := hk6.len
        have HL6 := zH hl6
        clear hk6 hkne hl6
        rcases HO6.out with ⟨hp0, rfl⟩ | ⟨g7, m7, c7, hp0, rfl, ho7⟩
        · have HFIN := zH (show outK sg l (j + 1) = kb by rw [HST.out, hp0]; unfold zzv; simp)
          clear hp0
          go_wp2_with fail
          go_roundw
          case rel => exact ⟨j + 1, by omega, by go_num, .inr ⟨g6, n6, c6, by rw [HFIN.out]; exact HKNE.out, rfl, by rw [HFIN.out]; exact HK6.out⟩, HB6.out⟩
          case measure => simp [intOf]; omega
        · have hl7 := ho7.len
          by_cases hsh : n6 < m7
          · have HFIN := zH (show outK sg l (j + 1) = kb by rw [HST.out]; unfold zzv; simp only; rw [if_pos (.inr (by have := HL6.out; omega))])
            have hsI : (n6 : Int) < (m7 : Int) := by omega
            clear hp0 hl7 ho7 hsh
            go_wp2_with fail
            go_roundw
            case rel => exact ⟨j + 1, by omega, by go_num, .inr ⟨g6, n6, c6, by rw [HFIN.out]; exact HKNE.out, rfl, by rw [HFIN.out]; exact HK6.out⟩, HB6.out⟩
            case measure => simp [intOf]; omega
          · have HFIN := zH (show outK sg l (j + 1) = outK sg l j by rw [HST.out]; unfold zzv; simp only; rw [if_neg (by rintro (h | h); exact hp0 h; have := HL6.out; omega)])
            have hsI : ¬ (n6 : Int) < (m7 : Int) := by omega
            clear hp0 hl7 ho7 hsh
            go_wp2_with fail
            go_roundw
            case rel => exact ⟨j + 1, by omega, by go_num, by rw [HFIN.out]; exact HO6.out, HB6.out⟩
            case measure => simp [intOf]; omega
   · obtain rfl : j = 34 := by omega
     have hrun : outK sg l 34 = runB sg l := outK_run sg l 31
     rcases HO.out with ⟨hp0, rfl⟩ | ⟨g7, m7, c7, hp0, rfl, ho7⟩
     · exact absurd hp0 (by rw [hrun]; exact (qz8 sg l 31).1)
     · have HO7 := zH ho7
       rw [hrun] at HO7
       clear hp0 ho7 hrun
       go_wp2_with fail
       go_ret2
       exact ⟨HBW.out, _, m7, c7, rfl, HO7.out⟩
end
section
open Go Go.RowKit
section
variable {P : Program} (w : World) {ops : Array Oper} {rest : List Oper} {o : Oper} {a : Act} {Q : Exit → Act → World → Prop}
theorem wp_cp {K : Act → World → Prop} {t1 t2 e : TypeId} (d s : Operand) (ho : o.op = .call { callee := .builtin .copy, args := #[d, s], argTypes := #[t1, t2] }) (hu : P.underlying t1 = some (.slice e)) (he : (P.info? e).map (·.size) = some 1)
 (g q dl dc : Nat) (ad : Addr) (sl sc : Nat) (cs : List Value) (hd : a.eval d = .slice (some ⟨g, q, none⟩) dl dc) (hs : a.eval s = .slice (some ad) sl sc) (hn : cs.length = Nat.min sl dl)
 (hsrc : ∀ j v, cs[j]? = some v → w.cell? (ad.add j) = some v) (hc : ∀ j, j < cs.length → (w.cell? ⟨g, q + j, none⟩).isSome = true) (hf : ∀ j, j < cs.length → w.frozen? ⟨g, q + j, none⟩ = false) (h1 : ∀ v ∈ cs, v.oneCell' = true)
 (h : K (a.put o.dst (.int .i64 (cs.length : Int))) (w.setCells g q cs)) : o.wp P a w K Q := by
 have hrun := run_copy_cells (P := P) w t1 t2 o.type e g q dl dc ad sl sc cs hu he hn hsrc hc hf h1
 unfold Oper.wp execOp
 simp only [ho, resolve, invoke, builtin, Sem.run_bind, Sem.run_pure, Result.andThen_ok, List.map_toArray, List.map_cons, List.map_nil, hd, hs, hrun]
 exact h
theorem step_cp {K : Act → World → Prop} {E' : Prop} {t1 t2 e : TypeId} (hgd : o.guard = none) (d s : Operand) (ho : o.op = .call { callee := .builtin .copy, args := #[d, s], argTypes := #[t1, t2] }) (hu : P.underlying t1 = some (.slice e)) (he : (P.info? e).map (·.size) = some 1)
 (g q dl dc : Nat) (ad : Addr) (sl sc : Nat) (cs : List Value) (hd : a.eval d = .slice (some ⟨g, q, none⟩) dl dc) (hs : a.eval s = .slice (some ad) sl sc) (hn : cs.length = Nat.min sl dl)
 (hsrc : ∀ j v, cs[j]? = some v → w.cell? (ad.add j) = some v) (hc : ∀ j, j < cs.length → (w.cell? ⟨g, q + j, none⟩).isSome = true) (hf : ∀ j, j < cs.length → w.frozen? ⟨g, q + j, none⟩ = false) (h1 : ∀ v ∈ cs, v.oneCell' = true)
 (h : K (a.put o.dst (.int .i64 (cs.length : Int))) (w.setCells g q cs)) : if Region.wanted o (yielded ops a.tmps) = true then Oper.wp P o a w K Q else E' := by
 have hw : Region.wanted o (yielded ops a.tmps) = true := by simp [Region.wanted, hgd]
 rw [if_pos hw]
 exact wp_cp w d s ho hu he g q dl dc ad sl sc cs hd hs hn hsrc hc hf h1 h
end
structure RpR (w0 : World) (g n p : Nat) (x : UInt8) (w : World) : Prop where
 below : Below w0.heap.size w0 w
 base : w0.heap.size ≤ g
 lt : g < w.heap.size
 there : ∀ j, j < n → (w.cell? ⟨g, j, none⟩).isSome = true
 free : ∀ j, w.frozen? ⟨g, j, none⟩ = false
 have_ : ∀ j, j < p → w.cell? ⟨g, j, none⟩ = some (.int .u8 (x.toNat : Int))
theorem vvo {B g : Nat} {a : World} (hb : B ≤ g) : ∀ (vs : List Value) (o : Nat) {w : World}, Below B a w → Below B a (w.setCells g o vs)
 | [], _, _, h => h
 | v :: r, o, _, h => vvo hb r (o + 1) (h.setCell (p := ⟨g, o, none⟩) hb v)
theorem RpR.fill {w0 w : World} {g n p k : Nat} {x : UInt8} (h : RpR w0 g n p x w) (hk : p + k ≤ n) : RpR w0 g n (p + k) x (w.setCells g p (List.replicate k (.int .u8 (x.toNat : Int)))) := by
 have hin : ∀ j, j < (List.replicate k (Value.int .u8 (x.toNat : Int))).length → (w.cell? ⟨g, p + j, none⟩).isSome = true := fun j hj => h.there _ (by rw [List.length_replicate] at hj; omega)
 have hs : w.heap.size ≤ (w.setCells g p (List.replicate k (.int .u8 (x.toNat : Int)))).heap.size := (vvo (B := 0) (a := w) (g := g) (Nat.zero_le _) _ p (Below.refl 0 w)).size
 refine ⟨vvo h.base _ _ h.below, h.base, Nat.lt_of_lt_of_le h.lt hs, fun j hj => ?_, fun j => by rw [World.frozen?_setCells]; exact h.free j, fun j hj => ?_⟩
 · by_cases hjp : p ≤ j ∧ j < p + k
   · obtain ⟨i, rfl⟩ : ∃ i, j = p + i := ⟨j - p, by omega⟩
     rw [World.cell?_setCells_in g _ p w hin i (by rw [List.length_replicate]; omega)]
     simp
   · rw [World.cell?_setCells_out g _ p w ⟨g, j, none⟩ (fun _ _ => by rw [List.length_replicate]; simp only; omega)]
     exact h.there j hj
 · by_cases hjp : j < p
   · rw [World.cell?_setCells_out g _ p w ⟨g, j, none⟩ (fun _ _ => .inl hjp)]
     exact h.have_ j hjp
   · obtain ⟨i, rfl⟩ : ∃ i, j = p + i := ⟨j - p, by omega⟩
     rw [World.cell?_setCells_in g _ p w hin i (by rw [List.length_replicate]; omega)]
     simp
theorem xqO : (Tryz.prog.info? 5).map (·.size) = some 1 := by kernel_rfl
theorem qxe (F : Nat → Prop) (A : Option Addr) (c : Nat) (x : UInt8) (n : Nat) (hn1 : 1 ≤ n) (hn : n ≤ 8192) (w : World) (h : Bs F w A 1 c [x]) :
 Calls Tryz.prog 203 #[.slice A 1 c, .int .i64 (n : Int)] w fun e w' => ∃ g, e = .returned (.slice (some ⟨g, 0, none⟩) n n) ∧ Bs (fun _ => True) w' (some ⟨g, 0, none⟩) n n (List.replicate n x) ∧ Below w.heap.size w w' := by
 obtain ⟨b, o, rfl, _, hbl, hx0⟩ := kqb h (k := 0) (by simp)
 rw [Nat.add_zero] at hx0
 have hx0' : w.cell? ⟨b, o, none⟩ = some (.int .u8 (x.toNat : Int)) := hx0
 have hcap := h.2.1
 obtain ⟨cs, hrun, hle, hmax⟩ := Lib.run_makeNoZero (P := Tryz.prog) w #[3] 41 5 zz6 n (by omega)
 have hcall : (callFunc 242 #[.int .i64 (n : Int)]).run Tryz.prog w = .ok (.value (.slice (some ⟨w.heap.size, 0, none⟩) n cs.size)) (w.drew.drew.alloc (.cells cs 5)) := by
  rw [run_callFunc_extern Tryz.func242 (by kernel_rfl) (by kernel_rfl) (by kernel_rfl) (e := Extern.BytealgMakeNoZero.makeNoZero #[3] #[41]) (by kernel_rfl), hrun]
  rfl
 obtain ⟨g, hg⟩ : ∃ g, g = w.heap.size := ⟨_, rfl⟩
 obtain ⟨w1, hw1⟩ : ∃ w1, w1 = w.drew.drew.alloc (.cells cs 5) := ⟨_, rfl⟩
 have hb1 : Below w.heap.size w w1 := by rw [hw1]; exact ((Below.refl w.heap.size w).drew.drew).alloc zN _
 have hgc : w1.heap[g]? = some (.cells cs 5 (0, 0)) := by rw [hw1, hg]; exact heap_alloc_new w.drew.drew _
 have HR0 := zH (show RpR w g n 0 x w1 from ⟨hb1, by omega, zzb hgc, fun j hj => by rw [zC hgc]; simp; omega, fun j => zF hgc j, fun j hj => absurd hj (Nat.not_lt_zero j)⟩)
 rw [← hg, ← hw1] at hcall
 have HX := zH (zzh hb1 hx0')
 have i0 : (0 : Int) < (n : Int) := by omega
 have i1 : (n : Int) ≤ (cs.size : Int) := by omega
 have q0 : ((n : Int) == 0) = false := zzH (by omega)
 have i2 : n < 18446744073709551616 := by omega
 have i3 : ¬ (8192 : Int) < (n : Int) := by omega
 have e1 : 1 * n / 18446744073709551616 = 0 := by omega
 have e2 : 1 * n % 18446744073709551616 = n := by omega
 have HG := zH hg; have HBL := zH hbl
 have HE1 := zH e1; have HE2 := zH e2
 have i4 : (0 : Int) ≤ (n : Int) := by omega
 clear h hx0 hx0' hw1 hb1 hgc hrun hmax e1 e2 hg hbl
 go_enter Tryz.func203, Tryz.ntmps203
 go_upto_region 17 with (first
  | (go_at_call 190; refine ((Tryz.bits_Mul 1 n (by decide) i2 _).mono (R' := fun e w' => e = _ ∧ w = w') fun e w' h => ⟨h.1, h.2.symm⟩).mono ?_; rintro e w2 ⟨rfl, rfl⟩; rw [HE1.out, HE2.out])
  | fail)
 have HR1 := zH (HR0.out.fill (k := 1) (by omega))
 have hmin : ([Value.int .u8 (x.toNat : Int)]).length = Nat.min 1 n := (Nat.min_eq_left hn1).symm
 have hsrc : ∀ j v, ([Value.int .u8 (x.toNat : Int)])[j]? = some v → w1.cell? ((⟨b, o, none⟩ : Addr).add j) = some v := fun j v hj => by
  match j, hj with
  | 0, hj => rw [zz4]; simp at hj; rw [← hj]; exact HX.out
 have hthere : ∀ j, j < ([Value.int .u8 (x.toNat : Int)]).length → (w1.cell? ⟨g, 0 + j, none⟩).isSome = true := fun j hj => HR0.out.there _ (by simp at hj; omega)
 have hfree : ∀ j, j < ([Value.int .u8 (x.toNat : Int)]).length → w1.frozen? ⟨g, 0 + j, none⟩ = false := fun j _ => HR0.out.free _
 have hcp : (Builtin.copy_ #[41, 41] 3 #[.slice (some ⟨g, 0, none⟩) n n, .slice (some ⟨b, o, none⟩) 1 c]).run Tryz.prog w1 = .ok (.int .i64 1) (w1.setCells g 0 [.int .u8 (x.toNat : Int)]) :=
  run_copy_cells (P := Tryz.prog) w1 41 41 3 5 g 0 n n ⟨b, o, none⟩ 1 c [.int .u8 (x.toNat : Int)] zz6 xqO hmin hsrc hthere hfree (by simp [Value.oneCell'])
 go_wp2_with fail
 obtain ⟨w3, hw3⟩ : ∃ w3, w3 = w1.setCells g 0 [.int .u8 (x.toNat : Int)] := ⟨_, rfl⟩
 have hr3 : RpR w g n 1 x w3 := by rw [hw3]; have := HR1.out; simpa using this
 have HR3 := zH hr3
 try rw [← hw3]
 clear hw3 hr3 HR0 HR1 hmin hsrc hthere hfree hcall hle hcap hcp
 go_loopw [10] (fun pv wr => ∃ p : Nat, 1 ≤ p ∧ p ≤ n ∧ pv = .int .i64 (p : Int) ∧ RpR w g n p x wr) (fun pv _ => n - (intOf pv).toNat)
 case atStart => exact ⟨1, Nat.le_refl _, hn1, rfl, HR3.out⟩
 case round =>
  obtain ⟨p, hp1, hpn, rfl, hr⟩ := hrel
  have HR := zH hr
  clear hr
  by_cases hlt : p < n
  · obtain ⟨k, hk⟩ : ∃ k, k = min p (n - p) := ⟨_, rfl⟩
    have hk1 : 1 ≤ k ∧ k ≤ p ∧ p + k ≤ n := by omega
    have z0 : (0 : Int) ≤ (p : Int) := by omega
    have z1 : (p : Int) < (n : Int) := by omega
    have z2 : (p : Int) ≤ (n : Int) := by omega
    have zne : ¬ n = p := by omega
    have zm : min (p : Int) (n : Int) = (p : Int) := by omega
    have hlen : (List.replicate k (Value.int .u8 (x.toNat : Int))).length = Nat.min p (n - p) := by rw [List.length_replicate, hk]
    have hsrc : ∀ j v, (List.replicate k (Value.int .u8 (x.toNat : Int)))[j]? = some v → wr.drew.cell? ((⟨g, 0, none⟩ : Addr).add j) = some v := fun j v hj => by
     rw [zz4, Nat.zero_add]
     have hjk : j < k := by
      rcases Nat.lt_or_ge j k with h | h
      · exact h
      · rw [List.getElem?_eq_none (by rw [List.length_replicate]; exact h)] at hj; cases hj
     rw [List.getElem?_replicate, if_pos hjk] at hj
     rw [← Option.some.inj hj]
     exact HR.out.have_ j (by omega)
    have hthere : ∀ j, j < (List.replicate k (Value.int .u8 (x.toNat : Int))).length → (wr.drew.cell? ⟨g, p + j, none⟩).isSome = true := fun j hj => HR.out.there _ (by rw [List.length_replicate] at hj; omega)
    have hfree : ∀ j, j < (List.replicate k (Value.int .u8 (x.toNat : Int))).length → wr.drew.frozen? ⟨g, p + j, none⟩ = false := fun j _ => HR.out.free _
    have hone : ∀ v ∈ List.replicate k (Value.int .u8 (x.toNat : Int)), v.oneCell' = true := fun v hv => by rw [(List.mem_replicate.1 hv).2]; rfl
    have HF := zH ((show RpR w g n p x wr.drew from ⟨HR.out.below.drew, HR.out.base, HR.out.lt, HR.out.there, HR.out.free, HR.out.have_⟩).fill (k := k) hk1.2.2)
    have HK1 := zH hk1
    have HLR := zH (show ((List.replicate k (Value.int .u8 (x.toNat : Int))).length : Int) = (k : Int) by rw [List.length_replicate])
    have HWR := zH (show IntKind.i64.wrap ((p : Int) + (k : Int)) = (p : Int) + (k : Int) by rw [IntKind.wrap_i64]; omega)
    clear hk hk1
    go_upto_region 20 with fail
    go_region_law (first
     | (refine step_cp wr.drew rfl (.tmp 70) (.tmp 73) rfl zz6 xqO g p (n - p) (n - p) ⟨g, 0, none⟩ p n (List.replicate k (.int .u8 (x.toNat : Int))) (by simp only [Act.put, List.getElem_toArray, List.getElem_cons_succ, List.getElem_cons_zero, List.setIfInBounds_toArray, List.set_cons_succ, List.set_cons_zero]; rfl) (by simp only [Act.put, List.getElem_toArray, List.getElem_cons_succ, List.getElem_cons_zero, List.setIfInBounds_toArray, List.set_cons_succ, List.set_cons_zero]; rfl) hlen hsrc hthere hfree hone ?_; rw [HLR.out])
     | fail)
    (try simp only [Act.put, List.getElem_toArray, List.getElem_cons_succ, List.getElem_cons_zero, List.setIfInBounds_toArray, List.set_cons_succ, List.set_cons_zero])
    rw [HWR.out]
    go_wp2_with fail
    go_roundw
    case rel => exact ⟨p + k, by omega, by have := HK1.out; omega, by go_num, HF.out⟩
    case measure => have := HK1.out; simp [intOf]; omega
  · obtain rfl : p = n := by omega
    go_wp2_with fail
    go_ret
    refine ⟨g, rfl, bs_mk (fun _ => ⟨g, 0, rfl, trivial, HR.out.lt, fun j u hu => ?_⟩) (by rw [List.length_replicate]) zN (by unfold maxLen; omega), HR.out.below⟩
    rw [Nat.zero_add]
    have hj : j < p := by
     rcases Nat.lt_or_ge j p with h | h
     · exact h
     · rw [List.getElem?_eq_none (by rw [zzJ, List.length_replicate]; exact h)] at hu; cases hu
    rw [xxV _ _ (by rw [List.length_replicate]; exact hj), List.getElem_replicate] at hu
    rw [← Option.some.inj hu]
    exact HR.out.have_ j hj
end
end Go.Proofs.YtpmglcachffojaaGreatDoor
