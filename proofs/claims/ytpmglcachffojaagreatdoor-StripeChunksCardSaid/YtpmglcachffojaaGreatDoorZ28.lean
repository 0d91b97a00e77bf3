/- A part of what Chunks leans on. -/
import Derived.Test.YtpmglcachffojaaGreatDoorZ25
import Derived.Test.YtpmglcachffojaaGreatDoorZ26
import Derived.Laws.Rows
set_option maxRecDepth 100000
set_option maxHeartbeats 16000000
namespace Go.Proofs.YtpmglcachffojaaGreatDoor
section
open Go Go.RowKit Go.Maps
theorem zqB : ∀ l : List ByteArray, (l.map fun s => [Value.string s]).flatten = svs l
 | [] => rfl
 | x :: r => by
   have ih := zqB r
   unfold svs at ih ⊢
   rw [List.map_cons, List.flatten_cons, ih]
   rfl
theorem ownS_F {w : World} {B : Nat} {A : Option Addr} {n c : Nat} {l : List ByteArray} (h : OwnS w B A n c l) (hs : ∀ s ∈ l, s.size ≤ maxLen) : OwnF tStr 9 (fun _ => False) w B A n c l := by
 have e := zqB l
 refine ⟨⟨l.map fun s => [Value.string s], by rw [e]; exact h, by simp, fun i cs x h1 h2 => ?_⟩, by simp, h.len⟩
 rw [List.getElem?_map, h2] at h1
 simp at h1
 subst h1
 exact ⟨rfl, hs x (List.mem_of_getElem? h2)⟩
theorem xx3 {l : List ByteArray} (hs : ∀ s ∈ l, s.size ≤ 300) : ∀ s ∈ zzp l, s.size ≤ 300 := by
 intro s h
 obtain ⟨b, hb, rfl⟩ := List.mem_map.1 h
 obtain ⟨t, ht, rfl⟩ := List.mem_map.1 ((kqM l b).1 hb)
 exact hs t ht
theorem words_get (ws : List (List UInt8)) {k : Nat} (hk : k < ws.length) (hk2 : k < (ws.map mkS).length) : ((ws.map mkS)[k]).data.toList = ws.getD k [] := by
 rw [List.getElem_map, vvK hk]
 simp [mkS]
theorem wf_small (k : Nat) (h : k ≤ 4096) : (Lit.int .i64 (k : Int)).wf = true := by
 have h1 : IntKind.i64.min = -9223372036854775808 := by decide
 have h2 : IntKind.i64.max = 9223372036854775807 := by decide
 show (decide (IntKind.i64.min ≤ (k : Int)) && decide ((k : Int) ≤ IntKind.i64.max)) = true
 rw [h1, h2]
 simp
 omega
theorem xx4 (x : Int) (h : 0 ≤ x ∧ x ≤ 4096) : -9223372036854775808 ≤ x ∧ x ≤ 9223372036854775807 := by omega
theorem law9 : Keyed Tryz.prog 9 := string_keyed Tryz.underlying9
theorem zero3 (w : World) : (zeroValue 3).run Tryz.prog w = .ok (.int .i64 0) w := by kernel_rfl
def txC (l : List ByteArray) : Int × Int × List (Int × List UInt8) :=
 if l.length < 2 * (zzR l).length then (1, 0, [(2, zzK l), (3, vvJ l)])
 else (2, ((zzR l).length : Int), [(2, rleB false (l.map fun s => (yyk l s : Int))), (3, vvJ (zzp l)), (4, zzK (zzp l))])
def zqC (l : List ByteArray) (w : World) (e : Ending) (w' : World) : Prop :=
 ∃ A n c, e = .returned (.tuple #[.agg #[.int .i64 (l.length : Int), .int .i64 (txC l).1, .int .i64 (txC l).2.1, .slice A n c], .int .i64 0]) ∧ Sl zzm (fun b => w.heap.size ≤ b) w' A n c (txC l).2.2 ∧ Below w.heap.size w w'
theorem tput_any (F : Nat → Prop) (A : Option Addr) (n c : Nat) (l : List ByteArray) (w : World) (h : Sl tStr F w A n c l) (hn : n ≤ 4096) (hs : ∀ s ∈ l, s.size ≤ 300) :
 Calls Tryz.prog 46 #[.slice A n c] w (zqC l w) := by
 have HL := zH h.len; have H := zH h; have HS := zH hs
 have hn1 : ¬ (n : Int) > 4096 := by omega
 have hn2 : ¬ (4096 : Int) < n := by omega
 have hmm := @run_makeMap Tryz.prog
 have HWL := zH (kqN l)
 obtain ⟨m, hm⟩ : ∃ m, m = (zzR l).length := ⟨_, rfl⟩
 have HM := zH hm
 obtain ⟨wc, hwc⟩ : ∃ wc, wc = w.alloc (.cells #[.int .i64 0, .int .i64 0, .int .i64 0, .slice none 0 0] 27) := ⟨_, rfl⟩
 have hbc : Below w.heap.size w wc := by rw [hwc]; exact (zR).alloc zN _
 have hgc : wc.heap[w.heap.size]? = some (.cells #[.int .i64 0, .int .i64 0, .int .i64 0, .slice none 0 0] 27 (0, 0)) := by rw [hwc]; exact heap_alloc_new w _
 have HWC := zH hwc; have HBC := zH hbc; have HGC := zH hgc
 clear h hs hm hwc hbc hgc
 go_enter Tryz.func46, Tryz.ntmps46
 go_upto_region 1 with fail
 rw [← HWC.out]
 go_wp2_with (first
  | (go_at_call 97; refine (long_any F A n c l _ (H.out.below HBC.out zN) HS.out (by omega)).mono ?_; rintro e w1 ⟨rfl, hb1⟩; have HB1 := zH hb1; have HW1 := zH (HBC.out.trans (hb1.mono HBC.out.size)); clear hb1)
  | (go_at_call 99; refine (words_any F A n c l _ (H.out.below (HW1.out.alloc HW1.out.size _) zN) hn).mono ?_; rintro e w3 ⟨A3, c3, rfl, ho3, hb3⟩; rw [← HM.out] at ho3 ⊢; have HO3 := zH ho3; have HB3 := zH hb3; clear ho3 hb3)
  | fail)
 have hmap : w3.ownsMap Tryz.prog 9 (plainElem (H := Unit) Tryz.prog 3) w1.heap.size 0 (.map []) := (World.ownsMap_made w1 _ _ _).kept (zzj (row := none) HB3.out) (by simp)
 have HOF := zH (ownS_F HO3.out (fun s hs => Nat.le_trans (xx3 HS.out s hs) (by unfold maxLen; omega))).sl
 obtain ⟨mb, hmb⟩ : ∃ mb, mb = w1.heap.size := ⟨_, rfl⟩
 have HMB := zH hmb
 rw [← hmb] at hmap
 rw [← hmb]
 have HMAP := zH hmap
 have hm4 : m ≤ 4096 := by have := HWL.out; rw [← HM.out, ← HL.out] at this; omega
 clear hmap hmb
 go_loopw [28] (fun iv wr => ∃ k : Nat, k ≤ m ∧ iv = .int .i64 (k : Int) ∧ wr.ownsMap Tryz.prog 9 (plainElem (H := Unit) Tryz.prog 3) mb k (plD Unit (zzR l) k) ∧ w3.grownBy wr (some mb)) (fun iv _ => m - (intOf iv).toNat)
 case atStart => exact ⟨0, Nat.zero_le _, rfl, HMAP.out, zzj (zR)⟩
 case round =>
  obtain ⟨k, hk, rfl, hown, hgr⟩ := hrel
  have HGR := zH hgr
  by_cases hlt : k < m
  · have hkw : k < (zzR l).length := by rw [← HM.out]; exact hlt
    have hkl : k < (zzp l).length := by unfold zzp; rw [List.length_map]; exact hkw
    obtain ⟨b, o, u, rfl, _, hbl, hr, hc⟩ := (HOF.out.keep hgr.size (fun b hb hl => hgr.block b hl (fun e => by
     injection e with e
     rcases hb with hb | hb
     · exact hb
     · have := hb.2; rw [zS] at this; have := HMB.out; omega))).at1 hkl rfl
    obtain ⟨s, hs⟩ : ∃ s, s = (zzp l)[k] := ⟨_, rfl⟩
    obtain ⟨hr, hsz⟩ := hr
    injection hr with hr; subst hr
    rw [← hs] at hc hsz
    have HSK := zH (show (zzR l).getD k [] = s.data.toList by rw [hs]; exact (words_get (zzR l) hkw hkl).symm)
    have hkey : Go.keyOf Tryz.prog 9 (.string s) = some (.string s.data.toList) := WideMaps.keyOf_string_mk Tryz.underlying9 hsz
    have hwf : (Lit.int .i64 (k : Int)).wf = true := wf_small k (by omega)
    have hi0 : (0 : Int) ≤ (k : Int) := by omega
    have hi1 : (k : Int) < (m : Int) := by omega
    clear hgr hs
    go_wp2_with (first
     | (at_mapUpdate; refine wpList_mapUpdate_own _ rfl _ _ _ 159 rfl 9 3 law9 Tryz.underlying159 _ mb k _ (by rfl) hown (by unfold maxLen; omega) _ _ _ (by rfl) (by rfl) hkey _ [] (plainElem_int Tryz.underlying3 hwf) ?_; intro w4 hown4 hgrow4)
     | fail)
    go_roundw
    case rel => exact ⟨k + 1, by omega, by go_num, by rw [plD, HSK.out]; exact hown4, uuN HGR.out hgrow4⟩
    case measure => simp [intOf]; omega
  · obtain rfl : k = m := by omega
    have hsize : Maps.size (plD Unit (zzR l) k) = k := zqz Unit _ (uuQ l) k (by rw [← HM.out]; exact Nat.le_refl _)
    have hml := hown.len Tryz.underlying159
    rw [hsize] at hml
    have HOWN := zH hown
    have hw2 : Below w.heap.size w (w1.alloc (.map #[] 0)) := HW1.out.alloc HW1.out.size _
    have hmbl : w.heap.size < mb := by have := HB1.out.size; have := zzb HGC.out; have := HMB.out; omega
    have hbr : Below w.heap.size w wr := (hw2.trans (HB3.out.mono hw2.size)).grown hgr (hw2.trans (HB3.out.mono hw2.size)).size (fun q e => by injection e with e; omega)
    have hgw : wr.heap[w.heap.size]? = some (.cells #[.int .i64 0, .int .i64 0, .int .i64 0, .slice none 0 0] 27 (0, 0)) := by
     have h1 := zzb HGC.out
     have h2 : w.heap.size < w1.heap.size := by have := HB1.out.size; omega
     exact (hgr.block _ (by have := HB3.out.size; rw [zS] at this; omega) (fun e => by injection e with e; omega)).trans ((HB3.out.block _ (by rw [zS]; omega)).trans ((Below.heap_alloc w1 _ _ h2).trans ((HB1.out.block _ h1).trans HGC.out)))
    have HBR := zH hbr; have HGW := zH hgw
    clear hgr hown hsize hw2 hbr hgw
    go_upto_if 42 with fail
    by_cases hlt2 : n < 2 * k
    · have hI : (n : Int) < 2 * (k : Int) := by omega
      clear hml
      have hsb := fun w => run_sb w (mkS (zzK l))
      go_wp2_with (first
       | (go_at_call 100; refine (zqA F A n c l _ (H.out.below HBR.out zN) hn HS.out).mono ?_; rintro e w5 ⟨rfl, hb5⟩; have HB5 := zH (HBR.out.trans (hb5.mono HBR.out.size)); have HW5 := zH hb5; clear hb5)
       | (go_at_call 101; refine (zqx F A n c l _ (H.out.below ((HB5.out.alloc HB5.out.size _).drew) zN) hn).mono ?_; rintro e w6 ⟨A6, n6, c6, rfl, ho6, hb6⟩; have hg6 : w6.heap[w.heap.size]? = some (.cells #[.int .i64 0, .int .i64 0, .int .i64 0, .slice none 0 0] 27 (0, 0)) := (hb6.block _ (by have h1 := zzb HGW.out; have h2 := HW5.out.size; simp; omega)).trans ((Below.heap_alloc w5 _ _ (by have h1 := zzb HGW.out; have h2 := HW5.out.size; omega)).trans ((HW5.out.block _ (zzb HGW.out)).trans HGW.out)); have hga : ∀ o : Obj, (w6.alloc o).heap[w.heap.size]? = some (.cells #[.int .i64 0, .int .i64 0, .int .i64 0, .slice none 0 0] 27 (0, 0)) := (fun o => (Below.heap_alloc w6 o _ (zzb hg6)).trans hg6); have z0 : ∀ o : Obj, (w6.alloc o).cell? ⟨w.heap.size, 0, none⟩ = some (.int .i64 0) := (fun o => by rw [zC (hga o)]; rfl); have y0 : ∀ o : Obj, (w6.alloc o).frozen? ⟨w.heap.size, 0, none⟩ = false := (fun o => zF (hga o) 0); have z1 : ∀ o : Obj, (w6.alloc o).cell? ⟨w.heap.size, 1, none⟩ = some (.int .i64 0) := (fun o => by rw [zC (hga o)]; rfl); have y1 : ∀ o : Obj, (w6.alloc o).frozen? ⟨w.heap.size, 1, none⟩ = false := (fun o => zF (hga o) 1); have z2 : ∀ o : Obj, (w6.alloc o).cell? ⟨w.heap.size, 2, none⟩ = some (.int .i64 0) := (fun o => by rw [zC (hga o)]; rfl); have y2 : ∀ o : Obj, (w6.alloc o).frozen? ⟨w.heap.size, 2, none⟩ = false := (fun o => zF (hga o) 2); have z3 : ∀ o : Obj, (w6.alloc o).cell? ⟨w.heap.size, 3, none⟩ = some (.slice none 0 0) := (fun o => by rw [zC (hga o)]; rfl); have y3 : ∀ o : Obj, (w6.alloc o).frozen? ⟨w.heap.size, 3, none⟩ = false := (fun o => zF (hga o) 3); clear hga; have HG6 := zH hg6; have HO6 := zH ho6; have HB6 := zH hb6; clear ho6 hb6 hg6)
       | fail)
      have e1 : txC l = (1, 0, [(2, zzK l), (3, vvJ l)]) := if_pos (by rw [← HL.out, ← HM.out]; exact hlt2)
      have hb56 : Below (w5.alloc (vvc w5 (mkS (zzK l)))).heap.size (w5.alloc (vvc w5 (mkS (zzK l)))) w6 := (zR).drew.trans HB6.out
      have h5 : w.heap.size + 1 ≤ w5.heap.size := by have := zzb HGW.out; have := HW5.out.size; omega
      have hjl := yy4 l HS.out
      rw [← HL.out] at hjl
      have s1 : Sl tU8 (fun b => w.heap.size + 1 ≤ b) w6 (some ⟨w5.heap.size, 0, none⟩) (mkS (zzK l)).size (jjK w5 (mkS (zzK l))) (zzK l) :=
       ((sb_bs (w := w5) (w0 := w5) (s := mkS (zzK l)) (by show (zzK l).toArray.size ≤ _; simp [maxLen]; omega)).weaken (F' := fun b => w.heap.size + 1 ≤ b) (fun b hb _ => by omega)).below hb56 zN
      have s2 : Sl tU8 (fun b => w.heap.size + 1 ≤ b) w6 A6 n6 c6 (vvJ l) := HO6.out.own.sl.weaken fun b hb _ => by
       rcases hb with hb | hb
       · exact hb.elim
       · have h7 := hb.2
         simp at h7
         omega
      have h56 := HB6.out.size
      have hw6 : w5.heap.size + 1 ≤ w6.heap.size := by simpa using h56
      have s3 := Sl.news (T := zzm) (F := fun b => w.heap.size + 1 ≤ b) (w := w6) (Reps.mk2 (T := zzm) (x1 := ((2 : Int), zzK l)) (x2 := ((3 : Int), vvJ l)) ⟨[.int .i64 2], _, rfl, ⟨rfl, xx4 2 (by omega)⟩, _, _, _, rfl, s1⟩ ⟨[.int .i64 3], _, rfl, ⟨rfl, xx4 3 (by omega)⟩, _, _, _, rfl, s2⟩) 55 2 rfl (by omega) _ rfl
      refine bodyPost_ret (zzC rfl _ _ w.heap.size 27 #[.int .i64 (n : Int), .int .i64 1, .int .i64 0, .slice (some ⟨w6.heap.size, 0, none⟩) 2 2] (0, 0) _ rfl (zza (zza (zza (zza ((Below.heap_alloc w6 _ _ (zzb HG6.out)).trans HG6.out) rfl) rfl) rfl) rfl) Tryz.underlying27 rfl (by kernel_rfl)) rfl ?_
      unfold zqC
      rw [e1]
      refine ⟨some ⟨w6.heap.size, 0, none⟩, 2, 2, by rw [← HL.out]; rfl, (s3.keep (by simp) (fun b hb _ => ?_)).weaken (fun b hb _ => by rcases hb with hb | hb <;> omega), ?_⟩
      · have hne : b ≠ w.heap.size := by rcases hb with hb | hb <;> omega
        exact (Below.heap_setCell _ _ _ _ hne).trans ((Below.heap_setCell _ _ _ _ hne).trans ((Below.heap_setCell _ _ _ _ hne).trans (Below.heap_setCell _ _ _ _ hne)))
      · have hbb : Below w.heap.size w w6 := ((HB5.out.alloc HB5.out.size _).drew).trans (HB6.out.mono (by simp; omega))
        exact zzd (zzd (zzd (zzd (hbb.alloc (by omega) _) zN _) zN _) zN _) zN _
    · have hI : ¬ (n : Int) < 2 * (k : Int) := by omega
      clear hml
      obtain ⟨wq, hwq⟩ : ∃ wq, wq = wr := ⟨_, rfl⟩
      rw [← hwq] at HBR HGW HOWN ⊢
      go_wp2_with fail
      go_loopw [9, 56] (fun v iv wx => ∃ (j : Nat) (A5 : Option Addr) (c5 : Nat) (G : Nat → Prop), j ≤ n ∧ iv = .int .i64 (j : Int) ∧ v = .slice A5 j c5 ∧ OwnF tI64 3 G wx wq.heap.size A5 j c5 ((l.take j).map fun s : ByteArray => (yyk l s : Int)) ∧ Below wq.heap.size wq wx) (fun _ iv _ => n - (intOf iv).toNat)
      case atStart => exact ⟨0, none, 0, fun _ => False, Nat.zero_le _, rfl, rfl, OwnF.nil_ _ _ _ _ _, by rw [hwq]; exact zR⟩
      case round =>
       obtain ⟨j, A5, c5, G, hj, rfl, rfl, hown5, hb5⟩ := hrel
       have HO5 := zH hown5; have HB5 := zH hb5
       by_cases hjn : j < n
       · have hjl : j < l.length := by rw [← HL.out]; exact hjn
         have hbj : Below w.heap.size w _ := HBR.out.trans (hb5.mono HBR.out.size)
         obtain ⟨b, o, u, rfl, _, hbl, hr, hc⟩ := (H.out.below hbj zN).at1 hjl rfl
         have hsj := List.getElem_mem hjl
         obtain ⟨t, ht⟩ : ∃ t, t = l[j] := ⟨_, rfl⟩
         obtain ⟨hr, hsz⟩ := hr
         injection hr with hr; subst hr
         rw [← ht] at hc hsz hsj
         have hkey : Go.keyOf Tryz.prog 9 (.string t) = some (.string t.data.toList) := WideMaps.keyOf_string_mk Tryz.underlying9 hsz
         have hpl := uuc l hsj
         have hat := plD_at Unit (zzR l) (uuQ l) (.lit (.int .i64 0)) k (by rw [← HM.out]; exact Nat.le_refl _) (yyk l t) (by rw [HM.out]; exact hpl)
         rw [place_get l hsj] at hat
         have hp4 : yyk l t ≤ 4096 := by have := HM.out; omega
         have hp5 : (0 : Int) ≤ (yyk l t : Int) ∧ (yyk l t : Int) ≤ 4096 := by omega
         have HAT := zH hat; have HT := zH ht
         have hmj := HOWN.out.kept (zzj (row := none) hb5) (by simp)
         have hi0 : (0 : Int) ≤ (j : Int) := by omega
         have hi1 : (j : Int) < (n : Int) := by omega
         clear hat ht hbj hown5 hb5
         go_wp2_with (first
          | (at_lookup; refine wpList_lookup_own_int _ rfl _ _ 159 rfl 9 3 .i64 law9 Tryz.underlying159 Tryz.underlying3 (zero3 _) mb k _ (by rfl) hmj _ _ (by rfl) hkey ?_; intro q hq hwq2; obtain rfl : q = (yyk l t : Int) := (by rw [HAT.out] at hq; injection hq with hq; injection hq with _ hq; exact hq.symm))
          | (at_builtin; refine apl1 (T := tI64) xxv wr wq rfl (.tmp 60) (.tmp 64) rfl wq.heap.size A5 j c5 ((l.take j).map fun s : ByteArray => (yyk l s : Int)) (by rfl) G (fun _ => False) HO5.out HB5.out zN _ (by rfl) [.int .i64 (yyk l t : Int)] (yyk l t : Int) ⟨rfl, xx4 _ hp5⟩ 3 rfl (fun _ _ _ _ h4 => h4) (by omega) ?_; intro A6 c6 w6 h6)
          | fail)
         go_roundw
         case rel => exact ⟨j + 1, A6, c6, _, by omega, by go_num, rfl, by rw [zT hjl, List.map_append, ← HT.out]; exact h6.own, h6.below⟩
         case measure => simp [intOf]; omega
       · obtain rfl : j = n := by omega
         have htk : l.take j = l := zL (by rw [← HL.out]; exact Nat.le_refl _)
         rw [htk] at hown5
         have HPS := zH hown5.sl
         have HOK := zH (show yyb false (l.map fun s : ByteArray => (yyk l s : Int)) from by
          intro x hx
          obtain ⟨s, hs, rfl⟩ := List.mem_map.1 hx
          have h1 := uuc l hs
          have h2 := HM.out
          exact ⟨by omega, by omega, .inr (by omega)⟩)
         have hbr5 : Below w.heap.size w wr := HBR.out.trans (hb5.mono HBR.out.size)
         have HB5 := zH hbr5
         have hgr5 : wr.heap[w.heap.size]? = some (.cells #[.int .i64 0, .int .i64 0, .int .i64 0, .slice none 0 0] 27 (0, 0)) := (hb5.block _ (zzb HGW.out)).trans HGW.out
         have HGR5 := zH hgr5
         have hwords := (HOF.out.keep HGR.out.size (fun b hb hl => HGR.out.block b hl (fun e => by
          injection e with e
          rcases hb with hb | hb
          · exact hb
          · have := hb.2; rw [zS] at this; have := HMB.out; omega))).weaken (F' := fun _ => True) (fun _ _ _ => trivial)
         rw [← hwq] at hwords
         have HWS := zH (hwords.below hb5 zN)
         have HSM := zH (xx3 HS.out)
         have hsb := fun w => run_sb w (mkS (zzK (zzp l)))
         clear hown5 hb5 hbr5 hgr5 hwords htk
         go_upto_region 20 with (first
          | (go_at_call 92; refine (uuI _ A5 j c5 _ _ HPS.out hn false HOK.out).mono ?_; rintro e w5 ⟨hb5, A7, n7, c7, rfl, ho5⟩; have HO7 := zH ho5; have HB7 := zH hb5; have HG7 := zH ((hb5.block _ (zzb HGR5.out)).trans HGR5.out); clear ho5 hb5)
          | fail)
         have HB8 := zH (HB5.out.trans (HB7.out.mono HB5.out.size))
         have HWS8 := zH (HWS.out.below HB7.out zN)
         have hG8 : Hid (w5.heap[w.heap.size]? = some (.cells #[.int .i64 0, .int .i64 0, .int .i64 0, .slice none 0 0] 27 (0, 0))) := HG7
         have hm4 := hm4
         go_wp2_with (first
          | (go_at_call 101; refine (zqx _ A3 k c3 (zzp l) _ HWS8.out hm4).mono ?_; rintro e w6 ⟨A6, n6, c6, rfl, ho6, hb6⟩; have HO6 := zH ho6; have HB6 := zH hb6; have HWS6 := zH (HWS8.out.below hb6 zN); clear ho6 hb6)
          | (go_at_call 100; refine (zqA _ A3 k c3 (zzp l) _ HWS6.out hm4 HSM.out).mono ?_; rintro e w8 ⟨rfl, hb8⟩; have HBJ := zH hb8; have hg8 : w8.heap[w.heap.size]? = some (.cells #[.int .i64 0, .int .i64 0, .int .i64 0, .slice none 0 0] 27 (0, 0)) := (hb8.block _ (by have h1 := zzb hG8.out; have h2 := HB6.out.size; omega)).trans ((HB6.out.block _ (zzb hG8.out)).trans hG8.out); have HG8 := zH hg8; have hga : ∀ o1 o2 : Obj, ((w8.alloc o1).alloc o2).heap[w.heap.size]? = some (.cells #[.int .i64 0, .int .i64 0, .int .i64 0, .slice none 0 0] 27 (0, 0)) := (fun o1 o2 => (Below.heap_alloc _ o2 _ (by rw [zS]; exact Nat.lt_succ_of_lt (zzb hg8))).trans ((Below.heap_alloc w8 o1 _ (zzb hg8)).trans hg8)); have z0 : ∀ o1 o2 : Obj, ((w8.alloc o1).alloc o2).cell? ⟨w.heap.size, 0, none⟩ = some (.int .i64 0) := (fun o1 o2 => by rw [zC (hga o1 o2)]; rfl); have y0 : ∀ o1 o2 : Obj, ((w8.alloc o1).alloc o2).frozen? ⟨w.heap.size, 0, none⟩ = false := (fun o1 o2 => zF (hga o1 o2) 0); have z1 : ∀ o1 o2 : Obj, ((w8.alloc o1).alloc o2).cell? ⟨w.heap.size, 1, none⟩ = some (.int .i64 0) := (fun o1 o2 => by rw [zC (hga o1 o2)]; rfl); have y1 : ∀ o1 o2 : Obj, ((w8.alloc o1).alloc o2).frozen? ⟨w.heap.size, 1, none⟩ = false := (fun o1 o2 => zF (hga o1 o2) 1); have z2 : ∀ o1 o2 : Obj, ((w8.alloc o1).alloc o2).cell? ⟨w.heap.size, 2, none⟩ = some (.int .i64 0) := (fun o1 o2 => by rw [zC (hga o1 o2)]; rfl); have y2 : ∀ o1 o2 : Obj, ((w8.alloc o1).alloc o2).frozen? ⟨w.heap.size, 2, none⟩ = false := (fun o1 o2 => zF (hga o1 o2) 2); have z3 : ∀ o1 o2 : Obj, ((w8.alloc o1).alloc o2).cell? ⟨w.heap.size, 3, none⟩ = some (.slice none 0 0) := (fun o1 o2 => by rw [zC (hga o1 o2)]; rfl); have y3 : ∀ o1 o2 : Obj, ((w8.alloc o1).alloc o2).frozen? ⟨w.heap.size, 3, none⟩ = false := (fun o1 o2 => zF (hga o1 o2) 3); clear hb8 hg8 hga)
          | fail)
         have e1 : txC l = (2, (k : Int), [(2, rleB false (l.map fun s : ByteArray => (yyk l s : Int))), (3, vvJ (zzp l)), (4, zzK (zzp l))]) := by
          rw [HM.out]
          exact if_neg (by rw [← HL.out, ← HM.out]; exact hlt2)
         have hjl := yy4 (zzp l) HSM.out
         have hwl : (zzp l).length = k := by rw [HM.out]; unfold zzp; rw [List.length_map]
         rw [hwl] at hjl
         have h5 : w.heap.size + 1 ≤ wr.heap.size := by have := zzb HGR5.out; omega
         have h57 := HB7.out.size
         have h67 := HB6.out.size
         have h87 := HBJ.out.size
         have hb58 : Below w5.heap.size w5 (w8.alloc (vvc w8 (mkS (zzK (zzp l))))).drew := ((HB6.out.trans (HBJ.out.mono HB6.out.size)).alloc (by omega) _).drew
         have hb68 : Below w6.heap.size w6 (w8.alloc (vvc w8 (mkS (zzK (zzp l))))).drew := (HBJ.out.alloc (by omega) _).drew
         have s1 : Sl tU8 (fun b => w.heap.size + 1 ≤ b) (w8.alloc (vvc w8 (mkS (zzK (zzp l))))).drew A7 n7 c7 (rleB false (l.map fun s : ByteArray => (yyk l s : Int))) := (HO7.out.own.sl.below hb58 zN).weaken fun b hb _ => by
          rcases hb with hb | hb
          · exact hb.elim
          · have h7 := hb.2
            omega
         have s2 : Sl tU8 (fun b => w.heap.size + 1 ≤ b) (w8.alloc (vvc w8 (mkS (zzK (zzp l))))).drew A6 n6 c6 (vvJ (zzp l)) := (HO6.out.own.sl.below hb68 zN).weaken fun b hb _ => by
          rcases hb with hb | hb
          · exact hb.elim
          · have h7 := hb.2
            omega
         have s4 : Sl tU8 (fun b => w.heap.size + 1 ≤ b) (w8.alloc (vvc w8 (mkS (zzK (zzp l))))).drew (some ⟨w8.heap.size, 0, none⟩) (mkS (zzK (zzp l))).size (jjK w8 (mkS (zzK (zzp l)))) (zzK (zzp l)) :=
          ((sb_bs (w := w8) (w0 := w8) (s := mkS (zzK (zzp l))) (by show (zzK (zzp l)).toArray.size ≤ _; simp [maxLen]; omega)).weaken (F' := fun b => w.heap.size + 1 ≤ b) (fun b hb _ => by omega)).drew
         have s3 := Sl.news (T := zzm) (F := fun b => w.heap.size + 1 ≤ b) (w := (w8.alloc (vvc w8 (mkS (zzK (zzp l))))).drew) (Reps.mk3 (T := zzm) (x1 := ((2 : Int), rleB false (l.map fun s : ByteArray => (yyk l s : Int)))) (x2 := ((3 : Int), vvJ (zzp l))) (x3 := ((4 : Int), zzK (zzp l))) ⟨[.int .i64 2], _, rfl, ⟨rfl, xx4 2 (by omega)⟩, _, _, _, rfl, s1⟩ ⟨[.int .i64 3], _, rfl, ⟨rfl, xx4 3 (by omega)⟩, _, _, _, rfl, s2⟩ ⟨[.int .i64 4], _, rfl, ⟨rfl, xx4 4 (by omega)⟩, _, _, _, rfl, s4⟩) 55 3 rfl (by omega) _ rfl
         have hg9 : (w8.alloc (vvc w8 (mkS (zzK (zzp l))))).drew.heap[w.heap.size]? = some (.cells #[.int .i64 0, .int .i64 0, .int .i64 0, .slice none 0 0] 27 (0, 0)) := (Below.heap_alloc w8 _ _ (zzb HG8.out)).trans HG8.out
         refine bodyPost_ret (zzC rfl _ _ w.heap.size 27 #[.int .i64 (j : Int), .int .i64 2, .int .i64 (k : Int), .slice (some ⟨w8.heap.size + 1, 0, none⟩) 3 3] (0, 0) _ rfl (zza (zza (zza (zza ((Below.heap_alloc _ _ _ (zzb hg9)).trans hg9) rfl) rfl) rfl) rfl) Tryz.underlying27 rfl (by kernel_rfl)) rfl ?_
         unfold zqC
         rw [e1]
         have hsz9 : (w8.alloc (vvc w8 (mkS (zzK (zzp l))))).drew.heap.size = w8.heap.size + 1 := by simp
         rw [hsz9] at s3
         refine ⟨some ⟨w8.heap.size + 1, 0, none⟩, 3, 3, by rw [← HL.out]; rfl, (s3.keep (by simp) (fun b hb _ => ?_)).weaken (fun b hb _ => by rcases hb with hb | hb <;> omega), ?_⟩
         · have hne : b ≠ w.heap.size := by rcases hb with hb | hb <;> omega
           exact (Below.heap_setCell _ _ _ _ hne).trans ((Below.heap_setCell _ _ _ _ hne).trans ((Below.heap_setCell _ _ _ _ hne).trans (Below.heap_setCell _ _ _ _ hne)))
         · have hbb : Below w.heap.size w (w8.alloc (vvc w8 (mkS (zzK (zzp l))))).drew := HB8.out.trans (hb58.mono HB8.out.size)
           exact zzd (zzd (zzd (zzd (hbb.alloc hbb.size _) zN _) zN _) zN _) zN _
end
section
open Go Go.RowKit
def vvZ (way : Int) (a b : VV) : VV := if a.null || (!b.null && decide (0 < way * vcmp b a)) then b else a
structure Box3 (w : World) (a b : VV) (w3 : World) : Prop where
 eq : w3 = ((w.alloc (.cells #[.bool a.null, .int .i64 a.n, .string a.s] 74)).alloc (.cells #[.bool b.null, .int .i64 b.n, .string b.s] 74)).alloc (.cells #[.bool false, .int .i64 0, .string ⟨#[]⟩] 74)
 below : Below w.heap.size w w3
 ha : w3.heap[w.heap.size]? = some (.cells #[.bool a.null, .int .i64 a.n, .string a.s] 74 (0, 0))
 hb : w3.heap[w.heap.size + 1]? = some (.cells #[.bool b.null, .int .i64 b.n, .string b.s] 74 (0, 0))
 hr : w3.heap[w.heap.size + 2]? = some (.cells #[.bool false, .int .i64 0, .string ⟨#[]⟩] 74 (0, 0))
theorem box3 (w : World) (a b : VV) : ∃ w3, Box3 w a b w3 := by
 obtain ⟨w2, h⟩ := box2 w a b
 have hz : w2.heap.size = w.heap.size + 2 := by rw [h.eq]; simp
 have h1 : w2.heap[w.heap.size]? = some (.cells #[.bool a.null, .int .i64 a.n, .string a.s] 74 (0, 0)) := by rw [h.eq]; exact (Below.heap_alloc _ _ _ (by simp)).trans (heap_alloc_new w _)
 have h2 := heap_alloc_new (w.alloc (.cells #[.bool a.null, .int .i64 a.n, .string a.s] 74)) (.cells #[.bool b.null, .int .i64 b.n, .string b.s] 74)
 rw [zS, ← h.eq] at h2
 refine ⟨w2.alloc (.cells #[.bool false, .int .i64 0, .string ⟨#[]⟩] 74), by rw [h.eq], h.below.alloc h.below.size _, (Below.heap_alloc _ _ _ (by omega)).trans h1, (Below.heap_alloc _ _ _ (by omega)).trans h2, ?_⟩
 have h3 := heap_alloc_new w2 (.cells #[.bool false, .int .i64 0, .string ⟨#[]⟩] 74)
 rwa [hz] at h3
theorem vvt {w : World} {g : Nat} {a b d : Value} {t : TypeId} (h : w.heap[g]? = some (.cells #[a, b, d] t (0, 0))) :
 (w.cell? ⟨g, 0, none⟩ = some a ∧ w.frozen? ⟨g, 0, none⟩ = false) ∧ (w.cell? ⟨g, 1, none⟩ = some b ∧ w.frozen? ⟨g, 1, none⟩ = false) ∧ (w.cell? ⟨g, 2, none⟩ = some d ∧ w.frozen? ⟨g, 2, none⟩ = false) :=
 ⟨⟨by rw [zC h]; rfl, zF h 0⟩, ⟨by rw [zC h]; rfl, zF h 1⟩, ⟨by rw [zC h]; rfl, zF h 2⟩⟩
theorem vset {w : World} {g : Nat} {a b d : Value} {t : TypeId} (h : w.heap[g]? = some (.cells #[a, b, d] t (0, 0))) (a' b' d' : Value) :
 (((w.setCell ⟨g, 0, none⟩ a').setCell ⟨g, 1, none⟩ b').setCell ⟨g, 2, none⟩ d').heap[g]? = some (.cells #[a', b', d'] t (0, 0)) := zza (zza (zza h rfl) rfl) rfl
theorem xxP {w0 w : World} {B g : Nat} (hb : Below B w0 w) (hg : B ≤ g) (a' b' d' : Value) : Below B w0 (((w.setCell ⟨g, 0, none⟩ a').setCell ⟨g, 1, none⟩ b').setCell ⟨g, 2, none⟩ d') := zzd (zzd (zzd hb hg _) hg _) hg _
theorem zqH (way : Int) (hway : way = -1 ∨ way = 1) (a b : VV) (w : World) :
 Calls Tryz.prog 176 #[.int .i64 way, .agg #[.bool a.null, .int .i64 a.n, .string a.s], .agg #[.bool b.null, .int .i64 b.n, .string b.s]] w fun e w' => e = .returned (.agg #[.bool (vvZ way a b).null, .int .i64 (vvZ way a b).n, .string (vvZ way a b).s]) ∧ Below w.heap.size w w' := by
 obtain ⟨w3, h3⟩ := box3 w a b
 have HW := zH h3
 obtain ⟨⟨a0, _⟩, ⟨a1, _⟩, ⟨a2, _⟩⟩ := vvt h3.ha
 obtain ⟨⟨b0, _⟩, ⟨b1, _⟩, ⟨b2, _⟩⟩ := vvt h3.hb
 obtain ⟨⟨z0, y0⟩, ⟨z1, y1⟩, ⟨z2, y2⟩⟩ := h3.hr |> vvt
 have HC := zH (qzM b a)
 have hcs := qxB b a
 obtain ⟨q, hq⟩ : ∃ q, q = vcmp b a := ⟨_, rfl⟩
 obtain ⟨r, hr⟩ : ∃ r, r = vvZ way a b := ⟨_, rfl⟩
 rw [← hr]
 unfold vvZ at hr
 rw [← hq] at HC hcs hr
 have HR := zH hr
 obtain ⟨an, ai, sa⟩ := a
 obtain ⟨bn, bi, sb'⟩ := b
 dsimp only at *
 clear h3 hq hr
 cases an
 · cases bn
   · rcases hway with rfl | rfl <;> rcases hcs with rfl | rfl | rfl
     all_goals
      go_enter Tryz.func176, Tryz.ntmps176
      go_upto_region 1 with fail
      rw [← HW.out.eq]
      go_upto_if 21 with (first
       | (go_at_call 221; refine (HC.out _).mono ?_; rintro e w5 ⟨rfl, hb5⟩; have HB5 := zH hb5; have HA5 := zH ((hb5.block _ (zzb HW.out.ha)).trans HW.out.ha); have HY5 := zH ((hb5.block _ (zzb HW.out.hb)).trans HW.out.hb); have HZ5 := zH ((hb5.block _ (zzb HW.out.hr)).trans HW.out.hr); clear hb5)
       | fail)
      clear a0 a1 a2 b0 b1 b2 z0 y0 z1 y1 z2 y2
      obtain ⟨⟨a0, _⟩, ⟨a1, _⟩, ⟨a2, _⟩⟩ := vvt HA5.out
      obtain ⟨⟨b0, _⟩, ⟨b1, _⟩, ⟨b2, _⟩⟩ := vvt HY5.out
      obtain ⟨⟨z0, y0⟩, ⟨z1, y1⟩, ⟨z2, y2⟩⟩ := vvt HZ5.out
      go_wp2_with fail
      first
       | exact bodyPost_ret (results_cell_row rfl _ _ (w.heap.size + 2) 74 #[.bool false, .int .i64 bi, .string sb'] (0, 0) _ rfl (vset HZ5.out _ _ _) Tryz.underlying74 rfl (by kernel_rfl)) rfl ⟨by rw [HR.out]; rfl, xxP (HW.out.below.trans (HB5.out.mono HW.out.below.size)) (by omega) _ _ _⟩
       | exact bodyPost_ret (results_cell_row rfl _ _ (w.heap.size + 2) 74 #[.bool false, .int .i64 ai, .string sa] (0, 0) _ rfl (vset HZ5.out _ _ _) Tryz.underlying74 rfl (by kernel_rfl)) rfl ⟨by rw [HR.out]; rfl, xxP (HW.out.below.trans (HB5.out.mono HW.out.below.size)) (by omega) _ _ _⟩
   · go_enter Tryz.func176, Tryz.ntmps176
     go_upto_region 1 with fail
     rw [← HW.out.eq]
     go_wp2_with fail
     exact bodyPost_ret (results_cell_row rfl _ _ (w.heap.size + 2) 74 #[.bool false, .int .i64 ai, .string sa] (0, 0) _ rfl (vset HW.out.hr _ _ _) Tryz.underlying74 rfl (by kernel_rfl)) rfl ⟨by rw [HR.out]; rfl, xxP HW.out.below (by omega) _ _ _⟩
 · go_enter Tryz.func176, Tryz.ntmps176
   go_upto_region 1 with fail
   rw [← HW.out.eq]
   go_wp2_with fail
   exact bodyPost_ret (results_cell_row rfl _ _ (w.heap.size + 2) 74 #[.bool bn, .int .i64 bi, .string sb'] (0, 0) _ rfl (vset HW.out.hr _ _ _) Tryz.underlying74 rfl (by kernel_rfl)) rfl ⟨by rw [HR.out]; rfl, xxP HW.out.below (by omega) _ _ _⟩
end
section
open Go Go.RowKit
structure FldC (b p : Nat) (t : Int) (is : Bool) (x : Nat) (A : Option Addr) (n c : Nat) (W : World) : Prop where
 c0 : W.cell? ⟨b, p, none⟩ = some (.int .i64 t)
 c1 : W.cell? ⟨b, p + 1, none⟩ = some (.bool is)
 c2 : W.cell? ⟨b, p + 2, none⟩ = some (.int .u64 (x : Int))
 c3 : W.cell? ⟨b, p + 3, none⟩ = some (.slice A n c)
theorem FldC.keep {b p : Nat} {t : Int} {is : Bool} {x : Nat} {A : Option Addr} {n c : Nat} {W W' : World} (h : FldC b p t is x A n c W) (hb : Below W.heap.size W W') : FldC b p t is x A n c W' := ⟨zzh hb h.c0, zzh hb h.c1, zzh hb h.c2, zzh hb h.c3⟩
theorem qz3 {F : Nat → Prop} {w : World} {A : Option Addr} {n c : Nat} {l : List Fld} (h : Sl tFld F w A n c l) {k : Nat} (hk : k < l.length) :
 ∃ b o A1 n1 c1, A = some ⟨b, o, none⟩ ∧ FldC b (o + k * 4) l[k].tag l[k].bytes l[k].n A1 n1 c1 w ∧ Sl tU8 F w A1 n1 c1 l[k].b ∧ l[k].n < 18446744073709551616 ∧ F b := by
 obtain ⟨b, o, cs, e, hF, _, hr, hc⟩ := h.at_ hk (by decide)
 obtain ⟨A1, n1, c1, rfl, _, hx, hs⟩ := hr
 obtain ⟨g0, g1, g2, g3⟩ := qxV hc
 exact ⟨b, o, A1, n1, c1, e, ⟨g0, g1, g2, g3⟩, hs, hx, hF⟩
theorem vvS {F : Nat → Prop} {w : World} {A : Option Addr} {n c : Nat} {l : List Fld} (h : Sl tFld F w A n c l) {k : Nat} (hk : k < l.length) :
 ∃ b o A1 n1 c1, A = some ⟨b, o, none⟩ ∧ FldC b (o + k * 4) l[k].tag l[k].bytes l[k].n A1 n1 c1 w ∧ Sl tU8 F w A1 n1 c1 l[k].b ∧ l[k].n < 18446744073709551616 := by
 obtain ⟨b, o, A1, n1, c1, h1, h2, h3, h4, _⟩ := qz3 h hk
 exact ⟨b, o, A1, n1, c1, h1, h2, h3, h4⟩
end
end Go.Proofs.YtpmglcachffojaaGreatDoor
