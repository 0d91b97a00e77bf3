/- texts.Put. -/
import Derived.Test.YtpmglcachffojaaGreatDoorPk27
namespace Go.Proofs.YtpmglcachffojaaGreatDoor
open Go Go.RowKit Go.Maps

theorem svs_flat : ∀ l : List ByteArray, (l.map fun s => [Value.string s]).flatten = svs l
  | [] => rfl
  | x :: r => by
    have ih := svs_flat r
    unfold svs at ih ⊢
    rw [List.map_cons, List.flatten_cons, ih]
    rfl
theorem ownS_F {w : World} {B : Nat} {A : Option Addr} {n c : Nat} {l : List ByteArray} (h : OwnS w B A n c l) (hs : ∀ s ∈ l, s.size ≤ maxLen) : OwnF tStr 9 (fun _ => False) w B A n c l := by
  have e := svs_flat l
  refine ⟨⟨l.map fun s => [Value.string s], by rw [e]; exact h, by simp, fun i cs x h1 h2 => ?_⟩, by simp, h.len⟩
  rw [List.getElem?_map, h2] at h1
  simp at h1
  subst h1
  exact ⟨rfl, hs x (List.mem_of_getElem? h2)⟩
theorem words_small {l : List ByteArray} (hs : ∀ s ∈ l, s.size ≤ 300) : ∀ s ∈ wordsS l, s.size ≤ 300 := by
  intro s h
  obtain ⟨b, hb, rfl⟩ := List.mem_map.1 h
  obtain ⟨t, ht, rfl⟩ := List.mem_map.1 ((mem_words l b).1 hb)
  exact hs t ht
theorem words_get (ws : List (List UInt8)) {k : Nat} (hk : k < ws.length) (hk2 : k < (ws.map mkS).length) : ((ws.map mkS)[k]).data.toList = ws.getD k [] := by
  rw [List.getElem_map, getD_at hk]
  simp [mkS]
theorem wf_small (k : Nat) (h : k ≤ 4096) : (Lit.int .i64 (k : Int)).wf = true := by
  have h1 : IntKind.i64.min = -9223372036854775808 := by decide
  have h2 : IntKind.i64.max = 9223372036854775807 := by decide
  show (decide (IntKind.i64.min ≤ (k : Int)) && decide ((k : Int) ≤ IntKind.i64.max)) = true
  rw [h1, h2]
  simp
  omega
theorem i64_lit (x : Int) (h : 0 ≤ x ∧ x ≤ 4096) : -9223372036854775808 ≤ x ∧ x ≤ 9223372036854775807 := by omega
theorem law9 : Keyed Tryz.prog 9 := string_keyed Tryz.underlying9
theorem zero3 (w : World) : (zeroValue 3).run Tryz.prog w = .ok (.int .i64 0) w := by kernel_rfl
/-- The column of texts.Put: its encoding, how many words, its streams. -/
def txC (l : List ByteArray) : Int × Int × List (Int × List UInt8) :=
  if l.length < 2 * (wordsL l).length then (1, 0, [(2, joinL l), (3, lensB l)])
  else (2, ((wordsL l).length : Int), [(2, rleB false (l.map fun s => (placeN l s : Int))), (3, lensB (wordsS l)), (4, joinL (wordsS l))])
def TxPost (l : List ByteArray) (w : World) (e : Ending) (w' : World) : Prop :=
  ∃ A n c, e = .returned (.tuple #[.agg #[.int .i64 (l.length : Int), .int .i64 (txC l).1, .int .i64 (txC l).2.1, .slice A n c], .int .i64 0]) ∧ Sl tStream (fun b => w.heap.size ≤ b) w' A n c (txC l).2.2 ∧ Below w.heap.size w w'
set_option maxRecDepth 100000 in
set_option maxHeartbeats 4000000 in
theorem tput_any (F : Nat → Prop) (A : Option Addr) (n c : Nat) (l : List ByteArray) (w : World) (h : Sl tStr F w A n c l) (hn : n ≤ 4096) (hs : ∀ s ∈ l, s.size ≤ 300) :
    Calls Tryz.prog 46 #[.slice A n c] w (TxPost l w) := by
  have HL := Lib.hid h.len; have H := Lib.hid h; have HS := Lib.hid hs
  have hn1 : ¬ (n : Int) > 4096 := by omega
  have hn2 : ¬ (4096 : Int) < n := by omega
  have hmm := @run_makeMap Tryz.prog
  have HWL := Lib.hid (words_len l)
  obtain ⟨m, hm⟩ : ∃ m, m = (wordsL l).length := ⟨_, rfl⟩
  have HM := Lib.hid hm
  obtain ⟨wc, hwc⟩ : ∃ wc, wc = w.alloc (.cells #[.int .i64 0, .int .i64 0, .int .i64 0, .slice none 0 0] 27) := ⟨_, rfl⟩
  have hbc : Below w.heap.size w wc := by rw [hwc]; exact (Below.refl _ _).alloc (Nat.le_refl _) _
  have hgc : wc.heap[w.heap.size]? = some (.cells #[.int .i64 0, .int .i64 0, .int .i64 0, .slice none 0 0] 27 (0, 0)) := by rw [hwc]; exact heap_alloc_new w _
  have HWC := Lib.hid hwc; have HBC := Lib.hid hbc; have HGC := Lib.hid hgc
  clear h hs hm hwc hbc hgc
  go_enter Tryz.func46, Tryz.ntmps46
  go_upto_region 1 with fail
  rw [← HWC.out]
  go_wp2_with (first
    | (go_at_call 97; refine (long_any F A n c l _ (H.out.below HBC.out (Nat.le_refl _)) HS.out (by omega)).mono ?_; rintro e w1 ⟨rfl, hb1⟩; have HB1 := Lib.hid hb1; have HW1 := Lib.hid (HBC.out.trans (hb1.mono HBC.out.size)); clear hb1)
    | (go_at_call 99; refine (words_any F A n c l _ (H.out.below (HW1.out.alloc HW1.out.size _) (Nat.le_refl _)) hn).mono ?_; rintro e w3 ⟨A3, c3, rfl, ho3, hb3⟩; rw [← HM.out] at ho3 ⊢; have HO3 := Lib.hid ho3; have HB3 := Lib.hid hb3; clear ho3 hb3)
    | fail)
  have hmap : w3.ownsMap Tryz.prog 9 (plainElem (H := Unit) Tryz.prog 3) w1.heap.size 0 (.map []) := (World.ownsMap_made w1 _ _ _).kept (grown_of_below (row := none) HB3.out) (by simp)
  have HOF := Lib.hid (ownS_F HO3.out (fun s hs => Nat.le_trans (words_small HS.out s hs) (by unfold maxLen; omega))).sl
  obtain ⟨mb, hmb⟩ : ∃ mb, mb = w1.heap.size := ⟨_, rfl⟩
  have HMB := Lib.hid hmb
  rw [← hmb] at hmap
  rw [← hmb]
  have HMAP := Lib.hid hmap
  have hm4 : m ≤ 4096 := by have := HWL.out; rw [← HM.out, ← HL.out] at this; omega
  clear hmap hmb
  go_loopw [28] (fun iv wr => ∃ k : Nat, k ≤ m ∧ iv = .int .i64 (k : Int) ∧ wr.ownsMap Tryz.prog 9 (plainElem (H := Unit) Tryz.prog 3) mb k (plD Unit (wordsL l) k) ∧ w3.grownBy wr (some mb)) (fun iv _ => m - (intOf iv).toNat)
  case atStart => exact ⟨0, Nat.zero_le _, rfl, HMAP.out, grown_of_below (Below.refl _ _)⟩
  case round =>
    obtain ⟨k, hk, rfl, hown, hgr⟩ := hrel
    have HGR := Lib.hid hgr
    by_cases hlt : k < m
    · have hkw : k < (wordsL l).length := by rw [← HM.out]; exact hlt
      have hkl : k < (wordsS l).length := by unfold wordsS; rw [List.length_map]; exact hkw
      obtain ⟨b, o, u, rfl, _, hbl, hr, hc⟩ := (HOF.out.keep hgr.size (fun b hb hl => hgr.block b hl (fun e => by
        injection e with e
        rcases hb with hb | hb
        · exact hb
        · have := hb.2; rw [World.size_alloc] at this; have := HMB.out; omega))).at1 hkl rfl
      obtain ⟨s, hs⟩ : ∃ s, s = (wordsS l)[k] := ⟨_, rfl⟩
      obtain ⟨hr, hsz⟩ := hr
      injection hr with hr; subst hr
      rw [← hs] at hc hsz
      have HSK := Lib.hid (show (wordsL l).getD k [] = s.data.toList by rw [hs]; exact (words_get (wordsL l) hkw hkl).symm)
      have hkey : Go.keyOf Tryz.prog 9 (.string s) = some (.string s.data.toList) := WideMaps.keyOf_string_mk Tryz.underlying9 hsz
      have hwf : (Lit.int .i64 (k : Int)).wf = true := wf_small k (by omega)
      have hi0 : (0 : Int) ≤ (k : Int) := by omega
      have hi1 : (k : Int) < (m : Int) := by omega
      clear hgr hs
      go_wp2_with (first
        | (at_mapUpdate; refine wpList_mapUpdate_own _ rfl _ _ _ 159 rfl 9 3 law9 Tryz.underlying159 _ mb k _ (by rfl) hown (by unfold maxLen; omega) _ _ _ (by rfl) (by rfl) hkey _ [] (plainElem_int Tryz.underlying3 hwf) ?_; intro w4 hown4 hgrow4)
        | fail)
      go_roundw
      case rel => exact ⟨k + 1, by omega, by go_num, by rw [plD, HSK.out]; exact hown4, grown_trans HGR.out hgrow4⟩
      case measure => simp [intOf]; omega
    · obtain rfl : k = m := by omega
      have hsize : Maps.size (plD Unit (wordsL l) k) = k := plD_size Unit _ (words_nodup l) k (by rw [← HM.out]; exact Nat.le_refl _)
      have hml := hown.len Tryz.underlying159
      rw [hsize] at hml
      have HOWN := Lib.hid hown
      have hw2 : Below w.heap.size w (w1.alloc (.map #[] 0)) := HW1.out.alloc HW1.out.size _
      have hmbl : w.heap.size < mb := by have := HB1.out.size; have := blk_lt HGC.out; have := HMB.out; omega
      have hbr : Below w.heap.size w wr := (hw2.trans (HB3.out.mono hw2.size)).grown hgr (hw2.trans (HB3.out.mono hw2.size)).size (fun q e => by injection e with e; omega)
      have hgw : wr.heap[w.heap.size]? = some (.cells #[.int .i64 0, .int .i64 0, .int .i64 0, .slice none 0 0] 27 (0, 0)) := by
        have h1 := blk_lt HGC.out
        have h2 : w.heap.size < w1.heap.size := by have := HB1.out.size; omega
        exact (hgr.block _ (by have := HB3.out.size; rw [World.size_alloc] at this; omega) (fun e => by injection e with e; omega)).trans ((HB3.out.block _ (by rw [World.size_alloc]; omega)).trans ((Below.heap_alloc w1 _ _ h2).trans ((HB1.out.block _ h1).trans HGC.out)))
      have HBR := Lib.hid hbr; have HGW := Lib.hid hgw
      clear hgr hown hsize hw2 hbr hgw
      go_upto_if 42 with fail
      by_cases hlt2 : n < 2 * k
      · have hI : (n : Int) < 2 * (k : Int) := by omega
        clear hml
        have hsb := fun w => run_sb w (mkS (joinL l))
        go_wp2_with (first
          | (go_at_call 100; refine (join_any F A n c l _ (H.out.below HBR.out (Nat.le_refl _)) hn HS.out).mono ?_; rintro e w5 ⟨rfl, hb5⟩; have HB5 := Lib.hid (HBR.out.trans (hb5.mono HBR.out.size)); have HW5 := Lib.hid hb5; clear hb5)
          | (go_at_call 101; refine (lens_any F A n c l _ (H.out.below ((HB5.out.alloc HB5.out.size _).drew) (Nat.le_refl _)) hn).mono ?_; rintro e w6 ⟨A6, n6, c6, rfl, ho6, hb6⟩; have hg6 : w6.heap[w.heap.size]? = some (.cells #[.int .i64 0, .int .i64 0, .int .i64 0, .slice none 0 0] 27 (0, 0)) := (hb6.block _ (by have h1 := blk_lt HGW.out; have h2 := HW5.out.size; simp; omega)).trans ((Below.heap_alloc w5 _ _ (by have h1 := blk_lt HGW.out; have h2 := HW5.out.size; omega)).trans ((HW5.out.block _ (blk_lt HGW.out)).trans HGW.out)); have hga : ∀ o : Obj, (w6.alloc o).heap[w.heap.size]? = some (.cells #[.int .i64 0, .int .i64 0, .int .i64 0, .slice none 0 0] 27 (0, 0)) := (fun o => (Below.heap_alloc w6 o _ (blk_lt hg6)).trans hg6); have z0 : ∀ o : Obj, (w6.alloc o).cell? ⟨w.heap.size, 0, none⟩ = some (.int .i64 0) := (fun o => by rw [Lib.cell_of_heap (hga o)]; rfl); have y0 : ∀ o : Obj, (w6.alloc o).frozen? ⟨w.heap.size, 0, none⟩ = false := (fun o => Lib.frozen_of_heap (hga o) 0); have z1 : ∀ o : Obj, (w6.alloc o).cell? ⟨w.heap.size, 1, none⟩ = some (.int .i64 0) := (fun o => by rw [Lib.cell_of_heap (hga o)]; rfl); have y1 : ∀ o : Obj, (w6.alloc o).frozen? ⟨w.heap.size, 1, none⟩ = false := (fun o => Lib.frozen_of_heap (hga o) 1); have z2 : ∀ o : Obj, (w6.alloc o).cell? ⟨w.heap.size, 2, none⟩ = some (.int .i64 0) := (fun o => by rw [Lib.cell_of_heap (hga o)]; rfl); have y2 : ∀ o : Obj, (w6.alloc o).frozen? ⟨w.heap.size, 2, none⟩ = false := (fun o => Lib.frozen_of_heap (hga o) 2); have z3 : ∀ o : Obj, (w6.alloc o).cell? ⟨w.heap.size, 3, none⟩ = some (.slice none 0 0) := (fun o => by rw [Lib.cell_of_heap (hga o)]; rfl); have y3 : ∀ o : Obj, (w6.alloc o).frozen? ⟨w.heap.size, 3, none⟩ = false := (fun o => Lib.frozen_of_heap (hga o) 3); clear hga; have HG6 := Lib.hid hg6; have HO6 := Lib.hid ho6; have HB6 := Lib.hid hb6; clear ho6 hb6 hg6)
          | fail)
        have e1 : txC l = (1, 0, [(2, joinL l), (3, lensB l)]) := if_pos (by rw [← HL.out, ← HM.out]; exact hlt2)
        have hb56 : Below (w5.alloc (sbObj w5 (mkS (joinL l)))).heap.size (w5.alloc (sbObj w5 (mkS (joinL l)))) w6 := (Below.refl _ _).drew.trans HB6.out
        have h5 : w.heap.size + 1 ≤ w5.heap.size := by have := blk_lt HGW.out; have := HW5.out.size; omega
        have hjl := joinL_len l HS.out
        rw [← HL.out] at hjl
        have s1 : Sl tU8 (fun b => w.heap.size + 1 ≤ b) w6 (some ⟨w5.heap.size, 0, none⟩) (mkS (joinL l)).size (sbCap w5 (mkS (joinL l))) (joinL l) :=
          ((sb_bs (w := w5) (w0 := w5) (s := mkS (joinL l)) (by show (joinL l).toArray.size ≤ _; simp [maxLen]; omega)).weaken (F' := fun b => w.heap.size + 1 ≤ b) (fun b hb _ => by omega)).below hb56 (Nat.le_refl _)
        have s2 : Sl tU8 (fun b => w.heap.size + 1 ≤ b) w6 A6 n6 c6 (lensB l) := HO6.out.own.sl.weaken fun b hb _ => by
          rcases hb with hb | hb
          · exact hb.elim
          · have h7 := hb.2
            simp at h7
            omega
        have h56 := HB6.out.size
        have hw6 : w5.heap.size + 1 ≤ w6.heap.size := by simpa using h56
        have s3 := Sl.news (T := tStream) (F := fun b => w.heap.size + 1 ≤ b) (w := w6) (Reps.mk2 (T := tStream) (x1 := ((2 : Int), joinL l)) (x2 := ((3 : Int), lensB l)) ⟨[.int .i64 2], _, rfl, ⟨rfl, i64_lit 2 (by omega)⟩, _, _, _, rfl, s1⟩ ⟨[.int .i64 3], _, rfl, ⟨rfl, i64_lit 3 (by omega)⟩, _, _, _, rfl, s2⟩) 55 2 rfl (by omega) _ rfl
        refine bodyPost_ret (results_rowB rfl _ _ w.heap.size 27 #[.int .i64 (n : Int), .int .i64 1, .int .i64 0, .slice (some ⟨w6.heap.size, 0, none⟩) 2 2] (0, 0) _ rfl (heap_set (heap_set (heap_set (heap_set ((Below.heap_alloc w6 _ _ (blk_lt HG6.out)).trans HG6.out) rfl) rfl) rfl) rfl) Tryz.underlying27 rfl (by kernel_rfl)) rfl ?_
        unfold TxPost
        rw [e1]
        refine ⟨some ⟨w6.heap.size, 0, none⟩, 2, 2, by rw [← HL.out]; rfl, (s3.keep (by simp) (fun b hb _ => ?_)).weaken (fun b hb _ => by rcases hb with hb | hb <;> omega), ?_⟩
        · have hne : b ≠ w.heap.size := by rcases hb with hb | hb <;> omega
          exact (Below.heap_setCell _ _ _ _ hne).trans ((Below.heap_setCell _ _ _ _ hne).trans ((Below.heap_setCell _ _ _ _ hne).trans (Below.heap_setCell _ _ _ _ hne)))
        · have hbb : Below w.heap.size w w6 := ((HB5.out.alloc HB5.out.size _).drew).trans (HB6.out.mono (by simp; omega))
          exact bsetc (bsetc (bsetc (bsetc (hbb.alloc (by omega) _) (Nat.le_refl _) _) (Nat.le_refl _) _) (Nat.le_refl _) _) (Nat.le_refl _) _
      · have hI : ¬ (n : Int) < 2 * (k : Int) := by omega
        clear hml
        obtain ⟨wq, hwq⟩ : ∃ wq, wq = wr := ⟨_, rfl⟩
        rw [← hwq] at HBR HGW HOWN ⊢
        go_wp2_with fail
        go_loopw [9, 56] (fun v iv wx => ∃ (j : Nat) (A5 : Option Addr) (c5 : Nat) (G : Nat → Prop), j ≤ n ∧ iv = .int .i64 (j : Int) ∧ v = .slice A5 j c5 ∧ OwnF tI64 3 G wx wq.heap.size A5 j c5 ((l.take j).map fun s : ByteArray => (placeN l s : Int)) ∧ Below wq.heap.size wq wx) (fun _ iv _ => n - (intOf iv).toNat)
        case atStart => exact ⟨0, none, 0, fun _ => False, Nat.zero_le _, rfl, rfl, OwnF.nil_ _ _ _ _ _, by rw [hwq]; exact Below.refl _ _⟩
        case round =>
          obtain ⟨j, A5, c5, G, hj, rfl, rfl, hown5, hb5⟩ := hrel
          have HO5 := Lib.hid hown5; have HB5 := Lib.hid hb5
          by_cases hjn : j < n
          · have hjl : j < l.length := by rw [← HL.out]; exact hjn
            have hbj : Below w.heap.size w _ := HBR.out.trans (hb5.mono HBR.out.size)
            obtain ⟨b, o, u, rfl, _, hbl, hr, hc⟩ := (H.out.below hbj (Nat.le_refl _)).at1 hjl rfl
            have hsj := List.getElem_mem hjl
            obtain ⟨t, ht⟩ : ∃ t, t = l[j] := ⟨_, rfl⟩
            obtain ⟨hr, hsz⟩ := hr
            injection hr with hr; subst hr
            rw [← ht] at hc hsz hsj
            have hkey : Go.keyOf Tryz.prog 9 (.string t) = some (.string t.data.toList) := WideMaps.keyOf_string_mk Tryz.underlying9 hsz
            have hpl := place_lt l hsj
            have hat := plD_at Unit (wordsL l) (words_nodup l) (.lit (.int .i64 0)) k (by rw [← HM.out]; exact Nat.le_refl _) (placeN l t) (by rw [HM.out]; exact hpl)
            rw [place_get l hsj] at hat
            have hp4 : placeN l t ≤ 4096 := by have := HM.out; omega
            have hp5 : (0 : Int) ≤ (placeN l t : Int) ∧ (placeN l t : Int) ≤ 4096 := by omega
            have HAT := Lib.hid hat; have HT := Lib.hid ht
            have hmj := HOWN.out.kept (grown_of_below (row := none) hb5) (by simp)
            have hi0 : (0 : Int) ≤ (j : Int) := by omega
            have hi1 : (j : Int) < (n : Int) := by omega
            clear hat ht hbj hown5 hb5
            go_wp2_with (first
              | (at_lookup; refine wpList_lookup_own_int _ rfl _ _ 159 rfl 9 3 .i64 law9 Tryz.underlying159 Tryz.underlying3 (zero3 _) mb k _ (by rfl) hmj _ _ (by rfl) hkey ?_; intro q hq hwq2; obtain rfl : q = (placeN l t : Int) := (by rw [HAT.out] at hq; injection hq with hq; injection hq with _ hq; exact hq.symm))
              | (at_builtin; refine apl1 (T := tI64) elemI64 wr wq rfl (.tmp 60) (.tmp 64) rfl wq.heap.size A5 j c5 ((l.take j).map fun s : ByteArray => (placeN l s : Int)) (by rfl) G (fun _ => False) HO5.out HB5.out (Nat.le_refl _) _ (by rfl) [.int .i64 (placeN l t : Int)] (placeN l t : Int) ⟨rfl, i64_lit _ hp5⟩ 3 rfl (fun _ _ _ _ h4 => h4) (by omega) ?_; intro A6 c6 w6 h6)
              | fail)
            go_roundw
            case rel => exact ⟨j + 1, A6, c6, _, by omega, by go_num, rfl, by rw [List.take_succ_eq_append_getElem hjl, List.map_append, ← HT.out]; exact h6.own, h6.below⟩
            case measure => simp [intOf]; omega
          · obtain rfl : j = n := by omega
            have htk : l.take j = l := List.take_of_length_le (by rw [← HL.out]; exact Nat.le_refl _)
            rw [htk] at hown5
            have HPS := Lib.hid hown5.sl
            have HOK := Lib.hid (show NumOk false (l.map fun s : ByteArray => (placeN l s : Int)) from by
              intro x hx
              obtain ⟨s, hs, rfl⟩ := List.mem_map.1 hx
              have h1 := place_lt l hs
              have h2 := HM.out
              exact ⟨by omega, by omega, .inr (by omega)⟩)
            have hbr5 : Below w.heap.size w wr := HBR.out.trans (hb5.mono HBR.out.size)
            have HB5 := Lib.hid hbr5
            have hgr5 : wr.heap[w.heap.size]? = some (.cells #[.int .i64 0, .int .i64 0, .int .i64 0, .slice none 0 0] 27 (0, 0)) := (hb5.block _ (blk_lt HGW.out)).trans HGW.out
            have HGR5 := Lib.hid hgr5
            have hwords := (HOF.out.keep HGR.out.size (fun b hb hl => HGR.out.block b hl (fun e => by
              injection e with e
              rcases hb with hb | hb
              · exact hb
              · have := hb.2; rw [World.size_alloc] at this; have := HMB.out; omega))).weaken (F' := fun _ => True) (fun _ _ _ => trivial)
            rw [← hwq] at hwords
            have HWS := Lib.hid (hwords.below hb5 (Nat.le_refl _))
            have HSM := Lib.hid (words_small HS.out)
            have hsb := fun w => run_sb w (mkS (joinL (wordsS l)))
            clear hown5 hb5 hbr5 hgr5 hwords htk
            go_upto_region 20 with (first
              | (go_at_call 92; refine (rle_any _ A5 j c5 _ _ HPS.out hn false HOK.out).mono ?_; rintro e w5 ⟨hb5, A7, n7, c7, rfl, ho5⟩; have HO7 := Lib.hid ho5; have HB7 := Lib.hid hb5; have HG7 := Lib.hid ((hb5.block _ (blk_lt HGR5.out)).trans HGR5.out); clear ho5 hb5)
              | fail)
            have HB8 := Lib.hid (HB5.out.trans (HB7.out.mono HB5.out.size))
            have HWS8 := Lib.hid (HWS.out.below HB7.out (Nat.le_refl _))
            have hG8 : Hid (w5.heap[w.heap.size]? = some (.cells #[.int .i64 0, .int .i64 0, .int .i64 0, .slice none 0 0] 27 (0, 0))) := HG7
            have hm4 := hm4
            go_wp2_with (first
              | (go_at_call 101; refine (lens_any _ A3 k c3 (wordsS l) _ HWS8.out hm4).mono ?_; rintro e w6 ⟨A6, n6, c6, rfl, ho6, hb6⟩; have HO6 := Lib.hid ho6; have HB6 := Lib.hid hb6; have HWS6 := Lib.hid (HWS8.out.below hb6 (Nat.le_refl _)); clear ho6 hb6)
              | (go_at_call 100; refine (join_any _ A3 k c3 (wordsS l) _ HWS6.out hm4 HSM.out).mono ?_; rintro e w8 ⟨rfl, hb8⟩; have HBJ := Lib.hid hb8; have hg8 : w8.heap[w.heap.size]? = some (.cells #[.int .i64 0, .int .i64 0, .int .i64 0, .slice none 0 0] 27 (0, 0)) := (hb8.block _ (by have h1 := blk_lt hG8.out; have h2 := HB6.out.size; omega)).trans ((HB6.out.block _ (blk_lt hG8.out)).trans hG8.out); have HG8 := Lib.hid hg8; have hga : ∀ o1 o2 : Obj, ((w8.alloc o1).alloc o2).heap[w.heap.size]? = some (.cells #[.int .i64 0, .int .i64 0, .int .i64 0, .slice none 0 0] 27 (0, 0)) := (fun o1 o2 => (Below.heap_alloc _ o2 _ (by rw [World.size_alloc]; exact Nat.lt_succ_of_lt (blk_lt hg8))).trans ((Below.heap_alloc w8 o1 _ (blk_lt hg8)).trans hg8)); have z0 : ∀ o1 o2 : Obj, ((w8.alloc o1).alloc o2).cell? ⟨w.heap.size, 0, none⟩ = some (.int .i64 0) := (fun o1 o2 => by rw [Lib.cell_of_heap (hga o1 o2)]; rfl); have y0 : ∀ o1 o2 : Obj, ((w8.alloc o1).alloc o2).frozen? ⟨w.heap.size, 0, none⟩ = false := (fun o1 o2 => Lib.frozen_of_heap (hga o1 o2) 0); have z1 : ∀ o1 o2 : Obj, ((w8.alloc o1).alloc o2).cell? ⟨w.heap.size, 1, none⟩ = some (.int .i64 0) := (fun o1 o2 => by rw [Lib.cell_of_heap (hga o1 o2)]; rfl); have y1 : ∀ o1 o2 : Obj, ((w8.alloc o1).alloc o2).frozen? ⟨w.heap.size, 1, none⟩ = false := (fun o1 o2 => Lib.frozen_of_heap (hga o1 o2) 1); have z2 : ∀ o1 o2 : Obj, ((w8.alloc o1).alloc o2).cell? ⟨w.heap.size, 2, none⟩ = some (.int .i64 0) := (fun o1 o2 => by rw [Lib.cell_of_heap (hga o1 o2)]; rfl); have y2 : ∀ o1 o2 : Obj, ((w8.alloc o1).alloc o2).frozen? ⟨w.heap.size, 2, none⟩ = false := (fun o1 o2 => Lib.frozen_of_heap (hga o1 o2) 2); have z3 : ∀ o1 o2 : Obj, ((w8.alloc o1).alloc o2).cell? ⟨w.heap.size, 3, none⟩ = some (.slice none 0 0) := (fun o1 o2 => by rw [Lib.cell_of_heap (hga o1 o2)]; rfl); have y3 : ∀ o1 o2 : Obj, ((w8.alloc o1).alloc o2).frozen? ⟨w.heap.size, 3, none⟩ = false := (fun o1 o2 => Lib.frozen_of_heap (hga o1 o2) 3); clear hb8 hg8 hga)
              | fail)
            have e1 : txC l = (2, (k : Int), [(2, rleB false (l.map fun s : ByteArray => (placeN l s : Int))), (3, lensB (wordsS l)), (4, joinL (wordsS l))]) := by
              rw [HM.out]
              exact if_neg (by rw [← HL.out, ← HM.out]; exact hlt2)
            have hjl := joinL_len (wordsS l) HSM.out
            have hwl : (wordsS l).length = k := by rw [HM.out]; unfold wordsS; rw [List.length_map]
            rw [hwl] at hjl
            have h5 : w.heap.size + 1 ≤ wr.heap.size := by have := blk_lt HGR5.out; omega
            have h57 := HB7.out.size
            have h67 := HB6.out.size
            have h87 := HBJ.out.size
            have hb58 : Below w5.heap.size w5 (w8.alloc (sbObj w8 (mkS (joinL (wordsS l))))).drew := ((HB6.out.trans (HBJ.out.mono HB6.out.size)).alloc (by omega) _).drew
            have hb68 : Below w6.heap.size w6 (w8.alloc (sbObj w8 (mkS (joinL (wordsS l))))).drew := (HBJ.out.alloc (by omega) _).drew
            have s1 : Sl tU8 (fun b => w.heap.size + 1 ≤ b) (w8.alloc (sbObj w8 (mkS (joinL (wordsS l))))).drew A7 n7 c7 (rleB false (l.map fun s : ByteArray => (placeN l s : Int))) := (HO7.out.own.sl.below hb58 (Nat.le_refl _)).weaken fun b hb _ => by
              rcases hb with hb | hb
              · exact hb.elim
              · have h7 := hb.2
                omega
            have s2 : Sl tU8 (fun b => w.heap.size + 1 ≤ b) (w8.alloc (sbObj w8 (mkS (joinL (wordsS l))))).drew A6 n6 c6 (lensB (wordsS l)) := (HO6.out.own.sl.below hb68 (Nat.le_refl _)).weaken fun b hb _ => by
              rcases hb with hb | hb
              · exact hb.elim
              · have h7 := hb.2
                omega
            have s4 : Sl tU8 (fun b => w.heap.size + 1 ≤ b) (w8.alloc (sbObj w8 (mkS (joinL (wordsS l))))).drew (some ⟨w8.heap.size, 0, none⟩) (mkS (joinL (wordsS l))).size (sbCap w8 (mkS (joinL (wordsS l)))) (joinL (wordsS l)) :=
              ((sb_bs (w := w8) (w0 := w8) (s := mkS (joinL (wordsS l))) (by show (joinL (wordsS l)).toArray.size ≤ _; simp [maxLen]; omega)).weaken (F' := fun b => w.heap.size + 1 ≤ b) (fun b hb _ => by omega)).drew
            have s3 := Sl.news (T := tStream) (F := fun b => w.heap.size + 1 ≤ b) (w := (w8.alloc (sbObj w8 (mkS (joinL (wordsS l))))).drew) (Reps.mk3 (T := tStream) (x1 := ((2 : Int), rleB false (l.map fun s : ByteArray => (placeN l s : Int)))) (x2 := ((3 : Int), lensB (wordsS l))) (x3 := ((4 : Int), joinL (wordsS l))) ⟨[.int .i64 2], _, rfl, ⟨rfl, i64_lit 2 (by omega)⟩, _, _, _, rfl, s1⟩ ⟨[.int .i64 3], _, rfl, ⟨rfl, i64_lit 3 (by omega)⟩, _, _, _, rfl, s2⟩ ⟨[.int .i64 4], _, rfl, ⟨rfl, i64_lit 4 (by omega)⟩, _, _, _, rfl, s4⟩) 55 3 rfl (by omega) _ rfl
            have hg9 : (w8.alloc (sbObj w8 (mkS (joinL (wordsS l))))).drew.heap[w.heap.size]? = some (.cells #[.int .i64 0, .int .i64 0, .int .i64 0, .slice none 0 0] 27 (0, 0)) := (Below.heap_alloc w8 _ _ (blk_lt HG8.out)).trans HG8.out
            refine bodyPost_ret (results_rowB rfl _ _ w.heap.size 27 #[.int .i64 (j : Int), .int .i64 2, .int .i64 (k : Int), .slice (some ⟨w8.heap.size + 1, 0, none⟩) 3 3] (0, 0) _ rfl (heap_set (heap_set (heap_set (heap_set ((Below.heap_alloc _ _ _ (blk_lt hg9)).trans hg9) rfl) rfl) rfl) rfl) Tryz.underlying27 rfl (by kernel_rfl)) rfl ?_
            unfold TxPost
            rw [e1]
            have hsz9 : (w8.alloc (sbObj w8 (mkS (joinL (wordsS l))))).drew.heap.size = w8.heap.size + 1 := by simp
            rw [hsz9] at s3
            refine ⟨some ⟨w8.heap.size + 1, 0, none⟩, 3, 3, by rw [← HL.out]; rfl, (s3.keep (by simp) (fun b hb _ => ?_)).weaken (fun b hb _ => by rcases hb with hb | hb <;> omega), ?_⟩
            · have hne : b ≠ w.heap.size := by rcases hb with hb | hb <;> omega
              exact (Below.heap_setCell _ _ _ _ hne).trans ((Below.heap_setCell _ _ _ _ hne).trans ((Below.heap_setCell _ _ _ _ hne).trans (Below.heap_setCell _ _ _ _ hne)))
            · have hbb : Below w.heap.size w (w8.alloc (sbObj w8 (mkS (joinL (wordsS l))))).drew := HB8.out.trans (hb58.mono HB8.out.size)
              exact bsetc (bsetc (bsetc (bsetc (hbb.alloc hbb.size _) (Nat.le_refl _) _) (Nat.le_refl _) _) (Nat.le_refl _) _) (Nat.le_refl _) _
end Go.Proofs.YtpmglcachffojaaGreatDoor
