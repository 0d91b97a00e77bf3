/- A part of what Chunks leans on. -/
import Derived.Test.YtpmglcachffojaaGreatDoorZ35
import Derived.Test.YtpmglcachffojaaGreatDoorZ37
set_option maxRecDepth 100000
set_option maxHeartbeats 16000000
namespace Go.Proofs.YtpmglcachffojaaGreatDoor
section
open Go Go.RowKit
def vS (i : Nat) : VV := ⟨false, (i : Int), ⟨#[]⟩⟩
def yyo (k : Nat) : List RR := (List.range k).map fun i => [vS i]
def xxB : List CC := [(⟨#[97]⟩, 2)]
theorem qxL (k : Nat) : yyo (k + 1) = yyo k ++ [[vS k]] := by unfold yyo; rw [List.range_succ, List.map_append]; rfl
theorem vvv (k : Nat) : (yyo k).length = k := by unfold yyo; simp
theorem sch_S : schB xxB = true := by decide +kernel
theorem rows_S : (yyo 9).all (rowB xxB) = true := by decide +kernel
theorem putE_S : putE xxB (yyo 9) = 0 := qzR sch_S (by rw [vvv]; omega) rows_S
theorem nP_S : nP (yyo 9) = 2 := by unfold nP; rw [vvv]
theorem putS_S : putS xxB (yyo 9) = [zzY xxB (zz8 (yyo 9) 0), zzY xxB (zz8 (yyo 9) 1)] := by rw [(put_yes putE_S).2, nP_S]; rfl
theorem fst_S0 : (zzY xxB (zz8 (yyo 9) 0)).1 = 8 := by show ((zz8 (yyo 9) 0).length : Int) = 8; rw [uuW, vvv]; rfl
theorem fst_S1 : (zzY xxB (zz8 (yyo 9) 1)).1 = 1 := by show ((zz8 (yyo 9) 1).length : Int) = 1; rw [uuW, vvv]; rfl
theorem vS_ok {k : Nat} (h : k ≤ 100) : (vS k).ok := ⟨by show -9223372036854775808 ≤ (k : Int); omega, by show (k : Int) ≤ 9223372036854775807; omega, Nat.zero_le _⟩
theorem colsS_sl (w : World) : Sl tCol (fun b => b = w.heap.size) (w.alloc (.cells #[.string ⟨#[97]⟩, .int .i64 2] 93)) (some ⟨w.heap.size, 0, none⟩) 1 1 xxB :=
 (Sl.new (T := tCol) (F := fun _ => False) (cs := [.string ⟨#[97]⟩, .int .i64 2]) (x := (⟨#[97]⟩, 2)) ⟨[.string ⟨#[97]⟩], [.int .i64 2], rfl, ⟨rfl, by decide⟩, rfl, by decide, by decide⟩ 93 _ rfl).weaken fun b hb _ => hb.elim (fun h => h.1.elim) id
theorem qzV (w : World) (hU : Lib.Utf8Tabs 0 1 w) : Calls Tryz.prog 17 #[] w fun e w' => e = .returned (.bool true) ∧ Below w.heap.size w w' := by
 have HU := zH hU
 clear hU
 go_enter Tryz.func17, Tryz.ntmps17
 go_upto_region 2 with (first
  | (go_at_call 19; refine (xqi _).mono ?_; rintro e w1 ⟨rfl, hb1⟩; have HB1 := zH hb1; clear hb1; obtain ⟨w2, ht2⟩ := tabW w1; have HT2 := zH ht2; clear ht2)
  | (with_reducible refine wpList_store_mid rfl _ _ _ rfl w1.heap.size 0 uuv rfl rfl (kqH w1) (by kernel_rfl) xq5 ?_)
  | fail)
 rw [← HT2.out.eq]
 obtain ⟨g, hg⟩ : ∃ g, g = w1.heap.size := ⟨_, rfl⟩
 have HTG : Hid (TabC g w2) := zH (by rw [hg]; exact HT2.out.tab)
 have HB2 := zH (HB1.out.trans (HT2.out.below.mono HB1.out.size))
 rw [← hg]
 clear hg
 go_wp2_with fail
 go_loopw [2, 3] (fun sv kv wr => ∃ (k : Nat) (A2 : Option Addr) (c2 : Nat) (G : Nat → Prop), k ≤ 9 ∧ kv = .int .i64 (k : Int) ∧ sv = .slice A2 k c2 ∧ OwnF tRow 91 G wr w2.heap.size A2 k c2 (yyo k) ∧ Below w2.heap.size w2 wr) (fun _ kv _ => 9 - (intOf kv).toNat)
 case atStart => exact ⟨0, _, _, fun _ => False, by omega, rfl, rfl, OwnF.empty _ _ _ _ _ zN (fun _ h => h.elim), (zR).alloc zN _⟩
 case round =>
  obtain ⟨k, A2, c2, G, hk, rfl, rfl, ho, hb⟩ := hrel
  have HO := zH ho; have HB := zH hb
  clear ho hb
  by_cases hlt : k < 9
  · have h1 : (k : Int) < 9 := by omega
    obtain ⟨q, hq⟩ : ∃ q, q = wr.alloc (.cells #[.bool false, .int .i64 (k : Int), .string ⟨#[]⟩] 74) := ⟨_, rfl⟩
    have HOQ : Hid (OwnF tRow 91 G q w2.heap.size A2 k c2 (yyo k)) := zH (by rw [hq]; exact HO.out.alloc _)
    have HBQ : Hid (Below w2.heap.size w2 q) := zH (by rw [hq]; exact HB.out.alloc HB.out.size _)
    have HSQ : Hid (tRow.rep (fun b => b = wr.heap.size) q [.slice (some ⟨wr.heap.size, 0, none⟩) 1 1] [vS k]) := zH (by
     rw [hq]
     exact ⟨_, _, _, rfl, (Sl.new (T := tVV) (F := fun _ => False) (cs := [.bool false, .int .i64 (k : Int), .string ⟨#[]⟩]) (x := vS k) ⟨rfl, vS_ok (by omega)⟩ 74 _ rfl).weaken fun b hb _ => hb.elim (fun h => h.1.elim) id⟩)
    have HQZ : Hid (q.heap.size = wr.heap.size + 1) := zH (by rw [hq, zS])
    have HS9 := zH (qxL k)
    have HQ := zH hq
    clear hq
    go_wp2_with (first
     | (at_builtin; rw [← HQ.out]; refine apl1 (T := tRow) xq4 q w2 rfl (.tmp 13) (.tmp 17) rfl w2.heap.size A2 k c2 (yyo k) (by rfl) G (fun b => b = wr.heap.size) HOQ.out HBQ.out zN _ (by rw [HQZ.out]; rfl) [.slice (some ⟨wr.heap.size, 0, none⟩) 1 1] [vS k] HSQ.out 91 rfl (fun b e _ _ h4 => by have h5 := (HO.out.lies' (b := b) (by rw [e]; rfl)).2.2; omega) (by omega) ?_; intro A5 c5 w5 h5)
     | fail)
    go_roundw
    case rel => exact ⟨k + 1, A5, c5, _, by omega, by go_num, rfl, by rw [HS9.out]; exact h5.own, h5.below⟩
    case measure => simp [intOf]; omega
  · obtain rfl : k = 9 := by omega
    have HB3 := zH (HB2.out.trans (HB.out.mono HB2.out.size))
    have HS := zH HO.out.sl
    obtain ⟨wq, hwq⟩ : ∃ wq, wq = wr.alloc (.cells #[.string ⟨#[97]⟩, .int .i64 2] 93) := ⟨_, rfl⟩
    have hbq : Below wr.heap.size wr wq := by rw [hwq]; exact (zR).alloc zN _
    have HCQ : Hid (Sl tCol (fun b => b = wr.heap.size) wq (some ⟨wr.heap.size, 0, none⟩) 1 1 xxB) := zH (by rw [hwq]; exact colsS_sl wr)
    have HSQ := zH (HS.out.below hbq zN)
    have HTQ : Hid (TabC g wq) := zH ((HTG.out.keep HB.out).keep hbq)
    have HBQ := zH (HB3.out.trans (hbq.mono HB3.out.size))
    have HUQ := zH (zze HU.out HBQ.out)
    have HWQ := zH hwq
    clear hwq hbq
    go_upto_region 8 with (first
     | (go_at_call 20; rw [← HWQ.out]; refine (sput_any g _ _ _ A2 1 1 9 c2 xxB (yyo 9) wq HTQ.out HCQ.out HSQ.out (by omega) (by omega) HUQ.out).mono ?_; rintro e w5 ⟨A5, n5, c5, A6, n6, c6, rfl, hs5, hs6, hb5⟩; rw [putE_S]; rw [putS_S] at hs6; have HB5 := zH (HBQ.out.trans (hb5.mono HBQ.out.size)); have HS6 := zH hs6; clear hs5 hs6 hb5)
     | fail)
    obtain rfl : n6 = 2 := HS6.out.len
    obtain ⟨b, o, cs, rfl, _, _, hrep, hc⟩ := HS6.out.at_ (k := 0) (by simp) (by decide)
    obtain ⟨A7, n7, c7, A8, n8, c8, rfl, -, -⟩ := kqV hrep
    have y0 := hc 0 _ rfl
    rw [show ([zzY xxB (zz8 (yyo 9) 0), zzY xxB (zz8 (yyo 9) 1)] : List ST)[0] = zzY xxB (zz8 (yyo 9) 0) from rfl, fst_S0] at y0
    obtain ⟨b', o', cs, e1, _, _, hrep', hc'⟩ := HS6.out.at_ (k := 1) (by simp) (by decide)
    injection e1 with e1; injection e1 with e1 e2; subst e1 e2
    obtain ⟨A9, n9, c9, A10, n10, c10, rfl, -, -⟩ := kqV hrep'
    have y1 := hc' 0 _ rfl
    rw [show ([zzY xxB (zz8 (yyo 9) 0), zzY xxB (zz8 (yyo 9) 1)] : List ST)[1] = zzY xxB (zz8 (yyo 9) 1) from rfl, fst_S1] at y1
    have y0 : w5.cell? ⟨b, o, none⟩ = some (.int .i64 8) := by
     have e : o + (0 * tSt.size + 0) = o := by omega
     rw [e] at y0; exact y0
    have y1 : w5.cell? ⟨b, o + 3, none⟩ = some (.int .i64 1) := by
     have e : o + (1 * tSt.size + 0) = o + 3 := rfl
     rw [e] at y1; exact y1
    clear hrep hrep' hc hc'
    go_wp2_with fail
    go_ret
    exact ⟨rfl, HB5.out⟩
end
section
open Go Go.RowKit
def cutF (s : Int × List UInt8) : Int × List UInt8 := (s.1, s.2.take 600)
def cutS (ss : List (Int × List UInt8)) : List (Int × List UInt8) := (ss.take 6).map cutF
theorem cutS_len (ss : List (Int × List UInt8)) : (cutS ss).length ≤ 6 := by unfold cutS; rw [List.length_map, List.length_take]; omega
theorem cutS_all (ss : List (Int × List UInt8)) : ∀ x ∈ cutS ss, x.2.length ≤ 600 := by
 intro x hx
 obtain ⟨y, _, rfl⟩ := List.mem_map.1 hx
 show (y.2.take 600).length ≤ 600
 rw [List.length_take]; omega
theorem cutS_wlen (m en tx : Int) (ss : List (Int × List UInt8)) : wlen (zzI m en tx (cutS ss)) ≤ 4000 := by
 have h1 := uuU m en tx (cutS ss) 600 (cutS_all ss)
 have h2 := cutS_len ss
 have h3 : (cutS ss).length * (40 + 600) ≤ 6 * (40 + 600) := Nat.mul_le_mul_right _ h2
 omega
theorem cutS_snoc {ss : List (Int × List UInt8)} {k : Nat} (hk : k < ss.length) : ((ss.take (k + 1)).map cutF) = (ss.take k).map cutF ++ [cutF ss[k]] := by
 rw [zT hk, List.map_append]; rfl
theorem boxW (m en tx : Int) (A : Option Addr) (n c : Nat) (w : World) : ∃ w1, w1 = w.alloc (.cells #[.int .i64 m, .int .i64 en, .int .i64 tx, .slice A n c] 27) ∧ w1.heap[w.heap.size]? = some (.cells #[.int .i64 m, .int .i64 en, .int .i64 tx, .slice A n c] 27 (0, 0)) ∧ Below w.heap.size w w1 ∧ w1.heap.size = w.heap.size + 1 :=
 ⟨_, rfl, heap_alloc_new w _, (Below.refl _ w).alloc zN _, by simp⟩
theorem vv0 (m en tx : Int) (F : Nat → Prop) (A : Option Addr) (n c : Nat) (ss : List (Int × List UInt8)) (F2 : Nat → Prop) (A2 : Option Addr) (n2 c2 : Nat) (bs : List UInt8) (sb : Bool) (w : World) (h : Sl zzm F w A n c ss) (h2 : Sl tU8 F2 w A2 n2 c2 bs) (hU : Lib.Utf8Tabs 0 1 w) :
 Calls Tryz.prog 5 #[.agg #[.int .i64 m, .int .i64 en, .int .i64 tx, .slice A n c], .slice A2 n2 c2, .bool sb] w fun e w' => e = .returned (.bool true) ∧ Below w.heap.size w w' := by
 obtain ⟨w1, hw1, hg1, hb1, hz1⟩ := boxW m en tx A n c w
 have HL := zH h.len
 have HH := zH ((h.weaken (F' := fun b => F b ∧ b < w.heap.size) fun b hb hl => ⟨hb, hl⟩).below hb1 zN); have HH2 := zH ((h2.weaken (F' := fun b => F2 b ∧ b < w.heap.size) fun b hb hl => ⟨hb, hl⟩).below hb1 zN); have HU := zH (zze hU hb1)
 have HC2 := zH h2.2.1
 have HW1 := zH hw1; have HG1 := zH hg1; have HB1 := zH hb1; have HZ1 := zH hz1
 clear hw1 hg1 hb1 hz1 h h2 hU
 go_enter Tryz.func5, Tryz.ntmps5
 go_upto_region 3 with (first
  | (go_at_call 17; rw [← HW1.out]; refine (qzV _ HU.out).mono ?_; rintro e w2 ⟨rfl, hb2⟩; have HB2 := zH hb2; clear hb2)
  | fail)
 have HG2 := zH ((HB2.out.block _ (by have := HZ1.out; omega)).trans HG1.out)
 have HH3 := zH (HH.out.below HB2.out zN)
 have HZ2 := zH HB2.out.size
 go_wp2_with fail
 go_loopw [8, 9] (fun lv iv wr => ∃ (k : Nat) (A3 : Option Addr) (c3 : Nat), k ≤ n ∧ k ≤ 6 ∧ iv = .int .i64 (k : Int) ∧ lv = .slice A3 k c3 ∧ OwnF zzm 55 (fun b => F b ∧ b < w.heap.size) wr w2.heap.size A3 k c3 ((ss.take k).map cutF) ∧ Below w2.heap.size w2 wr) (fun _ iv _ => 6 - (intOf iv).toNat)
 case atStart => exact ⟨0, _, _, Nat.zero_le _, Nat.zero_le _, rfl, rfl, OwnF.empty _ _ _ _ _ zN (fun _ h => by have := h.2; have := HZ1.out; have := HZ2.out; omega), (zR).alloc zN _⟩
 case round =>
  obtain ⟨k, A3, c3, hk, hk6, rfl, rfl, ho, hb⟩ := hrel
  have HO := zH ho; have HB := zH hb
  have hgr := (hb.block w.heap.size (by have := HZ1.out; have := HZ2.out; omega)).trans HG2.out
  have a3 : wr.cell? ⟨w.heap.size, 3, none⟩ = some (.slice A n c) := (zzn hgr).2.2.2.1
  clear ho hb
  by_cases hlt : k < n ∧ k < 6
  · obtain ⟨hkn, hk6'⟩ := hlt
    have hkl : k < ss.length := by rw [← HL.out]; exact hkn
    obtain ⟨b8, o8, cs, rfl, hbF, hbl, hrep, hc⟩ := (HH3.out.below HB.out zN).at_ hkl (by decide)
    obtain ⟨x, hf⟩ : ∃ x, x = ss[k] := ⟨_, rfl⟩
    obtain ⟨kk, bb⟩ := x
    have HS := zH (show (ss.take (k + 1)).map cutF = (ss.take k).map cutF ++ [(kk, bb.take 600)] by rw [cutS_snoc hkl, ← hf]; rfl)
    rw [← hf] at hrep
    obtain ⟨d1, d2, rfl, ⟨h1, h1'⟩, A8, n8, c8, h2, hsl⟩ := hrep
    subst h1 h2
    obtain ⟨g0, g1⟩ := xxS hc
    have g0 : _ = some (Value.int .i64 kk) := g0
    have g1 : _ = some (Value.slice A8 n8 c8) := g1
    have HSL := zH hsl; have HKK := zH h1'
    have HC8 := zH hsl.2.1; have HL8 := zH hsl.len
    have i0 : (0 : Int) ≤ (k : Int) := by omega
    have i1 : (k : Int) < (n : Int) := by omega
    have i6 : (k : Int) < 6 := by omega
    clear hc hf hsl h1' hbF hkn hk6'
    by_cases hbig : (n8 : Int) > 600
    · have hc8 : (600 : Int) ≤ (c8 : Int) := by have := HC8.out; omega
      have HX := zH (HSL.out.fst (k := 600) (by omega))
      clear hgr
      go_wp2_with (first
       | (at_builtin; refine apl1 (T := zzm) yy3 (wr.alloc (.cells #[.int .i64 kk, .slice A8 600 c8] 55)) w2 rfl (.tmp 43) (.tmp 45) rfl w2.heap.size A3 k c3 ((ss.take k).map cutF) (by rfl) (fun b => F b ∧ b < w.heap.size) (fun b => F b ∧ b < w.heap.size) (HO.out.alloc _) (HB.out.alloc HB.out.size _) zN _ (by rw [zS]; rfl) [.int .i64 kk, .slice A8 600 c8] (kk, bb.take 600) ⟨[.int .i64 kk], [.slice A8 600 c8], rfl, ⟨rfl, HKK.out⟩, ⟨A8, 600, c8, rfl, HX.out.alloc _⟩⟩ 55 rfl (fun b _ hB _ h => by have := h.2; have := HZ1.out; have := HZ2.out; omega) (by omega) ?_; intro A5 c5 w5 h5)
       | fail)
      go_roundw
      case rel => exact ⟨k + 1, A5, c5, by omega, by omega, by go_num, rfl, by rw [HS.out]; exact h5.own.weaken (fun b hb _ => hb.1.elim id id) (fun b _ hB _ h => by have := h.2; have := HZ1.out; have := HZ2.out; omega), h5.below⟩
      case measure => simp [intOf]; omega
    · have HE : Hid (bb.take 600 = bb) := zH (zL (by rw [← HL8.out]; omega))
      clear hgr
      go_wp2_with (first
       | (at_builtin; refine apl1 (T := zzm) yy3 (wr.alloc (.cells #[.int .i64 kk, .slice A8 n8 c8] 55)) w2 rfl (.tmp 43) (.tmp 45) rfl w2.heap.size A3 k c3 ((ss.take k).map cutF) (by rfl) (fun b => F b ∧ b < w.heap.size) (fun b => F b ∧ b < w.heap.size) (HO.out.alloc _) (HB.out.alloc HB.out.size _) zN _ (by rw [zS]; rfl) [.int .i64 kk, .slice A8 n8 c8] (kk, bb.take 600) ⟨[.int .i64 kk], [.slice A8 n8 c8], rfl, ⟨rfl, HKK.out⟩, ⟨A8, n8, c8, rfl, by rw [HE.out]; exact HSL.out.alloc _⟩⟩ 55 rfl (fun b _ hB _ h => by have := h.2; have := HZ1.out; have := HZ2.out; omega) (by omega) ?_; intro A5 c5 w5 h5)
       | fail)
      go_roundw
      case rel => exact ⟨k + 1, A5, c5, by omega, by omega, by go_num, rfl, by rw [HS.out]; exact h5.own.weaken (fun b hb _ => hb.1.elim id id) (fun b _ hB _ h => by have := h.2; have := HZ1.out; have := HZ2.out; omega), h5.below⟩
      case measure => simp [intOf]; omega
  · have HCS : Hid ((ss.take k).map cutF = cutS ss) := zH (by
     unfold cutS
     by_cases h6 : k = 6
     · rw [h6]
     · rw [zL (by rw [← HL.out]; omega), zL (by rw [← HL.out]; omega)])
    have HK6 := zH hk6
    have hends : (¬ (k : Int) < (n : Int)) ∨ ((k : Int) < (n : Int) ∧ ¬ (k : Int) < 6) := by omega
    obtain ⟨L, hL⟩ : ∃ L, L = cutS ss := ⟨_, rfl⟩
    have hLW := cutS_wlen m en tx ss
    rw [← hL] at HCS hLW
    have HLW := zH hLW
    rw [HCS.out] at HO
    have HGR := zH hgr
    clear hlt hk6 hL hLW
    rcases hends with h1 | ⟨h1, h1'⟩
    all_goals
     obtain ⟨w3, hw3, hg3, hb3, hs3⟩ : ∃ w3, w3 = wr.setCell ⟨w.heap.size, 3, none⟩ (.slice A3 k c3) ∧ w3.heap[w.heap.size]? = some (.cells #[.int .i64 m, .int .i64 en, .int .i64 tx, .slice A3 k c3] 27 (0, 0)) ∧ Below w.heap.size w w3 ∧ OwnF zzm 55 (fun b => F b ∧ b < w.heap.size) w3 w2.heap.size A3 k c3 L :=
      ⟨_, rfl, zza HGR.out rfl, zzd (HB1.out.trans ((HB2.out.mono HB1.out.size).trans (HB.out.mono (Nat.le_trans HB1.out.size HB2.out.size)))) zN _, HO.out.setCell (fun h => by have := h.2; exact Nat.lt_irrefl _ this) (fun e => by have h9 := (HO.out.lies' (b := w.heap.size) (by rw [e]; rfl)).2.1; have := HZ1.out; have := HZ2.out; omega) _⟩
     have f3 := zF HGR.out 3
     have HW3 := zH hw3; have HG3 := zH hg3; have HB3 := zH hb3; have HS3 := zH hs3
     clear hgr hw3 hg3 hb3 hs3
     have HH4 : Hid (Sl tU8 (fun b => F2 b ∧ b < w.heap.size) w3 A2 n2 c2 bs) := zH (by rw [HW3.out]; exact ((HH2.out.below HB2.out zN).below HB.out zN).setCell (p := ⟨w.heap.size, 3, none⟩) (fun h => by have := h.2; exact Nat.lt_irrefl _ this) _)
     have HU3 : Hid (w.heap.size + 1 ≤ w3.heap.size) := zH (by have := zzb HG3.out; omega)
     go_upto_if 51 with fail
     rw [← HW3.out]
     go_cut [1] from 51 to 53 (fun s1 wx => ∃ n4, w3 = wx ∧ s1 = .slice A2 n4 c2 ∧ n4 ≤ 1000 ∧ Sl tU8 (fun b => F2 b ∧ b < w.heap.size) w3 A2 n4 c2 (bs.take 1000))
     case first =>
      by_cases h8 : (n2 : Int) > 1000
      · have h9 : (1000 : Int) ≤ (c2 : Int) := by have := HC2.out; omega
        have HX := zH (HH4.out.fst (k := 1000) (by omega))
        go_wp2_with fail
        go_meet
        exact ⟨1000, rfl, rfl, Nat.le_refl _, HX.out⟩
      · have HY : Hid (bs.take 1000 = bs) := zH (zL (by rw [← HH4.out.len]; omega))
        have HM : Hid (n2 ≤ 1000) := zH (by omega)
        go_wp2_with fail
        go_meet
        exact ⟨n2, rfl, rfl, HM.out, by rw [HY.out]; exact HH4.out⟩
     obtain ⟨n4, rfl, rfl, hn4, hs4⟩ := hcut
     have HS4 := zH hs4; have HN4 := zH hn4
     clear hs4 hn4
     go_upto_if 54 with fail
     go_cut [1] from 55 to 56 (fun s1 wx => ∃ A4 n5 c5 B1, s1 = .slice A4 n5 c5 ∧ Below w3.heap.size w3 wx ∧ n5 ≤ 1004 ∧ Sl tU8 (fun _ => True) wx A4 n5 c5 B1)
     case first =>
      cases sb with
      | true =>
        go_wp2_with (first
         | (go_at_call 26; refine (vvh _ A2 n4 c2 (bs.take 1000) _ HS4.out (by have := HN4.out; omega)).mono ?_; rintro e w4 ⟨A4, n5, c5, rfl, ho4, hb4⟩; have HO4 := zH ho4; have HB4 := zH hb4; clear ho4 hb4)
         | fail)
        go_meet
        exact ⟨A4, n5, c5, _, rfl, HB4.out, by rw [HO4.out.len, kqo, ← HS4.out.len]; have := HN4.out; omega, HO4.out.bs.any⟩
      | false =>
        go_wp2_with fail
        go_meet
        exact ⟨A2, n4, c2, _, rfl, zR, by have := HN4.out; omega, HS4.out.any⟩
     obtain ⟨A4, n5, c5, B1, rfl, hb4, hn5, hs5⟩ := hcut
     have HB4 := zH (HB3.out.trans (hb4.mono (by have := HU3.out; omega)))
     have HG4 := zH ((hb4.block _ (by have := HU3.out; omega)).trans HG3.out)
     have HS5 := zH hs5; have HN5 := zH hn5
     have HO5 := zH (HS3.out.sl.any.below hb4 zN)
     obtain ⟨w4, hw4⟩ : ∃ w4, w4 = wc := ⟨_, rfl⟩
     rw [← hw4] at HB4 HG4 HS5 HO5 ⊢
     clear hb4 hn5 hs5 hw4
     go_upto_region 16 with (first
      | (go_at_call 19; refine (xqi _).mono ?_; rintro e w5 ⟨rfl, hb5⟩; have HB5 := zH hb5; clear hb5; obtain ⟨w6, ht6⟩ := tabW w5; have HT6 := zH ht6; clear ht6)
      | (with_reducible refine wpList_store_mid rfl _ _ _ rfl w5.heap.size 0 uuv rfl rfl (kqH w5) (by kernel_rfl) xq5 ?_)
      | fail)
     rw [← HT6.out.eq]
     obtain ⟨g, hg⟩ : ∃ g, g = w5.heap.size := ⟨_, rfl⟩
     have HTG : Hid (TabC g w6) := zH (by rw [hg]; exact HT6.out.tab)
     have HB46 := zH (HB5.out.trans (HT6.out.below.mono HB5.out.size))
     have HB6 := zH (HB4.out.trans (HB46.out.mono HB4.out.size))
     rw [← hg]
     have HG6 := zH ((HB46.out.block _ (zzb HG4.out)).trans HG4.out)
     have HS6 := zH (HS5.out.below HB46.out zN)
     have HO6 := zH (HO5.out.below HB46.out zN)
     obtain ⟨T, hT⟩ : ∃ T, T = zzy B1 := ⟨_, rfl⟩
     obtain ⟨ec, hec⟩ : ∃ ec, ec = okc T.isSome 2 := ⟨_, rfl⟩
     obtain ⟨V, hV⟩ : ∃ V, V = chV T := ⟨_, rfl⟩
     obtain ⟨v1, v2, v3, SS⟩ := V
     have HT := zH hT; have HEC := zH hec; have HV := zH hV
     have HSS : Hid (SS.length ≤ 1000) := zH (by
      have h1 := chV_len (b := B1)
      rw [← HT.out, ← HV.out] at h1
      have h2 := HS5.out.len; have h3 := HN5.out
      dsimp only at h1
      omega)
     clear hg hT hec hV
     go_upto_region 17 with (first
      | (at_builtin; refine apb (w6.alloc (.cells #[] 5)) w6 rfl (.tmp 59) (.tmp 60) rfl w6.heap.size (some ⟨w6.heap.size, 0, none⟩) 0 0 [] rfl (World.ownsRow_lit w6 #[] 0 zN (by simp [maxLen]) rfl : OwnB (w6.alloc (.cells #[] 5)) w6.heap.size (some ⟨w6.heap.size, 0, none⟩) 0 0 []) ((zR).alloc zN _) zN (fun b => True ∧ b < w6.heap.size) A4 n5 c5 B1 rfl ((HS6.out.weaken (F' := fun b => True ∧ b < w6.heap.size) fun b hb hl => ⟨hb, hl⟩).alloc _) (by have := HN5.out; omega) ?_; intro A7 c7 w7 h7 hb7 _; rw [Nat.zero_add, List.nil_append] at h7; rw [Nat.zero_add]; have HO7 := zH h7; have HB7 := zH hb7; clear h7 hb7)
      | (go_at_call 27; refine (jj8 g _ A7 n5 c7 B1 w7 (HTG.out.keep HB7.out) HO7.out.bs (by have := HN5.out; omega)).mono ?_; rintro e w8 ⟨A8, n8, c8, rfl, hs8, hb8⟩; rw [← HT.out, ← HV.out] at hs8; rw [← HT.out, ← HV.out, ← HEC.out]; dsimp only at hs8; have HS8 := zH hs8; have HB8 := zH (HB7.out.trans (hb8.mono HB7.out.size)); clear hs8 hb8)
      | fail)
     obtain ⟨w9, hw9⟩ : ∃ w9, w9 = w8.alloc (.cells #[.int .i64 v1, .int .i64 v2, .int .i64 v3, .slice A8 n8 c8] 27) := ⟨_, rfl⟩
     have HB89 : Hid (Below w8.heap.size w8 w9) := zH (by rw [hw9]; exact (zR).alloc zN _)
     have HX9 : Hid (w9.heap[w8.heap.size]? = some (.cells #[.int .i64 v1, .int .i64 v2, .int .i64 v3, .slice A8 n8 c8] 27 (0, 0))) := zH (by rw [hw9]; exact heap_alloc_new w8 _)
     have HB69 := zH (HB8.out.trans (HB89.out.mono HB8.out.size))
     rw [← hw9]
     clear hw9
     go_upto_region 18 with (first
      | (go_at_call 28; refine (jja _ A4 n5 c5 B1 w9 (HS6.out.below HB69.out zN) (by have := HN5.out; omega)).mono ?_; rintro e w10 ⟨A10, n10, c10, rfl, hs10, hb10⟩; rw [← HT.out, ← HV.out] at hs10; rw [← HT.out, ← HV.out, ← HEC.out]; dsimp only at hs10; have HS10 := zH hs10; have HB10 := zH hb10; clear hs10 hb10)
      | fail)
     obtain ⟨w11, hw11⟩ : ∃ w11, w11 = w10.alloc (.cells #[.int .i64 v1, .int .i64 v2, .int .i64 v3, .slice A10 n10 c10] 27) := ⟨_, rfl⟩
     have HB11 : Hid (Below w10.heap.size w10 w11) := zH (by rw [hw11]; exact (zR).alloc zN _)
     have HX11 : Hid (w11.heap[w10.heap.size]? = some (.cells #[.int .i64 v1, .int .i64 v2, .int .i64 v3, .slice A10 n10 c10] 27 (0, 0))) := zH (by rw [hw11]; exact heap_alloc_new w10 _)
     rw [← hw11]
     clear hw11
     have HB911 := zH (HB10.out.trans (HB11.out.mono HB10.out.size))
     have HX12 := zH ((HB911.out.block _ (zzb HX9.out)).trans HX9.out)
     obtain rfl : n10 = n8 := by rw [HS10.out.len, HS8.out.len]
     have HN8 : Hid (n10 ≤ 1000) := zH (by rw [HS8.out.len]; exact HSS.out)
     have HS8b := zH ((HS8.out.below HB89.out zN).below HB911.out zN)
     have HS10b := zH (HS10.out.below HB11.out zN)
     obtain ⟨⟨g0, _⟩, ⟨g1, _⟩, ⟨g2, _⟩, ⟨g3, _⟩⟩ := zzn HX12.out
     obtain ⟨⟨j0, _⟩, ⟨j1, _⟩, ⟨j2, _⟩, ⟨j3, _⟩⟩ := zzn HX11.out
     go_upto_region 19 with (first
      | (go_at_call 14; refine (qxK v1 v2 v3 _ _ A8 A10 _ c8 c10 SS w11 HS8b.out HS10b.out HN8.out).mono ?_; rintro e w12 ⟨rfl, hb12⟩; have HB12 := zH hb12; clear hb12)
      | fail)
     have HB612 := zH ((HB69.out.trans (HB911.out.mono HB69.out.size)).trans (HB12.out.mono (Nat.le_trans HB69.out.size HB911.out.size)))
     have HBW : Hid (Below w.heap.size w w12) := zH (HB6.out.trans (HB612.out.mono HB6.out.size))
     have HGB := zH ((HB612.out.block _ (zzb HG6.out)).trans HG6.out)
     have HOB := zH (HO6.out.below HB612.out zN)
     have HTGB := zH (HTG.out.keep HB612.out)
     obtain ⟨P, hP⟩ : ∃ P, P = yyN m en tx L := ⟨_, rfl⟩
     have HP := zH hP
     obtain ⟨⟨k0, _⟩, ⟨k1, _⟩, ⟨k2, _⟩, ⟨k3, _⟩⟩ := zzn HGB.out
     have hC0 : w12.drew.cell? ⟨w.heap.size, 0, none⟩ = some (.int .i64 m) ∧ w12.drew.cell? ⟨w.heap.size, 1, none⟩ = some (.int .i64 en) ∧ w12.drew.cell? ⟨w.heap.size, 2, none⟩ = some (.int .i64 tx) ∧ w12.drew.cell? ⟨w.heap.size, 3, none⟩ = some (.slice A3 k c3) := ⟨k0, k1, k2, k3⟩
     have HCK : Hid (∀ w', Below w12.heap.size w12 w' → w'.cell? ⟨w.heap.size, 0, none⟩ = some (.int .i64 m) ∧ w'.cell? ⟨w.heap.size, 1, none⟩ = some (.int .i64 en) ∧ w'.cell? ⟨w.heap.size, 2, none⟩ = some (.int .i64 tx) ∧ w'.cell? ⟨w.heap.size, 3, none⟩ = some (.slice A3 k c3)) := zH (fun w' hb => by
      obtain ⟨⟨q0, _⟩, ⟨q1, _⟩, ⟨q2, _⟩, ⟨q3, _⟩⟩ := zzn ((hb.block _ (zzb HGB.out)).trans HGB.out)
      exact ⟨q0, q1, q2, q3⟩)
     clear hP g0 g1 g2 g3 j0 j1 j2 j3 k0 k1 k2 k3
     refine regL [(none, fun w' => w'.cell? ⟨w.heap.size, 0, none⟩ = some (.int .i64 m) ∧ w'.cell? ⟨w.heap.size, 1, none⟩ = some (.int .i64 en) ∧ w'.cell? ⟨w.heap.size, 2, none⟩ = some (.int .i64 tx) ∧ w'.cell? ⟨w.heap.size, 3, none⟩ = some (.slice A3 k c3))] (by kernel_rfl) ?_ (fun hHeld => ?_)
     · exact ⟨(by first | exact hC0 | exact hC1 | exact hC2 | fail), trivial⟩
     iterate 4
      all_goals
       repeat ((first | (refine tkP 0 (oi := ⟨_, _, _, _, _, _⟩) (v := ?_) rfl (by decide +kernel) rfl (fun _ _ _ h => h) rfl hHeld ?_ ?_) | (refine tkP 1 (oi := ⟨_, _, _, _, _, _⟩) (v := ?_) rfl (by decide +kernel) rfl (fun _ _ _ h => h) rfl hHeld ?_ ?_) | (refine tkL 2 0 rfl (oi := ⟨_, _, _, _, _, _⟩) (v := ?_) rfl (by decide +kernel) rfl (fun _ _ _ h => h) rfl hHeld ?_ ?_) | (refine tkL 5 0 rfl (oi := ⟨_, _, _, _, _, _⟩) (v := ?_) rfl (by decide +kernel) rfl (fun _ _ _ h => h) rfl hHeld ?_ ?_) | (refine tkP 8 (oi := ⟨_, _, _, _, _, _⟩) (v := ?_) rfl (by decide +kernel) rfl (fun _ _ _ h => h) rfl hHeld ?_ ?_) | (refine tkP 9 (oi := ⟨_, _, _, _, _, _⟩) (v := ?_) rfl (by decide +kernel) rfl (fun _ _ _ h => h) rfl hHeld ?_ ?_) | (refine tkP 10 (oi := ⟨_, _, _, _, _, _⟩) (v := ?_) rfl (by decide +kernel) rfl (fun _ _ _ h => h) rfl hHeld ?_ ?_) | (refine tkP 11 (oi := ⟨_, _, _, _, _, _⟩) (v := ?_) rfl (by decide +kernel) rfl (fun _ _ _ h => h) rfl hHeld ?_ ?_) | (refine tkP 12 (oi := ⟨_, _, _, _, _, _⟩) (v := ?_) rfl (by decide +kernel) rfl (fun _ _ _ h => h) rfl hHeld ?_ ?_) | (refine tkP 13 (oi := ⟨_, _, _, _, _, _⟩) (v := ?_) rfl (by decide +kernel) rfl (fun _ _ _ h => h) rfl hHeld ?_ ?_) | (refine tkP 14 (oi := ⟨_, _, _, _, _, _⟩) (v := ?_) rfl (by decide +kernel) rfl (fun _ _ _ h => h) rfl hHeld ?_ ?_) | (refine tkP 15 (oi := ⟨_, _, _, _, _, _⟩) (v := ?_) rfl (by decide +kernel) rfl (fun _ _ _ h => h) rfl hHeld ?_ ?_) | (refine tkP 16 (oi := ⟨_, _, _, _, _, _⟩) (v := ?_) rfl (by decide +kernel) rfl (fun _ _ _ h => h) rfl hHeld ?_ ?_) | (refine tkP 17 (oi := ⟨_, _, _, _, _, _⟩) (v := ?_) rfl (by decide +kernel) rfl (fun _ _ _ h => h) rfl hHeld ?_ ?_) | (refine tkP 18 (oi := ⟨_, _, _, _, _, _⟩) (v := ?_) rfl (by decide +kernel) rfl (fun _ _ _ h => h) rfl hHeld ?_ ?_)); rotate_left; (focus (intro w; (try intro hSw); (try dsimp only at hSw); go_simp; try with_reducible rfl)); intro hHeld; (try simp only [Act.put]); (try simp only [List.setIfInBounds_toArray]); (try simp only [List.set_cons_succ]); (try simp only [List.set_cons_zero]))
       first | (refine rd1 3 (o := ⟨_, _, _, _, _, _⟩) (by decide +kernel) rfl (fun K hK => ?_)) | (refine rd1 4 (o := ⟨_, _, _, _, _, _⟩) (by decide +kernel) rfl (fun K hK => ?_)) | (refine rd2 4 6 (o := ⟨_, _, _, _, _, _⟩) (o' := ⟨_, _, _, _, _, _⟩) (by decide +kernel) rfl rfl (fun K hK => ?_) (fun K hK => ?_)) | (refine rd2 4 7 (o := ⟨_, _, _, _, _, _⟩) (o' := ⟨_, _, _, _, _, _⟩) (by decide +kernel) rfl rfl (fun K hK => ?_) (fun K hK => ?_)) | (refine rd1 6 (o := ⟨_, _, _, _, _, _⟩) (by decide +kernel) rfl (fun K hK => ?_)) | (refine rd1 7 (o := ⟨_, _, _, _, _, _⟩) (by decide +kernel) rfl (fun K hK => ?_))
      all_goals
       first  | (go_simp; (first | (go_at_call 29; refine (vvO g m en tx _ A3 k c3 L w12.drew HTGB.out HOB.out.drew (by have := HK6.out; omega) (by have := HLW.out; omega)).mono ?_; rintro e w13 ⟨A13, n13, c13, rfl, ho13, hb13⟩; rw [← HP.out] at ho13; have HB13 : Hid (Below w12.heap.size w12 w13) := zH (((zR).drew).trans hb13); have HO13 := zH ho13; have hC1 := HCK.out _ HB13.out; have hX := zzN ho13.bs; clear ho13 hb13) | (go_at_call 30; refine (jj3 m en tx _ A3 k c3 L w13 (HOB.out.below HB13.out zN) (by have := HK6.out; omega) (by have := HLW.out; omega)).mono ?_; rintro e w14 ⟨A14, n14, c14, rfl, ho14, hb14⟩; rw [← HP.out] at ho14; have HB14 : Hid (Below w13.heap.size w13 w14) := zH hb14; have HB124 := zH (HB13.out.trans (HB14.out.mono HB13.out.size)); have hC2 := HCK.out _ HB124.out; have hX2 := zzN (HO13.out.bs.below HB14.out zN); have hY := zzN ho14.bs; clear ho14 hb14) | fail)) | go_simp
       refine hK.out _ _ ?_ (fun hHeld => ?_)
       · (try dsimp only); exact ⟨(by first | exact hC0 | exact hC1 | exact hC2 | fail), trivial⟩
       clear hK K; (try simp only [Act.put]); (try simp only [List.setIfInBounds_toArray]); (try simp only [List.set_cons_succ]); (try simp only [List.set_cons_zero])
     all_goals
      repeat ((first | (refine tkP 8 (oi := ⟨_, _, _, _, _, _⟩) (v := ?_) rfl (by decide +kernel) rfl (fun _ _ _ h => h) rfl hHeld ?_ ?_) | (refine tkP 9 (oi := ⟨_, _, _, _, _, _⟩) (v := ?_) rfl (by decide +kernel) rfl (fun _ _ _ h => h) rfl hHeld ?_ ?_) | (refine tkP 10 (oi := ⟨_, _, _, _, _, _⟩) (v := ?_) rfl (by decide +kernel) rfl (fun _ _ _ h => h) rfl hHeld ?_ ?_) | (refine tkP 11 (oi := ⟨_, _, _, _, _, _⟩) (v := ?_) rfl (by decide +kernel) rfl (fun _ _ _ h => h) rfl hHeld ?_ ?_) | (refine tkP 12 (oi := ⟨_, _, _, _, _, _⟩) (v := ?_) rfl (by decide +kernel) rfl (fun _ _ _ h => h) rfl hHeld ?_ ?_) | (refine tkP 13 (oi := ⟨_, _, _, _, _, _⟩) (v := ?_) rfl (by decide +kernel) rfl (fun _ _ _ h => h) rfl hHeld ?_ ?_) | (refine tkP 14 (oi := ⟨_, _, _, _, _, _⟩) (v := ?_) rfl (by decide +kernel) rfl (fun _ _ _ h => h) rfl hHeld ?_ ?_) | (refine tkP 15 (oi := ⟨_, _, _, _, _, _⟩) (v := ?_) rfl (by decide +kernel) rfl (fun _ _ _ h => h) rfl hHeld ?_ ?_) | (refine tkP 16 (oi := ⟨_, _, _, _, _, _⟩) (v := ?_) rfl (by decide +kernel) rfl (fun _ _ _ h => h) rfl hHeld ?_ ?_) | (refine tkP 17 (oi := ⟨_, _, _, _, _, _⟩) (v := ?_) rfl (by decide +kernel) rfl (fun _ _ _ h => h) rfl hHeld ?_ ?_) | (refine tkP 18 (oi := ⟨_, _, _, _, _, _⟩) (v := ?_) rfl (by decide +kernel) rfl (fun _ _ _ h => h) rfl hHeld ?_ ?_)); rotate_left; (focus (intro w; (try intro hSw); (try dsimp only at hSw); go_simp; try with_reducible rfl)); intro hHeld; (try simp only [Act.put]); (try simp only [List.setIfInBounds_toArray]); (try simp only [List.set_cons_succ]); (try simp only [List.set_cons_zero]))
      refine vvW (by decide +kernel) ?_ _
      go_wp2_with fail
      go_ret
      exact ⟨rfl, HBW.out.trans (HB124.out.mono HBW.out.size)⟩
end
end Go.Proofs.YtpmglcachffojaaGreatDoor
