/- column.Size and the reference's, whatever the sizes: the sum as the machine adds. ColumnPuts: any values are laid down as a column of any kind as the document says, or refused: the law's walk. -/
import Derived.Test.YtpmglcachffojaaGreatDoorPk31
import Derived.Test.YtpmglcachffojaaGreatDoorPk30
import Derived.Deep.RegionHeld3
namespace Go.Proofs.YtpmglcachffojaaGreatDoor
open Go Go.RowKit

/-- The sum of the streams' sizes, as int adds. -/
def sizeW (ss : List (Int × List UInt8)) : Int := ss.foldl (fun a x => wrap64 (a + (x.2.length : Int))) 0
theorem sizeW_snoc (l : List (Int × List UInt8)) (x : Int × List UInt8) : sizeW (l ++ [x]) = wrap64 (sizeW l + (x.2.length : Int)) := by
  unfold sizeW; rw [List.foldl_append]; rfl
set_option maxRecDepth 100000 in
set_option maxHeartbeats 1000000 in
theorem csizeW_any (m enc tx : Int) (F : Nat → Prop) (A : Option Addr) (n c : Nat) (ss : List (Int × List UInt8)) (w : World) (h : Sl tStream F w A n c ss) (hn : n ≤ 1000) :
    Calls Tryz.prog 15 #[.agg #[.int .i64 m, .int .i64 enc, .int .i64 tx, .slice A n c]] w fun e w' => e = .returned (.int .i64 (sizeW ss)) ∧ Below w.heap.size w w' := by
  have HL := Lib.hid h.len; have HH := Lib.hid h
  clear h
  go_enter Tryz.func15, Tryz.ntmps15
  go_wp2_with fail
  go_loopw [3, 9] (fun s iv wr => ∃ k : Nat, k ≤ n ∧ iv = .int .i64 (k : Int) ∧ s = .int .i64 (sizeW (ss.take k)) ∧ Below w.heap.size w wr) (fun _ iv _ => n - (intOf iv).toNat)
  case atStart => exact ⟨0, Nat.zero_le _, rfl, rfl, (Below.refl _ _).alloc (Nat.le_refl _) _⟩
  case round =>
    obtain ⟨k, hk, rfl, rfl, hb⟩ := hrel
    have HB := Lib.hid hb
    have hsz := hb.size
    by_cases hlt : k < n
    · have hkl : k < ss.length := by rw [← HL.out]; exact hlt
      obtain ⟨b, o, cs, rfl, _, hbl, hrep, hc⟩ := (HH.out.below hb (Nat.le_refl _)).at_ hkl (by decide)
      obtain ⟨x, hf⟩ : ∃ x, x = ss[k] := ⟨_, rfl⟩
      obtain ⟨kk, bs⟩ := x
      rw [← hf] at hrep
      obtain ⟨c1, c2, rfl, ⟨h1, h1'⟩, A2, n2, cc2, h2, hsl⟩ := hrep
      subst h1 h2
      obtain ⟨g0, g1⟩ := cells2 hc
      have e1 : sizeW (ss.take (k + 1)) = wrap64 (sizeW (ss.take k) + (n2 : Int)) := by
        rw [List.take_succ_eq_append_getElem hkl, ← hf, sizeW_snoc, hsl.len]
      obtain ⟨q, hq⟩ : ∃ q, q = sizeW (ss.take k) := ⟨_, rfl⟩
      rw [← hq] at e1 ⊢
      have HE1 := Lib.hid e1
      have g0 : _ = some (Value.int .i64 kk) := g0
      have g1 : _ = some (Value.slice A2 n2 cc2) := g1
      clear hc hf hb hq e1 h1'
      go_wp2_with fail
      go_roundw
      case rel => exact ⟨k + 1, by omega, by go_num, by rw [HE1.out], HB.out.alloc hsz _⟩
      case measure => simp [intOf]; omega
    · obtain rfl : k = n := by omega
      have e1 : ss.take k = ss := List.take_of_length_le (by rw [← HL.out]; exact Nat.le_refl _)
      have HE := Lib.hid e1
      clear hb e1
      go_wp2_with fail
      go_ret
      exact ⟨by rw [HE.out]; rfl, HB.out⟩
set_option maxRecDepth 100000 in
set_option maxHeartbeats 1000000 in
theorem r16sizeW_any (m enc tx : Int) (F : Nat → Prop) (A : Option Addr) (n c : Nat) (ss : List (Int × List UInt8)) (w : World) (h : Sl tStream F w A n c ss) (hn : n ≤ 1000) :
    Calls Tryz.prog 16 #[.agg #[.int .i64 m, .int .i64 enc, .int .i64 tx, .slice A n c]] w fun e w' => e = .returned (.int .i64 (sizeW ss)) ∧ Below w.heap.size w w' := by
  have HL := Lib.hid h.len
  obtain ⟨w1, hw1⟩ : ∃ w1, w1 = w.alloc (.cells #[.int .i64 m, .int .i64 enc, .int .i64 tx, .slice A n c] 27) := ⟨_, rfl⟩
  have hb1 : Below w.heap.size w w1 := by rw [hw1]; exact (Below.refl _ _).alloc (Nat.le_refl _) _
  have hg0 : w1.heap[w.heap.size]? = some (.cells #[.int .i64 m, .int .i64 enc, .int .i64 tx, .slice A n c] 27 (0, 0)) := by rw [hw1]; exact heap_alloc_new w _
  obtain ⟨_, _, _, ⟨a3, _⟩⟩ := colcells hg0
  have HW := Lib.hid hw1; have HB1 := Lib.hid hb1; have HH := Lib.hid (h.below hb1 (Nat.le_refl _))
  clear h hw1 hb1 hg0
  go_enter Tryz.func16, Tryz.ntmps16
  go_upto_region 1 with fail
  rw [← HW.out]
  go_wp2_with fail
  go_loopw [3, 4] (fun s iv wr => ∃ k : Nat, k ≤ n ∧ iv = .int .i64 (k : Int) ∧ s = .int .i64 (sizeW (ss.take k)) ∧ w1 = wr) (fun _ iv _ => n - (intOf iv).toNat)
  case atStart => exact ⟨0, Nat.zero_le _, rfl, rfl, rfl⟩
  case round =>
    obtain ⟨k, hk, rfl, rfl, rfl⟩ := hrel
    by_cases hlt : k < n
    · have hkl : k < ss.length := by rw [← HL.out]; exact hlt
      obtain ⟨b, o, cs, rfl, _, hbl, hrep, hc⟩ := HH.out.at_ hkl (by decide)
      obtain ⟨x, hf⟩ : ∃ x, x = ss[k] := ⟨_, rfl⟩
      obtain ⟨kk, bs⟩ := x
      rw [← hf] at hrep
      obtain ⟨d1, d2, rfl, ⟨h1, h1'⟩, A2, n2, cc2, h2, hsl⟩ := hrep
      subst h1 h2
      obtain ⟨g0, g1⟩ := cells2 hc
      have e1 : sizeW (ss.take (k + 1)) = wrap64 (sizeW (ss.take k) + (n2 : Int)) := by
        rw [List.take_succ_eq_append_getElem hkl, ← hf, sizeW_snoc, hsl.len]
      obtain ⟨q, hq⟩ : ∃ q, q = sizeW (ss.take k) := ⟨_, rfl⟩
      rw [← hq] at e1 ⊢
      have HE1 := Lib.hid e1
      have g0 : _ = some (Value.int .i64 kk) := g0
      have g1 : _ = some (Value.slice A2 n2 cc2) := g1
      have hi0 : (0 : Int) ≤ (k : Int) := by omega
      have hi1 : (k : Int) < (n : Int) := by omega
      clear hc hf hq e1 h1'
      go_wp2_with fail
      go_roundw
      case rel => exact ⟨k + 1, by omega, by go_num, by rw [HE1.out], trivial⟩
      case measure => simp [intOf]; omega
    · obtain rfl : k = n := by omega
      have e1 : ss.take k = ss := List.take_of_length_le (by rw [← HL.out]; exact Nat.le_refl _)
      have HE := Lib.hid e1
      clear e1
      go_wp2_with fail
      go_ret
      exact ⟨by rw [HE.out]; rfl, HB1.out⟩
end Go.Proofs.YtpmglcachffojaaGreatDoor
namespace Go.Proofs.YtpmglcachffojaaGreatDoor
open Go Go.RowKit

theorem colR_len (k : Int) (l : List VV) : (colR k l).2.2.2.length ≤ 4 := by
  unfold colR
  split
  · unfold colC
    split
    · simp
    · have := txC_len ((l.filter keepV).map (·.s))
      simp only [List.length_cons]; omega
  · simp
set_option maxRecDepth 100000 in
set_option maxHeartbeats 4000000 in
theorem puts_law (k : Int) (F : Nat → Prop) (A : Option Addr) (n c : Nat) (l : List VV) (w : World) (h : Sl tVV F w A n c l) (hT : Lib.Utf8Tabs 0 1 w) :
    Calls Tryz.prog 3 #[.int .i64 k, .slice A n c] w fun e w' => e = .returned (.bool true) ∧ Below w.heap.size w w' := by
  have HT := Lib.hid hT; have HH := Lib.hid h
  obtain ⟨lf, hlf⟩ : ∃ lf, lf = l.take 300 := ⟨_, rfl⟩
  obtain ⟨e0, he0⟩ : ∃ e0, e0 = colE k lf := ⟨_, rfl⟩
  obtain ⟨m, enc, tx, ss, hR⟩ : ∃ m enc tx ss, colR k lf = (m, enc, tx, ss) := ⟨_, _, _, _, rfl⟩
  obtain ⟨z, hz⟩ : ∃ z, z = sizeW ss := ⟨_, rfl⟩
  have h4 := colR_len k lf
  rw [hR] at h4
  have H4 := Lib.hid (show ss.length ≤ 4 from h4)
  have HE := Lib.hid he0; have HLF := Lib.hid hlf; have HR := Lib.hid hR; have HZ := Lib.hid hz
  clear h hT hlf he0 hR hz h4
  go_enter Tryz.func3, Tryz.ntmps3
  go_upto_region 4 with (first
    | (go_at_call 10; refine (kshown_any _ HT.out).mono ?_; rintro e w1 ⟨rfl, hb1⟩; have HB1 := Lib.hid hb1; clear hb1)
    | (go_at_call 11; refine (fewv_any F A n c l _ (HH.out.below HB1.out (Nat.le_refl _))).mono ?_; rintro e w2 ⟨rfl, A2, n2, c2, rfl, hn2, hs2⟩; rw [← HLF.out] at hs2; have HS2 := Lib.hid hs2; clear hs2)
    | (go_at_call 12; refine (cput_any k F A2 n2 c2 _ _ HS2.out (by omega) (tabs_below HT.out HB1.out)).mono ?_; rintro e w3 ⟨A3, n3, c3, rfl, hs3, hb3⟩; rw [HR.out, ← HE.out]; rw [HR.out] at hs3; have HS3 := Lib.hid hs3; have HB3 := Lib.hid hb3; clear hb3 hs3)
    | fail)
  obtain ⟨w4, hw4⟩ : ∃ w4, w4 = w3.alloc (.cells #[.int .i64 m, .int .i64 enc, .int .i64 tx, .slice A3 n3 c3] 27) := ⟨_, rfl⟩
  obtain ⟨ga, hga⟩ : ∃ ga, ga = w3.heap.size := ⟨_, rfl⟩
  have h4 : w4.heap[ga]? = some (.cells #[.int .i64 m, .int .i64 enc, .int .i64 tx, .slice A3 n3 c3] 27 (0, 0)) := by rw [hw4, hga]; exact heap_alloc_new _ _
  have hb34 : Below w3.heap.size w3 w4 := by rw [hw4]; exact (Below.refl _ _).alloc (Nat.le_refl _) _
  rw [← hw4, ← hga]
  have HG4 := Lib.hid h4
  have HB14 := Lib.hid (HB3.out.trans (hb34.mono HB3.out.size))
  have HS4 := Lib.hid (HS2.out.below HB14.out (Nat.le_refl _))
  have HC4 := Lib.hid (HS3.out.below hb34 (Nat.le_refl _))
  have HT4 := Lib.hid (tabs_below (tabs_below HT.out HB1.out) HB14.out)
  have HN3 := Lib.hid (show n3 ≤ 4 by have := HS3.out.len; have := H4.out; omega)
  clear hw4 h4 hga hb34
  go_upto_region 5 with (first
    | (go_at_call 13; refine (r16put_any k F A2 n2 c2 _ _ HS4.out (by omega) HT4.out).mono ?_; rintro e w5 ⟨A5, n5, c5, rfl, hs5, hb5⟩; rw [HR.out, ← HE.out]; rw [HR.out] at hs5; have HS5 := Lib.hid hs5; have HB5 := Lib.hid hb5; clear hb5 hs5)
    | fail)
  obtain ⟨w6, hw6⟩ : ∃ w6, w6 = w5.alloc (.cells #[.int .i64 m, .int .i64 enc, .int .i64 tx, .slice A5 n5 c5] 27) := ⟨_, rfl⟩
  obtain ⟨gb, hgb⟩ : ∃ gb, gb = w5.heap.size := ⟨_, rfl⟩
  have h6 : w6.heap[gb]? = some (.cells #[.int .i64 m, .int .i64 enc, .int .i64 tx, .slice A5 n5 c5] 27 (0, 0)) := by rw [hw6, hgb]; exact heap_alloc_new _ _
  have hb56 : Below w5.heap.size w5 w6 := by rw [hw6]; exact (Below.refl _ _).alloc (Nat.le_refl _) _
  rw [← hw6, ← hgb]
  have HB46 := Lib.hid (HB5.out.trans (hb56.mono HB5.out.size))
  have HG6 := Lib.hid h6
  have HG46 := Lib.hid ((HB46.out.block _ (blk_lt HG4.out)).trans HG4.out)
  have HC6 := Lib.hid (HC4.out.below HB46.out (Nat.le_refl _))
  have HD6 := Lib.hid (HS5.out.below hb56 (Nat.le_refl _))
  have HN5 := Lib.hid (show n5 ≤ 4 by have := HS5.out.len; have := H4.out; omega)
  have HNN := Lib.hid (show n5 = n3 by have := HS5.out.len; have := HS3.out.len; omega)
  have HB6 := Lib.hid ((HB1.out.trans (HB14.out.mono HB1.out.size)).trans (HB46.out.mono (by have := HB1.out.size; have := HB14.out.size; omega)))
  clear hw6 h6 hgb hb56
  have hga := HG46.out
  have hgb := HG6.out
  obtain ⟨⟨a0, _⟩, ⟨a1, _⟩, ⟨a2, _⟩, ⟨a3, _⟩⟩ := colcells hga
  obtain ⟨⟨b0, _⟩, ⟨b1, _⟩, ⟨b2, _⟩, ⟨b3, _⟩⟩ := colcells hgb
  obtain rfl : n5 = n3 := HNN.out
  go_upto_region 6 with (first
    | (go_at_call 14; refine (rsameC_any m enc tx _ _ A3 A5 n5 c3 c5 ss w6 HC6.out HD6.out (by have := HN3.out; omega)).mono ?_; rintro e w7 ⟨rfl, hb7⟩; have HB7 := Lib.hid hb7; clear hb7)
    | fail)
  have hga7 := (HB7.out.block _ (blk_lt hga)).trans hga
  have hgb7 := (HB7.out.block _ (blk_lt hgb)).trans hgb
  have HC7 := Lib.hid (HC6.out.below HB7.out (Nat.le_refl _))
  have HD7 := Lib.hid (HD6.out.below HB7.out (Nat.le_refl _))
  clear a0 a1 a2 a3 b0 b1 b2 b3 hga hgb
  obtain ⟨⟨a0, _⟩, ⟨a1, _⟩, ⟨a2, _⟩, ⟨a3, _⟩⟩ := colcells hga7
  obtain ⟨⟨b0, _⟩, ⟨b1, _⟩, ⟨b2, _⟩, ⟨b3, _⟩⟩ := colcells hgb7
  have HB17 := Lib.hid (HB6.out.trans (HB7.out.mono HB6.out.size))
  have hn3 : n5 ≤ 1000 := by have := HN3.out; omega
  clear hga7 hgb7
  go_region_held3 (fun w' => w'.cell? ⟨ga, 0, none⟩ = some (.int .i64 m) ∧ w'.cell? ⟨ga, 1, none⟩ = some (.int .i64 enc) ∧ w'.cell? ⟨ga, 2, none⟩ = some (.int .i64 tx) ∧ w'.cell? ⟨ga, 3, none⟩ = some (.slice A3 n5 c3) ∧ w'.cell? ⟨gb, 0, none⟩ = some (.int .i64 m) ∧ w'.cell? ⟨gb, 1, none⟩ = some (.int .i64 enc) ∧ w'.cell? ⟨gb, 2, none⟩ = some (.int .i64 tx) ∧ w'.cell? ⟨gb, 3, none⟩ = some (.slice A5 n5 c5))
    (first | exact ⟨a0, a1, a2, a3, b0, b1, b2, b3⟩ | exact ⟨kcell (W := w7.drew) hbA a0, kcell (W := w7.drew) hbA a1, kcell (W := w7.drew) hbA a2, kcell (W := w7.drew) hbA a3, kcell (W := w7.drew) hbA b0, kcell (W := w7.drew) hbA b1, kcell (W := w7.drew) hbA b2, kcell (W := w7.drew) hbA b3⟩ | exact ⟨kcell hbB (kcell (W := w7.drew) hbA a0), kcell hbB (kcell (W := w7.drew) hbA a1), kcell hbB (kcell (W := w7.drew) hbA a2), kcell hbB (kcell (W := w7.drew) hbA a3), kcell hbB (kcell (W := w7.drew) hbA b0), kcell hbB (kcell (W := w7.drew) hbA b1), kcell hbB (kcell (W := w7.drew) hbA b2), kcell hbB (kcell (W := w7.drew) hbA b3)⟩ | go_keep)
    (first
      | (go_at_call 15; refine (csizeW_any m enc tx _ A3 n5 c3 ss _ HC7.out.drew hn3).mono ?_; rintro e wA ⟨rfl, hbA⟩; rw [← HZ.out])
      | (go_at_call 16; refine (r16sizeW_any m enc tx _ A5 n5 c5 ss _ (HD7.out.drew.below hbA (Nat.le_refl _)) hn3).mono ?_; rintro e wB ⟨rfl, hbB⟩; rw [← HZ.out])
      | fail)
  all_goals
    go_wp2_with fail
    go_ret
    exact ⟨by simp, (HB17.out.drew.trans (hbA.mono HB17.out.size)).trans (hbB.mono (Nat.le_trans HB17.out.size hbA.size))⟩
end Go.Proofs.YtpmglcachffojaaGreatDoor
