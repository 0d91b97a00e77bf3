/- The reference 16: Put: what it refuses, and numbers. The reference 16: Put of numbers, of texts. -/
import Derived.Test.YtpmglcachffojaaGreatDoorPk30
import Derived.Test.YtpmglcachffojaaGreatDoorPk29
import Derived.Test.YtpmglcachffojaaGreatDoorPk27
namespace Go.Proofs.YtpmglcachffojaaGreatDoor
open Go Go.RowKit

/-- The result's cells, laid; none is set yet. -/
structure ColW0 (w wc : World) : Prop where
  eq : wc = w.alloc (.cells #[.int .i64 0, .int .i64 0, .int .i64 0, .slice none 0 0] 27)
  below : Below w.heap.size w wc
  size : wc.heap.size = w.heap.size + 1
  z : ColZ w.heap.size wc
theorem colW0 (w : World) : ∃ wc, ColW0 w wc := ⟨_, rfl, (Below.refl _ _).alloc (Nat.le_refl _) _, by simp, ⟨heap_alloc_new w _⟩⟩
theorem ColZ.cells0 {g : Nat} {w : World} (h : ColZ g w) :
    (w.cell? ⟨g, 0, none⟩ = some (.int .i64 0) ∧ w.frozen? ⟨g, 0, none⟩ = false) ∧ (w.cell? ⟨g, 1, none⟩ = some (.int .i64 0) ∧ w.frozen? ⟨g, 1, none⟩ = false) ∧ (w.cell? ⟨g, 2, none⟩ = some (.int .i64 0) ∧ w.frozen? ⟨g, 2, none⟩ = false) ∧ (w.cell? ⟨g, 3, none⟩ = some (.slice none 0 0) ∧ w.frozen? ⟨g, 3, none⟩ = false) := colcells h.at_
/-- A column that the reference builds, in block g; its streams lie in blocks from w0 on. -/
structure RuC (w0 : World) (g : Nat) (m enc tx : Int) (F : Nat → Prop) (A : Option Addr) (n c : Nat) (ss : List (Int × List UInt8)) (W : World) : Prop where
  hold : W.heap[g]? = some (.cells #[.int .i64 m, .int .i64 enc, .int .i64 tx, .slice A n c] 27 (0, 0))
  own : OwnF tStream 55 F W w0.heap.size A n c ss
  below : Below w0.heap.size w0 W
  ng : ¬ F g
  na : A ≠ some ⟨g, 0, none⟩
  lo : w0.heap.size ≤ g
theorem RuC.keep {w0 w w' : World} {g : Nat} {m enc tx : Int} {F : Nat → Prop} {A : Option Addr} {n c : Nat} {ss : List (Int × List UInt8)} (h : RuC w0 g m enc tx F A n c ss w) (hb : Below w.heap.size w w') : RuC w0 g m enc tx F A n c ss w' :=
  ⟨(hb.block _ (blk_lt h.hold)).trans h.hold, h.own.keepB hb, h.below.trans (hb.mono h.below.size), h.ng, h.na, h.lo⟩
/-- A new column with one stream. -/
theorem RuC.new {w0 w : World} {m : Int} {F : Nat → Prop} {A1 : Option Addr} {n1 c1 : Nat} {bs : List UInt8} (hs : Sl tU8 F w A1 n1 c1 bs) (hb : Below w0.heap.size w0 w) :
    RuC w0 (w.heap.size + 1) m 1 0 (fun b => F b ∧ b < w.heap.size) (some ⟨w.heap.size, 0, none⟩) 1 1 [(1, bs)] ((w.alloc (.cells #[.int .i64 1, .slice A1 n1 c1] 55)).alloc (.cells #[.int .i64 m, .int .i64 1, .int .i64 0, .slice (some ⟨w.heap.size, 0, none⟩) 1 1] 27)) := by
  have h1 := OwnF.newL (T := tStream) (e := 55) (B := w0.heap.size) (n := 1) (Reps.mk1 (T := tStream) (x1 := ((1 : Int), bs)) (F := F) (w := w) ⟨[.int .i64 1], _, rfl, ⟨rfl, i64_lit 1 (by omega)⟩, A1, n1, c1, rfl, hs⟩) hb.size rfl (by omega) (.cells #[.int .i64 1, .slice A1 n1 c1] 55) rfl
  have hg := heap_alloc_new (w.alloc (.cells #[.int .i64 1, .slice A1 n1 c1] 55)) (.cells #[.int .i64 m, .int .i64 1, .int .i64 0, .slice (some ⟨w.heap.size, 0, none⟩) 1 1] 27)
  rw [World.size_alloc] at hg
  refine ⟨hg, h1.alloc _, (hb.alloc hb.size _).alloc (by have := hb.size; rw [World.size_alloc]; omega) _, fun h => by omega, fun e => ?_, by have := hb.size; omega⟩
  injection e with e; injection e with e; omega
theorem RuC.alloc {w0 w : World} {g : Nat} {m enc tx : Int} {F : Nat → Prop} {A : Option Addr} {n c : Nat} {ss : List (Int × List UInt8)} (h : RuC w0 g m enc tx F A n c ss w) (o : Obj) : RuC w0 g m enc tx F A n c ss (w.alloc o) :=
  h.keep ((Below.refl _ _).alloc (Nat.le_refl _) _)
/-- Behind an append and a store of the streams. -/
theorem RuC.push {w0 w w' : World} {g : Nat} {m enc tx : Int} {F F' : Nat → Prop} {A A' : Option Addr} {n c n' c' : Nat} {ss ss' : List (Int × List UInt8)} (h : RuC w0 g m enc tx F A n c ss w) (ha : ApdL tStream 55 F' w0 w w' w0.heap.size A A' n' c' ss') (hF : ¬ F' g) :
    RuC w0 g m enc tx F' A' n' c' ss' (w'.setCell ⟨g, 3, none⟩ (.slice A' n' c')) := by
  have hg := blk_lt h.hold
  have hna : A.map (·.block) ≠ some g := fun e => by
    obtain ⟨e1, _⟩ := h.own.lies (b := g) (by rw [ownBlock_slice]; exact e)
    exact h.na e1
  have hna' : A'.map (·.block) ≠ some g := fun e => by
    rcases ha.lies with h1 | h1
    · exact hna (h1.symm.trans e)
    · rw [e] at h1; injection h1 with h1; omega
  have h5 : w'.heap[g]? = some (.cells #[.int .i64 m, .int .i64 enc, .int .i64 tx, .slice A n c] 27 (0, 0)) := (ha.grown.block g hg (fun e => hna e.symm)).trans h.hold
  have hn' : A' ≠ some ⟨g, 0, none⟩ := fun e => hna' (by rw [e]; rfl)
  exact ⟨heap_set h5 rfl, ha.own.setCell (p := ⟨g, 3, none⟩) hF hn' _, bsetc ha.below h.lo _, hF, hn', h.lo⟩
theorem RuC.hold' {w0 w w' : World} {g : Nat} {m enc tx : Int} {F F' : Nat → Prop} {A A' : Option Addr} {n c n' c' : Nat} {ss ss' : List (Int × List UInt8)} (h : RuC w0 g m enc tx F A n c ss w) (ha : ApdL tStream 55 F' w0 w w' w0.heap.size A A' n' c' ss') :
    w'.cell? ⟨g, 3, none⟩ = some (.slice A n c) ∧ w'.frozen? ⟨g, 3, none⟩ = false := by
  have hna : A.map (·.block) ≠ some g := fun e => by
    obtain ⟨e1, _⟩ := h.own.lies (b := g) (by rw [ownBlock_slice]; exact e)
    exact h.na e1
  exact (colcells ((ha.grown.block g (blk_lt h.hold) (fun e => hna e.symm)).trans h.hold)).2.2.2
theorem RuC.set1 {w0 w : World} {g : Nat} {m enc tx enc' : Int} {F : Nat → Prop} {A : Option Addr} {n c : Nat} {ss : List (Int × List UInt8)} (h : RuC w0 g m enc tx F A n c ss w) : RuC w0 g m enc' tx F A n c ss (w.setCell ⟨g, 1, none⟩ (.int .i64 enc')) :=
  ⟨heap_set h.hold rfl, h.own.setCell (p := ⟨g, 1, none⟩) h.ng h.na _, bsetc h.below h.lo _, h.ng, h.na, h.lo⟩
theorem RuC.set2 {w0 w : World} {g : Nat} {m enc tx tx' : Int} {F : Nat → Prop} {A : Option Addr} {n c : Nat} {ss : List (Int × List UInt8)} (h : RuC w0 g m enc tx F A n c ss w) : RuC w0 g m enc tx' F A n c ss (w.setCell ⟨g, 2, none⟩ (.int .i64 tx')) :=
  ⟨heap_set h.hold rfl, h.own.setCell (p := ⟨g, 2, none⟩) h.ng h.na _, bsetc h.below h.lo _, h.ng, h.na, h.lo⟩
set_option maxRecDepth 100000 in
set_option maxHeartbeats 4000000 in
theorem r16put_no (k : Int) (F : Nat → Prop) (A : Option Addr) (n c : Nat) (l : List VV) (w : World) (h : Sl tVV F w A n c l) (hn : n ≤ 4096) (hT : Lib.Utf8Tabs 0 1 w) (hno : ¬ colE k l = 0) :
    Calls Tryz.prog 13 #[.int .i64 k, .slice A n c] w (ColPost k l w) := by
  have hn1 : ¬ (n : Int) > 4096 := by omega
  have hn2 : ¬ (4096 : Int) < n := by omega
  obtain ⟨wc, hwc⟩ := colW0 w
  have HWC := Lib.hid hwc; have HL := Lib.hid h.len
  have HH := Lib.hid (h.below hwc.below (Nat.le_refl _)); have HT := Lib.hid (tabs_below hT hwc.below)
  have HR := Lib.hid (show colR k l = (0, 0, 0, []) from if_neg hno)
  by_cases hk : 1 ≤ k ∧ k ≤ 7
  · have k1 : ¬ k < 1 := by omega
    have k2 : ¬ k > 7 := by omega
    have k3 : ¬ 7 < k := by omega
    have hq : l.all (mayV k) = false := by
      cases hq : l.all (mayV k) with
      | false => rfl
      | true => exact absurd (by unfold colE; rw [if_pos hk, hq]; rfl) hno
    have HE := Lib.hid (show colE k l = 21 by unfold colE; rw [if_pos hk, hq]; rfl)
    have HQ := Lib.hid hq
    clear h hn hT hwc hno hq hk
    go_enter Tryz.func13, Tryz.ntmps13
    go_upto_region 1 with fail
    rw [← HWC.out.eq]
    go_wp2_with fail
    go_loopw [6] (fun iv wr => ∃ i : Nat, i ≤ n ∧ iv = .int .i64 (i : Int) ∧ Hid ((l.take i).all (mayV k) = true) ∧ Below wc.heap.size wc wr) (fun iv _ => n - (intOf iv).toNat)
    case atStart => exact ⟨0, Nat.zero_le _, rfl, Lib.hid rfl, Below.refl _ _⟩
    case round =>
      obtain ⟨i, hi, rfl, HA, hb⟩ := hrel
      have HB := Lib.hid hb
      have hsz := hb.size
      clear hb
      by_cases hlt : i < n
      · have hil : i < l.length := by rw [← HL.out]; exact hlt
        obtain ⟨b, o, cs, rfl, _, hbl, hrep, hc⟩ := (HH.out.below HB.out (Nat.le_refl _)).at_ hil (by decide)
        obtain ⟨v, hf⟩ : ∃ v, v = l[i] := ⟨_, rfl⟩
        obtain ⟨rfl, hok⟩ := hrep
        rw [← hf] at hc hok
        have e1 : (l.take (i + 1)).all (mayV k) = ((l.take i).all (mayV k) && mayV k v) := by
          rw [List.take_succ_eq_append_getElem hil, ← hf]; simp
        rw [HA.out, Bool.true_and] at e1
        obtain ⟨q2, hq2⟩ : ∃ q2, q2 = mayV k v := ⟨_, rfl⟩
        have HM := Lib.hid (rmay_any k v hok)
        rw [← hq2] at HM e1
        have HE1 := Lib.hid e1
        obtain ⟨nu, x, s⟩ := v
        obtain ⟨g0, g1, g2⟩ := cells3 hc
        have g0 : _ = some (Value.bool nu) := g0
        have g1 : _ = some (Value.int .i64 x) := g1
        have g2 : _ = some (Value.string s) := g2
        have hi0 : (0 : Int) ≤ (i : Int) := by omega
        have hi1 : (i : Int) < (n : Int) := by omega
        clear hc hf hq2 e1 hok HA
        cases q2
        · go_wp2_with (first
            | (go_at_call 47; refine (HM.out _ (tabs_below HT.out HB.out)).mono ?_; rintro e w5 ⟨rfl, hb5⟩; have HB5 := Lib.hid hb5; have HG5 := Lib.hid ((HWC.out.z.keep HB.out).keep hb5); obtain ⟨⟨z0, y0⟩, ⟨z1, y1⟩, ⟨z2, y2⟩, ⟨z3, y3⟩⟩ := HG5.out.cells0; clear hb5)
            | fail)
          refine bodyPost_ret (results_rowB rfl _ _ w.heap.size 27 #[.int .i64 0, .int .i64 0, .int .i64 0, .slice none 0 0] (0, 0) _ rfl (colset HG5.out.at_ _ _ _ _) Tryz.underlying27 rfl (by kernel_rfl)) rfl ?_
          refine ⟨none, 0, 0, by rw [HR.out, HE.out]; rfl, by rw [HR.out]; exact Sl.nil_ _ _ _, colset_below (HWC.out.below.trans ((HB.out.trans (HB5.out.mono hsz)).mono HWC.out.below.size)) (Nat.le_refl _) _ _ _ _⟩
        · go_wp2_with (first
            | (go_at_call 47; refine (HM.out _ (tabs_below HT.out HB.out)).mono ?_; rintro e w5 ⟨rfl, hb5⟩; have HB5 := Lib.hid hb5; clear hb5)
            | fail)
          go_roundw
          case rel => exact ⟨i + 1, by omega, by go_num, Lib.hid HE1.out, HB.out.trans (HB5.out.mono hsz)⟩
          case measure => simp [intOf]; omega
      · exfalso
        obtain rfl : i = n := by omega
        have e1 := HA.out
        rw [List.take_of_length_le (by rw [← HL.out]; exact Nat.le_refl _), HQ.out] at e1
        cases e1
  · have HE := Lib.hid (show colE k l = 1 from if_neg hk)
    have HG := Lib.hid hwc.z
    obtain ⟨⟨z0, y0⟩, ⟨z1, y1⟩, ⟨z2, y2⟩, ⟨z3, y3⟩⟩ := hwc.z.cells0
    by_cases h1 : k < 1
    · clear h hn hT hwc hno hk
      go_enter Tryz.func13, Tryz.ntmps13
      go_upto_region 1 with fail
      rw [← HWC.out.eq]
      go_wp2_with fail
      refine bodyPost_ret (results_rowB rfl _ _ w.heap.size 27 #[.int .i64 0, .int .i64 0, .int .i64 0, .slice none 0 0] (0, 0) _ rfl (colset HG.out.at_ _ _ _ _) Tryz.underlying27 rfl (by kernel_rfl)) rfl ?_
      refine ⟨none, 0, 0, by rw [HR.out, HE.out]; rfl, by rw [HR.out]; exact Sl.nil_ _ _ _, colset_below HWC.out.below (Nat.le_refl _) _ _ _ _⟩
    · have h2 : k > 7 := by omega
      have h3 : 7 < k := h2
      clear h hn hT hwc hno hk
      go_enter Tryz.func13, Tryz.ntmps13
      go_upto_region 1 with fail
      rw [← HWC.out.eq]
      go_wp2_with fail
      refine bodyPost_ret (results_rowB rfl _ _ w.heap.size 27 #[.int .i64 0, .int .i64 0, .int .i64 0, .slice none 0 0] (0, 0) _ rfl (colset HG.out.at_ _ _ _ _) Tryz.underlying27 rfl (by kernel_rfl)) rfl ?_
      refine ⟨none, 0, 0, by rw [HR.out, HE.out]; rfl, by rw [HR.out]; exact Sl.nil_ _ _ _, colset_below HWC.out.below (Nat.le_refl _) _ _ _ _⟩
end Go.Proofs.YtpmglcachffojaaGreatDoor
namespace Go.Proofs.YtpmglcachffojaaGreatDoor
open Go Go.RowKit

theorem r15put_at (F : Nat → Prop) (A : Option Addr) (n c : Nat) (l : List ByteArray) (w : World) (h : Sl tStr F w A n c l) (hn : n ≤ 4096) (hs : ∀ s ∈ l, s.size ≤ 300) (enc tx : Int) (ss : List (Int × List UInt8)) (ht : txC l = (enc, tx, ss)) :
    Calls Tryz.prog 51 #[.slice A n c] w fun e w' => ∃ A' n' c', e = .returned (.tuple #[.agg #[.int .i64 (n : Int), .int .i64 enc, .int .i64 tx, .slice A' n' c'], .int .i64 0]) ∧ Sl tStream (fun b => w.heap.size ≤ b) w' A' n' c' ss ∧ Below w.heap.size w w' := by
  have h1 := r15put_any F A n c l w h hn hs
  unfold TxPost at h1
  rw [ht, ← h.len] at h1
  exact h1
set_option maxRecDepth 100000 in
set_option maxHeartbeats 4000000 in
theorem r16put_yes (k : Int) (F : Nat → Prop) (A : Option Addr) (n c : Nat) (l : List VV) (w : World) (h : Sl tVV F w A n c l) (hn : n ≤ 4096) (hT : Lib.Utf8Tabs 0 1 w) (hE : colE k l = 0) :
    Calls Tryz.prog 13 #[.int .i64 k, .slice A n c] w (ColPost k l w) := by
  have hn1 : ¬ (n : Int) > 4096 := by omega
  have hn2 : ¬ (4096 : Int) < n := by omega
  have hk : 1 ≤ k ∧ k ≤ 7 := by
    by_cases hk : 1 ≤ k ∧ k ≤ 7
    · exact hk
    · unfold colE at hE
      rw [if_neg hk] at hE
      exact absurd hE (by decide)
  have hall : l.all (mayV k) = true := by
    cases hq : l.all (mayV k) with
    | true => rfl
    | false =>
      unfold colE at hE
      rw [if_pos hk, hq] at hE
      exact absurd hE (by decide)
  obtain ⟨wc, hwc⟩ := colW0 w
  have HWC := Lib.hid hwc; have HL := Lib.hid h.len; have HE := Lib.hid hE; have HN := Lib.hid hn
  have HH := Lib.hid (h.below hwc.below (Nat.le_refl _)); have HT := Lib.hid (tabs_below hT hwc.below)
  have HR := Lib.hid (show colR k l = ((l.length : Int), colC k l) from if_pos hE)
  have HALL := Lib.hid hall
  have HM := Lib.hid (show ∀ v ∈ l.filter keepV, v.null = false ∧ mayV k v = true from fun v hv => by
    obtain ⟨h1, h2⟩ := List.mem_filter.1 hv
    exact ⟨by simpa [keepV] using h2, List.all_eq_true.1 hall v h1⟩)
  have k1 : ¬ k < 1 := by omega
  have k2 : ¬ k > 7 := by omega
  have k3 : ¬ 7 < k := by omega
  have HKK := Lib.hid hk
  clear h hn hT hwc hE hall hk
  go_enter Tryz.func13, Tryz.ntmps13
  go_upto_region 1 with fail
  rw [← HWC.out.eq]
  go_wp2_with fail
  go_loopw [6] (fun iv wr => ∃ i : Nat, i ≤ n ∧ iv = .int .i64 (i : Int) ∧ Below wc.heap.size wc wr) (fun iv _ => n - (intOf iv).toNat)
  case atStart => exact ⟨0, Nat.zero_le _, rfl, Below.refl _ _⟩
  case round =>
    obtain ⟨i, hi, rfl, hb⟩ := hrel
    have HB := Lib.hid hb
    have hsz := hb.size
    clear hb
    by_cases hlt : i < n
    · have hil : i < l.length := by rw [← HL.out]; exact hlt
      obtain ⟨b, o, cs, rfl, _, hbl, hrep, hc⟩ := (HH.out.below HB.out (Nat.le_refl _)).at_ hil (by decide)
      obtain ⟨v, hf⟩ : ∃ v, v = l[i] := ⟨_, rfl⟩
      obtain ⟨rfl, hok⟩ := hrep
      rw [← hf] at hc hok
      have hmv : mayV k v = true := by rw [hf]; exact List.all_eq_true.1 HALL.out _ (List.getElem_mem hil)
      have hm5 := rmay_any k v hok
      rw [hmv] at hm5
      have HM5 := Lib.hid hm5
      obtain ⟨nu, x, s⟩ := v
      obtain ⟨g0, g1, g2⟩ := cells3 hc
      have g0 : _ = some (Value.bool nu) := g0
      have g1 : _ = some (Value.int .i64 x) := g1
      have g2 : _ = some (Value.string s) := g2
      have hi0 : (0 : Int) ≤ (i : Int) := by omega
      have hi1 : (i : Int) < (n : Int) := by omega
      clear hc hf hok hmv hm5
      go_wp2_with (first
        | (go_at_call 47; refine (HM5.out _ (tabs_below HT.out HB.out)).mono ?_; rintro e w5 ⟨rfl, hb5⟩; have HB5 := Lib.hid hb5; clear hb5)
        | fail)
      go_roundw
      case rel => exact ⟨i + 1, by omega, by go_num, HB.out.trans (HB5.out.mono hsz)⟩
      case measure => simp [intOf]; omega
    · obtain rfl : i = n := by omega
      obtain ⟨wq, rfl⟩ : ∃ wq, wq = wr := ⟨wr, rfl⟩
      have HBR := Lib.hid (HWC.out.below.trans (HB.out.mono HWC.out.below.size))
      go_upto_region 12 with (first
        | (go_at_call 48; refine (r13put_any c06 F A i c l _ (HH.out.below HB.out (Nat.le_refl _)) HN.out).mono ?_; rintro e w2 ⟨A1, n1, c1, A2, n2, c2, rfl, hs1, hs2, hb2⟩; have HS1 := Lib.hid hs1; have HS2 := Lib.hid hs2; have HB2 := Lib.hid hb2; clear hs1 hs2 hb2)
        | fail)
      have HL2 := Lib.hid HS2.out.len
      have hn24 : n2 ≤ 4096 := by have := HL2.out; have := List.length_filter_le keepV l; have := HL.out; have := HN.out; omega
      have HN2 := Lib.hid hn24
      have HBX := Lib.hid (HBR.out.trans (HB2.out.mono HBR.out.size))
      have HZ2 := Lib.hid ((HWC.out.z.keep HB.out).keep HB2.out)
      have HT2 := Lib.hid (tabs_below (tabs_below HT.out HB.out) HB2.out)
      have HLO := Lib.hid (show w.heap.size + 1 ≤ w2.heap.size from HZ2.out.lt)
      obtain ⟨w3, hw3⟩ : ∃ w3, w3 = (w2.alloc (.cells #[.int .i64 1, .slice A1 n1 c1] 55)).alloc (.cells #[.int .i64 (i : Int), .int .i64 1, .int .i64 0, .slice (some ⟨w2.heap.size, 0, none⟩) 1 1] 27) := ⟨_, rfl⟩
      have HW3 := Lib.hid hw3
      have hru : RuC w2 (w2.heap.size + 1) (i : Int) 1 0 (fun b => wq.heap.size ≤ b ∧ b < w2.heap.size) (some ⟨w2.heap.size, 0, none⟩) 1 1 [(1, presB l)] w3 := by
        rw [hw3]; exact RuC.new HS1.out (Below.refl _ _)
      have HRU := Lib.hid hru
      have hb23 : Below w2.heap.size w2 w3 := hru.below
      have HB23 := Lib.hid hb23
      have HZW := Lib.hid (show w3.heap.size = w2.heap.size + 2 by rw [hw3]; simp)
      clear hw3 hru hb23 hn24
      go_upto_region 13 with fail
      rw [← HW3.out]
      by_cases h5 : k ≤ 5
      · have HC := Lib.hid (show colC k l = (1, 0, [(1, presB l), (2, intsB k (l.filter keepV))]) from if_pos ⟨HKK.out.1, h5⟩)
        have HNM := Lib.hid (show decide (1 ≤ k ∧ k ≤ 5) = true from decide_eq_true ⟨HKK.out.1, h5⟩)
        have HK5 := Lib.hid (show 1 ≤ k ∧ k ≤ 5 from ⟨HKK.out.1, h5⟩)
        clear h5
        go_upto_region 16 with (first
          | (go_at_call 49; refine (r12num_any _ _).mono ?_; rintro e w5 ⟨rfl, rfl⟩; rw [HNM.out])
          | (go_at_call 50; refine (r14put_any c06 c11 k HK5.out _ A2 n2 c2 (l.filter keepV) _ (HS2.out.below HB23.out (Nat.le_refl _)) HN2.out HM.out (tabs_below HT2.out HB23.out)).mono ?_; rintro e w4 ⟨hb4, A5, n5, c5, rfl, ho5⟩; have HO5 := Lib.hid ho5; have HB4 := Lib.hid hb4; clear ho5 hb4)
          | fail)
        have HRU4 := Lib.hid (HRU.out.keep HB4.out)
        have hg4 := HRU4.out.hold
        obtain ⟨⟨q0, p0⟩, ⟨q1, p1⟩, ⟨q2, p2⟩, ⟨q3, p3⟩⟩ := colcells hg4
        have HS5 := Lib.hid (own_from (B' := w3.heap.size) HO5.out (Nat.le_refl _))
        clear hg4
        go_upto_region 17 with (first
          | (at_builtin; refine apl1 (T := tStream) elemStream w4 w2 rfl (.tmp 67) (.tmp 70) rfl w2.heap.size _ 1 1 [(1, presB l)] (by rfl) _ (fun b => w3.heap.size ≤ b) HRU4.out.own HRU4.out.below (Nat.le_refl _) _ (by rfl) [.int .i64 2, .slice A5 n5 c5] (2, intsB k (l.filter keepV)) ⟨[.int .i64 2], [.slice A5 n5 c5], rfl, ⟨rfl, i64_lit 2 (by omega)⟩, ⟨A5, n5, c5, rfl, HS5.out⟩⟩ 55 rfl (fun b h1 _ _ => by injection h1 with h1; injection h1 with h1; have := HZW.out; omega) (by omega) ?_; intro A6 c6 w6 h6; have HP6 := Lib.hid ((HRU4.out.alloc _).push h6 (fun hx => hx.1.elim HRU4.out.ng (fun hx => by have := HZW.out; omega))); obtain ⟨r3, s3⟩ := (HRU4.out.alloc _).hold' h6; clear h6)
          | fail)
        clear q0 p0 q1 p1 q2 p2 q3 p3 r3 s3
        obtain ⟨w7, hw7⟩ : ∃ w7, w7 = w6.setCell ⟨w2.heap.size + 1, 3, none⟩ (.slice A6 2 c6) := ⟨_, rfl⟩
        have HW7 := Lib.hid hw7
        rw [← hw7] at HP6
        rw [← hw7]
        have hg7 := HP6.out.hold
        obtain ⟨⟨q0, p0⟩, ⟨q1, p1⟩, ⟨q2, p2⟩, ⟨q3, p3⟩⟩ := colcells hg7
        have HG7 := Lib.hid (HZ2.out.keep HP6.out.below)
        obtain ⟨⟨z0, y0⟩, ⟨z1, y1⟩, ⟨z2, y2⟩, ⟨z3, y3⟩⟩ := HG7.out.cells0
        clear hg7 hw7
        go_wp2_with fail
        refine bodyPost_ret (results_rowB rfl _ _ w.heap.size 27 #[.int .i64 (i : Int), .int .i64 1, .int .i64 0, .slice A6 2 c6] (0, 0) _ rfl (colset HG7.out.at_ _ _ _ _) Tryz.underlying27 rfl (by kernel_rfl)) rfl ?_
        unfold ColPost
        rw [HR.out, HE.out, HC.out, ← HL.out]
        refine ⟨A6, 2, c6, rfl, ?_, colset_below (HBX.out.trans (HP6.out.below.mono HBX.out.size)) (Nat.le_refl _) _ _ _ _⟩
        have hs7 := HP6.out.own.sl.weaken (F' := fun b => w.heap.size + 1 ≤ b) (fun b hb _ => by
          have e1 := HLO.out; have e2 := HB.out.size; have e3 := HWC.out.size; have e4 := HB2.out.size
          rcases hb with hb | hb
          · rcases hb.1 with hb | hb
            · have := hb.1; omega
            · have := HZW.out; omega
          · have := hb.2; omega)
        exact (hs7.keep (by simp) (fun b hb _ => colset_at (by omega) _ _ _ _)).weaken fun b hb _ => by omega
      · obtain ⟨ws, hws⟩ : ∃ ws, ws = (l.filter keepV).map (·.s) := ⟨_, rfl⟩
        have HC := Lib.hid (show colC k l = ((txC ws).1, (txC ws).2.1, (1, presB l) :: (txC ws).2.2) by unfold colC; rw [if_neg (by omega), hws])
        obtain ⟨enc, tx, ss, htx⟩ : ∃ enc tx ss, txC ws = (enc, tx, ss) := ⟨_, _, _, rfl⟩
        have HWS := Lib.hid hws; have HTX := Lib.hid htx
        have HNM := Lib.hid (show decide (1 ≤ k ∧ k ≤ 5) = false from decide_eq_false (by omega))
        have HSM := Lib.hid (show ∀ s ∈ ws, s.size ≤ 300 from fun s hs => by
          rw [hws] at hs
          obtain ⟨v, hv, rfl⟩ := List.mem_map.1 hs
          obtain ⟨h1, h2⟩ := HM.out v hv
          unfold mayV at h2
          rw [if_neg (by omega), if_pos (by have := HKK.out; omega), h1] at h2
          simp at h2
          exact h2.2.1)
        have HO0 := Lib.hid (OwnF.empty tStr 9 (fun _ => False) w3 w3.heap.size (Nat.le_refl _) (fun _ hb => hb.elim))
        have HB0 := Lib.hid (show Below w3.heap.size w3 (w3.alloc (.cells #[] 9)) from (Below.refl _ _).alloc (Nat.le_refl _) _)
        clear hws htx
        go_wp2_with (first
          | (go_at_call 49; refine (r12num_any _ _).mono ?_; rintro e w5 ⟨rfl, rfl⟩; rw [HNM.out])
          | fail)
        go_loopw [15, 16] (fun v iv wx => ∃ (j : Nat) (A5 : Option Addr) (c5 : Nat) (G : Nat → Prop), j ≤ n2 ∧ iv = .int .i64 (j : Int) ∧ v = .slice A5 j c5 ∧ OwnF tStr 9 G wx w3.heap.size A5 j c5 (((l.filter keepV).take j).map (·.s)) ∧ Below w3.heap.size w3 wx) (fun _ iv _ => n2 - (intOf iv).toNat)
        case atStart => exact ⟨0, _, 0, _, Nat.zero_le _, rfl, rfl, HO0.out, HB0.out⟩
        case round =>
          obtain ⟨j, A5, c5, G, hj, rfl, rfl, hown, hb5⟩ := hrel
          have HO := Lib.hid hown; have HB5 := Lib.hid hb5
          clear hown hb5
          by_cases hjn : j < n2
          · have hjl : j < (l.filter keepV).length := by rw [← HL2.out]; exact hjn
            obtain ⟨b, o, cs, rfl, _, hbl, hrep, hc⟩ := (HS2.out.below (HB23.out.trans (HB5.out.mono (by have := HZW.out; omega))) (Nat.le_refl _)).at_ hjl (by decide)
            obtain ⟨v, hf⟩ : ∃ v, v = (l.filter keepV)[j] := ⟨_, rfl⟩
            obtain ⟨rfl, hok⟩ := hrep
            rw [← hf] at hc hok
            obtain ⟨nu, x, s⟩ := v
            have hsm : s.size ≤ maxLen := hok.2.2
            have HF := Lib.hid hf
            obtain ⟨g0, g1, g2⟩ := cells3 hc
            have g0 : _ = some (Value.bool nu) := g0
            have g1 : _ = some (Value.int .i64 x) := g1
            have g2 : _ = some (Value.string s) := g2
            have hi0 : (0 : Int) ≤ (j : Int) := by omega
            have hi1 : (j : Int) < (n2 : Int) := by omega
            have hj4 : j ≤ 34359738368 := by have := HN2.out; omega
            have HSMX := Lib.hid hsm
            clear hc hf hok hsm
            go_wp2_with (first
              | (at_builtin; refine apl1 (T := tStr) elemStr _ w3 rfl (.tmp 81) (.tmp 87) rfl w3.heap.size A5 j c5 (((l.filter keepV).take j).map (·.s)) (by rfl) G (fun _ => False) HO.out HB5.out (Nat.le_refl _) _ (by rfl) [.string s] s ⟨rfl, HSMX.out⟩ 9 rfl (fun _ _ _ _ h4 => h4) hj4 ?_; intro A7 c7 w7 h7)
              | fail)
            go_roundw
            case rel =>
              have e1 : ((l.filter keepV).take (j + 1)).map (·.s) = ((l.filter keepV).take j).map (·.s) ++ [s] := by
                rw [List.take_succ_eq_append_getElem hjl, List.map_append, ← HF.out]; rfl
              have e2 := h7.own
              rw [← e1] at e2
              exact ⟨j + 1, A7, c7, _, by omega, by go_num, rfl, e2, h7.below⟩
            case measure => simp [intOf]; omega
          · obtain rfl : j = n2 := by omega
            obtain ⟨w5, rfl⟩ : ∃ w5, w5 = wr := ⟨wr, rfl⟩
            have e1 : (l.filter keepV).take j = l.filter keepV := List.take_of_length_le (by rw [← HL2.out]; exact Nat.le_refl _)
            rw [e1, ← HWS.out] at HO
            have HRU5 := Lib.hid (HRU.out.keep HB5.out)
            have HZ5 := Lib.hid HB5.out.size
            clear e1
            go_upto_region 24 with (first
              | (go_at_call 51; refine (r15put_at _ A5 j c5 ws w5 HO.out.sl HN2.out HSM.out enc tx ss HTX.out).mono ?_; rintro e w6 ⟨A6, n6, c6, rfl, hs6, hb6⟩; have HS6 := Lib.hid hs6; have HB6 := Lib.hid hb6; clear hs6 hb6)
              | fail)
            have HRU6 := Lib.hid (HRU5.out.keep HB6.out)
            have HZ6 := Lib.hid HB6.out.size
            obtain ⟨w7, hw7⟩ : ∃ w7, w7 = w6.alloc (.cells #[.int .i64 (j : Int), .int .i64 enc, .int .i64 tx, .slice A6 n6 c6] 27) := ⟨_, rfl⟩
            have hru7 : RuC w2 (w2.heap.size + 1) (i : Int) 1 0 (fun b => wq.heap.size ≤ b ∧ b < w2.heap.size) (some ⟨w2.heap.size, 0, none⟩) 1 1 [(1, presB l)] w7 := by rw [hw7]; exact HRU6.out.alloc _
            have hgt : w7.heap[w6.heap.size]? = some (.cells #[.int .i64 (j : Int), .int .i64 enc, .int .i64 tx, .slice A6 n6 c6] 27 (0, 0)) := by rw [hw7]; exact heap_alloc_new _ _
            have hs7 : Sl tStream (fun b => w5.heap.size ≤ b ∧ b < w6.heap.size) w7 A6 n6 c6 ss := by rw [hw7]; exact (HS6.out.weaken fun b hb hl => ⟨hb, hl⟩).alloc _
            obtain ⟨t0, ht0⟩ : ∃ t0, t0 = w6.heap.size := ⟨_, rfl⟩
            have hts : t0 < w7.heap.size := by rw [hw7, World.size_alloc, ht0]; omega
            have HZ6 : Hid (w5.heap.size ≤ t0) := Lib.hid (by rw [ht0]; exact HZ6.out)
            rw [← hw7]
            rw [← ht0] at hgt hs7 ⊢
            obtain ⟨g, hgg⟩ : ∃ g, g = w2.heap.size + 1 := ⟨_, rfl⟩
            rw [← hgg] at hru7 ⊢
            have HGG := Lib.hid hgg
            have hgne : t0 ≠ g := by have := HZ6.out; have := HZ5.out; have := HZW.out; omega
            have HRU7 := Lib.hid hru7; have HS7 := Lib.hid hs7; have HGT := Lib.hid hgt; have HNE := Lib.hid hgne; have HTS := Lib.hid hts
            clear hru7 hs7 hgt hw7 ht0 hgg hts
            have hg7 := HRU7.out.hold
            have hgt := HGT.out
            obtain ⟨⟨q0, p0⟩, ⟨q1, p1⟩, ⟨q2, p2⟩, ⟨q3, p3⟩⟩ := colcells hg7
            obtain ⟨⟨u0, _⟩, ⟨u1, _⟩, ⟨u2, _⟩, ⟨u3, _⟩⟩ := colcells hgt
            clear hg7 hgt
            go_upto_region 25 with fail
            clear q0 p0 q1 p1 q2 p2 q3 p3 u0 u1 u2 u3
            obtain ⟨w8, hw8⟩ : ∃ w8, w8 = w7.setCell ⟨g, 1, none⟩ (.int .i64 enc) := ⟨_, rfl⟩
            have hru8 := HRU7.out.set1 (enc' := enc)
            have hgt8 : w8.heap[t0]? = some (.cells #[.int .i64 (j : Int), .int .i64 enc, .int .i64 tx, .slice A6 n6 c6] 27 (0, 0)) := by rw [hw8]; exact (Below.heap_setCell _ _ _ _ HNE.out).trans HGT.out
            have hs8 : Sl tStream (fun b => w5.heap.size ≤ b ∧ b < t0) w8 A6 n6 c6 ss := by rw [hw8]; exact HS7.out.setCell (p := ⟨g, 1, none⟩) (fun hb => by have h1 : w5.heap.size ≤ g := hb.1; have := HZ5.out; have := HZW.out; have := HGG.out; omega) _
            rw [← hw8] at hru8 ⊢
            have HRU8 := Lib.hid hru8; have HS8 := Lib.hid hs8; have HGT8 := Lib.hid hgt8
            clear hru8 hs8 hgt8 hw8
            have hg7 := HRU8.out.hold
            have hgt := HGT8.out
            obtain ⟨⟨q0, p0⟩, ⟨q1, p1⟩, ⟨q2, p2⟩, ⟨q3, p3⟩⟩ := colcells hg7
            obtain ⟨⟨u0, _⟩, ⟨u1, _⟩, ⟨u2, _⟩, ⟨u3, _⟩⟩ := colcells hgt
            clear hg7 hgt
            go_upto_region 26 with fail
            clear q0 p0 q1 p1 q2 p2 q3 p3 u0 u1 u2 u3
            obtain ⟨w9, hw9⟩ : ∃ w9, w9 = w8.setCell ⟨g, 2, none⟩ (.int .i64 tx) := ⟨_, rfl⟩
            have hru9 := HRU8.out.set2 (tx' := tx)
            have hgt9 : w9.heap[t0]? = some (.cells #[.int .i64 (j : Int), .int .i64 enc, .int .i64 tx, .slice A6 n6 c6] 27 (0, 0)) := by rw [hw9]; exact (Below.heap_setCell _ _ _ _ HNE.out).trans HGT8.out
            have hs9 : Sl tStream (fun b => w5.heap.size ≤ b ∧ b < t0) w9 A6 n6 c6 ss := by rw [hw9]; exact HS8.out.setCell (p := ⟨g, 2, none⟩) (fun hb => by have h1 : w5.heap.size ≤ g := hb.1; have := HZ5.out; have := HZW.out; have := HGG.out; omega) _
            rw [← hw9] at hru9 ⊢
            have HRU9 := Lib.hid hru9; have HS9 := Lib.hid hs9; have HGT9 := Lib.hid hgt9
            have HN6 := Lib.hid (show n6 ≤ 3 by have h1 := txC_len ws; rw [HTX.out] at h1; have h2 : ss.length ≤ 3 := h1; have := hs9.len; omega)
            clear hru9 hs9 hgt9 hw9
            have hg7 := HRU9.out.hold
            have hgt := HGT9.out
            obtain ⟨⟨q0, p0⟩, ⟨q1, p1⟩, ⟨q2, p2⟩, ⟨q3, p3⟩⟩ := colcells hg7
            obtain ⟨⟨u0, _⟩, ⟨u1, _⟩, ⟨u2, _⟩, ⟨u3, _⟩⟩ := colcells hgt
            clear hg7 hgt
            go_upto_region 27 with (first
              | (at_builtin; refine apl (T := tStream) elemStream w9 w2 rfl (.tmp 101) (.tmp 103) rfl w2.heap.size _ 1 1 [(1, presB l)] (by rfl) _ (fun b => w5.heap.size ≤ b ∧ b < t0) HRU9.out.own HRU9.out.below (Nat.le_refl _) A6 n6 c6 ss (by rfl) HS9.out (fun b h1 _ _ hb => by injection h1 with h1; injection h1 with h1; have := HZW.out; have := HZ5.out; omega) (by have := HN6.out; omega) ?_; intro A8 c8 wA h8; have HPA := Lib.hid (HRU9.out.push h8 (fun hx => hx.1.elim HRU9.out.ng (fun hx => by have := HZW.out; have := HZ5.out; have := HGG.out; omega))); obtain ⟨r3, s3⟩ := HRU9.out.hold' h8; clear h8)
              | fail)
            clear q0 p0 q1 p1 q2 p2 q3 p3 u0 u1 u2 u3 r3 s3
            obtain ⟨wB, hwB⟩ : ∃ wB, wB = wA.setCell ⟨g, 3, none⟩ (.slice A8 (1 + n6) c8) := ⟨_, rfl⟩
            rw [← hwB] at HPA
            rw [← hwB]
            have hg7 := HPA.out.hold
            obtain ⟨⟨q0, p0⟩, ⟨q1, p1⟩, ⟨q2, p2⟩, ⟨q3, p3⟩⟩ := colcells hg7
            have HG7 := Lib.hid (HZ2.out.keep HPA.out.below)
            obtain ⟨⟨z0, y0⟩, ⟨z1, y1⟩, ⟨z2, y2⟩, ⟨z3, y3⟩⟩ := HG7.out.cells0
            clear hg7 hwB
            go_wp2_with fail
            refine bodyPost_ret (results_rowB rfl _ _ w.heap.size 27 #[.int .i64 (i : Int), .int .i64 enc, .int .i64 tx, .slice A8 (1 + n6) c8] (0, 0) _ rfl (colset HG7.out.at_ _ _ _ _) Tryz.underlying27 rfl (by kernel_rfl)) rfl ?_
            unfold ColPost
            rw [HR.out, HE.out, HC.out, HTX.out, ← HL.out]
            refine ⟨A8, 1 + n6, c8, rfl, ?_, colset_below (HBX.out.trans (HPA.out.below.mono HBX.out.size)) (Nat.le_refl _) _ _ _ _⟩
            have hs7 := HPA.out.own.sl.weaken (F' := fun b => w.heap.size + 1 ≤ b) (fun b hb _ => by
              have e1 := HLO.out; have e2 := HB.out.size; have e3 := HWC.out.size; have e4 := HB2.out.size; have e5 := HZ5.out; have e6 := HZW.out
              rcases hb with hb | hb
              · rcases hb.1 with hb | hb
                · have := hb.1; omega
                · omega
              · have := hb.2; omega)
            exact (hs7.keep (by simp) (fun b hb _ => colset_at (by omega) _ _ _ _)).weaken fun b hb _ => by omega
theorem r16put_any (k : Int) (F : Nat → Prop) (A : Option Addr) (n c : Nat) (l : List VV) (w : World) (h : Sl tVV F w A n c l) (hn : n ≤ 4096) (hT : Lib.Utf8Tabs 0 1 w) :
    Calls Tryz.prog 13 #[.int .i64 k, .slice A n c] w (ColPost k l w) := by
  by_cases hE : colE k l = 0
  · exact r16put_yes k F A n c l w h hn hT hE
  · exact r16put_no k F A n c l w h hn hT hE
end Go.Proofs.YtpmglcachffojaaGreatDoor
