/- pilasterref32.SameEvents and what it calls, at two lists that read as the same. -/
import Derived.Test.YtojenpjafgfpaaaGreatDoorEq
import Derived.Test.YtojenpjafgfpaaaGreatDoorStruct
import Derived.Test.YtojenpjafgfpaaaGreatDoorDesk3
import Derived.StillTailTactics
namespace Go.Proofs.YtojenpjafgfpaaaGreatDoor
open Go Go.RowKit

/-- The same world, but for what was drawn. -/
def DrewE (w w' : World) : Prop := ∃ m, w' = w.drewN m
theorem DrewE.refl (w : World) : DrewE w w := ⟨0, rfl⟩
theorem drewE2 {w w' : World} (h : DrewE w w') (n : Nat) : DrewE w (w'.drewN n) := by obtain ⟨m, rfl⟩ := h; exact ⟨m + n, World.drewN_drewN ..⟩
theorem DrewE.below {w w' : World} (h : DrewE w w') : Below w.heap.size w w' := by obtain ⟨m, rfl⟩ := h; exact bdrewN (Below.refl _ _) m
theorem Sl.drewE {α : Type} {T : Ty α} {F : Nat → Prop} {w w' : World} {A : Option Addr} {n c : Nat} {xs : List α} (h : Sl T F w A n c xs) (hm : DrewE w w') : Sl T F w' A n c xs := by
  obtain ⟨m, rfl⟩ := hm; exact h.drewN m

set_option maxRecDepth 100000 in
set_option maxHeartbeats 1000000 in
theorem rnumbers_any (F F' : Nat → Prop) (A A' : Option Addr) (n c n' c' : Nat) (l : List Int) (w : World) (h : Sl tI64 F w A n c l) (h' : Sl tI64 F' w A' n' c' l) :
    Calls Tryz.prog 55 #[.slice A n c, .slice A' n' c'] w fun e w' => e = .returned (.bool true) ∧ DrewE w w' := by
  obtain rfl : n' = n := by rw [h.len, h'.len]
  have HL := Lib.hid h.len
  have hmax : n' ≤ 9223372036854775807 := by have h2 := h.2.1; have h3 := h.2.2.1; unfold maxLen at h3; omega
  go_enter Tryz.func55, Tryz.ntmps55
  go_wp2
  go_loopw [5] (fun i wr => ∃ k : Nat, k ≤ n' ∧ i = .int .i64 k ∧ DrewE w wr) (fun i _ => n' - (intOf i).toNat)
  case atStart => exact ⟨0, Nat.zero_le _, rfl, DrewE.refl _⟩
  case round =>
    obtain ⟨k, hk, rfl, hm⟩ := hrel
    have g := h.drewE hm
    have g' := h'.drewE hm
    have HW := Lib.hid hm; clear hm
    by_cases hlt : k < n'
    · have hkl : k < l.length := by rw [← HL.out]; exact hlt
      obtain ⟨b, o, u, rfl, _, hbl, ⟨hu, _⟩, hc⟩ := g.at1 hkl rfl
      obtain ⟨b', o', u', rfl, _, hbl', ⟨hu', _⟩, hc'⟩ := g'.at1 hkl rfl
      injection hu with hu; injection hu' with hu'; subst hu hu'
      clear g g'
      have hi1 : (0 : Int) ≤ (k : Int) := by omega
      have hi2 : (k : Int) < (n' : Int) := by omega
      go_wp2_with fail
      go_quiet (fail)
      go_wp2_with fail
      go_roundw
      case rel => exact ⟨k + 1, by omega, by go_num, drewE2 HW.out _⟩
      case measure => simp [intOf]; omega
    · obtain rfl : k = n' := by omega
      go_wp2_with fail
      go_ret
      exact ⟨rfl, HW.out⟩

set_option maxRecDepth 100000 in
set_option maxHeartbeats 1000000 in
theorem sameRow_any (F F' : Nat → Prop) (A A' : Option Addr) (n c n' c' : Nat) (l : List VV) (w : World) (h : Sl tVV F w A n c l) (h' : Sl tVV F' w A' n' c' l) :
    Calls Tryz.prog 56 #[.slice A n c, .slice A' n' c'] w fun e w' => e = .returned (.bool true) ∧ DrewE w w' := by
  obtain rfl : n' = n := by rw [h.len, h'.len]
  have HL := Lib.hid h.len
  have hmax : n' ≤ 9223372036854775807 := by have h2 := h.2.1; have h3 := h.2.2.1; unfold maxLen at h3; omega
  go_enter Tryz.func56, Tryz.ntmps56
  go_wp2
  go_loopw [5] (fun i wr => ∃ k : Nat, k ≤ n' ∧ i = .int .i64 k ∧ DrewE w wr) (fun i _ => n' - (intOf i).toNat)
  case atStart => exact ⟨0, Nat.zero_le _, rfl, DrewE.refl _⟩
  case round =>
    obtain ⟨k, hk, rfl, hm⟩ := hrel
    have g := h.drewE hm
    have g' := h'.drewE hm
    have HW := Lib.hid hm; clear hm
    by_cases hlt : k < n'
    · have hkl : k < l.length := by rw [← HL.out]; exact hlt
      obtain ⟨v, hv⟩ : ∃ v, v = l[k] := ⟨_, rfl⟩
      obtain ⟨b, o, u, rfl, _, hbl, hu, hc⟩ := g.at_ hkl (by decide)
      obtain ⟨b', o', u', rfl, _, hbl', hu', hc'⟩ := g'.at_ hkl (by decide)
      rw [← hv] at hu hu'
      obtain ⟨rfl, _⟩ := hu
      obtain ⟨rfl, _⟩ := hu'
      obtain ⟨c0, c1, c2⟩ := cells3 hc
      obtain ⟨d0, d1, d2⟩ := cells3 hc'
      clear g g' hc hc' hv
      have hi1 : (0 : Int) ≤ (k : Int) := by omega
      have hi2 : (k : Int) < (n' : Int) := by omega
      go_wp2_with fail
      go_quiet (fail)
      go_wp2_with fail
      go_roundw
      case rel => exact ⟨k + 1, by omega, by go_num, drewE2 HW.out _⟩
      case measure => simp [intOf]; omega
    · obtain rfl : k = n' := by omega
      go_wp2_with fail
      go_ret
      exact ⟨rfl, HW.out⟩
end Go.Proofs.YtojenpjafgfpaaaGreatDoor
/- pilasterref25.Same, pilasterref32.same, SameEvents: what reads as the same is told to be the same. -/
namespace Go.Proofs.YtojenpjafgfpaaaGreatDoor
open Go Go.RowKit
attribute [local go_sem ↓] Go.wp_at_zero Go.wp_at_succ

/-- Two things, boxed one behind the other. -/
theorem boxed2 (w : World) (cs ds : List Value) (t u : TypeId) : ∃ wb, wb = (w.alloc (.cells cs.toArray t)).alloc (.cells ds.toArray u) ∧ Below w.heap.size w wb ∧ (∀ j u, cs[j]? = some u → wb.cell? ⟨w.heap.size, j, none⟩ = some u) ∧
    (∀ j u, ds[j]? = some u → wb.cell? ⟨w.heap.size + 1, j, none⟩ = some u) ∧ wb.heap.size = w.heap.size + 2 ∧
    (∀ {α : Type} {T : Ty α} {F : Nat → Prop} {A : Option Addr} {n c : Nat} {xs : List α}, Sl T F w A n c xs → Sl T F wb A n c xs) := by
  have h1 : ∀ j v, cs[j]? = some v → (w.alloc (.cells cs.toArray t)).cell? ⟨w.heap.size, j, none⟩ = some v := fun j v hv => by rw [World.cell?_alloc_new]; simpa using hv
  have hb : Below (w.alloc (.cells cs.toArray t)).heap.size (w.alloc (.cells cs.toArray t)) ((w.alloc (.cells cs.toArray t)).alloc (.cells ds.toArray u)) := (Below.refl _ _).alloc (Nat.le_refl _) _
  refine ⟨_, rfl, ((Below.refl _ w).alloc (Nat.le_refl _) _).alloc (by simp) _, fun j v hv => ?_, fun j v hv => ?_, by simp, fun h => (h.alloc _).alloc _⟩
  · exact (hb.cell (p := ⟨w.heap.size, j, none⟩) (by simp)).trans (h1 j v hv)
  · rw [show w.heap.size + 1 = (w.alloc (.cells cs.toArray t)).heap.size by simp, World.cell?_alloc_new]; simpa using hv

set_option maxRecDepth 100000 in
set_option maxHeartbeats 1000000 in
theorem listSame_any (F F' : Nat → Prop) (hi : Int) (A A' : Option Addr) (n c n' c' : Nat) (l : List Int) (w : World) (h : Sl tI64 F w A n c l) (h' : Sl tI64 F' w A' n' c' l) :
    Calls Tryz.prog 54 #[.agg #[.int .i64 hi, .slice A n c], .agg #[.int .i64 hi, .slice A' n' c']] w fun e w' => e = .returned (.bool true) ∧ Below w.heap.size w w' := by
  obtain rfl : n' = n := by rw [h.len, h'.len]
  have HL := Lib.hid h.len
  have hmax : n' ≤ 9223372036854775807 := by have h2 := h.2.1; have h3 := h.2.2.1; unfold maxLen at h3; omega
  go_enter Tryz.func54, Tryz.ntmps54
  go_upto_if 20 with fail
  obtain ⟨wb, hwb, hB, hC, hD, hS, hK⟩ := boxed2 w [.int .i64 hi, .slice A n' c] [.int .i64 hi, .slice A' n' c'] 26 26
  have HB := Lib.hid hB; have HC := Lib.hid hC; have HD := Lib.hid hD; have HK := Lib.hid (hK h); have HK' := Lib.hid (hK h'); have HS := Lib.hid hS
  clear h h' hB hC hD hK hS
  rw [← hwb]
  clear hwb
  go_loopw [5] (fun i wr => ∃ k : Nat, k ≤ n' ∧ i = .int .i64 k ∧ DrewE wb wr) (fun i _ => n' - (intOf i).toNat)
  case atStart => exact ⟨0, Nat.zero_le _, rfl, DrewE.refl _⟩
  case round =>
    obtain ⟨k, hk, rfl, hm⟩ := hrel
    have g := HK.out.drewE hm
    have g' := HK'.out.drewE hm
    have q0 := kcell hm.below (HC.out 1 _ rfl)
    have q1 := kcell hm.below (HD.out 1 _ rfl)
    have HW := Lib.hid hm; clear hm
    by_cases hlt : k < n'
    · have hkl : k < l.length := by rw [← HL.out]; exact hlt
      obtain ⟨b, o, u, rfl, _, hbl, ⟨hu, _⟩, hc⟩ := g.at1 hkl rfl
      obtain ⟨b', o', u', rfl, _, hbl', ⟨hu', _⟩, hc'⟩ := g'.at1 hkl rfl
      injection hu with hu; injection hu' with hu'; subst hu hu'
      clear g g'
      have hi1 : (0 : Int) ≤ (k : Int) := by omega
      have hi2 : (k : Int) < (n' : Int) := by omega
      go_wp2_with fail
      go_quiet (fail)
      go_wp2_with fail
      go_roundw
      case rel => exact ⟨k + 1, by omega, by go_num, drewE2 HW.out _⟩
      case measure => simp [intOf]; omega
    · obtain rfl : k = n' := by omega
      go_wp2_with fail
      go_ret
      exact ⟨rfl, HB.out.trans (HW.out.below.mono HB.out.size)⟩

set_option maxRecDepth 100000 in
set_option maxHeartbeats 4000000 in
theorem sameEv_any (F F' : Nat → Prop) (e : EE) (cs cs' : List Value) (w : World) (h : tEE.rep F w cs e) (h' : tEE.rep F' w cs' e) :
    Calls Tryz.prog 24 #[.agg cs.toArray, .agg cs'.toArray] w fun e w' => e = .returned (.bool true) ∧ Below w.heap.size w w' := by
  obtain ⟨A1, n1, c1, A2, n2, c2, A3, n3, c3, A4, n4, c4, A5, n5, c5, rfl, _, _, _, _, _, h1, h2, h3, h4, h5⟩ := h
  obtain ⟨B1, m1, d1, B2, m2, d2, B3, m3, d3, B4, m4, d4, B5, m5, d5, rfl, _, _, _, _, _, k1, k2, k3, k4, k5⟩ := h'
  obtain rfl : m1 = n1 := by rw [h1.len, k1.len]
  obtain rfl : m2 = n2 := by rw [h2.len, k2.len]
  obtain rfl : m3 = n3 := by rw [h3.len, k3.len]
  obtain rfl : m4 = n4 := by rw [h4.len, k4.len]
  obtain rfl : m5 = n5 := by rw [h5.len, k5.len]
  have HL1 := Lib.hid h1.len; have HL2 := Lib.hid h2.len; have HL5 := Lib.hid h5.len
  have hx1 : m1 ≤ 9223372036854775807 := by have h2 := h1.2.1; have h3 := h1.2.2.1; unfold maxLen at h3; omega
  have hx2 : m2 ≤ 9223372036854775807 := by have g2 := h2.2.1; have g3 := h2.2.2.1; unfold maxLen at g3; omega
  have hx5 : m5 ≤ 9223372036854775807 := by have h2 := h5.2.1; have h3 := h5.2.2.1; unfold maxLen at h3; omega
  go_enter Tryz.func24, Tryz.ntmps24
  obtain ⟨wb, hwb, hB, hC, hD, hS, hK⟩ := boxed2 w [.int .i64 e.kind, .int .i64 e.id, .int .i64 e.n, .int .i64 e.m, .slice A1 m1 c1, .slice A2 m2 c2, .int .i64 e.list.high, .slice A3 m3 c3, .slice A4 m4 c4, .slice A5 m5 c5]
    [.int .i64 e.kind, .int .i64 e.id, .int .i64 e.n, .int .i64 e.m, .slice B1 m1 d1, .slice B2 m2 d2, .int .i64 e.list.high, .slice B3 m3 d3, .slice B4 m4 d4, .slice B5 m5 d5] 29 29
  have HB := Lib.hid hB; have HC := Lib.hid hC; have HD := Lib.hid hD; have HS := Lib.hid hS
  have H1 := Lib.hid (hK h1); have H2 := Lib.hid (hK h2); have H3 := Lib.hid (hK h3); have H4 := Lib.hid (hK h4); have H5 := Lib.hid (hK h5)
  have K1 := Lib.hid (hK k1); have K2 := Lib.hid (hK k2); have K3 := Lib.hid (hK k3); have K4 := Lib.hid (hK k4); have K5 := Lib.hid (hK k5)
  clear h1 h2 h3 h4 h5 k1 k2 k3 k4 k5 hB hC hD hS hK
  have HWB := Lib.hid hwb; clear hwb
  go_upto_if 86 with (first
    | (go_at_call 54; rw [← HWB.out]; refine (listSame_any _ _ e.list.high A3 B3 _ _ _ _ e.list.except _ H3.out K3.out).mono ?_; rintro e1 w1 ⟨rfl, hb1⟩; have HB1 := Lib.hid hb1
       have a8 := kcell hb1 (HC.out 8 _ rfl); have b8 := kcell hb1 (HD.out 8 _ rfl); clear hb1)
    | (go_at_call 55; refine (rnumbers_any _ _ A4 B4 _ _ _ _ e.cols _ (H4.out.below HB1.out (Nat.le_refl _)) (K4.out.below HB1.out (Nat.le_refl _))).mono ?_; rintro e2 w2 ⟨rfl, hb2⟩
       have HB2 := Lib.hid (HB1.out.trans (hb2.below.mono HB1.out.size)); clear a8 b8 hb2
       have a0 := kcell HB2.out (HC.out 0 _ rfl); have a1 := kcell HB2.out (HC.out 1 _ rfl); have a2 := kcell HB2.out (HC.out 2 _ rfl); have a3 := kcell HB2.out (HC.out 3 _ rfl); have a4 := kcell HB2.out (HC.out 4 _ rfl); have a5 := kcell HB2.out (HC.out 5 _ rfl); have a9 := kcell HB2.out (HC.out 9 _ rfl)
       have b0 := kcell HB2.out (HD.out 0 _ rfl); have b1 := kcell HB2.out (HD.out 1 _ rfl); have b2 := kcell HB2.out (HD.out 2 _ rfl); have b3 := kcell HB2.out (HD.out 3 _ rfl); have b4 := kcell HB2.out (HD.out 4 _ rfl); have b5 := kcell HB2.out (HD.out 5 _ rfl); have b9 := kcell HB2.out (HD.out 9 _ rfl))
    | fail)
  clear a0 a1 a2 a3 b0 b1 b2 b3 a4 a5 a9 b4 b5 b9
  go_loopw [7] (fun i wr => ∃ k : Nat, k ≤ m1 ∧ i = .int .i64 k ∧ DrewE w2 wr) (fun i _ => m1 - (intOf i).toNat)
  case atStart => exact ⟨0, Nat.zero_le _, rfl, DrewE.refl _⟩
  case round =>
    obtain ⟨k, hk, rfl, hm⟩ := hrel
    have hbl := HB2.out.trans (hm.below.mono HB2.out.size)
    have HBL := Lib.hid hbl
    have g := H1.out.below hbl (Nat.le_refl _)
    have g' := K1.out.below hbl (Nat.le_refl _)
    have a4 := kcell hbl (HC.out 4 _ rfl)
    have b4 := kcell hbl (HD.out 4 _ rfl)
    have HW := Lib.hid hm; clear hm hbl
    by_cases hlt : k < m1
    · have hkl : k < e.rows.length := by rw [← HL1.out]; exact hlt
      obtain ⟨b, o, u, rfl, _, hbl, ⟨A6, n6, c6, hu, hs⟩, hc⟩ := g.at1 hkl rfl
      obtain ⟨b', o', u', rfl, _, hbl', ⟨A7, n7, c7, hu', hs'⟩, hc'⟩ := g'.at1 hkl rfl
      injection hu with hu; injection hu' with hu'; subst hu hu'
      have HS := Lib.hid hs; have HS' := Lib.hid hs'
      clear g g' hs hs'
      have hi1 : (0 : Int) ≤ (k : Int) := by omega
      have hi2 : (k : Int) < (m1 : Int) := by omega
      go_wp2_with fail
      go_quiet ((go_at_call 56; exact Calls.quiet_of (sameRow_any _ _ A6 A7 _ _ _ _ _ _ (HS.out.drewN _) (HS'.out.drewN _))))
      go_wp2_with fail
      go_roundw
      case rel => exact ⟨k + 1, by omega, by go_num, drewE2 HW.out _⟩
      case measure => simp [intOf]; omega
    · obtain rfl : k = m1 := by omega
      clear g g' HW
      obtain ⟨w3, rfl⟩ : ∃ w3 : World, w3 = wr := ⟨_, rfl⟩
      go_wp2_with fail
      clear a4 b4
      go_loopw [9] (fun i wr => ∃ j : Nat, j ≤ m2 ∧ i = .int .i64 j ∧ DrewE w3 wr) (fun i _ => m2 - (intOf i).toNat)
      case atStart => exact ⟨0, Nat.zero_le _, rfl, DrewE.refl _⟩
      case round =>
        obtain ⟨j, hj, rfl, hm⟩ := hrel
        have hbl := HBL.out.trans (hm.below.mono HBL.out.size)
        have HBM := Lib.hid hbl
        have g := H2.out.below hbl (Nat.le_refl _)
        have g' := K2.out.below hbl (Nat.le_refl _)
        have a5 := kcell hbl (HC.out 5 _ rfl)
        have b5 := kcell hbl (HD.out 5 _ rfl)
        have HW := Lib.hid hm; clear hm hbl
        by_cases hlt : j < m2
        · have hkl : j < e.keys.length := by rw [← HL2.out]; exact hlt
          obtain ⟨b, o, u, rfl, _, hbl, ⟨rfl, _⟩, hc⟩ := g.at_ hkl (by decide)
          obtain ⟨b', o', u', rfl, _, hbl', ⟨rfl, _⟩, hc'⟩ := g'.at_ hkl (by decide)
          obtain ⟨p0, p1, p2⟩ := cells3 hc
          obtain ⟨q0, q1, q2⟩ := cells3 hc'
          clear g g' hc hc'
          have hi1 : (0 : Int) ≤ (j : Int) := by omega
          have hi2 : (j : Int) < (m2 : Int) := by omega
          go_wp2_with fail
          go_quiet (fail)
          go_wp2_with fail
          go_roundw
          case rel => exact ⟨j + 1, by omega, by go_num, drewE2 HW.out _⟩
          case measure => simp [intOf]; omega
        · obtain rfl : j = m2 := by omega
          clear g g' HW
          obtain ⟨w4, rfl⟩ : ∃ w4 : World, w4 = wr := ⟨_, rfl⟩
          go_wp2_with fail
          clear a5 b5
          go_loopw [10] (fun i wr => ∃ i0 : Nat, i0 ≤ m5 ∧ i = .int .i64 i0 ∧ Below w4.heap.size w4 wr) (fun i _ => m5 - (intOf i).toNat)
          case atStart => exact ⟨0, Nat.zero_le _, rfl, Below.refl _ _⟩
          case round =>
            obtain ⟨i, hi, rfl, hm⟩ := hrel
            have hbl := HBM.out.trans (hm.mono HBM.out.size)
            have HBN := Lib.hid hbl
            have g := H5.out.below hbl (Nat.le_refl _)
            have g' := K5.out.below hbl (Nat.le_refl _)
            have a9 := kcell hbl (HC.out 9 _ rfl)
            have b9 := kcell hbl (HD.out 9 _ rfl)
            have HW := Lib.hid hm; clear hm hbl
            by_cases hlt : i < m5
            · have hkl : i < e.pred.length := by rw [← HL5.out]; exact hlt
              obtain ⟨p, hp⟩ : ∃ p, p = e.pred[i] := ⟨_, rfl⟩
              obtain ⟨b, o, u, rfl, _, hbl, hu, hc⟩ := g.at_ hkl (by decide)
              obtain ⟨b', o', u', rfl, _, hbl', hu', hc'⟩ := g'.at_ hkl (by decide)
              rw [← hp] at hu hu'
              obtain ⟨A6, n6, c6, A7, n7, c7, rfl, _, _, _, s6, s7⟩ := hu
              obtain ⟨B6, m6, d6, B7, m7, d7, rfl, _, _, _, r6, r7⟩ := hu'
              obtain ⟨p0, p1, p2, p3, p4, p5, p6⟩ := cells7 hc
              obtain ⟨q0, q1, q2, q3, q4, q5, q6⟩ := cells7 hc'
              have S6 := Lib.hid s6; have S7 := Lib.hid s7; have R6 := Lib.hid r6; have R7 := Lib.hid r7
              clear g g' hc hc' hp s6 s7 r6 r7
              have hi1 : (0 : Int) ≤ (i : Int) := by omega
              have hi2 : (i : Int) < (m5 : Int) := by omega
              have hsz : w.heap.size + 1 < wr.heap.size := by have h1 := HBN.out.size; have h2 := HS.out; omega
              have hsz0 : w.heap.size < wr.heap.size := by omega
              obtain ⟨wc, hwc, hB, hC, hD, hS, hK⟩ := boxed2 wr [.int .i64 p.op, .int .i64 p.col, .bool p.v.null, .int .i64 p.v.n, .string p.v.s, .slice A6 n6 c6, .slice A7 n7 c7] [.int .i64 p.op, .int .i64 p.col, .bool p.v.null, .int .i64 p.v.n, .string p.v.s, .slice B6 m6 d6, .slice B7 m7 d7] 55 55
              have HCC := Lib.hid hC; have HDD := Lib.hid hD; have HBC := Lib.hid hB
              have T6 := Lib.hid (hK S6.out); have T7 := Lib.hid (hK S7.out); have U6 := Lib.hid (hK R6.out); have U7 := Lib.hid (hK R7.out)
              have HWC := Lib.hid hwc; clear hwc hB hC hD hS hK
              go_wp2_with (first
                | (go_at_call 56; rw [← HWC.out]; refine (sameRow_any _ _ A6 B6 _ _ _ _ p.vals _ T6.out U6.out).mono ?_; rintro e1 w5 ⟨rfl, hb5⟩; have HB5 := Lib.hid hb5; have x6 := kcell hb5.below (HCC.out 6 _ rfl); have y6 := kcell hb5.below (HDD.out 6 _ rfl); clear hb5)
                | (go_at_call 55; refine (rnumbers_any _ _ A7 B7 _ _ _ _ p.l _ (T7.out.drewE HB5.out) (U7.out.drewE HB5.out)).mono ?_; rintro e2 w6 ⟨rfl, hb6⟩
                   have HB6 := Lib.hid (HB5.out.below.trans (hb6.below.mono HB5.out.below.size)); clear x6 y6 hb6
                   have x0 := kcell HB6.out (HCC.out 0 _ rfl); have x1 := kcell HB6.out (HCC.out 1 _ rfl); have x2 := kcell HB6.out (HCC.out 2 _ rfl); have x3 := kcell HB6.out (HCC.out 3 _ rfl); have x4 := kcell HB6.out (HCC.out 4 _ rfl)
                   have y0 := kcell HB6.out (HDD.out 0 _ rfl); have y1 := kcell HB6.out (HDD.out 1 _ rfl); have y2 := kcell HB6.out (HDD.out 2 _ rfl); have y3 := kcell HB6.out (HDD.out 3 _ rfl); have y4 := kcell HB6.out (HDD.out 4 _ rfl))
                | fail)
              go_roundw
              case rel => exact ⟨i + 1, by omega, by go_num, HW.out.trans ((HBC.out.trans (HB6.out.mono HBC.out.size)).mono HW.out.size)⟩
              case measure => simp [intOf]; omega
            · obtain rfl : i = m5 := by omega
              go_wp2_with fail
              go_ret
              exact ⟨rfl, HB.out.trans (HBN.out.mono HB.out.size)⟩

set_option maxRecDepth 100000 in
set_option maxHeartbeats 2000000 in
theorem sameEvents_any (F F' : Nat → Prop) (A A' : Option Addr) (n c n' c' : Nat) (l : List EE) (w : World) (h : Sl tEE F w A n c l) (h' : Sl tEE F' w A' n' c' l) :
    Calls Tryz.prog 9 #[.slice A n c, .slice A' n' c'] w fun e w' => e = .returned (.bool true) ∧ Below w.heap.size w w' := by
  obtain rfl : n' = n := by rw [h.len, h'.len]
  have HL := Lib.hid h.len
  have hmax : n' ≤ 9223372036854775807 := by have h2 := h.2.1; have h3 := h.2.2.1; unfold maxLen at h3; omega
  go_enter Tryz.func9, Tryz.ntmps9
  go_wp2
  go_loopw [5] (fun i wr => ∃ k : Nat, k ≤ n' ∧ i = .int .i64 k ∧ Below w.heap.size w wr) (fun i _ => n' - (intOf i).toNat)
  case atStart => exact ⟨0, Nat.zero_le _, rfl, Below.refl _ _⟩
  case round =>
    obtain ⟨k, hk, rfl, hm⟩ := hrel
    have g := h.below hm (Nat.le_refl _)
    have g' := h'.below hm (Nat.le_refl _)
    have HW := Lib.hid hm; clear hm
    by_cases hlt : k < n'
    · have hkl : k < l.length := by rw [← HL.out]; exact hlt
      obtain ⟨x, hx⟩ : ∃ x, x = l[k] := ⟨_, rfl⟩
      obtain ⟨b, o, u, rfl, _, hbl, hu, hc⟩ := g.at_ hkl (by decide)
      obtain ⟨b', o', u', rfl, _, hbl', hu', hc'⟩ := g'.at_ hkl (by decide)
      rw [← hx] at hu hu'
      have HU := Lib.hid hu; have HU' := Lib.hid hu'
      obtain ⟨A1, n1, c1, A2, n2, c2, A3, n3, c3, A4, n4, c4, A5, n5, c5, rfl, _⟩ := hu
      obtain ⟨B1, m1, d1, B2, m2, d2, B3, m3, d3, B4, m4, d4, B5, m5, d5, rfl, _⟩ := hu'
      obtain ⟨p0, p1, p2, p3, p4, p5, p6, p7, p8, p9⟩ := cells10 hc
      obtain ⟨q0, q1, q2, q3, q4, q5, q6, q7, q8, q9⟩ := cells10 hc'
      clear g g' hc hc' hx
      have hi1 : (0 : Int) ≤ (k : Int) := by omega
      have hi2 : (k : Int) < (n' : Int) := by omega
      go_wp2_with fail
      go_still_tail 8, (by kernel_rfl)
      change wpList _ _ _ _ _ wr.drew
      obtain ⟨wd, hwd⟩ : ∃ wd : World, wd = wr.drew := ⟨_, rfl⟩
      have hdr : DrewE wr wd := ⟨1, hwd⟩
      have HDR := Lib.hid hdr
      have V := Lib.hid (tEE.below HU.out hdr.below (Nat.le_refl _)); have V' := Lib.hid (tEE.below HU'.out hdr.below (Nat.le_refl _))
      rw [← hwd]
      clear hwd hdr
      go_wp2_with (first
        | (go_at_call 24; refine (sameEv_any _ _ x _ _ _ V.out V'.out).mono ?_; rintro e1 w1 ⟨rfl, hb1⟩; have HB1 := Lib.hid (HDR.out.below.trans (hb1.mono HDR.out.below.size)); clear hb1)
        | fail)
      go_roundw
      case rel => exact ⟨k + 1, by omega, by go_num, HW.out.trans (HB1.out.mono HW.out.size)⟩
      case measure => simp [intOf]; omega
    · obtain rfl : k = n' := by omega
      go_wp2_with fail
      go_ret
      exact ⟨rfl, HW.out⟩
end Go.Proofs.YtojenpjafgfpaaaGreatDoor
