/- The layer wire: TakeValue. -/
import Derived.Test.YtojenpjafgfpaaaDoorTake4
namespace Go.Proofs.YtojenpjafgfpaaaDoor
open Go Go.RowKit
attribute [local go_sem ↓] Go.wp_at_zero Go.wp_at_succ

theorem takeValue_shp (l : List UInt8) : takeValue l = (shp l).bind fun L => match L with | [f1, f2, f3] => if f1.n ≤ 1 then some (vOf f1 f2 f3) else none | _ => none := by
  unfold takeValue shp
  cases h : wtake l with
  | none => rfl
  | some L =>
    by_cases hl : L.length = 3
    · obtain ⟨a, b, c, rfl⟩ := len3 hl
      simp only [Option.bind_some]
      by_cases hs : sh3 [a, b, c] = true
      · rw [if_pos hs]
        simp [sh3, sOk] at hs
        simp [hs, vOf]
      · rw [if_neg hs]
        simp only [Option.bind_none]
        rw [if_neg]
        rintro ⟨h1, h2, h3, h4, h5, h6, h7⟩
        exact hs (by simp [sh3, sOk, h1, h2, h3, h4, h5, h6])
    · have : sh3 L = false := sh3_len hl
      simp only [Option.bind_some, this]
      match L, hl with
      | [], _ => rfl
      | [_], _ => rfl
      | [_, _], _ => rfl
      | _ :: _ :: _ :: _ :: _, _ => rfl
      | [a, b, c], hl => exact absurd rfl hl

theorem run_bs {F : Nat → Prop} {w : World} {A : Option Addr} {n c : Nat} {l : List UInt8} (h : Bs F w A n c l) : (convert 35 9 (.slice A n c)).run Tryd.prog w = .ok (.string ⟨l.toArray⟩) w := by
  obtain ⟨hn, _, _, css, hrd, hr⟩ := h
  subst hn
  have hcs := reps_u8_eq hr
  subst hcs
  rw [bvs_css] at hrd
  cases A with
  | none =>
    have : l = [] := by
      cases l with
      | nil => rfl
      | cons x t => obtain ⟨_, _, h, _⟩ := hrd (by simp [bvs]); cases h
    subst this
    rw [List.length_nil, run_convert_bytes_string w _ _ _ none 0 c undBytes undByte undString]
    simp [Conv.bytesToString]
    rfl
  | some a =>
    refine run_convert_bytes_back w _ _ _ a c l undBytes undByte undString (fun j hj => ?_)
    obtain ⟨b, o, e, _, _, hc⟩ := hrd (by intro h0; cases l with | nil => simp at hj | cons x t => simp [bvs] at h0)
    injection e with e; subst e
    rw [add_lit]
    exact hc j _ (by rw [bvs_get l j hj])

theorem shp_len {l : List UInt8} {L : List Fld} (h : shp l = some L) : L.length = 3 := by
  unfold shp at h
  cases hw : wtake l with
  | none => rw [hw] at h; cases h
  | some M =>
    rw [hw] at h
    simp only [Option.bind_some] at h
    split at h
    · rename_i hs
      injection h with h; subst h
      by_cases hl : M.length = 3
      · exact hl
      · rw [sh3_len hl] at hs; cases hs
    · cases h
theorem shp_b3 {l : List UInt8} {a b c : Fld} (hl : l.length ≤ 4294967296) (h : shp l = some [a, b, c]) : c.b.length ≤ 4294967296 := by
  unfold shp at h
  cases hw : wtake l with
  | none => rw [hw] at h; cases h
  | some M =>
    rw [hw] at h
    simp only [Option.bind_some] at h
    split at h
    · injection h with h; subst h
      have h1 := wtake_count _ l _ (Nat.le_refl _) hw
      have h2 := bsum_mem [a, b, c] c (by simp)
      omega
    · cases h
theorem rdValue_none {l : List UInt8} (h : takeValue l = none) : rdValue l = (true, VV.zero) := by simp [rdValue, h]
theorem rdValue_some {l : List UInt8} {v : VV} (h : takeValue l = some v) : rdValue l = (false, v) := by simp [rdValue, h]
/-- What TakeValue leaves. -/
def TvPost (l : List UInt8) (w : World) (e : Ending) (w' : World) : Prop :=
  e = .returned (.tuple #[.agg #[.bool (rdValue l).2.null, .int .i64 (rdValue l).2.n, .string (rdValue l).2.s], .int .i64 (okc (takeValue l).isSome 2)]) ∧ Below w.heap.size w w' ∧ (rdValue l).2.ok ∧ (rdValue l).2.s.size ≤ 4294967296

set_option maxRecDepth 100000 in
set_option maxHeartbeats 3000000 in
theorem takeValue_any (F : Nat → Prop) (A : Option Addr) (n c : Nat) (l : List UInt8) (w : World) (h : Bs F w A n c l) (hn : n ≤ 4294967296) :
    Calls Tryd.prog 99 #[.slice A n c] w (TvPost l w) := by
  have HL := Lib.hid h.len
  go_enter Tryd.func99, Tryd.ntmps99
  go_wp2_with (go_at_call 104; refine (shaped_any F A n c l _ (h.alloc _) hn).mono ?_)
  rintro e w1 ⟨A1, n1, c1, rfl, hb1, hs1⟩
  have hbk : w1.heap[w.heap.size]? = some (.cells #[.bool false, .int .i64 0, .string ⟨#[]⟩] 71 (0, 0)) := (hb1.block _ (by simp)).trans (heap_alloc_new w _)
  have hlt : w.heap.size < w1.heap.size := by
    rcases Nat.lt_or_ge w.heap.size w1.heap.size with h' | h'
    · exact h'
    · rw [Array.getElem?_eq_none h'] at hbk; cases hbk
  have q0 : w1.cell? ⟨w.heap.size, 0, none⟩ = some (.bool false) := by rw [Lib.cell_of_heap hbk]; rfl
  have q1 : w1.cell? ⟨w.heap.size, 1, none⟩ = some (.int .i64 0) := by rw [Lib.cell_of_heap hbk]; rfl
  have q2 : w1.cell? ⟨w.heap.size, 2, none⟩ = some (.string ⟨#[]⟩) := by rw [Lib.cell_of_heap hbk]; rfl
  have f0 := Lib.frozen_of_heap hbk 0
  have f1 := Lib.frozen_of_heap hbk 1
  have f2 := Lib.frozen_of_heap hbk 2
  have HB1 : Hid (Below w.heap.size w w1) := Lib.hid (((Below.refl _ w).alloc (Nat.le_refl _) _).trans (hb1.mono (by simp)))
  have HBK := Lib.hid hbk
  have hs1 : Sl tFld (fun b => w.heap.size < b) w1 A1 n1 c1 ((shp l).getD []) := hs1.weaken fun b hb _ => by simp at hb; omega
  clear hbk hb1
  obtain ⟨ok, hok⟩ : ∃ ok, ok = (shp l).isSome := ⟨_, rfl⟩
  rw [← hok]
  cases hT : shp l with
  | none =>
    obtain rfl : ok = false := by rw [hok, hT]; rfl
    have HN := Lib.hid (show takeValue l = none by rw [takeValue_shp, hT]; rfl)
    clear hs1 hT hok
    go_wp2_with fail
    refine bodyPost_ret (results_row2 rfl _ _ w.heap.size 71 #[.bool false, .int .i64 0, .string ⟨#[]⟩] (0, 0) _ rfl (by have hk := HBK.out; (repeat (first | with_reducible exact hk | with_reducible apply heap_drew | with_reducible apply heap_set)); all_goals rfl) Tryd.underlying71 rfl (by kernel_rfl)) rfl
      ⟨by rw [rdValue_none HN.out, HN.out]; rfl, ?_, by rw [rdValue_none HN.out]; exact ⟨by decide, by decide, by decide⟩, by rw [rdValue_none HN.out]; decide⟩
    have hb := HB1.out
    repeat (first | with_reducible exact hb | with_reducible refine bdrewB ?_ | with_reducible refine bsetc ?_ (Nat.le_refl _) _)
  | some L =>
    obtain rfl : ok = true := by rw [hok, hT]; rfl
    rw [hT] at hs1
    have hS : Sl tFld (fun b => w.heap.size < b) w1 A1 n1 c1 L := hs1
    clear hs1
    obtain ⟨g1, g2, g3, rfl⟩ := len3 (shp_len hT)
    have hn1 : n1 = 3 := hS.len
    subst hn1
    obtain ⟨b, o, cs1, rfl, hb, hbl, hr1, hc1⟩ := hS.at_ (k := 0) (by simp) (by decide)
    obtain ⟨b', o', cs2, e2, _, _, hr2, hc2⟩ := hS.at_ (k := 1) (by simp) (by decide)
    injection e2 with e2; injection e2 with e2 e2'; subst e2 e2'
    obtain ⟨b', o', cs3, e3, _, _, hr3, hc3⟩ := hS.at_ (k := 2) (by simp) (by decide)
    injection e3 with e3; injection e3 with e3 e3'; subst e3 e3'
    obtain ⟨A2, n2, c2, rfl, _, hx1, _⟩ := hr1
    obtain ⟨A3, n3, c3, rfl, _, hx2, _⟩ := hr2
    obtain ⟨A4, n4, c4, rfl, _, _, hs4⟩ := hr3
    simp only [List.getElem_cons_zero, List.getElem_cons_succ] at hc1 hc2 hc3 hx1 hx2 hs4
    have k1 := (cells4 hc1).2.2.1
    have k2 := (cells4 hc2).2.2.1
    have k3 := (cells4 hc3).2.2.2
    simp only [Nat.zero_mul, Nat.add_zero, Nat.reduceMul] at k1 k2 k3
    clear hc1 hc2 hc3
    have hT2 := takeValue_shp l
    rw [hT] at hT2
    simp only [Option.bind_some] at hT2
    have HS4 := Lib.hid hs4
    have hsz4 : g3.b.length ≤ 4294967296 := shp_b3 (by have := HL.out; omega) hT
    by_cases hle : g1.n ≤ 1
    · rw [if_pos hle] at hT2
      have HT2 := Lib.hid hT2
      have hle' : ¬ (1 : Int) < (g1.n : Int) := by omega
      have hz := zagI_bd g2.n hx2
      clear hT hT2 hok hS hs4
      have hne : w.heap.size ≠ b := by omega
      go_wp2_with fail
      go_region_held3 (fun w' => w'.cell? ⟨b, o + 2, none⟩ = some (.int .u64 (g1.n : Int)) ∧ w'.cell? ⟨b, o + 4 + 2, none⟩ = some (.int .u64 (g2.n : Int)) ∧ w'.cell? ⟨b, o + 8 + 3, none⟩ = some (.slice A4 n4 c4) ∧ (convert 35 9 (.slice A4 n4 c4)).run Tryd.prog w' = .ok (.string ⟨g3.b.toArray⟩) w')
        (first
          | exact ⟨k1, k2, k3, run_bs HS4.out.drew⟩
          | assumption
          | (refine ⟨?_, ?_, ?_, ?_⟩; rotate_left 3; (· have hs := HS4.out; refine run_bs (F := fun b => w.heap.size < b) ?_; repeat (first | with_reducible exact hs | with_reducible refine Sl.drew ?_ | with_reducible refine slsetc ?_ (Nat.lt_irrefl _) _)); all_goals (simp [World.cell?_setCell_far, hne]; assumption)))
        (first
          | (go_at_call 87; refine (zag_any g2.n _ hx2).mono ?_; rintro e w' ⟨rfl, rfl⟩))
      go_wp2_with fail
      have hb1 : ((g1.n : Int) == 1) = decide (g1.n = 1) := by
        by_cases h1 : g1.n = 1
        · simp [h1]
        · simp [h1]; omega
      refine bodyPost_ret (results_row2 rfl _ _ w.heap.size 71 #[.bool ((g1.n : Int) == 1), .int .i64 (zagI g2.n), .string ⟨g3.b.toArray⟩] (0, 0) _ rfl (by have hk := HBK.out; (repeat (first | with_reducible exact hk | with_reducible apply heap_drew | with_reducible apply heap_set)); all_goals rfl) Tryd.underlying71 rfl (by kernel_rfl)) rfl
        ⟨by rw [rdValue_some HT2.out, HT2.out, hb1]; rfl, ?_, by rw [rdValue_some HT2.out]; exact ⟨hz.1, hz.2, by show g3.b.toArray.size ≤ maxLen; simp only [List.size_toArray, maxLen]; omega⟩, by rw [rdValue_some HT2.out]; show g3.b.toArray.size ≤ _; simp only [List.size_toArray]; exact hsz4⟩
      have hb := HB1.out
      repeat (first | with_reducible exact hb | with_reducible refine bdrewB ?_ | with_reducible refine bsetc ?_ (Nat.le_refl _) _)
    · rw [if_neg hle] at hT2
      have HN := Lib.hid hT2
      have hle' : (1 : Int) < (g1.n : Int) := by omega
      clear hT hT2 hok hS hs4
      go_wp2_with fail
      refine bodyPost_ret (results_row2 rfl _ _ w.heap.size 71 #[.bool false, .int .i64 0, .string ⟨#[]⟩] (0, 0) _ rfl (by have hk := HBK.out; (repeat (first | with_reducible exact hk | with_reducible apply heap_drew | with_reducible apply heap_set)); all_goals rfl) Tryd.underlying71 rfl (by kernel_rfl)) rfl
        ⟨by rw [rdValue_none HN.out, HN.out]; rfl, ?_, by rw [rdValue_none HN.out]; exact ⟨by decide, by decide, by decide⟩, by rw [rdValue_none HN.out]; decide⟩
      have hb := HB1.out
      repeat (first | with_reducible exact hb | with_reducible refine bdrewB ?_ | with_reducible refine bsetc ?_ (Nat.le_refl _) _)
end Go.Proofs.YtojenpjafgfpaaaDoor
