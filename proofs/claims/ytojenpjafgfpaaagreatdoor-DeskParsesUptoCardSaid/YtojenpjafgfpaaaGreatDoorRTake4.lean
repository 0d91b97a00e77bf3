/- The reference 19: shape. -/
import Derived.Test.YtojenpjafgfpaaaGreatDoorRTake2
import Derived.Test.YtojenpjafgfpaaaGreatDoorSame2
import Derived.Deep.CutRange
namespace Go.Proofs.YtojenpjafgfpaaaGreatDoor
open Go Go.RowKit
attribute [local go_sem ↓] Go.wp_at_zero Go.wp_at_succ

def shapeR : Nat → List Fld → List Bool → Bool
  | _, [], [] => true
  | i, f :: r, b :: s => decide (f.tag = (i : Int) + 1) && (f.bytes == b) && shapeR (i + 1) r s
  | _, _, _ => false
theorem shapeR_len : ∀ (i : Nat) (l : List Fld) (s : List Bool), l.length ≠ s.length → shapeR i l s = false
  | _, [], [], h => absurd rfl h
  | _, [], _ :: _, _ => rfl
  | _, _ :: _, [], _ => rfl
  | i, f :: r, b :: s, h => by simp only [shapeR]; rw [shapeR_len (i + 1) r s (by simpa using h)]; simp
theorem shape3_R (l : List Fld) : (shape3 l).isSome = shapeR 0 l [false, false, true] := by
  match l with
  | [] => rfl
  | [_] => simp [shape3, shapeR]
  | [_, _] => simp [shape3, shapeR]
  | _ :: _ :: _ :: _ :: _ => simp [shape3, shapeR]
  | [f1, f2, f3] =>
    unfold shape3
    dsimp only
    by_cases hc : f1.tag = 1 ∧ f1.bytes = false ∧ f2.tag = 2 ∧ f2.bytes = false ∧ f3.tag = 3 ∧ f3.bytes = true
    · rw [if_pos hc]
      obtain ⟨a1, a2, a3, a4, a5, a6⟩ := hc
      simp [shapeR, a1, a2, a3, a4, a5, a6]
    · rw [if_neg hc]
      simp only [shapeR, Option.isSome_none]
      symm
      rw [Bool.eq_false_iff]
      intro h
      simp only [Bool.and_eq_true, decide_eq_true_eq, beq_iff_eq] at h
      exact hc ⟨h.1.1, h.1.2, h.2.1.1, h.2.1.2, h.2.2.1.1, h.2.2.1.2⟩

set_option maxRecDepth 100000 in
set_option maxHeartbeats 2000000 in
theorem rshape_any (F F' : Nat → Prop) (A A' : Option Addr) (n c n' c' : Nat) (l : List Fld) (s : List Bool) (w : World) (h : Sl tFld F w A n c l) (h' : Sl tBool F' w A' n' c' s) :
    Calls Tryz.prog 80 #[.slice A n c, .slice A' n' c'] w fun e w' => e = .returned (.bool (shapeR 0 l s)) ∧ DrewE w w' := by
  have HL := Lib.hid h.len; have HL' := Lib.hid h'.len
  have hmax : n ≤ 9223372036854775807 := by have h2 := h.2.1; have h3 := h.2.2.1; unfold maxLen at h3; omega
  by_cases hnn : n = n'
  · obtain rfl : n' = n := hnn.symm
    clear hnn
    go_enter Tryz.func80, Tryz.ntmps80
    go_wp2
    go_loopw [5] (fun i wr => ∃ k : Nat, k ≤ n' ∧ i = .int .i64 k ∧ DrewE w wr ∧ shapeR 0 l s = shapeR k (l.drop k) (s.drop k)) (fun i _ => n' - (intOf i).toNat)
    case atStart => exact ⟨0, Nat.zero_le _, rfl, DrewE.refl _, by simp⟩
    case round =>
      obtain ⟨k, hk, rfl, hm, hsh⟩ := hrel
      have g := h.drewE hm
      have g' := h'.drewE hm
      have HW := Lib.hid hm; have HS := Lib.hid hsh; clear hm hsh
      by_cases hlt : k < n'
      · have hkl : k < l.length := by rw [← HL.out]; exact hlt
        have hkl' : k < s.length := by rw [← HL'.out]; exact hlt
        obtain ⟨b, o, u, rfl, _, hbl, hu, hc⟩ := g.at_ hkl (by decide)
        obtain ⟨b', o', u', rfl, _, hbl', hu', hc'⟩ := g'.at1 hkl' rfl
        obtain ⟨f, hf⟩ : ∃ f, f = l[k] := ⟨_, rfl⟩
        obtain ⟨t, ht⟩ : ∃ t, t = s[k] := ⟨_, rfl⟩
        have hdl : l.drop k = f :: l.drop (k + 1) := by rw [hf]; exact List.drop_eq_getElem_cons hkl
        have hds : s.drop k = t :: s.drop (k + 1) := by rw [ht]; exact List.drop_eq_getElem_cons hkl'
        have hstep : shapeR 0 l s = (decide (f.tag = (k : Int) + 1) && (f.bytes == t) && shapeR (k + 1) (l.drop (k + 1)) (s.drop (k + 1))) := by rw [HS.out, hdl, hds, shapeR]
        rw [← hf] at hu
        rw [← ht] at hu'
        have HST := Lib.hid hstep
        obtain ⟨A3, n3, c3, rfl, _⟩ := hu
        obtain rfl : u' = .bool t := by simpa [tBool] using hu'
        obtain ⟨g0, g1, _, _⟩ := cells4 hc
        clear g g' hc hu' hf ht hdl hds hstep
        have hi1 : (0 : Int) ≤ (k : Int) := by omega
        have hi2 : (k : Int) < (n' : Int) := by omega
        have hw1 : IntKind.i64.wrap ((k : Int) + 1) = (k : Int) + 1 := by rw [IntKind.wrap_i64]; omega
        by_cases h1 : f.tag = (k : Int) + 1
        · have h1b : (f.tag != (k : Int) + 1) = false := by simp [h1]
          by_cases h2 : f.bytes = t
          · have h2b : (f.bytes == t) = true := by simp [h2]
            have hfin : shapeR 0 l s = shapeR (k + 1) (l.drop (k + 1)) (s.drop (k + 1)) := by rw [HST.out, h1, h2]; simp
            have HFIN := Lib.hid hfin
            clear h1 h2 hfin
            go_wp2_with fail
            go_quiet (fail)
            clear hw1
            go_wp2_with fail
            go_roundw
            case rel => exact ⟨k + 1, by omega, by go_num, drewE2 HW.out _, HFIN.out⟩
            case measure => simp [intOf]; omega
          · have h2b : (f.bytes == t) = false := by simp [h2]
            have hfin : shapeR 0 l s = false := by rw [HST.out]; simp [h2]
            have HFIN := Lib.hid hfin
            clear h1 h2 hfin
            go_wp2_with fail
            go_quiet (fail)
            clear hw1
            go_wp2_with fail
            go_ret
            exact ⟨by rw [HFIN.out]; rfl, drewE2 HW.out _⟩
        · have h1b : (f.tag != (k : Int) + 1) = true := by simp [h1]
          have hfin : shapeR 0 l s = false := by rw [HST.out]; simp [h1]
          have HFIN := Lib.hid hfin
          clear h1 hfin
          go_wp2_with fail
          go_quiet (fail)
          clear hw1
          go_wp2_with fail
          go_ret
          exact ⟨by rw [HFIN.out]; rfl, drewE2 HW.out _⟩
      · obtain rfl : k = n' := by omega
        have hfin : shapeR 0 l s = true := by
          rw [HS.out, List.drop_of_length_le (by rw [← HL.out]; exact Nat.le_refl _), List.drop_of_length_le (by rw [← HL'.out]; exact Nat.le_refl _)]; rfl
        have HFIN := Lib.hid hfin; clear hfin
        go_wp2_with fail
        go_ret
        exact ⟨by rw [HFIN.out]; rfl, HW.out⟩
  · have hfin : shapeR 0 l s = false := shapeR_len 0 l s (by rw [← HL.out, ← HL'.out]; exact hnn)
    have HFIN := Lib.hid hfin; clear hfin
    go_enter Tryz.func80, Tryz.ntmps80
    go_wp2
    go_ret
    exact ⟨by rw [HFIN.out]; rfl, DrewE.refl _⟩
end Go.Proofs.YtojenpjafgfpaaaGreatDoor
/- The reference 19: TakeValue. -/
namespace Go.Proofs.YtojenpjafgfpaaaGreatDoor
open Go Go.RowKit
attribute [local go_sem ↓] Go.wp_at_zero Go.wp_at_succ

def RtNone (w : World) (e : Ending) (w' : World) : Prop := ∃ A n c, e = .returned (.tuple #[.slice A n c, .int .i64 2]) ∧ Below w.heap.size w w' ∧ Sl tFld (fun b => w.heap.size ≤ b) w' A n c []
def RtSome (L : List Fld) (w : World) (e : Ending) (w' : World) : Prop := ∃ A n c, e = .returned (.tuple #[.slice A n c, .int .i64 0]) ∧ Below w.heap.size w w' ∧ Sl tFld (fun b => w.heap.size ≤ b) w' A n c L
theorem rwtake_none (F : Nat → Prop) (A : Option Addr) (n c : Nat) (l : List UInt8) (w : World) (h : Bs F w A n c l) (hn : n ≤ 4294967296) (hv : wtake l = none) : Calls Tryz.prog 19 #[.slice A n c] w (RtNone w) :=
  (rwtake_any F A n c l w h hn).mono fun e w' ⟨A1, n1, c1, he, hb, hs⟩ => ⟨A1, n1, c1, by rw [he, hv]; rfl, hb, by rw [hv] at hs; exact hs⟩
theorem rwtake_some (F : Nat → Prop) (A : Option Addr) (n c : Nat) (l : List UInt8) (L : List Fld) (w : World) (h : Bs F w A n c l) (hn : n ≤ 4294967296) (hv : wtake l = some L) : Calls Tryz.prog 19 #[.slice A n c] w (RtSome L w) :=
  (rwtake_any F A n c l w h hn).mono fun e w' ⟨A1, n1, c1, he, hb, hs⟩ => ⟨A1, n1, c1, by rw [he, hv]; rfl, hb, by rw [hv] at hs; exact hs⟩
theorem sl_ffT (w : World) (p : Nat) (hp : p = w.heap.size) : Sl tBool (fun _ => True) (w.alloc (.cells #[.bool false, .bool false, .bool true] 4)) (some ⟨p, 0, none⟩) 3 3 [false, false, true] := by
  subst hp; exact Sl.new3 (T := tBool) (c1 := [.bool false]) (c2 := [.bool false]) (c3 := [.bool true]) rfl rfl rfl 4 _ rfl
theorem tv_none {l : List UInt8} (h : rtakeValue l = none) : takeValue l = none := by rw [← rtakeValue_eq]; exact h
theorem rputValue_p (v : VV) (hv : v.ok) (hs : v.s.size ≤ 4294967000) (p : List UInt8) (hp : p = putValue v) (w : World) :
    Calls Tryz.prog 34 #[.agg #[.bool v.null, .int .i64 v.n, .string v.s]] w (Own1 w p) := by subst hp; exact rputValue_any v hv hs w

set_option maxRecDepth 100000 in
set_option maxHeartbeats 8000000 in
theorem rtakeValue_any (F : Nat → Prop) (A : Option Addr) (n c : Nat) (l : List UInt8) (w : World) (h : Bs F w A n c l) (hn : n ≤ 4294967000) :
    Calls Tryz.prog 53 #[.slice A n c] w (TvPost l w) := by
  have HL := Lib.hid h.len
  have HH := Lib.hid h
  have HHA := Lib.hid (Sl.alloc h (.cells #[.bool false, .int .i64 0, .string ⟨#[]⟩] 53))
  have hbw : Below w.heap.size w (w.alloc (.cells #[.bool false, .int .i64 0, .string ⟨#[]⟩] 53)) := (Below.refl _ _).alloc (Nat.le_refl _) _
  have HBW := Lib.hid hbw
  clear hbw h
  cases hT : wtake l with
  | none =>
    have HN := Lib.hid (tv_none (l := l) (by unfold rtakeValue; rw [hT]; rfl))
    have HT := Lib.hid hT; clear hT
    go_enter Tryz.func53, Tryz.ntmps53
    go_wp2_with (first
      | (go_at_call 19; refine (rwtake_none F A n c l _ HHA.out (by omega) HT.out).mono ?_; rintro e w1 ⟨A1, n1, c1, rfl, hb1, hs1⟩; have HB1 := Lib.hid hb1; have HS1 := Lib.hid hs1; clear hb1 hs1)
      | (go_at_call 80; refine (rshape_any _ _ A1 _ n1 c1 3 3 [] [false, false, true] _ (HS1.out.alloc _) (sl_ffT w1 _ rfl)).mono ?_; rintro e w2 ⟨rfl, hd2⟩
         have hb2 := HB1.out.trans (((Below.refl w1.heap.size w1).alloc (Nat.le_refl _) (.cells #[.bool false, .bool false, .bool true] 4)).trans (hd2.below.mono (by simp)) |>.mono HB1.out.size)
         have hbk : w2.heap[w.heap.size]? = some (.cells #[.bool false, .int .i64 0, .string ⟨#[]⟩] 53 (0, 0)) := (hb2.block _ (by simp)).trans (heap_alloc_new w _)
         have q0 : w2.cell? ⟨w.heap.size, 0, none⟩ = some (.bool false) := (by rw [Lib.cell_of_heap hbk]; rfl)
         have q1 : w2.cell? ⟨w.heap.size, 1, none⟩ = some (.int .i64 0) := (by rw [Lib.cell_of_heap hbk]; rfl)
         have q2 : w2.cell? ⟨w.heap.size, 2, none⟩ = some (.string ⟨#[]⟩) := (by rw [Lib.cell_of_heap hbk]; rfl)
         have f0 := Lib.frozen_of_heap hbk 0; have f1 := Lib.frozen_of_heap hbk 1; have f2 := Lib.frozen_of_heap hbk 2
         have HB2A := Lib.hid hb2; have HB2 := Lib.hid (HBW.out.trans (hb2.mono HBW.out.size)); have HBK := Lib.hid hbk; have HS2 := Lib.hid ((HS1.out.alloc (.cells #[.bool false, .bool false, .bool true] 4)).drewE hd2); clear hb2 hbk hd2)
      | fail)
    refine bodyPost_ret (results_row2 rfl _ _ w.heap.size 53 #[.bool false, .int .i64 0, .string ⟨#[]⟩] (0, 0) _ rfl (by have hk := HBK.out; (repeat (first | with_reducible exact hk | with_reducible apply heap_drew | with_reducible apply heap_set)); all_goals rfl) Tryz.underlying53 rfl (by kernel_rfl)) rfl
      ⟨by rw [rdValue_none HN.out, HN.out]; rfl, ?_, by rw [rdValue_none HN.out]; exact ⟨by decide, by decide, by decide⟩, by rw [rdValue_none HN.out]; decide⟩
    have hb := HB2.out
    repeat (first | with_reducible exact hb | with_reducible refine bdrewB ?_ | with_reducible refine bsetc ?_ (Nat.le_refl _) _)
  | some L =>
    have HT := Lib.hid hT
    cases hS : shapeR 0 L [false, false, true] with
    | false =>
      have HN := Lib.hid (tv_none (l := l) (by
        have h3 := shape3_R L
        rw [hS] at h3
        unfold rtakeValue; rw [hT, Option.bind_some]
        cases h4 : shape3 L with
        | none => rfl
        | some p => rw [h4] at h3; cases h3))
      have HS := Lib.hid hS
      clear hT hS
      go_enter Tryz.func53, Tryz.ntmps53
      go_wp2_with (first
        | (go_at_call 19; refine (rwtake_some F A n c l L _ HHA.out (by omega) HT.out).mono ?_; rintro e w1 ⟨A1, n1, c1, rfl, hb1, hs1⟩; have HB1 := Lib.hid hb1; have HS1 := Lib.hid hs1; clear hb1 hs1)
        | (go_at_call 80; refine (rshape_any _ _ A1 _ n1 c1 3 3 L [false, false, true] _ (HS1.out.alloc _) (sl_ffT w1 _ rfl)).mono ?_; rintro e w2 ⟨rfl, hd2⟩; rw [HS.out]
           have hb2 := HB1.out.trans (((Below.refl w1.heap.size w1).alloc (Nat.le_refl _) (.cells #[.bool false, .bool false, .bool true] 4)).trans (hd2.below.mono (by simp)) |>.mono HB1.out.size)
           have hbk : w2.heap[w.heap.size]? = some (.cells #[.bool false, .int .i64 0, .string ⟨#[]⟩] 53 (0, 0)) := (hb2.block _ (by simp)).trans (heap_alloc_new w _)
           have q0 : w2.cell? ⟨w.heap.size, 0, none⟩ = some (.bool false) := (by rw [Lib.cell_of_heap hbk]; rfl)
           have q1 : w2.cell? ⟨w.heap.size, 1, none⟩ = some (.int .i64 0) := (by rw [Lib.cell_of_heap hbk]; rfl)
           have q2 : w2.cell? ⟨w.heap.size, 2, none⟩ = some (.string ⟨#[]⟩) := (by rw [Lib.cell_of_heap hbk]; rfl)
           have f0 := Lib.frozen_of_heap hbk 0; have f1 := Lib.frozen_of_heap hbk 1; have f2 := Lib.frozen_of_heap hbk 2
           have HB2A := Lib.hid hb2; have HB2 := Lib.hid (HBW.out.trans (hb2.mono HBW.out.size)); have HBK := Lib.hid hbk; have HS2 := Lib.hid ((HS1.out.alloc (.cells #[.bool false, .bool false, .bool true] 4)).drewE hd2); clear hb2 hbk hd2)
        | fail)
      refine bodyPost_ret (results_row2 rfl _ _ w.heap.size 53 #[.bool false, .int .i64 0, .string ⟨#[]⟩] (0, 0) _ rfl (by have hk := HBK.out; (repeat (first | with_reducible exact hk | with_reducible apply heap_drew | with_reducible apply heap_set)); all_goals rfl) Tryz.underlying53 rfl (by kernel_rfl)) rfl
        ⟨by rw [rdValue_none HN.out, HN.out]; rfl, ?_, by rw [rdValue_none HN.out]; exact ⟨by decide, by decide, by decide⟩, by rw [rdValue_none HN.out]; decide⟩
      have hb := HB2.out
      repeat (first | with_reducible exact hb | with_reducible refine bdrewB ?_ | with_reducible refine bsetc ?_ (Nat.le_refl _) _)
    | true =>
      have h3 := shape3_R L
      rw [hS] at h3
      obtain ⟨p, h4⟩ := Option.isSome_iff_exists.1 h3
      obtain ⟨g1, g2, g3⟩ := p
      obtain ⟨hL, _⟩ := shape3_some h4
      dsimp only at hL
      subst hL
      obtain ⟨v, hv⟩ : ∃ v, v = valOf3 (g1, g2, g3) := ⟨_, rfl⟩
      have hcnt := wtake_count _ l _ (Nat.le_refl _) hT
      have hb3 : g3.b.length ≤ 4294967000 := by simp only [bsum, List.length_cons, List.length_nil] at hcnt; have := HL.out; omega
      have HT4 := Lib.hid h4; have HV := Lib.hid hv; have HS := Lib.hid hS
      clear hT hS h3 h4 hcnt
      go_enter Tryz.func53, Tryz.ntmps53
      go_upto_region 5 with (first
        | (go_at_call 19; refine (rwtake_some F A n c l _ _ HHA.out (by omega) HT.out).mono ?_; rintro e w1 ⟨A1, n1, c1, rfl, hb1, hs1⟩; have HB1 := Lib.hid hb1; have HS1 := Lib.hid hs1; clear hb1 hs1)
        | (go_at_call 80; refine (rshape_any _ _ A1 _ n1 c1 3 3 _ [false, false, true] _ (HS1.out.alloc _) (sl_ffT w1 _ rfl)).mono ?_; rintro e w2 ⟨rfl, hd2⟩; rw [HS.out]
           have hb2 := HB1.out.trans (((Below.refl w1.heap.size w1).alloc (Nat.le_refl _) (.cells #[.bool false, .bool false, .bool true] 4)).trans (hd2.below.mono (by simp)) |>.mono HB1.out.size)
           have hbk : w2.heap[w.heap.size]? = some (.cells #[.bool false, .int .i64 0, .string ⟨#[]⟩] 53 (0, 0)) := (hb2.block _ (by simp)).trans (heap_alloc_new w _)
           have q0 : w2.cell? ⟨w.heap.size, 0, none⟩ = some (.bool false) := (by rw [Lib.cell_of_heap hbk]; rfl)
           have q1 : w2.cell? ⟨w.heap.size, 1, none⟩ = some (.int .i64 0) := (by rw [Lib.cell_of_heap hbk]; rfl)
           have q2 : w2.cell? ⟨w.heap.size, 2, none⟩ = some (.string ⟨#[]⟩) := (by rw [Lib.cell_of_heap hbk]; rfl)
           have f0 := Lib.frozen_of_heap hbk 0; have f1 := Lib.frozen_of_heap hbk 1; have f2 := Lib.frozen_of_heap hbk 2
           have HB2A := Lib.hid hb2; have HB2 := Lib.hid (HBW.out.trans (hb2.mono HBW.out.size)); have HBK := Lib.hid hbk; have HS2 := Lib.hid ((HS1.out.alloc (.cells #[.bool false, .bool false, .bool true] 4)).drewE hd2); clear hb2 hbk hd2)
        | fail)
      clear q0 q1 q2 f0 f1 f2
      have hS : Sl tFld (fun b => w.heap.size < b) w2 A1 n1 c1 [g1, g2, g3] := HS2.out.weaken fun b hb _ => by simp at hb; omega
      have hn1 : n1 = 3 := hS.len
      subst hn1
      obtain ⟨b, o, cs1, rfl, hb, hbl, hr1, hc1⟩ := hS.at_ (k := 0) (by simp) (by decide)
      obtain ⟨b', o', cs2, e2, _, _, hr2, hc2⟩ := hS.at_ (k := 1) (by simp) (by decide)
      injection e2 with e2; injection e2 with e2 e2'; subst e2 e2'
      obtain ⟨b', o', cs3, e3, _, _, hr3, hc3⟩ := hS.at_ (k := 2) (by simp) (by decide)
      injection e3 with e3; injection e3 with e3 e3'; subst e3 e3'
      obtain ⟨A2, n2, c2, rfl, _, hx1, _⟩ := hr1
      obtain ⟨A3, n3, c3, rfl, _, hx2, _⟩ := hr2
      obtain ⟨A4, n4, c4, rfl, _, _, hs4⟩ := hr3
      simp only [List.getElem_cons_zero, List.getElem_cons_succ] at hc1 hc2 hc3 hx1 hx2 hs4
      have k1 := (cells4 hc1).2.2.1
      have k2 := (cells4 hc2).2.2.1
      have k3 := (cells4 hc3).2.2.2
      simp only [Nat.zero_mul, Nat.add_zero, Nat.reduceMul] at k1 k2 k3
      have HS4 := Lib.hid hs4
      have hz := zagI_bd g2.n hx2
      have hvok : v.ok := by rw [hv]; exact ⟨hz.1, hz.2, by show g3.b.toArray.size ≤ maxLen; simp only [List.size_toArray, maxLen]; omega⟩
      have hvs : v.s.size ≤ 4294967000 := by rw [hv]; show g3.b.toArray.size ≤ _; simp only [List.size_toArray]; exact hb3
      have hv0 : ((g1.n : Int) == 1) = v.null := by
        rw [hv]; show _ = decide (g1.n = 1)
        by_cases h1 : g1.n = 1
        · simp [h1]
        · simp [h1]; omega
      have hv1 : zagI g2.n = v.n := by rw [hv]; rfl
      have hv2 : (⟨g3.b.toArray⟩ : ByteArray) = v.s := by rw [hv]; rfl
      have HV0 := Lib.hid hv0; have HV1 := Lib.hid hv1; have HV2 := Lib.hid hv2; have HVOK := Lib.hid hvok
      clear hc1 hc2 hc3 hs4 hS hv0 hv1 hv2 hvok hz hv
      go_cut [7] from 23 to 38 (fun x wx => x = .pointer (some ⟨w2.heap.size, 0, none⟩) ∧ Below w2.heap.size w2 wx ∧ wx.cell? ⟨w2.heap.size, 0, none⟩ = some (.bool v.null) ∧ wx.cell? ⟨w2.heap.size, 1, none⟩ = some (.int .i64 v.n) ∧ wx.cell? ⟨w2.heap.size, 2, none⟩ = some (.string v.s))
      case first =>
        go_region_held3 (fun w' => w'.cell? ⟨b, o + 2, none⟩ = some (.int .u64 (g1.n : Int)) ∧ w'.cell? ⟨b, o + 4 + 2, none⟩ = some (.int .u64 (g2.n : Int)) ∧ w'.cell? ⟨b, o + 8 + 3, none⟩ = some (.slice A4 n4 c4) ∧ (convert 30 9 (.slice A4 n4 c4)).run Tryz.prog w' = .ok (.string ⟨g3.b.toArray⟩) w')
          (first
            | exact ⟨k1, k2, k3, run_bs HS4.out.drew⟩
            | assumption
            | (refine ⟨?_, ?_, ?_, ?_⟩; rotate_left 3; (· have hs := HS4.out; refine run_bs (F := fun b => w.heap.size < b) ?_; repeat (first | with_reducible exact hs | with_reducible refine Sl.drew ?_ | with_reducible refine Sl.alloc ?_ _ | with_reducible refine slsetc ?_ (Nat.lt_irrefl _) _)); all_goals (first | go_keep | exact kcell ((Below.refl _ _).drew.alloc (Nat.le_refl _) _) (by assumption))))
          (first
            | (go_at_call 20; refine (rzag_any g2.n _ hx2).mono ?_; rintro e w' ⟨rfl, rfl⟩)
            | fail)
        all_goals
          go_wp2_with fail
          go_meet
          rw [← HV0.out, ← HV1.out, ← HV2.out]
          refine ⟨rfl, ((Below.refl _ _).alloc (Nat.le_refl _) _).drew, ?_, ?_, ?_⟩ <;> exact World.cell?_alloc_new ..
      case rest =>
        obtain ⟨rfl, hb3, k0, k1', k2'⟩ := hcut
        have HB3 := Lib.hid hb3
        have hb23 := HB2A.out.trans (hb3.mono HB2A.out.size)
        have HB23 := Lib.hid hb23
        have hbb := HBW.out.trans (hb23.mono HBW.out.size)
        have hs3 := HH.out.below hbb (Nat.le_refl _)
        have HS3 := Lib.hid hs3
        have hcv0 := run_bs hs3
        obtain ⟨w3, rfl⟩ : ∃ w3 : World, w3 = wc := ⟨_, rfl⟩
        clear k1 k2 k3 hb3 hb23 hbb hs3 HBK
        by_cases heq : putValue v = l
        · have HEQ := Lib.hid heq.symm
          have htv : takeValue l = some v := by
            rw [← rtakeValue_eq]; unfold rtakeValue; rw [HT.out, Option.bind_some, HT4.out]; dsimp only; rw [← HV.out, if_pos heq]
          have HTV := Lib.hid htv
          clear heq htv
          go_wp2_with fail
          refine wp_region_held_drew (S := (fun w' => w'.cell? ⟨w2.heap.size, 0, none⟩ = some (.bool v.null) ∧ w'.cell? ⟨w2.heap.size, 1, none⟩ = some (.int .i64 v.n) ∧ w'.cell? ⟨w2.heap.size, 2, none⟩ = some (.string v.s) ∧ (convert 30 9 (.slice A n c)).run Tryz.prog w' = .ok (.string ⟨l.toArray⟩) w')) (by kernel_rfl) ?_ (fun hHeld => ?_)
          · ((try dsimp only); (first | exact ⟨k0, k1', k2', run_bs HS3.out.drew⟩ | exact ⟨kcell hb4 k0, kcell hb4 k1', kcell hb4 k2', run_bs (HS3.out.drew.below hb4 (Nat.le_refl _))⟩ | go_keep))
          (refine wpAnyH_take (i := 0) (oi := ⟨_, _, _, _, _, _⟩) (v := ?_) rfl (by kernel_rfl) (by kernel_rfl) (by kernel_rfl) (fun _ _ _ h => h) (Or.inl ⟨by rfl, ?_⟩) (by assumption) ?_; rotate_left; · (intro w hSw; (try dsimp only at hSw); go_simp; try with_reducible rfl)); (try simp only [Act.put]); (try simp only [List.setIfInBounds_toArray]); (try simp only [List.set_cons_succ]); (try simp only [List.set_cons_zero])
          (refine wpAnyH_take (i := 3) (oi := ⟨_, _, _, _, _, _⟩) (v := ?_) rfl (by kernel_rfl) (by kernel_rfl) (by kernel_rfl) (fun _ _ _ h => h) (Or.inl ⟨by rfl, ?_⟩) (by assumption) ?_; rotate_left; · (intro w hSw; (try dsimp only at hSw); go_simp; try with_reducible rfl)); (try simp only [Act.put]); (try simp only [List.setIfInBounds_toArray]); (try simp only [List.set_cons_succ]); (try simp only [List.set_cons_zero])
          (refine wpAnyH_take (i := 4) (oi := ⟨_, _, _, _, _, _⟩) (v := ?_) rfl (by kernel_rfl) (by kernel_rfl) (by kernel_rfl) (fun _ _ _ h => h) (Or.inl ⟨by rfl, ?_⟩) (by assumption) ?_; rotate_left; · (intro w hSw; (try dsimp only at hSw); go_simp; try with_reducible rfl)); (try simp only [Act.put]); (try simp only [List.setIfInBounds_toArray]); (try simp only [List.set_cons_succ]); (try simp only [List.set_cons_zero])
          refine wpAnyH_ready (rs := [1]) (by kernel_rfl) (by simp) ?_
          refine AllReadyH.cons (o := ⟨_, _, _, _, _, _⟩) rfl (fun K hK => ?_) ?_
          · (go_simp; ((go_at_call 34; refine (rputValue_p v HVOK.out hvs l HEQ.out _).mono ?_; rintro e w4 ⟨A5, n5, c5, rfl, hown4, hb4⟩; have hcv4 := run_bs hown4.bs)))
            refine hK.out _ _ ?_ (fun hHeld => ?_)
            · ((try dsimp only); (first | exact ⟨k0, k1', k2', run_bs HS3.out.drew⟩ | exact ⟨kcell hb4 k0, kcell hb4 k1', kcell hb4 k2', run_bs (HS3.out.drew.below hb4 (Nat.le_refl _))⟩ | go_keep))
            clear hK K; (try simp only [Act.put]); (try simp only [List.setIfInBounds_toArray]); (try simp only [List.set_cons_succ]); (try simp only [List.set_cons_zero])
            refine wpAnyH_ready (rs := [2]) (by kernel_rfl) (by simp) ?_
            refine AllReadyH.cons (o := ⟨_, _, _, _, _, _⟩) rfl (fun K hK => ?_) ?_
            · go_simp
              refine hK.out _ _ ?_ (fun hHeld => ?_)
              · ((try dsimp only); (first | exact ⟨k0, k1', k2', run_bs HS3.out.drew⟩ | exact ⟨kcell hb4 k0, kcell hb4 k1', kcell hb4 k2', run_bs (HS3.out.drew.below hb4 (Nat.le_refl _))⟩ | go_keep))
              clear hK K; (try simp only [Act.put]); (try simp only [List.setIfInBounds_toArray]); (try simp only [List.set_cons_succ]); (try simp only [List.set_cons_zero])
              (refine wpAnyH_take (i := 5) (oi := ⟨_, _, _, _, _, _⟩) (v := ?_) rfl (by kernel_rfl) (by kernel_rfl) (by kernel_rfl) (fun _ _ _ h => h) (Or.inl ⟨by rfl, ?_⟩) (by assumption) ?_; rotate_left; · (intro w hSw; (try dsimp only at hSw); go_simp; try with_reducible rfl)); (try simp only [Act.put]); (try simp only [List.setIfInBounds_toArray]); (try simp only [List.set_cons_succ]); (try simp only [List.set_cons_zero])
              refine wpAnyH_done (by kernel_rfl) ?_ _
              have hb4' : Below w3.heap.size w3 w4 := (show Below w3.heap.size w3 w3.drew from (Below.refl _ _).drew).trans hb4
              have hb24 := HB23.out.trans (hb4'.mono HB23.out.size)
              have hbk : w4.heap[w.heap.size]? = some (.cells #[.bool false, .int .i64 0, .string ⟨#[]⟩] 53 (0, 0)) := (hb24.block _ (by simp)).trans (heap_alloc_new w _)
              have q0 : w4.cell? ⟨w.heap.size, 0, none⟩ = some (.bool false) := (by rw [Lib.cell_of_heap hbk]; rfl)
              have q1 : w4.cell? ⟨w.heap.size, 1, none⟩ = some (.int .i64 0) := (by rw [Lib.cell_of_heap hbk]; rfl)
              have q2 : w4.cell? ⟨w.heap.size, 2, none⟩ = some (.string ⟨#[]⟩) := (by rw [Lib.cell_of_heap hbk]; rfl)
              have f0 := Lib.frozen_of_heap hbk 0; have f1 := Lib.frozen_of_heap hbk 1; have f2 := Lib.frozen_of_heap hbk 2
              have HBK := Lib.hid hbk; have HB4 := Lib.hid (HBW.out.trans (hb24.mono HBW.out.size))
              have j0 := kcell hb4' k0; have j1 := kcell hb4' k1'; have j2 := kcell hb4' k2'
              have hne : w.heap.size < w2.heap.size := by have := HB2A.out.size; simp at this; omega
              clear hbk hb24 hb4' hb4 hown4 hcv4 hcv0 k0 k1' k2'
              go_wp2_with fail
              refine bodyPost_ret (results_row2 rfl _ _ w.heap.size 53 #[.bool v.null, .int .i64 v.n, .string v.s] (0, 0) _ rfl (by have hk := HBK.out; (repeat (first | with_reducible exact hk | with_reducible apply heap_drew | with_reducible apply heap_set)); all_goals rfl) Tryz.underlying53 rfl (by kernel_rfl)) rfl
                ⟨by rw [rdValue_some HTV.out, HTV.out]; rfl, ?_, by rw [rdValue_some HTV.out]; exact HVOK.out, by rw [rdValue_some HTV.out]; show v.s.size ≤ _; omega⟩
              have hb := HB4.out
              repeat (first | with_reducible exact hb | with_reducible refine bdrewB ?_ | with_reducible refine bsetc ?_ (Nat.le_refl _) _)
            exact AllReadyH.nil
          exact AllReadyH.nil
        · obtain ⟨p, hp⟩ : ∃ p, p = putValue v := ⟨_, rfl⟩
          have HP := Lib.hid hp
          have hpq : (p == l) = false := beq_eq_false_iff_ne.2 (by rw [hp]; exact heq)
          have HN := Lib.hid (tv_none (l := l) (by unfold rtakeValue; rw [HT.out, Option.bind_some, HT4.out]; dsimp only; rw [← HV.out, if_neg heq]))
          clear heq hp
          go_wp2_with fail
          refine wp_region_held_drew (S := (fun w' => w'.cell? ⟨w2.heap.size, 0, none⟩ = some (.bool v.null) ∧ w'.cell? ⟨w2.heap.size, 1, none⟩ = some (.int .i64 v.n) ∧ w'.cell? ⟨w2.heap.size, 2, none⟩ = some (.string v.s) ∧ (convert 30 9 (.slice A n c)).run Tryz.prog w' = .ok (.string ⟨l.toArray⟩) w')) (by kernel_rfl) ?_ (fun hHeld => ?_)
          · ((try dsimp only); (first | exact ⟨k0, k1', k2', run_bs HS3.out.drew⟩ | exact ⟨kcell hb4 k0, kcell hb4 k1', kcell hb4 k2', run_bs (HS3.out.drew.below hb4 (Nat.le_refl _))⟩ | go_keep))
          (refine wpAnyH_take (i := 0) (oi := ⟨_, _, _, _, _, _⟩) (v := ?_) rfl (by kernel_rfl) (by kernel_rfl) (by kernel_rfl) (fun _ _ _ h => h) (Or.inl ⟨by rfl, ?_⟩) (by assumption) ?_; rotate_left; · (intro w hSw; (try dsimp only at hSw); go_simp; try with_reducible rfl)); (try simp only [Act.put]); (try simp only [List.setIfInBounds_toArray]); (try simp only [List.set_cons_succ]); (try simp only [List.set_cons_zero])
          (refine wpAnyH_take (i := 3) (oi := ⟨_, _, _, _, _, _⟩) (v := ?_) rfl (by kernel_rfl) (by kernel_rfl) (by kernel_rfl) (fun _ _ _ h => h) (Or.inl ⟨by rfl, ?_⟩) (by assumption) ?_; rotate_left; · (intro w hSw; (try dsimp only at hSw); go_simp; try with_reducible rfl)); (try simp only [Act.put]); (try simp only [List.setIfInBounds_toArray]); (try simp only [List.set_cons_succ]); (try simp only [List.set_cons_zero])
          (refine wpAnyH_take (i := 4) (oi := ⟨_, _, _, _, _, _⟩) (v := ?_) rfl (by kernel_rfl) (by kernel_rfl) (by kernel_rfl) (fun _ _ _ h => h) (Or.inl ⟨by rfl, ?_⟩) (by assumption) ?_; rotate_left; · (intro w hSw; (try dsimp only at hSw); go_simp; try with_reducible rfl)); (try simp only [Act.put]); (try simp only [List.setIfInBounds_toArray]); (try simp only [List.set_cons_succ]); (try simp only [List.set_cons_zero])
          refine wpAnyH_ready (rs := [1]) (by kernel_rfl) (by simp) ?_
          refine AllReadyH.cons (o := ⟨_, _, _, _, _, _⟩) rfl (fun K hK => ?_) ?_
          · (go_simp; ((go_at_call 34; refine (rputValue_p v HVOK.out hvs p HP.out _).mono ?_; rintro e w4 ⟨A5, n5, c5, rfl, hown4, hb4⟩; have hcv4 := run_bs hown4.bs)))
            refine hK.out _ _ ?_ (fun hHeld => ?_)
            · ((try dsimp only); (first | exact ⟨k0, k1', k2', run_bs HS3.out.drew⟩ | exact ⟨kcell hb4 k0, kcell hb4 k1', kcell hb4 k2', run_bs (HS3.out.drew.below hb4 (Nat.le_refl _))⟩ | go_keep))
            clear hK K; (try simp only [Act.put]); (try simp only [List.setIfInBounds_toArray]); (try simp only [List.set_cons_succ]); (try simp only [List.set_cons_zero])
            refine wpAnyH_ready (rs := [2]) (by kernel_rfl) (by simp) ?_
            refine AllReadyH.cons (o := ⟨_, _, _, _, _, _⟩) rfl (fun K hK => ?_) ?_
            · go_simp
              refine hK.out _ _ ?_ (fun hHeld => ?_)
              · ((try dsimp only); (first | exact ⟨k0, k1', k2', run_bs HS3.out.drew⟩ | exact ⟨kcell hb4 k0, kcell hb4 k1', kcell hb4 k2', run_bs (HS3.out.drew.below hb4 (Nat.le_refl _))⟩ | go_keep))
              clear hK K; (try simp only [Act.put]); (try simp only [List.setIfInBounds_toArray]); (try simp only [List.set_cons_succ]); (try simp only [List.set_cons_zero])
              (refine wpAnyH_take (i := 5) (oi := ⟨_, _, _, _, _, _⟩) (v := ?_) rfl (by kernel_rfl) (by kernel_rfl) (by kernel_rfl) (fun _ _ _ h => h) (Or.inl ⟨by rfl, ?_⟩) (by assumption) ?_; rotate_left; · (intro w hSw; (try dsimp only at hSw); go_simp; try with_reducible rfl)); (try simp only [Act.put]); (try simp only [List.setIfInBounds_toArray]); (try simp only [List.set_cons_succ]); (try simp only [List.set_cons_zero])
              refine wpAnyH_done (by kernel_rfl) ?_ _
              have hb4' : Below w3.heap.size w3 w4 := (show Below w3.heap.size w3 w3.drew from (Below.refl _ _).drew).trans hb4
              have hb24 := HB23.out.trans (hb4'.mono HB23.out.size)
              have hbk : w4.heap[w.heap.size]? = some (.cells #[.bool false, .int .i64 0, .string ⟨#[]⟩] 53 (0, 0)) := (hb24.block _ (by simp)).trans (heap_alloc_new w _)
              have q0 : w4.cell? ⟨w.heap.size, 0, none⟩ = some (.bool false) := (by rw [Lib.cell_of_heap hbk]; rfl)
              have q1 : w4.cell? ⟨w.heap.size, 1, none⟩ = some (.int .i64 0) := (by rw [Lib.cell_of_heap hbk]; rfl)
              have q2 : w4.cell? ⟨w.heap.size, 2, none⟩ = some (.string ⟨#[]⟩) := (by rw [Lib.cell_of_heap hbk]; rfl)
              have f0 := Lib.frozen_of_heap hbk 0; have f1 := Lib.frozen_of_heap hbk 1; have f2 := Lib.frozen_of_heap hbk 2
              have HBK := Lib.hid hbk; have HB4 := Lib.hid (HBW.out.trans (hb24.mono HBW.out.size))
              have j0 := kcell hb4' k0; have j1 := kcell hb4' k1'; have j2 := kcell hb4' k2'
              have hne : w.heap.size < w2.heap.size := by have := HB2A.out.size; simp at this; omega
              clear hbk hb24 hb4' hb4 hown4 hcv4 hcv0 k0 k1' k2'
              go_wp2_with fail
              refine bodyPost_ret (results_row2 rfl _ _ w.heap.size 53 #[.bool false, .int .i64 0, .string ⟨#[]⟩] (0, 0) _ rfl (by have hk := HBK.out; (repeat (first | with_reducible exact hk | with_reducible apply heap_drew | with_reducible apply heap_set)); all_goals rfl) Tryz.underlying53 rfl (by kernel_rfl)) rfl
                ⟨by rw [rdValue_none HN.out, HN.out]; rfl, ?_, by rw [rdValue_none HN.out]; exact ⟨by decide, by decide, by decide⟩, by rw [rdValue_none HN.out]; decide⟩
              have hb := HB4.out
              repeat (first | with_reducible exact hb | with_reducible refine bdrewB ?_ | with_reducible refine bsetc ?_ (Nat.le_refl _) _)
            exact AllReadyH.nil
          exact AllReadyH.nil
end Go.Proofs.YtojenpjafgfpaaaGreatDoor
