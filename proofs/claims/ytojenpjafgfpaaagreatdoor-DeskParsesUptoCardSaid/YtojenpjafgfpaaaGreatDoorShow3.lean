/- The layer desk: Show: the walk. -/
import Derived.Test.YtojenpjafgfpaaaGreatDoorShow2
namespace Go.Proofs.YtojenpjafgfpaaaGreatDoor
open Go Go.RowKit
attribute [local go_sem ↓] Go.wp_at_zero Go.wp_at_succ

set_option maxRecDepth 100000 in
set_option maxHeartbeats 8000000 in
theorem show_any (F : Nat → Prop) (A : Option Addr) (n c : Nat) (l : List AA) (w : World) (h : Sl tAA F w A n c l) (hn : n ≤ 1048576) (hl : answersW l ≤ 268435456) (ht : Tab w) :
    Calls Tryz.prog 15 #[.slice A n c] w fun e w' => e = .returned (.string ⟨(showOf l).toArray⟩) ∧ Below w.heap.size w w' := by
  have HL := Lib.hid h.len
  have HT := Lib.hid ht; clear ht
  have HOKS : Hid (∀ a ∈ l, a.oks) := Lib.hid fun a ha => by obtain ⟨cs, hr⟩ := sl_mem h (by decide) ha; exact aa_oks hr
  go_enter Tryz.func15, Tryz.ntmps15
  go_wp2
  go_loopw [12] (fun i wr => ∃ (k : Nat), k ≤ n ∧ i = .int .i64 k ∧ Bld w.heap.size w.heap.size (showOf (l.take k)) wr ∧ Below w.heap.size w wr)
    (fun i _ => n - (intOf i).toNat)
  case atStart => exact ⟨0, Nat.zero_le _, rfl, Bld.fresh w, (Below.refl _ _).alloc (Nat.le_refl _) _⟩
  case round =>
    obtain ⟨k, hk, rfl, hB, hb⟩ := hrel
    obtain ⟨wo, rfl⟩ : ∃ wo : World, wo = wr := ⟨_, rfl⟩
    have HBL := Lib.hid hB; have HB := Lib.hid hb
    have hsz := hb.size
    by_cases hlt : k < n
    · have hkl : k < l.length := by rw [← HL.out]; exact hlt
      obtain ⟨b, o, cs, rfl, _, hbl, hrep, hc⟩ := (h.below hb (Nat.le_refl _)).at_ hkl (by decide)
      obtain ⟨a, hf⟩ : ∃ v, v = l[k] := ⟨_, rfl⟩
      rw [← hf] at hrep
      have haw : ansW a ≤ 268435456 := by rw [hf]; exact Nat.le_trans (answersW_get l k hkl) hl
      have haok : a.oks := by rw [hf]; exact HOKS.out _ (List.getElem_mem hkl)
      have hshl : (showOf (l.take k)).length ≤ 268435456 := Nat.le_trans (showOf_len _ (fun y hy => HOKS.out y (List.mem_of_mem_take hy))) (Nat.le_trans (answersW_take l k) hl)
      have HSL := Lib.hid (partsA_len a haok)
      have hrw : keyedsW a.rows ≤ 268435456 ∧ a.list.except.length ≤ 268435456 := by unfold ansW at haw; omega
      obtain ⟨A1, n1, c1, A2, n2, c2, rfl, hc0, hc1, hc2, hs1, hs2⟩ := hrep
      obtain ⟨g0, g1, g2, g3, g4⟩ := cells5 hc
      have HF := Lib.hid hf
      obtain ⟨wb, hwb, hBb, hCb, hSb, hKb⟩ := boxed wo [.int .i64 a.code, .int .i64 a.n, .slice A1 n1 c1, .int .i64 a.list.high, .slice A2 n2 c2] 48
      have k0 : wb.cell? ⟨wo.heap.size, 0, none⟩ = some (.int .i64 a.code) := hCb 0 _ rfl
      have k1 : wb.cell? ⟨wo.heap.size, 1, none⟩ = some (.int .i64 a.n) := hCb 1 _ rfl
      have k2 : wb.cell? ⟨wo.heap.size, 2, none⟩ = some (.slice A1 n1 c1) := hCb 2 _ rfl
      have k3 : wb.cell? ⟨wo.heap.size, 3, none⟩ = some (.int .i64 a.list.high) := hCb 3 _ rfl
      have k4 : wb.cell? ⟨wo.heap.size, 4, none⟩ = some (.slice A2 n2 c2) := hCb 4 _ rfl
      have HBB := Lib.hid hBb
      have hs0 : wo.heap.size ≤ wb.heap.size := hBb.size
      have H1 := Lib.hid (hKb hs1); have H2 := Lib.hid (hKb hs2)
      have HN1 := Lib.hid hs1.len; have HN2 := Lib.hid hs2.len
      have hn1 : n1 ≤ 268435456 := by rw [HN1.out]; have := keyedsW_count a.rows; omega
      have hn2 : n2 ≤ 268435456 := by rw [HN2.out]; exact hrw.2
      clear hc hf hCb hSb hKb hBb hs1 hs2 hB hb
      go_upto_region 5 with fail
      rw [← hwb]
      clear hwb g0 g1 g2 g3 g4
      go_wp2_with fail
      go_loopw [6, 19] (fun v i wr => ∃ (j : Nat) (A6 : Option Addr) (m6 c6 : Nat), j ≤ n1 ∧ i = .int .i64 j ∧ m6 ≤ j ∧ v = .slice A6 m6 c6 ∧ OwnF tStr 9 (fun _ => False) wr wb.heap.size A6 m6 c6 (strs ((a.rows.take j).map toldOf)) ∧ Below wb.heap.size wb wr)
        (fun _ i _ => n1 - (intOf i).toNat)
      case atStart => exact ⟨0, none, 0, 0, Nat.zero_le _, rfl, Nat.le_refl _, rfl, OwnF.nil_ _ _ _ _ _, Below.refl _ _⟩
      case round =>
        obtain ⟨j, A6, m6, c6, hj, rfl, hm6, rfl, hown, hb2⟩ := hrel
        have HO := Lib.hid hown; have HB2 := Lib.hid hb2
        have hsz2 := hb2.size
        by_cases hlt2 : j < n1
        · have hjl : j < a.rows.length := by rw [← HN1.out]; exact hlt2
          obtain ⟨bb, oo, cs', rfl, _, hbl', hrep', hc'⟩ := (H1.out.below hb2 (Nat.le_refl _)).at_ hjl (by decide)
          obtain ⟨x, hx⟩ : ∃ x, x = a.rows[j] := ⟨_, rfl⟩
          rw [← hx] at hrep'
          have HX := Lib.hid hx
          have hxw : rowLen x.row ≤ 268435456 := by
            have := keyedsW_get a.rows j hjl
            rw [← hx] at this
            unfold keyedW at this
            omega
          obtain ⟨A7, n7, c7, rfl, hkok, hs7⟩ := hrep'
          obtain ⟨g0, g1, g2, g3⟩ := cells4 hc'
          have HS7 := Lib.hid hs7; have HKK := Lib.hid hkok
          have hxl : (toldOf x).length ≤ 1073741824 := by
            have := toldOf_len x hkok
            unfold keyedW at this
            omega
          clear hc' hx hs7 hown hb2
          go_wp2_with (first
            | (go_at_call 44; refine (told_any x F A7 n7 c7 _ (HS7.out.alloc _) HKK.out hxw (((HT.out.below HB.out).below HBB.out).below HB2.out |>.below ((Below.refl _ _).alloc (Nat.le_refl _) _))).mono ?_; rintro e w1 ⟨rfl, hb1⟩; have HB1 : Hid (Below wr.heap.size wr w1) := Lib.hid (((Below.refl _ wr).alloc (Nat.le_refl _) _).trans (hb1.mono (by simp))); clear hb1)
            | (at_builtin; refine apl1 (T := tStr) elemStr w1 wb rfl (.tmp 23) (.tmp 26) rfl wb.heap.size A6 m6 c6 _ rfl (fun _ => False) (fun _ => False) (HO.out.keepB HB1.out) (HB2.out.trans (HB1.out.mono hsz2)) (Nat.le_refl _) _ rfl [.string ⟨(toldOf x).toArray⟩] ⟨(toldOf x).toArray⟩ ⟨rfl, by show (toldOf x).toArray.size ≤ maxLen; simp only [List.size_toArray, maxLen]; omega⟩ 9 rfl (fun _ _ _ _ h => h) (by omega) ?_; intro A5 c5 w5 h5)
            | fail)
          go_roundw
          case rel =>
            have e1 : strs ((a.rows.take (j + 1)).map toldOf) = strs ((a.rows.take j).map toldOf) ++ [⟨(toldOf x).toArray⟩] := by
              rw [List.take_succ_eq_append_getElem hjl, ← HX.out]; simp [strs]
            exact ⟨j + 1, A5, m6 + 1, c5, by omega, by go_num, by omega, rfl, by rw [e1]; exact h5.own.flat flatStr, h5.below⟩
          case measure => simp [intOf]; omega
        · obtain rfl : j = n1 := by omega
          rw [show a.rows.take j = a.rows from List.take_of_length_le (by rw [← HN1.out]; exact Nat.le_refl _)] at hown
          have HSR := Lib.hid hown.sl.any
          have HTZ := Lib.hid (((HT.out.below HB.out).below HBB.out).below HB2.out)
          have HEX := Lib.hid ((H2.out.below hb2 (Nat.le_refl _)).weaken (F' := fun b => b < wr.heap.size) (fun b _ hb => hb))
          have z0 := kcell hb2 k0
          have z1 := kcell hb2 k1
          have z3 := kcell hb2 k3
          have z4 := kcell hb2 k4
          have hjl : (Lib.join (a.rows.map toldOf) [32]).length ≤ 140737488355328 := by have := (parts_len a haok).2.2; omega
          have HJL := Lib.hid hjl
          have h32 : ([32] : List UInt8).length ≤ 10 := by simp
          have h2l : (2 : Nat) ≤ 268435457 := by omega
          have h1n : 1 + n2 ≤ 268435457 := by omega
          clear hown hb2 hjl k0 k1 k2 k3 k4
          go_wp2_with fail
          go_region_held3 (fun w' => w'.cell? ⟨wo.heap.size, 0, none⟩ = some (.int .i64 a.code) ∧ w'.cell? ⟨wo.heap.size, 1, none⟩ = some (.int .i64 a.n) ∧ w'.cell? ⟨wo.heap.size, 3, none⟩ = some (.int .i64 a.list.high) ∧ w'.cell? ⟨wo.heap.size, 4, none⟩ = some (.slice A2 n2 c2))
            (first | exact ⟨z0, z1, z3, z4⟩ | exact ⟨kcell hzj1 z0, kcell hzj1 z1, kcell hzj1 z3, kcell hzj1 z4⟩ | exact ⟨kcell hzj2 z0, kcell hzj2 z1, kcell hzj2 z3, kcell hzj2 z4⟩ | exact ⟨kcell hzj3 z0, kcell hzj3 z1, kcell hzj3 z3, kcell hzj3 z4⟩ | exact ⟨kcell hz6 z0, kcell hz6 z1, kcell hz6 z3, kcell hz6 z4⟩ | go_keep)
            (first
              | (go_at_call 45; have _g := hzj1; refine (joined_any [32] h32 (fun _ => True) _ (1 + n2) _ (a.list.high :: a.list.except) _ (by first | with_reducible exact hs6 | with_reducible exact hs6.below hbj1 (Nat.le_refl _) | with_reducible exact (hs6.alloc _).below hbj1 (Nat.le_refl _)) h1n (HTZ.out.below (by (repeat (first | exact Below.refl _ _ | assumption | refine bthen ?_ (by assumption) | refine balloc ?_ _ | refine bdrew ?_))))).mono ?_; rintro e wj2 ⟨rfl, hbj2⟩; have hzj2 : Below wr.heap.size wr wj2 := (by (repeat (first | exact Below.refl _ _ | assumption | refine bthen ?_ (by assumption) | refine balloc ?_ _ | refine bdrew ?_))))
              | (go_at_call 45; refine (joined_any [32] h32 (fun _ => True) _ 2 2 [a.code, a.n] _ (by first | with_reducible exact (lit2 _ _ _ hc0 hc1 _ (by simp)).drew.any | with_reducible exact (lit2 _ _ _ hc0 hc1 _ (by simp)).any | with_reducible exact ((lit2 _ _ _ hc0 hc1 _ (by simp)).alloc _).drew.any | exact hsl1) h2l (HTZ.out.below (by (repeat (first | exact Below.refl _ _ | assumption | refine bthen ?_ (by assumption) | refine balloc ?_ _ | refine bdrew ?_))))).mono ?_; rintro e wj1 ⟨rfl, hbj1⟩; have hzj1 : Below wr.heap.size wr wj1 := (by (repeat (first | exact Below.refl _ _ | assumption | refine bthen ?_ (by assumption) | refine balloc ?_ _ | refine bdrew ?_))); have hsj1 := hzj1.size)
              | (go_at_call 46; refine (join_any _ _ _ _ (a.rows.map toldOf) ⟨#[32]⟩ _ (HSR.out.below (by (repeat (first | exact Below.refl _ _ | assumption | refine bthen ?_ (by assumption) | refine balloc ?_ _ | refine bdrew ?_))) (Nat.le_refl _)) HJL.out (by omega)).mono ?_; rintro e wj3 ⟨rfl, hbj3⟩; have hzj3 : Below wr.heap.size wr wj3 := (by (repeat (first | exact Below.refl _ _ | assumption | refine bthen ?_ (by assumption) | refine balloc ?_ _ | refine bdrew ?_))))
              | ((with_reducible refine at_app (.tmp 38) (.tmp 41) _ rfl ?_); refine step_apl (T := tI64) elemInt _ _ rfl (.tmp 38) (.tmp 41) rfl 0 _ 1 1 [a.list.high] rfl (fun _ => False) (fun b => b < wr.heap.size) (by first | with_reducible exact (lit1 _ _ hc2 _ (by simp)) | with_reducible exact (lit1 _ _ hc2 _ (by simp)).drew | with_reducible exact ((lit1 _ _ hc2 _ (by simp)).alloc _).drew | with_reducible exact (lit1 _ _ hc2 _ (by simp)).drew.keepB hbj1 | with_reducible exact ((lit1 _ _ hc2 _ (by simp)).alloc _).drew.keepB hbj1) (Below.refl _ _) (Nat.zero_le _) A2 n2 c2 a.list.except rfl (HEX.out.below (by (repeat (first | exact Below.refl _ _ | assumption | refine bthen ?_ (by assumption) | refine balloc ?_ _ | refine bdrew ?_))) (Nat.le_refl _)) (fun b hb _ _ => by (injection hb with hb; injection hb with hb; first | omega | (simp at hb; omega))) (by omega) ?_; intro A6' c6' w6' h6; have hz6 : Below wr.heap.size wr w6' := Below.grown (by (repeat (first | exact Below.refl _ _ | assumption | refine bthen ?_ (by assumption) | refine balloc ?_ _ | refine bdrew ?_))) h6.grown (size_le (B := wr.heap.size) (a := wr) (by (repeat (first | exact Below.refl _ _ | assumption | refine bthen ?_ (by assumption) | refine balloc ?_ _ | refine bdrew ?_)))) (fun k e => by (simp at e; omega)); have hs6 : Sl tI64 (fun _ => True) w6' A6' (1 + n2) c6' (a.list.high :: a.list.except) := h6.own.sl.any; (first | have hsl1 : Sl tI64 (fun _ => True) w6' (some ⟨wr.heap.size, 0, none⟩) 2 2 [a.code, a.n] := (Sl.grown ((lit2 _ _ _ hc0 hc1 _ (by simp)).alloc _).drew h6.grown (fun k e => by (simp at e ⊢; omega))).any | have hsl1 : Sl tI64 (fun _ => True) w6' (some ⟨wr.heap.size + 1, 0, none⟩) 2 2 [a.code, a.n] := (Sl.grown (lit2 _ _ _ hc0 hc1 _ (by simp)).drew h6.grown (fun k e => by (simp at e ⊢; omega))).any | skip))
              | fail)
          all_goals
            obtain ⟨p1, p2, p3⟩ := parts_len a haok
            have hn1 : ¬ 9223372036854775807 < (Lib.join (partsA a) [124]).length + 1 := by have := HSL.out; omega
            have hn2 : (Lib.join (partsA a) [124]).length ≤ 140737488355328 := by have := HSL.out; omega
            go_wp2_with (first
              | (go_at_call 46; refine (join_any (fun _ => True) _ 3 3 (partsA a) ⟨#[124]⟩ _ (Sl.new3 (T := tStr) ⟨rfl, by show (jn [32] [a.code, a.n]).toArray.size ≤ maxLen; simp only [List.size_toArray, maxLen]; omega⟩ ⟨rfl, by show (jn [32] (a.list.high :: a.list.except)).toArray.size ≤ maxLen; simp only [List.size_toArray, maxLen]; omega⟩ ⟨rfl, by show (Lib.join (a.rows.map toldOf) [32]).toArray.size ≤ maxLen; simp only [List.size_toArray, maxLen]; omega⟩ _ _ rfl) hn2 (by omega)).mono ?_; rintro e w7 ⟨rfl, hb7⟩; have hz7 : Below wr.heap.size wr w7 := (by (repeat (first | exact Below.refl _ _ | assumption | refine bthen ?_ (by assumption) | refine balloc ?_ _ | refine bdrew ?_))); have hs7 := hz7.size)
              | (go_at_call 41; refine (writeString_any w.heap.size w.heap.size (showOf (l.take k)) _ _ (((HBL.out.below HBB.out).below HB2.out).below hz7) (by rw [size_hex]; have := HSL.out; omega) (by omega)).mono ?_; rintro e w8 ⟨rfl, h8, hb8⟩)
              | fail)
            go_roundw
            case rel =>
              have e1 : showOf (l.take (k + 1)) = showOf (l.take k) ++ (Lib.join (partsA a) [124] ++ [10]) := by
                rw [List.take_succ_eq_append_getElem hkl, showOf_snoc, ← HF.out]; rfl
              refine ⟨k + 1, by omega, by go_num, ?_, ?_⟩
              · rw [e1]; have := h8.bld; rw [data_hex] at this; exact this
              · have q : Below wo.heap.size wo w7 := HBB.out.trans ((HB2.out.trans (hz7.mono hsz2)).mono hs0)
                exact (HB.out.trans (q.mono hsz)).trans hb8
            case measure => simp [intOf]; omega
    · obtain rfl : k = n := by omega
      rw [show l.take k = l from List.take_of_length_le (by rw [← HL.out]; exact Nat.le_refl _)] at hB
      have HBL2 := Lib.hid hB
      clear hB hb HBL
      go_wp2_with (go_at_call 43; refine (bldString_any w.heap.size w.heap.size (showOf l) _ HBL2.out hsz).mono ?_; rintro e w2 ⟨rfl, hb2⟩)
      go_ret
      exact ⟨rfl, HB.out.trans hb2⟩
end Go.Proofs.YtojenpjafgfpaaaGreatDoor
