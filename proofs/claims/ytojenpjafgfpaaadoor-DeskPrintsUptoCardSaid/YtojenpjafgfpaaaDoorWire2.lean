/- The layer wire: put, PutValue. -/
import Derived.Test.YtojenpjafgfpaaaDoorWire
namespace Go.Proofs.YtojenpjafgfpaaaDoor
open Go Go.RowKit
attribute [local go_sem ↓] Go.wp_at_zero Go.wp_at_succ

theorem b2n_lt (b : Bool) : b2n b < 18446744073709551616 := by cases b <;> decide
theorem putValueF_len (v : VV) (hs : v.s.size ≤ 4294967000) : wlen (putValueF v) ≤ 4294967200 := by
  have e : v.s.data.toList.length = v.s.size := Array.length_toList
  simp only [putValueF, wlen, fnum, ftxt, e, List.length_nil]
  omega
theorem kcell {W w1 : World} {a : Addr} {v : Value} (hb : Below W.heap.size W w1) (h : W.cell? a = some v) : w1.cell? a = some v := (hb.cell (World.block_lt_of_cell? W a h)).trans h

set_option maxRecDepth 100000 in
set_option maxHeartbeats 400000 in
theorem wput1_any (F : Nat → Prop) (A : Option Addr) (n c : Nat) (l : List Fld) (w : World) (h : Sl tFld F w A n c l) (hlen : n ≤ 4294967296) (hl : wlen l ≤ 4294967200) :
    Calls Tryd.prog 64 #[.slice A n c] w (Own1 w (dput l)) := by
  go_enter Tryd.func64, Tryd.ntmps64
  go_wp2_with (go_at_call 61; refine (wput_any F A n c l _ h hlen hl).mono ?_; rintro e w1 ⟨A1, n1, c1, rfl, hown, hb⟩)
  go_ret
  exact ⟨A1, n1, c1, rfl, hown, hb⟩

set_option maxRecDepth 100000 in
set_option maxHeartbeats 1000000 in
theorem putValue_any (v : VV) (hv : v.ok) (hs : v.s.size ≤ 4294967000) (w : World) :
    Calls Tryd.prog 43 #[.agg #[.bool v.null, .int .i64 v.n, .string v.s]] w (Own1 w (putValue v)) := by
  obtain ⟨h0, h1, h2⟩ := hv
  have hsb := fun w => run_sb w v.s
  have HW := Lib.hid (show wlen (putValueF v) ≤ 4294967200 from putValueF_len v hs)
  have HZ := Lib.hid (zigN_lt v.n h0 h1)
  go_enter Tryd.func43, Tryd.ntmps43
  go_wp2_with fail
  refine wp_region_held_drew (S := (fun w' => w'.cell? ⟨w.heap.size, 0, none⟩ = some (.bool v.null) ∧ w'.cell? ⟨w.heap.size, 1, none⟩ = some (.int .i64 v.n) ∧ w'.cell? ⟨w.heap.size, 2, none⟩ = some (.string v.s))) (by kernel_rfl) ?_ (fun hHeld => ?_)
  · ((try dsimp only); (first | go_keep | (go_split_ands; refine ⟨?_, ?_, ?_⟩ <;> exact kcell (by assumption) (by assumption))))
  (refine wpAnyH_take (i := 0) (oi := ⟨_, _, _, _, _, _⟩) (v := ?_) rfl (by kernel_rfl) (by kernel_rfl) (by kernel_rfl) (fun _ _ _ h => h) (Or.inl ⟨by rfl, ?_⟩) (by assumption) ?_; rotate_left; · (intro w hSw; (try dsimp only at hSw); go_simp; try with_reducible rfl)); (try simp only [Act.put]); (try simp only [List.setIfInBounds_toArray]); (try simp only [List.set_cons_succ]); (try simp only [List.set_cons_zero])
  (refine wpAnyH_take (i := 1) (oi := ⟨_, _, _, _, _, _⟩) (v := ?_) rfl (by kernel_rfl) (by kernel_rfl) (by kernel_rfl) (fun _ _ _ h => h) (Or.inl ⟨by rfl, ?_⟩) (by assumption) ?_; rotate_left; · (intro w hSw; (try dsimp only at hSw); go_simp; try with_reducible rfl)); (try simp only [Act.put]); (try simp only [List.setIfInBounds_toArray]); (try simp only [List.set_cons_succ]); (try simp only [List.set_cons_zero])
  (refine wpAnyH_take (i := 3) (oi := ⟨_, _, _, _, _, _⟩) (v := ?_) rfl (by kernel_rfl) (by kernel_rfl) (by kernel_rfl) (fun _ _ _ h => h) (Or.inl ⟨by rfl, ?_⟩) (by assumption) ?_; rotate_left; · (intro w hSw; (try dsimp only at hSw); go_simp; try with_reducible rfl)); (try simp only [Act.put]); (try simp only [List.setIfInBounds_toArray]); (try simp only [List.set_cons_succ]); (try simp only [List.set_cons_zero])
  (refine wpAnyH_take (i := 4) (oi := ⟨_, _, _, _, _, _⟩) (v := ?_) rfl (by kernel_rfl) (by kernel_rfl) (by kernel_rfl) (fun _ _ _ h => h) (Or.inl ⟨by rfl, ?_⟩) (by assumption) ?_; rotate_left; · (intro w hSw; (try dsimp only at hSw); go_simp; try with_reducible rfl)); (try simp only [Act.put]); (try simp only [List.setIfInBounds_toArray]); (try simp only [List.set_cons_succ]); (try simp only [List.set_cons_zero])
  (refine wpAnyH_take (i := 6) (oi := ⟨_, _, _, _, _, _⟩) (v := ?_) rfl (by kernel_rfl) (by kernel_rfl) (by kernel_rfl) (fun _ _ _ h => h) (Or.inl ⟨by rfl, ?_⟩) (by assumption) ?_; rotate_left; · (intro w hSw; (try dsimp only at hSw); go_simp; try with_reducible rfl)); (try simp only [Act.put]); (try simp only [List.setIfInBounds_toArray]); (try simp only [List.set_cons_succ]); (try simp only [List.set_cons_zero])
  (refine wpAnyH_take (i := 7) (oi := ⟨_, _, _, _, _, _⟩) (v := ?_) rfl (by kernel_rfl) (by kernel_rfl) (by kernel_rfl) (fun _ _ _ h => h) (Or.inl ⟨by rfl, ?_⟩) (by assumption) ?_; rotate_left; · (intro w hSw; (try dsimp only at hSw); go_simp; try with_reducible rfl)); (try simp only [Act.put]); (try simp only [List.setIfInBounds_toArray]); (try simp only [List.set_cons_succ]); (try simp only [List.set_cons_zero])
  refine wpAnyH_ready (rs := [2, 8]) (by kernel_rfl) (by simp) ?_
  refine AllReadyH.cons (o := ⟨_, _, _, _, _, _⟩) rfl (fun K hK => ?_) ?_
  · (go_simp; (first | (go_at_call 65; refine (truth_any _ _ _).mono ?_; rintro e w1 ⟨rfl, hb1⟩) | (go_at_call 66; refine (sign_any _ _ _ h0 h1).mono ?_; rintro e w2 ⟨rfl, hb2⟩) | (go_at_call 67; refine (text_any _ _ _ _ _).mono ?_; rintro e w3 ⟨rfl, hb3⟩) | (go_at_call 64; refine (wput1_any (fun _ => True) _ 3 3 (putValueF v) _ (by refine Sl.new3 (rep_fnum (by unfold i64; omega) (b2n_lt _)) (rep_fnum (by unfold i64; omega) HZ.out) (rep_ftxt (by unfold i64; omega) ?_) _ _ rfl; (repeat (first | assumption | exact Sl.nil_ _ _ _ | exact (sb_bs (by assumption)).any | (refine sb_bsA (by assumption) ?_; simp; done) | refine Sl.below ?_ (by assumption) (Nat.le_refl _) | refine Sl.alloc ?_ _ | refine Sl.drew ?_))) (by omega) HW.out).mono ?_; rintro e w4 ⟨A4, n4, c4, rfl, hown, hb4⟩)))
    refine hK.out _ _ ?_ (fun hHeld => ?_)
    · ((try dsimp only); (first | go_keep | (go_split_ands; refine ⟨?_, ?_, ?_⟩ <;> exact kcell (by assumption) (by assumption))))
    clear hK K; (try simp only [Act.put]); (try simp only [List.setIfInBounds_toArray]); (try simp only [List.set_cons_succ]); (try simp only [List.set_cons_zero])
    refine wpAnyH_ready (rs := [5, 8]) (by kernel_rfl) (by simp) ?_
    refine AllReadyH.cons (o := ⟨_, _, _, _, _, _⟩) rfl (fun K hK => ?_) ?_
    · (go_simp; (first | (go_at_call 65; refine (truth_any _ _ _).mono ?_; rintro e w1 ⟨rfl, hb1⟩) | (go_at_call 66; refine (sign_any _ _ _ h0 h1).mono ?_; rintro e w2 ⟨rfl, hb2⟩) | (go_at_call 67; refine (text_any _ _ _ _ _).mono ?_; rintro e w3 ⟨rfl, hb3⟩) | (go_at_call 64; refine (wput1_any (fun _ => True) _ 3 3 (putValueF v) _ (by refine Sl.new3 (rep_fnum (by unfold i64; omega) (b2n_lt _)) (rep_fnum (by unfold i64; omega) HZ.out) (rep_ftxt (by unfold i64; omega) ?_) _ _ rfl; (repeat (first | assumption | exact Sl.nil_ _ _ _ | exact (sb_bs (by assumption)).any | (refine sb_bsA (by assumption) ?_; simp; done) | refine Sl.below ?_ (by assumption) (Nat.le_refl _) | refine Sl.alloc ?_ _ | refine Sl.drew ?_))) (by omega) HW.out).mono ?_; rintro e w4 ⟨A4, n4, c4, rfl, hown, hb4⟩)))
      refine hK.out _ _ ?_ (fun hHeld => ?_)
      · ((try dsimp only); (first | go_keep | (go_split_ands; refine ⟨?_, ?_, ?_⟩ <;> exact kcell (by assumption) (by assumption))))
      clear hK K; (try simp only [Act.put]); (try simp only [List.setIfInBounds_toArray]); (try simp only [List.set_cons_succ]); (try simp only [List.set_cons_zero])
      refine wpAnyH_ready (rs := [8]) (by kernel_rfl) (by simp) ?_
      refine AllReadyH.cons (o := ⟨_, _, _, _, _, _⟩) rfl (fun K hK => ?_) ?_
      · go_simp
        refine hK.out _ _ ?_ (fun hHeld => ?_)
        · ((try dsimp only); (first | go_keep | (go_split_ands; refine ⟨?_, ?_, ?_⟩ <;> exact kcell (by assumption) (by assumption))))
        clear hK K; (try simp only [Act.put]); (try simp only [List.setIfInBounds_toArray]); (try simp only [List.set_cons_succ]); (try simp only [List.set_cons_zero])
        refine wpAnyH_ready (rs := [9]) (by kernel_rfl) (by simp) ?_
        refine AllReadyH.cons (o := ⟨_, _, _, _, _, _⟩) rfl (fun K hK => ?_) ?_
        · (go_simp; (first | (go_at_call 65; refine (truth_any _ _ _).mono ?_; rintro e w1 ⟨rfl, hb1⟩) | (go_at_call 66; refine (sign_any _ _ _ h0 h1).mono ?_; rintro e w2 ⟨rfl, hb2⟩) | (go_at_call 67; refine (text_any _ _ _ _ _).mono ?_; rintro e w3 ⟨rfl, hb3⟩) | (go_at_call 64; refine (wput1_any (fun _ => True) _ 3 3 (putValueF v) _ (by refine Sl.new3 (rep_fnum (by unfold i64; omega) (b2n_lt _)) (rep_fnum (by unfold i64; omega) HZ.out) (rep_ftxt (by unfold i64; omega) ?_) _ _ rfl; (repeat (first | assumption | exact Sl.nil_ _ _ _ | exact (sb_bs (by assumption)).any | (refine sb_bsA (by assumption) ?_; simp; done) | refine Sl.below ?_ (by assumption) (Nat.le_refl _) | refine Sl.alloc ?_ _ | refine Sl.drew ?_))) (by omega) HW.out).mono ?_; rintro e w4 ⟨A4, n4, c4, rfl, hown, hb4⟩)))
          refine hK.out _ _ ?_ (fun hHeld => ?_)
          · ((try dsimp only); (first | go_keep | (go_split_ands; refine ⟨?_, ?_, ?_⟩ <;> exact kcell (by assumption) (by assumption))))
          clear hK K; (try simp only [Act.put]); (try simp only [List.setIfInBounds_toArray]); (try simp only [List.set_cons_succ]); (try simp only [List.set_cons_zero])
          refine wpAnyH_ready (rs := [10]) (by kernel_rfl) (by simp) ?_
          refine AllReadyH.cons (o := ⟨_, _, _, _, _, _⟩) rfl (fun K hK => ?_) ?_
          · go_simp
            refine hK.out _ _ ?_ (fun hHeld => ?_)
            · ((try dsimp only); (first | go_keep | (go_split_ands; refine ⟨?_, ?_, ?_⟩ <;> exact kcell (by assumption) (by assumption))))
            clear hK K; (try simp only [Act.put]); (try simp only [List.setIfInBounds_toArray]); (try simp only [List.set_cons_succ]); (try simp only [List.set_cons_zero])
            refine wpAnyH_ready (rs := [11]) (by kernel_rfl) (by simp) ?_
            refine AllReadyH.cons (o := ⟨_, _, _, _, _, _⟩) rfl (fun K hK => ?_) ?_
            · (go_simp; (first | (go_at_call 65; refine (truth_any _ _ _).mono ?_; rintro e w1 ⟨rfl, hb1⟩) | (go_at_call 66; refine (sign_any _ _ _ h0 h1).mono ?_; rintro e w2 ⟨rfl, hb2⟩) | (go_at_call 67; refine (text_any _ _ _ _ _).mono ?_; rintro e w3 ⟨rfl, hb3⟩) | (go_at_call 64; refine (wput1_any (fun _ => True) _ 3 3 (putValueF v) _ (by refine Sl.new3 (rep_fnum (by unfold i64; omega) (b2n_lt _)) (rep_fnum (by unfold i64; omega) HZ.out) (rep_ftxt (by unfold i64; omega) ?_) _ _ rfl; (repeat (first | assumption | exact Sl.nil_ _ _ _ | exact (sb_bs (by assumption)).any | (refine sb_bsA (by assumption) ?_; simp; done) | refine Sl.below ?_ (by assumption) (Nat.le_refl _) | refine Sl.alloc ?_ _ | refine Sl.drew ?_))) (by omega) HW.out).mono ?_; rintro e w4 ⟨A4, n4, c4, rfl, hown, hb4⟩)))
              refine hK.out _ _ ?_ (fun hHeld => ?_)
              · ((try dsimp only); (first | go_keep | (go_split_ands; refine ⟨?_, ?_, ?_⟩ <;> exact kcell (by assumption) (by assumption))))
              clear hK K; (try simp only [Act.put]); (try simp only [List.setIfInBounds_toArray]); (try simp only [List.set_cons_succ]); (try simp only [List.set_cons_zero])
              (refine wpAnyH_take (i := 12) (oi := ⟨_, _, _, _, _, _⟩) (v := ?_) rfl (by kernel_rfl) (by kernel_rfl) (by kernel_rfl) (fun _ _ _ h => h) (Or.inl ⟨by rfl, ?_⟩) (by assumption) ?_; rotate_left; · (intro w hSw; (try dsimp only at hSw); go_simp; try with_reducible rfl)); (try simp only [Act.put]); (try simp only [List.setIfInBounds_toArray]); (try simp only [List.set_cons_succ]); (try simp only [List.set_cons_zero])
              refine wpAnyH_done (by kernel_rfl) ?_ _
              go_wp2
              go_ret
              exact ⟨A4, n4, c4, rfl, hown.down (by have := hb1.size; have := hb2.size; have := hb3.size; simp at *; omega), by (repeat (first | exact Below.refl _ _ | assumption | refine bthen ?_ (by assumption) | refine balloc ?_ _ | refine bdrew ?_))⟩
            exact AllReadyH.nil
          exact AllReadyH.nil
        exact AllReadyH.nil
      exact AllReadyH.nil
    refine AllReadyH.cons (o := ⟨_, _, _, _, _, _⟩) rfl (fun K hK => ?_) ?_
    · go_simp
      refine hK.out _ _ ?_ (fun hHeld => ?_)
      · ((try dsimp only); (first | go_keep | (go_split_ands; refine ⟨?_, ?_, ?_⟩ <;> exact kcell (by assumption) (by assumption))))
      clear hK K; (try simp only [Act.put]); (try simp only [List.setIfInBounds_toArray]); (try simp only [List.set_cons_succ]); (try simp only [List.set_cons_zero])
      refine wpAnyH_ready (rs := [5]) (by kernel_rfl) (by simp) ?_
      refine AllReadyH.cons (o := ⟨_, _, _, _, _, _⟩) rfl (fun K hK => ?_) ?_
      · (go_simp; (first | (go_at_call 65; refine (truth_any _ _ _).mono ?_; rintro e w1 ⟨rfl, hb1⟩) | (go_at_call 66; refine (sign_any _ _ _ h0 h1).mono ?_; rintro e w2 ⟨rfl, hb2⟩) | (go_at_call 67; refine (text_any _ _ _ _ _).mono ?_; rintro e w3 ⟨rfl, hb3⟩) | (go_at_call 64; refine (wput1_any (fun _ => True) _ 3 3 (putValueF v) _ (by refine Sl.new3 (rep_fnum (by unfold i64; omega) (b2n_lt _)) (rep_fnum (by unfold i64; omega) HZ.out) (rep_ftxt (by unfold i64; omega) ?_) _ _ rfl; (repeat (first | assumption | exact Sl.nil_ _ _ _ | exact (sb_bs (by assumption)).any | (refine sb_bsA (by assumption) ?_; simp; done) | refine Sl.below ?_ (by assumption) (Nat.le_refl _) | refine Sl.alloc ?_ _ | refine Sl.drew ?_))) (by omega) HW.out).mono ?_; rintro e w4 ⟨A4, n4, c4, rfl, hown, hb4⟩)))
        refine hK.out _ _ ?_ (fun hHeld => ?_)
        · ((try dsimp only); (first | go_keep | (go_split_ands; refine ⟨?_, ?_, ?_⟩ <;> exact kcell (by assumption) (by assumption))))
        clear hK K; (try simp only [Act.put]); (try simp only [List.setIfInBounds_toArray]); (try simp only [List.set_cons_succ]); (try simp only [List.set_cons_zero])
        refine wpAnyH_ready (rs := [9]) (by kernel_rfl) (by simp) ?_
        refine AllReadyH.cons (o := ⟨_, _, _, _, _, _⟩) rfl (fun K hK => ?_) ?_
        · (go_simp; (first | (go_at_call 65; refine (truth_any _ _ _).mono ?_; rintro e w1 ⟨rfl, hb1⟩) | (go_at_call 66; refine (sign_any _ _ _ h0 h1).mono ?_; rintro e w2 ⟨rfl, hb2⟩) | (go_at_call 67; refine (text_any _ _ _ _ _).mono ?_; rintro e w3 ⟨rfl, hb3⟩) | (go_at_call 64; refine (wput1_any (fun _ => True) _ 3 3 (putValueF v) _ (by refine Sl.new3 (rep_fnum (by unfold i64; omega) (b2n_lt _)) (rep_fnum (by unfold i64; omega) HZ.out) (rep_ftxt (by unfold i64; omega) ?_) _ _ rfl; (repeat (first | assumption | exact Sl.nil_ _ _ _ | exact (sb_bs (by assumption)).any | (refine sb_bsA (by assumption) ?_; simp; done) | refine Sl.below ?_ (by assumption) (Nat.le_refl _) | refine Sl.alloc ?_ _ | refine Sl.drew ?_))) (by omega) HW.out).mono ?_; rintro e w4 ⟨A4, n4, c4, rfl, hown, hb4⟩)))
          refine hK.out _ _ ?_ (fun hHeld => ?_)
          · ((try dsimp only); (first | go_keep | (go_split_ands; refine ⟨?_, ?_, ?_⟩ <;> exact kcell (by assumption) (by assumption))))
          clear hK K; (try simp only [Act.put]); (try simp only [List.setIfInBounds_toArray]); (try simp only [List.set_cons_succ]); (try simp only [List.set_cons_zero])
          refine wpAnyH_ready (rs := [10]) (by kernel_rfl) (by simp) ?_
          refine AllReadyH.cons (o := ⟨_, _, _, _, _, _⟩) rfl (fun K hK => ?_) ?_
          · go_simp
            refine hK.out _ _ ?_ (fun hHeld => ?_)
            · ((try dsimp only); (first | go_keep | (go_split_ands; refine ⟨?_, ?_, ?_⟩ <;> exact kcell (by assumption) (by assumption))))
            clear hK K; (try simp only [Act.put]); (try simp only [List.setIfInBounds_toArray]); (try simp only [List.set_cons_succ]); (try simp only [List.set_cons_zero])
            refine wpAnyH_ready (rs := [11]) (by kernel_rfl) (by simp) ?_
            refine AllReadyH.cons (o := ⟨_, _, _, _, _, _⟩) rfl (fun K hK => ?_) ?_
            · (go_simp; (first | (go_at_call 65; refine (truth_any _ _ _).mono ?_; rintro e w1 ⟨rfl, hb1⟩) | (go_at_call 66; refine (sign_any _ _ _ h0 h1).mono ?_; rintro e w2 ⟨rfl, hb2⟩) | (go_at_call 67; refine (text_any _ _ _ _ _).mono ?_; rintro e w3 ⟨rfl, hb3⟩) | (go_at_call 64; refine (wput1_any (fun _ => True) _ 3 3 (putValueF v) _ (by refine Sl.new3 (rep_fnum (by unfold i64; omega) (b2n_lt _)) (rep_fnum (by unfold i64; omega) HZ.out) (rep_ftxt (by unfold i64; omega) ?_) _ _ rfl; (repeat (first | assumption | exact Sl.nil_ _ _ _ | exact (sb_bs (by assumption)).any | (refine sb_bsA (by assumption) ?_; simp; done) | refine Sl.below ?_ (by assumption) (Nat.le_refl _) | refine Sl.alloc ?_ _ | refine Sl.drew ?_))) (by omega) HW.out).mono ?_; rintro e w4 ⟨A4, n4, c4, rfl, hown, hb4⟩)))
              refine hK.out _ _ ?_ (fun hHeld => ?_)
              · ((try dsimp only); (first | go_keep | (go_split_ands; refine ⟨?_, ?_, ?_⟩ <;> exact kcell (by assumption) (by assumption))))
              clear hK K; (try simp only [Act.put]); (try simp only [List.setIfInBounds_toArray]); (try simp only [List.set_cons_succ]); (try simp only [List.set_cons_zero])
              (refine wpAnyH_take (i := 12) (oi := ⟨_, _, _, _, _, _⟩) (v := ?_) rfl (by kernel_rfl) (by kernel_rfl) (by kernel_rfl) (fun _ _ _ h => h) (Or.inl ⟨by rfl, ?_⟩) (by assumption) ?_; rotate_left; · (intro w hSw; (try dsimp only at hSw); go_simp; try with_reducible rfl)); (try simp only [Act.put]); (try simp only [List.setIfInBounds_toArray]); (try simp only [List.set_cons_succ]); (try simp only [List.set_cons_zero])
              refine wpAnyH_done (by kernel_rfl) ?_ _
              go_wp2
              go_ret
              exact ⟨A4, n4, c4, rfl, hown.down (by have := hb1.size; have := hb2.size; have := hb3.size; simp at *; omega), by (repeat (first | exact Below.refl _ _ | assumption | refine bthen ?_ (by assumption) | refine balloc ?_ _ | refine bdrew ?_))⟩
            exact AllReadyH.nil
          exact AllReadyH.nil
        exact AllReadyH.nil
      exact AllReadyH.nil
    exact AllReadyH.nil
  refine AllReadyH.cons (o := ⟨_, _, _, _, _, _⟩) rfl (fun K hK => ?_) ?_
  · go_simp
    refine hK.out _ _ ?_ (fun hHeld => ?_)
    · ((try dsimp only); (first | go_keep | (go_split_ands; refine ⟨?_, ?_, ?_⟩ <;> exact kcell (by assumption) (by assumption))))
    clear hK K; (try simp only [Act.put]); (try simp only [List.setIfInBounds_toArray]); (try simp only [List.set_cons_succ]); (try simp only [List.set_cons_zero])
    refine wpAnyH_ready (rs := [2]) (by kernel_rfl) (by simp) ?_
    refine AllReadyH.cons (o := ⟨_, _, _, _, _, _⟩) rfl (fun K hK => ?_) ?_
    · (go_simp; (first | (go_at_call 65; refine (truth_any _ _ _).mono ?_; rintro e w1 ⟨rfl, hb1⟩) | (go_at_call 66; refine (sign_any _ _ _ h0 h1).mono ?_; rintro e w2 ⟨rfl, hb2⟩) | (go_at_call 67; refine (text_any _ _ _ _ _).mono ?_; rintro e w3 ⟨rfl, hb3⟩) | (go_at_call 64; refine (wput1_any (fun _ => True) _ 3 3 (putValueF v) _ (by refine Sl.new3 (rep_fnum (by unfold i64; omega) (b2n_lt _)) (rep_fnum (by unfold i64; omega) HZ.out) (rep_ftxt (by unfold i64; omega) ?_) _ _ rfl; (repeat (first | assumption | exact Sl.nil_ _ _ _ | exact (sb_bs (by assumption)).any | (refine sb_bsA (by assumption) ?_; simp; done) | refine Sl.below ?_ (by assumption) (Nat.le_refl _) | refine Sl.alloc ?_ _ | refine Sl.drew ?_))) (by omega) HW.out).mono ?_; rintro e w4 ⟨A4, n4, c4, rfl, hown, hb4⟩)))
      refine hK.out _ _ ?_ (fun hHeld => ?_)
      · ((try dsimp only); (first | go_keep | (go_split_ands; refine ⟨?_, ?_, ?_⟩ <;> exact kcell (by assumption) (by assumption))))
      clear hK K; (try simp only [Act.put]); (try simp only [List.setIfInBounds_toArray]); (try simp only [List.set_cons_succ]); (try simp only [List.set_cons_zero])
      refine wpAnyH_ready (rs := [5]) (by kernel_rfl) (by simp) ?_
      refine AllReadyH.cons (o := ⟨_, _, _, _, _, _⟩) rfl (fun K hK => ?_) ?_
      · (go_simp; (first | (go_at_call 65; refine (truth_any _ _ _).mono ?_; rintro e w1 ⟨rfl, hb1⟩) | (go_at_call 66; refine (sign_any _ _ _ h0 h1).mono ?_; rintro e w2 ⟨rfl, hb2⟩) | (go_at_call 67; refine (text_any _ _ _ _ _).mono ?_; rintro e w3 ⟨rfl, hb3⟩) | (go_at_call 64; refine (wput1_any (fun _ => True) _ 3 3 (putValueF v) _ (by refine Sl.new3 (rep_fnum (by unfold i64; omega) (b2n_lt _)) (rep_fnum (by unfold i64; omega) HZ.out) (rep_ftxt (by unfold i64; omega) ?_) _ _ rfl; (repeat (first | assumption | exact Sl.nil_ _ _ _ | exact (sb_bs (by assumption)).any | (refine sb_bsA (by assumption) ?_; simp; done) | refine Sl.below ?_ (by assumption) (Nat.le_refl _) | refine Sl.alloc ?_ _ | refine Sl.drew ?_))) (by omega) HW.out).mono ?_; rintro e w4 ⟨A4, n4, c4, rfl, hown, hb4⟩)))
        refine hK.out _ _ ?_ (fun hHeld => ?_)
        · ((try dsimp only); (first | go_keep | (go_split_ands; refine ⟨?_, ?_, ?_⟩ <;> exact kcell (by assumption) (by assumption))))
        clear hK K; (try simp only [Act.put]); (try simp only [List.setIfInBounds_toArray]); (try simp only [List.set_cons_succ]); (try simp only [List.set_cons_zero])
        refine wpAnyH_ready (rs := [9]) (by kernel_rfl) (by simp) ?_
        refine AllReadyH.cons (o := ⟨_, _, _, _, _, _⟩) rfl (fun K hK => ?_) ?_
        · (go_simp; (first | (go_at_call 65; refine (truth_any _ _ _).mono ?_; rintro e w1 ⟨rfl, hb1⟩) | (go_at_call 66; refine (sign_any _ _ _ h0 h1).mono ?_; rintro e w2 ⟨rfl, hb2⟩) | (go_at_call 67; refine (text_any _ _ _ _ _).mono ?_; rintro e w3 ⟨rfl, hb3⟩) | (go_at_call 64; refine (wput1_any (fun _ => True) _ 3 3 (putValueF v) _ (by refine Sl.new3 (rep_fnum (by unfold i64; omega) (b2n_lt _)) (rep_fnum (by unfold i64; omega) HZ.out) (rep_ftxt (by unfold i64; omega) ?_) _ _ rfl; (repeat (first | assumption | exact Sl.nil_ _ _ _ | exact (sb_bs (by assumption)).any | (refine sb_bsA (by assumption) ?_; simp; done) | refine Sl.below ?_ (by assumption) (Nat.le_refl _) | refine Sl.alloc ?_ _ | refine Sl.drew ?_))) (by omega) HW.out).mono ?_; rintro e w4 ⟨A4, n4, c4, rfl, hown, hb4⟩)))
          refine hK.out _ _ ?_ (fun hHeld => ?_)
          · ((try dsimp only); (first | go_keep | (go_split_ands; refine ⟨?_, ?_, ?_⟩ <;> exact kcell (by assumption) (by assumption))))
          clear hK K; (try simp only [Act.put]); (try simp only [List.setIfInBounds_toArray]); (try simp only [List.set_cons_succ]); (try simp only [List.set_cons_zero])
          refine wpAnyH_ready (rs := [10]) (by kernel_rfl) (by simp) ?_
          refine AllReadyH.cons (o := ⟨_, _, _, _, _, _⟩) rfl (fun K hK => ?_) ?_
          · go_simp
            refine hK.out _ _ ?_ (fun hHeld => ?_)
            · ((try dsimp only); (first | go_keep | (go_split_ands; refine ⟨?_, ?_, ?_⟩ <;> exact kcell (by assumption) (by assumption))))
            clear hK K; (try simp only [Act.put]); (try simp only [List.setIfInBounds_toArray]); (try simp only [List.set_cons_succ]); (try simp only [List.set_cons_zero])
            refine wpAnyH_ready (rs := [11]) (by kernel_rfl) (by simp) ?_
            refine AllReadyH.cons (o := ⟨_, _, _, _, _, _⟩) rfl (fun K hK => ?_) ?_
            · (go_simp; (first | (go_at_call 65; refine (truth_any _ _ _).mono ?_; rintro e w1 ⟨rfl, hb1⟩) | (go_at_call 66; refine (sign_any _ _ _ h0 h1).mono ?_; rintro e w2 ⟨rfl, hb2⟩) | (go_at_call 67; refine (text_any _ _ _ _ _).mono ?_; rintro e w3 ⟨rfl, hb3⟩) | (go_at_call 64; refine (wput1_any (fun _ => True) _ 3 3 (putValueF v) _ (by refine Sl.new3 (rep_fnum (by unfold i64; omega) (b2n_lt _)) (rep_fnum (by unfold i64; omega) HZ.out) (rep_ftxt (by unfold i64; omega) ?_) _ _ rfl; (repeat (first | assumption | exact Sl.nil_ _ _ _ | exact (sb_bs (by assumption)).any | (refine sb_bsA (by assumption) ?_; simp; done) | refine Sl.below ?_ (by assumption) (Nat.le_refl _) | refine Sl.alloc ?_ _ | refine Sl.drew ?_))) (by omega) HW.out).mono ?_; rintro e w4 ⟨A4, n4, c4, rfl, hown, hb4⟩)))
              refine hK.out _ _ ?_ (fun hHeld => ?_)
              · ((try dsimp only); (first | go_keep | (go_split_ands; refine ⟨?_, ?_, ?_⟩ <;> exact kcell (by assumption) (by assumption))))
              clear hK K; (try simp only [Act.put]); (try simp only [List.setIfInBounds_toArray]); (try simp only [List.set_cons_succ]); (try simp only [List.set_cons_zero])
              (refine wpAnyH_take (i := 12) (oi := ⟨_, _, _, _, _, _⟩) (v := ?_) rfl (by kernel_rfl) (by kernel_rfl) (by kernel_rfl) (fun _ _ _ h => h) (Or.inl ⟨by rfl, ?_⟩) (by assumption) ?_; rotate_left; · (intro w hSw; (try dsimp only at hSw); go_simp; try with_reducible rfl)); (try simp only [Act.put]); (try simp only [List.setIfInBounds_toArray]); (try simp only [List.set_cons_succ]); (try simp only [List.set_cons_zero])
              refine wpAnyH_done (by kernel_rfl) ?_ _
              go_wp2
              go_ret
              exact ⟨A4, n4, c4, rfl, hown.down (by have := hb1.size; have := hb2.size; have := hb3.size; simp at *; omega), by (repeat (first | exact Below.refl _ _ | assumption | refine bthen ?_ (by assumption) | refine balloc ?_ _ | refine bdrew ?_))⟩
            exact AllReadyH.nil
          exact AllReadyH.nil
        exact AllReadyH.nil
      exact AllReadyH.nil
    exact AllReadyH.nil
  exact AllReadyH.nil
end Go.Proofs.YtojenpjafgfpaaaDoor
