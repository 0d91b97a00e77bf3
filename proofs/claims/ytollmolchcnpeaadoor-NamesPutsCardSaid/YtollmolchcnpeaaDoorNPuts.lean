/- The law NamesPuts: May, Put and File, as the reference says: its walk. (Printed by gen_nputs.py.) -/
import Derived.Test.YtollmolchcnpeaaDoorNShown
import Derived.Test.YtollmolchcnpeaaDoorNFile
namespace Go.Proofs.YtollmolchcnpeaaDoor
open Go Go.RowKit

abbrev NpS (b : Nat) (d : DD) (w0 w' : World) : Prop := w'.cell? ⟨b, 0, none⟩ = some (.int .i64 d.kind) ∧ w'.cell? ⟨b, 1, none⟩ = some (.int .i64 d.lo) ∧ w'.cell? ⟨b, 2, none⟩ = some (.int .i64 d.hi) ∧ Hid (Tab w' ∧ Below w0.heap.size w0 w' ∧ w0.heap.size ≤ w'.heap.size)
theorem npS_keep {b : Nat} {d : DD} {w0 w1 w2 : World} (h : NpS b d w0 w1) (hb : Below w1.heap.size w1 w2) : NpS b d w0 w2 :=
  ⟨kcell hb h.1, kcell hb h.2.1, kcell hb h.2.2.1, Lib.hid ⟨h.2.2.2.out.1.below hb, bthen h.2.2.2.out.2.1 hb, Nat.le_trans h.2.2.2.out.2.2 hb.size⟩⟩

set_option maxRecDepth 100000 in
set_option maxHeartbeats 4000000 in
theorem nputs_any (d : DD) (k : Int) (hk : i64 k) (w : World) (ht : Tab w) :
    Calls Tryd.prog 5 #[.agg #[.int .i64 d.kind, .int .i64 d.lo, .int .i64 d.hi], .int .i64 k] w fun e w' => e = .returned (.bool true) ∧ Below w.heap.size w w' := by
  obtain ⟨b, hb⟩ : ∃ b, b = may d := ⟨_, rfl⟩
  obtain ⟨p, hp⟩ : ∃ p, p = nput d := ⟨_, rfl⟩
  obtain ⟨f, hf⟩ : ∃ f, f = nfile d k := ⟨_, rfl⟩
  have HB := Lib.hid hb; have HP := Lib.hid hp; have HF := Lib.hid hf; have HT := Lib.hid ht; have HK := Lib.hid hk
  have HB0 := Lib.hid (show Below w.heap.size w (w.alloc (.cells #[.int .i64 d.kind, .int .i64 d.lo, .int .i64 d.hi] 28)) from (Below.refl _ _).alloc (Nat.le_refl _) _)
  clear hb hp hf ht hk
  go_enter Tryd.func5, Tryd.ntmps5
  go_upto_region 2 with (first
    | (go_at_call 7; refine (nshown_any _ (HT.out.below HB0.out)).mono ?_; rintro e w1 ⟨rfl, hb1⟩; have HB1 := Lib.hid (HB0.out.trans (hb1.mono (by simp))); have HK1 := Lib.hid (show w1.heap[w.heap.size]? = some (.cells #[.int .i64 d.kind, .int .i64 d.lo, .int .i64 d.hi] 28 (0, 0)) from (hb1.block _ (by simp)).trans (heap_alloc_new w _)); clear hb1)
    | fail)
  have hHeld : NpS w.heap.size d w w1.drew := npS_keep (w1 := w1) ⟨by rw [Lib.cell_of_heap HK1.out]; rfl, by rw [Lib.cell_of_heap HK1.out]; rfl, by rw [Lib.cell_of_heap HK1.out]; rfl, Lib.hid ⟨HT.out.below HB1.out, HB1.out, HB1.out.size⟩⟩ (Below.refl _ _).drew
  refine wp_region_held_drew (S := (fun w' => w'.cell? ⟨w.heap.size, 0, none⟩ = some (.int .i64 d.kind) ∧ w'.cell? ⟨w.heap.size, 1, none⟩ = some (.int .i64 d.lo) ∧ w'.cell? ⟨w.heap.size, 2, none⟩ = some (.int .i64 d.hi) ∧ Hid (Tab w' ∧ Below w.heap.size w w' ∧ w.heap.size ≤ w'.heap.size))) (by kernel_rfl) ?_ (fun hHeld => ?_)
  · ((try dsimp only); (first | exact hHeld | exact npS_keep hHeld hb))
  (refine wpAnyH_take (i := 0) (oi := ⟨_, _, _, _, _, _⟩) (v := ?_) rfl (by kernel_rfl) (by kernel_rfl) (by kernel_rfl) (fun _ _ _ h => h) (Or.inl ⟨by rfl, ?_⟩) (by assumption) ?_; rotate_left; · (intro w hSw; (try dsimp only at hSw); go_simp; try with_reducible rfl)); (try simp only [Act.put]); (try simp only [List.setIfInBounds_toArray]); (try simp only [List.set_cons_succ]); (try simp only [List.set_cons_zero])
  (refine wpAnyH_take (i := 1) (oi := ⟨_, _, _, _, _, _⟩) (v := ?_) rfl (by kernel_rfl) (by kernel_rfl) (by kernel_rfl) (fun _ _ _ h => h) (Or.inl ⟨by rfl, ?_⟩) (by assumption) ?_; rotate_left; · (intro w hSw; (try dsimp only at hSw); go_simp; try with_reducible rfl)); (try simp only [Act.put]); (try simp only [List.setIfInBounds_toArray]); (try simp only [List.set_cons_succ]); (try simp only [List.set_cons_zero])
  (refine wpAnyH_take (i := 2) (oi := ⟨_, _, _, _, _, _⟩) (v := ?_) rfl (by kernel_rfl) (by kernel_rfl) (by kernel_rfl) (fun _ _ _ h => h) (Or.inl ⟨by rfl, ?_⟩) (by assumption) ?_; rotate_left; · (intro w hSw; (try dsimp only at hSw); go_simp; try with_reducible rfl)); (try simp only [Act.put]); (try simp only [List.setIfInBounds_toArray]); (try simp only [List.set_cons_succ]); (try simp only [List.set_cons_zero])
  (refine wpAnyH_take (i := 4) (oi := ⟨_, _, _, _, _, _⟩) (v := ?_) rfl (by kernel_rfl) (by kernel_rfl) (by kernel_rfl) (fun _ _ _ h => h) (Or.inl ⟨by rfl, ?_⟩) (by assumption) ?_; rotate_left; · (intro w hSw; (try dsimp only at hSw); go_simp; try with_reducible rfl)); (try simp only [Act.put]); (try simp only [List.setIfInBounds_toArray]); (try simp only [List.set_cons_succ]); (try simp only [List.set_cons_zero])
  refine wpAnyH_ready (rs := [3]) (by kernel_rfl) (by simp) ?_
  refine AllReadyH.cons (o := ⟨_, _, _, _, _, _⟩) rfl (fun K hK => ?_) ?_
  · (go_simp; (first | (go_at_call 11; refine (may_any d b HB.out _).mono ?_; rintro e w2 ⟨rfl, hb⟩) | (go_at_call 12; refine (rmay_any d b HB.out _).mono ?_; rintro e w2 ⟨rfl, hb⟩) | (go_at_call 13; refine (nput_any d p HP.out _ hHeld.2.2.2.out.1).mono ?_; rintro e w2 ⟨rfl, hb⟩) | (go_at_call 14; refine (rnput_any d p HP.out _).mono ?_; rintro e w2 ⟨rfl, hb⟩) | (go_at_call 15; refine (nfile_any d k HK.out f HF.out _ hHeld.2.2.2.out.1).mono ?_; rintro e w2 ⟨rfl, hb⟩) | (go_at_call 16; refine (rnfile_any d k f HF.out _).mono ?_; rintro e w2 ⟨rfl, hb⟩) | fail))
    refine hK.out _ _ ?_ (fun hHeld => ?_)
    · ((try dsimp only); (first | exact hHeld | exact npS_keep hHeld hb))
    clear hK K; (try simp only [Act.put]); (try simp only [List.setIfInBounds_toArray]); (try simp only [List.set_cons_succ]); (try simp only [List.set_cons_zero])
    refine wpAnyH_ready (rs := [5]) (by kernel_rfl) (by simp) ?_
    refine AllReadyH.cons (o := ⟨_, _, _, _, _, _⟩) rfl (fun K hK => ?_) ?_
    · (go_simp; (first | (go_at_call 11; refine (may_any d b HB.out _).mono ?_; rintro e w2 ⟨rfl, hb⟩) | (go_at_call 12; refine (rmay_any d b HB.out _).mono ?_; rintro e w2 ⟨rfl, hb⟩) | (go_at_call 13; refine (nput_any d p HP.out _ hHeld.2.2.2.out.1).mono ?_; rintro e w2 ⟨rfl, hb⟩) | (go_at_call 14; refine (rnput_any d p HP.out _).mono ?_; rintro e w2 ⟨rfl, hb⟩) | (go_at_call 15; refine (nfile_any d k HK.out f HF.out _ hHeld.2.2.2.out.1).mono ?_; rintro e w2 ⟨rfl, hb⟩) | (go_at_call 16; refine (rnfile_any d k f HF.out _).mono ?_; rintro e w2 ⟨rfl, hb⟩) | fail))
      refine hK.out _ _ ?_ (fun hHeld => ?_)
      · ((try dsimp only); (first | exact hHeld | exact npS_keep hHeld hb))
      clear hK K; (try simp only [Act.put]); (try simp only [List.setIfInBounds_toArray]); (try simp only [List.set_cons_succ]); (try simp only [List.set_cons_zero])
      (refine wpAnyH_take (i := 6) (oi := ⟨_, _, _, _, _, _⟩) (v := ?_) rfl (by kernel_rfl) (by kernel_rfl) (by kernel_rfl) (fun _ _ _ h => h) (Or.inl ⟨by rfl, ?_⟩) (by assumption) ?_; rotate_left; · (intro w hSw; (try dsimp only at hSw); go_simp; try with_reducible rfl)); (try simp only [Act.put]); (try simp only [List.setIfInBounds_toArray]); (try simp only [List.set_cons_succ]); (try simp only [List.set_cons_zero])
      (refine wpAnyH_take (i := 7) (oi := ⟨_, _, _, _, _, _⟩) (v := ?_) rfl (by kernel_rfl) (by kernel_rfl) (by kernel_rfl) (fun _ _ _ h => h) (Or.inl ⟨by rfl, ?_⟩) (by assumption) ?_; rotate_left; · (intro w hSw; (try dsimp only at hSw); go_simp; try with_reducible rfl)); (try simp only [Act.put]); (try simp only [List.setIfInBounds_toArray]); (try simp only [List.set_cons_succ]); (try simp only [List.set_cons_zero])
      (refine wpAnyH_take (i := 8) (oi := ⟨_, _, _, _, _, _⟩) (v := ?_) rfl (by kernel_rfl) (by kernel_rfl) (by kernel_rfl) (fun _ _ _ h => h) (Or.inl ⟨by rfl, ?_⟩) (by assumption) ?_; rotate_left; · (intro w hSw; (try dsimp only at hSw); go_simp; try with_reducible rfl)); (try simp only [Act.put]); (try simp only [List.setIfInBounds_toArray]); (try simp only [List.set_cons_succ]); (try simp only [List.set_cons_zero])
      (refine wpAnyH_take (i := 9) (oi := ⟨_, _, _, _, _, _⟩) (v := ?_) rfl (by kernel_rfl) (by kernel_rfl) (by kernel_rfl) (fun _ _ _ h => h) (Or.inl ⟨by rfl, ?_⟩) (by assumption) ?_; rotate_left; · (intro w hSw; (try dsimp only at hSw); go_simp; try with_reducible rfl)); (try simp only [Act.put]); (try simp only [List.setIfInBounds_toArray]); (try simp only [List.set_cons_succ]); (try simp only [List.set_cons_zero])
      (refine wpAnyH_take (i := 11) (oi := ⟨_, _, _, _, _, _⟩) (v := ?_) rfl (by kernel_rfl) (by kernel_rfl) (by kernel_rfl) (fun _ _ _ h => h) (Or.inl ⟨by rfl, ?_⟩) (by assumption) ?_; rotate_left; · (intro w hSw; (try dsimp only at hSw); go_simp; try with_reducible rfl)); (try simp only [Act.put]); (try simp only [List.setIfInBounds_toArray]); (try simp only [List.set_cons_succ]); (try simp only [List.set_cons_zero])
      refine wpAnyH_ready (rs := [10]) (by kernel_rfl) (by simp) ?_
      refine AllReadyH.cons (o := ⟨_, _, _, _, _, _⟩) rfl (fun K hK => ?_) ?_
      · (go_simp; (first | (go_at_call 11; refine (may_any d b HB.out _).mono ?_; rintro e w2 ⟨rfl, hb⟩) | (go_at_call 12; refine (rmay_any d b HB.out _).mono ?_; rintro e w2 ⟨rfl, hb⟩) | (go_at_call 13; refine (nput_any d p HP.out _ hHeld.2.2.2.out.1).mono ?_; rintro e w2 ⟨rfl, hb⟩) | (go_at_call 14; refine (rnput_any d p HP.out _).mono ?_; rintro e w2 ⟨rfl, hb⟩) | (go_at_call 15; refine (nfile_any d k HK.out f HF.out _ hHeld.2.2.2.out.1).mono ?_; rintro e w2 ⟨rfl, hb⟩) | (go_at_call 16; refine (rnfile_any d k f HF.out _).mono ?_; rintro e w2 ⟨rfl, hb⟩) | fail))
        refine hK.out _ _ ?_ (fun hHeld => ?_)
        · ((try dsimp only); (first | exact hHeld | exact npS_keep hHeld hb))
        clear hK K; (try simp only [Act.put]); (try simp only [List.setIfInBounds_toArray]); (try simp only [List.set_cons_succ]); (try simp only [List.set_cons_zero])
        refine wpAnyH_ready (rs := [12]) (by kernel_rfl) (by simp) ?_
        refine AllReadyH.cons (o := ⟨_, _, _, _, _, _⟩) rfl (fun K hK => ?_) ?_
        · (go_simp; (first | (go_at_call 11; refine (may_any d b HB.out _).mono ?_; rintro e w2 ⟨rfl, hb⟩) | (go_at_call 12; refine (rmay_any d b HB.out _).mono ?_; rintro e w2 ⟨rfl, hb⟩) | (go_at_call 13; refine (nput_any d p HP.out _ hHeld.2.2.2.out.1).mono ?_; rintro e w2 ⟨rfl, hb⟩) | (go_at_call 14; refine (rnput_any d p HP.out _).mono ?_; rintro e w2 ⟨rfl, hb⟩) | (go_at_call 15; refine (nfile_any d k HK.out f HF.out _ hHeld.2.2.2.out.1).mono ?_; rintro e w2 ⟨rfl, hb⟩) | (go_at_call 16; refine (rnfile_any d k f HF.out _).mono ?_; rintro e w2 ⟨rfl, hb⟩) | fail))
          refine hK.out _ _ ?_ (fun hHeld => ?_)
          · ((try dsimp only); (first | exact hHeld | exact npS_keep hHeld hb))
          clear hK K; (try simp only [Act.put]); (try simp only [List.setIfInBounds_toArray]); (try simp only [List.set_cons_succ]); (try simp only [List.set_cons_zero])
          (refine wpAnyH_take (i := 13) (oi := ⟨_, _, _, _, _, _⟩) (v := ?_) rfl (by kernel_rfl) (by kernel_rfl) (by kernel_rfl) (fun _ _ _ h => h) (Or.inl ⟨by rfl, ?_⟩) (by assumption) ?_; rotate_left; · (intro w hSw; (try dsimp only at hSw); go_simp; try with_reducible rfl)); (try simp only [Act.put]); (try simp only [List.setIfInBounds_toArray]); (try simp only [List.set_cons_succ]); (try simp only [List.set_cons_zero])
          (refine wpAnyH_take (i := 14) (oi := ⟨_, _, _, _, _, _⟩) (v := ?_) rfl (by kernel_rfl) (by kernel_rfl) (by kernel_rfl) (fun _ _ _ h => h) (Or.inl ⟨by rfl, ?_⟩) (by assumption) ?_; rotate_left; · (intro w hSw; (try dsimp only at hSw); go_simp; try with_reducible rfl)); (try simp only [Act.put]); (try simp only [List.setIfInBounds_toArray]); (try simp only [List.set_cons_succ]); (try simp only [List.set_cons_zero])
          (refine wpAnyH_take (i := 15) (oi := ⟨_, _, _, _, _, _⟩) (v := ?_) rfl (by kernel_rfl) (by kernel_rfl) (by kernel_rfl) (fun _ _ _ h => h) (Or.inl ⟨by rfl, ?_⟩) (by assumption) ?_; rotate_left; · (intro w hSw; (try dsimp only at hSw); go_simp; try with_reducible rfl)); (try simp only [Act.put]); (try simp only [List.setIfInBounds_toArray]); (try simp only [List.set_cons_succ]); (try simp only [List.set_cons_zero])
          (refine wpAnyH_take (i := 16) (oi := ⟨_, _, _, _, _, _⟩) (v := ?_) rfl (by kernel_rfl) (by kernel_rfl) (by kernel_rfl) (fun _ _ _ h => h) (Or.inl ⟨by rfl, ?_⟩) (by assumption) ?_; rotate_left; · (intro w hSw; (try dsimp only at hSw); go_simp; try with_reducible rfl)); (try simp only [Act.put]); (try simp only [List.setIfInBounds_toArray]); (try simp only [List.set_cons_succ]); (try simp only [List.set_cons_zero])
          (refine wpAnyH_take (i := 17) (oi := ⟨_, _, _, _, _, _⟩) (v := ?_) rfl (by kernel_rfl) (by kernel_rfl) (by kernel_rfl) (fun _ _ _ h => h) (Or.inl ⟨by rfl, ?_⟩) (by assumption) ?_; rotate_left; · (intro w hSw; (try dsimp only at hSw); go_simp; try with_reducible rfl)); (try simp only [Act.put]); (try simp only [List.setIfInBounds_toArray]); (try simp only [List.set_cons_succ]); (try simp only [List.set_cons_zero])
          (refine wpAnyH_take (i := 19) (oi := ⟨_, _, _, _, _, _⟩) (v := ?_) rfl (by kernel_rfl) (by kernel_rfl) (by kernel_rfl) (fun _ _ _ h => h) (Or.inl ⟨by rfl, ?_⟩) (by assumption) ?_; rotate_left; · (intro w hSw; (try dsimp only at hSw); go_simp; try with_reducible rfl)); (try simp only [Act.put]); (try simp only [List.setIfInBounds_toArray]); (try simp only [List.set_cons_succ]); (try simp only [List.set_cons_zero])
          (refine wpAnyH_take (i := 20) (oi := ⟨_, _, _, _, _, _⟩) (v := ?_) rfl (by kernel_rfl) (by kernel_rfl) (by kernel_rfl) (fun _ _ _ h => h) (Or.inl ⟨by rfl, ?_⟩) (by assumption) ?_; rotate_left; · (intro w hSw; (try dsimp only at hSw); go_simp; try with_reducible rfl)); (try simp only [Act.put]); (try simp only [List.setIfInBounds_toArray]); (try simp only [List.set_cons_succ]); (try simp only [List.set_cons_zero])
          refine wpAnyH_ready (rs := [18]) (by kernel_rfl) (by simp) ?_
          refine AllReadyH.cons (o := ⟨_, _, _, _, _, _⟩) rfl (fun K hK => ?_) ?_
          · (go_simp; (first | (go_at_call 11; refine (may_any d b HB.out _).mono ?_; rintro e w2 ⟨rfl, hb⟩) | (go_at_call 12; refine (rmay_any d b HB.out _).mono ?_; rintro e w2 ⟨rfl, hb⟩) | (go_at_call 13; refine (nput_any d p HP.out _ hHeld.2.2.2.out.1).mono ?_; rintro e w2 ⟨rfl, hb⟩) | (go_at_call 14; refine (rnput_any d p HP.out _).mono ?_; rintro e w2 ⟨rfl, hb⟩) | (go_at_call 15; refine (nfile_any d k HK.out f HF.out _ hHeld.2.2.2.out.1).mono ?_; rintro e w2 ⟨rfl, hb⟩) | (go_at_call 16; refine (rnfile_any d k f HF.out _).mono ?_; rintro e w2 ⟨rfl, hb⟩) | fail))
            refine hK.out _ _ ?_ (fun hHeld => ?_)
            · ((try dsimp only); (first | exact hHeld | exact npS_keep hHeld hb))
            clear hK K; (try simp only [Act.put]); (try simp only [List.setIfInBounds_toArray]); (try simp only [List.set_cons_succ]); (try simp only [List.set_cons_zero])
            refine wpAnyH_ready (rs := [21]) (by kernel_rfl) (by simp) ?_
            refine AllReadyH.cons (o := ⟨_, _, _, _, _, _⟩) rfl (fun K hK => ?_) ?_
            · (go_simp; (first | (go_at_call 11; refine (may_any d b HB.out _).mono ?_; rintro e w2 ⟨rfl, hb⟩) | (go_at_call 12; refine (rmay_any d b HB.out _).mono ?_; rintro e w2 ⟨rfl, hb⟩) | (go_at_call 13; refine (nput_any d p HP.out _ hHeld.2.2.2.out.1).mono ?_; rintro e w2 ⟨rfl, hb⟩) | (go_at_call 14; refine (rnput_any d p HP.out _).mono ?_; rintro e w2 ⟨rfl, hb⟩) | (go_at_call 15; refine (nfile_any d k HK.out f HF.out _ hHeld.2.2.2.out.1).mono ?_; rintro e w2 ⟨rfl, hb⟩) | (go_at_call 16; refine (rnfile_any d k f HF.out _).mono ?_; rintro e w2 ⟨rfl, hb⟩) | fail))
              refine hK.out _ _ ?_ (fun hHeld => ?_)
              · ((try dsimp only); (first | exact hHeld | exact npS_keep hHeld hb))
              clear hK K; (try simp only [Act.put]); (try simp only [List.setIfInBounds_toArray]); (try simp only [List.set_cons_succ]); (try simp only [List.set_cons_zero])
              (refine wpAnyH_take (i := 22) (oi := ⟨_, _, _, _, _, _⟩) (v := ?_) rfl (by kernel_rfl) (by kernel_rfl) (by kernel_rfl) (fun _ _ _ h => h) (Or.inl ⟨by rfl, ?_⟩) (by assumption) ?_; rotate_left; · (intro w hSw; (try dsimp only at hSw); go_simp; try with_reducible rfl)); (try simp only [Act.put]); (try simp only [List.setIfInBounds_toArray]); (try simp only [List.set_cons_succ]); (try simp only [List.set_cons_zero])
              (refine wpAnyH_take (i := 23) (oi := ⟨_, _, _, _, _, _⟩) (v := ?_) rfl (by kernel_rfl) (by kernel_rfl) (by kernel_rfl) (fun _ _ _ h => h) (Or.inl ⟨by rfl, ?_⟩) (by assumption) ?_; rotate_left; · (intro w hSw; (try dsimp only at hSw); go_simp; try with_reducible rfl)); (try simp only [Act.put]); (try simp only [List.setIfInBounds_toArray]); (try simp only [List.set_cons_succ]); (try simp only [List.set_cons_zero])
              (refine wpAnyH_take (i := 24) (oi := ⟨_, _, _, _, _, _⟩) (v := ?_) rfl (by kernel_rfl) (by kernel_rfl) (by kernel_rfl) (fun _ _ _ h => h) (Or.inl ⟨by rfl, ?_⟩) (by assumption) ?_; rotate_left; · (intro w hSw; (try dsimp only at hSw); go_simp; try with_reducible rfl)); (try simp only [Act.put]); (try simp only [List.setIfInBounds_toArray]); (try simp only [List.set_cons_succ]); (try simp only [List.set_cons_zero])
              refine wpAnyH_done (by kernel_rfl) ?_ _
              go_wp2_with fail
              go_ret
              exact ⟨rfl, hHeld.2.2.2.out.2.1⟩
            exact AllReadyH.nil
          exact AllReadyH.nil
        exact AllReadyH.nil
      exact AllReadyH.nil
    exact AllReadyH.nil
  exact AllReadyH.nil
end Go.Proofs.YtollmolchcnpeaaDoor
