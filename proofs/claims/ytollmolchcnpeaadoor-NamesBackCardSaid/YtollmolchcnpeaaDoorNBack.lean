/- The law NamesBack: a name, and a file's name, is read as it was; names are the same just if their directories are; their order: its walk. (Printed by gen_nback.py.) -/
import Derived.Test.YtollmolchcnpeaaDoorNTF
import Derived.Deep.CutRange
import Derived.Laws.BitsAllLaws
namespace Go.Proofs.YtollmolchcnpeaaDoor
open Go Go.RowKit

/-- What stands while the law runs: both directories, in their boxes. -/
abbrev NbS (A B : Nat) (a b : DD) (w0 w' : World) : Prop := w'.cell? ⟨A, 0, none⟩ = some (.int .i64 a.kind) ∧ w'.cell? ⟨A, 1, none⟩ = some (.int .i64 a.lo) ∧ w'.cell? ⟨A, 2, none⟩ = some (.int .i64 a.hi) ∧ w'.cell? ⟨B, 0, none⟩ = some (.int .i64 b.kind) ∧ w'.cell? ⟨B, 1, none⟩ = some (.int .i64 b.lo) ∧ w'.cell? ⟨B, 2, none⟩ = some (.int .i64 b.hi) ∧ Hid (Tab w' ∧ Below w0.heap.size w0 w' ∧ w0.heap.size ≤ w'.heap.size)
theorem nbS_keep {A B : Nat} {a b : DD} {w0 w1 w2 : World} (h : NbS A B a b w0 w1) (hb : Below w1.heap.size w1 w2) : NbS A B a b w0 w2 := by
  obtain ⟨h1, h2, h3, h4, h5, h6, h7⟩ := h
  exact ⟨kcell hb h1, kcell hb h2, kcell hb h3, kcell hb h4, kcell hb h5, kcell hb h6, Lib.hid ⟨h7.out.1.below hb, bthen h7.out.2.1 hb, Nat.le_trans h7.out.2.2 hb.size⟩⟩
theorem nb_allocd {w : World} {b : Nat} {v o : Obj} (h : w.heap[b]? = some v) : (w.alloc o).heap[b]? = some v := (Below.heap_alloc w o b (blk_lt h)).trans h
theorem band3 (x : Int) : ∃ k : Int, 0 ≤ k ∧ k < 4 ∧ bits .and .i64 x 3 = k := by
  refine ⟨(((BitVec.ofInt 64 x).toNat % 4 : Nat) : Int), by omega, by omega, ?_⟩
  show IntKind.i64.wrap ((BitVec.ofInt 64 x &&& BitVec.ofInt 64 3).toNat : Int) = _
  rw [BitVec.toNat_and, show (BitVec.ofInt 64 3).toNat = 3 by decide, nat_mask2, IntKind.wrap_i64]
  omega

set_option maxRecDepth 100000 in
set_option maxHeartbeats 8000000 in
theorem nback_any (a b : DD) (x : Int) (mx : Int) (w : World) (hm : w.cell? ⟨2, 0, none⟩ = some (.int .i64 mx)) (ht : Tab w) :
    Calls Tryd.prog 6 #[.agg #[.int .i64 a.kind, .int .i64 a.lo, .int .i64 a.hi], .agg #[.int .i64 b.kind, .int .i64 b.lo, .int .i64 b.hi], .int .i64 x] w fun e w' => e = .returned (.bool true) ∧ Below w.heap.size w w' := by
  obtain ⟨ma, hma⟩ : ∃ m, m = may a := ⟨_, rfl⟩
  obtain ⟨mb, hmb⟩ : ∃ m, m = may b := ⟨_, rfl⟩
  obtain ⟨pa, hpa⟩ : ∃ p, p = nput a := ⟨_, rfl⟩
  obtain ⟨pb, hpb⟩ : ∃ p, p = nput b := ⟨_, rfl⟩
  have HMA := Lib.hid hma; have HMB := Lib.hid hmb; have HPA := Lib.hid hpa; have HPB := Lib.hid hpb; have HM := Lib.hid hm; have HT := Lib.hid ht
  obtain ⟨A, hA⟩ : ∃ A, A = w.heap.size := ⟨_, rfl⟩
  obtain ⟨B, hB⟩ : ∃ B, B = w.heap.size + 1 := ⟨_, rfl⟩
  obtain ⟨w0, hw0⟩ : ∃ w0, w0 = (w.alloc (.cells #[.int .i64 a.kind, .int .i64 a.lo, .int .i64 a.hi] 28)).alloc (.cells #[.int .i64 b.kind, .int .i64 b.lo, .int .i64 b.hi] 28) := ⟨_, rfl⟩
  have hb0 : Below w.heap.size w w0 := by rw [hw0]; exact ((Below.refl _ _).alloc (Nat.le_refl _) _).alloc (by simp) _
  have hs0 : w0.heap.size = w.heap.size + 2 := by rw [hw0]; simp
  have hka : w0.heap[A]? = some (.cells #[.int .i64 a.kind, .int .i64 a.lo, .int .i64 a.hi] 28 (0, 0)) := by rw [hw0, hA]; exact nb_allocd (heap_alloc_new w _)
  have hkb : w0.heap[B]? = some (.cells #[.int .i64 b.kind, .int .i64 b.lo, .int .i64 b.hi] 28 (0, 0)) := by rw [hw0, hB]; have := heap_alloc_new (w.alloc (.cells #[.int .i64 a.kind, .int .i64 a.lo, .int .i64 a.hi] 28)) (.cells #[.int .i64 b.kind, .int .i64 b.lo, .int .i64 b.hi] 28); simpa using this
  have HW0 := Lib.hid hw0
  have HB0 := Lib.hid hb0
  have HS0 := Lib.hid hs0
  have hN0 : NbS A B a b w0 w0 := ⟨by rw [Lib.cell_of_heap hka]; rfl, by rw [Lib.cell_of_heap hka]; rfl, by rw [Lib.cell_of_heap hka]; rfl, by rw [Lib.cell_of_heap hkb]; rfl, by rw [Lib.cell_of_heap hkb]; rfl, by rw [Lib.cell_of_heap hkb]; rfl, Lib.hid ⟨HT.out.below hb0, Below.refl _ _, Nat.le_refl _⟩⟩
  have HN0 := Lib.hid hN0
  have HM0 := Lib.hid (kcell hb0 HM.out)
  have HAE := Lib.hid hA; have HBE := Lib.hid hB
  clear hma hmb hpa hpb hm ht hw0 hb0 hs0 hka hkb hN0 hA hB HM
  go_enter Tryd.func6, Tryd.ntmps6
  go_upto_region 1 with fail
  rw [← HW0.out, ← HBE.out, ← HAE.out]
  clear HW0
  go_upto_region 2 with (first
    | (go_at_call 7; refine (nshown_any _ (HT.out.below HB0.out)).mono ?_; rintro e w1 ⟨rfl, hb1⟩; obtain ⟨a0, a1, a2, b0, b1, b2, hh⟩ := nbS_keep HN0.out hb1; have HH := hh; clear hb1 hh)
    | fail)
  cases ma with
  | false =>
    have ea : pa.isEmpty = true := by rw [HPA.out, nput_no HMA.out.symm]; rfl
    cases mb with
    | false =>
      have eb : pb.isEmpty = true := by rw [HPB.out, nput_no HMB.out.symm]; rfl
      go_wp2_with (first
    | (go_at_call 11; refine (may_any _ _ rfl _).mono ?_; rintro e wx ⟨rfl, hb⟩; (first | rw [← HMA.out] | rw [← HMB.out]); obtain ⟨a0, a1, a2, b0, b1, b2, HH⟩ := nbS_keep (A := A) (B := B) (a := a) (b := b) (w0 := w0) ⟨a0, a1, a2, b0, b1, b2, HH⟩ hb; clear hb)
    | (go_at_call 13; refine (nput_any _ _ rfl _ HH.out.1).mono ?_; rintro e wx ⟨rfl, hb⟩; (first | rw [← HPA.out] | rw [← HPB.out]); obtain ⟨a0, a1, a2, b0, b1, b2, HH⟩ := nbS_keep (A := A) (B := B) (a := a) (b := b) (w0 := w0) ⟨a0, a1, a2, b0, b1, b2, HH⟩ hb; clear hb)
    | fail)
      go_ret
      exact ⟨rfl, HB0.out.trans (HH.out.2.1.mono (by have := HS0.out; omega))⟩
    | true =>
      go_wp2_with (first
    | (go_at_call 11; refine (may_any _ _ rfl _).mono ?_; rintro e wx ⟨rfl, hb⟩; (first | rw [← HMA.out] | rw [← HMB.out]); obtain ⟨a0, a1, a2, b0, b1, b2, HH⟩ := nbS_keep (A := A) (B := B) (a := a) (b := b) (w0 := w0) ⟨a0, a1, a2, b0, b1, b2, HH⟩ hb; clear hb)
    | (go_at_call 13; refine (nput_any _ _ rfl _ HH.out.1).mono ?_; rintro e wx ⟨rfl, hb⟩; (first | rw [← HPA.out] | rw [← HPB.out]); obtain ⟨a0, a1, a2, b0, b1, b2, HH⟩ := nbS_keep (A := A) (B := B) (a := a) (b := b) (w0 := w0) ⟨a0, a1, a2, b0, b1, b2, HH⟩ hb; clear hb)
    | fail)
      go_ret
      exact ⟨rfl, HB0.out.trans (HH.out.2.1.mono (by have := HS0.out; omega))⟩
  | true =>
    cases mb with
    | false =>
      have eb : pb.isEmpty = true := by rw [HPB.out, nput_no HMB.out.symm]; rfl
      go_wp2_with (first
    | (go_at_call 11; refine (may_any _ _ rfl _).mono ?_; rintro e wx ⟨rfl, hb⟩; (first | rw [← HMA.out] | rw [← HMB.out]); obtain ⟨a0, a1, a2, b0, b1, b2, HH⟩ := nbS_keep (A := A) (B := B) (a := a) (b := b) (w0 := w0) ⟨a0, a1, a2, b0, b1, b2, HH⟩ hb; clear hb)
    | (go_at_call 13; refine (nput_any _ _ rfl _ HH.out.1).mono ?_; rintro e wx ⟨rfl, hb⟩; (first | rw [← HPA.out] | rw [← HPB.out]); obtain ⟨a0, a1, a2, b0, b1, b2, HH⟩ := nbS_keep (A := A) (B := B) (a := a) (b := b) (w0 := w0) ⟨a0, a1, a2, b0, b1, b2, HH⟩ hb; clear hb)
    | fail)
      go_ret
      exact ⟨rfl, HB0.out.trans (HH.out.2.1.mono (by have := HS0.out; omega))⟩
    | true =>
      obtain ⟨k, k0, k4, hk⟩ := band3 x
      obtain ⟨f, hf⟩ : ∃ f, f = nfile b k := ⟨_, rfl⟩
      have HF := Lib.hid hf
      have HK0 := Lib.hid k0
      have HK4 := Lib.hid k4
      have HKI := Lib.hid (show i64 k by unfold i64; omega)
      clear hf k0 k4
      go_upto_region 6 with (first
        | (go_at_call 11; refine (may_any _ _ rfl _).mono ?_; rintro e wx ⟨rfl, hb⟩; (first | rw [← HMA.out] | rw [← HMB.out]); obtain ⟨a0, a1, a2, b0, b1, b2, HH⟩ := nbS_keep (A := A) (B := B) (a := a) (b := b) (w0 := w0) ⟨a0, a1, a2, b0, b1, b2, HH⟩ hb; clear hb)
        | (go_at_call 13; refine (nput_any _ _ rfl _ HH.out.1).mono ?_; rintro e wx ⟨rfl, hb⟩; (first | rw [← HPA.out] | rw [← HPB.out]); obtain ⟨a0, a1, a2, b0, b1, b2, HH⟩ := nbS_keep (A := A) (B := B) (a := a) (b := b) (w0 := w0) ⟨a0, a1, a2, b0, b1, b2, HH⟩ hb; clear hb)
        | (go_at_call 17; refine (ntake_good a HMA.out.symm pa HPA.out mx _ (kcell HH.out.2.1 HM0.out) HH.out.1).mono ?_; rintro e wx ⟨rfl, hb⟩; obtain ⟨a0, a1, a2, b0, b1, b2, HH⟩ := nbS_keep (A := A) (B := B) (a := a) (b := b) (w0 := w0) ⟨a0, a1, a2, b0, b1, b2, HH⟩ hb; clear hb)
        | fail)
      obtain ⟨X, hX⟩ : ∃ X, X = wx.heap.size := ⟨_, rfl⟩
      obtain ⟨wd, hwd⟩ : ∃ wd, wd = wx.alloc (.cells #[.int .i64 a.kind, .int .i64 a.lo, .int .i64 a.hi] 28) := ⟨_, rfl⟩
      have hxd : wd.heap[X]? = some (.cells #[.int .i64 a.kind, .int .i64 a.lo, .int .i64 a.hi] 28 (0, 0)) := by rw [hwd, hX]; exact heap_alloc_new _ _
      have hbd : Below wx.heap.size wx wd := by rw [hwd]; exact (Below.refl _ _).alloc (Nat.le_refl _) _
      have hzd : X < wd.heap.size := by rw [hwd, hX]; simp
      rw [← hX, ← hwd]
      have HXD := Lib.hid hxd
      have HZD := Lib.hid hzd
      obtain ⟨a0, a1, a2, b0, b1, b2, HH⟩ := nbS_keep (A := A) (B := B) (a := a) (b := b) (w0 := w0) ⟨a0, a1, a2, b0, b1, b2, HH⟩ hbd
      clear hX hwd hxd hbd hzd
      go_upto_region 7 with (first
        | (go_at_call 15; refine (nfile_any b k HKI.out f HF.out _ HH.out.1).mono ?_; rintro e wf ⟨rfl, hb⟩; obtain ⟨a0, a1, a2, b0, b1, b2, HH⟩ := nbS_keep (A := A) (B := B) (a := a) (b := b) (w0 := w0) ⟨a0, a1, a2, b0, b1, b2, HH⟩ hb; have HXF := Lib.hid ((hb.block _ HZD.out).trans HXD.out); have HZF := Lib.hid (Nat.lt_of_lt_of_le HZD.out hb.size); clear hb)
        | (go_at_call 18; refine (ntf_good b k HMB.out.symm HK0.out HK4.out f HF.out mx _ (kcell HH.out.2.1 HM0.out) HH.out.1).mono ?_; rintro e wg ⟨rfl, hb⟩; obtain ⟨a0, a1, a2, b0, b1, b2, HH⟩ := nbS_keep (A := A) (B := B) (a := a) (b := b) (w0 := w0) ⟨a0, a1, a2, b0, b1, b2, HH⟩ hb; have HXG := Lib.hid ((hb.block _ HZF.out).trans HXF.out); have HZG := Lib.hid (Nat.lt_of_lt_of_le HZF.out hb.size); clear hb)
        | fail)
      obtain ⟨Y, hY⟩ : ∃ Y, Y = wg.heap.size := ⟨_, rfl⟩
      obtain ⟨we, hwe⟩ : ∃ we, we = wg.alloc (.cells #[.int .i64 b.kind, .int .i64 b.lo, .int .i64 b.hi] 28) := ⟨_, rfl⟩
      have hye : we.heap[Y]? = some (.cells #[.int .i64 b.kind, .int .i64 b.lo, .int .i64 b.hi] 28 (0, 0)) := by rw [hwe, hY]; exact heap_alloc_new _ _
      have hbe : Below wg.heap.size wg we := by rw [hwe]; exact (Below.refl _ _).alloc (Nat.le_refl _) _
      rw [← hY, ← hwe]
      have HXE := Lib.hid ((hbe.block _ HZG.out).trans HXG.out)
      have HYE := Lib.hid hye
      obtain ⟨a0, a1, a2, b0, b1, b2, HH⟩ := nbS_keep (A := A) (B := B) (a := a) (b := b) (w0 := w0) ⟨a0, a1, a2, b0, b1, b2, HH⟩ hbe
      have HE := Lib.hid HH.out
      have hN : NbS A B a b we we := ⟨a0, a1, a2, b0, b1, b2, Lib.hid ⟨HH.out.1, Below.refl _ _, Nat.le_refl _⟩⟩
      have HN := Lib.hid hN
      clear hY hwe hye hbe hN a0 a1 a2 b0 b1 b2 HH
      go_cut [14] from 61 to 69 (fun v wv => v = .bool true ∧ NbS A B a b we wv)
      case first =>
        have hHeld := nbS_keep HN.out (Below.refl _ we).drew
        by_cases hab : a = b
        · subst hab
          obtain rfl : pa = pb := HPA.out.trans HPB.out.symm
          refine wp_region_held_drew (S := (fun w' => NbS A B a a we w')) (by kernel_rfl) ?_ (fun hHeld => ?_)
          · ((try dsimp only); (first | exact hHeld | exact nbS_keep hHeld hb))
          (refine wpAnyH_take (i := 0) (oi := ⟨_, _, _, _, _, _⟩) (v := ?_) rfl (by kernel_rfl) (by kernel_rfl) (by kernel_rfl) (fun _ _ _ h => h) (Or.inl ⟨by rfl, ?_⟩) (by assumption) ?_; rotate_left; · (intro w hSw; (try dsimp only at hSw); go_simp; try with_reducible rfl)); (try simp only [Act.put]); (try simp only [List.setIfInBounds_toArray]); (try simp only [List.set_cons_succ]); (try simp only [List.set_cons_zero])
          (refine wpAnyH_take (i := 2) (oi := ⟨_, _, _, _, _, _⟩) (v := ?_) rfl (by kernel_rfl) (by kernel_rfl) (by kernel_rfl) (fun _ _ _ h => h) (Or.inl ⟨by rfl, ?_⟩) (by assumption) ?_; rotate_left; · (intro w hSw; (try dsimp only at hSw); go_simp; try with_reducible rfl)); (try simp only [Act.put]); (try simp only [List.setIfInBounds_toArray]); (try simp only [List.set_cons_succ]); (try simp only [List.set_cons_zero])
          (refine wpAnyH_take (i := 5) (oi := ⟨_, _, _, _, _, _⟩) (v := ?_) rfl (by kernel_rfl) (by kernel_rfl) (by kernel_rfl) (fun _ _ _ h => h) (Or.inl ⟨by rfl, ?_⟩) (by assumption) ?_; rotate_left; · (intro w hSw; (try dsimp only at hSw); go_simp; try with_reducible rfl)); (try simp only [Act.put]); (try simp only [List.setIfInBounds_toArray]); (try simp only [List.set_cons_succ]); (try simp only [List.set_cons_zero])
          (refine wpAnyH_take (i := 6) (oi := ⟨_, _, _, _, _, _⟩) (v := ?_) rfl (by kernel_rfl) (by kernel_rfl) (by kernel_rfl) (fun _ _ _ h => h) (Or.inl ⟨by rfl, ?_⟩) (by assumption) ?_; rotate_left; · (intro w hSw; (try dsimp only at hSw); go_simp; try with_reducible rfl)); (try simp only [Act.put]); (try simp only [List.setIfInBounds_toArray]); (try simp only [List.set_cons_succ]); (try simp only [List.set_cons_zero])
          (refine wpAnyH_take (i := 7) (oi := ⟨_, _, _, _, _, _⟩) (v := ?_) rfl (by kernel_rfl) (by kernel_rfl) (by kernel_rfl) (fun _ _ _ h => h) (Or.inl ⟨by rfl, ?_⟩) (by assumption) ?_; rotate_left; · (intro w hSw; (try dsimp only at hSw); go_simp; try with_reducible rfl)); (try simp only [Act.put]); (try simp only [List.setIfInBounds_toArray]); (try simp only [List.set_cons_succ]); (try simp only [List.set_cons_zero])
          refine wpAnyH_ready (rs := [1]) (by kernel_rfl) (by simp) ?_
          refine AllReadyH.cons (o := ⟨_, _, _, _, _, _⟩) rfl (fun K hK => ?_) ?_
          · (go_simp; ((go_at_call 13; refine (nput_any _ _ rfl _ hHeld.2.2.2.2.2.2.out.1).mono ?_; rintro e w2 ⟨rfl, hb⟩; (first | rw [← HPA.out] | rw [← HPB.out]))))
            refine hK.out _ _ ?_ (fun hHeld => ?_)
            · ((try dsimp only); (first | exact hHeld | exact nbS_keep hHeld hb))
            clear hK K; (try simp only [Act.put]); (try simp only [List.setIfInBounds_toArray]); (try simp only [List.set_cons_succ]); (try simp only [List.set_cons_zero])
            refine wpAnyH_ready (rs := [3]) (by kernel_rfl) (by simp) ?_
            refine AllReadyH.cons (o := ⟨_, _, _, _, _, _⟩) rfl (fun K hK => ?_) ?_
            · (go_simp; ((go_at_call 13; refine (nput_any _ _ rfl _ hHeld.2.2.2.2.2.2.out.1).mono ?_; rintro e w2 ⟨rfl, hb⟩; (first | rw [← HPA.out] | rw [← HPB.out]))))
              refine hK.out _ _ ?_ (fun hHeld => ?_)
              · ((try dsimp only); (first | exact hHeld | exact nbS_keep hHeld hb))
              clear hK K; (try simp only [Act.put]); (try simp only [List.setIfInBounds_toArray]); (try simp only [List.set_cons_succ]); (try simp only [List.set_cons_zero])
              (refine wpAnyH_take (i := 4) (oi := ⟨_, _, _, _, _, _⟩) (v := ?_) rfl (by kernel_rfl) (by kernel_rfl) (by kernel_rfl) (fun _ _ _ h => h) (Or.inl ⟨by rfl, ?_⟩) (by assumption) ?_; rotate_left; · (intro w hSw; (try dsimp only at hSw); go_simp; try with_reducible rfl)); (try simp only [Act.put]); (try simp only [List.setIfInBounds_toArray]); (try simp only [List.set_cons_succ]); (try simp only [List.set_cons_zero])
              (refine wpAnyH_take (i := 8) (oi := ⟨_, _, _, _, _, _⟩) (v := ?_) rfl (by kernel_rfl) (by kernel_rfl) (by kernel_rfl) (fun _ _ _ h => h) (Or.inl ⟨by rfl, ?_⟩) (by assumption) ?_; rotate_left; · (intro w hSw; (try dsimp only at hSw); go_simp; try with_reducible rfl)); (try simp only [Act.put]); (try simp only [List.setIfInBounds_toArray]); (try simp only [List.set_cons_succ]); (try simp only [List.set_cons_zero])
              (refine wpAnyH_take (i := 9) (oi := ⟨_, _, _, _, _, _⟩) (v := ?_) rfl (by kernel_rfl) (by kernel_rfl) (by kernel_rfl) (fun _ _ _ h => h) (Or.inl ⟨by rfl, ?_⟩) (by assumption) ?_; rotate_left; · (intro w hSw; (try dsimp only at hSw); go_simp; try with_reducible rfl)); (try simp only [Act.put]); (try simp only [List.setIfInBounds_toArray]); (try simp only [List.set_cons_succ]); (try simp only [List.set_cons_zero])
              refine wpAnyH_done (by kernel_rfl) ?_ _
              go_wp2_with fail
              go_meet
              exact ⟨rfl, hHeld⟩
            exact AllReadyH.nil
          exact AllReadyH.nil
        · have hpq : pa ≠ pb := fun h => hab (nput_inj HMA.out.symm HMB.out.symm (HPA.out.symm.trans (h.trans HPB.out)))
          have t0 : (pa == pb) = false := by simpa using hpq
          have HAB := Lib.hid hab
          clear hpq hab
          by_cases p1 : a.kind = b.kind
          · by_cases p2 : a.lo = b.lo
            · have p3 : ¬ a.hi = b.hi := fun h => HAB.out (by cases a; cases b; simp only at p1 p2 h; rw [p1, p2, h])
              have t1 := beq_yes p1
              have t2 := beq_yes p2
              have t3 := beq_no p3
              clear p1 p2 p3
              refine wp_region_held_drew (S := (fun w' => NbS A B a b we w')) (by kernel_rfl) ?_ (fun hHeld => ?_)
              · ((try dsimp only); (first | exact hHeld | exact nbS_keep hHeld hb))
              (refine wpAnyH_take (i := 0) (oi := ⟨_, _, _, _, _, _⟩) (v := ?_) rfl (by kernel_rfl) (by kernel_rfl) (by kernel_rfl) (fun _ _ _ h => h) (Or.inl ⟨by rfl, ?_⟩) (by assumption) ?_; rotate_left; · (intro w hSw; (try dsimp only at hSw); go_simp; try with_reducible rfl)); (try simp only [Act.put]); (try simp only [List.setIfInBounds_toArray]); (try simp only [List.set_cons_succ]); (try simp only [List.set_cons_zero])
              (refine wpAnyH_take (i := 2) (oi := ⟨_, _, _, _, _, _⟩) (v := ?_) rfl (by kernel_rfl) (by kernel_rfl) (by kernel_rfl) (fun _ _ _ h => h) (Or.inl ⟨by rfl, ?_⟩) (by assumption) ?_; rotate_left; · (intro w hSw; (try dsimp only at hSw); go_simp; try with_reducible rfl)); (try simp only [Act.put]); (try simp only [List.setIfInBounds_toArray]); (try simp only [List.set_cons_succ]); (try simp only [List.set_cons_zero])
              (refine wpAnyH_take (i := 5) (oi := ⟨_, _, _, _, _, _⟩) (v := ?_) rfl (by kernel_rfl) (by kernel_rfl) (by kernel_rfl) (fun _ _ _ h => h) (Or.inl ⟨by rfl, ?_⟩) (by assumption) ?_; rotate_left; · (intro w hSw; (try dsimp only at hSw); go_simp; try with_reducible rfl)); (try simp only [Act.put]); (try simp only [List.setIfInBounds_toArray]); (try simp only [List.set_cons_succ]); (try simp only [List.set_cons_zero])
              (refine wpAnyH_take (i := 6) (oi := ⟨_, _, _, _, _, _⟩) (v := ?_) rfl (by kernel_rfl) (by kernel_rfl) (by kernel_rfl) (fun _ _ _ h => h) (Or.inl ⟨by rfl, ?_⟩) (by assumption) ?_; rotate_left; · (intro w hSw; (try dsimp only at hSw); go_simp; try with_reducible rfl)); (try simp only [Act.put]); (try simp only [List.setIfInBounds_toArray]); (try simp only [List.set_cons_succ]); (try simp only [List.set_cons_zero])
              (refine wpAnyH_take (i := 7) (oi := ⟨_, _, _, _, _, _⟩) (v := ?_) rfl (by kernel_rfl) (by kernel_rfl) (by kernel_rfl) (fun _ _ _ h => h) (Or.inl ⟨by rfl, ?_⟩) (by assumption) ?_; rotate_left; · (intro w hSw; (try dsimp only at hSw); go_simp; try with_reducible rfl)); (try simp only [Act.put]); (try simp only [List.setIfInBounds_toArray]); (try simp only [List.set_cons_succ]); (try simp only [List.set_cons_zero])
              refine wpAnyH_ready (rs := [1]) (by kernel_rfl) (by simp) ?_
              refine AllReadyH.cons (o := ⟨_, _, _, _, _, _⟩) rfl (fun K hK => ?_) ?_
              · (go_simp; ((go_at_call 13; refine (nput_any _ _ rfl _ hHeld.2.2.2.2.2.2.out.1).mono ?_; rintro e w2 ⟨rfl, hb⟩; (first | rw [← HPA.out] | rw [← HPB.out]))))
                refine hK.out _ _ ?_ (fun hHeld => ?_)
                · ((try dsimp only); (first | exact hHeld | exact nbS_keep hHeld hb))
                clear hK K; (try simp only [Act.put]); (try simp only [List.setIfInBounds_toArray]); (try simp only [List.set_cons_succ]); (try simp only [List.set_cons_zero])
                refine wpAnyH_ready (rs := [3]) (by kernel_rfl) (by simp) ?_
                refine AllReadyH.cons (o := ⟨_, _, _, _, _, _⟩) rfl (fun K hK => ?_) ?_
                · (go_simp; ((go_at_call 13; refine (nput_any _ _ rfl _ hHeld.2.2.2.2.2.2.out.1).mono ?_; rintro e w2 ⟨rfl, hb⟩; (first | rw [← HPA.out] | rw [← HPB.out]))))
                  refine hK.out _ _ ?_ (fun hHeld => ?_)
                  · ((try dsimp only); (first | exact hHeld | exact nbS_keep hHeld hb))
                  clear hK K; (try simp only [Act.put]); (try simp only [List.setIfInBounds_toArray]); (try simp only [List.set_cons_succ]); (try simp only [List.set_cons_zero])
                  (refine wpAnyH_take (i := 4) (oi := ⟨_, _, _, _, _, _⟩) (v := ?_) rfl (by kernel_rfl) (by kernel_rfl) (by kernel_rfl) (fun _ _ _ h => h) (Or.inl ⟨by rfl, ?_⟩) (by assumption) ?_; rotate_left; · (intro w hSw; (try dsimp only at hSw); go_simp; try with_reducible rfl)); (try simp only [Act.put]); (try simp only [List.setIfInBounds_toArray]); (try simp only [List.set_cons_succ]); (try simp only [List.set_cons_zero])
                  (refine wpAnyH_take (i := 8) (oi := ⟨_, _, _, _, _, _⟩) (v := ?_) rfl (by kernel_rfl) (by kernel_rfl) (by kernel_rfl) (fun _ _ _ h => h) (Or.inl ⟨by rfl, ?_⟩) (by assumption) ?_; rotate_left; · (intro w hSw; (try dsimp only at hSw); go_simp; try with_reducible rfl)); (try simp only [Act.put]); (try simp only [List.setIfInBounds_toArray]); (try simp only [List.set_cons_succ]); (try simp only [List.set_cons_zero])
                  (refine wpAnyH_take (i := 9) (oi := ⟨_, _, _, _, _, _⟩) (v := ?_) rfl (by kernel_rfl) (by kernel_rfl) (by kernel_rfl) (fun _ _ _ h => h) (Or.inl ⟨by rfl, ?_⟩) (by assumption) ?_; rotate_left; · (intro w hSw; (try dsimp only at hSw); go_simp; try with_reducible rfl)); (try simp only [Act.put]); (try simp only [List.setIfInBounds_toArray]); (try simp only [List.set_cons_succ]); (try simp only [List.set_cons_zero])
                  refine wpAnyH_done (by kernel_rfl) ?_ _
                  go_wp2_with fail
                  go_meet
                  exact ⟨rfl, hHeld⟩
                exact AllReadyH.nil
              exact AllReadyH.nil
            · have t1 := beq_yes p1
              have t2 := beq_no p2
              clear p1 p2
              refine wp_region_held_drew (S := (fun w' => NbS A B a b we w')) (by kernel_rfl) ?_ (fun hHeld => ?_)
              · ((try dsimp only); (first | exact hHeld | exact nbS_keep hHeld hb))
              (refine wpAnyH_take (i := 0) (oi := ⟨_, _, _, _, _, _⟩) (v := ?_) rfl (by kernel_rfl) (by kernel_rfl) (by kernel_rfl) (fun _ _ _ h => h) (Or.inl ⟨by rfl, ?_⟩) (by assumption) ?_; rotate_left; · (intro w hSw; (try dsimp only at hSw); go_simp; try with_reducible rfl)); (try simp only [Act.put]); (try simp only [List.setIfInBounds_toArray]); (try simp only [List.set_cons_succ]); (try simp only [List.set_cons_zero])
              (refine wpAnyH_take (i := 2) (oi := ⟨_, _, _, _, _, _⟩) (v := ?_) rfl (by kernel_rfl) (by kernel_rfl) (by kernel_rfl) (fun _ _ _ h => h) (Or.inl ⟨by rfl, ?_⟩) (by assumption) ?_; rotate_left; · (intro w hSw; (try dsimp only at hSw); go_simp; try with_reducible rfl)); (try simp only [Act.put]); (try simp only [List.setIfInBounds_toArray]); (try simp only [List.set_cons_succ]); (try simp only [List.set_cons_zero])
              (refine wpAnyH_take (i := 5) (oi := ⟨_, _, _, _, _, _⟩) (v := ?_) rfl (by kernel_rfl) (by kernel_rfl) (by kernel_rfl) (fun _ _ _ h => h) (Or.inl ⟨by rfl, ?_⟩) (by assumption) ?_; rotate_left; · (intro w hSw; (try dsimp only at hSw); go_simp; try with_reducible rfl)); (try simp only [Act.put]); (try simp only [List.setIfInBounds_toArray]); (try simp only [List.set_cons_succ]); (try simp only [List.set_cons_zero])
              (refine wpAnyH_take (i := 6) (oi := ⟨_, _, _, _, _, _⟩) (v := ?_) rfl (by kernel_rfl) (by kernel_rfl) (by kernel_rfl) (fun _ _ _ h => h) (Or.inl ⟨by rfl, ?_⟩) (by assumption) ?_; rotate_left; · (intro w hSw; (try dsimp only at hSw); go_simp; try with_reducible rfl)); (try simp only [Act.put]); (try simp only [List.setIfInBounds_toArray]); (try simp only [List.set_cons_succ]); (try simp only [List.set_cons_zero])
              (refine wpAnyH_take (i := 7) (oi := ⟨_, _, _, _, _, _⟩) (v := ?_) rfl (by kernel_rfl) (by kernel_rfl) (by kernel_rfl) (fun _ _ _ h => h) (Or.inl ⟨by rfl, ?_⟩) (by assumption) ?_; rotate_left; · (intro w hSw; (try dsimp only at hSw); go_simp; try with_reducible rfl)); (try simp only [Act.put]); (try simp only [List.setIfInBounds_toArray]); (try simp only [List.set_cons_succ]); (try simp only [List.set_cons_zero])
              refine wpAnyH_ready (rs := [1]) (by kernel_rfl) (by simp) ?_
              refine AllReadyH.cons (o := ⟨_, _, _, _, _, _⟩) rfl (fun K hK => ?_) ?_
              · (go_simp; ((go_at_call 13; refine (nput_any _ _ rfl _ hHeld.2.2.2.2.2.2.out.1).mono ?_; rintro e w2 ⟨rfl, hb⟩; (first | rw [← HPA.out] | rw [← HPB.out]))))
                refine hK.out _ _ ?_ (fun hHeld => ?_)
                · ((try dsimp only); (first | exact hHeld | exact nbS_keep hHeld hb))
                clear hK K; (try simp only [Act.put]); (try simp only [List.setIfInBounds_toArray]); (try simp only [List.set_cons_succ]); (try simp only [List.set_cons_zero])
                refine wpAnyH_ready (rs := [3]) (by kernel_rfl) (by simp) ?_
                refine AllReadyH.cons (o := ⟨_, _, _, _, _, _⟩) rfl (fun K hK => ?_) ?_
                · (go_simp; ((go_at_call 13; refine (nput_any _ _ rfl _ hHeld.2.2.2.2.2.2.out.1).mono ?_; rintro e w2 ⟨rfl, hb⟩; (first | rw [← HPA.out] | rw [← HPB.out]))))
                  refine hK.out _ _ ?_ (fun hHeld => ?_)
                  · ((try dsimp only); (first | exact hHeld | exact nbS_keep hHeld hb))
                  clear hK K; (try simp only [Act.put]); (try simp only [List.setIfInBounds_toArray]); (try simp only [List.set_cons_succ]); (try simp only [List.set_cons_zero])
                  (refine wpAnyH_take (i := 4) (oi := ⟨_, _, _, _, _, _⟩) (v := ?_) rfl (by kernel_rfl) (by kernel_rfl) (by kernel_rfl) (fun _ _ _ h => h) (Or.inl ⟨by rfl, ?_⟩) (by assumption) ?_; rotate_left; · (intro w hSw; (try dsimp only at hSw); go_simp; try with_reducible rfl)); (try simp only [Act.put]); (try simp only [List.setIfInBounds_toArray]); (try simp only [List.set_cons_succ]); (try simp only [List.set_cons_zero])
                  (refine wpAnyH_take (i := 8) (oi := ⟨_, _, _, _, _, _⟩) (v := ?_) rfl (by kernel_rfl) (by kernel_rfl) (by kernel_rfl) (fun _ _ _ h => h) (Or.inl ⟨by rfl, ?_⟩) (by assumption) ?_; rotate_left; · (intro w hSw; (try dsimp only at hSw); go_simp; try with_reducible rfl)); (try simp only [Act.put]); (try simp only [List.setIfInBounds_toArray]); (try simp only [List.set_cons_succ]); (try simp only [List.set_cons_zero])
                  (refine wpAnyH_take (i := 9) (oi := ⟨_, _, _, _, _, _⟩) (v := ?_) rfl (by kernel_rfl) (by kernel_rfl) (by kernel_rfl) (fun _ _ _ h => h) (Or.inl ⟨by rfl, ?_⟩) (by assumption) ?_; rotate_left; · (intro w hSw; (try dsimp only at hSw); go_simp; try with_reducible rfl)); (try simp only [Act.put]); (try simp only [List.setIfInBounds_toArray]); (try simp only [List.set_cons_succ]); (try simp only [List.set_cons_zero])
                  refine wpAnyH_done (by kernel_rfl) ?_ _
                  go_wp2_with fail
                  go_meet
                  exact ⟨rfl, hHeld⟩
                exact AllReadyH.nil
              exact AllReadyH.nil
          · have t1 := beq_no p1
            clear p1
            refine wp_region_held_drew (S := (fun w' => NbS A B a b we w')) (by kernel_rfl) ?_ (fun hHeld => ?_)
            · ((try dsimp only); (first | exact hHeld | exact nbS_keep hHeld hb))
            (refine wpAnyH_take (i := 0) (oi := ⟨_, _, _, _, _, _⟩) (v := ?_) rfl (by kernel_rfl) (by kernel_rfl) (by kernel_rfl) (fun _ _ _ h => h) (Or.inl ⟨by rfl, ?_⟩) (by assumption) ?_; rotate_left; · (intro w hSw; (try dsimp only at hSw); go_simp; try with_reducible rfl)); (try simp only [Act.put]); (try simp only [List.setIfInBounds_toArray]); (try simp only [List.set_cons_succ]); (try simp only [List.set_cons_zero])
            (refine wpAnyH_take (i := 2) (oi := ⟨_, _, _, _, _, _⟩) (v := ?_) rfl (by kernel_rfl) (by kernel_rfl) (by kernel_rfl) (fun _ _ _ h => h) (Or.inl ⟨by rfl, ?_⟩) (by assumption) ?_; rotate_left; · (intro w hSw; (try dsimp only at hSw); go_simp; try with_reducible rfl)); (try simp only [Act.put]); (try simp only [List.setIfInBounds_toArray]); (try simp only [List.set_cons_succ]); (try simp only [List.set_cons_zero])
            (refine wpAnyH_take (i := 5) (oi := ⟨_, _, _, _, _, _⟩) (v := ?_) rfl (by kernel_rfl) (by kernel_rfl) (by kernel_rfl) (fun _ _ _ h => h) (Or.inl ⟨by rfl, ?_⟩) (by assumption) ?_; rotate_left; · (intro w hSw; (try dsimp only at hSw); go_simp; try with_reducible rfl)); (try simp only [Act.put]); (try simp only [List.setIfInBounds_toArray]); (try simp only [List.set_cons_succ]); (try simp only [List.set_cons_zero])
            (refine wpAnyH_take (i := 6) (oi := ⟨_, _, _, _, _, _⟩) (v := ?_) rfl (by kernel_rfl) (by kernel_rfl) (by kernel_rfl) (fun _ _ _ h => h) (Or.inl ⟨by rfl, ?_⟩) (by assumption) ?_; rotate_left; · (intro w hSw; (try dsimp only at hSw); go_simp; try with_reducible rfl)); (try simp only [Act.put]); (try simp only [List.setIfInBounds_toArray]); (try simp only [List.set_cons_succ]); (try simp only [List.set_cons_zero])
            (refine wpAnyH_take (i := 7) (oi := ⟨_, _, _, _, _, _⟩) (v := ?_) rfl (by kernel_rfl) (by kernel_rfl) (by kernel_rfl) (fun _ _ _ h => h) (Or.inl ⟨by rfl, ?_⟩) (by assumption) ?_; rotate_left; · (intro w hSw; (try dsimp only at hSw); go_simp; try with_reducible rfl)); (try simp only [Act.put]); (try simp only [List.setIfInBounds_toArray]); (try simp only [List.set_cons_succ]); (try simp only [List.set_cons_zero])
            refine wpAnyH_ready (rs := [1]) (by kernel_rfl) (by simp) ?_
            refine AllReadyH.cons (o := ⟨_, _, _, _, _, _⟩) rfl (fun K hK => ?_) ?_
            · (go_simp; ((go_at_call 13; refine (nput_any _ _ rfl _ hHeld.2.2.2.2.2.2.out.1).mono ?_; rintro e w2 ⟨rfl, hb⟩; (first | rw [← HPA.out] | rw [← HPB.out]))))
              refine hK.out _ _ ?_ (fun hHeld => ?_)
              · ((try dsimp only); (first | exact hHeld | exact nbS_keep hHeld hb))
              clear hK K; (try simp only [Act.put]); (try simp only [List.setIfInBounds_toArray]); (try simp only [List.set_cons_succ]); (try simp only [List.set_cons_zero])
              refine wpAnyH_ready (rs := [3]) (by kernel_rfl) (by simp) ?_
              refine AllReadyH.cons (o := ⟨_, _, _, _, _, _⟩) rfl (fun K hK => ?_) ?_
              · (go_simp; ((go_at_call 13; refine (nput_any _ _ rfl _ hHeld.2.2.2.2.2.2.out.1).mono ?_; rintro e w2 ⟨rfl, hb⟩; (first | rw [← HPA.out] | rw [← HPB.out]))))
                refine hK.out _ _ ?_ (fun hHeld => ?_)
                · ((try dsimp only); (first | exact hHeld | exact nbS_keep hHeld hb))
                clear hK K; (try simp only [Act.put]); (try simp only [List.setIfInBounds_toArray]); (try simp only [List.set_cons_succ]); (try simp only [List.set_cons_zero])
                (refine wpAnyH_take (i := 4) (oi := ⟨_, _, _, _, _, _⟩) (v := ?_) rfl (by kernel_rfl) (by kernel_rfl) (by kernel_rfl) (fun _ _ _ h => h) (Or.inl ⟨by rfl, ?_⟩) (by assumption) ?_; rotate_left; · (intro w hSw; (try dsimp only at hSw); go_simp; try with_reducible rfl)); (try simp only [Act.put]); (try simp only [List.setIfInBounds_toArray]); (try simp only [List.set_cons_succ]); (try simp only [List.set_cons_zero])
                (refine wpAnyH_take (i := 8) (oi := ⟨_, _, _, _, _, _⟩) (v := ?_) rfl (by kernel_rfl) (by kernel_rfl) (by kernel_rfl) (fun _ _ _ h => h) (Or.inl ⟨by rfl, ?_⟩) (by assumption) ?_; rotate_left; · (intro w hSw; (try dsimp only at hSw); go_simp; try with_reducible rfl)); (try simp only [Act.put]); (try simp only [List.setIfInBounds_toArray]); (try simp only [List.set_cons_succ]); (try simp only [List.set_cons_zero])
                (refine wpAnyH_take (i := 9) (oi := ⟨_, _, _, _, _, _⟩) (v := ?_) rfl (by kernel_rfl) (by kernel_rfl) (by kernel_rfl) (fun _ _ _ h => h) (Or.inl ⟨by rfl, ?_⟩) (by assumption) ?_; rotate_left; · (intro w hSw; (try dsimp only at hSw); go_simp; try with_reducible rfl)); (try simp only [Act.put]); (try simp only [List.setIfInBounds_toArray]); (try simp only [List.set_cons_succ]); (try simp only [List.set_cons_zero])
                refine wpAnyH_done (by kernel_rfl) ?_ _
                go_wp2_with fail
                go_meet
                exact ⟨rfl, hHeld⟩
              exact AllReadyH.nil
            exact AllReadyH.nil
      case rest =>
        obtain ⟨rfl, hN⟩ := hcut
        rename World => wv
        have HV := Lib.hid hN
        have a1 := hN.2.1
        have a2 := hN.2.2.1
        have b1 := hN.2.2.2.2.1
        have b2 := hN.2.2.2.2.2.1
        clear hN
        obtain ⟨dl, hdl⟩ : ∃ d, d = dless a b := ⟨_, rfl⟩
        have HDL := Lib.hid hdl
        clear hdl
        refine ‹∀ (a : Act) (w_1 : World), Code.wp _ _ _ a w_1 → _› _ _ ?_
        go_upto_region 8 with fail
        go_cut [15] from 70 to 88 (fun v wx => v = .bool dl ∧ wx = wv)
        case first =>
          by_cases h1 : a.lo < b.lo
          · have s1 : decide (a.lo < b.lo) = true := decide_eq_true h1
            have hd : dl = true := by rw [HDL.out]; unfold dless; rw [s1]; rfl
            clear HDL
            subst hd
            go_wp2_with fail
            go_meet
            exact ⟨rfl, rfl⟩
          · have s1 : decide (a.lo < b.lo) = false := decide_eq_false h1
            by_cases h2 : a.lo = b.lo
            · have s2 := beq_yes h2
              have hd : dl = decide (a.hi < b.hi) := by rw [HDL.out]; unfold dless; rw [s1, decide_eq_true h2]; simp
              clear h1 h2
              by_cases h3 : a.hi < b.hi
              · have s3 : decide (a.hi < b.hi) = true := decide_eq_true h3
                rw [s3] at hd
                clear HDL
                subst hd
                go_wp2_with fail
                go_meet
                exact ⟨rfl, rfl⟩
              · have s3 : decide (a.hi < b.hi) = false := decide_eq_false h3
                rw [s3] at hd
                clear HDL
                subst hd
                go_wp2_with fail
                go_meet
                exact ⟨rfl, rfl⟩
            · have s2 := beq_no h2
              have hd : dl = false := by rw [HDL.out]; unfold dless; rw [s1, decide_eq_false h2]; rfl
              clear h1 h2 HDL
              subst hd
              go_wp2_with fail
              go_meet
              exact ⟨rfl, rfl⟩
        case rest =>
          obtain ⟨rfl, hwc⟩ := hcut
          rw [hwc]
          clear hwc a1 a2 b1 b2
          refine ‹∀ (a : Act) (w_1 : World), Code.wp _ _ _ a w_1 → _› _ _ ?_
          go_upto_region 9 with fail
          go_cut [16] from 89 to 112 (fun v wx => v = .bool true ∧ NbS A B a b wv wx)
          case first =>
            have hN : NbS A B a b wv wv := ⟨HV.out.1, HV.out.2.1, HV.out.2.2.1, HV.out.2.2.2.1, HV.out.2.2.2.2.1, HV.out.2.2.2.2.2.1, Lib.hid ⟨HV.out.2.2.2.2.2.2.out.1, Below.refl _ _, Nat.le_refl _⟩⟩
            have hHeld := nbS_keep hN (Below.refl _ wv).drew
            clear hN
            by_cases p1 : a.kind = b.kind
            · have t1 : (a.kind != b.kind) = false := by rw [bne, beq_yes p1]; rfl
              by_cases p2 : 999999999 < a.hi
              · have t2 : decide (999999999 < a.hi) = true := decide_eq_true p2
                clear p1 p2
                refine wp_region_held_drew (S := (fun w' => NbS A B a b wv w')) (by kernel_rfl) ?_ (fun hHeld => ?_)
                · ((try dsimp only); (first | exact hHeld | exact nbS_keep hHeld hb))
                (refine wpAnyH_take (i := 0) (oi := ⟨_, _, _, _, _, _⟩) (v := ?_) rfl (by kernel_rfl) (by kernel_rfl) (by kernel_rfl) (fun _ _ _ h => h) (Or.inl ⟨by rfl, ?_⟩) (by assumption) ?_; rotate_left; · (intro w hSw; (try dsimp only at hSw); go_simp; try with_reducible rfl)); (try simp only [Act.put]); (try simp only [List.setIfInBounds_toArray]); (try simp only [List.set_cons_succ]); (try simp only [List.set_cons_zero])
                (refine wpAnyH_take (i := 1) (oi := ⟨_, _, _, _, _, _⟩) (v := ?_) rfl (by kernel_rfl) (by kernel_rfl) (by kernel_rfl) (fun _ _ _ h => h) (Or.inl ⟨by rfl, ?_⟩) (by assumption) ?_; rotate_left; · (intro w hSw; (try dsimp only at hSw); go_simp; try with_reducible rfl)); (try simp only [Act.put]); (try simp only [List.setIfInBounds_toArray]); (try simp only [List.set_cons_succ]); (try simp only [List.set_cons_zero])
                (refine wpAnyH_take (i := 2) (oi := ⟨_, _, _, _, _, _⟩) (v := ?_) rfl (by kernel_rfl) (by kernel_rfl) (by kernel_rfl) (fun _ _ _ h => h) (Or.inl ⟨by rfl, ?_⟩) (by assumption) ?_; rotate_left; · (intro w hSw; (try dsimp only at hSw); go_simp; try with_reducible rfl)); (try simp only [Act.put]); (try simp only [List.setIfInBounds_toArray]); (try simp only [List.set_cons_succ]); (try simp only [List.set_cons_zero])
                (refine wpAnyH_take (i := 3) (oi := ⟨_, _, _, _, _, _⟩) (v := ?_) rfl (by kernel_rfl) (by kernel_rfl) (by kernel_rfl) (fun _ _ _ h => h) (Or.inl ⟨by rfl, ?_⟩) (by assumption) ?_; rotate_left; · (intro w hSw; (try dsimp only at hSw); go_simp; try with_reducible rfl)); (try simp only [Act.put]); (try simp only [List.setIfInBounds_toArray]); (try simp only [List.set_cons_succ]); (try simp only [List.set_cons_zero])
                (refine wpAnyH_take (i := 4) (oi := ⟨_, _, _, _, _, _⟩) (v := ?_) rfl (by kernel_rfl) (by kernel_rfl) (by kernel_rfl) (fun _ _ _ h => h) (Or.inl ⟨by rfl, ?_⟩) (by assumption) ?_; rotate_left; · (intro w hSw; (try dsimp only at hSw); go_simp; try with_reducible rfl)); (try simp only [Act.put]); (try simp only [List.setIfInBounds_toArray]); (try simp only [List.set_cons_succ]); (try simp only [List.set_cons_zero])
                (refine wpAnyH_take (i := 5) (oi := ⟨_, _, _, _, _, _⟩) (v := ?_) rfl (by kernel_rfl) (by kernel_rfl) (by kernel_rfl) (fun _ _ _ h => h) (Or.inl ⟨by rfl, ?_⟩) (by assumption) ?_; rotate_left; · (intro w hSw; (try dsimp only at hSw); go_simp; try with_reducible rfl)); (try simp only [Act.put]); (try simp only [List.setIfInBounds_toArray]); (try simp only [List.set_cons_succ]); (try simp only [List.set_cons_zero])
                (refine wpAnyH_take (i := 6) (oi := ⟨_, _, _, _, _, _⟩) (v := ?_) rfl (by kernel_rfl) (by kernel_rfl) (by kernel_rfl) (fun _ _ _ h => h) (Or.inl ⟨by rfl, ?_⟩) (by assumption) ?_; rotate_left; · (intro w hSw; (try dsimp only at hSw); go_simp; try with_reducible rfl)); (try simp only [Act.put]); (try simp only [List.setIfInBounds_toArray]); (try simp only [List.set_cons_succ]); (try simp only [List.set_cons_zero])
                (refine wpAnyH_take (i := 7) (oi := ⟨_, _, _, _, _, _⟩) (v := ?_) rfl (by kernel_rfl) (by kernel_rfl) (by kernel_rfl) (fun _ _ _ h => h) (Or.inl ⟨by rfl, ?_⟩) (by assumption) ?_; rotate_left; · (intro w hSw; (try dsimp only at hSw); go_simp; try with_reducible rfl)); (try simp only [Act.put]); (try simp only [List.setIfInBounds_toArray]); (try simp only [List.set_cons_succ]); (try simp only [List.set_cons_zero])
                (refine wpAnyH_take (i := 8) (oi := ⟨_, _, _, _, _, _⟩) (v := ?_) rfl (by kernel_rfl) (by kernel_rfl) (by kernel_rfl) (fun _ _ _ h => h) (Or.inl ⟨by rfl, ?_⟩) (by assumption) ?_; rotate_left; · (intro w hSw; (try dsimp only at hSw); go_simp; try with_reducible rfl)); (try simp only [Act.put]); (try simp only [List.setIfInBounds_toArray]); (try simp only [List.set_cons_succ]); (try simp only [List.set_cons_zero])
                (refine wpAnyH_take (i := 9) (oi := ⟨_, _, _, _, _, _⟩) (v := ?_) rfl (by kernel_rfl) (by kernel_rfl) (by kernel_rfl) (fun _ _ _ h => h) (Or.inl ⟨by rfl, ?_⟩) (by assumption) ?_; rotate_left; · (intro w hSw; (try dsimp only at hSw); go_simp; try with_reducible rfl)); (try simp only [Act.put]); (try simp only [List.setIfInBounds_toArray]); (try simp only [List.set_cons_succ]); (try simp only [List.set_cons_zero])
                (refine wpAnyH_take (i := 10) (oi := ⟨_, _, _, _, _, _⟩) (v := ?_) rfl (by kernel_rfl) (by kernel_rfl) (by kernel_rfl) (fun _ _ _ h => h) (Or.inl ⟨by rfl, ?_⟩) (by assumption) ?_; rotate_left; · (intro w hSw; (try dsimp only at hSw); go_simp; try with_reducible rfl)); (try simp only [Act.put]); (try simp only [List.setIfInBounds_toArray]); (try simp only [List.set_cons_succ]); (try simp only [List.set_cons_zero])
                (refine wpAnyH_take (i := 11) (oi := ⟨_, _, _, _, _, _⟩) (v := undef) rfl (by kernel_rfl) (by kernel_rfl) (by kernel_rfl) (fun _ _ _ h => h) (Or.inr ⟨by rfl, rfl⟩) (by assumption) ?_); (try simp only [Act.put]); (try simp only [List.setIfInBounds_toArray]); (try simp only [List.set_cons_succ]); (try simp only [List.set_cons_zero])
                (refine wpAnyH_take (i := 12) (oi := ⟨_, _, _, _, _, _⟩) (v := undef) rfl (by kernel_rfl) (by kernel_rfl) (by kernel_rfl) (fun _ _ _ h => h) (Or.inr ⟨by rfl, rfl⟩) (by assumption) ?_); (try simp only [Act.put]); (try simp only [List.setIfInBounds_toArray]); (try simp only [List.set_cons_succ]); (try simp only [List.set_cons_zero])
                (refine wpAnyH_take (i := 13) (oi := ⟨_, _, _, _, _, _⟩) (v := undef) rfl (by kernel_rfl) (by kernel_rfl) (by kernel_rfl) (fun _ _ _ h => h) (Or.inr ⟨by rfl, rfl⟩) (by assumption) ?_); (try simp only [Act.put]); (try simp only [List.setIfInBounds_toArray]); (try simp only [List.set_cons_succ]); (try simp only [List.set_cons_zero])
                (refine wpAnyH_take (i := 14) (oi := ⟨_, _, _, _, _, _⟩) (v := ?_) rfl (by kernel_rfl) (by kernel_rfl) (by kernel_rfl) (fun _ _ _ h => h) (Or.inl ⟨by rfl, ?_⟩) (by assumption) ?_; rotate_left; · (intro w hSw; (try dsimp only at hSw); go_simp; try with_reducible rfl)); (try simp only [Act.put]); (try simp only [List.setIfInBounds_toArray]); (try simp only [List.set_cons_succ]); (try simp only [List.set_cons_zero])
                (refine wpAnyH_take (i := 15) (oi := ⟨_, _, _, _, _, _⟩) (v := ?_) rfl (by kernel_rfl) (by kernel_rfl) (by kernel_rfl) (fun _ _ _ h => h) (Or.inl ⟨by rfl, ?_⟩) (by assumption) ?_; rotate_left; · (intro w hSw; (try dsimp only at hSw); go_simp; try with_reducible rfl)); (try simp only [Act.put]); (try simp only [List.setIfInBounds_toArray]); (try simp only [List.set_cons_succ]); (try simp only [List.set_cons_zero])
                (refine wpAnyH_take (i := 16) (oi := ⟨_, _, _, _, _, _⟩) (v := undef) rfl (by kernel_rfl) (by kernel_rfl) (by kernel_rfl) (fun _ _ _ h => h) (Or.inr ⟨by rfl, rfl⟩) (by assumption) ?_); (try simp only [Act.put]); (try simp only [List.setIfInBounds_toArray]); (try simp only [List.set_cons_succ]); (try simp only [List.set_cons_zero])
                (refine wpAnyH_take (i := 18) (oi := ⟨_, _, _, _, _, _⟩) (v := undef) rfl (by kernel_rfl) (by kernel_rfl) (by kernel_rfl) (fun _ _ _ h => h) (Or.inr ⟨by rfl, rfl⟩) (by assumption) ?_); (try simp only [Act.put]); (try simp only [List.setIfInBounds_toArray]); (try simp only [List.set_cons_succ]); (try simp only [List.set_cons_zero])
                (refine wpAnyH_take (i := 21) (oi := ⟨_, _, _, _, _, _⟩) (v := undef) rfl (by kernel_rfl) (by kernel_rfl) (by kernel_rfl) (fun _ _ _ h => h) (Or.inr ⟨by rfl, rfl⟩) (by assumption) ?_); (try simp only [Act.put]); (try simp only [List.setIfInBounds_toArray]); (try simp only [List.set_cons_succ]); (try simp only [List.set_cons_zero])
                refine wpAnyH_ready (rs := [17]) (by kernel_rfl) (by simp) ?_
                refine AllReadyH.cons (o := ⟨_, _, _, _, _, _⟩) rfl (fun K hK => ?_) ?_
                · (go_simp; (first | (go_at_call 13; refine (nput_any _ _ rfl _ hHeld.2.2.2.2.2.2.out.1).mono ?_; rintro e w2 ⟨rfl, hb⟩; (first | rw [← HPA.out] | rw [← HPB.out])) | skip))
                  refine hK.out _ _ ?_ (fun hHeld => ?_)
                  · ((try dsimp only); (first | exact hHeld | exact nbS_keep hHeld hb))
                  clear hK K; (try simp only [Act.put]); (try simp only [List.setIfInBounds_toArray]); (try simp only [List.set_cons_succ]); (try simp only [List.set_cons_zero])
                  refine wpAnyH_ready (rs := [19]) (by kernel_rfl) (by simp) ?_
                  refine AllReadyH.cons (o := ⟨_, _, _, _, _, _⟩) rfl (fun K hK => ?_) ?_
                  · (go_simp; (first | (go_at_call 13; refine (nput_any _ _ rfl _ hHeld.2.2.2.2.2.2.out.1).mono ?_; rintro e w2 ⟨rfl, hb⟩; (first | rw [← HPA.out] | rw [← HPB.out])) | skip))
                    refine hK.out _ _ ?_ (fun hHeld => ?_)
                    · ((try dsimp only); (first | exact hHeld | exact nbS_keep hHeld hb))
                    clear hK K; (try simp only [Act.put]); (try simp only [List.setIfInBounds_toArray]); (try simp only [List.set_cons_succ]); (try simp only [List.set_cons_zero])
                    (refine wpAnyH_take (i := 20) (oi := ⟨_, _, _, _, _, _⟩) (v := undef) rfl (by kernel_rfl) (by kernel_rfl) (by kernel_rfl) (fun _ _ _ h => h) (Or.inr ⟨by rfl, rfl⟩) (by assumption) ?_); (try simp only [Act.put]); (try simp only [List.setIfInBounds_toArray]); (try simp only [List.set_cons_succ]); (try simp only [List.set_cons_zero])
                    (refine wpAnyH_take (i := 22) (oi := ⟨_, _, _, _, _, _⟩) (v := undef) rfl (by kernel_rfl) (by kernel_rfl) (by kernel_rfl) (fun _ _ _ h => h) (Or.inr ⟨by rfl, rfl⟩) (by assumption) ?_); (try simp only [Act.put]); (try simp only [List.setIfInBounds_toArray]); (try simp only [List.set_cons_succ]); (try simp only [List.set_cons_zero])
                    (refine wpAnyH_take (i := 23) (oi := ⟨_, _, _, _, _, _⟩) (v := ?_) rfl (by kernel_rfl) (by kernel_rfl) (by kernel_rfl) (fun _ _ _ h => h) (Or.inl ⟨by rfl, ?_⟩) (by assumption) ?_; rotate_left; · (intro w hSw; (try dsimp only at hSw); go_simp; try with_reducible rfl)); (try simp only [Act.put]); (try simp only [List.setIfInBounds_toArray]); (try simp only [List.set_cons_succ]); (try simp only [List.set_cons_zero])
                    (refine wpAnyH_take (i := 24) (oi := ⟨_, _, _, _, _, _⟩) (v := ?_) rfl (by kernel_rfl) (by kernel_rfl) (by kernel_rfl) (fun _ _ _ h => h) (Or.inl ⟨by rfl, ?_⟩) (by assumption) ?_; rotate_left; · (intro w hSw; (try dsimp only at hSw); go_simp; try with_reducible rfl)); (try simp only [Act.put]); (try simp only [List.setIfInBounds_toArray]); (try simp only [List.set_cons_succ]); (try simp only [List.set_cons_zero])
                    refine wpAnyH_done (by kernel_rfl) ?_ _
                    go_wp2_with fail
                    go_meet
                    exact ⟨rfl, hHeld⟩
                  exact AllReadyH.nil
                exact AllReadyH.nil
              · by_cases p3 : 999999999 < b.hi
                · have t2 : decide (999999999 < a.hi) = false := decide_eq_false p2
                  have t3 : decide (999999999 < b.hi) = true := decide_eq_true p3
                  clear p1 p2 p3
                  refine wp_region_held_drew (S := (fun w' => NbS A B a b wv w')) (by kernel_rfl) ?_ (fun hHeld => ?_)
                  · ((try dsimp only); (first | exact hHeld | exact nbS_keep hHeld hb))
                  (refine wpAnyH_take (i := 0) (oi := ⟨_, _, _, _, _, _⟩) (v := ?_) rfl (by kernel_rfl) (by kernel_rfl) (by kernel_rfl) (fun _ _ _ h => h) (Or.inl ⟨by rfl, ?_⟩) (by assumption) ?_; rotate_left; · (intro w hSw; (try dsimp only at hSw); go_simp; try with_reducible rfl)); (try simp only [Act.put]); (try simp only [List.setIfInBounds_toArray]); (try simp only [List.set_cons_succ]); (try simp only [List.set_cons_zero])
                  (refine wpAnyH_take (i := 1) (oi := ⟨_, _, _, _, _, _⟩) (v := ?_) rfl (by kernel_rfl) (by kernel_rfl) (by kernel_rfl) (fun _ _ _ h => h) (Or.inl ⟨by rfl, ?_⟩) (by assumption) ?_; rotate_left; · (intro w hSw; (try dsimp only at hSw); go_simp; try with_reducible rfl)); (try simp only [Act.put]); (try simp only [List.setIfInBounds_toArray]); (try simp only [List.set_cons_succ]); (try simp only [List.set_cons_zero])
                  (refine wpAnyH_take (i := 2) (oi := ⟨_, _, _, _, _, _⟩) (v := ?_) rfl (by kernel_rfl) (by kernel_rfl) (by kernel_rfl) (fun _ _ _ h => h) (Or.inl ⟨by rfl, ?_⟩) (by assumption) ?_; rotate_left; · (intro w hSw; (try dsimp only at hSw); go_simp; try with_reducible rfl)); (try simp only [Act.put]); (try simp only [List.setIfInBounds_toArray]); (try simp only [List.set_cons_succ]); (try simp only [List.set_cons_zero])
                  (refine wpAnyH_take (i := 3) (oi := ⟨_, _, _, _, _, _⟩) (v := ?_) rfl (by kernel_rfl) (by kernel_rfl) (by kernel_rfl) (fun _ _ _ h => h) (Or.inl ⟨by rfl, ?_⟩) (by assumption) ?_; rotate_left; · (intro w hSw; (try dsimp only at hSw); go_simp; try with_reducible rfl)); (try simp only [Act.put]); (try simp only [List.setIfInBounds_toArray]); (try simp only [List.set_cons_succ]); (try simp only [List.set_cons_zero])
                  (refine wpAnyH_take (i := 4) (oi := ⟨_, _, _, _, _, _⟩) (v := ?_) rfl (by kernel_rfl) (by kernel_rfl) (by kernel_rfl) (fun _ _ _ h => h) (Or.inl ⟨by rfl, ?_⟩) (by assumption) ?_; rotate_left; · (intro w hSw; (try dsimp only at hSw); go_simp; try with_reducible rfl)); (try simp only [Act.put]); (try simp only [List.setIfInBounds_toArray]); (try simp only [List.set_cons_succ]); (try simp only [List.set_cons_zero])
                  (refine wpAnyH_take (i := 5) (oi := ⟨_, _, _, _, _, _⟩) (v := ?_) rfl (by kernel_rfl) (by kernel_rfl) (by kernel_rfl) (fun _ _ _ h => h) (Or.inl ⟨by rfl, ?_⟩) (by assumption) ?_; rotate_left; · (intro w hSw; (try dsimp only at hSw); go_simp; try with_reducible rfl)); (try simp only [Act.put]); (try simp only [List.setIfInBounds_toArray]); (try simp only [List.set_cons_succ]); (try simp only [List.set_cons_zero])
                  (refine wpAnyH_take (i := 6) (oi := ⟨_, _, _, _, _, _⟩) (v := ?_) rfl (by kernel_rfl) (by kernel_rfl) (by kernel_rfl) (fun _ _ _ h => h) (Or.inl ⟨by rfl, ?_⟩) (by assumption) ?_; rotate_left; · (intro w hSw; (try dsimp only at hSw); go_simp; try with_reducible rfl)); (try simp only [Act.put]); (try simp only [List.setIfInBounds_toArray]); (try simp only [List.set_cons_succ]); (try simp only [List.set_cons_zero])
                  (refine wpAnyH_take (i := 7) (oi := ⟨_, _, _, _, _, _⟩) (v := ?_) rfl (by kernel_rfl) (by kernel_rfl) (by kernel_rfl) (fun _ _ _ h => h) (Or.inl ⟨by rfl, ?_⟩) (by assumption) ?_; rotate_left; · (intro w hSw; (try dsimp only at hSw); go_simp; try with_reducible rfl)); (try simp only [Act.put]); (try simp only [List.setIfInBounds_toArray]); (try simp only [List.set_cons_succ]); (try simp only [List.set_cons_zero])
                  (refine wpAnyH_take (i := 8) (oi := ⟨_, _, _, _, _, _⟩) (v := ?_) rfl (by kernel_rfl) (by kernel_rfl) (by kernel_rfl) (fun _ _ _ h => h) (Or.inl ⟨by rfl, ?_⟩) (by assumption) ?_; rotate_left; · (intro w hSw; (try dsimp only at hSw); go_simp; try with_reducible rfl)); (try simp only [Act.put]); (try simp only [List.setIfInBounds_toArray]); (try simp only [List.set_cons_succ]); (try simp only [List.set_cons_zero])
                  (refine wpAnyH_take (i := 9) (oi := ⟨_, _, _, _, _, _⟩) (v := ?_) rfl (by kernel_rfl) (by kernel_rfl) (by kernel_rfl) (fun _ _ _ h => h) (Or.inl ⟨by rfl, ?_⟩) (by assumption) ?_; rotate_left; · (intro w hSw; (try dsimp only at hSw); go_simp; try with_reducible rfl)); (try simp only [Act.put]); (try simp only [List.setIfInBounds_toArray]); (try simp only [List.set_cons_succ]); (try simp only [List.set_cons_zero])
                  (refine wpAnyH_take (i := 10) (oi := ⟨_, _, _, _, _, _⟩) (v := ?_) rfl (by kernel_rfl) (by kernel_rfl) (by kernel_rfl) (fun _ _ _ h => h) (Or.inl ⟨by rfl, ?_⟩) (by assumption) ?_; rotate_left; · (intro w hSw; (try dsimp only at hSw); go_simp; try with_reducible rfl)); (try simp only [Act.put]); (try simp only [List.setIfInBounds_toArray]); (try simp only [List.set_cons_succ]); (try simp only [List.set_cons_zero])
                  (refine wpAnyH_take (i := 11) (oi := ⟨_, _, _, _, _, _⟩) (v := ?_) rfl (by kernel_rfl) (by kernel_rfl) (by kernel_rfl) (fun _ _ _ h => h) (Or.inl ⟨by rfl, ?_⟩) (by assumption) ?_; rotate_left; · (intro w hSw; (try dsimp only at hSw); go_simp; try with_reducible rfl)); (try simp only [Act.put]); (try simp only [List.setIfInBounds_toArray]); (try simp only [List.set_cons_succ]); (try simp only [List.set_cons_zero])
                  (refine wpAnyH_take (i := 12) (oi := ⟨_, _, _, _, _, _⟩) (v := ?_) rfl (by kernel_rfl) (by kernel_rfl) (by kernel_rfl) (fun _ _ _ h => h) (Or.inl ⟨by rfl, ?_⟩) (by assumption) ?_; rotate_left; · (intro w hSw; (try dsimp only at hSw); go_simp; try with_reducible rfl)); (try simp only [Act.put]); (try simp only [List.setIfInBounds_toArray]); (try simp only [List.set_cons_succ]); (try simp only [List.set_cons_zero])
                  (refine wpAnyH_take (i := 13) (oi := ⟨_, _, _, _, _, _⟩) (v := ?_) rfl (by kernel_rfl) (by kernel_rfl) (by kernel_rfl) (fun _ _ _ h => h) (Or.inl ⟨by rfl, ?_⟩) (by assumption) ?_; rotate_left; · (intro w hSw; (try dsimp only at hSw); go_simp; try with_reducible rfl)); (try simp only [Act.put]); (try simp only [List.setIfInBounds_toArray]); (try simp only [List.set_cons_succ]); (try simp only [List.set_cons_zero])
                  (refine wpAnyH_take (i := 14) (oi := ⟨_, _, _, _, _, _⟩) (v := ?_) rfl (by kernel_rfl) (by kernel_rfl) (by kernel_rfl) (fun _ _ _ h => h) (Or.inl ⟨by rfl, ?_⟩) (by assumption) ?_; rotate_left; · (intro w hSw; (try dsimp only at hSw); go_simp; try with_reducible rfl)); (try simp only [Act.put]); (try simp only [List.setIfInBounds_toArray]); (try simp only [List.set_cons_succ]); (try simp only [List.set_cons_zero])
                  (refine wpAnyH_take (i := 15) (oi := ⟨_, _, _, _, _, _⟩) (v := ?_) rfl (by kernel_rfl) (by kernel_rfl) (by kernel_rfl) (fun _ _ _ h => h) (Or.inl ⟨by rfl, ?_⟩) (by assumption) ?_; rotate_left; · (intro w hSw; (try dsimp only at hSw); go_simp; try with_reducible rfl)); (try simp only [Act.put]); (try simp only [List.setIfInBounds_toArray]); (try simp only [List.set_cons_succ]); (try simp only [List.set_cons_zero])
                  (refine wpAnyH_take (i := 16) (oi := ⟨_, _, _, _, _, _⟩) (v := undef) rfl (by kernel_rfl) (by kernel_rfl) (by kernel_rfl) (fun _ _ _ h => h) (Or.inr ⟨by rfl, rfl⟩) (by assumption) ?_); (try simp only [Act.put]); (try simp only [List.setIfInBounds_toArray]); (try simp only [List.set_cons_succ]); (try simp only [List.set_cons_zero])
                  (refine wpAnyH_take (i := 18) (oi := ⟨_, _, _, _, _, _⟩) (v := undef) rfl (by kernel_rfl) (by kernel_rfl) (by kernel_rfl) (fun _ _ _ h => h) (Or.inr ⟨by rfl, rfl⟩) (by assumption) ?_); (try simp only [Act.put]); (try simp only [List.setIfInBounds_toArray]); (try simp only [List.set_cons_succ]); (try simp only [List.set_cons_zero])
                  (refine wpAnyH_take (i := 21) (oi := ⟨_, _, _, _, _, _⟩) (v := undef) rfl (by kernel_rfl) (by kernel_rfl) (by kernel_rfl) (fun _ _ _ h => h) (Or.inr ⟨by rfl, rfl⟩) (by assumption) ?_); (try simp only [Act.put]); (try simp only [List.setIfInBounds_toArray]); (try simp only [List.set_cons_succ]); (try simp only [List.set_cons_zero])
                  refine wpAnyH_ready (rs := [17]) (by kernel_rfl) (by simp) ?_
                  refine AllReadyH.cons (o := ⟨_, _, _, _, _, _⟩) rfl (fun K hK => ?_) ?_
                  · (go_simp; (first | (go_at_call 13; refine (nput_any _ _ rfl _ hHeld.2.2.2.2.2.2.out.1).mono ?_; rintro e w2 ⟨rfl, hb⟩; (first | rw [← HPA.out] | rw [← HPB.out])) | skip))
                    refine hK.out _ _ ?_ (fun hHeld => ?_)
                    · ((try dsimp only); (first | exact hHeld | exact nbS_keep hHeld hb))
                    clear hK K; (try simp only [Act.put]); (try simp only [List.setIfInBounds_toArray]); (try simp only [List.set_cons_succ]); (try simp only [List.set_cons_zero])
                    refine wpAnyH_ready (rs := [19]) (by kernel_rfl) (by simp) ?_
                    refine AllReadyH.cons (o := ⟨_, _, _, _, _, _⟩) rfl (fun K hK => ?_) ?_
                    · (go_simp; (first | (go_at_call 13; refine (nput_any _ _ rfl _ hHeld.2.2.2.2.2.2.out.1).mono ?_; rintro e w2 ⟨rfl, hb⟩; (first | rw [← HPA.out] | rw [← HPB.out])) | skip))
                      refine hK.out _ _ ?_ (fun hHeld => ?_)
                      · ((try dsimp only); (first | exact hHeld | exact nbS_keep hHeld hb))
                      clear hK K; (try simp only [Act.put]); (try simp only [List.setIfInBounds_toArray]); (try simp only [List.set_cons_succ]); (try simp only [List.set_cons_zero])
                      (refine wpAnyH_take (i := 20) (oi := ⟨_, _, _, _, _, _⟩) (v := undef) rfl (by kernel_rfl) (by kernel_rfl) (by kernel_rfl) (fun _ _ _ h => h) (Or.inr ⟨by rfl, rfl⟩) (by assumption) ?_); (try simp only [Act.put]); (try simp only [List.setIfInBounds_toArray]); (try simp only [List.set_cons_succ]); (try simp only [List.set_cons_zero])
                      (refine wpAnyH_take (i := 22) (oi := ⟨_, _, _, _, _, _⟩) (v := undef) rfl (by kernel_rfl) (by kernel_rfl) (by kernel_rfl) (fun _ _ _ h => h) (Or.inr ⟨by rfl, rfl⟩) (by assumption) ?_); (try simp only [Act.put]); (try simp only [List.setIfInBounds_toArray]); (try simp only [List.set_cons_succ]); (try simp only [List.set_cons_zero])
                      (refine wpAnyH_take (i := 23) (oi := ⟨_, _, _, _, _, _⟩) (v := ?_) rfl (by kernel_rfl) (by kernel_rfl) (by kernel_rfl) (fun _ _ _ h => h) (Or.inl ⟨by rfl, ?_⟩) (by assumption) ?_; rotate_left; · (intro w hSw; (try dsimp only at hSw); go_simp; try with_reducible rfl)); (try simp only [Act.put]); (try simp only [List.setIfInBounds_toArray]); (try simp only [List.set_cons_succ]); (try simp only [List.set_cons_zero])
                      (refine wpAnyH_take (i := 24) (oi := ⟨_, _, _, _, _, _⟩) (v := ?_) rfl (by kernel_rfl) (by kernel_rfl) (by kernel_rfl) (fun _ _ _ h => h) (Or.inl ⟨by rfl, ?_⟩) (by assumption) ?_; rotate_left; · (intro w hSw; (try dsimp only at hSw); go_simp; try with_reducible rfl)); (try simp only [Act.put]); (try simp only [List.setIfInBounds_toArray]); (try simp only [List.set_cons_succ]); (try simp only [List.set_cons_zero])
                      refine wpAnyH_done (by kernel_rfl) ?_ _
                      go_wp2_with fail
                      go_meet
                      exact ⟨rfl, hHeld⟩
                    exact AllReadyH.nil
                  exact AllReadyH.nil
                · have t2 : decide (999999999 < a.hi) = false := decide_eq_false p2
                  have t3 : decide (999999999 < b.hi) = false := decide_eq_false p3
                  have t4 : Op.bytesLess pa pb = dl := by rw [HPA.out, HPB.out, HDL.out]; exact nput_less HMA.out.symm HMB.out.symm p1 (by omega) (by omega)
                  clear p1 p2 p3
                  refine wp_region_held_drew (S := (fun w' => NbS A B a b wv w')) (by kernel_rfl) ?_ (fun hHeld => ?_)
                  · ((try dsimp only); (first | exact hHeld | exact nbS_keep hHeld hb))
                  (refine wpAnyH_take (i := 0) (oi := ⟨_, _, _, _, _, _⟩) (v := ?_) rfl (by kernel_rfl) (by kernel_rfl) (by kernel_rfl) (fun _ _ _ h => h) (Or.inl ⟨by rfl, ?_⟩) (by assumption) ?_; rotate_left; · (intro w hSw; (try dsimp only at hSw); go_simp; try with_reducible rfl)); (try simp only [Act.put]); (try simp only [List.setIfInBounds_toArray]); (try simp only [List.set_cons_succ]); (try simp only [List.set_cons_zero])
                  (refine wpAnyH_take (i := 1) (oi := ⟨_, _, _, _, _, _⟩) (v := ?_) rfl (by kernel_rfl) (by kernel_rfl) (by kernel_rfl) (fun _ _ _ h => h) (Or.inl ⟨by rfl, ?_⟩) (by assumption) ?_; rotate_left; · (intro w hSw; (try dsimp only at hSw); go_simp; try with_reducible rfl)); (try simp only [Act.put]); (try simp only [List.setIfInBounds_toArray]); (try simp only [List.set_cons_succ]); (try simp only [List.set_cons_zero])
                  (refine wpAnyH_take (i := 2) (oi := ⟨_, _, _, _, _, _⟩) (v := ?_) rfl (by kernel_rfl) (by kernel_rfl) (by kernel_rfl) (fun _ _ _ h => h) (Or.inl ⟨by rfl, ?_⟩) (by assumption) ?_; rotate_left; · (intro w hSw; (try dsimp only at hSw); go_simp; try with_reducible rfl)); (try simp only [Act.put]); (try simp only [List.setIfInBounds_toArray]); (try simp only [List.set_cons_succ]); (try simp only [List.set_cons_zero])
                  (refine wpAnyH_take (i := 3) (oi := ⟨_, _, _, _, _, _⟩) (v := ?_) rfl (by kernel_rfl) (by kernel_rfl) (by kernel_rfl) (fun _ _ _ h => h) (Or.inl ⟨by rfl, ?_⟩) (by assumption) ?_; rotate_left; · (intro w hSw; (try dsimp only at hSw); go_simp; try with_reducible rfl)); (try simp only [Act.put]); (try simp only [List.setIfInBounds_toArray]); (try simp only [List.set_cons_succ]); (try simp only [List.set_cons_zero])
                  (refine wpAnyH_take (i := 4) (oi := ⟨_, _, _, _, _, _⟩) (v := ?_) rfl (by kernel_rfl) (by kernel_rfl) (by kernel_rfl) (fun _ _ _ h => h) (Or.inl ⟨by rfl, ?_⟩) (by assumption) ?_; rotate_left; · (intro w hSw; (try dsimp only at hSw); go_simp; try with_reducible rfl)); (try simp only [Act.put]); (try simp only [List.setIfInBounds_toArray]); (try simp only [List.set_cons_succ]); (try simp only [List.set_cons_zero])
                  (refine wpAnyH_take (i := 5) (oi := ⟨_, _, _, _, _, _⟩) (v := ?_) rfl (by kernel_rfl) (by kernel_rfl) (by kernel_rfl) (fun _ _ _ h => h) (Or.inl ⟨by rfl, ?_⟩) (by assumption) ?_; rotate_left; · (intro w hSw; (try dsimp only at hSw); go_simp; try with_reducible rfl)); (try simp only [Act.put]); (try simp only [List.setIfInBounds_toArray]); (try simp only [List.set_cons_succ]); (try simp only [List.set_cons_zero])
                  (refine wpAnyH_take (i := 6) (oi := ⟨_, _, _, _, _, _⟩) (v := ?_) rfl (by kernel_rfl) (by kernel_rfl) (by kernel_rfl) (fun _ _ _ h => h) (Or.inl ⟨by rfl, ?_⟩) (by assumption) ?_; rotate_left; · (intro w hSw; (try dsimp only at hSw); go_simp; try with_reducible rfl)); (try simp only [Act.put]); (try simp only [List.setIfInBounds_toArray]); (try simp only [List.set_cons_succ]); (try simp only [List.set_cons_zero])
                  (refine wpAnyH_take (i := 7) (oi := ⟨_, _, _, _, _, _⟩) (v := ?_) rfl (by kernel_rfl) (by kernel_rfl) (by kernel_rfl) (fun _ _ _ h => h) (Or.inl ⟨by rfl, ?_⟩) (by assumption) ?_; rotate_left; · (intro w hSw; (try dsimp only at hSw); go_simp; try with_reducible rfl)); (try simp only [Act.put]); (try simp only [List.setIfInBounds_toArray]); (try simp only [List.set_cons_succ]); (try simp only [List.set_cons_zero])
                  (refine wpAnyH_take (i := 8) (oi := ⟨_, _, _, _, _, _⟩) (v := ?_) rfl (by kernel_rfl) (by kernel_rfl) (by kernel_rfl) (fun _ _ _ h => h) (Or.inl ⟨by rfl, ?_⟩) (by assumption) ?_; rotate_left; · (intro w hSw; (try dsimp only at hSw); go_simp; try with_reducible rfl)); (try simp only [Act.put]); (try simp only [List.setIfInBounds_toArray]); (try simp only [List.set_cons_succ]); (try simp only [List.set_cons_zero])
                  (refine wpAnyH_take (i := 9) (oi := ⟨_, _, _, _, _, _⟩) (v := ?_) rfl (by kernel_rfl) (by kernel_rfl) (by kernel_rfl) (fun _ _ _ h => h) (Or.inl ⟨by rfl, ?_⟩) (by assumption) ?_; rotate_left; · (intro w hSw; (try dsimp only at hSw); go_simp; try with_reducible rfl)); (try simp only [Act.put]); (try simp only [List.setIfInBounds_toArray]); (try simp only [List.set_cons_succ]); (try simp only [List.set_cons_zero])
                  (refine wpAnyH_take (i := 10) (oi := ⟨_, _, _, _, _, _⟩) (v := ?_) rfl (by kernel_rfl) (by kernel_rfl) (by kernel_rfl) (fun _ _ _ h => h) (Or.inl ⟨by rfl, ?_⟩) (by assumption) ?_; rotate_left; · (intro w hSw; (try dsimp only at hSw); go_simp; try with_reducible rfl)); (try simp only [Act.put]); (try simp only [List.setIfInBounds_toArray]); (try simp only [List.set_cons_succ]); (try simp only [List.set_cons_zero])
                  (refine wpAnyH_take (i := 11) (oi := ⟨_, _, _, _, _, _⟩) (v := ?_) rfl (by kernel_rfl) (by kernel_rfl) (by kernel_rfl) (fun _ _ _ h => h) (Or.inl ⟨by rfl, ?_⟩) (by assumption) ?_; rotate_left; · (intro w hSw; (try dsimp only at hSw); go_simp; try with_reducible rfl)); (try simp only [Act.put]); (try simp only [List.setIfInBounds_toArray]); (try simp only [List.set_cons_succ]); (try simp only [List.set_cons_zero])
                  (refine wpAnyH_take (i := 12) (oi := ⟨_, _, _, _, _, _⟩) (v := ?_) rfl (by kernel_rfl) (by kernel_rfl) (by kernel_rfl) (fun _ _ _ h => h) (Or.inl ⟨by rfl, ?_⟩) (by assumption) ?_; rotate_left; · (intro w hSw; (try dsimp only at hSw); go_simp; try with_reducible rfl)); (try simp only [Act.put]); (try simp only [List.setIfInBounds_toArray]); (try simp only [List.set_cons_succ]); (try simp only [List.set_cons_zero])
                  (refine wpAnyH_take (i := 13) (oi := ⟨_, _, _, _, _, _⟩) (v := ?_) rfl (by kernel_rfl) (by kernel_rfl) (by kernel_rfl) (fun _ _ _ h => h) (Or.inl ⟨by rfl, ?_⟩) (by assumption) ?_; rotate_left; · (intro w hSw; (try dsimp only at hSw); go_simp; try with_reducible rfl)); (try simp only [Act.put]); (try simp only [List.setIfInBounds_toArray]); (try simp only [List.set_cons_succ]); (try simp only [List.set_cons_zero])
                  (refine wpAnyH_take (i := 14) (oi := ⟨_, _, _, _, _, _⟩) (v := ?_) rfl (by kernel_rfl) (by kernel_rfl) (by kernel_rfl) (fun _ _ _ h => h) (Or.inl ⟨by rfl, ?_⟩) (by assumption) ?_; rotate_left; · (intro w hSw; (try dsimp only at hSw); go_simp; try with_reducible rfl)); (try simp only [Act.put]); (try simp only [List.setIfInBounds_toArray]); (try simp only [List.set_cons_succ]); (try simp only [List.set_cons_zero])
                  (refine wpAnyH_take (i := 15) (oi := ⟨_, _, _, _, _, _⟩) (v := ?_) rfl (by kernel_rfl) (by kernel_rfl) (by kernel_rfl) (fun _ _ _ h => h) (Or.inl ⟨by rfl, ?_⟩) (by assumption) ?_; rotate_left; · (intro w hSw; (try dsimp only at hSw); go_simp; try with_reducible rfl)); (try simp only [Act.put]); (try simp only [List.setIfInBounds_toArray]); (try simp only [List.set_cons_succ]); (try simp only [List.set_cons_zero])
                  (refine wpAnyH_take (i := 16) (oi := ⟨_, _, _, _, _, _⟩) (v := ?_) rfl (by kernel_rfl) (by kernel_rfl) (by kernel_rfl) (fun _ _ _ h => h) (Or.inl ⟨by rfl, ?_⟩) (by assumption) ?_; rotate_left; · (intro w hSw; (try dsimp only at hSw); go_simp; try with_reducible rfl)); (try simp only [Act.put]); (try simp only [List.setIfInBounds_toArray]); (try simp only [List.set_cons_succ]); (try simp only [List.set_cons_zero])
                  (refine wpAnyH_take (i := 18) (oi := ⟨_, _, _, _, _, _⟩) (v := ?_) rfl (by kernel_rfl) (by kernel_rfl) (by kernel_rfl) (fun _ _ _ h => h) (Or.inl ⟨by rfl, ?_⟩) (by assumption) ?_; rotate_left; · (intro w hSw; (try dsimp only at hSw); go_simp; try with_reducible rfl)); (try simp only [Act.put]); (try simp only [List.setIfInBounds_toArray]); (try simp only [List.set_cons_succ]); (try simp only [List.set_cons_zero])
                  (refine wpAnyH_take (i := 21) (oi := ⟨_, _, _, _, _, _⟩) (v := ?_) rfl (by kernel_rfl) (by kernel_rfl) (by kernel_rfl) (fun _ _ _ h => h) (Or.inl ⟨by rfl, ?_⟩) (by assumption) ?_; rotate_left; · (intro w hSw; (try dsimp only at hSw); go_simp; try with_reducible rfl)); (try simp only [Act.put]); (try simp only [List.setIfInBounds_toArray]); (try simp only [List.set_cons_succ]); (try simp only [List.set_cons_zero])
                  refine wpAnyH_ready (rs := [17]) (by kernel_rfl) (by simp) ?_
                  refine AllReadyH.cons (o := ⟨_, _, _, _, _, _⟩) rfl (fun K hK => ?_) ?_
                  · (go_simp; (first | (go_at_call 13; refine (nput_any _ _ rfl _ hHeld.2.2.2.2.2.2.out.1).mono ?_; rintro e w2 ⟨rfl, hb⟩; (first | rw [← HPA.out] | rw [← HPB.out])) | skip))
                    refine hK.out _ _ ?_ (fun hHeld => ?_)
                    · ((try dsimp only); (first | exact hHeld | exact nbS_keep hHeld hb))
                    clear hK K; (try simp only [Act.put]); (try simp only [List.setIfInBounds_toArray]); (try simp only [List.set_cons_succ]); (try simp only [List.set_cons_zero])
                    refine wpAnyH_ready (rs := [19]) (by kernel_rfl) (by simp) ?_
                    refine AllReadyH.cons (o := ⟨_, _, _, _, _, _⟩) rfl (fun K hK => ?_) ?_
                    · (go_simp; (first | (go_at_call 13; refine (nput_any _ _ rfl _ hHeld.2.2.2.2.2.2.out.1).mono ?_; rintro e w2 ⟨rfl, hb⟩; (first | rw [← HPA.out] | rw [← HPB.out])) | skip))
                      refine hK.out _ _ ?_ (fun hHeld => ?_)
                      · ((try dsimp only); (first | exact hHeld | exact nbS_keep hHeld hb))
                      clear hK K; (try simp only [Act.put]); (try simp only [List.setIfInBounds_toArray]); (try simp only [List.set_cons_succ]); (try simp only [List.set_cons_zero])
                      (refine wpAnyH_take (i := 20) (oi := ⟨_, _, _, _, _, _⟩) (v := ?_) rfl (by kernel_rfl) (by kernel_rfl) (by kernel_rfl) (fun _ _ _ h => h) (Or.inl ⟨by rfl, ?_⟩) (by assumption) ?_; rotate_left; · (intro w hSw; (try dsimp only at hSw); go_simp; try with_reducible rfl)); (try simp only [Act.put]); (try simp only [List.setIfInBounds_toArray]); (try simp only [List.set_cons_succ]); (try simp only [List.set_cons_zero])
                      (refine wpAnyH_take (i := 22) (oi := ⟨_, _, _, _, _, _⟩) (v := ?_) rfl (by kernel_rfl) (by kernel_rfl) (by kernel_rfl) (fun _ _ _ h => h) (Or.inl ⟨by rfl, ?_⟩) (by assumption) ?_; rotate_left; · (intro w hSw; (try dsimp only at hSw); go_simp; try with_reducible rfl)); (try simp only [Act.put]); (try simp only [List.setIfInBounds_toArray]); (try simp only [List.set_cons_succ]); (try simp only [List.set_cons_zero])
                      (refine wpAnyH_take (i := 23) (oi := ⟨_, _, _, _, _, _⟩) (v := ?_) rfl (by kernel_rfl) (by kernel_rfl) (by kernel_rfl) (fun _ _ _ h => h) (Or.inl ⟨by rfl, ?_⟩) (by assumption) ?_; rotate_left; · (intro w hSw; (try dsimp only at hSw); go_simp; try with_reducible rfl)); (try simp only [Act.put]); (try simp only [List.setIfInBounds_toArray]); (try simp only [List.set_cons_succ]); (try simp only [List.set_cons_zero])
                      (refine wpAnyH_take (i := 24) (oi := ⟨_, _, _, _, _, _⟩) (v := ?_) rfl (by kernel_rfl) (by kernel_rfl) (by kernel_rfl) (fun _ _ _ h => h) (Or.inl ⟨by rfl, ?_⟩) (by assumption) ?_; rotate_left; · (intro w hSw; (try dsimp only at hSw); go_simp; try with_reducible rfl)); (try simp only [Act.put]); (try simp only [List.setIfInBounds_toArray]); (try simp only [List.set_cons_succ]); (try simp only [List.set_cons_zero])
                      refine wpAnyH_done (by kernel_rfl) ?_ _
                      go_wp2_with fail
                      go_meet
                      exact ⟨rfl, hHeld⟩
                    exact AllReadyH.nil
                  exact AllReadyH.nil
            · have t1 : (a.kind != b.kind) = true := by rw [bne, beq_no p1]; rfl
              clear p1
              refine wp_region_held_drew (S := (fun w' => NbS A B a b wv w')) (by kernel_rfl) ?_ (fun hHeld => ?_)
              · ((try dsimp only); (first | exact hHeld | exact nbS_keep hHeld hb))
              (refine wpAnyH_take (i := 0) (oi := ⟨_, _, _, _, _, _⟩) (v := ?_) rfl (by kernel_rfl) (by kernel_rfl) (by kernel_rfl) (fun _ _ _ h => h) (Or.inl ⟨by rfl, ?_⟩) (by assumption) ?_; rotate_left; · (intro w hSw; (try dsimp only at hSw); go_simp; try with_reducible rfl)); (try simp only [Act.put]); (try simp only [List.setIfInBounds_toArray]); (try simp only [List.set_cons_succ]); (try simp only [List.set_cons_zero])
              (refine wpAnyH_take (i := 1) (oi := ⟨_, _, _, _, _, _⟩) (v := ?_) rfl (by kernel_rfl) (by kernel_rfl) (by kernel_rfl) (fun _ _ _ h => h) (Or.inl ⟨by rfl, ?_⟩) (by assumption) ?_; rotate_left; · (intro w hSw; (try dsimp only at hSw); go_simp; try with_reducible rfl)); (try simp only [Act.put]); (try simp only [List.setIfInBounds_toArray]); (try simp only [List.set_cons_succ]); (try simp only [List.set_cons_zero])
              (refine wpAnyH_take (i := 2) (oi := ⟨_, _, _, _, _, _⟩) (v := ?_) rfl (by kernel_rfl) (by kernel_rfl) (by kernel_rfl) (fun _ _ _ h => h) (Or.inl ⟨by rfl, ?_⟩) (by assumption) ?_; rotate_left; · (intro w hSw; (try dsimp only at hSw); go_simp; try with_reducible rfl)); (try simp only [Act.put]); (try simp only [List.setIfInBounds_toArray]); (try simp only [List.set_cons_succ]); (try simp only [List.set_cons_zero])
              (refine wpAnyH_take (i := 3) (oi := ⟨_, _, _, _, _, _⟩) (v := ?_) rfl (by kernel_rfl) (by kernel_rfl) (by kernel_rfl) (fun _ _ _ h => h) (Or.inl ⟨by rfl, ?_⟩) (by assumption) ?_; rotate_left; · (intro w hSw; (try dsimp only at hSw); go_simp; try with_reducible rfl)); (try simp only [Act.put]); (try simp only [List.setIfInBounds_toArray]); (try simp only [List.set_cons_succ]); (try simp only [List.set_cons_zero])
              (refine wpAnyH_take (i := 4) (oi := ⟨_, _, _, _, _, _⟩) (v := ?_) rfl (by kernel_rfl) (by kernel_rfl) (by kernel_rfl) (fun _ _ _ h => h) (Or.inl ⟨by rfl, ?_⟩) (by assumption) ?_; rotate_left; · (intro w hSw; (try dsimp only at hSw); go_simp; try with_reducible rfl)); (try simp only [Act.put]); (try simp only [List.setIfInBounds_toArray]); (try simp only [List.set_cons_succ]); (try simp only [List.set_cons_zero])
              (refine wpAnyH_take (i := 5) (oi := ⟨_, _, _, _, _, _⟩) (v := ?_) rfl (by kernel_rfl) (by kernel_rfl) (by kernel_rfl) (fun _ _ _ h => h) (Or.inl ⟨by rfl, ?_⟩) (by assumption) ?_; rotate_left; · (intro w hSw; (try dsimp only at hSw); go_simp; try with_reducible rfl)); (try simp only [Act.put]); (try simp only [List.setIfInBounds_toArray]); (try simp only [List.set_cons_succ]); (try simp only [List.set_cons_zero])
              (refine wpAnyH_take (i := 6) (oi := ⟨_, _, _, _, _, _⟩) (v := undef) rfl (by kernel_rfl) (by kernel_rfl) (by kernel_rfl) (fun _ _ _ h => h) (Or.inr ⟨by rfl, rfl⟩) (by assumption) ?_); (try simp only [Act.put]); (try simp only [List.setIfInBounds_toArray]); (try simp only [List.set_cons_succ]); (try simp only [List.set_cons_zero])
              (refine wpAnyH_take (i := 7) (oi := ⟨_, _, _, _, _, _⟩) (v := undef) rfl (by kernel_rfl) (by kernel_rfl) (by kernel_rfl) (fun _ _ _ h => h) (Or.inr ⟨by rfl, rfl⟩) (by assumption) ?_); (try simp only [Act.put]); (try simp only [List.setIfInBounds_toArray]); (try simp only [List.set_cons_succ]); (try simp only [List.set_cons_zero])
              (refine wpAnyH_take (i := 8) (oi := ⟨_, _, _, _, _, _⟩) (v := undef) rfl (by kernel_rfl) (by kernel_rfl) (by kernel_rfl) (fun _ _ _ h => h) (Or.inr ⟨by rfl, rfl⟩) (by assumption) ?_); (try simp only [Act.put]); (try simp only [List.setIfInBounds_toArray]); (try simp only [List.set_cons_succ]); (try simp only [List.set_cons_zero])
              (refine wpAnyH_take (i := 9) (oi := ⟨_, _, _, _, _, _⟩) (v := ?_) rfl (by kernel_rfl) (by kernel_rfl) (by kernel_rfl) (fun _ _ _ h => h) (Or.inl ⟨by rfl, ?_⟩) (by assumption) ?_; rotate_left; · (intro w hSw; (try dsimp only at hSw); go_simp; try with_reducible rfl)); (try simp only [Act.put]); (try simp only [List.setIfInBounds_toArray]); (try simp only [List.set_cons_succ]); (try simp only [List.set_cons_zero])
              (refine wpAnyH_take (i := 10) (oi := ⟨_, _, _, _, _, _⟩) (v := ?_) rfl (by kernel_rfl) (by kernel_rfl) (by kernel_rfl) (fun _ _ _ h => h) (Or.inl ⟨by rfl, ?_⟩) (by assumption) ?_; rotate_left; · (intro w hSw; (try dsimp only at hSw); go_simp; try with_reducible rfl)); (try simp only [Act.put]); (try simp only [List.setIfInBounds_toArray]); (try simp only [List.set_cons_succ]); (try simp only [List.set_cons_zero])
              (refine wpAnyH_take (i := 11) (oi := ⟨_, _, _, _, _, _⟩) (v := undef) rfl (by kernel_rfl) (by kernel_rfl) (by kernel_rfl) (fun _ _ _ h => h) (Or.inr ⟨by rfl, rfl⟩) (by assumption) ?_); (try simp only [Act.put]); (try simp only [List.setIfInBounds_toArray]); (try simp only [List.set_cons_succ]); (try simp only [List.set_cons_zero])
              (refine wpAnyH_take (i := 12) (oi := ⟨_, _, _, _, _, _⟩) (v := undef) rfl (by kernel_rfl) (by kernel_rfl) (by kernel_rfl) (fun _ _ _ h => h) (Or.inr ⟨by rfl, rfl⟩) (by assumption) ?_); (try simp only [Act.put]); (try simp only [List.setIfInBounds_toArray]); (try simp only [List.set_cons_succ]); (try simp only [List.set_cons_zero])
              (refine wpAnyH_take (i := 13) (oi := ⟨_, _, _, _, _, _⟩) (v := undef) rfl (by kernel_rfl) (by kernel_rfl) (by kernel_rfl) (fun _ _ _ h => h) (Or.inr ⟨by rfl, rfl⟩) (by assumption) ?_); (try simp only [Act.put]); (try simp only [List.setIfInBounds_toArray]); (try simp only [List.set_cons_succ]); (try simp only [List.set_cons_zero])
              (refine wpAnyH_take (i := 14) (oi := ⟨_, _, _, _, _, _⟩) (v := ?_) rfl (by kernel_rfl) (by kernel_rfl) (by kernel_rfl) (fun _ _ _ h => h) (Or.inl ⟨by rfl, ?_⟩) (by assumption) ?_; rotate_left; · (intro w hSw; (try dsimp only at hSw); go_simp; try with_reducible rfl)); (try simp only [Act.put]); (try simp only [List.setIfInBounds_toArray]); (try simp only [List.set_cons_succ]); (try simp only [List.set_cons_zero])
              (refine wpAnyH_take (i := 15) (oi := ⟨_, _, _, _, _, _⟩) (v := ?_) rfl (by kernel_rfl) (by kernel_rfl) (by kernel_rfl) (fun _ _ _ h => h) (Or.inl ⟨by rfl, ?_⟩) (by assumption) ?_; rotate_left; · (intro w hSw; (try dsimp only at hSw); go_simp; try with_reducible rfl)); (try simp only [Act.put]); (try simp only [List.setIfInBounds_toArray]); (try simp only [List.set_cons_succ]); (try simp only [List.set_cons_zero])
              (refine wpAnyH_take (i := 16) (oi := ⟨_, _, _, _, _, _⟩) (v := undef) rfl (by kernel_rfl) (by kernel_rfl) (by kernel_rfl) (fun _ _ _ h => h) (Or.inr ⟨by rfl, rfl⟩) (by assumption) ?_); (try simp only [Act.put]); (try simp only [List.setIfInBounds_toArray]); (try simp only [List.set_cons_succ]); (try simp only [List.set_cons_zero])
              (refine wpAnyH_take (i := 18) (oi := ⟨_, _, _, _, _, _⟩) (v := undef) rfl (by kernel_rfl) (by kernel_rfl) (by kernel_rfl) (fun _ _ _ h => h) (Or.inr ⟨by rfl, rfl⟩) (by assumption) ?_); (try simp only [Act.put]); (try simp only [List.setIfInBounds_toArray]); (try simp only [List.set_cons_succ]); (try simp only [List.set_cons_zero])
              (refine wpAnyH_take (i := 21) (oi := ⟨_, _, _, _, _, _⟩) (v := undef) rfl (by kernel_rfl) (by kernel_rfl) (by kernel_rfl) (fun _ _ _ h => h) (Or.inr ⟨by rfl, rfl⟩) (by assumption) ?_); (try simp only [Act.put]); (try simp only [List.setIfInBounds_toArray]); (try simp only [List.set_cons_succ]); (try simp only [List.set_cons_zero])
              refine wpAnyH_ready (rs := [17]) (by kernel_rfl) (by simp) ?_
              refine AllReadyH.cons (o := ⟨_, _, _, _, _, _⟩) rfl (fun K hK => ?_) ?_
              · (go_simp; (first | (go_at_call 13; refine (nput_any _ _ rfl _ hHeld.2.2.2.2.2.2.out.1).mono ?_; rintro e w2 ⟨rfl, hb⟩; (first | rw [← HPA.out] | rw [← HPB.out])) | skip))
                refine hK.out _ _ ?_ (fun hHeld => ?_)
                · ((try dsimp only); (first | exact hHeld | exact nbS_keep hHeld hb))
                clear hK K; (try simp only [Act.put]); (try simp only [List.setIfInBounds_toArray]); (try simp only [List.set_cons_succ]); (try simp only [List.set_cons_zero])
                refine wpAnyH_ready (rs := [19]) (by kernel_rfl) (by simp) ?_
                refine AllReadyH.cons (o := ⟨_, _, _, _, _, _⟩) rfl (fun K hK => ?_) ?_
                · (go_simp; (first | (go_at_call 13; refine (nput_any _ _ rfl _ hHeld.2.2.2.2.2.2.out.1).mono ?_; rintro e w2 ⟨rfl, hb⟩; (first | rw [← HPA.out] | rw [← HPB.out])) | skip))
                  refine hK.out _ _ ?_ (fun hHeld => ?_)
                  · ((try dsimp only); (first | exact hHeld | exact nbS_keep hHeld hb))
                  clear hK K; (try simp only [Act.put]); (try simp only [List.setIfInBounds_toArray]); (try simp only [List.set_cons_succ]); (try simp only [List.set_cons_zero])
                  (refine wpAnyH_take (i := 20) (oi := ⟨_, _, _, _, _, _⟩) (v := undef) rfl (by kernel_rfl) (by kernel_rfl) (by kernel_rfl) (fun _ _ _ h => h) (Or.inr ⟨by rfl, rfl⟩) (by assumption) ?_); (try simp only [Act.put]); (try simp only [List.setIfInBounds_toArray]); (try simp only [List.set_cons_succ]); (try simp only [List.set_cons_zero])
                  (refine wpAnyH_take (i := 22) (oi := ⟨_, _, _, _, _, _⟩) (v := undef) rfl (by kernel_rfl) (by kernel_rfl) (by kernel_rfl) (fun _ _ _ h => h) (Or.inr ⟨by rfl, rfl⟩) (by assumption) ?_); (try simp only [Act.put]); (try simp only [List.setIfInBounds_toArray]); (try simp only [List.set_cons_succ]); (try simp only [List.set_cons_zero])
                  (refine wpAnyH_take (i := 23) (oi := ⟨_, _, _, _, _, _⟩) (v := ?_) rfl (by kernel_rfl) (by kernel_rfl) (by kernel_rfl) (fun _ _ _ h => h) (Or.inl ⟨by rfl, ?_⟩) (by assumption) ?_; rotate_left; · (intro w hSw; (try dsimp only at hSw); go_simp; try with_reducible rfl)); (try simp only [Act.put]); (try simp only [List.setIfInBounds_toArray]); (try simp only [List.set_cons_succ]); (try simp only [List.set_cons_zero])
                  (refine wpAnyH_take (i := 24) (oi := ⟨_, _, _, _, _, _⟩) (v := ?_) rfl (by kernel_rfl) (by kernel_rfl) (by kernel_rfl) (fun _ _ _ h => h) (Or.inl ⟨by rfl, ?_⟩) (by assumption) ?_; rotate_left; · (intro w hSw; (try dsimp only at hSw); go_simp; try with_reducible rfl)); (try simp only [Act.put]); (try simp only [List.setIfInBounds_toArray]); (try simp only [List.set_cons_succ]); (try simp only [List.set_cons_zero])
                  refine wpAnyH_done (by kernel_rfl) ?_ _
                  go_wp2_with fail
                  go_meet
                  exact ⟨rfl, hHeld⟩
                exact AllReadyH.nil
              exact AllReadyH.nil
          case rest =>
            obtain ⟨rfl, hN⟩ := hcut
            rename World => wz
            have hx := (bthen HV.out.2.2.2.2.2.2.out.2.1 hN.2.2.2.2.2.2.out.2.1)
            have hX := (hx.block X (blk_lt HXE.out)).trans HXE.out
            have hY := (hx.block Y (blk_lt HYE.out)).trans HYE.out
            obtain ⟨a0, a1, a2, b0, b1, b2, HH⟩ := hN
            have x0 : wz.cell? ⟨X, 0, none⟩ = some (.int .i64 a.kind) := by rw [Lib.cell_of_heap hX]; rfl
            have x1 : wz.cell? ⟨X, 1, none⟩ = some (.int .i64 a.lo) := by rw [Lib.cell_of_heap hX]; rfl
            have x2 : wz.cell? ⟨X, 2, none⟩ = some (.int .i64 a.hi) := by rw [Lib.cell_of_heap hX]; rfl
            have y0 : wz.cell? ⟨Y, 0, none⟩ = some (.int .i64 b.kind) := by rw [Lib.cell_of_heap hY]; rfl
            have y1 : wz.cell? ⟨Y, 1, none⟩ = some (.int .i64 b.lo) := by rw [Lib.cell_of_heap hY]; rfl
            have y2 : wz.cell? ⟨Y, 2, none⟩ = some (.int .i64 b.hi) := by rw [Lib.cell_of_heap hY]; rfl
            have HZ := Lib.hid (HB0.out.trans ((HE.out.2.1.trans (hx.mono HE.out.2.2)).mono (by have := HS0.out; omega)))
            clear hx hX hY
            refine ‹∀ (a : Act) (w_1 : World), Code.wp _ _ _ a w_1 → _› _ _ ?_
            go_wp2_with fail
            go_ret
            exact ⟨rfl, HZ.out⟩
end Go.Proofs.YtollmolchcnpeaaDoor
