/- The two closures of names.Chosen; slices.SortFunc of directories. -/
import Derived.Test.YtollmolchcnpeaaGreatDoorNRow
import Derived.StillTailTactics
namespace Go.Proofs.YtollmolchcnpeaaGreatDoor
open Go Go.RowKit

def DrewE (w w' : World) : Prop := ∃ m, w' = w.drewN m
theorem DrewE.refl (w : World) : DrewE w w := ⟨0, rfl⟩
theorem drewE2 {w w' : World} (h : DrewE w w') (n : Nat) : DrewE w (w'.drewN n) := by obtain ⟨m, rfl⟩ := h; exact ⟨m + n, World.drewN_drewN ..⟩
theorem DrewE.below {w w' : World} (h : DrewE w w') : Below w.heap.size w w' := by obtain ⟨m, rfl⟩ := h; exact bdrewN (Below.refl _ _) m
theorem Sl.drewE {α : Type} {T : Ty α} {F : Nat → Prop} {w w' : World} {A : Option Addr} {n c : Nat} {xs : List α} (h : Sl T F w A n c xs) (hm : DrewE w w') : Sl T F w' A n c xs := by
  obtain ⟨m, rfl⟩ := hm; exact h.drewN m

/-! the closure that tells what is dropped -/
def keepB (k most : Int) (d : DD) : Bool := decide (d.kind = k) && (may d && decide (d.hi ≤ most))
set_option maxRecDepth 100000 in
set_option maxHeartbeats 2000000 in
theorem drop_any (d : DD) (k most : Int) (kb mb : Nat) (r : Bool) (hr : r = !keepB k most d) (w : World) (hk : w.cell? ⟨kb, 0, none⟩ = some (.int .i64 k)) (hm : w.cell? ⟨mb, 0, none⟩ = some (.int .i64 most)) :
    Calls Tryz.prog 22 #[.agg #[.int .i64 d.kind, .int .i64 d.lo, .int .i64 d.hi], .pointer (some ⟨kb, 0, none⟩), .pointer (some ⟨mb, 0, none⟩)] w (BoolPost r w) := by
  have HB0 := Lib.hid (show Below w.heap.size w (w.alloc (.cells #[.int .i64 d.kind, .int .i64 d.lo, .int .i64 d.hi] 24)) from (Below.refl _ _).alloc (Nat.le_refl _) _)
  have hk0 := kcell HB0.out hk
  have hm0 := kcell HB0.out hm
  obtain ⟨m, hmm⟩ : ∃ m, m = may d := ⟨_, rfl⟩
  have HR := Lib.hid hr
  have HM := Lib.hid hmm
  clear hr hmm
  by_cases h1 : d.kind = k
  · have q1 : (d.kind == k) = true := by simpa using h1
    have q1' : (d.kind != k) = false := by rw [bne, q1]; rfl
    cases m with
    | false =>
      have HE := Lib.hid (show r = true by rw [HR.out, keepB, ← HM.out]; simp)
      clear h1
      go_enter Tryz.func22, Tryz.ntmps22
      go_wp2_with (first
        | (go_at_call 23; refine (may_any d false HM.out _).mono ?_; rintro e w1 ⟨rfl, hb1⟩; have HB1 := Lib.hid (HB0.out.trans (hb1.mono (by simp))); clear hb1)
        | fail)
      go_ret
      exact ⟨by rw [HE.out]; rfl, HB1.out⟩
    | true =>
      by_cases h2 : d.hi ≤ most
      · have HE := Lib.hid (show r = false by rw [HR.out, keepB, ← HM.out, decide_eq_true h1, decide_eq_true h2]; rfl)
        have q2 : decide (most < d.hi) = false := decide_eq_false (by omega)
        clear h1 h2
        go_enter Tryz.func22, Tryz.ntmps22
        go_wp2_with (first
          | (go_at_call 23; refine (may_any d true HM.out _).mono ?_; rintro e w1 ⟨rfl, hb1⟩; have HB1 := Lib.hid (HB0.out.trans (hb1.mono (by simp))); have hm1 := kcell hb1 hm0; have c2 : w1.cell? ⟨w.heap.size, 2, none⟩ = some (.int .i64 d.hi) := (by rw [Lib.cell_of_heap ((hb1.block _ (by simp)).trans (heap_alloc_new w _))]; rfl); clear hb1)
          | fail)
        go_ret
        exact ⟨by rw [HE.out]; rfl, HB1.out⟩
      · have HE := Lib.hid (show r = true by rw [HR.out, keepB, decide_eq_false h2]; simp)
        have q2 : most < d.hi := by omega
        clear h1 h2
        go_enter Tryz.func22, Tryz.ntmps22
        go_wp2_with (first
          | (go_at_call 23; refine (may_any d true HM.out _).mono ?_; rintro e w1 ⟨rfl, hb1⟩; have HB1 := Lib.hid (HB0.out.trans (hb1.mono (by simp))); have hm1 := kcell hb1 hm0; have c2 : w1.cell? ⟨w.heap.size, 2, none⟩ = some (.int .i64 d.hi) := (by rw [Lib.cell_of_heap ((hb1.block _ (by simp)).trans (heap_alloc_new w _))]; rfl); clear hb1)
          | fail)
        go_ret
        exact ⟨by rw [HE.out]; rfl, HB1.out⟩
  · have q1 : (d.kind == k) = false := by simpa using h1
    have q1' : (d.kind != k) = true := by rw [bne, q1]; rfl
    have HE := Lib.hid (show r = true by rw [HR.out, keepB, decide_eq_false h1]; rfl)
    clear h1
    go_enter Tryz.func22, Tryz.ntmps22
    go_wp2_with fail
    go_ret
    exact ⟨by rw [HE.out]; rfl, HB0.out⟩

/-! the sort -/
def cfD (x y : DD) : Int := if x.lo = y.lo then y.hi - x.hi else x.lo - y.lo
abbrev MD := {d : DD // may d = true}
instance : Inhabited MD := ⟨⟨⟨1, 0, 0⟩, rfl⟩⟩
def cfM (x y : MD) : Int := cfD x.1 y.1
theorem cf_neg (x y : DD) : cfD x y < 0 ↔ (x.lo < y.lo ∨ x.lo = y.lo ∧ y.hi < x.hi) := by
  unfold cfD
  split <;> omega
theorem ltM (x y : MD) : ltOf cfM x y = decide (x.1.lo < y.1.lo ∨ x.1.lo = y.1.lo ∧ y.1.hi < x.1.hi) := decide_eq_decide.2 (cf_neg x.1 y.1)
theorem swoM : Go.Sort.SWO (ltOf cfM) where
  irrefl x := by rw [ltM, decide_eq_false_iff_not]; omega
  trans x y z h1 h2 := by
    rw [ltM, decide_eq_true_eq] at *
    omega
  ntrans x y z h1 h2 := by
    rw [ltM, decide_eq_false_iff_not] at *
    omega
set_option maxHeartbeats 1000000 in
theorem ahead_any (x y : DD) (hx : may x = true) (hy : may y = true) (w : World) : Calls Tryz.prog 25 #[.agg #[.int .i64 x.kind, .int .i64 x.lo, .int .i64 x.hi], .agg #[.int .i64 y.kind, .int .i64 y.lo, .int .i64 y.hi]] w fun e w' => e = .returned (.int .i64 (cfD x y)) ∧ ∃ q os', w' = Go.Sort.grow (w.drewN q) os' := by
  have bx := may_b hx
  have by' := may_b hy
  clear hx hy
  by_cases h : x.lo = y.lo
  · have HC := Lib.hid (show cfD x y = y.hi - x.hi by unfold cfD; rw [if_pos h])
    have q : (x.lo == y.lo) = true := by simpa using h
    have q' : (x.lo != y.lo) = false := by rw [bne, q]; rfl
    clear h
    go_enter Tryz.func25, Tryz.ntmps25
    go_wp2_with fail
    go_ret
    exact ⟨by rw [HC.out]; rfl, 0, _, by rw [Go.Sort.alloc_eq_grow, Go.Sort.alloc_eq_grow, Go.Sort.grow_grow]; rfl⟩
  · have HC := Lib.hid (show cfD x y = x.lo - y.lo by unfold cfD; rw [if_neg h])
    have q : (x.lo == y.lo) = false := by simpa using h
    have q' : (x.lo != y.lo) = true := by rw [bne, q]; rfl
    clear h
    go_enter Tryz.func25, Tryz.ntmps25
    go_wp2_with fail
    go_ret
    exact ⟨by rw [HC.out]; rfl, 0, _, by rw [Go.Sort.alloc_eq_grow, Go.Sort.alloc_eq_grow, Go.Sort.grow_grow]; rfl⟩
end Go.Proofs.YtollmolchcnpeaaGreatDoor
