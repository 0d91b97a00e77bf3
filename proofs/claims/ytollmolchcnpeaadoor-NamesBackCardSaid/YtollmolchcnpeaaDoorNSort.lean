/- The reference's Same; the two closures of names.Chosen; slices.SortFunc of directories. -/
import Derived.Test.YtollmolchcnpeaaDoorNRow
import Derived.StillTailTactics
namespace Go.Proofs.YtollmolchcnpeaaDoor
open Go Go.RowKit

def DrewE (w w' : World) : Prop := ∃ m, w' = w.drewN m
theorem DrewE.refl (w : World) : DrewE w w := ⟨0, rfl⟩
theorem drewE2 {w w' : World} (h : DrewE w w') (n : Nat) : DrewE w (w'.drewN n) := by obtain ⟨m, rfl⟩ := h; exact ⟨m + n, World.drewN_drewN ..⟩
theorem DrewE.below {w w' : World} (h : DrewE w w') : Below w.heap.size w w' := by obtain ⟨m, rfl⟩ := h; exact bdrewN (Below.refl _ _) m
theorem Sl.drewE {α : Type} {T : Ty α} {F : Nat → Prop} {w w' : World} {A : Option Addr} {n c : Nat} {xs : List α} (h : Sl T F w A n c xs) (hm : DrewE w w') : Sl T F w' A n c xs := by
  obtain ⟨m, rfl⟩ := hm; exact h.drewN m

set_option maxRecDepth 100000 in
set_option maxHeartbeats 1000000 in
theorem same24_any (F F' : Nat → Prop) (A A' : Option Addr) (n c n' c' : Nat) (l : List DD) (w : World) (h : Sl tDD F w A n c l) (h' : Sl tDD F' w A' n' c' l) :
    Calls Tryd.prog 8 #[.slice A n c, .slice A' n' c'] w (BoolPost true w) := by
  obtain rfl : n' = n := by rw [h.len, h'.len]
  have HL := Lib.hid h.len
  have hmax : n' ≤ 9223372036854775807 := by have h2 := h.2.1; have h3 := h.2.2.1; unfold maxLen at h3; omega
  go_enter Tryd.func8, Tryd.ntmps8
  go_wp2
  go_loopw [5] (fun i wr => ∃ k : Nat, k ≤ n' ∧ i = .int .i64 k ∧ DrewE w wr) (fun i _ => n' - (intOf i).toNat)
  case atStart => exact ⟨0, Nat.zero_le _, rfl, DrewE.refl _⟩
  case round =>
    obtain ⟨k, hk, rfl, hm⟩ := hrel
    have g := h.drewE hm
    have g' := h'.drewE hm
    have HW := Lib.hid hm; clear hm
    by_cases hlt : k < n'
    · have hkl : k < l.length := by rw [← HL.out]; exact hlt
      obtain ⟨v, hv⟩ : ∃ v, v = l[k] := ⟨_, rfl⟩
      obtain ⟨b, o, u, rfl, _, hbl, hu, hc⟩ := g.at_ hkl (by decide)
      obtain ⟨b', o', u', rfl, _, hbl', hu', hc'⟩ := g'.at_ hkl (by decide)
      rw [← hv] at hu hu'
      obtain ⟨rfl, _⟩ := hu
      obtain ⟨rfl, _⟩ := hu'
      obtain ⟨c0, c1, c2⟩ := cells3 hc
      obtain ⟨d0, d1, d2⟩ := cells3 hc'
      clear g g' hc hc' hv
      have hi1 : (0 : Int) ≤ (k : Int) := by omega
      have hi2 : (k : Int) < (n' : Int) := by omega
      go_wp2_with fail
      go_quiet (fail)
      go_wp2_with fail
      go_roundw
      case rel => exact ⟨k + 1, by omega, by go_num, drewE2 HW.out _⟩
      case measure => simp [intOf]; omega
    · obtain rfl : k = n' := by omega
      go_wp2_with fail
      go_ret
      exact ⟨rfl, HW.out.below⟩

/-! the closure that tells what is dropped -/
def keepB (k most : Int) (d : DD) : Bool := decide (d.kind = k) && (may d && decide (d.hi ≤ most))
set_option maxRecDepth 100000 in
set_option maxHeartbeats 2000000 in
theorem drop_any (d : DD) (k most : Int) (kb mb : Nat) (r : Bool) (hr : r = !keepB k most d) (w : World) (hk : w.cell? ⟨kb, 0, none⟩ = some (.int .i64 k)) (hm : w.cell? ⟨mb, 0, none⟩ = some (.int .i64 most)) :
    Calls Tryd.prog 22 #[.agg #[.int .i64 d.kind, .int .i64 d.lo, .int .i64 d.hi], .pointer (some ⟨kb, 0, none⟩), .pointer (some ⟨mb, 0, none⟩)] w (BoolPost r w) := by
  have HB0 := Lib.hid (show Below w.heap.size w (w.alloc (.cells #[.int .i64 d.kind, .int .i64 d.lo, .int .i64 d.hi] 28)) from (Below.refl _ _).alloc (Nat.le_refl _) _)
  have hk0 := kcell HB0.out hk
  have hm0 := kcell HB0.out hm
  obtain ⟨m, hmm⟩ : ∃ m, m = may d := ⟨_, rfl⟩
  have HR := Lib.hid hr
  have HM := Lib.hid hmm
  clear hr hmm
  by_cases h1 : d.kind = k
  · have q1 : (d.kind == k) = true := by simpa using h1
    have q1' : (d.kind != k) = false := by rw [bne, q1]; rfl
    cases m with
    | false =>
      have HE := Lib.hid (show r = true by rw [HR.out, keepB, ← HM.out]; simp)
      clear h1
      go_enter Tryd.func22, Tryd.ntmps22
      go_wp2_with (first
        | (go_at_call 11; refine (may_any d false HM.out _).mono ?_; rintro e w1 ⟨rfl, hb1⟩; have HB1 := Lib.hid (HB0.out.trans (hb1.mono (by simp))); clear hb1)
        | fail)
      go_ret
      exact ⟨by rw [HE.out]; rfl, HB1.out⟩
    | true =>
      by_cases h2 : d.hi ≤ most
      · have HE := Lib.hid (show r = false by rw [HR.out, keepB, ← HM.out, decide_eq_true h1, decide_eq_true h2]; rfl)
        have q2 : decide (most < d.hi) = false := decide_eq_false (by omega)
        clear h1 h2
        go_enter Tryd.func22, Tryd.ntmps22
        go_wp2_with (first
          | (go_at_call 11; refine (may_any d true HM.out _).mono ?_; rintro e w1 ⟨rfl, hb1⟩; have HB1 := Lib.hid (HB0.out.trans (hb1.mono (by simp))); have hm1 := kcell hb1 hm0; have c2 : w1.cell? ⟨w.heap.size, 2, none⟩ = some (.int .i64 d.hi) := (by rw [Lib.cell_of_heap ((hb1.block _ (by simp)).trans (heap_alloc_new w _))]; rfl); clear hb1)
          | fail)
        go_ret
        exact ⟨by rw [HE.out]; rfl, HB1.out⟩
      · have HE := Lib.hid (show r = true by rw [HR.out, keepB, decide_eq_false h2]; simp)
        have q2 : most < d.hi := by omega
        clear h1 h2
        go_enter Tryd.func22, Tryd.ntmps22
        go_wp2_with (first
          | (go_at_call 11; refine (may_any d true HM.out _).mono ?_; rintro e w1 ⟨rfl, hb1⟩; have HB1 := Lib.hid (HB0.out.trans (hb1.mono (by simp))); have hm1 := kcell hb1 hm0; have c2 : w1.cell? ⟨w.heap.size, 2, none⟩ = some (.int .i64 d.hi) := (by rw [Lib.cell_of_heap ((hb1.block _ (by simp)).trans (heap_alloc_new w _))]; rfl); clear hb1)
          | fail)
        go_ret
        exact ⟨by rw [HE.out]; rfl, HB1.out⟩
  · have q1 : (d.kind == k) = false := by simpa using h1
    have q1' : (d.kind != k) = true := by rw [bne, q1]; rfl
    have HE := Lib.hid (show r = true by rw [HR.out, keepB, decide_eq_false h1]; rfl)
    clear h1
    go_enter Tryd.func22, Tryd.ntmps22
    go_wp2_with fail
    go_ret
    exact ⟨by rw [HE.out]; rfl, HB0.out⟩

/-! the sort -/
def cfD (x y : DD) : Int := if x.lo = y.lo then y.hi - x.hi else x.lo - y.lo
abbrev MD := {d : DD // may d = true}
instance : Inhabited MD := ⟨⟨⟨1, 0, 0⟩, rfl⟩⟩
def cfM (x y : MD) : Int := cfD x.1 y.1
theorem cf_neg (x y : DD) : cfD x y < 0 ↔ (x.lo < y.lo ∨ x.lo = y.lo ∧ y.hi < x.hi) := by
  unfold cfD
  split <;> omega
theorem ltM (x y : MD) : ltOf cfM x y = decide (x.1.lo < y.1.lo ∨ x.1.lo = y.1.lo ∧ y.1.hi < x.1.hi) := decide_eq_decide.2 (cf_neg x.1 y.1)
theorem swoM : Go.Sort.SWO (ltOf cfM) where
  irrefl x := by rw [ltM, decide_eq_false_iff_not]; omega
  trans x y z h1 h2 := by
    rw [ltM, decide_eq_true_eq] at *
    omega
  ntrans x y z h1 h2 := by
    rw [ltM, decide_eq_false_iff_not] at *
    omega
set_option maxHeartbeats 1000000 in
theorem ahead_any (x y : DD) (hx : may x = true) (hy : may y = true) (w : World) : Calls Tryd.prog 24 #[.agg #[.int .i64 x.kind, .int .i64 x.lo, .int .i64 x.hi], .agg #[.int .i64 y.kind, .int .i64 y.lo, .int .i64 y.hi]] w fun e w' => e = .returned (.int .i64 (cfD x y)) ∧ ∃ q os', w' = Go.Sort.grow (w.drewN q) os' := by
  have bx := may_b hx
  have by' := may_b hy
  clear hx hy
  by_cases h : x.lo = y.lo
  · have HC := Lib.hid (show cfD x y = y.hi - x.hi by unfold cfD; rw [if_pos h])
    have q : (x.lo == y.lo) = true := by simpa using h
    have q' : (x.lo != y.lo) = false := by rw [bne, q]; rfl
    clear h
    go_enter Tryd.func24, Tryd.ntmps24
    go_wp2_with fail
    go_ret
    exact ⟨by rw [HC.out]; rfl, 0, _, by rw [Go.Sort.alloc_eq_grow, Go.Sort.alloc_eq_grow, Go.Sort.grow_grow]; rfl⟩
  · have HC := Lib.hid (show cfD x y = x.lo - y.lo by unfold cfD; rw [if_neg h])
    have q : (x.lo == y.lo) = false := by simpa using h
    have q' : (x.lo != y.lo) = true := by rw [bne, q]; rfl
    clear h
    go_enter Tryd.func24, Tryd.ntmps24
    go_wp2_with fail
    go_ret
    exact ⟨by rw [HC.out]; rfl, 0, _, by rw [Go.Sort.alloc_eq_grow, Go.Sort.alloc_eq_grow, Go.Sort.grow_grow]; rfl⟩
end Go.Proofs.YtollmolchcnpeaaDoor
