/- names.word, names.May, the reference's May. -/
import Derived.Test.YtollmolchcnpeaaGreatDoorNLib
namespace Go.Proofs.YtollmolchcnpeaaGreatDoor
open Go Go.RowKit

theorem word_any (k : Int) (w : World) : Calls Tryz.prog 13 #[.int .i64 k] w fun e w' => e = .returned (.string ⟨(word k).toArray⟩) ∧ w = w' := by
  by_cases h1 : k = 1
  · subst h1
    go_enter Tryz.func13, Tryz.ntmps13
    go_wp2_with fail
    go_ret
    exact ⟨rfl, by first | rfl | trivial | fail⟩
  by_cases h2 : k = 2
  · subst h2
    go_enter Tryz.func13, Tryz.ntmps13
    go_wp2_with fail
    go_ret
    exact ⟨rfl, by first | rfl | trivial | fail⟩
  by_cases h3 : k = 3
  · subst h3
    go_enter Tryz.func13, Tryz.ntmps13
    go_wp2_with fail
    go_ret
    exact ⟨rfl, by first | rfl | trivial | fail⟩
  by_cases h4 : k = 4
  · subst h4
    go_enter Tryz.func13, Tryz.ntmps13
    go_wp2_with fail
    go_ret
    exact ⟨rfl, by first | rfl | trivial | fail⟩
  · have hw := Lib.hid (show word k = [] by unfold word; rw [if_neg h1, if_neg h2, if_neg h3, if_neg h4])
    have q1 : (k == 1) = false := by simpa using h1
    have q2 : (k == 2) = false := by simpa using h2
    have q3 : (k == 3) = false := by simpa using h3
    have q4 : (k == 4) = false := by simpa using h4
    clear h1 h2 h3 h4
    go_enter Tryz.func13, Tryz.ntmps13
    go_wp2_with fail
    go_ret
    exact ⟨by rw [hw.out]; rfl, by first | rfl | trivial | fail⟩

def BoolPost (b : Bool) (w : World) (e : Ending) (w' : World) : Prop := e = .returned (.bool b) ∧ Below w.heap.size w w'
theorem beq_no {a b : Int} (h : a ≠ b) : (a == b) = false := by simpa using h
set_option maxRecDepth 100000 in
set_option maxHeartbeats 4000000 in
theorem may_yes (k lo hi : Int) (h : may ⟨k, lo, hi⟩ = true) (w : World) : Calls Tryz.prog 23 #[.agg #[.int .i64 k, .int .i64 lo, .int .i64 hi]] w (BoolPost true w) := by
  have hm := (may_iff _).1 h
  dsimp only at hm
  clear h
  rcases (show k = 1 ∨ k = 2 ∨ k = 3 ∨ k = 4 by omega) with rfl | rfl | rfl | rfl
  · obtain rfl : lo = 0 := by omega
    obtain ⟨_, _, _, h2, h3, _⟩ := hm
    go_enter Tryz.func23, Tryz.ntmps23
    go_wp2_with fail
    go_ret
    exact ⟨rfl, (Below.refl _ _).alloc (Nat.le_refl _) _⟩
  · have h4 : 1 ≤ lo := by omega
    have h5 : 0 ≤ lo := by omega
    obtain ⟨_, _, _, h2, h3, _⟩ := hm
    have h6 : 0 ≤ hi := by omega
    go_enter Tryz.func23, Tryz.ntmps23
    go_wp2_with fail
    go_ret
    exact ⟨rfl, (Below.refl _ _).alloc (Nat.le_refl _) _⟩
  · have h4 : 1 ≤ lo := by omega
    have h5 : 0 ≤ lo := by omega
    obtain ⟨_, _, _, h2, h3, _⟩ := hm
    have h6 : 0 ≤ hi := by omega
    go_enter Tryz.func23, Tryz.ntmps23
    go_wp2_with fail
    go_ret
    exact ⟨rfl, (Below.refl _ _).alloc (Nat.le_refl _) _⟩
  · have h5 : 0 ≤ lo := by omega
    obtain ⟨_, _, _, h2, h3, _⟩ := hm
    have h6 : 0 ≤ hi := by omega
    go_enter Tryz.func23, Tryz.ntmps23
    go_wp2_with fail
    go_ret
    exact ⟨rfl, (Below.refl _ _).alloc (Nat.le_refl _) _⟩
set_option maxRecDepth 100000 in
set_option maxHeartbeats 8000000 in
theorem may_no (k lo hi : Int) (h : may ⟨k, lo, hi⟩ = false) (w : World) : Calls Tryz.prog 23 #[.agg #[.int .i64 k, .int .i64 lo, .int .i64 hi]] w (BoolPost false w) := by
  have hm : ¬ (1 ≤ k ∧ k ≤ 4 ∧ 0 ≤ lo ∧ lo ≤ hi ∧ hi ≤ 1073741824 ∧ (k = 1 → lo = 0) ∧ (k = 2 ∨ k = 3 → 1 ≤ lo)) := fun hc => by rw [(may_iff ⟨k, lo, hi⟩).2 hc] at h; cases h
  clear h
  by_cases h1 : k = 1
  · subst h1
    rcases (show lo ≠ 0 ∨ (lo = 0 ∧ ¬ 0 ≤ hi) ∨ (lo = 0 ∧ 0 ≤ hi ∧ ¬ hi ≤ 1073741824) by omega) with q | ⟨rfl, q⟩ | ⟨rfl, q1, q⟩
    · have q' := beq_no q
      clear hm q
      go_enter Tryz.func23, Tryz.ntmps23
      go_wp2_with fail
      go_ret
      exact ⟨rfl, (Below.refl _ _).alloc (Nat.le_refl _) _⟩
    · clear hm
      go_enter Tryz.func23, Tryz.ntmps23
      go_wp2_with fail
      go_ret
      exact ⟨rfl, (Below.refl _ _).alloc (Nat.le_refl _) _⟩
    · clear hm
      go_enter Tryz.func23, Tryz.ntmps23
      go_wp2_with fail
      go_ret
      exact ⟨rfl, (Below.refl _ _).alloc (Nat.le_refl _) _⟩
  by_cases h2 : k = 2
  · subst h2
    rcases (show ¬ 1 ≤ lo ∨ (1 ≤ lo ∧ ¬ lo ≤ hi) ∨ (1 ≤ lo ∧ lo ≤ hi ∧ ¬ hi ≤ 1073741824) by omega) with q | ⟨q1, q⟩ | ⟨q1, q2, q⟩
    · clear hm h1
      go_enter Tryz.func23, Tryz.ntmps23
      go_wp2_with fail
      go_ret
      exact ⟨rfl, (Below.refl _ _).alloc (Nat.le_refl _) _⟩
    · clear hm h1
      go_enter Tryz.func23, Tryz.ntmps23
      go_wp2_with fail
      go_ret
      exact ⟨rfl, (Below.refl _ _).alloc (Nat.le_refl _) _⟩
    · clear hm h1
      go_enter Tryz.func23, Tryz.ntmps23
      go_wp2_with fail
      go_ret
      exact ⟨rfl, (Below.refl _ _).alloc (Nat.le_refl _) _⟩
  by_cases h3 : k = 3
  · subst h3
    rcases (show ¬ 1 ≤ lo ∨ (1 ≤ lo ∧ ¬ lo ≤ hi) ∨ (1 ≤ lo ∧ lo ≤ hi ∧ ¬ hi ≤ 1073741824) by omega) with q | ⟨q1, q⟩ | ⟨q1, q2, q⟩
    · clear hm h1
      go_enter Tryz.func23, Tryz.ntmps23
      go_wp2_with fail
      go_ret
      exact ⟨rfl, (Below.refl _ _).alloc (Nat.le_refl _) _⟩
    · clear hm h1
      go_enter Tryz.func23, Tryz.ntmps23
      go_wp2_with fail
      go_ret
      exact ⟨rfl, (Below.refl _ _).alloc (Nat.le_refl _) _⟩
    · clear hm h1
      go_enter Tryz.func23, Tryz.ntmps23
      go_wp2_with fail
      go_ret
      exact ⟨rfl, (Below.refl _ _).alloc (Nat.le_refl _) _⟩
  by_cases h4 : k = 4
  · subst h4
    rcases (show ¬ 0 ≤ lo ∨ (0 ≤ lo ∧ ¬ lo ≤ hi) ∨ (0 ≤ lo ∧ lo ≤ hi ∧ ¬ hi ≤ 1073741824) by omega) with q | ⟨q1, q⟩ | ⟨q1, q2, q⟩
    · clear hm h1
      go_enter Tryz.func23, Tryz.ntmps23
      go_wp2_with fail
      go_ret
      exact ⟨rfl, (Below.refl _ _).alloc (Nat.le_refl _) _⟩
    · clear hm h1
      go_enter Tryz.func23, Tryz.ntmps23
      go_wp2_with fail
      go_ret
      exact ⟨rfl, (Below.refl _ _).alloc (Nat.le_refl _) _⟩
    · clear hm h1
      go_enter Tryz.func23, Tryz.ntmps23
      go_wp2_with fail
      go_ret
      exact ⟨rfl, (Below.refl _ _).alloc (Nat.le_refl _) _⟩
  have q1 := beq_no h1
  have q2 := beq_no h2
  have q3 := beq_no h3
  have q4 := beq_no h4
  clear hm h1 h2 h3 h4
  go_enter Tryz.func23, Tryz.ntmps23
  go_wp2_with fail
  go_ret
  exact ⟨rfl, (Below.refl _ _).alloc (Nat.le_refl _) _⟩
set_option maxRecDepth 100000 in
set_option maxHeartbeats 4000000 in
theorem rmay_yes (k lo hi : Int) (h : may ⟨k, lo, hi⟩ = true) (w : World) : Calls Tryz.prog 32 #[.agg #[.int .i64 k, .int .i64 lo, .int .i64 hi]] w (BoolPost true w) := by
  have hm := (may_iff _).1 h
  dsimp only at hm
  clear h
  rcases (show k = 1 ∨ k = 2 ∨ k = 3 ∨ k = 4 by omega) with rfl | rfl | rfl | rfl
  · obtain rfl : lo = 0 := by omega
    obtain ⟨_, _, _, h2, h3, _⟩ := hm
    go_enter Tryz.func32, Tryz.ntmps32
    go_wp2_with fail
    go_ret
    exact ⟨rfl, (Below.refl _ _).alloc (Nat.le_refl _) _⟩
  · have h4 : 1 ≤ lo := by omega
    have h5 : 0 ≤ lo := by omega
    obtain ⟨_, _, _, h2, h3, _⟩ := hm
    have h6 : 0 ≤ hi := by omega
    go_enter Tryz.func32, Tryz.ntmps32
    go_wp2_with fail
    go_ret
    exact ⟨rfl, (Below.refl _ _).alloc (Nat.le_refl _) _⟩
  · have h4 : 1 ≤ lo := by omega
    have h5 : 0 ≤ lo := by omega
    obtain ⟨_, _, _, h2, h3, _⟩ := hm
    have h6 : 0 ≤ hi := by omega
    go_enter Tryz.func32, Tryz.ntmps32
    go_wp2_with fail
    go_ret
    exact ⟨rfl, (Below.refl _ _).alloc (Nat.le_refl _) _⟩
  · have h5 : 0 ≤ lo := by omega
    obtain ⟨_, _, _, h2, h3, _⟩ := hm
    have h6 : 0 ≤ hi := by omega
    go_enter Tryz.func32, Tryz.ntmps32
    go_wp2_with fail
    go_ret
    exact ⟨rfl, (Below.refl _ _).alloc (Nat.le_refl _) _⟩
set_option maxRecDepth 100000 in
set_option maxHeartbeats 8000000 in
theorem rmay_no (k lo hi : Int) (h : may ⟨k, lo, hi⟩ = false) (w : World) : Calls Tryz.prog 32 #[.agg #[.int .i64 k, .int .i64 lo, .int .i64 hi]] w (BoolPost false w) := by
  have hm : ¬ (1 ≤ k ∧ k ≤ 4 ∧ 0 ≤ lo ∧ lo ≤ hi ∧ hi ≤ 1073741824 ∧ (k = 1 → lo = 0) ∧ (k = 2 ∨ k = 3 → 1 ≤ lo)) := fun hc => by rw [(may_iff ⟨k, lo, hi⟩).2 hc] at h; cases h
  clear h
  rcases (show k < 1 ∨ (¬ k < 1 ∧ 4 < k) ∨ (¬ k < 1 ∧ ¬ 4 < k ∧ lo < 0) ∨ (¬ k < 1 ∧ ¬ 4 < k ∧ ¬ lo < 0 ∧ 1073741824 < hi) ∨ (¬ k < 1 ∧ ¬ 4 < k ∧ ¬ lo < 0 ∧ ¬ 1073741824 < hi ∧ hi < lo) ∨ (k = 1 ∧ lo ≠ 0 ∧ ¬ lo < 0 ∧ ¬ 1073741824 < hi ∧ ¬ hi < lo) ∨ (¬ k < 1 ∧ ¬ 4 < k ∧ k ≠ 1 ∧ k ≠ 4 ∧ ¬ 1 ≤ lo ∧ ¬ lo < 0 ∧ ¬ 1073741824 < hi ∧ ¬ hi < lo) by omega) with q1 | ⟨q1, q2⟩ | ⟨q1, q2, q3⟩ | ⟨q1, q2, q3, q4⟩ | ⟨q1, q2, q3, q4, q5⟩ | ⟨rfl, q6, q3, q4, q5⟩ | ⟨q1, q2, q6, q7, q8, q3, q4, q5⟩
  · clear hm
    go_enter Tryz.func32, Tryz.ntmps32
    go_wp2_with fail
    go_ret
    exact ⟨rfl, (Below.refl _ _).alloc (Nat.le_refl _) _⟩
  · clear hm
    go_enter Tryz.func32, Tryz.ntmps32
    go_wp2_with fail
    go_ret
    exact ⟨rfl, (Below.refl _ _).alloc (Nat.le_refl _) _⟩
  · clear hm
    go_enter Tryz.func32, Tryz.ntmps32
    go_wp2_with fail
    go_ret
    exact ⟨rfl, (Below.refl _ _).alloc (Nat.le_refl _) _⟩
  · clear hm
    go_enter Tryz.func32, Tryz.ntmps32
    go_wp2_with fail
    go_ret
    exact ⟨rfl, (Below.refl _ _).alloc (Nat.le_refl _) _⟩
  · clear hm
    go_enter Tryz.func32, Tryz.ntmps32
    go_wp2_with fail
    go_ret
    exact ⟨rfl, (Below.refl _ _).alloc (Nat.le_refl _) _⟩
  · clear hm
    have q6' := beq_no q6
    clear q6
    go_enter Tryz.func32, Tryz.ntmps32
    go_wp2_with fail
    go_ret
    exact ⟨rfl, (Below.refl _ _).alloc (Nat.le_refl _) _⟩
  · clear hm
    have q6' := beq_no q6
    have q7' := beq_no q7
    clear q6 q7
    go_enter Tryz.func32, Tryz.ntmps32
    go_wp2_with fail
    go_ret
    exact ⟨rfl, (Below.refl _ _).alloc (Nat.le_refl _) _⟩
theorem may_any (d : DD) (b : Bool) (hb : b = may d) (w : World) : Calls Tryz.prog 23 #[.agg #[.int .i64 d.kind, .int .i64 d.lo, .int .i64 d.hi]] w (BoolPost b w) := by
  subst hb
  cases h : may d with
  | true => exact may_yes d.kind d.lo d.hi h w
  | false => exact may_no d.kind d.lo d.hi h w
theorem rmay_any (d : DD) (b : Bool) (hb : b = may d) (w : World) : Calls Tryz.prog 32 #[.agg #[.int .i64 d.kind, .int .i64 d.lo, .int .i64 d.hi]] w (BoolPost b w) := by
  subst hb
  cases h : may d with
  | true => exact rmay_yes d.kind d.lo d.hi h w
  | false => exact rmay_no d.kind d.lo d.hi h w
end Go.Proofs.YtollmolchcnpeaaGreatDoor
