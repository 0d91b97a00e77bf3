/- value.May: whether a value may be of a kind. Printed by gen_each.py. nulls.each, ints.numbers: a list that a function makes of values. -/
import Derived.Test.YtpmglcachffojaaGreatDoorPk16
import Derived.Laws.StructEq
import Derived.Lib.QuoteBits
namespace Go.Proofs.YtpmglcachffojaaGreatDoor
open Go Go.RowKit

def mayV (k : Int) (v : VV) : Bool :=
  if 1 ≤ k ∧ k ≤ 5 then
    if v.null then decide (v.n = 0 ∧ v.s.size = 0)
    else if k = 1 then decide (v.s.size = 0 ∧ (v.n = 0 ∨ v.n = 1))
    else decide (v.s.size = 0)
  else if k = 6 ∨ k = 7 then
    if v.null then decide (v.n = 0 ∧ v.s.size = 0)
    else decide (v.n = 0 ∧ v.s.size ≤ 300 ∧ (k = 7 ∨ Lib.validD v.s.data.toList = true))
  else false
theorem wrap_zero (m : Nat) (h : m < 18446744073709551616) : IntKind.i64.wrap (m : Int) = 0 ↔ m = 0 := by
  have e : (m : Int) % 2 ^ 64 = m := Int.emod_eq_of_lt (by omega) (by omega)
  simp only [IntKind.wrap, IntKind.bits, IntKind.signed, e]
  constructor
  · intro h1
    split at h1 <;> omega
  · rintro rfl; rfl
theorem bit_only (x : Int) (h0 : -9223372036854775808 ≤ x) (h1 : x ≤ 9223372036854775807) : (bits .andNot .i64 x 1 = 0) ↔ (x = 0 ∨ x = 1) := by
  have e : bits .andNot .i64 x 1 = IntKind.i64.wrap ((BitVec.ofInt 64 x &&& ~~~BitVec.ofInt 64 ((1 : Nat) : Int)).toNat : Int) := rfl
  have hu : (BitVec.ofInt 64 x).toNat = (x % 18446744073709551616).toNat := by rw [BitVec.toNat_ofInt]; rfl
  rw [e, BitVec.toNat_and, BitVec.toNat_not, hu, ofInt_u64 1 (by omega)]
  have e2 : 2 ^ 64 - 1 - 1 = 18446744073709551614 := by decide
  rw [e2, nat_hi64_1, wrap_zero _ (by omega)]
  omega
theorem str_nil (s : ByteArray) : s = ⟨#[]⟩ ↔ s.size = 0 := by
  constructor
  · rintro rfl; rfl
  · intro h
    apply ByteArray.ext
    apply Array.eq_empty_of_size_eq_zero
    exact h
theorem bytes_inj' {a b : ByteArray} (h : a.data.toList = b.data.toList) : a = b := by
  cases a; cases b
  congr 1
  exact Array.toList_inj.1 h
theorem nil_no {s : ByteArray} (h : ¬ s.size = 0) : (s.toList == ByteArray.toList ⟨#[]⟩) = false ∧ (s.toList == []) = false ∧ s.toList.isEmpty = false ∧ ¬ s.toList = [] ∧ ¬ s = ⟨#[]⟩ := by
  have h1 : ¬ s.toList = [] := by
    rw [ByteArray.toList_eq]
    intro e
    apply h
    have := congrArg List.length e
    simpa using this
  have h2 : s.toList.isEmpty = false := by cases hq : s.toList with | nil => exact absurd hq h1 | cons _ _ => rfl
  refine ⟨?_, by simpa using h1, h2, h1, fun e => h (by rw [e]; rfl)⟩
  rw [show ByteArray.toList ⟨#[]⟩ = [] from by rw [ByteArray.toList_eq]]
  simpa using h1
theorem eqlVV (n m : Int) (s t : ByteArray) (b c : Bool) (w : World) :
    (binOp .eql 74 (.agg #[.bool b, .int .i64 n, .string s]) (.agg #[.bool c, .int .i64 m, .string t])).run Tryz.prog w = .ok (.bool (decide (b = c ∧ n = m ∧ s = t))) w := by
  have hS : Tryz.prog.underlying 74 = some (.struct (Tryz.prog.fieldsOf 74)) := by kernel_rfl
  have hp : Tryz.prog.stoodInHeld 74 = false := by kernel_rfl
  have u1 := Tryz.underlying4
  have u2 := Tryz.underlying3
  have u3 := Tryz.underlying9
  have a1 := Tryz.isAgg4
  have a2 := Tryz.isAgg3
  have a3 := Tryz.isAgg9
  have z1 := Tryz.sizeOf4
  have z2 := Tryz.sizeOf3
  have z3 := Tryz.sizeOf9
  rw [run_eql_struct, show (10000 : Nat) = 9999 + 1 from rfl, run_equalIn_agg w 9999 74 _ _ hS hp]
  simp only [Program.fieldsOf, Tryz.underlying74]
  go_simp
  by_cases h1 : b = c <;> by_cases h2 : n = m <;> by_cases h3 : s = t <;> simp [h1, h2, h3]
  intro h
  rw [ByteArray.toList_eq, ByteArray.toList_eq] at h
  exact h3 (bytes_inj' h)
set_option maxRecDepth 100000 in
set_option maxHeartbeats 2000000 in
theorem may_other (k : Int) (v : VV) (w : World) (h : ¬ (1 ≤ k ∧ k ≤ 7)) :
    Calls Tryz.prog 41 #[.int .i64 k, .agg #[.bool v.null, .int .i64 v.n, .string v.s]] w fun e w' => e = .returned (.bool false) ∧ Below w.heap.size w w' := by
  have HN := Lib.hid (show decide (1 ≤ k ∧ k ≤ 5) = false by simp; omega)
  have h6 : (k != 6) = true := bne_iff_ne.2 (by omega)
  have h7 : (k != 7) = true := bne_iff_ne.2 (by omega)
  have h6' : ¬ k = 6 := by omega
  have h7' : ¬ k = 7 := by omega
  clear h
  go_enter Tryz.func41, Tryz.ntmps41
  go_wp2_with (first
    | (go_at_call 44; refine (isnum_any _ _).mono ?_; rintro e w1 ⟨rfl, rfl⟩; rw [HN.out])
    | fail)
  go_ret
  exact ⟨rfl, (Below.refl _ _).alloc (Nat.le_refl _) _⟩
/-- Of a kind there is: the answer of Number, and what follows. -/
theorem kind_ne {k : Int} : (k = 6 → (k != 6) = false ∧ (k != 7) = true) ∧ (k = 7 → (k != 7) = false ∧ (k != 6) = true) := by
  constructor <;> rintro rfl <;> exact ⟨rfl, rfl⟩
set_option maxRecDepth 100000 in
set_option maxHeartbeats 2000000 in
theorem may_num_null (k n : Int) (s : ByteArray) (w : World) (h : 1 ≤ k ∧ k ≤ 5) :
    Calls Tryz.prog 41 #[.int .i64 k, .agg #[.bool true, .int .i64 n, .string s]] w fun e w' => e = .returned (.bool (decide (n = 0 ∧ s.size = 0))) ∧ Below w.heap.size w w' := by
  have HN := Lib.hid (show decide (1 ≤ k ∧ k ≤ 5) = true by simpa using h)
  clear h
  have he := fun w => eqlVV n 0 s ⟨#[]⟩ true true w
  have hq : decide (true = true ∧ n = 0 ∧ s = (⟨#[]⟩ : ByteArray)) = decide (n = 0 ∧ s.size = 0) := decide_eq_decide.2 (by rw [← str_nil]; simp)
  rw [hq] at he
  clear hq
  obtain ⟨q, hq⟩ : ∃ q, q = decide (n = 0 ∧ s.size = 0) := ⟨_, rfl⟩
  rw [← hq] at he ⊢
  clear hq
  go_enter Tryz.func41, Tryz.ntmps41
  go_wp2_with (first
    | (go_at_call 44; refine (isnum_any _ _).mono ?_; rintro e w1 ⟨rfl, rfl⟩; rw [HN.out])
    | fail)
  go_ret
  exact ⟨rfl, (Below.refl _ _).alloc (Nat.le_refl _) _⟩
set_option maxRecDepth 100000 in
set_option maxHeartbeats 2000000 in
theorem may_text_null (n : Int) (s : ByteArray) (w : World) :
    Calls Tryz.prog 41 #[.int .i64 6, .agg #[.bool true, .int .i64 n, .string s]] w fun e w' => e = .returned (.bool (decide (n = 0 ∧ s.size = 0))) ∧ Below w.heap.size w w' := by
  have HN := Lib.hid (show decide ((1 : Int) ≤ 6 ∧ (6 : Int) ≤ 5) = false by decide)
  skip
  have he := fun w => eqlVV n 0 s ⟨#[]⟩ true true w
  have hq : decide (true = true ∧ n = 0 ∧ s = (⟨#[]⟩ : ByteArray)) = decide (n = 0 ∧ s.size = 0) := decide_eq_decide.2 (by rw [← str_nil]; simp)
  rw [hq] at he
  clear hq
  obtain ⟨q, hq⟩ : ∃ q, q = decide (n = 0 ∧ s.size = 0) := ⟨_, rfl⟩
  rw [← hq] at he ⊢
  clear hq
  go_enter Tryz.func41, Tryz.ntmps41
  go_wp2_with (first
    | (go_at_call 44; refine (isnum_any _ _).mono ?_; rintro e w1 ⟨rfl, rfl⟩; rw [HN.out])
    | fail)
  go_ret
  exact ⟨rfl, (Below.refl _ _).alloc (Nat.le_refl _) _⟩
set_option maxRecDepth 100000 in
set_option maxHeartbeats 2000000 in
theorem may_bytes_null (n : Int) (s : ByteArray) (w : World) :
    Calls Tryz.prog 41 #[.int .i64 7, .agg #[.bool true, .int .i64 n, .string s]] w fun e w' => e = .returned (.bool (decide (n = 0 ∧ s.size = 0))) ∧ Below w.heap.size w w' := by
  have HN := Lib.hid (show decide ((1 : Int) ≤ 7 ∧ (7 : Int) ≤ 5) = false by decide)
  skip
  have he := fun w => eqlVV n 0 s ⟨#[]⟩ true true w
  have hq : decide (true = true ∧ n = 0 ∧ s = (⟨#[]⟩ : ByteArray)) = decide (n = 0 ∧ s.size = 0) := decide_eq_decide.2 (by rw [← str_nil]; simp)
  rw [hq] at he
  clear hq
  obtain ⟨q, hq⟩ : ∃ q, q = decide (n = 0 ∧ s.size = 0) := ⟨_, rfl⟩
  rw [← hq] at he ⊢
  clear hq
  go_enter Tryz.func41, Tryz.ntmps41
  go_wp2_with (first
    | (go_at_call 44; refine (isnum_any _ _).mono ?_; rintro e w1 ⟨rfl, rfl⟩; rw [HN.out])
    | fail)
  go_ret
  exact ⟨rfl, (Below.refl _ _).alloc (Nat.le_refl _) _⟩
set_option maxRecDepth 100000 in
set_option maxHeartbeats 2000000 in
theorem may_bool (n : Int) (s : ByteArray) (w : World) (h0 : -9223372036854775808 ≤ n) (h1 : n ≤ 9223372036854775807) :
    Calls Tryz.prog 41 #[.int .i64 1, .agg #[.bool false, .int .i64 n, .string s]] w fun e w' => e = .returned (.bool (decide (s.size = 0 ∧ (n = 0 ∨ n = 1)))) ∧ Below w.heap.size w w' := by
  have HN := Lib.hid (show decide ((1 : Int) ≤ 1 ∧ (1 : Int) ≤ 5) = true by decide)
  have hbit := bit_only n h0 h1
  clear h0 h1
  by_cases hs : s.size = 0
  · have HR := Lib.hid (show decide (s.size = 0 ∧ (n = 0 ∨ n = 1)) = decide (n = 0 ∨ n = 1) by simp [hs])
    obtain rfl := (str_nil s).2 hs
    clear hs
    obtain ⟨y, hy⟩ : ∃ y, bits .andNot .i64 n 1 = y := ⟨_, rfl⟩
    rw [hy] at hbit
    by_cases hy0 : y = 0
    · have HQ := Lib.hid (show decide (n = 0 ∨ n = 1) = true by simpa using hbit.1 hy0)
      clear hbit
      subst hy0
      go_enter Tryz.func41, Tryz.ntmps41
      go_wp2_with (first
        | (go_at_call 44; refine (isnum_any _ _).mono ?_; rintro e w1 ⟨rfl, rfl⟩; rw [HN.out])
        | fail)
      go_ret
      exact ⟨by rw [HR.out, HQ.out]; rfl, (Below.refl _ _).alloc (Nat.le_refl _) _⟩
    · have HQ := Lib.hid (show decide (n = 0 ∨ n = 1) = false by simpa using fun h => hy0 (hbit.2 h))
      have hyb := beq_no hy0
      clear hbit
      go_enter Tryz.func41, Tryz.ntmps41
      go_wp2_with (first
        | (go_at_call 44; refine (isnum_any _ _).mono ?_; rintro e w1 ⟨rfl, rfl⟩; rw [HN.out])
        | fail)
      go_ret
      exact ⟨by rw [HR.out, HQ.out]; rfl, (Below.refl _ _).alloc (Nat.le_refl _) _⟩
  · have HR := Lib.hid (show decide (s.size = 0 ∧ (n = 0 ∨ n = 1)) = false by simp [hs])
    obtain ⟨a1, a2, a3, a4, a5⟩ := nil_no hs
    clear hs hbit
    go_enter Tryz.func41, Tryz.ntmps41
    go_wp2_with (first
      | (go_at_call 44; refine (isnum_any _ _).mono ?_; rintro e w1 ⟨rfl, rfl⟩; rw [HN.out])
      | fail)
    go_ret
    exact ⟨by first | (rw [HR.out]; rfl) | rfl, (Below.refl _ _).alloc (Nat.le_refl _) _⟩
set_option maxRecDepth 100000 in
set_option maxHeartbeats 2000000 in
theorem may_num (k n : Int) (s : ByteArray) (w : World) (h : 1 ≤ k ∧ k ≤ 5) (hk1 : ¬ k = 1) :
    Calls Tryz.prog 41 #[.int .i64 k, .agg #[.bool false, .int .i64 n, .string s]] w fun e w' => e = .returned (.bool (decide (s.size = 0))) ∧ Below w.heap.size w w' := by
  have HN := Lib.hid (show decide (1 ≤ k ∧ k ≤ 5) = true by simpa using h)
  have hkb := beq_no hk1
  clear h
  by_cases hs : s.size = 0
  · have HR := Lib.hid (show decide (s.size = 0) = true by simp [hs])
    obtain rfl := (str_nil s).2 hs
    clear hs
    go_enter Tryz.func41, Tryz.ntmps41
    go_wp2_with (first
      | (go_at_call 44; refine (isnum_any _ _).mono ?_; rintro e w1 ⟨rfl, rfl⟩; rw [HN.out])
      | fail)
    go_ret
    exact ⟨by first | (rw [HR.out]; rfl) | rfl, (Below.refl _ _).alloc (Nat.le_refl _) _⟩
  · have HR := Lib.hid (show decide (s.size = 0) = false by simp [hs])
    obtain ⟨a1, a2, a3, a4, a5⟩ := nil_no hs
    clear hs
    go_enter Tryz.func41, Tryz.ntmps41
    go_wp2_with (first
      | (go_at_call 44; refine (isnum_any _ _).mono ?_; rintro e w1 ⟨rfl, rfl⟩; rw [HN.out])
      | fail)
    go_ret
    exact ⟨by first | (rw [HR.out]; rfl) | rfl, (Below.refl _ _).alloc (Nat.le_refl _) _⟩
set_option maxRecDepth 100000 in
set_option maxHeartbeats 2000000 in
theorem may_text (n : Int) (s : ByteArray) (w : World) (hT : Lib.Utf8Tabs 0 1 w) :
    Calls Tryz.prog 41 #[.int .i64 6, .agg #[.bool false, .int .i64 n, .string s]] w fun e w' => e = .returned (.bool (decide (n = 0 ∧ s.size ≤ 300 ∧ Lib.validD s.data.toList = true))) ∧ Below w.heap.size w w' := by
  have HN := Lib.hid (show decide ((1 : Int) ≤ 6 ∧ (6 : Int) ≤ 5) = false by decide)
  have HT := Lib.hid hT; clear hT
  by_cases hn : n = 0
  · subst hn
    by_cases hl : s.size ≤ 300
    · have hlI : (s.size : Int) ≤ 300 := by omega
      obtain ⟨vd, hvd⟩ : ∃ vd, vd = Lib.validD s.data.toList := ⟨_, rfl⟩
      have HVD := Lib.hid (show Lib.validD s.data.toList = vd from hvd.symm)
      have HR := Lib.hid (show decide ((0 : Int) = 0 ∧ s.size ≤ 300 ∧ Lib.validD s.data.toList = true) = vd by rw [← hvd]; simp [hl])
      clear hvd
      go_enter Tryz.func41, Tryz.ntmps41
      go_wp2_with (first
        | (go_at_call 44; refine (isnum_any _ _).mono ?_; rintro e w1 ⟨rfl, rfl⟩; rw [HN.out])
        | (go_at_call 87; refine (right_any s _ (tabs_below HT.out ((Below.refl _ _).alloc (Nat.le_refl _) _))).mono ?_; rintro e w2 ⟨rfl, hb2⟩; rw [HVD.out]; have HB2 := Lib.hid hb2; clear hb2)
        | fail)
      go_ret
      exact ⟨by rw [HR.out]; rfl, (Below.alloc (Below.refl _ _) (Nat.le_refl _) _).trans (HB2.out.mono (Below.alloc (Below.refl _ _) (Nat.le_refl _) _).size)⟩
    · have hlI : ¬ (s.size : Int) ≤ 300 := by omega
      have HR := Lib.hid (show (decide ((0 : Int) = 0 ∧ s.size ≤ 300 ∧ Lib.validD s.data.toList = true)) = false by simp [hl])
      go_enter Tryz.func41, Tryz.ntmps41
      go_wp2_with (first
        | (go_at_call 44; refine (isnum_any _ _).mono ?_; rintro e w1 ⟨rfl, rfl⟩; rw [HN.out])
        | fail)
      go_ret
      exact ⟨by first | (rw [HR.out]; rfl) | rfl, (Below.refl _ _).alloc (Nat.le_refl _) _⟩
  · have hnb := beq_no hn
    have HR := Lib.hid (show (decide (n = 0 ∧ s.size ≤ 300 ∧ Lib.validD s.data.toList = true)) = false by simp [hn])
    go_enter Tryz.func41, Tryz.ntmps41
    go_wp2_with (first
      | (go_at_call 44; refine (isnum_any _ _).mono ?_; rintro e w1 ⟨rfl, rfl⟩; rw [HN.out])
      | fail)
    go_ret
    exact ⟨by first | (rw [HR.out]; rfl) | rfl, (Below.refl _ _).alloc (Nat.le_refl _) _⟩
set_option maxRecDepth 100000 in
set_option maxHeartbeats 2000000 in
theorem may_bytes (n : Int) (s : ByteArray) (w : World) :
    Calls Tryz.prog 41 #[.int .i64 7, .agg #[.bool false, .int .i64 n, .string s]] w fun e w' => e = .returned (.bool (decide (n = 0 ∧ s.size ≤ 300))) ∧ Below w.heap.size w w' := by
  have HN := Lib.hid (show decide ((1 : Int) ≤ 7 ∧ (7 : Int) ≤ 5) = false by decide)
  skip
  by_cases hn : n = 0
  · subst hn
    by_cases hl : s.size ≤ 300
    · have hlI : (s.size : Int) ≤ 300 := by omega
      have HR := Lib.hid (show decide ((0 : Int) = 0 ∧ s.size ≤ 300) = true by simp [hl])
      go_enter Tryz.func41, Tryz.ntmps41
      go_wp2_with (first
        | (go_at_call 44; refine (isnum_any _ _).mono ?_; rintro e w1 ⟨rfl, rfl⟩; rw [HN.out])
        | fail)
      go_ret
      exact ⟨by first | (rw [HR.out]; rfl) | rfl, (Below.refl _ _).alloc (Nat.le_refl _) _⟩
    · have hlI : ¬ (s.size : Int) ≤ 300 := by omega
      have HR := Lib.hid (show (decide ((0 : Int) = 0 ∧ s.size ≤ 300)) = false by simp [hl])
      go_enter Tryz.func41, Tryz.ntmps41
      go_wp2_with (first
        | (go_at_call 44; refine (isnum_any _ _).mono ?_; rintro e w1 ⟨rfl, rfl⟩; rw [HN.out])
        | fail)
      go_ret
      exact ⟨by first | (rw [HR.out]; rfl) | rfl, (Below.refl _ _).alloc (Nat.le_refl _) _⟩
  · have hnb := beq_no hn
    have HR := Lib.hid (show (decide (n = 0 ∧ s.size ≤ 300)) = false by simp [hn])
    go_enter Tryz.func41, Tryz.ntmps41
    go_wp2_with (first
      | (go_at_call 44; refine (isnum_any _ _).mono ?_; rintro e w1 ⟨rfl, rfl⟩; rw [HN.out])
      | fail)
    go_ret
    exact ⟨by first | (rw [HR.out]; rfl) | rfl, (Below.refl _ _).alloc (Nat.le_refl _) _⟩
theorem may_any (k : Int) (v : VV) (hv : v.ok) (w : World) (hT : Lib.Utf8Tabs 0 1 w) :
    Calls Tryz.prog 41 #[.int .i64 k, .agg #[.bool v.null, .int .i64 v.n, .string v.s]] w fun e w' => e = .returned (.bool (mayV k v)) ∧ Below w.heap.size w w' := by
  obtain ⟨nu, n, s⟩ := v
  obtain ⟨h0, h1, _⟩ := hv
  unfold mayV
  by_cases h : 1 ≤ k ∧ k ≤ 5
  · rw [if_pos h]
    cases nu
    · rw [if_neg Bool.false_ne_true]
      by_cases hk : k = 1
      · subst hk
        exact may_bool n s w h0 h1
      · rw [if_neg hk]
        exact may_num k n s w h hk
    · exact may_num_null k n s w h
  · rw [if_neg h]
    by_cases h6 : k = 6
    · subst h6
      cases nu
      · simpa using may_text n s w hT
      · exact may_text_null n s w
    · by_cases h7 : k = 7
      · subst h7
        cases nu
        · simpa using may_bytes n s w
        · exact may_bytes_null n s w
      · rw [if_neg (by omega)]
        exact may_other k ⟨nu, n, s⟩ w (by omega)
end Go.Proofs.YtpmglcachffojaaGreatDoor
namespace Go.Proofs.YtpmglcachffojaaGreatDoor
open Go Go.RowKit

theorem elemBool : ElemOf Tryz.prog 139 4 tBool.size := ElemOf.mk' (bytes := 1) (z := .bool false) (by kernel_rfl) (by kernel_rfl) rfl (by decide) (by decide)
theorem elemI64 : ElemOf Tryz.prog 94 3 tI64.size := ElemOf.mk' (bytes := 8) (z := .int .i64 0) (by kernel_rfl) (by kernel_rfl) rfl (by decide) (by decide)
theorem calls_same {P : Program} {f : FuncId} {args : Array Value} {w : World} {r : Ending} (h : Calls P f args w fun e w' => e = r ∧ w = w') : Calls P f args w fun e w' => e = r ∧ Below w.heap.size w w' :=
  h.mono fun _ _ h2 => ⟨h2.1, by rw [← h2.2]; exact Below.refl _ _⟩
theorem at_app {P : Program} {ops : Array Oper} {o : Oper} {a : Act} {w : World} {Q : Exit → Act → World → Prop} {K : Act → World → Prop} {E' : Prop} (s x : Operand) (t : TypeId) (_ : o.op = .call { callee := .builtin .append, args := #[s, x], argTypes := #[t, t] })
    (h : if Region.wanted o (yielded ops a.tmps) = true then Oper.wp P o a w K Q else E') : if Region.wanted o (yielded ops a.tmps) = true then Oper.wp P o a w K Q else E' := h
/-- The call answers a list of its own. -/
def OwnE {α : Type} (T : Ty α) (t : TypeId) (l : List α) (w : World) (e : Ending) (w' : World) : Prop :=
  ∃ A n c, e = .returned (.slice A n c) ∧ Own T t w' w.heap.size A n c l ∧ Below w.heap.size w w'
set_option maxRecDepth 100000 in
set_option maxHeartbeats 1000000 in
theorem each_any (F : Nat → Prop) (A : Option Addr) (n c : Nat) (l : List VV) (w : World) (h : Sl tVV F w A n c l) (hl : n ≤ 4096) :
    Calls Tryz.prog 146 #[.slice A n c, .func (.func 147) #[] #[]] w (OwnE tBool 4 (l.map (fun v : VV => !v.null)) w) := by
  have HL := Lib.hid h.len
  go_enter Tryz.func146, Tryz.ntmps146
  go_wp2
  go_loopw [5, 10] (fun v i wr => ∃ (k : Nat) (A2 : Option Addr) (c2 : Nat) (G : Nat → Prop), k ≤ n ∧ i = .int .i64 k ∧ v = .slice A2 k c2 ∧ OwnF tBool 4 G wr w.heap.size A2 k c2 ((l.take k).map (fun v : VV => !v.null)) ∧ Below w.heap.size w wr)
    (fun _ i _ => n - (intOf i).toNat)
  case atStart => exact ⟨0, none, 0, fun _ => False, Nat.zero_le _, rfl, rfl, OwnF.nil_ _ _ _ _ _, Below.refl _ _⟩
  case round =>
    obtain ⟨k, A2, c2, G, hk, rfl, rfl, hown, hb⟩ := hrel
    by_cases hlt : k < n
    · have hkl : k < l.length := by rw [← HL.out]; exact hlt
      obtain ⟨b, o, cs, rfl, _, hbl, hrep, hc⟩ := (h.below hb (Nat.le_refl _)).at_ hkl (by decide)
      obtain ⟨v, hf⟩ : ∃ v, v = l[k] := ⟨_, rfl⟩
      obtain ⟨rfl, hok⟩ := hrep
      rw [← hf] at hc hok
      obtain ⟨nu, x, s⟩ := v
      obtain ⟨x0, x1, _⟩ := hok
      have x0 : -9223372036854775808 ≤ x := x0
      have x1 : x ≤ 9223372036854775807 := x1
      have HF := Lib.hid hf; clear hf
      obtain ⟨g0, g1, g2⟩ := cells3 hc
      clear hc
      have g0 : _ = some (Value.bool nu) := g0
      have g1 : _ = some (Value.int .i64 x) := g1
      have g2 : _ = some (Value.string s) := g2
      have HO := Lib.hid hown; clear hown
      have hsz := hb.size
      
      go_wp2_with (first
        | (go_at_call 147; refine (is_any nu x s _).mono ?_; rintro e w1 ⟨rfl, hb3⟩; have HB3 := Lib.hid hb3; clear hb3)
        | (at_builtin; refine apl1 (T := tBool) elemBool w1 w rfl (.tmp 14) (.tmp 18) rfl w.heap.size A2 k c2 ((l.take k).map (fun v : VV => !v.null)) (by rfl) G (fun _ => False) (by first | exact (HO.out.alloc _).keepB HB3.out | exact ((HO.out.alloc _).keepB ((Below.refl _ _).drew)).keepB HB3.out) (by first | exact (hb.alloc hsz _).trans (HB3.out.mono (by simp; omega)) | exact (hb.alloc hsz _).drew.trans (HB3.out.mono (by simp; omega))) (Nat.le_refl _) _ (by rfl) [.bool (!nu)] ((fun v : VV => !v.null) ⟨nu, x, s⟩) (by rfl) 4 rfl (fun _ _ _ _ h4 => h4) (by omega) ?_; intro A5 c5 w5 h5))
      go_roundw
      case rel =>
        have e1 : (l.take (k + 1)).map (fun v : VV => !v.null) = (l.take k).map (fun v : VV => !v.null) ++ [(fun v : VV => !v.null) ⟨nu, x, s⟩] := by
          rw [List.take_succ_eq_append_getElem hkl, List.map_append, ← HF.out]; rfl
        have e2 := h5.own
        rw [← e1] at e2
        exact ⟨k + 1, A5, c5, _, by omega, by go_num, rfl, e2, h5.below⟩
      case measure => simp [intOf]; omega
    · obtain rfl : k = n := by omega
      have e1 : l.take k = l := List.take_of_length_le (by rw [← HL.out]; exact Nat.le_refl _)
      rw [e1] at hown
      have HO := Lib.hid hown; clear hown e1
      go_wp2
      go_ret
      exact ⟨A2, k, c2, rfl, ⟨G, HO.out⟩, hb⟩
set_option maxRecDepth 100000 in
set_option maxHeartbeats 1000000 in
theorem truths_any (F : Nat → Prop) (A : Option Addr) (n c : Nat) (l : List VV) (w : World) (h : Sl tVV F w A n c l) (hl : n ≤ 4096) :
    Calls Tryz.prog 90 #[.slice A n c, .func (.func 91) #[] #[]] w (OwnE tBool 4 (l.map (fun v : VV => v.n == 1)) w) := by
  have HL := Lib.hid h.len
  go_enter Tryz.func90, Tryz.ntmps90
  go_wp2
  go_loopw [5, 10] (fun v i wr => ∃ (k : Nat) (A2 : Option Addr) (c2 : Nat) (G : Nat → Prop), k ≤ n ∧ i = .int .i64 k ∧ v = .slice A2 k c2 ∧ OwnF tBool 4 G wr w.heap.size A2 k c2 ((l.take k).map (fun v : VV => v.n == 1)) ∧ Below w.heap.size w wr)
    (fun _ i _ => n - (intOf i).toNat)
  case atStart => exact ⟨0, none, 0, fun _ => False, Nat.zero_le _, rfl, rfl, OwnF.nil_ _ _ _ _ _, Below.refl _ _⟩
  case round =>
    obtain ⟨k, A2, c2, G, hk, rfl, rfl, hown, hb⟩ := hrel
    by_cases hlt : k < n
    · have hkl : k < l.length := by rw [← HL.out]; exact hlt
      obtain ⟨b, o, cs, rfl, _, hbl, hrep, hc⟩ := (h.below hb (Nat.le_refl _)).at_ hkl (by decide)
      obtain ⟨v, hf⟩ : ∃ v, v = l[k] := ⟨_, rfl⟩
      obtain ⟨rfl, hok⟩ := hrep
      rw [← hf] at hc hok
      obtain ⟨nu, x, s⟩ := v
      obtain ⟨x0, x1, _⟩ := hok
      have x0 : -9223372036854775808 ≤ x := x0
      have x1 : x ≤ 9223372036854775807 := x1
      have HF := Lib.hid hf; clear hf
      obtain ⟨g0, g1, g2⟩ := cells3 hc
      clear hc
      have g0 : _ = some (Value.bool nu) := g0
      have g1 : _ = some (Value.int .i64 x) := g1
      have g2 : _ = some (Value.string s) := g2
      have HO := Lib.hid hown; clear hown
      have hsz := hb.size
      
      go_wp2_with (first
        | (go_at_call 91; refine (calls_same (isone_any x _)).mono ?_; rintro e w1 ⟨rfl, hb3⟩; have HB3 := Lib.hid hb3; clear hb3)
        | (at_builtin; refine apl1 (T := tBool) elemBool w1 w rfl (.tmp 14) (.tmp 19) rfl w.heap.size A2 k c2 ((l.take k).map (fun v : VV => v.n == 1)) (by rfl) G (fun _ => False) (by first | exact (HO.out.alloc _).keepB HB3.out | exact ((HO.out.alloc _).keepB ((Below.refl _ _).drew)).keepB HB3.out) (by first | exact (hb.alloc hsz _).trans (HB3.out.mono (by simp; omega)) | exact (hb.alloc hsz _).drew.trans (HB3.out.mono (by simp; omega))) (Nat.le_refl _) _ (by rfl) [.bool (x == 1)] ((fun v : VV => v.n == 1) ⟨nu, x, s⟩) (by rfl) 4 rfl (fun _ _ _ _ h4 => h4) (by omega) ?_; intro A5 c5 w5 h5))
      go_roundw
      case rel =>
        have e1 : (l.take (k + 1)).map (fun v : VV => v.n == 1) = (l.take k).map (fun v : VV => v.n == 1) ++ [(fun v : VV => v.n == 1) ⟨nu, x, s⟩] := by
          rw [List.take_succ_eq_append_getElem hkl, List.map_append, ← HF.out]; rfl
        have e2 := h5.own
        rw [← e1] at e2
        exact ⟨k + 1, A5, c5, _, by omega, by go_num, rfl, e2, h5.below⟩
      case measure => simp [intOf]; omega
    · obtain rfl : k = n := by omega
      have e1 : l.take k = l := List.take_of_length_le (by rw [← HL.out]; exact Nat.le_refl _)
      rw [e1] at hown
      have HO := Lib.hid hown; clear hown e1
      go_wp2
      go_ret
      exact ⟨A2, k, c2, rfl, ⟨G, HO.out⟩, hb⟩
set_option maxRecDepth 100000 in
set_option maxHeartbeats 1000000 in
theorem wholes_any (F : Nat → Prop) (A : Option Addr) (n c : Nat) (l : List VV) (w : World) (h : Sl tVV F w A n c l) (hl : n ≤ 4096) :
    Calls Tryz.prog 93 #[.slice A n c, .func (.func 94) #[] #[]] w (OwnE tI64 3 (l.map (fun v : VV => v.n / 1000)) w) := by
  have HL := Lib.hid h.len
  go_enter Tryz.func93, Tryz.ntmps93
  go_wp2
  go_loopw [5, 10] (fun v i wr => ∃ (k : Nat) (A2 : Option Addr) (c2 : Nat) (G : Nat → Prop), k ≤ n ∧ i = .int .i64 k ∧ v = .slice A2 k c2 ∧ OwnF tI64 3 G wr w.heap.size A2 k c2 ((l.take k).map (fun v : VV => v.n / 1000)) ∧ Below w.heap.size w wr)
    (fun _ i _ => n - (intOf i).toNat)
  case atStart => exact ⟨0, none, 0, fun _ => False, Nat.zero_le _, rfl, rfl, OwnF.nil_ _ _ _ _ _, Below.refl _ _⟩
  case round =>
    obtain ⟨k, A2, c2, G, hk, rfl, rfl, hown, hb⟩ := hrel
    by_cases hlt : k < n
    · have hkl : k < l.length := by rw [← HL.out]; exact hlt
      obtain ⟨b, o, cs, rfl, _, hbl, hrep, hc⟩ := (h.below hb (Nat.le_refl _)).at_ hkl (by decide)
      obtain ⟨v, hf⟩ : ∃ v, v = l[k] := ⟨_, rfl⟩
      obtain ⟨rfl, hok⟩ := hrep
      rw [← hf] at hc hok
      obtain ⟨nu, x, s⟩ := v
      obtain ⟨x0, x1, _⟩ := hok
      have x0 : -9223372036854775808 ≤ x := x0
      have x1 : x ≤ 9223372036854775807 := x1
      have HF := Lib.hid hf; clear hf
      obtain ⟨g0, g1, g2⟩ := cells3 hc
      clear hc
      have g0 : _ = some (Value.bool nu) := g0
      have g1 : _ = some (Value.int .i64 x) := g1
      have g2 : _ = some (Value.string s) := g2
      have HO := Lib.hid hown; clear hown
      have hsz := hb.size
      have HZ := Lib.hid (show -9223372036854775808 ≤ ((fun v : VV => v.n / 1000) ⟨nu, x, s⟩) ∧ ((fun v : VV => v.n / 1000) ⟨nu, x, s⟩) ≤ 9223372036854775807 by constructor <;> (show _ ≤ _; dsimp only; omega))
      go_wp2_with (first
        | (go_at_call 94; refine (calls_same (whole_any x x0 x1 _)).mono ?_; rintro e w1 ⟨rfl, hb3⟩; have HB3 := Lib.hid hb3; clear hb3)
        | (at_builtin; refine apl1 (T := tI64) elemI64 w1 w rfl (.tmp 14) (.tmp 19) rfl w.heap.size A2 k c2 ((l.take k).map (fun v : VV => v.n / 1000)) (by rfl) G (fun _ => False) (by first | exact (HO.out.alloc _).keepB HB3.out | exact ((HO.out.alloc _).keepB ((Below.refl _ _).drew)).keepB HB3.out) (by first | exact (hb.alloc hsz _).trans (HB3.out.mono (by simp; omega)) | exact (hb.alloc hsz _).drew.trans (HB3.out.mono (by simp; omega))) (Nat.le_refl _) _ (by rfl) [.int .i64 (x / 1000)] ((fun v : VV => v.n / 1000) ⟨nu, x, s⟩) ⟨rfl, HZ.out⟩ 3 rfl (fun _ _ _ _ h4 => h4) (by omega) ?_; intro A5 c5 w5 h5))
      go_roundw
      case rel =>
        have e1 : (l.take (k + 1)).map (fun v : VV => v.n / 1000) = (l.take k).map (fun v : VV => v.n / 1000) ++ [(fun v : VV => v.n / 1000) ⟨nu, x, s⟩] := by
          rw [List.take_succ_eq_append_getElem hkl, List.map_append, ← HF.out]; rfl
        have e2 := h5.own
        rw [← e1] at e2
        exact ⟨k + 1, A5, c5, _, by omega, by go_num, rfl, e2, h5.below⟩
      case measure => simp [intOf]; omega
    · obtain rfl : k = n := by omega
      have e1 : l.take k = l := List.take_of_length_le (by rw [← HL.out]; exact Nat.le_refl _)
      rw [e1] at hown
      have HO := Lib.hid hown; clear hown e1
      go_wp2
      go_ret
      exact ⟨A2, k, c2, rfl, ⟨G, HO.out⟩, hb⟩
set_option maxRecDepth 100000 in
set_option maxHeartbeats 1000000 in
theorem lefts_any (F : Nat → Prop) (A : Option Addr) (n c : Nat) (l : List VV) (w : World) (h : Sl tVV F w A n c l) (hl : n ≤ 4096) :
    Calls Tryz.prog 93 #[.slice A n c, .func (.func 95) #[] #[]] w (OwnE tI64 3 (l.map (fun v : VV => v.n % 1000)) w) := by
  have HL := Lib.hid h.len
  go_enter Tryz.func93, Tryz.ntmps93
  go_wp2
  go_loopw [5, 10] (fun v i wr => ∃ (k : Nat) (A2 : Option Addr) (c2 : Nat) (G : Nat → Prop), k ≤ n ∧ i = .int .i64 k ∧ v = .slice A2 k c2 ∧ OwnF tI64 3 G wr w.heap.size A2 k c2 ((l.take k).map (fun v : VV => v.n % 1000)) ∧ Below w.heap.size w wr)
    (fun _ i _ => n - (intOf i).toNat)
  case atStart => exact ⟨0, none, 0, fun _ => False, Nat.zero_le _, rfl, rfl, OwnF.nil_ _ _ _ _ _, Below.refl _ _⟩
  case round =>
    obtain ⟨k, A2, c2, G, hk, rfl, rfl, hown, hb⟩ := hrel
    by_cases hlt : k < n
    · have hkl : k < l.length := by rw [← HL.out]; exact hlt
      obtain ⟨b, o, cs, rfl, _, hbl, hrep, hc⟩ := (h.below hb (Nat.le_refl _)).at_ hkl (by decide)
      obtain ⟨v, hf⟩ : ∃ v, v = l[k] := ⟨_, rfl⟩
      obtain ⟨rfl, hok⟩ := hrep
      rw [← hf] at hc hok
      obtain ⟨nu, x, s⟩ := v
      obtain ⟨x0, x1, _⟩ := hok
      have x0 : -9223372036854775808 ≤ x := x0
      have x1 : x ≤ 9223372036854775807 := x1
      have HF := Lib.hid hf; clear hf
      obtain ⟨g0, g1, g2⟩ := cells3 hc
      clear hc
      have g0 : _ = some (Value.bool nu) := g0
      have g1 : _ = some (Value.int .i64 x) := g1
      have g2 : _ = some (Value.string s) := g2
      have HO := Lib.hid hown; clear hown
      have hsz := hb.size
      have HZ := Lib.hid (show -9223372036854775808 ≤ ((fun v : VV => v.n % 1000) ⟨nu, x, s⟩) ∧ ((fun v : VV => v.n % 1000) ⟨nu, x, s⟩) ≤ 9223372036854775807 by constructor <;> (show _ ≤ _; dsimp only; omega))
      go_wp2_with (first
        | (go_at_call 95; refine (calls_same (left_any x x0 x1 _)).mono ?_; rintro e w1 ⟨rfl, hb3⟩; have HB3 := Lib.hid hb3; clear hb3)
        | (at_builtin; refine apl1 (T := tI64) elemI64 w1 w rfl (.tmp 14) (.tmp 19) rfl w.heap.size A2 k c2 ((l.take k).map (fun v : VV => v.n % 1000)) (by rfl) G (fun _ => False) (by first | exact (HO.out.alloc _).keepB HB3.out | exact ((HO.out.alloc _).keepB ((Below.refl _ _).drew)).keepB HB3.out) (by first | exact (hb.alloc hsz _).trans (HB3.out.mono (by simp; omega)) | exact (hb.alloc hsz _).drew.trans (HB3.out.mono (by simp; omega))) (Nat.le_refl _) _ (by rfl) [.int .i64 (x % 1000)] ((fun v : VV => v.n % 1000) ⟨nu, x, s⟩) ⟨rfl, HZ.out⟩ 3 rfl (fun _ _ _ _ h4 => h4) (by omega) ?_; intro A5 c5 w5 h5))
      go_roundw
      case rel =>
        have e1 : (l.take (k + 1)).map (fun v : VV => v.n % 1000) = (l.take k).map (fun v : VV => v.n % 1000) ++ [(fun v : VV => v.n % 1000) ⟨nu, x, s⟩] := by
          rw [List.take_succ_eq_append_getElem hkl, List.map_append, ← HF.out]; rfl
        have e2 := h5.own
        rw [← e1] at e2
        exact ⟨k + 1, A5, c5, _, by omega, by go_num, rfl, e2, h5.below⟩
      case measure => simp [intOf]; omega
    · obtain rfl : k = n := by omega
      have e1 : l.take k = l := List.take_of_length_le (by rw [← HL.out]; exact Nat.le_refl _)
      rw [e1] at hown
      have HO := Lib.hid hown; clear hown e1
      go_wp2
      go_ret
      exact ⟨A2, k, c2, rfl, ⟨G, HO.out⟩, hb⟩
set_option maxRecDepth 100000 in
set_option maxHeartbeats 1000000 in
theorem nums_any (F : Nat → Prop) (A : Option Addr) (n c : Nat) (l : List VV) (w : World) (h : Sl tVV F w A n c l) (hl : n ≤ 4096) :
    Calls Tryz.prog 93 #[.slice A n c, .func (.func 96) #[] #[]] w (OwnE tI64 3 (l.map (fun v : VV => v.n)) w) := by
  have HL := Lib.hid h.len
  go_enter Tryz.func93, Tryz.ntmps93
  go_wp2
  go_loopw [5, 10] (fun v i wr => ∃ (k : Nat) (A2 : Option Addr) (c2 : Nat) (G : Nat → Prop), k ≤ n ∧ i = .int .i64 k ∧ v = .slice A2 k c2 ∧ OwnF tI64 3 G wr w.heap.size A2 k c2 ((l.take k).map (fun v : VV => v.n)) ∧ Below w.heap.size w wr)
    (fun _ i _ => n - (intOf i).toNat)
  case atStart => exact ⟨0, none, 0, fun _ => False, Nat.zero_le _, rfl, rfl, OwnF.nil_ _ _ _ _ _, Below.refl _ _⟩
  case round =>
    obtain ⟨k, A2, c2, G, hk, rfl, rfl, hown, hb⟩ := hrel
    by_cases hlt : k < n
    · have hkl : k < l.length := by rw [← HL.out]; exact hlt
      obtain ⟨b, o, cs, rfl, _, hbl, hrep, hc⟩ := (h.below hb (Nat.le_refl _)).at_ hkl (by decide)
      obtain ⟨v, hf⟩ : ∃ v, v = l[k] := ⟨_, rfl⟩
      obtain ⟨rfl, hok⟩ := hrep
      rw [← hf] at hc hok
      obtain ⟨nu, x, s⟩ := v
      obtain ⟨x0, x1, _⟩ := hok
      have x0 : -9223372036854775808 ≤ x := x0
      have x1 : x ≤ 9223372036854775807 := x1
      have HF := Lib.hid hf; clear hf
      obtain ⟨g0, g1, g2⟩ := cells3 hc
      clear hc
      have g0 : _ = some (Value.bool nu) := g0
      have g1 : _ = some (Value.int .i64 x) := g1
      have g2 : _ = some (Value.string s) := g2
      have HO := Lib.hid hown; clear hown
      have hsz := hb.size
      have HZ := Lib.hid (show -9223372036854775808 ≤ ((fun v : VV => v.n) ⟨nu, x, s⟩) ∧ ((fun v : VV => v.n) ⟨nu, x, s⟩) ≤ 9223372036854775807 by constructor <;> (show _ ≤ _; dsimp only; omega))
      go_wp2_with (first
        | (go_at_call 96; refine (calls_same (ident_any x _)).mono ?_; rintro e w1 ⟨rfl, hb3⟩; have HB3 := Lib.hid hb3; clear hb3)
        | (at_builtin; refine apl1 (T := tI64) elemI64 w1 w rfl (.tmp 14) (.tmp 19) rfl w.heap.size A2 k c2 ((l.take k).map (fun v : VV => v.n)) (by rfl) G (fun _ => False) (by first | exact (HO.out.alloc _).keepB HB3.out | exact ((HO.out.alloc _).keepB ((Below.refl _ _).drew)).keepB HB3.out) (by first | exact (hb.alloc hsz _).trans (HB3.out.mono (by simp; omega)) | exact (hb.alloc hsz _).drew.trans (HB3.out.mono (by simp; omega))) (Nat.le_refl _) _ (by rfl) [.int .i64 x] ((fun v : VV => v.n) ⟨nu, x, s⟩) ⟨rfl, HZ.out⟩ 3 rfl (fun _ _ _ _ h4 => h4) (by omega) ?_; intro A5 c5 w5 h5))
      go_roundw
      case rel =>
        have e1 : (l.take (k + 1)).map (fun v : VV => v.n) = (l.take k).map (fun v : VV => v.n) ++ [(fun v : VV => v.n) ⟨nu, x, s⟩] := by
          rw [List.take_succ_eq_append_getElem hkl, List.map_append, ← HF.out]; rfl
        have e2 := h5.own
        rw [← e1] at e2
        exact ⟨k + 1, A5, c5, _, by omega, by go_num, rfl, e2, h5.below⟩
      case measure => simp [intOf]; omega
    · obtain rfl : k = n := by omega
      have e1 : l.take k = l := List.take_of_length_le (by rw [← HL.out]; exact Nat.le_refl _)
      rw [e1] at hown
      have HO := Lib.hid hown; clear hown e1
      go_wp2
      go_ret
      exact ⟨A2, k, c2, rfl, ⟨G, HO.out⟩, hb⟩
end Go.Proofs.YtpmglcachffojaaGreatDoor
