/- Directories and their names: what may be, the name, the digits of a number, the number of digits. Plain Lean; no program in sight. -/
import Derived.Lib.ItoaNum
import Derived.Lib.AtoiAllCases
namespace Go.Proofs.YtollmolchcnpeaaGreatDoor

structure DD where
  kind : Int
  lo : Int
  hi : Int
  deriving DecidableEq
def DD.zero : DD := ⟨0, 0, 0⟩

def may (d : DD) : Bool :=
  if d.kind = 1 then decide (d.lo = 0 ∧ 0 ≤ d.hi ∧ d.hi ≤ 1073741824)
  else if d.kind = 2 ∨ d.kind = 3 then decide (1 ≤ d.lo ∧ d.lo ≤ d.hi ∧ d.hi ≤ 1073741824)
  else if d.kind = 4 then decide (0 ≤ d.lo ∧ d.lo ≤ d.hi ∧ d.hi ≤ 1073741824)
  else false
theorem may_iff (d : DD) : may d = true ↔ 1 ≤ d.kind ∧ d.kind ≤ 4 ∧ 0 ≤ d.lo ∧ d.lo ≤ d.hi ∧ d.hi ≤ 1073741824 ∧ (d.kind = 1 → d.lo = 0) ∧ (d.kind = 2 ∨ d.kind = 3 → 1 ≤ d.lo) := by
  unfold may
  split
  · simp only [decide_eq_true_eq]; omega
  · split
    · simp only [decide_eq_true_eq]; omega
    · split
      · simp only [decide_eq_true_eq]; omega
      · simp only [Bool.false_eq_true, false_iff]; omega
theorem may_b {d : DD} (h : may d = true) : 0 ≤ d.lo ∧ d.lo ≤ d.hi ∧ d.hi ≤ 1073741824 := by
  rw [may_iff] at h; omega

/-! digits -/
def dz (k n : Nat) : List UInt8 :=
  if _h : n = 0 then List.replicate k 48 else dz (k - 1) (n / 10) ++ [UInt8.ofNat (48 + n % 10)]
termination_by n
decreasing_by omega
theorem dz_zero (k : Nat) : dz k 0 = List.replicate k 48 := by rw [dz, dif_pos rfl]
theorem dz_step (k n : Nat) (h : 0 < k ∨ 0 < n) : dz k n = dz (k - 1) (n / 10) ++ [UInt8.ofNat (48 + n % 10)] := by
  by_cases hn : n = 0
  · subst hn
    obtain ⟨k, rfl⟩ : ∃ j, k = j + 1 := ⟨k - 1, by omega⟩
    rw [dz_zero, Nat.add_sub_cancel, Nat.zero_div, dz_zero, List.replicate_succ']
    rfl
  · rw [dz, dif_neg hn]
theorem dig_nat (m : Nat) (h : m < 10) : (UInt8.ofNat (48 + m)).toNat = 48 + m := by rw [UInt8.toNat_ofNat']; omega
def isDig (l : List UInt8) : Prop := ∀ c ∈ l, 48 ≤ c.toNat ∧ c.toNat ≤ 57
theorem isDig_app {l m : List UInt8} (h : isDig l) (k : isDig m) : isDig (l ++ m) := fun c hc => by
  rcases List.mem_append.1 hc with hc | hc
  · exact h c hc
  · exact k c hc
theorem dz_dig (k n : Nat) : isDig (dz k n) := by
  induction n using Nat.strongRecOn generalizing k with
  | _ n ih =>
    by_cases hn : n = 0
    · subst hn
      rw [dz_zero]
      intro c hc
      rw [List.eq_of_mem_replicate hc]
      decide
    · rw [dz, dif_neg hn]
      refine isDig_app (ih (n / 10) (by omega) _) fun c hc => ?_
      rw [List.mem_singleton.1 hc, dig_nat _ (Nat.mod_lt _ (by decide))]
      have := Nat.mod_lt n (show 0 < 10 by decide)
      omega
theorem dz_len (k n : Nat) : k ≤ (dz k n).length := by
  induction n using Nat.strongRecOn generalizing k with
  | _ n ih =>
    by_cases hn : n = 0
    · subst hn; rw [dz_zero]; simp
    · rw [dz, dif_neg hn, List.length_append, List.length_singleton]
      have := ih (n / 10) (by omega) (k - 1)
      omega
theorem dz_len_le (k : Nat) : ∀ n, n < 10 ^ k → (dz k n).length = k := by
  induction k with
  | zero =>
    intro n hn
    obtain rfl : n = 0 := (by simpa using hn)
    rw [dz_zero]; rfl
  | succ k ih =>
    intro n hn
    rw [dz_step _ _ (.inl (by omega)), List.length_append, List.length_singleton, Nat.add_sub_cancel, ih (n / 10) (by rw [Nat.pow_succ] at hn; omega)]
theorem dz_len_most (m : Nat) : ∀ k n, n < 10 ^ m → k ≤ m → (dz k n).length ≤ m := by
  induction m with
  | zero =>
    intro k n hn hk
    obtain rfl : n = 0 := (by simpa using hn)
    obtain rfl : k = 0 := (by omega)
    rw [dz_zero]; exact Nat.le_refl _
  | succ m ih =>
    intro k n hn hk
    by_cases h : 0 < k ∨ 0 < n
    · rw [dz_step _ _ h, List.length_append, List.length_singleton]
      have := ih (k - 1) (n / 10) (by rw [Nat.pow_succ] at hn; omega) (by omega)
      omega
    · obtain rfl : n = 0 := (by omega)
      obtain rfl : k = 0 := (by omega)
      rw [dz_zero]; simp
theorem dz_len10 (n : Nat) (h : n ≤ 1073741824) : 9 ≤ (dz 9 n).length ∧ (dz 9 n).length ≤ 10 :=
  ⟨dz_len 9 n, dz_len_most 10 9 n (by omega) (by decide)⟩
theorem dz_nil {k n : Nat} (h : 0 < k) : dz k n ≠ [] := by
  intro e
  have := dz_len k n
  rw [e] at this; simp at this; omega

/-- The number that digits spell. -/
def val (a : Nat) (l : List UInt8) : Nat := l.foldl (fun a c => 10 * a + (c.toNat - 48)) a
theorem val_snoc (a : Nat) (l : List UInt8) (c : UInt8) : val a (l ++ [c]) = 10 * val a l + (c.toNat - 48) := by simp [val]
theorem val_cons (a : Nat) (l : List UInt8) (c : UInt8) : val a (c :: l) = val (10 * a + (c.toNat - 48)) l := by unfold val; rw [List.foldl_cons]
theorem val_ge (l : List UInt8) : ∀ a, a ≤ val a l := by
  induction l with
  | nil => intro a; exact Nat.le_refl _
  | cons c l ih => intro a; rw [val_cons]; have := ih (10 * a + (c.toNat - 48)); omega
theorem val_dz (k n : Nat) : val 0 (dz k n) = n := by
  induction n using Nat.strongRecOn generalizing k with
  | _ n ih =>
    by_cases hn : n = 0
    · subst hn
      rw [dz_zero]
      induction k with
      | zero => rfl
      | succ k ihk => rw [List.replicate_succ', val_snoc, ihk]; decide
    · rw [dz, dif_neg hn, val_snoc, ih (n / 10) (by omega), dig_nat _ (Nat.mod_lt _ (by decide))]
      omega
theorem dz_inj {k n m : Nat} (h : dz k n = dz k m) : n = m := by
  have := congrArg (val 0) h
  rwa [val_dz, val_dz] at this
theorem parse_val (l : List UInt8) : ∀ (a : Nat), isDig l → val a l < 9223372036854775808 → Lib.parseUint10 a l = .ok (val a l) := by
  induction l with
  | nil => intro a _ _; unfold Lib.parseUint10; rfl
  | cons c r ih =>
    intro a h hv
    have hc := h c (by simp)
    rw [val_cons] at hv ⊢
    have hg := val_ge r (10 * a + (c.toNat - 48))
    have hi := ih _ (fun d hd => h d (by simp [hd])) hv
    unfold Lib.parseUint10
    rw [if_pos hc, if_neg (by omega), if_neg (by omega), Nat.mul_comm a 10]
    exact hi
theorem atoi_dig {l : List UInt8} (h : isDig l) (hn : l ≠ []) (hv : val 0 l < 9223372036854775808) : Lib.atoiAll l = .ok (val 0 l : Nat) := by
  match l, hn with
  | c :: r, _ =>
    have hc := h c (by simp)
    rw [Lib.atoiAll_plain c r (by omega) (by omega), Lib.parseMag, if_neg (by simp), parse_val _ _ h hv]
    unfold Lib.signless
    simp only
    rw [if_neg (by omega)]
theorem dz_itoa (n : Nat) : dz 9 n = List.replicate (9 - (Lib.decDigits n).length) 48 ++ Lib.decDigits n := by
  have key : ∀ n k, 0 < n → dz k n = List.replicate (k - (Lib.decDigits n).length) 48 ++ Lib.decDigits n := by
    intro n
    induction n using Nat.strongRecOn with
    | _ n ih =>
      intro k hn
      rw [dz, dif_neg (by omega)]
      by_cases h9 : n < 10
      · rw [Nat.div_eq_of_lt h9, dz_zero, Lib.decDigits, dif_pos h9, Nat.mod_eq_of_lt h9]; rfl
      · rw [ih (n / 10) (by omega) (k - 1) (by omega), Lib.decDigits.eq_1 n, dif_neg h9, List.length_append, List.length_singleton, List.append_assoc]
        congr 2
        omega
  rcases Nat.eq_zero_or_pos n with rfl | h
  · rw [dz_zero, Lib.decDigits, dif_pos (by decide)]; rfl
  · exact key n 9 h
def digs (n : Int) : List UInt8 := dz 9 n.toNat

/-! names -/
def word (k : Int) : List UInt8 := if k = 1 then [98, 97, 115, 101] else if k = 2 then [100, 101, 108, 116, 97] else if k = 3 then [100, 101, 108, 115] else if k = 4 then [116, 109, 112] else []
def nput (d : DD) : List UInt8 := if may d then word d.kind ++ 95 :: ((if d.kind = 1 then [] else digs d.lo ++ [95]) ++ digs d.hi) else []
theorem nput_no {d : DD} (h : may d = false) : nput d = [] := by rw [nput, h]; rfl
theorem nput_ne {d : DD} (h : may d = true) : nput d ≠ [] := by
  rw [nput, if_pos h]
  intro e
  have := congrArg List.length e
  simp at this
theorem nput_may {d : DD} (h : nput d ≠ []) : may d = true := by
  cases hm : may d with
  | true => rfl
  | false => exact absurd (nput_no hm) h
end Go.Proofs.YtollmolchcnpeaaGreatDoor
