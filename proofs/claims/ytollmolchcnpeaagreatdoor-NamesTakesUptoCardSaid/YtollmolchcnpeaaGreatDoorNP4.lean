/- Names of directories: their order; names of buckets' files. Plain Lean; no program in sight. -/
import Derived.Test.YtollmolchcnpeaaGreatDoorNP2
import Derived.Lib.IndexMore
import GoSem.Op.String
namespace Go.Proofs.YtollmolchcnpeaaGreatDoor
open Go

/-! order -/
theorem less_self (p x y : List UInt8) : Op.bytesLess (p ++ x) (p ++ y) = Op.bytesLess x y := by
  induction p with
  | nil => rfl
  | cons a p ih =>
    rw [List.cons_append, List.cons_append, Op.bytesLess, ih]
    have h : decide (a < a) = false := by simp
    simp
theorem val_split : ∀ (l : List UInt8) (a : Nat), val a l = a * 10 ^ l.length + val 0 l
  | [], a => by simp [val]
  | c :: r, a => by
    rw [val_cons, val_cons, val_split r (10 * a + (c.toNat - 48)), val_split r (10 * 0 + (c.toNat - 48)), List.length_cons, Nat.pow_succ, Nat.add_mul, Nat.mul_zero, Nat.zero_add, Nat.add_assoc]
    congr 1
    rw [Nat.mul_comm 10 a, Nat.mul_assoc, Nat.mul_comm 10]
theorem val_lt : ∀ (l : List UInt8), isDig l → val 0 l < 10 ^ l.length
  | [], _ => by simp [val]
  | c :: r, h => by
    have hc := h c (by simp)
    have ih := val_lt r fun d hd => h d (by simp [hd])
    rw [val_cons, val_split, List.length_cons, Nat.pow_succ]
    have : (10 * 0 + (c.toNat - 48)) * 10 ^ r.length ≤ 9 * 10 ^ r.length := Nat.mul_le_mul_right _ (by omega)
    omega
theorem less_digs : ∀ (a b r s : List UInt8), a.length = b.length → isDig a → isDig b → Op.bytesLess (a ++ r) (b ++ s) = (decide (val 0 a < val 0 b) || (decide (val 0 a = val 0 b) && Op.bytesLess r s))
  | [], [], r, s, _, _, _ => by simp
  | x :: a, y :: b, r, s, hl, ha, hb => by
    have hx := ha x (by simp)
    have hy := hb y (by simp)
    have hl2 : a.length = b.length := by simpa using hl
    have hda : isDig a := fun d hd => ha d (by simp [hd])
    have hdb : isDig b := fun d hd => hb d (by simp [hd])
    have ih := less_digs a b r s hl2 hda hdb
    have va := val_lt a hda
    have vb := val_lt b hdb
    rw [List.cons_append, List.cons_append, Op.bytesLess, ih, val_cons, val_cons, val_split a (10 * 0 + (x.toNat - 48)), val_split b (10 * 0 + (y.toNat - 48)), hl2]
    rw [hl2] at va
    rcases Nat.lt_trichotomy x.toNat y.toNat with h | h | h
    · have h1 : decide (x < y) = true := by simpa [UInt8.lt_iff_toNat_lt] using h
      have h2 : (10 * 0 + (x.toNat - 48)) * 10 ^ b.length + 10 ^ b.length ≤ (10 * 0 + (y.toNat - 48)) * 10 ^ b.length := by
        rw [← Nat.succ_mul]; exact Nat.mul_le_mul_right _ (by omega)
      have h3 : decide ((10 * 0 + (x.toNat - 48)) * 10 ^ b.length + val 0 a < (10 * 0 + (y.toNat - 48)) * 10 ^ b.length + val 0 b) = true := decide_eq_true (by omega)
      rw [h1, h3]; simp
    · obtain rfl : x = y := UInt8.toNat_inj.1 h
      have h1 : decide (x < x) = false := by simp
      have h3 : decide ((10 * 0 + (x.toNat - 48)) * 10 ^ b.length + val 0 a < (10 * 0 + (x.toNat - 48)) * 10 ^ b.length + val 0 b) = decide (val 0 a < val 0 b) := decide_eq_decide.2 (by omega)
      have h4 : decide ((10 * 0 + (x.toNat - 48)) * 10 ^ b.length + val 0 a = (10 * 0 + (x.toNat - 48)) * 10 ^ b.length + val 0 b) = decide (val 0 a = val 0 b) := decide_eq_decide.2 (by omega)
      rw [h1, h3, h4]; simp
    · have h1 : decide (x < y) = false := by simp [UInt8.lt_iff_toNat_lt]; omega
      have h2 : (10 * 0 + (y.toNat - 48)) * 10 ^ b.length + 10 ^ b.length ≤ (10 * 0 + (x.toNat - 48)) * 10 ^ b.length := by
        rw [← Nat.succ_mul]; exact Nat.mul_le_mul_right _ (by omega)
      have h3 : decide ((10 * 0 + (x.toNat - 48)) * 10 ^ b.length + val 0 a < (10 * 0 + (y.toNat - 48)) * 10 ^ b.length + val 0 b) = false := decide_eq_false (by omega)
      have h4 : decide ((10 * 0 + (x.toNat - 48)) * 10 ^ b.length + val 0 a = (10 * 0 + (y.toNat - 48)) * 10 ^ b.length + val 0 b) = false := decide_eq_false (by omega)
      have h5 : (x == y) = false := by rw [beq_eq_false_iff_ne]; rintro rfl; omega
      rw [h1, h3, h4, h5]; simp
theorem digs_len9 {n : Int} (h0 : 0 ≤ n) (h : n ≤ 999999999) : (digs n).length = 9 := dz_len_le 9 _ (by omega)
theorem less_dz (n m : Int) (r s : List UInt8) (hn : 0 ≤ n) (hn9 : n ≤ 999999999) (hm : 0 ≤ m) (hm9 : m ≤ 999999999) :
    Op.bytesLess (digs n ++ r) (digs m ++ s) = (decide (n < m) || (decide (n = m) && Op.bytesLess r s)) := by
  rw [less_digs _ _ r s ((digs_len9 hn hn9).trans (digs_len9 hm hm9).symm) (digs_dig n) (digs_dig m)]
  have e1 : val 0 (digs n) = n.toNat := val_dz 9 _
  have e2 : val 0 (digs m) = m.toNat := val_dz 9 _
  rw [e1, e2]
  congr 1
  · exact decide_eq_decide.2 (by omega)
  · congr 1; exact decide_eq_decide.2 (by omega)
def dless (a b : DD) : Bool := decide (a.lo < b.lo) || (decide (a.lo = b.lo) && decide (a.hi < b.hi))
theorem nput_less {a b : DD} (ha : may a = true) (hb : may b = true) (hk : a.kind = b.kind) (h1 : a.hi ≤ 999999999) (h2 : b.hi ≤ 999999999) : Op.bytesLess (nput a) (nput b) = dless a b := by
  have ma := (may_iff a).1 ha
  have mb := (may_iff b).1 hb
  have hend : Op.bytesLess (digs a.hi) (digs b.hi) = decide (a.hi < b.hi) := by
    have := less_dz a.hi b.hi [] [] (by omega) h1 (by omega) h2
    rw [List.append_nil, List.append_nil] at this
    rw [this]; simp [Op.bytesLess]
  rw [nput_eq ha, nput_eq hb, hk, less_self]
  show Op.bytesLess (95 :: _) (95 :: _) = _
  rw [← List.singleton_append, ← List.singleton_append (x := (95 : UInt8)) (l := (if b.kind = 1 then [] else digs b.lo ++ [95]) ++ digs b.hi), less_self]
  unfold dless
  by_cases h : b.kind = 1
  · have e1 := ma.2.2.2.2.2.1 (hk.trans h)
    have e2 := mb.2.2.2.2.2.1 h
    rw [if_pos h, if_pos h, List.nil_append, List.nil_append, hend, e1, e2]; simp
  · rw [if_neg h, if_neg h, List.append_assoc, List.append_assoc, less_dz _ _ _ _ (by omega) (by omega) (by omega) (by omega), less_self, hend]

/-! files -/
def buck : List UInt8 := [47, 98, 117, 99, 107, 101, 116, 95]
def nfile (d : DD) (b : Int) : List UInt8 := if nput d = [] ∨ b < 0 ∨ 4 ≤ b then [] else nput d ++ (buck ++ [UInt8.ofNat (48 + b.toNat)])
theorem nfile_yes {d : DD} {b : Int} (h : nfile d b ≠ []) : may d = true ∧ 0 ≤ b ∧ b < 4 ∧ nfile d b = nput d ++ (buck ++ [UInt8.ofNat (48 + b.toNat)]) := by
  unfold nfile at h ⊢
  by_cases hc : nput d = [] ∨ b < 0 ∨ 4 ≤ b
  · rw [if_pos hc] at h; exact absurd rfl h
  · exact ⟨nput_may fun e => hc (.inl e), by omega, by omega, if_neg hc⟩
theorem nfile_eq {d : DD} {b : Int} (h : may d = true) (h0 : 0 ≤ b) (h4 : b < 4) : nfile d b = nput d ++ (buck ++ [UInt8.ofNat (48 + b.toNat)]) := by
  unfold nfile
  rw [if_neg]
  rintro (h1 | h1 | h1)
  · exact nput_ne h h1
  · omega
  · omega
theorem nput_no47 (d : DD) : (47 : UInt8) ∉ nput d := by
  cases hm : may d with
  | false => rw [nput_no hm]; simp
  | true =>
    rw [nput_eq hm]
    intro h
    rcases List.mem_append.1 h with h | h
    · exact (word_no _).2 h
    · rcases List.mem_cons.1 h with h | h
      · revert h; decide
      · rcases List.mem_append.1 h with h | h
        · split at h
          · simp at h
          · rcases List.mem_append.1 h with h | h
            · exact (dig_no (digs_dig _)).2 h
            · revert h; decide
        · exact (dig_no (digs_dig _)).2 h
theorem nfile_inj {d e : DD} {b c : Int} (hd : nfile d b ≠ []) (he : nfile e c ≠ []) (h : nfile d b = nfile e c) : d = e ∧ b = c := by
  obtain ⟨h1, h2, h3, h4⟩ := nfile_yes hd
  obtain ⟨k1, k2, k3, k4⟩ := nfile_yes he
  rw [h4, k4] at h
  have hh : nput d ++ 47 :: ([98, 117, 99, 107, 101, 116, 95] ++ [UInt8.ofNat (48 + b.toNat)]) = nput e ++ 47 :: ([98, 117, 99, 107, 101, 116, 95] ++ [UInt8.ofNat (48 + c.toNat)]) := h
  obtain ⟨h5, h6⟩ := cut_inj (nput_no47 d) (nput_no47 e) hh
  refine ⟨nput_inj h1 k1 h5, ?_⟩
  have h7 := List.append_cancel_left h6
  injection h7 with h7
  have h8 := congrArg UInt8.toNat h7
  rw [dig_nat _ (by omega), dig_nat _ (by omega)] at h8
  omega
/-- The directory and the bucket whose file the path is. -/
noncomputable def ntf (s : List UInt8) : DD × Int × Bool := by
  classical exact if h : ∃ p : DD × Int, nfile p.1 p.2 ≠ [] ∧ nfile p.1 p.2 = s then (h.choose.1, h.choose.2, true) else (DD.zero, 0, false)
theorem ntf_yes {d : DD} {b : Int} {s : List UInt8} (h1 : s ≠ []) (h2 : nfile d b = s) : ntf s = (d, b, true) := by
  have h : ∃ p : DD × Int, nfile p.1 p.2 ≠ [] ∧ nfile p.1 p.2 = s := ⟨(d, b), by rw [h2]; exact h1, h2⟩
  unfold ntf
  rw [dif_pos h]
  have hc := h.choose_spec
  obtain ⟨e1, e2⟩ := nfile_inj hc.1 (by rw [h2]; exact h1) (hc.2.trans h2.symm)
  rw [e1, e2]
theorem ntf_no {s : List UInt8} (h : ∀ d b, nfile d b ≠ [] → nfile d b ≠ s) : ntf s = (DD.zero, 0, false) := by
  unfold ntf
  rw [dif_neg]
  rintro ⟨p, h1, h2⟩
  exact h p.1 p.2 h1 h2
theorem index_in : ∀ (l r : List UInt8), (47 : UInt8) ∉ l → Lib.index (l ++ (buck ++ r)) buck = (l.length : Int)
  | [], r, _ => by
    show Lib.index (47 :: _) buck = 0
    unfold Lib.index
    rw [if_pos]
    simp [buck, List.isPrefixOf]
  | b :: l, r, h => by
    have hb : (buck.isPrefixOf (b :: (l ++ (buck ++ r)))) = false := by
      have : ((47 : UInt8) == b) = false := by rw [beq_eq_false_iff_ne]; rintro rfl; exact h (by simp)
      simp [buck, List.isPrefixOf, this]
    have ih := index_in l r (fun hc => h (by simp [hc]))
    have hn : (((l.length : Nat) : Int) == -1) = false := by rw [beq_eq_false_iff_ne]; omega
    rw [List.cons_append, Lib.index, hb, ih, hn]
    simp
theorem cut_file {d : DD} {b : Int} (h : nfile d b ≠ []) : Lib.cut (nfile d b) buck = (nput d, [UInt8.ofNat (48 + b.toNat)], true) := by
  obtain ⟨h1, h2, h3, h4⟩ := nfile_yes h
  have hi := index_in (nput d) [UInt8.ofNat (48 + b.toNat)] (nput_no47 d)
  rw [h4]
  unfold Lib.cut
  rw [hi, if_pos (by omega), Int.toNat_natCast, List.take_left]
  congr 2
  rw [← List.append_assoc, ← List.length_append, List.drop_left]
theorem atoi_one {b : Int} (h0 : 0 ≤ b) (h4 : b < 4) : Lib.atoiAll [UInt8.ofNat (48 + b.toNat)] = .ok b := by
  have hd : isDig [UInt8.ofNat (48 + b.toNat)] := fun c hc => by
    rw [List.mem_singleton.1 hc, dig_nat _ (by omega)]; omega
  have hv : val 0 [UInt8.ofNat (48 + b.toNat)] = b.toNat := by
    rw [val_cons, dig_nat _ (by omega)]
    show 10 * 0 + (48 + b.toNat - 48) = b.toNat
    omega
  rw [atoi_dig hd (by simp) (by rw [hv]; omega), hv]
  congr 1; omega
/-- The program's way. -/
theorem tf_some {s : List UInt8} {d : DD} {b : Int} (hok : (Lib.cut s buck).2.2 = true) (h : nfile d b = s) : ntf s = (d, b, true) :=
  ntf_yes (by rintro rfl; revert hok; decide) h
theorem tf_none {s : List UInt8} (h : ∀ d b, (Lib.cut s buck).2.2 = true → ntake (Lib.cut s buck).1 = (d, true) → Lib.atoiAll (Lib.cut s buck).2.1 = .ok b → nfile d b ≠ s) : ntf s = (DD.zero, 0, false) :=
  ntf_no fun d b h1 h2 => by
    obtain ⟨k1, k2, k3, _⟩ := nfile_yes h1
    have hc := cut_file h1
    rw [h2] at hc
    exact h d b (by rw [hc]) (by rw [hc]; exact ntake_yes k1 rfl) (by rw [hc]; exact atoi_one k2 k3) h2
/-- The reference's way. -/
theorem rtf_none {s : List UInt8} (h : ∀ (hl : 9 < s.length) d, ntake (s.take (s.length - 9)) = (d, true) → nfile d (((s[s.length - 1]'(by omega)).toNat : Int) - 48) ≠ s) : ntf s = (DD.zero, 0, false) :=
  ntf_no fun d b h1 h2 => by
    obtain ⟨k1, k2, k3, k4⟩ := nfile_yes h1
    have hne : 0 < (nput d).length := List.length_pos_iff.2 (nput_ne k1)
    have hs : s = nput d ++ (buck ++ [UInt8.ofNat (48 + b.toNat)]) := h2.symm.trans k4
    have hlen : s.length = (nput d).length + 9 := by rw [hs]; simp [buck]
    have ht : s.take (s.length - 9) = nput d := by rw [hlen, Nat.add_sub_cancel, hs, List.take_left]
    have hg : s[s.length - 1]'(by omega) = UInt8.ofNat (48 + b.toNat) := by
      have e : s.getLast? = some (UInt8.ofNat (48 + b.toNat)) := by rw [hs]; simp
      rw [List.getLast?_eq_getElem?] at e
      exact (List.getElem?_eq_some_iff.1 e).2
    refine h (by omega) d (by rw [ht]; exact ntake_yes k1 rfl) ?_
    rw [hg, dig_nat _ (by omega), show ((48 + b.toNat : Nat) : Int) - 48 = b by omega]
    exact h2
theorem rtf_some {s : List UInt8} {d : DD} {b : Int} (hl : 9 < s.length) (h : nfile d b = s) : ntf s = (d, b, true) := ntf_yes (by rintro rfl; simp at hl) h
end Go.Proofs.YtollmolchcnpeaaGreatDoor
