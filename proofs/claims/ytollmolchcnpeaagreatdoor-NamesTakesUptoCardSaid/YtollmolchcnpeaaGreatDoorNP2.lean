/- Names of directories read: a name has one directory alone; what the program's parse and the reference's numbers give. Plain Lean; no program in sight. -/
import Derived.Test.YtollmolchcnpeaaGreatDoorNP
import Derived.Lib.Split
import Derived.Lib.IndexBytes
namespace Go.Proofs.YtollmolchcnpeaaGreatDoor

theorem cut_inj {c : UInt8} : ∀ {a a' b b' : List UInt8}, c ∉ a → c ∉ a' → a ++ c :: b = a' ++ c :: b' → a = a' ∧ b = b'
  | [], [], _, _, _, _, h => by simpa using h
  | [], x :: a', _, _, _, h2, h => by
    simp at h
    exact absurd (by rw [← h.1]; simp) h2
  | x :: a, [], _, _, h1, _, h => by
    simp at h
    exact absurd (by rw [h.1]; simp) h1
  | x :: a, y :: a', b, b', h1, h2, h => by
    simp only [List.cons_append, List.cons.injEq] at h
    obtain ⟨h3, h4⟩ := cut_inj (a := a) (a' := a') (fun hc => h1 (by simp [hc])) (fun hc => h2 (by simp [hc])) h.2
    exact ⟨by rw [h.1, h3], h4⟩
theorem word_no (k : Int) : (95 : UInt8) ∉ word k ∧ (47 : UInt8) ∉ word k := by
  unfold word
  split
  · decide
  · split
    · decide
    · split
      · decide
      · split <;> decide
theorem word_inj {k m : Int} (h1 : 1 ≤ k) (h2 : k ≤ 4) (h3 : 1 ≤ m) (h4 : m ≤ 4) (h : word k = word m) : k = m := by
  have e : ∀ x y : Fin 4, word (x.val + 1 : Nat) = word (y.val + 1 : Nat) → x = y := by decide
  have := e ⟨(k - 1).toNat, by omega⟩ ⟨(m - 1).toNat, by omega⟩ (by
    show word (((k - 1).toNat + 1 : Nat) : Int) = word (((m - 1).toNat + 1 : Nat) : Int)
    rw [show (((k - 1).toNat + 1 : Nat) : Int) = k by omega, show (((m - 1).toNat + 1 : Nat) : Int) = m by omega]; exact h)
  have := congrArg Fin.val this
  simp at this
  omega
theorem word_ne {k : Int} (h1 : 1 ≤ k) (h2 : k ≤ 4) : word k ≠ [] := by
  unfold word
  split
  · simp
  · split
    · simp
    · split
      · simp
      · split
        · simp
        · omega
theorem dig_no {l : List UInt8} (h : isDig l) : (95 : UInt8) ∉ l ∧ (47 : UInt8) ∉ l :=
  ⟨fun hc => by have := h _ hc; revert this; decide, fun hc => by have := h _ hc; revert this; decide⟩
theorem digs_dig (n : Int) : isDig (digs n) := dz_dig 9 _
theorem digs_inj {n m : Int} (h1 : 0 ≤ n) (h2 : 0 ≤ m) (h : digs n = digs m) : n = m := by
  have := dz_inj h
  omega
theorem nput_eq {d : DD} (h : may d = true) : nput d = word d.kind ++ 95 :: ((if d.kind = 1 then [] else digs d.lo ++ [95]) ++ digs d.hi) := by rw [nput, if_pos h]
theorem nput_inj {d e : DD} (hd : may d = true) (he : may e = true) (h : nput d = nput e) : d = e := by
  have hd2 := (may_iff d).1 hd
  have he2 := (may_iff e).1 he
  rw [nput_eq hd, nput_eq he] at h
  obtain ⟨h1, h2⟩ := cut_inj (word_no _).1 (word_no _).1 h
  have hk := word_inj (by omega) (by omega) (by omega) (by omega) h1
  obtain ⟨dk, dl, dh⟩ := d
  obtain ⟨ek, el, eh⟩ := e
  simp only at hk hd2 he2 h2
  subst hk
  by_cases h1 : dk = 1
  · rw [if_pos h1, if_pos h1, List.nil_append, List.nil_append] at h2
    have := digs_inj (by omega) (by omega) h2
    rw [this, hd2.2.2.2.2.2.1 h1, he2.2.2.2.2.2.1 h1]
  · rw [if_neg h1, if_neg h1, List.append_assoc, List.append_assoc, List.singleton_append, List.singleton_append] at h2
    obtain ⟨h3, h4⟩ := cut_inj (dig_no (digs_dig _)).1 (dig_no (digs_dig _)).1 h2
    rw [digs_inj (by omega) (by omega) h3, digs_inj (by omega) (by omega) h4]

/-- The directory whose name s is. -/
noncomputable def ntake (s : List UInt8) : DD × Bool := by
  classical exact if h : ∃ d, may d = true ∧ nput d = s then (h.choose, true) else (DD.zero, false)
theorem ntake_yes {d : DD} {s : List UInt8} (h1 : may d = true) (h2 : nput d = s) : ntake s = (d, true) := by
  have h : ∃ d, may d = true ∧ nput d = s := ⟨d, h1, h2⟩
  unfold ntake
  rw [dif_pos h]
  have hc := h.choose_spec
  rw [nput_inj hc.1 h1 (hc.2.trans h2.symm)]
theorem ntake_no {s : List UInt8} (h : ∀ d, may d = true → nput d ≠ s) : ntake s = (DD.zero, false) := by
  unfold ntake
  rw [dif_neg]
  rintro ⟨d, h1, h2⟩
  exact h d h1 h2

/-! the program's parse -/
theorem indexByte_out : ∀ (l : List UInt8) (c : UInt8), c ∉ l → Lib.indexByte l c = -1
  | [], _, _ => rfl
  | b :: l, c, h => by
    have hb : (b == c) = false := by rw [beq_eq_false_iff_ne]; rintro rfl; exact h (by simp)
    rw [Lib.indexByte, hb, indexByte_out l c (fun hc => h (by simp [hc]))]
    rfl
theorem indexByte_in : ∀ (l r : List UInt8) (c : UInt8), c ∉ l → Lib.indexByte (l ++ c :: r) c = (l.length : Int)
  | [], r, c, _ => by simp [Lib.indexByte]
  | b :: l, r, c, h => by
    have hb : (b == c) = false := by rw [beq_eq_false_iff_ne]; rintro rfl; exact h (by simp)
    have ih := indexByte_in l r c (fun hc => h (by simp [hc]))
    have hn : (((l.length : Nat) : Int) == -1) = false := by rw [beq_eq_false_iff_ne]; omega
    rw [List.cons_append, Lib.indexByte, hb, ih, hn]
    simp
theorem split_one (l : List UInt8) (h : (95 : UInt8) ∉ l) : Lib.split l [95] = [l] := by
  have hi : Lib.index l [95] = -1 := by rw [Lib.index_one, indexByte_out _ _ h]
  unfold Lib.split
  rw [Lib.count_miss hi]
  rfl
theorem split_more (l r : List UInt8) (h : (95 : UInt8) ∉ l) : Lib.split (l ++ 95 :: r) [95] = l :: Lib.split r [95] := by
  have hi : Lib.index (l ++ 95 :: r) [95] = ((l.length : Nat) : Int) := by rw [Lib.index_one, indexByte_in _ _ _ h]
  have hd : (l ++ 95 :: r).drop (l.length + [(95 : UInt8)].length) = r := by rw [List.drop_append]; simp
  have ht : (l ++ 95 :: r).take (l.length + 0) = l := by simp
  have hn : ¬ ((((l.length : Nat) : Int) == -1) = true) := by rw [beq_iff_eq]; omega
  unfold Lib.split
  rw [Lib.count_hit (by simp) hi, hd, Nat.add_comm, Lib.splitK, hi, if_neg hn, Int.toNat_natCast, ht, hd]
/-- From, To by the numbers read. -/
def lohi : List Int → Int × Int
  | [h] => (0, h)
  | [l, h] => (l, h)
  | _ => (0, 0)
def pieces (s : List UInt8) : List (List UInt8) := Lib.split s [95]
theorem pieces_nput {d : DD} (h : may d = true) : pieces (nput d) = word d.kind :: (if d.kind = 1 then [digs d.hi] else [digs d.lo, digs d.hi]) := by
  unfold pieces
  rw [nput_eq h, split_more _ _ (word_no _).1]
  congr 1
  by_cases h1 : d.kind = 1
  · rw [if_pos h1, if_pos h1, List.nil_append, split_one _ (dig_no (digs_dig _)).1]
  · rw [if_neg h1, if_neg h1, List.append_assoc, List.singleton_append, split_more _ _ (dig_no (digs_dig _)).1, split_one _ (dig_no (digs_dig _)).1]
theorem atoi_digs {n : Int} (h0 : 0 ≤ n) (h1 : n ≤ 1073741824) : Lib.atoiAll (digs n) = .ok n := by
  have hv : val 0 (digs n) = n.toNat := val_dz 9 _
  rw [atoi_dig (digs_dig n) (dz_nil (by decide)) (by rw [hv]; omega), hv]
  congr 1; omega
/-- The pieces behind the first are numbers: these. -/
def Nums (ps : List (List UInt8)) (ns : List Int) : Prop := ps.map Lib.atoiAll = ns.map .ok
theorem nums_nput {d : DD} (h : may d = true) {w : List UInt8} {ps : List (List UInt8)} (hp : pieces (nput d) = w :: ps) {ns : List Int} (hn : Nums ps ns) : lohi ns = (d.lo, d.hi) := by
  have hb := (may_iff d).1 h
  rw [pieces_nput h] at hp
  injection hp with _ hp
  subst hp
  by_cases h1 : d.kind = 1
  · rw [if_pos h1] at hn
    unfold Nums at hn
    rw [List.map_cons, List.map_nil, atoi_digs (by omega) (by omega)] at hn
    match ns, hn with
    | [x], hn =>
      simp at hn
      subst hn
      rw [hb.2.2.2.2.2.1 h1]; rfl
  · rw [if_neg h1] at hn
    unfold Nums at hn
    rw [List.map_cons, List.map_cons, List.map_nil, atoi_digs (by omega) (by omega), atoi_digs (by omega) (by omega)] at hn
    match ns, hn with
    | [x, y], hn =>
      simp at hn
      obtain ⟨rfl, rfl⟩ := hn
      rfl
theorem take_err {s : List UInt8} {w : List UInt8} {ps : List (List UInt8)} (hp : pieces s = w :: ps) {p : List UInt8} (hm : p ∈ ps) (hn : ∀ v, Lib.atoiAll p ≠ .ok v) : ntake s = (DD.zero, false) :=
  ntake_no fun d h1 h2 => by
    have hb := (may_iff d).1 h1
    rw [← h2, pieces_nput h1] at hp
    injection hp with _ hp
    subst hp
    by_cases hk : d.kind = 1
    · rw [if_pos hk] at hm
      simp at hm
      subst hm
      exact hn _ (atoi_digs (by omega) (by omega))
    · rw [if_neg hk] at hm
      simp at hm
      rcases hm with rfl | rfl
      · exact hn _ (atoi_digs (by omega) (by omega))
      · exact hn _ (atoi_digs (by omega) (by omega))
theorem take_none {s : List UInt8} {w : List UInt8} {ps : List (List UInt8)} (hp : pieces s = w :: ps) {ns : List Int} (hn : Nums ps ns) (h : ∀ k : Int, 1 ≤ k → k ≤ 4 → ¬ (word k = w ∧ nput ⟨k, (lohi ns).1, (lohi ns).2⟩ = s)) : ntake s = (DD.zero, false) :=
  ntake_no fun d h1 h2 => by
    have hb := (may_iff d).1 h1
    have hp2 := hp
    rw [← h2] at hp2
    have hl := nums_nput h1 hp2 hn
    rw [pieces_nput h1] at hp2
    injection hp2 with hw _
    refine h d.kind (by omega) (by omega) ⟨hw, ?_⟩
    rw [hl]; exact h2
theorem take_some {s : List UInt8} {d : DD} {w : List UInt8} (h1 : 1 ≤ d.kind) (h4 : d.kind ≤ 4) {ps : List (List UInt8)} (hp : pieces s = w :: ps) (hw : word d.kind = w) (h : nput d = s) : ntake s = (d, true) := by
  refine ntake_yes (nput_may ?_) h
  rw [h]
  rintro rfl
  unfold pieces at hp
  rw [split_one [] (by simp)] at hp
  injection hp with hp _
  exact word_ne h1 h4 (hw.trans hp.symm)

/-! the reference's numbers -/
def isNum (c : UInt8) : Bool := 48 ≤ c.toNat && c.toNat ≤ 57
def nstep (st : Bool × List Int) (c : UInt8) : Bool × List Int :=
  if isNum c then
    let l := if st.1 then st.2 else st.2 ++ [0]
    (true, l.dropLast ++ [min (10 * l.getLastD 0 + ((c.toNat : Int) - 48)) 2147483648])
  else (false, st.2)
def numsOf (s : List UInt8) : List Int := if s.length ≤ 60 then (s.foldl nstep (false, [])).2 else []
def loOf (n : List Int) : Int := if 1 < n.length then n.headD 0 else 0
def hiOf (n : List Int) : Int := n.getLastD 0
theorem nstep_word (l : List UInt8) (h : ∀ c ∈ l, isNum c = false) (n : List Int) (b : Bool) (hl : l ≠ []) : l.foldl nstep (b, n) = (false, n) := by
  have h1 : ∀ (m : List UInt8), (∀ c ∈ m, isNum c = false) → m.foldl nstep (false, n) = (false, n) := by
    intro m
    induction m with
    | nil => intro _; rfl
    | cons c r ih =>
      intro hm
      rw [List.foldl_cons, show nstep (false, n) c = (false, n) by rw [nstep, hm c (by simp)]; rfl]
      exact ih fun d hd => hm d (by simp [hd])
  match l, hl with
  | c :: r, _ =>
    rw [List.foldl_cons, show nstep (b, n) c = (false, n) by rw [nstep, h c (by simp)]; rfl]
    exact h1 r fun d hd => h d (by simp [hd])
theorem num_dig {l : List UInt8} (h : isDig l) : ∀ c ∈ l, isNum c = true := fun c hc => by
  have := h c hc
  simp [isNum]; omega
theorem nstep_digs (l : List UInt8) : ∀ (n : List Int) (v : Nat), isDig l → val v l ≤ 2147483648 → l.foldl nstep (true, n ++ [(v : Int)]) = (true, n ++ [((val v l : Nat) : Int)]) := by
  induction l with
  | nil => intro n v _ _; rfl
  | cons c r ih =>
    intro n v h hv
    have hc := h c (by simp)
    rw [val_cons] at hv
    have hg := val_ge r (10 * v + (c.toNat - 48))
    have e : nstep (true, n ++ [(v : Int)]) c = (true, n ++ [((10 * v + (c.toNat - 48) : Nat) : Int)]) := by
      rw [nstep, if_pos (num_dig h c (by simp))]
      simp only [if_true, List.dropLast_concat, List.getLastD_concat]
      rw [Int.min_eq_left (by omega)]
      congr 3
      omega
    rw [List.foldl_cons, e, ih n _ (fun d hd => h d (by simp [hd])) hv, val_cons]
theorem nstep_digs0 {l : List UInt8} (h : isDig l) (hl : l ≠ []) (n : List Int) (hv : val 0 l ≤ 2147483648) : l.foldl nstep (false, n) = (true, n ++ [((val 0 l : Nat) : Int)]) := by
  match l, hl with
  | c :: r, _ =>
    have e : nstep (false, n) c = nstep (true, n ++ [((0 : Nat) : Int)]) c := by
      rw [nstep, nstep, if_pos (num_dig h c (by simp)), if_pos (num_dig h c (by simp))]
      simp
    rw [List.foldl_cons, e, ← List.foldl_cons]
    exact nstep_digs (c :: r) n 0 h hv
theorem word_num (k : Int) : ∀ c ∈ word k ++ [95], isNum c = false := by
  unfold word
  split
  · decide
  · split
    · decide
    · split
      · decide
      · split <;> decide
theorem digs_len {n : Int} (h1 : n ≤ 1073741824) : (digs n).length ≤ 10 := (dz_len10 n.toNat (by omega)).2
theorem word_len (k : Int) : (word k).length ≤ 5 := by
  unfold word
  split
  · decide
  · split
    · decide
    · split
      · decide
      · split <;> decide
theorem nput_len (d : DD) : (nput d).length ≤ 27 := by
  cases hm : may d with
  | false => rw [nput_no hm]; decide
  | true =>
    have hb := (may_iff d).1 hm
    have h1 := digs_len (n := d.lo) (by omega)
    have h2 := digs_len (n := d.hi) (by omega)
    have h3 := word_len d.kind
    rw [nput_eq hm]
    split <;> simp <;> omega
theorem nums_of {d : DD} (h : may d = true) : numsOf (nput d) = if d.kind = 1 then [d.hi] else [d.lo, d.hi] := by
  have hb := (may_iff d).1 h
  have hv : ∀ n : Int, val 0 (digs n) = n.toNat := fun n => val_dz 9 _
  have hw : ∀ k, word k ++ [95] ≠ [] := fun k => by simp
  unfold numsOf
  rw [if_pos (by have := nput_len d; omega), nput_eq h, List.append_cons, List.foldl_append, nstep_word _ (word_num _) _ _ (hw _)]
  by_cases h1 : d.kind = 1
  · rw [if_pos h1, if_pos h1, List.nil_append, nstep_digs0 (digs_dig _) (dz_nil (by decide)) _ (by rw [hv]; omega), hv]
    show [((d.hi.toNat : Nat) : Int)] = _
    rw [Int.toNat_of_nonneg (by omega)]
  · rw [if_neg h1, if_neg h1, List.append_assoc, List.foldl_append, nstep_digs0 (digs_dig _) (dz_nil (by decide)) _ (by rw [hv]; omega), hv, List.foldl_append, nstep_word [95] (by decide) _ _ (by simp), nstep_digs0 (digs_dig _) (dz_nil (by decide)) _ (by rw [hv]; omega), hv]
    show [((d.lo.toNat : Nat) : Int), ((d.hi.toNat : Nat) : Int)] = _
    rw [Int.toNat_of_nonneg (by omega), Int.toNat_of_nonneg (by omega)]
theorem rtake_none {s : List UInt8} (h : ∀ k : Int, 1 ≤ k → k ≤ 4 → ¬ (s ≠ [] ∧ nput ⟨k, loOf (numsOf s), hiOf (numsOf s)⟩ = s)) : ntake s = (DD.zero, false) :=
  ntake_no fun d h1 h2 => by
    have hb := (may_iff d).1 h1
    refine h d.kind (by omega) (by omega) ⟨by rw [← h2]; exact nput_ne h1, ?_⟩
    have hl : loOf (numsOf s) = d.lo ∧ hiOf (numsOf s) = d.hi := by
      rw [← h2, nums_of h1]
      by_cases hk : d.kind = 1
      · rw [if_pos hk]; exact ⟨(hb.2.2.2.2.2.1 hk).symm, rfl⟩
      · rw [if_neg hk]; exact ⟨rfl, rfl⟩
    rw [hl.1, hl.2]; exact h2
theorem rtake_some {s : List UInt8} {d : DD} (hs : s ≠ []) (h : nput d = s) : ntake s = (d, true) := ntake_yes (nput_may (by rw [h]; exact hs)) h
end Go.Proofs.YtollmolchcnpeaaGreatDoor
