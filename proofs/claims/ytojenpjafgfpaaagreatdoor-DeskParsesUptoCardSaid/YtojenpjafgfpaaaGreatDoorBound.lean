/- How long an event is that was read out of bytes. Plain Lean; no condition. -/
import Derived.Test.YtojenpjafgfpaaaGreatDoorRead4
import Derived.Test.YtojenpjafgfpaaaGreatDoorDesk3
namespace Go.Proofs.YtojenpjafgfpaaaGreatDoor
open Go Go.RowKit

theorem takeValue_s {l : List UInt8} {v : VV} (h : takeValue l = some v) : v.s.size ≤ l.length := by
  unfold takeValue at h
  cases hw : wtake l with
  | none => rw [hw] at h; cases h
  | some L =>
    rw [hw] at h
    have h1 := wtake_count _ l L (Nat.le_refl _) hw
    match L, h, h1 with
    | [f1, f2, f3], h, h1 =>
      simp only at h
      split at h
      · injection h with h
        subst h
        show f3.b.toArray.size ≤ _
        simp only [List.size_toArray, bsum, List.length_cons, List.length_nil] at *
        omega
      · cases h
theorem rdValue_s (l : List UInt8) : (rdValue l).2.s.size ≤ l.length := by
  unfold rdValue
  cases h : takeValue l with
  | none => show (⟨#[]⟩ : ByteArray).size ≤ _; exact Nat.zero_le _
  | some v => exact takeValue_s h
theorem rdFields_sum (l : List UInt8) : (rdFields l).2.length + bsum (rdFields l).2 ≤ l.length := by
  unfold rdFields
  cases hw : wtake l with
  | none => simp [bsum]
  | some L => exact wtake_count _ l L (Nat.le_refl _) hw
theorem rowLen_snoc (l : List VV) (v : VV) : rowLen (l ++ [v]) = rowLen l + vlen v := by
  induction l with
  | nil => simp [rowLen]; omega
  | cons x r ih => simp only [List.cons_append, rowLen, ih]; omega
theorem rowLen_rd : ∀ L : List Fld, rowLen (L.map fun f => (rdValue f.b).2) ≤ 100 + bsum L + 100 * L.length
  | [] => by simp [rowLen]
  | f :: r => by
    have := rowLen_rd r
    have := rdValue_s f.b
    simp only [List.map_cons, rowLen, vlen, bsum, List.length_cons]; omega
theorem rdRow_len (l : List UInt8) : rowLen (rdRow l).2 ≤ 100 + 100 * l.length := by
  have h1 := rowLen_rd (rdFields l).2
  have h2 := rdFields_sum l
  show rowLen ((rdFields l).2.map fun f => (rdValue f.b).2) ≤ _
  omega
theorem nodeStep_len (s : Bool × PP) (f : Fld) (k : Nat) (h : rowLen s.2.vals + 20 * s.2.l.length ≤ 100 + k) : rowLen (nodeStep s f).2.vals + 20 * (nodeStep s f).2.l.length ≤ 100 + k + 100 + f.b.length := by
  have hv := rdValue_s f.b
  unfold nodeStep
  repeat' split
  all_goals try simp only [rowLen_snoc, vlen, List.length_append, List.length_cons, List.length_nil]
  all_goals omega
theorem nodeStep_v (s : Bool × PP) (f : Fld) (k : Nat) (h : s.2.v.s.size ≤ k) (hk : f.b.length ≤ k) : (nodeStep s f).2.v.s.size ≤ k := by
  have hv := rdValue_s f.b
  unfold nodeStep
  repeat' split
  all_goals (try dsimp only)
  all_goals omega
theorem nodeFold_len : ∀ (L : List Fld) (s : Bool × PP) (k : Nat), rowLen s.2.vals + 20 * s.2.l.length ≤ 100 + k → rowLen (L.foldl nodeStep s).2.vals + 20 * (L.foldl nodeStep s).2.l.length ≤ 100 + k + 100 * L.length + bsum L
  | [], s, k, h => by simp [bsum]; omega
  | f :: r, s, k, h => by
    have := nodeFold_len r (nodeStep s f) (k + 100 + f.b.length) (by have := nodeStep_len s f k h; omega)
    simp only [List.foldl_cons, List.length_cons, bsum]; omega
theorem nodeFold_v (k : Nat) : ∀ (L : List Fld) (s : Bool × PP), s.2.v.s.size ≤ k → (∀ f ∈ L, f.b.length ≤ k) → (L.foldl nodeStep s).2.v.s.size ≤ k
  | [], _, h, _ => h
  | f :: r, s, h, hL => nodeFold_v k r (nodeStep s f) (nodeStep_v s f k h (hL f (by simp))) fun g hg => hL g (by simp [hg])
theorem rdNode_len (l : List UInt8) : nodeLen (rdNode l).2 ≤ 400 + 101 * l.length := by
  have h1 := nodeFold_len (rdFields l).2 ((rdFields l).1, PP.zero) 0 (by simp [PP.zero, rowLen])
  have h2 := nodeFold_v l.length (rdFields l).2 ((rdFields l).1, PP.zero) (Nat.zero_le _) fun f hf => rdFields_mem hf
  have h3 := rdFields_sum l
  show nodeLen ((rdFields l).2.foldl nodeStep ((rdFields l).1, PP.zero)).2 ≤ _
  unfold nodeLen vlen
  omega
theorem rowsLen_snoc (l : List (List VV)) (v : List VV) : rowsLen (l ++ [v]) = rowsLen l + rowLen v := by
  induction l with
  | nil => simp [rowsLen]
  | cons x r ih => simp only [List.cons_append, rowsLen, ih]; omega
theorem predLen_snoc (l : List PP) (v : PP) : predLen (l ++ [v]) = predLen l + nodeLen v := by
  induction l with
  | nil => simp [predLen]
  | cons x r ih => simp only [List.cons_append, predLen, ih]; omega
theorem eventStep_ind (P : Bool × EE → Prop) (s : Bool × EE) (f : Fld) (h1 : P (s.1, { s.2 with kind := zagI f.n })) (h2 : P (s.1, { s.2 with id := zagI f.n })) (h3 : P (s.1, { s.2 with n := zagI f.n })) (h4 : P (s.1, { s.2 with m := zagI f.n }))
    (h5 : P (s.1 || (rdRow f.b).1, { s.2 with rows := s.2.rows ++ [(rdRow f.b).2] })) (h6 : P (s.1 || (rdKey f.b).1, { s.2 with keys := s.2.keys ++ [(rdKey f.b).2] })) (h7 : P (s.1, { s.2 with list := { s.2.list with high := zagI f.n } }))
    (h8 : P (s.1, { s.2 with list := { s.2.list with except := s.2.list.except ++ [zagI f.n] } })) (h9 : P (s.1, { s.2 with cols := s.2.cols ++ [zagI f.n] })) (h10 : P (s.1 || (rdNode f.b).1, { s.2 with pred := s.2.pred ++ [(rdNode f.b).2] })) (h11 : P s) : P (eventStep s f) := by
  unfold eventStep
  by_cases t1 : f.tag = 1
  · rw [if_pos t1]; exact h1
  rw [if_neg t1]
  by_cases t2 : f.tag = 2
  · rw [if_pos t2]; exact h2
  rw [if_neg t2]
  by_cases t3 : f.tag = 3
  · rw [if_pos t3]; exact h3
  rw [if_neg t3]
  by_cases t4 : f.tag = 4
  · rw [if_pos t4]; exact h4
  rw [if_neg t4]
  by_cases t5 : f.tag = 5
  · rw [if_pos t5]; exact h5
  rw [if_neg t5]
  by_cases t6 : f.tag = 6
  · rw [if_pos t6]; exact h6
  rw [if_neg t6]
  by_cases t7 : f.tag = 7
  · rw [if_pos t7]; exact h7
  rw [if_neg t7]
  by_cases t8 : f.tag = 8
  · rw [if_pos t8]; exact h8
  rw [if_neg t8]
  by_cases t9 : f.tag = 9
  · rw [if_pos t9]; exact h9
  rw [if_neg t9]
  by_cases t10 : f.tag = 10
  · rw [if_pos t10]; exact h10
  rw [if_neg t10]; exact h11
theorem eventStep_len (s : Bool × EE) (f : Fld) : evLen (eventStep s f).2 ≤ evLen s.2 + 400 + 101 * f.b.length := by
  have h1 := rdRow_len f.b
  have h2 := rdNode_len f.b
  refine eventStep_ind (fun y => evLen y.2 ≤ evLen s.2 + 400 + 101 * f.b.length) s f ?_ ?_ ?_ ?_ ?_ ?_ ?_ ?_ ?_ ?_ ?_
  all_goals simp only [evLen, rowsLen_snoc, predLen_snoc, List.length_append, List.length_cons, List.length_nil]
  all_goals omega
theorem eventFold_len : ∀ (L : List Fld) (s : Bool × EE), evLen (L.foldl eventStep s).2 ≤ evLen s.2 + 400 * L.length + 101 * bsum L
  | [], s => by simp [bsum]
  | f :: r, s => by
    have := eventFold_len r (eventStep s f)
    have := eventStep_len s f
    simp only [List.foldl_cons, List.length_cons, bsum]; omega
theorem rdEvent_len (l : List UInt8) (bad : Bool) : evLen (rdEvent bad (rdFields l).2).2 ≤ 400 + 501 * l.length := by
  have h1 := eventFold_len (rdFields l).2 (bad, EE.zero)
  have h2 := rdFields_sum l
  have h3 : evLen EE.zero = 400 := rfl
  simp only [h3] at h1
  show evLen ((rdFields l).2.foldl eventStep (bad, EE.zero)).2 ≤ _
  omega
end Go.Proofs.YtojenpjafgfpaaaGreatDoor
