/- A line for each answer, a line for each event. No program in sight. -/
import Derived.Test.YtojenpjafgfpaaaDoorShow3
namespace Go.Proofs.YtojenpjafgfpaaaDoor
open Go Go.RowKit

def no10 (l : List UInt8) : Prop := l.count 10 = 0
theorem no10_app {a b : List UInt8} (ha : no10 a) (hb : no10 b) : no10 (a ++ b) := by unfold no10 at *; rw [List.count_append, ha, hb]
theorem no10_cons {c : UInt8} {b : List UInt8} (hc : c ≠ 10) (hb : no10 b) : no10 (c :: b) := by unfold no10 at *; rw [List.count_cons, hb]; simp [hc]
theorem no10_nil : no10 [] := rfl
theorem no10_one {c : UInt8} (h : c ≠ 10) : no10 [c] := no10_cons h no10_nil
theorem no10_flat : ∀ (l : List (List UInt8)), (∀ a ∈ l, no10 a) → no10 l.flatten
  | [], _ => rfl
  | a :: r, h => by rw [List.flatten_cons]; exact no10_app (h a (by simp)) (no10_flat r fun b hb => h b (by simp [hb]))
theorem ne10 {n : Nat} (h : 10 < n) (h2 : n < 256) : UInt8.ofNat n ≠ 10 := by
  intro e
  have := congrArg UInt8.toNat e
  rw [UInt8.toNat_ofNat', Nat.mod_eq_of_lt h2] at this
  have h3 : (10 : UInt8).toNat = 10 := rfl
  omega
theorem no10_dec (u : Nat) : no10 (Lib.decDigits u) := by
  induction u using Nat.strongRecOn with
  | _ u ih =>
    rw [Lib.decDigits]
    split
    · exact no10_cons (ne10 (by omega) (by omega)) no10_nil
    · exact no10_app (ih _ (by omega)) (no10_cons (ne10 (by omega) (by omega)) no10_nil)
theorem no10_itoa (n : Int) : no10 (Lib.itoa n) := by
  unfold Lib.itoa
  split
  · exact no10_cons (by decide) (no10_dec _)
  · exact no10_dec _
theorem no10_hexD {n : Nat} (h : n < 16) : hexD n ≠ 10 := by
  unfold hexD
  split
  · exact ne10 (by omega) (by omega)
  · exact ne10 (by omega) (by omega)
theorem no10_hex : ∀ l : List UInt8, no10 (hexOf l)
  | [] => rfl
  | c :: r => by
    have := c.toNat_lt
    exact no10_cons (no10_hexD (by omega)) (no10_cons (no10_hexD (by omega)) (no10_hex r))
theorem no10_join {sep : List UInt8} (hs : no10 sep) (l : List (List UInt8)) (h : ∀ a ∈ l, no10 a) : no10 (Lib.join l sep) := by
  cases l with
  | nil => rfl
  | cons x r =>
    rw [Lib.join_cons]
    refine no10_app (h x (by simp)) (no10_flat _ fun a ha => ?_)
    obtain ⟨y, hy, rfl⟩ := List.mem_map.1 ha
    exact no10_app hs (h y (by simp [hy]))
theorem no10_jn {sep : List UInt8} (hs : no10 sep) (l : List Int) : no10 (jn sep l) := by
  refine no10_join hs _ fun a ha => ?_
  obtain ⟨y, _, rfl⟩ := List.mem_map.1 ha
  exact no10_itoa y
theorem no10_told (x : KD) : no10 (toldOf x) := by
  refine no10_app (no10_jn (no10_one (by decide)) _) (no10_flat _ fun a ha => ?_)
  obtain ⟨y, _, rfl⟩ := List.mem_map.1 ha
  exact no10_cons (by decide) (no10_hex _)
theorem count_showA (a : AA) : (showA a).count 10 = 1 := by
  have h : no10 (Lib.join (partsA a) [124]) := by
    refine no10_join (no10_one (by decide)) _ fun p hp => ?_
    simp only [partsA, List.mem_cons, List.not_mem_nil, or_false] at hp
    rcases hp with rfl | rfl | rfl
    · exact no10_jn (no10_one (by decide)) _
    · exact no10_jn (no10_one (by decide)) _
    · refine no10_join (no10_one (by decide)) _ fun q hq => ?_
      obtain ⟨y, _, rfl⟩ := List.mem_map.1 hq
      exact no10_told y
  unfold showA
  unfold no10 at h
  rw [List.count_append, h]; rfl
theorem count_showOf (l : List AA) : (showOf l).count 10 = l.length := by
  induction l with
  | nil => rfl
  | cons a r ih =>
    have e : showOf (a :: r) = showA a ++ showOf r := rfl
    rw [e, List.count_append, count_showA, ih, List.length_cons]; omega
theorem count_take_succ {l : List UInt8} {k : Nat} (h : k < l.length) : (l.take (k + 1)).count 10 = (l.take k).count 10 + (if l[k] = 10 then 1 else 0) := by
  rw [List.take_succ_eq_append_getElem h, List.count_append]
  by_cases e : l[k] = 10 <;> simp [e]
theorem printOf_len_succ {l : List EE} {k : Nat} (h : k < l.length) : (printOf (l.take (k + 1))).length = (printOf (l.take k)).length + 2 * (putEvent l[k]).length + 1 := by
  rw [List.take_succ_eq_append_getElem h, printOf_snoc, List.length_append]
  simp only [lineP, List.length_append, hexOf_len, List.length_cons, List.length_nil]; omega
end Go.Proofs.YtojenpjafgfpaaaDoor
