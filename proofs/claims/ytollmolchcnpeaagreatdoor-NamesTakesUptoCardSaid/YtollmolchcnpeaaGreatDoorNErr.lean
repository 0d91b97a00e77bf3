/- strconv.Atoi at what is no number; how many pieces a text has. -/
import Derived.Test.YtollmolchcnpeaaGreatDoorNTake
namespace Go.Proofs.YtollmolchcnpeaaGreatDoor
open Go Go.RowKit

/-- strconv's two errors hold some error. -/
def ErrVars (w : World) : Prop := (∃ ev, w.cell? ⟨0, 0, none⟩ = some ev ∧ (ev = .nilIface ∨ ∃ te pe, ev = .iface te pe)) ∧ ∃ ev, w.cell? ⟨1, 0, none⟩ = some ev ∧ (ev = .nilIface ∨ ∃ te pe, ev = .iface te pe)
theorem ErrVars.below {w w' : World} (h : ErrVars w) (hb : Below w.heap.size w w') : ErrVars w' := by
  obtain ⟨⟨a, h1, h2⟩, b, h3, h4⟩ := h
  exact ⟨⟨a, kcell hb h1, h2⟩, b, kcell hb h3, h4⟩
theorem atoi_bad (p : List UInt8) (h : ∀ v, Lib.atoiAll p ≠ .ok v) (hl : p.length ≤ 281474976710656) (w : World) (he : ErrVars w) :
    Calls Tryz.prog 12 #[.string ⟨p.toArray⟩] w fun e w' => ∃ x N, e = .returned (.tuple #[.int .i64 x, .iface 71 (.pointer (some ⟨N, 0, none⟩))]) ∧ Below w.heap.size w w' := by
  obtain ⟨⟨a, h1, h2⟩, b, h3, h4⟩ := he
  have hl' : (⟨p.toArray⟩ : ByteArray).size ≤ 281474976710656 := by show p.toArray.size ≤ _; rw [List.size_toArray]; exact hl
  cases hc : Lib.atoiAll p
  · exact absurd hc (h _)
  · exact (Any.strconv_Atoi_syntax Tryz.laysC172 ⟨p.toArray⟩ hl' hc a w h1 h2).mono fun e w' ⟨N, he, _, _, hb⟩ => ⟨_, N, he, hb⟩
  · exact (Any.strconv_Atoi_range Tryz.laysC172 ⟨p.toArray⟩ hl' hc b w h3 h4).mono fun e w' ⟨N, he, _, _, hb⟩ => ⟨_, N, he, hb⟩
theorem splitK_many (sep : List UInt8) : ∀ (k : Nat) (s : List UInt8), (Lib.splitK sep 0 k s).length ≤ k + 1
  | 0, s => by rw [Lib.splitK]; simp
  | k + 1, s => by
    unfold Lib.splitK
    split
    · simp
    · have := splitK_many sep k (s.drop ((Lib.index s sep).toNat + sep.length))
      simp only [List.length_cons]; omega
theorem pieces_many (s : List UInt8) (hs : s.length < 4294967281) {p0 : List UInt8} {ps : List (List UInt8)} (h : pieces s = p0 :: ps) : ps.length ≤ 4294967296 := by
  have h1 := splitK_many [95] (Lib.count s [95]) s
  have h2 := Lib.count_le s [95]
  have h3 : (pieces s).length ≤ Lib.count s [95] + 1 := h1
  rw [h, List.length_cons] at h3
  omega
theorem pieces_ne (s : List UInt8) : ∃ p0 ps, pieces s = p0 :: ps := by
  cases h : pieces s with
  | nil =>
    have : (pieces s).length ≠ 0 := by
      unfold pieces Lib.split
      cases Lib.count s [95] with
      | zero => rw [Lib.splitK]; simp
      | succ k =>
        unfold Lib.splitK
        split <;> simp
    rw [h] at this
    exact absurd rfl this
  | cons p0 ps => exact ⟨p0, ps, rfl⟩
/-- The first piece that is no number, if there is one. -/
theorem nums_or : ∀ ps : List (List UInt8), (∃ ns, Nums ps ns) ∨ ∃ j, ∃ h : j < ps.length, (∀ i, (hi : i < j) → ∃ v, Lib.atoiAll (ps[i]'(by omega)) = .ok v) ∧ ∀ v, Lib.atoiAll ps[j] ≠ .ok v
  | [] => .inl ⟨[], rfl⟩
  | p :: r => by
    by_cases hp : ∃ v, Lib.atoiAll p = .ok v
    · obtain ⟨v, hv⟩ := hp
      rcases nums_or r with ⟨ns, hn⟩ | ⟨j, hj, h1, h2⟩
      · exact .inl ⟨v :: ns, by unfold Nums at hn ⊢; rw [List.map_cons, List.map_cons, hv, hn]⟩
      · refine .inr ⟨j + 1, by simpa using hj, fun i hi => ?_, fun w => by simpa using h2 w⟩
        cases i with
        | zero => exact ⟨v, hv⟩
        | succ i => simpa using h1 i (by omega)
    · exact .inr ⟨0, by simp, fun i hi => by omega, fun v hv => hp ⟨v, hv⟩⟩
end Go.Proofs.YtollmolchcnpeaaGreatDoor
