/- A row of one-celled elements that the call owns: read at a place, stored into. No program in sight. -/
import Derived.Test.YtollmolchcnpeaaGreatDoorTy
namespace Go.Proofs.YtollmolchcnpeaaGreatDoor
open Go Go.RowKit

/-- An α lies as one cell. -/
structure OneT {α : Type} (T : Ty α) (enc : α → Value) (ok : α → Prop) : Prop where
  size : T.size = 1
  rep : ∀ (F : Nat → Prop) (w : World) (cs : List Value) (x : α), T.rep F w cs x ↔ cs = [enc x] ∧ ok x
section
variable {α : Type} {T : Ty α} {enc : α → Value} {ok : α → Prop} (O : OneT T enc ok)
include O
theorem one_reps (F : Nat → Prop) (w : World) (l : List α) (h : ∀ d ∈ l, ok d) : Reps T F w (l.map fun x => [enc x]) l := by
  refine ⟨by simp, fun i cs x h1 h2 => ?_⟩
  rw [List.getElem?_map, h2] at h1
  simp at h1
  subst h1
  exact (O.rep F w _ x).2 ⟨rfl, h x (List.mem_of_getElem? h2)⟩
theorem one_reps_eq {F : Nat → Prop} {w : World} {css : List (List Value)} {l : List α} (h : Reps T F w css l) : css = (l.map fun x => [enc x]) ∧ ∀ d ∈ l, ok d := by
  have hk : ∀ i (hi : i < l.length), css[i]? = some [enc l[i]] ∧ ok l[i] := fun i hi => by
    have hc : i < css.length := by rw [h.1]; exact hi
    have := (O.rep F w _ _).1 (h.2 i _ _ (List.getElem?_eq_getElem hc) (List.getElem?_eq_getElem hi))
    exact ⟨by rw [List.getElem?_eq_getElem hc, this.1], this.2⟩
  refine ⟨List.ext_getElem? fun i => ?_, fun d hd => ?_⟩
  · rcases Nat.lt_or_ge i l.length with hi | hi
    · rw [(hk i hi).1, List.getElem?_map, List.getElem?_eq_getElem hi]; rfl
    · rw [List.getElem?_eq_none (by rw [h.1]; exact hi), List.getElem?_eq_none (by simpa using hi)]
  · obtain ⟨i, hi, rfl⟩ := List.getElem_of_mem hd
    exact (hk i hi).2
omit O in
theorem map_one (enc : α → Value) (l : List α) : (l.map fun x => [enc x]).flatten = l.map enc := by
  induction l with
  | nil => rfl
  | cons a r ih => rw [List.map_cons, List.flatten_cons, ih]; rfl
theorem OwnF.row1 {e : TypeId} {F : Nat → Prop} {w : World} {B n c : Nat} {A : Option Addr} {l : List α} (h : OwnF T e F w B A n c l) : w.ownsRow B e 1 (.slice A n c) n (l.map enc) ∧ ∀ x ∈ l, ok x := by
  obtain ⟨⟨css, h1, h2⟩, _, _⟩ := h
  obtain ⟨rfl, h3⟩ := one_reps_eq O h2
  rw [map_one, O.size] at h1
  exact ⟨h1, h3⟩
theorem own_row1 {e : TypeId} {w : World} {B n c : Nat} {A : Option Addr} {l : List α} (h : w.ownsRow B e 1 (.slice A n c) n (l.map enc)) (hk : ∀ x ∈ l, ok x) : OwnF T e (fun _ => False) w B A n c l :=
  ⟨⟨l.map fun x => [enc x], by rw [map_one, O.size]; exact h, one_reps O _ w l hk⟩, by simp, by have := h.1; simpa using this.symm⟩
variable {e : TypeId} {F : Nat → Prop} {w : World} {B n c g : Nat} {l : List α}
theorem OwnF.cell1 (h : OwnF T e F w B (some ⟨g, 0, none⟩) n c l) {i : Nat} (hi : i < l.length) : w.cell? ⟨g, i, none⟩ = some (enc l[i]) := by
  have hn := h.len
  rw [(h.row1 O).1.cellAt i (by omega)]
  simp [hi]
theorem OwnF.free1 (h : OwnF T e F w B (some ⟨g, 0, none⟩) n c l) (j : Nat) : w.frozen? ⟨g, j, none⟩ = false := (h.row1 O).1.frozenAt j
theorem OwnF.base1 (h : OwnF T e F w B (some ⟨g, 0, none⟩) n c l) : B ≤ g ∧ g < w.heap.size := (h.row1 O).1.lt g rfl
/-- s[i] = x. -/
theorem OwnF.set1 (h : OwnF T e F w B (some ⟨g, 0, none⟩) n c l) (i : Nat) (x : α) (hx : ok x) : OwnF T e (fun _ => False) (w.setCell ⟨g, i, none⟩ (enc x)) B (some ⟨g, 0, none⟩) n c (l.set i x) := by
  obtain ⟨h1, h2⟩ := h.row1 O
  have h3 := (h1.stored i (enc x)).1
  rw [← List.map_set] at h3
  refine own_row1 O h3 fun d hd => ?_
  rcases List.mem_or_eq_of_mem_set hd with hd | rfl
  · exact h2 d hd
  · exact hx
/-- A row that is not empty has a block. -/
theorem OwnF.some1 {A : Option Addr} (h : OwnF T e F w B A n c l) (hl : l ≠ []) : ∃ g, A = some ⟨g, 0, none⟩ := by
  rcases (h.row1 O).1.2 with ⟨_, hn⟩ | ⟨g, _, _, h1, _⟩
  · have := h.len
    exact absurd (List.length_eq_zero_iff.1 (by omega)) hl
  · injection h1 with e1 e2 e3
    exact ⟨g, e1⟩
end
theorem oneI64 : OneT tI64 (fun x => .int .i64 x) (fun x => -9223372036854775808 ≤ x ∧ x ≤ 9223372036854775807) := ⟨rfl, fun _ _ _ _ => Iff.rfl⟩
theorem oneU64 : OneT tU64 (fun x => .int .u64 (x : Int)) (fun x => x < 18446744073709551616) := ⟨rfl, fun _ _ _ _ => Iff.rfl⟩
theorem oneU8 : OneT tU8 (fun x => .int .u8 (x.toNat : Int)) (fun _ => True) := ⟨rfl, fun _ _ _ _ => ⟨fun h => ⟨h, trivial⟩, fun h => h.1⟩⟩
theorem oneBool : OneT tBool (fun x => .bool x) (fun _ => True) := ⟨rfl, fun _ _ _ _ => ⟨fun h => ⟨h, trivial⟩, fun h => h.1⟩⟩
end Go.Proofs.YtollmolchcnpeaaGreatDoor
