/- A row of directories that a call owns: its elements stored into, cut, cleared, sorted. -/
import Derived.Test.YtollmolchcnpeaaGreatDoorNMay
import Derived.Test.YtollmolchcnpeaaGreatDoorNP3
import Derived.Test.YtollmolchcnpeaaGreatDoorNPut
import Derived.Lib.SliceRun
import Derived.Laws.IdiomCopy
namespace Go.Proofs.YtollmolchcnpeaaGreatDoor
open Go Go.RowKit

def encD (d : DD) : List Value := [.int .i64 d.kind, .int .i64 d.lo, .int .i64 d.hi]
def cellsD (l : List DD) : List Value := (l.map encD).flatten
theorem cellsD_len : ∀ l : List DD, (cellsD l).length = l.length * 3
  | [] => rfl
  | d :: r => by
    have := cellsD_len r
    simp only [cellsD, List.map_cons, List.flatten_cons, List.length_append, encD, List.length_cons, List.length_nil] at this ⊢
    omega
theorem cellsD_cons (d : DD) (r : List DD) : cellsD (d :: r) = encD d ++ cellsD r := rfl
theorem cellsD_app (l m : List DD) : cellsD (l ++ m) = cellsD l ++ cellsD m := by simp [cellsD]
theorem cellsD_get : ∀ (l : List DD) (k j : Nat) (h : k < l.length) (u : Value), (encD l[k])[j]? = some u → (cellsD l)[k * 3 + j]? = some u
  | d :: r, 0, j, _, u, hu => by
    have hj : j < 3 := by
      rcases Nat.lt_or_ge j 3 with h | h
      · exact h
      · rw [List.getElem?_eq_none (by simpa [encD] using h)] at hu; cases hu
    rw [cellsD_cons, Nat.zero_mul, Nat.zero_add, List.getElem?_append_left (by simpa [encD] using hj)]
    exact hu
  | d :: r, k + 1, j, h, u, hu => by
    have ih := cellsD_get r k j (by simpa using h) u (by simpa using hu)
    rw [cellsD_cons, List.getElem?_append_right (by simp [encD]; omega), show (k + 1) * 3 + j - (encD d).length = k * 3 + j by simp [encD]; omega]
    exact ih
theorem cellsD_take (l : List DD) (k : Nat) : (cellsD l).take (k * 3) = cellsD (l.take k) := by
  induction l generalizing k with
  | nil => simp [cellsD]
  | cons d r ih =>
    cases k with
    | zero => simp [cellsD]
    | succ k =>
      rw [cellsD_cons, List.take_succ_cons, cellsD_cons, ← ih k, List.take_append, List.take_of_length_le (by simp [encD]; omega)]
      congr 2
      simp [encD]; omega
theorem cellsD_set : ∀ (l : List DD) (i : Nat) (d : DD), i < l.length → (((cellsD l).set (i * 3) (.int .i64 d.kind)).set (i * 3 + 1) (.int .i64 d.lo)).set (i * 3 + 2) (.int .i64 d.hi) = cellsD (l.set i d)
  | e :: r, 0, d, _ => rfl
  | e :: r, i + 1, d, h => by
    have ih := cellsD_set r i d (by simpa using h)
    rw [List.set_cons_succ, cellsD_cons, cellsD_cons, ← ih]
    simp only [encD, List.cons_append, List.nil_append, show (i + 1) * 3 = i * 3 + 1 + 1 + 1 by omega]
    rfl
theorem repsD (F : Nat → Prop) (w : World) (l : List DD) (h : ∀ d ∈ l, d.ok) : Reps tDD F w (l.map encD) l := by
  refine ⟨by simp, fun i cs x h1 h2 => ?_⟩
  rw [List.getElem?_map, h2] at h1
  simp at h1
  subst h1
  exact ⟨rfl, h x (List.mem_of_getElem? h2)⟩
theorem repsD_eq {F : Nat → Prop} {w : World} {css : List (List Value)} {l : List DD} (h : Reps tDD F w css l) : css = l.map encD ∧ ∀ d ∈ l, d.ok := by
  have hk : ∀ i (hi : i < l.length), css[i]? = some (encD l[i]) ∧ (l[i]).ok := fun i hi => by
    have hc : i < css.length := by rw [h.1]; exact hi
    have := h.2 i _ _ (List.getElem?_eq_getElem hc) (List.getElem?_eq_getElem hi)
    exact ⟨by rw [List.getElem?_eq_getElem hc, this.1]; rfl, this.2⟩
  refine ⟨List.ext_getElem? fun i => ?_, fun d hd => ?_⟩
  · rcases Nat.lt_or_ge i l.length with hi | hi
    · rw [(hk i hi).1, List.getElem?_map, List.getElem?_eq_getElem hi]; rfl
    · rw [List.getElem?_eq_none (by rw [h.1]; exact hi), List.getElem?_eq_none (by simpa using hi)]
  · obtain ⟨i, hi, rfl⟩ := List.getElem_of_mem hd
    exact (hk i hi).2

/-- The directories l, in a row that the call owns, from block B on. -/
structure OwnD (w : World) (B : Nat) (A : Option Addr) (n c : Nat) (l : List DD) : Prop where
  row : w.ownsRow B 24 3 (.slice A n c) n (cellsD l)
  ok : ∀ d ∈ l, d.ok
section
variable {w w' : World} {B n c : Nat} {A : Option Addr} {l : List DD}
theorem OwnD.len (h : OwnD w B A n c l) : n = l.length := by
  have := h.row.1
  rw [cellsD_len] at this; omega
theorem OwnD.ownF (h : OwnD w B A n c l) : OwnF tDD 24 (fun _ => False) w B A n c l := ⟨⟨l.map encD, h.row, repsD _ w l h.ok⟩, by simp, h.len⟩
theorem ownD_of {F : Nat → Prop} (h : OwnF tDD 24 F w B A n c l) : OwnD w B A n c l := by
  obtain ⟨⟨css, h1, h2⟩, _, _⟩ := h
  obtain ⟨rfl, h3⟩ := repsD_eq h2
  exact ⟨h1, h3⟩
theorem OwnD.sl (h : OwnD w B A n c l) : Sl tDD (fun b => B ≤ b) w A n c l := h.ownF.sl.weaken fun b hb _ => by rcases hb with hb | hb; exact hb.elim; exact hb.2
theorem OwnD.cap (h : OwnD w B A n c l) : n ≤ c ∧ c ≤ maxLen := own_cap h.row
theorem OwnD.keepB (h : OwnD w B A n c l) (hb : Below w.heap.size w w') : OwnD w' B A n c l := ⟨own_keep h.row fun b hb' => hb.block b (h.row.lt b hb').2, h.ok⟩
theorem OwnD.front (h : OwnD w B A n c l) {k : Nat} (hk : k ≤ n) (hA : A ≠ none) : OwnD w B A k c (l.take k) := by
  refine ⟨⟨by rw [cellsD_len, List.length_take, ← h.len]; omega, ?_⟩, fun d hd => h.ok d (List.mem_of_mem_take hd)⟩
  rcases h.row.2 with ⟨h1, h2⟩ | ⟨g, cap, cur, h1, hb, hg, hn, hc, hs, ht⟩
  · injection h1 with h1; exact absurd h1 hA
  · injection h1 with e1 e2 e3; subst e1 e3
    refine .inr ⟨g, c, cur, rfl, hb, hg, by omega, hc, hs, ?_⟩
    rw [← cellsD_take, ← ht, List.take_take, Nat.min_eq_left (Nat.mul_le_mul_right 3 hk)]
variable {g : Nat}
theorem OwnD.cell (h : OwnD w B (some ⟨g, 0, none⟩) n c l) {i : Nat} (hi : i < l.length) : w.cell? ⟨g, i * 3, none⟩ = some (.int .i64 l[i].kind) ∧ w.cell? ⟨g, i * 3 + 1, none⟩ = some (.int .i64 l[i].lo) ∧ w.cell? ⟨g, i * 3 + 2, none⟩ = some (.int .i64 l[i].hi) := by
  have hn := h.len
  refine ⟨?_, ?_, ?_⟩
  · rw [h.row.cellAt (i * 3) (by omega)]
    exact cellsD_get l i 0 hi _ rfl
  · rw [h.row.cellAt (i * 3 + 1) (by omega)]
    exact cellsD_get l i 1 hi _ rfl
  · rw [h.row.cellAt (i * 3 + 2) (by omega)]
    exact cellsD_get l i 2 hi _ rfl
theorem OwnD.free (h : OwnD w B (some ⟨g, 0, none⟩) n c l) (j : Nat) : w.frozen? ⟨g, j, none⟩ = false := h.row.frozenAt j
theorem OwnD.base (h : OwnD w B (some ⟨g, 0, none⟩) n c l) : B ≤ g ∧ g < w.heap.size := h.row.lt g rfl
/-- s[i] = d. -/
theorem OwnD.set (h : OwnD w B (some ⟨g, 0, none⟩) n c l) {i : Nat} (hi : i < l.length) (d : DD) (hd : d.ok) :
    OwnD (((w.setCell ⟨g, i * 3, none⟩ (.int .i64 d.kind)).setCell ⟨g, i * 3 + 1, none⟩ (.int .i64 d.lo)).setCell ⟨g, i * 3 + 2, none⟩ (.int .i64 d.hi)) B (some ⟨g, 0, none⟩) n c (l.set i d) := by
  have h1 := (h.row.stored (i * 3) (.int .i64 d.kind)).1
  have h2 := (h1.stored (i * 3 + 1) (.int .i64 d.lo)).1
  have h3 := (h2.stored (i * 3 + 2) (.int .i64 d.hi)).1
  rw [cellsD_set l i d hi] at h3
  refine ⟨h3, fun e he => ?_⟩
  rcases List.mem_or_eq_of_mem_set he with he | rfl
  · exact h.ok e he
  · exact hd
/-- Cells behind the part that counts are stored into. -/
theorem OwnD.past (h : OwnD w B (some ⟨g, 0, none⟩) n c l) : ∀ (vs : List Value) (o : Nat), n * 3 ≤ o → OwnD (w.setCells g o vs) B (some ⟨g, 0, none⟩) n c l := by
  intro vs
  induction vs generalizing w with
  | nil => intro o _; exact h
  | cons v r ih =>
    intro o ho
    have h1 := (h.row.stored o v).1
    rw [List.set_eq_of_length_le (by rw [cellsD_len, ← h.len]; exact ho)] at h1
    exact ih (w := w.setCell ⟨g, o, none⟩ v) ⟨h1, h.ok⟩ (o + 1) (by omega)
end
theorem below_setCells {B g : Nat} {a : World} (hg : B ≤ g) : ∀ (vs : List Value) (o : Nat) (w : World), Below B a w → Below B a (w.setCells g o vs)
  | [], _, _, h => h
  | v :: r, o, _, h => below_setCells hg r (o + 1) _ (bsetc h hg v)

/-- clear(s[i:]) of directories. -/
theorem run_clearD (w : World) (g o m c : Nat) (hm : 0 < m) (hc : ∀ j, j < m * 3 → (w.cell? ⟨g, o + j, none⟩).isSome = true) (hf : ∀ j, j < m * 3 → w.frozen? ⟨g, o + j, none⟩ = false) :
    ∃ vs, ∀ ty, (Builtin.clear_ #[30] ty #[.slice (some ⟨g, o, none⟩) m c]).run Tryz.prog w = .ok (.tuple #[]) (w.setCells g o vs) := by
  obtain ⟨vs, hvs⟩ : ∃ vs, vs = (Builtin.zeroCells (Value.agg #[.int .i64 0, .int .i64 0, .int .i64 0]).cells m).toList := ⟨_, rfl⟩
  have hlen : vs.length = m * 3 := by rw [hvs]; simp [Builtin.zeroCells, Value.cells]
  have hone : ∀ v ∈ vs, v.oneCell' = true := by
    intro v hv
    rw [hvs] at hv
    obtain ⟨i, hi, rfl⟩ := List.getElem_of_mem hv
    simp [Builtin.zeroCells, Value.cells] at hi ⊢
    have : i % 3 < 3 := Nat.mod_lt _ (by decide)
    match i % 3, this with
    | 0, _ => simp; rfl
    | 1, _ => simp; rfl
    | 2, _ => simp; rfl
  refine ⟨vs, fun ty => ?_⟩
  have hst := run_storeCells_cells (P := Tryz.prog) g o vs 0 w (by simpa [hlen] using hc) (by simpa [hlen] using hf) hone
  simp only [Nat.add_zero] at hst
  have hz : ∀ w, (zeroValue 24).run Tryz.prog w = .ok (.agg #[.int .i64 0, .int .i64 0, .int .i64 0]) w := Tryz.zeroValue24
  obtain ⟨k, rfl⟩ : ∃ k, m = k + 1 := ⟨m - 1, by omega⟩
  simp [Builtin.clear_, run_underlying (show Tryz.prog.underlying 30 = some (.slice 24) by kernel_rfl), hz, ← hvs, hst]
end Go.Proofs.YtollmolchcnpeaaGreatDoor
