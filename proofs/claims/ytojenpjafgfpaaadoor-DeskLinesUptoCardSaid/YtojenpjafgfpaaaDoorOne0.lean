/- The law's own 'one': an event, cut short: the state of its walk. -/
import Derived.Test.YtojenpjafgfpaaaDoorTakeEv
import Derived.Test.YtojenpjafgfpaaaDoorCall
namespace Go.Proofs.YtojenpjafgfpaaaDoor
open Go Go.RowKit

def oneP (p : PP) : PP := { p with vals := p.vals.take 8, l := p.l.take 8 }
def oneE (e : EE) : EE := { e with rows := (e.rows.take 12).map (·.take 8), keys := e.keys.take 12, list := { e.list with except := e.list.except.take 30 }, cols := e.cols.take 8, pred := (e.pred.take 12).map oneP }
def fewE (l : List EE) : List EE := (l.take 30).map oneE

/-- x[:k]. -/
theorem Sl.front {α : Type} {T : Ty α} {F : Nat → Prop} {w : World} {A : Option Addr} {n c : Nat} {xs : List α} (h : Sl T F w A n c xs) {k : Nat} (hk : k ≤ n) : Sl T F w A k c (xs.take k) := by
  obtain ⟨h1, h2, h3, css, h4, h5⟩ := h
  refine ⟨by simp; omega, by omega, h3, css.take k, ?_, h5.take k⟩
  rw [← List.take_append_drop k css, List.flatten_append] at h4
  exact h4.front
theorem Sl.short {α : Type} {T : Ty α} {F : Nat → Prop} {w : World} {A : Option Addr} {n c : Nat} {xs : List α} (h : Sl T F w A n c xs) {k : Nat} (hk : n ≤ k) : xs.take k = xs := List.take_of_length_le (by rw [← h.len]; exact hk)

/-- A list of none that is laid. -/
theorem OwnF.empty {α : Type} (T : Ty α) (e : TypeId) (F : Nat → Prop) (w : World) (B : Nat) (hB : B ≤ w.heap.size) (hF : ∀ b, F b → b < B) : OwnF T e F (w.alloc (.cells #[] e)) B (some ⟨w.heap.size, 0, none⟩) 0 0 [] :=
  (OwnF.newL (T := T) (F := fun _ => False) (w := w) (n := 0) (css := []) (xs := []) Reps.nil_ hB rfl (by omega) _ rfl).weaken (fun b hb _ => hb.1.elim) (fun b _ hB' _ hh => by have := hF b hh; omega)
/-- The blocks that what 'one' tells may lie in. -/
def OnF (F : Nat → Prop) (s : Nat) (b : Nat) : Prop := (F b ∧ b < s) ∨ s + 2 ≤ b
theorem onF_not {F : Nat → Prop} {s k : Nat} (h1 : s ≤ k) (h2 : k < s + 2) : ¬ OnF F s k := by
  rintro (⟨_, h⟩ | h) <;> omega
structure OnSt (w : World) (F : Nat → Prop) (x : EE) (Z0 : Option Addr) (y0 v0 : Nat) (Z1 : Option Addr) (y1 v1 : Nat) (Z2 : Option Addr) (y2 v2 : Nat) (Z3 : Option Addr) (y3 v3 : Nat) (Z4 : Option Addr) (y4 v4 : Nat) (wr : World) : Prop where
  heap : wr.heap[w.heap.size]? = some (.cells (ecells x Z0 y0 v0 Z1 y1 v1 Z2 y2 v2 Z3 y3 v3 Z4 y4 v4) 44 (0, 0))
  zero : wr.heap[w.heap.size + 1]? = some (.cells #[.int .i64 0, .int .i64 0, .int .i64 0, .int .i64 0, .slice none 0 0, .slice none 0 0, .int .i64 0, .slice none 0 0, .slice none 0 0, .slice none 0 0] 44 (0, 0))
  below : Below w.heap.size w wr
  size : w.heap.size + 2 ≤ wr.heap.size
  rows : Sl (tSl tVV) (OnF F w.heap.size) wr Z0 y0 v0 x.rows
  keys : Sl tKK (OnF F w.heap.size) wr Z1 y1 v1 x.keys
  exc : Sl tI64 (OnF F w.heap.size) wr Z2 y2 v2 x.list.except
  cols : Sl tI64 (OnF F w.heap.size) wr Z3 y3 v3 x.cols
  pred : Sl tPP (OnF F w.heap.size) wr Z4 y4 v4 x.pred
  nums : x.nums
section
variable {w : World} {F : Nat → Prop} {x x2 : EE} {Z0 Z1 Z2 Z3 Z4 Z0' Z1' Z2' Z3' Z4' : Option Addr} {y0 v0 y1 v1 y2 v2 y3 v3 y4 v4 y0' v0' y1' v1' y2' v2' y3' v3' y4' v4' : Nat} {wr w2 : World}
theorem OnSt.below' (h : OnSt w F x Z0 y0 v0 Z1 y1 v1 Z2 y2 v2 Z3 y3 v3 Z4 y4 v4 wr) (hb : Below wr.heap.size wr w2) : OnSt w F x Z0 y0 v0 Z1 y1 v1 Z2 y2 v2 Z3 y3 v3 Z4 y4 v4 w2 := by
  have h1 := h.size
  exact ⟨below_heap hb h.heap, below_heap hb h.zero, h.below.trans (hb.mono (by omega)), Nat.le_trans h1 hb.size, h.rows.below hb (Nat.le_refl _), h.keys.below hb (Nat.le_refl _), h.exc.below hb (Nat.le_refl _), h.cols.below hb (Nat.le_refl _), h.pred.below hb (Nat.le_refl _), h.nums⟩
/-- A store into the event. -/
theorem OnSt.put (h : OnSt w F x Z0 y0 v0 Z1 y1 v1 Z2 y2 v2 Z3 y3 v3 Z4 y4 v4 wr) {j : Nat} {u : Value} (hc : (ecells x Z0 y0 v0 Z1 y1 v1 Z2 y2 v2 Z3 y3 v3 Z4 y4 v4).setIfInBounds j u = ecells x2 Z0' y0' v0' Z1' y1' v1' Z2' y2' v2' Z3' y3' v3' Z4' y4' v4')
    (r0 : Sl (tSl tVV) (OnF F w.heap.size) wr Z0' y0' v0' x2.rows) (r1 : Sl tKK (OnF F w.heap.size) wr Z1' y1' v1' x2.keys) (r2 : Sl tI64 (OnF F w.heap.size) wr Z2' y2' v2' x2.list.except) (r3 : Sl tI64 (OnF F w.heap.size) wr Z3' y3' v3' x2.cols) (r4 : Sl tPP (OnF F w.heap.size) wr Z4' y4' v4' x2.pred) (hn : x2.nums) :
    OnSt w F x2 Z0' y0' v0' Z1' y1' v1' Z2' y2' v2' Z3' y3' v3' Z4' y4' v4' (wr.setCell ⟨w.heap.size, j, none⟩ u) := by
  have hF : ¬ OnF F w.heap.size w.heap.size := onF_not (Nat.le_refl _) (by omega)
  exact ⟨heap_set h.heap hc, heap_setne h.zero (by omega), bsetc h.below (Nat.le_refl _) _, by simpa using h.size, slsetc r0 hF _, slsetc r1 hF _, slsetc r2 hF _, slsetc r3 hF _, slsetc r4 hF _, hn⟩
theorem OnSt.cell (h : OnSt w F x Z0 y0 v0 Z1 y1 v1 Z2 y2 v2 Z3 y3 v3 Z4 y4 v4 wr) {j : Nat} {u : Value} (hj : (ecells x Z0 y0 v0 Z1 y1 v1 Z2 y2 v2 Z3 y3 v3 Z4 y4 v4)[j]? = some u) : wr.cell? ⟨w.heap.size, j, none⟩ = some u := by rw [Lib.cell_of_heap h.heap]; exact hj
theorem OnSt.free (h : OnSt w F x Z0 y0 v0 Z1 y1 v1 Z2 y2 v2 Z3 y3 v3 Z4 y4 v4 wr) (j : Nat) : wr.frozen? ⟨w.heap.size, j, none⟩ = false := Lib.frozen_of_heap h.heap j
end
/-- What 'one' leaves. -/
def OnPost (F : Nat → Prop) (e : EE) (w : World) (en : Ending) (w' : World) : Prop :=
  ∃ Z0 y0 v0 Z1 y1 v1 Z2 y2 v2 Z3 y3 v3 Z4 y4 v4, en = .returned (.agg #[.int .i64 e.kind, .int .i64 e.id, .int .i64 e.n, .int .i64 e.m, .slice Z0 y0 v0, .slice Z1 y1 v1, .int .i64 e.list.high, .slice Z2 y2 v2, .slice Z3 y3 v3, .slice Z4 y4 v4]) ∧ Below w.heap.size w w' ∧
    tEE.rep (fun b => (F b ∧ b < w.heap.size) ∨ w.heap.size ≤ b) w' (ecellsL e Z0 y0 v0 Z1 y1 v1 Z2 y2 v2 Z3 y3 v3 Z4 y4 v4) (oneE e)
end Go.Proofs.YtojenpjafgfpaaaDoor
