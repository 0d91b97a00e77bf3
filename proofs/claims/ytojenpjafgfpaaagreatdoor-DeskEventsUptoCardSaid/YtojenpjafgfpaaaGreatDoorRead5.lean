/- The layer desk: the reader: event: the state of its loop. (Printed by gen_read5.py.) -/
import Derived.Test.YtojenpjafgfpaaaGreatDoorRead4
namespace Go.Proofs.YtojenpjafgfpaaaGreatDoor
open Go Go.RowKit

def ecells (x : EE) (Z0 : Option Addr) (y0 v0 : Nat) (Z1 : Option Addr) (y1 v1 : Nat) (Z2 : Option Addr) (y2 v2 : Nat) (Z3 : Option Addr) (y3 v3 : Nat) (Z4 : Option Addr) (y4 v4 : Nat) : Array Value := #[.int .i64 x.kind, .int .i64 x.id, .int .i64 x.n, .int .i64 x.m, .slice Z0 y0 v0, .slice Z1 y1 v1, .int .i64 x.list.high, .slice Z2 y2 v2, .slice Z3 y3 v3, .slice Z4 y4 v4]
def EE.nums (x : EE) : Prop := i64 x.kind ∧ i64 x.id ∧ i64 x.n ∧ i64 x.m ∧ i64 x.list.high
/-- The event that is read so far, in block P; fields L; the reader in block g. -/
structure EvSt (w : World) (P B g S : Nat) (bad : Bool) (x : EE) (col : Nat → Nat) (Z0 : Option Addr) (y0 v0 : Nat) (Z1 : Option Addr) (y1 v1 : Nat) (Z2 : Option Addr) (y2 v2 : Nat) (Z3 : Option Addr) (y3 v3 : Nat) (Z4 : Option Addr) (y4 v4 : Nat) (A1 : Option Addr) (n1 c1 : Nat) (L : List Fld) (wr : World) : Prop where
  heap : wr.heap[P]? = some (.cells (ecells x Z0 y0 v0 Z1 y1 v1 Z2 y2 v2 Z3 y3 v3 Z4 y4 v4) 29 (0, 0))
  rows : Col (tSl tVV) 51 col 0 B S wr Z0 y0 v0 x.rows
  keys : Col tKK 71 col 1 B S wr Z1 y1 v1 x.keys
  exc : Col tI64 3 col 2 B S wr Z2 y2 v2 x.list.except
  cols : Col tI64 3 col 3 B S wr Z3 y3 v3 x.cols
  pred : Col tPP 55 col 4 B S wr Z4 y4 v4 x.pred
  rd : RdAt g bad wr
  gr : w.grownBy wr (some g)
  fl : Sl tFld (fun b => b ≠ P ∧ b ≠ g ∧ b < B) wr A1 n1 c1 L
  nums : x.nums
  hg : g < P
  hw : w.heap.size = P
  hP : P < B
  hB : B ≤ S
  hS : S ≤ wr.heap.size

section
variable {w : World} {P B g S : Nat} {bad bad2 : Bool} {x x2 : EE} {col : Nat → Nat} {Z0 : Option Addr} {y0 v0 : Nat} {Z1 : Option Addr} {y1 v1 : Nat} {Z2 : Option Addr} {y2 v2 : Nat} {Z3 : Option Addr} {y3 v3 : Nat} {Z4 : Option Addr} {y4 v4 : Nat} {A1 : Option Addr} {n1 c1 : Nat} {L : List Fld} {wr w2 : World}
/-- A step that touches no block below S but the reader's. -/
theorem EvSt.step (h : EvSt w P B g S bad x col Z0 y0 v0 Z1 y1 v1 Z2 y2 v2 Z3 y3 v3 Z4 y4 v4 A1 n1 c1 L wr) {row : Option Nat} (hgr : wr.grownBy w2 row) (hr : ∀ k, row = some k → S ≤ k ∨ k = g) (hrd : RdAt g bad2 w2) : EvSt w P B g S bad2 x col Z0 y0 v0 Z1 y1 v1 Z2 y2 v2 Z3 y3 v3 Z4 y4 v4 A1 n1 c1 L w2 := by
  have h1 := h.hg; have h2 := h.hP; have h3 := h.hB; have h4 := h.hw; have h5 := h.hS
  have hsz := hgr.size
  have hk : ∀ k, k < S → k ≠ g → w2.heap[k]? = wr.heap[k]? := fun k hk hkg => hgr.block k (by omega) fun e => by have := hr k e.symm; omega
  refine ⟨(hk P (by omega) (by omega)).trans h.heap, h.rows.keep hsz fun b q1 q2 _ _ => hk b q2 (by omega), h.keys.keep hsz fun b q1 q2 _ _ => hk b q2 (by omega), h.exc.keep hsz fun b q1 q2 _ _ => hk b q2 (by omega), h.cols.keep hsz fun b q1 q2 _ _ => hk b q2 (by omega), h.pred.keep hsz fun b q1 q2 _ _ => hk b q2 (by omega), hrd, ?_, h.fl.keep hsz fun b hb _ => hk b (by omega) hb.2.1, h.nums, h1, h4, h2, h3, by omega⟩
  exact ⟨hgr.os.trans h.gr.os, hgr.tape.trans h.gr.tape, hgr.output.trans h.gr.output, by have := h.gr.size; omega, fun k hk2 hk3 => (hk k (by omega) (fun e => hk3 (by rw [e]))).trans (h.gr.block k hk2 hk3)⟩
theorem EvSt.grow (h : EvSt w P B g S bad x col Z0 y0 v0 Z1 y1 v1 Z2 y2 v2 Z3 y3 v3 Z4 y4 v4 A1 n1 c1 L wr) (hgr : wr.grownBy w2 (some g)) (hrd : RdAt g bad2 w2) : EvSt w P B g S bad2 x col Z0 y0 v0 Z1 y1 v1 Z2 y2 v2 Z3 y3 v3 Z4 y4 v4 A1 n1 c1 L w2 :=
  h.step hgr (fun _ hk => .inr (Option.some.inj hk).symm) hrd
theorem EvSt.below (h : EvSt w P B g S bad x col Z0 y0 v0 Z1 y1 v1 Z2 y2 v2 Z3 y3 v3 Z4 y4 v4 A1 n1 c1 L wr) (hb : Below wr.heap.size wr w2) : EvSt w P B g S bad x col Z0 y0 v0 Z1 y1 v1 Z2 y2 v2 Z3 y3 v3 Z4 y4 v4 A1 n1 c1 L w2 := h.step (row := none) (grown_of_below hb) (fun k hk => by cases hk) (h.rd.below hb)
theorem EvSt.drew (h : EvSt w P B g S bad x col Z0 y0 v0 Z1 y1 v1 Z2 y2 v2 Z3 y3 v3 Z4 y4 v4 A1 n1 c1 L wr) : EvSt w P B g S bad x col Z0 y0 v0 Z1 y1 v1 Z2 y2 v2 Z3 y3 v3 Z4 y4 v4 A1 n1 c1 L wr.drew := h.below (Below.refl _ wr).drew
theorem EvSt.put (h : EvSt w P B g S bad x col Z0 y0 v0 Z1 y1 v1 Z2 y2 v2 Z3 y3 v3 Z4 y4 v4 A1 n1 c1 L wr) {j : Nat} {u : Value} (hc : (ecells x Z0 y0 v0 Z1 y1 v1 Z2 y2 v2 Z3 y3 v3 Z4 y4 v4).setIfInBounds j u = ecells x2 Z0 y0 v0 Z1 y1 v1 Z2 y2 v2 Z3 y3 v3 Z4 y4 v4) (e0 : x2.rows = x.rows) (e1 : x2.keys = x.keys) (e2 : x2.list.except = x.list.except) (e3 : x2.cols = x.cols) (e4 : x2.pred = x.pred) (hn : x2.nums) :
    EvSt w P B g S bad x2 col Z0 y0 v0 Z1 y1 v1 Z2 y2 v2 Z3 y3 v3 Z4 y4 v4 A1 n1 c1 L (wr.setCell ⟨P, j, none⟩ u) := by
  have h1 := h.hg; have h2 := h.hP; have h3 := h.hB; have h4 := h.hw
  exact ⟨heap_set h.heap hc, by rw [e0]; exact h.rows.setP h2 _, by rw [e1]; exact h.keys.setP h2 _, by rw [e2]; exact h.exc.setP h2 _, by rw [e3]; exact h.cols.setP h2 _, by rw [e4]; exact h.pred.setP h2 _, heap_setne h.rd (by omega), grown_setnew h.gr (by omega) _ _, slsetc h.fl (fun hh => hh.1 rfl) _, hn, h1, h4, h2, h3, by simpa using h.hS⟩
/-- What an append onto one of its lists leaves as it was. -/
theorem EvSt.rest (h : EvSt w P B g S bad x col Z0 y0 v0 Z1 y1 v1 Z2 y2 v2 Z3 y3 v3 Z4 y4 v4 A1 n1 c1 L wr) {row : Option Nat} (hgr : wr.grownBy w2 row) (hA : ∀ b, row = some b → B ≤ b) :
    w2.heap[P]? = some (.cells (ecells x Z0 y0 v0 Z1 y1 v1 Z2 y2 v2 Z3 y3 v3 Z4 y4 v4) 29 (0, 0)) ∧ RdAt g bad w2 ∧ w.grownBy w2 (some g) ∧ Sl tFld (fun b => b ≠ P ∧ b ≠ g ∧ b < B) w2 A1 n1 c1 L := by
  have q1 := h.hg; have q2 := h.hP; have q3 := h.hB; have q4 := h.hw; have q5 := h.hS
  have hsz := hgr.size
  have hk : ∀ k, k < B → k < wr.heap.size → w2.heap[k]? = wr.heap[k]? := fun k hkB hkl => hgr.block k hkl (fun e => by have := hA k e.symm; omega)
  refine ⟨(hk P q2 (by omega)).trans h.heap, (hk g (by omega) (by omega)).trans h.rd, ?_, h.fl.grown hgr (fun k hk2 hk3 => by have := hA k hk2; omega)⟩
  exact ⟨hgr.os.trans h.gr.os, hgr.tape.trans h.gr.tape, hgr.output.trans h.gr.output, by have := h.gr.size; omega, fun k hk2 hk3 => (hk k (by omega) (by have := h.gr.size; omega)).trans (h.gr.block k hk2 hk3)⟩
theorem EvSt.addRw (h : EvSt w P B g S bad x col Z0 y0 v0 Z1 y1 v1 Z2 y2 v2 Z3 y3 v3 Z4 y4 v4 A1 n1 c1 L wr) {F G : Nat → Prop} {w3 a0 w4 : World} {v : List VV} {A' : Option Addr} {c' : Nat} (h2 : ∀ b, F b → b < S ∧ B ≤ b ∧ col b = 0) (h3 : ∀ b, Z0.map (·.block) = some b → b < S ∧ col b = 0)
    (hG : ∀ b, G b → S ≤ b) (ha : ApdL (tSl tVV) 51 (fun b => (F b ∨ G b) ∧ b < w4.heap.size) a0 w3 w2 B Z0 A' (y0 + 1) c' (x.rows ++ [v])) (hw3 : Below wr.heap.size wr w3) :
    EvSt w P B g w2.heap.size bad { x with rows := x.rows ++ [v] } (recolor col 0 S) A' (y0 + 1) c' Z1 y1 v1 Z2 y2 v2 Z3 y3 v3 Z4 y4 v4 A1 n1 c1 L (w2.setCell ⟨P, 4, none⟩ (.slice A' (y0 + 1) c')) := by
  have q1 := h.hg; have q2 := h.hP; have q3 := h.hB; have q4 := h.hw; have q5 := h.hS
  have hgr : wr.grownBy w2 (Z0.map (·.block)) := grown_trans (grown_of_below hw3) ha.grown
  have hsz := hgr.size
  obtain ⟨r1, r2, r3, r4⟩ := h.rest hgr fun b hb => (h.rows.lies hb).1
  have h6 := Col.apd h2 h3 hG q3 (by have := hw3.size; omega) ha
  have t1 := h.keys.past (by decide) h3 hgr (by omega)
  have t2 := h.exc.past (by decide) h3 hgr (by omega)
  have t3 := h.cols.past (by decide) h3 hgr (by omega)
  have t4 := h.pred.past (by decide) h3 hgr (by omega)
  exact ⟨heap_set r1 rfl, h6.setP q2 _, t1.setP q2 _, t2.setP q2 _, t3.setP q2 _, t4.setP q2 _, heap_setne r2 (by omega), grown_setnew r3 (by omega) _ _, slsetc r4 (fun hh => hh.1 rfl) _, h.nums, q1, q4, q2, by omega, by simp⟩
theorem EvSt.addKy (h : EvSt w P B g S bad x col Z0 y0 v0 Z1 y1 v1 Z2 y2 v2 Z3 y3 v3 Z4 y4 v4 A1 n1 c1 L wr) {F G : Nat → Prop} {w3 a0 w4 : World} {v : KK} {A' : Option Addr} {c' : Nat} (h2 : ∀ b, F b → b < S ∧ B ≤ b ∧ col b = 1) (h3 : ∀ b, Z1.map (·.block) = some b → b < S ∧ col b = 1)
    (hG : ∀ b, G b → S ≤ b) (ha : ApdL tKK 71 (fun b => (F b ∨ G b) ∧ b < w4.heap.size) a0 w3 w2 B Z1 A' (y1 + 1) c' (x.keys ++ [v])) (hw3 : Below wr.heap.size wr w3) :
    EvSt w P B g w2.heap.size bad { x with keys := x.keys ++ [v] } (recolor col 1 S) Z0 y0 v0 A' (y1 + 1) c' Z2 y2 v2 Z3 y3 v3 Z4 y4 v4 A1 n1 c1 L (w2.setCell ⟨P, 5, none⟩ (.slice A' (y1 + 1) c')) := by
  have q1 := h.hg; have q2 := h.hP; have q3 := h.hB; have q4 := h.hw; have q5 := h.hS
  have hgr : wr.grownBy w2 (Z1.map (·.block)) := grown_trans (grown_of_below hw3) ha.grown
  have hsz := hgr.size
  obtain ⟨r1, r2, r3, r4⟩ := h.rest hgr fun b hb => (h.keys.lies hb).1
  have h6 := Col.apd h2 h3 hG q3 (by have := hw3.size; omega) ha
  have t0 := h.rows.past (by decide) h3 hgr (by omega)
  have t2 := h.exc.past (by decide) h3 hgr (by omega)
  have t3 := h.cols.past (by decide) h3 hgr (by omega)
  have t4 := h.pred.past (by decide) h3 hgr (by omega)
  exact ⟨heap_set r1 rfl, t0.setP q2 _, h6.setP q2 _, t2.setP q2 _, t3.setP q2 _, t4.setP q2 _, heap_setne r2 (by omega), grown_setnew r3 (by omega) _ _, slsetc r4 (fun hh => hh.1 rfl) _, h.nums, q1, q4, q2, by omega, by simp⟩
theorem EvSt.addEx (h : EvSt w P B g S bad x col Z0 y0 v0 Z1 y1 v1 Z2 y2 v2 Z3 y3 v3 Z4 y4 v4 A1 n1 c1 L wr) {F G : Nat → Prop} {w3 a0 w4 : World} {v : Int} {A' : Option Addr} {c' : Nat} (h2 : ∀ b, F b → b < S ∧ B ≤ b ∧ col b = 2) (h3 : ∀ b, Z2.map (·.block) = some b → b < S ∧ col b = 2)
    (hG : ∀ b, G b → S ≤ b) (ha : ApdL tI64 3 (fun b => (F b ∨ G b) ∧ b < w4.heap.size) a0 w3 w2 B Z2 A' (y2 + 1) c' (x.list.except ++ [v])) (hw3 : Below wr.heap.size wr w3) :
    EvSt w P B g w2.heap.size bad { x with list := { x.list with except := x.list.except ++ [v] } } (recolor col 2 S) Z0 y0 v0 Z1 y1 v1 A' (y2 + 1) c' Z3 y3 v3 Z4 y4 v4 A1 n1 c1 L (w2.setCell ⟨P, 7, none⟩ (.slice A' (y2 + 1) c')) := by
  have q1 := h.hg; have q2 := h.hP; have q3 := h.hB; have q4 := h.hw; have q5 := h.hS
  have hgr : wr.grownBy w2 (Z2.map (·.block)) := grown_trans (grown_of_below hw3) ha.grown
  have hsz := hgr.size
  obtain ⟨r1, r2, r3, r4⟩ := h.rest hgr fun b hb => (h.exc.lies hb).1
  have h6 := Col.apd h2 h3 hG q3 (by have := hw3.size; omega) ha
  have t0 := h.rows.past (by decide) h3 hgr (by omega)
  have t1 := h.keys.past (by decide) h3 hgr (by omega)
  have t3 := h.cols.past (by decide) h3 hgr (by omega)
  have t4 := h.pred.past (by decide) h3 hgr (by omega)
  exact ⟨heap_set r1 rfl, t0.setP q2 _, t1.setP q2 _, h6.setP q2 _, t3.setP q2 _, t4.setP q2 _, heap_setne r2 (by omega), grown_setnew r3 (by omega) _ _, slsetc r4 (fun hh => hh.1 rfl) _, h.nums, q1, q4, q2, by omega, by simp⟩
theorem EvSt.addCl (h : EvSt w P B g S bad x col Z0 y0 v0 Z1 y1 v1 Z2 y2 v2 Z3 y3 v3 Z4 y4 v4 A1 n1 c1 L wr) {F G : Nat → Prop} {w3 a0 w4 : World} {v : Int} {A' : Option Addr} {c' : Nat} (h2 : ∀ b, F b → b < S ∧ B ≤ b ∧ col b = 3) (h3 : ∀ b, Z3.map (·.block) = some b → b < S ∧ col b = 3)
    (hG : ∀ b, G b → S ≤ b) (ha : ApdL tI64 3 (fun b => (F b ∨ G b) ∧ b < w4.heap.size) a0 w3 w2 B Z3 A' (y3 + 1) c' (x.cols ++ [v])) (hw3 : Below wr.heap.size wr w3) :
    EvSt w P B g w2.heap.size bad { x with cols := x.cols ++ [v] } (recolor col 3 S) Z0 y0 v0 Z1 y1 v1 Z2 y2 v2 A' (y3 + 1) c' Z4 y4 v4 A1 n1 c1 L (w2.setCell ⟨P, 8, none⟩ (.slice A' (y3 + 1) c')) := by
  have q1 := h.hg; have q2 := h.hP; have q3 := h.hB; have q4 := h.hw; have q5 := h.hS
  have hgr : wr.grownBy w2 (Z3.map (·.block)) := grown_trans (grown_of_below hw3) ha.grown
  have hsz := hgr.size
  obtain ⟨r1, r2, r3, r4⟩ := h.rest hgr fun b hb => (h.cols.lies hb).1
  have h6 := Col.apd h2 h3 hG q3 (by have := hw3.size; omega) ha
  have t0 := h.rows.past (by decide) h3 hgr (by omega)
  have t1 := h.keys.past (by decide) h3 hgr (by omega)
  have t2 := h.exc.past (by decide) h3 hgr (by omega)
  have t4 := h.pred.past (by decide) h3 hgr (by omega)
  exact ⟨heap_set r1 rfl, t0.setP q2 _, t1.setP q2 _, t2.setP q2 _, h6.setP q2 _, t4.setP q2 _, heap_setne r2 (by omega), grown_setnew r3 (by omega) _ _, slsetc r4 (fun hh => hh.1 rfl) _, h.nums, q1, q4, q2, by omega, by simp⟩
theorem EvSt.addPr (h : EvSt w P B g S bad x col Z0 y0 v0 Z1 y1 v1 Z2 y2 v2 Z3 y3 v3 Z4 y4 v4 A1 n1 c1 L wr) {F G : Nat → Prop} {w3 a0 w4 : World} {v : PP} {A' : Option Addr} {c' : Nat} (h2 : ∀ b, F b → b < S ∧ B ≤ b ∧ col b = 4) (h3 : ∀ b, Z4.map (·.block) = some b → b < S ∧ col b = 4)
    (hG : ∀ b, G b → S ≤ b) (ha : ApdL tPP 55 (fun b => (F b ∨ G b) ∧ b < w4.heap.size) a0 w3 w2 B Z4 A' (y4 + 1) c' (x.pred ++ [v])) (hw3 : Below wr.heap.size wr w3) :
    EvSt w P B g w2.heap.size bad { x with pred := x.pred ++ [v] } (recolor col 4 S) Z0 y0 v0 Z1 y1 v1 Z2 y2 v2 Z3 y3 v3 A' (y4 + 1) c' A1 n1 c1 L (w2.setCell ⟨P, 9, none⟩ (.slice A' (y4 + 1) c')) := by
  have q1 := h.hg; have q2 := h.hP; have q3 := h.hB; have q4 := h.hw; have q5 := h.hS
  have hgr : wr.grownBy w2 (Z4.map (·.block)) := grown_trans (grown_of_below hw3) ha.grown
  have hsz := hgr.size
  obtain ⟨r1, r2, r3, r4⟩ := h.rest hgr fun b hb => (h.pred.lies hb).1
  have h6 := Col.apd h2 h3 hG q3 (by have := hw3.size; omega) ha
  have t0 := h.rows.past (by decide) h3 hgr (by omega)
  have t1 := h.keys.past (by decide) h3 hgr (by omega)
  have t2 := h.exc.past (by decide) h3 hgr (by omega)
  have t3 := h.cols.past (by decide) h3 hgr (by omega)
  exact ⟨heap_set r1 rfl, t0.setP q2 _, t1.setP q2 _, t2.setP q2 _, t3.setP q2 _, h6.setP q2 _, heap_setne r2 (by omega), grown_setnew r3 (by omega) _ _, slsetc r4 (fun hh => hh.1 rfl) _, h.nums, q1, q4, q2, by omega, by simp⟩
/-- A step that touches no block below S. -/
theorem EvSt.stepN (h : EvSt w P B g S bad x col Z0 y0 v0 Z1 y1 v1 Z2 y2 v2 Z3 y3 v3 Z4 y4 v4 A1 n1 c1 L wr) {row : Option Nat} (hgr : wr.grownBy w2 row) (hr : ∀ k, row = some k → S ≤ k) : EvSt w P B g S bad x col Z0 y0 v0 Z1 y1 v1 Z2 y2 v2 Z3 y3 v3 Z4 y4 v4 A1 n1 c1 L w2 :=
  h.step hgr (fun k hk => .inl (hr k hk)) ((hgr.block g (by have h1 := h.hg; have h2 := h.hP; have h3 := h.hB; have h5 := h.hS; omega) (fun e => by have h1 := h.hg; have h2 := h.hP; have h3 := h.hB; have := hr g e.symm; omega)).trans h.rd)
theorem OwnF.gset {α : Type} {T : Ty α} {e : TypeId} {F : Nat → Prop} {w w2 : World} {B g : Nat} {A : Option Addr} {n c : Nat} {xs : List α} (h : OwnF T e F w B A n c xs) (hg : w.grownBy w2 (some g)) (hF : ¬ F g) (hB : g < B) : OwnF T e F w2 B A n c xs :=
  h.grown hg fun k hk => by
    injection hk with hk; subst hk
    exact ⟨hF, fun he => by have := (h.lies' (b := g) (by rw [he]; rfl)).2.1; omega⟩
theorem EvSt.cell (h : EvSt w P B g S bad x col Z0 y0 v0 Z1 y1 v1 Z2 y2 v2 Z3 y3 v3 Z4 y4 v4 A1 n1 c1 L wr) {j : Nat} {u : Value} (hj : (ecells x Z0 y0 v0 Z1 y1 v1 Z2 y2 v2 Z3 y3 v3 Z4 y4 v4)[j]? = some u) : wr.cell? ⟨P, j, none⟩ = some u := by rw [Lib.cell_of_heap h.heap]; exact hj
theorem EvSt.free (h : EvSt w P B g S bad x col Z0 y0 v0 Z1 y1 v1 Z2 y2 v2 Z3 y3 v3 Z4 y4 v4 A1 n1 c1 L wr) (j : Nat) : wr.frozen? ⟨P, j, none⟩ = false := Lib.frozen_of_heap h.heap j
end

/-- What 'event' leaves. -/
def EvPost (g : Nat) (bad : Bool) (L : List Fld) (w : World) (e : Ending) (w' : World) : Prop :=
  ∃ Z0 y0 v0 Z1 y1 v1 Z2 y2 v2 Z3 y3 v3 Z4 y4 v4, e = .returned (.agg (ecells (rdEvent bad L).2 Z0 y0 v0 Z1 y1 v1 Z2 y2 v2 Z3 y3 v3 Z4 y4 v4)) ∧ w.grownBy w' (some g) ∧ RdAt g (rdEvent bad L).1 w' ∧
    tEE.rep (fun b => w.heap.size ≤ b) w' (ecells (rdEvent bad L).2 Z0 y0 v0 Z1 y1 v1 Z2 y2 v2 Z3 y3 v3 Z4 y4 v4).toList (rdEvent bad L).2
theorem elemRw : ElemOf Tryz.prog 22 51 (tSl tVV).size := ElemOf.mk' (bytes := 24) (z := .slice none 0 0) (by kernel_rfl) (by kernel_rfl) rfl (by decide) (by decide)
theorem elemRow : ElemOf Tryz.prog 51 53 tVV.size := ElemOf.mk' (bytes := 32) (z := .agg #[.bool false, .int .i64 0, .string ⟨#[]⟩]) (by kernel_rfl) (by kernel_rfl) rfl (by decide) (by decide)
theorem elemKK : ElemOf Tryz.prog 23 71 tKK.size := ElemOf.mk' (bytes := 24) (z := .agg #[.int .i64 0, .int .i64 0, .int .i64 0]) (by kernel_rfl) (by kernel_rfl) rfl (by decide) (by decide)
theorem elemPP : ElemOf Tryz.prog 27 55 tPP.size := ElemOf.mk' (bytes := 96) (z := .agg #[.int .i64 0, .int .i64 0, .bool false, .int .i64 0, .string ⟨#[]⟩, .slice none 0 0, .slice none 0 0]) (by kernel_rfl) (by kernel_rfl) rfl (by decide) (by decide)
end Go.Proofs.YtojenpjafgfpaaaGreatDoor
