/- The layer desk: the reader: node: the state of its loop. -/
import Derived.Test.YtojenpjafgfpaaaDoorRead2
import Derived.Test.YtojenpjafgfpaaaDoorCol
namespace Go.Proofs.YtojenpjafgfpaaaDoor
open Go Go.RowKit

def pcells (p : PP) (A2 : Option Addr) (m2 c2 : Nat) (A3 : Option Addr) (m3 c3 : Nat) : Array Value := #[.int .i64 p.op, .int .i64 p.col, .bool p.v.null, .int .i64 p.v.n, .string p.v.s, .slice A2 m2 c2, .slice A3 m3 c3]
/-- The node that is read so far, in block P; fields L; the reader in block g. -/
structure NdSt (w : World) (P B g S : Nat) (bad : Bool) (p : PP) (col : Nat → Nat) (A2 : Option Addr) (m2 c2 : Nat) (A3 : Option Addr) (m3 c3 : Nat) (A1 : Option Addr) (n1 c1 : Nat) (L : List Fld) (wr : World) : Prop where
  heap : wr.heap[P]? = some (.cells (pcells p A2 m2 c2 A3 m3 c3) 89 (0, 0))
  vals : Col tVV 71 col 0 B S wr A2 m2 c2 p.vals
  nums : Col tI64 3 col 1 B S wr A3 m3 c3 p.l
  rd : RdAt g bad wr
  gr : w.grownBy wr (some g)
  fl : Sl tFld (fun b => P < b ∧ b < B) wr A1 n1 c1 L
  op : i64 p.op
  clm : i64 p.col
  vok : p.v.ok
  hg : g < P
  hw : w.heap.size = P
  hP : P < B
  hB : B ≤ S
  hS : S ≤ wr.heap.size

section
variable {w : World} {P B g S : Nat} {bad bad2 : Bool} {p p2 : PP} {col : Nat → Nat} {A2 : Option Addr} {m2 c2 : Nat} {A3 : Option Addr} {m3 c3 : Nat} {A1 : Option Addr} {n1 c1 : Nat} {L : List Fld} {wr w2 : World}
theorem NdSt.grow (h : NdSt w P B g S bad p col A2 m2 c2 A3 m3 c3 A1 n1 c1 L wr) (hgr : wr.grownBy w2 (some g)) (hr : RdAt g bad2 w2) : NdSt w P B g S bad2 p col A2 m2 c2 A3 m3 c3 A1 n1 c1 L w2 := by
  have h1 := h.hg; have h2 := h.hP; have h3 := h.hB; have h4 := h.hw; have h5 := h.hS
  have hsz := hgr.size
  exact ⟨(hgr.block P (by omega) (by simp; omega)).trans h.heap, h.vals.other hgr (fun k hk => .inl (by injection hk with hk; omega)), h.nums.other hgr (fun k hk => .inl (by injection hk with hk; omega)), hr, grown_trans h.gr hgr,
    h.fl.grown hgr (fun k hk => by injection hk with hk; omega), h.op, h.clm, h.vok, h1, h4, h2, h3, by omega⟩
theorem NdSt.below (h : NdSt w P B g S bad p col A2 m2 c2 A3 m3 c3 A1 n1 c1 L wr) (hb : Below wr.heap.size wr w2) : NdSt w P B g S bad p col A2 m2 c2 A3 m3 c3 A1 n1 c1 L w2 :=
  h.grow (grown_of_below hb) (h.rd.below hb)
theorem NdSt.drew (h : NdSt w P B g S bad p col A2 m2 c2 A3 m3 c3 A1 n1 c1 L wr) : NdSt w P B g S bad p col A2 m2 c2 A3 m3 c3 A1 n1 c1 L wr.drew :=
  h.below (Below.refl _ wr).drew
/-- A store into the node: no list of it. -/
theorem NdSt.put (h : NdSt w P B g S bad p col A2 m2 c2 A3 m3 c3 A1 n1 c1 L wr) {j : Nat} {u : Value} (hc : (pcells p A2 m2 c2 A3 m3 c3).setIfInBounds j u = pcells p2 A2 m2 c2 A3 m3 c3) (hv : p2.vals = p.vals) (hl : p2.l = p.l) (hop : i64 p2.op) (hcol : i64 p2.col) (hok : p2.v.ok) :
    NdSt w P B g S bad p2 col A2 m2 c2 A3 m3 c3 A1 n1 c1 L (wr.setCell ⟨P, j, none⟩ u) := by
  have h1 := h.hg; have h2 := h.hP; have h3 := h.hB; have h4 := h.hw
  exact ⟨heap_set h.heap hc, by rw [hv]; exact h.vals.setP h2 _, by rw [hl]; exact h.nums.setP h2 _, heap_setne h.rd (by omega), grown_setnew h.gr (by omega) _ _, slsetc h.fl (by omega) _, hop, hcol, hok, h1, h4, h2, h3, by simpa using h.hS⟩
/-- What an append onto one of its lists leaves as it was. -/
theorem NdSt.rest (h : NdSt w P B g S bad p col A2 m2 c2 A3 m3 c3 A1 n1 c1 L wr) {row : Option Nat} (hgr : wr.grownBy w2 row) (hA : ∀ b, row = some b → B ≤ b) :
    w2.heap[P]? = some (.cells (pcells p A2 m2 c2 A3 m3 c3) 89 (0, 0)) ∧ RdAt g bad w2 ∧ w.grownBy w2 (some g) ∧ Sl tFld (fun b => P < b ∧ b < B) w2 A1 n1 c1 L := by
  have q1 := h.hg; have q2 := h.hP; have q3 := h.hB; have q4 := h.hw; have q5 := h.hS
  have hsz := hgr.size
  have hk : ∀ k, k < B → k < wr.heap.size → w2.heap[k]? = wr.heap[k]? := fun k hkB hkl => hgr.block k hkl (fun e => by have := hA k e.symm; omega)
  refine ⟨(hk P q2 (by omega)).trans h.heap, (hk g (by omega) (by omega)).trans h.rd, ?_, h.fl.grown hgr (fun k hk2 hk3 => by have := hA k hk2; omega)⟩
  exact ⟨hgr.os.trans h.gr.os, hgr.tape.trans h.gr.tape, hgr.output.trans h.gr.output, by have := h.gr.size; omega, fun k hk2 hk3 => (hk k (by omega) (by have := h.gr.size; omega)).trans (h.gr.block k hk2 hk3)⟩
/-- Behind an append onto its values. -/
theorem NdSt.addV (h : NdSt w P B g S bad p col A2 m2 c2 A3 m3 c3 A1 n1 c1 L wr) {F G : Nat → Prop} {w3 a0 w4 : World} {v : VV} {A' : Option Addr} {c' : Nat} (h2 : ∀ b, F b → b < S ∧ B ≤ b ∧ col b = 0) (h3 : ∀ b, A2.map (·.block) = some b → b < S ∧ col b = 0)
    (hG : ∀ b, G b → S ≤ b) (ha : ApdL tVV 71 (fun b => (F b ∨ G b) ∧ b < w4.heap.size) a0 w3 w2 B A2 A' (m2 + 1) c' (p.vals ++ [v])) (hw3 : Below wr.heap.size wr w3) :
    NdSt w P B g w2.heap.size bad { p with vals := p.vals ++ [v] } (recolor col 0 S) A' (m2 + 1) c' A3 m3 c3 A1 n1 c1 L (w2.setCell ⟨P, 5, none⟩ (.slice A' (m2 + 1) c')) := by
  have q1 := h.hg; have q2 := h.hP; have q3 := h.hB; have q4 := h.hw; have q5 := h.hS
  have hgr : wr.grownBy w2 (A2.map (·.block)) := grown_trans (grown_of_below hw3) ha.grown
  have hsz := hgr.size
  obtain ⟨r1, r2, r3, r4⟩ := h.rest hgr fun b hb => (h.vals.lies hb).1
  have h5 := h.nums.past (by decide) h3 hgr (by omega)
  have h6 := Col.apd h2 h3 hG q3 (by have := hw3.size; omega) ha
  exact ⟨heap_set r1 rfl, h6.setP q2 _, h5.setP q2 _, heap_setne r2 (by omega), grown_setnew r3 (by omega) _ _, slsetc r4 (by omega) _, h.op, h.clm, h.vok, q1, q4, q2, by omega, by simp⟩
/-- Behind an append onto its numbers. -/
theorem NdSt.addN (h : NdSt w P B g S bad p col A2 m2 c2 A3 m3 c3 A1 n1 c1 L wr) {F G : Nat → Prop} {w3 a0 w4 : World} {v : Int} {A' : Option Addr} {c' : Nat} (h2 : ∀ b, F b → b < S ∧ B ≤ b ∧ col b = 1) (h3 : ∀ b, A3.map (·.block) = some b → b < S ∧ col b = 1)
    (hG : ∀ b, G b → S ≤ b) (ha : ApdL tI64 3 (fun b => (F b ∨ G b) ∧ b < w4.heap.size) a0 w3 w2 B A3 A' (m3 + 1) c' (p.l ++ [v])) (hw3 : Below wr.heap.size wr w3) :
    NdSt w P B g w2.heap.size bad { p with l := p.l ++ [v] } (recolor col 1 S) A2 m2 c2 A' (m3 + 1) c' A1 n1 c1 L (w2.setCell ⟨P, 6, none⟩ (.slice A' (m3 + 1) c')) := by
  have q1 := h.hg; have q2 := h.hP; have q3 := h.hB; have q4 := h.hw; have q5 := h.hS
  have hgr : wr.grownBy w2 (A3.map (·.block)) := grown_trans (grown_of_below hw3) ha.grown
  have hsz := hgr.size
  obtain ⟨r1, r2, r3, r4⟩ := h.rest hgr fun b hb => (h.nums.lies hb).1
  have h5 := h.vals.past (by decide) h3 hgr (by omega)
  have h6 := Col.apd h2 h3 hG q3 (by have := hw3.size; omega) ha
  exact ⟨heap_set r1 rfl, h5.setP q2 _, h6.setP q2 _, heap_setne r2 (by omega), grown_setnew r3 (by omega) _ _, slsetc r4 (by omega) _, h.op, h.clm, h.vok, q1, q4, q2, by omega, by simp⟩
/-- The cells of the node. -/
theorem NdSt.cells (h : NdSt w P B g S bad p col A2 m2 c2 A3 m3 c3 A1 n1 c1 L wr) : wr.cell? ⟨P, 0, none⟩ = some (.int .i64 p.op) ∧ wr.cell? ⟨P, 1, none⟩ = some (.int .i64 p.col) ∧ wr.cell? ⟨P, 2, none⟩ = some (.bool p.v.null) ∧ wr.cell? ⟨P, 3, none⟩ = some (.int .i64 p.v.n) ∧
    wr.cell? ⟨P, 4, none⟩ = some (.string p.v.s) ∧ wr.cell? ⟨P, 5, none⟩ = some (.slice A2 m2 c2) ∧ wr.cell? ⟨P, 6, none⟩ = some (.slice A3 m3 c3) := by
  refine ⟨?_, ?_, ?_, ?_, ?_, ?_, ?_⟩ <;> (rw [Lib.cell_of_heap h.heap]; rfl)
theorem NdSt.free (h : NdSt w P B g S bad p col A2 m2 c2 A3 m3 c3 A1 n1 c1 L wr) (j : Nat) : wr.frozen? ⟨P, j, none⟩ = false := Lib.frozen_of_heap h.heap j
end

/-- What 'node' leaves. -/
def NdPost (g : Nat) (bad : Bool) (l : List UInt8) (w : World) (e : Ending) (w' : World) : Prop :=
  ∃ A2 m2 c2 A3 m3 c3, e = .returned (.agg (pcells (rdNode l).2 A2 m2 c2 A3 m3 c3)) ∧ w.grownBy w' (some g) ∧ RdAt g (bad || (rdNode l).1) w' ∧
    tPP.rep (fun b => w.heap.size ≤ b) w' (pcells (rdNode l).2 A2 m2 c2 A3 m3 c3).toList (rdNode l).2
theorem foldl_take {α β : Type} (f : β → α → β) (s : β) (l : List α) (k : Nat) (h : k < l.length) : (l.take (k + 1)).foldl f s = f ((l.take k).foldl f s) l[k] := by
  rw [List.take_succ_eq_append_getElem h, List.foldl_append]; rfl
theorem elemVV : ElemOf Tryd.prog 61 71 tVV.size := ElemOf.mk' (bytes := 32) (z := .agg #[.bool false, .int .i64 0, .string ⟨#[]⟩]) (by kernel_rfl) (by kernel_rfl) rfl (by decide) (by decide)
theorem elemI64 : ElemOf Tryd.prog 39 3 tI64.size := ElemOf.mk' (bytes := 8) (z := .int .i64 0) (by kernel_rfl) (by kernel_rfl) rfl (by decide) (by decide)
theorem rdFields_mem {l : List UInt8} {f : Fld} (h : f ∈ (rdFields l).2) : f.b.length ≤ l.length := by
  unfold rdFields at h
  cases hw : wtake l with
  | none => rw [hw] at h; cases h
  | some L =>
    rw [hw] at h
    have := wtake_count _ l L (Nat.le_refl _) hw
    have := bsum_mem L f h
    omega
/-- 'value', its reading as a letter. -/
def VlPostL (g : Nat) (bad : Bool) (rv : Bool × VV) (w : World) (e : Ending) (w' : World) : Prop :=
  e = .returned (.agg #[.bool rv.2.null, .int .i64 rv.2.n, .string rv.2.s]) ∧ w.grownBy w' (some g) ∧ RdAt g (bad || rv.1) w' ∧ rv.2.ok ∧ rv.2.s.size ≤ 4294967296
theorem rvalue_rv (g : Nat) (bad : Bool) (F : Nat → Prop) (A : Option Addr) (n c : Nat) (l : List UInt8) (w : World) (h : Bs F w A n c l) (hn : n ≤ 4294967296) (hg : RdAt g bad w) {rv : Bool × VV} (hrv : rv = rdValue l) :
    Calls Tryd.prog 88 #[.pointer (some ⟨g, 0, none⟩), .slice A n c] w (VlPostL g bad rv w) := by
  subst hrv; exact rvalue_any g bad F A n c l w h hn hg
theorem nodeStep_or (a b : Bool) (p : PP) (f : Fld) : nodeStep (a || b, p) f = (a || (nodeStep (b, p) f).1, (nodeStep (b, p) f).2) := by
  unfold nodeStep
  repeat' split
  all_goals simp [Bool.or_assoc]
theorem nodeFold_or (a : Bool) : ∀ (L : List Fld) (b : Bool) (p : PP), L.foldl nodeStep (a || b, p) = (a || (L.foldl nodeStep (b, p)).1, (L.foldl nodeStep (b, p)).2)
  | [], b, p => rfl
  | f :: r, b, p => by
    rw [List.foldl_cons, List.foldl_cons, nodeStep_or, nodeFold_or a r]
end Go.Proofs.YtojenpjafgfpaaaDoor
