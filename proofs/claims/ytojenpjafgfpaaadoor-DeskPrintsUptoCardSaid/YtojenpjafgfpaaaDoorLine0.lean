/- The layer desk: line: its state. -/
import Derived.Test.YtojenpjafgfpaaaDoorChunk
import Derived.Test.YtojenpjafgfpaaaDoorTakeEv
import Derived.Test.YtojenpjafgfpaaaDoorShelf
import Derived.Test.YtojenpjafgfpaaaDoorHex
import Derived.Maps.AppendAt
import Derived.Test.YtojenpjafgfpaaaDoorApIn
namespace Go.Proofs.YtojenpjafgfpaaaDoor
open Go Go.RowKit Go.Shelf
attribute [local go_sem] Oper.semAt_some

theorem digI_eq (c : UInt8) : Lib.indexByte [48, 49, 50, 51, 52, 53, 54, 55, 56, 57, 97, 98, 99, 100, 101, 102] c = digI c := by
  have h : ∀ n : Fin 256, Lib.indexByte [48, 49, 50, 51, 52, 53, 54, 55, 56, 57, 97, 98, 99, 100, 101, 102] (UInt8.ofNat n.val) = digI (UInt8.ofNat n.val) := by decide +kernel
  have := h ⟨c.toNat, c.toNat_lt⟩
  simpa using this
theorem dig_any (c : UInt8) (w : World) : Calls Tryd.prog 55 #[.string ⟨#[48, 49, 50, 51, 52, 53, 54, 55, 56, 57, 97, 98, 99, 100, 101, 102]⟩, .int .u8 (c.toNat : Int)] w fun e w' => e = .returned (.int .i64 (digI c)) ∧ w = w' :=
  (Tryd.strings_IndexByte ⟨#[48, 49, 50, 51, 52, 53, 54, 55, 56, 57, 97, 98, 99, 100, 101, 102]⟩ (c.toNat : Int) w).mono fun e w' ⟨he, hw⟩ => ⟨by
    rw [he, ← digI_eq]
    simp, hw.symm⟩

def LnPost (l : List UInt8) (w : World) (e : Ending) (w' : World) : Prop :=
  ∃ cs, e = .returned (.tuple #[.agg cs, .int .i64 (okc (lineOf l).isSome 240)]) ∧ Below w.heap.size w w' ∧ tEE.rep (fun b => w.heap.size ≤ b) w' cs.toList ((lineOf l).getD EE.zero)

theorem results_rowcell {P : Program} {fn : Func} {p q : Tmp} {ty ty2 : TypeId} (h : fn.results = #[.cell p ty, .cell q ty2]) (tmps : Array Value) (w : World) (g g2 : Nat) (t : TypeId) (cs : Array Value) (fr : Nat × Nat) (d : TypeDesc) (v : Value)
    (hp : tmps.getD p undef = .pointer (some ⟨g, 0, none⟩)) (hq : tmps.getD q undef = .pointer (some ⟨g2, 0, none⟩)) (hg : w.heap[g]? = some (.cells cs t fr))
    (hu : P.underlying ty = some d) (hd : (match d with | .struct _ | .array _ _ => true | _ => false) = true) (hi : (P.info? ty).map (·.size) = some cs.size) (hv : (loadVar ty2 ⟨g2, 0, none⟩).run P w = .ok v w) :
    (results fn tmps).run P w = .ok (.tuple #[.agg cs, v]) w := by
  have hp' : tmps[p]?.getD undef = .pointer (some ⟨g, 0, none⟩) := by simpa using hp
  have hq' : tmps[q]?.getD undef = .pointer (some ⟨g2, 0, none⟩) := by simpa using hq
  simp [results, h, hp', hq', asAddr, run_loadVar_row w g t ty cs fr d hg hu hd hi, hv]

/-- What lies beside the loop: the results' cells, the box of the bytes that were read, the line's own bytes. -/
structure LnSt (w : World) (B0 : Nat) (l : List UInt8) (cp : Nat) (en : Int) (W : World) : Prop where
  src : Bs (fun b => b = w.heap.size + 3) W (some ⟨w.heap.size + 1 + 1 + 1, 0, none⟩) l.length cp l
  ev : W.heap[w.heap.size]? = some (.cells #[.int .i64 0, .int .i64 0, .int .i64 0, .int .i64 0, .slice none 0 0, .slice none 0 0, .int .i64 0, .slice none 0 0, .slice none 0 0, .slice none 0 0] 44 (0, 0))
  er : W.heap[w.heap.size + 1]? = some (.cells #[.int .i64 en] 26 (0, 0))
  below : Below w.heap.size w W
  size : B0 ≤ W.heap.size
  base : w.heap.size + 6 = B0
theorem LnSt.grow {w : World} {B0 : Nat} {l : List UInt8} {cp : Nat} {en : Int} {W W2 : World} (h : LnSt w B0 l cp en W) {row : Option Nat} (hg : W.grownBy W2 row) (hr : ∀ k, row = some k → k = w.heap.size + 2 ∨ B0 ≤ k) : LnSt w B0 l cp en W2 := by
  have h1 := h.size; have h2 := h.base
  exact ⟨h.src.grown hg (fun k hk e => by have := hr k hk; omega), (hg.block _ (by omega) (fun e => by have := hr _ e.symm; omega)).trans h.ev, (hg.block _ (by omega) (fun e => by have := hr _ e.symm; omega)).trans h.er, h.below.grown hg h.below.size (fun k e => by have := hr k e; omega), Nat.le_trans h1 hg.size, h2⟩
theorem LnSt.setEv {w : World} {B0 : Nat} {l : List UInt8} {cp : Nat} {en : Int} {W : World} (h : LnSt w B0 l cp en W) {j : Nat} {u : Value} (hc : (#[.int .i64 0, .int .i64 0, .int .i64 0, .int .i64 0, .slice none 0 0, .slice none 0 0, .int .i64 0, .slice none 0 0, .slice none 0 0, .slice none 0 0] : Array Value).setIfInBounds j u = #[.int .i64 0, .int .i64 0, .int .i64 0, .int .i64 0, .slice none 0 0, .slice none 0 0, .int .i64 0, .slice none 0 0, .slice none 0 0, .slice none 0 0]) : LnSt w B0 l cp en (W.setCell ⟨w.heap.size, j, none⟩ u) := by
  have h2 := h.base
  exact ⟨slsetc h.src (by omega) _, heap_set h.ev hc, heap_setne h.er (by omega), bsetc h.below (by omega) _, by simpa using h.size, h2⟩
theorem LnSt.setEr {w : World} {B0 : Nat} {l : List UInt8} {cp : Nat} {en en2 : Int} {W : World} (h : LnSt w B0 l cp en W) : LnSt w B0 l cp en2 (W.setCell ⟨w.heap.size + 1, 0, none⟩ (.int .i64 en2)) := by
  have h2 := h.base
  exact ⟨slsetc h.src (by omega) _, heap_setne h.ev (by omega), heap_set h.er rfl, bsetc h.below (by omega) _, by simpa using h.size, h2⟩
theorem LnSt.drew {w : World} {B0 : Nat} {l : List UInt8} {cp : Nat} {en : Int} {W : World} (h : LnSt w B0 l cp en W) : LnSt w B0 l cp en W.drew := ⟨h.src.drew, h.ev, h.er, h.below.drew, h.size, h.base⟩
theorem LnSt.fail {w : World} {B0 : Nat} {l : List UInt8} {cp : Nat} {en : Int} {W : World} (h : LnSt w B0 l cp en W) : LnSt w B0 l cp 240 (((((((((((W.setCell ⟨w.heap.size, 0, none⟩ (.int .i64 0)).setCell ⟨w.heap.size, 1, none⟩ (.int .i64 0)).setCell ⟨w.heap.size, 2, none⟩ (.int .i64 0)).setCell ⟨w.heap.size, 3, none⟩ (.int .i64 0)).setCell ⟨w.heap.size, 4, none⟩ (.slice none 0 0)).setCell ⟨w.heap.size, 5, none⟩ (.slice none 0 0)).setCell ⟨w.heap.size, 6, none⟩ (.int .i64 0)).setCell ⟨w.heap.size, 7, none⟩ (.slice none 0 0)).setCell ⟨w.heap.size, 8, none⟩ (.slice none 0 0)).setCell ⟨w.heap.size, 9, none⟩ (.slice none 0 0)).setCell ⟨w.heap.size + 1, 0, none⟩ (.int .i64 240)).drew :=
  (((((((((((h.setEv (j := 0) (u := .int .i64 0) rfl).setEv (j := 1) (u := .int .i64 0) rfl).setEv (j := 2) (u := .int .i64 0) rfl).setEv (j := 3) (u := .int .i64 0) rfl).setEv (j := 4) (u := .slice none 0 0) rfl).setEv (j := 5) (u := .slice none 0 0) rfl).setEv (j := 6) (u := .int .i64 0) rfl).setEv (j := 7) (u := .slice none 0 0) rfl).setEv (j := 8) (u := .slice none 0 0) rfl).setEv (j := 9) (u := .slice none 0 0) rfl).setEr).drew
/-- The bytes that have been read, in the box of block w.heap.size + 2. -/
def LnB (w : World) (B0 : Nat) (L : List UInt8) (W : World) : Prop := ∃ A n c, W.heap[w.heap.size + 2]? = some (.cells #[.slice A n c] 35 (0, 0)) ∧ OwnB W B0 A n c L
theorem own_cells {w : World} {B : Nat} {A : Option Addr} {n c : Nat} {l : List UInt8} (h : OwnB w B A n c l) {b : Nat} (hb : A.map (·.block) = some b) : ∃ cur e fr, w.heap[b]? = some (.cells cur e fr) ∧ B ≤ b := by
  rcases h.2 with ⟨h1, _⟩ | ⟨g, cap, cur, h1, hB, hg, _⟩
  · injection h1 with h1; subst h1; cases hb
  · injection h1 with h1; subst h1; injection hb with hb; subst hb; exact ⟨cur, _, _, hg, hB⟩
theorem LnB.grow {w : World} {B0 : Nat} {L : List UInt8} {W W2 : World} (h : LnB w B0 L W) (hB : w.heap.size + 6 = B0) (hs : B0 ≤ W.heap.size) {row : Option Nat} (hg : W.grownBy W2 row) (hr : ∀ k, row = some k → B0 ≤ k ∧ ∃ o : Obj, W.heap[k]? = some o ∧ o.isCells = false) : LnB w B0 L W2 := by
  obtain ⟨A, n, c, h1, h2⟩ := h
  refine ⟨A, n, c, (hg.block _ (by omega) (fun e => by have := (hr _ e.symm).1; omega)).trans h1, own_keep h2 fun b hb => ?_⟩
  obtain ⟨cur, e, fr, h3, _⟩ := own_cells h2 (b := b) (by rw [← ownBlock_slice A n c]; exact hb)
  refine hg.block b (by rcases Nat.lt_or_ge b W.heap.size with h | h; exact h; rw [Array.getElem?_eq_none h] at h3; cases h3) fun e2 => ?_
  obtain ⟨_, o, ho, hc⟩ := hr b e2.symm
  rw [h3] at ho; injection ho with ho; subst ho; cases hc
def decs {m : Nat} (l : List UInt8) (pre : List (Fin m)) : List UInt8 := pre.map fun x => decAt l x.val
/-- The invariant between two rounds. -/
def LnI (w : World) (B0 : Nat) (l : List UInt8) (cp m : Nat) (pre : List (Fin m)) (W : World) : Prop := LnSt w B0 l cp 0 W ∧ LnB w B0 (decs l pre) W ∧ ∀ x ∈ pre, okAt l x.val
def LnX (w : World) (B0 : Nat) (l : List UInt8) (cp m : Nat) (c : Code) (_ : List (Fin m)) (W : World) : Prop := c = .ret ∧ LnSt w B0 l cp 240 W ∧ ∃ k, k < m ∧ ¬ okAt l k
theorem LnI.own (w : World) (B0 : Nat) (l : List UInt8) (cp m : Nat) (hB : w.heap.size + 6 = B0) : OwnFrom B0 (LnI w B0 l cp m) := fun _ _ _ _ hs hg hr =>
  ⟨hs.1.grow hg fun k e => .inr (hr k e).1, hs.2.1.grow hB hs.1.size hg hr, hs.2.2⟩
theorem LnX.own (w : World) (B0 : Nat) (l : List UInt8) (cp m : Nat) (c : Code) : OwnFrom B0 (LnX w B0 l cp m c) := fun _ _ _ _ hs hg hr =>
  ⟨hs.1, hs.2.1.grow hg fun k e => .inr (hr k e).1, hs.2.2⟩

theorem keeps_fail {W : World} {g g2 : Nat} : KeepsOthers W (((((((((((W.setCell ⟨g, 0, none⟩ (.int .i64 0)).setCell ⟨g, 1, none⟩ (.int .i64 0)).setCell ⟨g, 2, none⟩ (.int .i64 0)).setCell ⟨g, 3, none⟩ (.int .i64 0)).setCell ⟨g, 4, none⟩ (.slice none 0 0)).setCell ⟨g, 5, none⟩ (.slice none 0 0)).setCell ⟨g, 6, none⟩ (.int .i64 0)).setCell ⟨g, 7, none⟩ (.slice none 0 0)).setCell ⟨g, 8, none⟩ (.slice none 0 0)).setCell ⟨g, 9, none⟩ (.slice none 0 0)).setCell ⟨g2, 0, none⟩ (.int .i64 240)).drew :=
  (((((((((((KeepsOthers.setCell W _ _).trans (KeepsOthers.setCell _ _ _)).trans (KeepsOthers.setCell _ _ _)).trans (KeepsOthers.setCell _ _ _)).trans (KeepsOthers.setCell _ _ _)).trans (KeepsOthers.setCell _ _ _)).trans (KeepsOthers.setCell _ _ _)).trans (KeepsOthers.setCell _ _ _)).trans (KeepsOthers.setCell _ _ _)).trans (KeepsOthers.setCell _ _ _)).trans (KeepsOthers.setCell _ _ _)).trans (KeepsOthers.drew _)
/-- Behind the stores into the results' cells, and the mark's taking. -/
theorem ln_end {w W : World} {g g2 B : Nat} {cs : Array Value} {t t2 : TypeId} {u u0 u1 u2 u3 u4 u5 u6 u7 u8 u9 v : Value} {F : Nat → Prop} {c10 : List Value} {x : EE} (hcs : cs = #[u0, u1, u2, u3, u4, u5, u6, u7, u8, u9]) {c0 c1 c2 c3 c4 c5 c6 c7 c8 c9 : Value}
    (h : W.heap[g]? = some (.cells #[c0, c1, c2, c3, c4, c5, c6, c7, c8, c9] t (0, 0))) (h2 : W.heap[g2]? = some (.cells #[v] t2 (0, 0))) (hne : g ≠ g2) (hb : Below B w W) (hg : B ≤ g) (hg2 : B ≤ g2) (hr : tEE.rep F W c10 x) (hF : ¬ F g) (hF2 : ¬ F g2) :
    (((((((((((W.setCell ⟨g, 0, none⟩ u0).setCell ⟨g, 1, none⟩ u1).setCell ⟨g, 2, none⟩ u2).setCell ⟨g, 3, none⟩ u3).setCell ⟨g, 4, none⟩ u4).setCell ⟨g, 5, none⟩ u5).setCell ⟨g, 6, none⟩ u6).setCell ⟨g, 7, none⟩ u7).setCell ⟨g, 8, none⟩ u8).setCell ⟨g, 9, none⟩ u9).setCell ⟨g2, 0, none⟩ u).heap[g]? = some (.cells cs t (0, 0)) ∧ (((((((((((W.setCell ⟨g, 0, none⟩ u0).setCell ⟨g, 1, none⟩ u1).setCell ⟨g, 2, none⟩ u2).setCell ⟨g, 3, none⟩ u3).setCell ⟨g, 4, none⟩ u4).setCell ⟨g, 5, none⟩ u5).setCell ⟨g, 6, none⟩ u6).setCell ⟨g, 7, none⟩ u7).setCell ⟨g, 8, none⟩ u8).setCell ⟨g, 9, none⟩ u9).setCell ⟨g2, 0, none⟩ u).heap[g2]? = some (.cells #[u] t2 (0, 0)) ∧ Below B w (((((((((((W.setCell ⟨g, 0, none⟩ u0).setCell ⟨g, 1, none⟩ u1).setCell ⟨g, 2, none⟩ u2).setCell ⟨g, 3, none⟩ u3).setCell ⟨g, 4, none⟩ u4).setCell ⟨g, 5, none⟩ u5).setCell ⟨g, 6, none⟩ u6).setCell ⟨g, 7, none⟩ u7).setCell ⟨g, 8, none⟩ u8).setCell ⟨g, 9, none⟩ u9).setCell ⟨g2, 0, none⟩ u) ∧ tEE.rep F (((((((((((W.setCell ⟨g, 0, none⟩ u0).setCell ⟨g, 1, none⟩ u1).setCell ⟨g, 2, none⟩ u2).setCell ⟨g, 3, none⟩ u3).setCell ⟨g, 4, none⟩ u4).setCell ⟨g, 5, none⟩ u5).setCell ⟨g, 6, none⟩ u6).setCell ⟨g, 7, none⟩ u7).setCell ⟨g, 8, none⟩ u8).setCell ⟨g, 9, none⟩ u9).setCell ⟨g2, 0, none⟩ u) c10 x ∧ (∀ D, D ≠ g → D ≠ g2 → (((((((((((W.setCell ⟨g, 0, none⟩ u0).setCell ⟨g, 1, none⟩ u1).setCell ⟨g, 2, none⟩ u2).setCell ⟨g, 3, none⟩ u3).setCell ⟨g, 4, none⟩ u4).setCell ⟨g, 5, none⟩ u5).setCell ⟨g, 6, none⟩ u6).setCell ⟨g, 7, none⟩ u7).setCell ⟨g, 8, none⟩ u8).setCell ⟨g, 9, none⟩ u9).setCell ⟨g2, 0, none⟩ u).heap[D]? = W.heap[D]?) := by
  subst hcs
  refine ⟨heap_setne (heap_set10 h) hne, heap_set (heap_setne (heap_setne (heap_setne (heap_setne (heap_setne (heap_setne (heap_setne (heap_setne (heap_setne (heap_setne (h2) (Ne.symm hne)) (Ne.symm hne)) (Ne.symm hne)) (Ne.symm hne)) (Ne.symm hne)) (Ne.symm hne)) (Ne.symm hne)) (Ne.symm hne)) (Ne.symm hne)) (Ne.symm hne)) rfl, bsetc (below_set10 hb hg) hg2 _, tEE.setCell (ty_set10 tEE hr hF) hF2 _, fun D h3 h4 => ?_⟩
  exact (Below.heap_setCell _ ⟨g2, 0, none⟩ _ D h4).trans ((Below.heap_setCell _ ⟨g, 9, none⟩ _ D h3).trans ((Below.heap_setCell _ ⟨g, 8, none⟩ _ D h3).trans ((Below.heap_setCell _ ⟨g, 7, none⟩ _ D h3).trans ((Below.heap_setCell _ ⟨g, 6, none⟩ _ D h3).trans ((Below.heap_setCell _ ⟨g, 5, none⟩ _ D h3).trans ((Below.heap_setCell _ ⟨g, 4, none⟩ _ D h3).trans ((Below.heap_setCell _ ⟨g, 3, none⟩ _ D h3).trans ((Below.heap_setCell _ ⟨g, 2, none⟩ _ D h3).trans ((Below.heap_setCell _ ⟨g, 1, none⟩ _ D h3).trans ((Below.heap_setCell _ ⟨g, 0, none⟩ _ D h3)))))))))))
theorem ln_put {w Wf : World} {g g2 D B : Nat} {o X Y : Obj} {F : Nat → Prop} {c10 : List Value} {x : EE} (h1 : Wf.heap[g]? = some X) (h2 : Wf.heap[g2]? = some Y) (h3 : Below B w Wf) (h4 : tEE.rep F Wf c10 x) (hD : D ≠ g) (hD2 : D ≠ g2) (hB : B ≤ D) (hBs : B ≤ Wf.heap.size) (hF : ¬ F D) :
    (Wf.putObj D o).heap[g]? = some X ∧ (Wf.putObj D o).heap[g2]? = some Y ∧ Below B w (Wf.putObj D o) ∧ tEE.rep F (Wf.putObj D o) c10 x := by
  have hp := grownBy_putObj' Wf D o
  refine ⟨(World.putObj_heap_other (Ne.symm hD)).trans h1, (World.putObj_heap_other (Ne.symm hD2)).trans h2, h3.grown hp hBs (fun k e => by injection e with e; omega), tEE.grown h4 hp (fun k e => by injection e with e; subst e; exact hF)⟩
theorem run_errcell {w : World} {g : Nat} {v : Int} (h : w.cell? ⟨g, 0, none⟩ = some (.int .i64 v)) : (loadVar 26 ⟨g, 0, none⟩).run Tryd.prog w = .ok (.int .i64 v) w := by
  simp [go_sem, h]
end Go.Proofs.YtojenpjafgfpaaaDoor
