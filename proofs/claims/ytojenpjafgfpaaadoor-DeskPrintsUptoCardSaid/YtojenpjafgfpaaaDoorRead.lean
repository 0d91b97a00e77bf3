/- The layer desk: the reader: fields, value. -/
import Derived.Test.YtojenpjafgfpaaaDoorTake5
namespace Go.Proofs.YtojenpjafgfpaaaDoor
open Go Go.RowKit

/-- The reader in block g. -/
def RdAt (g : Nat) (bad : Bool) (w : World) : Prop := w.heap[g]? = some (.cells #[.bool bad] 124 (0, 0))
theorem RdAt.cell {g : Nat} {bad : Bool} {w : World} (h : RdAt g bad w) : w.cell? ⟨g, 0, none⟩ = some (.bool bad) := by rw [Lib.cell_of_heap h]; rfl
theorem RdAt.lt {g : Nat} {bad : Bool} {w : World} (h : RdAt g bad w) : g < w.heap.size := by
  rcases Nat.lt_or_ge g w.heap.size with h' | h'
  · exact h'
  · unfold RdAt at h; rw [Array.getElem?_eq_none h'] at h; cases h
theorem RdAt.below {g : Nat} {bad : Bool} {w w' : World} (h : RdAt g bad w) (hb : Below w.heap.size w w') : RdAt g bad w' := below_heap hb h
theorem RdAt.set {g : Nat} {bad : Bool} {w : World} (h : RdAt g bad w) (b : Bool) : RdAt g b (w.setCell ⟨g, 0, none⟩ (.bool b)) := heap_set h rfl
theorem grown_of_below {w w' : World} {row : Option Nat} (h : Below w.heap.size w w') : w.grownBy w' row := ⟨h.os, h.tape, h.output, h.size, fun k hk _ => h.block k hk⟩
theorem grown_set {w w1 : World} {g : Nat} (h : w.grownBy w1 (some g)) (j : Nat) (v : Value) : w.grownBy (w1.setCell ⟨g, j, none⟩ v) (some g) :=
  ⟨h.os, h.tape, h.output, by simpa using h.size, fun k hk hr => (Below.heap_setCell w1 ⟨g, j, none⟩ v k (fun e => hr (by rw [e]))).trans (h.block k hk hr)⟩
theorem grown_trans {w w1 w2 : World} {row : Option Nat} (h : w.grownBy w1 row) (k : w1.grownBy w2 row) : w.grownBy w2 row :=
  ⟨k.os.trans h.os, k.tape.trans h.tape, k.output.trans h.output, Nat.le_trans h.size k.size, fun i hi hr => (k.block i (Nat.lt_of_lt_of_le hi h.size) hr).trans (h.block i hi hr)⟩
theorem grown_alloc {w w1 : World} {row : Option Nat} (h : w.grownBy w1 row) (o : Obj) : w.grownBy (w1.alloc o) row :=
  ⟨h.os, h.tape, h.output, by have := h.size; simp; omega, fun k hk hr => (Below.heap_alloc w1 o k (Nat.lt_of_lt_of_le hk h.size)).trans (h.block k hk hr)⟩
theorem grown_drew {w w1 : World} {row : Option Nat} (h : w.grownBy w1 row) : w.grownBy w1.drew row := ⟨h.os, h.tape, h.output, h.size, h.block⟩

theorem grown_setnew {w w1 : World} {row : Option Nat} {b : Nat} (h : w.grownBy w1 row) (hb : w.heap.size ≤ b) (j : Nat) (v : Value) : w.grownBy (w1.setCell ⟨b, j, none⟩ v) row :=
  ⟨h.os, h.tape, h.output, by simpa using h.size, fun k hk hr => (Below.heap_setCell w1 ⟨b, j, none⟩ v k (fun e => by simp at e; omega)).trans (h.block k hk hr)⟩
theorem heap_setne {w : World} {g b j : Nat} {o : Obj} {v : Value} (h : w.heap[b]? = some o) (hne : b ≠ g) : (w.setCell ⟨g, j, none⟩ v).heap[b]? = some o := (Below.heap_setCell w ⟨g, j, none⟩ v b hne).trans h
theorem heap_allocd {w : World} {b : Nat} {o : Obj} (h : w.heap[b]? = some o) (x : Obj) : (w.alloc x).heap[b]? = some o := below_heap ((Below.refl _ w).alloc (Nat.le_refl _) x) h

def FsPost (g : Nat) (bad : Bool) (l : List UInt8) (w : World) (e : Ending) (w' : World) : Prop :=
  ∃ A n c, e = .returned (.slice A n c) ∧ w.grownBy w' (some g) ∧ RdAt g (bad || (rdFields l).1) w' ∧ Sl tFld (fun b => w.heap.size ≤ b) w' A n c (rdFields l).2

set_option maxRecDepth 100000 in
set_option maxHeartbeats 1000000 in
theorem rfields_any (g : Nat) (bad : Bool) (F : Nat → Prop) (A : Option Addr) (n c : Nat) (l : List UInt8) (w : World) (h : Bs F w A n c l) (hn : n ≤ 4294967296) (hg : RdAt g bad w) :
    Calls Tryd.prog 75 #[.pointer (some ⟨g, 0, none⟩), .slice A n c] w (FsPost g bad l w) := by
  have HG := Lib.hid hg; clear hg
  go_enter Tryd.func75, Tryd.ntmps75
  go_wp2_with (go_at_call 91; refine (wtake_any F A n c l _ h hn).mono ?_)
  rintro e w1 ⟨A1, n1, c1, rfl, hb1, hs1⟩
  have hg1 := HG.out.below hb1
  have HG1 := Lib.hid hg1
  have q0 := hg1.cell
  have f0 := Lib.frozen_of_heap hg1 0
  have hlt := HG.out.lt
  have HB1 := Lib.hid hb1
  obtain ⟨ec, hec⟩ : ∃ ec, ec = okc (wtake l).isSome 2 := ⟨_, rfl⟩
  rw [← hec]
  have HS1 := Lib.hid hs1
  clear hg1 hb1 hs1
  cases hT : wtake l with
  | none =>
    obtain rfl : ec = 2 := by rw [hec, hT]; rfl
    have HF := Lib.hid (show rdFields l = (true, []) by simp [rdFields, hT])
    have HS2 := Lib.hid (show Sl tFld (fun b => w.heap.size ≤ b) w1 A1 n1 c1 [] by have := HS1.out; rw [hT] at this; exact this)
    clear hec hT HS1
    cases bad
    all_goals
      go_wp2
      go_ret
      refine ⟨A1, n1, c1, rfl, grown_set (grown_of_below HB1.out) 0 _, ?_, ?_⟩
      · rw [HF.out]; exact HG1.out.set _
      · rw [HF.out]; exact slsetc HS2.out (by omega) _
  | some L =>
    obtain rfl : ec = 0 := by rw [hec, hT]; rfl
    have HF := Lib.hid (show rdFields l = (false, L) by simp [rdFields, hT])
    have HS2 := Lib.hid (show Sl tFld (fun b => w.heap.size ≤ b) w1 A1 n1 c1 L by have := HS1.out; rw [hT] at this; exact this)
    clear hec hT HS1
    cases bad
    all_goals
      go_wp2
      go_ret
      refine ⟨A1, n1, c1, rfl, grown_set (grown_of_below HB1.out) 0 _, ?_, ?_⟩
      · rw [HF.out]; exact HG1.out.set _
      · rw [HF.out]; exact slsetc HS2.out (by omega) _

theorem rdValue_flag (l : List UInt8) : (rdValue l).1 = !(takeValue l).isSome := by
  unfold rdValue; cases takeValue l <;> rfl
/-- What 'value' leaves. -/
def VlPost (g : Nat) (bad : Bool) (l : List UInt8) (w : World) (e : Ending) (w' : World) : Prop :=
  e = .returned (.agg #[.bool (rdValue l).2.null, .int .i64 (rdValue l).2.n, .string (rdValue l).2.s]) ∧ w.grownBy w' (some g) ∧ RdAt g (bad || (rdValue l).1) w' ∧ (rdValue l).2.ok ∧ (rdValue l).2.s.size ≤ 4294967296

set_option maxRecDepth 100000 in
set_option maxHeartbeats 1000000 in
theorem rvalue_any (g : Nat) (bad : Bool) (F : Nat → Prop) (A : Option Addr) (n c : Nat) (l : List UInt8) (w : World) (h : Bs F w A n c l) (hn : n ≤ 4294967296) (hg : RdAt g bad w) :
    Calls Tryd.prog 88 #[.pointer (some ⟨g, 0, none⟩), .slice A n c] w (VlPost g bad l w) := by
  have HG := Lib.hid hg; clear hg
  have hlt := HG.out.lt
  go_enter Tryd.func88, Tryd.ntmps88
  go_wp2_with (go_at_call 99; refine (takeValue_any F A n c l _ (h.alloc _) hn).mono ?_)
  rintro e w1 ⟨rfl, hb1, hvok, hvs⟩
  obtain ⟨v, hv⟩ : ∃ v, v = (rdValue l).2 := ⟨_, rfl⟩
  rw [← hv] at hvok hvs ⊢
  have HV := Lib.hid hv; clear hv
  have hg1 : RdAt g bad w1 := (hb1.block g (by simp; omega)).trans ((Below.heap_alloc w _ g hlt).trans HG.out)
  have HG1 := Lib.hid hg1
  have q0 := hg1.cell
  have f0 := Lib.frozen_of_heap hg1 0
  have hbk : w1.heap[w.heap.size]? = some (.cells #[.bool false, .int .i64 0, .string ⟨#[]⟩] 71 (0, 0)) := (hb1.block _ (by simp)).trans (heap_alloc_new w _)
  have r0 : w1.cell? ⟨w.heap.size, 0, none⟩ = some (.bool false) := by rw [Lib.cell_of_heap hbk]; rfl
  have r1 : w1.cell? ⟨w.heap.size, 1, none⟩ = some (.int .i64 0) := by rw [Lib.cell_of_heap hbk]; rfl
  have r2 : w1.cell? ⟨w.heap.size, 2, none⟩ = some (.string ⟨#[]⟩) := by rw [Lib.cell_of_heap hbk]; rfl
  have p0 := Lib.frozen_of_heap hbk 0
  have p1 := Lib.frozen_of_heap hbk 1
  have p2 := Lib.frozen_of_heap hbk 2
  have HBK := Lib.hid hbk
  have HB1 : Hid (Below w.heap.size w w1) := Lib.hid (((Below.refl _ w).alloc (Nat.le_refl _) _).trans (hb1.mono (by simp)))
  have hne : g ≠ w.heap.size := by omega
  have hltw : w.heap.size < w1.heap.size := by have := hb1.size; simp at this; omega
  obtain ⟨ec, hec⟩ : ∃ ec, ec = okc (takeValue l).isSome 2 := ⟨_, rfl⟩
  rw [← hec]
  clear hg1 hb1 hbk
  have HOK := Lib.hid hvok
  clear hvok
  have hcase : (ec = 2 ∧ (rdValue l).1 = true) ∨ (ec = 0 ∧ (rdValue l).1 = false) := by
    rw [hec, rdValue_flag]
    cases takeValue l
    · exact .inl ⟨rfl, rfl⟩
    · exact .inr ⟨rfl, rfl⟩
  clear hec
  rcases hcase with ⟨rfl, hfl⟩ | ⟨rfl, hfl⟩
  all_goals
    have HFL := Lib.hid hfl; clear hfl
    have hbx : Below w1.heap.size w1 (w1.alloc (.cells #[.bool v.null, .int .i64 v.n, .string v.s] 71)) := (Below.refl _ w1).alloc (Nat.le_refl _) _
    have q0' := kcell hbx q0
    have f0' := Lib.frozen_of_heap (below_heap hbx HG1.out) 0
    have p0' := Lib.frozen_of_heap (below_heap hbx HBK.out) 0
    have p1' := Lib.frozen_of_heap (below_heap hbx HBK.out) 1
    have p2' := Lib.frozen_of_heap (below_heap hbx HBK.out) 2
    have r0' := kcell hbx r0
    have r1' := kcell hbx r1
    have r2' := kcell hbx r2
    have hne2 : ¬ g = w1.heap.size := by omega
    have hne3 : ¬ w1.heap.size = g := by omega
    have hne4 : ¬ w1.heap.size = w.heap.size := by omega
    have hne5 : ¬ w.heap.size = w1.heap.size := by omega
    have hne6 : ¬ w.heap.size = g := by omega
    have HBX := Lib.hid hbx
    clear q0 f0 p0 p1 p2 r0 r1 r2 hbx
    cases bad
    all_goals
      go_wp2_with fail
      refine bodyPost_ret (results_cell_row rfl _ _ w.heap.size 71 #[.bool v.null, .int .i64 v.n, .string v.s] (0, 0) _ rfl (heap_set (cs := #[.bool v.null, .int .i64 v.n, .string ⟨#[]⟩]) (heap_set (cs := #[.bool v.null, .int .i64 0, .string ⟨#[]⟩]) (heap_set (cs := #[.bool false, .int .i64 0, .string ⟨#[]⟩]) (heap_setne (heap_allocd HBK.out _) (Ne.symm hne)) rfl) rfl) rfl) Tryd.underlying71 rfl (by kernel_rfl)) rfl
        ⟨by rw [← HV.out], grown_setnew (grown_setnew (grown_setnew (grown_set (grown_alloc (grown_of_below HB1.out) _) _ _) (Nat.le_refl _) _ _) (Nat.le_refl _) _ _) (Nat.le_refl _) _ _, ?_, by rw [← HV.out]; exact HOK.out, by rw [← HV.out]; exact hvs⟩
      rw [HFL.out]
      exact heap_setne (heap_setne (heap_setne (RdAt.set (g := g) (heap_allocd HG1.out _) _) hne) hne) hne
end Go.Proofs.YtojenpjafgfpaaaDoor
