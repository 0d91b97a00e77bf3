/- Lists that one call builds side by side, each in blocks of a color of its own. No condition; no program in sight. -/
import Derived.Test.YtojenpjafgfpaaaGreatDoorTy
import Derived.Test.YtojenpjafgfpaaaGreatDoorTake5
namespace Go.Proofs.YtojenpjafgfpaaaGreatDoor
open Go Go.RowKit

/-- A list of color i: its own row, and what its elements lead to, lie in blocks of color i, from block B on, below S. -/
def Col {α : Type} (T : Ty α) (e : TypeId) (col : Nat → Nat) (i B S : Nat) (w : World) (A : Option Addr) (n c : Nat) (xs : List α) : Prop :=
  ∃ F, OwnF T e F w B A n c xs ∧ (∀ b, F b → b < S ∧ B ≤ b ∧ col b = i) ∧ (∀ b, A.map (·.block) = some b → b < S ∧ col b = i)
/-- The color of new blocks. -/
def recolor (col : Nat → Nat) (i s : Nat) (b : Nat) : Nat := if s ≤ b then i else col b
theorem recolor_old (col : Nat → Nat) (i s b : Nat) (h : b < s) : recolor col i s b = col b := by unfold recolor; rw [if_neg (by omega)]
theorem recolor_new (col : Nat → Nat) (i s b : Nat) (h : s ≤ b) : recolor col i s b = i := by unfold recolor; rw [if_pos h]
section
variable {α : Type} {T : Ty α} {e : TypeId} {col col' : Nat → Nat} {i B S S' : Nat} {w w' : World} {A A' : Option Addr} {n c c' : Nat} {xs : List α}
theorem Col.nil_ (T : Ty α) (e : TypeId) (col : Nat → Nat) (i B S : Nat) (w : World) : Col T e col i B S w none 0 0 [] := ⟨fun _ => False, OwnF.nil_ T e _ w B, by simp, by simp⟩
theorem Col.len (h : Col T e col i B S w A n c xs) : n = xs.length := by obtain ⟨F, h, _⟩ := h; exact h.len
theorem OwnF.lies' {F : Nat → Prop} (h : OwnF T e F w B A n c xs) {b : Nat} (hb : A.map (·.block) = some b) : A = some ⟨b, 0, none⟩ ∧ B ≤ b ∧ b < w.heap.size := h.lies (by rw [ownBlock_slice]; exact hb)
theorem Col.lies (h : Col T e col i B S w A n c xs) {b : Nat} (hb : A.map (·.block) = some b) : B ≤ b ∧ b < S ∧ col b = i := by
  obtain ⟨F, h1, h2, h3⟩ := h
  exact ⟨(h1.lies' hb).2.1, h3 b hb⟩
theorem Col.keep (h : Col T e col i B S w A n c xs) (hs : w.heap.size ≤ w'.heap.size) (hk : ∀ b, B ≤ b → b < S → b < w.heap.size → col b = i → w'.heap[b]? = w.heap[b]?) : Col T e col i B S w' A n c xs := by
  obtain ⟨F, h1, h2, h3⟩ := h
  refine ⟨F, h1.keep hs fun b hb hl => ?_, h2, h3⟩
  rcases hb with hb | ⟨rfl, hb⟩
  · exact hk b (h2 b hb).2.1 (h2 b hb).1 hl (h2 b hb).2.2
  · exact hk b hb (h3 b rfl).1 hl (h3 b rfl).2
theorem Col.recol (h : Col T e col i B S w A n c xs) (hc : ∀ b, b < S → col' b = col b) (hS : S ≤ S') : Col T e col' i B S' w A n c xs := by
  obtain ⟨F, h1, h2, h3⟩ := h
  exact ⟨F, h1, fun b hb => ⟨by have := (h2 b hb).1; omega, (h2 b hb).2.1, (hc b (h2 b hb).1).trans (h2 b hb).2.2⟩, fun b hb => ⟨by have := (h3 b hb).1; omega, (hc b (h3 b hb).1).trans (h3 b hb).2⟩⟩
/-- The blocks that the list leans on, as one word. -/
theorem Col.sl (h : Col T e col i B S w A n c xs) : Sl T (fun b => B ≤ b) w A n c xs := by
  obtain ⟨F, h1, h2, h3⟩ := h
  refine h1.sl.weaken fun b hb _ => ?_
  rcases hb with hb | hb
  · exact (h2 b hb).2.1
  · exact hb.2
/-- Behind an append onto the list of color i: what the new element leads to lies from S on. -/
theorem Col.apd {F G : Nat → Prop} {a0 w2 w3 : World} {m : Nat} {ys : List α} (h2 : ∀ b, F b → b < S ∧ B ≤ b ∧ col b = i) (h3 : ∀ b, A.map (·.block) = some b → b < S ∧ col b = i)
    (hG : ∀ b, G b → S ≤ b) (hB : B ≤ S) (hs2 : S ≤ w2.heap.size) (ha : ApdL T e (fun b => (F b ∨ G b) ∧ b < w3.heap.size) a0 w2 w' B A A' m c' ys) :
    Col T e (recolor col i S) i B w'.heap.size w' A' m c' ys := by
  have hg := ha.grown.size
  refine ⟨fun b => ((F b ∨ G b) ∧ b < w3.heap.size) ∧ b < w'.heap.size, ha.own.weaken (fun b h1 h2 => ⟨h1, h2⟩) (fun b e1 e2 e3 => ?_), fun b hb => ?_, fun b hb => ⟨(ha.own.lies' hb).2.2, ?_⟩⟩
  · rintro ⟨h4, _⟩
    exact ha.own.off b 0 e1 h4
  · rcases hb with ⟨⟨hb | hb, _⟩, hl⟩
    · have := h2 b hb
      exact ⟨hl, this.2.1, (recolor_old _ _ _ _ (by omega)).trans this.2.2⟩
    · have := hG b hb
      exact ⟨hl, by omega, recolor_new _ _ _ _ this⟩
  · rcases Nat.lt_or_ge b S with hl | hl
    · rw [recolor_old _ _ _ _ hl]
      rcases ha.lies with h | h
      · exact (h3 b (by rw [← h]; exact hb)).2
      · rw [h] at hb; injection hb with hb; omega
    · exact recolor_new _ _ _ _ hl
/-- Any list, where a block changed that is below B, or of another color. -/
theorem Col.other {row : Option Nat} (h : Col T e col i B S w A n c xs) (hg : w.grownBy w' row) (hr : ∀ g, row = some g → g < B ∨ col g ≠ i) : Col T e col i B S w' A n c xs :=
  h.keep hg.size fun b hB _ hl hc => hg.block b hl fun e => by
    rcases hr b e.symm with h | h
    · omega
    · exact h hc
/-- A list behind an append onto another one, of color k. -/
theorem Col.past {k : Nat} {A2 : Option Addr} (h : Col T e col i B S w A n c xs) (hki : k ≠ i) (hA2 : ∀ b, A2.map (·.block) = some b → b < S ∧ col b = k) (hg : w.grownBy w' (A2.map (·.block))) (hS : S ≤ w'.heap.size) :
    Col T e (recolor col k S) i B w'.heap.size w' A n c xs :=
  (h.other hg fun b hb => .inr (by rw [(hA2 b hb).2]; exact hki)).recol (fun b hb => recolor_old _ _ _ _ hb) hS
theorem Col.setP (h : Col T e col i B S w A n c xs) {b j : Nat} (hb : b < B) (v : Value) : Col T e col i B S (w.setCell ⟨b, j, none⟩ v) A n c xs :=
  h.keep (by simp) fun k hk _ _ _ => Below.heap_setCell w ⟨b, j, none⟩ v k (fun e => by simp at e; omega)
end
end Go.Proofs.YtojenpjafgfpaaaGreatDoor
/- The layer desk: the reader: fields, value. -/
namespace Go.Proofs.YtojenpjafgfpaaaGreatDoor
open Go Go.RowKit

/-- The reader in block g. -/
def RdAt (g : Nat) (bad : Bool) (w : World) : Prop := w.heap[g]? = some (.cells #[.bool bad] 57 (0, 0))
theorem RdAt.cell {g : Nat} {bad : Bool} {w : World} (h : RdAt g bad w) : w.cell? ⟨g, 0, none⟩ = some (.bool bad) := by rw [Lib.cell_of_heap h]; rfl
theorem RdAt.lt {g : Nat} {bad : Bool} {w : World} (h : RdAt g bad w) : g < w.heap.size := by
  rcases Nat.lt_or_ge g w.heap.size with h' | h'
  · exact h'
  · unfold RdAt at h; rw [Array.getElem?_eq_none h'] at h; cases h
theorem RdAt.below {g : Nat} {bad : Bool} {w w' : World} (h : RdAt g bad w) (hb : Below w.heap.size w w') : RdAt g bad w' := below_heap hb h
theorem RdAt.set {g : Nat} {bad : Bool} {w : World} (h : RdAt g bad w) (b : Bool) : RdAt g b (w.setCell ⟨g, 0, none⟩ (.bool b)) := heap_set h rfl
theorem grown_of_below {w w' : World} {row : Option Nat} (h : Below w.heap.size w w') : w.grownBy w' row := ⟨h.os, h.tape, h.output, h.size, fun k hk _ => h.block k hk⟩
theorem grown_set {w w1 : World} {g : Nat} (h : w.grownBy w1 (some g)) (j : Nat) (v : Value) : w.grownBy (w1.setCell ⟨g, j, none⟩ v) (some g) :=
  ⟨h.os, h.tape, h.output, by simpa using h.size, fun k hk hr => (Below.heap_setCell w1 ⟨g, j, none⟩ v k (fun e => hr (by rw [e]))).trans (h.block k hk hr)⟩
theorem grown_trans {w w1 w2 : World} {row : Option Nat} (h : w.grownBy w1 row) (k : w1.grownBy w2 row) : w.grownBy w2 row :=
  ⟨k.os.trans h.os, k.tape.trans h.tape, k.output.trans h.output, Nat.le_trans h.size k.size, fun i hi hr => (k.block i (Nat.lt_of_lt_of_le hi h.size) hr).trans (h.block i hi hr)⟩
theorem grown_alloc {w w1 : World} {row : Option Nat} (h : w.grownBy w1 row) (o : Obj) : w.grownBy (w1.alloc o) row :=
  ⟨h.os, h.tape, h.output, by have := h.size; simp; omega, fun k hk hr => (Below.heap_alloc w1 o k (Nat.lt_of_lt_of_le hk h.size)).trans (h.block k hk hr)⟩
theorem grown_drew {w w1 : World} {row : Option Nat} (h : w.grownBy w1 row) : w.grownBy w1.drew row := ⟨h.os, h.tape, h.output, h.size, h.block⟩

theorem grown_setnew {w w1 : World} {row : Option Nat} {b : Nat} (h : w.grownBy w1 row) (hb : w.heap.size ≤ b) (j : Nat) (v : Value) : w.grownBy (w1.setCell ⟨b, j, none⟩ v) row :=
  ⟨h.os, h.tape, h.output, by simpa using h.size, fun k hk hr => (Below.heap_setCell w1 ⟨b, j, none⟩ v k (fun e => by simp at e; omega)).trans (h.block k hk hr)⟩
theorem heap_setne {w : World} {g b j : Nat} {o : Obj} {v : Value} (h : w.heap[b]? = some o) (hne : b ≠ g) : (w.setCell ⟨g, j, none⟩ v).heap[b]? = some o := (Below.heap_setCell w ⟨g, j, none⟩ v b hne).trans h
theorem heap_allocd {w : World} {b : Nat} {o : Obj} (h : w.heap[b]? = some o) (x : Obj) : (w.alloc x).heap[b]? = some o := below_heap ((Below.refl _ w).alloc (Nat.le_refl _) x) h

def FsPost (g : Nat) (bad : Bool) (l : List UInt8) (w : World) (e : Ending) (w' : World) : Prop :=
  ∃ A n c, e = .returned (.slice A n c) ∧ w.grownBy w' (some g) ∧ RdAt g (bad || (rdFields l).1) w' ∧ Sl tFld (fun b => w.heap.size ≤ b) w' A n c (rdFields l).2

set_option maxRecDepth 100000 in
set_option maxHeartbeats 1000000 in
theorem rfields_any (g : Nat) (bad : Bool) (F : Nat → Prop) (A : Option Addr) (n c : Nat) (l : List UInt8) (w : World) (h : Bs F w A n c l) (hn : n ≤ 4294967296) (hg : RdAt g bad w) :
    Calls Tryz.prog 17 #[.pointer (some ⟨g, 0, none⟩), .slice A n c] w (FsPost g bad l w) := by
  have HG := Lib.hid hg; clear hg
  go_enter Tryz.func17, Tryz.ntmps17
  go_wp2_with (go_at_call 51; refine (wtake_any F A n c l _ h hn).mono ?_)
  rintro e w1 ⟨A1, n1, c1, rfl, hb1, hs1⟩
  have hg1 := HG.out.below hb1
  have HG1 := Lib.hid hg1
  have q0 := hg1.cell
  have f0 := Lib.frozen_of_heap hg1 0
  have hlt := HG.out.lt
  have HB1 := Lib.hid hb1
  obtain ⟨ec, hec⟩ : ∃ ec, ec = okc (wtake l).isSome 2 := ⟨_, rfl⟩
  rw [← hec]
  have HS1 := Lib.hid hs1
  clear hg1 hb1 hs1
  cases hT : wtake l with
  | none =>
    obtain rfl : ec = 2 := by rw [hec, hT]; rfl
    have HF := Lib.hid (show rdFields l = (true, []) by simp [rdFields, hT])
    have HS2 := Lib.hid (show Sl tFld (fun b => w.heap.size ≤ b) w1 A1 n1 c1 [] by have := HS1.out; rw [hT] at this; exact this)
    clear hec hT HS1
    cases bad
    all_goals
      go_wp2
      go_ret
      refine ⟨A1, n1, c1, rfl, grown_set (grown_of_below HB1.out) 0 _, ?_, ?_⟩
      · rw [HF.out]; exact HG1.out.set _
      · rw [HF.out]; exact slsetc HS2.out (by omega) _
  | some L =>
    obtain rfl : ec = 0 := by rw [hec, hT]; rfl
    have HF := Lib.hid (show rdFields l = (false, L) by simp [rdFields, hT])
    have HS2 := Lib.hid (show Sl tFld (fun b => w.heap.size ≤ b) w1 A1 n1 c1 L by have := HS1.out; rw [hT] at this; exact this)
    clear hec hT HS1
    cases bad
    all_goals
      go_wp2
      go_ret
      refine ⟨A1, n1, c1, rfl, grown_set (grown_of_below HB1.out) 0 _, ?_, ?_⟩
      · rw [HF.out]; exact HG1.out.set _
      · rw [HF.out]; exact slsetc HS2.out (by omega) _

theorem rdValue_flag (l : List UInt8) : (rdValue l).1 = !(takeValue l).isSome := by
  unfold rdValue; cases takeValue l <;> rfl
/-- What 'value' leaves. -/
def VlPost (g : Nat) (bad : Bool) (l : List UInt8) (w : World) (e : Ending) (w' : World) : Prop :=
  e = .returned (.agg #[.bool (rdValue l).2.null, .int .i64 (rdValue l).2.n, .string (rdValue l).2.s]) ∧ w.grownBy w' (some g) ∧ RdAt g (bad || (rdValue l).1) w' ∧ (rdValue l).2.ok ∧ (rdValue l).2.s.size ≤ 4294967296

set_option maxRecDepth 100000 in
set_option maxHeartbeats 1000000 in
theorem rvalue_any (g : Nat) (bad : Bool) (F : Nat → Prop) (A : Option Addr) (n c : Nat) (l : List UInt8) (w : World) (h : Bs F w A n c l) (hn : n ≤ 4294967296) (hg : RdAt g bad w) :
    Calls Tryz.prog 48 #[.pointer (some ⟨g, 0, none⟩), .slice A n c] w (VlPost g bad l w) := by
  have HG := Lib.hid hg; clear hg
  have hlt := HG.out.lt
  go_enter Tryz.func48, Tryz.ntmps48
  go_wp2_with (go_at_call 77; refine (takeValue_any F A n c l _ (h.alloc _) hn).mono ?_)
  rintro e w1 ⟨rfl, hb1, hvok, hvs⟩
  obtain ⟨v, hv⟩ : ∃ v, v = (rdValue l).2 := ⟨_, rfl⟩
  rw [← hv] at hvok hvs ⊢
  have HV := Lib.hid hv; clear hv
  have hg1 : RdAt g bad w1 := (hb1.block g (by simp; omega)).trans ((Below.heap_alloc w _ g hlt).trans HG.out)
  have HG1 := Lib.hid hg1
  have q0 := hg1.cell
  have f0 := Lib.frozen_of_heap hg1 0
  have hbk : w1.heap[w.heap.size]? = some (.cells #[.bool false, .int .i64 0, .string ⟨#[]⟩] 53 (0, 0)) := (hb1.block _ (by simp)).trans (heap_alloc_new w _)
  have r0 : w1.cell? ⟨w.heap.size, 0, none⟩ = some (.bool false) := by rw [Lib.cell_of_heap hbk]; rfl
  have r1 : w1.cell? ⟨w.heap.size, 1, none⟩ = some (.int .i64 0) := by rw [Lib.cell_of_heap hbk]; rfl
  have r2 : w1.cell? ⟨w.heap.size, 2, none⟩ = some (.string ⟨#[]⟩) := by rw [Lib.cell_of_heap hbk]; rfl
  have p0 := Lib.frozen_of_heap hbk 0
  have p1 := Lib.frozen_of_heap hbk 1
  have p2 := Lib.frozen_of_heap hbk 2
  have HBK := Lib.hid hbk
  have HB1 : Hid (Below w.heap.size w w1) := Lib.hid (((Below.refl _ w).alloc (Nat.le_refl _) _).trans (hb1.mono (by simp)))
  have hne : g ≠ w.heap.size := by omega
  have hltw : w.heap.size < w1.heap.size := by have := hb1.size; simp at this; omega
  obtain ⟨ec, hec⟩ : ∃ ec, ec = okc (takeValue l).isSome 2 := ⟨_, rfl⟩
  rw [← hec]
  clear hg1 hb1 hbk
  have HOK := Lib.hid hvok
  clear hvok
  have hcase : (ec = 2 ∧ (rdValue l).1 = true) ∨ (ec = 0 ∧ (rdValue l).1 = false) := by
    rw [hec, rdValue_flag]
    cases takeValue l
    · exact .inl ⟨rfl, rfl⟩
    · exact .inr ⟨rfl, rfl⟩
  clear hec
  rcases hcase with ⟨rfl, hfl⟩ | ⟨rfl, hfl⟩
  all_goals
    have HFL := Lib.hid hfl; clear hfl
    have hbx : Below w1.heap.size w1 (w1.alloc (.cells #[.bool v.null, .int .i64 v.n, .string v.s] 53)) := (Below.refl _ w1).alloc (Nat.le_refl _) _
    have q0' := kcell hbx q0
    have f0' := Lib.frozen_of_heap (below_heap hbx HG1.out) 0
    have p0' := Lib.frozen_of_heap (below_heap hbx HBK.out) 0
    have p1' := Lib.frozen_of_heap (below_heap hbx HBK.out) 1
    have p2' := Lib.frozen_of_heap (below_heap hbx HBK.out) 2
    have r0' := kcell hbx r0
    have r1' := kcell hbx r1
    have r2' := kcell hbx r2
    have hne2 : ¬ g = w1.heap.size := by omega
    have hne3 : ¬ w1.heap.size = g := by omega
    have hne4 : ¬ w1.heap.size = w.heap.size := by omega
    have hne5 : ¬ w.heap.size = w1.heap.size := by omega
    have hne6 : ¬ w.heap.size = g := by omega
    have HBX := Lib.hid hbx
    clear q0 f0 p0 p1 p2 r0 r1 r2 hbx
    cases bad
    all_goals
      go_wp2_with fail
      refine bodyPost_ret (results_cell_row rfl _ _ w.heap.size 53 #[.bool v.null, .int .i64 v.n, .string v.s] (0, 0) _ rfl (heap_set (cs := #[.bool v.null, .int .i64 v.n, .string ⟨#[]⟩]) (heap_set (cs := #[.bool v.null, .int .i64 0, .string ⟨#[]⟩]) (heap_set (cs := #[.bool false, .int .i64 0, .string ⟨#[]⟩]) (heap_setne (heap_allocd HBK.out _) (Ne.symm hne)) rfl) rfl) rfl) Tryz.underlying53 rfl (by kernel_rfl)) rfl
        ⟨by rw [← HV.out], grown_setnew (grown_setnew (grown_setnew (grown_set (grown_alloc (grown_of_below HB1.out) _) _ _) (Nat.le_refl _) _ _) (Nat.le_refl _) _ _) (Nat.le_refl _) _ _, ?_, by rw [← HV.out]; exact HOK.out, by rw [← HV.out]; exact hvs⟩
      rw [HFL.out]
      exact heap_setne (heap_setne (heap_setne (RdAt.set (g := g) (heap_allocd HG1.out _) _) hne) hne) hne
end Go.Proofs.YtojenpjafgfpaaaGreatDoor
/- The layer desk: the reader: key. -/
namespace Go.Proofs.YtojenpjafgfpaaaGreatDoor
open Go Go.RowKit
attribute [local go_sem ↓] Go.wp_at_zero Go.wp_at_succ

def kcs (k : KK) : Array Value := #[.int .i64 k.id, .int .i64 k.bucket, .int .i64 k.row]
theorem kcs_put (k : KK) (j : Nat) (hj : j < 3) (x : Int) : (kcs k).setIfInBounds j (.int .i64 x) = kcs (k.put j x) := by
  match j, hj with
  | 0, _ => rfl
  | 1, _ => rfl
  | 2, _ => rfl
theorem kcs_get (k : KK) (j : Nat) (hj : j < 3) : ∃ u, (kcs k)[j]? = some u := by
  match j, hj with
  | 0, _ => exact ⟨_, rfl⟩
  | 1, _ => exact ⟨_, rfl⟩
  | 2, _ => exact ⟨_, rfl⟩
def pcs (b : Nat) : Array Value := #[.pointer (some ⟨b, 0, none⟩), .pointer (some ⟨b, 1, none⟩), .pointer (some ⟨b, 2, none⟩)]
theorem pcs_get (b : Nat) (j : Nat) (hj : j < 3) : (pcs b)[j]? = some (.pointer (some ⟨b, j, none⟩)) := by
  match j, hj with
  | 0, _ => rfl
  | 1, _ => rfl
  | 2, _ => rfl
theorem kput_ok {k : KK} (h : k.ok) {x : Int} (hx : i64 x) (j : Nat) : (k.put j x).ok := by
  obtain ⟨h1, h2, h3⟩ := h
  match j with
  | 0 => exact ⟨hx, h2, h3⟩
  | 1 => exact ⟨h1, hx, h3⟩
  | _ + 2 => exact ⟨h1, h2, hx⟩

theorem rdFields_count {l : List UInt8} (h : l.length ≤ 4294967296) : (rdFields l).2.length ≤ 4294967296 := by
  unfold rdFields
  cases hw : wtake l with
  | none => simp
  | some L => have := wtake_count _ l L (Nat.le_refl _) hw; simp only; omega
def KyPost (g : Nat) (bad : Bool) (l : List UInt8) (w : World) (e : Ending) (w' : World) : Prop :=
  e = .returned (.agg (kcs (rdKey l).2)) ∧ w.grownBy w' (some g) ∧ RdAt g (bad || (rdKey l).1) w' ∧ (rdKey l).2.ok

set_option maxRecDepth 100000 in
set_option maxHeartbeats 3000000 in
theorem rkey_any (g : Nat) (bad : Bool) (F : Nat → Prop) (A : Option Addr) (n c : Nat) (l : List UInt8) (w : World) (h : Bs F w A n c l) (hn : n ≤ 4294967296) (hg : RdAt g bad w) :
    Calls Tryz.prog 49 #[.pointer (some ⟨g, 0, none⟩), .slice A n c] w (KyPost g bad l w) := by
  have HG := Lib.hid hg; clear hg
  have hlt := HG.out.lt
  go_enter Tryz.func49, Tryz.ntmps49
  go_wp2_with (go_at_call 17; refine (rfields_any g bad F A n c l _ ((h.alloc _).alloc _) hn (heap_allocd (heap_allocd HG.out _) _)).mono ?_)
  rintro e w1 ⟨A1, n1, c1, rfl, hg1, hrd1, hs1⟩
  have hk1 : w1.heap[w.heap.size]? = some (.cells (kcs KK.zero) 71 (0, 0)) := (hg1.block _ (by simp; omega) (by simp; omega)).trans (heap_allocd (heap_alloc_new w _) _)
  have hp1 : w1.heap[w.heap.size + 1]? = some (.cells (pcs w.heap.size) 136 (0, 0)) := (hg1.block _ (by simp) (by simp; omega)).trans (by have := heap_alloc_new (w.alloc (.cells #[.int .i64 0, .int .i64 0, .int .i64 0] 71)) (.cells (pcs w.heap.size) 136 (0, 0)); rw [World.size_alloc] at this; exact this)
  have hw1 : w.grownBy w1 (some g) := grown_trans (grown_alloc (grown_alloc (grown_of_below (Below.refl _ w)) _) _) hg1
  have hs1 : Sl tFld (fun b => w.heap.size + 2 ≤ b) w1 A1 n1 c1 (rdFields l).2 := hs1.weaken fun b hb _ => by simp at hb; omega
  obtain ⟨L, hL⟩ : ∃ L, L = (rdFields l).2 := ⟨_, rfl⟩
  obtain ⟨b1, hb1⟩ : ∃ b1, b1 = (bad || (rdFields l).1) := ⟨_, rfl⟩
  rw [← hL] at hs1
  rw [← hb1] at hrd1
  have HLL := Lib.hid hL; have HBB := Lib.hid hb1
  clear hL hb1 hg1
  have HN := Lib.hid hs1.len
  have hn1 : n1 ≤ 4294967296 := by rw [HN.out, HLL.out]; exact rdFields_count (by rw [← h.len]; exact hn)
  go_wp2_with fail
  go_loopw [16] (fun i wr => ∃ (j : Nat) (kk : KK), j ≤ n1 ∧ j ≤ 3 ∧ i = .int .i64 j ∧ wr.heap[w.heap.size]? = some (.cells (kcs kk) 71 (0, 0)) ∧ wr.heap[w.heap.size + 1]? = some (.cells (pcs w.heap.size) 136 (0, 0)) ∧ RdAt g b1 wr ∧ w.grownBy wr (some g) ∧
      Sl tFld (fun b => w.heap.size + 2 ≤ b) wr A1 n1 c1 L ∧ kk.ok ∧ keyOf j kk (L.drop j) = keyOf 0 KK.zero L)
    (fun i _ => n1 - (intOf i).toNat)
  case atStart => exact ⟨0, KK.zero, Nat.zero_le _, by omega, rfl, hk1, hp1, hrd1, hw1, hs1, ⟨by unfold i64; decide, by unfold i64; decide, by unfold i64; decide⟩, rfl⟩
  case round =>
    clear hk1 hp1 hrd1 hw1 hs1
    obtain ⟨j, kk, hj, hj3, rfl, hk, hp, hrd, hw, hs, hok, hkey⟩ := hrel
    have HK := Lib.hid hk; have HP := Lib.hid hp; have HRD := Lib.hid hrd; have HW := Lib.hid hw; have HOK := Lib.hid hok; have HKEY := Lib.hid hkey
    have hsz := hw.size
    by_cases hlt2 : j < n1
    · have hjl : j < L.length := by rw [← HN.out]; exact hlt2
      obtain ⟨b, o, cs, rfl, hb, hbl, hrep, hc⟩ := hs.at_ hjl (by decide)
      obtain ⟨f, hf⟩ : ∃ f, f = L[j] := ⟨_, rfl⟩
      have hdrop : L.drop j = f :: L.drop (j + 1) := by rw [hf]; exact List.drop_eq_getElem_cons hjl
      rw [← hf] at hrep
      obtain ⟨A3, n3, c3, rfl, _, hfn, _⟩ := hrep
      obtain ⟨g0, g1, g2, g3⟩ := cells4 hc
      clear hc hf
      have HS := Lib.hid hs; clear hs
      have HD := Lib.hid hdrop; clear hdrop hkey hok hw
      by_cases h3 : j < 3
      · have h3' : ¬ (3 : Int) ≤ (j : Int) := by omega
        obtain ⟨u, hu⟩ := kcs_get kk j h3
        obtain ⟨wb, hwb, hBb, hCb, hSb, hKb⟩ := boxed wr [.int .i64 f.tag, .bool f.bytes, .int .u64 (f.n : Int), .slice A3 n3 c3] 75
        have HBb := Lib.hid hBb
        have c1' : wb.cell? ⟨w.heap.size + 1, j, none⟩ = some (.pointer (some ⟨w.heap.size, j, none⟩)) := by rw [Lib.cell_of_heap (below_heap hBb HP.out)]; exact pcs_get _ j h3
        have c2' : wb.cell? ⟨wr.heap.size, 2, none⟩ = some (.int .u64 (f.n : Int)) := hCb 2 _ rfl
        have c3' : wb.cell? ⟨w.heap.size, j, none⟩ = some u := by rw [Lib.cell_of_heap (below_heap hBb HK.out)]; exact hu
        have f3' := Lib.frozen_of_heap (below_heap hBb HK.out) j
        have hlw : w.heap.size < wr.heap.size := by omega
        have hne1 : ¬ w.heap.size = wr.heap.size := by omega
        have HSZ := Lib.hid hSb
        have hz := zagI_bd f.n hfn
        clear hCb hKb hSb hBb hk hp hrd hu
        go_wp2_with fail
        rw [← hwb]
        clear hwb
        go_region_held3 (fun w' => w'.cell? ⟨w.heap.size + 1, j, none⟩ = some (.pointer (some ⟨w.heap.size, j, none⟩)) ∧ w'.cell? ⟨wr.heap.size, 2, none⟩ = some (.int .u64 (f.n : Int)))
          (first | exact ⟨c1', c2'⟩ | assumption | go_keep)
          (first
            | (go_at_call 47; refine (zag_any f.n _ hfn).mono ?_; rintro e w' ⟨rfl, rfl⟩))
        all_goals
          go_wp2_with fail
          go_roundw
          case rel =>
            refine ⟨j + 1, kk.put j (zagI f.n), by omega, by omega, by go_num, ?_, ?_, ?_, ?_, ?_, kput_ok HOK.out ⟨hz.1, hz.2⟩ j, ?_⟩
            · exact heap_set (below_heap HBb.out HK.out) (kcs_put kk j h3 _)
            · exact heap_setne (below_heap HBb.out HP.out) (by omega)
            · exact heap_setne (HRD.out.below HBb.out) (by omega)
            · exact grown_drew (grown_setnew (grown_trans HW.out (grown_of_below HBb.out)) (Nat.le_refl _) _ _)
            · exact slsetc ((HS.out.below HBb.out (Nat.le_refl _)).drew) (by omega) _
            · rw [← HKEY.out, HD.out, keyOf, if_neg (by omega)]
          case measure => simp [intOf]; omega
      · have hj4 : j = 3 := by omega
        have h3' : (3 : Int) ≤ (j : Int) := by omega
        have hkey := HKEY.out
        rw [HD.out, keyOf, if_pos (by omega)] at hkey
        have HKEY2 := Lib.hid hkey
        obtain ⟨wb, hwb, hBb, _, hSb, _⟩ := boxed wr [.int .i64 f.tag, .bool f.bytes, .int .u64 (f.n : Int), .slice A3 n3 c3] 75
        have HBb := Lib.hid hBb
        have q0 := (hrd.below hBb).cell
        have f0 := Lib.frozen_of_heap (hrd.below hBb) 0
        have k0 : wb.cell? ⟨w.heap.size, 0, none⟩ = some (.int .i64 kk.id) := by rw [Lib.cell_of_heap (below_heap hBb HK.out)]; rfl
        have k1 : wb.cell? ⟨w.heap.size, 1, none⟩ = some (.int .i64 kk.bucket) := by rw [Lib.cell_of_heap (below_heap hBb HK.out)]; rfl
        have k2 : wb.cell? ⟨w.heap.size, 2, none⟩ = some (.int .i64 kk.row) := by rw [Lib.cell_of_heap (below_heap hBb HK.out)]; rfl
        have p0 := Lib.frozen_of_heap (below_heap hBb HK.out) 0
        have p1 := Lib.frozen_of_heap (below_heap hBb HK.out) 1
        have p2 := Lib.frozen_of_heap (below_heap hBb HK.out) 2
        have hne1 : ¬ g = w.heap.size := by omega
        have hne2 : ¬ w.heap.size = g := by omega
        clear hkey hk hp hrd hj4 hSb hBb
        go_upto_region 6 with fail
        rw [← hwb]
        clear hwb
        go_wp2_with fail
        refine bodyPost_ret (results_cell_row rfl _ _ w.heap.size 71 (kcs kk) (0, 0) _ rfl (heap_set (cs := kcs kk) (heap_set (cs := kcs kk) (heap_set (cs := kcs kk) (heap_setne (below_heap HBb.out HK.out) (Ne.symm hne1)) rfl) rfl) rfl) Tryz.underlying71 rfl (by kernel_rfl)) rfl ⟨?_, ?_, ?_, ?_⟩
        · rw [show (rdKey l).2 = kk by simp only [rdKey]; rw [← HLL.out, ← HKEY2.out]]
        · exact grown_setnew (grown_setnew (grown_setnew (grown_set (grown_trans HW.out (grown_of_below HBb.out)) _ _) (Nat.le_refl _) _ _) (Nat.le_refl _) _ _) (Nat.le_refl _) _ _
        · rw [show (bad || (rdKey l).1) = true by simp only [rdKey]; rw [← HLL.out, ← HKEY2.out]; simp]
          exact heap_setne (heap_setne (heap_setne ((HRD.out.below HBb.out).set true) hne1) hne1) hne1
        · rw [show (rdKey l).2 = kk by simp only [rdKey]; rw [← HLL.out, ← HKEY2.out]]; exact HOK.out
    · obtain rfl : j = n1 := by omega
      have hkey := HKEY.out
      rw [List.drop_of_length_le (by rw [← HN.out]; exact Nat.le_refl _), keyOf] at hkey
      have HKEY2 := Lib.hid hkey
      have k0 : wr.cell? ⟨w.heap.size, 0, none⟩ = some (.int .i64 kk.id) := by rw [Lib.cell_of_heap (HK.out)]; rfl
      have k1 : wr.cell? ⟨w.heap.size, 1, none⟩ = some (.int .i64 kk.bucket) := by rw [Lib.cell_of_heap (HK.out)]; rfl
      have k2 : wr.cell? ⟨w.heap.size, 2, none⟩ = some (.int .i64 kk.row) := by rw [Lib.cell_of_heap (HK.out)]; rfl
      have p0 := Lib.frozen_of_heap (HK.out) 0
      have p1 := Lib.frozen_of_heap (HK.out) 1
      have p2 := Lib.frozen_of_heap (HK.out) 2
      have hne1 : ¬ g = w.heap.size := by omega
      clear hkey hk hp hrd
      go_wp2_with fail
      refine bodyPost_ret (results_cell_row rfl _ _ w.heap.size 71 (kcs kk) (0, 0) _ rfl (heap_set (cs := kcs kk) (heap_set (cs := kcs kk) (heap_set (cs := kcs kk) HK.out rfl) rfl) rfl) Tryz.underlying71 rfl (by kernel_rfl)) rfl ⟨?_, ?_, ?_, ?_⟩
      · rw [show (rdKey l).2 = kk by simp only [rdKey]; rw [← HLL.out, ← HKEY2.out]]
      · exact grown_setnew (grown_setnew (grown_setnew HW.out (Nat.le_refl _) _ _) (Nat.le_refl _) _ _) (Nat.le_refl _) _ _
      · rw [show (bad || (rdKey l).1) = b1 by simp only [rdKey]; rw [← HLL.out, ← HKEY2.out, HBB.out]; simp]
        exact heap_setne (heap_setne (heap_setne HRD.out hne1) hne1) hne1
      · rw [show (rdKey l).2 = kk by simp only [rdKey]; rw [← HLL.out, ← HKEY2.out]]; exact HOK.out
end Go.Proofs.YtojenpjafgfpaaaGreatDoor
/- The layer desk: the reader: node: the state of its loop. -/
namespace Go.Proofs.YtojenpjafgfpaaaGreatDoor
open Go Go.RowKit

def pcells (p : PP) (A2 : Option Addr) (m2 c2 : Nat) (A3 : Option Addr) (m3 c3 : Nat) : Array Value := #[.int .i64 p.op, .int .i64 p.col, .bool p.v.null, .int .i64 p.v.n, .string p.v.s, .slice A2 m2 c2, .slice A3 m3 c3]
/-- The node that is read so far, in block P; fields L; the reader in block g. -/
structure NdSt (w : World) (P B g S : Nat) (bad : Bool) (p : PP) (col : Nat → Nat) (A2 : Option Addr) (m2 c2 : Nat) (A3 : Option Addr) (m3 c3 : Nat) (A1 : Option Addr) (n1 c1 : Nat) (L : List Fld) (wr : World) : Prop where
  heap : wr.heap[P]? = some (.cells (pcells p A2 m2 c2 A3 m3 c3) 55 (0, 0))
  vals : Col tVV 53 col 0 B S wr A2 m2 c2 p.vals
  nums : Col tI64 3 col 1 B S wr A3 m3 c3 p.l
  rd : RdAt g bad wr
  gr : w.grownBy wr (some g)
  fl : Sl tFld (fun b => P < b ∧ b < B) wr A1 n1 c1 L
  op : i64 p.op
  clm : i64 p.col
  vok : p.v.ok
  hg : g < P
  hw : w.heap.size = P
  hP : P < B
  hB : B ≤ S
  hS : S ≤ wr.heap.size

section
variable {w : World} {P B g S : Nat} {bad bad2 : Bool} {p p2 : PP} {col : Nat → Nat} {A2 : Option Addr} {m2 c2 : Nat} {A3 : Option Addr} {m3 c3 : Nat} {A1 : Option Addr} {n1 c1 : Nat} {L : List Fld} {wr w2 : World}
theorem NdSt.grow (h : NdSt w P B g S bad p col A2 m2 c2 A3 m3 c3 A1 n1 c1 L wr) (hgr : wr.grownBy w2 (some g)) (hr : RdAt g bad2 w2) : NdSt w P B g S bad2 p col A2 m2 c2 A3 m3 c3 A1 n1 c1 L w2 := by
  have h1 := h.hg; have h2 := h.hP; have h3 := h.hB; have h4 := h.hw; have h5 := h.hS
  have hsz := hgr.size
  exact ⟨(hgr.block P (by omega) (by simp; omega)).trans h.heap, h.vals.other hgr (fun k hk => .inl (by injection hk with hk; omega)), h.nums.other hgr (fun k hk => .inl (by injection hk with hk; omega)), hr, grown_trans h.gr hgr,
    h.fl.grown hgr (fun k hk => by injection hk with hk; omega), h.op, h.clm, h.vok, h1, h4, h2, h3, by omega⟩
theorem NdSt.below (h : NdSt w P B g S bad p col A2 m2 c2 A3 m3 c3 A1 n1 c1 L wr) (hb : Below wr.heap.size wr w2) : NdSt w P B g S bad p col A2 m2 c2 A3 m3 c3 A1 n1 c1 L w2 :=
  h.grow (grown_of_below hb) (h.rd.below hb)
theorem NdSt.drew (h : NdSt w P B g S bad p col A2 m2 c2 A3 m3 c3 A1 n1 c1 L wr) : NdSt w P B g S bad p col A2 m2 c2 A3 m3 c3 A1 n1 c1 L wr.drew :=
  h.below (Below.refl _ wr).drew
/-- A store into the node: no list of it. -/
theorem NdSt.put (h : NdSt w P B g S bad p col A2 m2 c2 A3 m3 c3 A1 n1 c1 L wr) {j : Nat} {u : Value} (hc : (pcells p A2 m2 c2 A3 m3 c3).setIfInBounds j u = pcells p2 A2 m2 c2 A3 m3 c3) (hv : p2.vals = p.vals) (hl : p2.l = p.l) (hop : i64 p2.op) (hcol : i64 p2.col) (hok : p2.v.ok) :
    NdSt w P B g S bad p2 col A2 m2 c2 A3 m3 c3 A1 n1 c1 L (wr.setCell ⟨P, j, none⟩ u) := by
  have h1 := h.hg; have h2 := h.hP; have h3 := h.hB; have h4 := h.hw
  exact ⟨heap_set h.heap hc, by rw [hv]; exact h.vals.setP h2 _, by rw [hl]; exact h.nums.setP h2 _, heap_setne h.rd (by omega), grown_setnew h.gr (by omega) _ _, slsetc h.fl (by omega) _, hop, hcol, hok, h1, h4, h2, h3, by simpa using h.hS⟩
/-- What an append onto one of its lists leaves as it was. -/
theorem NdSt.rest (h : NdSt w P B g S bad p col A2 m2 c2 A3 m3 c3 A1 n1 c1 L wr) {row : Option Nat} (hgr : wr.grownBy w2 row) (hA : ∀ b, row = some b → B ≤ b) :
    w2.heap[P]? = some (.cells (pcells p A2 m2 c2 A3 m3 c3) 55 (0, 0)) ∧ RdAt g bad w2 ∧ w.grownBy w2 (some g) ∧ Sl tFld (fun b => P < b ∧ b < B) w2 A1 n1 c1 L := by
  have q1 := h.hg; have q2 := h.hP; have q3 := h.hB; have q4 := h.hw; have q5 := h.hS
  have hsz := hgr.size
  have hk : ∀ k, k < B → k < wr.heap.size → w2.heap[k]? = wr.heap[k]? := fun k hkB hkl => hgr.block k hkl (fun e => by have := hA k e.symm; omega)
  refine ⟨(hk P q2 (by omega)).trans h.heap, (hk g (by omega) (by omega)).trans h.rd, ?_, h.fl.grown hgr (fun k hk2 hk3 => by have := hA k hk2; omega)⟩
  exact ⟨hgr.os.trans h.gr.os, hgr.tape.trans h.gr.tape, hgr.output.trans h.gr.output, by have := h.gr.size; omega, fun k hk2 hk3 => (hk k (by omega) (by have := h.gr.size; omega)).trans (h.gr.block k hk2 hk3)⟩
/-- Behind an append onto its values. -/
theorem NdSt.addV (h : NdSt w P B g S bad p col A2 m2 c2 A3 m3 c3 A1 n1 c1 L wr) {F G : Nat → Prop} {w3 a0 w4 : World} {v : VV} {A' : Option Addr} {c' : Nat} (h2 : ∀ b, F b → b < S ∧ B ≤ b ∧ col b = 0) (h3 : ∀ b, A2.map (·.block) = some b → b < S ∧ col b = 0)
    (hG : ∀ b, G b → S ≤ b) (ha : ApdL tVV 53 (fun b => (F b ∨ G b) ∧ b < w4.heap.size) a0 w3 w2 B A2 A' (m2 + 1) c' (p.vals ++ [v])) (hw3 : Below wr.heap.size wr w3) :
    NdSt w P B g w2.heap.size bad { p with vals := p.vals ++ [v] } (recolor col 0 S) A' (m2 + 1) c' A3 m3 c3 A1 n1 c1 L (w2.setCell ⟨P, 5, none⟩ (.slice A' (m2 + 1) c')) := by
  have q1 := h.hg; have q2 := h.hP; have q3 := h.hB; have q4 := h.hw; have q5 := h.hS
  have hgr : wr.grownBy w2 (A2.map (·.block)) := grown_trans (grown_of_below hw3) ha.grown
  have hsz := hgr.size
  obtain ⟨r1, r2, r3, r4⟩ := h.rest hgr fun b hb => (h.vals.lies hb).1
  have h5 := h.nums.past (by decide) h3 hgr (by omega)
  have h6 := Col.apd h2 h3 hG q3 (by have := hw3.size; omega) ha
  exact ⟨heap_set r1 rfl, h6.setP q2 _, h5.setP q2 _, heap_setne r2 (by omega), grown_setnew r3 (by omega) _ _, slsetc r4 (by omega) _, h.op, h.clm, h.vok, q1, q4, q2, by omega, by simp⟩
/-- Behind an append onto its numbers. -/
theorem NdSt.addN (h : NdSt w P B g S bad p col A2 m2 c2 A3 m3 c3 A1 n1 c1 L wr) {F G : Nat → Prop} {w3 a0 w4 : World} {v : Int} {A' : Option Addr} {c' : Nat} (h2 : ∀ b, F b → b < S ∧ B ≤ b ∧ col b = 1) (h3 : ∀ b, A3.map (·.block) = some b → b < S ∧ col b = 1)
    (hG : ∀ b, G b → S ≤ b) (ha : ApdL tI64 3 (fun b => (F b ∨ G b) ∧ b < w4.heap.size) a0 w3 w2 B A3 A' (m3 + 1) c' (p.l ++ [v])) (hw3 : Below wr.heap.size wr w3) :
    NdSt w P B g w2.heap.size bad { p with l := p.l ++ [v] } (recolor col 1 S) A2 m2 c2 A' (m3 + 1) c' A1 n1 c1 L (w2.setCell ⟨P, 6, none⟩ (.slice A' (m3 + 1) c')) := by
  have q1 := h.hg; have q2 := h.hP; have q3 := h.hB; have q4 := h.hw; have q5 := h.hS
  have hgr : wr.grownBy w2 (A3.map (·.block)) := grown_trans (grown_of_below hw3) ha.grown
  have hsz := hgr.size
  obtain ⟨r1, r2, r3, r4⟩ := h.rest hgr fun b hb => (h.nums.lies hb).1
  have h5 := h.vals.past (by decide) h3 hgr (by omega)
  have h6 := Col.apd h2 h3 hG q3 (by have := hw3.size; omega) ha
  exact ⟨heap_set r1 rfl, h5.setP q2 _, h6.setP q2 _, heap_setne r2 (by omega), grown_setnew r3 (by omega) _ _, slsetc r4 (by omega) _, h.op, h.clm, h.vok, q1, q4, q2, by omega, by simp⟩
/-- The cells of the node. -/
theorem NdSt.cells (h : NdSt w P B g S bad p col A2 m2 c2 A3 m3 c3 A1 n1 c1 L wr) : wr.cell? ⟨P, 0, none⟩ = some (.int .i64 p.op) ∧ wr.cell? ⟨P, 1, none⟩ = some (.int .i64 p.col) ∧ wr.cell? ⟨P, 2, none⟩ = some (.bool p.v.null) ∧ wr.cell? ⟨P, 3, none⟩ = some (.int .i64 p.v.n) ∧
    wr.cell? ⟨P, 4, none⟩ = some (.string p.v.s) ∧ wr.cell? ⟨P, 5, none⟩ = some (.slice A2 m2 c2) ∧ wr.cell? ⟨P, 6, none⟩ = some (.slice A3 m3 c3) := by
  refine ⟨?_, ?_, ?_, ?_, ?_, ?_, ?_⟩ <;> (rw [Lib.cell_of_heap h.heap]; rfl)
theorem NdSt.free (h : NdSt w P B g S bad p col A2 m2 c2 A3 m3 c3 A1 n1 c1 L wr) (j : Nat) : wr.frozen? ⟨P, j, none⟩ = false := Lib.frozen_of_heap h.heap j
end

/-- What 'node' leaves. -/
def NdPost (g : Nat) (bad : Bool) (l : List UInt8) (w : World) (e : Ending) (w' : World) : Prop :=
  ∃ A2 m2 c2 A3 m3 c3, e = .returned (.agg (pcells (rdNode l).2 A2 m2 c2 A3 m3 c3)) ∧ w.grownBy w' (some g) ∧ RdAt g (bad || (rdNode l).1) w' ∧
    tPP.rep (fun b => w.heap.size ≤ b) w' (pcells (rdNode l).2 A2 m2 c2 A3 m3 c3).toList (rdNode l).2
theorem foldl_take {α β : Type} (f : β → α → β) (s : β) (l : List α) (k : Nat) (h : k < l.length) : (l.take (k + 1)).foldl f s = f ((l.take k).foldl f s) l[k] := by
  rw [List.take_succ_eq_append_getElem h, List.foldl_append]; rfl
theorem elemVV : ElemOf Tryz.prog 50 53 tVV.size := ElemOf.mk' (bytes := 32) (z := .agg #[.bool false, .int .i64 0, .string ⟨#[]⟩]) (by kernel_rfl) (by kernel_rfl) rfl (by decide) (by decide)
theorem elemI64 : ElemOf Tryz.prog 24 3 tI64.size := ElemOf.mk' (bytes := 8) (z := .int .i64 0) (by kernel_rfl) (by kernel_rfl) rfl (by decide) (by decide)
theorem rdFields_mem {l : List UInt8} {f : Fld} (h : f ∈ (rdFields l).2) : f.b.length ≤ l.length := by
  unfold rdFields at h
  cases hw : wtake l with
  | none => rw [hw] at h; cases h
  | some L =>
    rw [hw] at h
    have := wtake_count _ l L (Nat.le_refl _) hw
    have := bsum_mem L f h
    omega
/-- 'value', its reading as a letter. -/
def VlPostL (g : Nat) (bad : Bool) (rv : Bool × VV) (w : World) (e : Ending) (w' : World) : Prop :=
  e = .returned (.agg #[.bool rv.2.null, .int .i64 rv.2.n, .string rv.2.s]) ∧ w.grownBy w' (some g) ∧ RdAt g (bad || rv.1) w' ∧ rv.2.ok ∧ rv.2.s.size ≤ 4294967296
theorem rvalue_rv (g : Nat) (bad : Bool) (F : Nat → Prop) (A : Option Addr) (n c : Nat) (l : List UInt8) (w : World) (h : Bs F w A n c l) (hn : n ≤ 4294967296) (hg : RdAt g bad w) {rv : Bool × VV} (hrv : rv = rdValue l) :
    Calls Tryz.prog 48 #[.pointer (some ⟨g, 0, none⟩), .slice A n c] w (VlPostL g bad rv w) := by
  subst hrv; exact rvalue_any g bad F A n c l w h hn hg
theorem nodeStep_or (a b : Bool) (p : PP) (f : Fld) : nodeStep (a || b, p) f = (a || (nodeStep (b, p) f).1, (nodeStep (b, p) f).2) := by
  unfold nodeStep
  repeat' split
  all_goals simp [Bool.or_assoc]
theorem nodeFold_or (a : Bool) : ∀ (L : List Fld) (b : Bool) (p : PP), L.foldl nodeStep (a || b, p) = (a || (L.foldl nodeStep (b, p)).1, (L.foldl nodeStep (b, p)).2)
  | [], b, p => rfl
  | f :: r, b, p => by
    rw [List.foldl_cons, List.foldl_cons, nodeStep_or, nodeFold_or a r]
end Go.Proofs.YtojenpjafgfpaaaGreatDoor
