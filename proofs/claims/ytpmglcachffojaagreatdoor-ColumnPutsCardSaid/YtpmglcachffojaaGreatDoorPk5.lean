/- A loop over a function that keeps a cell of its own between two rounds (a captured variable, block bb): what the caller's body owes, and what is known behind the loop. The body never leaves the loop. No program in sight. The layer widths: its functions compute the plain functions. -/
import Derived.Test.YtpmglcachffojaaGreatDoorPk4
import Derived.RangeFuncNested
import Derived.RangeFuncBound
import Derived.RangeFuncCalls
import Derived.RangeFuncLeaves
import Derived.RangeFuncBox
import Derived.Shelf.Abstract
import Derived.Shelf.RegionOpen
import Derived.WalkKit
import Derived.OwnWalkIn
import Derived.TacticsInMore
import Derived.LoopNIn
import Derived.LoopIn
import Derived.RegionIn
import Derived.Test.YtpmglcachffojaaGreatDoorPk3
import Derived.Test.YtpmglcachffojaaGreatDoorShelf
import Derived.Deep.CutRange
namespace Go.Proofs.YtpmglcachffojaaGreatDoor
open Go Go.RowKit

/-- What the function promises: any J that stands a draw, and a store into its cell, is handed through the rounds. -/
def SeqSt {α : Type} (F : Fence) (n : Nat) (P : Program) (g : Nat) (lb : Array Value) (encs : α → Array Value) (bb : Nat) (Kp : World → World → Prop) (S : List α → Prop) (N : Nat) (w : World) : Prop :=
  ∀ (l : Nat) (J : List α → World → Prop) (W : World), Below w.heap.size w W → (∀ pre W1 k, J pre W1 → J pre (W1.drewN k)) → (∀ pre W1 v, J pre W1 → J pre (W1.setCell ⟨bb, 0, none⟩ v)) →
    (∀ pre x W1, J pre W1 → pre.length < N → YieldAt F (n - 1) P l (encs x) W1 fun e W' => e = .returned (.bool true) ∧ J (pre ++ [x]) W' ∧ Kp W1 W') →
    J [] W → CallsIn F n P g (#[.func (.yield l) #[] #[]] ++ lb) W fun e W' => (∃ v, e = .returned v) ∧ ∃ xs, S xs ∧ J xs W'
/-- How a round ends: it goes on. -/
def stPost {α : Type} (Kp : World → World → Prop) (I : List α → World → Prop) (xs : List α) (W : World) : Exit → Act → World → Prop
  | .normal, _, W' => KeepsOthers W W' ∧ Kp W W' ∧ I xs W'
  | _, _, _ => False

section
variable {F : Fence} {n : Nat} {P : Program}
theorem wpIn_rangeSt {α : Type} {g : Operand} {ps : Array Tmp} {assign body : Code} {Q : Exit → Act → World → Prop} {a : Act} {w : World} (hro : F.round = none) (h1 : 1 ≤ n)
    {gf : Nat} {lb : Array Value} (hg : a.eval g = .func (.func gf) #[] lb) (hFg : F.fn gf) (eg : ∀ args w, (callFunc gf args).run P w = .ok (.enter gf args) w)
    {encs : α → Array Value} {bb : Nat} (hbb : bb < w.heap.size) {Kp : World → World → Prop} {S : List α → Prop} {N : Nat} (hseq : SeqSt F (n - 1) P gf lb encs bb Kp S N w)
    (hKt : ∀ {A B C : World}, Kp A B → Kp B C → Kp A C) (hKb : ∀ (W : World) (l : Nat) (o : Obj), w.heap.size ≤ l → Kp W (W.putObj l o)) (hps : ∀ x, (encs x).size = ps.size)
    (I : List α → World → Prop) (hI : OwnFrom w.heap.size I) (hIs : ∀ pre W v, I pre W → I pre (W.setCell ⟨bb, 0, none⟩ v)) (h0 : I [] w) (a₁ : α → Act)
    (hassign : ∀ (l : Nat) (x : α) (W : World) (K : Act → World → Prop), K (a₁ x) W → assign.wpIn (F.inRound l) (n - 1 - 1) P (Exit.then K (fun _ _ _ => False)) { tmps := (ps.zip (encs x)).foldl (fun t (p, v) => t.setIfInBounds p v) a.tmps, defers := [] } W)
    (hbody : ∀ (l : Nat) (pre : List α) (x : α) (W : World), I pre W → pre.length < N → body.wpIn (F.inRound l) (n - 1 - 1) P (stPost Kp I (pre ++ [x]) W) (a₁ x) W)
    (hdone : ∀ (D : Nat) (xs : List α) (W : World), w.heap.size ≤ D → S xs → I xs W → W.heap[D]? = some (.deferred (some [])) → Q .normal { a with defers := { target := .collected D, args := #[] } :: a.defers } W) :
    (Code.rangeFunc g ps assign body).wpIn F n P Q a w := by
  refine wpIn_rangeFunc fun fn hfn => ?_
  rw [hro]
  -- the loop's record, in a state
  obtain ⟨rc, hrc⟩ : ∃ rc : LoopState → Option Code → Loop, rc = fun st pe => { state := st, pending := pe, fn, tmps := a.tmps, params := ps, assign, body, defers := w.heap.size } := ⟨_, rfl⟩
  obtain ⟨D, hD⟩ : ∃ D, D = w.heap.size := ⟨_, rfl⟩
  obtain ⟨W1, hW1⟩ : ∃ W1, (w.alloc (.deferred (some []))).alloc (.loop (rc .ready none)) = W1 := ⟨_, rfl⟩
  have hL : W1.heap[D + 1]? = some (.loop (rc .ready none)) := by
    rw [← hW1, hD]
    have := World.alloc_heap_new (w.alloc (.deferred (some []))) (.loop (rc .ready none))
    rwa [World.size_alloc] at this
  have hE : W1.heap[D]? = some (.deferred (some [])) := by
    rw [← hW1, hD]
    exact (Below.heap_alloc _ _ _ (by simp)).trans (World.alloc_heap_new w _)
  have hI1 : I [] W1 := by rw [← hW1]; exact hI.alloc _ (hI.alloc _ h0)
  have hB1 : Below w.heap.size w W1 := by rw [← hW1]; exact ((Below.refl _ w).alloc (Nat.le_refl _) _).alloc (by simp) _
  refine ⟨D + 1, [{ target := .collected D, args := #[] }], W1, { target := .fn (.func gf) lb, args := #[.func (.yield (D + 1)) #[] #[]] }, W1, gf, #[.func (.yield (D + 1)) #[] #[]] ++ lb, W1, ?_, ?_, ?_, ?_, fun _ => h1, ?_⟩
  · rw [← hW1, hrc, hD]; exact run_enterLoop_outer _ _ _ _ _
  · simp only [resolve, hg]
    simp [go_sem]
  · intro f' hf'
    simp [Target.leads] at hf'
    subst hf'
    exact hFg
  · simp [invoke, go_sem, eg]
  · refine (hseq (D + 1) (fun pre W => I pre W ∧ W.heap[D + 1]? = some (.loop (rc .ready none)) ∧ W.heap[D]? = some (.deferred (some []))) W1 hB1 (fun pre W _ h => ⟨hI pre W _ none h.1 ⟨rfl, rfl, rfl, Nat.le_refl _, fun _ _ _ => rfl⟩ (fun r e => by cases e), h.2⟩)
      (fun pre W v h => ⟨hIs pre W v h.1, (Below.heap_setCell W ⟨bb, 0, none⟩ v (D + 1) (by show D + 1 ≠ bb; omega)).trans h.2.1, (Below.heap_setCell W ⟨bb, 0, none⟩ v D (by show D ≠ bb; omega)).trans h.2.2⟩) ?_ ⟨hI1, hL, hE⟩).mono ?_
    · rintro pre x W ⟨hi, hl, he⟩ hlen
      have hlt : D + 1 < W.heap.size := (Array.getElem?_eq_some_iff.1 hl).1
      have hy := run_yield (P := P) (args := encs x) hl (by rw [hrc]; exact hps x)
      rw [hrc] at hy
      refine ⟨fn, _, assign, body, hy, roundIn_of_wpIn hfn (hassign _ x W _ ⟨_, run_beginRound hl (by rw [hrc]), ?_⟩)⟩
      obtain ⟨W2, hW2⟩ : ∃ W2, W2 = W.putObj (D + 1) (.loop { rc .ready none with state := .busy }) := ⟨_, rfl⟩
      have hl2 : W2.heap[D + 1]? = some (.loop { rc .ready none with state := .busy }) := by rw [hW2]; exact World.putObj_heap_same hlt
      have he2 : W2.heap[D]? = some (.deferred (some [])) := by rw [hW2]; exact (World.putObj_heap_other (by omega)).trans he
      have hk2 : Kp W W2 := by rw [hW2]; exact hKb _ _ _ (by omega)
      have hi2 : I pre W2 := by rw [hW2]; exact hI.putObj _ hi (by omega) hl rfl
      rw [← hW2]
      refine wpIn_mono (hbody _ pre x _ hi2 hlen) fun e a3 W3 hp => ?_
      cases e with
      | normal =>
        obtain ⟨hk3, hp3, hi3⟩ := hp
        have hl3 := hk3.same _ _ hl2 rfl
        have hr := run_endRound (P := P) none hl3
        rw [hrc] at hr hl3
        refine ⟨_, _, hr, rfl, ⟨hI.putObj _ hi3 (by omega) hl3 rfl, ?_, ?_⟩, hKt (hKt hk2 hp3) (hKb _ _ _ (by omega))⟩
        · rw [hrc]; exact World.putObj_heap_same (Array.getElem?_eq_some_iff.1 hl3).1
        · exact (World.putObj_heap_other (by omega)).trans (hk3.same _ _ he2 rfl)
      | ret => exact hp.elim
      | exit id => exact hp.elim
      | goto t => exact hp.elim
      | panic ch => exact hp.elim
      | outgrown => exact hp.elim
    · rintro e W2 ⟨⟨v, rfl⟩, xs, hS, hi, hl, he⟩
      have hr := run_endLoop (P := P) hl (by rw [hrc]; simp)
      rw [hrc] at hr
      exact ⟨none, _, hr, hdone D xs _ (by omega) hS (hI.putObj _ hi (by omega) hl rfl) ((World.putObj_heap_other (by omega)).trans he)⟩
end
end Go.Proofs.YtpmglcachffojaaGreatDoor
namespace Go.Proofs.YtpmglcachffojaaGreatDoor
open Go Go.RowKit

theorem kcell {W w1 : World} {a : Addr} {v : Value} (hb : Below W.heap.size W w1) (h : W.cell? a = some v) : w1.cell? a = some v := (hb.cell (World.block_lt_of_cell? W a h)).trans h
theorem blk_lt {w : World} {b : Nat} {o : Obj} (h : w.heap[b]? = some o) : b < w.heap.size := (Array.getElem?_eq_some_iff.1 h).1
theorem beq_yes {a b : Int} (h : a = b) : (a == b) = true := by simpa using h
theorem beq_no {a b : Int} (h : ¬ a = b) : (a == b) = false := by simpa using h
theorem heap_set {w : World} {g j : Nat} {cs cs' : Array Value} {t : TypeId} {fr : Nat × Nat} {v : Value} (h : w.heap[g]? = some (.cells cs t fr)) (hc : cs.setIfInBounds j v = cs') : (w.setCell ⟨g, j, none⟩ v).heap[g]? = some (.cells cs' t fr) := by
  subst hc
  simp [World.setCell, Array.getElem?_modify, h]
theorem bsetc {B b j : Nat} {a w : World} (h : Below B a w) (hb : B ≤ b) (v : Value) : Below B a (w.setCell ⟨b, j, none⟩ v) := h.setCell (p := ⟨b, j, none⟩) hb v
theorem results_row1 {P : Program} {fn : Func} {p : Tmp} {ty : TypeId} (h : fn.results = #[.cell p ty]) (tmps : Array Value) (w : World) (g : Nat) (t : TypeId) (cs : Array Value) (fr : Nat × Nat) (d : TypeDesc)
    (hp : tmps.getD p undef = .pointer (some ⟨g, 0, none⟩)) (hg : w.heap[g]? = some (.cells cs t fr))
    (hu : P.underlying ty = some d) (hd : (match d with | .struct _ | .array _ _ => true | _ => false) = true) (hi : (P.info? ty).map (·.size) = some cs.size) :
    (results fn tmps).run P w = .ok (.agg cs) w := by
  have hp' : tmps[p]?.getD undef = .pointer (some ⟨g, 0, none⟩) := by simpa using hp
  simp [results, h, hp', asAddr, run_loadVar_row w g t ty cs fr d hg hu hd hi]
set_option maxRecDepth 100000 in
theorem above_any (w : World) : Calls Tryz.prog 293 #[] w fun e w' => e = .returned (.agg #[.int .i64 26, .int .i64 28, .int .i64 30, .int .i64 32, .int .i64 40, .int .i64 48, .int .i64 56, .int .i64 64]) ∧ Below w.heap.size w w' := by
  go_enter Tryz.func293, Tryz.ntmps293
  go_wp2_with fail
  refine bodyPost_ret (results_row1 rfl _ _ w.heap.size 334 #[.int .i64 26, .int .i64 28, .int .i64 30, .int .i64 32, .int .i64 40, .int .i64 48, .int .i64 56, .int .i64 64] (0, 0) _ rfl (heap_alloc_new w _) Tryz.underlying334 rfl (by kernel_rfl)) rfl ?_
  exact ⟨rfl, (Below.refl _ _).alloc (Nat.le_refl _) _⟩

set_option maxRecDepth 100000 in
theorem wof_any (c : Int) (h0 : 0 ≤ c) (h1 : c ≤ 31) (w : World) : Calls Tryz.prog 250 #[.int .i64 c] w fun e w' => e = .returned (.int .i64 (wOf c)) ∧ Below w.heap.size w w' := by
  by_cases h : c < 24
  · have e1 := Lib.hid (show wOf c = c + 1 by unfold wOf; rw [if_neg (by omega), if_pos h])
    go_enter Tryz.func250, Tryz.ntmps250
    go_wp2_with (first
      | (go_at_call 293; refine (above_any _).mono ?_; rintro e w1 ⟨rfl, hb1⟩; have HB1 := Lib.hid (hb1.alloc hb1.size (.cells #[.int .i64 26, .int .i64 28, .int .i64 30, .int .i64 32, .int .i64 40, .int .i64 48, .int .i64 56, .int .i64 64] 334)); clear hb1)
      | fail)
    go_ret
    exact ⟨by rw [e1.out]; rfl, HB1.out⟩
  · obtain rfl | rfl | rfl | rfl | rfl | rfl | rfl | rfl : c = 24 ∨ c = 25 ∨ c = 26 ∨ c = 27 ∨ c = 28 ∨ c = 29 ∨ c = 30 ∨ c = 31 := by omega
    all_goals
      clear h0 h1 h
      go_enter Tryz.func250, Tryz.ntmps250
      go_wp2_with (first
        | (go_at_call 293; refine (above_any _).mono ?_; rintro e w1 ⟨rfl, hb1⟩; have HB1 := Lib.hid (hb1.alloc hb1.size (.cells #[.int .i64 26, .int .i64 28, .int .i64 30, .int .i64 32, .int .i64 40, .int .i64 48, .int .i64 56, .int .i64 64] 334)); clear hb1)
        | fail)
      go_ret
      exact ⟨rfl, HB1.out⟩
theorem idx_lt (zs : List Int) (x : Int) : ∀ i, Lib.idxFrom zs x i = -1 ∨ (0 ≤ Lib.idxFrom zs x i) := by
  induction zs with
  | nil => intro i; exact .inl rfl
  | cons z r ih =>
    intro i
    unfold Lib.idxFrom
    split
    · exact .inr (by omega)
    · exact ih (i + 1)
def wides : List Int := [26, 28, 30, 32, 40, 48, 56, 64]
theorem code_idx (x : Int) : Lib.idxOf wides x = if x = 26 then 0 else if x = 28 then 1 else if x = 30 then 2 else if x = 32 then 3 else if x = 40 then 4 else if x = 48 then 5 else if x = 56 then 6 else if x = 64 then 7 else -1 := by
  unfold Lib.idxOf wides
  simp only [Lib.idxFrom, eq_comm (b := x)]
  rfl
theorem wcode_idx {x : Int} (h : ¬ (1 ≤ x ∧ x ≤ 24)) : wCode x = if Lib.idxOf wides x < 0 then -1 else 24 + Lib.idxOf wides x := by
  rw [code_idx]
  unfold wCode
  rw [if_neg h]
  (repeat' split) <;> first | rfl | omega
theorem wide_cells (w : World) : ∀ j, j < wides.length → (w.alloc (.cells #[.int .i64 26, .int .i64 28, .int .i64 30, .int .i64 32, .int .i64 40, .int .i64 48, .int .i64 56, .int .i64 64] 334)).cell? ⟨w.heap.size, 0 + j, none⟩ = some (.int .i64 (wides.getD j 0)) := fun j hj => by
  rw [Lib.cell_of_heap (heap_alloc_new w _)]
  have hj8 : j < 8 := hj
  obtain rfl | rfl | rfl | rfl | rfl | rfl | rfl | rfl : j = 0 ∨ j = 1 ∨ j = 2 ∨ j = 3 ∨ j = 4 ∨ j = 5 ∨ j = 6 ∨ j = 7 := by omega
  all_goals rfl
set_option maxRecDepth 100000 in
theorem wcode_any (x : Int) (w : World) : Calls Tryz.prog 287 #[.int .i64 x] w fun e w' => e = .returned (.int .i64 (wCode x)) ∧ Below w.heap.size w w' := by
  by_cases h : 1 ≤ x ∧ x ≤ 24
  · have e1 := Lib.hid (show wCode x = x - 1 by unfold wCode; rw [if_pos h])
    obtain ⟨h1, h2⟩ := h
    go_enter Tryz.func287, Tryz.ntmps287
    go_wp2_with fail
    go_ret
    exact ⟨by rw [e1.out]; rfl, Below.refl _ _⟩
  · obtain ⟨i, hi⟩ : ∃ i, Lib.idxOf wides x = i := ⟨_, rfl⟩
    have e1 := wcode_idx h
    have hb := idx_lt wides x 0
    have hb2 : i ≤ 7 := by rw [← hi, code_idx]; (repeat' split) <;> omega
    rw [show Lib.idxFrom wides x 0 = i from hi] at hb
    rw [hi] at e1
    have HI := Lib.hid hi
    have HE := Lib.hid e1
    clear e1 hi
    rcases hb with hb | hb
    · subst hb
      have e2 := Lib.hid (show wCode x = -1 by rw [HE.out]; rfl)
      by_cases hx1 : 1 ≤ x
      · have hx2 : ¬ x ≤ 24 := by omega
        clear h
        go_enter Tryz.func287, Tryz.ntmps287
        go_wp2_with (first
          | (go_at_call 293; refine (above_any _).mono ?_; rintro e w1 ⟨rfl, hb1⟩; have HB1 := Lib.hid (hb1.alloc hb1.size (.cells #[.int .i64 26, .int .i64 28, .int .i64 30, .int .i64 32, .int .i64 40, .int .i64 48, .int .i64 56, .int .i64 64] 334)); have HC1 := Lib.hid (wide_cells w1); clear hb1)
          | (go_at_call 319; refine (Tryz.slices_Index_int w1.heap.size 0 8 8 wides x _ (by decide) (by decide) HC1.out).mono ?_; rintro e w2 ⟨rfl, rfl⟩; rw [show Lib.idxOf (wides.take 8) x = _ from HI.out])
          | fail)
        go_ret
        exact ⟨by rw [e2.out]; rfl, HB1.out⟩
      · clear h
        go_enter Tryz.func287, Tryz.ntmps287
        go_wp2_with (first
          | (go_at_call 293; refine (above_any _).mono ?_; rintro e w1 ⟨rfl, hb1⟩; have HB1 := Lib.hid (hb1.alloc hb1.size (.cells #[.int .i64 26, .int .i64 28, .int .i64 30, .int .i64 32, .int .i64 40, .int .i64 48, .int .i64 56, .int .i64 64] 334)); have HC1 := Lib.hid (wide_cells w1); clear hb1)
          | (go_at_call 319; refine (Tryz.slices_Index_int w1.heap.size 0 8 8 wides x _ (by decide) (by decide) HC1.out).mono ?_; rintro e w2 ⟨rfl, rfl⟩; rw [show Lib.idxOf (wides.take 8) x = _ from HI.out])
          | fail)
        go_ret
        exact ⟨by rw [e2.out]; rfl, HB1.out⟩
    · have e2 := Lib.hid (show wCode x = 24 + i by rw [HE.out, if_neg (by omega)])
      by_cases hx1 : 1 ≤ x
      · have hx2 : ¬ x ≤ 24 := by omega
        clear h
        go_enter Tryz.func287, Tryz.ntmps287
        go_wp2_with (first
          | (go_at_call 293; refine (above_any _).mono ?_; rintro e w1 ⟨rfl, hb1⟩; have HB1 := Lib.hid (hb1.alloc hb1.size (.cells #[.int .i64 26, .int .i64 28, .int .i64 30, .int .i64 32, .int .i64 40, .int .i64 48, .int .i64 56, .int .i64 64] 334)); have HC1 := Lib.hid (wide_cells w1); clear hb1)
          | (go_at_call 319; refine (Tryz.slices_Index_int w1.heap.size 0 8 8 wides x _ (by decide) (by decide) HC1.out).mono ?_; rintro e w2 ⟨rfl, rfl⟩; rw [show Lib.idxOf (wides.take 8) x = _ from HI.out])
          | fail)
        go_ret
        exact ⟨by rw [e2.out]; rfl, HB1.out⟩
      · clear h
        go_enter Tryz.func287, Tryz.ntmps287
        go_wp2_with (first
          | (go_at_call 293; refine (above_any _).mono ?_; rintro e w1 ⟨rfl, hb1⟩; have HB1 := Lib.hid (hb1.alloc hb1.size (.cells #[.int .i64 26, .int .i64 28, .int .i64 30, .int .i64 32, .int .i64 40, .int .i64 48, .int .i64 56, .int .i64 64] 334)); have HC1 := Lib.hid (wide_cells w1); clear hb1)
          | (go_at_call 319; refine (Tryz.slices_Index_int w1.heap.size 0 8 8 wides x _ (by decide) (by decide) HC1.out).mono ?_; rintro e w2 ⟨rfl, rfl⟩; rw [show Lib.idxOf (wides.take 8) x = _ from HI.out])
          | fail)
        go_ret
        exact ⟨by rw [e2.out]; rfl, HB1.out⟩
theorem run_w0 (w : World) : (Instr.index 334 (.agg #[.int .i64 26, .int .i64 28, .int .i64 30, .int .i64 32, .int .i64 40, .int .i64 48, .int .i64 56, .int .i64 64]) (.int .i64 0)).run Tryz.prog w = .ok (.int .i64 26) w := by first | kernel_rfl | rfl
theorem run_w1 (w : World) : (Instr.index 334 (.agg #[.int .i64 26, .int .i64 28, .int .i64 30, .int .i64 32, .int .i64 40, .int .i64 48, .int .i64 56, .int .i64 64]) (.int .i64 1)).run Tryz.prog w = .ok (.int .i64 28) w := by first | kernel_rfl | rfl
theorem run_w2 (w : World) : (Instr.index 334 (.agg #[.int .i64 26, .int .i64 28, .int .i64 30, .int .i64 32, .int .i64 40, .int .i64 48, .int .i64 56, .int .i64 64]) (.int .i64 2)).run Tryz.prog w = .ok (.int .i64 30) w := by first | kernel_rfl | rfl
theorem run_w3 (w : World) : (Instr.index 334 (.agg #[.int .i64 26, .int .i64 28, .int .i64 30, .int .i64 32, .int .i64 40, .int .i64 48, .int .i64 56, .int .i64 64]) (.int .i64 3)).run Tryz.prog w = .ok (.int .i64 32) w := by first | kernel_rfl | rfl
theorem run_w4 (w : World) : (Instr.index 334 (.agg #[.int .i64 26, .int .i64 28, .int .i64 30, .int .i64 32, .int .i64 40, .int .i64 48, .int .i64 56, .int .i64 64]) (.int .i64 4)).run Tryz.prog w = .ok (.int .i64 40) w := by first | kernel_rfl | rfl
theorem run_w5 (w : World) : (Instr.index 334 (.agg #[.int .i64 26, .int .i64 28, .int .i64 30, .int .i64 32, .int .i64 40, .int .i64 48, .int .i64 56, .int .i64 64]) (.int .i64 5)).run Tryz.prog w = .ok (.int .i64 48) w := by first | kernel_rfl | rfl
theorem run_w6 (w : World) : (Instr.index 334 (.agg #[.int .i64 26, .int .i64 28, .int .i64 30, .int .i64 32, .int .i64 40, .int .i64 48, .int .i64 56, .int .i64 64]) (.int .i64 6)).run Tryz.prog w = .ok (.int .i64 56) w := by first | kernel_rfl | rfl
theorem run_w7 (w : World) : (Instr.index 334 (.agg #[.int .i64 26, .int .i64 28, .int .i64 30, .int .i64 32, .int .i64 40, .int .i64 48, .int .i64 56, .int .i64 64]) (.int .i64 7)).run Tryz.prog w = .ok (.int .i64 64) w := by first | kernel_rfl | rfl
set_option maxRecDepth 100000 in
set_option maxHeartbeats 1000000 in
theorem wclose_any (b : Nat) (hb : b ≤ 64) (w : World) : Calls Tryz.prog 283 #[.int .i64 (b : Int)] w fun e w' => e = .returned (.int .i64 ((closeN b : Nat) : Int)) ∧ Below w.heap.size w w' := by
  have HC := Lib.hid (closeN_eq b)
  by_cases h : b ≤ 24
  · have e1 := Lib.hid (show wClose (b : Int) = max 1 (b : Int) by unfold wClose; rw [if_pos (by omega)])
    go_enter Tryz.func283, Tryz.ntmps283
    go_wp2_with fail
    go_ret
    exact ⟨by rw [HC.out, e1.out]; rfl, Below.refl _ _⟩
  · have s0 : ¬ (b : Int) ≤ 24 := by omega
    go_enter Tryz.func283, Tryz.ntmps283
    go_wp2_with (first
      | (go_at_call 293; refine (above_any _).mono ?_; rintro e w1 ⟨rfl, hb1⟩; have HB1 := Lib.hid hb1; clear hb1)
      | fail)
    go_loopw [10] (fun kv wr => ∃ k : Nat, k ≤ 8 ∧ kv = .int .i64 (k : Int) ∧ (∀ j, j < k → wides.getD j 0 < (b : Int)) ∧ wr = w1)
      (fun kv _ => 8 - (intOf kv).toNat)
    case atStart => exact ⟨0, by omega, rfl, fun j hj => by omega, rfl⟩
    case round =>
      obtain ⟨k, hk, rfl, hj, rfl⟩ := hrel
      have HJ := Lib.hid hj
      clear hj
      obtain rfl | rfl | rfl | rfl | rfl | rfl | rfl | rfl | rfl : k = 0 ∨ k = 1 ∨ k = 2 ∨ k = 3 ∨ k = 4 ∨ k = 5 ∨ k = 6 ∨ k = 7 ∨ k = 8 := by omega
      · have hix := run_w0
        by_cases hc : (b : Int) ≤ 26
        · have e1 := Lib.hid (show ((closeN b : Nat) : Int) = 26 by
            rw [HC.out]
            skip
            unfold wClose
            (repeat' split) <;> omega)
          go_wp2_with fail
          go_ret
          exact ⟨by rw [e1.out]; rfl, HB1.out⟩
        · go_wp2_with fail
          go_roundw
          case rel => exact ⟨1, by omega, by first | rfl | go_num, fun j hj => by
              by_cases hjj : j < 0
              · exact HJ.out j hjj
              · obtain rfl : j = 0 := by omega
                show (26 : Int) < (b : Int)
                omega, trivial⟩
          case measure => simp [intOf]
      · have hix := run_w1
        by_cases hc : (b : Int) ≤ 28
        · have e1 := Lib.hid (show ((closeN b : Nat) : Int) = 28 by
            rw [HC.out]
            have h0 : (26 : Int) < (b : Int) := HJ.out 0 (by decide)
            unfold wClose
            (repeat' split) <;> omega)
          go_wp2_with fail
          go_ret
          exact ⟨by rw [e1.out]; rfl, HB1.out⟩
        · go_wp2_with fail
          go_roundw
          case rel => exact ⟨2, by omega, by first | rfl | go_num, fun j hj => by
              by_cases hjj : j < 1
              · exact HJ.out j hjj
              · obtain rfl : j = 1 := by omega
                show (28 : Int) < (b : Int)
                omega, trivial⟩
          case measure => simp [intOf]
      · have hix := run_w2
        by_cases hc : (b : Int) ≤ 30
        · have e1 := Lib.hid (show ((closeN b : Nat) : Int) = 30 by
            rw [HC.out]
            have h0 : (28 : Int) < (b : Int) := HJ.out 1 (by decide)
            unfold wClose
            (repeat' split) <;> omega)
          go_wp2_with fail
          go_ret
          exact ⟨by rw [e1.out]; rfl, HB1.out⟩
        · go_wp2_with fail
          go_roundw
          case rel => exact ⟨3, by omega, by first | rfl | go_num, fun j hj => by
              by_cases hjj : j < 2
              · exact HJ.out j hjj
              · obtain rfl : j = 2 := by omega
                show (30 : Int) < (b : Int)
                omega, trivial⟩
          case measure => simp [intOf]
      · have hix := run_w3
        by_cases hc : (b : Int) ≤ 32
        · have e1 := Lib.hid (show ((closeN b : Nat) : Int) = 32 by
            rw [HC.out]
            have h0 : (30 : Int) < (b : Int) := HJ.out 2 (by decide)
            unfold wClose
            (repeat' split) <;> omega)
          go_wp2_with fail
          go_ret
          exact ⟨by rw [e1.out]; rfl, HB1.out⟩
        · go_wp2_with fail
          go_roundw
          case rel => exact ⟨4, by omega, by first | rfl | go_num, fun j hj => by
              by_cases hjj : j < 3
              · exact HJ.out j hjj
              · obtain rfl : j = 3 := by omega
                show (32 : Int) < (b : Int)
                omega, trivial⟩
          case measure => simp [intOf]
      · have hix := run_w4
        by_cases hc : (b : Int) ≤ 40
        · have e1 := Lib.hid (show ((closeN b : Nat) : Int) = 40 by
            rw [HC.out]
            have h0 : (32 : Int) < (b : Int) := HJ.out 3 (by decide)
            unfold wClose
            (repeat' split) <;> omega)
          go_wp2_with fail
          go_ret
          exact ⟨by rw [e1.out]; rfl, HB1.out⟩
        · go_wp2_with fail
          go_roundw
          case rel => exact ⟨5, by omega, by first | rfl | go_num, fun j hj => by
              by_cases hjj : j < 4
              · exact HJ.out j hjj
              · obtain rfl : j = 4 := by omega
                show (40 : Int) < (b : Int)
                omega, trivial⟩
          case measure => simp [intOf]
      · have hix := run_w5
        by_cases hc : (b : Int) ≤ 48
        · have e1 := Lib.hid (show ((closeN b : Nat) : Int) = 48 by
            rw [HC.out]
            have h0 : (40 : Int) < (b : Int) := HJ.out 4 (by decide)
            unfold wClose
            (repeat' split) <;> omega)
          go_wp2_with fail
          go_ret
          exact ⟨by rw [e1.out]; rfl, HB1.out⟩
        · go_wp2_with fail
          go_roundw
          case rel => exact ⟨6, by omega, by first | rfl | go_num, fun j hj => by
              by_cases hjj : j < 5
              · exact HJ.out j hjj
              · obtain rfl : j = 5 := by omega
                show (48 : Int) < (b : Int)
                omega, trivial⟩
          case measure => simp [intOf]
      · have hix := run_w6
        by_cases hc : (b : Int) ≤ 56
        · have e1 := Lib.hid (show ((closeN b : Nat) : Int) = 56 by
            rw [HC.out]
            have h0 : (48 : Int) < (b : Int) := HJ.out 5 (by decide)
            unfold wClose
            (repeat' split) <;> omega)
          go_wp2_with fail
          go_ret
          exact ⟨by rw [e1.out]; rfl, HB1.out⟩
        · go_wp2_with fail
          go_roundw
          case rel => exact ⟨7, by omega, by first | rfl | go_num, fun j hj => by
              by_cases hjj : j < 6
              · exact HJ.out j hjj
              · obtain rfl : j = 6 := by omega
                show (56 : Int) < (b : Int)
                omega, trivial⟩
          case measure => simp [intOf]
      · have hix := run_w7
        by_cases hc : (b : Int) ≤ 64
        · have e1 := Lib.hid (show ((closeN b : Nat) : Int) = 64 by
            rw [HC.out]
            have h0 : (56 : Int) < (b : Int) := HJ.out 6 (by decide)
            unfold wClose
            (repeat' split) <;> omega)
          go_wp2_with fail
          go_ret
          exact ⟨by rw [e1.out]; rfl, HB1.out⟩
        · exact absurd (by omega) hc
      · have h0 : (64 : Int) < (b : Int) := HJ.out 7 (by decide)
        omega
/-- How many bits a number needs. -/
theorem wbits_any (x : Nat) (hx : U64 x) (w : World) : Calls Tryz.prog 315 #[.int .u64 (x : Int)] w fun e w' => e = .returned (.int .i64 ((bl x : Nat) : Int)) ∧ w = w' := by
  have hx' : (x : Int) ≤ 18446744073709551615 := by have : x < 18446744073709551616 := hx; omega
  go_enter Tryz.func315, Tryz.ntmps315
  go_wp2_with (first
    | (go_at_call 303; refine (Tryz.bits_Len64 (x : Int) _ (by omega) hx').mono ?_; rintro e w1 ⟨rfl, rfl⟩)
    | fail)
  go_ret
  exact ⟨rfl, rfl⟩
set_option maxRecDepth 100000 in
set_option maxHeartbeats 1000000 in
theorem wmost_any (F : Nat → Prop) (A : Option Addr) (n c : Nat) (l : List Nat) (w : World) (h : Sl tU64 F w A n c l) : Calls Tryz.prog 284 #[.slice A n c] w fun e w' => e = .returned (.int .i64 ((most l : Nat) : Int)) ∧ w = w' := by
  have HH := Lib.hid h
  have hu : ∀ x ∈ l, U64 x := by
    intro x hx
    obtain ⟨k, hk, rfl⟩ := List.getElem_of_mem hx
    obtain ⟨_, _, _, _, _, _, hr, _⟩ := h.at1 hk rfl
    exact hr.2
  have HU := Lib.hid hu
  have hn := h.len
  have HL := Lib.hid hn
  have hmax : n ≤ 9223372036854775807 := by have h2 := h.2.1; have h3 := h.2.2.1; unfold maxLen at h3; omega
  clear h hu hn
  go_enter Tryz.func284, Tryz.ntmps284
  go_wp2_with fail
  go_loopw [3, 8] (fun av kv wr => ∃ (k a : Nat), k ≤ n ∧ kv = .int .i64 (k : Int) ∧ av = .int .u64 (a : Int) ∧ a = (l.take k).foldl (· ||| ·) 0 ∧ wr = w)
    (fun _ kv _ => n - (intOf kv).toNat)
  case atStart => exact ⟨0, 0, Nat.zero_le _, rfl, rfl, rfl, rfl⟩
  case round =>
    obtain ⟨k, a, hk, rfl, rfl, ha, rfl⟩ := hrel
    have HA := Lib.hid ha
    clear ha
    have hat := (most_or (l.take k) fun x hx => HU.out x (List.mem_of_mem_take hx)).1
    rw [← HA.out] at hat
    by_cases hlt : k < n
    · have hkl : k < l.length := by rw [← HL.out]; exact hlt
      obtain ⟨v, hv⟩ : ∃ v, v = l[k] := ⟨_, rfl⟩
      have hvu : v < 18446744073709551616 := by rw [hv]; exact HU.out _ (List.getElem_mem _)
      obtain ⟨b, o, u, rfl, _, hbl, hr, hc⟩ := HH.out.at1 hkl rfl
      rw [← hv] at hr
      obtain ⟨hr, _⟩ := hr
      injection hr with hr
      subst hr
      have hor : bits .or .u64 (a : Int) (v : Int) = ((a ||| v : Nat) : Int) := u64_or_nat a v hat hvu
      have HS := Lib.hid (show (a ||| v) = (l.take (k + 1)).foldl (· ||| ·) 0 by rw [List.take_succ_eq_append_getElem hkl, List.foldl_append, ← HA.out, ← hv]; rfl)
      have hi1 : (0 : Int) ≤ (k : Int) := by omega
      have hi2 : (k : Int) < (n : Int) := by omega
      clear hv hvu hat
      go_wp2_with fail
      go_roundw
      case rel => exact ⟨k + 1, a ||| v, by omega, by go_num, by first | rfl | rw [hor], HS.out, trivial⟩
      case measure => simp [intOf]; omega
    · obtain rfl : n = k := by omega
      have hm := (most_or l HU.out).2
      have hall : l.take n = l := List.take_of_length_le (by rw [← HL.out]; exact Nat.le_refl _)
      rw [hall] at HA
      rw [← HA.out] at hm
      have HM := Lib.hid hm
      clear hm hall
      go_wp2_with (first
        | (go_at_call 315; refine (wbits_any a hat _).mono ?_; rintro e w1 ⟨rfl, rfl⟩)
        | fail)
      go_ret
      exact ⟨by rw [HM.out]; rfl, rfl⟩
end Go.Proofs.YtpmglcachffojaaGreatDoor
