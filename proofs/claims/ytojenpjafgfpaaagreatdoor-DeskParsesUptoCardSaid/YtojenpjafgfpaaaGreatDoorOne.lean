/- The law's own 'one': an event, cut short: the state of its walk. -/
import Derived.Test.YtojenpjafgfpaaaGreatDoorTakeEv
import Derived.Test.YtojenpjafgfpaaaGreatDoorCall
import Derived.Deep.CutRange
namespace Go.Proofs.YtojenpjafgfpaaaGreatDoor
open Go Go.RowKit

def oneP (p : PP) : PP := { p with vals := p.vals.take 8, l := p.l.take 8 }
def oneE (e : EE) : EE := { e with rows := (e.rows.take 12).map (·.take 8), keys := e.keys.take 12, list := { e.list with except := e.list.except.take 30 }, cols := e.cols.take 8, pred := (e.pred.take 12).map oneP }
def fewE (l : List EE) : List EE := (l.take 30).map oneE

/-- x[:k]. -/
theorem Sl.front {α : Type} {T : Ty α} {F : Nat → Prop} {w : World} {A : Option Addr} {n c : Nat} {xs : List α} (h : Sl T F w A n c xs) {k : Nat} (hk : k ≤ n) : Sl T F w A k c (xs.take k) := by
  obtain ⟨h1, h2, h3, css, h4, h5⟩ := h
  refine ⟨by simp; omega, by omega, h3, css.take k, ?_, h5.take k⟩
  rw [← List.take_append_drop k css, List.flatten_append] at h4
  exact h4.front
theorem Sl.short {α : Type} {T : Ty α} {F : Nat → Prop} {w : World} {A : Option Addr} {n c : Nat} {xs : List α} (h : Sl T F w A n c xs) {k : Nat} (hk : n ≤ k) : xs.take k = xs := List.take_of_length_le (by rw [← h.len]; exact hk)

/-- A list of none that is laid. -/
theorem OwnF.empty {α : Type} (T : Ty α) (e : TypeId) (F : Nat → Prop) (w : World) (B : Nat) (hB : B ≤ w.heap.size) (hF : ∀ b, F b → b < B) : OwnF T e F (w.alloc (.cells #[] e)) B (some ⟨w.heap.size, 0, none⟩) 0 0 [] :=
  (OwnF.newL (T := T) (F := fun _ => False) (w := w) (n := 0) (css := []) (xs := []) Reps.nil_ hB rfl (by omega) _ rfl).weaken (fun b hb _ => hb.1.elim) (fun b _ hB' _ hh => by have := hF b hh; omega)
/-- The blocks that what 'one' tells may lie in. -/
def OnF (F : Nat → Prop) (s : Nat) (b : Nat) : Prop := (F b ∧ b < s) ∨ s + 2 ≤ b
theorem onF_not {F : Nat → Prop} {s k : Nat} (h1 : s ≤ k) (h2 : k < s + 2) : ¬ OnF F s k := by
  rintro (⟨_, h⟩ | h) <;> omega
structure OnSt (w : World) (F : Nat → Prop) (x : EE) (Z0 : Option Addr) (y0 v0 : Nat) (Z1 : Option Addr) (y1 v1 : Nat) (Z2 : Option Addr) (y2 v2 : Nat) (Z3 : Option Addr) (y3 v3 : Nat) (Z4 : Option Addr) (y4 v4 : Nat) (wr : World) : Prop where
  heap : wr.heap[w.heap.size]? = some (.cells (ecells x Z0 y0 v0 Z1 y1 v1 Z2 y2 v2 Z3 y3 v3 Z4 y4 v4) 29 (0, 0))
  zero : wr.heap[w.heap.size + 1]? = some (.cells #[.int .i64 0, .int .i64 0, .int .i64 0, .int .i64 0, .slice none 0 0, .slice none 0 0, .int .i64 0, .slice none 0 0, .slice none 0 0, .slice none 0 0] 29 (0, 0))
  below : Below w.heap.size w wr
  size : w.heap.size + 2 ≤ wr.heap.size
  rows : Sl (tSl tVV) (OnF F w.heap.size) wr Z0 y0 v0 x.rows
  keys : Sl tKK (OnF F w.heap.size) wr Z1 y1 v1 x.keys
  exc : Sl tI64 (OnF F w.heap.size) wr Z2 y2 v2 x.list.except
  cols : Sl tI64 (OnF F w.heap.size) wr Z3 y3 v3 x.cols
  pred : Sl tPP (OnF F w.heap.size) wr Z4 y4 v4 x.pred
  nums : x.nums
section
variable {w : World} {F : Nat → Prop} {x x2 : EE} {Z0 Z1 Z2 Z3 Z4 Z0' Z1' Z2' Z3' Z4' : Option Addr} {y0 v0 y1 v1 y2 v2 y3 v3 y4 v4 y0' v0' y1' v1' y2' v2' y3' v3' y4' v4' : Nat} {wr w2 : World}
theorem OnSt.below' (h : OnSt w F x Z0 y0 v0 Z1 y1 v1 Z2 y2 v2 Z3 y3 v3 Z4 y4 v4 wr) (hb : Below wr.heap.size wr w2) : OnSt w F x Z0 y0 v0 Z1 y1 v1 Z2 y2 v2 Z3 y3 v3 Z4 y4 v4 w2 := by
  have h1 := h.size
  exact ⟨below_heap hb h.heap, below_heap hb h.zero, h.below.trans (hb.mono (by omega)), Nat.le_trans h1 hb.size, h.rows.below hb (Nat.le_refl _), h.keys.below hb (Nat.le_refl _), h.exc.below hb (Nat.le_refl _), h.cols.below hb (Nat.le_refl _), h.pred.below hb (Nat.le_refl _), h.nums⟩
/-- A store into the event. -/
theorem OnSt.put (h : OnSt w F x Z0 y0 v0 Z1 y1 v1 Z2 y2 v2 Z3 y3 v3 Z4 y4 v4 wr) {j : Nat} {u : Value} (hc : (ecells x Z0 y0 v0 Z1 y1 v1 Z2 y2 v2 Z3 y3 v3 Z4 y4 v4).setIfInBounds j u = ecells x2 Z0' y0' v0' Z1' y1' v1' Z2' y2' v2' Z3' y3' v3' Z4' y4' v4')
    (r0 : Sl (tSl tVV) (OnF F w.heap.size) wr Z0' y0' v0' x2.rows) (r1 : Sl tKK (OnF F w.heap.size) wr Z1' y1' v1' x2.keys) (r2 : Sl tI64 (OnF F w.heap.size) wr Z2' y2' v2' x2.list.except) (r3 : Sl tI64 (OnF F w.heap.size) wr Z3' y3' v3' x2.cols) (r4 : Sl tPP (OnF F w.heap.size) wr Z4' y4' v4' x2.pred) (hn : x2.nums) :
    OnSt w F x2 Z0' y0' v0' Z1' y1' v1' Z2' y2' v2' Z3' y3' v3' Z4' y4' v4' (wr.setCell ⟨w.heap.size, j, none⟩ u) := by
  have hF : ¬ OnF F w.heap.size w.heap.size := onF_not (Nat.le_refl _) (by omega)
  exact ⟨heap_set h.heap hc, heap_setne h.zero (by omega), bsetc h.below (Nat.le_refl _) _, by simpa using h.size, slsetc r0 hF _, slsetc r1 hF _, slsetc r2 hF _, slsetc r3 hF _, slsetc r4 hF _, hn⟩
theorem OnSt.cell (h : OnSt w F x Z0 y0 v0 Z1 y1 v1 Z2 y2 v2 Z3 y3 v3 Z4 y4 v4 wr) {j : Nat} {u : Value} (hj : (ecells x Z0 y0 v0 Z1 y1 v1 Z2 y2 v2 Z3 y3 v3 Z4 y4 v4)[j]? = some u) : wr.cell? ⟨w.heap.size, j, none⟩ = some u := by rw [Lib.cell_of_heap h.heap]; exact hj
theorem OnSt.free (h : OnSt w F x Z0 y0 v0 Z1 y1 v1 Z2 y2 v2 Z3 y3 v3 Z4 y4 v4 wr) (j : Nat) : wr.frozen? ⟨w.heap.size, j, none⟩ = false := Lib.frozen_of_heap h.heap j
end
/-- What 'one' leaves. -/
def OnPost (F : Nat → Prop) (e : EE) (w : World) (en : Ending) (w' : World) : Prop :=
  ∃ Z0 y0 v0 Z1 y1 v1 Z2 y2 v2 Z3 y3 v3 Z4 y4 v4, en = .returned (.agg #[.int .i64 e.kind, .int .i64 e.id, .int .i64 e.n, .int .i64 e.m, .slice Z0 y0 v0, .slice Z1 y1 v1, .int .i64 e.list.high, .slice Z2 y2 v2, .slice Z3 y3 v3, .slice Z4 y4 v4]) ∧ Below w.heap.size w w' ∧
    tEE.rep (fun b => (F b ∧ b < w.heap.size) ∨ w.heap.size ≤ b) w' (ecellsL e Z0 y0 v0 Z1 y1 v1 Z2 y2 v2 Z3 y3 v3 Z4 y4 v4) (oneE e)
end Go.Proofs.YtojenpjafgfpaaaGreatDoor
/- The law's own 'one': an event, cut short. -/
namespace Go.Proofs.YtojenpjafgfpaaaGreatDoor
open Go Go.RowKit
attribute [local go_sem ↓] Go.wp_at_zero Go.wp_at_succ

set_option maxRecDepth 100000 in
set_option maxHeartbeats 8000000 in
theorem one_any (e : EE) (F : Nat → Prop) (Z0 : Option Addr) (y0 v0 : Nat) (Z1 : Option Addr) (y1 v1 : Nat) (Z2 : Option Addr) (y2 v2 : Nat) (Z3 : Option Addr) (y3 v3 : Nat) (Z4 : Option Addr) (y4 v4 : Nat) (w : World)
    (hn : e.nums) (h0 : Sl (tSl tVV) F w Z0 y0 v0 e.rows) (h1 : Sl tKK F w Z1 y1 v1 e.keys) (h2 : Sl tI64 F w Z2 y2 v2 e.list.except) (h3 : Sl tI64 F w Z3 y3 v3 e.cols) (h4 : Sl tPP F w Z4 y4 v4 e.pred) :
    Calls Tryz.prog 6 #[.agg #[.int .i64 e.kind, .int .i64 e.id, .int .i64 e.n, .int .i64 e.m, .slice Z0 y0 v0, .slice Z1 y1 v1, .int .i64 e.list.high, .slice Z2 y2 v2, .slice Z3 y3 v3, .slice Z4 y4 v4]] w (OnPost F e w) := by
  have hy0 := h0.len
  have hy4 := h4.len
  obtain ⟨wb, hwb⟩ : ∃ wb, wb = (w.alloc (.cells #[.int .i64 e.kind, .int .i64 e.id, .int .i64 e.n, .int .i64 e.m, .slice Z0 y0 v0, .slice Z1 y1 v1, .int .i64 e.list.high, .slice Z2 y2 v2, .slice Z3 y3 v3, .slice Z4 y4 v4] 29)).alloc (.cells #[.int .i64 0, .int .i64 0, .int .i64 0, .int .i64 0, .slice none 0 0, .slice none 0 0, .int .i64 0, .slice none 0 0, .slice none 0 0, .slice none 0 0] 29) := ⟨_, rfl⟩
  have hst : OnSt w F e Z0 y0 v0 Z1 y1 v1 Z2 y2 v2 Z3 y3 v3 Z4 y4 v4 wb := by
    rw [hwb]
    have hz := heap_alloc_new (w.alloc (.cells #[.int .i64 e.kind, .int .i64 e.id, .int .i64 e.n, .int .i64 e.m, .slice Z0 y0 v0, .slice Z1 y1 v1, .int .i64 e.list.high, .slice Z2 y2 v2, .slice Z3 y3 v3, .slice Z4 y4 v4] 29)) (.cells #[.int .i64 0, .int .i64 0, .int .i64 0, .int .i64 0, .slice none 0 0, .slice none 0 0, .int .i64 0, .slice none 0 0, .slice none 0 0, .slice none 0 0] 29 (0, 0))
    rw [World.size_alloc] at hz
    exact ⟨heap_allocd (heap_alloc_new w _) _, hz, ((Below.refl _ w).alloc (Nat.le_refl _) _).alloc (by simp) _, by simp,
      ((h0.weaken (F' := OnF F w.heap.size) fun b hb hl => .inl ⟨hb, hl⟩).alloc _).alloc _, ((h1.weaken (F' := OnF F w.heap.size) fun b hb hl => .inl ⟨hb, hl⟩).alloc _).alloc _, ((h2.weaken (F' := OnF F w.heap.size) fun b hb hl => .inl ⟨hb, hl⟩).alloc _).alloc _,
      ((h3.weaken (F' := OnF F w.heap.size) fun b hb hl => .inl ⟨hb, hl⟩).alloc _).alloc _, ((h4.weaken (F' := OnF F w.heap.size) fun b hb hl => .inl ⟨hb, hl⟩).alloc _).alloc _, hn⟩
  have hrows : Sl (tSl tVV) (fun b => F b ∧ b < w.heap.size) wb Z0 y0 v0 e.rows := by
    rw [hwb]; exact ((h0.weaken (F' := fun b => F b ∧ b < w.heap.size) fun b hb hl => ⟨hb, hl⟩).alloc _).alloc _
  have hpred : Sl tPP (fun b => F b ∧ b < w.heap.size) w Z4 y4 v4 e.pred := h4.weaken (F' := fun b => F b ∧ b < w.heap.size) fun b hb hl => ⟨hb, hl⟩
  have HST := Lib.hid hst; have HRW := Lib.hid hrows; have HPR := Lib.hid hpred; have HY0 := Lib.hid hy0; have HY4 := Lib.hid hy4
  have hbsz := hst.size
  clear hst hrows hpred hy0 hy4 h0 h1 h2 h3 h4
  go_enter Tryz.func6, Tryz.ntmps6
  go_upto_region 1 with fail
  rw [← hwb]
  clear hwb
  go_wp2_with fail
  go_loopw [3, 4] (fun v i wr => ∃ (k : Nat) (A c : _), k ≤ y0 ∧ k ≤ 12 ∧ i = .int .i64 k ∧ v = .slice A k c ∧ OwnF (tSl tVV) 51 (fun b => F b ∧ b < w.heap.size) wr wb.heap.size A k c ((e.rows.take k).map (·.take 8)) ∧ Below wb.heap.size wb wr)
    (fun _ i _ => 12 - (intOf i).toNat)
  case atStart =>
    refine ⟨0, _, _, Nat.zero_le _, by omega, rfl, rfl, ?_, (Below.refl _ _).alloc (Nat.le_refl _) _⟩
    exact OwnF.empty _ _ _ wb _ (Nat.le_refl _) (fun b hb => by omega)
  case round =>
    obtain ⟨k, A, c, hk, hk12, rfl, rfl, hown, hb⟩ := hrel
    have HO := Lib.hid hown; have HB := Lib.hid hb
    have hsz := hb.size
    have HS2 := Lib.hid (HST.out.below' hb)
    have d4 : wr.cell? ⟨w.heap.size, 4, none⟩ = some (.slice Z0 y0 v0) := HS2.out.cell rfl
    have e4 := HS2.out.free 4
    by_cases hlt : k < y0 ∧ k < 12
    · obtain ⟨hlt1, hlt2⟩ := hlt
      have hkl : k < e.rows.length := by rw [← HY0.out]; exact hlt1
      obtain ⟨b, o, u, rfl, hbF, hbl, hrep, hc⟩ := (HRW.out.below hb (Nat.le_refl _)).at1 hkl (by decide)
      obtain ⟨r, hf⟩ : ∃ v, v = e.rows[k] := ⟨_, rfl⟩
      rw [← hf] at hrep
      obtain ⟨A6, n6, c6, hu, hs6⟩ := hrep
      obtain rfl : u = .slice A6 n6 c6 := by simpa using hu
      have HF := Lib.hid hf; have HS6 := Lib.hid hs6
      have h6 : n6 ≤ c6 ∧ c6 ≤ maxLen := ⟨hs6.2.1, hs6.2.2.1⟩
      unfold maxLen at h6
      have e1 : (e.rows.take (k + 1)).map (·.take 8) = (e.rows.take k).map (·.take 8) ++ [r.take 8] := by
        rw [List.take_succ_eq_append_getElem hkl, ← HF.out]; simp
      have HE1 := Lib.hid e1
      clear hu hf hs6 e1 hown hb
      by_cases h8 : 8 < n6
      · have h8' : ¬ (n6 : Int) < 8 := by omega
        go_wp2_with (first
          | (at_builtin; refine apl1 (T := tSl tVV) elemRw wr wb rfl (.tmp 31) (.tmp 33) rfl wb.heap.size A k c _ rfl (fun b => F b ∧ b < w.heap.size) (fun b => F b ∧ b < w.heap.size) HO.out HB.out (Nat.le_refl _) _ rfl [.slice A6 8 c6] (r.take 8) ⟨A6, 8, c6, rfl, HS6.out.front (by omega)⟩ 51 rfl (fun b _ h9 _ h10 => by omega) (by omega) ?_; intro A5 c5 w5 h5)
          | fail)
        go_roundw
        case rel =>
          refine ⟨k + 1, A5, c5, by omega, by omega, by go_num, rfl, ?_, h5.below⟩
          rw [HE1.out]
          exact h5.own.weaken (fun b hb _ => by rcases hb.1 with h | h <;> exact h) (fun b _ h9 _ h10 => by omega)
        case measure => simp [intOf]; omega
      · have h8' : ¬ (8 : Int) < (n6 : Int) := by omega
        go_wp2_with (first
          | (at_builtin; refine apl1 (T := tSl tVV) elemRw wr wb rfl (.tmp 31) (.tmp 33) rfl wb.heap.size A k c _ rfl (fun b => F b ∧ b < w.heap.size) (fun b => F b ∧ b < w.heap.size) HO.out HB.out (Nat.le_refl _) _ rfl [.slice A6 n6 c6] (r.take 8) ⟨A6, n6, c6, rfl, by have := HS6.out.front (k := n6) (Nat.le_refl _); rw [HS6.out.short (Nat.le_refl n6)] at this; rw [HS6.out.short (by omega)]; exact this⟩ 51 rfl (fun b _ h9 _ h10 => by omega) (by omega) ?_; intro A5 c5 w5 h5)
          | fail)
        go_roundw
        case rel =>
          refine ⟨k + 1, A5, c5, by omega, by omega, by go_num, rfl, ?_, h5.below⟩
          rw [HE1.out]
          exact h5.own.weaken (fun b hb _ => by rcases hb.1 with h | h <;> exact h) (fun b _ h9 _ h10 => by omega)
        case measure => simp [intOf]; omega
    · have hrk : (e.rows.take k).map (·.take 8) = (oneE e).rows := by
        show _ = (e.rows.take 12).map (·.take 8)
        rcases Nat.lt_or_ge k y0 with h | h
        · rw [show k = 12 by omega]
        · rw [List.take_of_length_le (by rw [← HY0.out]; exact h), List.take_of_length_le (l := e.rows) (i := 12) (by rw [← HY0.out]; omega)]
      rw [hrk] at hown
      have HSR := Lib.hid (hown.sl.weaken (F' := OnF F w.heap.size) fun b hb _ => by
        rcases hb with hb | hb
        · exact .inl hb
        · exact .inr (by omega))
      clear hrk hown hb HO
      have H3 := Lib.hid (HS2.out.put (j := 4) (u := .slice A k c) (x2 := { e with rows := (oneE e).rows }) (Z0' := A) (y0' := k) (v0' := c) rfl HSR.out HS2.out.keys HS2.out.exc HS2.out.cols HS2.out.pred HS2.out.nums)
      have hex : (¬ k < y0) ∨ (k < y0 ∧ ¬ k < 12) := by omega
      clear hlt
      rcases hex with hx | ⟨hx, hx2⟩
      all_goals
        have dd5 : (wr.setCell ⟨w.heap.size, 4, none⟩ (.slice A k c)).cell? ⟨w.heap.size, 5, none⟩ = some (.slice Z1 y1 v1) := H3.out.cell rfl
        have ee5 : (wr.setCell ⟨w.heap.size, 4, none⟩ (.slice A k c)).frozen? ⟨w.heap.size, 5, none⟩ = false := H3.out.free 5
        have hk5 := H3.out.keys.2.1
        have hk5' := H3.out.keys.2.2.1
        unfold maxLen at hk5'
        go_upto_if 40 with fail
        go_cut [3] from 40 to 44 (fun _ wx => ∃ (Y : Option Addr) (y v : Nat), OnSt w F { e with rows := (oneE e).rows, keys := (oneE e).keys } A k c Y y v Z2 y2 v2 Z3 y3 v3 Z4 y4 v4 wx)
        case first =>
          by_cases h9 : 12 < y1
          · have hq : decide ((12 : Int) < (y1 : Int)) = true := by simp; omega
            have hq' : ¬ (y1 : Int) < 12 := by omega
            go_wp2_with fail
            go_meet
            exact ⟨Z1, 12, v1, H3.out.put (j := 5) (u := .slice Z1 12 v1) (x2 := { e with rows := (oneE e).rows, keys := (oneE e).keys }) rfl H3.out.rows (H3.out.keys.front (by omega)) H3.out.exc H3.out.cols H3.out.pred H3.out.nums⟩
          · have hq : decide ((12 : Int) < (y1 : Int)) = false := by simp; omega
            have hq' : ¬ (12 : Int) < (y1 : Int) := by omega
            go_wp2_with fail
            go_meet
            have ek : (oneE e).keys = e.keys := H3.out.keys.short (by omega)
            exact ⟨Z1, y1, v1, by rw [ek]; exact H3.out⟩
        case rest =>
          obtain ⟨Y0, t0, u0, hst0⟩ := hcut
          have HH0 := Lib.hid hst0
          clear hst0
          have dd7 : wc.cell? ⟨w.heap.size, 7, none⟩ = some (.slice Z2 y2 v2) := HH0.out.cell rfl
          have ee7 : wc.frozen? ⟨w.heap.size, 7, none⟩ = false := HH0.out.free 7
          have hk7 := HH0.out.exc.2.1
          have hk7' := HH0.out.exc.2.2.1
          unfold maxLen at hk7'
          go_upto_if 49 with fail
          go_cut [3] from 49 to 55 (fun _ wx => ∃ (Y : Option Addr) (y v : Nat), OnSt w F { e with rows := (oneE e).rows, keys := (oneE e).keys, list := (oneE e).list } A k c Y0 t0 u0 Y y v Z3 y3 v3 Z4 y4 v4 wx)
          case first =>
            by_cases h9 : 30 < y2
            · have hq : decide ((30 : Int) < (y2 : Int)) = true := by simp; omega
              have hq' : ¬ (y2 : Int) < 30 := by omega
              go_wp2_with fail
              go_meet
              exact ⟨Z2, 30, v2, HH0.out.put (j := 7) (u := .slice Z2 30 v2) (x2 := { e with rows := (oneE e).rows, keys := (oneE e).keys, list := (oneE e).list }) rfl HH0.out.rows HH0.out.keys (HH0.out.exc.front (by omega)) HH0.out.cols HH0.out.pred HH0.out.nums⟩
            · have hq : decide ((30 : Int) < (y2 : Int)) = false := by simp; omega
              have hq' : ¬ (30 : Int) < (y2 : Int) := by omega
              go_wp2_with fail
              go_meet
              have ek : (oneE e).list = e.list := by show ({ e.list with except := e.list.except.take 30 } : LL) = e.list; rw [show e.list.except.take 30 = e.list.except from HH0.out.exc.short (by omega)]
              exact ⟨Z2, y2, v2, by rw [ek]; exact HH0.out⟩
          case rest =>
            obtain ⟨Y1, t1, u1, hst1⟩ := hcut
            have HH1 := Lib.hid hst1
            clear hst1
            have dd8 : wc.cell? ⟨w.heap.size, 8, none⟩ = some (.slice Z3 y3 v3) := HH1.out.cell rfl
            have ee8 : wc.frozen? ⟨w.heap.size, 8, none⟩ = false := HH1.out.free 8
            have hk8 := HH1.out.cols.2.1
            have hk8' := HH1.out.cols.2.2.1
            unfold maxLen at hk8'
            go_upto_if 59 with fail
            go_cut [3] from 59 to 63 (fun _ wx => ∃ (Y : Option Addr) (y v : Nat), OnSt w F { e with rows := (oneE e).rows, keys := (oneE e).keys, list := (oneE e).list, cols := (oneE e).cols } A k c Y0 t0 u0 Y1 t1 u1 Y y v Z4 y4 v4 wx)
            case first =>
              by_cases h9 : 8 < y3
              · have hq : decide ((8 : Int) < (y3 : Int)) = true := by simp; omega
                have hq' : ¬ (y3 : Int) < 8 := by omega
                go_wp2_with fail
                go_meet
                exact ⟨Z3, 8, v3, HH1.out.put (j := 8) (u := .slice Z3 8 v3) (x2 := { e with rows := (oneE e).rows, keys := (oneE e).keys, list := (oneE e).list, cols := (oneE e).cols }) rfl HH1.out.rows HH1.out.keys HH1.out.exc (HH1.out.cols.front (by omega)) HH1.out.pred HH1.out.nums⟩
              · have hq : decide ((8 : Int) < (y3 : Int)) = false := by simp; omega
                have hq' : ¬ (8 : Int) < (y3 : Int) := by omega
                go_wp2_with fail
                go_meet
                have ek : (oneE e).cols = e.cols := HH1.out.cols.short (by omega)
                exact ⟨Z3, y3, v3, by rw [ek]; exact HH1.out⟩
            case rest =>
              obtain ⟨Y2, t2, u2, hst2⟩ := hcut
              have HH2 := Lib.hid hst2
              clear hst2
              go_upto_region 16 with fail
              go_wp2_with fail
              have hb9 := HH2.out.below
              have hsz9 := HH2.out.size
              have HPC := Lib.hid (HPR.out.below hb9 (Nat.le_refl _))
              go_loopw [6, 7] (fun v i wr => ∃ (k2 : Nat) (A2 c2 : _), k2 ≤ y4 ∧ k2 ≤ 12 ∧ i = .int .i64 k2 ∧ v = .slice A2 k2 c2 ∧ OwnF tPP 55 (fun b => F b ∧ b < w.heap.size) wr wc.heap.size A2 k2 c2 ((e.pred.take k2).map oneP) ∧ Below wc.heap.size wc wr)
                (fun _ i _ => 12 - (intOf i).toNat)
              case atStart =>
                refine ⟨0, _, _, Nat.zero_le _, by omega, rfl, rfl, ?_, (Below.refl _ _).alloc (Nat.le_refl _) _⟩
                exact OwnF.empty _ _ _ wc _ (Nat.le_refl _) (fun b hb => by omega)
              case round =>
                obtain ⟨k2, A2, c2, hk2, hk12', rfl, rfl, hown, hb⟩ := hrel
                have HO2 := Lib.hid hown; have HB2 := Lib.hid hb
                have hsz2 := hb.size
                have HS3 := Lib.hid (HH2.out.below' hb)
                have d9 : wr.cell? ⟨w.heap.size, 9, none⟩ = some (.slice Z4 y4 v4) := HS3.out.cell rfl
                have e9 := HS3.out.free 9
                by_cases hlt : k2 < y4 ∧ k2 < 12
                · obtain ⟨hlt1, hlt2⟩ := hlt
                  have hkl : k2 < e.pred.length := by rw [← HY4.out]; exact hlt1
                  obtain ⟨b, o, cs, rfl, hbF, hbl, hrep, hc⟩ := (HPC.out.below hb (Nat.le_refl _)).at_ hkl (by decide)
                  obtain ⟨r, hf⟩ : ∃ v, v = e.pred[k2] := ⟨_, rfl⟩
                  rw [← hf] at hrep
                  obtain ⟨A5, n5, c5, A6, n6, c6, rfl, hop, hcl, hvok, hs5, hs6⟩ := hrep
                  have e1 : (e.pred.take (k2 + 1)).map oneP = (e.pred.take k2).map oneP ++ [oneP r] := by
                    rw [List.take_succ_eq_append_getElem hkl, ← hf]; simp
                  have HE1 := Lib.hid e1
                  have HS5 := Lib.hid hs5; have HS6 := Lib.hid hs6
                  have h5 : n5 ≤ c5 ∧ c5 ≤ maxLen := ⟨hs5.2.1, hs5.2.2.1⟩
                  have h6 : n6 ≤ c6 ∧ c6 ≤ maxLen := ⟨hs6.2.1, hs6.2.2.1⟩
                  unfold maxLen at h5 h6
                  obtain ⟨g0, g1, g2, g3, g4, g5, g6⟩ := cells7 hc
                  clear hc hf e1 hown hb hs5 hs6
                  by_cases h8 : 8 < n5
                  · by_cases h9 : 8 < n6
                    · have q5 : ¬ (n5 : Int) < 8 := by omega
                      have q6 : ¬ (n6 : Int) < 8 := by omega
                      have QV : Hid (Sl tVV (fun b => F b ∧ b < w.heap.size) wr A5 8 c5 (oneP r).vals) := Lib.hid (HS5.out.front (by omega))
                      have QL : Hid (Sl tI64 (fun b => F b ∧ b < w.heap.size) wr A6 8 c6 (oneP r).l) := Lib.hid (HS6.out.front (by omega))
                      go_wp2_with (first
                        | (at_builtin; refine apl1 (T := tPP) elemPP _ wc rfl (.tmp 97) (.tmp 99) rfl wc.heap.size A2 k2 c2 _ rfl (fun b => F b ∧ b < w.heap.size) (fun b => F b ∧ b < w.heap.size) (HO2.out.alloc _) (balloc HB2.out _) (Nat.le_refl _) _ (by rw [World.size_alloc]; rfl) [.int .i64 r.op, .int .i64 r.col, .bool r.v.null, .int .i64 r.v.n, .string r.v.s, .slice A5 8 c5, .slice A6 8 c6] (oneP r) ⟨A5, 8, c5, A6, 8, c6, rfl, hop, hcl, hvok, QV.out.alloc _, QL.out.alloc _⟩ 55 rfl (fun b _ h9 _ h10 => by omega) (by omega) ?_; intro A7 c7 w7 h7)
                        | fail)
                      go_roundw
                      case rel =>
                        refine ⟨k2 + 1, A7, c7, by omega, by omega, by go_num, rfl, ?_, h7.below⟩
                        rw [HE1.out]
                        exact h7.own.weaken (fun b hb _ => by rcases hb.1 with h | h <;> exact h) (fun b _ h9 _ h10 => by omega)
                      case measure => simp [intOf]; omega
                    · have q5 : ¬ (n5 : Int) < 8 := by omega
                      have q6 : ¬ (8 : Int) < (n6 : Int) := by omega
                      have QV : Hid (Sl tVV (fun b => F b ∧ b < w.heap.size) wr A5 8 c5 (oneP r).vals) := Lib.hid (HS5.out.front (by omega))
                      have QL : Hid (Sl tI64 (fun b => F b ∧ b < w.heap.size) wr A6 n6 c6 (oneP r).l) := Lib.hid (by have q := HS6.out.front (k := n6) (Nat.le_refl _); rw [HS6.out.short (Nat.le_refl n6)] at q; show Sl _ _ _ _ _ _ (r.l.take 8); rw [HS6.out.short (by omega)]; exact q)
                      go_wp2_with (first
                        | (at_builtin; refine apl1 (T := tPP) elemPP _ wc rfl (.tmp 97) (.tmp 99) rfl wc.heap.size A2 k2 c2 _ rfl (fun b => F b ∧ b < w.heap.size) (fun b => F b ∧ b < w.heap.size) (HO2.out.alloc _) (balloc HB2.out _) (Nat.le_refl _) _ (by rw [World.size_alloc]; rfl) [.int .i64 r.op, .int .i64 r.col, .bool r.v.null, .int .i64 r.v.n, .string r.v.s, .slice A5 8 c5, .slice A6 n6 c6] (oneP r) ⟨A5, 8, c5, A6, n6, c6, rfl, hop, hcl, hvok, QV.out.alloc _, QL.out.alloc _⟩ 55 rfl (fun b _ h9 _ h10 => by omega) (by omega) ?_; intro A7 c7 w7 h7)
                        | fail)
                      go_roundw
                      case rel =>
                        refine ⟨k2 + 1, A7, c7, by omega, by omega, by go_num, rfl, ?_, h7.below⟩
                        rw [HE1.out]
                        exact h7.own.weaken (fun b hb _ => by rcases hb.1 with h | h <;> exact h) (fun b _ h9 _ h10 => by omega)
                      case measure => simp [intOf]; omega
                  · by_cases h9 : 8 < n6
                    · have q5 : ¬ (8 : Int) < (n5 : Int) := by omega
                      have q6 : ¬ (n6 : Int) < 8 := by omega
                      have QV : Hid (Sl tVV (fun b => F b ∧ b < w.heap.size) wr A5 n5 c5 (oneP r).vals) := Lib.hid (by have q := HS5.out.front (k := n5) (Nat.le_refl _); rw [HS5.out.short (Nat.le_refl n5)] at q; show Sl _ _ _ _ _ _ (r.vals.take 8); rw [HS5.out.short (by omega)]; exact q)
                      have QL : Hid (Sl tI64 (fun b => F b ∧ b < w.heap.size) wr A6 8 c6 (oneP r).l) := Lib.hid (HS6.out.front (by omega))
                      go_wp2_with (first
                        | (at_builtin; refine apl1 (T := tPP) elemPP _ wc rfl (.tmp 97) (.tmp 99) rfl wc.heap.size A2 k2 c2 _ rfl (fun b => F b ∧ b < w.heap.size) (fun b => F b ∧ b < w.heap.size) (HO2.out.alloc _) (balloc HB2.out _) (Nat.le_refl _) _ (by rw [World.size_alloc]; rfl) [.int .i64 r.op, .int .i64 r.col, .bool r.v.null, .int .i64 r.v.n, .string r.v.s, .slice A5 n5 c5, .slice A6 8 c6] (oneP r) ⟨A5, n5, c5, A6, 8, c6, rfl, hop, hcl, hvok, QV.out.alloc _, QL.out.alloc _⟩ 55 rfl (fun b _ h9 _ h10 => by omega) (by omega) ?_; intro A7 c7 w7 h7)
                        | fail)
                      go_roundw
                      case rel =>
                        refine ⟨k2 + 1, A7, c7, by omega, by omega, by go_num, rfl, ?_, h7.below⟩
                        rw [HE1.out]
                        exact h7.own.weaken (fun b hb _ => by rcases hb.1 with h | h <;> exact h) (fun b _ h9 _ h10 => by omega)
                      case measure => simp [intOf]; omega
                    · have q5 : ¬ (8 : Int) < (n5 : Int) := by omega
                      have q6 : ¬ (8 : Int) < (n6 : Int) := by omega
                      have QV : Hid (Sl tVV (fun b => F b ∧ b < w.heap.size) wr A5 n5 c5 (oneP r).vals) := Lib.hid (by have q := HS5.out.front (k := n5) (Nat.le_refl _); rw [HS5.out.short (Nat.le_refl n5)] at q; show Sl _ _ _ _ _ _ (r.vals.take 8); rw [HS5.out.short (by omega)]; exact q)
                      have QL : Hid (Sl tI64 (fun b => F b ∧ b < w.heap.size) wr A6 n6 c6 (oneP r).l) := Lib.hid (by have q := HS6.out.front (k := n6) (Nat.le_refl _); rw [HS6.out.short (Nat.le_refl n6)] at q; show Sl _ _ _ _ _ _ (r.l.take 8); rw [HS6.out.short (by omega)]; exact q)
                      go_wp2_with (first
                        | (at_builtin; refine apl1 (T := tPP) elemPP _ wc rfl (.tmp 97) (.tmp 99) rfl wc.heap.size A2 k2 c2 _ rfl (fun b => F b ∧ b < w.heap.size) (fun b => F b ∧ b < w.heap.size) (HO2.out.alloc _) (balloc HB2.out _) (Nat.le_refl _) _ (by rw [World.size_alloc]; rfl) [.int .i64 r.op, .int .i64 r.col, .bool r.v.null, .int .i64 r.v.n, .string r.v.s, .slice A5 n5 c5, .slice A6 n6 c6] (oneP r) ⟨A5, n5, c5, A6, n6, c6, rfl, hop, hcl, hvok, QV.out.alloc _, QL.out.alloc _⟩ 55 rfl (fun b _ h9 _ h10 => by omega) (by omega) ?_; intro A7 c7 w7 h7)
                        | fail)
                      go_roundw
                      case rel =>
                        refine ⟨k2 + 1, A7, c7, by omega, by omega, by go_num, rfl, ?_, h7.below⟩
                        rw [HE1.out]
                        exact h7.own.weaken (fun b hb _ => by rcases hb.1 with h | h <;> exact h) (fun b _ h9 _ h10 => by omega)
                      case measure => simp [intOf]; omega
                · have hrk : (e.pred.take k2).map oneP = (oneE e).pred := by
                      show _ = (e.pred.take 12).map oneP
                      rcases Nat.lt_or_ge k2 y4 with h | h
                      · rw [show k2 = 12 by omega]
                      · rw [List.take_of_length_le (by rw [← HY4.out]; exact h), List.take_of_length_le (l := e.pred) (i := 12) (by rw [← HY4.out]; omega)]
                  rw [hrk] at hown
                  have HSR2 := Lib.hid (hown.sl.weaken (F' := OnF F w.heap.size) fun b hb _ => by
                      rcases hb with hb | hb
                      · exact .inl hb
                      · exact .inr (by omega))
                  clear hrk hown hb HO2
                  obtain ⟨wz, hwz⟩ : ∃ wz, wz = wr.setCell ⟨w.heap.size, 9, none⟩ (.slice A2 k2 c2) := ⟨_, rfl⟩
                  have h4 : OnSt w F (oneE e) A k c Y0 t0 u0 Y1 t1 u1 Y2 t2 u2 A2 k2 c2 wz := by
                      rw [hwz]
                      exact HS3.out.put (j := 9) (u := .slice A2 k2 c2) (x2 := oneE e) (Z4' := A2) (y4' := k2) (v4' := c2) rfl HS3.out.rows HS3.out.keys HS3.out.exc HS3.out.cols HSR2.out HS3.out.nums
                  have H4 := Lib.hid h4
                  have hreq : tEE.rep (OnF F w.heap.size) wz (ecellsL e A k c Y0 t0 u0 Y1 t1 u1 Y2 t2 u2 A2 k2 c2) (oneE e) :=
                      ⟨A, k, c, Y0, t0, u0, Y1, t1, u1, Y2, t2, u2, A2, k2, c2, rfl, h4.nums.1, h4.nums.2.1, h4.nums.2.2.1, h4.nums.2.2.2.1, h4.nums.2.2.2.2, h4.rows, h4.keys, h4.exc, h4.cols, h4.pred⟩
                  have HREP := Lib.hid hreq
                  clear hreq h4
                  have hex : (¬ k2 < y4) ∨ (k2 < y4 ∧ ¬ k2 < 12) := by omega
                  clear hlt
                  have b0 : wz.cell? ⟨w.heap.size, 0, none⟩ = some (.int .i64 e.kind) := H4.out.cell rfl
                  have z0 : wz.cell? ⟨w.heap.size + 1, 0, none⟩ = some (.int .i64 0) := by rw [Lib.cell_of_heap H4.out.zero]; rfl
                  have zf0 := Lib.frozen_of_heap H4.out.zero 0
                  have b1 : wz.cell? ⟨w.heap.size, 1, none⟩ = some (.int .i64 e.id) := H4.out.cell rfl
                  have z1 : wz.cell? ⟨w.heap.size + 1, 1, none⟩ = some (.int .i64 0) := by rw [Lib.cell_of_heap H4.out.zero]; rfl
                  have zf1 := Lib.frozen_of_heap H4.out.zero 1
                  have b2 : wz.cell? ⟨w.heap.size, 2, none⟩ = some (.int .i64 e.n) := H4.out.cell rfl
                  have z2 : wz.cell? ⟨w.heap.size + 1, 2, none⟩ = some (.int .i64 0) := by rw [Lib.cell_of_heap H4.out.zero]; rfl
                  have zf2 := Lib.frozen_of_heap H4.out.zero 2
                  have b3 : wz.cell? ⟨w.heap.size, 3, none⟩ = some (.int .i64 e.m) := H4.out.cell rfl
                  have z3 : wz.cell? ⟨w.heap.size + 1, 3, none⟩ = some (.int .i64 0) := by rw [Lib.cell_of_heap H4.out.zero]; rfl
                  have zf3 := Lib.frozen_of_heap H4.out.zero 3
                  have b4 : wz.cell? ⟨w.heap.size, 4, none⟩ = some (.slice A k c) := H4.out.cell rfl
                  have z4 : wz.cell? ⟨w.heap.size + 1, 4, none⟩ = some (.slice none 0 0) := by rw [Lib.cell_of_heap H4.out.zero]; rfl
                  have zf4 := Lib.frozen_of_heap H4.out.zero 4
                  have b5 : wz.cell? ⟨w.heap.size, 5, none⟩ = some (.slice Y0 t0 u0) := H4.out.cell rfl
                  have z5 : wz.cell? ⟨w.heap.size + 1, 5, none⟩ = some (.slice none 0 0) := by rw [Lib.cell_of_heap H4.out.zero]; rfl
                  have zf5 := Lib.frozen_of_heap H4.out.zero 5
                  have b6 : wz.cell? ⟨w.heap.size, 6, none⟩ = some (.int .i64 e.list.high) := H4.out.cell rfl
                  have z6 : wz.cell? ⟨w.heap.size + 1, 6, none⟩ = some (.int .i64 0) := by rw [Lib.cell_of_heap H4.out.zero]; rfl
                  have zf6 := Lib.frozen_of_heap H4.out.zero 6
                  have b7 : wz.cell? ⟨w.heap.size, 7, none⟩ = some (.slice Y1 t1 u1) := H4.out.cell rfl
                  have z7 : wz.cell? ⟨w.heap.size + 1, 7, none⟩ = some (.slice none 0 0) := by rw [Lib.cell_of_heap H4.out.zero]; rfl
                  have zf7 := Lib.frozen_of_heap H4.out.zero 7
                  have b8 : wz.cell? ⟨w.heap.size, 8, none⟩ = some (.slice Y2 t2 u2) := H4.out.cell rfl
                  have z8 : wz.cell? ⟨w.heap.size + 1, 8, none⟩ = some (.slice none 0 0) := by rw [Lib.cell_of_heap H4.out.zero]; rfl
                  have zf8 := Lib.frozen_of_heap H4.out.zero 8
                  have b9 : wz.cell? ⟨w.heap.size, 9, none⟩ = some (.slice A2 k2 c2) := H4.out.cell rfl
                  have z9 : wz.cell? ⟨w.heap.size + 1, 9, none⟩ = some (.slice none 0 0) := by rw [Lib.cell_of_heap H4.out.zero]; rfl
                  have zf9 := Lib.frozen_of_heap H4.out.zero 9
                  rcases hex with hx3 | ⟨hx3, hx4⟩
                  all_goals
                      go_upto_region 27 with fail
                      rw [← hwz]
                      clear hwz
                      go_wp2_with fail
                      refine bodyPost_ret (results_cell_row rfl _ _ (w.heap.size + 1) 29 #[.int .i64 e.kind, .int .i64 e.id, .int .i64 e.n, .int .i64 e.m, .slice A k c, .slice Y0 t0 u0, .int .i64 e.list.high, .slice Y1 t1 u1, .slice Y2 t2 u2, .slice A2 k2 c2] (0, 0) _ rfl (heap_set10 H4.out.zero) Tryz.underlying29 rfl (by kernel_rfl)) rfl ?_
                      exact ⟨A, k, c, Y0, t0, u0, Y1, t1, u1, Y2, t2, u2, A2, k2, c2, rfl, below_set10 H4.out.below (by omega), tEE.weaken (ty_set10 tEE HREP.out (onF_not (by omega) (by omega))) fun b hb _ => hb.elim .inl (fun h => .inr (by omega))⟩
end Go.Proofs.YtojenpjafgfpaaaGreatDoor
