/- Printed by gen_cdel.py. Printed by gen_cdel.py. Printed by gen_cdel.py. nulls.Split. ints.Put. -/
import Derived.Test.YtpmglcachffojaaGreatDoorPk17
import Derived.Lib.SliceRun
import Derived.Laws.IdiomCopy
/- A row of values that a call owns: its elements stored into, cut, cleared, sorted. -/
namespace Go.Proofs.YtpmglcachffojaaGreatDoor
open Go Go.RowKit

theorem elemVV : ElemOf Tryz.prog 22 74 tVV.size := ElemOf.mk' (bytes := 32) (z := .agg #[.bool false, .int .i64 0, .string ⟨#[]⟩]) (by kernel_rfl) (by kernel_rfl) rfl (by decide) (by decide)
def encV (d : VV) : List Value := [.bool d.null, .int .i64 d.n, .string d.s]
def cellsV (l : List VV) : List Value := (l.map encV).flatten
theorem cellsV_len : ∀ l : List VV, (cellsV l).length = l.length * 3
  | [] => rfl
  | d :: r => by
    have := cellsV_len r
    simp only [cellsV, List.map_cons, List.flatten_cons, List.length_append, encV, List.length_cons, List.length_nil] at this ⊢
    omega
theorem cellsV_cons (d : VV) (r : List VV) : cellsV (d :: r) = encV d ++ cellsV r := rfl
theorem cellsV_app (l m : List VV) : cellsV (l ++ m) = cellsV l ++ cellsV m := by simp [cellsV]
theorem cellsV_get : ∀ (l : List VV) (k j : Nat) (h : k < l.length) (u : Value), (encV l[k])[j]? = some u → (cellsV l)[k * 3 + j]? = some u
  | d :: r, 0, j, _, u, hu => by
    have hj : j < 3 := by
      rcases Nat.lt_or_ge j 3 with h | h
      · exact h
      · rw [List.getElem?_eq_none (by simpa [encV] using h)] at hu; cases hu
    rw [cellsV_cons, Nat.zero_mul, Nat.zero_add, List.getElem?_append_left (by simpa [encV] using hj)]
    exact hu
  | d :: r, k + 1, j, h, u, hu => by
    have ih := cellsV_get r k j (by simpa using h) u (by simpa using hu)
    rw [cellsV_cons, List.getElem?_append_right (by simp [encV]; omega), show (k + 1) * 3 + j - (encV d).length = k * 3 + j by simp [encV]; omega]
    exact ih
theorem cellsV_take (l : List VV) (k : Nat) : (cellsV l).take (k * 3) = cellsV (l.take k) := by
  induction l generalizing k with
  | nil => simp [cellsV]
  | cons d r ih =>
    cases k with
    | zero => simp [cellsV]
    | succ k =>
      rw [cellsV_cons, List.take_succ_cons, cellsV_cons, ← ih k, List.take_append, List.take_of_length_le (by simp [encV]; omega)]
      congr 2
      simp [encV]; omega
theorem cellsV_set : ∀ (l : List VV) (i : Nat) (d : VV), i < l.length → (((cellsV l).set (i * 3) (.bool d.null)).set (i * 3 + 1) (.int .i64 d.n)).set (i * 3 + 2) (.string d.s) = cellsV (l.set i d)
  | e :: r, 0, d, _ => rfl
  | e :: r, i + 1, d, h => by
    have ih := cellsV_set r i d (by simpa using h)
    rw [List.set_cons_succ, cellsV_cons, cellsV_cons, ← ih]
    simp only [encV, List.cons_append, List.nil_append, show (i + 1) * 3 = i * 3 + 1 + 1 + 1 by omega]
    rfl
theorem repsV (F : Nat → Prop) (w : World) (l : List VV) (h : ∀ d ∈ l, d.ok) : Reps tVV F w (l.map encV) l := by
  refine ⟨by simp, fun i cs x h1 h2 => ?_⟩
  rw [List.getElem?_map, h2] at h1
  simp at h1
  subst h1
  exact ⟨rfl, h x (List.mem_of_getElem? h2)⟩
theorem repsV_eq {F : Nat → Prop} {w : World} {css : List (List Value)} {l : List VV} (h : Reps tVV F w css l) : css = l.map encV ∧ ∀ d ∈ l, d.ok := by
  have hk : ∀ i (hi : i < l.length), css[i]? = some (encV l[i]) ∧ (l[i]).ok := fun i hi => by
    have hc : i < css.length := by rw [h.1]; exact hi
    have := h.2 i _ _ (List.getElem?_eq_getElem hc) (List.getElem?_eq_getElem hi)
    exact ⟨by rw [List.getElem?_eq_getElem hc, this.1]; rfl, this.2⟩
  refine ⟨List.ext_getElem? fun i => ?_, fun d hd => ?_⟩
  · rcases Nat.lt_or_ge i l.length with hi | hi
    · rw [(hk i hi).1, List.getElem?_map, List.getElem?_eq_getElem hi]; rfl
    · rw [List.getElem?_eq_none (by rw [h.1]; exact hi), List.getElem?_eq_none (by simpa using hi)]
  · obtain ⟨i, hi, rfl⟩ := List.getElem_of_mem hd
    exact (hk i hi).2

/-- The values l, in a row that the call owns, from block B on. -/
structure OwnV (w : World) (B : Nat) (A : Option Addr) (n c : Nat) (l : List VV) : Prop where
  row : w.ownsRow B 74 3 (.slice A n c) n (cellsV l)
  ok : ∀ d ∈ l, d.ok
section
variable {w w' : World} {B n c : Nat} {A : Option Addr} {l : List VV}
theorem OwnV.len (h : OwnV w B A n c l) : n = l.length := by
  have := h.row.1
  rw [cellsV_len] at this; omega
theorem OwnV.ownF (h : OwnV w B A n c l) : OwnF tVV 74 (fun _ => False) w B A n c l := ⟨⟨l.map encV, h.row, repsV _ w l h.ok⟩, by simp, h.len⟩
theorem ownV_of {F : Nat → Prop} (h : OwnF tVV 74 F w B A n c l) : OwnV w B A n c l := by
  obtain ⟨⟨css, h1, h2⟩, _, _⟩ := h
  obtain ⟨rfl, h3⟩ := repsV_eq h2
  exact ⟨h1, h3⟩
theorem OwnV.sl (h : OwnV w B A n c l) : Sl tVV (fun b => B ≤ b) w A n c l := h.ownF.sl.weaken fun b hb _ => by rcases hb with hb | hb; exact hb.elim; exact hb.2
theorem OwnV.cap (h : OwnV w B A n c l) : n ≤ c ∧ c ≤ maxLen := own_cap h.row
theorem OwnV.keepB (h : OwnV w B A n c l) (hb : Below w.heap.size w w') : OwnV w' B A n c l := ⟨own_keep h.row fun b hb' => hb.block b (h.row.lt b hb').2, h.ok⟩
theorem OwnV.front (h : OwnV w B A n c l) {k : Nat} (hk : k ≤ n) (hA : A ≠ none) : OwnV w B A k c (l.take k) := by
  refine ⟨⟨by rw [cellsV_len, List.length_take, ← h.len]; omega, ?_⟩, fun d hd => h.ok d (List.mem_of_mem_take hd)⟩
  rcases h.row.2 with ⟨h1, h2⟩ | ⟨g, cap, cur, h1, hb, hg, hn, hc, hs, ht⟩
  · injection h1 with h1; exact absurd h1 hA
  · injection h1 with e1 e2 e3; subst e1 e3
    refine .inr ⟨g, c, cur, rfl, hb, hg, by omega, hc, hs, ?_⟩
    rw [← cellsV_take, ← ht, List.take_take, Nat.min_eq_left (Nat.mul_le_mul_right 3 hk)]
variable {g : Nat}
theorem OwnV.cell (h : OwnV w B (some ⟨g, 0, none⟩) n c l) {i : Nat} (hi : i < l.length) : w.cell? ⟨g, i * 3, none⟩ = some (.bool l[i].null) ∧ w.cell? ⟨g, i * 3 + 1, none⟩ = some (.int .i64 l[i].n) ∧ w.cell? ⟨g, i * 3 + 2, none⟩ = some (.string l[i].s) := by
  have hn := h.len
  refine ⟨?_, ?_, ?_⟩
  · rw [h.row.cellAt (i * 3) (by omega)]
    exact cellsV_get l i 0 hi _ rfl
  · rw [h.row.cellAt (i * 3 + 1) (by omega)]
    exact cellsV_get l i 1 hi _ rfl
  · rw [h.row.cellAt (i * 3 + 2) (by omega)]
    exact cellsV_get l i 2 hi _ rfl
theorem OwnV.free (h : OwnV w B (some ⟨g, 0, none⟩) n c l) (j : Nat) : w.frozen? ⟨g, j, none⟩ = false := h.row.frozenAt j
theorem OwnV.base (h : OwnV w B (some ⟨g, 0, none⟩) n c l) : B ≤ g ∧ g < w.heap.size := h.row.lt g rfl
/-- s[i] = d. -/
theorem OwnV.set (h : OwnV w B (some ⟨g, 0, none⟩) n c l) {i : Nat} (hi : i < l.length) (d : VV) (hd : d.ok) :
    OwnV (((w.setCell ⟨g, i * 3, none⟩ (.bool d.null)).setCell ⟨g, i * 3 + 1, none⟩ (.int .i64 d.n)).setCell ⟨g, i * 3 + 2, none⟩ (.string d.s)) B (some ⟨g, 0, none⟩) n c (l.set i d) := by
  have h1 := (h.row.stored (i * 3) (.bool d.null)).1
  have h2 := (h1.stored (i * 3 + 1) (.int .i64 d.n)).1
  have h3 := (h2.stored (i * 3 + 2) (.string d.s)).1
  rw [cellsV_set l i d hi] at h3
  refine ⟨h3, fun e he => ?_⟩
  rcases List.mem_or_eq_of_mem_set he with he | rfl
  · exact h.ok e he
  · exact hd
/-- Cells behind the part that counts are stored into. -/
theorem OwnV.past (h : OwnV w B (some ⟨g, 0, none⟩) n c l) : ∀ (vs : List Value) (o : Nat), n * 3 ≤ o → OwnV (w.setCells g o vs) B (some ⟨g, 0, none⟩) n c l := by
  intro vs
  induction vs generalizing w with
  | nil => intro o _; exact h
  | cons v r ih =>
    intro o ho
    have h1 := (h.row.stored o v).1
    rw [List.set_eq_of_length_le (by rw [cellsV_len, ← h.len]; exact ho)] at h1
    exact ih (w := w.setCell ⟨g, o, none⟩ v) ⟨h1, h.ok⟩ (o + 1) (by omega)
end
theorem below_setCells {B g : Nat} {a : World} (hg : B ≤ g) : ∀ (vs : List Value) (o : Nat) (w : World), Below B a w → Below B a (w.setCells g o vs)
  | [], _, _, h => h
  | v :: r, o, _, h => below_setCells hg r (o + 1) _ (bsetc h hg v)

/-- clear(s[i:]) of values. -/
theorem run_clearV (w : World) (g o m c : Nat) (hm : 0 < m) (hc : ∀ j, j < m * 3 → (w.cell? ⟨g, o + j, none⟩).isSome = true) (hf : ∀ j, j < m * 3 → w.frozen? ⟨g, o + j, none⟩ = false) :
    ∃ vs, ∀ ty, (Builtin.clear_ #[22] ty #[.slice (some ⟨g, o, none⟩) m c]).run Tryz.prog w = .ok (.tuple #[]) (w.setCells g o vs) := by
  obtain ⟨vs, hvs⟩ : ∃ vs, vs = (Builtin.zeroCells (Value.agg #[.bool false, .int .i64 0, .string ⟨#[]⟩]).cells m).toList := ⟨_, rfl⟩
  have hlen : vs.length = m * 3 := by rw [hvs]; simp [Builtin.zeroCells, Value.cells]
  have hone : ∀ v ∈ vs, v.oneCell' = true := by
    intro v hv
    rw [hvs] at hv
    obtain ⟨i, hi, rfl⟩ := List.getElem_of_mem hv
    simp [Builtin.zeroCells, Value.cells] at hi ⊢
    have : i % 3 < 3 := Nat.mod_lt _ (by decide)
    match i % 3, this with
    | 0, _ => simp; rfl
    | 1, _ => simp; rfl
    | 2, _ => simp; rfl
  refine ⟨vs, fun ty => ?_⟩
  have hst := run_storeCells_cells (P := Tryz.prog) g o vs 0 w (by simpa [hlen] using hc) (by simpa [hlen] using hf) hone
  simp only [Nat.add_zero] at hst
  have hz : ∀ w, (zeroValue 74).run Tryz.prog w = .ok (.agg #[.bool false, .int .i64 0, .string ⟨#[]⟩]) w := Tryz.zeroValue74
  obtain ⟨k, rfl⟩ : ∃ k, m = k + 1 := ⟨m - 1, by omega⟩
  simp [Builtin.clear_, run_underlying (show Tryz.prog.underlying 22 = some (.slice 74) by kernel_rfl), hz, ← hvs, hst]
end Go.Proofs.YtpmglcachffojaaGreatDoor
/- slices.Clone, IndexFunc and DeleteFunc of values. -/
namespace Go.Proofs.YtpmglcachffojaaGreatDoor
open Go Go.RowKit

/-- []api.Value{}: a row of its own, empty. -/
theorem OwnV.new0 (w : World) (B : Nat) (hB : B ≤ w.heap.size) : OwnV (w.alloc (.cells #[] 74)) B (some ⟨w.heap.size, 0, none⟩) 0 0 [] := by
  have := World.ownsRow_lit (base := B) (e := 74) (size := 3) w #[] 0 hB (by simp [maxLen]) (by simp)
  exact ⟨by simpa [cellsV] using this, by simp⟩
def ClonePost (l : List VV) (n : Nat) (w : World) (e : Ending) (w' : World) : Prop := ∃ A' c', e = .returned (.slice A' n c') ∧ OwnV w' w.heap.size A' n c' l ∧ Below w.heap.size w w'
set_option maxRecDepth 100000 in
set_option maxHeartbeats 1000000 in
theorem clone_any (F : Nat → Prop) (A : Option Addr) (n c : Nat) (l : List VV) (w : World) (h : Sl tVV F w A n c l) (hn : n ≤ 34359738368) : Calls Tryz.prog 158 #[.slice A n c] w (ClonePost l n w) := by
  cases A with
  | none =>
    have hl : l = [] := by
      cases l with
      | nil => rfl
      | cons x r => obtain ⟨b, o, _, e, _⟩ := h.at_ (k := 0) (by simp) (by decide); cases e
    have hn0 := h.len
    subst hl
    obtain rfl : n = 0 := hn0
    have hq : (binOp .eql 22 (.slice none 0 c) (.slice none 0 0)).run Tryz.prog w = .ok (.bool true) w := Lib.run_eql_slice_nil w _ _ none 0 c 0 0 (show Tryz.prog.underlying 22 = some (.slice 74) by kernel_rfl)
    clear h hn
    go_enter Tryz.func158, Tryz.ntmps158
    go_wp2_with fail
    go_ret
    exact ⟨none, 0, rfl, ⟨World.ownsRow_nil _ _ _ _, by simp⟩, Below.refl _ _⟩
  | some a =>
    have hq : (binOp .eql 22 (.slice (some a) n c) (.slice none 0 0)).run Tryz.prog w = .ok (.bool false) w := Lib.run_eql_slice_nil w _ _ (some a) n c 0 0 (show Tryz.prog.underlying 22 = some (.slice 74) by kernel_rfl)
    have HS := Lib.hid ((h.weaken (F' := fun b => F b ∧ b < w.heap.size) fun b hb hl => ⟨hb, hl⟩).alloc (.cells #[] 74))
    have HE := Lib.hid (OwnV.new0 w w.heap.size (Nat.le_refl _)).ownF
    clear h
    go_enter Tryz.func158, Tryz.ntmps158
    go_wp2_with (first
      | (at_builtin; refine apl (T := tVV) elemVV (w.alloc (.cells #[] 74)) w rfl (.tmp 5) (.tmp 6) rfl w.heap.size (some ⟨w.heap.size, 0, none⟩) 0 0 [] rfl (fun _ => False) (fun b => F b ∧ b < w.heap.size) HE.out ((Below.refl _ _).alloc (Nat.le_refl _) _) (Nat.le_refl _) (some a) n c l rfl HS.out (fun b _ h1 _ h3 => by omega) (by omega) ?_; intro A5 c5 w5 h5)
      | fail)
    go_ret
    have ho := ownV_of h5.own
    rw [Nat.zero_add, List.nil_append] at ho
    exact ⟨A5, c5, rfl, ho, h5.below⟩

def keepV (v : VV) : Bool := !v.null
theorem dropv (d : VV) (r : Bool) (hr : r = !keepV d) (w : World) : Calls Tryz.prog 159 #[.agg #[.bool d.null, .int .i64 d.n, .string d.s]] w fun e w' => e = .returned (.bool r) ∧ Below w.heap.size w w' := by
  have : r = d.null := by rw [hr]; unfold keepV; simp
  rw [this]
  exact isnull_any _ _ _ _
def FirstDrop (p : VV → Bool) (l : List VV) (r : Int) : Prop := (r = -1 ∧ ∀ x ∈ l, p x = true) ∨ ∃ i : Nat, r = i ∧ ∃ h : i < l.length, (∀ x ∈ l.take i, p x = true) ∧ p l[i] = false
def IdxPost (p : VV → Bool) (l : List VV) (w : World) (e : Ending) (w' : World) : Prop := ∃ r, e = .returned (.int .i64 r) ∧ FirstDrop p l r ∧ Below w.heap.size w w'

set_option maxRecDepth 100000 in
set_option maxHeartbeats 1000000 in
theorem idx_any (F : Nat → Prop) (A : Option Addr) (n c : Nat) (l : List VV) (w : World) (h : Sl tVV F w A n c l) :
    Calls Tryz.prog 86 #[.slice A n c, .func (.func 159) #[] #[]] w (IdxPost (keepV) l w) := by
  have HL := Lib.hid h.len
  have hmax : n ≤ 9223372036854775807 := by have h2 := h.2.1; have h3 := h.2.2.1; unfold maxLen at h3; omega
  go_enter Tryz.func86, Tryz.ntmps86
  go_wp2_with fail
  go_loopw [8] (fun i wr => ∃ j : Nat, j ≤ n ∧ i = .int .i64 j ∧ Below w.heap.size w wr ∧ Hid (∀ x ∈ l.take j, keepV x = true)) (fun i _ => n - (intOf i).toNat)
  case atStart => exact ⟨0, Nat.zero_le _, rfl, Below.refl _ _, Lib.hid (by simp)⟩
  case round =>
    obtain ⟨j, hj, rfl, hb, HA⟩ := hrel
    have g := h.below hb (Nat.le_refl _)
    have HB := Lib.hid hb
    have hsz := hb.size
    clear hb
    by_cases hlt : j < n
    · have hjl : j < l.length := by rw [← HL.out]; exact hlt
      obtain ⟨d, hd⟩ : ∃ d, d = l[j] := ⟨_, rfl⟩
      obtain ⟨b, o, u, rfl, _, hbl, hu, hc⟩ := g.at_ hjl (by decide)
      rw [← hd] at hu
      obtain ⟨rfl, _⟩ := hu
      obtain ⟨c0, c1, c2⟩ := cells3 hc
      obtain ⟨r, hr⟩ : ∃ r, r = !keepV d := ⟨_, rfl⟩
      have HD := Lib.hid hd; have HR := Lib.hid hr
      clear g hc hd hr
      have hi1 : (0 : Int) ≤ (j : Int) := by omega
      have hi2 : (j : Int) < (n : Int) := by omega
      cases r with
      | true =>
        have HF : Hid (FirstDrop (keepV) l (j : Int)) := Lib.hid (.inr ⟨j, rfl, hjl, HA.out, by rw [← HD.out]; have := HR.out; simpa using this⟩)
        go_wp2_with (first
          | (go_at_call 159; refine (dropv d true HR.out _).mono ?_; rintro e w1 ⟨rfl, hb1⟩; have HB1 := Lib.hid (HB.out.trans (hb1.mono hsz)); clear hb1)
          | fail)
        go_ret
        exact ⟨_, rfl, HF.out, HB1.out⟩
      | false =>
        have HN : Hid (∀ x ∈ l.take (j + 1), keepV x = true) := Lib.hid (by
          intro x hx
          rw [List.take_succ_eq_append_getElem hjl, List.mem_append, List.mem_singleton] at hx
          rcases hx with hx | rfl
          · exact HA.out x hx
          · rw [← HD.out]; have := HR.out; simpa using this)
        go_wp2_with (first
          | (go_at_call 159; refine (dropv d false HR.out _).mono ?_; rintro e w1 ⟨rfl, hb1⟩; have HB1 := Lib.hid (HB.out.trans (hb1.mono hsz)); clear hb1)
          | fail)
        go_roundw
        case rel => exact ⟨j + 1, by omega, by go_num, HB1.out, HN⟩
        case measure => simp [intOf]; omega
    · obtain rfl : j = n := by omega
      have HF : Hid (FirstDrop (keepV) l (-1)) := Lib.hid (.inl ⟨rfl, by
        have := HA.out
        rwa [List.take_of_length_le (by rw [← HL.out]; exact Nat.le_refl _)] at this⟩)
      go_wp2_with fail
      go_ret
      exact ⟨_, rfl, HF.out, HB.out⟩
end Go.Proofs.YtpmglcachffojaaGreatDoor
/- slices.DeleteFunc of values, by the closure of names.Chosen. -/
namespace Go.Proofs.YtpmglcachffojaaGreatDoor
open Go Go.RowKit

/-- While it goes: the first i of the row are those that are kept of the first j; from j on all is as it was. -/
structure Part (p : VV → Bool) (l R : List VV) (i j : Nat) : Prop where
  len : R.length = l.length
  kept : R.take i = (l.take j).filter p
  rest : R.drop j = l.drop j
  lt : i < j
  le : j ≤ l.length
theorem Part.get {p : VV → Bool} {l R : List VV} {i j : Nat} (h : Part p l R i j) (hj : j < l.length) : R[j]'(by rw [h.len]; exact hj) = l[j] := by
  have e := h.rest
  have e1 : (R.drop j)[0]? = (l.drop j)[0]? := by rw [e]
  rw [List.getElem?_drop, List.getElem?_drop, Nat.add_zero, List.getElem?_eq_getElem (by rw [h.len]; exact hj), List.getElem?_eq_getElem hj] at e1
  exact Option.some.inj e1
theorem Part.skip {p : VV → Bool} {l R : List VV} {i j : Nat} (h : Part p l R i j) (hj : j < l.length) (hp : p l[j] = false) : Part p l R i (j + 1) := by
  refine ⟨h.len, ?_, ?_, by have := h.lt; omega, hj⟩
  · rw [List.take_succ_eq_append_getElem hj, List.filter_append]
    simp [hp, h.kept]
  · rw [← List.drop_drop, ← List.drop_drop, h.rest]
theorem Part.keep {p : VV → Bool} {l R : List VV} {i j : Nat} (h : Part p l R i j) (hj : j < l.length) (hp : p l[j] = true) : Part p l (R.set i l[j]) (i + 1) (j + 1) := by
  have hlt := h.lt
  have hl := h.len
  refine ⟨by rw [List.length_set]; exact hl, ?_, ?_, by omega, hj⟩
  · rw [List.take_succ_eq_append_getElem hj, List.filter_append, ← h.kept]
    rw [List.take_succ_eq_append_getElem (by rw [List.length_set]; omega), List.take_set_of_le (Nat.le_refl _), List.getElem_set_self]
    simp [hp]
  · rw [List.drop_set_of_lt (by omega), ← List.drop_drop, ← List.drop_drop, h.rest]
theorem part_start {p : VV → Bool} {l : List VV} {i : Nat} (hi : i < l.length) (h1 : ∀ x ∈ l.take i, p x = true) (h2 : p l[i] = false) : Part p l l i (i + 1) := by
  refine ⟨rfl, ?_, rfl, by omega, hi⟩
  rw [List.take_succ_eq_append_getElem hi, List.filter_append, List.filter_eq_self.2 h1]
  simp [h2]
theorem part_end {p : VV → Bool} {l R : List VV} {i j : Nat} (h : Part p l R i j) (hj : j = l.length) : R.take i = l.filter p := by
  rw [h.kept, hj, List.take_length]

def DelPost (p : VV → Bool) (l : List VV) (B : Nat) (A : Option Addr) (c : Nat) (w : World) (e : Ending) (w' : World) : Prop := ∃ m, e = .returned (.slice A m c) ∧ OwnV w' B A m c (l.filter p) ∧ Below B w w'

set_option maxRecDepth 100000 in
set_option maxHeartbeats 4000000 in
theorem del_any (B : Nat) (A : Option Addr) (n c : Nat) (l : List VV) (w : World) (h : OwnV w B A n c l) (hB : B ≤ w.heap.size) :
    Calls Tryz.prog 157 #[.slice A n c, .func (.func 159) #[] #[]] w (DelPost (keepV) l B A c w) := by
  have H := Lib.hid h
  have HL := Lib.hid h.len
  have hcap := h.cap
  have hmax : n ≤ 9223372036854775807 := by have h3 := hcap.2; unfold maxLen at h3; omega
  have hncap := hcap.1
  clear h hcap
  by_cases hall : ∀ x ∈ l, keepV x = true
  · have HF : Hid (l.filter (keepV) = l) := Lib.hid (List.filter_eq_self.2 hall)
    have HALL := Lib.hid hall
    clear hall
    go_enter Tryz.func157, Tryz.ntmps157
    go_wp2_with (first
      | (go_at_call 86; refine (idx_any _ A n c l _ H.out.sl).mono ?_; rintro e w1 ⟨r, rfl, hr, hb1⟩; obtain rfl : r = -1 := (by rcases hr with ⟨h1, _⟩ | ⟨i, h1, h2, h3, h4⟩; exact h1; have := HALL.out _ (List.getElem_mem h2); rw [h4] at this; cases this); have HB1 := Lib.hid hb1; clear hr hb1)
      | fail)
    go_ret
    exact ⟨n, rfl, by rw [HF.out]; exact H.out.keepB HB1.out, HB1.out.mono hB⟩
  · have hpos : 0 < n := by
      rw [HL.out]
      cases l with
      | nil => exact absurd (fun x hx => by simp at hx) hall
      | cons _ _ => simp
    obtain ⟨g, rfl⟩ : ∃ g, A = some ⟨g, 0, none⟩ := by
      rcases H.out.row.2 with ⟨_, h2⟩ | ⟨g, cap, cur, h1, _⟩
      · omega
      · injection h1 with h1; exact ⟨g, h1⟩
    have HALL := Lib.hid hall
    clear hall
    have hgB := H.out.base.1
    go_enter Tryz.func157, Tryz.ntmps157
    go_wp2_with (first
      | (go_at_call 86; refine (idx_any _ _ n c l _ H.out.sl).mono ?_; rintro e w1 ⟨r, rfl, hr, hb1⟩; obtain ⟨i0, rfl, hi0, hk0, hd0⟩ : ∃ i : Nat, r = i ∧ ∃ h : i < l.length, (∀ x ∈ l.take i, keepV x = true) ∧ keepV l[i] = false := (by rcases hr with ⟨_, h1⟩ | h1; exact absurd h1 HALL.out; exact h1); have HP0 := Lib.hid (part_start hi0 hk0 hd0); have HB1 := Lib.hid hb1; have hi0n : i0 < n := (by rw [HL.out]; exact hi0); have hq0 : ((i0 : Int) == -1) = false := beq_no (by omega); clear hr hb1 hk0 hd0 hi0)
      | fail)
    go_loopw [5, 6] (fun iv jv wr => ∃ (i j : Nat) (R : List VV), iv = .int .i64 (i : Int) ∧ jv = .int .i64 (j : Int) ∧ Hid (Part (keepV) l R i j) ∧ OwnV wr B (some ⟨g, 0, none⟩) n c R ∧ Below B w wr)
      (fun _ jv _ => n - (intOf jv).toNat)
    case atStart => exact ⟨i0, i0 + 1, l, rfl, by go_num, HP0, H.out.keepB HB1.out, HB1.out.mono hB⟩
    case round =>
      obtain ⟨i, j, R, rfl, rfl, HP, hown, hb⟩ := hrel
      have HO := Lib.hid hown
      have HB := Lib.hid hb
      have hij : i < j := HP.out.lt
      have hjn : j ≤ n := by have := HP.out.le; rw [← HL.out] at this; exact this
      have hsz := hb.size
      have hBr : B ≤ wr.heap.size := by omega
      clear hown hb HP0 HB1 hq0
      by_cases hlt : j < n
      · have hjl : j < l.length := by rw [← HL.out]; exact hlt
        have hjR : j < R.length := by rw [HP.out.len]; exact hjl
        have hget := HP.out.get hjl
        obtain ⟨d, hd⟩ : ∃ d, d = l[j] := ⟨_, rfl⟩
        obtain ⟨c0, c1, c2⟩ := HO.out.cell hjR
        rw [hget, ← hd] at c0 c1 c2
        have hdok : d.ok := by rw [hd, ← hget]; exact HO.out.ok _ (List.getElem_mem hjR)
        have HDOK := Lib.hid hdok
        obtain ⟨r, hr⟩ : ∃ r, r = !keepV d := ⟨_, rfl⟩
        have HD := Lib.hid hd; have HR := Lib.hid hr
        clear hd hr hget hdok
        have hi1 : (0 : Int) ≤ (j : Int) := by omega
        have hi2 : (j : Int) < (n : Int) := by omega
        cases r with
        | true =>
          have HP2 := Lib.hid (HP.out.skip hjl (by rw [← HD.out]; have := HR.out; simpa using this))
          go_wp2_with (first
            | (go_at_call 159; refine (dropv d true HR.out _).mono ?_; rintro e w1 ⟨rfl, hb1⟩; have HB2 := Lib.hid (((Below.refl _ wr).alloc (Nat.le_refl _) _).trans (hb1.mono (by simp))); clear hb1)
            | fail)
          go_roundw
          case rel => exact ⟨i, j + 1, R, rfl, by go_num, HP2, HO.out.keepB HB2.out, HB.out.trans (HB2.out.mono hBr)⟩
          case measure => simp [intOf]; omega
        | false =>
          have HP2 := Lib.hid (HP.out.keep hjl (by rw [← HD.out]; have := HR.out; simpa using this))
          have hiR : i < R.length := by omega
          have hi3 : (0 : Int) ≤ (i : Int) := by omega
          have hi4 : (i : Int) < (n : Int) := by omega
          obtain ⟨e0, e1, e2⟩ := HO.out.cell hiR
          go_wp2_with (first
            | (go_at_call 159; refine (dropv d false HR.out _).mono ?_; rintro e w1 ⟨rfl, hb1⟩; have HB2 := Lib.hid (show Below wr.heap.size wr w1 from ((Below.refl _ wr).alloc (Nat.le_refl _) _).trans (hb1.mono (by simp))); have HK2 := Lib.hid (show w1.heap[wr.heap.size]? = some (.cells #[.bool d.null, .int .i64 d.n, .string d.s] 74 (0, 0)) from (hb1.block _ (by simp)).trans (heap_alloc_new wr _)); have HO2 := Lib.hid (HO.out.keepB HB2.out); have z0 : w1.cell? ⟨wr.heap.size, 0, none⟩ = some (.bool d.null) := (by rw [Lib.cell_of_heap HK2.out]; rfl); have z1 : w1.cell? ⟨wr.heap.size, 1, none⟩ = some (.int .i64 d.n) := (by rw [Lib.cell_of_heap HK2.out]; rfl); have z2 : w1.cell? ⟨wr.heap.size, 2, none⟩ = some (.string d.s) := (by rw [Lib.cell_of_heap HK2.out]; rfl); have y0 := kcell HB2.out e0; have y1 := kcell HB2.out e1; have y2 := kcell HB2.out e2; have f0 := HO2.out.free (i * 3); have f1 := HO2.out.free (i * 3 + 1); have f2 := HO2.out.free (i * 3 + 2); clear hb1)
            | fail)
          go_roundw
          case rel =>
            have ho := HO2.out.set (i := i) hiR d HDOK.out
            exact ⟨i + 1, j + 1, R.set i d, by go_num, by go_num, by rw [HD.out]; exact HP2, ho, bsetc (bsetc (bsetc (HB.out.trans (HB2.out.mono hBr)) hgB _) hgB _) hgB _⟩
          case measure => simp [intOf]; omega
      · obtain rfl : j = n := by omega
        have hRl : R.length = j := HP.out.len.trans HL.out.symm
        obtain ⟨vs, hcl⟩ := run_clearV wr g (i * 3) (j - i) (c - i) (by omega) (fun q hq => by
          rw [HO.out.row.cellAt (i * 3 + q) (by omega), List.getElem?_eq_getElem (by rw [cellsV_len, hRl]; omega)]; rfl) (fun q _ => HO.out.free _)
        have hcl0 := hcl 0
        have HFR := Lib.hid (((HO.out.front (k := i) (by omega) (by simp)).past vs (i * 3) (Nat.le_refl _)))
        have HFE := Lib.hid (part_end HP.out HL.out)
        clear hcl hRl
        go_wp2_with fail
        go_ret
        exact ⟨i, rfl, by rw [← HFE.out]; exact HFR.out, below_setCells hgB _ _ _ HB.out⟩
end Go.Proofs.YtpmglcachffojaaGreatDoor
namespace Go.Proofs.YtpmglcachffojaaGreatDoor
open Go Go.RowKit

def SplitPost (l : List VV) (w : World) (e : Ending) (w' : World) : Prop :=
  ∃ A1 c1 A2 n2 c2, e = .returned (.tuple #[.slice A1 l.length c1, .slice A2 n2 c2]) ∧ Sl tBool (fun b => w.heap.size ≤ b) w' A1 l.length c1 (l.map fun v => !v.null) ∧ Sl tVV (fun b => w.heap.size ≤ b) w' A2 n2 c2 (l.filter keepV) ∧ Below w.heap.size w w'
set_option maxRecDepth 100000 in
set_option maxHeartbeats 1000000 in
theorem split_any (F : Nat → Prop) (A : Option Addr) (n c : Nat) (l : List VV) (w : World) (h : Sl tVV F w A n c l) (hn : n ≤ 4096) :
    Calls Tryz.prog 88 #[.slice A n c] w (SplitPost l w) := by
  have H := Lib.hid h; have HN := Lib.hid hn
  clear h hn
  go_enter Tryz.func88, Tryz.ntmps88
  go_wp2_with (first
    | (go_at_call 158; refine (clone_any F A n c l _ H.out (by have := HN.out; omega)).mono ?_; rintro e w1 ⟨A1, c1, rfl, ho1, hb1⟩; have HO1 := Lib.hid ho1; have HB1 := Lib.hid hb1; clear ho1 hb1)
    | (go_at_call 157; refine (del_any w.heap.size A1 n c1 l _ HO1.out HB1.out.size).mono ?_; rintro e w2 ⟨m, rfl, ho2, hb2⟩; have HO2 := Lib.hid ho2; have HB2 := Lib.hid (HB1.out.trans hb2); clear ho2 hb2)
    | (go_at_call 146; refine (each_any F A n c l _ (H.out.below HB2.out (Nat.le_refl _)) HN.out).mono ?_; rintro e w3 ⟨A3, n3, c3, rfl, ⟨G, ho3⟩, hb3⟩; have HO3 := Lib.hid ho3; have HB3 := Lib.hid hb3; clear ho3 hb3)
    | fail)
  go_ret2
  have e3 : n3 = l.length := by have := HO3.out.len; simpa using this
  subst e3
  exact ⟨A3, c3, A1, m, c1, rfl, (HO3.out.flat (T := tBool) (fun h => h)).sl.weaken (fun b hb _ => by
    rcases hb with hb | hb
    · exact hb.elim
    · have := HB2.out.size; exact Nat.le_trans this hb.2), (HO2.out.keepB HB3.out).sl, HB2.out.trans (HB3.out.mono HB2.out.size)⟩
/-- What nulls.Put lays down: nothing if no value is nothing. -/
def presB (l : List VV) : List UInt8 := if (l.filter keepV).length < l.length then byB (boolB (l.map fun v => !v.null)) else []
def NPutPost (l : List VV) (w : World) (e : Ending) (w' : World) : Prop :=
  ∃ A1 n1 c1 A2 n2 c2, e = .returned (.tuple #[.slice A1 n1 c1, .slice A2 n2 c2, .int .i64 0]) ∧ Sl tU8 (fun b => w.heap.size ≤ b) w' A1 n1 c1 (presB l) ∧ Sl tVV (fun b => w.heap.size ≤ b) w' A2 n2 c2 (l.filter keepV) ∧ Below w.heap.size w w'
set_option maxRecDepth 100000 in
set_option maxHeartbeats 1000000 in
theorem nput_any (F : Nat → Prop) (A : Option Addr) (n c : Nat) (l : List VV) (w : World) (h : Sl tVV F w A n c l) (hn : n ≤ 4096) :
    Calls Tryz.prog 42 #[.slice A n c] w (NPutPost l w) := by
  have H := Lib.hid h; have HN := Lib.hid hn; have HL := Lib.hid h.len
  have hn1 : ¬ (n : Int) > 4096 := by omega
  have hn2 : ¬ (4096 : Int) < n := by omega
  clear h hn
  go_enter Tryz.func42, Tryz.ntmps42
  go_upto_if 18 with (first
    | (go_at_call 88; refine (split_any F A n c l _ H.out HN.out).mono ?_; rintro e w1 ⟨A1, c1, A2, n2, c2, rfl, hs1, hs2, hb1⟩; have HS1 := Lib.hid hs1; have HS2 := Lib.hid hs2; have HB1 := Lib.hid hb1; clear hs1 hs2 hb1)
    | fail)
  have HL2 := Lib.hid HS2.out.len
  by_cases hlt : n2 < n
  · have hI : (n2 : Int) < (n : Int) := by omega
    have HP := Lib.hid (show presB l = byB (boolB (l.map fun v => !v.null)) from if_pos (by rw [← HL2.out, ← HL.out]; exact hlt))
    go_wp2_with (first
      | (go_at_call 89; refine (boolput _ A1 l.length c1 _ _ HS1.out (by rw [← HL.out]; exact HN.out)).mono ?_; rintro e w2 ⟨hb2, A3, n3, c3, rfl, ho3⟩; have HO3 := Lib.hid ho3; have HB2 := Lib.hid hb2; clear ho3 hb2)
      | fail)
    go_ret3
    refine ⟨A3, n3, c3, A2, n2, c2, rfl, ?_, HS2.out.below HB2.out (Nat.le_refl _), HB1.out.trans (HB2.out.mono HB1.out.size)⟩
    rw [HP.out]
    exact HO3.out.own.sl.weaken fun b hb _ => by
      have := HB1.out.size
      rcases hb with hb | hb
      · exact hb.elim
      · exact Nat.le_trans this hb.2
  · have hI : ¬ (n2 : Int) < (n : Int) := by omega
    have HP := Lib.hid (show presB l = [] from if_neg (by rw [← HL2.out, ← HL.out]; exact hlt))
    go_wp2_with fail
    go_ret3
    exact ⟨none, 0, 0, A2, n2, c2, rfl, by rw [HP.out]; exact Sl.nil_ _ _ _, HS2.out, HB1.out⟩
end Go.Proofs.YtpmglcachffojaaGreatDoor
namespace Go.Proofs.YtpmglcachffojaaGreatDoor
open Go Go.RowKit

/-- What ints.Put lays down for values that may be of the kind. -/
def intsB (k : Int) (l : List VV) : List UInt8 :=
  if k = 1 then byB (boolB (l.map fun v => v.n == 1))
  else if k = 5 then rleB true (l.map fun v => v.n / 1000) ++ rleB false (l.map fun v => v.n % 1000)
  else rleB true (l.map fun v => v.n)
theorem numOk_of (l : List VV) (h : ∀ v ∈ l, v.ok) : NumOk true (l.map fun v => v.n) ∧ NumOk true (l.map fun v => v.n / 1000) ∧ NumOk false (l.map fun v => v.n % 1000) := by
  refine ⟨fun x hx => ?_, fun x hx => ?_, fun x hx => ?_⟩ <;>
  · obtain ⟨v, hv, rfl⟩ := List.mem_map.1 hx
    obtain ⟨h0, h1, _⟩ := h v hv
    refine ⟨by omega, by omega, ?_⟩
    first | exact .inl rfl | exact .inr (by omega)
theorem sl_ok {F : Nat → Prop} {w : World} {A : Option Addr} {n c : Nat} {l : List VV} (h : Sl tVV F w A n c l) : ∀ v ∈ l, v.ok := by
  intro v hv
  obtain ⟨i, hi, rfl⟩ := List.getElem_of_mem hv
  obtain ⟨_, _, _, _, _, _, hr, _⟩ := h.at_ hi (by decide)
  exact hr.2
set_option maxRecDepth 100000 in
set_option maxHeartbeats 4000000 in
theorem iput_any (k : Int) (hk : 1 ≤ k ∧ k ≤ 5) (F : Nat → Prop) (A : Option Addr) (n c : Nat) (l : List VV) (w : World) (h : Sl tVV F w A n c l) (hn : n ≤ 4096) (hm : ∀ v ∈ l, v.null = false ∧ mayV k v = true) (hT : Lib.Utf8Tabs 0 1 w) :
    Calls Tryz.prog 45 #[.int .i64 k, .slice A n c] w (RunPost (some (intsB k l)) w) := by
  have HL := Lib.hid h.len
  have H := Lib.hid h; have HN := Lib.hid hn; have HM := Lib.hid hm; have HT := Lib.hid hT
  have HOK := Lib.hid (numOk_of l (sl_ok h))
  have HVO := Lib.hid (sl_ok h)
  have HNM := Lib.hid (show decide (1 ≤ k ∧ k ≤ 5) = true by simpa using hk)
  have hn1 : ¬ (n : Int) > 4096 := by omega
  have hn2 : ¬ (4096 : Int) < n := by omega
  have HK := Lib.hid hk
  clear h hn hm hT hk
  go_enter Tryz.func45, Tryz.ntmps45
  go_wp2_with (first
    | (go_at_call 44; refine (isnum_any _ _).mono ?_; rintro e w1 ⟨rfl, rfl⟩; rw [HNM.out])
    | fail)
  go_loopw [21] (fun iv wr => ∃ j : Nat, j ≤ n ∧ iv = .int .i64 (j : Int) ∧ Below w.heap.size w wr) (fun iv _ => n - (intOf iv).toNat)
  case atStart => exact ⟨0, Nat.zero_le _, rfl, Below.refl _ _⟩
  case round =>
    obtain ⟨j, hj, rfl, hb⟩ := hrel
    have HB := Lib.hid hb
    have hsz := hb.size
    by_cases hlt : j < n
    · have hjl : j < l.length := by rw [← HL.out]; exact hlt
      obtain ⟨b, o, cs, rfl, _, hbl, hrep, hc⟩ := (H.out.below hb (Nat.le_refl _)).at_ hjl (by decide)
      have hml := HM.out _ (List.getElem_mem hjl)
      have hvo := HVO.out _ (List.getElem_mem hjl)
      obtain ⟨v, hf⟩ : ∃ v, v = l[j] := ⟨_, rfl⟩
      obtain ⟨rfl, _⟩ := hrep
      rw [← hf] at hc hml hvo
      obtain ⟨nu, x, s⟩ := v
      obtain ⟨hnu, hmay⟩ := hml
      have hnu : nu = false := hnu
      subst hnu
      have HMAY := Lib.hid hmay; have HVK := Lib.hid hvo
      obtain ⟨g0, g1, g2⟩ := cells3 hc
      have g0 : _ = some (Value.bool false) := g0
      have g1 : _ = some (Value.int .i64 x) := g1
      have g2 : _ = some (Value.string s) := g2
      have i0 : (0 : Int) ≤ (j : Int) := by omega
      have i1 : (j : Int) < (n : Int) := by omega
      clear hc hf hmay hvo hb
      go_wp2_with (first
        | (go_at_call 41; refine (may_any k ⟨false, x, s⟩ HVK.out _ (tabs_below HT.out (HB.out.alloc hsz _))).mono ?_; rintro e w3 ⟨rfl, hb3⟩; rw [HMAY.out]; have HB3 := Lib.hid ((HB.out.alloc hsz _).trans (hb3.mono (by simp; omega))); clear hb3)
        | fail)
      go_roundw
      case rel => exact ⟨j + 1, by omega, by go_num, HB3.out⟩
      case measure => simp [intOf]; omega
    · obtain rfl : j = n := by omega
      have HS := Lib.hid (H.out.below hb (Nat.le_refl _))
      have i1 : ¬ (j : Int) < (j : Int) := by omega
      clear hb
      by_cases hk1 : k = 1
      · subst hk1
        have HI := Lib.hid (show intsB 1 l = byB (boolB (l.map fun v => v.n == 1)) from if_pos rfl)
        go_wp2_with (first
          | (go_at_call 90; refine (truths_any F A j c l _ HS.out HN.out).mono ?_; rintro e w3 ⟨A3, n3, c3, rfl, ⟨G, ho3⟩, hb3⟩; have HO3 := Lib.hid ho3.sl; have HL3 := Lib.hid ho3.len; have HB3 := Lib.hid hb3; clear ho3 hb3)
          | (go_at_call 89; refine (boolput _ A3 n3 c3 _ _ HO3.out (by have := HL3.out; rw [List.length_map, ← HL.out] at this; rw [this]; exact HN.out)).mono ?_; rintro e w4 ⟨hb4, A4, n4, c4, rfl, ho4⟩; have HO4 := Lib.hid ho4; have HB4 := Lib.hid hb4; clear ho4 hb4)
          | fail)
        go_ret2
        have hw := HB.out.trans (HB3.out.mono hsz)
        exact ⟨hw.trans (HB4.out.mono hw.size), A4, n4, c4, rfl, by rw [HI.out]; exact HO4.out.down hw.size⟩
      · have hkb1 := beq_no hk1
        by_cases hk5 : k = 5
        · subst hk5
          have HI := Lib.hid (show intsB 5 l = rleB true (l.map fun v => v.n / 1000) ++ rleB false (l.map fun v => v.n % 1000) by unfold intsB; rw [if_neg (by decide), if_pos rfl])
          have HR1 := Lib.hid (rleB_len true (l.map fun v => v.n / 1000)); have HR2 := Lib.hid (rleB_len false (l.map fun v => v.n % 1000))
          go_upto_region 18 with (first
            | (go_at_call 93; refine (wholes_any F A j c l _ HS.out HN.out).mono ?_; rintro e w3 ⟨A3, n3, c3, rfl, ⟨G, ho3⟩, hb3⟩; have HO3 := Lib.hid ho3.sl; have HL3 := Lib.hid ho3.len; have HB3 := Lib.hid hb3; clear ho3 hb3)
            | (go_at_call 92; refine (rle_any _ A3 n3 c3 _ _ HO3.out (by have := HL3.out; rw [List.length_map, ← HL.out] at this; rw [this]; exact HN.out) true HOK.out.2.1).mono ?_; rintro e w4 ⟨hb4, A4, n4, c4, rfl, ho4⟩; have HO4 := Lib.hid ho4; have HB4 := Lib.hid hb4; clear ho4 hb4)
            | fail)
          have hw4 := HB.out.trans ((HB3.out.mono hsz).trans (HB4.out.mono (by have := HB3.out.size; omega)))
          have HW4 := Lib.hid hw4
          obtain ⟨A5, hA5⟩ : ∃ A5, A5 = A4 := ⟨_, rfl⟩
          obtain ⟨n5, hn5⟩ : ∃ n5, n5 = n4 := ⟨_, rfl⟩
          obtain ⟨c5, hc5⟩ : ∃ c5, c5 = c4 := ⟨_, rfl⟩
          have HO5 := HO4
          rw [← hA5, ← hn5, ← hc5] at HO5 ⊢
          have HS4 := Lib.hid (H.out.below hw4 (Nat.le_refl _))
          have HZ := Lib.hid (show w.heap.size ≤ w3.heap.size from Nat.le_trans hsz HB3.out.size)
          clear hA5 hn5 hc5 hw4 HO4 HO3 HB3 HB4 HL3
          go_wp2_with (first
            | (go_at_call 93; refine (lefts_any F A j c l _ HS4.out HN.out).mono ?_; rintro e w6 ⟨A3, n3, c3, rfl, ⟨G, ho3⟩, hb3⟩; have HO3 := Lib.hid ho3.sl; have HL3 := Lib.hid ho3.len; have HB3 := Lib.hid hb3; clear ho3 hb3)
            | (go_at_call 92; refine (rle_any _ A3 n3 c3 _ _ HO3.out (by have := HL3.out; rw [List.length_map, ← HL.out] at this; rw [this]; exact HN.out) false HOK.out.2.2).mono ?_; rintro e w7 ⟨hb4, A4, n4, c4, rfl, ho4⟩; have HO4 := Lib.hid ho4; have HB4 := Lib.hid hb4; clear ho4 hb4)
            | (at_builtin; refine apb w7 w rfl (.tmp 59) (.tmp 60) rfl w.heap.size A5 n5 c5 (rleB true (l.map fun v => v.n / 1000)) (by rfl) ((HO5.out.down HZ.out).keepB (HB3.out.trans (HB4.out.mono HB3.out.size))) (HW4.out.trans ((HB3.out.mono HW4.out.size).trans (HB4.out.mono (by have := HW4.out.size; have := HB3.out.size; omega)))) (Nat.le_refl _) _ A4 n4 c4 (rleB false (l.map fun v => v.n % 1000)) (by rfl) HO4.out.bs (by have h1 := HO5.out.len; have h2 := HO4.out.len; have h3 := HR1.out; have h4 := HR2.out; rw [List.length_map, ← HL.out] at h3 h4; have h5 := HN.out; omega) ?_; intro A8 c8 w8 h8 hb8 _; have HO8 := Lib.hid h8; have HB8 := Lib.hid hb8; clear h8 hb8)
            | fail)
          go_ret2
          exact ⟨HB8.out, A8, _, c8, rfl, by rw [HI.out]; exact HO8.out⟩
        · have hkb5 := beq_no hk5
          have HI := Lib.hid (show intsB k l = rleB true (l.map fun v => v.n) by unfold intsB; rw [if_neg hk1, if_neg hk5])
          go_wp2_with (first
            | (go_at_call 93; refine (nums_any F A j c l _ HS.out HN.out).mono ?_; rintro e w3 ⟨A3, n3, c3, rfl, ⟨G, ho3⟩, hb3⟩; have HO3 := Lib.hid ho3.sl; have HL3 := Lib.hid ho3.len; have HB3 := Lib.hid hb3; clear ho3 hb3)
            | (go_at_call 92; refine (rle_any _ A3 n3 c3 _ _ HO3.out (by have := HL3.out; rw [List.length_map, ← HL.out] at this; rw [this]; exact HN.out) true HOK.out.1).mono ?_; rintro e w4 ⟨hb4, A4, n4, c4, rfl, ho4⟩; have HO4 := Lib.hid ho4; have HB4 := Lib.hid hb4; clear ho4 hb4)
            | fail)
          go_ret2
          have hw := HB.out.trans (HB3.out.mono hsz)
          exact ⟨hw.trans (HB4.out.mono hw.size), A4, n4, c4, rfl, by rw [HI.out]; exact HO4.out.down hw.size⟩
end Go.Proofs.YtpmglcachffojaaGreatDoor
