/- A row of one-celled elements that the call owns: read at a place, stored into. No program in sight. The pairs of a patched run, number by number. Plain Lean; no program in sight. Two laws that more than one road asks for. Lists that one call builds side by side, each in blocks of a color of its own. No condition; no program in sight. -/
import Derived.Test.YtpmglcachffojaaGreatDoorPk3
import Derived.Test.YtpmglcachffojaaGreatDoorPk1
namespace Go.Proofs.YtpmglcachffojaaGreatDoor
open Go Go.RowKit

/-- An α lies as one cell. -/
structure OneT {α : Type} (T : Ty α) (enc : α → Value) (ok : α → Prop) : Prop where
  size : T.size = 1
  rep : ∀ (F : Nat → Prop) (w : World) (cs : List Value) (x : α), T.rep F w cs x ↔ cs = [enc x] ∧ ok x
section
variable {α : Type} {T : Ty α} {enc : α → Value} {ok : α → Prop} (O : OneT T enc ok)
include O
theorem one_reps (F : Nat → Prop) (w : World) (l : List α) (h : ∀ d ∈ l, ok d) : Reps T F w (l.map fun x => [enc x]) l := by
  refine ⟨by simp, fun i cs x h1 h2 => ?_⟩
  rw [List.getElem?_map, h2] at h1
  simp at h1
  subst h1
  exact (O.rep F w _ x).2 ⟨rfl, h x (List.mem_of_getElem? h2)⟩
theorem one_reps_eq {F : Nat → Prop} {w : World} {css : List (List Value)} {l : List α} (h : Reps T F w css l) : css = (l.map fun x => [enc x]) ∧ ∀ d ∈ l, ok d := by
  have hk : ∀ i (hi : i < l.length), css[i]? = some [enc l[i]] ∧ ok l[i] := fun i hi => by
    have hc : i < css.length := by rw [h.1]; exact hi
    have := (O.rep F w _ _).1 (h.2 i _ _ (List.getElem?_eq_getElem hc) (List.getElem?_eq_getElem hi))
    exact ⟨by rw [List.getElem?_eq_getElem hc, this.1], this.2⟩
  refine ⟨List.ext_getElem? fun i => ?_, fun d hd => ?_⟩
  · rcases Nat.lt_or_ge i l.length with hi | hi
    · rw [(hk i hi).1, List.getElem?_map, List.getElem?_eq_getElem hi]; rfl
    · rw [List.getElem?_eq_none (by rw [h.1]; exact hi), List.getElem?_eq_none (by simpa using hi)]
  · obtain ⟨i, hi, rfl⟩ := List.getElem_of_mem hd
    exact (hk i hi).2
omit O in
theorem map_one (enc : α → Value) (l : List α) : (l.map fun x => [enc x]).flatten = l.map enc := by
  induction l with
  | nil => rfl
  | cons a r ih => rw [List.map_cons, List.flatten_cons, ih]; rfl
theorem OwnF.row1 {e : TypeId} {F : Nat → Prop} {w : World} {B n c : Nat} {A : Option Addr} {l : List α} (h : OwnF T e F w B A n c l) : w.ownsRow B e 1 (.slice A n c) n (l.map enc) ∧ ∀ x ∈ l, ok x := by
  obtain ⟨⟨css, h1, h2⟩, _, _⟩ := h
  obtain ⟨rfl, h3⟩ := one_reps_eq O h2
  rw [map_one, O.size] at h1
  exact ⟨h1, h3⟩
theorem own_row1 {e : TypeId} {w : World} {B n c : Nat} {A : Option Addr} {l : List α} (h : w.ownsRow B e 1 (.slice A n c) n (l.map enc)) (hk : ∀ x ∈ l, ok x) : OwnF T e (fun _ => False) w B A n c l :=
  ⟨⟨l.map fun x => [enc x], by rw [map_one, O.size]; exact h, one_reps O _ w l hk⟩, by simp, by have := h.1; simpa using this.symm⟩
variable {e : TypeId} {F : Nat → Prop} {w : World} {B n c g : Nat} {l : List α}
theorem OwnF.cell1 (h : OwnF T e F w B (some ⟨g, 0, none⟩) n c l) {i : Nat} (hi : i < l.length) : w.cell? ⟨g, i, none⟩ = some (enc l[i]) := by
  have hn := h.len
  rw [(h.row1 O).1.cellAt i (by omega)]
  simp [hi]
theorem OwnF.free1 (h : OwnF T e F w B (some ⟨g, 0, none⟩) n c l) (j : Nat) : w.frozen? ⟨g, j, none⟩ = false := (h.row1 O).1.frozenAt j
theorem OwnF.base1 (h : OwnF T e F w B (some ⟨g, 0, none⟩) n c l) : B ≤ g ∧ g < w.heap.size := (h.row1 O).1.lt g rfl
/-- s[i] = x. -/
theorem OwnF.set1 (h : OwnF T e F w B (some ⟨g, 0, none⟩) n c l) (i : Nat) (x : α) (hx : ok x) : OwnF T e (fun _ => False) (w.setCell ⟨g, i, none⟩ (enc x)) B (some ⟨g, 0, none⟩) n c (l.set i x) := by
  obtain ⟨h1, h2⟩ := h.row1 O
  have h3 := (h1.stored i (enc x)).1
  rw [← List.map_set] at h3
  refine own_row1 O h3 fun d hd => ?_
  rcases List.mem_or_eq_of_mem_set hd with hd | rfl
  · exact h2 d hd
  · exact hx
/-- A row that is not empty has a block. -/
theorem OwnF.some1 {A : Option Addr} (h : OwnF T e F w B A n c l) (hl : l ≠ []) : ∃ g, A = some ⟨g, 0, none⟩ := by
  rcases (h.row1 O).1.2 with ⟨_, hn⟩ | ⟨g, _, _, h1, _⟩
  · have := h.len
    exact absurd (List.length_eq_zero_iff.1 (by omega)) hl
  · injection h1 with e1 e2 e3
    exact ⟨g, e1⟩
end
theorem oneI64 : OneT tI64 (fun x => .int .i64 x) (fun x => -9223372036854775808 ≤ x ∧ x ≤ 9223372036854775807) := ⟨rfl, fun _ _ _ _ => Iff.rfl⟩
theorem oneU64 : OneT tU64 (fun x => .int .u64 (x : Int)) (fun x => x < 18446744073709551616) := ⟨rfl, fun _ _ _ _ => Iff.rfl⟩
theorem oneU8 : OneT tU8 (fun x => .int .u8 (x.toNat : Int)) (fun _ => True) := ⟨rfl, fun _ _ _ _ => ⟨fun h => ⟨h, trivial⟩, fun h => h.1⟩⟩
theorem oneBool : OneT tBool (fun x => .bool x) (fun _ => True) := ⟨rfl, fun _ _ _ _ => ⟨fun h => ⟨h, trivial⟩, fun h => h.1⟩⟩
end Go.Proofs.YtpmglcachffojaaGreatDoor
namespace Go.Proofs.YtpmglcachffojaaGreatDoor

def lastN (w : Nat) : Nat → Nat → List Nat → Nat
  | _, la, [] => la
  | i, la, x :: r => lastN w (i + 1) (if x / 2 ^ w = 0 then la else i) r
def pairs1 (w i la x : Nat) : List (Nat × Nat) := if x / 2 ^ w = 0 then [] else List.replicate ((i - la - 1) / 255) (255, 0) ++ [(i - la - 255 * ((i - la - 1) / 255), x / 2 ^ w)]
theorem pairsN_cons (w i la x : Nat) (r : List Nat) : pairsN w i la (x :: r) = pairs1 w i la x ++ pairsN w (i + 1) (if x / 2 ^ w = 0 then la else i) r := by
  unfold pairs1
  rw [pairsN]
  by_cases h : x / 2 ^ w = 0
  · rw [if_pos h, if_pos h, if_pos h, List.nil_append]
  · rw [if_neg h, if_neg h, if_neg h, List.append_assoc, List.singleton_append]
theorem pairsN_snoc (w : Nat) : ∀ (a : List Nat) (i la x : Nat), pairsN w i la (a ++ [x]) = pairsN w i la a ++ pairs1 w (i + a.length) (lastN w i la a) x
  | [], i, la, x => by
    rw [List.nil_append, pairsN_cons]
    simp [pairsN, lastN]
  | y :: r, i, la, x => by
    rw [List.cons_append, pairsN_cons, pairsN_snoc w r, pairsN_cons, List.append_assoc, lastN, List.length_cons, show i + 1 + r.length = i + (r.length + 1) by omega]
theorem lastN_snoc (w : Nat) : ∀ (a : List Nat) (i la x : Nat), lastN w i la (a ++ [x]) = if x / 2 ^ w = 0 then lastN w i la a else i + a.length
  | [], i, la, x => by simp [lastN]
  | y :: r, i, la, x => by
    rw [List.cons_append, lastN, lastN_snoc w r, lastN, List.length_cons, show i + 1 + r.length = i + (r.length + 1) by omega]
theorem lastN_le (w : Nat) : ∀ (a : List Nat) (i la : Nat), la ≤ i → lastN w i la a ≤ i + a.length
  | [], i, la, h => by simpa [lastN] using h
  | y :: r, i, la, h => by
    rw [lastN, List.length_cons]
    have := lastN_le w r (i + 1) (if y / 2 ^ w = 0 then la else i) (by split <;> omega)
    omega
/-- The last lies before the next, but at the start. -/
theorem lastN_lt (w : Nat) (a : List Nat) (i la : Nat) (h : la ≤ i) (ha : a ≠ []) : lastN w i la a < i + a.length := by
  match a, ha with
  | y :: r, _ =>
    rw [lastN, List.length_cons]
    have := lastN_le w r (i + 1) (if y / 2 ^ w = 0 then la else i) (by split <;> omega)
    have h2 : ∀ (r : List Nat) (i la : Nat), la < i → lastN w i la r < i + r.length := by
      intro r
      induction r with
      | nil => intro i la h; simpa [lastN] using h
      | cons z r ih =>
        intro i la h
        rw [lastN, List.length_cons]
        have := ih (i + 1) (if z / 2 ^ w = 0 then la else i) (by split <;> omega)
        omega
    have := h2 r (i + 1) (if y / 2 ^ w = 0 then la else i) (by split <;> omega)
    omega
def patM (p : List (Nat × Nat)) : Nat := max 1 (most (p.map (·.2)))
theorem patW_eq (p : List (Nat × Nat)) : patW p = closeN (patM p) := rfl
theorem gapW_snoc (p : List (Nat × Nat)) (x : Nat × Nat) : gapW (p ++ [x]) = max (gapW p) (bl x.1) := by
  unfold gapW
  rw [List.map_append, List.map_singleton, most_snoc]; omega
theorem patM_snoc (p : List (Nat × Nat)) (x : Nat × Nat) : patM (p ++ [x]) = max (patM p) (bl x.2) := by
  unfold patM
  rw [List.map_append, List.map_singleton, most_snoc]; omega
theorem gapW_le (p : List (Nat × Nat)) (h : ∀ x ∈ p, U64 x.1) : 1 ≤ gapW p ∧ gapW p ≤ 64 := by
  have := most_le64 (p.map (·.1)) (fun y hy => by obtain ⟨x, hx, rfl⟩ := List.mem_map.1 hy; exact h x hx)
  unfold gapW; omega
theorem patM_le (p : List (Nat × Nat)) (h : ∀ x ∈ p, U64 x.2) : 1 ≤ patM p ∧ patM p ≤ 64 := by
  have := most_le64 (p.map (·.2)) (fun y hy => by obtain ⟨x, hx, rfl⟩ := List.mem_map.1 hy; exact h x hx)
  unfold patM; omega
theorem upN_len (l : List Int) : (upN l).length = l.length := by simp [upN]
end Go.Proofs.YtpmglcachffojaaGreatDoor
namespace Go.Proofs.YtpmglcachffojaaGreatDoor
open Go Go.RowKit

theorem bdrewN {B : Nat} {a w : World} (h : Below B a w) (n : Nat) : Below B a (w.drewN n) := ⟨h.os, h.tape, h.output, h.size, h.block⟩
theorem OwnF.newL {α : Type} {T : Ty α} {F : Nat → Prop} {w : World} {css : List (List Value)} {xs : List α} {e : TypeId} {B n : Nat} (h : Reps T F w css xs) (hB : B ≤ w.heap.size) (hn : n = xs.length) (hm : n ≤ 4294967296) (o : Obj) (ho : o = .cells css.flatten.toArray e) :
    OwnF T e (fun b => F b ∧ b < w.heap.size) (w.alloc o) B (some ⟨w.heap.size, 0, none⟩) n n xs := by
  subst ho
  have hr := h.weaken (F' := fun b => F b ∧ b < w.heap.size) (fun b hb hl => ⟨hb, hl⟩)
  refine ⟨⟨css, ?_, hr.keep (by simp) fun b _ hl => Below.heap_alloc w _ b hl⟩, ?_, hn⟩
  · have := World.ownsRow_lit (base := B) (e := e) (size := T.size) w css.flatten.toArray n hB (by simp only [maxLen]; omega) (by simp only [List.size_toArray]; rw [hr.flat, hn])
    simpa using this
  · rintro b o h ⟨_, hl⟩
    injection h with h; injection h with h; omega
theorem OwnF.empty {α : Type} (T : Ty α) (e : TypeId) (F : Nat → Prop) (w : World) (B : Nat) (hB : B ≤ w.heap.size) (hF : ∀ b, F b → b < B) : OwnF T e F (w.alloc (.cells #[] e)) B (some ⟨w.heap.size, 0, none⟩) 0 0 [] :=
  (OwnF.newL (T := T) (F := fun _ => False) (w := w) (n := 0) (css := []) (xs := []) Reps.nil_ hB rfl (by omega) _ rfl).weaken (fun b hb _ => hb.1.elim) (fun b _ hB' _ hh => by have := hF b hh; omega)
end Go.Proofs.YtpmglcachffojaaGreatDoor
namespace Go.Proofs.YtpmglcachffojaaGreatDoor
open Go Go.RowKit

/-- A list of color i: its own row, and what its elements lead to, lie in blocks of color i, from block B on, below S. -/
def Col {α : Type} (T : Ty α) (e : TypeId) (col : Nat → Nat) (i B S : Nat) (w : World) (A : Option Addr) (n c : Nat) (xs : List α) : Prop :=
  ∃ F, OwnF T e F w B A n c xs ∧ (∀ b, F b → b < S ∧ B ≤ b ∧ col b = i) ∧ (∀ b, A.map (·.block) = some b → b < S ∧ col b = i)
/-- The color of new blocks. -/
def recolor (col : Nat → Nat) (i s : Nat) (b : Nat) : Nat := if s ≤ b then i else col b
theorem recolor_old (col : Nat → Nat) (i s b : Nat) (h : b < s) : recolor col i s b = col b := by unfold recolor; rw [if_neg (by omega)]
theorem recolor_new (col : Nat → Nat) (i s b : Nat) (h : s ≤ b) : recolor col i s b = i := by unfold recolor; rw [if_pos h]
section
variable {α : Type} {T : Ty α} {e : TypeId} {col col' : Nat → Nat} {i B S S' : Nat} {w w' : World} {A A' : Option Addr} {n c c' : Nat} {xs : List α}
theorem Col.nil_ (T : Ty α) (e : TypeId) (col : Nat → Nat) (i B S : Nat) (w : World) : Col T e col i B S w none 0 0 [] := ⟨fun _ => False, OwnF.nil_ T e _ w B, by simp, by simp⟩
theorem Col.len (h : Col T e col i B S w A n c xs) : n = xs.length := by obtain ⟨F, h, _⟩ := h; exact h.len
theorem OwnF.lies' {F : Nat → Prop} (h : OwnF T e F w B A n c xs) {b : Nat} (hb : A.map (·.block) = some b) : A = some ⟨b, 0, none⟩ ∧ B ≤ b ∧ b < w.heap.size := h.lies (by rw [ownBlock_slice]; exact hb)
theorem Col.lies (h : Col T e col i B S w A n c xs) {b : Nat} (hb : A.map (·.block) = some b) : B ≤ b ∧ b < S ∧ col b = i := by
  obtain ⟨F, h1, h2, h3⟩ := h
  exact ⟨(h1.lies' hb).2.1, h3 b hb⟩
theorem Col.keep (h : Col T e col i B S w A n c xs) (hs : w.heap.size ≤ w'.heap.size) (hk : ∀ b, B ≤ b → b < S → b < w.heap.size → col b = i → w'.heap[b]? = w.heap[b]?) : Col T e col i B S w' A n c xs := by
  obtain ⟨F, h1, h2, h3⟩ := h
  refine ⟨F, h1.keep hs fun b hb hl => ?_, h2, h3⟩
  rcases hb with hb | ⟨rfl, hb⟩
  · exact hk b (h2 b hb).2.1 (h2 b hb).1 hl (h2 b hb).2.2
  · exact hk b hb (h3 b rfl).1 hl (h3 b rfl).2
theorem Col.recol (h : Col T e col i B S w A n c xs) (hc : ∀ b, b < S → col' b = col b) (hS : S ≤ S') : Col T e col' i B S' w A n c xs := by
  obtain ⟨F, h1, h2, h3⟩ := h
  exact ⟨F, h1, fun b hb => ⟨by have := (h2 b hb).1; omega, (h2 b hb).2.1, (hc b (h2 b hb).1).trans (h2 b hb).2.2⟩, fun b hb => ⟨by have := (h3 b hb).1; omega, (hc b (h3 b hb).1).trans (h3 b hb).2⟩⟩
/-- The blocks that the list leans on, as one word. -/
theorem Col.sl (h : Col T e col i B S w A n c xs) : Sl T (fun b => B ≤ b) w A n c xs := by
  obtain ⟨F, h1, h2, h3⟩ := h
  refine h1.sl.weaken fun b hb _ => ?_
  rcases hb with hb | hb
  · exact (h2 b hb).2.1
  · exact hb.2
/-- Behind an append onto the list of color i: what the new element leads to lies from S on. -/
theorem Col.apd {F G : Nat → Prop} {a0 w2 w3 : World} {m : Nat} {ys : List α} (h2 : ∀ b, F b → b < S ∧ B ≤ b ∧ col b = i) (h3 : ∀ b, A.map (·.block) = some b → b < S ∧ col b = i)
    (hG : ∀ b, G b → S ≤ b) (hB : B ≤ S) (hs2 : S ≤ w2.heap.size) (ha : ApdL T e (fun b => (F b ∨ G b) ∧ b < w3.heap.size) a0 w2 w' B A A' m c' ys) :
    Col T e (recolor col i S) i B w'.heap.size w' A' m c' ys := by
  have hg := ha.grown.size
  refine ⟨fun b => ((F b ∨ G b) ∧ b < w3.heap.size) ∧ b < w'.heap.size, ha.own.weaken (fun b h1 h2 => ⟨h1, h2⟩) (fun b e1 e2 e3 => ?_), fun b hb => ?_, fun b hb => ⟨(ha.own.lies' hb).2.2, ?_⟩⟩
  · rintro ⟨h4, _⟩
    exact ha.own.off b 0 e1 h4
  · rcases hb with ⟨⟨hb | hb, _⟩, hl⟩
    · have := h2 b hb
      exact ⟨hl, this.2.1, (recolor_old _ _ _ _ (by omega)).trans this.2.2⟩
    · have := hG b hb
      exact ⟨hl, by omega, recolor_new _ _ _ _ this⟩
  · rcases Nat.lt_or_ge b S with hl | hl
    · rw [recolor_old _ _ _ _ hl]
      rcases ha.lies with h | h
      · exact (h3 b (by rw [← h]; exact hb)).2
      · rw [h] at hb; injection hb with hb; omega
    · exact recolor_new _ _ _ _ hl
/-- Any list, where a block changed that is below B, or of another color. -/
theorem Col.other {row : Option Nat} (h : Col T e col i B S w A n c xs) (hg : w.grownBy w' row) (hr : ∀ g, row = some g → g < B ∨ col g ≠ i) : Col T e col i B S w' A n c xs :=
  h.keep hg.size fun b hB _ hl hc => hg.block b hl fun e => by
    rcases hr b e.symm with h | h
    · omega
    · exact h hc
/-- A list behind an append onto another one, of color k. -/
theorem Col.past {k : Nat} {A2 : Option Addr} (h : Col T e col i B S w A n c xs) (hki : k ≠ i) (hA2 : ∀ b, A2.map (·.block) = some b → b < S ∧ col b = k) (hg : w.grownBy w' (A2.map (·.block))) (hS : S ≤ w'.heap.size) :
    Col T e (recolor col k S) i B w'.heap.size w' A n c xs :=
  (h.other hg fun b hb => .inr (by rw [(hA2 b hb).2]; exact hki)).recol (fun b hb => recolor_old _ _ _ _ hb) hS
theorem Col.setP (h : Col T e col i B S w A n c xs) {b j : Nat} (hb : b < B) (v : Value) : Col T e col i B S (w.setCell ⟨b, j, none⟩ v) A n c xs :=
  h.keep (by simp) fun k hk _ _ _ => Below.heap_setCell w ⟨b, j, none⟩ v k (fun e => by simp at e; omega)
end
end Go.Proofs.YtpmglcachffojaaGreatDoor
