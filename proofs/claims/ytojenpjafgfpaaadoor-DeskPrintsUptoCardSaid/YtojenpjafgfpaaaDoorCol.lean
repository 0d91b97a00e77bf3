/- Lists that one call builds side by side, each in blocks of a color of its own. No condition; no program in sight. -/
import Derived.Test.YtojenpjafgfpaaaDoorTy
namespace Go.Proofs.YtojenpjafgfpaaaDoor
open Go Go.RowKit

/-- A list of color i: its own row, and what its elements lead to, lie in blocks of color i, from block B on, below S. -/
def Col {α : Type} (T : Ty α) (e : TypeId) (col : Nat → Nat) (i B S : Nat) (w : World) (A : Option Addr) (n c : Nat) (xs : List α) : Prop :=
  ∃ F, OwnF T e F w B A n c xs ∧ (∀ b, F b → b < S ∧ B ≤ b ∧ col b = i) ∧ (∀ b, A.map (·.block) = some b → b < S ∧ col b = i)
/-- The color of new blocks. -/
def recolor (col : Nat → Nat) (i s : Nat) (b : Nat) : Nat := if s ≤ b then i else col b
theorem recolor_old (col : Nat → Nat) (i s b : Nat) (h : b < s) : recolor col i s b = col b := by unfold recolor; rw [if_neg (by omega)]
theorem recolor_new (col : Nat → Nat) (i s b : Nat) (h : s ≤ b) : recolor col i s b = i := by unfold recolor; rw [if_pos h]
section
variable {α : Type} {T : Ty α} {e : TypeId} {col col' : Nat → Nat} {i B S S' : Nat} {w w' : World} {A A' : Option Addr} {n c c' : Nat} {xs : List α}
theorem Col.nil_ (T : Ty α) (e : TypeId) (col : Nat → Nat) (i B S : Nat) (w : World) : Col T e col i B S w none 0 0 [] := ⟨fun _ => False, OwnF.nil_ T e _ w B, by simp, by simp⟩
theorem Col.len (h : Col T e col i B S w A n c xs) : n = xs.length := by obtain ⟨F, h, _⟩ := h; exact h.len
theorem OwnF.lies' {F : Nat → Prop} (h : OwnF T e F w B A n c xs) {b : Nat} (hb : A.map (·.block) = some b) : A = some ⟨b, 0, none⟩ ∧ B ≤ b ∧ b < w.heap.size := h.lies (by rw [ownBlock_slice]; exact hb)
theorem Col.lies (h : Col T e col i B S w A n c xs) {b : Nat} (hb : A.map (·.block) = some b) : B ≤ b ∧ b < S ∧ col b = i := by
  obtain ⟨F, h1, h2, h3⟩ := h
  exact ⟨(h1.lies' hb).2.1, h3 b hb⟩
theorem Col.keep (h : Col T e col i B S w A n c xs) (hs : w.heap.size ≤ w'.heap.size) (hk : ∀ b, B ≤ b → b < S → b < w.heap.size → col b = i → w'.heap[b]? = w.heap[b]?) : Col T e col i B S w' A n c xs := by
  obtain ⟨F, h1, h2, h3⟩ := h
  refine ⟨F, h1.keep hs fun b hb hl => ?_, h2, h3⟩
  rcases hb with hb | ⟨rfl, hb⟩
  · exact hk b (h2 b hb).2.1 (h2 b hb).1 hl (h2 b hb).2.2
  · exact hk b hb (h3 b rfl).1 hl (h3 b rfl).2
theorem Col.recol (h : Col T e col i B S w A n c xs) (hc : ∀ b, b < S → col' b = col b) (hS : S ≤ S') : Col T e col' i B S' w A n c xs := by
  obtain ⟨F, h1, h2, h3⟩ := h
  exact ⟨F, h1, fun b hb => ⟨by have := (h2 b hb).1; omega, (h2 b hb).2.1, (hc b (h2 b hb).1).trans (h2 b hb).2.2⟩, fun b hb => ⟨by have := (h3 b hb).1; omega, (hc b (h3 b hb).1).trans (h3 b hb).2⟩⟩
/-- The blocks that the list leans on, as one word. -/
theorem Col.sl (h : Col T e col i B S w A n c xs) : Sl T (fun b => B ≤ b) w A n c xs := by
  obtain ⟨F, h1, h2, h3⟩ := h
  refine h1.sl.weaken fun b hb _ => ?_
  rcases hb with hb | hb
  · exact (h2 b hb).2.1
  · exact hb.2
/-- Behind an append onto the list of color i: what the new element leads to lies from S on. -/
theorem Col.apd {F G : Nat → Prop} {a0 w2 w3 : World} {m : Nat} {ys : List α} (h2 : ∀ b, F b → b < S ∧ B ≤ b ∧ col b = i) (h3 : ∀ b, A.map (·.block) = some b → b < S ∧ col b = i)
    (hG : ∀ b, G b → S ≤ b) (hB : B ≤ S) (hs2 : S ≤ w2.heap.size) (ha : ApdL T e (fun b => (F b ∨ G b) ∧ b < w3.heap.size) a0 w2 w' B A A' m c' ys) :
    Col T e (recolor col i S) i B w'.heap.size w' A' m c' ys := by
  have hg := ha.grown.size
  refine ⟨fun b => ((F b ∨ G b) ∧ b < w3.heap.size) ∧ b < w'.heap.size, ha.own.weaken (fun b h1 h2 => ⟨h1, h2⟩) (fun b e1 e2 e3 => ?_), fun b hb => ?_, fun b hb => ⟨(ha.own.lies' hb).2.2, ?_⟩⟩
  · rintro ⟨h4, _⟩
    exact ha.own.off b 0 e1 h4
  · rcases hb with ⟨⟨hb | hb, _⟩, hl⟩
    · have := h2 b hb
      exact ⟨hl, this.2.1, (recolor_old _ _ _ _ (by omega)).trans this.2.2⟩
    · have := hG b hb
      exact ⟨hl, by omega, recolor_new _ _ _ _ this⟩
  · rcases Nat.lt_or_ge b S with hl | hl
    · rw [recolor_old _ _ _ _ hl]
      rcases ha.lies with h | h
      · exact (h3 b (by rw [← h]; exact hb)).2
      · rw [h] at hb; injection hb with hb; omega
    · exact recolor_new _ _ _ _ hl
/-- Any list, where a block changed that is below B, or of another color. -/
theorem Col.other {row : Option Nat} (h : Col T e col i B S w A n c xs) (hg : w.grownBy w' row) (hr : ∀ g, row = some g → g < B ∨ col g ≠ i) : Col T e col i B S w' A n c xs :=
  h.keep hg.size fun b hB _ hl hc => hg.block b hl fun e => by
    rcases hr b e.symm with h | h
    · omega
    · exact h hc
/-- A list behind an append onto another one, of color k. -/
theorem Col.past {k : Nat} {A2 : Option Addr} (h : Col T e col i B S w A n c xs) (hki : k ≠ i) (hA2 : ∀ b, A2.map (·.block) = some b → b < S ∧ col b = k) (hg : w.grownBy w' (A2.map (·.block))) (hS : S ≤ w'.heap.size) :
    Col T e (recolor col k S) i B w'.heap.size w' A n c xs :=
  (h.other hg fun b hb => .inr (by rw [(hA2 b hb).2]; exact hki)).recol (fun b hb => recolor_old _ _ _ _ hb) hS
theorem Col.setP (h : Col T e col i B S w A n c xs) {b j : Nat} (hb : b < B) (v : Value) : Col T e col i B S (w.setCell ⟨b, j, none⟩ v) A n c xs :=
  h.keep (by simp) fun k hk _ _ _ => Below.heap_setCell w ⟨b, j, none⟩ v k (fun e => by simp at e; omega)
end
end Go.Proofs.YtojenpjafgfpaaaDoor
