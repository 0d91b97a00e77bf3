/- Memory words for all walks of this claim: what a slice reads as, what a call owns, and how both are kept. No condition; no program in sight. -/
import Derived.WalkKit
import Derived.WalkSpells
import Derived.WalkLawsBesides
import Derived.Maps.AppendAt
import Derived.Deep.AppendLies
import Derived.Deep.Draws
import Derived.Lib.Hide
namespace Go.Proofs.YtollmolchcnpeaaGreatDoor
open Go Go.RowKit

theorem add_lit (b o j : Nat) : (⟨b, o, none⟩ : Addr).add j = ⟨b, o + j, none⟩ := by
  unfold Addr.add; split <;> simp_all

/-- The cells xs lie at A, in a block of which F holds. -/
def Rd (F : Nat → Prop) (w : World) (A : Option Addr) (xs : List Value) : Prop :=
  xs ≠ [] → ∃ b o, A = some ⟨b, o, none⟩ ∧ F b ∧ b < w.heap.size ∧ ∀ j u, xs[j]? = some u → w.cell? ⟨b, o + j, none⟩ = some u

section
variable {F F' : Nat → Prop} {w w' : World} {A : Option Addr} {xs ys : List Value}
theorem Rd.nil_ : Rd F w A [] := fun h => absurd rfl h
theorem Rd.keep (h : Rd F w A xs) (hs : w.heap.size ≤ w'.heap.size) (hk : ∀ b, F b → b < w.heap.size → w'.heap[b]? = w.heap[b]?) : Rd F w' A xs := fun hx => by
  obtain ⟨b, o, e, hF, hb, hc⟩ := h hx
  exact ⟨b, o, e, hF, by omega, fun j u hu => (World.cell?_of_block (a := ⟨b, o + j, none⟩) (hk b hF hb)).trans (hc j u hu)⟩
theorem Rd.weaken (h : Rd F w A xs) (hF : ∀ b, F b → b < w.heap.size → F' b) : Rd F' w A xs := fun hx => by
  obtain ⟨b, o, e, hf, hb, hc⟩ := h hx
  exact ⟨b, o, e, hF b hf hb, hb, hc⟩
theorem Rd.any (h : Rd F w A xs) : Rd (fun _ => True) w A xs := h.weaken fun _ _ _ => trivial
theorem Rd.below {B : Nat} (h : Rd F w A xs) (hb : Below B w w') (hB : w.heap.size ≤ B) : Rd F w' A xs := h.keep hb.size fun b _ hl => hb.block b (by omega)
theorem Rd.grown {row : Option Nat} (h : Rd F w A xs) (hg : w.grownBy w' row) (hr : ∀ g, row = some g → ¬ F g) : Rd F w' A xs :=
  h.keep hg.size fun b hF hl => hg.block b hl (fun e => hr b e.symm hF)
theorem Rd.alloc (h : Rd F w A xs) (o : Obj) : Rd F (w.alloc o) A xs := h.keep (by simp) fun b _ hl => Below.heap_alloc w o b hl
theorem Rd.drew (h : Rd F w A xs) : Rd F w.drew A xs := h
theorem Rd.drewN (h : Rd F w A xs) (n : Nat) : Rd F (w.drewN n) A xs := h
theorem Rd.setCell (h : Rd F w A xs) {p : Addr} (hp : ¬ F p.block) (u : Value) : Rd F (w.setCell p u) A xs :=
  h.keep (by simp) fun b hF _ => Below.heap_setCell w p u b (fun e => hp (e ▸ hF))
theorem Rd.at_ {j : Nat} {u : Value} (h : Rd F w A xs) (hj : xs[j]? = some u) : ∃ b o, A = some ⟨b, o, none⟩ ∧ F b ∧ b < w.heap.size ∧ w.cell? ⟨b, o + j, none⟩ = some u := by
  obtain ⟨b, o, e, hF, hb, hc⟩ := h (by rintro rfl; simp at hj)
  exact ⟨b, o, e, hF, hb, hc j u hj⟩
/-- A part of what is read is read. -/
theorem Rd.part {c k s : Nat} (h : Rd F w A xs) (he : ∃ as zs, xs = as ++ ys ++ zs ∧ as.length = k * s) (hc : xs.length ≤ c * s) :
    Rd F w (if c = k then A else A.map (·.add (k * s))) ys := fun hy => by
  obtain ⟨as, zs, rfl, hk⟩ := he
  obtain ⟨b, o, e, hF, hb, hcell⟩ := h (by simp [hy])
  have hl : 0 < ys.length := List.length_pos_iff.2 hy
  have hne : c ≠ k := by
    rintro rfl
    simp only [List.length_append] at hc
    omega
  refine ⟨b, o + k * s, by rw [if_neg hne, e]; simp [add_lit], hF, hb, fun j u hu => ?_⟩
  rw [Nat.add_assoc]
  refine hcell _ u ?_
  have hj : j < ys.length := by
    rcases Nat.lt_or_ge j ys.length with h | h
    · exact h
    · rw [List.getElem?_eq_none h] at hu; cases hu
  rw [List.append_assoc, List.getElem?_append_right (by omega), hk, show k * s + j - k * s = j by omega, List.getElem?_append_left hj]
  exact hu
/-- The first part. -/
theorem Rd.front {zs : List Value} (h : Rd F w A (ys ++ zs)) : Rd F w A ys := fun hy => by
  obtain ⟨b, o, e, hF, hb, hcell⟩ := h (by simp [hy])
  refine ⟨b, o, e, hF, hb, fun j u hu => hcell j u ?_⟩
  have hj : j < ys.length := by
    rcases Nat.lt_or_ge j ys.length with h | h
    · exact h
    · rw [List.getElem?_eq_none h] at hu; cases hu
  rw [List.getElem?_append_left hj]; exact hu
/-- What a row owns is read. -/
theorem Rd.own {base : Nat} {e : TypeId} {size n c : Nat} (h : w.ownsRow base e size (.slice A n c) n xs) : Rd (fun b => A = some ⟨b, 0, none⟩ ∧ base ≤ b) w A xs := fun hx => by
  rcases h.2 with ⟨h1, rfl⟩ | ⟨g, cap, cur, h1, hb, hg, hn, _, _, ht⟩
  · have := h.1; simp at this; exact absurd this hx
  · injection h1 with hA
    refine ⟨g, 0, hA, ⟨hA, hb⟩, (Array.getElem?_eq_some_iff.1 hg).1, fun j u hu => ?_⟩
    have := h.cells (g := g) (by simp [Value.ownBlock, hA]) j u hu
    rwa [add_lit] at this
/-- The cells as the laws on append ask them. -/
theorem Rd.news (h : Rd F w A xs) {ad : Addr} (hA : A = some ad) : ∀ j u, xs[j]? = some u → w.cell? (ad.add j) = some u := fun j u hu => by
  obtain ⟨b, o, e, _, _, hc⟩ := h (by rintro rfl; simp at hu)
  rw [hA] at e; injection e with e; subst e
  rw [add_lit]; exact hc j u hu
end

/-- A slice type, its element's row of the table. -/
structure ElemOf (P : Program) (t e : TypeId) (size : Nat) : Prop where
  und : P.underlying t = some (.slice e)
  info : ∃ i z, P.info? e = some i ∧ i.zero = some z ∧ i.size = size ∧ i.bytes ≤ 1024 ∧ z.cells.size = size ∧ 0 < size
theorem ElemOf.mk' {P : Program} {t e : TypeId} {z : Value} {size bytes : Nat} (ht : P.underlying t = some (.slice e)) (h : (P.info? e).map (fun i => (i.zero, i.size, i.bytes)) = some (some z, size, bytes))
    (hz : z.cells.size = size) (hs : 0 < size) (hb : bytes ≤ 1024) : ElemOf P t e size := by
  obtain ⟨i, hi, h0, h1, h2⟩ := info_parts h
  exact ⟨ht, i, z, hi, h0, h1, by omega, hz, hs⟩

/-- append onto a row of the call's own, the source whatever: nil, empty, or not. -/
theorem run_append_rd {P : Program} {t e : TypeId} {size : Nat} (E : ElemOf P t e size) (ty : TypeId) (w : World) (base : Nat)
    (v : Value) (n : Nat) (xs : List Value) (hown : w.ownsRow base e size v n xs)
    (F : Nat → Prop) (A : Option Addr) (m c : Nat) (news : List Value) (hl : news.length = m * size) (hr : Rd F w A news) (h1 : ∀ u ∈ news, u.oneCell' = true)
    (hlim : n + m ≤ 68719476736) (hbase : base ≤ w.heap.size) :
    ∃ A' c' w', (Builtin.append_ #[t, t] ty #[v, .slice A m c]).run P w = .ok (.slice A' (n + m) c') w' ∧ w'.ownsRow base e size (.slice A' (n + m) c') (n + m) (xs ++ news) ∧ w.grownBy w' v.ownBlock ∧
      (A'.map (·.block) = v.ownBlock ∨ A'.map (·.block) = some w.heap.size) := by
  obtain ⟨ht, i, z, hi, hz, hsize, hby, hzs, hsz⟩ := E
  have shape : ∀ (v' : Value) (w' : World), w'.ownsRow base e size v' (n + m) (xs ++ news) → ∃ (A' : Option Addr) (c' : Nat), v' = Value.slice A' (n + m) c' ∧ v'.ownBlock = A'.map (·.block) := by
    intro v' w' ho
    rcases ho.2 with ⟨rfl, h0⟩ | ⟨g, cap, cur, rfl, _⟩
    · exact ⟨none, 0, by rw [h0], rfl⟩
    · exact ⟨_, cap, rfl, rfl⟩
  by_cases hne : A = none
  · subst hne
    have hn : news = [] := by
      rcases List.eq_nil_or_concat news with h | ⟨l, u, rfl⟩
      · exact h
      · obtain ⟨_, _, h, _⟩ := hr (by simp); cases h
    subst hn
    have hm : m = 0 := by
      rcases Nat.eq_zero_or_pos m with h | h
      · exact h
      · have := Nat.mul_pos h hsz; simp at hl; omega
    subst hm
    have hrun : (Builtin.append_ #[t, t] ty #[v, .slice none 0 c]).run P w = .ok v w := by
      rcases hown.2 with ⟨rfl, rfl⟩ | ⟨g, cap, cur, rfl, _, _, hnc, _⟩
      · simp [Builtin.append_, run_underlying ht, sizeOf, typeInfo, hi, Builtin.lenOf, Builtin.firstCells]
      · simp [Builtin.append_, run_underlying ht, sizeOf, typeInfo, hi, Builtin.lenOf, Builtin.firstCells, hnc, storeCells]
    have ho : w.ownsRow base e size v (n + 0) (xs ++ []) := by simpa using hown
    obtain ⟨A', c', e1, e2⟩ := shape v w ho
    refine ⟨A', c', w, by rw [hrun, e1], by rw [← e1]; exact ho, World.grownBy.refl w _, .inl ?_⟩
    rw [e2]
  · obtain ⟨ad, rfl⟩ := Option.ne_none_iff_exists'.1 hne
    obtain ⟨v', w', hrun, h2, h3, _, h5⟩ := run_append_own_at (P := P) w base t ty e i z size i.bytes ht hi hz hsize rfl hzs hsz v n xs hown ad m c news hl (hr.news rfl) h1 (by simp only [maxLen]; omega)
      (Nat.le_trans (Nat.mul_le_mul_left _ hby) (by omega)) hbase
    obtain ⟨A', c', rfl, e2⟩ := shape v' w' h2
    exact ⟨A', c', w', hrun, h2, h3, by rw [← e2]; exact h5⟩

/-- What an append onto a row of the call's own leaves: the row, longer; what was below as it was; all but the row's block as it was; where the row lies. -/
structure Apd (a0 w w' : World) (B : Nat) (e : TypeId) (size : Nat) (v0 : Value) (A' : Option Addr) (n c' : Nat) (xs : List Value) : Prop where
  own : w'.ownsRow B e size (.slice A' n c') n xs
  below : Below B a0 w'
  grown : w.grownBy w' v0.ownBlock
  lies : A'.map (·.block) = v0.ownBlock ∨ A'.map (·.block) = some w.heap.size

section
variable {P : Program} {t e : TypeId} {size : Nat} (E : ElemOf P t e size) (w a0 : World) {ops : Array Oper} {rest : List Oper} {o : Oper} {a : Act} {Q : Exit → Act → World → Prop}
include E
theorem wp_ap {K : Act → World → Prop} (s x : Operand) (ho : o.op = .call { callee := .builtin .append, args := #[s, x], argTypes := #[t, t] }) (B : Nat) (v0 : Value) (n : Nat) (xs : List Value) (hs : a.eval s = v0)
    (hown : w.ownsRow B e size v0 n xs) (hb : Below B a0 w) (hB : B ≤ a0.heap.size)
    (F : Nat → Prop) (A : Option Addr) (m c : Nat) (news : List Value) (hx : a.eval x = .slice A m c) (hl : news.length = m * size) (hr : Rd F w A news) (h1 : ∀ u ∈ news, u.oneCell' = true) (hlim : n + m ≤ 68719476736)
    (h : ∀ A' c' w', Apd a0 w w' B e size v0 A' (n + m) c' (xs ++ news) → K (a.put o.dst (.slice A' (n + m) c')) w') : o.wp P a w K Q := by
  have hbase : B ≤ w.heap.size := Nat.le_trans hB hb.size
  obtain ⟨A', c', w', hrun, h2, h3, h4⟩ := run_append_rd E o.type w B v0 n xs hown F A m c news hl hr h1 hlim hbase
  unfold Oper.wp execOp
  simp only [ho, resolve, invoke, builtin, Sem.run_bind, Sem.run_pure, Result.andThen_ok, List.map_toArray, List.map_cons, List.map_nil, hs, hx, hrun]
  exact h A' c' w' ⟨h2, hb.grown h3 hbase (fun k hk => (hown.lt k hk).1), h3, h4⟩
theorem ap (hgd : o.guard = none) (s x : Operand) (ho : o.op = .call { callee := .builtin .append, args := #[s, x], argTypes := #[t, t] }) (B : Nat) (v0 : Value) (n : Nat) (xs : List Value) (hs : a.eval s = v0)
    (hown : w.ownsRow B e size v0 n xs) (hb : Below B a0 w) (hB : B ≤ a0.heap.size)
    (F : Nat → Prop) (A : Option Addr) (m c : Nat) (news : List Value) (hx : a.eval x = .slice A m c) (hl : news.length = m * size) (hr : Rd F w A news) (h1 : ∀ u ∈ news, u.oneCell' = true) (hlim : n + m ≤ 68719476736)
    (h : ∀ A' c' w', Apd a0 w w' B e size v0 A' (n + m) c' (xs ++ news) → wpList P ops Q rest (a.put o.dst (.slice A' (n + m) c')) w') : wpList P ops Q (o :: rest) a w :=
  wpList_plain hgd fun _ hK => wp_ap E w a0 s x ho B v0 n xs hs hown hb hB F A m c news hx hl hr h1 hlim fun A' c' w' h2 => hK _ _ (h A' c' w' h2)
theorem step_ap {K : Act → World → Prop} {E' : Prop} (hgd : o.guard = none) (s x : Operand) (ho : o.op = .call { callee := .builtin .append, args := #[s, x], argTypes := #[t, t] }) (B : Nat) (v0 : Value) (n : Nat) (xs : List Value) (hs : a.eval s = v0)
    (hown : w.ownsRow B e size v0 n xs) (hb : Below B a0 w) (hB : B ≤ a0.heap.size)
    (F : Nat → Prop) (A : Option Addr) (m c : Nat) (news : List Value) (hx : a.eval x = .slice A m c) (hl : news.length = m * size) (hr : Rd F w A news) (h1 : ∀ u ∈ news, u.oneCell' = true) (hlim : n + m ≤ 68719476736)
    (h : ∀ A' c' w', Apd a0 w w' B e size v0 A' (n + m) c' (xs ++ news) → K (a.put o.dst (.slice A' (n + m) c')) w') :
    if Region.wanted o (yielded ops a.tmps) = true then Oper.wp P o a w K Q else E' := by
  have hw : Region.wanted o (yielded ops a.tmps) = true := by simp [Region.wanted, hgd]
  rw [if_pos hw]
  exact wp_ap E w a0 s x ho B v0 n xs hs hown hb hB F A m c news hx hl hr h1 hlim h
end

/-- One element, laid into a block of its own ahead of an append. -/
theorem Rd.new (w : World) (cs : List Value) (t : TypeId) : Rd (fun b => b = w.heap.size) (w.alloc (.cells cs.toArray t)) (some ⟨w.heap.size, 0, none⟩) cs := fun _ =>
  ⟨_, 0, rfl, rfl, by simp, fun j u hu => by rw [Nat.zero_add, World.cell?_alloc_new]; simpa using hu⟩

/-- A call that makes memory and touches none that was there. -/
theorem bcell {B : Nat} {W w1 : World} (hb : Below B W w1) : (∀ b o, b < B → w1.cell? ⟨b, o, none⟩ = W.cell? ⟨b, o, none⟩) ∧ (∀ b o, b < B → w1.frozen? ⟨b, o, none⟩ = W.frozen? ⟨b, o, none⟩) :=
  ⟨fun b o h => hb.cell (p := ⟨b, o, none⟩) h, fun b o h => hb.frozen (p := ⟨b, o, none⟩) h⟩

theorem bthen {a w w' : World} (h : Below a.heap.size a w) (k : Below w.heap.size w w') : Below a.heap.size a w' := h.trans (k.mono h.size)
theorem balloc {a w : World} (h : Below a.heap.size a w) (o : Obj) : Below a.heap.size a (w.alloc o) := h.alloc h.size o
theorem bdrew {a w : World} (h : Below a.heap.size a w) : Below a.heap.size a w.drew := h.drew
theorem bset {a w : World} (h : Below a.heap.size a w) {p : Addr} (hp : a.heap.size ≤ p.block) (u : Value) : Below a.heap.size a (w.setCell p u) := h.setCell hp u
theorem bwiden {B : Nat} {a w w' : World} (h : Below B a w) (k : Below w.heap.size w w') (hB : B ≤ w.heap.size) : Below B a w' := h.trans (k.mono hB)

end Go.Proofs.YtollmolchcnpeaaGreatDoor
