/- Memory words for all walks of this claim: what a slice reads as, what a call owns, and how both are kept. No condition; no program in sight. Go's types as words: how a value of Lean's lies in memory as cells; slices that read as lists; lists that a call builds. No condition; no program in sight. -/
import Derived.WalkKit
import Derived.WalkSpells
import Derived.WalkLawsBesides
import Derived.Maps.AppendAt
import Derived.Deep.AppendLies
import Derived.Deep.Draws
import Derived.Lib.Hide
namespace Go.Proofs.YtpmglcachffojaaGreatDoor
open Go Go.RowKit

theorem add_lit (b o j : Nat) : (⟨b, o, none⟩ : Addr).add j = ⟨b, o + j, none⟩ := by
  unfold Addr.add; split <;> simp_all

/-- The cells xs lie at A, in a block of which F holds. -/
def Rd (F : Nat → Prop) (w : World) (A : Option Addr) (xs : List Value) : Prop :=
  xs ≠ [] → ∃ b o, A = some ⟨b, o, none⟩ ∧ F b ∧ b < w.heap.size ∧ ∀ j u, xs[j]? = some u → w.cell? ⟨b, o + j, none⟩ = some u

section
variable {F F' : Nat → Prop} {w w' : World} {A : Option Addr} {xs ys : List Value}
theorem Rd.nil_ : Rd F w A [] := fun h => absurd rfl h
theorem Rd.keep (h : Rd F w A xs) (hs : w.heap.size ≤ w'.heap.size) (hk : ∀ b, F b → b < w.heap.size → w'.heap[b]? = w.heap[b]?) : Rd F w' A xs := fun hx => by
  obtain ⟨b, o, e, hF, hb, hc⟩ := h hx
  exact ⟨b, o, e, hF, by omega, fun j u hu => (World.cell?_of_block (a := ⟨b, o + j, none⟩) (hk b hF hb)).trans (hc j u hu)⟩
theorem Rd.weaken (h : Rd F w A xs) (hF : ∀ b, F b → b < w.heap.size → F' b) : Rd F' w A xs := fun hx => by
  obtain ⟨b, o, e, hf, hb, hc⟩ := h hx
  exact ⟨b, o, e, hF b hf hb, hb, hc⟩
theorem Rd.any (h : Rd F w A xs) : Rd (fun _ => True) w A xs := h.weaken fun _ _ _ => trivial
theorem Rd.below {B : Nat} (h : Rd F w A xs) (hb : Below B w w') (hB : w.heap.size ≤ B) : Rd F w' A xs := h.keep hb.size fun b _ hl => hb.block b (by omega)
theorem Rd.grown {row : Option Nat} (h : Rd F w A xs) (hg : w.grownBy w' row) (hr : ∀ g, row = some g → ¬ F g) : Rd F w' A xs :=
  h.keep hg.size fun b hF hl => hg.block b hl (fun e => hr b e.symm hF)
theorem Rd.alloc (h : Rd F w A xs) (o : Obj) : Rd F (w.alloc o) A xs := h.keep (by simp) fun b _ hl => Below.heap_alloc w o b hl
theorem Rd.drew (h : Rd F w A xs) : Rd F w.drew A xs := h
theorem Rd.drewN (h : Rd F w A xs) (n : Nat) : Rd F (w.drewN n) A xs := h
theorem Rd.setCell (h : Rd F w A xs) {p : Addr} (hp : ¬ F p.block) (u : Value) : Rd F (w.setCell p u) A xs :=
  h.keep (by simp) fun b hF _ => Below.heap_setCell w p u b (fun e => hp (e ▸ hF))
theorem Rd.at_ {j : Nat} {u : Value} (h : Rd F w A xs) (hj : xs[j]? = some u) : ∃ b o, A = some ⟨b, o, none⟩ ∧ F b ∧ b < w.heap.size ∧ w.cell? ⟨b, o + j, none⟩ = some u := by
  obtain ⟨b, o, e, hF, hb, hc⟩ := h (by rintro rfl; simp at hj)
  exact ⟨b, o, e, hF, hb, hc j u hj⟩
/-- A part of what is read is read. -/
theorem Rd.part {c k s : Nat} (h : Rd F w A xs) (he : ∃ al zs, xs = al ++ ys ++ zs ∧ al.length = k * s) (hc : xs.length ≤ c * s) :
    Rd F w (if c = k then A else A.map (·.add (k * s))) ys := fun hy => by
  obtain ⟨al, zs, rfl, hk⟩ := he
  obtain ⟨b, o, e, hF, hb, hcell⟩ := h (by simp [hy])
  have hl : 0 < ys.length := List.length_pos_iff.2 hy
  have hne : c ≠ k := by
    rintro rfl
    simp only [List.length_append] at hc
    omega
  refine ⟨b, o + k * s, by rw [if_neg hne, e]; simp [add_lit], hF, hb, fun j u hu => ?_⟩
  rw [Nat.add_assoc]
  refine hcell _ u ?_
  have hj : j < ys.length := by
    rcases Nat.lt_or_ge j ys.length with h | h
    · exact h
    · rw [List.getElem?_eq_none h] at hu; cases hu
  rw [List.append_assoc, List.getElem?_append_right (by omega), hk, show k * s + j - k * s = j by omega, List.getElem?_append_left hj]
  exact hu
/-- The first part. -/
theorem Rd.front {zs : List Value} (h : Rd F w A (ys ++ zs)) : Rd F w A ys := fun hy => by
  obtain ⟨b, o, e, hF, hb, hcell⟩ := h (by simp [hy])
  refine ⟨b, o, e, hF, hb, fun j u hu => hcell j u ?_⟩
  have hj : j < ys.length := by
    rcases Nat.lt_or_ge j ys.length with h | h
    · exact h
    · rw [List.getElem?_eq_none h] at hu; cases hu
  rw [List.getElem?_append_left hj]; exact hu
/-- What a row owns is read. -/
theorem Rd.own {base : Nat} {e : TypeId} {size n c : Nat} (h : w.ownsRow base e size (.slice A n c) n xs) : Rd (fun b => A = some ⟨b, 0, none⟩ ∧ base ≤ b) w A xs := fun hx => by
  rcases h.2 with ⟨h1, rfl⟩ | ⟨g, cap, cur, h1, hb, hg, hn, _, _, ht⟩
  · have := h.1; simp at this; exact absurd this hx
  · injection h1 with hA
    refine ⟨g, 0, hA, ⟨hA, hb⟩, (Array.getElem?_eq_some_iff.1 hg).1, fun j u hu => ?_⟩
    have := h.cells (g := g) (by simp [Value.ownBlock, hA]) j u hu
    rwa [add_lit] at this
/-- The cells as the laws on append ask them. -/
theorem Rd.news (h : Rd F w A xs) {ad : Addr} (hA : A = some ad) : ∀ j u, xs[j]? = some u → w.cell? (ad.add j) = some u := fun j u hu => by
  obtain ⟨b, o, e, _, _, hc⟩ := h (by rintro rfl; simp at hu)
  rw [hA] at e; injection e with e; subst e
  rw [add_lit]; exact hc j u hu
end

/-- A slice type, its element's row of the table. -/
structure ElemOf (P : Program) (t e : TypeId) (size : Nat) : Prop where
  und : P.underlying t = some (.slice e)
  info : ∃ i z, P.info? e = some i ∧ i.zero = some z ∧ i.size = size ∧ i.bytes ≤ 1024 ∧ z.cells.size = size ∧ 0 < size
theorem ElemOf.mk' {P : Program} {t e : TypeId} {z : Value} {size bytes : Nat} (ht : P.underlying t = some (.slice e)) (h : (P.info? e).map (fun i => (i.zero, i.size, i.bytes)) = some (some z, size, bytes))
    (hz : z.cells.size = size) (hs : 0 < size) (hb : bytes ≤ 1024) : ElemOf P t e size := by
  obtain ⟨i, hi, h0, h1, h2⟩ := info_parts h
  exact ⟨ht, i, z, hi, h0, h1, by omega, hz, hs⟩

/-- append onto a row of the call's own, the source whatever: nil, empty, or not. -/
theorem run_append_rd {P : Program} {t e : TypeId} {size : Nat} (E : ElemOf P t e size) (ty : TypeId) (w : World) (base : Nat)
    (v : Value) (n : Nat) (xs : List Value) (hown : w.ownsRow base e size v n xs)
    (F : Nat → Prop) (A : Option Addr) (m c : Nat) (news : List Value) (hl : news.length = m * size) (hr : Rd F w A news) (h1 : ∀ u ∈ news, u.oneCell' = true)
    (hlim : n + m ≤ 68719476736) (hbase : base ≤ w.heap.size) :
    ∃ A' c' w', (Builtin.append_ #[t, t] ty #[v, .slice A m c]).run P w = .ok (.slice A' (n + m) c') w' ∧ w'.ownsRow base e size (.slice A' (n + m) c') (n + m) (xs ++ news) ∧ w.grownBy w' v.ownBlock ∧
      (A'.map (·.block) = v.ownBlock ∨ A'.map (·.block) = some w.heap.size) := by
  obtain ⟨ht, i, z, hi, hz, hsize, hby, hzs, hsz⟩ := E
  have shape : ∀ (v' : Value) (w' : World), w'.ownsRow base e size v' (n + m) (xs ++ news) → ∃ (A' : Option Addr) (c' : Nat), v' = Value.slice A' (n + m) c' ∧ v'.ownBlock = A'.map (·.block) := by
    intro v' w' ho
    rcases ho.2 with ⟨rfl, h0⟩ | ⟨g, cap, cur, rfl, _⟩
    · exact ⟨none, 0, by rw [h0], rfl⟩
    · exact ⟨_, cap, rfl, rfl⟩
  by_cases hne : A = none
  · subst hne
    have hn : news = [] := by
      rcases List.eq_nil_or_concat news with h | ⟨l, u, rfl⟩
      · exact h
      · obtain ⟨_, _, h, _⟩ := hr (by simp); cases h
    subst hn
    have hm : m = 0 := by
      rcases Nat.eq_zero_or_pos m with h | h
      · exact h
      · have := Nat.mul_pos h hsz; simp at hl; omega
    subst hm
    have hrun : (Builtin.append_ #[t, t] ty #[v, .slice none 0 c]).run P w = .ok v w := by
      rcases hown.2 with ⟨rfl, rfl⟩ | ⟨g, cap, cur, rfl, _, _, hnc, _⟩
      · simp [Builtin.append_, run_underlying ht, sizeOf, typeInfo, hi, Builtin.lenOf, Builtin.firstCells]
      · simp [Builtin.append_, run_underlying ht, sizeOf, typeInfo, hi, Builtin.lenOf, Builtin.firstCells, hnc, storeCells]
    have ho : w.ownsRow base e size v (n + 0) (xs ++ []) := by simpa using hown
    obtain ⟨A', c', e1, e2⟩ := shape v w ho
    refine ⟨A', c', w, by rw [hrun, e1], by rw [← e1]; exact ho, World.grownBy.refl w _, .inl ?_⟩
    rw [e2]
  · obtain ⟨ad, rfl⟩ := Option.ne_none_iff_exists'.1 hne
    obtain ⟨v', w', hrun, h2, h3, _, h5⟩ := run_append_own_at (P := P) w base t ty e i z size i.bytes ht hi hz hsize rfl hzs hsz v n xs hown ad m c news hl (hr.news rfl) h1 (by simp only [maxLen]; omega)
      (Nat.le_trans (Nat.mul_le_mul_left _ hby) (by omega)) hbase
    obtain ⟨A', c', rfl, e2⟩ := shape v' w' h2
    exact ⟨A', c', w', hrun, h2, h3, by rw [← e2]; exact h5⟩

/-- What an append onto a row of the call's own leaves: the row, longer; what was below as it was; all but the row's block as it was; where the row lies. -/
structure Apd (a0 w w' : World) (B : Nat) (e : TypeId) (size : Nat) (v0 : Value) (A' : Option Addr) (n c' : Nat) (xs : List Value) : Prop where
  own : w'.ownsRow B e size (.slice A' n c') n xs
  below : Below B a0 w'
  grown : w.grownBy w' v0.ownBlock
  lies : A'.map (·.block) = v0.ownBlock ∨ A'.map (·.block) = some w.heap.size

section
variable {P : Program} {t e : TypeId} {size : Nat} (E : ElemOf P t e size) (w a0 : World) {ops : Array Oper} {rest : List Oper} {o : Oper} {a : Act} {Q : Exit → Act → World → Prop}
include E
theorem wp_ap {K : Act → World → Prop} (s x : Operand) (ho : o.op = .call { callee := .builtin .append, args := #[s, x], argTypes := #[t, t] }) (B : Nat) (v0 : Value) (n : Nat) (xs : List Value) (hs : a.eval s = v0)
    (hown : w.ownsRow B e size v0 n xs) (hb : Below B a0 w) (hB : B ≤ a0.heap.size)
    (F : Nat → Prop) (A : Option Addr) (m c : Nat) (news : List Value) (hx : a.eval x = .slice A m c) (hl : news.length = m * size) (hr : Rd F w A news) (h1 : ∀ u ∈ news, u.oneCell' = true) (hlim : n + m ≤ 68719476736)
    (h : ∀ A' c' w', Apd a0 w w' B e size v0 A' (n + m) c' (xs ++ news) → K (a.put o.dst (.slice A' (n + m) c')) w') : o.wp P a w K Q := by
  have hbase : B ≤ w.heap.size := Nat.le_trans hB hb.size
  obtain ⟨A', c', w', hrun, h2, h3, h4⟩ := run_append_rd E o.type w B v0 n xs hown F A m c news hl hr h1 hlim hbase
  unfold Oper.wp execOp
  simp only [ho, resolve, invoke, builtin, Sem.run_bind, Sem.run_pure, Result.andThen_ok, List.map_toArray, List.map_cons, List.map_nil, hs, hx, hrun]
  exact h A' c' w' ⟨h2, hb.grown h3 hbase (fun k hk => (hown.lt k hk).1), h3, h4⟩
theorem ap (hgd : o.guard = none) (s x : Operand) (ho : o.op = .call { callee := .builtin .append, args := #[s, x], argTypes := #[t, t] }) (B : Nat) (v0 : Value) (n : Nat) (xs : List Value) (hs : a.eval s = v0)
    (hown : w.ownsRow B e size v0 n xs) (hb : Below B a0 w) (hB : B ≤ a0.heap.size)
    (F : Nat → Prop) (A : Option Addr) (m c : Nat) (news : List Value) (hx : a.eval x = .slice A m c) (hl : news.length = m * size) (hr : Rd F w A news) (h1 : ∀ u ∈ news, u.oneCell' = true) (hlim : n + m ≤ 68719476736)
    (h : ∀ A' c' w', Apd a0 w w' B e size v0 A' (n + m) c' (xs ++ news) → wpList P ops Q rest (a.put o.dst (.slice A' (n + m) c')) w') : wpList P ops Q (o :: rest) a w :=
  wpList_plain hgd fun _ hK => wp_ap E w a0 s x ho B v0 n xs hs hown hb hB F A m c news hx hl hr h1 hlim fun A' c' w' h2 => hK _ _ (h A' c' w' h2)
theorem step_ap {K : Act → World → Prop} {E' : Prop} (hgd : o.guard = none) (s x : Operand) (ho : o.op = .call { callee := .builtin .append, args := #[s, x], argTypes := #[t, t] }) (B : Nat) (v0 : Value) (n : Nat) (xs : List Value) (hs : a.eval s = v0)
    (hown : w.ownsRow B e size v0 n xs) (hb : Below B a0 w) (hB : B ≤ a0.heap.size)
    (F : Nat → Prop) (A : Option Addr) (m c : Nat) (news : List Value) (hx : a.eval x = .slice A m c) (hl : news.length = m * size) (hr : Rd F w A news) (h1 : ∀ u ∈ news, u.oneCell' = true) (hlim : n + m ≤ 68719476736)
    (h : ∀ A' c' w', Apd a0 w w' B e size v0 A' (n + m) c' (xs ++ news) → K (a.put o.dst (.slice A' (n + m) c')) w') :
    if Region.wanted o (yielded ops a.tmps) = true then Oper.wp P o a w K Q else E' := by
  have hw : Region.wanted o (yielded ops a.tmps) = true := by simp [Region.wanted, hgd]
  rw [if_pos hw]
  exact wp_ap E w a0 s x ho B v0 n xs hs hown hb hB F A m c news hx hl hr h1 hlim h
end

/-- One element, laid into a block of its own ahead of an append. -/
theorem Rd.new (w : World) (cs : List Value) (t : TypeId) : Rd (fun b => b = w.heap.size) (w.alloc (.cells cs.toArray t)) (some ⟨w.heap.size, 0, none⟩) cs := fun _ =>
  ⟨_, 0, rfl, rfl, by simp, fun j u hu => by rw [Nat.zero_add, World.cell?_alloc_new]; simpa using hu⟩

/-- A call that makes memory and touches none that was there. -/
theorem bcell {B : Nat} {W w1 : World} (hb : Below B W w1) : (∀ b o, b < B → w1.cell? ⟨b, o, none⟩ = W.cell? ⟨b, o, none⟩) ∧ (∀ b o, b < B → w1.frozen? ⟨b, o, none⟩ = W.frozen? ⟨b, o, none⟩) :=
  ⟨fun b o h => hb.cell (p := ⟨b, o, none⟩) h, fun b o h => hb.frozen (p := ⟨b, o, none⟩) h⟩

theorem bthen {a w w' : World} (h : Below a.heap.size a w) (k : Below w.heap.size w w') : Below a.heap.size a w' := h.trans (k.mono h.size)
theorem balloc {a w : World} (h : Below a.heap.size a w) (o : Obj) : Below a.heap.size a (w.alloc o) := h.alloc h.size o
theorem bdrew {a w : World} (h : Below a.heap.size a w) : Below a.heap.size a w.drew := h.drew
theorem bset {a w : World} (h : Below a.heap.size a w) {p : Addr} (hp : a.heap.size ≤ p.block) (u : Value) : Below a.heap.size a (w.setCell p u) := h.setCell hp u
theorem bwiden {B : Nat} {a w w' : World} (h : Below B a w) (k : Below w.heap.size w w') (hB : B ≤ w.heap.size) : Below B a w' := h.trans (k.mono hB)

end Go.Proofs.YtpmglcachffojaaGreatDoor
namespace Go.Proofs.YtpmglcachffojaaGreatDoor
open Go Go.RowKit

/-- How an x lies as cells, in blocks of which F holds. -/
structure Ty (α : Type) where
  size : Nat
  rep : (Nat → Prop) → World → List Value → α → Prop
  len : ∀ {F w cs x}, rep F w cs x → cs.length = size
  one : ∀ {F w cs x}, rep F w cs x → ∀ u ∈ cs, u.oneCell' = true
  keep : ∀ {F w w' cs x}, rep F w cs x → w.heap.size ≤ w'.heap.size → (∀ b, F b → b < w.heap.size → w'.heap[b]? = w.heap[b]?) → rep F w' cs x
  weaken : ∀ {F F' w cs x}, rep F w cs x → (∀ b, F b → b < w.heap.size → F' b) → rep F' w cs x

theorem Ty.below {α : Type} (T : Ty α) {F : Nat → Prop} {w w' : World} {B : Nat} {cs : List Value} {x : α} (h : T.rep F w cs x) (hb : Below B w w') (hB : w.heap.size ≤ B) : T.rep F w' cs x :=
  T.keep h hb.size fun b _ hl => hb.block b (by omega)
theorem Ty.grown {α : Type} (T : Ty α) {F : Nat → Prop} {w w' : World} {row : Option Nat} {cs : List Value} {x : α} (h : T.rep F w cs x) (hg : w.grownBy w' row) (hr : ∀ g, row = some g → ¬ F g) : T.rep F w' cs x :=
  T.keep h hg.size fun b hF hl => hg.block b hl (fun e => hr b e.symm hF)
theorem Ty.alloc {α : Type} (T : Ty α) {F : Nat → Prop} {w : World} {cs : List Value} {x : α} (h : T.rep F w cs x) (o : Obj) : T.rep F (w.alloc o) cs x :=
  T.keep h (by simp) fun b _ hl => Below.heap_alloc w o b hl

def tI64 : Ty Int where
  size := 1
  rep _ _ cs x := cs = [.int .i64 x] ∧ -9223372036854775808 ≤ x ∧ x ≤ 9223372036854775807
  len h := by rw [h.1]; rfl
  one h := by rw [h.1]; intro u hu; simp at hu; subst hu; rfl
  keep h _ _ := h
  weaken h _ := h
def tU64 : Ty Nat where
  size := 1
  rep _ _ cs x := cs = [.int .u64 (x : Int)] ∧ x < 18446744073709551616
  len h := by rw [h.1]; rfl
  one h := by rw [h.1]; intro u hu; simp at hu; subst hu; rfl
  keep h _ _ := h
  weaken h _ := h
def tU8 : Ty UInt8 where
  size := 1
  rep _ _ cs x := cs = [.int .u8 (x.toNat : Int)]
  len h := by rw [h]; rfl
  one h := by rw [h]; intro u hu; simp at hu; subst hu; rfl
  keep h _ _ := h
  weaken h _ := h
def tBool : Ty Bool where
  size := 1
  rep _ _ cs x := cs = [.bool x]
  len h := by rw [h]; rfl
  one h := by rw [h]; intro u hu; simp at hu; subst hu; rfl
  keep h _ _ := h
  weaken h _ := h
def tStr : Ty ByteArray where
  size := 1
  rep _ _ cs x := cs = [.string x] ∧ x.size ≤ maxLen
  len h := by rw [h.1]; rfl
  one h := by rw [h.1]; intro u hu; simp at hu; subst hu; rfl
  keep h _ _ := h
  weaken h _ := h
def Ty.prod {α β : Type} (S : Ty α) (T : Ty β) : Ty (α × β) where
  size := S.size + T.size
  rep F w cs x := ∃ c1 c2, cs = c1 ++ c2 ∧ S.rep F w c1 x.1 ∧ T.rep F w c2 x.2
  len h := by obtain ⟨c1, c2, rfl, h1, h2⟩ := h; simp [S.len h1, T.len h2]
  one h := by
    obtain ⟨c1, c2, rfl, h1, h2⟩ := h
    intro u hu
    rcases List.mem_append.1 hu with hu | hu
    · exact S.one h1 u hu
    · exact T.one h2 u hu
  keep h hs hk := by obtain ⟨c1, c2, rfl, h1, h2⟩ := h; exact ⟨c1, c2, rfl, S.keep h1 hs hk, T.keep h2 hs hk⟩
  weaken h hF := by obtain ⟨c1, c2, rfl, h1, h2⟩ := h; exact ⟨c1, c2, rfl, S.weaken h1 hF, T.weaken h2 hF⟩
def Ty.map {α β : Type} (f : β → α) (T : Ty α) : Ty β where
  size := T.size
  rep F w cs x := T.rep F w cs (f x)
  len h := T.len h
  one h := T.one h
  keep h := T.keep h
  weaken h := T.weaken h

/-- The lists of cells are those of the elements. -/
def Reps {α : Type} (T : Ty α) (F : Nat → Prop) (w : World) (css : List (List Value)) (xs : List α) : Prop :=
  css.length = xs.length ∧ ∀ (i : Nat) (cs : List Value) (x : α), css[i]? = some cs → xs[i]? = some x → T.rep F w cs x

section
variable {α : Type} {T : Ty α} {F F' : Nat → Prop} {w w' : World} {css : List (List Value)} {xs : List α}
theorem Reps.nil_ : Reps T F w [] [] := ⟨rfl, by simp⟩
theorem Reps.keep (h : Reps T F w css xs) (hs : w.heap.size ≤ w'.heap.size) (hk : ∀ b, F b → b < w.heap.size → w'.heap[b]? = w.heap[b]?) : Reps T F w' css xs :=
  ⟨h.1, fun i cs x h1 h2 => T.keep (h.2 i cs x h1 h2) hs hk⟩
theorem Reps.weaken (h : Reps T F w css xs) (hF : ∀ b, F b → b < w.heap.size → F' b) : Reps T F' w css xs :=
  ⟨h.1, fun i cs x h1 h2 => T.weaken (h.2 i cs x h1 h2) hF⟩
theorem Reps.snoc {cs : List Value} {x : α} (h : Reps T F w css xs) (hx : T.rep F w cs x) : Reps T F w (css ++ [cs]) (xs ++ [x]) := by
  refine ⟨by simp [h.1], fun i c y h1 h2 => ?_⟩
  rcases Nat.lt_trichotomy i css.length with hi | hi | hi
  · rw [List.getElem?_append_left hi] at h1
    rw [List.getElem?_append_left (by rw [← h.1]; exact hi)] at h2
    exact h.2 i c y h1 h2
  · subst hi
    simp at h1
    rw [h.1] at h2
    simp at h2
    subst h1 h2
    exact hx
  · rw [List.getElem?_eq_none (by simp; omega)] at h1
    cases h1
theorem Reps.append {dss : List (List Value)} {ys : List α} (h : Reps T F w css xs) (k : Reps T F w dss ys) : Reps T F w (css ++ dss) (xs ++ ys) := by
  refine ⟨by simp [h.1, k.1], fun i c y h1 h2 => ?_⟩
  rcases Nat.lt_or_ge i css.length with hi | hi
  · rw [List.getElem?_append_left hi] at h1
    rw [List.getElem?_append_left (by rw [← h.1]; exact hi)] at h2
    exact h.2 i c y h1 h2
  · rw [List.getElem?_append_right hi] at h1
    rw [List.getElem?_append_right (by rw [← h.1]; exact hi), ← h.1] at h2
    exact k.2 _ c y h1 h2
theorem Reps.take (h : Reps T F w css xs) (k : Nat) : Reps T F w (css.take k) (xs.take k) := by
  refine ⟨by simp [h.1], fun i c y h1 h2 => ?_⟩
  rw [List.getElem?_take] at h1 h2
  split at h1
  · rename_i hk; rw [if_pos hk] at h2; exact h.2 i c y h1 h2
  · cases h1
theorem Reps.drop (h : Reps T F w css xs) (k : Nat) : Reps T F w (css.drop k) (xs.drop k) := by
  refine ⟨by simp [h.1], fun i c y h1 h2 => ?_⟩
  rw [List.getElem?_drop] at h1 h2
  exact h.2 _ c y h1 h2
theorem Reps.lens (h : Reps T F w css xs) : ∀ cs ∈ css, cs.length = T.size := by
  intro cs hc
  obtain ⟨i, hi, rfl⟩ := List.getElem_of_mem hc
  exact T.len (h.2 i _ (xs[i]'(by rw [← h.1]; exact hi)) (List.getElem?_eq_getElem hi) (List.getElem?_eq_getElem _))
theorem Reps.ones (h : Reps T F w css xs) : ∀ u ∈ css.flatten, u.oneCell' = true := by
  intro u hu
  obtain ⟨cs, hc, hu⟩ := List.mem_flatten.1 hu
  obtain ⟨i, hi, rfl⟩ := List.getElem_of_mem hc
  exact T.one (h.2 i _ (xs[i]'(by rw [← h.1]; exact hi)) (List.getElem?_eq_getElem hi) (List.getElem?_eq_getElem _)) u hu
theorem flatten_len {s : Nat} : ∀ {css : List (List Value)}, (∀ cs ∈ css, cs.length = s) → css.flatten.length = css.length * s
  | [], _ => by simp
  | c :: r, h => by
    rw [List.flatten_cons, List.length_append, flatten_len (fun cs hc => h cs (by simp [hc])), h c (by simp), List.length_cons, Nat.succ_mul]; omega
theorem flatten_at {s : Nat} : ∀ {css : List (List Value)}, (∀ cs ∈ css, cs.length = s) → ∀ (k j : Nat) (cs : List Value) (u : Value), css[k]? = some cs → cs[j]? = some u → css.flatten[k * s + j]? = some u
  | [], _, k, j, cs, u, h, _ => by simp at h
  | c :: r, hl, 0, j, cs, u, h, hu => by
    simp at h; subst h
    have hj : j < c.length := by
      rcases Nat.lt_or_ge j c.length with h | h
      · exact h
      · rw [List.getElem?_eq_none h] at hu; cases hu
    rw [List.flatten_cons, Nat.zero_mul, Nat.zero_add, List.getElem?_append_left hj]; exact hu
  | c :: r, hl, k + 1, j, cs, u, h, hu => by
    have hc := hl c (by simp)
    rw [List.flatten_cons, List.getElem?_append_right (by rw [hc, Nat.succ_mul]; omega), hc, show (k + 1) * s + j - s = k * s + j by rw [Nat.succ_mul]; omega]
    exact flatten_at (fun cs hc => hl cs (by simp [hc])) k j cs u (by simpa using h) hu
theorem Reps.flat (h : Reps T F w css xs) : css.flatten.length = xs.length * T.size := by rw [flatten_len h.lens, h.1]
end

/-- A slice that reads as a list. -/
def Sl {α : Type} (T : Ty α) (F : Nat → Prop) (w : World) (A : Option Addr) (n c : Nat) (xs : List α) : Prop :=
  n = xs.length ∧ n ≤ c ∧ c ≤ maxLen ∧ ∃ css, Rd F w A css.flatten ∧ Reps T F w css xs

section
variable {α : Type} {T : Ty α} {F F' : Nat → Prop} {w w' : World} {A : Option Addr} {n c : Nat} {xs : List α}
theorem Sl.keep (h : Sl T F w A n c xs) (hs : w.heap.size ≤ w'.heap.size) (hk : ∀ b, F b → b < w.heap.size → w'.heap[b]? = w.heap[b]?) : Sl T F w' A n c xs := by
  obtain ⟨h1, h2, h3, css, h4, h5⟩ := h
  exact ⟨h1, h2, h3, css, h4.keep hs hk, h5.keep hs hk⟩
theorem Sl.weaken (h : Sl T F w A n c xs) (hF : ∀ b, F b → b < w.heap.size → F' b) : Sl T F' w A n c xs := by
  obtain ⟨h1, h2, h3, css, h4, h5⟩ := h
  exact ⟨h1, h2, h3, css, h4.weaken hF, h5.weaken hF⟩
theorem Sl.below {B : Nat} (h : Sl T F w A n c xs) (hb : Below B w w') (hB : w.heap.size ≤ B) : Sl T F w' A n c xs := h.keep hb.size fun b _ hl => hb.block b (by omega)
theorem Sl.grown {row : Option Nat} (h : Sl T F w A n c xs) (hg : w.grownBy w' row) (hr : ∀ g, row = some g → ¬ F g) : Sl T F w' A n c xs :=
  h.keep hg.size fun b hF hl => hg.block b hl (fun e => hr b e.symm hF)
theorem Sl.alloc (h : Sl T F w A n c xs) (o : Obj) : Sl T F (w.alloc o) A n c xs := h.keep (by simp) fun b _ hl => Below.heap_alloc w o b hl
theorem Sl.drew (h : Sl T F w A n c xs) : Sl T F w.drew A n c xs := h.keep (Nat.le_refl _) fun _ _ _ => rfl
theorem Sl.drewN (h : Sl T F w A n c xs) (k : Nat) : Sl T F (w.drewN k) A n c xs := h.keep (Nat.le_refl _) fun _ _ _ => rfl
theorem Sl.setCell (h : Sl T F w A n c xs) {p : Addr} (hp : ¬ F p.block) (u : Value) : Sl T F (w.setCell p u) A n c xs :=
  h.keep (by simp) fun b hF _ => Below.heap_setCell w p u b (fun e => hp (e ▸ hF))
theorem Sl.nil_ (T : Ty α) (F : Nat → Prop) (w : World) : Sl T F w none 0 0 [] := ⟨rfl, Nat.le_refl _, by simp [maxLen], [], Rd.nil_, Reps.nil_⟩
theorem Sl.len (h : Sl T F w A n c xs) : n = xs.length := h.1
/-- The element k: where its cells lie. -/
theorem Sl.at_ (h : Sl T F w A n c xs) {k : Nat} (hk : k < xs.length) (hs : 0 < T.size) :
    ∃ b o cs, A = some ⟨b, o, none⟩ ∧ F b ∧ b < w.heap.size ∧ T.rep F w cs (xs[k]'hk) ∧ ∀ j u, cs[j]? = some u → w.cell? ⟨b, o + (k * T.size + j), none⟩ = some u := by
  obtain ⟨h1, h2, h3, css, h4, h5⟩ := h
  have hk' : k < css.length := by rw [h5.1]; exact hk
  have hrep := h5.2 k _ _ (List.getElem?_eq_getElem hk') (List.getElem?_eq_getElem hk)
  have hne : css.flatten ≠ [] := by
    intro he
    have := h5.flat
    rw [he] at this
    have : 0 < xs.length * T.size := Nat.mul_pos (by omega) hs
    simp at *
    omega
  obtain ⟨b, o, e, hF, hb, hc⟩ := h4 hne
  exact ⟨b, o, css[k], e, hF, hb, hrep, fun j u hu => hc _ u (flatten_at h5.lens k j _ u (List.getElem?_eq_getElem hk') hu)⟩
/-- An element of one cell. -/
theorem Sl.at1 (h : Sl T F w A n c xs) {k : Nat} (hk : k < xs.length) (hs : T.size = 1) :
    ∃ b o u, A = some ⟨b, o, none⟩ ∧ F b ∧ b < w.heap.size ∧ T.rep F w [u] (xs[k]'hk) ∧ w.cell? ⟨b, o + k, none⟩ = some u := by
  obtain ⟨b, o, cs, e, hF, hb, hr, hc⟩ := h.at_ hk (by omega)
  obtain ⟨u, rfl⟩ : ∃ u, cs = [u] := by
    have := T.len hr
    rw [hs] at this
    match cs, this with
    | [u], _ => exact ⟨u, rfl⟩
  refine ⟨b, o, u, e, hF, hb, hr, ?_⟩
  have := hc 0 u rfl
  rw [hs, Nat.mul_one, Nat.add_zero] at this
  exact this
/-- s[lo:hi]. -/
theorem Sl.cut (h : Sl T F w A n c xs) {lo hi : Nat} (h1 : lo ≤ hi) (h2 : hi ≤ n) : Sl T F w (if c = lo then A else A.map (·.add (lo * T.size))) (hi - lo) (c - lo) ((xs.take hi).drop lo) := by
  obtain ⟨h3, h4, h5, css, h6, h7⟩ := h
  refine ⟨by simp; omega, by omega, by omega, (css.take hi).drop lo, ?_, (h7.take hi).drop lo⟩
  refine h6.part ⟨(css.take lo).flatten, (css.drop hi).flatten, ?_, ?_⟩ (by rw [h7.flat]; exact Nat.mul_le_mul_right _ (by omega))
  · rw [← List.flatten_append, ← List.flatten_append]
    congr 1
    have e1 : css.take lo = (css.take hi).take lo := by rw [List.take_take, Nat.min_eq_left h1]
    rw [e1, List.take_append_drop, List.take_append_drop]
  · rw [(h7.take lo).flat, List.length_take]
    congr 1
    omega
end

/-- A slice as a type's word. -/
def tSl {α : Type} (T : Ty α) : Ty (List α) where
  size := 1
  rep F w cs xs := ∃ A n c, cs = [.slice A n c] ∧ Sl T F w A n c xs
  len h := by obtain ⟨_, _, _, rfl, _⟩ := h; rfl
  one h := by obtain ⟨_, _, _, rfl, _⟩ := h; intro u hu; simp at hu; subst hu; rfl
  keep h hs hk := by obtain ⟨A, n, c, rfl, h1⟩ := h; exact ⟨A, n, c, rfl, h1.keep hs hk⟩
  weaken h hF := by obtain ⟨A, n, c, rfl, h1⟩ := h; exact ⟨A, n, c, rfl, h1.weaken hF⟩

/-- A list that the call builds: a row of its own from block B on; what its elements lead to lies in blocks of which F holds, the row's own not among them. -/
structure OwnF {α : Type} (T : Ty α) (e : TypeId) (F : Nat → Prop) (w : World) (B : Nat) (A : Option Addr) (n c : Nat) (xs : List α) : Prop where
  row : ∃ css, w.ownsRow B e T.size (.slice A n c) n css.flatten ∧ Reps T F w css xs
  off : ∀ b o, A = some ⟨b, o, none⟩ → ¬ F b
  len : n = xs.length
def Own {α : Type} (T : Ty α) (e : TypeId) (w : World) (B : Nat) (A : Option Addr) (n c : Nat) (xs : List α) : Prop := ∃ F, OwnF T e F w B A n c xs

theorem own_cap {w : World} {B : Nat} {A : Option Addr} {n c : Nat} {e : TypeId} {size : Nat} {ys : List Value} (h : w.ownsRow B e size (.slice A n c) n ys) : n ≤ c ∧ c ≤ maxLen := by
  rcases h.2 with ⟨h1, h2⟩ | ⟨g, cap, cur, h1, _, _, h2, h3, _⟩
  · injection h1 with _ h3 h4; subst h4; exact ⟨by omega, by simp [maxLen]⟩
  · injection h1 with _ _ h4; subst h4; exact ⟨h2, h3⟩
theorem own_down {w : World} {B : Nat} {n : Nat} {e : TypeId} {size : Nat} {v : Value} {ys : List Value} {B' : Nat} (h : w.ownsRow B e size v n ys) (hB : B' ≤ B) : w.ownsRow B' e size v n ys := by
  refine ⟨h.1, ?_⟩
  rcases h.2 with h1 | ⟨g, cap, cur, h1, hb, r⟩
  · exact .inl h1
  · exact .inr ⟨g, cap, cur, h1, by omega, r⟩
theorem own_keep {w w' : World} {B : Nat} {n : Nat} {e : TypeId} {size : Nat} {v : Value} {ys : List Value} (h : w.ownsRow B e size v n ys) (hk : ∀ b, v.ownBlock = some b → w'.heap[b]? = w.heap[b]?) : w'.ownsRow B e size v n ys := by
  refine ⟨h.1, ?_⟩
  rcases h.2 with h1 | ⟨g, cap, cur, rfl, hb, hg, r⟩
  · exact .inl h1
  · exact .inr ⟨g, cap, cur, rfl, hb, by rw [hk g rfl]; exact hg, r⟩
/-- Where an owned row lies. -/
theorem own_off {w : World} {B : Nat} {A : Option Addr} {n c : Nat} {e : TypeId} {size : Nat} {ys : List Value} (h : w.ownsRow B e size (.slice A n c) n ys) {b : Nat} (hb : (Value.slice A n c).ownBlock = some b) : A = some ⟨b, 0, none⟩ ∧ B ≤ b ∧ b < w.heap.size := by
  have hl := h.lt b hb
  rcases h.2 with ⟨h1, h2⟩ | ⟨g, cap, cur, h1, _⟩
  · injection h1 with h1; subst h1; simp [Value.ownBlock] at hb
  · injection h1 with h1; subst h1; simp [Value.ownBlock] at hb; subst hb; exact ⟨rfl, hl⟩

section
variable {α : Type} {T : Ty α} {e : TypeId} {F F' : Nat → Prop} {w w' : World} {B : Nat} {A : Option Addr} {n c : Nat} {xs : List α}
theorem OwnF.nil_ (T : Ty α) (e : TypeId) (F : Nat → Prop) (w : World) (B : Nat) : OwnF T e F w B none 0 0 [] := ⟨⟨[], World.ownsRow_nil w B e _, Reps.nil_⟩, by simp, rfl⟩
theorem Own.nil_ (T : Ty α) (e : TypeId) (w : World) (B : Nat) : Own T e w B none 0 0 [] := ⟨fun _ => False, OwnF.nil_ T e _ w B⟩
theorem Own.len (h : Own T e w B A n c xs) : n = xs.length := h.elim fun _ h => h.len
theorem OwnF.cap (h : OwnF T e F w B A n c xs) : n ≤ c ∧ c ≤ maxLen := by obtain ⟨css, h1, _⟩ := h.row; exact own_cap h1
theorem Own.cap (h : Own T e w B A n c xs) : n ≤ c ∧ c ≤ maxLen := h.elim fun _ h => h.cap
theorem OwnF.down (h : OwnF T e F w B A n c xs) {B' : Nat} (hB : B' ≤ B) : OwnF T e F w B' A n c xs := by
  obtain ⟨⟨css, h1, h2⟩, h3, h4⟩ := h
  exact ⟨⟨css, own_down h1 hB, h2⟩, h3, h4⟩
theorem Own.down (h : Own T e w B A n c xs) {B' : Nat} (hB : B' ≤ B) : Own T e w B' A n c xs := h.elim fun _ h => ⟨_, h.down hB⟩
theorem OwnF.lies (h : OwnF T e F w B A n c xs) {b : Nat} (hb : (Value.slice A n c).ownBlock = some b) : A = some ⟨b, 0, none⟩ ∧ B ≤ b ∧ b < w.heap.size := by
  obtain ⟨css, h1, _⟩ := h.row; exact own_off h1 hb
/-- The blocks of what its elements lead to, made fewer or more. -/
theorem OwnF.weaken (h : OwnF T e F w B A n c xs) (hF : ∀ b, F b → b < w.heap.size → F' b) (hA : ∀ b, A = some ⟨b, 0, none⟩ → B ≤ b → b < w.heap.size → ¬ F' b) : OwnF T e F' w B A n c xs := by
  obtain ⟨⟨css, h1, h2⟩, h3, h4⟩ := h
  refine ⟨⟨css, h1, h2.weaken hF⟩, fun b o hA' => ?_, h4⟩
  obtain ⟨e1, e2, e3⟩ := own_off h1 (b := b) (by simp [Value.ownBlock, hA'])
  exact hA b e1 e2 e3
/-- A list that was built is read: its own block, and what its elements lead to. -/
theorem OwnF.sl (h : OwnF T e F w B A n c xs) : Sl T (fun b => F b ∨ (A = some ⟨b, 0, none⟩ ∧ B ≤ b)) w A n c xs := by
  obtain ⟨⟨css, h1, h2⟩, h3, h4⟩ := h
  obtain ⟨h5, h6⟩ := own_cap h1
  exact ⟨h4, h5, h6, css, (Rd.own h1).weaken fun _ h _ => .inr h, h2.weaken fun _ h _ => .inl h⟩
theorem Own.sl (h : Own T e w B A n c xs) : Sl T (fun _ => True) w A n c xs := h.elim fun _ h => h.sl.weaken fun _ _ _ => trivial
/-- It stays while the blocks of it stay. -/
theorem OwnF.keep (h : OwnF T e F w B A n c xs) (hs : w.heap.size ≤ w'.heap.size) (hk : ∀ b, (F b ∨ (A = some ⟨b, 0, none⟩ ∧ B ≤ b)) → b < w.heap.size → w'.heap[b]? = w.heap[b]?) : OwnF T e F w' B A n c xs := by
  obtain ⟨⟨css, h1, h2⟩, h3, h4⟩ := h
  exact ⟨⟨css, own_keep h1 (fun b hb => by obtain ⟨e1, e2, e3⟩ := own_off h1 hb; exact hk b (.inr ⟨e1, e2⟩) e3), h2.keep hs fun b hb hl => hk b (.inl hb) hl⟩, h3, h4⟩
theorem OwnF.keepB (h : OwnF T e F w B A n c xs) (hb : Below w.heap.size w w') : OwnF T e F w' B A n c xs := h.keep hb.size fun b _ hl => hb.block b hl
theorem Own.keepB (h : Own T e w B A n c xs) (hb : Below w.heap.size w w') : Own T e w' B A n c xs := h.elim fun _ h => ⟨_, h.keepB hb⟩
theorem OwnF.alloc (h : OwnF T e F w B A n c xs) (o : Obj) : OwnF T e F (w.alloc o) B A n c xs := h.keepB ((Below.refl _ w).alloc (Nat.le_refl _) o)
theorem Own.alloc (h : Own T e w B A n c xs) (o : Obj) : Own T e (w.alloc o) B A n c xs := h.elim fun _ h => ⟨_, h.alloc o⟩
theorem OwnF.drew (h : OwnF T e F w B A n c xs) : OwnF T e F w.drew B A n c xs := h.keepB ⟨rfl, rfl, rfl, Nat.le_refl _, fun _ _ => rfl⟩
theorem OwnF.drewN (h : OwnF T e F w B A n c xs) (k : Nat) : OwnF T e F (w.drewN k) B A n c xs := h.keepB ⟨rfl, rfl, rfl, Nat.le_refl _, fun _ _ => rfl⟩
theorem OwnF.grown (h : OwnF T e F w B A n c xs) {row : Option Nat} (hg : w.grownBy w' row) (hr : ∀ g, row = some g → ¬ F g ∧ A ≠ some ⟨g, 0, none⟩) : OwnF T e F w' B A n c xs :=
  h.keep hg.size fun b hb hl => hg.block b hl (fun e => by
    have := hr b e.symm
    rcases hb with hb | hb
    · exact this.1 hb
    · exact this.2 hb.1)
theorem OwnF.setCell (h : OwnF T e F w B A n c xs) {p : Addr} (hp : ¬ F p.block) (hp' : A ≠ some ⟨p.block, 0, none⟩) (u : Value) : OwnF T e F (w.setCell p u) B A n c xs :=
  h.keep (by simp) fun b hb _ => Below.heap_setCell w p u b (fun e => by
    subst e
    rcases hb with hb | hb
    · exact hp hb
    · exact hp' hb.1)
/-- Behind an append of elements: the list, longer. -/
theorem OwnF.apd {a0 : World} {A' : Option Addr} {m c' : Nat} {ys : List α} {dss css : List (List Value)}
    (hr : Reps T F w css xs) (hown : w.ownsRow B e T.size (.slice A n c) n css.flatten) (hA : ∀ b o, A = some ⟨b, o, none⟩ → ¬ F b) (hA' : ∀ b, A = some ⟨b, 0, none⟩ → B ≤ b → b < w.heap.size → ¬ F' b)
    (hk : Reps T F' w dss ys) (h : Apd a0 w w' B e T.size (.slice A n c) A' m c' (css.flatten ++ dss.flatten)) (hm : m = xs.length + ys.length) :
    OwnF T e (fun b => (F b ∨ F' b) ∧ b < w.heap.size) w' B A' m c' (xs ++ ys) := by
  have g1 : Reps T (fun b => (F b ∨ F' b) ∧ b < w.heap.size) w css xs := hr.weaken fun b hb hl => ⟨.inl hb, hl⟩
  have g2 : Reps T (fun b => (F b ∨ F' b) ∧ b < w.heap.size) w dss ys := hk.weaken fun b hb hl => ⟨.inr hb, hl⟩
  have hne : ∀ b, (Value.slice A n c).ownBlock = some b → ¬ (F b ∨ F' b) := fun b hb => by
    obtain ⟨e1, e2, e3⟩ := own_off hown hb
    rintro (h | h)
    · exact hA b 0 e1 h
    · exact hA' b e1 e2 e3 h
  refine ⟨⟨css ++ dss, by rw [List.flatten_append]; exact h.own, (g1.append g2).keep h.grown.size fun b hb hl => h.grown.block b hl (fun e => hne b e.symm hb.1)⟩, ?_, by simp [hm]⟩
  rintro b o rfl ⟨hb, hl⟩
  rcases h.lies with h1 | h1
  · exact hne b h1.symm hb
  · simp at h1; omega
end

/-- What an append onto a list of the call's own leaves. -/
structure ApdL {α : Type} (T : Ty α) (e : TypeId) (F : Nat → Prop) (a0 w w' : World) (B : Nat) (A : Option Addr) (A' : Option Addr) (n c' : Nat) (xs : List α) : Prop where
  own : OwnF T e F w' B A' n c' xs
  below : Below B a0 w'
  grown : w.grownBy w' (A.map (·.block))
  lies : A'.map (·.block) = A.map (·.block) ∨ A'.map (·.block) = some w.heap.size
theorem ownBlock_slice (A : Option Addr) (n c : Nat) : (Value.slice A n c).ownBlock = A.map (·.block) := by cases A <;> rfl

section
variable {P : Program} {α : Type} {T : Ty α} {t e : TypeId} (E : ElemOf P t e T.size) (w a0 : World) {ops : Array Oper} {rest : List Oper} {o : Oper} {a : Act} {Q : Exit → Act → World → Prop}
include E
/-- append(xs, ys...) onto a list of the call's own: where the source lies, and what its elements lead to. -/
theorem wp_aplR {K : Act → World → Prop} (s x : Operand) (ho : o.op = .call { callee := .builtin .append, args := #[s, x], argTypes := #[t, t] }) (B : Nat) (A : Option Addr) (n c : Nat) (xs : List α) (hs : a.eval s = .slice A n c)
    (F F1 F' : Nat → Prop) (hown : OwnF T e F w B A n c xs) (hb : Below B a0 w) (hB : B ≤ a0.heap.size)
    (A2 : Option Addr) (m c2 : Nat) (ys : List α) (dss : List (List Value)) (hx : a.eval x = .slice A2 m c2) (hm : m = ys.length) (hrd : Rd F1 w A2 dss.flatten) (hreps : Reps T F' w dss ys) (hF : ∀ b, A = some ⟨b, 0, none⟩ → B ≤ b → b < w.heap.size → ¬ F' b) (hlim : n + m ≤ 68719476736)
    (h : ∀ A' c' w', ApdL T e (fun b => (F b ∨ F' b) ∧ b < w.heap.size) a0 w w' B A A' (n + m) c' (xs ++ ys) → K (a.put o.dst (.slice A' (n + m) c')) w') : o.wp P a w K Q := by
  obtain ⟨⟨css, h1, h2⟩, h3, h4⟩ := hown
  have hlen : dss.flatten.length = m * T.size := by rw [hreps.flat, hm]
  refine wp_ap E w a0 s x ho B (.slice A n c) n css.flatten hs h1 hb hB F1 A2 m c2 dss.flatten hx hlen hrd hreps.ones hlim fun A' c' w' ha => ?_
  refine h A' c' w' ⟨?_, ha.below, by rw [← ownBlock_slice A n c]; exact ha.grown, by rw [← ownBlock_slice A n c]; exact ha.lies⟩
  exact OwnF.apd h2 h1 h3 hF hreps ha (by rw [h4, hm])
/-- append(xs, ys...) onto a list of the call's own. -/
theorem wp_apl {K : Act → World → Prop} (s x : Operand) (ho : o.op = .call { callee := .builtin .append, args := #[s, x], argTypes := #[t, t] }) (B : Nat) (A : Option Addr) (n c : Nat) (xs : List α) (hs : a.eval s = .slice A n c)
    (F F' : Nat → Prop) (hown : OwnF T e F w B A n c xs) (hb : Below B a0 w) (hB : B ≤ a0.heap.size)
    (A2 : Option Addr) (m c2 : Nat) (ys : List α) (hx : a.eval x = .slice A2 m c2) (hsl : Sl T F' w A2 m c2 ys) (hF : ∀ b, A = some ⟨b, 0, none⟩ → B ≤ b → b < w.heap.size → ¬ F' b) (hlim : n + m ≤ 68719476736)
    (h : ∀ A' c' w', ApdL T e (fun b => (F b ∨ F' b) ∧ b < w.heap.size) a0 w w' B A A' (n + m) c' (xs ++ ys) → K (a.put o.dst (.slice A' (n + m) c')) w') : o.wp P a w K Q := by
  obtain ⟨h5, h6, h7, dss, h8, h9⟩ := hsl
  exact wp_aplR E w a0 s x ho B A n c xs hs F F' F' hown hb hB A2 m c2 ys dss hx h5 h8 h9 hF hlim h
theorem apl (hgd : o.guard = none) (s x : Operand) (ho : o.op = .call { callee := .builtin .append, args := #[s, x], argTypes := #[t, t] }) (B : Nat) (A : Option Addr) (n c : Nat) (xs : List α) (hs : a.eval s = .slice A n c)
    (F F' : Nat → Prop) (hown : OwnF T e F w B A n c xs) (hb : Below B a0 w) (hB : B ≤ a0.heap.size)
    (A2 : Option Addr) (m c2 : Nat) (ys : List α) (hx : a.eval x = .slice A2 m c2) (hsl : Sl T F' w A2 m c2 ys) (hF : ∀ b, A = some ⟨b, 0, none⟩ → B ≤ b → b < w.heap.size → ¬ F' b) (hlim : n + m ≤ 68719476736)
    (h : ∀ A' c' w', ApdL T e (fun b => (F b ∨ F' b) ∧ b < w.heap.size) a0 w w' B A A' (n + m) c' (xs ++ ys) → wpList P ops Q rest (a.put o.dst (.slice A' (n + m) c')) w') : wpList P ops Q (o :: rest) a w :=
  wpList_plain hgd fun _ hK => wp_apl E w a0 s x ho B A n c xs hs F F' hown hb hB A2 m c2 ys hx hsl hF hlim fun A' c' w' h2 => hK _ _ (h A' c' w' h2)
theorem step_apl {K : Act → World → Prop} {E' : Prop} (hgd : o.guard = none) (s x : Operand) (ho : o.op = .call { callee := .builtin .append, args := #[s, x], argTypes := #[t, t] }) (B : Nat) (A : Option Addr) (n c : Nat) (xs : List α) (hs : a.eval s = .slice A n c)
    (F F' : Nat → Prop) (hown : OwnF T e F w B A n c xs) (hb : Below B a0 w) (hB : B ≤ a0.heap.size)
    (A2 : Option Addr) (m c2 : Nat) (ys : List α) (hx : a.eval x = .slice A2 m c2) (hsl : Sl T F' w A2 m c2 ys) (hF : ∀ b, A = some ⟨b, 0, none⟩ → B ≤ b → b < w.heap.size → ¬ F' b) (hlim : n + m ≤ 68719476736)
    (h : ∀ A' c' w', ApdL T e (fun b => (F b ∨ F' b) ∧ b < w.heap.size) a0 w w' B A A' (n + m) c' (xs ++ ys) → K (a.put o.dst (.slice A' (n + m) c')) w') :
    if Region.wanted o (yielded ops a.tmps) = true then Oper.wp P o a w K Q else E' := by
  have hw : Region.wanted o (yielded ops a.tmps) = true := by simp [Region.wanted, hgd]
  rw [if_pos hw]
  exact wp_apl E w a0 s x ho B A n c xs hs F F' hown hb hB A2 m c2 ys hx hsl hF hlim h
/-- append(xs, y) onto a list of the call's own: y has been laid into a block of its own, the world's last. -/
theorem wp_apl1 {K : Act → World → Prop} (s x : Operand) (ho : o.op = .call { callee := .builtin .append, args := #[s, x], argTypes := #[t, t] }) (B : Nat) (A : Option Addr) (n c : Nat) (xs : List α) (hs : a.eval s = .slice A n c)
    (F G : Nat → Prop) (hown : OwnF T e F w B A n c xs) (hb : Below B a0 w) (hB : B ≤ a0.heap.size) (obj : Obj) (hx : a.eval x = .slice (some ⟨w.heap.size, 0, none⟩) 1 1)
    (cs : List Value) (y : α) (hrep : T.rep G w cs y) (t' : TypeId) (hobj : obj = .cells cs.toArray t') (hF : ∀ b, A = some ⟨b, 0, none⟩ → B ≤ b → b < w.heap.size → ¬ G b) (hlim : n ≤ 34359738368)
    (h : ∀ A' c' w', ApdL T e (fun b => (F b ∨ G b) ∧ b < w.heap.size) a0 (w.alloc obj) w' B A A' (n + 1) c' (xs ++ [y]) → K (a.put o.dst (.slice A' (n + 1) c')) w') : o.wp P a (w.alloc obj) K Q := by
  have hsz : B ≤ w.heap.size := Nat.le_trans hB hb.size
  subst hobj
  have hown' : OwnF T e (fun b => F b ∧ b < w.heap.size) (w.alloc (.cells cs.toArray t')) B A n c xs :=
    (hown.weaken (fun b h1 h2 => ⟨h1, h2⟩) (fun b h1 h2 h3 h4 => hown.off b 0 h1 h4.1)).alloc _
  have hrep' : Reps T (fun b => G b ∧ b < w.heap.size) (w.alloc (.cells cs.toArray t')) [cs] [y] := by
    simpa using Reps.snoc Reps.nil_ (T.alloc (T.weaken hrep (F' := fun b => G b ∧ b < w.heap.size) fun b h1 h2 => ⟨h1, h2⟩) (.cells cs.toArray t'))
  refine wp_aplR E (w.alloc (.cells cs.toArray t')) a0 s x ho B A n c xs hs (fun b => F b ∧ b < w.heap.size) (fun b => b = w.heap.size) (fun b => G b ∧ b < w.heap.size) hown' (hb.alloc hsz _) hB (some ⟨w.heap.size, 0, none⟩) 1 1 [y] [cs] hx rfl
    (by simpa using Rd.new w cs t') hrep' (fun b h1 h2 h3 h4 => hF b h1 h2 h4.2 h4.1) (by omega) fun A' c' w' ha => h A' c' w' ⟨?_, ha.below, ha.grown, ha.lies⟩
  refine ha.own.weaken (fun b h1 _ => ?_) (fun b h1 _ _ h2 => ha.own.off b 0 h1 ?_)
  · rcases h1.1 with h | h
    · exact ⟨.inl h.1, h.2⟩
    · exact ⟨.inr h.1, h.2⟩
  · refine ⟨?_, by rw [World.size_alloc]; omega⟩
    rcases h2.1 with h | h
    · exact .inl ⟨h, h2.2⟩
    · exact .inr ⟨h, h2.2⟩
theorem apl1 (hgd : o.guard = none) (s x : Operand) (ho : o.op = .call { callee := .builtin .append, args := #[s, x], argTypes := #[t, t] }) (B : Nat) (A : Option Addr) (n c : Nat) (xs : List α) (hs : a.eval s = .slice A n c)
    (F G : Nat → Prop) (hown : OwnF T e F w B A n c xs) (hb : Below B a0 w) (hB : B ≤ a0.heap.size) (obj : Obj) (hx : a.eval x = .slice (some ⟨w.heap.size, 0, none⟩) 1 1)
    (cs : List Value) (y : α) (hrep : T.rep G w cs y) (t' : TypeId) (hobj : obj = .cells cs.toArray t') (hF : ∀ b, A = some ⟨b, 0, none⟩ → B ≤ b → b < w.heap.size → ¬ G b) (hlim : n ≤ 34359738368)
    (h : ∀ A' c' w', ApdL T e (fun b => (F b ∨ G b) ∧ b < w.heap.size) a0 (w.alloc obj) w' B A A' (n + 1) c' (xs ++ [y]) → wpList P ops Q rest (a.put o.dst (.slice A' (n + 1) c')) w') : wpList P ops Q (o :: rest) a (w.alloc obj) :=
  wpList_plain hgd fun _ hK => wp_apl1 E w a0 s x ho B A n c xs hs F G hown hb hB obj hx cs y hrep t' hobj hF hlim fun A' c' w' h2 => hK _ _ (h A' c' w' h2)
theorem step_apl1 {K : Act → World → Prop} {E' : Prop} (hgd : o.guard = none) (s x : Operand) (ho : o.op = .call { callee := .builtin .append, args := #[s, x], argTypes := #[t, t] }) (B : Nat) (A : Option Addr) (n c : Nat) (xs : List α) (hs : a.eval s = .slice A n c)
    (F G : Nat → Prop) (hown : OwnF T e F w B A n c xs) (hb : Below B a0 w) (hB : B ≤ a0.heap.size) (obj : Obj) (hx : a.eval x = .slice (some ⟨w.heap.size, 0, none⟩) 1 1)
    (cs : List Value) (y : α) (hrep : T.rep G w cs y) (t' : TypeId) (hobj : obj = .cells cs.toArray t') (hF : ∀ b, A = some ⟨b, 0, none⟩ → B ≤ b → b < w.heap.size → ¬ G b) (hlim : n ≤ 34359738368)
    (h : ∀ A' c' w', ApdL T e (fun b => (F b ∨ G b) ∧ b < w.heap.size) a0 (w.alloc obj) w' B A A' (n + 1) c' (xs ++ [y]) → K (a.put o.dst (.slice A' (n + 1) c')) w') :
    if Region.wanted o (yielded ops a.tmps) = true then Oper.wp P o a (w.alloc obj) K Q else E' := by
  have hw : Region.wanted o (yielded ops a.tmps) = true := by simp [Region.wanted, hgd]
  rw [if_pos hw]
  exact wp_apl1 E w a0 s x ho B A n c xs hs F G hown hb hB obj hx cs y hrep t' hobj hF hlim h
end

/-- One element, laid into a block of its own: a list of one. -/
theorem Sl.new {α : Type} {T : Ty α} {F : Nat → Prop} {w : World} {cs : List Value} {x : α} (h : T.rep F w cs x) (t : TypeId) (o : Obj) (ho : o = .cells cs.toArray t) :
    Sl T (fun b => (F b ∧ b < w.heap.size) ∨ b = w.heap.size) (w.alloc o) (some ⟨w.heap.size, 0, none⟩) 1 1 [x] := by
  subst ho
  refine ⟨rfl, Nat.le_refl _, by simp [maxLen], [cs], ?_, ?_⟩
  · rw [show [cs].flatten = cs by simp]
    exact (Rd.new w cs t).weaken fun b h _ => .inr h
  · have := T.alloc (T.weaken h (F' := fun b => (F b ∧ b < w.heap.size) ∨ b = w.heap.size) fun b hb hl => .inl ⟨hb, hl⟩) (Obj.cells cs.toArray t)
    simpa using Reps.snoc Reps.nil_ this
/-- More than one. -/
theorem Sl.news {α : Type} {T : Ty α} {F : Nat → Prop} {w : World} {css : List (List Value)} {xs : List α} (h : Reps T F w css xs) (t : TypeId) (n : Nat) (hn : n = xs.length) (hm : n ≤ 4294967296) (o : Obj) (ho : o = .cells css.flatten.toArray t) :
    Sl T (fun b => (F b ∧ b < w.heap.size) ∨ b = w.heap.size) (w.alloc o) (some ⟨w.heap.size, 0, none⟩) n n xs := by
  subst ho
  refine ⟨hn, Nat.le_refl _, by simp only [maxLen]; omega, css, (Rd.new w css.flatten t).weaken fun b h _ => .inr h, ?_⟩
  exact (h.weaken (F' := fun b => (F b ∧ b < w.heap.size) ∨ b = w.heap.size) fun b hb hl => .inl ⟨hb, hl⟩).keep (by simp) fun b _ hl => Below.heap_alloc w _ b hl

theorem Reps.mk1 {α : Type} {T : Ty α} {F : Nat → Prop} {w : World} {c1 : List Value} {x1 : α} (h1 : T.rep F w c1 x1) : Reps T F w [c1] [x1] := by simpa using Reps.snoc Reps.nil_ h1
theorem Reps.mk2 {α : Type} {T : Ty α} {F : Nat → Prop} {w : World} {c1 c2 : List Value} {x1 x2 : α} (h1 : T.rep F w c1 x1) (h2 : T.rep F w c2 x2) : Reps T F w [c1, c2] [x1, x2] := by simpa using Reps.snoc (Reps.mk1 h1) h2
theorem Reps.mk3 {α : Type} {T : Ty α} {F : Nat → Prop} {w : World} {c1 c2 c3 : List Value} {x1 x2 x3 : α} (h1 : T.rep F w c1 x1) (h2 : T.rep F w c2 x2) (h3 : T.rep F w c3 x3) : Reps T F w [c1, c2, c3] [x1, x2, x3] := by simpa using Reps.snoc (Reps.mk2 h1 h2) h3
theorem Reps.mk4 {α : Type} {T : Ty α} {F : Nat → Prop} {w : World} {c1 c2 c3 c4 : List Value} {x1 x2 x3 x4 : α} (h1 : T.rep F w c1 x1) (h2 : T.rep F w c2 x2) (h3 : T.rep F w c3 x3) (h4 : T.rep F w c4 x4) : Reps T F w [c1, c2, c3, c4] [x1, x2, x3, x4] := by simpa using Reps.snoc (Reps.mk3 h1 h2 h3) h4
theorem Sl.any {α : Type} {T : Ty α} {F : Nat → Prop} {w : World} {A : Option Addr} {n c : Nat} {xs : List α} (h : Sl T F w A n c xs) : Sl T (fun _ => True) w A n c xs := h.weaken fun _ _ _ => trivial
theorem Sl.rep {α : Type} {T : Ty α} {F : Nat → Prop} {w : World} {A : Option Addr} {n c : Nat} {xs : List α} (h : Sl T F w A n c xs) : (tSl T).rep F w [.slice A n c] xs := ⟨A, n, c, rfl, h⟩
/-- The slices of a call with '...': two, three, four of them. -/
theorem sl2 {α : Type} {T : Ty α} {F1 F2 : Nat → Prop} {w : World} {A1 A2 : Option Addr} {n1 n2 c1 c2 : Nat} {x1 x2 : List α} (h1 : Sl T F1 w A1 n1 c1 x1) (h2 : Sl T F2 w A2 n2 c2 x2) (t : TypeId) :
    Sl (tSl T) (fun _ => True) (w.alloc (.cells #[.slice A1 n1 c1, .slice A2 n2 c2] t)) (some ⟨w.heap.size, 0, none⟩) 2 2 [x1, x2] := by
  have hr : Reps (tSl T) (fun _ => True) w [[.slice A1 n1 c1], [.slice A2 n2 c2]] [x1, x2] := Reps.mk2 h1.any.rep h2.any.rep
  exact (Sl.news hr t 2 rfl (by omega) _ rfl).any
theorem sl3 {α : Type} {T : Ty α} {F1 F2 F3 : Nat → Prop} {w : World} {A1 A2 A3 : Option Addr} {n1 n2 n3 c1 c2 c3 : Nat} {x1 x2 x3 : List α} (h1 : Sl T F1 w A1 n1 c1 x1) (h2 : Sl T F2 w A2 n2 c2 x2) (h3 : Sl T F3 w A3 n3 c3 x3) (t : TypeId) :
    Sl (tSl T) (fun _ => True) (w.alloc (.cells #[.slice A1 n1 c1, .slice A2 n2 c2, .slice A3 n3 c3] t)) (some ⟨w.heap.size, 0, none⟩) 3 3 [x1, x2, x3] := by
  have hr : Reps (tSl T) (fun _ => True) w [[.slice A1 n1 c1], [.slice A2 n2 c2], [.slice A3 n3 c3]] [x1, x2, x3] := Reps.mk3 h1.any.rep h2.any.rep h3.any.rep
  exact (Sl.news hr t 3 rfl (by omega) _ rfl).any
theorem sl4 {α : Type} {T : Ty α} {F1 F2 F3 F4 : Nat → Prop} {w : World} {A1 A2 A3 A4 : Option Addr} {n1 n2 n3 n4 c1 c2 c3 c4 : Nat} {x1 x2 x3 x4 : List α} (h1 : Sl T F1 w A1 n1 c1 x1) (h2 : Sl T F2 w A2 n2 c2 x2) (h3 : Sl T F3 w A3 n3 c3 x3) (h4 : Sl T F4 w A4 n4 c4 x4) (t : TypeId) :
    Sl (tSl T) (fun _ => True) (w.alloc (.cells #[.slice A1 n1 c1, .slice A2 n2 c2, .slice A3 n3 c3, .slice A4 n4 c4] t)) (some ⟨w.heap.size, 0, none⟩) 4 4 [x1, x2, x3, x4] := by
  have hr : Reps (tSl T) (fun _ => True) w [[.slice A1 n1 c1], [.slice A2 n2 c2], [.slice A3 n3 c3], [.slice A4 n4 c4]] [x1, x2, x3, x4] := Reps.mk4 h1.any.rep h2.any.rep h3.any.rep h4.any.rep
  exact (Sl.news hr t 4 rfl (by omega) _ rfl).any
/-- An element's cells, in the walk's spelling. -/
theorem cells2 {w : World} {b o k : Nat} {u0 u1 : Value} (h : ∀ j u, ([u0, u1] : List Value)[j]? = some u → w.cell? ⟨b, o + (k * 2 + j), none⟩ = some u) :
    w.cell? ⟨b, o + k * 2, none⟩ = some u0 ∧ w.cell? ⟨b, o + k * 2 + 1, none⟩ = some u1 :=
  ⟨by have := h 0 _ rfl; rw [← Nat.add_assoc] at this; exact this, by have := h 1 _ rfl; rw [← Nat.add_assoc] at this; exact this⟩

theorem cells3 {w : World} {b o k : Nat} {u0 u1 u2 : Value} (h : ∀ j u, ([u0, u1, u2] : List Value)[j]? = some u → w.cell? ⟨b, o + (k * 3 + j), none⟩ = some u) :
    w.cell? ⟨b, o + k * 3, none⟩ = some u0 ∧ w.cell? ⟨b, o + k * 3 + 1, none⟩ = some u1 ∧ w.cell? ⟨b, o + k * 3 + 2, none⟩ = some u2 :=
  ⟨by have := h 0 _ rfl; rw [← Nat.add_assoc] at this; exact this, by have := h 1 _ rfl; rw [← Nat.add_assoc] at this; exact this, by have := h 2 _ rfl; rw [← Nat.add_assoc] at this; exact this⟩

theorem cells4 {w : World} {b o k : Nat} {u0 u1 u2 u3 : Value} (h : ∀ j u, ([u0, u1, u2, u3] : List Value)[j]? = some u → w.cell? ⟨b, o + (k * 4 + j), none⟩ = some u) :
    w.cell? ⟨b, o + k * 4, none⟩ = some u0 ∧ w.cell? ⟨b, o + k * 4 + 1, none⟩ = some u1 ∧ w.cell? ⟨b, o + k * 4 + 2, none⟩ = some u2 ∧ w.cell? ⟨b, o + k * 4 + 3, none⟩ = some u3 :=
  ⟨by have := h 0 _ rfl; rw [← Nat.add_assoc] at this; exact this, by have := h 1 _ rfl; rw [← Nat.add_assoc] at this; exact this, by have := h 2 _ rfl; rw [← Nat.add_assoc] at this; exact this, by have := h 3 _ rfl; rw [← Nat.add_assoc] at this; exact this⟩

theorem cells5 {w : World} {b o k : Nat} {u0 u1 u2 u3 u4 : Value} (h : ∀ j u, ([u0, u1, u2, u3, u4] : List Value)[j]? = some u → w.cell? ⟨b, o + (k * 5 + j), none⟩ = some u) :
    w.cell? ⟨b, o + k * 5, none⟩ = some u0 ∧ w.cell? ⟨b, o + k * 5 + 1, none⟩ = some u1 ∧ w.cell? ⟨b, o + k * 5 + 2, none⟩ = some u2 ∧ w.cell? ⟨b, o + k * 5 + 3, none⟩ = some u3 ∧ w.cell? ⟨b, o + k * 5 + 4, none⟩ = some u4 :=
  ⟨by have := h 0 _ rfl; rw [← Nat.add_assoc] at this; exact this, by have := h 1 _ rfl; rw [← Nat.add_assoc] at this; exact this, by have := h 2 _ rfl; rw [← Nat.add_assoc] at this; exact this, by have := h 3 _ rfl; rw [← Nat.add_assoc] at this; exact this, by have := h 4 _ rfl; rw [← Nat.add_assoc] at this; exact this⟩

theorem cells7 {w : World} {b o k : Nat} {u0 u1 u2 u3 u4 u5 u6 : Value} (h : ∀ j u, ([u0, u1, u2, u3, u4, u5, u6] : List Value)[j]? = some u → w.cell? ⟨b, o + (k * 7 + j), none⟩ = some u) :
    w.cell? ⟨b, o + k * 7, none⟩ = some u0 ∧ w.cell? ⟨b, o + k * 7 + 1, none⟩ = some u1 ∧ w.cell? ⟨b, o + k * 7 + 2, none⟩ = some u2 ∧ w.cell? ⟨b, o + k * 7 + 3, none⟩ = some u3 ∧ w.cell? ⟨b, o + k * 7 + 4, none⟩ = some u4 ∧ w.cell? ⟨b, o + k * 7 + 5, none⟩ = some u5 ∧ w.cell? ⟨b, o + k * 7 + 6, none⟩ = some u6 :=
  ⟨by have := h 0 _ rfl; rw [← Nat.add_assoc] at this; exact this, by have := h 1 _ rfl; rw [← Nat.add_assoc] at this; exact this, by have := h 2 _ rfl; rw [← Nat.add_assoc] at this; exact this, by have := h 3 _ rfl; rw [← Nat.add_assoc] at this; exact this, by have := h 4 _ rfl; rw [← Nat.add_assoc] at this; exact this, by have := h 5 _ rfl; rw [← Nat.add_assoc] at this; exact this, by have := h 6 _ rfl; rw [← Nat.add_assoc] at this; exact this⟩

theorem cells10 {w : World} {b o k : Nat} {u0 u1 u2 u3 u4 u5 u6 u7 u8 u9 : Value} (h : ∀ j u, ([u0, u1, u2, u3, u4, u5, u6, u7, u8, u9] : List Value)[j]? = some u → w.cell? ⟨b, o + (k * 10 + j), none⟩ = some u) :
    w.cell? ⟨b, o + k * 10, none⟩ = some u0 ∧ w.cell? ⟨b, o + k * 10 + 1, none⟩ = some u1 ∧ w.cell? ⟨b, o + k * 10 + 2, none⟩ = some u2 ∧ w.cell? ⟨b, o + k * 10 + 3, none⟩ = some u3 ∧ w.cell? ⟨b, o + k * 10 + 4, none⟩ = some u4 ∧ w.cell? ⟨b, o + k * 10 + 5, none⟩ = some u5 ∧ w.cell? ⟨b, o + k * 10 + 6, none⟩ = some u6 ∧ w.cell? ⟨b, o + k * 10 + 7, none⟩ = some u7 ∧ w.cell? ⟨b, o + k * 10 + 8, none⟩ = some u8 ∧ w.cell? ⟨b, o + k * 10 + 9, none⟩ = some u9 :=
  ⟨by have := h 0 _ rfl; rw [← Nat.add_assoc] at this; exact this, by have := h 1 _ rfl; rw [← Nat.add_assoc] at this; exact this, by have := h 2 _ rfl; rw [← Nat.add_assoc] at this; exact this, by have := h 3 _ rfl; rw [← Nat.add_assoc] at this; exact this, by have := h 4 _ rfl; rw [← Nat.add_assoc] at this; exact this, by have := h 5 _ rfl; rw [← Nat.add_assoc] at this; exact this, by have := h 6 _ rfl; rw [← Nat.add_assoc] at this; exact this, by have := h 7 _ rfl; rw [← Nat.add_assoc] at this; exact this, by have := h 8 _ rfl; rw [← Nat.add_assoc] at this; exact this, by have := h 9 _ rfl; rw [← Nat.add_assoc] at this; exact this⟩
/-- A list that is written out: two, three, four elements in a block of their own. -/
theorem Sl.new2 {α : Type} {T : Ty α} {w : World} {c1 c2 : List Value} {x1 x2 : α} (h1 : T.rep (fun _ => True) w c1 x1) (h2 : T.rep (fun _ => True) w c2 x2) (t : TypeId) (o : Obj) (ho : o = .cells (c1 ++ c2).toArray t) :
    Sl T (fun _ => True) (w.alloc o) (some ⟨w.heap.size, 0, none⟩) 2 2 [x1, x2] := (Sl.news (Reps.mk2 h1 h2) t 2 rfl (by omega) o (by rw [ho]; simp)).any
theorem Sl.new3 {α : Type} {T : Ty α} {w : World} {c1 c2 c3 : List Value} {x1 x2 x3 : α} (h1 : T.rep (fun _ => True) w c1 x1) (h2 : T.rep (fun _ => True) w c2 x2) (h3 : T.rep (fun _ => True) w c3 x3) (t : TypeId) (o : Obj) (ho : o = .cells (c1 ++ (c2 ++ c3)).toArray t) :
    Sl T (fun _ => True) (w.alloc o) (some ⟨w.heap.size, 0, none⟩) 3 3 [x1, x2, x3] := (Sl.news (Reps.mk3 h1 h2 h3) t 3 rfl (by omega) o (by rw [ho]; simp)).any
theorem Sl.new4 {α : Type} {T : Ty α} {w : World} {c1 c2 c3 c4 : List Value} {x1 x2 x3 x4 : α} (h1 : T.rep (fun _ => True) w c1 x1) (h2 : T.rep (fun _ => True) w c2 x2) (h3 : T.rep (fun _ => True) w c3 x3) (h4 : T.rep (fun _ => True) w c4 x4) (t : TypeId) (o : Obj) (ho : o = .cells (c1 ++ (c2 ++ (c3 ++ c4))).toArray t) :
    Sl T (fun _ => True) (w.alloc o) (some ⟨w.heap.size, 0, none⟩) 4 4 [x1, x2, x3, x4] := (Sl.news (Reps.mk4 h1 h2 h3 h4) t 4 rfl (by omega) o (by rw [ho]; simp)).any
/-- Types whose values lead to no block. -/
def Ty.Flat {α : Type} (T : Ty α) : Prop := ∀ {F F' : Nat → Prop} {w w' : World} {cs : List Value} {x : α}, T.rep F w cs x → T.rep F' w' cs x
theorem Reps.flat' {α : Type} {T : Ty α} (hT : T.Flat) {F F' : Nat → Prop} {w w' : World} {css : List (List Value)} {xs : List α} (h : Reps T F w css xs) : Reps T F' w' css xs := ⟨h.1, fun i cs x h1 h2 => hT (h.2 i cs x h1 h2)⟩
theorem flatI64 : tI64.Flat := fun h => h
theorem flatU64 : tU64.Flat := fun h => h
theorem flatU8 : tU8.Flat := fun h => h
theorem flatBool : tBool.Flat := fun h => h
theorem flatStr : tStr.Flat := fun h => h
theorem Ty.Flat.prod {α β : Type} {S : Ty α} {T : Ty β} (hS : S.Flat) (hT : T.Flat) : (S.prod T).Flat := fun h => by
  obtain ⟨c1, c2, e, h1, h2⟩ := h
  exact ⟨c1, c2, e, hS h1, hT h2⟩
theorem Ty.Flat.map {α β : Type} {f : β → α} {T : Ty α} (hT : T.Flat) : (T.map f).Flat := fun h => hT h
theorem OwnF.flat {α : Type} {T : Ty α} (hT : T.Flat) {e : TypeId} {F : Nat → Prop} {w : World} {B : Nat} {A : Option Addr} {n c : Nat} {xs : List α} (h : OwnF T e F w B A n c xs) : OwnF T e (fun _ => False) w B A n c xs := by
  obtain ⟨⟨css, h1, h2⟩, h3, h4⟩ := h
  exact ⟨⟨css, h1, h2.flat' hT⟩, fun _ _ _ h => h, h4⟩

/-- A list of flat things that the call builds. -/
def OwnP {α : Type} (T : Ty α) (e : TypeId) (w : World) (B : Nat) (A : Option Addr) (n c : Nat) (xs : List α) : Prop := OwnF T e (fun _ => False) w B A n c xs

end Go.Proofs.YtpmglcachffojaaGreatDoor
