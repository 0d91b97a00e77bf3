/- Memory words for all walks of this claim: what a slice reads as, what a call owns, and how both are kept. No condition; no program in sight. Go's types as words: how a value of Lean's lies in memory as cells; slices that read as lists; lists that a call builds. No condition; no program in sight. Numbers: what Go's bit operations come to. Plain Lean; no condition. The structs of this claim's layers as types' words. No condition; no program in sight. Bytes of a number, the highest first; adding to one byte; numbers packed bit by bit. Plain Lean; no program in sight. Runs of bytes, and of truths: what is laid down. Plain Lean; no program in sight. Rows of bytes that are the same; what comes of them, one behind the other. Plain Lean; no program in sight. The closed facts of this seat's tables that the walks use, and the words for bytes. No condition. slices.Grow at nil, and slices.Concat, at the element types that this claim meets: any slices, any elements. -/
import Derived.WalkKit
import Derived.WalkSpells
import Derived.WalkLawsBesides
import Derived.Maps.AppendAt
import Derived.Deep.AppendLies
import Derived.Deep.Draws
import Derived.Lib.Hide
import Derived.Laws.BitsAllLaws
import Derived.Laws.BitsLemmas
import Derived.Test.YticfmphbhdkhoaaGreatDoorRows
import Derived.Lib.AppendZerosOnto
import Derived.Deep.RegionHeld3
import Derived.Deep.DrawnRows
namespace Go.Proofs.YticfmphbhdkhoaaGreatDoor
open Go Go.RowKit

theorem add_lit (b o j : Nat) : (⟨b, o, none⟩ : Addr).add j = ⟨b, o + j, none⟩ := by
  unfold Addr.add; split <;> simp_all

/-- The cells xs lie at A, in a block of which F holds. -/
def Rd (F : Nat → Prop) (w : World) (A : Option Addr) (xs : List Value) : Prop :=
  xs ≠ [] → ∃ b o, A = some ⟨b, o, none⟩ ∧ F b ∧ b < w.heap.size ∧ ∀ j u, xs[j]? = some u → w.cell? ⟨b, o + j, none⟩ = some u

section
variable {F F' : Nat → Prop} {w w' : World} {A : Option Addr} {xs ys : List Value}
theorem Rd.nil_ : Rd F w A [] := fun h => absurd rfl h
theorem Rd.keep (h : Rd F w A xs) (hs : w.heap.size ≤ w'.heap.size) (hk : ∀ b, F b → b < w.heap.size → w'.heap[b]? = w.heap[b]?) : Rd F w' A xs := fun hx => by
  obtain ⟨b, o, e, hF, hb, hc⟩ := h hx
  exact ⟨b, o, e, hF, by omega, fun j u hu => (World.cell?_of_block (a := ⟨b, o + j, none⟩) (hk b hF hb)).trans (hc j u hu)⟩
theorem Rd.weaken (h : Rd F w A xs) (hF : ∀ b, F b → b < w.heap.size → F' b) : Rd F' w A xs := fun hx => by
  obtain ⟨b, o, e, hf, hb, hc⟩ := h hx
  exact ⟨b, o, e, hF b hf hb, hb, hc⟩
theorem Rd.any (h : Rd F w A xs) : Rd (fun _ => True) w A xs := h.weaken fun _ _ _ => trivial
theorem Rd.below {B : Nat} (h : Rd F w A xs) (hb : Below B w w') (hB : w.heap.size ≤ B) : Rd F w' A xs := h.keep hb.size fun b _ hl => hb.block b (by omega)
theorem Rd.grown {row : Option Nat} (h : Rd F w A xs) (hg : w.grownBy w' row) (hr : ∀ g, row = some g → ¬ F g) : Rd F w' A xs :=
  h.keep hg.size fun b hF hl => hg.block b hl (fun e => hr b e.symm hF)
theorem Rd.alloc (h : Rd F w A xs) (o : Obj) : Rd F (w.alloc o) A xs := h.keep (by simp) fun b _ hl => Below.heap_alloc w o b hl
theorem Rd.drew (h : Rd F w A xs) : Rd F w.drew A xs := h
theorem Rd.drewN (h : Rd F w A xs) (n : Nat) : Rd F (w.drewN n) A xs := h
theorem Rd.setCell (h : Rd F w A xs) {p : Addr} (hp : ¬ F p.block) (u : Value) : Rd F (w.setCell p u) A xs :=
  h.keep (by simp) fun b hF _ => Below.heap_setCell w p u b (fun e => hp (e ▸ hF))
theorem Rd.at_ {j : Nat} {u : Value} (h : Rd F w A xs) (hj : xs[j]? = some u) : ∃ b o, A = some ⟨b, o, none⟩ ∧ F b ∧ b < w.heap.size ∧ w.cell? ⟨b, o + j, none⟩ = some u := by
  obtain ⟨b, o, e, hF, hb, hc⟩ := h (by rintro rfl; simp at hj)
  exact ⟨b, o, e, hF, hb, hc j u hj⟩
/-- A part of what is read is read. -/
theorem Rd.part {c k s : Nat} (h : Rd F w A xs) (he : ∃ al zs, xs = al ++ ys ++ zs ∧ al.length = k * s) (hc : xs.length ≤ c * s) :
    Rd F w (if c = k then A else A.map (·.add (k * s))) ys := fun hy => by
  obtain ⟨al, zs, rfl, hk⟩ := he
  obtain ⟨b, o, e, hF, hb, hcell⟩ := h (by simp [hy])
  have hl : 0 < ys.length := List.length_pos_iff.2 hy
  have hne : c ≠ k := by
    rintro rfl
    simp only [List.length_append] at hc
    omega
  refine ⟨b, o + k * s, by rw [if_neg hne, e]; simp [add_lit], hF, hb, fun j u hu => ?_⟩
  rw [Nat.add_assoc]
  refine hcell _ u ?_
  have hj : j < ys.length := by
    rcases Nat.lt_or_ge j ys.length with h | h
    · exact h
    · rw [List.getElem?_eq_none h] at hu; cases hu
  rw [List.append_assoc, List.getElem?_append_right (by omega), hk, show k * s + j - k * s = j by omega, List.getElem?_append_left hj]
  exact hu
/-- The first part. -/
theorem Rd.front {zs : List Value} (h : Rd F w A (ys ++ zs)) : Rd F w A ys := fun hy => by
  obtain ⟨b, o, e, hF, hb, hcell⟩ := h (by simp [hy])
  refine ⟨b, o, e, hF, hb, fun j u hu => hcell j u ?_⟩
  have hj : j < ys.length := by
    rcases Nat.lt_or_ge j ys.length with h | h
    · exact h
    · rw [List.getElem?_eq_none h] at hu; cases hu
  rw [List.getElem?_append_left hj]; exact hu
/-- What a row owns is read. -/
theorem Rd.own {base : Nat} {e : TypeId} {size n c : Nat} (h : w.ownsRow base e size (.slice A n c) n xs) : Rd (fun b => A = some ⟨b, 0, none⟩ ∧ base ≤ b) w A xs := fun hx => by
  rcases h.2 with ⟨h1, rfl⟩ | ⟨g, cap, cur, h1, hb, hg, hn, _, _, ht⟩
  · have := h.1; simp at this; exact absurd this hx
  · injection h1 with hA
    refine ⟨g, 0, hA, ⟨hA, hb⟩, (Array.getElem?_eq_some_iff.1 hg).1, fun j u hu => ?_⟩
    have := h.cells (g := g) (by simp [Value.ownBlock, hA]) j u hu
    rwa [add_lit] at this
/-- The cells as the laws on append ask them. -/
theorem Rd.news (h : Rd F w A xs) {ad : Addr} (hA : A = some ad) : ∀ j u, xs[j]? = some u → w.cell? (ad.add j) = some u := fun j u hu => by
  obtain ⟨b, o, e, _, _, hc⟩ := h (by rintro rfl; simp at hu)
  rw [hA] at e; injection e with e; subst e
  rw [add_lit]; exact hc j u hu
end

/-- A slice type, its element's row of the table. -/
structure ElemOf (P : Program) (t e : TypeId) (size : Nat) : Prop where
  und : P.underlying t = some (.slice e)
  info : ∃ i z, P.info? e = some i ∧ i.zero = some z ∧ i.size = size ∧ i.bytes ≤ 1024 ∧ z.cells.size = size ∧ 0 < size
theorem ElemOf.mk' {P : Program} {t e : TypeId} {z : Value} {size bytes : Nat} (ht : P.underlying t = some (.slice e)) (h : (P.info? e).map (fun i => (i.zero, i.size, i.bytes)) = some (some z, size, bytes))
    (hz : z.cells.size = size) (hs : 0 < size) (hb : bytes ≤ 1024) : ElemOf P t e size := by
  obtain ⟨i, hi, h0, h1, h2⟩ := info_parts h
  exact ⟨ht, i, z, hi, h0, h1, by omega, hz, hs⟩

/-- append onto a row of the call's own, the source whatever: nil, empty, or not. -/
theorem run_append_rd {P : Program} {t e : TypeId} {size : Nat} (E : ElemOf P t e size) (ty : TypeId) (w : World) (base : Nat)
    (v : Value) (n : Nat) (xs : List Value) (hown : w.ownsRow base e size v n xs)
    (F : Nat → Prop) (A : Option Addr) (m c : Nat) (news : List Value) (hl : news.length = m * size) (hr : Rd F w A news) (h1 : ∀ u ∈ news, u.oneCell' = true)
    (hlim : n + m ≤ 68719476736) (hbase : base ≤ w.heap.size) :
    ∃ A' c' w', (Builtin.append_ #[t, t] ty #[v, .slice A m c]).run P w = .ok (.slice A' (n + m) c') w' ∧ w'.ownsRow base e size (.slice A' (n + m) c') (n + m) (xs ++ news) ∧ w.grownBy w' v.ownBlock ∧
      (A'.map (·.block) = v.ownBlock ∨ A'.map (·.block) = some w.heap.size) := by
  obtain ⟨ht, i, z, hi, hz, hsize, hby, hzs, hsz⟩ := E
  have shape : ∀ (v' : Value) (w' : World), w'.ownsRow base e size v' (n + m) (xs ++ news) → ∃ (A' : Option Addr) (c' : Nat), v' = Value.slice A' (n + m) c' ∧ v'.ownBlock = A'.map (·.block) := by
    intro v' w' ho
    rcases ho.2 with ⟨rfl, h0⟩ | ⟨g, cap, cur, rfl, _⟩
    · exact ⟨none, 0, by rw [h0], rfl⟩
    · exact ⟨_, cap, rfl, rfl⟩
  by_cases hne : A = none
  · subst hne
    have hn : news = [] := by
      rcases List.eq_nil_or_concat news with h | ⟨l, u, rfl⟩
      · exact h
      · obtain ⟨_, _, h, _⟩ := hr (by simp); cases h
    subst hn
    have hm : m = 0 := by
      rcases Nat.eq_zero_or_pos m with h | h
      · exact h
      · have := Nat.mul_pos h hsz; simp at hl; omega
    subst hm
    have hrun : (Builtin.append_ #[t, t] ty #[v, .slice none 0 c]).run P w = .ok v w := by
      rcases hown.2 with ⟨rfl, rfl⟩ | ⟨g, cap, cur, rfl, _, _, hnc, _⟩
      · simp [Builtin.append_, run_underlying ht, sizeOf, typeInfo, hi, Builtin.lenOf, Builtin.firstCells]
      · simp [Builtin.append_, run_underlying ht, sizeOf, typeInfo, hi, Builtin.lenOf, Builtin.firstCells, hnc, storeCells]
    have ho : w.ownsRow base e size v (n + 0) (xs ++ []) := by simpa using hown
    obtain ⟨A', c', e1, e2⟩ := shape v w ho
    refine ⟨A', c', w, by rw [hrun, e1], by rw [← e1]; exact ho, World.grownBy.refl w _, .inl ?_⟩
    rw [e2]
  · obtain ⟨ad, rfl⟩ := Option.ne_none_iff_exists'.1 hne
    obtain ⟨v', w', hrun, h2, h3, _, h5⟩ := run_append_own_at (P := P) w base t ty e i z size i.bytes ht hi hz hsize rfl hzs hsz v n xs hown ad m c news hl (hr.news rfl) h1 (by simp only [maxLen]; omega)
      (Nat.le_trans (Nat.mul_le_mul_left _ hby) (by omega)) hbase
    obtain ⟨A', c', rfl, e2⟩ := shape v' w' h2
    exact ⟨A', c', w', hrun, h2, h3, by rw [← e2]; exact h5⟩

/-- What an append onto a row of the call's own leaves: the row, longer; what was below as it was; all but the row's block as it was; where the row lies. -/
structure Apd (a0 w w' : World) (B : Nat) (e : TypeId) (size : Nat) (v0 : Value) (A' : Option Addr) (n c' : Nat) (xs : List Value) : Prop where
  own : w'.ownsRow B e size (.slice A' n c') n xs
  below : Below B a0 w'
  grown : w.grownBy w' v0.ownBlock
  lies : A'.map (·.block) = v0.ownBlock ∨ A'.map (·.block) = some w.heap.size

section
variable {P : Program} {t e : TypeId} {size : Nat} (E : ElemOf P t e size) (w a0 : World) {ops : Array Oper} {rest : List Oper} {o : Oper} {a : Act} {Q : Exit → Act → World → Prop}
include E
theorem wp_ap {K : Act → World → Prop} (s x : Operand) (ho : o.op = .call { callee := .builtin .append, args := #[s, x], argTypes := #[t, t] }) (B : Nat) (v0 : Value) (n : Nat) (xs : List Value) (hs : a.eval s = v0)
    (hown : w.ownsRow B e size v0 n xs) (hb : Below B a0 w) (hB : B ≤ a0.heap.size)
    (F : Nat → Prop) (A : Option Addr) (m c : Nat) (news : List Value) (hx : a.eval x = .slice A m c) (hl : news.length = m * size) (hr : Rd F w A news) (h1 : ∀ u ∈ news, u.oneCell' = true) (hlim : n + m ≤ 68719476736)
    (h : ∀ A' c' w', Apd a0 w w' B e size v0 A' (n + m) c' (xs ++ news) → K (a.put o.dst (.slice A' (n + m) c')) w') : o.wp P a w K Q := by
  have hbase : B ≤ w.heap.size := Nat.le_trans hB hb.size
  obtain ⟨A', c', w', hrun, h2, h3, h4⟩ := run_append_rd E o.type w B v0 n xs hown F A m c news hl hr h1 hlim hbase
  unfold Oper.wp execOp
  simp only [ho, resolve, invoke, builtin, Sem.run_bind, Sem.run_pure, Result.andThen_ok, List.map_toArray, List.map_cons, List.map_nil, hs, hx, hrun]
  exact h A' c' w' ⟨h2, hb.grown h3 hbase (fun k hk => (hown.lt k hk).1), h3, h4⟩
theorem ap (hgd : o.guard = none) (s x : Operand) (ho : o.op = .call { callee := .builtin .append, args := #[s, x], argTypes := #[t, t] }) (B : Nat) (v0 : Value) (n : Nat) (xs : List Value) (hs : a.eval s = v0)
    (hown : w.ownsRow B e size v0 n xs) (hb : Below B a0 w) (hB : B ≤ a0.heap.size)
    (F : Nat → Prop) (A : Option Addr) (m c : Nat) (news : List Value) (hx : a.eval x = .slice A m c) (hl : news.length = m * size) (hr : Rd F w A news) (h1 : ∀ u ∈ news, u.oneCell' = true) (hlim : n + m ≤ 68719476736)
    (h : ∀ A' c' w', Apd a0 w w' B e size v0 A' (n + m) c' (xs ++ news) → wpList P ops Q rest (a.put o.dst (.slice A' (n + m) c')) w') : wpList P ops Q (o :: rest) a w :=
  wpList_plain hgd fun _ hK => wp_ap E w a0 s x ho B v0 n xs hs hown hb hB F A m c news hx hl hr h1 hlim fun A' c' w' h2 => hK _ _ (h A' c' w' h2)
theorem step_ap {K : Act → World → Prop} {E' : Prop} (hgd : o.guard = none) (s x : Operand) (ho : o.op = .call { callee := .builtin .append, args := #[s, x], argTypes := #[t, t] }) (B : Nat) (v0 : Value) (n : Nat) (xs : List Value) (hs : a.eval s = v0)
    (hown : w.ownsRow B e size v0 n xs) (hb : Below B a0 w) (hB : B ≤ a0.heap.size)
    (F : Nat → Prop) (A : Option Addr) (m c : Nat) (news : List Value) (hx : a.eval x = .slice A m c) (hl : news.length = m * size) (hr : Rd F w A news) (h1 : ∀ u ∈ news, u.oneCell' = true) (hlim : n + m ≤ 68719476736)
    (h : ∀ A' c' w', Apd a0 w w' B e size v0 A' (n + m) c' (xs ++ news) → K (a.put o.dst (.slice A' (n + m) c')) w') :
    if Region.wanted o (yielded ops a.tmps) = true then Oper.wp P o a w K Q else E' := by
  have hw : Region.wanted o (yielded ops a.tmps) = true := by simp [Region.wanted, hgd]
  rw [if_pos hw]
  exact wp_ap E w a0 s x ho B v0 n xs hs hown hb hB F A m c news hx hl hr h1 hlim h
end

/-- One element, laid into a block of its own ahead of an append. -/
theorem Rd.new (w : World) (cs : List Value) (t : TypeId) : Rd (fun b => b = w.heap.size) (w.alloc (.cells cs.toArray t)) (some ⟨w.heap.size, 0, none⟩) cs := fun _ =>
  ⟨_, 0, rfl, rfl, by simp, fun j u hu => by rw [Nat.zero_add, World.cell?_alloc_new]; simpa using hu⟩

/-- A call that makes memory and touches none that was there. -/
theorem bcell {B : Nat} {W w1 : World} (hb : Below B W w1) : (∀ b o, b < B → w1.cell? ⟨b, o, none⟩ = W.cell? ⟨b, o, none⟩) ∧ (∀ b o, b < B → w1.frozen? ⟨b, o, none⟩ = W.frozen? ⟨b, o, none⟩) :=
  ⟨fun b o h => hb.cell (p := ⟨b, o, none⟩) h, fun b o h => hb.frozen (p := ⟨b, o, none⟩) h⟩

theorem bthen {a w w' : World} (h : Below a.heap.size a w) (k : Below w.heap.size w w') : Below a.heap.size a w' := h.trans (k.mono h.size)
theorem balloc {a w : World} (h : Below a.heap.size a w) (o : Obj) : Below a.heap.size a (w.alloc o) := h.alloc h.size o
theorem bdrew {a w : World} (h : Below a.heap.size a w) : Below a.heap.size a w.drew := h.drew
theorem bset {a w : World} (h : Below a.heap.size a w) {p : Addr} (hp : a.heap.size ≤ p.block) (u : Value) : Below a.heap.size a (w.setCell p u) := h.setCell hp u
theorem bwiden {B : Nat} {a w w' : World} (h : Below B a w) (k : Below w.heap.size w w') (hB : B ≤ w.heap.size) : Below B a w' := h.trans (k.mono hB)

end Go.Proofs.YticfmphbhdkhoaaGreatDoor
namespace Go.Proofs.YticfmphbhdkhoaaGreatDoor
open Go Go.RowKit

/-- How an x lies as cells, in blocks of which F holds. -/
structure Ty (α : Type) where
  size : Nat
  rep : (Nat → Prop) → World → List Value → α → Prop
  len : ∀ {F w cs x}, rep F w cs x → cs.length = size
  one : ∀ {F w cs x}, rep F w cs x → ∀ u ∈ cs, u.oneCell' = true
  keep : ∀ {F w w' cs x}, rep F w cs x → w.heap.size ≤ w'.heap.size → (∀ b, F b → b < w.heap.size → w'.heap[b]? = w.heap[b]?) → rep F w' cs x
  weaken : ∀ {F F' w cs x}, rep F w cs x → (∀ b, F b → b < w.heap.size → F' b) → rep F' w cs x

theorem Ty.below {α : Type} (T : Ty α) {F : Nat → Prop} {w w' : World} {B : Nat} {cs : List Value} {x : α} (h : T.rep F w cs x) (hb : Below B w w') (hB : w.heap.size ≤ B) : T.rep F w' cs x :=
  T.keep h hb.size fun b _ hl => hb.block b (by omega)
theorem Ty.grown {α : Type} (T : Ty α) {F : Nat → Prop} {w w' : World} {row : Option Nat} {cs : List Value} {x : α} (h : T.rep F w cs x) (hg : w.grownBy w' row) (hr : ∀ g, row = some g → ¬ F g) : T.rep F w' cs x :=
  T.keep h hg.size fun b hF hl => hg.block b hl (fun e => hr b e.symm hF)
theorem Ty.alloc {α : Type} (T : Ty α) {F : Nat → Prop} {w : World} {cs : List Value} {x : α} (h : T.rep F w cs x) (o : Obj) : T.rep F (w.alloc o) cs x :=
  T.keep h (by simp) fun b _ hl => Below.heap_alloc w o b hl

def tI64 : Ty Int where
  size := 1
  rep _ _ cs x := cs = [.int .i64 x] ∧ -9223372036854775808 ≤ x ∧ x ≤ 9223372036854775807
  len h := by rw [h.1]; rfl
  one h := by rw [h.1]; intro u hu; simp at hu; subst hu; rfl
  keep h _ _ := h
  weaken h _ := h
def tU64 : Ty Nat where
  size := 1
  rep _ _ cs x := cs = [.int .u64 (x : Int)] ∧ x < 18446744073709551616
  len h := by rw [h.1]; rfl
  one h := by rw [h.1]; intro u hu; simp at hu; subst hu; rfl
  keep h _ _ := h
  weaken h _ := h
def tU8 : Ty UInt8 where
  size := 1
  rep _ _ cs x := cs = [.int .u8 (x.toNat : Int)]
  len h := by rw [h]; rfl
  one h := by rw [h]; intro u hu; simp at hu; subst hu; rfl
  keep h _ _ := h
  weaken h _ := h
def tBool : Ty Bool where
  size := 1
  rep _ _ cs x := cs = [.bool x]
  len h := by rw [h]; rfl
  one h := by rw [h]; intro u hu; simp at hu; subst hu; rfl
  keep h _ _ := h
  weaken h _ := h
def tStr : Ty ByteArray where
  size := 1
  rep _ _ cs x := cs = [.string x] ∧ x.size ≤ maxLen
  len h := by rw [h.1]; rfl
  one h := by rw [h.1]; intro u hu; simp at hu; subst hu; rfl
  keep h _ _ := h
  weaken h _ := h
def Ty.prod {α β : Type} (S : Ty α) (T : Ty β) : Ty (α × β) where
  size := S.size + T.size
  rep F w cs x := ∃ c1 c2, cs = c1 ++ c2 ∧ S.rep F w c1 x.1 ∧ T.rep F w c2 x.2
  len h := by obtain ⟨c1, c2, rfl, h1, h2⟩ := h; simp [S.len h1, T.len h2]
  one h := by
    obtain ⟨c1, c2, rfl, h1, h2⟩ := h
    intro u hu
    rcases List.mem_append.1 hu with hu | hu
    · exact S.one h1 u hu
    · exact T.one h2 u hu
  keep h hs hk := by obtain ⟨c1, c2, rfl, h1, h2⟩ := h; exact ⟨c1, c2, rfl, S.keep h1 hs hk, T.keep h2 hs hk⟩
  weaken h hF := by obtain ⟨c1, c2, rfl, h1, h2⟩ := h; exact ⟨c1, c2, rfl, S.weaken h1 hF, T.weaken h2 hF⟩
def Ty.map {α β : Type} (f : β → α) (T : Ty α) : Ty β where
  size := T.size
  rep F w cs x := T.rep F w cs (f x)
  len h := T.len h
  one h := T.one h
  keep h := T.keep h
  weaken h := T.weaken h

/-- The lists of cells are those of the elements. -/
def Reps {α : Type} (T : Ty α) (F : Nat → Prop) (w : World) (css : List (List Value)) (xs : List α) : Prop :=
  css.length = xs.length ∧ ∀ (i : Nat) (cs : List Value) (x : α), css[i]? = some cs → xs[i]? = some x → T.rep F w cs x

section
variable {α : Type} {T : Ty α} {F F' : Nat → Prop} {w w' : World} {css : List (List Value)} {xs : List α}
theorem Reps.nil_ : Reps T F w [] [] := ⟨rfl, by simp⟩
theorem Reps.keep (h : Reps T F w css xs) (hs : w.heap.size ≤ w'.heap.size) (hk : ∀ b, F b → b < w.heap.size → w'.heap[b]? = w.heap[b]?) : Reps T F w' css xs :=
  ⟨h.1, fun i cs x h1 h2 => T.keep (h.2 i cs x h1 h2) hs hk⟩
theorem Reps.weaken (h : Reps T F w css xs) (hF : ∀ b, F b → b < w.heap.size → F' b) : Reps T F' w css xs :=
  ⟨h.1, fun i cs x h1 h2 => T.weaken (h.2 i cs x h1 h2) hF⟩
theorem Reps.snoc {cs : List Value} {x : α} (h : Reps T F w css xs) (hx : T.rep F w cs x) : Reps T F w (css ++ [cs]) (xs ++ [x]) := by
  refine ⟨by simp [h.1], fun i c y h1 h2 => ?_⟩
  rcases Nat.lt_trichotomy i css.length with hi | hi | hi
  · rw [List.getElem?_append_left hi] at h1
    rw [List.getElem?_append_left (by rw [← h.1]; exact hi)] at h2
    exact h.2 i c y h1 h2
  · subst hi
    simp at h1
    rw [h.1] at h2
    simp at h2
    subst h1 h2
    exact hx
  · rw [List.getElem?_eq_none (by simp; omega)] at h1
    cases h1
theorem Reps.append {dss : List (List Value)} {ys : List α} (h : Reps T F w css xs) (k : Reps T F w dss ys) : Reps T F w (css ++ dss) (xs ++ ys) := by
  refine ⟨by simp [h.1, k.1], fun i c y h1 h2 => ?_⟩
  rcases Nat.lt_or_ge i css.length with hi | hi
  · rw [List.getElem?_append_left hi] at h1
    rw [List.getElem?_append_left (by rw [← h.1]; exact hi)] at h2
    exact h.2 i c y h1 h2
  · rw [List.getElem?_append_right hi] at h1
    rw [List.getElem?_append_right (by rw [← h.1]; exact hi), ← h.1] at h2
    exact k.2 _ c y h1 h2
theorem Reps.take (h : Reps T F w css xs) (k : Nat) : Reps T F w (css.take k) (xs.take k) := by
  refine ⟨by simp [h.1], fun i c y h1 h2 => ?_⟩
  rw [List.getElem?_take] at h1 h2
  split at h1
  · rename_i hk; rw [if_pos hk] at h2; exact h.2 i c y h1 h2
  · cases h1
theorem Reps.drop (h : Reps T F w css xs) (k : Nat) : Reps T F w (css.drop k) (xs.drop k) := by
  refine ⟨by simp [h.1], fun i c y h1 h2 => ?_⟩
  rw [List.getElem?_drop] at h1 h2
  exact h.2 _ c y h1 h2
theorem Reps.lens (h : Reps T F w css xs) : ∀ cs ∈ css, cs.length = T.size := by
  intro cs hc
  obtain ⟨i, hi, rfl⟩ := List.getElem_of_mem hc
  exact T.len (h.2 i _ (xs[i]'(by rw [← h.1]; exact hi)) (List.getElem?_eq_getElem hi) (List.getElem?_eq_getElem _))
theorem Reps.ones (h : Reps T F w css xs) : ∀ u ∈ css.flatten, u.oneCell' = true := by
  intro u hu
  obtain ⟨cs, hc, hu⟩ := List.mem_flatten.1 hu
  obtain ⟨i, hi, rfl⟩ := List.getElem_of_mem hc
  exact T.one (h.2 i _ (xs[i]'(by rw [← h.1]; exact hi)) (List.getElem?_eq_getElem hi) (List.getElem?_eq_getElem _)) u hu
theorem flatten_len {s : Nat} : ∀ {css : List (List Value)}, (∀ cs ∈ css, cs.length = s) → css.flatten.length = css.length * s
  | [], _ => by simp
  | c :: r, h => by
    rw [List.flatten_cons, List.length_append, flatten_len (fun cs hc => h cs (by simp [hc])), h c (by simp), List.length_cons, Nat.succ_mul]; omega
theorem flatten_at {s : Nat} : ∀ {css : List (List Value)}, (∀ cs ∈ css, cs.length = s) → ∀ (k j : Nat) (cs : List Value) (u : Value), css[k]? = some cs → cs[j]? = some u → css.flatten[k * s + j]? = some u
  | [], _, k, j, cs, u, h, _ => by simp at h
  | c :: r, hl, 0, j, cs, u, h, hu => by
    simp at h; subst h
    have hj : j < c.length := by
      rcases Nat.lt_or_ge j c.length with h | h
      · exact h
      · rw [List.getElem?_eq_none h] at hu; cases hu
    rw [List.flatten_cons, Nat.zero_mul, Nat.zero_add, List.getElem?_append_left hj]; exact hu
  | c :: r, hl, k + 1, j, cs, u, h, hu => by
    have hc := hl c (by simp)
    rw [List.flatten_cons, List.getElem?_append_right (by rw [hc, Nat.succ_mul]; omega), hc, show (k + 1) * s + j - s = k * s + j by rw [Nat.succ_mul]; omega]
    exact flatten_at (fun cs hc => hl cs (by simp [hc])) k j cs u (by simpa using h) hu
theorem Reps.flat (h : Reps T F w css xs) : css.flatten.length = xs.length * T.size := by rw [flatten_len h.lens, h.1]
end

/-- A slice that reads as a list. -/
def Sl {α : Type} (T : Ty α) (F : Nat → Prop) (w : World) (A : Option Addr) (n c : Nat) (xs : List α) : Prop :=
  n = xs.length ∧ n ≤ c ∧ c ≤ maxLen ∧ ∃ css, Rd F w A css.flatten ∧ Reps T F w css xs

section
variable {α : Type} {T : Ty α} {F F' : Nat → Prop} {w w' : World} {A : Option Addr} {n c : Nat} {xs : List α}
theorem Sl.keep (h : Sl T F w A n c xs) (hs : w.heap.size ≤ w'.heap.size) (hk : ∀ b, F b → b < w.heap.size → w'.heap[b]? = w.heap[b]?) : Sl T F w' A n c xs := by
  obtain ⟨h1, h2, h3, css, h4, h5⟩ := h
  exact ⟨h1, h2, h3, css, h4.keep hs hk, h5.keep hs hk⟩
theorem Sl.weaken (h : Sl T F w A n c xs) (hF : ∀ b, F b → b < w.heap.size → F' b) : Sl T F' w A n c xs := by
  obtain ⟨h1, h2, h3, css, h4, h5⟩ := h
  exact ⟨h1, h2, h3, css, h4.weaken hF, h5.weaken hF⟩
theorem Sl.below {B : Nat} (h : Sl T F w A n c xs) (hb : Below B w w') (hB : w.heap.size ≤ B) : Sl T F w' A n c xs := h.keep hb.size fun b _ hl => hb.block b (by omega)
theorem Sl.grown {row : Option Nat} (h : Sl T F w A n c xs) (hg : w.grownBy w' row) (hr : ∀ g, row = some g → ¬ F g) : Sl T F w' A n c xs :=
  h.keep hg.size fun b hF hl => hg.block b hl (fun e => hr b e.symm hF)
theorem Sl.alloc (h : Sl T F w A n c xs) (o : Obj) : Sl T F (w.alloc o) A n c xs := h.keep (by simp) fun b _ hl => Below.heap_alloc w o b hl
theorem Sl.drew (h : Sl T F w A n c xs) : Sl T F w.drew A n c xs := h.keep (Nat.le_refl _) fun _ _ _ => rfl
theorem Sl.drewN (h : Sl T F w A n c xs) (k : Nat) : Sl T F (w.drewN k) A n c xs := h.keep (Nat.le_refl _) fun _ _ _ => rfl
theorem Sl.setCell (h : Sl T F w A n c xs) {p : Addr} (hp : ¬ F p.block) (u : Value) : Sl T F (w.setCell p u) A n c xs :=
  h.keep (by simp) fun b hF _ => Below.heap_setCell w p u b (fun e => hp (e ▸ hF))
theorem Sl.nil_ (T : Ty α) (F : Nat → Prop) (w : World) : Sl T F w none 0 0 [] := ⟨rfl, Nat.le_refl _, by simp [maxLen], [], Rd.nil_, Reps.nil_⟩
theorem Sl.len (h : Sl T F w A n c xs) : n = xs.length := h.1
/-- The element k: where its cells lie. -/
theorem Sl.at_ (h : Sl T F w A n c xs) {k : Nat} (hk : k < xs.length) (hs : 0 < T.size) :
    ∃ b o cs, A = some ⟨b, o, none⟩ ∧ F b ∧ b < w.heap.size ∧ T.rep F w cs (xs[k]'hk) ∧ ∀ j u, cs[j]? = some u → w.cell? ⟨b, o + (k * T.size + j), none⟩ = some u := by
  obtain ⟨h1, h2, h3, css, h4, h5⟩ := h
  have hk' : k < css.length := by rw [h5.1]; exact hk
  have hrep := h5.2 k _ _ (List.getElem?_eq_getElem hk') (List.getElem?_eq_getElem hk)
  have hne : css.flatten ≠ [] := by
    intro he
    have := h5.flat
    rw [he] at this
    have : 0 < xs.length * T.size := Nat.mul_pos (by omega) hs
    simp at *
    omega
  obtain ⟨b, o, e, hF, hb, hc⟩ := h4 hne
  exact ⟨b, o, css[k], e, hF, hb, hrep, fun j u hu => hc _ u (flatten_at h5.lens k j _ u (List.getElem?_eq_getElem hk') hu)⟩
/-- An element of one cell. -/
theorem Sl.at1 (h : Sl T F w A n c xs) {k : Nat} (hk : k < xs.length) (hs : T.size = 1) :
    ∃ b o u, A = some ⟨b, o, none⟩ ∧ F b ∧ b < w.heap.size ∧ T.rep F w [u] (xs[k]'hk) ∧ w.cell? ⟨b, o + k, none⟩ = some u := by
  obtain ⟨b, o, cs, e, hF, hb, hr, hc⟩ := h.at_ hk (by omega)
  obtain ⟨u, rfl⟩ : ∃ u, cs = [u] := by
    have := T.len hr
    rw [hs] at this
    match cs, this with
    | [u], _ => exact ⟨u, rfl⟩
  refine ⟨b, o, u, e, hF, hb, hr, ?_⟩
  have := hc 0 u rfl
  rw [hs, Nat.mul_one, Nat.add_zero] at this
  exact this
/-- s[lo:hi]. -/
theorem Sl.cut (h : Sl T F w A n c xs) {lo hi : Nat} (h1 : lo ≤ hi) (h2 : hi ≤ n) : Sl T F w (if c = lo then A else A.map (·.add (lo * T.size))) (hi - lo) (c - lo) ((xs.take hi).drop lo) := by
  obtain ⟨h3, h4, h5, css, h6, h7⟩ := h
  refine ⟨by simp; omega, by omega, by omega, (css.take hi).drop lo, ?_, (h7.take hi).drop lo⟩
  refine h6.part ⟨(css.take lo).flatten, (css.drop hi).flatten, ?_, ?_⟩ (by rw [h7.flat]; exact Nat.mul_le_mul_right _ (by omega))
  · rw [← List.flatten_append, ← List.flatten_append]
    congr 1
    have e1 : css.take lo = (css.take hi).take lo := by rw [List.take_take, Nat.min_eq_left h1]
    rw [e1, List.take_append_drop, List.take_append_drop]
  · rw [(h7.take lo).flat, List.length_take]
    congr 1
    omega
end

/-- A slice as a type's word. -/
def tSl {α : Type} (T : Ty α) : Ty (List α) where
  size := 1
  rep F w cs xs := ∃ A n c, cs = [.slice A n c] ∧ Sl T F w A n c xs
  len h := by obtain ⟨_, _, _, rfl, _⟩ := h; rfl
  one h := by obtain ⟨_, _, _, rfl, _⟩ := h; intro u hu; simp at hu; subst hu; rfl
  keep h hs hk := by obtain ⟨A, n, c, rfl, h1⟩ := h; exact ⟨A, n, c, rfl, h1.keep hs hk⟩
  weaken h hF := by obtain ⟨A, n, c, rfl, h1⟩ := h; exact ⟨A, n, c, rfl, h1.weaken hF⟩

/-- A list that the call builds: a row of its own from block B on; what its elements lead to lies in blocks of which F holds, the row's own not among them. -/
structure OwnF {α : Type} (T : Ty α) (e : TypeId) (F : Nat → Prop) (w : World) (B : Nat) (A : Option Addr) (n c : Nat) (xs : List α) : Prop where
  row : ∃ css, w.ownsRow B e T.size (.slice A n c) n css.flatten ∧ Reps T F w css xs
  off : ∀ b o, A = some ⟨b, o, none⟩ → ¬ F b
  len : n = xs.length
def Own {α : Type} (T : Ty α) (e : TypeId) (w : World) (B : Nat) (A : Option Addr) (n c : Nat) (xs : List α) : Prop := ∃ F, OwnF T e F w B A n c xs

theorem own_cap {w : World} {B : Nat} {A : Option Addr} {n c : Nat} {e : TypeId} {size : Nat} {ys : List Value} (h : w.ownsRow B e size (.slice A n c) n ys) : n ≤ c ∧ c ≤ maxLen := by
  rcases h.2 with ⟨h1, h2⟩ | ⟨g, cap, cur, h1, _, _, h2, h3, _⟩
  · injection h1 with _ h3 h4; subst h4; exact ⟨by omega, by simp [maxLen]⟩
  · injection h1 with _ _ h4; subst h4; exact ⟨h2, h3⟩
theorem own_down {w : World} {B : Nat} {n : Nat} {e : TypeId} {size : Nat} {v : Value} {ys : List Value} {B' : Nat} (h : w.ownsRow B e size v n ys) (hB : B' ≤ B) : w.ownsRow B' e size v n ys := by
  refine ⟨h.1, ?_⟩
  rcases h.2 with h1 | ⟨g, cap, cur, h1, hb, r⟩
  · exact .inl h1
  · exact .inr ⟨g, cap, cur, h1, by omega, r⟩
theorem own_keep {w w' : World} {B : Nat} {n : Nat} {e : TypeId} {size : Nat} {v : Value} {ys : List Value} (h : w.ownsRow B e size v n ys) (hk : ∀ b, v.ownBlock = some b → w'.heap[b]? = w.heap[b]?) : w'.ownsRow B e size v n ys := by
  refine ⟨h.1, ?_⟩
  rcases h.2 with h1 | ⟨g, cap, cur, rfl, hb, hg, r⟩
  · exact .inl h1
  · exact .inr ⟨g, cap, cur, rfl, hb, by rw [hk g rfl]; exact hg, r⟩
/-- Where an owned row lies. -/
theorem own_off {w : World} {B : Nat} {A : Option Addr} {n c : Nat} {e : TypeId} {size : Nat} {ys : List Value} (h : w.ownsRow B e size (.slice A n c) n ys) {b : Nat} (hb : (Value.slice A n c).ownBlock = some b) : A = some ⟨b, 0, none⟩ ∧ B ≤ b ∧ b < w.heap.size := by
  have hl := h.lt b hb
  rcases h.2 with ⟨h1, h2⟩ | ⟨g, cap, cur, h1, _⟩
  · injection h1 with h1; subst h1; simp [Value.ownBlock] at hb
  · injection h1 with h1; subst h1; simp [Value.ownBlock] at hb; subst hb; exact ⟨rfl, hl⟩

section
variable {α : Type} {T : Ty α} {e : TypeId} {F F' : Nat → Prop} {w w' : World} {B : Nat} {A : Option Addr} {n c : Nat} {xs : List α}
theorem OwnF.nil_ (T : Ty α) (e : TypeId) (F : Nat → Prop) (w : World) (B : Nat) : OwnF T e F w B none 0 0 [] := ⟨⟨[], World.ownsRow_nil w B e _, Reps.nil_⟩, by simp, rfl⟩
theorem Own.nil_ (T : Ty α) (e : TypeId) (w : World) (B : Nat) : Own T e w B none 0 0 [] := ⟨fun _ => False, OwnF.nil_ T e _ w B⟩
theorem Own.len (h : Own T e w B A n c xs) : n = xs.length := h.elim fun _ h => h.len
theorem OwnF.cap (h : OwnF T e F w B A n c xs) : n ≤ c ∧ c ≤ maxLen := by obtain ⟨css, h1, _⟩ := h.row; exact own_cap h1
theorem Own.cap (h : Own T e w B A n c xs) : n ≤ c ∧ c ≤ maxLen := h.elim fun _ h => h.cap
theorem OwnF.down (h : OwnF T e F w B A n c xs) {B' : Nat} (hB : B' ≤ B) : OwnF T e F w B' A n c xs := by
  obtain ⟨⟨css, h1, h2⟩, h3, h4⟩ := h
  exact ⟨⟨css, own_down h1 hB, h2⟩, h3, h4⟩
theorem Own.down (h : Own T e w B A n c xs) {B' : Nat} (hB : B' ≤ B) : Own T e w B' A n c xs := h.elim fun _ h => ⟨_, h.down hB⟩
theorem OwnF.lies (h : OwnF T e F w B A n c xs) {b : Nat} (hb : (Value.slice A n c).ownBlock = some b) : A = some ⟨b, 0, none⟩ ∧ B ≤ b ∧ b < w.heap.size := by
  obtain ⟨css, h1, _⟩ := h.row; exact own_off h1 hb
/-- The blocks of what its elements lead to, made fewer or more. -/
theorem OwnF.weaken (h : OwnF T e F w B A n c xs) (hF : ∀ b, F b → b < w.heap.size → F' b) (hA : ∀ b, A = some ⟨b, 0, none⟩ → B ≤ b → b < w.heap.size → ¬ F' b) : OwnF T e F' w B A n c xs := by
  obtain ⟨⟨css, h1, h2⟩, h3, h4⟩ := h
  refine ⟨⟨css, h1, h2.weaken hF⟩, fun b o hA' => ?_, h4⟩
  obtain ⟨e1, e2, e3⟩ := own_off h1 (b := b) (by simp [Value.ownBlock, hA'])
  exact hA b e1 e2 e3
/-- A list that was built is read: its own block, and what its elements lead to. -/
theorem OwnF.sl (h : OwnF T e F w B A n c xs) : Sl T (fun b => F b ∨ (A = some ⟨b, 0, none⟩ ∧ B ≤ b)) w A n c xs := by
  obtain ⟨⟨css, h1, h2⟩, h3, h4⟩ := h
  obtain ⟨h5, h6⟩ := own_cap h1
  exact ⟨h4, h5, h6, css, (Rd.own h1).weaken fun _ h _ => .inr h, h2.weaken fun _ h _ => .inl h⟩
theorem Own.sl (h : Own T e w B A n c xs) : Sl T (fun _ => True) w A n c xs := h.elim fun _ h => h.sl.weaken fun _ _ _ => trivial
/-- It stays while the blocks of it stay. -/
theorem OwnF.keep (h : OwnF T e F w B A n c xs) (hs : w.heap.size ≤ w'.heap.size) (hk : ∀ b, (F b ∨ (A = some ⟨b, 0, none⟩ ∧ B ≤ b)) → b < w.heap.size → w'.heap[b]? = w.heap[b]?) : OwnF T e F w' B A n c xs := by
  obtain ⟨⟨css, h1, h2⟩, h3, h4⟩ := h
  exact ⟨⟨css, own_keep h1 (fun b hb => by obtain ⟨e1, e2, e3⟩ := own_off h1 hb; exact hk b (.inr ⟨e1, e2⟩) e3), h2.keep hs fun b hb hl => hk b (.inl hb) hl⟩, h3, h4⟩
theorem OwnF.keepB (h : OwnF T e F w B A n c xs) (hb : Below w.heap.size w w') : OwnF T e F w' B A n c xs := h.keep hb.size fun b _ hl => hb.block b hl
theorem Own.keepB (h : Own T e w B A n c xs) (hb : Below w.heap.size w w') : Own T e w' B A n c xs := h.elim fun _ h => ⟨_, h.keepB hb⟩
theorem OwnF.alloc (h : OwnF T e F w B A n c xs) (o : Obj) : OwnF T e F (w.alloc o) B A n c xs := h.keepB ((Below.refl _ w).alloc (Nat.le_refl _) o)
theorem Own.alloc (h : Own T e w B A n c xs) (o : Obj) : Own T e (w.alloc o) B A n c xs := h.elim fun _ h => ⟨_, h.alloc o⟩
theorem OwnF.drew (h : OwnF T e F w B A n c xs) : OwnF T e F w.drew B A n c xs := h.keepB ⟨rfl, rfl, rfl, Nat.le_refl _, fun _ _ => rfl⟩
theorem OwnF.drewN (h : OwnF T e F w B A n c xs) (k : Nat) : OwnF T e F (w.drewN k) B A n c xs := h.keepB ⟨rfl, rfl, rfl, Nat.le_refl _, fun _ _ => rfl⟩
theorem OwnF.grown (h : OwnF T e F w B A n c xs) {row : Option Nat} (hg : w.grownBy w' row) (hr : ∀ g, row = some g → ¬ F g ∧ A ≠ some ⟨g, 0, none⟩) : OwnF T e F w' B A n c xs :=
  h.keep hg.size fun b hb hl => hg.block b hl (fun e => by
    have := hr b e.symm
    rcases hb with hb | hb
    · exact this.1 hb
    · exact this.2 hb.1)
theorem OwnF.setCell (h : OwnF T e F w B A n c xs) {p : Addr} (hp : ¬ F p.block) (hp' : A ≠ some ⟨p.block, 0, none⟩) (u : Value) : OwnF T e F (w.setCell p u) B A n c xs :=
  h.keep (by simp) fun b hb _ => Below.heap_setCell w p u b (fun e => by
    subst e
    rcases hb with hb | hb
    · exact hp hb
    · exact hp' hb.1)
/-- Behind an append of elements: the list, longer. -/
theorem OwnF.apd {a0 : World} {A' : Option Addr} {m c' : Nat} {ys : List α} {dss css : List (List Value)}
    (hr : Reps T F w css xs) (hown : w.ownsRow B e T.size (.slice A n c) n css.flatten) (hA : ∀ b o, A = some ⟨b, o, none⟩ → ¬ F b) (hA' : ∀ b, A = some ⟨b, 0, none⟩ → B ≤ b → b < w.heap.size → ¬ F' b)
    (hk : Reps T F' w dss ys) (h : Apd a0 w w' B e T.size (.slice A n c) A' m c' (css.flatten ++ dss.flatten)) (hm : m = xs.length + ys.length) :
    OwnF T e (fun b => (F b ∨ F' b) ∧ b < w.heap.size) w' B A' m c' (xs ++ ys) := by
  have g1 : Reps T (fun b => (F b ∨ F' b) ∧ b < w.heap.size) w css xs := hr.weaken fun b hb hl => ⟨.inl hb, hl⟩
  have g2 : Reps T (fun b => (F b ∨ F' b) ∧ b < w.heap.size) w dss ys := hk.weaken fun b hb hl => ⟨.inr hb, hl⟩
  have hne : ∀ b, (Value.slice A n c).ownBlock = some b → ¬ (F b ∨ F' b) := fun b hb => by
    obtain ⟨e1, e2, e3⟩ := own_off hown hb
    rintro (h | h)
    · exact hA b 0 e1 h
    · exact hA' b e1 e2 e3 h
  refine ⟨⟨css ++ dss, by rw [List.flatten_append]; exact h.own, (g1.append g2).keep h.grown.size fun b hb hl => h.grown.block b hl (fun e => hne b e.symm hb.1)⟩, ?_, by simp [hm]⟩
  rintro b o rfl ⟨hb, hl⟩
  rcases h.lies with h1 | h1
  · exact hne b h1.symm hb
  · simp at h1; omega
end

/-- What an append onto a list of the call's own leaves. -/
structure ApdL {α : Type} (T : Ty α) (e : TypeId) (F : Nat → Prop) (a0 w w' : World) (B : Nat) (A : Option Addr) (A' : Option Addr) (n c' : Nat) (xs : List α) : Prop where
  own : OwnF T e F w' B A' n c' xs
  below : Below B a0 w'
  grown : w.grownBy w' (A.map (·.block))
  lies : A'.map (·.block) = A.map (·.block) ∨ A'.map (·.block) = some w.heap.size
theorem ownBlock_slice (A : Option Addr) (n c : Nat) : (Value.slice A n c).ownBlock = A.map (·.block) := by cases A <;> rfl

section
variable {P : Program} {α : Type} {T : Ty α} {t e : TypeId} (E : ElemOf P t e T.size) (w a0 : World) {ops : Array Oper} {rest : List Oper} {o : Oper} {a : Act} {Q : Exit → Act → World → Prop}
include E
/-- append(xs, ys...) onto a list of the call's own: where the source lies, and what its elements lead to. -/
theorem wp_aplR {K : Act → World → Prop} (s x : Operand) (ho : o.op = .call { callee := .builtin .append, args := #[s, x], argTypes := #[t, t] }) (B : Nat) (A : Option Addr) (n c : Nat) (xs : List α) (hs : a.eval s = .slice A n c)
    (F F1 F' : Nat → Prop) (hown : OwnF T e F w B A n c xs) (hb : Below B a0 w) (hB : B ≤ a0.heap.size)
    (A2 : Option Addr) (m c2 : Nat) (ys : List α) (dss : List (List Value)) (hx : a.eval x = .slice A2 m c2) (hm : m = ys.length) (hrd : Rd F1 w A2 dss.flatten) (hreps : Reps T F' w dss ys) (hF : ∀ b, A = some ⟨b, 0, none⟩ → B ≤ b → b < w.heap.size → ¬ F' b) (hlim : n + m ≤ 68719476736)
    (h : ∀ A' c' w', ApdL T e (fun b => (F b ∨ F' b) ∧ b < w.heap.size) a0 w w' B A A' (n + m) c' (xs ++ ys) → K (a.put o.dst (.slice A' (n + m) c')) w') : o.wp P a w K Q := by
  obtain ⟨⟨css, h1, h2⟩, h3, h4⟩ := hown
  have hlen : dss.flatten.length = m * T.size := by rw [hreps.flat, hm]
  refine wp_ap E w a0 s x ho B (.slice A n c) n css.flatten hs h1 hb hB F1 A2 m c2 dss.flatten hx hlen hrd hreps.ones hlim fun A' c' w' ha => ?_
  refine h A' c' w' ⟨?_, ha.below, by rw [← ownBlock_slice A n c]; exact ha.grown, by rw [← ownBlock_slice A n c]; exact ha.lies⟩
  exact OwnF.apd h2 h1 h3 hF hreps ha (by rw [h4, hm])
/-- append(xs, ys...) onto a list of the call's own. -/
theorem wp_apl {K : Act → World → Prop} (s x : Operand) (ho : o.op = .call { callee := .builtin .append, args := #[s, x], argTypes := #[t, t] }) (B : Nat) (A : Option Addr) (n c : Nat) (xs : List α) (hs : a.eval s = .slice A n c)
    (F F' : Nat → Prop) (hown : OwnF T e F w B A n c xs) (hb : Below B a0 w) (hB : B ≤ a0.heap.size)
    (A2 : Option Addr) (m c2 : Nat) (ys : List α) (hx : a.eval x = .slice A2 m c2) (hsl : Sl T F' w A2 m c2 ys) (hF : ∀ b, A = some ⟨b, 0, none⟩ → B ≤ b → b < w.heap.size → ¬ F' b) (hlim : n + m ≤ 68719476736)
    (h : ∀ A' c' w', ApdL T e (fun b => (F b ∨ F' b) ∧ b < w.heap.size) a0 w w' B A A' (n + m) c' (xs ++ ys) → K (a.put o.dst (.slice A' (n + m) c')) w') : o.wp P a w K Q := by
  obtain ⟨h5, h6, h7, dss, h8, h9⟩ := hsl
  exact wp_aplR E w a0 s x ho B A n c xs hs F F' F' hown hb hB A2 m c2 ys dss hx h5 h8 h9 hF hlim h
theorem apl (hgd : o.guard = none) (s x : Operand) (ho : o.op = .call { callee := .builtin .append, args := #[s, x], argTypes := #[t, t] }) (B : Nat) (A : Option Addr) (n c : Nat) (xs : List α) (hs : a.eval s = .slice A n c)
    (F F' : Nat → Prop) (hown : OwnF T e F w B A n c xs) (hb : Below B a0 w) (hB : B ≤ a0.heap.size)
    (A2 : Option Addr) (m c2 : Nat) (ys : List α) (hx : a.eval x = .slice A2 m c2) (hsl : Sl T F' w A2 m c2 ys) (hF : ∀ b, A = some ⟨b, 0, none⟩ → B ≤ b → b < w.heap.size → ¬ F' b) (hlim : n + m ≤ 68719476736)
    (h : ∀ A' c' w', ApdL T e (fun b => (F b ∨ F' b) ∧ b < w.heap.size) a0 w w' B A A' (n + m) c' (xs ++ ys) → wpList P ops Q rest (a.put o.dst (.slice A' (n + m) c')) w') : wpList P ops Q (o :: rest) a w :=
  wpList_plain hgd fun _ hK => wp_apl E w a0 s x ho B A n c xs hs F F' hown hb hB A2 m c2 ys hx hsl hF hlim fun A' c' w' h2 => hK _ _ (h A' c' w' h2)
theorem step_apl {K : Act → World → Prop} {E' : Prop} (hgd : o.guard = none) (s x : Operand) (ho : o.op = .call { callee := .builtin .append, args := #[s, x], argTypes := #[t, t] }) (B : Nat) (A : Option Addr) (n c : Nat) (xs : List α) (hs : a.eval s = .slice A n c)
    (F F' : Nat → Prop) (hown : OwnF T e F w B A n c xs) (hb : Below B a0 w) (hB : B ≤ a0.heap.size)
    (A2 : Option Addr) (m c2 : Nat) (ys : List α) (hx : a.eval x = .slice A2 m c2) (hsl : Sl T F' w A2 m c2 ys) (hF : ∀ b, A = some ⟨b, 0, none⟩ → B ≤ b → b < w.heap.size → ¬ F' b) (hlim : n + m ≤ 68719476736)
    (h : ∀ A' c' w', ApdL T e (fun b => (F b ∨ F' b) ∧ b < w.heap.size) a0 w w' B A A' (n + m) c' (xs ++ ys) → K (a.put o.dst (.slice A' (n + m) c')) w') :
    if Region.wanted o (yielded ops a.tmps) = true then Oper.wp P o a w K Q else E' := by
  have hw : Region.wanted o (yielded ops a.tmps) = true := by simp [Region.wanted, hgd]
  rw [if_pos hw]
  exact wp_apl E w a0 s x ho B A n c xs hs F F' hown hb hB A2 m c2 ys hx hsl hF hlim h
/-- append(xs, y) onto a list of the call's own: y has been laid into a block of its own, the world's last. -/
theorem wp_apl1 {K : Act → World → Prop} (s x : Operand) (ho : o.op = .call { callee := .builtin .append, args := #[s, x], argTypes := #[t, t] }) (B : Nat) (A : Option Addr) (n c : Nat) (xs : List α) (hs : a.eval s = .slice A n c)
    (F G : Nat → Prop) (hown : OwnF T e F w B A n c xs) (hb : Below B a0 w) (hB : B ≤ a0.heap.size) (obj : Obj) (hx : a.eval x = .slice (some ⟨w.heap.size, 0, none⟩) 1 1)
    (cs : List Value) (y : α) (hrep : T.rep G w cs y) (t' : TypeId) (hobj : obj = .cells cs.toArray t') (hF : ∀ b, A = some ⟨b, 0, none⟩ → B ≤ b → b < w.heap.size → ¬ G b) (hlim : n ≤ 34359738368)
    (h : ∀ A' c' w', ApdL T e (fun b => (F b ∨ G b) ∧ b < w.heap.size) a0 (w.alloc obj) w' B A A' (n + 1) c' (xs ++ [y]) → K (a.put o.dst (.slice A' (n + 1) c')) w') : o.wp P a (w.alloc obj) K Q := by
  have hsz : B ≤ w.heap.size := Nat.le_trans hB hb.size
  subst hobj
  have hown' : OwnF T e (fun b => F b ∧ b < w.heap.size) (w.alloc (.cells cs.toArray t')) B A n c xs :=
    (hown.weaken (fun b h1 h2 => ⟨h1, h2⟩) (fun b h1 h2 h3 h4 => hown.off b 0 h1 h4.1)).alloc _
  have hrep' : Reps T (fun b => G b ∧ b < w.heap.size) (w.alloc (.cells cs.toArray t')) [cs] [y] := by
    simpa using Reps.snoc Reps.nil_ (T.alloc (T.weaken hrep (F' := fun b => G b ∧ b < w.heap.size) fun b h1 h2 => ⟨h1, h2⟩) (.cells cs.toArray t'))
  refine wp_aplR E (w.alloc (.cells cs.toArray t')) a0 s x ho B A n c xs hs (fun b => F b ∧ b < w.heap.size) (fun b => b = w.heap.size) (fun b => G b ∧ b < w.heap.size) hown' (hb.alloc hsz _) hB (some ⟨w.heap.size, 0, none⟩) 1 1 [y] [cs] hx rfl
    (by simpa using Rd.new w cs t') hrep' (fun b h1 h2 h3 h4 => hF b h1 h2 h4.2 h4.1) (by omega) fun A' c' w' ha => h A' c' w' ⟨?_, ha.below, ha.grown, ha.lies⟩
  refine ha.own.weaken (fun b h1 _ => ?_) (fun b h1 _ _ h2 => ha.own.off b 0 h1 ?_)
  · rcases h1.1 with h | h
    · exact ⟨.inl h.1, h.2⟩
    · exact ⟨.inr h.1, h.2⟩
  · refine ⟨?_, by rw [World.size_alloc]; omega⟩
    rcases h2.1 with h | h
    · exact .inl ⟨h, h2.2⟩
    · exact .inr ⟨h, h2.2⟩
theorem apl1 (hgd : o.guard = none) (s x : Operand) (ho : o.op = .call { callee := .builtin .append, args := #[s, x], argTypes := #[t, t] }) (B : Nat) (A : Option Addr) (n c : Nat) (xs : List α) (hs : a.eval s = .slice A n c)
    (F G : Nat → Prop) (hown : OwnF T e F w B A n c xs) (hb : Below B a0 w) (hB : B ≤ a0.heap.size) (obj : Obj) (hx : a.eval x = .slice (some ⟨w.heap.size, 0, none⟩) 1 1)
    (cs : List Value) (y : α) (hrep : T.rep G w cs y) (t' : TypeId) (hobj : obj = .cells cs.toArray t') (hF : ∀ b, A = some ⟨b, 0, none⟩ → B ≤ b → b < w.heap.size → ¬ G b) (hlim : n ≤ 34359738368)
    (h : ∀ A' c' w', ApdL T e (fun b => (F b ∨ G b) ∧ b < w.heap.size) a0 (w.alloc obj) w' B A A' (n + 1) c' (xs ++ [y]) → wpList P ops Q rest (a.put o.dst (.slice A' (n + 1) c')) w') : wpList P ops Q (o :: rest) a (w.alloc obj) :=
  wpList_plain hgd fun _ hK => wp_apl1 E w a0 s x ho B A n c xs hs F G hown hb hB obj hx cs y hrep t' hobj hF hlim fun A' c' w' h2 => hK _ _ (h A' c' w' h2)
theorem step_apl1 {K : Act → World → Prop} {E' : Prop} (hgd : o.guard = none) (s x : Operand) (ho : o.op = .call { callee := .builtin .append, args := #[s, x], argTypes := #[t, t] }) (B : Nat) (A : Option Addr) (n c : Nat) (xs : List α) (hs : a.eval s = .slice A n c)
    (F G : Nat → Prop) (hown : OwnF T e F w B A n c xs) (hb : Below B a0 w) (hB : B ≤ a0.heap.size) (obj : Obj) (hx : a.eval x = .slice (some ⟨w.heap.size, 0, none⟩) 1 1)
    (cs : List Value) (y : α) (hrep : T.rep G w cs y) (t' : TypeId) (hobj : obj = .cells cs.toArray t') (hF : ∀ b, A = some ⟨b, 0, none⟩ → B ≤ b → b < w.heap.size → ¬ G b) (hlim : n ≤ 34359738368)
    (h : ∀ A' c' w', ApdL T e (fun b => (F b ∨ G b) ∧ b < w.heap.size) a0 (w.alloc obj) w' B A A' (n + 1) c' (xs ++ [y]) → K (a.put o.dst (.slice A' (n + 1) c')) w') :
    if Region.wanted o (yielded ops a.tmps) = true then Oper.wp P o a (w.alloc obj) K Q else E' := by
  have hw : Region.wanted o (yielded ops a.tmps) = true := by simp [Region.wanted, hgd]
  rw [if_pos hw]
  exact wp_apl1 E w a0 s x ho B A n c xs hs F G hown hb hB obj hx cs y hrep t' hobj hF hlim h
end

/-- One element, laid into a block of its own: a list of one. -/
theorem Sl.new {α : Type} {T : Ty α} {F : Nat → Prop} {w : World} {cs : List Value} {x : α} (h : T.rep F w cs x) (t : TypeId) (o : Obj) (ho : o = .cells cs.toArray t) :
    Sl T (fun b => (F b ∧ b < w.heap.size) ∨ b = w.heap.size) (w.alloc o) (some ⟨w.heap.size, 0, none⟩) 1 1 [x] := by
  subst ho
  refine ⟨rfl, Nat.le_refl _, by simp [maxLen], [cs], ?_, ?_⟩
  · rw [show [cs].flatten = cs by simp]
    exact (Rd.new w cs t).weaken fun b h _ => .inr h
  · have := T.alloc (T.weaken h (F' := fun b => (F b ∧ b < w.heap.size) ∨ b = w.heap.size) fun b hb hl => .inl ⟨hb, hl⟩) (Obj.cells cs.toArray t)
    simpa using Reps.snoc Reps.nil_ this
/-- More than one. -/
theorem Sl.news {α : Type} {T : Ty α} {F : Nat → Prop} {w : World} {css : List (List Value)} {xs : List α} (h : Reps T F w css xs) (t : TypeId) (n : Nat) (hn : n = xs.length) (hm : n ≤ 4294967296) (o : Obj) (ho : o = .cells css.flatten.toArray t) :
    Sl T (fun b => (F b ∧ b < w.heap.size) ∨ b = w.heap.size) (w.alloc o) (some ⟨w.heap.size, 0, none⟩) n n xs := by
  subst ho
  refine ⟨hn, Nat.le_refl _, by simp only [maxLen]; omega, css, (Rd.new w css.flatten t).weaken fun b h _ => .inr h, ?_⟩
  exact (h.weaken (F' := fun b => (F b ∧ b < w.heap.size) ∨ b = w.heap.size) fun b hb hl => .inl ⟨hb, hl⟩).keep (by simp) fun b _ hl => Below.heap_alloc w _ b hl

theorem Reps.mk1 {α : Type} {T : Ty α} {F : Nat → Prop} {w : World} {c1 : List Value} {x1 : α} (h1 : T.rep F w c1 x1) : Reps T F w [c1] [x1] := by simpa using Reps.snoc Reps.nil_ h1
theorem Reps.mk2 {α : Type} {T : Ty α} {F : Nat → Prop} {w : World} {c1 c2 : List Value} {x1 x2 : α} (h1 : T.rep F w c1 x1) (h2 : T.rep F w c2 x2) : Reps T F w [c1, c2] [x1, x2] := by simpa using Reps.snoc (Reps.mk1 h1) h2
theorem Reps.mk3 {α : Type} {T : Ty α} {F : Nat → Prop} {w : World} {c1 c2 c3 : List Value} {x1 x2 x3 : α} (h1 : T.rep F w c1 x1) (h2 : T.rep F w c2 x2) (h3 : T.rep F w c3 x3) : Reps T F w [c1, c2, c3] [x1, x2, x3] := by simpa using Reps.snoc (Reps.mk2 h1 h2) h3
theorem Reps.mk4 {α : Type} {T : Ty α} {F : Nat → Prop} {w : World} {c1 c2 c3 c4 : List Value} {x1 x2 x3 x4 : α} (h1 : T.rep F w c1 x1) (h2 : T.rep F w c2 x2) (h3 : T.rep F w c3 x3) (h4 : T.rep F w c4 x4) : Reps T F w [c1, c2, c3, c4] [x1, x2, x3, x4] := by simpa using Reps.snoc (Reps.mk3 h1 h2 h3) h4
theorem Sl.any {α : Type} {T : Ty α} {F : Nat → Prop} {w : World} {A : Option Addr} {n c : Nat} {xs : List α} (h : Sl T F w A n c xs) : Sl T (fun _ => True) w A n c xs := h.weaken fun _ _ _ => trivial
theorem Sl.rep {α : Type} {T : Ty α} {F : Nat → Prop} {w : World} {A : Option Addr} {n c : Nat} {xs : List α} (h : Sl T F w A n c xs) : (tSl T).rep F w [.slice A n c] xs := ⟨A, n, c, rfl, h⟩
/-- The slices of a call with '...': two, three, four of them. -/
theorem sl2 {α : Type} {T : Ty α} {F1 F2 : Nat → Prop} {w : World} {A1 A2 : Option Addr} {n1 n2 c1 c2 : Nat} {x1 x2 : List α} (h1 : Sl T F1 w A1 n1 c1 x1) (h2 : Sl T F2 w A2 n2 c2 x2) (t : TypeId) :
    Sl (tSl T) (fun _ => True) (w.alloc (.cells #[.slice A1 n1 c1, .slice A2 n2 c2] t)) (some ⟨w.heap.size, 0, none⟩) 2 2 [x1, x2] := by
  have hr : Reps (tSl T) (fun _ => True) w [[.slice A1 n1 c1], [.slice A2 n2 c2]] [x1, x2] := Reps.mk2 h1.any.rep h2.any.rep
  exact (Sl.news hr t 2 rfl (by omega) _ rfl).any
theorem sl3 {α : Type} {T : Ty α} {F1 F2 F3 : Nat → Prop} {w : World} {A1 A2 A3 : Option Addr} {n1 n2 n3 c1 c2 c3 : Nat} {x1 x2 x3 : List α} (h1 : Sl T F1 w A1 n1 c1 x1) (h2 : Sl T F2 w A2 n2 c2 x2) (h3 : Sl T F3 w A3 n3 c3 x3) (t : TypeId) :
    Sl (tSl T) (fun _ => True) (w.alloc (.cells #[.slice A1 n1 c1, .slice A2 n2 c2, .slice A3 n3 c3] t)) (some ⟨w.heap.size, 0, none⟩) 3 3 [x1, x2, x3] := by
  have hr : Reps (tSl T) (fun _ => True) w [[.slice A1 n1 c1], [.slice A2 n2 c2], [.slice A3 n3 c3]] [x1, x2, x3] := Reps.mk3 h1.any.rep h2.any.rep h3.any.rep
  exact (Sl.news hr t 3 rfl (by omega) _ rfl).any
theorem sl4 {α : Type} {T : Ty α} {F1 F2 F3 F4 : Nat → Prop} {w : World} {A1 A2 A3 A4 : Option Addr} {n1 n2 n3 n4 c1 c2 c3 c4 : Nat} {x1 x2 x3 x4 : List α} (h1 : Sl T F1 w A1 n1 c1 x1) (h2 : Sl T F2 w A2 n2 c2 x2) (h3 : Sl T F3 w A3 n3 c3 x3) (h4 : Sl T F4 w A4 n4 c4 x4) (t : TypeId) :
    Sl (tSl T) (fun _ => True) (w.alloc (.cells #[.slice A1 n1 c1, .slice A2 n2 c2, .slice A3 n3 c3, .slice A4 n4 c4] t)) (some ⟨w.heap.size, 0, none⟩) 4 4 [x1, x2, x3, x4] := by
  have hr : Reps (tSl T) (fun _ => True) w [[.slice A1 n1 c1], [.slice A2 n2 c2], [.slice A3 n3 c3], [.slice A4 n4 c4]] [x1, x2, x3, x4] := Reps.mk4 h1.any.rep h2.any.rep h3.any.rep h4.any.rep
  exact (Sl.news hr t 4 rfl (by omega) _ rfl).any
/-- An element's cells, in the walk's spelling. -/
theorem cells2 {w : World} {b o k : Nat} {u0 u1 : Value} (h : ∀ j u, ([u0, u1] : List Value)[j]? = some u → w.cell? ⟨b, o + (k * 2 + j), none⟩ = some u) :
    w.cell? ⟨b, o + k * 2, none⟩ = some u0 ∧ w.cell? ⟨b, o + k * 2 + 1, none⟩ = some u1 :=
  ⟨by have := h 0 _ rfl; rw [← Nat.add_assoc] at this; exact this, by have := h 1 _ rfl; rw [← Nat.add_assoc] at this; exact this⟩

theorem cells3 {w : World} {b o k : Nat} {u0 u1 u2 : Value} (h : ∀ j u, ([u0, u1, u2] : List Value)[j]? = some u → w.cell? ⟨b, o + (k * 3 + j), none⟩ = some u) :
    w.cell? ⟨b, o + k * 3, none⟩ = some u0 ∧ w.cell? ⟨b, o + k * 3 + 1, none⟩ = some u1 ∧ w.cell? ⟨b, o + k * 3 + 2, none⟩ = some u2 :=
  ⟨by have := h 0 _ rfl; rw [← Nat.add_assoc] at this; exact this, by have := h 1 _ rfl; rw [← Nat.add_assoc] at this; exact this, by have := h 2 _ rfl; rw [← Nat.add_assoc] at this; exact this⟩

theorem cells4 {w : World} {b o k : Nat} {u0 u1 u2 u3 : Value} (h : ∀ j u, ([u0, u1, u2, u3] : List Value)[j]? = some u → w.cell? ⟨b, o + (k * 4 + j), none⟩ = some u) :
    w.cell? ⟨b, o + k * 4, none⟩ = some u0 ∧ w.cell? ⟨b, o + k * 4 + 1, none⟩ = some u1 ∧ w.cell? ⟨b, o + k * 4 + 2, none⟩ = some u2 ∧ w.cell? ⟨b, o + k * 4 + 3, none⟩ = some u3 :=
  ⟨by have := h 0 _ rfl; rw [← Nat.add_assoc] at this; exact this, by have := h 1 _ rfl; rw [← Nat.add_assoc] at this; exact this, by have := h 2 _ rfl; rw [← Nat.add_assoc] at this; exact this, by have := h 3 _ rfl; rw [← Nat.add_assoc] at this; exact this⟩

theorem cells5 {w : World} {b o k : Nat} {u0 u1 u2 u3 u4 : Value} (h : ∀ j u, ([u0, u1, u2, u3, u4] : List Value)[j]? = some u → w.cell? ⟨b, o + (k * 5 + j), none⟩ = some u) :
    w.cell? ⟨b, o + k * 5, none⟩ = some u0 ∧ w.cell? ⟨b, o + k * 5 + 1, none⟩ = some u1 ∧ w.cell? ⟨b, o + k * 5 + 2, none⟩ = some u2 ∧ w.cell? ⟨b, o + k * 5 + 3, none⟩ = some u3 ∧ w.cell? ⟨b, o + k * 5 + 4, none⟩ = some u4 :=
  ⟨by have := h 0 _ rfl; rw [← Nat.add_assoc] at this; exact this, by have := h 1 _ rfl; rw [← Nat.add_assoc] at this; exact this, by have := h 2 _ rfl; rw [← Nat.add_assoc] at this; exact this, by have := h 3 _ rfl; rw [← Nat.add_assoc] at this; exact this, by have := h 4 _ rfl; rw [← Nat.add_assoc] at this; exact this⟩

theorem cells7 {w : World} {b o k : Nat} {u0 u1 u2 u3 u4 u5 u6 : Value} (h : ∀ j u, ([u0, u1, u2, u3, u4, u5, u6] : List Value)[j]? = some u → w.cell? ⟨b, o + (k * 7 + j), none⟩ = some u) :
    w.cell? ⟨b, o + k * 7, none⟩ = some u0 ∧ w.cell? ⟨b, o + k * 7 + 1, none⟩ = some u1 ∧ w.cell? ⟨b, o + k * 7 + 2, none⟩ = some u2 ∧ w.cell? ⟨b, o + k * 7 + 3, none⟩ = some u3 ∧ w.cell? ⟨b, o + k * 7 + 4, none⟩ = some u4 ∧ w.cell? ⟨b, o + k * 7 + 5, none⟩ = some u5 ∧ w.cell? ⟨b, o + k * 7 + 6, none⟩ = some u6 :=
  ⟨by have := h 0 _ rfl; rw [← Nat.add_assoc] at this; exact this, by have := h 1 _ rfl; rw [← Nat.add_assoc] at this; exact this, by have := h 2 _ rfl; rw [← Nat.add_assoc] at this; exact this, by have := h 3 _ rfl; rw [← Nat.add_assoc] at this; exact this, by have := h 4 _ rfl; rw [← Nat.add_assoc] at this; exact this, by have := h 5 _ rfl; rw [← Nat.add_assoc] at this; exact this, by have := h 6 _ rfl; rw [← Nat.add_assoc] at this; exact this⟩

theorem cells10 {w : World} {b o k : Nat} {u0 u1 u2 u3 u4 u5 u6 u7 u8 u9 : Value} (h : ∀ j u, ([u0, u1, u2, u3, u4, u5, u6, u7, u8, u9] : List Value)[j]? = some u → w.cell? ⟨b, o + (k * 10 + j), none⟩ = some u) :
    w.cell? ⟨b, o + k * 10, none⟩ = some u0 ∧ w.cell? ⟨b, o + k * 10 + 1, none⟩ = some u1 ∧ w.cell? ⟨b, o + k * 10 + 2, none⟩ = some u2 ∧ w.cell? ⟨b, o + k * 10 + 3, none⟩ = some u3 ∧ w.cell? ⟨b, o + k * 10 + 4, none⟩ = some u4 ∧ w.cell? ⟨b, o + k * 10 + 5, none⟩ = some u5 ∧ w.cell? ⟨b, o + k * 10 + 6, none⟩ = some u6 ∧ w.cell? ⟨b, o + k * 10 + 7, none⟩ = some u7 ∧ w.cell? ⟨b, o + k * 10 + 8, none⟩ = some u8 ∧ w.cell? ⟨b, o + k * 10 + 9, none⟩ = some u9 :=
  ⟨by have := h 0 _ rfl; rw [← Nat.add_assoc] at this; exact this, by have := h 1 _ rfl; rw [← Nat.add_assoc] at this; exact this, by have := h 2 _ rfl; rw [← Nat.add_assoc] at this; exact this, by have := h 3 _ rfl; rw [← Nat.add_assoc] at this; exact this, by have := h 4 _ rfl; rw [← Nat.add_assoc] at this; exact this, by have := h 5 _ rfl; rw [← Nat.add_assoc] at this; exact this, by have := h 6 _ rfl; rw [← Nat.add_assoc] at this; exact this, by have := h 7 _ rfl; rw [← Nat.add_assoc] at this; exact this, by have := h 8 _ rfl; rw [← Nat.add_assoc] at this; exact this, by have := h 9 _ rfl; rw [← Nat.add_assoc] at this; exact this⟩
/-- A list that is written out: two, three, four elements in a block of their own. -/
theorem Sl.new2 {α : Type} {T : Ty α} {w : World} {c1 c2 : List Value} {x1 x2 : α} (h1 : T.rep (fun _ => True) w c1 x1) (h2 : T.rep (fun _ => True) w c2 x2) (t : TypeId) (o : Obj) (ho : o = .cells (c1 ++ c2).toArray t) :
    Sl T (fun _ => True) (w.alloc o) (some ⟨w.heap.size, 0, none⟩) 2 2 [x1, x2] := (Sl.news (Reps.mk2 h1 h2) t 2 rfl (by omega) o (by rw [ho]; simp)).any
theorem Sl.new3 {α : Type} {T : Ty α} {w : World} {c1 c2 c3 : List Value} {x1 x2 x3 : α} (h1 : T.rep (fun _ => True) w c1 x1) (h2 : T.rep (fun _ => True) w c2 x2) (h3 : T.rep (fun _ => True) w c3 x3) (t : TypeId) (o : Obj) (ho : o = .cells (c1 ++ (c2 ++ c3)).toArray t) :
    Sl T (fun _ => True) (w.alloc o) (some ⟨w.heap.size, 0, none⟩) 3 3 [x1, x2, x3] := (Sl.news (Reps.mk3 h1 h2 h3) t 3 rfl (by omega) o (by rw [ho]; simp)).any
theorem Sl.new4 {α : Type} {T : Ty α} {w : World} {c1 c2 c3 c4 : List Value} {x1 x2 x3 x4 : α} (h1 : T.rep (fun _ => True) w c1 x1) (h2 : T.rep (fun _ => True) w c2 x2) (h3 : T.rep (fun _ => True) w c3 x3) (h4 : T.rep (fun _ => True) w c4 x4) (t : TypeId) (o : Obj) (ho : o = .cells (c1 ++ (c2 ++ (c3 ++ c4))).toArray t) :
    Sl T (fun _ => True) (w.alloc o) (some ⟨w.heap.size, 0, none⟩) 4 4 [x1, x2, x3, x4] := (Sl.news (Reps.mk4 h1 h2 h3 h4) t 4 rfl (by omega) o (by rw [ho]; simp)).any
/-- Types whose values lead to no block. -/
def Ty.Flat {α : Type} (T : Ty α) : Prop := ∀ {F F' : Nat → Prop} {w w' : World} {cs : List Value} {x : α}, T.rep F w cs x → T.rep F' w' cs x
theorem Reps.flat' {α : Type} {T : Ty α} (hT : T.Flat) {F F' : Nat → Prop} {w w' : World} {css : List (List Value)} {xs : List α} (h : Reps T F w css xs) : Reps T F' w' css xs := ⟨h.1, fun i cs x h1 h2 => hT (h.2 i cs x h1 h2)⟩
theorem flatI64 : tI64.Flat := fun h => h
theorem flatU64 : tU64.Flat := fun h => h
theorem flatU8 : tU8.Flat := fun h => h
theorem flatBool : tBool.Flat := fun h => h
theorem flatStr : tStr.Flat := fun h => h
theorem Ty.Flat.prod {α β : Type} {S : Ty α} {T : Ty β} (hS : S.Flat) (hT : T.Flat) : (S.prod T).Flat := fun h => by
  obtain ⟨c1, c2, e, h1, h2⟩ := h
  exact ⟨c1, c2, e, hS h1, hT h2⟩
theorem Ty.Flat.map {α β : Type} {f : β → α} {T : Ty α} (hT : T.Flat) : (T.map f).Flat := fun h => hT h
theorem OwnF.flat {α : Type} {T : Ty α} (hT : T.Flat) {e : TypeId} {F : Nat → Prop} {w : World} {B : Nat} {A : Option Addr} {n c : Nat} {xs : List α} (h : OwnF T e F w B A n c xs) : OwnF T e (fun _ => False) w B A n c xs := by
  obtain ⟨⟨css, h1, h2⟩, h3, h4⟩ := h
  exact ⟨⟨css, h1, h2.flat' hT⟩, fun _ _ _ h => h, h4⟩

/-- A list of flat things that the call builds. -/
def OwnP {α : Type} (T : Ty α) (e : TypeId) (w : World) (B : Nat) (A : Option Addr) (n c : Nat) (xs : List α) : Prop := OwnF T e (fun _ => False) w B A n c xs

end Go.Proofs.YticfmphbhdkhoaaGreatDoor
namespace Go.Proofs.YticfmphbhdkhoaaGreatDoor
open Go Go.RowKit

theorem ret_int {k : IntKind} {a b : Int} (h : a = b) : Ending.returned (.int k a) = .returned (.int k b) := by rw [h]

def zigN (x : Int) : Nat := if x < 0 then (-2 * x - 1).toNat else (2 * x).toNat
def zagI (u : Nat) : Int := if u % 2 = 1 then -((u / 2 : Nat) : Int) - 1 else ((u / 2 : Nat) : Int)
theorem zigN_lt (x : Int) (h0 : -9223372036854775808 ≤ x) (h1 : x ≤ 9223372036854775807) : zigN x < 18446744073709551616 := by unfold zigN; split <;> omega
theorem zagI_bd (u : Nat) (h : u < 18446744073709551616) : -9223372036854775808 ≤ zagI u ∧ zagI u ≤ 9223372036854775807 := by unfold zagI; split <;> omega
theorem zag_zig (x : Int) : zagI (zigN x) = x := by unfold zagI zigN; split <;> split <;> omega
theorem zig_zag (u : Nat) : zigN (zagI u) = u := by unfold zagI zigN; split <;> split <;> omega

theorem xor_ones64 (a : Nat) (h : a < 18446744073709551616) : a ^^^ 18446744073709551615 = 18446744073709551615 - a := by
  have e : (BitVec.ofNat 64 a ^^^ BitVec.allOnes 64) = ~~~ BitVec.ofNat 64 a := BitVec.xor_allOnes
  have e2 := congrArg BitVec.toNat e
  rw [BitVec.toNat_xor, BitVec.toNat_not, BitVec.toNat_ofNat, BitVec.toNat_allOnes, Nat.mod_eq_of_lt (by omega)] at e2
  exact e2
theorem zig_bits (x : Int) (h0 : -9223372036854775808 ≤ x) (h1 : x ≤ 9223372036854775807) :
    bits BinOp.xor IntKind.u64 (IntKind.u64.wrap (IntKind.u64.wrap x * 2)) (IntKind.u64.wrap (x / 9223372036854775808)) = (zigN x : Int) := by
  rw [IntKind.wrap_u64, IntKind.wrap_u64, IntKind.wrap_u64]
  unfold zigN
  split
  · rename_i h
    rw [show x / 9223372036854775808 = -1 by omega, show (-1 : Int) % 18446744073709551616 = ((18446744073709551615 : Nat) : Int) by decide,
      show x % 18446744073709551616 * 2 % 18446744073709551616 = (((x % 18446744073709551616 * 2 % 18446744073709551616).toNat : Nat) : Int) by omega, u64_xor_nat _ _ (by omega) (by omega), xor_ones64 _ (by omega)]
    omega
  · rename_i h
    rw [show x / 9223372036854775808 = 0 by omega, show (0 : Int) % 18446744073709551616 = ((0 : Nat) : Int) by decide,
      show x % 18446744073709551616 * 2 % 18446744073709551616 = (((x % 18446744073709551616 * 2 % 18446744073709551616).toNat : Nat) : Int) by omega, u64_xor_nat _ _ (by omega) (by omega), Nat.xor_zero]
    omega
theorem i64_xor_ones (a : Nat) (ha : a < 9223372036854775808) : bits .xor .i64 (a : Int) (-1) = -(a : Int) - 1 := by
  show IntKind.i64.wrap ((BitVec.ofInt 64 (a : Int) ^^^ BitVec.ofInt 64 (-1)).toNat : Int) = _
  rw [show BitVec.ofInt 64 (-1) = BitVec.allOnes 64 by decide, BitVec.xor_allOnes, BitVec.toNat_not, BitVec.ofInt_natCast, BitVec.toNat_ofNat, Nat.mod_eq_of_lt (by omega), IntKind.wrap_i64]
  omega
theorem i64_xor_nought (a : Nat) (ha : a < 9223372036854775808) : bits .xor .i64 (a : Int) 0 = (a : Int) := by
  show IntKind.i64.wrap ((BitVec.ofInt 64 (a : Int) ^^^ BitVec.ofInt 64 0).toNat : Int) = _
  rw [show BitVec.ofInt 64 0 = 0#64 by decide, BitVec.xor_zero, BitVec.ofInt_natCast, BitVec.toNat_ofNat, Nat.mod_eq_of_lt (by omega), IntKind.wrap_i64]
  omega
theorem u64_and1 (x : Nat) (h : x < 18446744073709551616) : bits BinOp.and IntKind.u64 (x : Int) 1 = ((x % 2 : Nat) : Int) := by
  rw [show (1 : Int) = ((1 : Nat) : Int) from rfl, u64_and_nat _ _ h (by omega), nat_mask1]
theorem zag_bits (x : Nat) (h : x < 18446744073709551616) :
    bits BinOp.xor IntKind.i64 ((x : Int) / 2) (wrap64 (-wrap64 (bits BinOp.and IntKind.u64 (x : Int) 1))) = zagI x := by
  rw [u64_and1 x h]
  unfold zagI
  rw [show (x : Int) / 2 = ((x / 2 : Nat) : Int) by omega]
  rcases Nat.mod_two_eq_zero_or_one x with h1 | h1
  · rw [h1, if_neg (by omega), show wrap64 (-wrap64 (((0 : Nat) : Int))) = 0 by unfold wrap64; omega, i64_xor_nought _ (by omega)]
  · rw [h1, if_pos rfl, show wrap64 (-wrap64 (((1 : Nat) : Int))) = -1 by unfold wrap64; omega, i64_xor_ones _ (by omega)]
theorem u8_or128 (b : Nat) (h : b < 256) : bits BinOp.or IntKind.u8 (b : Int) 128 = ((b % 128 + 128 : Nat) : Int) := by
  rw [show (128 : Int) = ((128 : Nat) : Int) from rfl, u8_or_nat _ _ h (by omega)]
  congr 1
  exact (by decide +kernel : ∀ b : Fin 256, b.val ||| 128 = b.val % 128 + 128) ⟨b, h⟩
theorem u8_and128 (b : Nat) (h : b < 256) : bits BinOp.and IntKind.u8 (b : Int) 128 = ((b / 128 * 128 : Nat) : Int) := by
  rw [show (128 : Int) = ((128 : Nat) : Int) from rfl, u8_and_nat _ _ h (by omega)]
  congr 1
  exact (by decide +kernel : ∀ b : Fin 256, b.val &&& 128 = b.val / 128 * 128) ⟨b, h⟩
theorem u8_andNot128 (b : Nat) (h : b < 256) : bits BinOp.andNot IntKind.u8 (b : Int) 128 = ((b % 128 : Nat) : Int) := by
  rw [show (128 : Int) = ((128 : Nat) : Int) from rfl, u8_andNot_nat _ _ h (by omega)]
  congr 1
  exact (by decide +kernel : ∀ b : Fin 256, b.val &&& (255 - 128) = b.val % 128) ⟨b, h⟩
theorem u64_or2 (t : Nat) (h : t ≤ 100) : bits BinOp.or IntKind.u64 ((t : Int) * 8) 2 = ((8 * t + 2 : Nat) : Int) := by
  rw [show (t : Int) * 8 = ((8 * t : Nat) : Int) by omega, show (2 : Int) = ((2 : Nat) : Int) from rfl, u64_or_nat _ _ (by omega) (by omega), nat_join 3 (8 * t) 2 (by omega) (by omega)]
theorem u64_wrap_nat (n : Nat) (h : n < 18446744073709551616) : IntKind.u64.wrap (n : Int) = (n : Int) := by rw [IntKind.wrap_u64]; omega
theorem intCast_toNat (n : Nat) : ((n : Nat) : Int).toNat = n := Int.toNat_natCast n
end Go.Proofs.YticfmphbhdkhoaaGreatDoor
/- What the layers varint, wire and desk compute, as plain functions on lists. Plain Lean; no condition. -/
namespace Go.Proofs.YticfmphbhdkhoaaGreatDoor

/-! varint -/
def vputF : Nat → Nat → List UInt8
  | 0, x => [UInt8.ofNat x]
  | f + 1, x => if x < 128 then [UInt8.ofNat x] else UInt8.ofNat (x % 128 + 128) :: vputF f (x / 128)
def vput (x : Nat) : List UInt8 := vputF 9 x
def vtk : Nat → Nat → Nat → List UInt8 → Option (Nat × List UInt8)
  | 0, _, _, _ => none
  | _ + 1, _, _, [] => none
  | f + 1, i, x, c :: r =>
    if 128 ≤ c.toNat then vtk f (i + 1) (x + (c.toNat - 128) * 128 ^ i) r
    else if c.toNat = 0 ∧ 0 < i ∨ i = 9 ∧ 1 < c.toNat then none
    else some (x + c.toNat * 128 ^ i, r)
def vtake (b : List UInt8) : Option (Nat × List UInt8) := vtk 10 0 0 b

theorem vputF_len (f x : Nat) : 1 ≤ (vputF f x).length ∧ (vputF f x).length ≤ f + 1 := by
  induction f generalizing x with
  | zero => simp [vputF]
  | succ f ih =>
    unfold vputF
    split
    · simp
    · have := ih (x / 128); simp; omega
theorem vput_len (x : Nat) : 1 ≤ (vput x).length ∧ (vput x).length ≤ 10 := vputF_len 9 x

/-! wire -/
structure Fld where
  tag : Int
  bytes : Bool
  n : Nat
  b : List UInt8
  deriving DecidableEq
def fld (f : Fld) : List UInt8 := if f.bytes then vput (8 * f.tag.toNat + 2) ++ vput f.b.length ++ f.b else vput (8 * f.tag.toNat) ++ vput f.n
def tagOk (f : Fld) : Bool := 1 ≤ f.tag && f.tag ≤ 100
def wput : List Fld → Option (List UInt8)
  | [] => some []
  | f :: r => if tagOk f then (wput r).map (fld f ++ ·) else none
/-- How long it is, at most. -/
def wlen : List Fld → Nat
  | [] => 0
  | f :: r => f.b.length + 20 + wlen r
theorem wlen_append (l m : List Fld) : wlen (l ++ m) = wlen l + wlen m := by
  induction l with
  | nil => simp [wlen]
  | cons f r ih => simp only [List.cons_append, wlen, ih]; omega
theorem wlen_take : ∀ (l : List Fld) (k : Nat) (h : k < l.length), wlen (l.take k) + ((l[k]'h).b.length + 20) ≤ wlen l
  | f :: r, 0, _ => by simp only [List.take_zero, wlen, List.getElem_cons_zero]; omega
  | f :: r, k + 1, h => by
    have := wlen_take r k (by simpa using h)
    simp only [List.take_succ_cons, wlen, List.getElem_cons_succ]; omega
theorem wput_snoc : ∀ (l : List Fld) (f : Fld) (b : List UInt8), wput l = some b → tagOk f = true → wput (l ++ [f]) = some (b ++ fld f)
  | [], f, b, h, ht => by simp [wput] at h; subst h; simp [wput, ht]
  | g :: r, f, b, h, ht => by
    unfold wput at h
    split at h
    · rename_i hg
      cases hr : wput r with
      | none => simp [hr] at h
      | some b' =>
        simp [hr] at h
        subst h
        simp [wput, hg, wput_snoc r f b' hr ht]
    · cases h
theorem wput_bad : ∀ (l : List Fld) (k : Nat) (h : k < l.length), tagOk (l[k]'h) = false → wput l = none
  | f :: r, 0, _, ht => by simp at ht; simp [wput, ht]
  | f :: r, k + 1, h, ht => by
    have := wput_bad r k (by simpa using h) (by simpa using ht)
    simp [wput, this]
theorem fld_len (f : Fld) : (fld f).length ≤ f.b.length + 20 := by
  unfold fld
  have h1 := vput_len (8 * f.tag.toNat + 2)
  have h2 := vput_len f.b.length
  have h3 := vput_len (8 * f.tag.toNat)
  have h4 := vput_len f.n
  split <;> simp <;> omega
theorem wput_ok : ∀ (l : List Fld), (∀ f ∈ l, tagOk f = true) → wput l = some (l.map fld).flatten
  | [], _ => rfl
  | f :: r, h => by
    rw [wput, if_pos (h f (by simp)), wput_ok r (fun g hg => h g (by simp [hg]))]
    rfl
theorem flds_len : ∀ (l : List Fld), ((l.map fld).flatten).length ≤ wlen l
  | [] => by simp [wlen]
  | f :: r => by
    have := flds_len r
    have := fld_len f
    simp only [List.map_cons, List.flatten_cons, List.length_append, wlen]; omega
/-- 0, or the number of an error. -/
def okc (b : Bool) (e : Int) : Int := if b then 0 else e
def dput (l : List Fld) : List UInt8 := (wput l).getD []
theorem wput_len (l : List Fld) (b : List UInt8) (h : wput l = some b) : b.length ≤ wlen l := by
  induction l generalizing b with
  | nil => simp [wput] at h; subst h; simp [wlen]
  | cons f r ih =>
    unfold wput at h
    split at h
    · cases hr : wput r with
      | none => simp [hr] at h
      | some b' =>
        simp [hr] at h
        subst h
        have := ih b' hr
        have := fld_len f
        simp [wlen]; omega
    · cases h
theorem dput_len (l : List Fld) : (dput l).length ≤ wlen l := by
  unfold dput
  cases h : wput l with
  | none => simp
  | some b => exact wput_len l b h

/-- The field that bytes begin with. -/
def wone (b : List UInt8) : Option (Fld × List UInt8) :=
  match vtake b with
  | none => none
  | some (key, r1) =>
    match vtake r1 with
    | none => none
    | some (n, r2) =>
      if key / 8 < 1 ∨ 100 < key / 8 ∨ ¬ (key % 8 = 0 ∨ key % 8 = 2) then none
      else if key % 8 = 0 then some (⟨(key / 8 : Nat), false, n, []⟩, r2)
      else if r2.length < n then none
      else some (⟨(key / 8 : Nat), true, 0, r2.take n⟩, r2.drop n)
def wtakeF : Nat → List UInt8 → Option (List Fld)
  | _, [] => some []
  | 0, _ => none
  | k + 1, b =>
    match wone b with
    | none => none
    | some (f, r) => (wtakeF k r).map (f :: ·)
def wtake (b : List UInt8) : Option (List Fld) := wtakeF b.length b

def fnum (tag : Int) (n : Nat) : Fld := ⟨tag, false, n, []⟩
def ftxt (tag : Int) (b : List UInt8) : Fld := ⟨tag, true, 0, b⟩

/-! values -/
structure VV where
  null : Bool
  n : Int
  s : ByteArray
  deriving DecidableEq
def VV.zero : VV := ⟨false, 0, ⟨#[]⟩⟩
def VV.ok (v : VV) : Prop := -9223372036854775808 ≤ v.n ∧ v.n ≤ 9223372036854775807 ∧ v.s.size ≤ Go.maxLen
def b2n (b : Bool) : Nat := if b then 1 else 0
def putValueF (v : VV) : List Fld := [fnum 1 (b2n v.null), fnum 2 (zigN v.n), ftxt 3 v.s.data.toList]
def putValue (v : VV) : List UInt8 := dput (putValueF v)
/-- Fields that have the tags 1, 2, .., some of them bytes. -/
def shapedAs (l : List Fld) (pat : List Bool) : Bool := l.length = pat.length ∧ ∀ i, i < l.length → (l[i]?.map (·.tag)) = some ((i : Int) + 1) ∧ (l[i]?.map (·.bytes)) = pat[i]?
def takeValue (b : List UInt8) : Option VV :=
  match wtake b with
  | some [f1, f2, f3] => if f1.tag = 1 ∧ f1.bytes = false ∧ f2.tag = 2 ∧ f2.bytes = false ∧ f3.tag = 3 ∧ f3.bytes = true ∧ f1.n ≤ 1 then some ⟨f1.n = 1, zagI f2.n, ⟨f3.b.toArray⟩⟩ else none
  | _ => none

/-! events -/
structure KK where
  id : Int
  bucket : Int
  row : Int
  deriving DecidableEq
structure PP where
  op : Int
  col : Int
  v : VV
  vals : List VV
  l : List Int
  deriving DecidableEq
structure LL where
  high : Int
  except : List Int
  deriving DecidableEq
structure EE where
  kind : Int
  id : Int
  n : Int
  m : Int
  rows : List (List VV)
  keys : List KK
  list : LL
  cols : List Int
  pred : List PP
  deriving DecidableEq
structure KD where
  key : KK
  row : List VV
structure AA where
  code : Int
  n : Int
  rows : List KD
  list : LL

def inum (tag : Int) (n : Int) : Fld := fnum tag (zigN n)
def putRow (r : List VV) : List UInt8 := dput (r.map fun v => ftxt 1 (putValue v))
def putKey (k : KK) : List UInt8 := dput [inum 1 k.id, inum 2 k.bucket, inum 3 k.row]
def putNodeF (p : PP) : List Fld := [inum 1 p.op, inum 2 p.col, ftxt 3 (putValue p.v)] ++ p.vals.map (fun v => ftxt 4 (putValue v)) ++ p.l.map (inum 5)
def putNode (p : PP) : List UInt8 := dput (putNodeF p)
def putEventF (e : EE) : List Fld :=
  [inum 1 e.kind, inum 2 e.id, inum 3 e.n, inum 4 e.m] ++ e.rows.map (fun r => ftxt 5 (putRow r)) ++ e.keys.map (fun k => ftxt 6 (putKey k)) ++ [inum 7 e.list.high] ++
    e.list.except.map (inum 8) ++ e.cols.map (inum 9) ++ e.pred.map (fun p => ftxt 10 (putNode p))
def putEvent (e : EE) : List UInt8 := dput (putEventF e)

/-! what is read: a flag that something was none, and the thing -/
def rdFields (b : List UInt8) : Bool × List Fld := match wtake b with | some l => (false, l) | none => (true, [])
def rdValue (b : List UInt8) : Bool × VV := match takeValue b with | some v => (false, v) | none => (true, VV.zero)
def KK.zero : KK := ⟨0, 0, 0⟩
def KK.put (k : KK) (i : Nat) (x : Int) : KK := match i with | 0 => { k with id := x } | 1 => { k with bucket := x } | _ => { k with row := x }
def keyOf : Nat → KK → List Fld → Bool × KK
  | _, k, [] => (false, k)
  | i, k, f :: r => if 3 ≤ i then (true, k) else keyOf (i + 1) (k.put i (zagI f.n)) r
def rdKey (b : List UInt8) : Bool × KK := let x := rdFields b; let y := keyOf 0 KK.zero x.2; (x.1 || y.1, y.2)
def PP.zero : PP := ⟨0, 0, VV.zero, [], []⟩
def nodeStep (s : Bool × PP) (f : Fld) : Bool × PP :=
  if f.tag = 1 then (s.1, { s.2 with op := zagI f.n })
  else if f.tag = 2 then (s.1, { s.2 with col := zagI f.n })
  else if f.tag = 3 then (s.1 || (rdValue f.b).1, { s.2 with v := (rdValue f.b).2 })
  else if f.tag = 4 then (s.1 || (rdValue f.b).1, { s.2 with vals := s.2.vals ++ [(rdValue f.b).2] })
  else if f.tag = 5 then (s.1, { s.2 with l := s.2.l ++ [zagI f.n] })
  else s
def rdNode (b : List UInt8) : Bool × PP := let x := rdFields b; x.2.foldl nodeStep (x.1, PP.zero)
def rdRow (b : List UInt8) : Bool × List VV := let x := rdFields b; (x.1 || x.2.any (fun f => (rdValue f.b).1), x.2.map fun f => (rdValue f.b).2)
def EE.zero : EE := ⟨0, 0, 0, 0, [], [], ⟨0, []⟩, [], []⟩
def eventStep (s : Bool × EE) (f : Fld) : Bool × EE :=
  if f.tag = 1 then (s.1, { s.2 with kind := zagI f.n })
  else if f.tag = 2 then (s.1, { s.2 with id := zagI f.n })
  else if f.tag = 3 then (s.1, { s.2 with n := zagI f.n })
  else if f.tag = 4 then (s.1, { s.2 with m := zagI f.n })
  else if f.tag = 5 then (s.1 || (rdRow f.b).1, { s.2 with rows := s.2.rows ++ [(rdRow f.b).2] })
  else if f.tag = 6 then (s.1 || (rdKey f.b).1, { s.2 with keys := s.2.keys ++ [(rdKey f.b).2] })
  else if f.tag = 7 then (s.1, { s.2 with list := { s.2.list with high := zagI f.n } })
  else if f.tag = 8 then (s.1, { s.2 with list := { s.2.list with except := s.2.list.except ++ [zagI f.n] } })
  else if f.tag = 9 then (s.1, { s.2 with cols := s.2.cols ++ [zagI f.n] })
  else if f.tag = 10 then (s.1 || (rdNode f.b).1, { s.2 with pred := s.2.pred ++ [(rdNode f.b).2] })
  else s
def rdEvent (bad : Bool) (l : List Fld) : Bool × EE := l.foldl eventStep (bad, EE.zero)
def takeEvent (b : List UInt8) : Option EE :=
  let x := rdFields b
  let y := rdEvent x.1 x.2
  if y.1 || putEvent y.2 != b then none else some y.2

/-! scripts -/
def hexD (n : Nat) : UInt8 := if n < 10 then UInt8.ofNat (48 + n) else UInt8.ofNat (87 + n)
def hexOf : List UInt8 → List UInt8
  | [] => []
  | c :: r => hexD (c.toNat / 16) :: hexD (c.toNat % 16) :: hexOf r
def unhexD (c : UInt8) : Option Nat := if 48 ≤ c.toNat ∧ c.toNat ≤ 57 then some (c.toNat - 48) else if 97 ≤ c.toNat ∧ c.toNat ≤ 102 then some (c.toNat - 87) else none
def unhex : List UInt8 → Option (List UInt8)
  | [] => some []
  | [_] => none
  | a :: b :: r =>
    match unhexD a, unhexD b with
    | some h, some l => (unhex r).map (UInt8.ofNat (16 * h + l) :: ·)
    | _, _ => none
def lineOf (s : List UInt8) : Option EE := (unhex s).bind takeEvent
def printOf (l : List EE) : List UInt8 := (l.map fun e => hexOf (putEvent e) ++ [10]).flatten
end Go.Proofs.YticfmphbhdkhoaaGreatDoor
namespace Go.Proofs.YticfmphbhdkhoaaGreatDoor
open Go Go.RowKit

def i64 (x : Int) : Prop := -9223372036854775808 ≤ x ∧ x ≤ 9223372036854775807

def tFld : Ty Fld where
  size := 4
  rep F w cs f := ∃ A n c, cs = [.int .i64 f.tag, .bool f.bytes, .int .u64 (f.n : Int), .slice A n c] ∧ i64 f.tag ∧ f.n < 18446744073709551616 ∧ Sl tU8 F w A n c f.b
  len h := by obtain ⟨_, _, _, rfl, _⟩ := h; rfl
  one h := by obtain ⟨_, _, _, rfl, _⟩ := h; intro u hu; simp at hu; rcases hu with rfl | rfl | rfl | rfl <;> rfl
  keep h hs hk := by obtain ⟨A, n, c, rfl, h1, h2, h3⟩ := h; exact ⟨A, n, c, rfl, h1, h2, h3.keep hs hk⟩
  weaken h hF := by obtain ⟨A, n, c, rfl, h1, h2, h3⟩ := h; exact ⟨A, n, c, rfl, h1, h2, h3.weaken hF⟩

theorem rep_fnum {w : World} {tag : Int} {n : Nat} (h : i64 tag) (hn : n < 18446744073709551616) : tFld.rep (fun _ => True) w [.int .i64 tag, .bool false, .int .u64 (n : Int), .slice none 0 0] (fnum tag n) := ⟨none, 0, 0, rfl, h, hn, Sl.nil_ _ _ _⟩
theorem rep_ftxt {w : World} {tag : Int} {A : Option Addr} {n c : Nat} {b : List UInt8} (h : i64 tag) (hb : Sl tU8 (fun _ => True) w A n c b) : tFld.rep (fun _ => True) w [.int .i64 tag, .bool true, .int .u64 0, .slice A n c] (ftxt tag b) := ⟨A, n, c, rfl, h, by simp [ftxt], hb⟩
theorem i64_small (n : Nat) (h : n ≤ 1000) : i64 (n : Int) := by unfold i64; omega

def tVV : Ty VV where
  size := 3
  rep _ _ cs v := cs = [.bool v.null, .int .i64 v.n, .string v.s] ∧ v.ok
  len h := by rw [h.1]; rfl
  one h := by rw [h.1]; intro u hu; simp at hu; rcases hu with rfl | rfl | rfl <;> rfl
  keep h _ _ := h
  weaken h _ := h
theorem flatVV : tVV.Flat := fun h => h

def KK.ok (k : KK) : Prop := i64 k.id ∧ i64 k.bucket ∧ i64 k.row
def tKK : Ty KK where
  size := 3
  rep _ _ cs k := cs = [.int .i64 k.id, .int .i64 k.bucket, .int .i64 k.row] ∧ k.ok
  len h := by rw [h.1]; rfl
  one h := by rw [h.1]; intro u hu; simp at hu; rcases hu with rfl | rfl | rfl <;> rfl
  keep h _ _ := h
  weaken h _ := h
theorem flatKK : tKK.Flat := fun h => h

def tPP : Ty PP where
  size := 7
  rep F w cs p := ∃ A n c A' n' c', cs = [.int .i64 p.op, .int .i64 p.col, .bool p.v.null, .int .i64 p.v.n, .string p.v.s, .slice A n c, .slice A' n' c'] ∧ i64 p.op ∧ i64 p.col ∧ p.v.ok ∧ Sl tVV F w A n c p.vals ∧ Sl tI64 F w A' n' c' p.l
  len h := by obtain ⟨_, _, _, _, _, _, rfl, _⟩ := h; rfl
  one h := by obtain ⟨_, _, _, _, _, _, rfl, _⟩ := h; intro u hu; simp at hu; rcases hu with rfl | rfl | rfl | rfl | rfl | rfl | rfl <;> rfl
  keep h hs hk := by obtain ⟨A, n, c, A', n', c', rfl, h1, h2, h3, h4, h5⟩ := h; exact ⟨A, n, c, A', n', c', rfl, h1, h2, h3, h4.keep hs hk, h5.keep hs hk⟩
  weaken h hF := by obtain ⟨A, n, c, A', n', c', rfl, h1, h2, h3, h4, h5⟩ := h; exact ⟨A, n, c, A', n', c', rfl, h1, h2, h3, h4.weaken hF, h5.weaken hF⟩

def tEE : Ty EE where
  size := 10
  rep F w cs e := ∃ A1 n1 c1 A2 n2 c2 A3 n3 c3 A4 n4 c4 A5 n5 c5, cs = [.int .i64 e.kind, .int .i64 e.id, .int .i64 e.n, .int .i64 e.m, .slice A1 n1 c1, .slice A2 n2 c2, .int .i64 e.list.high, .slice A3 n3 c3, .slice A4 n4 c4, .slice A5 n5 c5] ∧
    i64 e.kind ∧ i64 e.id ∧ i64 e.n ∧ i64 e.m ∧ i64 e.list.high ∧ Sl (tSl tVV) F w A1 n1 c1 e.rows ∧ Sl tKK F w A2 n2 c2 e.keys ∧ Sl tI64 F w A3 n3 c3 e.list.except ∧ Sl tI64 F w A4 n4 c4 e.cols ∧ Sl tPP F w A5 n5 c5 e.pred
  len h := by obtain ⟨_, _, _, _, _, _, _, _, _, _, _, _, _, _, _, rfl, _⟩ := h; rfl
  one h := by obtain ⟨_, _, _, _, _, _, _, _, _, _, _, _, _, _, _, rfl, _⟩ := h; intro u hu; simp at hu; rcases hu with rfl | rfl | rfl | rfl | rfl | rfl | rfl | rfl | rfl | rfl <;> rfl
  keep h hs hk := by
    obtain ⟨A1, n1, c1, A2, n2, c2, A3, n3, c3, A4, n4, c4, A5, n5, c5, rfl, h1, h2, h3, h4, h5, h6, h7, h8, h9, h10⟩ := h
    exact ⟨A1, n1, c1, A2, n2, c2, A3, n3, c3, A4, n4, c4, A5, n5, c5, rfl, h1, h2, h3, h4, h5, h6.keep hs hk, h7.keep hs hk, h8.keep hs hk, h9.keep hs hk, h10.keep hs hk⟩
  weaken h hF := by
    obtain ⟨A1, n1, c1, A2, n2, c2, A3, n3, c3, A4, n4, c4, A5, n5, c5, rfl, h1, h2, h3, h4, h5, h6, h7, h8, h9, h10⟩ := h
    exact ⟨A1, n1, c1, A2, n2, c2, A3, n3, c3, A4, n4, c4, A5, n5, c5, rfl, h1, h2, h3, h4, h5, h6.weaken hF, h7.weaken hF, h8.weaken hF, h9.weaken hF, h10.weaken hF⟩

def tKD : Ty KD where
  size := 4
  rep F w cs x := ∃ A n c, cs = [.int .i64 x.key.id, .int .i64 x.key.bucket, .int .i64 x.key.row, .slice A n c] ∧ x.key.ok ∧ Sl tVV F w A n c x.row
  len h := by obtain ⟨_, _, _, rfl, _⟩ := h; rfl
  one h := by obtain ⟨_, _, _, rfl, _⟩ := h; intro u hu; simp at hu; rcases hu with rfl | rfl | rfl | rfl <;> rfl
  keep h hs hk := by obtain ⟨A, n, c, rfl, h1, h2⟩ := h; exact ⟨A, n, c, rfl, h1, h2.keep hs hk⟩
  weaken h hF := by obtain ⟨A, n, c, rfl, h1, h2⟩ := h; exact ⟨A, n, c, rfl, h1, h2.weaken hF⟩

def tAA : Ty AA where
  size := 5
  rep F w cs x := ∃ A n c A' n' c', cs = [.int .i64 x.code, .int .i64 x.n, .slice A n c, .int .i64 x.list.high, .slice A' n' c'] ∧ i64 x.code ∧ i64 x.n ∧ i64 x.list.high ∧ Sl tKD F w A n c x.rows ∧ Sl tI64 F w A' n' c' x.list.except
  len h := by obtain ⟨_, _, _, _, _, _, rfl, _⟩ := h; rfl
  one h := by obtain ⟨_, _, _, _, _, _, rfl, _⟩ := h; intro u hu; simp at hu; rcases hu with rfl | rfl | rfl | rfl | rfl <;> rfl
  keep h hs hk := by obtain ⟨A, n, c, A', n', c', rfl, h1, h2, h3, h4, h5⟩ := h; exact ⟨A, n, c, A', n', c', rfl, h1, h2, h3, h4.keep hs hk, h5.keep hs hk⟩
  weaken h hF := by obtain ⟨A, n, c, A', n', c', rfl, h1, h2, h3, h4, h5⟩ := h; exact ⟨A, n, c, A', n', c', rfl, h1, h2, h3, h4.weaken hF, h5.weaken hF⟩
end Go.Proofs.YticfmphbhdkhoaaGreatDoor
namespace Go.Proofs.YticfmphbhdkhoaaGreatDoor

/-- The lowest s bytes of N, the highest first. -/
def be : Nat → Nat → List UInt8
  | 0, _ => []
  | s + 1, N => UInt8.ofNat (N / 256 ^ s) :: be s N
theorem be_len : ∀ s N, (be s N).length = s
  | 0, _ => rfl
  | s + 1, N => by rw [be, List.length_cons, be_len s N]
theorem be_get : ∀ (s N j : Nat) (_ : j < s), (be s N)[j]? = some (UInt8.ofNat (N / 256 ^ (s - 1 - j)))
  | s + 1, N, 0, _ => by rw [be]; simp
  | s + 1, N, j + 1, h => by
    rw [be, List.getElem?_cons_succ, be_get s N j (by omega)]
    congr 4; omega
theorem be_byte (s N j : Nat) (h : j < (be s N).length) : ((be s N)[j]).toNat = N / 256 ^ (s - 1 - j) % 256 := by
  have hj : j < s := by rwa [be_len] at h
  have := be_get s N j hj
  rw [List.getElem?_eq_getElem h] at this
  rw [Option.some.inj this, UInt8.toNat_ofNat']
theorem ofNat_mod (n : Nat) : UInt8.ofNat (n % 256) = UInt8.ofNat n := by
  apply UInt8.toNat_inj.1
  rw [UInt8.toNat_ofNat', UInt8.toNat_ofNat']; omega
/-- No carry. -/
theorem add_high (N c f e : Nat) (hc : N / 256 ^ f % 256 + c < 256) (he : f < e) : (N + c * 256 ^ f) / 256 ^ e = N / 256 ^ e := by
  obtain ⟨d, rfl⟩ : ∃ d, e = f + (1 + d) := ⟨e - f - 1, by omega⟩
  have hp : 0 < 256 ^ f := Nat.pow_pos (by decide)
  rw [Nat.pow_add, ← Nat.div_div_eq_div_mul, ← Nat.div_div_eq_div_mul, Nat.add_mul_div_right _ _ hp, Nat.pow_add, ← Nat.div_div_eq_div_mul, ← Nat.div_div_eq_div_mul]
  congr 1
  rw [Nat.pow_one]
  omega
theorem add_low (N c f e : Nat) (he : e < f) : (N + c * 256 ^ f) / 256 ^ e % 256 = N / 256 ^ e % 256 := by
  obtain ⟨d, rfl⟩ : ∃ d, f = e + (1 + d) := ⟨f - e - 1, by omega⟩
  have hp : 0 < 256 ^ e := Nat.pow_pos (by decide)
  have : c * 256 ^ (e + (1 + d)) = (c * 256 ^ d * 256) * 256 ^ e := by
    rw [Nat.pow_add, Nat.pow_add, Nat.pow_one]
    ac_rfl
  rw [this, Nat.add_mul_div_right _ _ hp, Nat.add_mul_mod_self_right]
/-- A byte of many turned: to the number its place's part is added. -/
theorem be_set (s N j c : Nat) (hj : j < s) (hc : N / 256 ^ (s - 1 - j) % 256 + c < 256) :
    (be s N).set j (UInt8.ofNat (N / 256 ^ (s - 1 - j) % 256 + c)) = be s (N + c * 256 ^ (s - 1 - j)) := by
  apply List.ext_getElem?
  intro i
  by_cases hi : i < s
  · rw [be_get s _ i hi, List.getElem?_set]
    by_cases hij : j = i
    · subst hij
      rw [if_pos rfl, if_pos (by rw [be_len]; exact hj), Nat.add_mul_div_right _ _ (Nat.pow_pos (by decide))]
      congr 1
      rw [← ofNat_mod (N / 256 ^ (s - 1 - j) + c)]
      congr 1; omega
    · rw [if_neg hij, be_get s _ i hi]
      congr 1
      rw [← ofNat_mod (N / _), ← ofNat_mod ((N + _) / _)]
      congr 1
      by_cases h2 : j < i
      · rw [add_low _ _ _ _ (by omega)]
      · rw [add_high _ _ _ _ hc (by omega)]
  · rw [List.getElem?_eq_none (by rw [List.length_set, be_len]; omega), List.getElem?_eq_none (by rw [be_len]; omega)]
theorem be_zero : ∀ s, be s 0 = List.replicate s 0
  | 0 => rfl
  | s + 1 => by rw [be, be_zero s, List.replicate_succ, Nat.zero_div]; rfl

/-- All as one number, each of so many bits. -/
def catN (w : Nat) (l : List Nat) : Nat := l.foldl (fun a x => a * 2 ^ w + x) 0
theorem catN_snoc (w : Nat) (l : List Nat) (x : Nat) : catN w (l ++ [x]) = catN w l * 2 ^ w + x := by simp [catN]
def packSize (many w : Nat) : Nat := (many * w + 7) / 8
/-- Numbers packed. -/
def pack (w : Nat) (l : List Nat) : List UInt8 := be (packSize l.length w) (catN w l * 2 ^ (8 * packSize l.length w - l.length * w))
theorem pack_len (w : Nat) (l : List Nat) : (pack w l).length = packSize l.length w := be_len _ _

/-! one step: bits behind those that lie -/
/-- The bits laid down so far (so many of T), as the number of all bytes: V the number of these bits. -/
theorem byte_free {s at_ V : Nat} (h : at_ < 8 * s) : V * 2 ^ (8 * s - at_) / 256 ^ (s - 1 - at_ / 8) % 256 % 2 ^ (8 - at_ % 8) = 0 := by
  have e : 8 * s - at_ = 8 * (s - 1 - at_ / 8) + (8 - at_ % 8) := by omega
  have h256 : (256 : Nat) ^ (s - 1 - at_ / 8) = 2 ^ (8 * (s - 1 - at_ / 8)) := by rw [Nat.pow_mul]
  rw [e, Nat.pow_add, h256, show V * (2 ^ (8 * (s - 1 - at_ / 8)) * 2 ^ (8 - at_ % 8)) = V * 2 ^ (8 - at_ % 8) * 2 ^ (8 * (s - 1 - at_ / 8)) by ac_rfl, Nat.mul_div_cancel _ (Nat.pow_pos (by decide))]
  have : (2 ^ (8 - at_ % 8)) ∣ 256 := by
    have : (256 : Nat) = 2 ^ (8 - at_ % 8) * 2 ^ (at_ % 8) := by rw [← Nat.pow_add, show 8 - at_ % 8 + at_ % 8 = 8 by omega]
    exact ⟨_, this⟩
  rw [Nat.mod_mod_of_dvd _ this, Nat.mul_mod_left]
theorem room_lt {B c r : Nat} (hB : B < 256) (hf : B % 2 ^ r = 0) (hr : r ≤ 8) (hc : c < 2 ^ r) : B + c < 256 := by
  have h256 : (256 : Nat) = 2 ^ r * 2 ^ (8 - r) := by rw [← Nat.pow_add, show r + (8 - r) = 8 by omega]
  obtain ⟨q, hq⟩ := Nat.dvd_of_mod_eq_zero hf
  rw [hq, h256] at hB
  have hq2 : q < 2 ^ (8 - r) := Nat.lt_of_mul_lt_mul_left hB
  have : 2 ^ r * (q + 1) ≤ 2 ^ r * 2 ^ (8 - r) := Nat.mul_le_mul_left _ hq2
  rw [← h256, Nat.mul_add, Nat.mul_one, ← hq] at this
  omega
theorem room_or {B c r : Nat} (hf : B % 2 ^ r = 0) (hc : c < 2 ^ r) : B ||| c = B + c := by
  obtain ⟨q, rfl⟩ := Nat.dvd_of_mod_eq_zero hf
  exact (Nat.two_pow_add_eq_or_of_lt hc q).symm
theorem byte_pow (k : Nat) : (256 : Nat) ^ k = 2 ^ (8 * k) := by rw [Nat.pow_mul]
/-- Bits c (n of them) that find room in the byte: what is added to it. -/
theorem put_in {s at_ V c n : Nat} (h : at_ < 8 * s) (hn : n ≤ 8 - at_ % 8) (hc : c < 2 ^ n) :
    (be s (V * 2 ^ (8 * s - at_))).set (at_ / 8) (UInt8.ofNat (V * 2 ^ (8 * s - at_) / 256 ^ (s - 1 - at_ / 8) % 256 + c * 2 ^ (8 - at_ % 8 - n))) = be s ((V * 2 ^ n + c) * 2 ^ (8 * s - (at_ + n))) := by
  have hf := byte_free (V := V) h
  have hb : c * 2 ^ (8 - at_ % 8 - n) < 2 ^ (8 - at_ % 8) := by
    have := Nat.mul_lt_mul_of_pos_right hc (Nat.pow_pos (n := 8 - at_ % 8 - n) (show 0 < 2 by decide))
    rwa [← Nat.pow_add, show n + (8 - at_ % 8 - n) = 8 - at_ % 8 by omega] at this
  have hlt := room_lt (Nat.mod_lt _ (by decide)) hf (by omega) hb
  rw [be_set _ _ _ _ (by omega) hlt, byte_pow, Nat.add_mul, Nat.mul_assoc, Nat.mul_assoc, ← Nat.pow_add, ← Nat.pow_add]
  congr 2
  · congr 2; omega
  · congr 2; omega
/-- Bits c (n of them) that stand over into the next byte. -/
theorem put_over {s at_ V c n : Nat} (h : at_ + n ≤ 8 * s) (hn : 8 - at_ % 8 < n) (hn8 : n ≤ 8) (hc : c < 2 ^ n) :
    ((be s (V * 2 ^ (8 * s - at_))).set (at_ / 8) (UInt8.ofNat (V * 2 ^ (8 * s - at_) / 256 ^ (s - 1 - at_ / 8) % 256 + c / 2 ^ (n - (8 - at_ % 8))))).set (at_ / 8 + 1) (UInt8.ofNat (c * 2 ^ (16 - at_ % 8 - n) % 256)) = be s ((V * 2 ^ n + c) * 2 ^ (8 * s - (at_ + n))) := by
  have hr : at_ % 8 < 8 := Nat.mod_lt _ (by decide)
  obtain ⟨r, hre⟩ : ∃ r, r = 8 - at_ % 8 := ⟨_, rfl⟩
  obtain ⟨m, hm⟩ : ∃ m, n = r + m := ⟨n - r, by omega⟩
  -- the upper part fills the byte
  have h1 := put_in (V := V) (c := c / 2 ^ m) (n := r) (s := s) (at_ := at_) (by omega) (by omega) (by
    rw [Nat.div_lt_iff_lt_mul (Nat.pow_pos (by decide)), ← Nat.pow_add, ← hm]; exact hc)
  rw [show 8 - at_ % 8 - r = 0 by omega, Nat.pow_zero, Nat.mul_one] at h1
  rw [show n - (8 - at_ % 8) = m by omega, h1]
  -- the rest begins the next one
  have h2 := put_in (V := V * 2 ^ r + c / 2 ^ m) (c := c % 2 ^ m) (n := m) (s := s) (at_ := at_ + r) (by omega) (by omega) (Nat.mod_lt _ (Nat.pow_pos (by decide)))
  rw [show (at_ + r) / 8 = at_ / 8 + 1 by omega, show (at_ + r) % 8 = 0 by omega] at h2
  have hz : (V * 2 ^ r + c / 2 ^ m) * 2 ^ (8 * s - (at_ + r)) / 256 ^ (s - 1 - (at_ / 8 + 1)) % 256 = 0 := by
    have := byte_free (V := V * 2 ^ r + c / 2 ^ m) (s := s) (at_ := at_ + r) (by omega)
    rw [show (at_ + r) / 8 = at_ / 8 + 1 by omega, show (at_ + r) % 8 = 0 by omega, Nat.mod_eq_of_lt (Nat.mod_lt _ (by decide))] at this
    exact this
  rw [hz, Nat.zero_add] at h2
  have h3 : c * 2 ^ (16 - at_ % 8 - n) % 256 = c % 2 ^ m * 2 ^ (8 - 0 - m) := by
    rw [show 16 - at_ % 8 - n = 8 - m by omega, show (256 : Nat) = 2 ^ m * 2 ^ (8 - m) by rw [← Nat.pow_add, show m + (8 - m) = 8 by omega], Nat.mul_mod_mul_right]
  rw [h3, h2]
  congr 1
  rw [show at_ + r + m = at_ + n by omega, hm, Nat.pow_add, Nat.add_mul (V * 2 ^ r), Nat.add_assoc, Nat.mul_assoc V, Nat.mul_comm (c / 2 ^ m), Nat.div_add_mod]
end Go.Proofs.YticfmphbhdkhoaaGreatDoor
namespace Go.Proofs.YticfmphbhdkhoaaGreatDoor

/-- How many bytes are as the first one: at most 130. -/
def bsame (b : List UInt8) : Nat := min 130 (b.takeWhile (· == b.headD 0)).length
theorem bsame_le (b : List UInt8) : bsame b ≤ b.length := by
  have := (List.takeWhile_prefix (l := b) (· == b.headD 0)).length_le
  unfold bsame; omega
theorem bsame_pos {b : List UInt8} (h : b ≠ []) : 1 ≤ bsame b := by
  match b, h with
  | c :: r, _ => unfold bsame; simp; omega
/-- How many bytes ahead of a run: at most f. -/
def litF : Nat → List UInt8 → Nat
  | 0, _ => 0
  | _ + 1, [] => 0
  | f + 1, c :: r => if bsame (c :: r) < 3 then 1 + litF f r else 0
def litN (b : List UInt8) : Nat := litF 128 b
theorem litF_le : ∀ (f : Nat) (b : List UInt8), litF f b ≤ b.length ∧ litF f b ≤ f
  | 0, _ => by simp [litF]
  | f + 1, [] => by simp [litF]
  | f + 1, c :: r => by
    have := litF_le f r
    unfold litF
    split <;> simp <;> omega
theorem litN_pos {b : List UInt8} (h : b ≠ []) (hs : bsame b < 3) : 1 ≤ litN b := by
  match b, h with
  | c :: r, _ => unfold litN litF; rw [if_pos hs]; omega
/-- A list's bytes behind their number. -/
def litB (k : Nat) (b : List UInt8) : List UInt8 := UInt8.ofNat (256 - k) :: b.take k
def byF : Nat → List UInt8 → List UInt8
  | 0, _ => []
  | _ + 1, [] => []
  | f + 1, c :: r => if 3 ≤ bsame (c :: r) then UInt8.ofNat (bsame (c :: r) - 3) :: c :: byF f ((c :: r).drop (bsame (c :: r))) else litB (litN (c :: r)) (c :: r) ++ byF f ((c :: r).drop (litN (c :: r)))
def byB (b : List UInt8) : List UInt8 := byF b.length b
theorem byF_nil (f : Nat) : byF f [] = [] := by cases f <;> rfl
theorem byF_fuel : ∀ (f g : Nat) (b : List UInt8), b.length ≤ f → b.length ≤ g → byF f b = byF g b
  | 0, g, b, h, _ => by
    obtain rfl : b = [] := List.length_eq_zero_iff.1 (by omega)
    rw [byF_nil, byF_nil]
  | f + 1, 0, b, _, h => by
    obtain rfl : b = [] := List.length_eq_zero_iff.1 (by omega)
    rw [byF_nil, byF_nil]
  | f + 1, g + 1, [], _, _ => rfl
  | f + 1, g + 1, c :: r, h1, h2 => by
    rw [byF, byF]
    simp only [List.length_cons] at h1 h2
    by_cases hs : 3 ≤ bsame (c :: r)
    · rw [if_pos hs, if_pos hs, byF_fuel f g _ (by rw [List.length_drop, List.length_cons]; omega) (by rw [List.length_drop, List.length_cons]; omega)]
    · rw [if_neg hs, if_neg hs]
      have := litN_pos (b := c :: r) (by simp) (by omega)
      rw [byF_fuel f g _ (by rw [List.length_drop, List.length_cons]; omega) (by rw [List.length_drop, List.length_cons]; omega)]
theorem byB_nil : byB [] = [] := rfl
theorem byB_run {b : List UInt8} (h : 3 ≤ bsame b) : byB b = [UInt8.ofNat (bsame b - 3), b.headD 0] ++ byB (b.drop (bsame b)) := by
  match b, h with
  | [], h => simp [bsame] at h
  | c :: r, h =>
    have e : byB (c :: r) = UInt8.ofNat (bsame (c :: r) - 3) :: c :: byF r.length ((c :: r).drop (bsame (c :: r))) := by
      unfold byB; rw [List.length_cons, byF, if_pos h]
    rw [e, byF_fuel _ ((c :: r).drop (bsame (c :: r))).length _ (by rw [List.length_drop, List.length_cons]; omega) (Nat.le_refl _)]
    rfl
theorem byB_lit {b : List UInt8} (h0 : b ≠ []) (h : bsame b < 3) : byB b = litB (litN b) b ++ byB (b.drop (litN b)) := by
  match b, h0, h with
  | c :: r, h0, h =>
    have hp := litN_pos h0 h
    have e : byB (c :: r) = litB (litN (c :: r)) (c :: r) ++ byF r.length ((c :: r).drop (litN (c :: r))) := by
      unfold byB; rw [List.length_cons, byF, if_neg (by omega)]
    rw [e, byF_fuel _ ((c :: r).drop (litN (c :: r))).length _ (by rw [List.length_drop, List.length_cons]; omega) (Nat.le_refl _)]
    rfl
/-! the program's way: what waits is laid down ahead of a run -/
/-- None of the first k bytes begins a run. -/
def Lit (l b : List UInt8) : Prop := ∀ i, i < l.length → bsame ((l ++ b).drop i) < 3
def flushB : Nat → List UInt8 → List UInt8
  | 0, _ => []
  | _ + 1, [] => []
  | f + 1, c :: r => litB (min 128 (r.length + 1)) (c :: r) ++ flushB f ((c :: r).drop 128)
theorem flushB_nil (f : Nat) : flushB f [] = [] := by cases f <;> rfl
theorem flushB_fuel : ∀ (f g : Nat) (b : List UInt8), b.length ≤ f → b.length ≤ g → flushB f b = flushB g b
  | 0, g, b, h, _ => by
    obtain rfl : b = [] := List.length_eq_zero_iff.1 (by omega)
    rw [flushB_nil, flushB_nil]
  | f + 1, 0, b, _, h => by
    obtain rfl : b = [] := List.length_eq_zero_iff.1 (by omega)
    rw [flushB_nil, flushB_nil]
  | f + 1, g + 1, [], _, _ => rfl
  | f + 1, g + 1, c :: r, h1, h2 => by
    simp only [List.length_cons] at h1 h2
    rw [flushB, flushB, flushB_fuel f g _ (by rw [List.length_drop, List.length_cons]; omega) (by rw [List.length_drop, List.length_cons]; omega)]
def flush (l : List UInt8) : List UInt8 := flushB l.length l
theorem flush_nil : flush [] = [] := rfl
theorem flush_step {l : List UInt8} (h : l ≠ []) : flush l = litB (min 128 l.length) l ++ flush (l.drop 128) := by
  match l, h with
  | c :: r, _ =>
    have e : flush (c :: r) = litB (min 128 (r.length + 1)) (c :: r) ++ flushB r.length ((c :: r).drop 128) := by unfold flush; rw [List.length_cons, flushB]
    rw [e, flushB_fuel _ ((c :: r).drop 128).length _ (by rw [List.length_drop, List.length_cons]; omega) (Nat.le_refl _)]
    rfl
theorem litF_lit : ∀ (f : Nat) (l b : List UInt8), Lit l b → (b = [] ∨ 3 ≤ bsame b) → litF f (l ++ b) = min f l.length
  | 0, l, b, _, _ => by simp [litF]
  | f + 1, [], b, _, h => by
    rcases h with rfl | h
    · simp [litF]
    · match b, h with
      | [], h => simp [bsame] at h
      | c :: r, h => rw [List.nil_append, litF, if_neg (by omega)]; simp
  | f + 1, c :: l, b, hl, h => by
    have h0 := hl 0 (by simp)
    rw [List.drop_zero] at h0
    rw [List.cons_append, litF, if_pos (by rwa [List.cons_append] at h0), litF_lit f l b (fun i hi => by have := hl (i + 1) (by simp; omega); simpa using this) h]
    simp; omega
theorem lit_drop {l b : List UInt8} (h : Lit l b) (k : Nat) : Lit (l.drop k) b := fun i hi => by
  rw [List.length_drop] at hi
  have := h (k + i) (by omega)
  rwa [show ((l.drop k ++ b).drop i) = (l ++ b).drop (k + i) by rw [← List.drop_drop, List.drop_append_of_le_length (l₁ := l) (by omega)]]
theorem byB_flush {l b : List UInt8} (hl : Lit l b) (h : b = [] ∨ 3 ≤ bsame b) : byB (l ++ b) = flush l ++ byB b := by
  generalize hn : l.length = n
  induction n using Nat.strongRecOn generalizing l with
  | _ n ih =>
    by_cases h0 : l = []
    · subst h0; rfl
    · have hp := List.length_pos_iff.2 h0
      have h3 := hl 0 hp
      rw [List.drop_zero] at h3
      have hk : litN (l ++ b) = min 128 l.length := litF_lit 128 l b hl h
      rw [byB_lit (by simp [h0]) h3, hk, flush_step h0]
      have e1 : (l ++ b).drop (min 128 l.length) = l.drop 128 ++ b := by
        rw [List.drop_append_of_le_length (by omega)]
        congr 1
        by_cases h128 : 128 ≤ l.length
        · rw [Nat.min_eq_left h128]
        · rw [Nat.min_eq_right (by omega), List.drop_length, List.drop_of_length_le (by omega)]
      have e2 : litB (min 128 l.length) (l ++ b) = litB (min 128 l.length) l := by unfold litB; rw [List.take_append_of_le_length (by omega)]
      rw [e1, e2, ih (l.drop 128).length (by rw [List.length_drop]; omega) (lit_drop hl 128) rfl, List.append_assoc]
theorem byB_wait {l b : List UInt8} (hl : Lit l b) (h : 3 ≤ bsame b) : byB (l ++ b) = flush l ++ [UInt8.ofNat (bsame b - 3), b.headD 0] ++ byB (b.drop (bsame b)) := by
  rw [byB_flush hl (.inr h), byB_run h, List.append_assoc]
theorem bsame_two {b : List UInt8} (h : bsame b = 2) : bsame (b.drop 1) < 3 := by
  match b, h with
  | [], h => simp [bsame] at h
  | [c], h => simp [bsame] at h
  | [c, d], h => unfold bsame; have := (List.takeWhile_prefix (l := [d]) (· == [d].headD 0)).length_le; simp at this; simp
  | c :: d :: e :: r, h =>
    have hcd : d = c := by
      apply Classical.byContradiction; intro hne
      have : ((d == c) = false) := by simpa using hne
      simp [bsame, this] at h
    subst hcd
    have hne : (e == d) = false := by
      apply Classical.byContradiction; intro hh
      have : e == d := by simpa using hh
      simp [bsame, this] at h
      omega
    simp [bsame, hne]
theorem lit_more {l b : List UInt8} (hl : Lit l b) (h : bsame b < 3) (h0 : b ≠ []) : Lit (l ++ b.take (bsame b)) (b.drop (bsame b)) := fun i hi => by
  have hp := bsame_pos h0
  rw [List.append_assoc, List.take_append_drop]
  rw [List.length_append, List.length_take] at hi
  by_cases hil : i < l.length
  · exact hl i hil
  · have hle := bsame_le b
    rw [List.drop_append, List.drop_of_length_le (by omega), List.nil_append]
    obtain h1 | h1 : i - l.length = 0 ∨ (i - l.length = 1 ∧ bsame b = 2) := by omega
    · rw [h1, List.drop_zero]; exact h
    · rw [h1.1]; exact bsame_two h1.2
theorem lit_nil (b : List UInt8) : Lit [] b := fun i hi => by simp at hi
end Go.Proofs.YticfmphbhdkhoaaGreatDoor
namespace Go.Proofs.YticfmphbhdkhoaaGreatDoor

/-- A byte, and how often. -/
structure Rn where
  c : UInt8
  n : Nat
  one : 1 ≤ n
  most : n ≤ 130
theorem bsame_130 (b : List UInt8) : bsame b ≤ 130 := by unfold bsame; omega
def rnOf (b : List UInt8) (h : b ≠ []) : Rn := ⟨b.headD 0, bsame b, bsame_pos h, bsame_130 b⟩
def rnF : Nat → List UInt8 → List Rn
  | 0, _ => []
  | f + 1, b => if h : b = [] then [] else rnOf b h :: rnF f (b.drop (bsame b))
def rnL (b : List UInt8) : List Rn := rnF b.length b
theorem rnF_nil (f : Nat) : rnF f [] = [] := by cases f <;> simp [rnF]
theorem rnF_fuel : ∀ (f g : Nat) (b : List UInt8), b.length ≤ f → b.length ≤ g → rnF f b = rnF g b
  | 0, g, b, h, _ => by
    obtain rfl : b = [] := List.length_eq_zero_iff.1 (by omega)
    rw [rnF_nil, rnF_nil]
  | f + 1, 0, b, _, h => by
    obtain rfl : b = [] := List.length_eq_zero_iff.1 (by omega)
    rw [rnF_nil, rnF_nil]
  | f + 1, g + 1, b, h1, h2 => by
    by_cases hb : b = []
    · rw [hb, rnF_nil, rnF_nil]
    · have := bsame_pos hb
      rw [rnF, rnF, dif_neg hb, dif_neg hb, rnF_fuel f g _ (by rw [List.length_drop]; omega) (by rw [List.length_drop]; omega)]
theorem rnL_nil : rnL [] = [] := rfl
theorem rnL_cons {b : List UInt8} (h : b ≠ []) : rnL b = rnOf b h :: rnL (b.drop (bsame b)) := by
  have hp := bsame_pos h
  have hl := List.length_pos_iff.2 h
  unfold rnL
  obtain ⟨k, hk⟩ : ∃ k, b.length = k + 1 := ⟨b.length - 1, by omega⟩
  rw [hk, rnF, dif_neg h, rnF_fuel k _ (b.drop (bsame b)) (by rw [List.length_drop]; omega) (Nat.le_refl _)]
theorem rnF_len : ∀ (f : Nat) (b : List UInt8), (rnF f b).length ≤ b.length
  | 0, _ => Nat.zero_le _
  | f + 1, b => by
    by_cases h : b = []
    · rw [h, rnF_nil]; exact Nat.le_refl _
    · have := bsame_pos h
      have h2 := bsame_le b
      have h3 := rnF_len f (b.drop (bsame b))
      rw [rnF, dif_neg h, List.length_cons]
      rw [List.length_drop] at h3
      omega
theorem rnL_len (b : List UInt8) : (rnL b).length ≤ b.length := rnF_len _ b
/-- All is as the first byte. -/
theorem bsame_all {b : List UInt8} {j : Nat} (h : j < bsame b) : b[j]? = some (b.headD 0) := by
  have h1 : j < (b.takeWhile (· == b.headD 0)).length := by unfold bsame at h; omega
  obtain ⟨r, hr⟩ := List.takeWhile_prefix (l := b) (· == b.headD 0)
  have h2 : (b.takeWhile (· == b.headD 0))[j] = b.headD 0 := by
    have := List.all_eq_true.1 (List.all_takeWhile (p := (· == b.headD 0)) (l := b)) _ (List.getElem_mem h1)
    simpa using this
  have h3 : b[j]? = (b.takeWhile (· == b.headD 0) ++ r)[j]? := by rw [hr]
  rw [h3, List.getElem?_append_left h1, List.getElem?_eq_getElem h1, h2]
theorem bsame_next {b : List UInt8} (h1 : bsame b < 130) (h2 : bsame b < b.length) : b[bsame b] ≠ b.headD 0 := by
  have e : bsame b = (b.takeWhile (· == b.headD 0)).length := by unfold bsame at *; omega
  intro hh
  have h3 : ∀ (l : List UInt8) (p : UInt8 → Bool) (hk : (l.takeWhile p).length < l.length), p (l[(l.takeWhile p).length]) = false := by
    intro l p
    induction l with
    | nil => intro hk; simp at hk
    | cons a r ih =>
      intro hk
      cases hp : p a with
      | false => simp [hp]
      | true =>
        simp only [List.takeWhile_cons, hp, if_true, List.length_cons, List.getElem_cons_succ] at hk ⊢
        exact ih (by simpa using hk)
  have h4 := h3 b (· == b.headD 0) (by rw [← e]; exact h2)
  simp only [← e] at h4
  rw [hh] at h4
  simp at h4
theorem bsame_take {b : List UInt8} : b.take (bsame b) = List.replicate (bsame b) (b.headD 0) := by
  have hle := bsame_le b
  apply List.ext_getElem?
  intro j
  by_cases hj : j < bsame b
  · rw [List.getElem?_take_of_lt hj, bsame_all hj, List.getElem?_replicate, if_pos hj]
  · rw [List.getElem?_eq_none (by rw [List.length_take]; omega), List.getElem?_eq_none (by rw [List.length_replicate]; omega)]
/-- What is known of n by the walk: the first n are the same; n stops where it may not go on. -/
theorem bsame_stop {b : List UInt8} {n : Nat} (h1 : 1 ≤ n) (h2 : n ≤ b.length) (h3 : n ≤ 130) (hs : ∀ j, j < n → b[j]? = some (b.headD 0)) (he : n = 130 ∨ n = b.length ∨ ∃ h : n < b.length, b[n] ≠ b.headD 0) : bsame b = n := by
  rcases Nat.lt_trichotomy (bsame b) n with h | h | h
  · have hb := bsame_next (b := b) (by omega) (by omega)
    have := hs (bsame b) h
    rw [List.getElem?_eq_getElem (by omega)] at this
    exact absurd (Option.some.inj this) hb
  · exact h
  · have hle := bsame_le b
    have h130 := bsame_130 b
    rcases he with he | he | ⟨hn, he⟩
    · omega
    · omega
    · have := bsame_all h
      rw [List.getElem?_eq_getElem hn] at this
      exact absurd (Option.some.inj this) he
/-- What has been laid down, and what waits. -/
def rnStep (s : List UInt8 × List UInt8) (x : Rn) : List UInt8 × List UInt8 := if x.n < 3 then (s.1, s.2 ++ List.replicate x.n x.c) else (s.1 ++ flush s.2 ++ [UInt8.ofNat (x.n - 3), x.c], [])
def rnAll (l : List Rn) : List UInt8 × List UInt8 := l.foldl rnStep ([], [])
theorem rnAll_snoc (l : List Rn) (x : Rn) : rnAll (l ++ [x]) = rnStep (rnAll l) x := by simp [rnAll]
theorem rn_fold : ∀ (k : Nat) (b : List UInt8) (s : List UInt8 × List UInt8), b.length = k → Lit s.2 b → ((rnL b).foldl rnStep s).1 ++ flush ((rnL b).foldl rnStep s).2 = s.1 ++ byB (s.2 ++ b) := by
  intro k
  induction k using Nat.strongRecOn with
  | _ k ih =>
    intro b s hk hl
    by_cases hb : b = []
    · subst hb
      rw [rnL_nil, List.foldl_nil, byB_flush hl (.inl rfl), byB_nil, List.append_nil]
    · have hp := bsame_pos hb
      have hle := bsame_le b
      rw [rnL_cons hb, List.foldl_cons]
      have hlt : (b.drop (bsame b)).length < k := by rw [List.length_drop]; omega
      by_cases h3 : bsame b < 3
      · have e : rnStep s (rnOf b hb) = (s.1, s.2 ++ b.take (bsame b)) := by
          unfold rnStep rnOf
          rw [if_pos h3, bsame_take]
        rw [e, ih _ hlt _ _ rfl (lit_more hl h3 hb)]
        simp only
        rw [List.append_assoc s.2, List.take_append_drop]
      · have e : rnStep s (rnOf b hb) = (s.1 ++ flush s.2 ++ [UInt8.ofNat (bsame b - 3), b.headD 0], []) := by
          unfold rnStep rnOf
          rw [if_neg h3]
        rw [e, ih _ hlt _ _ rfl (lit_nil _)]
        simp only
        rw [List.nil_append, byB_wait hl (by omega)]
        simp
theorem rn_done (b : List UInt8) : (rnAll (rnL b)).1 ++ flush (rnAll (rnL b)).2 = byB b := by
  have := rn_fold b.length b ([], []) rfl (lit_nil b)
  rw [List.nil_append, List.nil_append] at this
  exact this
theorem flush_len (l : List UInt8) : (flush l).length ≤ 2 * l.length := by
  generalize hn : l.length = n
  induction n using Nat.strongRecOn generalizing l with
  | _ n ih =>
    by_cases h : l = []
    · subst h; simp [flush_nil]
    · have hp := List.length_pos_iff.2 h
      have := ih (l.drop 128).length (by rw [List.length_drop]; omega) (l.drop 128) rfl
      rw [flush_step h, List.length_append, litB, List.length_cons, List.length_take]
      rw [List.length_drop] at this
      omega
/-- None of it grows beyond what so many rounds may bring. -/
theorem rnAll_len : ∀ (l : List Rn), (rnAll l).1.length + 2 * (rnAll l).2.length ≤ 262 * l.length := by
  intro l
  have : ∀ (l : List Rn) (s : List UInt8 × List UInt8), (l.foldl rnStep s).1.length + 2 * (l.foldl rnStep s).2.length ≤ s.1.length + 2 * s.2.length + 262 * l.length := by
    intro l
    induction l with
    | nil => intro s; simp
    | cons x r ih =>
      intro s
      rw [List.foldl_cons, List.length_cons]
      have h1 := ih (rnStep s x)
      have h2 : (rnStep s x).1.length + 2 * (rnStep s x).2.length ≤ s.1.length + 2 * s.2.length + 262 := by
        unfold rnStep
        have hx := x.most
        split
        · simp; omega
        · have := flush_len s.2
          simp; omega
      omega
  have h := this l ([], [])
  simpa [rnAll] using h
end Go.Proofs.YticfmphbhdkhoaaGreatDoor
namespace Go.Proofs.YticfmphbhdkhoaaGreatDoor
open Go Go.RowKit

/-- A byte as a value; bytes as cells. -/
def bv (b : UInt8) : Value := .int .u8 (b.toNat : Int)
def bvs (l : List UInt8) : List Value := l.map bv
theorem bvs_length (l : List UInt8) : (bvs l).length = l.length := by simp [bvs]
theorem bvs_length1 (l : List UInt8) : (bvs l).length = l.length * 1 := by simp [bvs]
theorem bvs_one (l : List UInt8) : ∀ u ∈ bvs l, u.oneCell' = true := by
  intro u hu
  simp only [bvs, List.mem_map] at hu
  obtain ⟨b, _, rfl⟩ := hu
  rfl
theorem bvs_append (l m : List UInt8) : bvs (l ++ m) = bvs l ++ bvs m := by simp [bvs]
theorem bvs_get (l : List UInt8) (j : Nat) (h : j < l.length) : (bvs l)[j]? = some (.int .u8 ((l[j]'h).toNat : Int)) := by simp [bvs, bv, h]
theorem bvs_css (l : List UInt8) : (l.map fun b => [bv b]).flatten = bvs l := by
  induction l with
  | nil => rfl
  | cons b l ih => simp only [List.map_cons, List.flatten_cons, ih, bvs]; rfl
theorem reps_u8 (F : Nat → Prop) (w : World) (l : List UInt8) : Reps tU8 F w (l.map fun b => [bv b]) l := by
  refine ⟨by simp, fun i cs x h1 h2 => ?_⟩
  rw [List.getElem?_map, h2] at h1
  simp at h1
  exact h1.symm
theorem reps_u8_eq {F : Nat → Prop} {w : World} {css : List (List Value)} {l : List UInt8} (h : Reps tU8 F w css l) : css = l.map fun b => [bv b] := by
  refine List.ext_getElem? fun i => ?_
  rcases Nat.lt_or_ge i l.length with hi | hi
  · have hc : i < css.length := by rw [h.1]; exact hi
    have := h.2 i _ _ (List.getElem?_eq_getElem hc) (List.getElem?_eq_getElem hi)
    rw [List.getElem?_eq_getElem hc, List.getElem?_map, List.getElem?_eq_getElem hi, show css[i] = [bv l[i]] from this]
    rfl
  · rw [List.getElem?_eq_none (by rw [h.1]; exact hi), List.getElem?_eq_none (by simpa using hi)]

theorem infoByte : (Tryz.prog.info? 5).map (fun i => (i.zero, i.size, i.bytes)) = some (some (.int .u8 0), 1, 1) := by kernel_rfl
theorem elemBytes : ElemOf Tryz.prog 37 5 1 := ElemOf.mk' (by kernel_rfl) infoByte rfl (by decide) (by decide)
theorem undBytes : Tryz.prog.underlying 37 = some (.slice 5) := by kernel_rfl
theorem undInt : Tryz.prog.underlying 3 = some (.int .i64) := by kernel_rfl

/-- A slice of bytes that is read. -/
abbrev Bs (F : Nat → Prop) (w : World) (A : Option Addr) (n c : Nat) (bs : List UInt8) : Prop := Sl tU8 F w A n c bs
section
variable {F F' : Nat → Prop} {w w' : World} {A : Option Addr} {n c B : Nat} {l : List UInt8}
theorem bs_rd (h : Bs F w A n c l) : Rd F w A (bvs l) := by
  obtain ⟨_, _, _, css, h4, h5⟩ := h
  rw [reps_u8_eq h5, bvs_css] at h4
  exact h4
theorem bs_mk (h1 : Rd F w A (bvs l)) (h2 : n = l.length) (h3 : n ≤ c) (h4 : c ≤ maxLen) : Bs F w A n c l := ⟨h2, h3, h4, _, by rw [bvs_css]; exact h1, reps_u8 F w l⟩
theorem bs_at (h : Bs F w A n c l) {k : Nat} (hk : k < l.length) : ∃ b o, A = some ⟨b, o, none⟩ ∧ F b ∧ b < w.heap.size ∧ w.cell? ⟨b, o + k, none⟩ = some (.int .u8 ((l[k]'hk).toNat : Int)) :=
  (bs_rd h).at_ (bvs_get l k hk)

/-- The bytes bs, owned by a row from block B on. -/
def OwnB (w : World) (B : Nat) (A : Option Addr) (n c : Nat) (bs : List UInt8) : Prop := w.ownsRow B 5 1 (.slice A n c) n (bvs bs)
theorem OwnB.len (h : OwnB w B A n c l) : n = l.length := by
  have := h.1; simp [bvs] at this; exact this.symm
theorem OwnB.nil_ (w : World) (B : Nat) : OwnB w B none 0 0 [] := World.ownsRow_nil w B _ _
theorem OwnB.down (h : OwnB w B A n c l) {B' : Nat} (hB : B' ≤ B) : OwnB w B' A n c l := own_down h hB
theorem OwnB.rd (h : OwnB w B A n c l) : Rd (fun b => A = some ⟨b, 0, none⟩ ∧ B ≤ b) w A (bvs l) := Rd.own h
theorem OwnB.bs (h : OwnB w B A n c l) : Bs (fun b => A = some ⟨b, 0, none⟩ ∧ B ≤ b) w A n c l := bs_mk h.rd h.len (own_cap h).1 (own_cap h).2
theorem OwnB.ownF (h : OwnB w B A n c l) (hA : ∀ b o, A = some ⟨b, o, none⟩ → ¬ F b) : OwnF tU8 5 F w B A n c l := ⟨⟨_, by rw [bvs_css]; exact h, reps_u8 _ w l⟩, hA, h.len⟩
theorem OwnB.own (h : OwnB w B A n c l) : OwnF tU8 5 (fun _ => False) w B A n c l := h.ownF (by simp)
theorem OwnB.keepB (h : OwnB w B A n c l) (hb : Below w.heap.size w w') : OwnB w' B A n c l := own_keep h fun b hb' => hb.block b (h.lt b hb').2
end
theorem own_u8 {w : World} {B : Nat} {A : Option Addr} {n c : Nat} {l : List UInt8} (h : Own tU8 5 w B A n c l) : OwnB w B A n c l := by
  obtain ⟨F, ⟨css, h1, h3⟩, _, _⟩ := h
  rw [reps_u8_eq h3, bvs_css] at h1
  exact h1

/-- []byte(s). -/
def sbCap (w : World) (s : ByteArray) : Nat := grownCap w s.size 0 5
def sbObj (w : World) (s : ByteArray) : Obj := .cells (bytesRow s (sbCap w s)) 5 ((bytesRow s (sbCap w s)).size, (bytesRow s (sbCap w s)).size + 1)
theorem undString : Tryz.prog.underlying 9 = some .string := by kernel_rfl
theorem undByte : Tryz.prog.underlying 5 = some (.int .u8) := by kernel_rfl
theorem run_sb (w : World) (s : ByteArray) : (convert 9 37 (.string s)).run Tryz.prog w = .ok (.slice (some ⟨w.heap.size, 0, none⟩) s.size (sbCap w s)) (w.alloc (sbObj w s)).drew :=
  run_bytes_of_string w 9 37 5 s undString undBytes undByte
theorem sb_cap (w : World) (s : ByteArray) (hs : s.size ≤ maxLen) : s.size ≤ sbCap w s ∧ sbCap w s ≤ maxLen := ⟨grownCap_ge w s.size 0 5, grownCap_le_maxLen w _ _ _ hs⟩
theorem sb_bs {w w0 : World} {s : ByteArray} (hs : s.size ≤ maxLen) : Bs (fun b => b = w.heap.size) (w.alloc (sbObj w0 s)) (some ⟨w.heap.size, 0, none⟩) s.size (sbCap w0 s) s.data.toList := by
  refine bs_mk (fun _ => ⟨w.heap.size, 0, rfl, rfl, by rw [World.size_alloc]; omega, fun j u hu => ?_⟩) (show s.data.size = s.data.toList.length from Array.length_toList.symm) (sb_cap w0 s hs).1 (sb_cap w0 s hs).2
  have hj : j < s.data.size := by
    rcases Nat.lt_or_ge j s.data.size with h | h
    · exact h
    · rw [List.getElem?_eq_none (by simpa [bvs] using h)] at hu; cases hu
  rw [bvs_get _ _ (by simpa using hj)] at hu
  rw [Nat.zero_add, cell_of_row (w.alloc (sbObj w0 s)) w.heap.size j _ _ _ (heap_alloc_new w _), ← hu]
  unfold bytesRow
  rw [Array.getElem?_append_left (by simpa using hj), Array.getElem?_map, Array.getElem?_eq_getElem hj]
  simp

theorem sb_bsA {w w0 : World} {s : ByteArray} {k : Nat} (hs : s.size ≤ maxLen) (hk : k = w.heap.size) : Bs (fun _ => True) (w.alloc (sbObj w0 s)) (some ⟨k, 0, none⟩) s.size (sbCap w0 s) s.data.toList := by
  subst hk; exact (sb_bs hs).any

section
variable (w a0 : World) {ops : Array Oper} {rest : List Oper} {o : Oper} {a : Act} {Q : Exit → Act → World → Prop}
/-- append(b, c...) at bytes. -/
theorem wp_apb {K : Act → World → Prop} (s x : Operand) (ho : o.op = .call { callee := .builtin .append, args := #[s, x], argTypes := #[37, 37] }) (B : Nat) (A : Option Addr) (n c : Nat) (xs : List UInt8) (hs : a.eval s = .slice A n c)
    (hown : OwnB w B A n c xs) (hb : Below B a0 w) (hB : B ≤ a0.heap.size) (F : Nat → Prop) (A2 : Option Addr) (m c2 : Nat) (ys : List UInt8) (hx : a.eval x = .slice A2 m c2) (hsl : Bs F w A2 m c2 ys) (hlim : n + m ≤ 68719476736)
    (h : ∀ A' c' w', OwnB w' B A' (n + m) c' (xs ++ ys) → Below B a0 w' → w.grownBy w' (A.map (·.block)) → K (a.put o.dst (.slice A' (n + m) c')) w') : o.wp Tryz.prog a w K Q := by
  obtain ⟨h5, h6, h7, dss, h8, h9⟩ := hsl
  exact wp_aplR (T := tU8) elemBytes w a0 s x ho B A n c xs hs (fun _ => False) F (fun _ => False) hown.own hb hB A2 m c2 ys dss hx h5 h8 (h9.flat' flatU8) (fun _ _ _ _ h => h) hlim fun A' c' w' ha => h A' c' w' (own_u8 ⟨_, ha.own⟩) ha.below ha.grown
theorem apb (hgd : o.guard = none) (s x : Operand) (ho : o.op = .call { callee := .builtin .append, args := #[s, x], argTypes := #[37, 37] }) (B : Nat) (A : Option Addr) (n c : Nat) (xs : List UInt8) (hs : a.eval s = .slice A n c)
    (hown : OwnB w B A n c xs) (hb : Below B a0 w) (hB : B ≤ a0.heap.size) (F : Nat → Prop) (A2 : Option Addr) (m c2 : Nat) (ys : List UInt8) (hx : a.eval x = .slice A2 m c2) (hsl : Bs F w A2 m c2 ys) (hlim : n + m ≤ 68719476736)
    (h : ∀ A' c' w', OwnB w' B A' (n + m) c' (xs ++ ys) → Below B a0 w' → w.grownBy w' (A.map (·.block)) → wpList Tryz.prog ops Q rest (a.put o.dst (.slice A' (n + m) c')) w') : wpList Tryz.prog ops Q (o :: rest) a w :=
  wpList_plain hgd fun _ hK => wp_apb w a0 s x ho B A n c xs hs hown hb hB F A2 m c2 ys hx hsl hlim fun A' c' w' h1 h2 h3 => hK _ _ (h A' c' w' h1 h2 h3)
/-- append(b, c) at bytes. -/
theorem wp_apb1 {K : Act → World → Prop} (s x : Operand) (ho : o.op = .call { callee := .builtin .append, args := #[s, x], argTypes := #[37, 37] }) (B : Nat) (A : Option Addr) (n c : Nat) (xs : List UInt8) (hs : a.eval s = .slice A n c)
    (hown : OwnB w B A n c xs) (hb : Below B a0 w) (hB : B ≤ a0.heap.size) (obj : Obj) (hx : a.eval x = .slice (some ⟨w.heap.size, 0, none⟩) 1 1) (y : UInt8) (hobj : obj = .cells #[.int .u8 (y.toNat : Int)] 5) (hlim : n ≤ 34359738368)
    (h : ∀ A' c' w', OwnB w' B A' (n + 1) c' (xs ++ [y]) → Below B a0 w' → (w.alloc obj).grownBy w' (A.map (·.block)) → K (a.put o.dst (.slice A' (n + 1) c')) w') : o.wp Tryz.prog a (w.alloc obj) K Q :=
  wp_apl1 (T := tU8) elemBytes w a0 s x ho B A n c xs hs (fun _ => False) (fun _ => False) hown.own hb hB obj hx [.int .u8 (y.toNat : Int)] y rfl 5 hobj (fun _ _ _ _ h => h) hlim fun A' c' w' ha => h A' c' w' (own_u8 ⟨_, ha.own⟩) ha.below ha.grown
theorem apb1 (hgd : o.guard = none) (s x : Operand) (ho : o.op = .call { callee := .builtin .append, args := #[s, x], argTypes := #[37, 37] }) (B : Nat) (A : Option Addr) (n c : Nat) (xs : List UInt8) (hs : a.eval s = .slice A n c)
    (hown : OwnB w B A n c xs) (hb : Below B a0 w) (hB : B ≤ a0.heap.size) (obj : Obj) (hx : a.eval x = .slice (some ⟨w.heap.size, 0, none⟩) 1 1) (y : UInt8) (hobj : obj = .cells #[.int .u8 (y.toNat : Int)] 5) (hlim : n ≤ 34359738368)
    (h : ∀ A' c' w', OwnB w' B A' (n + 1) c' (xs ++ [y]) → Below B a0 w' → (w.alloc obj).grownBy w' (A.map (·.block)) → wpList Tryz.prog ops Q rest (a.put o.dst (.slice A' (n + 1) c')) w') : wpList Tryz.prog ops Q (o :: rest) a (w.alloc obj) :=
  wpList_plain hgd fun _ hK => wp_apb1 w a0 s x ho B A n c xs hs hown hb hB obj hx y hobj hlim fun A' c' w' h1 h2 h3 => hK _ _ (h A' c' w' h1 h2 h3)
end

/-- What a call of the pure part leaves, whose result is bytes of its own. -/
def Own1 (w : World) (bs : List UInt8) (e : Ending) (w' : World) : Prop :=
  ∃ A n c, e = .returned (.slice A n c) ∧ OwnB w' w.heap.size A n c bs ∧ Below w.heap.size w w'
end Go.Proofs.YticfmphbhdkhoaaGreatDoor
namespace Go.Proofs.YticfmphbhdkhoaaGreatDoor
open Go Go.RowKit

/-- append(nil, make([]E, n)...): a row of zeroes of its own. -/
theorem run_append_make {P : Program} {t tn e : TypeId} {size : Nat} (E : ElemOf P t e size) (htn : P.underlying tn = some (.int .i64)) (ty : TypeId) (w : World) (k : Nat) (h0 : 0 < k) (hk : k ≤ 4294967296) :
    ∃ cap w', (Builtin.append_ #[t, tn] ty #[.slice none 0 0, .int .i64 (k : Int)]).run P w = .ok (.slice (some ⟨w.heap.size, 0, none⟩) k cap) w' ∧ k ≤ cap ∧ w'.ownsRow w.heap.size e size (.slice (some ⟨w.heap.size, 0, none⟩) 0 cap) 0 [] ∧ Below w.heap.size w w' := by
  obtain ⟨ht, i, z, hi, hz, hs, hby, hzs, hsz⟩ := E
  have hcap : ∀ w : World, k ≤ grownCap w (0 + k) 0 e ∧ grownCap w (0 + k) 0 e ≤ maxLen := fun w => by
    have h1 := grownCap_ge w (0 + k) 0 e
    exact ⟨by omega, grownCap_le_maxLen w _ _ e (by simp only [maxLen]; omega)⟩
  have hb : k * i.bytes ≤ 4294967296 * 1024 := Nat.mul_le_mul hk hby
  have hfit : Builtin.nextslicecap (0 + k) 0 * i.bytes ≤ 281474976710656 := by
    have h1 : 0 < 0 + k := by omega
    exact growslice_fits h1 (by rw [Nat.zero_add]; omega)
  have h := Lib.run_append_grow_zeros (P := P) w t tn ty e i z .i64 .i64 ht htn hi hz none 0 0 [] (by simp [Builtin.firstCells]) k h0 (by omega) (by omega) (by omega) (by omega) hfit
  simp only [Nat.zero_add] at h hcap
  have hc := hcap w
  refine ⟨grownCap w k 0 e, _, h, hc.1, ⟨by simp, .inr ⟨w.heap.size, _, _, rfl, Nat.le_refl _, heap_alloc_new w.drew _, Nat.zero_le _, hc.2, ?_, by simp⟩⟩, ((Below.refl _ w).drew).alloc (by simp) _⟩
  have hz' : ∀ m, (Builtin.zeroCells z.cells m).size = m * size := fun m => by simp [Builtin.zeroCells, hzs]
  simp only [Array.size_append, hz']
  rw [show (([] : List Value).toArray).size = 0 from rfl, Nat.zero_add, ← Nat.add_mul]
  congr 1
  omega

/-! []uint8 -/
theorem ssB : Tryz.prog.underlying 178 = some (.slice 37) := by kernel_rfl
set_option maxRecDepth 100000 in
set_option maxHeartbeats 400000 in
theorem growB_nil {size : Nat} (E : ElemOf Tryz.prog 37 5 size) (n : Nat) (w : World) (hn : n ≤ 4294967296) :
    Calls Tryz.prog 156 #[.slice none 0 0, .int .i64 (n : Int)] w fun e w' => ∃ A c, e = .returned (.slice A 0 c) ∧ w'.ownsRow w.heap.size 5 size (.slice A 0 c) 0 [] ∧ Below w.heap.size w w' := by
  rcases Nat.eq_zero_or_pos n with rfl | h0
  · go_enter Tryz.func156, Tryz.ntmps156
    go_wp2
    go_ret
    exact ⟨none, 0, rfl, World.ownsRow_nil _ _ _ _, Below.refl _ _⟩
  · obtain ⟨cap, w', hrun, hc, hown, hb⟩ := run_append_make E undInt 37 w n h0 hn
    have h0' : (0 : Int) < (n : Int) := by omega
    have hcap := (own_cap hown).2
    unfold maxLen at hcap
    go_enter Tryz.func156, Tryz.ntmps156
    go_wp2_with (at_builtin; refine Lib.wpList_append_run _ rfl _ _ _ _ rfl _ _ rfl rfl _ _ hrun ?_)
    go_ret
    exact ⟨_, cap, rfl, hown, hb⟩
def totB {α : Type} (l : List (List α)) (k : Nat) : Nat := (l.take k).flatten.length
theorem totB_succ {α : Type} (l : List (List α)) (k : Nat) (h : k < l.length) : totB l (k + 1) = totB l k + (l[k]'h).length := by
  unfold totB
  rw [List.take_succ_eq_append_getElem h, List.flatten_append]
  simp only [List.length_append, List.flatten_cons, List.flatten_nil, List.append_nil]
theorem totB_zero {α : Type} (l : List (List α)) : totB l 0 = 0 := by simp [totB]
theorem totB_le {α : Type} (l : List (List α)) (k : Nat) : totB l k ≤ l.flatten.length := by
  unfold totB
  rw [show l.flatten = (l.take k).flatten ++ (l.drop k).flatten by rw [← List.flatten_append, List.take_append_drop]]
  simp
set_option maxRecDepth 100000 in
set_option maxHeartbeats 1000000 in
theorem concatB_any {α : Type} {T : Ty α} (E : ElemOf Tryz.prog 37 5 T.size) (F : Nat → Prop) (A : Option Addr) (n c : Nat) (l : List (List α)) (w : World) (h : Sl (tSl T) F w A n c l) (hn : n ≤ 4294967296) (hl : l.flatten.length ≤ 4294967296) :
    Calls Tryz.prog 125 #[.slice A n c] w fun e w' => ∃ A' n' c', e = .returned (.slice A' n' c') ∧ Own T 5 w' w.heap.size A' n' c' l.flatten ∧ Below w.heap.size w w' := by
  have HL := Lib.hid h.len
  have hle := totB_le l
  go_enter Tryz.func125, Tryz.ntmps125
  go_wp2
  go_loop [3, 11] (fun s i => ∃ k : Nat, k ≤ n ∧ i = .int .i64 k ∧ s = .int .i64 (totB l k : Nat)) (fun _ i => n - (intOf i).toNat)
  case atStart => exact ⟨0, Nat.zero_le _, rfl, rfl⟩
  case round =>
    obtain ⟨k, hk, rfl, rfl⟩ := hrel
    have h1 := hle k
    by_cases hlt : k < n
    · have h2 := hle (k + 1)
      have hkl : k < l.length := by rw [← HL.out]; exact hlt
      have H3 := Lib.hid (totB_succ l k hkl)
      obtain ⟨b, o, u, rfl, _, _, hu, hc⟩ := h.at1 hkl rfl
      obtain ⟨Ak, nk, ck, hu, hsl⟩ := hu
      obtain rfl : u = .slice Ak nk ck := by simpa using hu
      have H4 := Lib.hid hsl.len
      have h5 : totB l k + nk = totB l (k + 1) := by rw [H3.out, H4.out]
      have h6 : totB l k + nk ≤ l.flatten.length := by rw [h5]; exact h2
      have H5 := Lib.hid h5; clear h5 hu
      go_wp2
      go_round
      case rel => exact ⟨k + 1, by omega, by go_num, by rw [← H5.out]; go_num⟩
      case measure => simp [intOf]; omega
    · obtain rfl : k = n := by omega
      have hF : ∃ F', Sl (tSl T) F' w A k c l ∧ ∀ b, F' b → b < w.heap.size := ⟨_, h.weaken (F' := fun b => F b ∧ b < w.heap.size) (fun b h1 h2 => ⟨h1, h2⟩), fun b h => h.2⟩
      obtain ⟨F', h', hF'⟩ := hF
      clear h
      have hz := totB_zero l
      have HZ := Lib.hid hz; clear hz
      go_wp2_with (go_at_call 156; refine (growB_nil E (totB l k) w (by omega)).mono ?_; rintro e w1 ⟨A1, c1, rfl, hown, hb⟩)
      go_loopw [6, 27] (fun v i wr => ∃ (j : Nat) (A2 : Option Addr) (m c2 : Nat) (G : Nat → Prop), j ≤ k ∧ i = .int .i64 j ∧ v = .slice A2 m c2 ∧ OwnF T 5 G wr w.heap.size A2 m c2 (l.take j).flatten ∧ Below w.heap.size w wr) (fun _ i _ => k - (intOf i).toNat)
      case atStart => exact ⟨0, A1, 0, c1, fun _ => False, Nat.zero_le _, rfl, rfl, ⟨⟨[], hown, Reps.nil_⟩, fun _ _ _ h => h, rfl⟩, hb⟩
      case round =>
        obtain ⟨j, A2, m, c2, G, hj, rfl, rfl, hown2, hb2⟩ := hrel
        have hj1 := hle j
        by_cases hlt2 : j < k
        · have hj2 := hle (j + 1)
          have hkl : j < l.length := by rw [← HL.out]; exact hlt2
          have H3 := Lib.hid (totB_succ l j hkl)
          have hwr := h'.below hb2 (Nat.le_refl _)
          obtain ⟨b, o, u, rfl, hFb, _, hu, hc⟩ := hwr.at1 hkl rfl
          obtain ⟨Ak, nk, ck, hu, hsl⟩ := hu
          obtain rfl : u = .slice Ak nk ck := by simpa using hu
          clear hu hwr
          have h6 : m + nk ≤ 4294967296 := by rw [hown2.len, hsl.len]; have := H3.out; unfold totB at *; omega
          have H7 := Lib.hid hown2; have H8 := Lib.hid hsl
          clear hown2 hsl
          go_wp2_with (at_builtin; refine apl E wr w rfl (.tmp 31) (.tmp 32) rfl w.heap.size A2 m c2 (l.take j).flatten rfl G F' H7.out hb2 (Nat.le_refl _) Ak nk ck l[j] rfl H8.out (fun b _ h1 _ h2 => by have := hF' b h2; omega) (by omega) ?_; intro A3 c3 w3 h3)
          go_roundw
          case rel =>
            have e1 : (l.take (j + 1)).flatten = (l.take j).flatten ++ l[j] := by
              rw [List.take_succ_eq_append_getElem hkl, List.flatten_append]; simp
            have e2 := h3.own
            rw [← e1] at e2
            exact ⟨j + 1, A3, m + nk, c3, _, by omega, by go_num, rfl, e2, h3.below⟩
          case measure => simp [intOf]; omega
        · obtain rfl : j = k := by omega
          go_wp2
          go_ret
          refine ⟨A2, m, c2, rfl, ⟨G, ?_⟩, hb2⟩
          have e1 : l.take j = l := List.take_of_length_le (by rw [← HL.out]; exact Nat.le_refl _)
          rw [e1] at hown2
          exact hown2
end Go.Proofs.YticfmphbhdkhoaaGreatDoor
