/- The layer desk: Show. -/
import Derived.Test.YtojenpjafgfpaaaDoorShow1
namespace Go.Proofs.YtojenpjafgfpaaaDoor
open Go Go.RowKit
attribute [local go_sem ↓] Go.wp_at_zero Go.wp_at_succ

def keyedW (x : KD) : Nat := 3 * rowLen x.row + 200
def keyedsW : List KD → Nat
  | [] => 0
  | x :: r => keyedW x + keyedsW r
def ansW (a : AA) : Nat := keyedsW a.rows + 40 * a.list.except.length + 400
def answersW : List AA → Nat
  | [] => 0
  | a :: r => ansW a + answersW r
theorem keyedsW_get : ∀ (l : List KD) (k : Nat) (h : k < l.length), keyedW (l[k]'h) ≤ keyedsW l
  | v :: r, 0, _ => by simp only [keyedsW, List.getElem_cons_zero]; omega
  | v :: r, k + 1, h => by have := keyedsW_get r k (by simpa using h); simp only [keyedsW, List.getElem_cons_succ]; omega
theorem answersW_get : ∀ (l : List AA) (k : Nat) (h : k < l.length), ansW (l[k]'h) ≤ answersW l
  | v :: r, 0, _ => by simp only [answersW, List.getElem_cons_zero]; omega
  | v :: r, k + 1, h => by have := answersW_get r k (by simpa using h); simp only [answersW, List.getElem_cons_succ]; omega
theorem keyedsW_count : ∀ l : List KD, l.length ≤ keyedsW l
  | [] => by simp
  | v :: r => by have := keyedsW_count r; simp only [keyedsW, keyedW, List.length_cons]; omega
def lens (e : Nat) : List (List UInt8) → Nat
  | [] => 0
  | x :: r => x.length + e + lens e r
theorem join_sum (sep : List UInt8) : ∀ l : List (List UInt8), (Lib.join l sep).length ≤ lens sep.length l
  | [] => by simp [Lib.join_nil]
  | [x] => by rw [Lib.join_one]; simp [lens]
  | x :: y :: r => by
    have ih := join_sum sep (y :: r)
    have e : Lib.join (x :: y :: r) sep = x ++ sep ++ Lib.join (y :: r) sep := by simp [Lib.join, List.intercalate]
    rw [e]
    simp only [lens, List.length_append] at ih ⊢
    omega
theorem toldOf_len (x : KD) (h : x.key.ok) : (toldOf x).length ≤ keyedW x - 100 := by
  have h1 := toldKey_len x.key h
  have h2 := cellsOf_len x.row
  have h3 : toldOf x = jn [46] [x.key.id, x.key.bucket, x.key.row] ++ cellsOf x.row := rfl
  rw [h3, List.length_append]
  unfold keyedW; omega
theorem tolds_len : ∀ l : List KD, (∀ x ∈ l, x.key.ok) → lens 1 (l.map toldOf) ≤ keyedsW l
  | [], _ => by simp [lens]
  | x :: r, h => by
    have ih := tolds_len r (fun y hy => h y (by simp [hy]))
    have h1 := toldOf_len x (h x (by simp))
    have : 200 ≤ keyedW x := by unfold keyedW; omega
    simp only [List.map_cons, lens, keyedsW]; omega
def AA.oks (a : AA) : Prop := i64 a.code ∧ i64 a.n ∧ i64 a.list.high ∧ (∀ x ∈ a.list.except, i64 x) ∧ (∀ x ∈ a.rows, x.key.ok)
theorem parts_len (a : AA) (h : a.oks) : (jn [32] [a.code, a.n]).length ≤ 62 ∧ (jn [32] (a.list.high :: a.list.except)).length ≤ 31 + 31 * a.list.except.length ∧ (Lib.join (a.rows.map toldOf) [32]).length ≤ keyedsW a.rows := by
  obtain ⟨h1, h2, h3, h4, h5⟩ := h
  refine ⟨jn3_len [32] (by simp) [a.code, a.n] (fun x hx => by simp at hx; rcases hx with rfl | rfl <;> assumption), ?_, Nat.le_trans (join_sum [32] _) (tolds_len _ h5)⟩
  have := jn3_len [32] (by simp) (a.list.high :: a.list.except) (fun x hx => by rcases List.mem_cons.1 hx with rfl | hx; exact h3; exact h4 x hx)
  simp only [List.length_cons] at this
  omega
theorem partsA_len (a : AA) (h : a.oks) : (Lib.join (partsA a) [124]).length ≤ ansW a - 1 := by
  have h1 := parts_len a h
  have h2 := join_sum [124] (partsA a)
  unfold partsA at *
  simp only [lens, List.length_cons, List.length_nil] at h2
  unfold ansW
  omega
theorem showA_len (a : AA) (h : a.oks) : (showA a).length ≤ ansW a := by
  have := partsA_len a h
  unfold showA
  rw [List.length_append]
  have : 1 ≤ ansW a := by unfold ansW; omega
  simp; omega
theorem showOf_snoc (l : List AA) (a : AA) : showOf (l ++ [a]) = showOf l ++ showA a := by simp [showOf]
theorem showOf_len : ∀ l : List AA, (∀ a ∈ l, a.oks) → (showOf l).length ≤ answersW l
  | [], _ => by simp [showOf]
  | a :: r, h => by
    have ih := showOf_len r (fun b hb => h b (by simp [hb]))
    have h1 := showA_len a (h a (by simp))
    have e : showOf (a :: r) = showA a ++ showOf r := rfl
    rw [e, List.length_append]
    simp only [answersW]; omega
theorem answersW_take (l : List AA) (k : Nat) : answersW (l.take k) ≤ answersW l := by
  induction l generalizing k with
  | nil => simp
  | cons v r ih =>
    cases k with
    | zero => simp [answersW]
    | succ k => simp only [List.take_succ_cons, answersW]; have := ih k; omega
/-- What is read is as it should be. -/
theorem sl_mem {α : Type} {T : Ty α} {F : Nat → Prop} {w : World} {A : Option Addr} {n c : Nat} {xs : List α} (h : Sl T F w A n c xs) (hs : 0 < T.size) {x : α} (hx : x ∈ xs) : ∃ cs, T.rep F w cs x := by
  obtain ⟨i, hi, rfl⟩ := List.getElem_of_mem hx
  obtain ⟨_, _, cs, _, _, _, hr, _⟩ := h.at_ hi hs
  exact ⟨cs, hr⟩
theorem aa_oks {F : Nat → Prop} {w : World} {cs : List Value} {a : AA} (h : tAA.rep F w cs a) : a.oks := by
  obtain ⟨A1, n1, c1, A2, n2, c2, _, h1, h2, h3, h4, h5⟩ := h
  refine ⟨h1, h2, h3, fun x hx => ?_, fun x hx => ?_⟩
  · obtain ⟨_, hr⟩ := sl_mem h5 (by decide) hx; exact hr.2
  · obtain ⟨_, _, _, _, _, hk, _⟩ := sl_mem h4 (by decide) hx; exact hk
/-- The operation that stands is an append of these two: for an arm to fail fast elsewhere. -/
theorem at_app {P : Program} {ops : Array Oper} {o : Oper} {a : Act} {w : World} {Q : Exit → Act → World → Prop} {K : Act → World → Prop} {E' : Prop} (s x : Operand) (t : TypeId) (_ : o.op = .call { callee := .builtin .append, args := #[s, x], argTypes := #[t, t] })
    (h : if Region.wanted o (yielded ops a.tmps) = true then Oper.wp P o a w K Q else E') : if Region.wanted o (yielded ops a.tmps) = true then Oper.wp P o a w K Q else E' := h
/-- A list of one number, of two, laid into a block of its own. -/
theorem lit1 (X : World) (x : Int) (hx : i64 x) (p : Nat) (hp : p = X.heap.size) : OwnF tI64 3 (fun _ => False) (X.alloc (.cells #[.int .i64 x] 3)) 0 (some ⟨p, 0, none⟩) 1 1 [x] := by
  subst hp
  exact (OwnF.newL (T := tI64) (F := fun _ => True) (w := X) (e := 3) (n := 1) (Reps.mk1 ⟨rfl, hx⟩) (Nat.zero_le _) rfl (by omega) (.cells #[.int .i64 x] 3) rfl).flat flatI64
theorem lit2 (X : World) (x y : Int) (hx : i64 x) (hy : i64 y) (p : Nat) (hp : p = X.heap.size) : Sl tI64 (fun b => b = p) (X.alloc (.cells #[.int .i64 x, .int .i64 y] 3)) (some ⟨p, 0, none⟩) 2 2 [x, y] := by
  subst hp
  exact (Sl.news (T := tI64) (F := fun _ => False) (w := X) (Reps.mk2 ⟨rfl, hx⟩ ⟨rfl, hy⟩) 3 2 rfl (by omega) (.cells #[.int .i64 x, .int .i64 y] 3) rfl).weaken fun b hb _ => by
    rcases hb with hb | hb
    · exact hb.1.elim
    · exact hb
end Go.Proofs.YtojenpjafgfpaaaDoor
