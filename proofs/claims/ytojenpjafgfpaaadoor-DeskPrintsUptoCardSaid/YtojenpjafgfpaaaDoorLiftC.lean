/- What the lifts of all laws of this seat share. -/
import Derived.Test.YtojenpjafgfpaaaDoorReads2
import Derived.Carry
import Derived.Deep.DeepHandedRow
import Derived.Lib.LaidTab
import Derived.Stop.LaidErr
namespace Go.Proofs.YtojenpjafgfpaaaDoor
open Go Go.RowKit Go.ChangeShapes Go.WideShapes Go.ChangeAt Go.Deep

theorem evLen_one (e : EE) : evLen (oneE e) ≤ evLen e := by
  have hr : ∀ (l : List VV) (k : Nat), rowLen (l.take k) ≤ rowLen l := by
    intro l
    induction l with
    | nil => intro k; simp
    | cons v r ih => intro k; cases k with
      | zero => simp only [List.take_zero, rowLen]; have := rowLen_pos r; omega
      | succ k => simp only [List.take_succ_cons, rowLen]; have := ih k; omega
  have hrs : ∀ (l : List (List VV)) (k : Nat), rowsLen ((l.take k).map (·.take 8)) ≤ rowsLen l := by
    intro l
    induction l with
    | nil => intro k; simp [rowsLen]
    | cons v r ih => intro k; cases k with
      | zero => simp [rowsLen]
      | succ k => simp only [List.take_succ_cons, List.map_cons, rowsLen]; have := ih k; have := hr v 8; omega
  have hps : ∀ (l : List PP) (k : Nat), predLen ((l.take k).map oneP) ≤ predLen l := by
    intro l
    induction l with
    | nil => intro k; simp [predLen]
    | cons v r ih => intro k; cases k with
      | zero => simp [predLen]
      | succ k =>
        simp only [List.take_succ_cons, List.map_cons, predLen]
        have := ih k; have := hr v.vals 8
        have h2 : nodeLen (oneP v) ≤ nodeLen v := by simp only [nodeLen, oneP, List.length_take]; omega
        omega
  have h1 := hrs e.rows 12
  have h2 := hps e.pred 12
  simp only [evLen, oneE, List.length_take]; omega
theorem evsLen_few (l : List EE) : evsLen (fewE l) ≤ evsLen l := by
  have h : ∀ (l : List EE) (k : Nat), evsLen ((l.take k).map oneE) ≤ evsLen l := by
    intro l
    induction l with
    | nil => intro k; simp [evsLen]
    | cons v r ih => intro k; cases k with
      | zero => simp [evsLen]
      | succ k => simp only [List.take_succ_cons, List.map_cons, evsLen]; have := ih k; have := evLen_one v; omega
  exact h l 30

theorem own : ownKnob Tryd.prog.godebug = none := by kernel_rfl
theorem laidOut : laidOutB Tryd.prog = true := by kernel_rfl
theorem shaped_mx (W : World) (h : W.ShapedOpen Tryd.prog) : ∃ m, W.cell? ⟨0, 0, none⟩ = some (.int .i64 m) :=
  Go.Proofs.cell_of_shapedOpen_int (zero := #[.int .i64 0]) (t := 3) h (of_decide_eq_true (by kernel_rfl)) (by kernel_rfl) rfl (by kernel_rfl) (by kernel_rfl) Tryd.underlying3

/-- A world for the witness: the settled one, the three tables laid. -/
def valOf : DataW Unit → Value
  | .lit (.int k n) => .int k n
  | _ => .bool false
def cellsAt : DataW Unit → Array Value
  | .agg ps => (ps.map valOf).toArray
  | _ => #[]
def lay (cs : Array Value) : Obj → Obj
  | .cells _ t frozen => .cells cs t frozen
  | o => o
end Go.Proofs.YtojenpjafgfpaaaDoor
