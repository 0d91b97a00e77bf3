/- DeskLines: the row's step: from the readings to the walk. -/
import Derived.Test.YtojenpjafgfpaaaDoorReads2
import Derived.Carry
import Derived.Deep.DeepHandedRow
import Derived.Lib.LaidTab
import Derived.Stop.LaidErr
namespace Go.Proofs.YtojenpjafgfpaaaDoor.deskLines
open Go Go.RowKit Go.ChangeShapes Go.WideShapes Go.ChangeAt Go.Deep

theorem evLen_one (e : EE) : evLen (oneE e) ≤ evLen e := by
  have hr : ∀ (l : List VV) (k : Nat), rowLen (l.take k) ≤ rowLen l := by
    intro l
    induction l with
    | nil => intro k; simp
    | cons v r ih => intro k; cases k with
      | zero => simp only [List.take_zero, rowLen]; have := rowLen_pos r; omega
      | succ k => simp only [List.take_succ_cons, rowLen]; have := ih k; omega
  have hrs : ∀ (l : List (List VV)) (k : Nat), rowsLen ((l.take k).map (·.take 8)) ≤ rowsLen l := by
    intro l
    induction l with
    | nil => intro k; simp [rowsLen]
    | cons v r ih => intro k; cases k with
      | zero => simp [rowsLen]
      | succ k => simp only [List.take_succ_cons, List.map_cons, rowsLen]; have := ih k; have := hr v 8; omega
  have hps : ∀ (l : List PP) (k : Nat), predLen ((l.take k).map oneP) ≤ predLen l := by
    intro l
    induction l with
    | nil => intro k; simp [predLen]
    | cons v r ih => intro k; cases k with
      | zero => simp [predLen]
      | succ k =>
        simp only [List.take_succ_cons, List.map_cons, predLen]
        have := ih k; have := hr v.vals 8
        have h2 : nodeLen (oneP v) ≤ nodeLen v := by simp only [nodeLen, oneP, List.length_take]; omega
        omega
  have h1 := hrs e.rows 12
  have h2 := hps e.pred 12
  simp only [evLen, oneE, List.length_take]; omega
theorem evsLen_few (l : List EE) : evsLen (fewE l) ≤ evsLen l := by
  have h : ∀ (l : List EE) (k : Nat), evsLen ((l.take k).map oneE) ≤ evsLen l := by
    intro l
    induction l with
    | nil => intro k; simp [evsLen]
    | cons v r ih => intro k; cases k with
      | zero => simp [evsLen]
      | succ k => simp only [List.take_succ_cons, List.map_cons, evsLen]; have := ih k; have := evLen_one v; omega
  exact h l 30

theorem own : ownKnob Tryd.prog.godebug = none := by kernel_rfl
theorem laidOut : laidOutB Tryd.prog = true := by kernel_rfl
theorem shaped_mx (W : World) (h : W.ShapedOpen Tryd.prog) : ∃ m, W.cell? ⟨0, 0, none⟩ = some (.int .i64 m) :=
  Go.Proofs.cell_of_shapedOpen_int (zero := #[.int .i64 0]) (t := 3) h (of_decide_eq_true (by kernel_rfl)) (by kernel_rfl) rfl (by kernel_rfl) (by kernel_rfl) Tryd.underlying3

theorem table {W : World} (h : laidMetH Tryd.prog Rows.deskLinesUptoRow.laid W) : Tab W := by
  unfold Tab
  exact Lib.tabIs_of_head (rest := []) (g := 1) (by kernel_rfl) (t := 143) (by kernel_rfl) (n := 20) (e := 78) (by kernel_rfl) (by kernel_rfl) (by kernel_rfl) (by kernel_rfl) (laidMet.tail (laidMet.tail h))

set_option maxRecDepth 100000 in
/-- WHAT THE WALK GIVES. -/
theorem contract (H : Type) (enc : TypeId × Value → H) (W : World) (args : Array Value) (ds gs : List (DataW H)) (before : List MemPlace) (base : Nat)
    (hval : ∀ (j : Nat) t v, Tryd.f5.params[j]? = some t → args[j]? = some v → Value.okWide Tryd.prog W .any base t v)
    (hW : DataW.Whole enc Tryd.prog Tryd.f5.params.toList Rows.deskLinesSpec.vars false W args.toList ds gs before) (hk : Rows.uptoSmall H (ds ++ gs) = true) (hL : laidMetH Tryd.prog Rows.deskLinesUptoRow.laid W) (hsh : W.ShapedOpen Tryd.prog) :
    Calls Tryd.prog 5 args W fun e W' => ∃ v, e = .returned v ∧ Rows.deskLinesSpec.post enc Tryd.prog Tryd.f5 false true false false W args v W' := by
  have hW' := hW
  obtain ⟨p, q, hA0, hV, rfl, hfz, hnd⟩ := hW
  have hA : DataW.TrodAll enc Tryd.prog W 0 (fun _ => true) true Tryd.f5.params.toList args.toList ds p := hA0
  rw [Tryd.params5] at hA hval
  obtain ⟨v0, vs0, d0, ds0, p0, q0, hargs, rfl, rfl, h0, r0⟩ := trodAll_cons hA
  obtain ⟨v1, vs1, d1, ds1, p1, q1, rfl, rfl, rfl, h1, r1⟩ := trodAll_cons r0
  obtain ⟨rfl, rfl, rfl⟩ := trodAll_nil r1
  obtain rfl : args = #[v0, v1] := by cases args; simp_all
  obtain ⟨rfl, rfl⟩ := trodVars_none hV
  clear hA0
  simp only [List.append_nil] at hW' hk
  have hlt : ∀ x ∈ p0 ++ p1, x.block < W.heap.size := fun x hx => by simpa using hW'.lt x hx
  have hb : Rows.uptoBulkAll [d0, d1] ≤ 1048576 := of_decide_eq_true hk
  simp only [Rows.uptoBulkAll] at hb
  obtain ⟨fu0, hf0⟩ := h0
  obtain ⟨fu1, hf1⟩ := h1
  have hf0' := hf0
  have hf1' := hf1
  obtain ⟨l, ⟨A, n, c, e0, s0⟩, b0⟩ := rd_EEs H enc W fu0 _ _ _ hf0
  obtain ⟨al, ⟨A', n', c', e1, s1⟩, b1⟩ := rd_AAs H enc W fu1 _ _ _ hf1
  dsimp only at b0 b1
  rw [msum_evs] at b0
  rw [msum_ans] at b1
  obtain ⟨a0, len0, cap0, rfl⟩ := okWide_slice Tryd.underlying22 (hval 0 22 v0 rfl rfl)
  obtain ⟨a1, len1, cap1, rfl⟩ := okWide_slice Tryd.underlying23 (hval 1 23 v1 rfl rfl)
  have e0' : [Value.slice a0 len0 cap0] = [Value.slice A n c] := e0
  have e1' : [Value.slice a1 len1 cap1] = [Value.slice A' n' c'] := e1
  injection e0' with e0'; injection e0' with u1 u2 u3; subst u1 u2 u3
  injection e1' with e1'; injection e1' with u1 u2 u3; subst u1 u2 u3
  obtain ⟨mx, hm⟩ := shaped_mx W hsh
  have he := evsLen_few l
  have ha := answersW_take al 30
  refine (lines_any l al _ _ _ _ _ _ _ _ mx W s0 s1 hm (table hL) (by omega) (by omega)).mono ?_
  rintro e W' ⟨rfl, hn⟩
  have hra : DataW.TrodAll enc Tryd.prog W' 0 (fun b => decide (b < W.heap.size)) true [22, 23] [.slice a0 len0 cap0, .slice a1 len1 cap1] [d0, d1] (p0 ++ (p1 ++ [])) :=
    trodAll_cons_mk (Below.trod laidOut (by kernel_rfl) (of_decide_eq_true (by kernel_rfl)) ⟨fu0, hf0'⟩ hn (fun x hx => hlt x (by simp [hx]))) (trodAll_cons_mk (Below.trod laidOut (by kernel_rfl) (of_decide_eq_true (by kernel_rfl)) ⟨fu1, hf1'⟩ hn (fun x hx => hlt x (by simp [hx]))) trodAll_mk0)
  exact ⟨_, rfl, ⟨_, _, _, [], _, [], hW', trodAll_mk1 (shut_bool Tryd.underlying4 _), hra, rfl, hn.frame _, fun h => by cases h⟩⟩

/-- A world for the witness: the settled one, the three tables laid. -/
def valOf : DataW Unit → Value
  | .lit (.int k n) => .int k n
  | _ => .bool false
def cellsAt : DataW Unit → Array Value
  | .agg ps => (ps.map valOf).toArray
  | _ => #[]
def lay (cs : Array Value) : Obj → Obj
  | .cells _ t frozen => .cells cs t frozen
  | o => o
noncomputable def laidWorld (os : Os) : World :=
  { World.holding Tryd.prog os ⟨#[], #[], []⟩ with heap := (((World.holding Tryd.prog os ⟨#[], #[], []⟩).heap.modify 2 (lay (cellsAt Rows.laid_math_bits_deBruijn32tab))).modify 3 (lay (cellsAt Rows.laid_math_bits_deBruijn64tab))).modify 1 (lay (cellsAt Rows.laid_internal_strconv_uint64pow10)) }
set_option maxRecDepth 100000 in
theorem laid_met (os : Os) : laidMet Tryd.prog Rows.deskLinesUptoRow.laid ((laidWorld os).forCall (fun _ _ => 0) ⟨#[], #[.slice none 0 0, .slice none 0 0], []⟩).memory :=
  laidMet_of_run' 8 (by kernel_rfl) (by kernel_rfl)
theorem reads (os : Os) {H : Type} (enc : TypeId × Value → H) : ∃ places, DataW.whole enc Tryd.prog ((laidWorld os).forCall (fun _ _ => 0) ⟨#[], #[.slice none 0 0, .slice none 0 0], []⟩).memory Tryd.f5.params.toList Rows.deskLinesSpec.vars false #[Value.slice none 0 0, Value.slice none 0 0].toList 8 = some ([.nil, .nil], [], places) :=
  ⟨[], by kernel_rfl⟩
set_option maxRecDepth 100000 in
theorem liftedUpto (os : Os) (started : os.Started) (H : Type) (enc : TypeId × Value → H) (F : Stop.Interp) :
    ReturnsInHanded {} Tryd.checked os 5 .any ((Rows.OpenSpec.upto Rows.deskLinesSpec).preRow enc Tryd.prog Tryd.f5 Rows.deskLinesUptoRow.domain false Rows.deskLinesUptoRow.laid) (((Rows.OpenSpec.upto Rows.deskLinesSpec).at F).post enc Tryd.prog Tryd.f5 false true false false) := by
  obtain ⟨places, hx⟩ := reads os enc
  refine returnsInHanded_of_row (C := Tryd.checked) (s := Rows.OpenSpec.upto Rows.deskLinesSpec) own started (by kernel_rfl) Tryd.func5
    (witness_row_at (enc := enc) (C := Tryd.checked) false (laidWorld os) #[.slice none 0 0, .slice none 0 0] rfl (by kernel_rfl) (by kernel_rfl) (by kernel_rfl)
      (OpenSpec.preRow_of_cond 8 hx (by kernel_rfl) (fun k hk => by cases hk; kernel_rfl) (by kernel_rfl) (laid_met os))) ?_
  intro W base args ds gs before hval hW _ hcond _ hL hsh _
  exact contract H enc W args ds gs before base hval hW (hcond _ rfl) hL hsh
theorem saidUpto : Rows.DeskLinesUptoSaid :=
  OpenClaim.holds_of_cond 5 Tryd.f5 rfl rfl rfl rfl rfl rfl rfl ⟨rfl, rfl, rfl, rfl, rfl⟩ rfl rfl rfl rfl rfl (by kernel_rfl) Tryd.func5 (by kernel_rfl)
    (of_decide_eq_true (by kernel_rfl)) (by unfold Func.isWrapper; first | (rw [if_pos (by decide +kernel)]; kernel_rfl) | (rw [if_neg (by decide +kernel)]; exact ⟨rfl, rfl⟩))
    (fun os started H enc _ F => by rw [OpenClaim.pre_eq_preRow]; exact liftedUpto os started H enc F)
end Go.Proofs.YtojenpjafgfpaaaDoor.deskLines
