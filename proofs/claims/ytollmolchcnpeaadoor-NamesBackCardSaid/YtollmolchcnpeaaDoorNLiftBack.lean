/- NamesBack: from the readings of its arguments to the walk; the row, the card: for all arguments. -/
import Derived.Test.YtollmolchcnpeaaDoorNLiftC
import Derived.Test.YtollmolchcnpeaaDoorNBack
import Derived.Test.YtollmolchcnpeaaDoorCards
import Derived.Test.YtollmolchcnpeaaDoorTie
namespace Go.Proofs.YtollmolchcnpeaaDoor.namesBack
open Go Go.RowKit Go.ChangeShapes Go.WideShapes Go.ChangeAt Go.Deep

theorem table {W : World} (h : laidMetH Tryd.prog Rows.namesBackRow.laid W) : Tab W := by
  unfold Tab
  exact Lib.tabIs_of_head (rest := _) (g := 3) (by kernel_rfl) (t := 126) (by kernel_rfl) (n := 20) (e := 79) (by kernel_rfl) (by kernel_rfl) (by kernel_rfl) (by kernel_rfl) (laidMet.tail (laidMet.tail h))

theorem shaped_mx (W : World) (h : W.ShapedOpen Tryd.prog) : ∃ m, W.cell? ⟨2, 0, none⟩ = some (.int .i64 m) :=
  Go.Proofs.cell_of_shapedOpen_int (zero := #[.int .i64 0]) (t := 3) h (of_decide_eq_true (by kernel_rfl)) (by kernel_rfl) rfl (by kernel_rfl) (by kernel_rfl) Tryd.underlying3

set_option maxRecDepth 100000 in
/-- What the walk gives. -/
theorem contract (H : Type) (enc : TypeId × Value → H) (W : World) (args : Array Value) (ds gs : List (DataW H)) (before : List MemPlace) (base : Nat)
    (hval : ∀ (j : Nat) t v, Tryd.f6.params[j]? = some t → args[j]? = some v → Value.okWide Tryd.prog W .any base t v)
    (hW : DataW.Whole enc Tryd.prog Tryd.f6.params.toList Rows.namesBackSpec.vars false W args.toList ds gs before) (hL : laidMetH Tryd.prog Rows.namesBackRow.laid W) (hsh : W.ShapedOpen Tryd.prog) :
    Calls Tryd.prog 6 args W fun e W' => ∃ v, e = .returned v ∧ Rows.namesBackSpec.post enc Tryd.prog Tryd.f6 false true false false W args v W' := by
  have hW' := hW
  obtain ⟨p, q, hA0, hV, rfl, hfz, hnd⟩ := hW
  have hA : DataW.TrodAll enc Tryd.prog W 0 (fun _ => true) true Tryd.f6.params.toList args.toList ds p := hA0
  rw [Tryd.params6] at hA hval
  obtain ⟨v0, vs0, d0, ds0, p0, q0, hargs, rfl, rfl, h0, r0⟩ := trodAll_cons hA
  obtain ⟨v1, vs1, d1, ds1, p1, q1, rfl, rfl, rfl, h1, r1⟩ := trodAll_cons r0
  obtain ⟨v2, vs2, d2, ds2, p2, q2, rfl, rfl, rfl, h2, r2⟩ := trodAll_cons r1
  obtain ⟨rfl, rfl, rfl⟩ := trodAll_nil r2
  obtain rfl : args = #[v0, v1, v2] := by cases args; simp_all
  obtain ⟨rfl, rfl⟩ := trodVars_none hV
  clear hA0
  simp only [List.append_nil] at hW'
  have hlt : ∀ x ∈ p0 ++ (p1 ++ p2), x.block < W.heap.size := fun x hx => by simpa using hW'.lt x hx
  have g0 := h0
  obtain ⟨fu0, hf0⟩ := h0
  obtain ⟨l0, s0, b0⟩ := rd_DD H enc W fu0 _ _ _ hf0
  dsimp only at b0
  obtain ⟨cs0, rfl, _⟩ := okWide_struct Tryd.underlying28 (hval 0 28 v0 rfl rfl)
  obtain ⟨rfl, hok0⟩ : cs0 = #[.int .i64 l0.kind, .int .i64 l0.lo, .int .i64 l0.hi] ∧ l0.ok := ⟨Array.toList_inj.1 s0.1, s0.2⟩
  have g1 := h1
  obtain ⟨fu1, hf1⟩ := h1
  obtain ⟨l1, s1, b1⟩ := rd_DD H enc W fu1 _ _ _ hf1
  dsimp only at b1
  obtain ⟨cs1, rfl, _⟩ := okWide_struct Tryd.underlying28 (hval 1 28 v1 rfl rfl)
  obtain ⟨rfl, hok1⟩ : cs1 = #[.int .i64 l1.kind, .int .i64 l1.lo, .int .i64 l1.hi] ∧ l1.ok := ⟨Array.toList_inj.1 s1.1, s1.2⟩
  have g2 := h2
  obtain ⟨x2, rfl, rfl, rfl, hm2⟩ := Go.ChangeShapes.open_int Tryd.underlying3 (hval 2 3 v2 rfl rfl) h2
  have y2 : i64 x2 := i64_wf hm2
  obtain ⟨mx, hmx⟩ := shaped_mx W hsh
  refine (nback_any l0 l1 x2 mx W hmx (table hL)).mono ?_
  rintro e W' ⟨rfl, hn⟩
  have hra : DataW.TrodAll enc Tryd.prog W' 0 (fun b => decide (b < W.heap.size)) true [28, 28, 3] [.agg #[.int .i64 l0.kind, .int .i64 l0.lo, .int .i64 l0.hi], .agg #[.int .i64 l1.kind, .int .i64 l1.lo, .int .i64 l1.hi], .int .i64 x2] [d0, d1, .lit (.int .i64 x2)] (p0 ++ (p1 ++ ([] ++ []))) :=
    trodAll_cons_mk (Below.trod laidOut (by kernel_rfl) (of_decide_eq_true (by kernel_rfl)) g0 hn (fun x hx => hlt x (by simp [hx]))) (trodAll_cons_mk (Below.trod laidOut (by kernel_rfl) (of_decide_eq_true (by kernel_rfl)) g1 hn (fun x hx => hlt x (by simp [hx]))) (trodAll_cons_mk (Below.trod laidOut (by kernel_rfl) (of_decide_eq_true (by kernel_rfl)) g2 hn (fun x hx => by simp at hx)) trodAll_mk0))
  exact ⟨_, rfl, ⟨_, _, _, [], _, [], hW', trodAll_mk1 (shut_bool Tryd.underlying4 _), hra, rfl, hn.frame _, fun h => by cases h⟩⟩

/-- An error's text. -/
def txt : DataW Unit → ByteArray
  | .iface _ (.ptr (.agg [.lit (.string l)])) => ⟨l.toArray⟩
  | _ => ⟨#[]⟩
/-- The cells of a row of pairs. -/
def cells2 : DataW Unit → Array Value
  | .agg ps => (ps.flatMap fun | .agg qs => qs.map valOf | d => [valOf d]).toArray
  | _ => #[]
noncomputable def low : Nat := (World.holding Tryd.prog default ⟨#[], #[], []⟩).heap.size

noncomputable def laidWorld (os : Os) : World :=
  let w0 := World.holding Tryd.prog os ⟨#[.cells #[.string (txt Rows.laid_strconv_ErrRange)] 133, .cells #[.string (txt Rows.laid_strconv_ErrSyntax)] 133], #[], []⟩
  { w0 with heap := (((((((w0.heap.modify 6 (lay (cellsAt Rows.laid_math_bits_deBruijn32tab))).modify 7 (lay (cellsAt Rows.laid_math_bits_deBruijn64tab))).modify 3 (lay (cellsAt Rows.laid_internal_strconv_uint64pow10))).modify 5 (lay (cells2 Rows.laid_unicode_utf8_acceptRanges))).modify 1 (lay #[.iface 131 (.pointer (some ⟨low, 0, none⟩))])).modify 0 (lay #[.iface 131 (.pointer (some ⟨low + 1, 0, none⟩))])).modify 4 (lay (cellsAt Rows.laid_unicode_utf8_first))) }
set_option maxRecDepth 100000 in
theorem laid_met (os : Os) : laidMet Tryd.prog Rows.namesBackRow.laid ((laidWorld os).forCall (fun _ _ => 0) ⟨#[], #[.agg #[.int .i64 0, .int .i64 0, .int .i64 0], .agg #[.int .i64 0, .int .i64 0, .int .i64 0], .int .i64 0], []⟩).memory :=
  laidMet_of_run' 8 (by kernel_rfl) (by kernel_rfl)
theorem reads (os : Os) {H : Type} (enc : TypeId × Value → H) : ∃ places, DataW.whole enc Tryd.prog ((laidWorld os).forCall (fun _ _ => 0) ⟨#[], #[.agg #[.int .i64 0, .int .i64 0, .int .i64 0], .agg #[.int .i64 0, .int .i64 0, .int .i64 0], .int .i64 0], []⟩).memory Tryd.f6.params.toList Rows.namesBackSpec.vars false (#[.agg #[.int .i64 0, .int .i64 0, .int .i64 0], .agg #[.int .i64 0, .int .i64 0, .int .i64 0], .int .i64 0] : Array Value).toList 8 = some ([.agg [.lit (.int .i64 0), .lit (.int .i64 0), .lit (.int .i64 0)], .agg [.lit (.int .i64 0), .lit (.int .i64 0), .lit (.int .i64 0)], .lit (.int .i64 0)], [], places) :=
  ⟨[], by kernel_rfl⟩
set_option maxRecDepth 100000 in
theorem lifted (os : Os) (started : os.Started) (H : Type) (enc : TypeId × Value → H) (F : Stop.Interp) :
    ReturnsInHanded {} Tryd.checked os 6 .any ((OpenSpec.ofChange Rows.namesBackSpec).preRow enc Tryd.prog Tryd.f6 Rows.namesBackRow.domain false Rows.namesBackRow.laid) (((OpenSpec.ofChange Rows.namesBackSpec).at F).post enc Tryd.prog Tryd.f6 false true false false) := by
  obtain ⟨places, hx⟩ := reads os enc
  refine returnsInHanded_of_row (C := Tryd.checked) (s := OpenSpec.ofChange Rows.namesBackSpec) own started (by kernel_rfl) Tryd.func6
    (witness_row_at (enc := enc) (C := Tryd.checked) false (laidWorld os) #[.agg #[.int .i64 0, .int .i64 0, .int .i64 0], .agg #[.int .i64 0, .int .i64 0, .int .i64 0], .int .i64 0] rfl (by kernel_rfl) (by kernel_rfl) (by kernel_rfl)
      (OpenSpec.preRow_of_cond 8 hx (by kernel_rfl) (fun k hk => by cases hk) (by kernel_rfl) (laid_met os))) ?_
  intro W base args ds gs before hval hW _ _ _ hL hsh _
  exact contract H enc W args ds gs before base hval hW hL hsh
theorem said : Rows.NamesBackSaid :=
  OpenClaim.holds_of_cond 6 Tryd.f6 rfl rfl rfl rfl rfl rfl rfl ⟨rfl, rfl, rfl, rfl, rfl⟩ rfl rfl rfl rfl rfl (by kernel_rfl) Tryd.func6 (by kernel_rfl)
    (of_decide_eq_true (by kernel_rfl)) (by unfold Func.isWrapper; first | (rw [if_pos (by decide +kernel)]; kernel_rfl) | (rw [if_neg (by decide +kernel)]; exact ⟨rfl, rfl⟩))
    (fun os started H enc _ F => by rw [OpenClaim.pre_eq_preRow]; exact lifted os started H enc F)

theorem plain (f : FuncId) (fn : Func) (hf : Tryd.pinned.checked.prog.funcNamed "pilaster/pilasterlaw24.NamesBack" = some f) (hfn : Tryd.pinned.checked.prog.funcs[f]? = some fn) :
    true = Tryd.pinned.checked.prog.looks [] ∧ ∀ (j : Nat) t, fn.params[j]? = some t → Tryd.pinned.checked.prog.wantsStandIn t = false := by
  obtain rfl : f = 6 := Option.some.inj ((show Tryd.prog.funcNamed "pilaster/pilasterlaw24.NamesBack" = some 6 by kernel_rfl).symm.trans hf) |>.symm
  obtain rfl : fn = Tryd.f6 := (Option.some.inj (Tryd.func6.symm.trans hfn)).symm
  refine ⟨by kernel_rfl, fun j t ht => ?_⟩
  rw [Tryd.params6] at ht
  obtain rfl | rfl | rfl : t = 28 ∨ t = 28 ∨ t = 3 := by simpa using Array.mem_of_getElem? ht
  · exact (show Tryd.prog.wantsStandIn 28 = false by kernel_rfl)
  · exact (show Tryd.prog.wantsStandIn 28 = false by kernel_rfl)
  · exact (show Tryd.prog.wantsStandIn 3 = false by kernel_rfl)
theorem card : Rows.NamesBackCardSaid :=
  Claim7.holds_tied_plain_at .later [] _ _ _ _ said (fun _ h => by cases h) (by kernel_rfl) (fun _ h => by cases h) namesBack_row_tie rfl ⟨rfl, rfl⟩ (by kernel_rfl) rfl plain (by kernel_rfl)
end Go.Proofs.YtollmolchcnpeaaDoor.namesBack
