/- NamesTakes: from the readings of its arguments to the walk; the row, the card: for all arguments. -/
import Derived.Test.YtollmolchcnpeaaGreatDoorNLiftC
import Derived.Test.YtollmolchcnpeaaGreatDoorNTakes
import Derived.Test.YtollmolchcnpeaaGreatDoorCards
import Derived.Test.YtollmolchcnpeaaGreatDoorTie
namespace Go.Proofs.YtollmolchcnpeaaGreatDoor.namesTakes
open Go Go.RowKit Go.ChangeShapes Go.WideShapes Go.ChangeAt Go.Deep

theorem table {W : World} (h : laidMetH Tryz.prog Rows.namesTakesUptoRow.laid W) : Tab W := by
  unfold Tab
  exact Lib.tabIs_of_head (rest := _) (g := 5) (by kernel_rfl) (t := 133) (by kernel_rfl) (n := 20) (e := 85) (by kernel_rfl) (by kernel_rfl) (by kernel_rfl) (by kernel_rfl) (laidMet.tail (laidMet.tail h))

theorem shaped_mx (W : World) (h : W.ShapedOpen Tryz.prog) : ∃ m, W.cell? ⟨2, 0, none⟩ = some (.int .i64 m) :=
  Go.Proofs.cell_of_shapedOpen_int (zero := #[.int .i64 0]) (t := 3) h (of_decide_eq_true (by kernel_rfl)) (by kernel_rfl) rfl (by kernel_rfl) (by kernel_rfl) Tryz.underlying3

theorem star : "*" ++ "errors.errorString" = "*errors.errorString" := by decide
theorem ptrErr (u : TypeId) (h : Tryz.prog.typeName? 3 u = some "*errors.errorString") : u = 117 :=
  typeName_ptr_named (nm := "errors.errorString") (by rw [star]; kernel_rfl) (by kernel_rfl) (by decide) u (by rw [star]; exact h)
set_option maxRecDepth 100000 in
theorem errvars {W : World} (h : laidMetH Tryz.prog Rows.namesTakesUptoRow.laid W) : ErrVars W := by
  have h4 := laidMet.tail (laidMet.tail (laidMet.tail (laidMet.tail h)))
  obtain ⟨a, s, hv, _⟩ := laid_sentinel h4 (g := 1) (ti := 37) (tp := 117) (te := 119) (ts := 9) (by kernel_rfl) (by kernel_rfl) Tryz.underlying37 ptrErr Tryz.underlying117 Tryz.underlying119 rfl rfl Tryz.underlying9 (by kernel_rfl) (by kernel_rfl)
  obtain ⟨a', s', hv', _⟩ := laid_sentinel (laidMet.tail h4) (g := 0) (ti := 37) (tp := 117) (te := 119) (ts := 9) (by kernel_rfl) (by kernel_rfl) Tryz.underlying37 ptrErr Tryz.underlying117 Tryz.underlying119 rfl rfl Tryz.underlying9 (by kernel_rfl) (by kernel_rfl)
  exact ⟨⟨_, by have h0 := World.var?_cell (g := 0) (by kernel_rfl) hv' 0; simpa using h0, .inr ⟨_, _, rfl⟩⟩, _, by have h0 := World.var?_cell (g := 1) (by kernel_rfl) hv 0; simpa using h0, .inr ⟨_, _, rfl⟩⟩

set_option maxRecDepth 100000 in
/-- What the walk gives. -/
theorem contract (H : Type) (enc : TypeId × Value → H) (W : World) (args : Array Value) (ds gs : List (DataW H)) (before : List MemPlace) (base : Nat)
    (hval : ∀ (j : Nat) t v, Tryz.f3.params[j]? = some t → args[j]? = some v → Value.okWide Tryz.prog W .any base t v)
    (hW : DataW.Whole enc Tryz.prog Tryz.f3.params.toList Rows.namesTakesSpec.vars false W args.toList ds gs before) (hk : Rows.uptoSmall H (ds ++ gs) = true) (hL : laidMetH Tryz.prog Rows.namesTakesUptoRow.laid W) (hsh : W.ShapedOpen Tryz.prog) :
    Calls Tryz.prog 3 args W fun e W' => ∃ v, e = .returned v ∧ Rows.namesTakesSpec.post enc Tryz.prog Tryz.f3 false true false false W args v W' := by
  have hW' := hW
  obtain ⟨p, q, hA0, hV, rfl, hfz, hnd⟩ := hW
  have hA : DataW.TrodAll enc Tryz.prog W 0 (fun _ => true) true Tryz.f3.params.toList args.toList ds p := hA0
  rw [Tryz.params3] at hA hval
  obtain ⟨v0, vs0, d0, ds0, p0, q0, hargs, rfl, rfl, h0, r0⟩ := trodAll_cons hA
  obtain ⟨rfl, rfl, rfl⟩ := trodAll_nil r0
  obtain rfl : args = #[v0] := by cases args; simp_all
  obtain ⟨rfl, rfl⟩ := trodVars_none hV
  clear hA0
  simp only [List.append_nil] at hW' hk
  have hlt : ∀ x ∈ p0, x.block < W.heap.size := fun x hx => by simpa using hW'.lt x hx
  have hb : Rows.uptoBulkAll [d0] ≤ 1048576 := of_decide_eq_true hk
  simp only [Rows.uptoBulkAll] at hb
  have g0 := h0
  obtain ⟨x0, rfl, rfl, rfl, hm0⟩ := Go.ChangeMaps.open_string Tryz.underlying9 (hval 0 9 v0 rfl rfl) h0
  have hx0 : x0.size ≤ 9223372036854775807 := by unfold maxLen at hm0; omega
  obtain ⟨mx, hmx⟩ := shaped_mx W hsh
  have hbs : x0.data.toList.length ≤ 1048576 := by rw [Rows.uptoBulk] at hb; omega
  refine (ntakes_any x0.data.toList (by omega) mx W hmx (table hL) (errvars hL)).mono ?_
  rintro e W' ⟨rfl, hn⟩
  have hra : DataW.TrodAll enc Tryz.prog W' 0 (fun b => decide (b < W.heap.size)) true [9] [.string x0] [.lit (.string x0.data.toList)] ([] ++ []) :=
    trodAll_cons_mk (Below.trod laidOut (by kernel_rfl) (of_decide_eq_true (by kernel_rfl)) g0 hn (fun x hx => by simp at hx)) trodAll_mk0
  exact ⟨_, rfl, ⟨_, _, _, [], _, [], hW', trodAll_mk1 (shut_bool Tryz.underlying4 _), hra, rfl, hn.frame _, fun h => by cases h⟩⟩

/-- An error's text. -/
def txt : DataW Unit → ByteArray
  | .iface _ (.ptr (.agg [.lit (.string l)])) => ⟨l.toArray⟩
  | _ => ⟨#[]⟩
/-- The cells of a row of pairs. -/
def cells2 : DataW Unit → Array Value
  | .agg ps => (ps.flatMap fun | .agg qs => qs.map valOf | d => [valOf d]).toArray
  | _ => #[]
noncomputable def low : Nat := (World.holding Tryz.prog default ⟨#[], #[], []⟩).heap.size

noncomputable def laidWorld (os : Os) : World :=
  let w0 := World.holding Tryz.prog os ⟨#[.cells #[.string (txt Rows.laid_strconv_ErrRange)] 119, .cells #[.string (txt Rows.laid_strconv_ErrSyntax)] 119], #[], []⟩
  { w0 with heap := (((((((w0.heap.modify 6 (lay (cellsAt Rows.laid_math_bits_deBruijn32tab))).modify 7 (lay (cellsAt Rows.laid_math_bits_deBruijn64tab))).modify 5 (lay (cellsAt Rows.laid_internal_strconv_uint64pow10))).modify 4 (lay (cells2 Rows.laid_unicode_utf8_acceptRanges))).modify 1 (lay #[.iface 117 (.pointer (some ⟨low, 0, none⟩))])).modify 0 (lay #[.iface 117 (.pointer (some ⟨low + 1, 0, none⟩))])).modify 3 (lay (cellsAt Rows.laid_unicode_utf8_first))) }
set_option maxRecDepth 100000 in
theorem laid_met (os : Os) : laidMet Tryz.prog Rows.namesTakesUptoRow.laid ((laidWorld os).forCall (fun _ _ => 0) ⟨#[], #[.string ⟨#[]⟩], []⟩).memory :=
  laidMet_of_run' 8 (by kernel_rfl) (by kernel_rfl)
theorem reads (os : Os) {H : Type} (enc : TypeId × Value → H) : ∃ places, DataW.whole enc Tryz.prog ((laidWorld os).forCall (fun _ _ => 0) ⟨#[], #[.string ⟨#[]⟩], []⟩).memory Tryz.f3.params.toList Rows.namesTakesSpec.vars false (#[.string ⟨#[]⟩] : Array Value).toList 8 = some ([.lit (.string [])], [], places) :=
  ⟨[], by kernel_rfl⟩
set_option maxRecDepth 100000 in
theorem lifted (os : Os) (started : os.Started) (H : Type) (enc : TypeId × Value → H) (F : Stop.Interp) :
    ReturnsInHanded {} Tryz.checked os 3 .any ((Rows.OpenSpec.upto Rows.namesTakesSpec).preRow enc Tryz.prog Tryz.f3 Rows.namesTakesUptoRow.domain false Rows.namesTakesUptoRow.laid) (((Rows.OpenSpec.upto Rows.namesTakesSpec).at F).post enc Tryz.prog Tryz.f3 false true false false) := by
  obtain ⟨places, hx⟩ := reads os enc
  refine returnsInHanded_of_row (C := Tryz.checked) (s := Rows.OpenSpec.upto Rows.namesTakesSpec) own started (by kernel_rfl) Tryz.func3
    (witness_row_at (enc := enc) (C := Tryz.checked) false (laidWorld os) #[.string ⟨#[]⟩] rfl (by kernel_rfl) (by kernel_rfl) (by kernel_rfl)
      (OpenSpec.preRow_of_cond 8 hx (by kernel_rfl) (fun k hk => by cases hk; kernel_rfl) (by kernel_rfl) (laid_met os))) ?_
  intro W base args ds gs before hval hW _ hcond _ hL hsh _
  exact contract H enc W args ds gs before base hval hW (hcond _ rfl) hL hsh
theorem saidUpto : Rows.NamesTakesUptoSaid :=
  OpenClaim.holds_of_cond 3 Tryz.f3 rfl rfl rfl rfl rfl rfl rfl ⟨rfl, rfl, rfl, rfl, rfl⟩ rfl rfl rfl rfl rfl (by kernel_rfl) Tryz.func3 (by kernel_rfl)
    (of_decide_eq_true (by kernel_rfl)) (by unfold Func.isWrapper; first | (rw [if_pos (by decide +kernel)]; kernel_rfl) | (rw [if_neg (by decide +kernel)]; exact ⟨rfl, rfl⟩))
    (fun os started H enc _ F => by rw [OpenClaim.pre_eq_preRow]; exact lifted os started H enc F)

theorem plain (f : FuncId) (fn : Func) (hf : Tryz.pinned.checked.prog.funcNamed "pilaster/pilasterlaw24.NamesTakes" = some f) (hfn : Tryz.pinned.checked.prog.funcs[f]? = some fn) :
    true = Tryz.pinned.checked.prog.looks [] ∧ ∀ (j : Nat) t, fn.params[j]? = some t → Tryz.pinned.checked.prog.wantsStandIn t = false := by
  obtain rfl : f = 3 := Option.some.inj ((show Tryz.prog.funcNamed "pilaster/pilasterlaw24.NamesTakes" = some 3 by kernel_rfl).symm.trans hf) |>.symm
  obtain rfl : fn = Tryz.f3 := (Option.some.inj (Tryz.func3.symm.trans hfn)).symm
  refine ⟨by kernel_rfl, fun j t ht => ?_⟩
  rw [Tryz.params3] at ht
  obtain rfl : t = 9 := by simpa using Array.mem_of_getElem? ht
  exact (show Tryz.prog.wantsStandIn 9 = false by kernel_rfl)
theorem cardUpto : Rows.NamesTakesUptoCardSaid :=
  Claim7.holds_tied_plain_at .later [] _ _ _ _ saidUpto (fun _ h => by cases h) (by kernel_rfl) (fun _ h => by cases h) namesTakesUpto_row_tie rfl ⟨rfl, rfl⟩ (by kernel_rfl) rfl plain (by kernel_rfl)
end Go.Proofs.YtollmolchcnpeaaGreatDoor.namesTakes
