/- ColumnNone: from the readings of its arguments to the walk; the row, the card: for all arguments. -/
import Derived.Test.YtpmglcachffojaaGreatDoorZ33
import Derived.Test.YtpmglcachffojaaGreatDoorZ34
import Derived.Test.YtpmglcachffojaaGreatDoorCards
import Derived.Test.YtpmglcachffojaaGreatDoorTie
set_option maxRecDepth 100000
set_option maxHeartbeats 16000000
namespace Go.Proofs.YtpmglcachffojaaGreatDoor.columnNone
open Go Go.RowKit Go.ChangeShapes Go.WideShapes Go.ChangeAt Go.Deep
theorem e_first:Go.Pinned.utf8First=Lib.firstData:=by kernel_rfl
theorem e_acc:(Rows.laid_unicode_utf8_acceptRanges:DataW Unit)=Lib.acceptData:=by kernel_rfl
theorem table {W:World} (hL:laidMetH Tryz.prog Rows.columnNoneRow.laid W):Lib.Utf8Tabs 0 1 W:=by
 have h1 := Lib.laidMet.reads hL (n := "unicode/utf8.first") (d := Go.Pinned.utf8First) (.tail _ (.head _))
 have h2 := Lib.laidMet.reads hL (n := "unicode/utf8.acceptRanges") (d := Rows.laid_unicode_utf8_acceptRanges) (.head _)
 rw [e_first] at h1
 rw [e_acc] at h2
 exact utf8Tabs_of_readsT (U8Types.of196 Tryz.laysValid) ⟨by kernel_rfl,by kernel_rfl,by kernel_rfl,by kernel_rfl,by kernel_rfl,by kernel_rfl,by kernel_rfl⟩ h1 h2
theorem contract (H:Type) (enc:TypeId×Value->H) (W:World) (args:Array Value) (ds gs:List (DataW H)) (before:List MemPlace) (base:Nat)
 (hval:∀ (j:Nat) t v,Tryz.f8.params[j]?=some t->args[j]?=some v->Value.okWide Tryz.prog W .any base t v)
 (hW:DataW.Whole enc Tryz.prog Tryz.f8.params.toList Rows.columnNoneSpec.vars false W args.toList ds gs before) (hL:laidMetH Tryz.prog Rows.columnNoneRow.laid W) (_:W.ShapedOpen Tryz.prog) :
 Calls Tryz.prog 8 args W fun e W'=>∃ v,e=.returned v/\Rows.columnNoneSpec.post enc Tryz.prog Tryz.f8 false true false false W args v W':=by
 have hW':=hW
 obtain⟨p,q,hA0,hV,rfl,hfz,hnd⟩:=hW
 have hA:DataW.TrodAll enc Tryz.prog W 0 (fun _=>true) true Tryz.f8.params.toList args.toList ds p:=hA0
 rw [Tryz.params8] at hA hval
 obtain⟨v0,vs0,d0,ds0,p0,q0,hargs,rfl,rfl,h0,r0⟩:=trodAll_cons hA
 obtain⟨v1,vs1,d1,ds1,p1,q1,rfl,rfl,rfl,h1,r1⟩:=trodAll_cons r0
 obtain⟨rfl,rfl,rfl⟩:=trodAll_nil r1
 obtain rfl:args=#[v0,v1]:=by cases args;simp_all
 obtain⟨rfl,rfl⟩:=trodVars_none hV
 clear hA0
 simp only [List.append_nil] at hW'
 have hlt:∀ x∈p0++p1,x.block<W.heap.size:=fun x hx=>by simpa using hW'.lt x hx
 have g0:=h0
 obtain⟨x0,rfl,rfl,rfl,hm0⟩:=Go.ChangeShapes.open_int Tryz.underlying3 (hval 0 3 v0 rfl rfl) h0
 have g1:=h1
 obtain⟨x1,rfl,rfl,rfl,hm1⟩:=Go.ChangeShapes.open_int Tryz.underlying3 (hval 1 3 v1 rfl rfl) h1
 refine (xx9 x0 x1 W (table hL)).mono ?_
 rintro e W' ⟨rfl,hn⟩
 have hra:DataW.TrodAll enc Tryz.prog W' 0 (fun b=>decide (b<W.heap.size)) true [3,3] [.int .i64 x0,.int .i64 x1] [.lit (.int .i64 x0),.lit (.int .i64 x1)] ([]++([]++[])) :=
  (trodAll_cons_mk (Below.trod kqy (by kernel_rfl) (of_decide_eq_true (by kernel_rfl)) g0 hn (fun x hx=>by simp at hx)) (trodAll_cons_mk (Below.trod kqy (by kernel_rfl) (of_decide_eq_true (by kernel_rfl)) g1 hn (fun x hx=>by simp at hx)) trodAll_mk0))
 exact⟨_,rfl,⟨_,_,_,[],_,[],hW',trodAll_mk1 (shut_bool Tryz.underlying4 _),hra,rfl,hn.frame _,fun h=>by cases h⟩⟩
theorem laid_met (os:Os):laidMet Tryz.prog Rows.columnNoneRow.laid ((xxx os).forCall (fun _ _=>0) ⟨#[],#[.int .i64 0,.int .i64 0],[]⟩).memory :=
 (LaidIn.of_run (l := [("unicode/utf8.acceptRanges", Rows.laid_unicode_utf8_acceptRanges), ("unicode/utf8.first", Rows.laid_unicode_utf8_first)]) [1, 0] 8 (by kernel_rfl) (by kernel_rfl) (by kernel_rfl) (by kernel_rfl)).met
theorem reads (os:Os) {H:Type} (enc:TypeId×Value->H):∃ places,DataW.whole enc Tryz.prog ((xxx os).forCall (fun _ _=>0) ⟨#[],#[.int .i64 0,.int .i64 0],[]⟩).memory Tryz.f8.params.toList Rows.columnNoneSpec.vars false (#[.int .i64 0,.int .i64 0]:Array Value).toList 8=some ([.lit (.int .i64 0),.lit (.int .i64 0)],[],places) :=
 ⟨[],by kernel_rfl⟩
theorem lifted (os:Os) (started:os.Started) (H:Type) (enc:TypeId×Value->H) (F:Stop.Interp) :
 ReturnsInHanded {} Tryz.checked os 8 .any ((OpenSpec.ofChange Rows.columnNoneSpec).preRow enc Tryz.prog Tryz.f8 Rows.columnNoneRow.domain false Rows.columnNoneRow.laid) (((OpenSpec.ofChange Rows.columnNoneSpec).at F).post enc Tryz.prog Tryz.f8 false true false false):=by
 obtain⟨places,hx⟩:=reads os enc
 refine returnsInHanded_of_row (C:=Tryz.checked) (s:=OpenSpec.ofChange Rows.columnNoneSpec) own started (by kernel_rfl) Tryz.func8
  (witness_row_at (enc:=enc) (C:=Tryz.checked) false (xxx os) #[.int .i64 0,.int .i64 0] rfl (by kernel_rfl) (by kernel_rfl) (by kernel_rfl)
    (OpenSpec.preRow_of_cond 8 hx (by kernel_rfl) (fun k hk=>by cases hk) (by kernel_rfl) (laid_met os))) ?_
 intro W base args ds gs before hval hW _ _ _ hL hsh _
 exact contract H enc W args ds gs before base hval hW hL hsh
theorem closed:joinedFacts Tryz.prog 8 Tryz.f8 (OpenSpec.ofChange Rows.columnNoneSpec).bare Rows.columnNoneRow=true:=by
 unfold joinedFacts
 simp only [Bool.and_eq_true]
 repeat' (with_reducible refine And.intro ?_ ?_)
 all_goals (as_aux_lemma=>kernel_rfl)
theorem said:Rows.ColumnNoneSaid :=
 OpenClaim.holds_of_cond 8 Tryz.f8 rfl rfl rfl rfl rfl rfl rfl ⟨rfl,rfl,rfl,rfl,rfl⟩ rfl rfl rfl rfl rfl (by kernel_rfl) Tryz.func8 closed
  (of_decide_eq_true (by kernel_rfl)) (by unfold Func.isWrapper;first | (rw [if_pos (by decide +kernel)];kernel_rfl) | (rw [if_neg (by decide +kernel)];exact⟨rfl,rfl⟩))
  (fun os started H enc _ F=>by rw [OpenClaim.pre_eq_preRow];exact lifted os started H enc F)
theorem plain (f : FuncId) (fn : Func) (hf : Tryz.pinned.checked.prog.funcNamed "pilaster/pilasterlaw16.ColumnNone" = some f) (hfn : Tryz.pinned.checked.prog.funcs[f]? = some fn) :
 false=Tryz.pinned.checked.prog.looks []/\∀ (j:Nat) t,fn.params[j]?=some t->Tryz.pinned.checked.prog.wantsStandIn t=false:=by
 obtain rfl : f = 8 := Option.some.inj ((show Tryz.prog.funcNamed "pilaster/pilasterlaw16.ColumnNone" = some 8 by kernel_rfl).symm.trans hf) |>.symm
 obtain rfl:fn=Tryz.f8:=(Option.some.inj (Tryz.func8.symm.trans hfn)).symm
 refine⟨by kernel_rfl,fun j t ht=>?_⟩
 rw [Tryz.params8] at ht
 obtain rfl:t=3:=by simpa using Array.mem_of_getElem? ht
 · exact (show Tryz.prog.wantsStandIn 3=false by kernel_rfl)
theorem card:Rows.ColumnNoneCardSaid :=
 Claim7.holds_tied_plain_at .later [] _ _ _ _ said (fun _ h=>by cases h) (by kernel_rfl) (fun _ h=>by cases h) columnNone_row_tie rfl ⟨rfl,rfl⟩ (by kernel_rfl) rfl plain (by kernel_rfl)
end Go.Proofs.YtpmglcachffojaaGreatDoor.columnNone
