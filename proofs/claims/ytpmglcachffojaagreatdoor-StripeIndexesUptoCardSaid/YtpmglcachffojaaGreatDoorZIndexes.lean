/- StripeIndexes: from the readings of its arguments to the walk; the row, the card: for all arguments. -/
import Derived.Test.YtpmglcachffojaaGreatDoorZ48
import Derived.Test.YtpmglcachffojaaGreatDoorZ49
import Derived.Test.YtpmglcachffojaaGreatDoorCards
import Derived.Test.YtpmglcachffojaaGreatDoorTie
set_option maxRecDepth 100000
set_option maxHeartbeats 16000000
namespace Go.Proofs.YtpmglcachffojaaGreatDoor.stripeIndexes
open Go Go.RowKit Go.ChangeShapes Go.WideShapes Go.ChangeAt Go.Deep
theorem e_first:Go.Pinned.utf8First=Lib.firstData:=by kernel_rfl
theorem e_acc:(Rows.laid_unicode_utf8_acceptRanges:DataW Unit)=Lib.acceptData:=by kernel_rfl
theorem table {W:World} (hL:laidMetH Tryz.prog Rows.stripeIndexesUptoRow.laid W):Lib.Utf8Tabs 0 1 W:=by
 have h1 := Lib.laidMet.reads hL (n := "unicode/utf8.first") (d := Go.Pinned.utf8First) (.tail _ (.head _))
 have h2 := Lib.laidMet.reads hL (n := "unicode/utf8.acceptRanges") (d := Rows.laid_unicode_utf8_acceptRanges) (.head _)
 rw [e_first] at h1
 rw [e_acc] at h2
 exact utf8Tabs_of_readsT (U8Types.of196 Tryz.laysValid) ⟨by kernel_rfl,by kernel_rfl,by kernel_rfl,by kernel_rfl,by kernel_rfl,by kernel_rfl,by kernel_rfl⟩ h1 h2
theorem contract (H:Type) (enc:TypeId×Value->H) (W:World) (args:Array Value) (ds gs:List (DataW H)) (before:List MemPlace) (base:Nat)
 (hval:∀ (j:Nat) t v,Tryz.f6.params[j]?=some t->args[j]?=some v->Value.okWide Tryz.prog W .any base t v)
 (hW:DataW.Whole enc Tryz.prog Tryz.f6.params.toList Rows.stripeIndexesSpec.vars false W args.toList ds gs before) (hk:Rows.uptoSmall H (ds++gs)=true) (hL:laidMetH Tryz.prog Rows.stripeIndexesUptoRow.laid W) (_:W.ShapedOpen Tryz.prog) :
 Calls Tryz.prog 6 args W fun e W'=>∃ v,e=.returned v/\Rows.stripeIndexesSpec.post enc Tryz.prog Tryz.f6 false true false false W args v W':=by
 have hW':=hW
 obtain⟨p,q,hA0,hV,rfl,hfz,hnd⟩:=hW
 have hA:DataW.TrodAll enc Tryz.prog W 0 (fun _=>true) true Tryz.f6.params.toList args.toList ds p:=hA0
 rw [Tryz.params6] at hA hval
 obtain⟨v0,vs0,d0,ds0,p0,q0,hargs,rfl,rfl,h0,r0⟩:=trodAll_cons hA
 obtain⟨v1,vs1,d1,ds1,p1,q1,rfl,rfl,rfl,h1,r1⟩:=trodAll_cons r0
 obtain⟨v2,vs2,d2,ds2,p2,q2,rfl,rfl,rfl,h2,r2⟩:=trodAll_cons r1
 obtain⟨rfl,rfl,rfl⟩:=trodAll_nil r2
 obtain rfl:args=#[v0,v1,v2]:=by cases args;simp_all
 obtain⟨rfl,rfl⟩:=trodVars_none hV
 clear hA0
 simp only [List.append_nil] at hW' hk
 have hlt:∀ x∈p0++(p1++p2),x.block<W.heap.size:=fun x hx=>by simpa using hW'.lt x hx
 have hb:Rows.uptoBulkAll [d0,d1,d2]<=1048576:=of_decide_eq_true hk
 simp only [Rows.uptoBulkAll] at hb
 have g0:=h0
 obtain⟨fu0,hf0⟩:=h0
 obtain⟨l0,⟨A0,n0,c0,e0,s0⟩,_⟩:=rd_CCs H enc W fu0 _ _ _ hf0
 obtain⟨a0,len0,cap0,rfl⟩:=okWide_slice Tryz.underlying34 (hval 0 34 v0 rfl rfl)
 have e0':[Value.slice a0 len0 cap0]=[Value.slice A0 n0 c0]:=e0
 injection e0' with e0';injection e0' with u1 u2 u3;subst u1 u2 u3
 have g1:=h1
 obtain⟨fu1,hf1⟩:=h1
 obtain⟨l1,⟨A1,n1,c1,e1,s1⟩,b1⟩:=rd_Sts H enc W fu1 _ _ _ hf1
 obtain⟨a1,len1,cap1,rfl⟩:=okWide_slice Tryz.underlying46 (hval 1 46 v1 rfl rfl)
 have e1':[Value.slice a1 len1 cap1]=[Value.slice A1 n1 c1]:=e1
 injection e1' with e1';injection e1' with u1 u2 u3;subst u1 u2 u3
 have g2:=h2
 obtain⟨fu2,hf2⟩:=h2
 obtain⟨⟨l2,sb2⟩,⟨A2,n2,c2,E2,s2⟩,_⟩:=rd_BB H enc W fu2 _ _ _ hf2
 obtain⟨cs2,rfl,_⟩:=okWide_struct Tryz.underlying63 (hval 2 63 v2 rfl rfl)
 obtain rfl:cs2=#[.slice A2 n2 c2,.bool sb2]:=Array.toList_inj.1 E2
 refine (uuC _ _ _ _ _ _ _ _ _ _ _ _ l0 l1 l2 sb2 W s0 s1 s2 (sts_texts b1 (by omega)) (table hL)).mono ?_
 rintro e W' ⟨rfl,hn⟩
 have hra:DataW.TrodAll enc Tryz.prog W' 0 (fun b=>decide (b<W.heap.size)) true [34,46,63] [.slice a0 len0 cap0,.slice a1 len1 cap1,.agg #[.slice A2 n2 c2,.bool sb2]] [d0,d1,d2] (p0++(p1++(p2++[]))) :=
  (trodAll_cons_mk (Below.trod zqB (by kernel_rfl) (of_decide_eq_true (by kernel_rfl)) g0 hn (fun x hx=>hlt x (by simp [hx]))) (trodAll_cons_mk (Below.trod zqB (by kernel_rfl) (of_decide_eq_true (by kernel_rfl)) g1 hn (fun x hx=>hlt x (by simp [hx]))) (trodAll_cons_mk (Below.trod zqB (by kernel_rfl) (of_decide_eq_true (by kernel_rfl)) g2 hn (fun x hx=>hlt x (by simp [hx]))) trodAll_mk0)))
 exact⟨_,rfl,⟨_,_,_,[],_,[],hW',trodAll_mk1 (shut_bool Tryz.underlying4 _),hra,rfl,hn.frame _,fun h=>by cases h⟩⟩
theorem laid_met (os:Os):laidMet Tryz.prog Rows.stripeIndexesUptoRow.laid ((jji os).forCall (fun _ _=>0) ⟨#[],#[.slice none 0 0,.slice none 0 0,.agg #[.slice none 0 0,.bool false]],[]⟩).memory :=
 (LaidIn.of_run (l := [("unicode/utf8.acceptRanges", Rows.laid_unicode_utf8_acceptRanges), ("unicode/utf8.first", Rows.laid_unicode_utf8_first)]) [1, 0] 8 (by kernel_rfl) (by kernel_rfl) (by kernel_rfl) (by kernel_rfl)).met
theorem reads (os:Os) {H:Type} (enc:TypeId×Value->H):∃ places,DataW.whole enc Tryz.prog ((jji os).forCall (fun _ _=>0) ⟨#[],#[.slice none 0 0,.slice none 0 0,.agg #[.slice none 0 0,.bool false]],[]⟩).memory Tryz.f6.params.toList Rows.stripeIndexesSpec.vars false (#[.slice none 0 0,.slice none 0 0,.agg #[.slice none 0 0,.bool false]]:Array Value).toList 8=some ([.nil,.nil,.agg [.nil,.lit (.bool false)]],[],places) :=
 ⟨[],by kernel_rfl⟩
theorem lifted (os:Os) (started:os.Started) (H:Type) (enc:TypeId×Value->H) (F:Stop.Interp) :
 ReturnsInHanded {} Tryz.checked os 6 .any ((Rows.OpenSpec.upto Rows.stripeIndexesSpec).preRow enc Tryz.prog Tryz.f6 Rows.stripeIndexesUptoRow.domain false Rows.stripeIndexesUptoRow.laid) (((Rows.OpenSpec.upto Rows.stripeIndexesSpec).at F).post enc Tryz.prog Tryz.f6 false true false false):=by
 obtain⟨places,hx⟩:=reads os enc
 refine returnsInHanded_of_row (C:=Tryz.checked) (s:=Rows.OpenSpec.upto Rows.stripeIndexesSpec) own started (by kernel_rfl) Tryz.func6
  (witness_row_at (enc:=enc) (C:=Tryz.checked) false (jji os) #[.slice none 0 0,.slice none 0 0,.agg #[.slice none 0 0,.bool false]] rfl (by kernel_rfl) (by kernel_rfl) (by kernel_rfl)
    (OpenSpec.preRow_of_cond 8 hx (by kernel_rfl) (fun k hk=>by cases hk;kernel_rfl) (by kernel_rfl) (laid_met os))) ?_
 intro W base args ds gs before hval hW _ hcond _ hL hsh _
 exact contract H enc W args ds gs before base hval hW (hcond _ rfl) hL hsh
theorem closed:joinedFacts Tryz.prog 6 Tryz.f6 (Rows.OpenSpec.upto Rows.stripeIndexesSpec).bare Rows.stripeIndexesUptoRow=true:=by
 unfold joinedFacts
 simp only [Bool.and_eq_true]
 repeat' (with_reducible refine And.intro ?_ ?_)
 all_goals (as_aux_lemma=>kernel_rfl)
theorem saidUpto:Rows.StripeIndexesUptoSaid :=
 OpenClaim.holds_of_cond 6 Tryz.f6 rfl rfl rfl rfl rfl rfl rfl ⟨rfl,rfl,rfl,rfl,rfl⟩ rfl rfl rfl rfl rfl (by kernel_rfl) Tryz.func6 closed
  (of_decide_eq_true (by kernel_rfl)) (by unfold Func.isWrapper;first | (rw [if_pos (by decide +kernel)];kernel_rfl) | (rw [if_neg (by decide +kernel)];exact⟨rfl,rfl⟩))
  (fun os started H enc _ F=>by rw [OpenClaim.pre_eq_preRow];exact lifted os started H enc F)
theorem plain (f : FuncId) (fn : Func) (hf : Tryz.pinned.checked.prog.funcNamed "pilaster/pilasterlaw20.StripeIndexes" = some f) (hfn : Tryz.pinned.checked.prog.funcs[f]? = some fn) :
 false=Tryz.pinned.checked.prog.looks []/\∀ (j:Nat) t,fn.params[j]?=some t->Tryz.pinned.checked.prog.wantsStandIn t=false:=by
 obtain rfl : f = 6 := Option.some.inj ((show Tryz.prog.funcNamed "pilaster/pilasterlaw20.StripeIndexes" = some 6 by kernel_rfl).symm.trans hf) |>.symm
 obtain rfl:fn=Tryz.f6:=(Option.some.inj (Tryz.func6.symm.trans hfn)).symm
 refine⟨by kernel_rfl,fun j t ht=>?_⟩
 rw [Tryz.params6] at ht
 obtain rfl | rfl | rfl:t=34∨t=46∨t=63:=by simpa using Array.mem_of_getElem? ht
 · exact (show Tryz.prog.wantsStandIn 34=false by kernel_rfl)
 · exact (show Tryz.prog.wantsStandIn 46=false by kernel_rfl)
 · exact (show Tryz.prog.wantsStandIn 63=false by kernel_rfl)
theorem cardUpto:Rows.StripeIndexesUptoCardSaid :=
 Claim7.holds_tied_plain_at .later [] _ _ _ _ saidUpto (fun _ h=>by cases h) (by kernel_rfl) (fun _ h=>by cases h) stripeIndexesUpto_row_tie rfl ⟨rfl,rfl⟩ (by kernel_rfl) rfl plain (by kernel_rfl)
end Go.Proofs.YtpmglcachffojaaGreatDoor.stripeIndexes
