/- A part of what None leans on. -/
import Derived.Test.YtpmglcachffojaaGreatDoorZ1
import Derived.RangeFuncNested
import Derived.RangeFuncBound
import Derived.RangeFuncCalls
import Derived.RangeFuncLeaves
import Derived.RangeFuncBox
import Derived.Shelf.Abstract
import Derived.Shelf.RegionOpen
import Derived.OwnWalkIn
import Derived.TacticsInMore
import Derived.LoopNIn
import Derived.LoopIn
import Derived.RegionIn
import Derived.Test.YtpmglcachffojaaGreatDoorZS1
import Derived.Deep.CutRange
import Derived.Laws.OwnMore
import Derived.Deep.MidRow
set_option maxRecDepth 100000
set_option maxHeartbeats 16000000
namespace Go.Proofs.YtpmglcachffojaaGreatDoor
section
open Go Go.RowKit
def qx7 {α:Type} (F:Fence) (n:Nat) (P:Program) (g:Nat) (lb:Array Value) (encs:α->Array Value) (bb:Nat) (Kp:World->World->Prop) (S:List α->Prop) (N:Nat) (w:World):Prop :=
 ∀ (l:Nat) (J:List α->World->Prop) (W:World),Below w.heap.size w W->(∀ pre W1 k,J pre W1->J pre (W1.drewN k))->(∀ pre W1 v,J pre W1->J pre (W1.setCell ⟨bb,0,none⟩ v)) ->
  (∀ pre x W1,J pre W1->pre.length<N->YieldAt F (n - 1) P l (encs x) W1 fun e W'=>e=.returned (.bool true)/\J (pre++[x]) W'/\Kp W1 W') ->
  J [] W->CallsIn F n P g (#[.func (.yield l) #[] #[]]++lb) W fun e W'=>(∃ v,e=.returned v)/\∃ xs,S xs/\J xs W'
def qx8 {α:Type} (Kp:World->World->Prop) (I:List α->World->Prop) (xs:List α) (W:World):Exit->Act->World->Prop
 | .normal,_,W'=>KeepsOthers W W'/\Kp W W'/\I xs W'
 | _,_,_=>False
section
variable {F:Fence} {n:Nat} {P:Program}
theorem vvR {α:Type} {g:Operand} {ps:Array Tmp} {assign body:Code} {Q:Exit->Act->World->Prop} {a:Act} {w:World} (hro:F.round=none) (h1:1<=n)
 {gf:Nat} {lb:Array Value} (hg:a.eval g=.func (.func gf) #[] lb) (hFg:F.fn gf) (eg:∀ args w,(callFunc gf args).run P w=.ok (.enter gf args) w)
 {encs:α->Array Value} {bb:Nat} (hbb:bb<w.heap.size) {Kp:World->World->Prop} {S:List α->Prop} {N:Nat} (hseq:qx7 F (n - 1) P gf lb encs bb Kp S N w)
 (hKt:∀ {A B C:World},Kp A B->Kp B C->Kp A C) (hKb:∀ (W:World) (l:Nat) (o:Obj),w.heap.size<=l->Kp W (W.putObj l o)) (hps:∀ x,(encs x).size=ps.size)
 (I:List α->World->Prop) (hI:OwnFrom w.heap.size I) (hIs:∀ pre W v,I pre W->I pre (W.setCell ⟨bb,0,none⟩ v)) (h0:I [] w) (a₁:α->Act)
 (hassign:∀ (l:Nat) (x:α) (W:World) (K:Act->World->Prop),K (a₁ x) W->assign.wpIn (F.inRound l) (n - 1 - 1) P (Exit.then K (fun _ _ _=>False)) { tmps:=(ps.zip (encs x)).foldl (fun t (p,v)=>t.setIfInBounds p v) a.tmps,defers:=[] } W)
 (hbody:∀ (l:Nat) (pre:List α) (x:α) (W:World),I pre W->pre.length<N->body.wpIn (F.inRound l) (n - 1 - 1) P (qx8 Kp I (pre++[x]) W) (a₁ x) W)
 (hdone:∀ (D:Nat) (xs:List α) (W:World),w.heap.size<=D->S xs->I xs W->W.heap[D]?=some (.deferred (some []))->Q .normal { a with defers:={ target:=.collected D,args:=#[] }::a.defers } W) :
 (Code.rangeFunc g ps assign body).wpIn F n P Q a w:=by
 refine wpIn_rangeFunc fun fn hfn=>?_
 rw [hro]
 obtain⟨rc,hrc⟩:∃ rc:LoopState->Option Code->Loop,rc=fun st pe=>{ state:=st,pending:=pe,fn,tmps:=a.tmps,params:=ps,assign,body,defers:=w.heap.size }:=⟨_,rfl⟩
 obtain⟨D,hD⟩:∃ D,D=w.heap.size:=⟨_,rfl⟩
 obtain⟨W1,hW1⟩:∃ W1,(w.alloc (.deferred (some []))).alloc (.loop (rc .ready none))=W1:=⟨_,rfl⟩
 have hL:W1.heap[D+1]?=some (.loop (rc .ready none)):=by
  rw [<-hW1,hD]
  have:=World.alloc_heap_new (w.alloc (.deferred (some []))) (.loop (rc .ready none))
  rwa [zS] at this
 have hE:W1.heap[D]?=some (.deferred (some [])):=by
  rw [<-hW1,hD]
  exact (Below.heap_alloc _ _ _ (by simp)).trans (World.alloc_heap_new w _)
 have hI1:I [] W1:=by rw [<-hW1];exact hI.alloc _ (hI.alloc _ h0)
 have hB1:Below w.heap.size w W1:=by rw [<-hW1];exact ((Below.refl _ w).alloc zN _).alloc (by simp) _
 refine⟨D+1,[{ target:=.collected D,args:=#[] }],W1,{ target:=.fn (.func gf) lb,args:=#[.func (.yield (D+1)) #[] #[]] },W1,gf,#[.func (.yield (D+1)) #[] #[]]++lb,W1,?_,?_,?_,?_,fun _=>h1,?_⟩
 · rw [<-hW1,hrc,hD];exact run_enterLoop_outer _ _ _ _ _
 · simp only [resolve,hg]
   simp [go_sem]
 · intro f' hf'
   simp [Target.leads] at hf'
   subst hf'
   exact hFg
 · simp [invoke,go_sem,eg]
 · refine (hseq (D+1) (fun pre W=>I pre W/\W.heap[D+1]?=some (.loop (rc .ready none))/\W.heap[D]?=some (.deferred (some []))) W1 hB1 (fun pre W _ h=>⟨hI pre W _ none h.1 ⟨rfl,rfl,rfl,Nat.le_refl _,fun _ _ _=>rfl⟩ (fun r e=>by cases e),h.2⟩)
    (fun pre W v h=>⟨hIs pre W v h.1,(Below.heap_setCell W ⟨bb,0,none⟩ v (D+1) (by show D+1≠bb;omega)).trans h.2.1,(Below.heap_setCell W ⟨bb,0,none⟩ v D (by show D≠bb;omega)).trans h.2.2⟩) ?_ ⟨hI1,hL,hE⟩).mono ?_
   · rintro pre x W ⟨hi,hl,he⟩ hlen
     have hlt:D+1<W.heap.size:=(Array.getElem?_eq_some_iff.1 hl).1
     have hy:=run_yield (P:=P) (args:=encs x) hl (by rw [hrc];exact hps x)
     rw [hrc] at hy
     refine⟨fn,_,assign,body,hy,roundIn_of_wpIn hfn (hassign _ x W _ ⟨_,run_beginRound hl (by rw [hrc]),?_⟩)⟩
     obtain⟨W2,hW2⟩:∃ W2,W2=W.putObj (D+1) (.loop { rc .ready none with state:=.busy }):=⟨_,rfl⟩
     have hl2:W2.heap[D+1]?=some (.loop { rc .ready none with state:=.busy }):=by rw [hW2];exact World.putObj_heap_same hlt
     have he2:W2.heap[D]?=some (.deferred (some [])):=by rw [hW2];exact (World.putObj_heap_other (by omega)).trans he
     have hk2:Kp W W2:=by rw [hW2];exact hKb _ _ _ (by omega)
     have hi2:I pre W2:=by rw [hW2];exact hI.putObj _ hi (by omega) hl rfl
     rw [<-hW2]
     refine wpIn_mono (hbody _ pre x _ hi2 hlen) fun e a3 W3 hp=>?_
     cases e with
     | normal =>
       obtain⟨hk3,hp3,hi3⟩:=hp
       have hl3:=hk3.same _ _ hl2 rfl
       have hr:=run_endRound (P:=P) none hl3
       rw [hrc] at hr hl3
       refine⟨_,_,hr,rfl,⟨hI.putObj _ hi3 (by omega) hl3 rfl,?_,?_⟩,hKt (hKt hk2 hp3) (hKb _ _ _ (by omega))⟩
       · rw [hrc];exact World.putObj_heap_same (Array.getElem?_eq_some_iff.1 hl3).1
       · exact (World.putObj_heap_other (by omega)).trans (hk3.same _ _ he2 rfl)
     | ret=>exact hp.elim
     | exit id=>exact hp.elim
     | goto t=>exact hp.elim
     | panic ch=>exact hp.elim
     | outgrown=>exact hp.elim
   · rintro e W2 ⟨⟨v,rfl⟩,xs,hS,hi,hl,he⟩
     have hr:=run_endLoop (P:=P) hl (by rw [hrc];simp)
     rw [hrc] at hr
     exact⟨none,_,hr,hdone D xs _ (by omega) hS (hI.putObj _ hi (by omega) hl rfl) ((World.putObj_heap_other (by omega)).trans he)⟩
end
end
section
open Go Go.RowKit
theorem qxH (l:List Int):∀ a:Int,l.foldl min a<=a/\(∀ x∈l,l.foldl min a<=x)/\(l.foldl min a=a∨l.foldl min a∈l):=by
 induction l with
 | nil=>intro a;exact⟨Int.le_refl _,by simp,.inl rfl⟩
 | cons b r ih =>
   intro a
   obtain⟨h1,h2,h3⟩:=ih (min a b)
   rw [List.foldl_cons]
   refine⟨by omega,fun x hx=>?_,?_⟩
   · rcases List.mem_cons.1 hx with rfl | hx
     · omega
     · exact h2 x hx
   · rcases h3 with h3 | h3
     · rw [h3]
       by_cases hab:a<=b
       · exact .inl (by omega)
       · exact .inr (List.mem_cons.2 (.inl (by omega)))
     · exact .inr (List.mem_cons.2 (.inr h3))
theorem vvi {l:List Int} (h:l≠[]):zzJ l∈l/\∀ x∈l,zzJ l<=x:=by
 match l,h with
 | a::r,_ =>
   obtain⟨h1,h2,h3⟩:=qxH (a::r) a
   refine⟨?_,h2⟩
   show (a::r).foldl min a∈a::r
   rcases h3 with h3 | h3
   · rw [h3];exact List.mem_cons_self
   · exact h3
theorem yya {F:Nat->Prop} {w:World} {A:Option Addr} {n c:Nat} {l:List Int} (h:Sl tI64 F w A n c l) (hl:l≠[]):∃ b o,A=some ⟨b,o,none⟩/\b<w.heap.size/\∀ i (hi:i<l.length),w.cell? ⟨b,o+i,none⟩=some (.int .i64 l[i]) /\ -9223372036854775808<=l[i]/\l[i]<=9223372036854775807:=by
 obtain⟨b,o,_,rfl,_,hb,_,_⟩:=h.at1 (k:=0) (List.length_pos_iff.2 hl) rfl
 refine⟨b,o,rfl,hb,fun i hi=>?_⟩
 obtain⟨b',o',u,he,_,_,hr,hc⟩:=h.at1 hi rfl
 injection he with he;injection he with e1 e2 _
 subst e1;subst e2
 obtain⟨hr,h1,h2⟩:=hr
 injection hr with hr
 subst hr
 exact⟨hc,h1,h2⟩
theorem yy9 (F:Nat->Prop) (A:Option Addr) (n c:Nat) (l:List Int) (w:World) (h:Sl tI64 F w A n c l) (hl:l≠[]) :
 Calls Tryz.prog 205 #[.slice A n c] w fun e w'=>e=.returned (.int .i64 (zzJ l))/\w=w':=by
 obtain⟨b,o,rfl,_,hc⟩:=yya h hl
 have hlen:=h.len
 have h2:=h.2.1
 have h3:=h.2.2.1
 unfold maxLen at h3
 refine (Tryz.slices_Min_int b o n c l w (by have:=List.length_pos_iff.2 hl;omega) (by omega) (by omega) fun j hj=>?_).mono ?_
 · rw [(hc j hj).1,List.getD_eq_getElem?_getD,List.getElem?_eq_getElem hj];rfl
 · rintro e w1 ⟨rfl,rfl⟩
   refine⟨?_,rfl⟩
   rw [zL (by omega)]
   rfl
end
section
open Go Go.RowKit
theorem zqn (x:Int) (_ : -9223372036854775808<=x) (_:x<=9223372036854775807) (w:World):Calls Tryz.prog 95 #[.int .i64 x] w fun e w'=>e=.returned (.int .i64 (x % 1000))/\w=w':=by
 obtain⟨q,hq⟩:∃ q,q=x.tdiv 1000:=⟨_,rfl⟩
 obtain⟨r,hr⟩:∃ r,r=x.tmod 1000:=⟨_,rfl⟩
 have hqr:1000*q+r=x:=by rw [hq,hr];exact Int.mul_tdiv_add_tmod x 1000
 have hb : -1000<r/\r<1000:=by
  rw [hr]
  have h3:=Int.tmod_lt_of_pos x (show (0:Int)<1000 by decide)
  have e:x.tmod 1000 = -((-x).tmod 1000):=by rw [Int.neg_tmod,Int.neg_neg]
  have h2:=Int.tmod_lt_of_pos (-x) (show (0:Int)<1000 by decide)
  omega
 have HD:=zH (show x % 1000=(r+1000) % 1000 by omega)
 obtain⟨r0,r1⟩:=hb
 have HR:=hr.symm
 clear hqr hq hr
 go_enter Tryz.func95,Tryz.ntmps95
 go_wp2_with fail
 go_ret
 refine⟨?_,rfl⟩
 rw [HD.out]
 first
  | rfl
  | (show Ending.returned (Value.int IntKind.i64 ((r+1000).tmod 1000))=_;rw [Int.tmod_eq_emod_of_nonneg (by omega)])
theorem xqm (b:Bool) (n:Int) (s:ByteArray) (w:World):Calls Tryz.prog 147 #[.agg #[.bool b,.int .i64 n,.string s]] w fun e w'=>e=.returned (.bool (!b))/\Below w.heap.size w w':=by
 go_enter Tryz.func147,Tryz.ntmps147
 go_wp2_with fail
 go_ret
 exact⟨rfl,(zR).alloc zN _⟩
theorem jjW (b:Bool) (n:Int) (s:ByteArray) (w:World):Calls Tryz.prog 159 #[.agg #[.bool b,.int .i64 n,.string s]] w fun e w'=>e=.returned (.bool b)/\Below w.heap.size w w':=by
 go_enter Tryz.func159,Tryz.ntmps159
 go_wp2_with fail
 go_ret
 exact⟨rfl,(zR).alloc zN _⟩
theorem qzc (x:Int) (w:World):Calls Tryz.prog 91 #[.int .i64 x] w fun e w'=>e=.returned (.bool (x==1))/\w=w':=by
 go_enter Tryz.func91,Tryz.ntmps91
 go_wp2_with fail
 go_ret
 exact⟨rfl,rfl⟩
theorem qzd (x:Int) (w:World):Calls Tryz.prog 96 #[.int .i64 x] w fun e w'=>e=.returned (.int .i64 x)/\w=w':=by
 go_enter Tryz.func96,Tryz.ntmps96
 go_wp2_with fail
 go_ret
 exact⟨rfl,rfl⟩
end
section
open Go Go.RowKit
end
section
open Go Go.RowKit
theorem kqm (F:Nat->Prop) (A:Option Addr) (n c:Nat) (l:List UInt8) (w:World) (h:Sl tU8 F w A n c l) (hn:n<=34359738368):Calls Tryz.prog 181 #[.slice A n c] w (Own1 w l):=by
 cases A with
 | none =>
   have hl:l=[]:=by
    cases l with
    | nil=>rfl
    | cons x r=>obtain⟨b,o,_,e,_⟩:=h.at_ (k:=0) (by simp) (by decide);cases e
   have hn0:=h.len
   subst hl
   obtain rfl:n=0:=hn0
   have hq:(binOp .eql 41 (.slice none 0 c) (.slice none 0 0)).run Tryz.prog w=.ok (.bool true) w:=Lib.run_eql_slice_nil w _ _ none 0 c 0 0 (show Tryz.prog.underlying 41=some (.slice 5) by kernel_rfl)
   clear h hn
   go_enter Tryz.func181,Tryz.ntmps181
   go_wp2_with fail
   go_ret
   exact⟨none,0,0,rfl,OwnB.nil_ _ _,zR⟩
 | some a =>
   have hq:(binOp .eql 41 (.slice (some a) n c) (.slice none 0 0)).run Tryz.prog w=.ok (.bool false) w:=Lib.run_eql_slice_nil w _ _ (some a) n c 0 0 (show Tryz.prog.underlying 41=some (.slice 5) by kernel_rfl)
   have HS:=zH ((h.weaken (F':=fun b=>F b/\b<w.heap.size) fun b hb hl=>⟨hb,hl⟩).alloc (.cells #[] 5))
   have HE:=zH (World.ownsRow_lit w #[] 0 zN (by simp [maxLen]) rfl:OwnB (w.alloc (.cells #[] 5)) w.heap.size (some ⟨w.heap.size,0,none⟩) 0 0 [])
   clear h
   go_enter Tryz.func181,Tryz.ntmps181
   go_wp2_with (first
    | (at_builtin;refine apb (w.alloc (.cells #[] 5)) w rfl (.tmp 5) (.tmp 6) rfl w.heap.size (some ⟨w.heap.size,0,none⟩) 0 0 [] rfl HE.out ((zR).alloc zN _) zN _ (some a) n c l rfl HS.out (by omega) ?_;intro A5 c5 w5 h5 hb5 _)
    | fail)
   go_ret
   rw [Nat.zero_add,List.nil_append] at h5
   exact⟨A5,n,c5,rfl,h5,hb5⟩
end
end Go.Proofs.YtpmglcachffojaaGreatDoor
