/- A part of what Indexes leans on. -/
import Derived.Test.YtpmglcachffojaaGreatDoorZ1
import Derived.RangeFuncNested
import Derived.RangeFuncBound
import Derived.RangeFuncLeaves
import Derived.RangeFuncBox
import Derived.Shelf.Abstract
import Derived.Shelf.RegionOpen
import Derived.OwnWalkIn
import Derived.TacticsInMore
import Derived.LoopNIn
import Derived.LoopIn
import Derived.RegionIn
import Derived.Test.YtpmglcachffojaaGreatDoorZS1
import Derived.Deep.CutRange
import Derived.Laws.OwnMore
import Derived.Maps.OwnIn
set_option maxRecDepth 100000
set_option maxHeartbeats 16000000
namespace Go.Proofs.YtpmglcachffojaaGreatDoor
section
open Go Go.RowKit
def SeqSt {α:Type} (F:Fence) (n:Nat) (P:Program) (g:Nat) (lb:Array Value) (encs:α->Array Value) (bb:Nat) (Kp:World->World->Prop) (S:List α->Prop) (N:Nat) (w:World):Prop :=
 ∀ (l:Nat) (J:List α->World->Prop) (W:World),Below w.heap.size w W->(∀ pre W1 k,J pre W1->J pre (W1.drewN k))->(∀ pre W1 v,J pre W1->J pre (W1.setCell ⟨bb,0,none⟩ v)) ->
  (∀ pre x W1,J pre W1->pre.length<N->YieldAt F (n - 1) P l (encs x) W1 fun e W'=>e=.returned (.bool true)/\J (pre++[x]) W'/\Kp W1 W') ->
  J [] W->CallsIn F n P g (#[.func (.yield l) #[] #[]]++lb) W fun e W'=>(∃ v,e=.returned v)/\∃ xs,S xs/\J xs W'
def stPost {α:Type} (Kp:World->World->Prop) (I:List α->World->Prop) (xs:List α) (W:World):Exit->Act->World->Prop
 | .normal,_,W'=>KeepsOthers W W'/\Kp W W'/\I xs W'
 | _,_,_=>False
section
variable {F:Fence} {n:Nat} {P:Program}
theorem qzD {α:Type} {g:Operand} {ps:Array Tmp} {assign body:Code} {Q:Exit->Act->World->Prop} {a:Act} {w:World} (hro:F.round=none) (h1:1<=n)
 {gf:Nat} {lb:Array Value} (hg:a.eval g=.func (.func gf) #[] lb) (hFg:F.fn gf) (eg:∀ args w,(callFunc gf args).run P w=.ok (.enter gf args) w)
 {encs:α->Array Value} {bb:Nat} (hbb:bb<w.heap.size) {Kp:World->World->Prop} {S:List α->Prop} {N:Nat} (hseq:SeqSt F (n - 1) P gf lb encs bb Kp S N w)
 (hKt:∀ {A B C:World},Kp A B->Kp B C->Kp A C) (hKb:∀ (W:World) (l:Nat) (o:Obj),w.heap.size<=l->Kp W (W.putObj l o)) (hps:∀ x,(encs x).size=ps.size)
 (I:List α->World->Prop) (hI:OwnFrom w.heap.size I) (hIs:∀ pre W v,I pre W->I pre (W.setCell ⟨bb,0,none⟩ v)) (h0:I [] w) (a₁:α->Act)
 (hassign:∀ (l:Nat) (x:α) (W:World) (K:Act->World->Prop),K (a₁ x) W->assign.wpIn (F.inRound l) (n - 1 - 1) P (Exit.then K (fun _ _ _=>False)) { tmps:=(ps.zip (encs x)).foldl (fun t (p,v)=>t.setIfInBounds p v) a.tmps,defers:=[] } W)
 (hbody:∀ (l:Nat) (pre:List α) (x:α) (W:World),I pre W->pre.length<N->body.wpIn (F.inRound l) (n - 1 - 1) P (stPost Kp I (pre++[x]) W) (a₁ x) W)
 (hdone:∀ (D:Nat) (xs:List α) (W:World),w.heap.size<=D->S xs->I xs W->W.heap[D]?=some (.deferred (some []))->Q .normal { a with defers:={ target:=.collected D,args:=#[] }::a.defers } W) :
 (Code.rangeFunc g ps assign body).wpIn F n P Q a w:=by
 refine wpIn_rangeFunc fun fn hfn=>?_
 rw [hro]
 obtain⟨rc,hrc⟩:∃ rc:LoopState->Option Code->Loop,rc=fun st pe=>{ state:=st,pending:=pe,fn,tmps:=a.tmps,params:=ps,assign,body,defers:=w.heap.size }:=⟨_,rfl⟩
 obtain⟨D,hD⟩:∃ D,D=w.heap.size:=⟨_,rfl⟩
 obtain⟨W1,hW1⟩:∃ W1,(w.alloc (.deferred (some []))).alloc (.loop (rc .ready none))=W1:=⟨_,rfl⟩
 have hL:W1.heap[D+1]?=some (.loop (rc .ready none)):=by
  rw [<-hW1,hD]
  have:=World.alloc_heap_new (w.alloc (.deferred (some []))) (.loop (rc .ready none))
  rwa [zS] at this
 have hE:W1.heap[D]?=some (.deferred (some [])):=by
  rw [<-hW1,hD]
  exact (Below.heap_alloc _ _ _ (by simp)).trans (World.alloc_heap_new w _)
 have hI1:I [] W1:=by rw [<-hW1];exact hI.alloc _ (hI.alloc _ h0)
 have hB1:Below w.heap.size w W1:=by rw [<-hW1];exact ((Below.refl _ w).alloc zN _).alloc (by simp) _
 refine⟨D+1,[{ target:=.collected D,args:=#[] }],W1,{ target:=.fn (.func gf) lb,args:=#[.func (.yield (D+1)) #[] #[]] },W1,gf,#[.func (.yield (D+1)) #[] #[]]++lb,W1,?_,?_,?_,?_,fun _=>h1,?_⟩
 · rw [<-hW1,hrc,hD];exact run_enterLoop_outer _ _ _ _ _
 · simp only [resolve,hg]
   simp [go_sem]
 · intro f' hf'
   simp [Target.leads] at hf'
   subst hf'
   exact hFg
 · simp [invoke,go_sem,eg]
 · refine (hseq (D+1) (fun pre W=>I pre W/\W.heap[D+1]?=some (.loop (rc .ready none))/\W.heap[D]?=some (.deferred (some []))) W1 hB1 (fun pre W _ h=>⟨hI pre W _ none h.1 ⟨rfl,rfl,rfl,Nat.le_refl _,fun _ _ _=>rfl⟩ (fun r e=>by cases e),h.2⟩)
    (fun pre W v h=>⟨hIs pre W v h.1,(Below.heap_setCell W ⟨bb,0,none⟩ v (D+1) (by show D+1≠bb;omega)).trans h.2.1,(Below.heap_setCell W ⟨bb,0,none⟩ v D (by show D≠bb;omega)).trans h.2.2⟩) ?_ ⟨hI1,hL,hE⟩).mono ?_
   · rintro pre x W ⟨hi,hl,he⟩ hlen
     have hlt:D+1<W.heap.size:=(Array.getElem?_eq_some_iff.1 hl).1
     have hy:=run_yield (P:=P) (args:=encs x) hl (by rw [hrc];exact hps x)
     rw [hrc] at hy
     refine⟨fn,_,assign,body,hy,roundIn_of_wpIn hfn (hassign _ x W _ ⟨_,run_beginRound hl (by rw [hrc]),?_⟩)⟩
     obtain⟨W2,hW2⟩:∃ W2,W2=W.putObj (D+1) (.loop { rc .ready none with state:=.busy }):=⟨_,rfl⟩
     have hl2:W2.heap[D+1]?=some (.loop { rc .ready none with state:=.busy }):=by rw [hW2];exact World.putObj_heap_same hlt
     have he2:W2.heap[D]?=some (.deferred (some [])):=by rw [hW2];exact (World.putObj_heap_other (by omega)).trans he
     have hk2:Kp W W2:=by rw [hW2];exact hKb _ _ _ (by omega)
     have hi2:I pre W2:=by rw [hW2];exact hI.putObj _ hi (by omega) hl rfl
     rw [<-hW2]
     refine wpIn_mono (hbody _ pre x _ hi2 hlen) fun e a3 W3 hp=>?_
     cases e with
     | normal =>
       obtain⟨hk3,hp3,hi3⟩:=hp
       have hl3:=hk3.same _ _ hl2 rfl
       have hr:=run_endRound (P:=P) none hl3
       rw [hrc] at hr hl3
       refine⟨_,_,hr,rfl,⟨hI.putObj _ hi3 (by omega) hl3 rfl,?_,?_⟩,hKt (hKt hk2 hp3) (hKb _ _ _ (by omega))⟩
       · rw [hrc];exact World.putObj_heap_same (Array.getElem?_eq_some_iff.1 hl3).1
       · exact (World.putObj_heap_other (by omega)).trans (hk3.same _ _ he2 rfl)
     | ret=>exact hp.elim
     | exit id=>exact hp.elim
     | goto t=>exact hp.elim
     | panic ch=>exact hp.elim
     | outgrown=>exact hp.elim
   · rintro e W2 ⟨⟨v,rfl⟩,xs,hS,hi,hl,he⟩
     have hr:=run_endLoop (P:=P) hl (by rw [hrc];simp)
     rw [hrc] at hr
     exact⟨none,_,hr,hdone D xs _ (by omega) hS (hI.putObj _ hi (by omega) hl rfl) ((World.putObj_heap_other (by omega)).trans he)⟩
end
end
section
open Go Go.RowKit
attribute [local go_sem ↓] Go.wp_at_zero Go.wp_at_succ
theorem zqU (x:Nat):(x:Int) % 128+128=((UInt8.ofNat (x % 128+128)).toNat:Int):=by
 rw [UInt8.toNat_ofNat'];omega
theorem OwnB.new0 (w:World) (B:Nat) (hB:B<=w.heap.size):OwnB (w.alloc (.cells #[] 5)) B (some ⟨w.heap.size,0,none⟩) 0 0 []:=by
 have:=World.ownsRow_lit (base:=B) (e:=5) (size:=1) w #[] 0 hB (by simp [maxLen]) (by simp)
 simpa [OwnB,bvs] using this
theorem qz0 (F:Nat->Prop) (A:Option Addr) (n c:Nat) (bs:List UInt8) (x:Nat) (w:World) (h:Bs F w A n c bs) (hn:n<=4294967200) (hx:x<18446744073709551616) :
 Calls Tryz.prog 128 #[.slice A n c,.int .u64 (x:Int)] w (Own1 w (bs++vput x)):=by
 have HN:=zH h.len
 have HNEW:=zH (OwnB.new0 w w.heap.size zN)
 have HB0:=zH (show Below w.heap.size w (w.alloc (.cells #[] 5)) from (zR).alloc zN _)
 have HSRC:=zH (Sl.alloc h (.cells #[] 5))
 clear h
 go_enter Tryz.func128,Tryz.ntmps128
 go_wp2_with (at_builtin;refine apb (w.alloc (.cells #[] 5)) w rfl (.tmp 6) (.tmp 7) rfl w.heap.size (some ⟨w.heap.size,0,none⟩) 0 0 [] rfl HNEW.out HB0.out zN F A n c bs rfl HSRC.out (by omega) ?_;intro A1 c1 w1 h1 hb1 _)
 have H1:=zH h1;have HB1:=zH hb1
 clear h1 hb1 HNEW HB0 HSRC
 go_loopw [5,1] (fun v xv wr=>∃ (f x':Nat) (L:List UInt8) (A2:Option Addr) (m c2:Nat),m+f<=n+9/\xv=.int .u64 (x':Int)/\v=.slice A2 m c2/\OwnB wr w.heap.size A2 m c2 L/\L++yyI f x'=bs++vput x/\x'<128 ^ (f+1)/\x'<18446744073709551616/\Below w.heap.size w wr)
  (fun _ xv _=>(intOf xv).toNat)
 case atStart=>exact⟨9,x,bs,A1,n,c1,by omega,rfl,rfl,by have:=H1.out;simpa using this,rfl,by omega,hx,HB1.out⟩
 case round =>
  obtain⟨f,x',L,A2,m,c2,hm,rfl,rfl,hown,heq,hlt,hlt2,hb⟩:=hrel
  have HE:=zH heq;have HO:=zH hown;have HL:=zH hlt
  clear heq hown hlt
  have hsz:=hb.size
  by_cases hx':x'<128
  · have HLAST:=zH (qzs x')
    go_wp2_with (at_builtin;refine apb1 wr w rfl (.tmp 20) (.tmp 23) rfl w.heap.size A2 m c2 L rfl HO.out hb zN _ rfl (UInt8.ofNat x') (by rw [<-HLAST.out,IntKind.wrap_u8,show (x':Int) % 256=(x':Int) by omega]) (by omega) ?_;intro A3 c3 w3 h3 hb3 _)
    go_ret
    refine⟨A3,m+1,c3,rfl,?_,hb3⟩
    have hfin:L++[UInt8.ofNat x']=bs++vput x:=by
     rw [<-HE.out]
     cases f <;> simp [yyI,hx']
    rw [<-hfin];exact h3
  · have HM:=zH (zqU x')
    go_wp2_with (at_builtin;refine apb1 wr w rfl (.tmp 11) (.tmp 16) rfl w.heap.size A2 m c2 L rfl HO.out hb zN _ rfl (UInt8.ofNat (x' % 128+128)) (by rw [<-HM.out]) (by omega) ?_;intro A3 c3 w3 h3 hb3 _)
    go_roundw
    case rel =>
     obtain⟨f,rfl⟩:∃ f',f=f'+1:=by
      cases f with
      | zero=>have:=HL.out;omega
      | succ f=>exact⟨f,rfl⟩
     have hlt:=HL.out
     refine⟨f,x' / 128,L++[UInt8.ofNat (x' % 128+128)],A3,m+1,c3,by omega,by go_num,rfl,h3,?_,?_,by omega,hb3⟩
     · rw [<-HE.out]
       simp [yyI,hx']
     · rw [Nat.pow_succ] at hlt;exact Nat.div_lt_of_lt_mul (by omega)
    case measure=>simp [intOf];omega
theorem qxN (x:Int) (w:World) (h0 : -9223372036854775808<=x) (h1:x<=9223372036854775807) :
 Calls Tryz.prog 127 #[.int .i64 x] w fun e w'=>e=.returned (.int .u64 (zigN x:Nat))/\w=w':=by
 by_cases hx:x<0
 · go_enter Tryz.func127,Tryz.ntmps127
   go_wp2
   go_ret
   refine⟨uul ?_,rfl⟩
   unfold zigN;split <;> omega
 · go_enter Tryz.func127,Tryz.ntmps127
   go_wp2
   go_ret
   refine⟨uul ?_,rfl⟩
   unfold zigN;split <;> omega
theorem vv5 (F:Nat->Prop) (A:Option Addr) (n c:Nat) (bs:List UInt8) (x:Int) (w:World) (h:Bs F w A n c bs) (hn:n<=4294967200) (h0:0<=x) (hx:x<18446744073709551616) :
 Calls Tryz.prog 128 #[.slice A n c,.int .u64 x] w (Own1 w (bs++vput x.toNat)):=by
 obtain⟨k,rfl⟩:=Int.eq_ofNat_of_zero_le h0
 rw [Int.toNat_natCast]
 exact qz0 F A n c bs k w h hn (by omega)
end
section
open Go Go.RowKit Go.Shelf
attribute [local go_sem] Oper.semAt_some
def xx1 (m k:Nat):List (Fin m):=(List.finRange m).take k
theorem uuJ (m k:Nat) (hk:k<=m):(xx1 m k).length=k:=by simp [xx1];omega
theorem vvs (m k:Nat) (hk:k<m):xx1 m (k+1)=xx1 m k++[⟨k,hk⟩]:=by
 unfold xx1
 rw [zT (by simpa using hk)]
 simp
theorem zql (m:Nat):xx1 m m=List.finRange m:=by unfold xx1;rw [zL (by simp)]
def KpC (b0 b1:Nat) (W W':World):Prop:=W'.heap[b0]?=W.heap[b0]?/\W'.heap[b1]?=W.heap[b1]?
theorem KpC.refl (b0 b1:Nat) (W:World):KpC b0 b1 W W:=⟨rfl,rfl⟩
theorem KpC.trans {b0 b1:Nat} {A B C:World} (h:KpC b0 b1 A B) (k:KpC b0 b1 B C):KpC b0 b1 A C:=⟨k.1.trans h.1,k.2.trans h.2⟩
theorem KpC.put {b0 b1:Nat} {w:World} (h0:b0<w.heap.size) (h1:b1<w.heap.size) (W:World) (l:Nat) (o o':Obj) (hl:w.heap.size<=l) (_:W.heap[l]?=some o) (_:o.isCells=false) (_:o.isWalk=false):KpC b0 b1 W (W.putObj l o') :=
 ⟨World.putObj_heap_other (by omega),World.putObj_heap_other (by omega)⟩
theorem KpC.grown {b0 b1:Nat} {W W':World} {row:Option Nat} (h:W.grownBy W' row) (h0:b0<W.heap.size) (h1:b1<W.heap.size) (hr:∀ k,row=some k->k≠b0/\k≠b1):KpC b0 b1 W W' :=
 ⟨h.block b0 h0 (fun e=>(hr b0 e.symm).1 rfl),h.block b1 h1 (fun e=>(hr b1 e.symm).2 rfl)⟩
def uu6 (A:Option Addr) (st N:Nat) {m:Nat} (x:Fin m):Array Value:=#[.slice (A.map fun a=>a.add (st*x.val)) (min st (N - st*x.val)) (min st (N - st*x.val))]
theorem chRow1_in (F:Fence) (n:Nat) (hf:F.fn 111) (hro:F.round=none) (hn:1<=n) (l b0 b1:Nat) (A:Option Addr) (st m N cap:Nat) (hst:1<=st) (hst2:st<=4096) (hN:∀ k,k<m↔st*k<N) (hN2:N<=4294967296) (hcap:N<=cap) (hcm:cap<=maxLen) (J Jx:List (Fin m)->World->Prop)
 (hJ:∀ pre W,J pre W->J pre W.drew)
 (hY:∀ pre (x:Fin m) W,J pre W->pre=xx1 m x.val->pre.length<m->YieldAt F (n - 1) Tryz.prog l (uu6 A st N x) W fun e W' =>
   (e=.returned (.bool true)/\J (pre++[x]) W'/\KpC b0 b1 W W')∨(e=.returned (.bool false)/\Jx (pre++[x]) W'))
 (W:World) (h0':W.heap[b0]?=some (.cells #[.slice A N cap] 35 (0,0))) (h1':W.heap[b1]?=some (.cells #[.int .i64 (st:Int)] 3 (0,0))) (h0:J [] W) :
 CallsIn F n Tryz.prog 111 #[.func (.yield l) #[] #[],.pointer (some ⟨b0,0,none⟩),.pointer (some ⟨b1,0,none⟩)] W fun e W'=>(∃ v,e=.returned v) /\
  ((∃ ys,ys=xx1 m m/\J ys W')∨(∃ pre,(∃ k,k<=m/\pre=xx1 m k)/\Jx pre W')):=by
 unfold maxLen at hcm
 have HN:=zH hN;clear hN
 have HA:=zH h0';have HB:=zH h1'
 have q0:W.cell? ⟨b0,0,none⟩=some (.slice A N cap):=by rw [zC h0'];rfl
 have q1:W.cell? ⟨b1,0,none⟩=some (.int .i64 (st:Int)):=by rw [zC h1'];rfl
 clear h0' h1'
 refine callsIn_of_wp Tryz.func111 rfl hf ?_ hro
 simp only [Tryz.ntmps111,List.size_toArray,List.length_cons,List.length_nil,Nat.reduceAdd,Nat.reduceSub,Array.replicate_succ,Array.replicate_zero,List.push_toArray,List.append_toArray,List.nil_append,List.cons_append]
 gi_wp2
 gi_loopw [4] (fun i wr=>∃ (k j:Nat),k<=m/\j<=N+4096/\Hid (j=st*k)/\i=.int .i64 (j:Int)/\J (xx1 m k) wr/\KpC b0 b1 W wr)
  (fun i _=>N+4096 - (intOf i).toNat)
 case atStart=>exact⟨0,0,Nat.zero_le _,Nat.zero_le _,zH (by rw [Nat.mul_zero]),rfl,h0,KpC.refl _ _ _⟩
 case round =>
  obtain⟨k,j,hk,hj,HJ,rfl,hJs,hnx⟩:=hrel
  have HNX:=zH hnx;clear q0 q1
  have c0:wr.cell? ⟨b0,0,none⟩=some (.slice A N cap):=by rw [zC (hnx.1.trans HA.out)];rfl
  have c1:wr.cell? ⟨b1,0,none⟩=some (.int .i64 (st:Int)):=by rw [zC (hnx.2.trans HB.out)];rfl
  clear hnx
  by_cases hlt:k<m
  · obtain⟨fn,tmps,assign,body,hy,hR⟩:=hY _ ⟨k,hlt⟩ wr.drew (hJ _ _ hJs) rfl (by rw [uuJ _ _ hk];exact hlt)
    dsimp only [uu6] at hy
    have hjk:=HJ.out
    rw [<-hjk] at hy
    have hjN:j<N:=by rw [hjk];exact (HN.out k).1 hlt
    obtain⟨q,hq⟩:∃ q,q=min st (N - j):=⟨_,rfl⟩
    rw [<-hq] at hy
    have HQ:=zH hq
    have hq1:1<=q:=by omega
    have hq2:j+q<=N:=by omega
    have hq3:q<=st:=by omega
    have HNXT:Hid (j+st=st*(k+1)):=zH (by rw [Nat.mul_succ];omega)
    clear hjk
    have hlt':(j:Int)<(N:Int):=by omega
    have hi0:(0:Int)<=(j:Int):=by omega
    have hi1:(j:Int)<=(N:Int):=by omega
    have hi2:(j:Int)<=(cap:Int):=by omega
    have hi3:(j:Int)+(q:Int)<=(cap:Int):=by omega
    have hi4:(0:Int)<=(j:Int)+(q:Int):=by omega
    have hi5:(j:Int)<=(j:Int)+(q:Int):=by omega
    have HMN:=zH (show min (st:Int) ((N - j:Nat):Int)=(q:Int) by have:=HQ.out;omega)
    have HIF:Hid ((if N - j<st then ((N - j:Nat):Int) else (st:Int))=(q:Int)):=zH (by have:=HQ.out;split <;> omega)
    have HIG:Hid ((if st<N - j then (st:Int) else ((N - j:Nat):Int))=(q:Int)):=zH (by have:=HQ.out;split <;> omega)
    have hw1:(j:Int)+(st:Int)<=4294971392:=by omega
    clear hq
    have hmx:Tryz.prog.follows .mixedOrders=true:=by kernel_rfl
    gi_wp2
    gi_region
    all_goals
     first | rw [HIF.out] | rw [HIG.out] | rw [HMN.out] | fail
     gi_wp2
     refine hR.mono ?_
     rintro e W3 (⟨rfl,hJ3,hk3⟩ | ⟨rfl,hJx3⟩)
     · have c1':W3.cell? ⟨b1,0,none⟩=some (.int .i64 (st:Int)):=by rw [zC (hk3.2.trans (HNX.out.2.trans HB.out))];rfl
       have HK3:=zH hk3;clear hk3
       gi_wp2
       go_roundw
       case rel=>exact⟨k+1,j+st,by omega,by omega,HNXT,by go_num,by rw [vvs _ _ hlt];exact hJ3,HNX.out.trans HK3.out⟩
       case measure=>simp [intOf];omega
     · gi_wp2
       refine bodyPost_ret (results_none rfl _ _ _) rfl ?_
       exact⟨⟨_,rfl⟩,.inr ⟨_,⟨k+1,by omega,(vvs _ _ hlt).symm⟩,hJx3⟩⟩
  · obtain rfl:k=m:=by omega
    have hge:¬ (j:Int)<(N:Int):=by have h1:=HJ.out;have h2:=HN.out k;omega
    gi_wp2
    go_end0
    first | exact⟨⟨_,rfl⟩,.inl ⟨_,rfl,hJs⟩⟩ | exact⟨⟨_,rfl⟩,.inl hJs⟩ | exact .inl hJs | exact hJs
theorem chRow_in (F:Fence) (n:Nat) (hf:F.fn 54) (hro:F.round=none) (A:Option Addr) (N cap st:Nat) (hst:1<=st) (w:World) :
 CallsIn F n Tryz.prog 54 #[.slice A N cap,.int .i64 (st:Int)] w fun e w'=>e=.returned (.func (.func 111) #[] #[.pointer (some ⟨w.heap.size,0,none⟩),.pointer (some ⟨w.heap.size+1,0,none⟩)]) /\
  w'=(w.alloc (.cells #[.slice A N cap] 35)).alloc (.cells #[.int .i64 (st:Int)] 3):=by
 refine callsIn_of_wp Tryz.func54 rfl hf ?_ hro
 simp only [Tryz.ntmps54,List.size_toArray,List.length_cons,List.length_nil,Nat.reduceAdd,Nat.reduceSub,Array.replicate_succ,Array.replicate_zero,List.push_toArray,List.append_toArray,List.nil_append,List.cons_append]
 have h1:¬ (st:Int)<1:=by omega
 gi_wp2
 go_ret
 exact⟨rfl,rfl⟩
theorem qxa (F:Fence) (n:Nat) (hf:F.fn 111) (hro:F.round=none) (hn:1<=n) (b0 b1:Nat) (A:Option Addr) (st m N cap:Nat) (hst:1<=st) (hst2:st<=4096) (hN:∀ k,k<m↔st*k<N) (hN2:N<=4294967296) (hcap:N<=cap) (hcm:cap<=maxLen) (w:World)
 (h0:w.heap[b0]?=some (.cells #[.slice A N cap] 35 (0,0))) (h1:w.heap[b1]?=some (.cells #[.int .i64 (st:Int)] 3 (0,0))) :
 SeqStopsK F n Tryz.prog 111 #[.pointer (some ⟨b0,0,none⟩),.pointer (some ⟨b1,0,none⟩)] (fun x:Fin m=>uu6 A st N x) (KpC b0 b1) (fun ys=>ys=List.finRange m) (fun pre=>∃ k,k<=m/\pre=xx1 m k) m w:=fun l J Jx W hW hJ _ hY hJ0=>by
 have l0:b0<w.heap.size:=(Array.getElem?_eq_some_iff.1 h0).1
 have l1:b1<w.heap.size:=(Array.getElem?_eq_some_iff.1 h1).1
 refine (chRow1_in F n hf hro hn l b0 b1 A st m N cap hst hst2 hN hN2 hcap hcm J Jx (fun pre W1 hs=>hJ pre W1 W1.drew none hs ⟨rfl,rfl,rfl,Nat.le_refl _,fun _ _ _=>rfl⟩ (fun r e=>by cases e)) (fun pre x W1 h _ h2=>hY pre x W1 h h2) W ((hW.block _ l0).trans h0) ((hW.block _ l1).trans h1) hJ0).mono ?_
 rintro e W' ⟨he,⟨ys,rfl,hj⟩ | ⟨pre,hp,hj⟩⟩
 · exact⟨he,.inl ⟨_,zql m,hj⟩⟩
 · exact⟨he,.inr ⟨pre,hp,hj⟩⟩
end
end Go.Proofs.YtpmglcachffojaaGreatDoor
