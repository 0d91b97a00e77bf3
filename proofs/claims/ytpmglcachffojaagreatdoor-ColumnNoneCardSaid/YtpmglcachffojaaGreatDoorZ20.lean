/- A part of what None leans on. -/
import Derived.Test.YtpmglcachffojaaGreatDoorZ19
set_option maxRecDepth 100000
set_option maxHeartbeats 16000000
namespace Go.Proofs.YtpmglcachffojaaGreatDoor
section
open Go Go.RowKit Go.Shelf BigFrame
attribute [local go_sem] Oper.semAt_some
section
variable {w0 w w' W:World} {n0 ob lb B:Nat} {Ao A' Al:Option Addr} {no co n' c' nl cl:Nat} {out out' lst lst':List UInt8}
theorem FlR.turn (h:FlR w0 n0 ob lb B Ao no co out Al nl cl lst w) {row:Option Nat} (hg:w.grownBy w' row) (hr:∀ r,row=some r->B<=r/\∃ o:Obj,w.heap[r]?=some o/\o.isCells=false):FlR w0 n0 ob lb B Ao no co out Al nl cl lst w':=by
 have ho:=h.ord
 have hne:∀ b,b<B->some b≠row:=fun b hb e=>by have:=(hr b e.symm).1;omega
 have hcell:∀ b,(∃ cur e fr,w.heap[b]?=some (.cells cur e fr))->some b≠row:=fun b ⟨cur,e,fr,hb⟩ e2=>by
  obtain⟨_,o,h1,h2⟩:=hr b e2.symm
  rw [hb] at h1
  injection h1 with h1
  subst h1
  cases h2
 refine⟨(hg.block ob (by omega) (hne ob (by omega))).trans h.obox,(hg.block lb (by omega) (hne lb (by omega))).trans h.lbox,zzC h.out fun b hb=>hg.block b (h.out.lt b hb).2 (hcell b ?_),h.lst.keep fun g hg'=>hg.block g (h.lst.blk hg').2.1 (hcell g ?_),h.apart,?_,?_⟩
 · rcases h.out.2 with ⟨e1,_⟩ | ⟨g,cap,cur,e1,_,hgc,_⟩
   · rw [e1] at hb;cases hb
   · rw [e1] at hb;injection hb with hb;subst hb;exact⟨_,_,_,hgc⟩
 · obtain⟨_,_,cur,hc⟩:=h.lst.blk hg'
   exact⟨_,_,_,hc⟩
 · exact⟨ho.1,ho.2.1,ho.2.2.1,ho.2.2.2.1,ho.2.2.2.2.1,Nat.le_trans ho.2.2.2.2.2 hg.size⟩
 · exact h.below.grown hg (by omega) (fun k e=>by have:=(hr k e).1;omega)
theorem FlR.other (h:FlR w0 n0 ob lb B Ao no co out Al nl cl lst w) {b:Nat} (hb:b<B) (h1:b≠ob) (h2:b≠lb) (h3:n0<=b) (v:Value):FlR w0 n0 ob lb B Ao no co out Al nl cl lst (w.setCell ⟨b,0,none⟩ v):=by
 have ho:=h.ord
 exact⟨zzd h.obox (Ne.symm h1),zzd h.lbox (Ne.symm h2),zzC h.out fun k hk=>Below.heap_setCell w ⟨b,0,none⟩ _ k (fun e=>by have:=(h.out.lt k hk).1;simp at e;omega),h.lst.keep fun g hg=>Below.heap_setCell w ⟨b,0,none⟩ _ g (fun e=>by have:=(h.lst.blk hg).1;simp at e;omega),h.apart,by simpa using ho,zzn h.below h3 _⟩
theorem FlR.growL (h:FlR w0 n0 ob lb B Ao no co out Al nl cl lst w) (hm:MidB w' B A' n' c' lst') (hg:w.grownBy w' (blkM Al cl)) (hl:blkM A' c'=blkM Al cl∨∀ g,blkM A' c'=some g->w.heap.size<=g) :
 (w'.heap[ob]?=w.heap[ob]?)/\(w'.heap[lb]?=w.heap[lb]?)/\FlR w0 n0 ob lb B Ao no co out A' n' c' lst' (w'.setCell ⟨lb,0,none⟩ (.slice A' n' c'))/\FlK ob lb B w (w'.setCell ⟨lb,0,none⟩ (.slice A' n' c')):=by
 have ho:=h.ord
 have hrow:∀ k,blkM Al cl=some k->B<=k:=fun k hk=>(h.lst.blk hk).1
 have hne:∀ b,b<B->some b≠blkM Al cl:=fun b hb e=>by have:=hrow b e.symm;omega
 have e1:=hg.block ob (by omega) (hne ob (by omega))
 have e2:=hg.block lb (by omega) (hne lb (by omega))
 have hlb:=e2.trans h.lbox
 have hout:OwnB w' B Ao no co out:=zzC h.out fun b hb=>hg.block b (h.out.lt b hb).2 (fun e=>h.apart b e.symm (by rw [<-zzb Ao no co];exact hb))
 have hap:∀ g,blkM A' c'=some g->Ao.map (·.block)≠some g:=fun g hg' e=>by
  rcases hl with h1 | h1
  · exact h.apart g (by rw [<-h1];exact hg') e
  · have:=h1 g hg'
    have:=(zzx h.out.own e).2.2
    omega
 refine⟨e1,e2,⟨zzd (e1.trans h.obox) (by omega),zza hlb rfl,zzC hout fun b hb=>Below.heap_setCell w' ⟨lb,0,none⟩ _ b (fun e=>by have:=(hout.lt b hb).1;simp at e;omega),hm.keep fun g hg=>Below.heap_setCell w' ⟨lb,0,none⟩ _ g (fun e=>by have:=(hm.blk hg).1;simp at e;omega),hap,?_,?_⟩,?_⟩
 · have:=hg.size
   have h6:B<=(w'.setCell ⟨lb,0,none⟩ (.slice A' n' c')).heap.size:=by simp;omega
   exact⟨ho.1,ho.2.1,ho.2.2.1,ho.2.2.2.1,ho.2.2.2.2.1,h6⟩
 · exact zzn (h.below.grown hg (by omega) (fun k e=>by have:=hrow k e;omega)) ho.2.1 _
 · refine FlK.trans ⟨KeepsOthers.of_grownBy hg fun j o hj hjo=>?_,fun b hb _ _=>hg.block b (by omega) (hne b hb)⟩ (FlK.setL _ _)
   obtain⟨_,_,cur,hc⟩:=h.lst.blk hj
   rw [hc] at hjo
   injection hjo with hjo
   subst hjo
   rfl
end
theorem FlK.below {ob lb B:Nat} {w w':World} (hB:B<=w.heap.size) (h:Below w.heap.size w w'):FlK ob lb B w w' :=
 ⟨⟨h.size,fun k o hk _=>(h.block k (zzc hk)).trans hk⟩,fun b hb _ _=>h.block b (by omega)⟩
section
variable {F:Fence} {nF:Nat} {ops:Array Oper} {rest:List Oper} {o:Oper} {a:Act} {Q:Exit->Act->World->Prop} {w:World}
theorem zqD {K:Act->World->Prop} {E':Prop} (hgd:o.guard=none) (s x:Operand) (ho:o.op=.call { callee:=.builtin .append,args:=#[s,x],argTypes:=#[41,41] }) (B:Nat) (A:Option Addr) (n c:Nat) (l:List UInt8) (hs:a.eval s=.slice A n c)
 (hown:MidB w B A n c l) (hB:B<=w.heap.size) (G:Nat->Prop) (ad:Addr) (m c2:Nat) (ys:List UInt8) (hx:a.eval x=.slice (some ad) m c2) (hsl:Bs G w (some ad) m c2 ys) (hm:1<=m) (hlim:n+m<=68719476736)
 (h:∀ A' c' w',MidB w' B A' (n+m) c' (l++ys)->w.grownBy w' (blkM A c)->(blkM A' c'=blkM A c∨∀ g,blkM A' c'=some g->w.heap.size<=g)->K (a.put o.dst (.slice A' (n+m) c')) w') :
 if Region.wanted o (yielded ops a.tmps)=true then Oper.wp Tryz.prog o a w K Q else E':=by
 have hw:Region.wanted o (yielded ops a.tmps)=true:=by simp [Region.wanted,hgd]
 rw [if_pos hw]
 obtain⟨A',c',w',hrun,h2,h3,h4⟩:=jj1 w B A n c l hown hB o.type G ad m c2 ys hsl hm hlim
 unfold Oper.wp execOp
 simp only [ho,resolve,invoke,builtin,Sem.run_bind,Sem.run_pure,Result.andThen_ok,List.map_toArray,List.map_cons,List.map_nil,hs,hx,hrun]
 exact h A' c' w' h2 h3 h4
theorem xqn (hgd:o.guard=none) (s x:Operand) (ho:o.op=.call { callee:=.builtin .append,args:=#[s,x],argTypes:=#[41,41] }) (B:Nat) (A:Option Addr) (n c:Nat) (xs:List UInt8) (hs:a.eval s=.slice A n c)
 (hown:OwnB w B A n c xs) (hB:B<=w.heap.size) (G:Nat->Prop) (A2:Option Addr) (m c2:Nat) (ys:List UInt8) (hx:a.eval x=.slice A2 m c2) (hsl:Bs G w A2 m c2 ys) (hlim:n+m<=68719476736)
 (h:∀ A' c' w',OwnB w' B A' (n+m) c' (xs++ys)->w.grownBy w' (A.map (·.block))->(A'.map (·.block)=A.map (·.block)∨A'.map (·.block)=some w.heap.size)->wpListIn F nF Tryz.prog ops Q rest (a.put o.dst (.slice A' (n+m) c')) w'):wpListIn F nF Tryz.prog ops Q (o::rest) a w:=by
 refine wpListIn_plain hgd fun K hK=>?_
 obtain⟨A',c',w',hrun,h2,h3,h4⟩:=yyj zzF o.type w B (.slice A n c) n (bvs xs) hown G A2 m c2 (bvs ys) (by rw [zzs,Nat.mul_one];exact hsl.len.symm) (kqG hsl) (uuE _) hlim hB
 unfold Oper.wpIn
 refine⟨by simp [Oper.about,ho,resolve,Target.leads,Sem.run_pure],?_⟩
 rw [Oper.semAt_plain F _ _ (by rw [ho];intro c hc';cases hc')]
 simp [execOp,ho,resolve,invoke,builtin,hs,hx,hrun,Result.andThen]
 rw [zzb] at h3 h4
 exact hK _ _ (h A' c' w' (by unfold OwnB;rw [vvd];exact h2) h3 h4)
end
end
section
open Go Go.RowKit Go.Shelf BigFrame
attribute [local go_sem] Oper.semAt_some
structure ByO (n0 ob lb fb bb B:Nat):Prop where
 o1:n0=ob
 o2:lb=ob+1
 o3:fb=ob+2
 o4:bb=ob+3
 o5:B=ob+4
def jj3 (ob lb:Nat):Obj:=.cells #[.func (.func 201) #[] #[.pointer (some ⟨lb,0,none⟩),.pointer (some ⟨ob,0,none⟩)]] 1 (0,0)
def ByI (w:World) (n0 ob lb fb B:Nat) (pre:List Rn) (W:World):Prop:=∃ A1 n1 c1 A2 n2 c2,FlR w n0 ob lb B A1 n1 c1 (yys pre).1 A2 n2 c2 (yys pre).2 W/\W.heap[fb]?=some (jj3 ob lb)
theorem ByI.own {w:World} {n0 ob lb fb bb B:Nat} (h:ByO n0 ob lb fb bb B):OwnFrom B (ByI w n0 ob lb fb B):=fun s W W' row ⟨A1,n1,c1,A2,n2,c2,h1,h2⟩ hg hr=>by
 have:=h.o3;have:=h.o5
 exact⟨A1,n1,c1,A2,n2,c2,h1.turn hg hr,(hg.block fb (zzc h2) (fun e=>by have:=(hr fb e.symm).1;omega)).trans h2⟩
theorem ByI.box {w:World} {n0 ob lb fb bb B:Nat} (h:ByO n0 ob lb fb bb B) (pre:List Rn) (W:World) (v:Value) (hi:ByI w n0 ob lb fb B pre W):ByI w n0 ob lb fb B pre (W.setCell ⟨bb,0,none⟩ v):=by
 obtain⟨A1,n1,c1,A2,n2,c2,h1,h2⟩:=hi
 have:=h.o1;have:=h.o2;have:=h.o3;have:=h.o4;have:=h.o5
 exact⟨A1,n1,c1,A2,n2,c2,h1.other (by omega) (by omega) (by omega) (by omega) v,zzd h2 (by omega)⟩
theorem xqo {n0 ob lb fb bb B:Nat} (h:ByO n0 ob lb fb bb B) {W W':World} (hk:FlK ob lb B W W'):KpB n0 bb W W':=by
 have:=h.o1;have:=h.o2;have:=h.o3;have:=h.o4;have:=h.o5
 exact⟨hk.low bb (by omega) (by omega) (by omega),fun b hb=>hk.low b (by omega) (by omega) (by omega),hk.others.size⟩
theorem xqp {W:World} {o:Obj} {w7:World} (h:Below (W.alloc o).drew.heap.size (W.alloc o).drew w7):Below W.heap.size W w7 :=
 (((Below.refl W.heap.size W).alloc zN o).drew).trans (h.mono (by show W.heap.size<=(W.alloc o).heap.size;simp))
theorem fin9 {w W w7 w9:World} {n0 ob lb fb bb B:Nat} {pre:List Rn} {x:Rn} {A1 A2 A9:Option Addr} {n1 c1 n2 c2 c9:Nat} (h7:FlR w n0 ob lb B A1 n1 c1 (yys pre).1 A2 n2 c2 (yys pre).2 w7) (hb:Below W.heap.size W w7) (hB:B<=W.heap.size) (hx:x.n<3)
 (hm:MidB w9 B A9 (n2+x.n) c9 ((yys pre).2++List.replicate x.n x.c)) (hg:w7.grownBy w9 (blkM A2 c2)) (hl:blkM A9 c9=blkM A2 c2∨∀ g,blkM A9 c9=some g->w7.heap.size<=g) (hf:W.heap[fb]?=some (jj3 ob lb)) (ho:ByO n0 ob lb fb bb B) :
 KeepsOthers W (w9.setCell ⟨lb,0,none⟩ (.slice A9 (n2+x.n) c9))/\KpB n0 bb W (w9.setCell ⟨lb,0,none⟩ (.slice A9 (n2+x.n) c9))/\ByI w n0 ob lb fb B (pre++[x]) (w9.setCell ⟨lb,0,none⟩ (.slice A9 (n2+x.n) c9)):=by
 obtain⟨_,_,h9,k9⟩:=h7.growL hm hg hl
 have hk:=(FlK.below hB hb).trans k9
 have:=ho.o1;have:=ho.o2;have:=ho.o3;have:=ho.o5
 refine⟨hk.others,xqo ho hk,A1,n1,c1,A9,n2+x.n,c9,?_,(hk.low fb (by omega) (by omega) (by omega)).trans hf⟩
 rw [vvc,zzS,if_pos hx]
 exact h9
theorem qzq (F:Nat->Prop) (A:Option Addr) (m c:Nat) (bs:List UInt8) (w:World) (h:Bs F w A m c bs) (hm:m<=512) :
 Calls Tryz.prog 160 #[.slice A m c] w (zzw (some (byB bs)) w):=by
 have HH:=zH (h.weaken (F':=fun b=>b<w.heap.size) fun b _ hb=>hb)
 have hlen:=h.len
 have z0:¬ (m:Int) > 4096:=by omega
 obtain⟨n0,hn0⟩:∃ n0,n0=w.heap.size:=⟨_,rfl⟩
 obtain⟨ob,hob⟩:∃ ob,ob=w.heap.size:=⟨_,rfl⟩
 obtain⟨lb,hlb⟩:∃ lb,lb=w.heap.size+1:=⟨_,rfl⟩
 obtain⟨fb,hfb⟩:∃ fb,fb=w.heap.size+1+1:=⟨_,rfl⟩
 obtain⟨bb,hbb⟩:∃ bb,bb=w.heap.size+1+1+1:=⟨_,rfl⟩
 obtain⟨B,hB⟩:∃ B,B=w.heap.size+1+1+1+1:=⟨_,rfl⟩
 have ho:ByO n0 ob lb fb bb B:=⟨by omega,by omega,by omega,by omega,by omega⟩
 obtain⟨v1,hv1⟩:∃ v1,v1=w.alloc (.cells #[.slice none 0 0] 41):=⟨_,rfl⟩
 obtain⟨v2,hv2⟩:∃ v2,v2=v1.alloc (.cells #[.slice none 0 0] 41):=⟨_,rfl⟩
 obtain⟨v3,hv3⟩:∃ v3,v3=v2.alloc (jj3 ob lb):=⟨_,rfl⟩
 obtain⟨W0,hW0⟩:∃ W0,W0=v3.alloc (.cells #[.slice A m c] 41):=⟨_,rfl⟩
 have s1:v1.heap.size=w.heap.size+1:=by rw [hv1,zS]
 have s2:v2.heap.size=w.heap.size+1+1:=by rw [hv2,zS,s1]
 have s3:v3.heap.size=w.heap.size+1+1+1:=by rw [hv3,zS,s2]
 have s4:W0.heap.size=B:=by rw [hW0,zS,s3,hB]
 have b1:Below w.heap.size w v1:=by rw [hv1];exact (zR).alloc zN _
 have b2:Below v1.heap.size v1 v2:=by rw [hv2];exact (zR).alloc zN _
 have b3:Below v2.heap.size v2 v3:=by rw [hv3];exact (zR).alloc zN _
 have b4:Below v3.heap.size v3 W0:=by rw [hW0];exact (zR).alloc zN _
 have q1:v1.heap[ob]?=some (.cells #[.slice none 0 0] 41 (0,0)):=by rw [hv1,hob];exact heap_alloc_new w _
 have q2:v2.heap[lb]?=some (.cells #[.slice none 0 0] 41 (0,0)):=by rw [hv2,hlb,<-s1];exact heap_alloc_new v1 _
 have q3:v3.heap[fb]?=some (jj3 ob lb):=by rw [hv3,hfb,<-s2];exact heap_alloc_new v2 _
 have q4:W0.heap[bb]?=some (.cells #[.slice A m c] 41 (0,0)):=by rw [hW0,hbb,<-s3];exact heap_alloc_new v3 _
 have b14:Below w.heap.size w W0:=((b1.trans (b2.mono (by omega))).trans (b3.mono (by omega))).trans (b4.mono (by omega))
 have hI0:ByI w n0 ob lb fb B [] W0:=⟨none,0,0,none,0,0,⟨(b4.block ob (by omega)).trans ((b3.block ob (by omega)).trans ((b2.block ob (by omega)).trans q1)),(b4.block lb (by omega)).trans ((b3.block lb (by omega)).trans q2),OwnB.nil_ _ _,MidB.nil_ _ _,by simp,⟨by omega,by omega,by omega,by omega,by omega,by omega⟩,by rw [hn0];exact b14⟩,(b4.block fb (by omega)).trans q3⟩
 have HI0:=zH hI0;have HO:=zH ho;have HS4:=zH s4;have HB14:=zH b14
 have HSEQ:=zH (qxP 2 (by omega) n0 bb (by omega) A m c bs W0 q4 (by rw [hn0];exact HH.out.below b14 zN))
 have hW:W0=((v2.alloc (jj3 ob lb)).alloc (.cells #[.slice A m c] 41)):=by rw [hW0,hv3]
 rw [hv2,hv1] at hW
 have hN0:=hn0
 rw [hlb,hob] at hW
 have HW:=zH hW
 have HN0:=zH hn0;have HOB:=zH hob;have HLB:=zH hlb;have HFB0:=zH hfb;have HBB:=zH hbb;have HLEN:=zH hlen
 clear h hlen hv1 hv2 hv3 hW0 hW s1 s2 s3 s4 b1 b2 b3 b4 q1 q2 q3 q4 b14 hI0 ho hn0 hN0 hob hlb hfb hbb hB
 refine (callsIn_wide (n:=3)).1 ?_
 refine callsIn_of_wp_marks Tryz.func160 rfl trivial ?_ rfl
 simp only [Tryz.ntmps160,List.size_toArray,List.length_cons,List.length_nil,Nat.reduceAdd,Nat.reduceSub,Array.replicate_succ,Array.replicate_zero,List.push_toArray,List.append_toArray,List.nil_append,List.cons_append]
 gi_wp2
 refine⟨trivial,?_⟩
 (refine (qxO _ _ _ _ _).mono ?_;rintro e w' ⟨rfl,rfl⟩)
 gi_wp2
 have hWW:=HW.out
 unfold jj3 at hWW
 rw [<-hWW]
 clear hWW
 try simp only [zS]
 rw [<-HBB.out,<-HFB0.out,<-HLB.out,<-HOB.out]
 refine vvR rfl (by omega) (gf:=241) (lb:=#[.pointer (some ⟨bb,0,none⟩)]) rfl trivial (enters_of Tryz.func241 (by kernel_rfl) rfl) (bb:=bb) (by rw [HS4.out,HO.out.o4,HO.out.o5];omega) HSEQ.out KpB.trans (fun W l o hl=>KpB.put (w:=W0) (by rw [HS4.out,HO.out.o1,HO.out.o5];omega) (by rw [HS4.out,HO.out.o4,HO.out.o5];omega) W l o hl) (fun _=>rfl)
  (ByI w n0 ob lb fb B) (by rw [HS4.out];exact ByI.own HO.out) (ByI.box HO.out) HI0.out
  (fun x=>{ tmps:=#[.slice A m c,undef,.slice none 0 0,.int .i64 0,.pointer (some ⟨ob,0,none⟩),.pointer (some ⟨lb,0,none⟩),.pointer (some ⟨fb,0,none⟩),.int .u8 (x.c.toNat:Int),.int .i64 (x.n:Int),.slice A m c,.int .i64 (m:Int),.bool false,.func (.func 201) #[] #[.pointer (some ⟨lb,0,none⟩),.pointer (some ⟨ob,0,none⟩)],.slice A m c,.func (.func 241) #[] #[.pointer (some ⟨bb,0,none⟩)],.int .u8 (x.c.toNat:Int),.int .i64 (x.n:Int),undef,undef,undef,undef,undef,undef,undef,undef,undef,undef,undef,undef,undef,undef,undef,undef,undef,undef,undef,undef],defers:=[] }) ?assign ?body ?done
 case assign =>
  intro l x W K hK
  dsimp only [zqz]
  gi_wp2
  exact hK
 case body =>
  rintro l' pre x W ⟨A1,n1,c1,A2,n2,c2,hfl,hfb⟩ hpl
  have HFL:=zH hfl;have HFB:=zH hfb;have HORD:=HO
  have hpl2:pre.length<512:=by have:=HLEN.out;omega
  have hrl:=xxD pre
  have hl1:=hfl.out.len
  have hl2:=hfl.lst.len
  have hn1x:n1<=1073741824:=by omega
  have hn2b:n2<=1073741824:=by omega
  have hxm:=x.most
  have hn2x:n2+x.n<=68719476736:=by omega
  have hpx:B<=W.heap.size:=hfl.ord.2.2.2.2.2
  obtain⟨q1,q2,q3,q4⟩:=hfl.cells
  have hx8:x.n<=8192:=by omega
  have hd:1<=3 - 1 - 1:=by omega
  clear hfl hfb hrl hl1 hl2 hpl
  by_cases hx3:x.n<3
  · have hx3I:(x.n:Int)<3:=by omega
    have HX3:=zH hx3
    have HREP:=zH (show Bs (fun _=>True) (W.alloc (.cells #[.int .u8 ((x.c.toNat:Nat):Int)] 5)).drew (some ⟨W.heap.size,0,none⟩) 1 1 [x.c] from (Sl.new (T:=tU8) (F:=fun _=>True) (w:=W) (cs:=[.int .u8 ((x.c.toNat:Nat):Int)]) (x:=x.c) rfl 5 _ rfl).drew.any)
    have qb:∀ o:Obj,(W.alloc o).cell? ⟨lb,0,none⟩=some (.slice A2 n2 c2):=fun o=>zzt ((zR).alloc zN o) q2
    clear hx3
    gi_wp2
    refine qx6 [(some 5,fun w'=>w'.cell? ⟨lb,0,none⟩=some (.slice A2 n2 c2))] (by kernel_rfl) (by kernel_rfl) ?_ (fun hHeld=>?_)
    · exact⟨fun h=>(by first | exact gone (c:=5) (by decide +kernel) h | exact q2 | (dsimp only;with_reducible exact qb _) | exact qb _ | (dsimp only;with_reducible exact r2) | fail),trivial⟩
    iterate 4
     all_goals
      repeat ((first | (refine tkL 0 0 rfl (oi:=⟨_,_,_,_,_,_⟩) (v:=?_) rfl (by decide +kernel) rfl (fun _ _ _ h=>by cases h.1) rfl hHeld ?_ ?_) | (refine tkP 1 (oi:=⟨_,_,_,_,_,_⟩) (v:=?_) rfl (by decide +kernel) rfl (fun _ _ _ h=>by cases h.1) rfl hHeld ?_ ?_) | (refine tkP 3 (oi:=⟨_,_,_,_,_,_⟩) (v:=?_) rfl (by decide +kernel) rfl (fun _ _ _ h=>by cases h.1) rfl hHeld ?_ ?_));rotate_left;(focus (intro w;(try intro hSw);(try dsimp only at hSw);go_simp;try with_reducible rfl));intro hHeld;(try simp only [Act.put]);(try simp only [List.setIfInBounds_toArray]);(try simp only [List.set_cons_succ]);(try simp only [List.set_cons_zero]))
      first | (refine rd1 2 (o:=⟨_,_,_,_,_,_⟩) (by decide +kernel) rfl (fun K hK=>?_)) | (refine rd1 4 (o:=⟨_,_,_,_,_,_⟩) (by decide +kernel) rfl (fun K hK=>?_)) | (refine rd1 5 (o:=⟨_,_,_,_,_,_⟩) (by decide +kernel) rfl (fun K hK=>?_)) | (refine rd1 6 (o:=⟨_,_,_,_,_,_⟩) (by decide +kernel) rfl (fun K hK=>?_))
     all_goals
      first | (refine atD 24 rfl ?_;refine zqD rfl (.tmp 19) (.tmp 23) rfl B A2 n2 c2 (yys pre).2 rfl HFL7.out.lst HFL7.out.ord.2.2.2.2.2 (fun _=>True) ⟨g7,0,none⟩ x.n x.n _ rfl hs7 x.one hn2x ?_;intro A9 c9 w9 hm9 hg9 hl9;obtain⟨_,e2,_,_⟩:=HFL7.out.growL hm9 hg9 hl9;have s2:w9.cell? ⟨lb,0,none⟩=some (.slice A2 n2 c2):=(by rw [zC (e2.trans HFL7.out.lbox)];rfl);have s3:=zF (e2.trans HFL7.out.lbox) 0) | (go_simp;((go_at_call 203;refine (vvn (fun _=>True) _ 1 x.c x.n x.one hx8 _ HREP.out).mono ?_;rintro e w7 ⟨g7,rfl,hs7,hb7⟩;have hb7':=xqp hb7;have HFL7:=zH (HFL.out.keep hb7');have r2:=HFL7.out.cells.2.1))) | go_simp
      refine hK.out _ _ ?_ (fun hHeld=>?_)
      · (try dsimp only);exact⟨fun h=>(by first | exact gone (c:=5) (by decide +kernel) h | exact q2 | (dsimp only;with_reducible exact qb _) | exact qb _ | (dsimp only;with_reducible exact r2) | fail),trivial⟩
      clear hK K;(try simp only [Act.put]);(try simp only [List.setIfInBounds_toArray]);(try simp only [List.set_cons_succ]);(try simp only [List.set_cons_zero])
    all_goals
     refine qxs (by decide +kernel) ?_ _
     refine⟨rfl,?_⟩
     gi_wp2
     exact fin9 HFL7.out hb7' hpx HX3.out hm9 hg9 hl9 HFB.out HORD.out
  · have hx3I:¬ (x.n:Int)<3:=by omega
    have HX3:=zH hx3
    have qf:W.cell? ⟨fb,0,none⟩=some (.func (.func 201) #[] #[.pointer (some ⟨lb,0,none⟩),.pointer (some ⟨ob,0,none⟩)]):=by rw [zC HFB.out];rfl
    obtain⟨xn,hxn⟩:∃ xn,xn=x.n:=⟨_,rfl⟩
    rw [<-hxn] at hx3I hxm hn2x
    rw [<-hxn]
    obtain⟨y1,hy1⟩:∃ y1:UInt8,y1=UInt8.ofNat (xn - 3):=⟨_,rfl⟩
    have HY:=zH (show ((xn:Int) - 3)=((y1.toNat:Nat):Int) by rw [hy1,UInt8.toNat_ofNat'];omega)
    have HY1:=zH hy1;have HXN:=zH hxn
    have HLIT:Hid (∀ w:World,Bs (fun _=>True) (w.alloc (.cells #[.int .u8 ((xn:Int) - 3),.int .u8 ((x.c.toNat:Nat):Int)] 5)) (some ⟨w.heap.size,0,none⟩) 2 2 [y1,x.c]):=zH fun w =>
     Sl.new2 (T:=tU8) (c1:=[.int .u8 ((y1.toNat:Nat):Int)]) (c2:=[.int .u8 ((x.c.toNat:Nat):Int)]) rfl rfl 5 _ (by rw [HY.out];rfl)
    clear hx3 hy1 hxn
    gi_wp2_with (first
     | (refine⟨trivial,?_⟩;gi_at_call 201;refine (CallsIn.inRound l' (callsIn_wide.2 (uui w n0 ob lb B A1 n1 c1 _ A2 n2 c2 _ hn1x hn2b W HFL.out))).mono ?_;rintro e w8 ⟨rfl,A8,n8,c8,A9,c9,hfl8,hk8⟩
        have HFL8:=zH hfl8;have HK8:=zH hk8
        obtain⟨r1,r2,r3,r4⟩:=hfl8.cells
        have HN8:=zH (show n8<=1073741824 by rw [hfl8.out.len,List.length_append];have h1:=xxC (yys pre).2;have h2:=xxD pre;omega)
        clear hfl8 hk8)
     | (gi_at_builtin;refine xqn rfl (.tmp 27) (.tmp 32) rfl B A8 n8 c8 ((yys pre).1++yyf (yys pre).2) rfl (HFL8.out.open_.alloc _).out (HFL8.out.open_.alloc _).ord.2.2.2.2.2 (fun _=>True) (some ⟨w8.heap.size,0,none⟩) 2 2 [y1,x.c] rfl (HLIT.out w8) (by have:=HN8.out;omega) ?_;intro A10 c10 w10 ho10 hg10 hl10
        obtain⟨hs10,hk10⟩:=(HFL8.out.open_.alloc _).grow ho10 hg10 hl10
        have HS10:=zH hs10.store;have HK10:=zH hk10
        have t1:w10.cell? ⟨ob,0,none⟩=some (.slice A8 n8 c8):=(by rw [zC hs10.obox];rfl)
        have t2:=zF hs10.obox 0
        clear ho10 hg10 hl10 hs10 hk10)
     | fail)
    have hkk:=((HK8.out.trans (FlK.below HFL8.out.ord.2.2.2.2.2 ((zR).alloc zN _))).trans HK10.out).trans (FlK.setO _ (.slice A10 (n8+2) c10))
    refine⟨hkk.others,xqo HORD.out hkk,A10,n8+2,c10,A9,0,c9,?_,(hkk.low fb (by have:=HORD.out.o3;have:=HORD.out.o5;omega) (by have:=HORD.out.o3;omega) (by have:=HORD.out.o3;have:=HORD.out.o2;omega)).trans HFB.out⟩
    rw [vvc,zzS,if_neg HX3.out,<-HXN.out,<-HY1.out]
    exact HS10.out
 case done =>
  rintro D xs W hD rfl ⟨A1,n1,c1,A2,n2,c2,hfl,hfb⟩ hK
  have hrl:=xxD (rnL bs)
  have hrl2:=kqE bs
  have hl1:=hfl.out.len
  have hl2:=hfl.lst.len
  have hbs:bs.length<=512:=by rw [<-HLEN.out];exact hm
  have hn1x:n1<=1073741824:=by omega
  have hn2b:n2<=1073741824:=by omega
  have HFL:=zH hfl;have HKD:=zH hK
  have qf:W.cell? ⟨fb,0,none⟩=some (.func (.func 201) #[] #[.pointer (some ⟨lb,0,none⟩),.pointer (some ⟨ob,0,none⟩)]):=by rw [zC hfb];rfl
  have HDONE:=zH (qxz bs)
  clear hfl hfb hK hrl hrl2 hl1 hl2 hbs
  gi_wp2_with (first
   | (refine⟨trivial,?_⟩;gi_at_call 201;refine (callsIn_wide.2 (uui w n0 ob lb B A1 n1 c1 _ A2 n2 c2 _ hn1x hn2b W HFL.out)).mono ?_;rintro e w8 ⟨rfl,A8,n8,c8,A9,c9,hfl8,hk8⟩
      have HFL8:=zH hfl8;have HK8:=zH hk8
      obtain⟨r1,r2,r3,r4⟩:=hfl8.cells
      clear hfl8 hk8)
   | fail)
  have hKD:=HK8.out.others.same D _ HKD.out rfl
  refine⟨by simp,.inl ⟨_,_,rfl,run_takeDeferred hKD,?_⟩⟩
  have hB:B<=D:=by rw [<-HS4.out];exact hD
  have hfin:=HFL8.out.turn (grownBy_putObj' w8 D (.deferred none)) (fun r e=>by injection e with e;subst e;exact⟨hB,_,hKD,rfl⟩)
  refine⟨_,results_tmp2 rfl _ _ _,?_⟩
  have ho:=hfin.out
  rw [HDONE.out] at ho
  exact⟨by rw [<-HN0.out];exact hfin.below,A8,n8,c8,rfl,ho.down (by rw [HO.out.o5,HOB.out];omega)⟩
theorem qzr (F:Nat->Prop) (A:Option Addr) (n c:Nat) (l:List Bool) (w:World) (h:Sl zzU F w A n c l) (hn:n<=4096) :
 Calls Tryz.prog 89 #[.slice A n c] w (zzw (some (byB (xxk l))) w) :=
 uuQ (fun F A m c bs w h hm=>qzq F A m c bs w h hm) F A n c l w h hn
end
end Go.Proofs.YtpmglcachffojaaGreatDoor
