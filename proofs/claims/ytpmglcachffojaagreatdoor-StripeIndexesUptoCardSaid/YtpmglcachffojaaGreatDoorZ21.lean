/- A part of what Indexes leans on. -/
import Derived.Test.YtpmglcachffojaaGreatDoorZ20
import Derived.Sort.BigQuietIn
import Derived.Sort.CutIn
import Derived.ArgAppend
import Derived.Deep.CutBlock
set_option maxRecDepth 100000
set_option maxHeartbeats 16000000
namespace Go.Proofs.YtpmglcachffojaaGreatDoor
section
open Go Go.RowKit Go.Shelf BigFrame
attribute [local go_sem] Oper.semAt_some
def rnEnc (x:Rn):Array Value:=#[.int .u8 (x.c.toNat:Int),.int .i64 (x.n:Int)]
def KpB (b0 bb:Nat) (W W':World):Prop:=W'.heap[bb]?=W.heap[bb]?/\(∀ b,b<b0->W'.heap[b]?=W.heap[b]?)/\W.heap.size<=W'.heap.size
theorem KpB.trans {b0 bb:Nat} {A B C:World} (h:KpB b0 bb A B) (k:KpB b0 bb B C):KpB b0 bb A C:=⟨k.1.trans h.1,fun b hb=>(k.2.1 b hb).trans (h.2.1 b hb),Nat.le_trans h.2.2 k.2.2⟩
theorem KpB.put {b0 bb:Nat} {w:World} (h0:b0<=w.heap.size) (h1:bb<w.heap.size) (W:World) (l:Nat) (o:Obj) (hl:w.heap.size<=l):KpB b0 bb W (W.putObj l o) :=
 ⟨World.putObj_heap_other (by omega),fun b hb=>World.putObj_heap_other (by omega),by simp⟩
theorem bs_keepB {b0 bb:Nat} {W W':World} {A:Option Addr} {n c:Nat} {l:List UInt8} (h:Bs (fun b=>b<b0) W A n c l) (k:KpB b0 bb W W'):Bs (fun b=>b<b0) W' A n c l:=h.keep k.2.2 fun b hb _=>k.2.1 b hb
theorem qxH (w:World) (a b:Nat):(w.drewN a).drewN b=w.drewN (a+b):=by unfold World.drewN;simp [Nat.add_assoc]
theorem headD_get (l:List UInt8) (h:0<l.length):l.headD 0=l[0]:=by
 cases l with
 | nil=>simp at h
 | cons a r=>rfl
theorem runs1_in (n:Nat) (hn:1<=n) (l b0 bb:Nat) (hbb:b0<=bb) (A:Option Addr) (m c:Nat) (bs:List UInt8) (J:List Rn->World->Prop) (hJd:∀ pre W1 k,J pre W1->J pre (W1.drewN k)) (hJs:∀ pre W1 v,J pre W1->J pre (W1.setCell ⟨bb,0,none⟩ v))
 (hY:∀ pre x W1,J pre W1->pre.length<bs.length->YieldAt Fence.wide (n - 1) Tryz.prog l (rnEnc x) W1 fun e W'=>e=.returned (.bool true)/\J (pre++[x]) W'/\KpB b0 bb W1 W')
 (W:World) (hA:W.heap[bb]?=some (.cells #[.slice A m c] 41 (0,0))) (hs:Bs (fun b=>b<b0) W A m c bs) (h0:J [] W) :
 CallsIn Fence.wide n Tryz.prog 241 #[.func (.yield l) #[] #[],.pointer (some ⟨bb,0,none⟩)] W fun e W'=>(∃ v,e=.returned v)/\∃ xs,xs=rnL bs/\J xs W':=by
 have HRL:=zH (rnL_len bs)
 have HA:=zH hA;have HS:=zH hs
 clear hA hs
 refine callsIn_of_wp Tryz.func241 rfl trivial ?_ rfl
 simp only [Tryz.ntmps241,List.size_toArray,List.length_cons,List.length_nil,Nat.reduceAdd,Nat.reduceSub,Array.replicate_succ,Array.replicate_zero,List.push_toArray,List.append_toArray,List.nil_append,List.cons_append]
 gi_wp2
 gi_loopw [3] (fun _ wr=>∃ (pre:List Rn) (rest:List UInt8) (A2:Option Addr) (m2 c2:Nat),pre++rnL rest=rnL bs/\m2<=m/\wr.heap[bb]?=some (.cells #[.slice A2 m2 c2] 41 (0,0))/\Bs (fun b=>b<b0) wr A2 m2 c2 rest/\J pre wr)
  (fun _ wr=>lenV ((wr.cell? ⟨bb,0,none⟩).getD undef))
 case atStart=>exact⟨[],bs,A,m,c,rfl,Nat.le_refl _,HA.out,HS.out,h0⟩
 case round =>
  obtain⟨pre,rest,A2,m2,c2,hpr,hm2,hbox,hbs,hJp⟩:=hrel
  have HPR:=zH hpr;have HBOX:=zH hbox;have HBS:=zH hbs;have HJP:=zH hJp
  have q0:wr.cell? ⟨bb,0,none⟩=some (.slice A2 m2 c2):=by rw [zC hbox];rfl
  have HQ0:=zH q0
  have hlen:=hbs.len
  clear hpr hbox hbs hJp
  by_cases hz:m2=0
  · obtain rfl:rest=[]:=List.length_eq_zero_iff.1 (by omega)
    subst hz
    clear hlen
    gi_wp2
    go_end0
    exact⟨⟨_,rfl⟩,_,by rw [<-HPR.out,rnL_nil,List.append_nil],HJP.out⟩
  · have hne:rest≠[]:=fun e=>by rw [e] at hlen;simp at hlen;omega
    have hmp:(0:Int)<(m2:Int):=by omega
    have hmn:0<m2:=by omega
    have hmd:decide (0<m2)=true:=decide_eq_true hmn
    have HNE:=zH hne
    have HLEN:=zH hlen
    have hc2:=HBS.out.2.1
    have hc3:=HBS.out.2.2.1
    unfold maxLen at hc3
    clear hlen hne
    obtain⟨ch,hch⟩:∃ ch,ch=rest.headD 0:=⟨_,rfl⟩
    obtain⟨b,o,hA2,hbb0,hbl,_⟩:=qzq HBS.out (k:=0) (by have:=HLEN.out;omega)
    subst hA2
    have HCELL:Hid (∀ W':World,(∀ b,b<b0->W'.heap[b]?=wr.heap[b]?)->∀ j (hj:j<rest.length),W'.cell? ⟨b,o+j,none⟩=some (.int .u8 ((rest[j].toNat:Nat):Int))):=zH (fun (W':World) (hW':∀ b,b<b0->W'.heap[b]?=wr.heap[b]?) (j:Nat) (hj:j<rest.length)=>by
     obtain⟨b',o',he,_,_,hc⟩:=qzq HBS.out hj
     injection he with he;injection he with e1 e2 _
     subst e1 e2
     exact (World.cell?_of_block (a:=⟨b,o+j,none⟩) (hW' b hbb0)).trans hc)
    have hch0:rest[0]'(by have:=HLEN.out;omega)=ch:=by rw [hch];exact (headD_get _ _).symm
    have HCH0:=zH hch0
    have HCH:=zH hch
    clear hch hch0
    gi_wp2
    obtain⟨wo,rfl⟩:∃ wo,wo=wr:=⟨wr,rfl⟩
    gi_loopw [3] (fun nv wq=>∃ (j k:Nat),1<=j/\j<=m2/\j<=130/\nv=.int .i64 (j:Int)/\wq=wo.drewN k/\∀ i,i<j->rest[i]?=some ch)
     (fun nv _=>m2 - (intOf nv).toNat)
    case atStart=>exact⟨1,0,Nat.le_refl _,by omega,by omega,rfl,rfl,fun i hi=>by rw [show i=0 by omega,List.getElem?_eq_getElem (by have:=HLEN.out;omega),HCH0.out]⟩
    case round =>
     obtain⟨j,k,hj1,hjm,hj130,rfl,hwq,hall⟩:=hrel
     have HALL:=zH hall
     clear hall
     subst hwq
     have hq:wo.cell? ⟨bb,0,none⟩=some (.slice (some ⟨b,o,none⟩) m2 c2):=HQ0.out
     have k0:wo.cell? ⟨b,o,none⟩=some (.int .u8 ((ch.toNat:Nat):Int)):=by
      have:=HCELL.out wo (fun _ _=>rfl) 0 (by have:=HLEN.out;omega)
      rw [HCH0.out,Nat.add_zero] at this
      exact this
     have i0:(0:Int)<=(j:Int):=by omega
     obtain⟨bq,hbq⟩:∃ bq:Bool,bq=(decide (j<m2)&&decide (j<130)&&(rest.getD j 0==ch)):=⟨_,rfl⟩
     have HBQ:=zH hbq
     clear hbq
     gi_upto_region 2 with fail
     gi_cut [24,27,28,29,30,31,32,33,34,35,36] from 7 (fun v v27 v28 v29 v30 v31 v32 v33 v34 v35 v36 wx=>v=.bool bq/\(v27=u27/\v28=u28/\v29=u29/\v30=u30/\v31=u31/\v32=u32/\v33=u33/\v34=u34/\v35=u35/\v36=u36)/\∃ k',wx=wo.drewN k')
     case first =>
      by_cases h1:j<m2
      · have z1:(j:Int)<(m2:Int):=by omega
        have d1:decide ((j:Int)<(m2:Int))=true:=decide_eq_true z1
        by_cases h2:j<130
        · have z2:(j:Int)<130:=by omega
          have d2:decide ((j:Int)<130)=true:=decide_eq_true z2
          have hjl:j<rest.length:=by rw [<-HLEN.out];exact h1
          obtain⟨x,hx⟩:∃ x,x=rest[j]:=⟨_,rfl⟩
          have kj:=HCELL.out wo (fun _ _=>rfl) j hjl
          rw [<-hx] at kj
          have HBQ2:=zH (show bq=(x==ch) by rw [HBQ.out,decide_eq_true h1,decide_eq_true h2,List.getD_eq_getElem?_getD,List.getElem?_eq_getElem hjl,hx];rfl)
          by_cases hxc:x=ch
          · have z3:(((x.toNat:Nat):Int)==((ch.toNat:Nat):Int))=true:=jjq (by rw [hxc])
            have HB3:=zH (show bq=true by rw [HBQ2.out,hxc];exact beq_self_eq_true ch)
            clear hx hxc h1 h2
            gi_big_quiet_th (fail)
            gi_wp2
            gi_meet
            case rel=>exact⟨by rw [HB3.out],⟨rfl,rfl,rfl,rfl,rfl,rfl,rfl,rfl,rfl,rfl⟩,k+nq,by first | rfl | exact qxH _ _ _⟩
          · have z3:(((x.toNat:Nat):Int)==((ch.toNat:Nat):Int))=false:=zzL (fun e=>hxc (UInt8.toNat_inj.1 (by omega)))
            have HB3:=zH (show bq=false by rw [HBQ2.out];simpa using hxc)
            clear hx hxc h1 h2
            gi_big_quiet_th (fail)
            gi_wp2
            gi_meet
            case rel=>exact⟨by rw [HB3.out],⟨rfl,rfl,rfl,rfl,rfl,rfl,rfl,rfl,rfl,rfl⟩,k+nq,by first | rfl | exact qxH _ _ _⟩
        · have z2:¬ (j:Int)<130:=by omega
          have d2:decide ((j:Int)<130)=false:=decide_eq_false z2
          have HB3:=zH (show bq=false by rw [HBQ.out,decide_eq_false h2,Bool.and_false,Bool.false_and])
          clear h1 h2
          gi_big_quiet_th (fail)
          gi_wp2
          gi_meet
          case rel=>exact⟨by rw [HB3.out],⟨rfl,rfl,rfl,rfl,rfl,rfl,rfl,rfl,rfl,rfl⟩,k+nq,by first | rfl | exact qxH _ _ _⟩
      · have z1:¬ (j:Int)<(m2:Int):=by omega
        have d1:decide ((j:Int)<(m2:Int))=false:=decide_eq_false z1
        have HB3:=zH (show bq=false by rw [HBQ.out,decide_eq_false h1,Bool.false_and,Bool.false_and])
        clear h1
        gi_big_quiet_th (fail)
        gi_wp2
        gi_meet
        case rel=>exact⟨by rw [HB3.out],⟨rfl,rfl,rfl,rfl,rfl,rfl,rfl,rfl,rfl,rfl⟩,k+nq,by first | rfl | exact qxH _ _ _⟩
     case rest =>
      obtain⟨rfl,⟨rfl,rfl,rfl,rfl,rfl,rfl,rfl,rfl,rfl,rfl⟩,k',hwc⟩:=hcut
      subst hwc
      cases bq with
      | true =>
        have hb:=HBQ.out.symm
        simp only [Bool.and_eq_true,decide_eq_true_eq,beq_iff_eq] at hb
        obtain⟨⟨h1,h2⟩,h3⟩:=hb
        have hjl:j<rest.length:=by rw [<-HLEN.out];exact h1
        have HALL2:=zH (show ∀ i,i<j+1->rest[i]?=some ch from fun i hi=>by
         by_cases h:i<j
         · exact HALL.out i h
         · obtain rfl:i=j:=by omega
           rw [List.getD_eq_getElem?_getD,List.getElem?_eq_getElem hjl] at h3
           rw [List.getElem?_eq_getElem hjl,<-h3];rfl)
        clear h3
        gi_wp2
        go_roundw
        case rel=>exact⟨j+1,k',by omega,by omega,by omega,by go_num,rfl,HALL2.out⟩
        case measure=>simp [intOf];omega
      | false =>
        have HSTOP:=zH (show zzv rest=j from xqq hj1 (by rw [<-HLEN.out];exact hjm) hj130 (fun i hi=>by rw [HALL.out i hi,HCH.out]) (by
         rcases Nat.lt_or_ge j rest.length with h | h
         · rcases Nat.lt_or_ge j 130 with h' | h'
           · right;right
             refine⟨h,fun e=>?_⟩
             have:=HBQ.out
             rw [decide_eq_true (by rw [HLEN.out];exact h),decide_eq_true h',List.getD_eq_getElem?_getD,List.getElem?_eq_getElem h] at this
             simp only [Bool.and_self,Bool.true_and,Option.getD_some] at this
             rw [e,<-HCH.out,beq_self_eq_true] at this
             cases this
           · left;omega
         · right;left;have:=HLEN.out;omega))
        obtain⟨x,hx⟩:∃ x:Rn,x=⟨ch,j,hj1,hj130⟩:=⟨_,rfl⟩
        have hpl:pre.length<bs.length:=by
         have h1:=congrArg List.length HPR.out
         have h2:=HRL.out
         rw [kq2 HNE.out,List.length_append,List.length_cons] at h1
         omega
        obtain⟨fn,tmps,assign,body,hy,hR⟩:=hY pre x (wo.drewN k') (hJd _ _ _ HJP.out) hpl
        have hxe:rnEnc x=#[.int .u8 ((ch.toNat:Nat):Int),.int .i64 (j:Int)]:=by rw [hx];rfl
        rw [hxe] at hy
        have HXR:=zH (show pre++[x]++rnL (rest.drop j)=rnL bs by
         rw [<-HPR.out,kq2 HNE.out,List.append_assoc,List.singleton_append,HSTOP.out]
         congr 2
         rw [hx]
         unfold rnOf
         simp only [Rn.mk.injEq]
         exact⟨HCH.out,HSTOP.out.symm⟩)
        clear hx hxe hpl
        gi_wp2
        refine hR.mono ?_
        rintro e W3 ⟨rfl,hJ3,hk3⟩
        have hbox3:W3.heap[bb]?=some (.cells #[.slice (some ⟨b,o,none⟩) m2 c2] 41 (0,0)):=hk3.1.trans HBOX.out
        have hbs3:Bs (fun b=>b<b0) W3 (some ⟨b,o,none⟩) m2 c2 rest:=bs_keepB (HBS.out.drewN k') hk3
        have q3:W3.cell? ⟨bb,0,none⟩=some (.slice (some ⟨b,o,none⟩) m2 c2):=by rw [zC hbox3];rfl
        have f3:=zF hbox3 0
        have HJ3:=zH hJ3;have HBOX3:=zH hbox3
        have hc:=hbs3.cut (lo:=j) (hi:=m2) hjm zN
        rw [zL (by rw [<-HLEN.out];exact Nat.le_refl _)] at hc
        have hc2':Bs (fun b=>b<b0) W3 (if c2=j then some ⟨b,o,none⟩ else some ⟨b,o+j,none⟩) (m2 - j) (c2 - j) (rest.drop j):=by
         simpa [Addr.add,show tU8.size=1 from rfl,show ¬ j=0 by omega] using hc
        have HC2:=zH hc2'
        have i1:(j:Int)<=(m2:Int):=by omega
        have i2:(j:Int)<=(c2:Int):=by omega
        have i3:(m2:Int)<=(c2:Int):=by omega
        clear hJ3 hbox3 hbs3 hc hc2' hk3
        by_cases hcj:c2=j
        · rw [if_pos hcj,show c2 - j=0 by omega] at HC2
          gi_wp2
          go_roundw
          case rel =>
           exact⟨pre++[x],rest.drop j,(some ⟨b,o,none⟩),m2 - j,0,HXR.out,by omega,zza HBOX3.out rfl,Sl.setCell HC2.out (p:=⟨bb,0,none⟩) (fun h=>Nat.lt_irrefl _ (Nat.lt_of_lt_of_le h hbb)) _,hJs _ _ _ HJ3.out⟩
          case measure =>
           have e1:(W3.setCell ⟨bb,0,none⟩ (.slice (some ⟨b,o,none⟩) (m2 - j) 0)).cell? ⟨bb,0,none⟩=some (.slice (some ⟨b,o,none⟩) (m2 - j) 0):=by rw [zC (zza HBOX3.out rfl)];rfl
           simp only [e1,HQ0.out,Option.getD_some,lenV]
           omega
        · rw [if_neg hcj] at HC2
          gi_wp2
          go_roundw
          case rel =>
           exact⟨pre++[x],rest.drop j,(some ⟨b,o+j,none⟩),m2 - j,(c2 - j),HXR.out,by omega,zza HBOX3.out rfl,Sl.setCell HC2.out (p:=⟨bb,0,none⟩) (fun h=>Nat.lt_irrefl _ (Nat.lt_of_lt_of_le h hbb)) _,hJs _ _ _ HJ3.out⟩
          case measure =>
           have e1:(W3.setCell ⟨bb,0,none⟩ (.slice (some ⟨b,o+j,none⟩) (m2 - j) (c2 - j))).cell? ⟨bb,0,none⟩=some (.slice (some ⟨b,o+j,none⟩) (m2 - j) (c2 - j)):=by rw [zC (zza HBOX3.out rfl)];rfl
           simp only [e1,HQ0.out,Option.getD_some,lenV]
           omega
theorem runs_in (n:Nat) (A:Option Addr) (m c:Nat) (w:World) :
 CallsIn Fence.wide n Tryz.prog 202 #[.slice A m c] w fun e w'=>e=.returned (.func (.func 241) #[] #[.pointer (some ⟨w.heap.size,0,none⟩)])/\w'=w.alloc (.cells #[.slice A m c] 41):=by
 refine callsIn_of_wp Tryz.func202 rfl trivial ?_ rfl
 simp only [Tryz.ntmps202,List.size_toArray,List.length_cons,List.length_nil,Nat.reduceAdd,Nat.reduceSub,Array.replicate_succ,Array.replicate_zero,List.push_toArray,List.append_toArray,List.nil_append,List.cons_append]
 gi_wp2
 go_ret
 exact⟨rfl,rfl⟩
theorem runs_st (n:Nat) (hn:1<=n) (b0 bb:Nat) (hbb:b0<=bb) (A:Option Addr) (m c:Nat) (bs:List UInt8) (w:World) (hA:w.heap[bb]?=some (.cells #[.slice A m c] 41 (0,0))) (hs:Bs (fun b=>b<b0) w A m c bs) :
 SeqSt Fence.wide n Tryz.prog 241 #[.pointer (some ⟨bb,0,none⟩)] rnEnc bb (KpB b0 bb) (fun xs=>xs=rnL bs) bs.length w:=fun l J W hW hJd hJs hY h0 =>
 runs1_in n hn l b0 bb hbb A m c bs J hJd hJs hY W ((hW.block bb (zzc hA)).trans hA) (hs.below hW zN) h0
end
section
open Go Go.RowKit
structure MidB (w:World) (B:Nat) (A:Option Addr) (n c:Nat) (l:List UInt8):Prop where
 len:n=l.length
 cap:n<=c
 max:c<=maxLen
 row:c=0∨∃ g o cur,A=some ⟨g,o,none⟩/\B<=g/\w.heap[g]?=some (.cells cur 5 (0,0))/\o+c<=cur.size/\∀ j (h:j<l.length),cur[o+j]?=some (.int .u8 ((l[j].toNat:Nat):Int))
def blkM (A:Option Addr) (c:Nat):Option Nat:=if c=0 then none else A.map (·.block)
theorem MidB.nil_ (w:World) (B:Nat):MidB w B none 0 0 []:=⟨rfl,Nat.le_refl _,by simp [maxLen],.inl rfl⟩
theorem MidB.blk {w:World} {B:Nat} {A:Option Addr} {n c:Nat} {l:List UInt8} (h:MidB w B A n c l) {g:Nat} (hg:blkM A c=some g):B<=g/\g<w.heap.size/\∃ cur,w.heap[g]?=some (.cells cur 5 (0,0)):=by
 unfold blkM at hg
 split at hg
 · cases hg
 · rename_i hc
   rcases h.row with h0 | ⟨g',o,cur,rfl,h2,h3,_⟩
   · exact absurd h0 hc
   · injection hg with hg
     subst hg
     exact⟨h2,zzc h3,cur,h3⟩
theorem MidB.keep {w w':World} {B:Nat} {A:Option Addr} {n c:Nat} {l:List UInt8} (h:MidB w B A n c l) (hk:∀ g,blkM A c=some g->w'.heap[g]?=w.heap[g]?):MidB w' B A n c l:=by
 refine⟨h.len,h.cap,h.max,?_⟩
 rcases h.row with h0 | ⟨g,o,cur,rfl,h2,h3,h4,h5⟩
 · exact .inl h0
 · by_cases hc:c=0
   · exact .inl hc
   · exact .inr ⟨g,o,cur,rfl,h2,(hk g (by unfold blkM;rw [if_neg hc];rfl)).trans h3,h4,h5⟩
theorem MidB.bs {w:World} {B:Nat} {A:Option Addr} {n c:Nat} {l:List UInt8} (h:MidB w B A n c l):Bs (fun b=>blkM A c=some b) w A n c l:=by
 refine bs_mk (fun hne=>?_) h.len h.cap h.max
 rcases h.row with h0 | ⟨g,o,cur,rfl,h2,h3,h4,h5⟩
 · have:=h.len
   have h1:=h.cap
   exact absurd (List.length_eq_zero_iff.1 (by rw [zzS];omega)) hne
 · have hc:c≠0:=fun h0=>by
    have:=h.len
    have h1:=h.cap
    exact absurd (List.length_eq_zero_iff.1 (by rw [zzS];omega)) hne
   refine⟨g,o,rfl,by unfold blkM;rw [if_neg hc];rfl,zzc h3,fun j u hu=>?_⟩
   have hj:j<l.length:=by
    rcases Nat.lt_or_ge j l.length with h | h
    · exact h
    · rw [List.getElem?_eq_none (by rw [zzS];exact h)] at hu;cases hu
   rw [vvC l j hj] at hu
   rw [zC h3,h5 j hj,hu]
theorem MidB.of_own {w:World} {B:Nat} {A:Option Addr} {n c:Nat} {l:List UInt8} (h:OwnB w B A n c l):MidB w B A n c l:=by
 refine⟨h.len,(xxL h).1,(xxL h).2,?_⟩
 rcases h.2 with ⟨h1,_⟩ | ⟨g,cap,cur,h1,hb,hg,hn,hcm,hsz,ht⟩
 · injection h1 with _ _ h3
   exact .inl h3
 · injection h1 with e1 _ e3
   subst e1 e3
   refine .inr ⟨g,0,cur,rfl,hb,hg,by omega,fun j hj=>?_⟩
   have h4:=h.cells (g:=g) rfl j _ (vvC l j hj)
   rw [yyB,zC hg] at h4
   exact h4
theorem jjH {g b:Nat} (hne:b≠g):∀ (vs:List Value) (q:Nat) (w:World),(w.setCells g q vs).heap[b]?=w.heap[b]?
 | [],_,_=>rfl
 | v::r,q,w=>(jjH hne r (q+1) _).trans (Below.heap_setCell w ⟨g,q,none⟩ v b hne)
theorem qxI {g:Nat} {t:TypeId} {fr:Nat×Nat}:∀ (vs:List Value) (q:Nat) (w:World) (cur:Array Value),w.heap[g]?=some (.cells cur t fr)->∃ cur',(w.setCells g q vs).heap[g]?=some (.cells cur' t fr)/\cur'.size=cur.size /\
 (∀ j,j<q∨q+vs.length<=j->cur'[j]?=cur[j]?)/\∀ j (h:j<vs.length),q+j<cur.size->cur'[q+j]?=some vs[j]
 | [],q,w,cur,h=>⟨cur,h,rfl,fun _ _=>rfl,fun j hj=>by simp at hj⟩
 | v::r,q,w,cur,h=>by
   obtain⟨cur',h1,h2,h3,h4⟩:=qxI r (q+1) (w.setCell ⟨g,q,none⟩ v) (cur.setIfInBounds q v) (zza h rfl)
   refine⟨cur',h1,by rw [h2,Array.size_setIfInBounds],fun j hj=>?_,fun j hj hjs=>?_⟩
   · rw [List.length_cons] at hj
     rw [h3 j (by omega),Array.getElem?_setIfInBounds_ne (by omega)]
   · cases j with
     | zero =>
       rw [h3 (q+0) (by omega),Nat.add_zero,Array.getElem?_setIfInBounds_self_of_lt (by simpa using hjs)]
       rfl
     | succ i =>
       have:=h4 i (by simpa using hj) (by rw [Array.size_setIfInBounds];omega)
       rw [show q+(i+1)=q+1+i by omega,this]
       rfl
theorem grown_scs (w:World) (g q:Nat) (vs:List Value):w.grownBy (w.setCells g q vs) (some g):=by
 have hb:=xxl (B:=0) (g:=g) (a:=w) (Nat.zero_le _) vs q (Below.refl 0 w)
 exact⟨hb.os,hb.tape,hb.output,hb.size,fun k _ hk=>jjH (fun e=>hk (by rw [e])) vs q w⟩
theorem xqC {w w':World} (h:w.grownBy w' none) (row:Option Nat):w.grownBy w' row:=⟨h.os,h.tape,h.output,h.size,fun k hk _=>h.block k hk (by simp)⟩
theorem bytes_fit {k:Nat} (h:k<=68719476736):k<=maxLen/\k*1<=140737488355328:=by unfold maxLen;omega
theorem xqD (w:World) (B:Nat) (A:Option Addr) (n c:Nat) (l:List UInt8) (h:MidB w B A n c l) (hB:B<=w.heap.size) (ty:TypeId) (F:Nat->Prop) (ad:Addr) (m c2:Nat) (ys:List UInt8) (hs:Bs F w (some ad) m c2 ys) (hm:1<=m) (hlim:n+m<=68719476736) :
 ∃ A' c' w',(Builtin.append_ #[41,41] ty #[.slice A n c,.slice (some ad) m c2]).run Tryz.prog w=.ok (.slice A' (n+m) c') w'/\MidB w' B A' (n+m) c' (l++ys)/\w.grownBy w' (blkM A c)/\(blkM A' c'=blkM A c∨∀ g,blkM A' c'=some g->w.heap.size<=g):=by
 obtain⟨i,hi,h0,h1,h2⟩:=info_parts uuT
 have hne:ys≠[]:=fun e=>by have:=hs.len;rw [e] at this;simp at this;omega
 have hnews:∀ j u,(bvs ys)[j]?=some u->w.cell? (ad.add j)=some u:=(bs_rd hs).news rfl
 have hl:(bvs ys).length=m*1:=by rw [zzS,Nat.mul_one];exact hs.len.symm
 have hfit:=bytes_fit hlim
 have grow:∀ v' w',w'.ownsRow w.heap.size 5 1 v' (n+m) (bvs l++bvs ys)->w.grownBy w' none->∃ A' c',v'=.slice A' (n+m) c'/\MidB w' B A' (n+m) c' (l++ys)/\(blkM A' c'=blkM A c∨∀ g,blkM A' c'=some g->w.heap.size<=g):=fun v' w' ho hg=>by
  rw [<-kqf] at ho
  rcases ho.2 with ⟨_,hz⟩ | ⟨g,cap,cur,rfl,hb,hgc,hn,hcm,hsz,ht⟩
  · omega
  · have hm2:MidB w' w.heap.size (some ⟨g,0,none⟩) (n+m) cap (l++ys):=MidB.of_own (show OwnB w' w.heap.size (some ⟨g,0,none⟩) (n+m) cap (l++ys) from ho)
    refine⟨_,cap,rfl,⟨hm2.len,hm2.cap,hm2.max,?_⟩,?_⟩
    · rcases hm2.row with hc | ⟨g',o,cur',e,k2,k3⟩
      · exact .inl hc
      · exact .inr ⟨g',o,cur',e,by omega,k3⟩
    · refine .inr fun g' hg'=>?_
      have:=hm2.blk hg'
      omega
 by_cases hroom:n+m<=c
 · rcases h.row with hc | ⟨g,o,cur,rfl,k2,k3,k4,k5⟩
   · omega
   · have hcell:∀ j,j<c->(w.cell? ⟨g,o+j,none⟩).isSome=true:=fun j hj=>by
      rw [zC k3,Array.getElem?_eq_getElem (by omega)];rfl
     have hln:=h.len
     obtain⟨cur',q1,q2,q3,q4⟩:=qxI (bvs ys) (o+n*i.size) w cur k3
     rw [h1,Nat.mul_one] at q1 q3 q4
     refine⟨some ⟨g,o,none⟩,c,w.setCells g (o+n) (bvs ys),?_,⟨?_,hroom,h.max,.inr ⟨g,o,cur',rfl,k2,q1,by omega,fun j hj=>?_⟩⟩,?_,.inl rfl⟩
     · have:=run_append_room_cells (P:=Tryz.prog) w 41 ty 5 i yye hi g o n c ad m c2 (bvs ys) (by rw [hl,h1]) hnews (zqC ys) hroom
        (fun j hj=>by rw [h1,Nat.mul_one,Nat.add_assoc];exact hcell _ (by rw [hl] at hj;omega)) (fun j _=>zF k3 _)
       rw [h1,Nat.mul_one] at this
       exact this
     · rw [List.length_append,<-hln,<-hs.len]
     · by_cases hjl:j<l.length
       · rw [q3 (o+j) (by omega),k5 j hjl,List.getElem_append_left hjl]
       · obtain⟨p,rfl⟩:∃ p,j=l.length+p:=⟨j - l.length,by omega⟩
         have hp:p<ys.length:=by rw [List.length_append] at hj;omega
         have e1:=q4 p (by rw [zzS];exact hp) (by rw [List.length_append,<-hs.len] at hj;omega)
         have e2:=vvC ys p hp
         rw [List.getElem?_eq_getElem (by rw [zzS];exact hp)] at e2
         have e3:(l++ys)[l.length+p]'hj=ys[p]:=by rw [List.getElem_append_right (Nat.le_add_right _ _)];simp only [Nat.add_sub_cancel_left]
         rw [show o+(l.length+p)=o+n+p by omega,e1,Option.some.inj e2,e3]
     · rw [show blkM (some ⟨g,o,none⟩) c=some g by unfold blkM;rw [if_neg (by omega)];rfl]
       exact grown_scs w g (o+n) (bvs ys)
 · cases A with
   | none =>
     have hz:n=0/\c=0:=by
      rcases h.row with hc | ⟨g,o,cur,e,_⟩
      · have:=h.cap;omega
      · cases e
     obtain⟨rfl,rfl⟩:=hz
     obtain rfl:l=[]:=List.length_eq_zero_iff.1 h.len.symm
     obtain⟨v',w',hrun,r1,r2,_⟩:=run_append_own (P:=Tryz.prog) w w.heap.size 41 ty 5 i (.int .u8 0) 1 1 yye hi h0 h1 h2 rfl (by decide) (.slice none 0 0) 0 [] (World.ownsRow_nil w _ _ 1) ad m c2 (bvs ys) hl hnews (zqC ys) hfit.1 hfit.2 zN
     obtain⟨A',c',rfl,hm2,hlies⟩:=grow v' w' r1 r2
     exact⟨A',c',w',hrun,hm2,r2,hlies⟩
   | some b =>
     have holds:∀ j u,(bvs l)[j]?=some u->w.cell? (b.add j)=some u:=by
      by_cases hl0:l=[]
      · subst hl0;intro j u hu;simp [bvs] at hu
      · obtain⟨g,o,e,_,_,_⟩:=bs_rd h.bs (by rw [Ne,<-List.length_eq_zero_iff,zzS,List.length_eq_zero_iff];exact hl0)
        exact (bs_rd h.bs).news rfl
     obtain⟨v',w',hrun,r1,r2⟩:=run_append_arg_grows (P:=Tryz.prog) w 41 ty 5 i (.int .u8 0) 1 1 yye hi h0 h1 h2 rfl (by decide) b n c (bvs l) (by rw [zzS,Nat.mul_one];exact h.len.symm) holds ad m c2 (bvs ys) hl hnews (by omega) hfit.1 hfit.2
     obtain⟨A',c',rfl,hm2,hlies⟩:=grow v' w' r1 r2
     exact⟨A',c',w',hrun,hm2,xqC r2 _,hlies⟩
end
section
open Go Go.RowKit
end
section
open Go Go.RowKit
end
end Go.Proofs.YtpmglcachffojaaGreatDoor
