/- A part of what None leans on. -/
import Derived.Test.YtpmglcachffojaaGreatDoorZ16
import Derived.Test.YtpmglcachffojaaGreatDoorZ17
import Derived.Sort.BigQuietIn
import Derived.Sort.CutIn
set_option maxRecDepth 100000
set_option maxHeartbeats 16000000
namespace Go.Proofs.YtpmglcachffojaaGreatDoor
section
open Go Go.RowKit Go.Shelf BigFrame
attribute [local go_sem] Oper.semAt_some
def zqz (x:Rn):Array Value:=#[.int .u8 (x.c.toNat:Int),.int .i64 (x.n:Int)]
def KpB (b0 bb:Nat) (W W':World):Prop:=W'.heap[bb]?=W.heap[bb]?/\(∀ b,b<b0->W'.heap[b]?=W.heap[b]?)/\W.heap.size<=W'.heap.size
theorem KpB.trans {b0 bb:Nat} {A B C:World} (h:KpB b0 bb A B) (k:KpB b0 bb B C):KpB b0 bb A C:=⟨k.1.trans h.1,fun b hb=>(k.2.1 b hb).trans (h.2.1 b hb),Nat.le_trans h.2.2 k.2.2⟩
theorem KpB.put {b0 bb:Nat} {w:World} (h0:b0<=w.heap.size) (h1:bb<w.heap.size) (W:World) (l:Nat) (o:Obj) (hl:w.heap.size<=l):KpB b0 bb W (W.putObj l o) :=
 ⟨World.putObj_heap_other (by omega),fun b hb=>World.putObj_heap_other (by omega),by simp⟩
theorem zqA {b0 bb:Nat} {W W':World} {A:Option Addr} {n c:Nat} {l:List UInt8} (h:Bs (fun b=>b<b0) W A n c l) (k:KpB b0 bb W W'):Bs (fun b=>b<b0) W' A n c l:=h.keep k.2.2 fun b hb _=>k.2.1 b hb
theorem jju (w:World) (a b:Nat):(w.drewN a).drewN b=w.drewN (a+b):=by unfold World.drewN;simp [Nat.add_assoc]
theorem qzl (l:List UInt8) (h:0<l.length):l.headD 0=l[0]:=by
 cases l with
 | nil=>simp at h
 | cons a r=>rfl
theorem zqB (n:Nat) (hn:1<=n) (l b0 bb:Nat) (hbb:b0<=bb) (A:Option Addr) (m c:Nat) (bs:List UInt8) (J:List Rn->World->Prop) (hJd:∀ pre W1 k,J pre W1->J pre (W1.drewN k)) (hJs:∀ pre W1 v,J pre W1->J pre (W1.setCell ⟨bb,0,none⟩ v))
 (hY:∀ pre x W1,J pre W1->pre.length<bs.length->YieldAt Fence.wide (n - 1) Tryz.prog l (zqz x) W1 fun e W'=>e=.returned (.bool true)/\J (pre++[x]) W'/\KpB b0 bb W1 W')
 (W:World) (hA:W.heap[bb]?=some (.cells #[.slice A m c] 41 (0,0))) (hs:Bs (fun b=>b<b0) W A m c bs) (h0:J [] W) :
 CallsIn Fence.wide n Tryz.prog 241 #[.func (.yield l) #[] #[],.pointer (some ⟨bb,0,none⟩)] W fun e W'=>(∃ v,e=.returned v)/\∃ xs,xs=rnL bs/\J xs W':=by
 have HRL:=zH (kqE bs)
 have HA:=zH hA;have HS:=zH hs
 clear hA hs
 refine callsIn_of_wp Tryz.func241 rfl trivial ?_ rfl
 simp only [Tryz.ntmps241,List.size_toArray,List.length_cons,List.length_nil,Nat.reduceAdd,Nat.reduceSub,Array.replicate_succ,Array.replicate_zero,List.push_toArray,List.append_toArray,List.nil_append,List.cons_append]
 gi_wp2
 gi_loopw [3] (fun _ wr=>∃ (pre:List Rn) (rest:List UInt8) (A2:Option Addr) (m2 c2:Nat),pre++rnL rest=rnL bs/\m2<=m/\wr.heap[bb]?=some (.cells #[.slice A2 m2 c2] 41 (0,0))/\Bs (fun b=>b<b0) wr A2 m2 c2 rest/\J pre wr)
  (fun _ wr=>lenV ((wr.cell? ⟨bb,0,none⟩).getD undef))
 case atStart=>exact⟨[],bs,A,m,c,rfl,Nat.le_refl _,HA.out,HS.out,h0⟩
 case round =>
  obtain⟨pre,rest,A2,m2,c2,hpr,hm2,hbox,hbs,hJp⟩:=hrel
  have HPR:=zH hpr;have HBOX:=zH hbox;have HBS:=zH hbs;have HJP:=zH hJp
  have q0:wr.cell? ⟨bb,0,none⟩=some (.slice A2 m2 c2):=by rw [zC hbox];rfl
  have HQ0:=zH q0
  have hlen:=hbs.len
  clear hpr hbox hbs hJp
  by_cases hz:m2=0
  · obtain rfl:rest=[]:=List.length_eq_zero_iff.1 (by omega)
    subst hz
    clear hlen
    gi_wp2
    go_end0
    exact⟨⟨_,rfl⟩,_,by rw [<-HPR.out,kqC,List.append_nil],HJP.out⟩
  · have hne:rest≠[]:=fun e=>by rw [e] at hlen;simp at hlen;omega
    have hmp:(0:Int)<(m2:Int):=by omega
    have hmn:0<m2:=by omega
    have hmd:decide (0<m2)=true:=decide_eq_true hmn
    have HNE:=zH hne
    have HLEN:=zH hlen
    have hc2:=HBS.out.2.1
    have hc3:=HBS.out.2.2.1
    unfold maxLen at hc3
    clear hlen hne
    obtain⟨ch,hch⟩:∃ ch,ch=rest.headD 0:=⟨_,rfl⟩
    obtain⟨b,o,hA2,hbb0,hbl,_⟩:=uuF HBS.out (k:=0) (by have:=HLEN.out;omega)
    subst hA2
    have HCELL:Hid (∀ W':World,(∀ b,b<b0->W'.heap[b]?=wr.heap[b]?)->∀ j (hj:j<rest.length),W'.cell? ⟨b,o+j,none⟩=some (.int .u8 ((rest[j].toNat:Nat):Int))):=zH (fun (W':World) (hW':∀ b,b<b0->W'.heap[b]?=wr.heap[b]?) (j:Nat) (hj:j<rest.length)=>by
     obtain⟨b',o',he,_,_,hc⟩:=uuF HBS.out hj
     injection he with he;injection he with e1 e2 _
     subst e1 e2
     exact (World.cell?_of_block (a:=⟨b,o+j,none⟩) (hW' b hbb0)).trans hc)
    have hch0:rest[0]'(by have:=HLEN.out;omega)=ch:=by rw [hch];exact (qzl _ _).symm
    have HCH0:=zH hch0
    have HCH:=zH hch
    clear hch hch0
    gi_wp2
    obtain⟨wo,rfl⟩:∃ wo,wo=wr:=⟨wr,rfl⟩
    gi_loopw [3] (fun nv wq=>∃ (j k:Nat),1<=j/\j<=m2/\j<=130/\nv=.int .i64 (j:Int)/\wq=wo.drewN k/\∀ i,i<j->rest[i]?=some ch)
     (fun nv _=>m2 - (intOf nv).toNat)
    case atStart=>exact⟨1,0,Nat.le_refl _,by omega,by omega,rfl,rfl,fun i hi=>by rw [show i=0 by omega,List.getElem?_eq_getElem (by have:=HLEN.out;omega),HCH0.out]⟩
    case round =>
     obtain⟨j,k,hj1,hjm,hj130,rfl,hwq,hall⟩:=hrel
     have HALL:=zH hall
     clear hall
     subst hwq
     have hq:wo.cell? ⟨bb,0,none⟩=some (.slice (some ⟨b,o,none⟩) m2 c2):=HQ0.out
     have k0:wo.cell? ⟨b,o,none⟩=some (.int .u8 ((ch.toNat:Nat):Int)):=by
      have:=HCELL.out wo (fun _ _=>rfl) 0 (by have:=HLEN.out;omega)
      rw [HCH0.out,Nat.add_zero] at this
      exact this
     have i0:(0:Int)<=(j:Int):=by omega
     obtain⟨bq,hbq⟩:∃ bq:Bool,bq=(decide (j<m2)&&decide (j<130)&&(rest.getD j 0==ch)):=⟨_,rfl⟩
     have HBQ:=zH hbq
     clear hbq
     gi_upto_region 2 with fail
     gi_cut [24,27,28,29,30,31,32,33,34,35,36] from 7 (fun v v27 v28 v29 v30 v31 v32 v33 v34 v35 v36 wx=>v=.bool bq/\(v27=u27/\v28=u28/\v29=u29/\v30=u30/\v31=u31/\v32=u32/\v33=u33/\v34=u34/\v35=u35/\v36=u36)/\∃ k',wx=wo.drewN k')
     case first =>
      by_cases h1:j<m2
      · have z1:(j:Int)<(m2:Int):=by omega
        have d1:decide ((j:Int)<(m2:Int))=true:=decide_eq_true z1
        by_cases h2:j<130
        · have z2:(j:Int)<130:=by omega
          have d2:decide ((j:Int)<130)=true:=decide_eq_true z2
          have hjl:j<rest.length:=by rw [<-HLEN.out];exact h1
          obtain⟨x,hx⟩:∃ x,x=rest[j]:=⟨_,rfl⟩
          have kj:=HCELL.out wo (fun _ _=>rfl) j hjl
          rw [<-hx] at kj
          have HBQ2:=zH (show bq=(x==ch) by rw [HBQ.out,decide_eq_true h1,decide_eq_true h2,List.getD_eq_getElem?_getD,List.getElem?_eq_getElem hjl,hx];rfl)
          by_cases hxc:x=ch
          · have z3:(((x.toNat:Nat):Int)==((ch.toNat:Nat):Int))=true:=xxJ (by rw [hxc])
            have HB3:=zH (show bq=true by rw [HBQ2.out,hxc];exact beq_self_eq_true ch)
            clear hx hxc h1 h2
            gi_big_quiet_th (fail)
            gi_wp2
            gi_meet
            case rel=>exact⟨by rw [HB3.out],⟨rfl,rfl,rfl,rfl,rfl,rfl,rfl,rfl,rfl,rfl⟩,k+nq,by first | rfl | exact jju _ _ _⟩
          · have z3:(((x.toNat:Nat):Int)==((ch.toNat:Nat):Int))=false:=zzA (fun e=>hxc (UInt8.toNat_inj.1 (by omega)))
            have HB3:=zH (show bq=false by rw [HBQ2.out];simpa using hxc)
            clear hx hxc h1 h2
            gi_big_quiet_th (fail)
            gi_wp2
            gi_meet
            case rel=>exact⟨by rw [HB3.out],⟨rfl,rfl,rfl,rfl,rfl,rfl,rfl,rfl,rfl,rfl⟩,k+nq,by first | rfl | exact jju _ _ _⟩
        · have z2:¬ (j:Int)<130:=by omega
          have d2:decide ((j:Int)<130)=false:=decide_eq_false z2
          have HB3:=zH (show bq=false by rw [HBQ.out,decide_eq_false h2,Bool.and_false,Bool.false_and])
          clear h1 h2
          gi_big_quiet_th (fail)
          gi_wp2
          gi_meet
          case rel=>exact⟨by rw [HB3.out],⟨rfl,rfl,rfl,rfl,rfl,rfl,rfl,rfl,rfl,rfl⟩,k+nq,by first | rfl | exact jju _ _ _⟩
      · have z1:¬ (j:Int)<(m2:Int):=by omega
        have d1:decide ((j:Int)<(m2:Int))=false:=decide_eq_false z1
        have HB3:=zH (show bq=false by rw [HBQ.out,decide_eq_false h1,Bool.false_and,Bool.false_and])
        clear h1
        gi_big_quiet_th (fail)
        gi_wp2
        gi_meet
        case rel=>exact⟨by rw [HB3.out],⟨rfl,rfl,rfl,rfl,rfl,rfl,rfl,rfl,rfl,rfl⟩,k+nq,by first | rfl | exact jju _ _ _⟩
     case rest =>
      obtain⟨rfl,⟨rfl,rfl,rfl,rfl,rfl,rfl,rfl,rfl,rfl,rfl⟩,k',hwc⟩:=hcut
      subst hwc
      cases bq with
      | true =>
        have hb:=HBQ.out.symm
        simp only [Bool.and_eq_true,decide_eq_true_eq,beq_iff_eq] at hb
        obtain⟨⟨h1,h2⟩,h3⟩:=hb
        have hjl:j<rest.length:=by rw [<-HLEN.out];exact h1
        have HALL2:=zH (show ∀ i,i<j+1->rest[i]?=some ch from fun i hi=>by
         by_cases h:i<j
         · exact HALL.out i h
         · obtain rfl:i=j:=by omega
           rw [List.getD_eq_getElem?_getD,List.getElem?_eq_getElem hjl] at h3
           rw [List.getElem?_eq_getElem hjl,<-h3];rfl)
        clear h3
        gi_wp2
        go_roundw
        case rel=>exact⟨j+1,k',by omega,by omega,by omega,by go_num,rfl,HALL2.out⟩
        case measure=>simp [intOf];omega
      | false =>
        have HSTOP:=zH (show zzg rest=j from jjO hj1 (by rw [<-HLEN.out];exact hjm) hj130 (fun i hi=>by rw [HALL.out i hi,HCH.out]) (by
         rcases Nat.lt_or_ge j rest.length with h | h
         · rcases Nat.lt_or_ge j 130 with h' | h'
           · right;right
             refine⟨h,fun e=>?_⟩
             have:=HBQ.out
             rw [decide_eq_true (by rw [HLEN.out];exact h),decide_eq_true h',List.getD_eq_getElem?_getD,List.getElem?_eq_getElem h] at this
             simp only [Bool.and_self,Bool.true_and,Option.getD_some] at this
             rw [e,<-HCH.out,beq_self_eq_true] at this
             cases this
           · left;omega
         · right;left;have:=HLEN.out;omega))
        obtain⟨x,hx⟩:∃ x:Rn,x=⟨ch,j,hj1,hj130⟩:=⟨_,rfl⟩
        have hpl:pre.length<bs.length:=by
         have h1:=congrArg List.length HPR.out
         have h2:=HRL.out
         rw [vvz HNE.out,List.length_append,List.length_cons] at h1
         omega
        obtain⟨fn,tmps,assign,body,hy,hR⟩:=hY pre x (wo.drewN k') (hJd _ _ _ HJP.out) hpl
        have hxe:zqz x=#[.int .u8 ((ch.toNat:Nat):Int),.int .i64 (j:Int)]:=by rw [hx];rfl
        rw [hxe] at hy
        have HXR:=zH (show pre++[x]++rnL (rest.drop j)=rnL bs by
         rw [<-HPR.out,vvz HNE.out,List.append_assoc,List.singleton_append,HSTOP.out]
         congr 2
         rw [hx]
         unfold rnOf
         simp only [Rn.mk.injEq]
         exact⟨HCH.out,HSTOP.out.symm⟩)
        clear hx hxe hpl
        gi_wp2
        refine hR.mono ?_
        rintro e W3 ⟨rfl,hJ3,hk3⟩
        have hbox3:W3.heap[bb]?=some (.cells #[.slice (some ⟨b,o,none⟩) m2 c2] 41 (0,0)):=hk3.1.trans HBOX.out
        have hbs3:Bs (fun b=>b<b0) W3 (some ⟨b,o,none⟩) m2 c2 rest:=zqA (HBS.out.drewN k') hk3
        have q3:W3.cell? ⟨bb,0,none⟩=some (.slice (some ⟨b,o,none⟩) m2 c2):=by rw [zC hbox3];rfl
        have f3:=zF hbox3 0
        have HJ3:=zH hJ3;have HBOX3:=zH hbox3
        have hc:=hbs3.cut (lo:=j) (hi:=m2) hjm zN
        rw [zL (by rw [<-HLEN.out];exact Nat.le_refl _)] at hc
        have hc2':Bs (fun b=>b<b0) W3 (if c2=j then some ⟨b,o,none⟩ else some ⟨b,o+j,none⟩) (m2 - j) (c2 - j) (rest.drop j):=by
         simpa [Addr.add,show tU8.size=1 from rfl,show ¬ j=0 by omega] using hc
        have HC2:=zH hc2'
        have i1:(j:Int)<=(m2:Int):=by omega
        have i2:(j:Int)<=(c2:Int):=by omega
        have i3:(m2:Int)<=(c2:Int):=by omega
        clear hJ3 hbox3 hbs3 hc hc2' hk3
        by_cases hcj:c2=j
        · rw [if_pos hcj,show c2 - j=0 by omega] at HC2
          gi_wp2
          go_roundw
          case rel =>
           exact⟨pre++[x],rest.drop j,(some ⟨b,o,none⟩),m2 - j,0,HXR.out,by omega,zza HBOX3.out rfl,Sl.setCell HC2.out (p:=⟨bb,0,none⟩) (fun h=>Nat.lt_irrefl _ (Nat.lt_of_lt_of_le h hbb)) _,hJs _ _ _ HJ3.out⟩
          case measure =>
           have e1:(W3.setCell ⟨bb,0,none⟩ (.slice (some ⟨b,o,none⟩) (m2 - j) 0)).cell? ⟨bb,0,none⟩=some (.slice (some ⟨b,o,none⟩) (m2 - j) 0):=by rw [zC (zza HBOX3.out rfl)];rfl
           simp only [e1,HQ0.out,Option.getD_some,lenV]
           omega
        · rw [if_neg hcj] at HC2
          gi_wp2
          go_roundw
          case rel =>
           exact⟨pre++[x],rest.drop j,(some ⟨b,o+j,none⟩),m2 - j,(c2 - j),HXR.out,by omega,zza HBOX3.out rfl,Sl.setCell HC2.out (p:=⟨bb,0,none⟩) (fun h=>Nat.lt_irrefl _ (Nat.lt_of_lt_of_le h hbb)) _,hJs _ _ _ HJ3.out⟩
          case measure =>
           have e1:(W3.setCell ⟨bb,0,none⟩ (.slice (some ⟨b,o+j,none⟩) (m2 - j) (c2 - j))).cell? ⟨bb,0,none⟩=some (.slice (some ⟨b,o+j,none⟩) (m2 - j) (c2 - j)):=by rw [zC (zza HBOX3.out rfl)];rfl
           simp only [e1,HQ0.out,Option.getD_some,lenV]
           omega
theorem qxO (n:Nat) (A:Option Addr) (m c:Nat) (w:World) :
 CallsIn Fence.wide n Tryz.prog 202 #[.slice A m c] w fun e w'=>e=.returned (.func (.func 241) #[] #[.pointer (some ⟨w.heap.size,0,none⟩)])/\w'=w.alloc (.cells #[.slice A m c] 41):=by
 refine callsIn_of_wp Tryz.func202 rfl trivial ?_ rfl
 simp only [Tryz.ntmps202,List.size_toArray,List.length_cons,List.length_nil,Nat.reduceAdd,Nat.reduceSub,Array.replicate_succ,Array.replicate_zero,List.push_toArray,List.append_toArray,List.nil_append,List.cons_append]
 gi_wp2
 go_ret
 exact⟨rfl,rfl⟩
theorem qxP (n:Nat) (hn:1<=n) (b0 bb:Nat) (hbb:b0<=bb) (A:Option Addr) (m c:Nat) (bs:List UInt8) (w:World) (hA:w.heap[bb]?=some (.cells #[.slice A m c] 41 (0,0))) (hs:Bs (fun b=>b<b0) w A m c bs) :
 qx7 Fence.wide n Tryz.prog 241 #[.pointer (some ⟨bb,0,none⟩)] zqz bb (KpB b0 bb) (fun xs=>xs=rnL bs) bs.length w:=fun l J W hW hJd hJs hY h0 =>
 zqB n hn l b0 bb hbb A m c bs J hJd hJs hY W ((hW.block bb (zzc hA)).trans hA) (hs.below hW zN) h0
end
section
open Go Go.RowKit
def yy2:List UInt8->Option (List UInt8×List UInt8)
 | c::x::r=>if c.toNat<128 then some (List.replicate (c.toNat+3) x,r) else if 256 - c.toNat<=(x::r).length then some ((x::r).take (256 - c.toNat),(x::r).drop (256 - c.toNat)) else none
 | _=>none
def byTk (m:Nat):Nat->List UInt8->List UInt8->Option (List UInt8×List UInt8)
 | 0,out,b=>if out.length<=m then some (out,b) else none
 | k+1,out,b=>if out.length<m then (yy2 b).bind fun x=>byTk m k (out++x.1) x.2 else if out.length<=m then some (out,b) else none
def byT (b:List UInt8) (m:Nat):Option (List UInt8×List UInt8):=byTk m m [] b
theorem uup {m k:Nat} {out b:List UInt8} (h:m<=out.length):byTk m k out b=if out.length<=m then some (out,b) else none:=by
 cases k with
 | zero=>rfl
 | succ k=>rw [byTk,if_neg (by omega)]
theorem uuq {m k:Nat} {out b:List UInt8} (h:out.length<m):byTk m (k+1) out b=(yy2 b).bind fun x=>byTk m k (out++x.1) x.2:=by rw [byTk,if_pos h]
theorem uur {b:List UInt8} (h:b.length<2):yy2 b=none:=by
 match b,h with
 | [],_=>rfl
 | [_],_=>rfl
theorem vvp {c x:UInt8} {r:List UInt8} (h:c.toNat<128):yy2 (c::x::r)=some (List.replicate (c.toNat+3) x,r):=by rw [yy2,if_pos h]
theorem xx3 {c x:UInt8} {r:List UInt8} {q:Nat} (h:¬ c.toNat<128) (hq:q=256 - c.toNat):yy2 (c::x::r)=if q<=(x::r).length then some ((x::r).take q,(x::r).drop q) else none:=by rw [yy2,if_neg h,hq]
theorem jjE {m:Nat}:∀ {k:Nat} {out b:List UInt8} {x:List UInt8×List UInt8},m<=k+out.length->byTk m k out b=some x->x.1.length=m/\x.2.length<=b.length
 | 0,out,b,x,hk,h=>by
   rw [byTk] at h
   split at h
   · injection h with h;subst h;exact⟨by dsimp only;omega,Nat.le_refl _⟩
   · cases h
 | k+1,out,b,x,hk,h=>by
   by_cases hm:out.length<m
   · rw [uuq hm] at h
     cases hs:yy2 b with
     | none=>rw [hs] at h;cases h
     | some y =>
       rw [hs,Option.bind_some] at h
       have hy:1<=y.1.length/\y.2.length<=b.length:=by
        match b,hs with
        | c::z::r,hs =>
          by_cases hc:c.toNat<128
          · rw [vvp hc] at hs
            injection hs with hs;subst hs
            exact⟨by simp,by simp;omega⟩
          · rw [xx3 hc rfl] at hs
            have hlt:=c.toNat_lt
            split at hs
            · injection hs with hs;subst hs
              refine⟨?_,?_⟩
              · dsimp only;rw [List.length_take];simp only [List.length_cons] at *;omega
              · dsimp only;rw [List.length_drop];simp only [List.length_cons];omega
            · cases hs
       obtain⟨h1,h2⟩:=jjE (by rw [List.length_append];omega) h
       exact⟨h1,Nat.le_trans h2 hy.2⟩
   · rw [uup (by omega)] at h
     split at h
     · injection h with h;subst h;exact⟨by dsimp only;omega,Nat.le_refl _⟩
     · cases h
theorem qzN {b:List UInt8} {m:Nat} {x:List UInt8×List UInt8} (h:byT b m=some x):x.1.length=m/\x.2.length<=b.length:=jjE (by simp) h
def qzO (o:Option (List UInt8×List UInt8)) (w:World) (e:Ending) (w':World):Prop :=
 ∃ A n c A2 n2 c2,e=.returned (.tuple #[.slice A n c,.slice A2 n2 c2,.int .i64 (okc o.isSome 2)])/\Bs (fun b=>w.heap.size<=b) w' A n c (o.getD ([],[])).1/\Bs (fun b=>w.heap.size<=b) w' A2 n2 c2 (o.getD ([],[])).2/\Below w.heap.size w w'
theorem qzP {o:Option (List UInt8×List UInt8)} {w w':World} (h:o=none) (hb:Below w.heap.size w w'):qzO o w (.returned (.tuple #[.slice none 0 0,.slice none 0 0,.int .i64 2])) w' :=
 ⟨none,0,0,none,0,0,by rw [h];rfl,by rw [h];exact Sl.nil_ _ _ _,by rw [h];exact Sl.nil_ _ _ _,hb⟩
theorem qxn {F:Nat->Prop} {w:World} {b o n c:Nat} {l:List UInt8} (h:Bs F w (some ⟨b,o,none⟩) n c l) {lo hi:Nat} (h1:1<=lo) (h2:lo<hi) (h3:hi<=n):Bs F w (some ⟨b,o+lo,none⟩) (hi - lo) (c - lo) ((l.take hi).drop lo):=by
 have h4:=Sl.cut h (lo:=lo) (hi:=hi) (by omega) h3
 have h5:=h.2.1
 rw [if_neg (by omega)] at h4
 simpa [Addr.add,show tU8.size=1 from rfl,show ¬ lo=0 by omega] using h4
theorem qzQ {F:Nat->Prop} {w:World} {b o n c:Nat} {l:List UInt8} (h:Bs F w (some ⟨b,o,none⟩) n c l) {k:Nat} (hk:k<=n) (h1:1<=k):Bs F w (if c=k then some ⟨b,o,none⟩ else some ⟨b,o+k,none⟩) (n - k) (c - k) (l.drop k):=by
 have h2:=Sl.cut h (lo:=k) (hi:=n) hk zN
 rw [zL (by rw [<-h.len];exact Nat.le_refl _)] at h2
 simpa [Addr.add,show tU8.size=1 from rfl,show ¬ k=0 by omega] using h2
theorem uu0 (F:Nat->Prop) (A:Option Addr) (n c:Nat) (l:List UInt8) (w:World) (h:Bs F w A n c l) (hn:n<=4294967296) :
 Calls Tryz.prog 228 #[.slice A n c] w (Own1 w l):=by
 have HN:=zH hn
 cases A with
 | none =>
   have hl:l=[]:=by
    cases l with
    | nil=>rfl
    | cons x r=>obtain⟨b,o,e,_⟩:=uuF h (k:=0) (by simp);cases e
   clear h hn
   have qT:=uue
   go_enter Tryz.func228,Tryz.ntmps228
   go_wp2_with fail
   go_ret
   exact⟨none,0,0,rfl,by rw [hl];exact OwnB.nil_ _ _,zR⟩
 | some a =>
   have HH:=zH (h.weaken (F':=fun b=>F b/\b<w.heap.size) fun b hb hl=>⟨hb,hl⟩)
   clear h hn
   have qT:=uue
   go_enter Tryz.func228,Tryz.ntmps228
   go_wp2_with (first
    | (at_builtin;refine apb (w.alloc (.cells #[] 5)) w rfl (.tmp 5) (.tmp 6) rfl w.heap.size (some ⟨w.heap.size,0,none⟩) 0 0 [] rfl (World.ownsRow_lit w #[] 0 zN (by simp [maxLen]) rfl:OwnB (w.alloc (.cells #[] 5)) w.heap.size (some ⟨w.heap.size,0,none⟩) 0 0 []) ((zR).alloc zN _) zN (fun b=>F b/\b<w.heap.size) (some a) n c l rfl (HH.out.alloc _) (by have:=HN.out;omega) ?_;intro A8 c8 w8 h8 hb8 _;rw [Nat.zero_add,List.nil_append] at h8;rw [Nat.zero_add];have HO8:=zH h8;have HB8:=zH hb8;clear h8 hb8)
    | fail)
   go_ret
   exact⟨A8,n,c8,rfl,HO8.out,HB8.out⟩
theorem kqh (F:Nat->Prop) (A:Option Addr) (n c:Nat) (bs:List UInt8) (m:Nat) (w:World) (h:Bs F w A n c bs) (hn:n<=4294967296) (hm:m<=4096) :
 Calls Tryz.prog 191 #[.slice A n c,.int .i64 (m:Int)] w (qzO (byT bs m) w):=by
 have HH:=zH (h.weaken (F':=fun b=>b<w.heap.size) fun b _ hb=>hb);have HN:=zH hn
 obtain⟨o,ho⟩:∃ o,o=byT bs m:=⟨_,rfl⟩
 have HO0:=zH ho
 have z0:¬ (m:Int)<0:=by omega
 have z1:¬ (4096:Int)<(m:Int):=by omega
 rw [<-ho]
 clear h hn ho
 go_enter Tryz.func191,Tryz.ntmps191
 go_wp2_with fail
 go_loopw [0,7] (fun bv ov wr=>∃ (k mb no co:Nat) (A2:Option Addr) (c2:Nat) (Ao:Option Addr) (bl p:List UInt8),bv=.slice A2 mb c2/\ov=.slice Ao no co/\m<=k+no/\no<=m+200/\mb<=n/\Bs (fun b=>b<w.heap.size) wr A2 mb c2 bl/\OwnB wr w.heap.size Ao no co p/\Below w.heap.size w wr/\o=byTk m k p bl)
  (fun _ ov _=>m - lenV ov)
 case atStart=>exact⟨m,n,0,0,A,c,none,bs,[],rfl,rfl,by omega,by omega,Nat.le_refl _,HH.out,OwnB.nil_ _ _,zR,HO0.out⟩
 case round =>
  obtain⟨k,mb,no,co,A2,c2,Ao,bl,p,rfl,rfl,hk,hno,hmb,hs,ho,hb,hp⟩:=hrel
  have HS:=zH hs;have HO:=zH ho;have HB:=zH hb;have HP:=zH hp
  have hnl:=ho.len
  have hml:=hs.len
  clear hs ho hb hp
  by_cases hlt:no<m
  · have hlt':(no:Int)<(m:Int):=by omega
    obtain⟨k,rfl⟩:∃ j,k=j+1:=⟨k - 1,by omega⟩
    have HST:=zH (show o=(yy2 bl).bind fun x=>byTk m k (p++x.1) x.2 by rw [HP.out,uuq (by omega)])
    by_cases h2:mb<2
    · have h2':(mb:Int)<2:=by omega
      have HZ:=zH (show o=none by rw [HST.out,uur (by omega)];rfl)
      clear hk hno hmb hnl hml h2
      go_wp2_with fail
      go_ret3
      exact qzP HZ.out HB.out
    · have h2':¬ (mb:Int)<2:=by omega
      obtain⟨x0,x1,r,rfl⟩:∃ x0 x1 r,bl=x0::x1::r:=by
       match bl,hml with
       | [],h=>simp at h;omega
       | [_],h=>simp at h;omega
       | x0::x1::r,_=>exact⟨x0,x1,r,rfl⟩
      obtain⟨b,a,rfl,_,_,hx0⟩:=uuF HS.out (k:=0) (by simp)
      rw [Nat.add_zero] at hx0
      have hx0:wr.cell? ⟨b,a,none⟩=some (.int .u8 (x0.toNat:Int)):=hx0
      have hlt0:=x0.toNat_lt
      have hml':mb=r.length+2:=hml
      have hc2:=HS.out.2.1
      have hc3:=HS.out.2.2.1
      unfold maxLen at hc3
      have m0:(0:Int)<(mb:Int):=by omega
      have wv:IntKind.i64.wrap (x0.toNat:Int)=(x0.toNat:Int):=by rw [IntKind.wrap_i64];omega
      by_cases h8:x0.toNat<128
      · have h8':(x0.toNat:Int)<128:=by omega
        have w1:IntKind.i64.wrap (256 - (x0.toNat:Int))=256 - (x0.toNat:Int):=by rw [IntKind.wrap_i64];omega
        have w2:IntKind.i64.wrap ((x0.toNat:Int)+3)=((x0.toNat+3:Nat):Int):=by rw [IntKind.wrap_i64];omega
        have HX:=zH (show o=byTk m k (p++List.replicate (x0.toNat+3) x1) r by rw [HST.out,vvp h8];rfl)
        have HC1:Hid (Bs (fun b=>b<w.heap.size) wr (some ⟨b,a+1,none⟩) 1 (c2 - 1) [x1]):=zH (qxn HS.out (lo:=1) (hi:=2) zN (by omega) (by omega))
        have HCB:=zH (qzQ HS.out (k:=2) (by omega) (by omega))
        obtain⟨q,hq⟩:∃ q,q=x0.toNat+3:=⟨_,rfl⟩
        have hq2:1<=q/\q<=130:=by omega
        rw [<-hq] at HX w2
        have i1:(2:Int)<=(c2:Int):=by omega
        have i2:(2:Int)<=(mb:Int):=by omega
        have i3:¬ c2=1:=by omega
        have i4:no+q<=68719476736:=by omega
        clear hq hml hml' hnl h2 h8 hlt0 HST HP
        go_upto_region 13 with (first
         | (go_at_call 203;refine (vvn _ _ (c2 - 1) x1 q hq2.1 (by omega) _ HC1.out).mono ?_;rintro e w3 ⟨g,rfl,hs3,hb3⟩;have HS3:=zH hs3;have HB3:=zH hb3;clear hs3 hb3)
         | (at_builtin;refine apb w3 w rfl (.tmp 42) (.tmp 47) rfl w.heap.size Ao no co p (by rfl) (HO.out.keepB HB3.out) (HB.out.trans (HB3.out.mono HB.out.size)) zN (fun _=>True) _ q q _ (by rfl) HS3.out i4 ?_;intro A5 c5 w5 ho5 hb5 hg5;have HO5:=zH ho5;have HB5:=zH hb5;have HG5:=zH hg5;clear ho5 hb5 hg5)
         | fail)
        have HGR:=zH (show ∀ g,Ao.map (·.block)=some g->¬ g<w.heap.size from fun g hg h=>by have:=(zzx HO.out.own hg).2.1;omega)
        by_cases hcx:c2=2
        · rw [if_pos hcx,show c2 - 2=0 by omega] at HCB
          go_wp2_with fail
          go_roundw
          case rel=>exact⟨k,mb - 2,no+q,c5,_,_,A5,_,_,rfl,rfl,by omega,by omega,by omega,(HCB.out.below HB3.out zN).grown HG5.out HGR.out,HO5.out,HB5.out,HX.out⟩
          case measure=>simp [lenV];omega
        · rw [if_neg hcx] at HCB
          go_wp2_with fail
          go_roundw
          case rel=>exact⟨k,mb - 2,no+q,c5,_,_,A5,_,_,rfl,rfl,by omega,by omega,by omega,(HCB.out.below HB3.out zN).grown HG5.out HGR.out,HO5.out,HB5.out,HX.out⟩
          case measure=>simp [lenV];omega
      · have h8':¬ (x0.toNat:Int)<128:=by omega
        obtain⟨q,hq⟩:∃ q,q=256 - x0.toNat:=⟨_,rfl⟩
        have w1:IntKind.i64.wrap (256 - (x0.toNat:Int))=(q:Int):=by rw [IntKind.wrap_i64];omega
        have w2:IntKind.i64.wrap ((q:Int)+1)=((q+1:Nat):Int):=by rw [IntKind.wrap_i64];omega
        have HX:=zH (show o=((if q<=(x1::r).length then some ((x1::r).take q,(x1::r).drop q) else none:Option (List UInt8×List UInt8))).bind fun x=>byTk m k (p++x.1) x.2 by rw [HST.out,xx3 h8 hq])
        by_cases hle:mb<=q
        · have hle':(mb:Int)<=(q:Int):=by omega
          have HZ:=zH (show o=none by rw [HX.out,if_neg (by rw [List.length_cons];omega)];rfl)
          clear hk hno hmb hnl hml h2 h8 hlt0 hml' hq hle
          go_wp2_with fail
          go_ret3
          exact qzP HZ.out HB.out
        · have hle':¬ (mb:Int)<=(q:Int):=by omega
          have HY:=zH (show o=byTk m k (p++(x1::r).take q) ((x1::r).drop q) by rw [HX.out,if_pos (by rw [List.length_cons];omega)];rfl)
          have HC1:Hid (Bs (fun b=>b<w.heap.size) wr (some ⟨b,a+1,none⟩) q (c2 - 1) ((x1::r).take q)):=zH (qxn HS.out (lo:=1) (hi:=q+1) zN (by omega) (by omega))
          have HCB:Hid (Bs (fun b=>b<w.heap.size) wr (if c2=q+1 then some ⟨b,a,none⟩ else some ⟨b,a+(q+1),none⟩) (mb - (q+1)) (c2 - (q+1)) ((x1::r).drop q)):=zH (qzQ HS.out (k:=q+1) (by omega) (by omega))
          have hq2:1<=q/\q<=128:=by omega
          have i1:((q+1:Nat):Int)<=(c2:Int):=by omega
          have i2:((q+1:Nat):Int)<=(mb:Int):=by omega
          have i3:¬ c2=1:=by omega
          have i4:no+q<=68719476736:=by omega
          have i5:(1:Int)<=((q+1:Nat):Int):=by omega
          have i6:(0:Int)<=((q+1:Nat):Int):=by omega
          have i7:q+1 - 1=q:=by omega
          have HGR:=zH (show ∀ g,Ao.map (·.block)=some g->¬ g<w.heap.size from fun g hg h=>by have:=(zzx HO.out.own hg).2.1;omega)
          clear hq hml hml' hnl h2 h8 hlt0 hle
          go_upto_region 10 with (first
           | (at_builtin;refine apb wr w rfl (.tmp 29) (.tmp 33) rfl w.heap.size Ao no co p (by rfl) HO.out HB.out zN (fun b=>b<w.heap.size) (some ⟨b,a+1,none⟩) q (c2 - 1) _ (by first | rfl | (simp [Act.eval];done)) HC1.out i4 ?_;intro A5 c5 w5 ho5 hb5 hg5;have HO5:=zH ho5;have HB5:=zH hb5;have HG5:=zH hg5;clear ho5 hb5 hg5)
           | fail)
          by_cases hcx:c2=q+1
          · rw [if_pos hcx,show c2 - (q+1)=0 by omega] at HCB
            go_wp2_with fail
            go_roundw
            case rel=>exact⟨k,mb - (q+1),no+q,c5,_,_,A5,_,_,rfl,rfl,by omega,by omega,by omega,HCB.out.grown HG5.out HGR.out,HO5.out,HB5.out,HY.out⟩
            case measure=>simp [lenV];omega
          · rw [if_neg hcx] at HCB
            go_wp2_with fail
            go_roundw
            case rel=>exact⟨k,mb - (q+1),no+q,c5,_,_,A5,_,_,rfl,rfl,by omega,by omega,by omega,HCB.out.grown HG5.out HGR.out,HO5.out,HB5.out,HY.out⟩
            case measure=>simp [lenV];omega
  · have hlt':¬ (no:Int)<(m:Int):=by omega
    have HD:=zH (show o=if p.length<=m then some (p,bl) else none by rw [HP.out,uup (by omega)])
    by_cases hbig:m<no
    · have hbig':(m:Int)<(no:Int):=by omega
      have HZ:=zH (show o=none by rw [HD.out,if_neg (by omega)])
      clear hk hno hmb hnl hml hbig hlt
      go_wp2_with fail
      go_ret3
      exact qzP HZ.out HB.out
    · have hbig':¬ (m:Int)<(no:Int):=by omega
      have HZ:=zH (show o=some (p,bl) by rw [HD.out,if_pos (by omega)])
      have HMB:=zH hmb
      clear hk hno hmb hnl hml hbig hlt
      go_wp2_with (first
       | (go_at_call 228;refine (uu0 _ A2 mb c2 bl _ HS.out (by have:=HMB.out;have:=HN.out;omega)).mono ?_;rintro e w3 ⟨A3,n3,c3,rfl,ho3,hb3⟩;have HO3:=zH ho3;have HB3:=zH hb3;clear ho3 hb3)
       | fail)
      go_ret3
      exact⟨Ao,no,co,A3,n3,c3,by rw [HZ.out];rfl,by rw [HZ.out];exact (HO.out.keepB HB3.out).bs.weaken (fun b hb _=>hb.2),by rw [HZ.out];exact HO3.out.bs.weaken (fun b hb _=>Nat.le_trans HB.out.size hb.2),HB.out.trans (HB3.out.mono HB.out.size)⟩
end
end Go.Proofs.YtpmglcachffojaaGreatDoor
