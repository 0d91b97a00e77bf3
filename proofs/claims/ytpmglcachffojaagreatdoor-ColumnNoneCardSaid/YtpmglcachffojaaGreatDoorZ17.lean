/- A part of what None leans on. -/
import Derived.Test.YtpmglcachffojaaGreatDoorZ8
import Derived.Test.YtpmglcachffojaaGreatDoorZ15
set_option maxRecDepth 100000
set_option maxHeartbeats 16000000
namespace Go.Proofs.YtpmglcachffojaaGreatDoor
section
open Go Go.RowKit
theorem jjt {ops:Array Oper} {o:Oper} {a:Act} {w a0:World} {Q:Exit->Act->World->Prop} {K:Act->World->Prop} {E':Prop} (hgd:o.guard=none) (s x:Operand) (ho:o.op=.call { callee:=.builtin .append,args:=#[s,x],argTypes:=#[41,41] }) (B:Nat) (A:Option Addr) (n c:Nat) (xs:List UInt8) (hs:a.eval s=.slice A n c)
 (hown:OwnB w B A n c xs) (hb:Below B a0 w) (hB:B<=a0.heap.size) (F:Nat->Prop) (A2:Option Addr) (m c2:Nat) (ys:List UInt8) (hx:a.eval x=.slice A2 m c2) (hsl:Bs F w A2 m c2 ys) (hlim:n+m<=68719476736)
 (h:∀ A' c' w',OwnB w' B A' (n+m) c' (xs++ys)->Below B a0 w'->w.grownBy w' (A.map (·.block))->K (a.put o.dst (.slice A' (n+m) c')) w') :
 if Region.wanted o (yielded ops a.tmps)=true then Oper.wp Tryz.prog o a w K Q else E':=by
 have hw:Region.wanted o (yielded ops a.tmps)=true:=by simp [Region.wanted,hgd]
 rw [if_pos hw]
 exact qxh w a0 s x ho B A n c xs hs hown hb hB F A2 m c2 ys hx hsl hlim h
def lenV:Value->Nat
 | .slice _ n _=>n
 | _=>0
theorem zqy {F:Nat->Prop} {w:World} {b o n c:Nat} {l:List Int} (h:Sl tI64 F w (some ⟨b,o,none⟩) n c l) {k:Nat} (hk:k<=n) (h1:1<=k):Sl tI64 F w (some ⟨b,o,none⟩) k c (l.take k):=by
 have h2:=h.cut (lo:=0) (hi:=k) (by omega) hk
 have h3:=h.2.1
 rw [if_neg (by omega)] at h2
 simpa [Addr.add] using h2
theorem qxM {F:Nat->Prop} {w:World} {b o n c:Nat} {l:List Int} (h:Sl tI64 F w (some ⟨b,o,none⟩) n c l) {k:Nat} (hk:k<=n) (h1:1<=k):Sl tI64 F w (if c=k then some ⟨b,o,none⟩ else some ⟨b,o+k,none⟩) (n - k) (c - k) (l.drop k):=by
 have h2:=h.cut (lo:=k) (hi:=n) hk zN
 rw [zL (by rw [<-h.len];exact Nat.le_refl _)] at h2
 simpa [Addr.add,show tI64.size=1 from rfl,show ¬ k=0 by omega] using h2
theorem xxT (F:Nat->Prop) (A:Option Addr) (n c:Nat) (l:List Int) (w:World) (h:Sl tI64 F w A n c l) (hn:n<=4096) (sg:Bool) (hl:zzV sg l) :
 Calls Tryz.prog 92 #[.slice A n c,.bool sg] w (zzw (some (rleB sg l)) w):=by
 have HH:=zH (h.weaken (F':=fun b=>b<w.heap.size) fun b _ hb=>hb);have HK:=zH hl;have HL:=zH h.len
 have HRL:=zH (vvE sg l)
 have z0:¬ (n:Int) > 4096:=by omega
 clear h hl
 go_enter Tryz.func92,Tryz.ntmps92
 go_wp2_with fail
 go_loopw [0,6] (fun lv ov wr=>∃ (k m:Nat) (A2:Option Addr) (c2:Nat) (Ao:Option Addr) (no co:Nat) (p:List UInt8),lv=.slice A2 m c2/\ov=.slice Ao no co/\k+m=n/\Sl tI64 (fun b=>b<w.heap.size) wr A2 m c2 (l.drop k)/\OwnB wr w.heap.size Ao no co p/\Below w.heap.size w wr/\p++rleB sg (l.drop k)=rleB sg l)
  (fun lv _ _=>lenV lv)
 case atStart=>exact⟨0,n,A,c,none,0,0,[],rfl,rfl,by omega,by rw [List.drop_zero];exact HH.out,OwnB.nil_ _ _,zR,by rw [List.drop_zero];rfl⟩
 case round =>
  obtain⟨k,m,A2,c2,Ao,no,co,p,rfl,rfl,hkm,hs,ho,hb,hp⟩:=hrel
  have HS:=zH hs;have HO:=zH ho;have HB:=zH hb;have HP:=zH hp
  clear hs ho hb hp
  by_cases hm0:m=0
  · subst hm0
    have HFIN:=zH (show p=rleB sg l by
     have h1:=HP.out
     rw [List.length_eq_zero_iff.1 HS.out.len.symm,zqg,List.append_nil] at h1
     exact h1)
    go_wp2_with fail
    go_ret2
    exact⟨HB.out,Ao,no,co,rfl,by rw [<-HFIN.out];exact HO.out⟩
  · have hne:l.drop k≠[]:=fun e=>by have:=HS.out.len;rw [e] at this;simp at this;omega
    obtain⟨r,hr⟩:∃ r,r=l.drop k:=⟨_,rfl⟩
    have hrm:m=r.length:=by rw [hr];exact HS.out.len
    rw [<-hr] at HS HP hne
    have HR:=zH hr
    obtain⟨b,o,rfl,_,_⟩:=yya HS.out hne
    have hcn:=vvD r hne
    obtain⟨x,hx⟩:∃ x,x=cutN r:=⟨_,rfl⟩
    rw [<-hx] at hcn
    have HX:=zH hx
    have hxm:x<=m:=by omega
    have hc2:=HS.out.2.1
    have hc3:=HS.out.2.2.1
    unfold maxLen at hc3
    have HST:=zH (kqP sg r hne)
    rw [<-hx] at HST
    have HNE:=zH hne
    have hpl:=congrArg List.length HP.out
    rw [HST.out,List.length_append,List.length_append] at hpl
    have hol:=HO.out.len
    have hlim:no+(runB sg (r.take x)).length<=68719476736:=by have:=HRL.out;have:=HL.out;omega
    have HLIM:=zH hlim
    have hm1:(0:Int)<(m:Int):=by omega
    have hx1:1<=x:=hcn.1
    have hx5:x<=512:=hcn.2.2
    have i0:(0:Int)<=(x:Int):=by omega
    have i1:(x:Int)<=(c2:Int):=by omega
    have i2:(x:Int)<=(m:Int):=by omega
    have i3:x<=c2:=by omega
    have i4:m<=c2:=hc2
    have i5:(m:Int)<=(c2:Int):=by omega
    have i6:(c2:Int)<=9223372036854775807:=by omega
    have HNO:=zH (show zzV sg (r.take x) by rw [hr];exact (HK.out.drop k).take x)
    clear hr hrm hx hcn hpl hol hlim hne
    go_upto_region 9 with (first
     | (go_at_call 161;refine (qxI _ _ m c2 r _ HS.out HNE.out (by omega)).mono ?_;rintro e w1 ⟨rfl,hb1⟩;rw [<-HX.out];have HS1:=zH (HS.out.below hb1 zN);have HO1:=zH (HO.out.keepB hb1);have HB1:=zH (HB.out.trans (hb1.mono HB.out.size));clear hb1)
     | (go_at_call 162;refine (qxL _ _ x c2 (r.take x) _ (zqy HS1.out hxm hx1) hx1 hx5 sg HNO.out).mono ?_;rintro e w2 ⟨hb2,A3,n3,c3,rfl,ho3⟩;have HS2:=zH (HS1.out.below hb2 zN);have HO2:=zH (HO1.out.keepB hb2);have HB2:=zH (HB1.out.trans (hb2.mono HB1.out.size));have HR3:=zH ho3.bs.any;have HL3:=zH ho3.len;clear hb2 ho3)
     | fail)
    have hn3:no+n3<=68719476736:=by have:=HL3.out;have:=HLIM.out;omega
    have HO2d:=zH (xxN HO2.out);have HB2d:=zH HB2.out.drew;have HR3d:=zH HR3.out.drew
    have HFIN:=zH (show ∀ q,q=p++runB sg (r.take x)->q++rleB sg (r.drop x)=rleB sg l by
     rintro q rfl
     rw [<-HP.out,HST.out,List.append_assoc])
    have HRD:=zH (show r.drop x=l.drop (k+x) by rw [HR.out,List.drop_drop])
    have HGR:=zH (show ∀ g,Ao.map (·.block)=some g->¬ g<w.heap.size from fun g hg h=>by have:=(zzx HO2.out.own hg).2.1;omega)
    have hbk:=qxM HS2.out hxm hx1
    by_cases hcx:c2=x
    · rw [if_pos hcx,show c2 - x=0 by omega] at hbk
      have HBK:=zH hbk
      clear hbk
      go_region_law (first
       | (refine jjt (w:=w2.drew) (a0:=w) rfl (.tmp 29) (.tmp 30) rfl w.heap.size Ao no co p rfl HO2d.out HB2d.out zN (fun _=>True) A3 n3 c3 _ rfl HR3d.out hn3 ?_;intro A5 c5 w5 ho5 hb5 hg5;have HO5:=zH ho5;have HB5:=zH hb5;have HG5:=zH hg5;clear ho5 hb5 hg5)
       | fail)
      (try simp only [Act.put,List.getElem_toArray,List.getElem_cons_succ,List.getElem_cons_zero,List.setIfInBounds_toArray,List.set_cons_succ,List.set_cons_zero])
      go_wp2_with fail
      go_roundw
      case rel=>exact⟨k+x,m - x,_,_,A5,no+n3,c5,_,rfl,rfl,by omega,by rw [<-HRD.out];exact HBK.out.drew.grown HG5.out HGR.out,HO5.out,HB5.out,by rw [<-HRD.out];exact HFIN.out _ rfl⟩
      case measure=>simp [lenV];omega
    · rw [if_neg hcx] at hbk
      have HBK:=zH hbk
      clear hbk
      go_region_law (first
       | (refine jjt (w:=w2.drew) (a0:=w) rfl (.tmp 29) (.tmp 30) rfl w.heap.size Ao no co p rfl HO2d.out HB2d.out zN (fun _=>True) A3 n3 c3 _ rfl HR3d.out hn3 ?_;intro A5 c5 w5 ho5 hb5 hg5;have HO5:=zH ho5;have HB5:=zH hb5;have HG5:=zH hg5;clear ho5 hb5 hg5)
       | fail)
      (try simp only [Act.put,List.getElem_toArray,List.getElem_cons_succ,List.getElem_cons_zero,List.setIfInBounds_toArray,List.set_cons_succ,List.set_cons_zero])
      go_wp2_with fail
      go_roundw
      case rel=>exact⟨k+x,m - x,_,_,A5,no+n3,c5,_,rfl,rfl,by omega,by rw [<-HRD.out];exact HBK.out.drew.grown HG5.out HGR.out,HO5.out,HB5.out,by rw [<-HRD.out];exact HFIN.out _ rfl⟩
      case measure=>simp [lenV];omega
end
end Go.Proofs.YtpmglcachffojaaGreatDoor
