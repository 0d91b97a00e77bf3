/- A part of what Indexes leans on. -/
import Derived.Test.YtpmglcachffojaaGreatDoorZ7
import Derived.Test.YtpmglcachffojaaGreatDoorZ8
set_option maxRecDepth 100000
set_option maxHeartbeats 16000000
namespace Go.Proofs.YtpmglcachffojaaGreatDoor
section
open Go Go.RowKit
theorem PkR.drew {w0 w:World} {B atb ob g s cap a:Nat} {L:List UInt8} (h:PkR w0 B atb ob g s cap a L w):PkR w0 B atb ob g s cap a L w.drew:=⟨h.at_,h.out,zz9 ⟨_,h.own.drew⟩,h.below.drew⟩
theorem pk_start (s:Nat) (hs:s<=65536) (w wp:World) (hwp:wp=((w.alloc (.cells (madeCells #[.int .u8 0] s) 5)).alloc (.cells #[.slice (some ⟨w.heap.size,0,none⟩) s s] 41)).alloc (.cells #[.int .i64 0] 3)) :
 PkR w w.heap.size (w.heap.size+1+1) (w.heap.size+1) w.heap.size s s 0 (be s (0*2 ^ (8*s - 0))) wp:=by
 obtain⟨w1,h1⟩:∃ w1,w1=w.alloc (.cells (madeCells #[.int .u8 0] s) 5):=⟨_,rfl⟩
 obtain⟨w2,h2⟩:∃ w2,w2=w1.alloc (.cells #[.slice (some ⟨w.heap.size,0,none⟩) s s] 41):=⟨_,rfl⟩
 have s1:w1.heap.size=w.heap.size+1:=by rw [h1,zS]
 have s2:w2.heap.size=w.heap.size+1+1:=by rw [h2,zS,s1]
 rw [<-h1,<-h2] at hwp
 have b1:Below w.heap.size w w1:=by rw [h1];exact (zR).alloc zN _
 have b2:Below w.heap.size w w2:=by rw [h2];exact b1.alloc b1.size _
 have hrow:=own_mkB s hs w w.heap.size zN
 rw [<-h1] at hrow
 have k1:Below w1.heap.size w1 w2:=by rw [h2];exact (zR).alloc zN _
 have k2:Below w2.heap.size w2 wp:=by rw [hwp];exact (zR).alloc zN _
 refine⟨?_,?_,?_,?_⟩
 · rw [hwp,<-s2];exact heap_alloc_new _ _
 · rw [k2.block _ (by omega),h2,<-s1];exact heap_alloc_new _ _
 · rw [Nat.zero_mul,zqE]
   exact (hrow.keepB k1).keepB k2
 · rw [hwp];exact b2.alloc b2.size _
theorem chunk_and (x rest m:Nat) (h1:1<=m) (h8:m<=8):bits BinOp.and IntKind.u8 (IntKind.u8.wrap ((x:Int) / 2 ^ rest)) (IntKind.u8.wrap (IntKind.u8.wrap (2 ^ m) - 1))=((x / 2 ^ rest % 2 ^ m:Nat):Int):=by
 have e1:IntKind.u8.wrap ((x:Int) / 2 ^ rest)=((x / 2 ^ rest % 256:Nat):Int):=by
  rw [IntKind.wrap_u8,show (x:Int) / 2 ^ rest=((x / 2 ^ rest:Nat):Int) by simp]
  omega
 have e2:IntKind.u8.wrap (IntKind.u8.wrap (2 ^ m) - 1)=((2 ^ m - 1:Nat):Int):=by
  obtain rfl | rfl | rfl | rfl | rfl | rfl | rfl | rfl:m=1∨m=2∨m=3∨m=4∨m=5∨m=6∨m=7∨m=8:=by omega
  all_goals decide
 have h256:=jjy h8
 have hp:0<2 ^ m:=Nat.pow_pos (by decide)
 rw [e1,e2,u8_and_nat _ _ (Nat.mod_lt _ (by decide)) (by omega),Nat.and_two_pow_sub_one_eq_mod]
 congr 1
 rw [Nat.mod_mod_of_dvd]
 have:(256:Nat)=2 ^ m*2 ^ (8 - m):=by rw [<-Nat.pow_add,show m+(8 - m)=8 by omega]
 exact⟨_,this⟩
theorem xqr (C x:Nat) {k left m rest:Nat} (h1:left<=k) (h2:m<=left) (h3:rest=left - m):(C*2 ^ (k - left)+x / 2 ^ left)*2 ^ m+x / 2 ^ rest % 2 ^ m=C*2 ^ (k - rest)+x / 2 ^ rest:=by
 have e1:x / 2 ^ left=x / 2 ^ rest / 2 ^ m:=by rw [Nat.div_div_eq_div_mul,<-Nat.pow_add,show rest+m=left by omega]
 rw [e1,Nat.add_mul,Nat.mul_assoc,<-Nat.pow_add,show k - left+m=k - rest by omega,Nat.add_assoc,Nat.mul_comm (x / 2 ^ rest / 2 ^ m),Nat.div_add_mod]
theorem fits0_any (k:Nat) (hk:k<=64) (w:World):Calls Tryz.prog 316 #[.int .i64 0,.int .i64 (k:Int)] w fun e w'=>e=.returned (.bool true)/\w=w':=kq3 0 k true (decide_eq_true ⟨by omega,hk⟩).symm w
def PackPost (k:Nat) (l:List Nat) (w:World) (e:Ending) (w':World):Prop:=∃ A s c,e=.returned (.tuple #[.slice A s c,.int .i64 0])/\OwnB w' w.heap.size A s c (pack k l)/\Below w.heap.size w w'
theorem uuY (F:Nat->Prop) (A:Option Addr) (n c:Nat) (l:List Nat) (w:World) (h:Sl tU64 F w A n c l) (hn:n<=4096) (k:Nat) (hk:k<=64) (hx:∀ x∈l,x<2 ^ k) :
 Calls Tryz.prog 285 #[.slice A n c,.int .i64 (k:Int)] w (PackPost k l w):=by
 have HH:=zH h;have HX:=zH hx
 have HL:=zH h.len
 obtain⟨s,hs⟩:∃ s,s=zz0 n k:=⟨_,rfl⟩
 have hmk:n*k<=4096*64:=Nat.mul_le_mul hn hk
 have hs6:s<=40000:=by rw [hs];unfold zz0;omega
 have HS:=zH hs
 have hmk2:=run_mkB s (by omega)
 clear h hx hmk hs
 go_enter Tryz.func285,Tryz.ntmps285
 go_upto_region 3 with (first
  | (go_at_call 316;refine (fits0_any k hk _).mono ?_;rintro e w1 ⟨rfl,rfl⟩)
  | fail)
 go_upto_region 8 with (first
  | (go_at_call 316;refine (kq3 n k true (decide_eq_true ⟨hn,hk⟩).symm _).mono ?_;rintro e w1 ⟨rfl,rfl⟩)
  | (go_at_call 317;refine (size_any n k hn hk _).mono ?_;rintro e w1 ⟨rfl,rfl⟩;rw [<-HS.out])
  | fail)
 obtain⟨wp,hwp⟩:∃ wp,wp=((w.alloc (.cells (madeCells #[.int .u8 0] s) 5)).alloc (.cells #[.slice (some ⟨w.heap.size,0,none⟩) s s] 41)).alloc (.cells #[.int .i64 0] 3):=⟨_,rfl⟩
 have hpk:=pk_start s (by omega) w wp hwp
 rw [<-hwp]
 obtain⟨g,hg⟩:∃ g,g=w.heap.size:=⟨_,rfl⟩
 obtain⟨ob,hob⟩:∃ ob,ob=w.heap.size+1:=⟨_,rfl⟩
 obtain⟨atb,hatb⟩:∃ atb,atb=w.heap.size+1+1:=⟨_,rfl⟩
 have hne1:atb≠ob:=by omega
 have hne2:atb≠g:=by omega
 have hne3:ob≠g:=by omega
 have hBa:w.heap.size<=atb:=by omega
 rw [<-hatb,<-hob,<-hg] at hpk ⊢
 rw [hg] at hpk
 have hpk2:PkR w w.heap.size atb ob g s s 0 (be s (0*2 ^ (8*s - 0))) wp:=by rw [hg];exact hpk
 have HPK:=zH hpk2
 have HNE1:=zH hne1;have HNE2:=zH hne2;have HNE3:=zH hne3;have HBA:=zH hBa
 clear hwp hpk hpk2 hg hob hatb hne1 hne2 hne3 hBa hmk2
 have hns:n*k<=8*s:=by rw [HS.out];unfold zz0;omega
 have HNS:=zH hns
 clear hns
 go_wp2_with fail
 go_loopw [31] (fun iv wr=>∃ i:Nat,i<=n/\iv=.int .i64 (i:Int)/\PkR w w.heap.size atb ob g s s (i*k) (be s (catN k (l.take i)*2 ^ (8*s - i*k))) wr)
  (fun iv _=>n - (intOf iv).toNat)
 case atStart=>exact⟨0,Nat.zero_le _,rfl,by rw [Nat.zero_mul];exact HPK.out⟩
 case round =>
  obtain⟨i,hi,rfl,hp⟩:=hrel
  have HP:=zH hp
  clear hp
  by_cases hlt:i<n
  · have hil:i<l.length:=by rw [<-HL.out];exact hlt
    obtain⟨x,hx⟩:∃ x,x=l[i]:=⟨_,rfl⟩
    have hxk:x<2 ^ k:=by rw [hx];exact HX.out _ (List.getElem_mem _)
    have hsl:=HH.out.below HP.out.below zN
    obtain⟨b,o,u,rfl,_,hbl,hr,hc⟩:=hsl.at1 hil rfl
    rw [<-hx] at hr
    obtain⟨hr,hx64⟩:=hr
    injection hr with hr
    subst hr
    have hi1:(0:Int)<=(i:Int):=by omega
    have hi2:(i:Int)<(n:Int):=by omega
    have hsh:x / 2 ^ k=0:=Nat.div_eq_of_lt hxk
    have hik:i*k+k<=8*s:=by
     have h1:(i+1)*k<=n*k:=Nat.mul_le_mul_right k hlt
     rw [Nat.add_mul,Nat.one_mul] at h1
     have:=HNS.out;omega
    have HIK:=zH hik
    have HTK:=zH (show catN k (l.take (i+1))=catN k (l.take i)*2 ^ k+x by rw [zT hil,jjn,<-hx])
    have HXK:=zH hxk
    clear hx hxk hsl hik
    have hshI:(x:Int) / 2 ^ k=0:=by
     have h1:((x / 2 ^ k:Nat):Int)=0:=by rw [hsh];rfl
     simpa using h1
    go_upto_region 11 with fail
    go_cut [42] from 35 to 41 (fun v wx=>v=.bool false/\wx=wr)
    case first =>
     by_cases hk64:(k:Int)<64
     · go_wp2_with fail
       go_meet
       exact⟨rfl,rfl⟩
     · have hk1:(64:Int)<=(k:Int):=by omega
       go_wp2_with fail
       go_meet
       exact⟨rfl,rfl⟩
    case rest =>
     obtain⟨rfl,hwc⟩:=hcut
     rw [hwc]
     clear hwc hsh hshI
     refine ‹∀ (a:Act) (w_1:World),Code.wp _ _ _ a w_1->_› _ _ ?_
     go_wp2_with fail
     obtain⟨wi,rfl⟩:∃ wi,wi=wr:=⟨wr,rfl⟩
     go_loopw [11] (fun lv wq=>∃ left:Nat,left<=k/\lv=.int .i64 (left:Int)/\PkR w w.heap.size atb ob g s s (i*k+(k - left)) (be s ((catN k (l.take i)*2 ^ (k - left)+x / 2 ^ left)*2 ^ (8*s - (i*k+(k - left))))) wq)
      (fun lv _=>(intOf lv).toNat)
     case atStart=>exact⟨k,Nat.le_refl _,rfl,by rw [Nat.sub_self,Nat.add_zero,Nat.pow_zero,Nat.mul_one,Nat.div_eq_of_lt HXK.out,Nat.add_zero];exact HP.out⟩
     case round =>
      obtain⟨left,hlk,rfl,hp2⟩:=hrel
      have HP2:=zH hp2
      clear hp2
      by_cases h0:left=0
      · subst h0
        go_wp2_with fail
        go_roundw
        case rel =>
         refine⟨i+1,by omega,by go_num,?_⟩
         have h1:=HP2.out
         rw [Nat.sub_zero,Nat.pow_zero,Nat.div_one,<-HTK.out,show i*k+k=(i+1)*k by rw [Nat.add_mul,Nat.one_mul]] at h1
         exact h1
        case measure=>simp [intOf];omega
      · obtain⟨m,hm⟩:∃ m,m=min left ((left - 1) % 8+1):=⟨_,rfl⟩
        obtain⟨rest,hrest⟩:∃ rest,rest=left - m:=⟨_,rfl⟩
        have hm1:1<=m/\m<=8/\m<=left:=by omega
        have z0:(0:Int)<(left:Int):=by omega
        have z1:0<left:=by omega
        have zm:min (left:Int) (((left:Int) - 1) % 8+1)=(m:Int):=by omega
        have zr:(left:Int) - (m:Int)=(rest:Int):=by omega
        have HM:=zH hm;have HR:=zH hrest;have HM1:=zH hm1
        clear hm hrest hm1
        obtain⟨q,hq⟩:∃ q,q=x / 2 ^ rest % 2 ^ m:=⟨_,rfl⟩
        have hand:=chunk_and x rest m (by have:=HM1.out;omega) (by have:=HM1.out;omega)
        have hcn:q<2 ^ m:=by rw [hq];exact Nat.mod_lt _ (Nat.pow_pos (by decide))
        rw [<-hq] at hand
        have HCN:=zH hcn
        have hat:i*k+(k - left)+m<=8*s:=by have:=HIK.out;have:=HM1.out;omega
        have HST:=zH (xqr (catN k (l.take i)) x (k:=k) (left:=left) (m:=m) (rest:=rest) hlk HM1.out.2.2 HR.out)
        rw [<-hq] at HST
        have HATL:=zH hat
        clear hq hcn hat
        have HAT:=zH (show i*k+(k - left)+m=i*k+(k - rest) by have:=HR.out;have:=HM1.out;omega)
        go_upto_region 17 with fail
        go_region_with (first
         | (go_at_call 318;refine (put_any w w.heap.size atb ob g s s (i*k+(k - left)) (catN k (l.take i)*2 ^ (k - left)+x / 2 ^ left) HNE1.out HNE2.out HNE3.out HBA.out (by omega) q m HM1.out.1 HM1.out.2.1 HCN.out HATL.out _ HP2.out.drew).mono ?_;rintro e w2 ⟨rfl,hp3⟩;rw [HST.out,HAT.out] at hp3;have HP3:=zH hp3;clear hp3)
         | fail)
        go_wp2_with fail
        go_roundw
        case rel=>exact⟨rest,by have:=HR.out;omega,rfl,HP3.out⟩
        case measure=>simp [intOf];have:=HR.out;have:=HM1.out;omega
  · obtain rfl:n=i:=by omega
    have o0:wr.cell? ⟨ob,0,none⟩=some (.slice (some ⟨g,0,none⟩) s s):=by rw [zC HP.out.out];rfl
    have hfin:pack k l=be s (catN k (l.take n)*2 ^ (8*s - n*k)):=by
     unfold pack
     rw [<-HL.out,<-HS.out,zL (by rw [<-HL.out];exact Nat.le_refl _)]
    have HFIN:=zH hfin
    clear hfin
    go_wp2_with fail
    go_ret2
    exact⟨_,s,s,rfl,by rw [HFIN.out];exact HP.out.row,HP.out.below⟩
end
section
open Go Go.RowKit
theorem infoU64:(Tryz.prog.info? 112).map (fun i=>(i.zero,i.size,i.bytes))=some (some (.int .u64 0),1,8):=by kernel_rfl
theorem zqK:zzP Tryz.prog 264 112 1:=zzP.mk' (by kernel_rfl) infoU64 rfl (by decide) (by decide)
abbrev OwnU (w:World) (B:Nat) (A:Option Addr) (n c:Nat) (l:List Nat):Prop:=OwnF tU64 112 (fun _=>False) w B A n c l
theorem yyD {F:Nat->Prop} {w:World} {B n c:Nat} {A:Option Addr} {l:List Nat} (h:OwnF tU64 112 F w B A n c l):OwnU w B A n c l:=qxw qxx (h.row1 qxx).1 (h.row1 qxx).2
theorem uuZ (w:World) (B:Nat):OwnU w B none 0 0 []:=⟨⟨[],World.ownsRow_nil _ _ _ _,Reps.nil_⟩,fun _ _ _ h=>h,rfl⟩
section
variable (w a0:World) {ops:Array Oper} {rest:List Oper} {o:Oper} {a:Act} {Q:Exit->Act->World->Prop}
theorem apu1 (hgd:o.guard=none) (s x:Operand) (ho:o.op=.call { callee:=.builtin .append,args:=#[s,x],argTypes:=#[264,264] }) (B:Nat) (A:Option Addr) (n c:Nat) (xs:List Nat) (hs:a.eval s=.slice A n c)
 (hown:OwnU w B A n c xs) (hb:Below B a0 w) (hB:B<=a0.heap.size) (obj:Obj) (hx:a.eval x=.slice (some ⟨w.heap.size,0,none⟩) 1 1) (y:Nat) (hy:U64 y) (hobj:obj=.cells #[.int .u64 (y:Int)] 112) (hlim:n<=34359738368)
 (h:∀ A' c' w',OwnU w' B A' (n+1) c' (xs++[y])->Below B a0 w'->wpList Tryz.prog ops Q rest (a.put o.dst (.slice A' (n+1) c')) w'):wpList Tryz.prog ops Q (o::rest) a (w.alloc obj) :=
 apl1 (T:=tU64) zqK w a0 hgd s x ho B A n c xs hs (fun _=>False) (fun _=>False) hown hb hB obj hx [.int .u64 (y:Int)] y ⟨rfl,hy⟩ 112 hobj (fun _ _ _ _ h=>h) hlim fun A' c' w' ha=>h A' c' w' (yyD ha.own) ha.below
end
theorem kq4 (k c m:Nat) (hk:k<=3) (hc:c<=31) (hm:1<=m) (hm2:m<=512) (w:World) :
 Calls Tryz.prog 286 #[.int .i64 (k:Int),.int .i64 (c:Int),.int .i64 (m:Int)] w (Own1 w (yy3 k c m)):=by
 obtain⟨m,rfl⟩:∃ n,m=n+1:=⟨m - 1,by omega⟩
 obtain⟨x,hx⟩:∃ x,x=k*16384+c*512+m:=⟨_,rfl⟩
 have e1:=vvh (k*16384) (c*512) (by omega) (by omega)
 rw [nat_join 14 (k*16384) (c*512) (by omega) (by omega)] at e1
 have e2:=vvh (k*16384+c*512) m (by omega) (by omega)
 rw [nat_join 9 (k*16384+c*512) m (by omega) (by omega),<-hx] at e2
 have f1:bits .or .i64 ((k:Int)*16384) ((c:Int)*512)=((k*16384+c*512:Nat):Int):=by
  rw [show (k:Int)*16384=((k*16384:Nat):Int) by simp,show (c:Int)*512=((c*512:Nat):Int) by simp];exact e1
 have F:=zH (show bits .or .i64 (bits .or .i64 ((k:Int)*16384) ((c:Int)*512)) (m:Int)=(x:Int) by rw [f1];exact e2)
 obtain⟨y,hy⟩:∃ y:UInt8,y=UInt8.ofNat (x / 256):=⟨_,rfl⟩
 obtain⟨z,hz⟩:∃ z:UInt8,z=UInt8.ofNat x:=⟨_,rfl⟩
 have HY:=zH (show (x:Int) / 256 % 256=((y.toNat:Nat):Int) by rw [hy,UInt8.toNat_ofNat'];omega)
 have HZ:=zH (show (x:Int) % 256=((z.toNat:Nat):Int) by rw [hz,UInt8.toNat_ofNat'];omega)
 have HB:=zH (show yy3 k c (m+1)=[y,z] by rw [yy3,hy,hz,hx];congr 2 <;> (try congr 1) <;> (try congr 1) <;> omega)
 clear e1 e2 f1 hx hy hz
 go_enter Tryz.func286,Tryz.ntmps286
 go_wp2_with fail
 rw [F.out,HY.out,HZ.out]
 go_ret
 exact⟨_,2,2,rfl,by rw [HB.out];exact World.ownsRow_lit w #[.int .u8 ((y.toNat:Nat):Int),.int .u8 ((z.toNat:Nat):Int)] 2 zN (by simp [maxLen]) rfl,(zR).alloc zN _⟩
theorem xqt (F:Nat->Prop) (A:Option Addr) (n c:Nat) (l:List Int) (w:World) (h:Sl tI64 F w A n c l) (hn:n<=4294967296) (sg:Bool) (hl:yyK sg l) :
 Calls Tryz.prog 282 #[.slice A n c,.bool sg] w fun e w'=>∃ A' n' c',e=.returned (.tuple #[.slice A' n' c',.int .i64 0])/\OwnU w' w.heap.size A' n' c' (l.map (uOf sg))/\Below w.heap.size w w':=by
 have HH:=zH h;have HK:=zH hl;have HL:=zH h.len
 clear h hl
 go_enter Tryz.func282,Tryz.ntmps282
 go_wp2_with fail
 go_loopw [6,12] (fun av iv wr=>∃ (i:Nat) (A2:Option Addr) (c2:Nat),i<=n/\iv=.int .i64 (i:Int)/\av=.slice A2 i c2/\OwnU wr w.heap.size A2 i c2 ((l.take i).map (uOf sg))/\Below w.heap.size w wr)
  (fun _ iv _=>n - (intOf iv).toNat)
 case atStart=>exact⟨0,none,0,Nat.zero_le _,rfl,rfl,uuZ _ _,zR⟩
 case round =>
  obtain⟨i,A2,c2,hi,rfl,rfl,ho,hb⟩:=hrel
  have HO:=zH ho;have HB:=zH hb
  clear ho hb
  by_cases hlt:i<n
  · have hil:i<l.length:=by rw [<-HL.out];exact hlt
    obtain⟨x,hx⟩:∃ x,x=l[i]:=⟨_,rfl⟩
    have hxk:=HK.out x (by rw [hx];exact List.getElem_mem _)
    have hsl:=HH.out.below HB.out zN
    obtain⟨b,o,u,rfl,_,hbl,hr,hc⟩:=hsl.at1 hil rfl
    rw [<-hx] at hr
    obtain⟨hr,_⟩:=hr
    injection hr with hr
    subst hr
    have HT:=zH (show (l.take (i+1)).map (uOf sg)=(l.take i).map (uOf sg)++[uOf sg x] by rw [zT hil,List.map_append,<-hx];rfl)
    obtain⟨v,hv⟩:∃ v,v=uOf sg x:=⟨_,rfl⟩
    have hvu:U64 v:=by rw [hv];exact qxr hxk.1 hxk.2.1
    obtain⟨x0,x1,xs⟩:=hxk
    have hi1:(0:Int)<=(i:Int):=by omega
    have hi2:(i:Int)<(n:Int):=by omega
    rw [<-hv] at HT
    have HVU:=zH hvu
    clear hx hsl hvu
    cases sg with
    | true =>
      have HZ:=zH (show zigN x=v by rw [hv];rfl)
      clear hv xs
      go_wp2_with (first
       | (go_at_call 179;refine (kqS x _ x0 x1).mono ?_;rintro e w1 ⟨rfl,rfl⟩;rw [HZ.out])
       | (at_builtin;refine apu1 wr w rfl (.tmp 23) (.tmp 25) rfl w.heap.size A2 i c2 _ rfl HO.out HB.out zN _ rfl v HVU.out rfl (by omega) ?_;intro A3 c3 w3 h3 hb3)
       | fail)
      go_roundw
      case rel=>exact⟨i+1,A3,c3,by omega,by go_num,rfl,by rw [HT.out];exact h3,hb3⟩
      case measure=>simp [intOf];omega
    | false =>
      have xge:0<=x:=xs.resolve_left (by decide)
      obtain⟨k,rfl⟩:=Int.eq_ofNat_of_zero_le xge
      have HZ:=zH (show k=v by rw [hv];unfold uOf;simp)
      have xn:¬ (k:Int)<0:=by omega
      obtain rfl:=HZ.out
      clear hv xs
      go_wp2_with (first
       | (at_builtin;refine apu1 wr w rfl (.tmp 23) (.tmp 25) rfl w.heap.size A2 i c2 _ rfl HO.out HB.out zN _ rfl k HVU.out rfl (by omega) ?_;intro A3 c3 w3 h3 hb3)
       | fail)
      go_roundw
      case rel=>exact⟨i+1,A3,c3,by omega,by go_num,rfl,by rw [HT.out];exact h3,hb3⟩
      case measure=>simp [intOf];omega
  · obtain rfl:n=i:=by omega
    have HT:=zH (show l.take n=l by rw [zL (by rw [<-HL.out];exact Nat.le_refl _)])
    go_wp2_with fail
    go_ret2
    exact⟨A2,n,c2,rfl,by have:=HO.out;rwa [HT.out] at this,HB.out⟩
theorem jjz (k c m:Nat):(yy3 k c m).length=2:=rfl
theorem lt_most {l:List Nat} (h:∀ x∈l,U64 x) {x:Nat} (hx:x∈l):x<2 ^ zzI (most l):=by
 have h1:=jj9 (h x hx)
 have h2:=uuW hx
 have h3:=vvV (xxP l h)
 exact Nat.lt_of_lt_of_le h1 (Nat.pow_le_pow_right (by decide) (by omega))
theorem dput_any (F:Nat->Prop) (A:Option Addr) (n c:Nat) (l:List Int) (w:World) (h:Sl tI64 F w A n c l) (hn1:1<=n) (hn:n<=512) (sg:Bool) (hl:yyK sg l) :
 Calls Tryz.prog 246 #[.slice A n c,.bool sg] w (zzV (some (dirB sg l)) w):=by
 have HH:=zH h
 have HK:=zH hl
 have hln:=h.len
 obtain⟨us,hus⟩:∃ us,us=l.map (uOf sg):=⟨_,rfl⟩
 have hu:∀ u∈us,U64 u:=by rw [hus];exact hl.u
 have hlu:us.length=n:=by rw [hus,List.length_map];exact hln.symm
 obtain⟨k,hk⟩:∃ k,k=most us:=⟨_,rfl⟩
 have hk64:k<=64:=by rw [hk];exact xxP us hu
 obtain⟨q,hq⟩:∃ q,q=zzI k:=⟨_,rfl⟩
 have hq64:q<=64:=by rw [hq];exact xxQ k
 have hx:∀ x∈us,x<2 ^ q:=fun x hx=>by rw [hq,hk];exact lt_most hu hx
 obtain⟨hc1,hc2⟩:=kqV hk64
 rw [<-hq] at hc1 hc2
 obtain⟨d,hd⟩:∃ d,d=yyC q:=⟨_,rfl⟩
 rw [<-hd] at hc1 hc2
 have HB:=zH (show dirB sg l=yy3 1 d n++pack q us by rw [dirB,<-hus,<-hk,<-hq,<-hd,<-hln])
 have HX:=zH hx;have HQ:=zH hq;have HKK:=zH hk;have HC:=zH hc1;have HUS:=zH hus;have HLU:=zH hlu
 clear h hl hu hx hq hk hc1 hus hd hln hlu
 go_enter Tryz.func246,Tryz.ntmps246
 go_upto_region 4 with (first
  | (go_at_call 282;refine (xqt F A n c l _ HH.out (by omega) sg HK.out).mono ?_;rintro e w1 ⟨A1,n1,c1,rfl,ho1,hb1⟩;have HO1:=zH ho1;have HB1:=zH hb1;rw [<-HUS.out] at HO1;clear ho1 hb1)
  | fail)
 have HS1:=zH HO1.out.sl
 obtain rfl:n1=n:=by rw [HO1.out.len,HLU.out]
 go_wp2_with (first
  | (go_at_call 284;refine (qzA _ A1 n1 c1 us _ HS1.out).mono ?_;rintro e w2 ⟨rfl,rfl⟩;rw [<-HKK.out])
  | (go_at_call 283;refine (vve k hk64 _).mono ?_;rintro e w2 ⟨rfl,hb2⟩;rw [<-HQ.out];have HB2:=zH hb2;clear hb2;have HS2:=zH (HS1.out.below HB2.out zN))
  | (go_at_call 285;refine (uuY _ A1 n1 c1 us _ HS2.out (by omega) q hq64 HX.out).mono ?_;rintro e w3 ⟨A3,s3,c3,rfl,ho3,hb3⟩;have HO3:=zH ho3;have HB3:=zH hb3;clear ho3 hb3)
  | (go_at_call 287;refine (yyv (q:Int) _).mono ?_;rintro e w4 ⟨rfl,hb4⟩;rw [HC.out];have HB4:=zH hb4;clear hb4)
  | (go_at_call 286;refine (kq4 1 d n1 (by omega) hc2 hn1 hn _).mono ?_;rintro e w5 ⟨A5,n5,c5,rfl,ho5,hb5⟩;have HO5:=zH ho5;have HB5:=zH hb5;clear ho5 hb5
     have HSS:=zH (sl2 HO5.out.bs ((HO3.out.bs.below HB4.out zN).below HB5.out zN) 41)
     have HN:=zH (show [yy3 1 d n1,pack q us].flatten.length<=4294967296 by have:=yyW n1 q hq64;simp [jjz,vvU,HLU.out];omega))
  | (go_at_call 224;refine (xxz (T:=tU8) zzA (fun _=>True) _ _ _ [yy3 1 d n1,pack q us] _ HSS.out (by omega) HN.out).mono ?_;rintro e w6 ⟨A6,n6,c6,rfl,ho6,hb6⟩;have HO6:=zH ho6;have HB6:=zH hb6;clear ho6 hb6)
  | fail)
 go_ret2
 have b2:=HB1.out.trans (HB2.out.mono HB1.out.size)
 have b3:=b2.trans (HB3.out.mono b2.size)
 have b4:=b3.trans (HB4.out.mono b3.size)
 have b5:=b4.trans (HB5.out.mono b4.size)
 have b6:=b5.alloc b5.size (.cells #[.slice A5 n5 c5,.slice A3 s3 c3] 41)
 have hc6:=b6.size
 refine⟨b6.trans (HB6.out.mono hc6),A6,n6,c6,rfl,?_⟩
 have:=zz9 (HO6.out.down hc6)
 rw [HB.out]
 simpa using this
end
section
open Go Go.RowKit
theorem vpi_any (F:Nat->Prop) (A:Option Addr) (n c:Nat) (bs:List UInt8) (x:Int) (sg:Bool) (w:World) (h:Bs F w A n c bs) (hn:n<=4294967200) (h0 : -9223372036854775808<=x) (h1:x<=9223372036854775807) (hs:sg=true∨0<=x) :
 Calls Tryz.prog 289 #[.slice A n c,.int .i64 x,.bool sg] w (Own1 w (bs++vput (uOf sg x))):=by
 have HH:=zH h
 have hu:=qxr (sg:=sg) h0 h1
 have HU:=zH hu
 clear h hu
 cases sg with
 | true =>
   have HZ:=zH (show zigN x=uOf true x from rfl)
   obtain⟨v,hv⟩:∃ v,v=uOf true x:=⟨_,rfl⟩
   rw [<-hv] at HZ HU ⊢
   clear hv hs
   go_enter Tryz.func289,Tryz.ntmps289
   go_wp2_with (first
    | (go_at_call 179;refine (kqS x _ h0 h1).mono ?_;rintro e w1 ⟨rfl,rfl⟩;rw [HZ.out])
    | (go_at_call 180;refine (kqT F A n c bs v _ HH.out hn HU.out).mono ?_;rintro e w1 ⟨A1,n1,c1,rfl,ho1,hb1⟩;have HO1:=zH ho1;have HB1:=zH hb1;clear ho1 hb1)
    | fail)
   go_ret
   exact⟨A1,n1,c1,rfl,HO1.out,HB1.out⟩
 | false =>
   have hx:0<=x:=hs.resolve_left (by decide)
   obtain⟨k,rfl⟩:=Int.eq_ofNat_of_zero_le hx
   have hk:uOf false (k:Int)=k:=by unfold uOf;simp
   rw [hk] at HU ⊢
   clear hk hs
   go_enter Tryz.func289,Tryz.ntmps289
   go_wp2_with (first
    | (go_at_call 180;refine (kqT F A n c bs k _ HH.out hn HU.out).mono ?_;rintro e w1 ⟨A1,n1,c1,rfl,ho1,hb1⟩;have HO1:=zH ho1;have HB1:=zH hb1;clear ho1 hb1)
    | fail)
   go_ret
   exact⟨A1,n1,c1,rfl,HO1.out,HB1.out⟩
def vvI (a b:Int):Array Value:=if gapN a b<9223372036854775808 then #[.int .u64 ((gapN a b:Nat):Int),.bool (decide (b<a)),.bool true] else #[.int .u64 0,.bool false,.bool false]
theorem vvi (a b:Int) (a0 : -9223372036854775808<=a) (a1:a<=9223372036854775807) (b0 : -9223372036854775808<=b) (b1:b<=9223372036854775807) (w:World) :
 Calls Tryz.prog 320 #[.int .i64 a,.int .i64 b] w fun e w'=>e=.returned (.tuple (vvI a b))/\Below w.heap.size w w':=by
 obtain⟨g,hg⟩:∃ g:Int,g=(gapN a b:Nat):=⟨_,rfl⟩
 have hgn:g=if b<a then a - b else b - a:=by rw [hg];unfold gapN;split <;> omega
 have HV:Hid (vvI a b=if g<9223372036854775808 then #[.int .u64 g,.bool (decide (b<a)),.bool true] else #[.int .u64 0,.bool false,.bool false]):=zH (by
  unfold vvI;rw [hg]
  by_cases h:gapN a b<9223372036854775808
  · rw [if_pos h,if_pos (by omega)]
  · rw [if_neg h,if_neg (by omega)])
 obtain⟨p,hp⟩:∃ p,p=IntKind.u64.wrap b:=⟨_,rfl⟩
 obtain⟨q,hq⟩:∃ q,q=IntKind.u64.wrap a:=⟨_,rfl⟩
 obtain⟨d,hd⟩:∃ d,d=IntKind.u64.wrap (p - q):=⟨_,rfl⟩
 have HP:=zH hp;have HQ:=zH hq;have HD:=zH hd
 rw [IntKind.wrap_u64] at hp hq hd
 have hd0:0<=d:=by omega
 have hd1:d<18446744073709551616:=by omega
 by_cases hba:b<a
 · rw [if_pos hba] at hgn
   have F1:=zH (show IntKind.u64.wrap (-d)=g by rw [IntKind.wrap_u64];omega)
   have d1:decide (b<a)=true:=decide_eq_true hba
   rw [d1] at HV
   have hg0:0<=g:=by omega
   clear hg hgn hp hq hd
   by_cases hz:g<9223372036854775808
   · rw [if_pos hz] at HV
     go_enter Tryz.func320,Tryz.ntmps320
     go_upto_region 2 with fail
     rw [<-HP.out,<-HQ.out,<-HD.out]
     go_upto_region 4 with fail
     rw [F1.out]
     go_upto_region 6 with fail
     go_region
     go_wp2_with fail
     go_ret3
     exact⟨by rw [HV.out];rfl,((zR).alloc zN _).drew⟩
   · rw [if_neg hz] at HV
     have hz2:(9223372036854775808:Int)<=g:=by omega
     go_enter Tryz.func320,Tryz.ntmps320
     go_upto_region 2 with fail
     rw [<-HP.out,<-HQ.out,<-HD.out]
     go_upto_region 4 with fail
     rw [F1.out]
     go_wp2_with fail
     go_ret3
     exact⟨by rw [HV.out];rfl,(zR).alloc zN _⟩
 · rw [if_neg hba] at hgn
   obtain rfl:d=g:=by omega
   have d1:decide (b<a)=false:=decide_eq_false hba
   rw [d1] at HV
   clear hg hgn hp hq hd
   by_cases hz:d<9223372036854775808
   · rw [if_pos hz] at HV
     go_enter Tryz.func320,Tryz.ntmps320
     go_upto_region 2 with fail
     rw [<-HP.out,<-HQ.out,<-HD.out]
     go_upto_region 6 with fail
     go_region
     go_wp2_with fail
     go_ret3
     exact⟨by rw [HV.out];rfl,((zR).alloc zN _).drew⟩
   · rw [if_neg hz] at HV
     have hz2:(9223372036854775808:Int)<=d:=by omega
     go_enter Tryz.func320,Tryz.ntmps320
     go_upto_region 2 with fail
     rw [<-HP.out,<-HQ.out,<-HD.out]
     go_wp2_with fail
     go_ret3
     exact⟨by rw [HV.out];rfl,(zR).alloc zN _⟩
end
section
open Go Go.RowKit
theorem qzJ (x0:Int):∀ (l:List Int) (j:Nat) (h:j<l.length),(∀ x∈l.take j,x=x0)->l[j]≠x0->(l.takeWhile (·==x0)).length=j
 | [],_,h,_,_=>absurd h (by simp)
 | a::r,0,_,_,h2=>by
   have:(a==x0)=false:=by simpa using h2
   rw [List.takeWhile_cons,this];rfl
 | a::r,j+1,h,h1,h2=>by
   have ha:a=x0:=h1 a (by simp)
   have:(a==x0)=true:=by simpa using ha
   rw [List.takeWhile_cons,this,if_pos rfl,List.length_cons,qzJ x0 r j (by simpa using h) (fun x hx=>h1 x (by rw [List.take_succ_cons];exact List.mem_cons_of_mem _ hx)) (by simpa using h2)]
theorem qxC (x0:Int):∀ (l:List Int),(∀ x∈l,x=x0)->(l.takeWhile (·==x0)).length=l.length
 | [],_=>rfl
 | a::r,h1=>by
   have ha:a=x0:=h1 a (by simp)
   have:(a==x0)=true:=by simpa using ha
   rw [List.takeWhile_cons,this,if_pos rfl,List.length_cons,List.length_cons,qxC x0 r fun x hx=>h1 x (List.mem_cons_of_mem _ hx)]
theorem qzK (x x0:Int) (r:Bool) (hr:r = !(x==x0)) (kb b o n c:Nat) (w:World) (hk:w.cell? ⟨kb,0,none⟩=some (.slice (some ⟨b,o,none⟩) n c)) (h0:w.cell? ⟨b,o,none⟩=some (.int .i64 x0)) (hn:1<=n) :
 Calls Tryz.prog 244 #[.int .i64 x,.pointer (some ⟨kb,0,none⟩)] w fun e w'=>e=.returned (.bool r)/\w=w':=by
 have hn1:(0:Int)<(n:Int):=by omega
 have HR:=zH hr
 clear hr hn
 go_enter Tryz.func244,Tryz.ntmps244
 go_wp2_with fail
 go_ret
 exact⟨by rw [HR.out];rfl,rfl⟩
theorem idx95_any (x0:Int) (kb b o n c:Nat) (F:Nat->Prop) (l:List Int) (w:World) (h:Sl tI64 F w (some ⟨b,o,none⟩) n c l) (hx0:x0=l.headD 0) (hk:w.cell? ⟨kb,0,none⟩=some (.slice (some ⟨b,o,none⟩) n c)) :
 Calls Tryz.prog 243 #[.slice (some ⟨b,o,none⟩) n c,.func (.func 244) #[] #[.pointer (some ⟨kb,0,none⟩)]] w fun e w'=>e=.returned (.int .i64 (if yy4 l=n then (-1:Int) else ((yy4 l:Nat):Int)))/\w=w':=by
 have HL:=zH h.len
 have HK:=zH hk;have HX0:=zH hx0;have HH:=zH h
 have hmax:n<=9223372036854775807:=by have h2:=h.2.1;have h3:=h.2.2.1;unfold maxLen at h3;omega
 obtain⟨rr,hrr⟩:∃ rr:Int,rr=if yy4 l=n then (-1:Int) else ((yy4 l:Nat):Int):=⟨_,rfl⟩
 rw [<-hrr]
 have HRR:=zH hrr
 clear hk hx0 h hrr
 go_enter Tryz.func243,Tryz.ntmps243
 go_wp2_with fail
 go_loopw [8] (fun i wr=>∃ j:Nat,j<=n/\i=.int .i64 j/\wr=w/\Hid (∀ x∈l.take j,x=x0)) (fun i _=>n - (intOf i).toNat)
 case atStart=>exact⟨0,Nat.zero_le _,rfl,rfl,zH (by simp)⟩
 case round =>
  obtain⟨j,hj,rfl,rfl,HA⟩:=hrel
  by_cases hlt:j<n
  · have hjl:j<l.length:=by rw [<-HL.out];exact hlt
    obtain⟨b',o',he,_,hcell⟩:=xxa HH.out (by intro e;rw [e] at hjl;simp at hjl)
    injection he with he;injection he with e1 e2 _
    subst e1;subst e2
    have hd0:l[0]'(by omega)=x0:=by rw [HX0.out];match l,hjl with | _::_,_=>rfl
    have hc0:=(hcell 0 (by omega)).1
    rw [hd0,Nat.add_zero] at hc0
    obtain⟨d,hd⟩:∃ d,d=l[j]:=⟨_,rfl⟩
    have hcj:=(hcell j hjl).1
    rw [<-hd] at hcj
    obtain⟨r,hr⟩:∃ r,r = !(d==x0):=⟨_,rfl⟩
    have HD:=zH hd;have HR:=zH hr;have HC0:=zH hc0
    clear hc0 hd hr hcell hd0
    have hi1:(0:Int)<=(j:Int):=by omega
    have hi2:(j:Int)<(n:Int):=by omega
    cases r with
    | true =>
      have HS:=zH (show yy4 l=j by
       unfold yy4
       rw [<-HX0.out]
       exact qzJ x0 l j hjl HA.out (by rw [<-HD.out];have:=HR.out;simpa using this))
      go_wp2_with (first
       | (go_at_call 244;refine (qzK d x0 true HR.out kb b o n c _ HK.out HC0.out (by omega)).mono ?_;rintro e w1 ⟨rfl,rfl⟩)
       | fail)
      go_ret
      exact⟨by rw [HRR.out,HS.out,if_neg (by omega)];rfl,rfl⟩
    | false =>
      have HN:Hid (∀ x∈l.take (j+1),x=x0):=zH (by
       intro x hx
       rw [zT hjl,List.mem_append,List.mem_singleton] at hx
       rcases hx with hx | rfl
       · exact HA.out x hx
       · rw [<-HD.out];have:=HR.out;simpa using this)
      go_wp2_with (first
       | (go_at_call 244;refine (qzK d x0 false HR.out kb b o n c _ HK.out HC0.out (by omega)).mono ?_;rintro e w1 ⟨rfl,rfl⟩)
       | fail)
      go_roundw
      case rel=>exact⟨j+1,by omega,by go_num,by trivial,HN⟩
      case measure=>simp [intOf];omega
  · obtain rfl:n=j:=by omega
    have HS:=zH (show yy4 l=n by
     unfold yy4
     rw [<-HX0.out,qxC x0 l (by have:=HA.out;rwa [zL (by rw [<-HL.out];exact Nat.le_refl _)] at this),<-HL.out])
    go_wp2_with fail
    go_ret
    exact⟨by rw [HRR.out,if_pos HS.out];rfl,rfl⟩
theorem kq5 (F:Nat->Prop) (A:Option Addr) (n c:Nat) (l:List Int) (w:World) (h:Sl tI64 F w A n c l) (hl:l≠[]) :
 Calls Tryz.prog 204 #[.slice A n c] w fun e w'=>e=.returned (.int .i64 ((yy4 l:Nat):Int))/\Below w.heap.size w w':=by
 obtain⟨b,o,rfl,_,_⟩:=xxa h hl
 obtain⟨w1,hw1⟩:∃ w1,w1=w.alloc (.cells #[.slice (some ⟨b,o,none⟩) n c] 94):=⟨_,rfl⟩
 obtain⟨kb,hkb⟩:∃ kb,kb=w.heap.size:=⟨_,rfl⟩
 have hk:w1.cell? ⟨kb,0,none⟩=some (.slice (some ⟨b,o,none⟩) n c):=by rw [hw1,hkb,zC (heap_alloc_new w _)];rfl
 have HI:=zH (idx95_any (l.headD 0) kb b o n c F l w1 (by rw [hw1];exact h.alloc _) rfl hk)
 have HB:=zH (show Below w.heap.size w w1 by rw [hw1];exact (zR).alloc zN _)
 obtain⟨s,hs⟩:∃ s,s=yy4 l:=⟨_,rfl⟩
 have HLN:=zH h.len
 rw [<-hs] at HI ⊢
 have HW:=zH hw1;have HKB:=zH hkb
 clear h hw1 hkb hs
 by_cases hsn:s=n
 · rw [if_pos hsn] at HI
   subst hsn
   go_enter Tryz.func204,Tryz.ntmps204
   go_upto_region 1 with fail
   rw [<-HW.out,<-HKB.out]
   go_wp2_with (first
    | (go_at_call 243;refine HI.out.mono ?_;rintro e w2 ⟨rfl,rfl⟩)
    | fail)
   go_ret
   exact⟨rfl,HB.out⟩
 · rw [if_neg hsn] at HI
   clear hsn
   go_enter Tryz.func204,Tryz.ntmps204
   go_upto_region 1 with fail
   rw [<-HW.out,<-HKB.out]
   go_wp2_with (first
    | (go_at_call 243;refine HI.out.mono ?_;rintro e w2 ⟨rfl,rfl⟩)
    | fail)
   go_ret
   exact⟨rfl,HB.out⟩
theorem times_any (F:Nat->Prop) (A:Option Addr) (n c:Nat) (l:List Int) (w:World) (h:Sl tI64 F w A n c l) (hl:l≠[]) (hn:n<=512) (sg:Bool) (hk:yyK sg l) :
 Calls Tryz.prog 245 #[.slice A n c,.bool sg] w (zzV (yy7 sg l) w):=by
 have HS:=zH (kq5 F A n c l w h hl)
 obtain⟨b,o,rfl,_,hcell⟩:=xxa h hl
 have hlen:=h.len
 have hpos:=List.length_pos_iff.2 hl
 obtain⟨x0,hx0⟩:∃ x0,x0=l.headD 0:=⟨_,rfl⟩
 have hd0:l[0]'(by omega)=x0:=by rw [hx0];match l,hl with | _::_,_=>rfl
 have hc0:=(hcell 0 (by omega)).1
 rw [hd0,Nat.add_zero] at hc0
 have hxk:=hk x0 (by rw [<-hd0];exact List.getElem_mem _)
 obtain⟨x1,x2,x3⟩:=hxk
 have HX3:=zH x3
 obtain⟨s,hs⟩:∃ s,s=yy4 l:=⟨_,rfl⟩
 have HT:=zH (show yy7 sg l=if s=n/\3<=n/\n<=10 then some (repB (uOf sg x0) n) else none by unfold yy7;rw [<-hs,<-hlen,<-hx0])
 rw [<-hs] at HS
 have hn0:(0:Int)<(n:Int):=by omega
 have HC0:=zH hc0
 clear hs hx0 hd0 hc0 hcell hlen hpos h hk x3
 by_cases hsn:s=n
 · subst hsn
   by_cases hr:3<=s/\s<=10
   · have HP:=zH (qxB sg x0 x1 x2 HX3.out s hn)
     rw [if_pos hr] at HP
     rw [if_pos ⟨rfl,hr⟩] at HT
     clear hr
     go_enter Tryz.func245,Tryz.ntmps245
     go_wp2_with (first
      | (go_at_call 204;refine HS.out.mono ?_;rintro e w1 ⟨rfl,hb1⟩;have hc1:=zzh hb1 HC0.out;have HB1:=zH hb1;clear hb1)
      | (go_at_call 281;refine (HP.out _).mono ?_;rintro e w2 ⟨hb2,A3,n3,c3,rfl,ho3⟩;have HB2:=zH hb2;have HO3:=zH ho3;clear hb2 ho3)
      | fail)
     go_ret2
     exact⟨HB1.out.trans (HB2.out.mono HB1.out.size),by rw [HT.out];exact⟨A3,n3,c3,rfl,HO3.out.down HB1.out.size⟩⟩
   · have HP:=zH (qxB sg x0 x1 x2 HX3.out s hn)
     rw [if_neg hr] at HP
     rw [if_neg (fun h=>hr h.2)] at HT
     clear hr
     go_enter Tryz.func245,Tryz.ntmps245
     go_wp2_with (first
      | (go_at_call 204;refine HS.out.mono ?_;rintro e w1 ⟨rfl,hb1⟩;have hc1:=zzh hb1 HC0.out;have HB1:=zH hb1;clear hb1)
      | (go_at_call 281;refine (HP.out _).mono ?_;rintro e w2 ⟨hb2,rfl⟩;have HB2:=zH hb2;clear hb2)
      | fail)
     go_ret2
     exact⟨HB1.out.trans (HB2.out.mono HB1.out.size),by rw [HT.out];rfl⟩
 · have HN:=zH (show yy7 sg l=none by rw [HT.out,if_neg (fun h=>hsn h.1)])
   have hsI:¬ (s:Int)=(n:Int):=by omega
   clear hsn
   go_enter Tryz.func245,Tryz.ntmps245
   go_wp2_with (first
    | (go_at_call 204;refine HS.out.mono ?_;rintro e w1 ⟨rfl,hb1⟩;have hc1:=zzh hb1 HC0.out;have HB1:=zH hb1;clear hb1)
    | fail)
   go_ret2
   exact⟨HB1.out,by rw [HN.out];rfl⟩
end
section
open Go Go.RowKit
theorem tw_take (x0:Int):∀ (l:List Int) (k:Nat),((l.take k).takeWhile (·==x0)).length=min k (l.takeWhile (·==x0)).length
 | _,0=>by simp
 | [],k+1=>by simp
 | a::r,k+1=>by
   rw [List.take_succ_cons,List.takeWhile_cons,List.takeWhile_cons]
   cases h:(a==x0) with
   | true=>rw [if_pos rfl,if_pos rfl,List.length_cons,List.length_cons,tw_take x0 r k];omega
   | false=>rw [if_neg (by simp),if_neg (by simp)];simp
theorem xqw (l:List Int) (i m:Nat) (hm:m=min l.length (i+5)) (hi:i<l.length):yy4 ((l.take m).drop i)=min 5 (yy4 (l.drop i)):=by
 have e:(l.take m).drop i=(l.drop i).take 5:=by
  rw [List.drop_take]
  by_cases h:l.length<=i+5
  · rw [zL (by rw [List.length_drop];omega),zL (by rw [List.length_drop];omega)]
  · rw [show m - i=5 by omega]
 rw [e]
 unfold yy4
 rw [tw_take]
 congr 4
 match hd:l.drop i with
 | []=>rfl
 | _::_=>rfl
theorem cut_any (F:Nat->Prop) (A:Option Addr) (n c:Nat) (l:List Int) (w:World) (h:Sl tI64 F w A n c l) (hl:l≠[]) (hn:n<=4294967296) :
 Calls Tryz.prog 161 #[.slice A n c] w fun e w'=>e=.returned (.int .i64 ((cutN l:Nat):Int))/\Below w.heap.size w w':=by
 have HS:=zH (kq5 F A n c l w h hl)
 have HH:=zH h
 have hlen:=h.len
 have hpos:=List.length_pos_iff.2 hl
 have hc2:=h.2.1
 have hc3:=h.2.2.1
 unfold maxLen at hc3
 have hsl:=qxt l
 obtain⟨s,hs⟩:∃ s,s=yy4 l:=⟨_,rfl⟩
 obtain⟨t,ht⟩:∃ t,t=cutN l:=⟨_,rfl⟩
 obtain⟨b,o,rfl,_,_⟩:=xxa h hl
 have HT:=zH ht
 have hsn:s<=n:=by omega
 rw [<-hs] at HS
 rw [<-ht]
 have hn1:1<=n:=by omega
 by_cases h3:3<=s
 · have HM:=zH (show min (s:Int) 512=(t:Int) by rw [ht,cutN,<-hs,if_pos h3];omega)
   have z:(3:Int)<=(s:Int):=by omega
   clear h hlen hpos hs ht hsl h3
   go_enter Tryz.func161,Tryz.ntmps161
   go_wp2_with (first
    | (go_at_call 204;refine HS.out.mono ?_;rintro e w1 ⟨rfl,hb1⟩;have HB1:=zH hb1;clear hb1)
    | fail)
   go_ret
   exact⟨by rw [<-HM.out];rfl,HB1.out⟩
 · obtain⟨en,hen⟩:∃ en,en=min n 512:=⟨_,rfl⟩
   have hen1:1<=en/\en<=512/\en<=n:=by omega
   have HEN:=zH (show min (n:Int) 512=(en:Int) by omega)
   have HC:=zH (show t=uuM l (en - 1) 1 by
    rw [ht,cutN,<-hs,if_neg h3]
    by_cases h1:l.length<=1
    · rw [if_pos h1,show en - 1=0 by omega,uuM];omega
    · rw [if_neg h1,hen,<-hlen])
   have z:¬ (3:Int)<=(s:Int):=by omega
   have HLN:=zH hlen
   have HE1:=zH hen1
   clear h hlen hpos hs ht hsl h3 hen hen1
   go_enter Tryz.func161,Tryz.ntmps161
   go_wp2_with (first
    | (go_at_call 204;refine HS.out.mono ?_;rintro e w1 ⟨rfl,hb1⟩;have HB1:=zH hb1;clear hb1)
    | fail)
   try rw [HEN.out]
   go_loopw [5] (fun iv wr=>∃ i:Nat,1<=i/\i<=en/\iv=.int .i64 (i:Int)/\Below w.heap.size w wr/\Hid (t=uuM l (en - i) i))
    (fun iv _=>en - (intOf iv).toNat)
   case atStart=>exact⟨1,Nat.le_refl _,HE1.out.1,rfl,HB1.out,HC⟩
   case round =>
    obtain⟨i,hi1,hi,rfl,hb,HCI⟩:=hrel
    have HB:=zH hb
    clear hb
    by_cases hlt:i<en
    · have hiE:=HE1.out
      obtain⟨m,hm⟩:∃ m,m=min n (i+5):=⟨_,rfl⟩
      have HM:=zH (show min (n:Int) ((i:Int)+5)=(m:Int) by omega)
      have him:i<m/\m<=n:=by omega
      have HF5:=zH (xqw l i m (by rw [hm,HLN.out]) (by rw [<-HLN.out];omega))
      have hcut:=(HH.out.below HB.out zN).cut (lo:=i) (hi:=m) (by omega) him.2
      have hci:¬ c=i:=by omega
      rw [if_neg hci] at hcut
      have hcut2:Sl tI64 F wr (some ⟨b,o+i,none⟩) (m - i) (c - i) ((l.take m).drop i):=by
       simpa [Addr.add,show tI64.size=1 from rfl,show ¬ i=0 by omega] using hcut
      obtain⟨s5,hs5⟩:∃ s5,s5=min 5 (yy4 (l.drop i)):=⟨_,rfl⟩
      have HC5:=zH (kq5 F _ _ _ _ wr hcut2 (by intro e;have:=congrArg List.length e;rw [List.length_drop,List.length_take] at this;have:=HLN.out;simp at *;omega))
      rw [HF5.out,<-hs5] at HC5
      have HS5:=zH hs5
      have i0:(0:Int)<=(i:Int):=by omega
      have i1:(i:Int)<(en:Int):=by omega
      have i2:(i:Int)<=(m:Int):=by omega
      have i3:(m:Int)<=(c:Int):=by omega
      have i4:i<=m:=by omega
      have i5:m<=c:=by omega
      clear hm him hcut hcut2 hs5 hiE
      have zm:=HM.out
      have i6:(c:Int)<=9223372036854775807:=by omega
      by_cases h5:s5=5
      · have HFIN:=zH (show t=i by
         have:=HS5.out
         rw [HCI.out,show en - i=(en - i - 1)+1 by omega,uuM,if_pos (by omega)])
        have h5I:(s5:Int)=5:=by omega
        clear h5
        go_wp2_with (first
         | (go_at_call 204;refine HC5.out.mono ?_;rintro e w2 ⟨rfl,hb2⟩;have HB2:=zH (HB.out.trans (hb2.mono HB.out.size));clear hb2)
         | fail)
        go_ret
        exact⟨by rw [HFIN.out];rfl,HB2.out⟩
      · have HFIN:=zH (show t=uuM l (en - (i+1)) (i+1) by
         have:=HS5.out
         rw [HCI.out,show en - i=(en - (i+1))+1 by omega,uuM,if_neg (by omega)])
        have h5I:¬ (s5:Int)=5:=by omega
        clear h5
        go_wp2_with (first
         | (go_at_call 204;refine HC5.out.mono ?_;rintro e w2 ⟨rfl,hb2⟩;have HB2:=zH (HB.out.trans (hb2.mono HB.out.size));clear hb2)
         | fail)
        go_roundw
        case rel=>exact⟨i+1,by omega,by omega,by go_num,HB2.out,HFIN⟩
        case measure=>simp [intOf];omega
    · obtain rfl:i=en:=by omega
      have i1:¬ (i:Int)<(i:Int):=by omega
      go_wp2_with fail
      go_ret
      exact⟨by rw [HCI.out,Nat.sub_self,uuM];rfl,HB.out⟩
end
end Go.Proofs.YtpmglcachffojaaGreatDoor
