/- A part of what None leans on. -/
import Derived.Test.YtpmglcachffojaaGreatDoorZ3
import Derived.Test.YtpmglcachffojaaGreatDoorZ5
set_option maxRecDepth 100000
set_option maxHeartbeats 16000000
namespace Go.Proofs.YtpmglcachffojaaGreatDoor
section
open Go Go.RowKit
theorem PkR.drew {w0 w:World} {B atb ob g s cap a:Nat} {L:List UInt8} (h:PkR w0 B atb ob g s cap a L w):PkR w0 B atb ob g s cap a L w.drew:=⟨h.at_,h.out,zz7 ⟨_,h.own.drew⟩,h.below.drew⟩
theorem zqj (s:Nat) (hs:s<=65536) (w wp:World) (hwp:wp=((w.alloc (.cells (madeCells #[.int .u8 0] s) 5)).alloc (.cells #[.slice (some ⟨w.heap.size,0,none⟩) s s] 41)).alloc (.cells #[.int .i64 0] 3)) :
 PkR w w.heap.size (w.heap.size+1+1) (w.heap.size+1) w.heap.size s s 0 (be s (0*2 ^ (8*s - 0))) wp:=by
 obtain⟨w1,h1⟩:∃ w1,w1=w.alloc (.cells (madeCells #[.int .u8 0] s) 5):=⟨_,rfl⟩
 obtain⟨w2,h2⟩:∃ w2,w2=w1.alloc (.cells #[.slice (some ⟨w.heap.size,0,none⟩) s s] 41):=⟨_,rfl⟩
 have s1:w1.heap.size=w.heap.size+1:=by rw [h1,zS]
 have s2:w2.heap.size=w.heap.size+1+1:=by rw [h2,zS,s1]
 rw [<-h1,<-h2] at hwp
 have b1:Below w.heap.size w w1:=by rw [h1];exact (zR).alloc zN _
 have b2:Below w.heap.size w w2:=by rw [h2];exact b1.alloc b1.size _
 have hrow:=kqV s hs w w.heap.size zN
 rw [<-h1] at hrow
 have k1:Below w1.heap.size w1 w2:=by rw [h2];exact (zR).alloc zN _
 have k2:Below w2.heap.size w2 wp:=by rw [hwp];exact (zR).alloc zN _
 refine⟨?_,?_,?_,?_⟩
 · rw [hwp,<-s2];exact heap_alloc_new _ _
 · rw [k2.block _ (by omega),h2,<-s1];exact heap_alloc_new _ _
 · rw [Nat.zero_mul,uuD]
   exact (hrow.keepB k1).keepB k2
 · rw [hwp];exact b2.alloc b2.size _
theorem kqW (x rest m:Nat) (h1:1<=m) (h8:m<=8):bits BinOp.and IntKind.u8 (IntKind.u8.wrap ((x:Int) / 2 ^ rest)) (IntKind.u8.wrap (IntKind.u8.wrap (2 ^ m) - 1))=((x / 2 ^ rest % 2 ^ m:Nat):Int):=by
 have e1:IntKind.u8.wrap ((x:Int) / 2 ^ rest)=((x / 2 ^ rest % 256:Nat):Int):=by
  rw [IntKind.wrap_u8,show (x:Int) / 2 ^ rest=((x / 2 ^ rest:Nat):Int) by simp]
  omega
 have e2:IntKind.u8.wrap (IntKind.u8.wrap (2 ^ m) - 1)=((2 ^ m - 1:Nat):Int):=by
  obtain rfl | rfl | rfl | rfl | rfl | rfl | rfl | rfl:m=1∨m=2∨m=3∨m=4∨m=5∨m=6∨m=7∨m=8:=by omega
  all_goals decide
 have h256:=xxL h8
 have hp:0<2 ^ m:=Nat.pow_pos (by decide)
 rw [e1,e2,u8_and_nat _ _ (Nat.mod_lt _ (by decide)) (by omega),Nat.and_two_pow_sub_one_eq_mod]
 congr 1
 rw [Nat.mod_mod_of_dvd]
 have:(256:Nat)=2 ^ m*2 ^ (8 - m):=by rw [<-Nat.pow_add,show m+(8 - m)=8 by omega]
 exact⟨_,this⟩
theorem jjQ (C x:Nat) {k left m rest:Nat} (h1:left<=k) (h2:m<=left) (h3:rest=left - m):(C*2 ^ (k - left)+x / 2 ^ left)*2 ^ m+x / 2 ^ rest % 2 ^ m=C*2 ^ (k - rest)+x / 2 ^ rest:=by
 have e1:x / 2 ^ left=x / 2 ^ rest / 2 ^ m:=by rw [Nat.div_div_eq_div_mul,<-Nat.pow_add,show rest+m=left by omega]
 rw [e1,Nat.add_mul,Nat.mul_assoc,<-Nat.pow_add,show k - left+m=k - rest by omega,Nat.add_assoc,Nat.mul_comm (x / 2 ^ rest / 2 ^ m),Nat.div_add_mod]
theorem kqX (k:Nat) (hk:k<=64) (w:World):Calls Tryz.prog 316 #[.int .i64 0,.int .i64 (k:Int)] w fun e w'=>e=.returned (.bool true)/\w=w':=vvF 0 k true (decide_eq_true ⟨by omega,hk⟩).symm w
def zqk (k:Nat) (l:List Nat) (w:World) (e:Ending) (w':World):Prop:=∃ A s c,e=.returned (.tuple #[.slice A s c,.int .i64 0])/\OwnB w' w.heap.size A s c (pack k l)/\Below w.heap.size w w'
theorem xxq (F:Nat->Prop) (A:Option Addr) (n c:Nat) (l:List Nat) (w:World) (h:Sl tU64 F w A n c l) (hn:n<=4096) (k:Nat) (hk:k<=64) (hx:∀ x∈l,x<2 ^ k) :
 Calls Tryz.prog 285 #[.slice A n c,.int .i64 (k:Int)] w (zqk k l w):=by
 have HH:=zH h;have HX:=zH hx
 have HL:=zH h.len
 obtain⟨s,hs⟩:∃ s,s=zzD n k:=⟨_,rfl⟩
 have hmk:n*k<=4096*64:=Nat.mul_le_mul hn hk
 have hs6:s<=40000:=by rw [hs];unfold zzD;omega
 have HS:=zH hs
 have hmk2:=kqU s (by omega)
 clear h hx hmk hs
 go_enter Tryz.func285,Tryz.ntmps285
 go_upto_region 3 with (first
  | (go_at_call 316;refine (kqX k hk _).mono ?_;rintro e w1 ⟨rfl,rfl⟩)
  | fail)
 go_upto_region 8 with (first
  | (go_at_call 316;refine (vvF n k true (decide_eq_true ⟨hn,hk⟩).symm _).mono ?_;rintro e w1 ⟨rfl,rfl⟩)
  | (go_at_call 317;refine (zqi n k hn hk _).mono ?_;rintro e w1 ⟨rfl,rfl⟩;rw [<-HS.out])
  | fail)
 obtain⟨wp,hwp⟩:∃ wp,wp=((w.alloc (.cells (madeCells #[.int .u8 0] s) 5)).alloc (.cells #[.slice (some ⟨w.heap.size,0,none⟩) s s] 41)).alloc (.cells #[.int .i64 0] 3):=⟨_,rfl⟩
 have hpk:=zqj s (by omega) w wp hwp
 rw [<-hwp]
 obtain⟨g,hg⟩:∃ g,g=w.heap.size:=⟨_,rfl⟩
 obtain⟨ob,hob⟩:∃ ob,ob=w.heap.size+1:=⟨_,rfl⟩
 obtain⟨atb,hatb⟩:∃ atb,atb=w.heap.size+1+1:=⟨_,rfl⟩
 have hne1:atb≠ob:=by omega
 have hne2:atb≠g:=by omega
 have hne3:ob≠g:=by omega
 have hBa:w.heap.size<=atb:=by omega
 rw [<-hatb,<-hob,<-hg] at hpk ⊢
 rw [hg] at hpk
 have hpk2:PkR w w.heap.size atb ob g s s 0 (be s (0*2 ^ (8*s - 0))) wp:=by rw [hg];exact hpk
 have HPK:=zH hpk2
 have HNE1:=zH hne1;have HNE2:=zH hne2;have HNE3:=zH hne3;have HBA:=zH hBa
 clear hwp hpk hpk2 hg hob hatb hne1 hne2 hne3 hBa hmk2
 have hns:n*k<=8*s:=by rw [HS.out];unfold zzD;omega
 have HNS:=zH hns
 clear hns
 go_wp2_with fail
 go_loopw [31] (fun iv wr=>∃ i:Nat,i<=n/\iv=.int .i64 (i:Int)/\PkR w w.heap.size atb ob g s s (i*k) (be s (catN k (l.take i)*2 ^ (8*s - i*k))) wr)
  (fun iv _=>n - (intOf iv).toNat)
 case atStart=>exact⟨0,Nat.zero_le _,rfl,by rw [Nat.zero_mul];exact HPK.out⟩
 case round =>
  obtain⟨i,hi,rfl,hp⟩:=hrel
  have HP:=zH hp
  clear hp
  by_cases hlt:i<n
  · have hil:i<l.length:=by rw [<-HL.out];exact hlt
    obtain⟨x,hx⟩:∃ x,x=l[i]:=⟨_,rfl⟩
    have hxk:x<2 ^ k:=by rw [hx];exact HX.out _ (List.getElem_mem _)
    have hsl:=HH.out.below HP.out.below zN
    obtain⟨b,o,u,rfl,_,hbl,hr,hc⟩:=hsl.at1 hil rfl
    rw [<-hx] at hr
    obtain⟨hr,hx64⟩:=hr
    injection hr with hr
    subst hr
    have hi1:(0:Int)<=(i:Int):=by omega
    have hi2:(i:Int)<(n:Int):=by omega
    have hsh:x / 2 ^ k=0:=Nat.div_eq_of_lt hxk
    have hik:i*k+k<=8*s:=by
     have h1:(i+1)*k<=n*k:=Nat.mul_le_mul_right k hlt
     rw [Nat.add_mul,Nat.one_mul] at h1
     have:=HNS.out;omega
    have HIK:=zH hik
    have HTK:=zH (show catN k (l.take (i+1))=catN k (l.take i)*2 ^ k+x by rw [zT hil,xxA,<-hx])
    have HXK:=zH hxk
    clear hx hxk hsl hik
    have hshI:(x:Int) / 2 ^ k=0:=by
     have h1:((x / 2 ^ k:Nat):Int)=0:=by rw [hsh];rfl
     simpa using h1
    go_upto_region 11 with fail
    go_cut [42] from 35 to 41 (fun v wx=>v=.bool false/\wx=wr)
    case first =>
     by_cases hk64:(k:Int)<64
     · go_wp2_with fail
       go_meet
       exact⟨rfl,rfl⟩
     · have hk1:(64:Int)<=(k:Int):=by omega
       go_wp2_with fail
       go_meet
       exact⟨rfl,rfl⟩
    case rest =>
     obtain⟨rfl,hwc⟩:=hcut
     rw [hwc]
     clear hwc hsh hshI
     refine ‹∀ (a:Act) (w_1:World),Code.wp _ _ _ a w_1->_› _ _ ?_
     go_wp2_with fail
     obtain⟨wi,rfl⟩:∃ wi,wi=wr:=⟨wr,rfl⟩
     go_loopw [11] (fun lv wq=>∃ left:Nat,left<=k/\lv=.int .i64 (left:Int)/\PkR w w.heap.size atb ob g s s (i*k+(k - left)) (be s ((catN k (l.take i)*2 ^ (k - left)+x / 2 ^ left)*2 ^ (8*s - (i*k+(k - left))))) wq)
      (fun lv _=>(intOf lv).toNat)
     case atStart=>exact⟨k,Nat.le_refl _,rfl,by rw [Nat.sub_self,Nat.add_zero,Nat.pow_zero,Nat.mul_one,Nat.div_eq_of_lt HXK.out,Nat.add_zero];exact HP.out⟩
     case round =>
      obtain⟨left,hlk,rfl,hp2⟩:=hrel
      have HP2:=zH hp2
      clear hp2
      by_cases h0:left=0
      · subst h0
        go_wp2_with fail
        go_roundw
        case rel =>
         refine⟨i+1,by omega,by go_num,?_⟩
         have h1:=HP2.out
         rw [Nat.sub_zero,Nat.pow_zero,Nat.div_one,<-HTK.out,show i*k+k=(i+1)*k by rw [Nat.add_mul,Nat.one_mul]] at h1
         exact h1
        case measure=>simp [intOf];omega
      · obtain⟨m,hm⟩:∃ m,m=min left ((left - 1) % 8+1):=⟨_,rfl⟩
        obtain⟨rest,hrest⟩:∃ rest,rest=left - m:=⟨_,rfl⟩
        have hm1:1<=m/\m<=8/\m<=left:=by omega
        have z0:(0:Int)<(left:Int):=by omega
        have z1:0<left:=by omega
        have zm:min (left:Int) (((left:Int) - 1) % 8+1)=(m:Int):=by omega
        have zr:(left:Int) - (m:Int)=(rest:Int):=by omega
        have HM:=zH hm;have HR:=zH hrest;have HM1:=zH hm1
        clear hm hrest hm1
        obtain⟨q,hq⟩:∃ q,q=x / 2 ^ rest % 2 ^ m:=⟨_,rfl⟩
        have hand:=kqW x rest m (by have:=HM1.out;omega) (by have:=HM1.out;omega)
        have hcn:q<2 ^ m:=by rw [hq];exact Nat.mod_lt _ (Nat.pow_pos (by decide))
        rw [<-hq] at hand
        have HCN:=zH hcn
        have hat:i*k+(k - left)+m<=8*s:=by have:=HIK.out;have:=HM1.out;omega
        have HST:=zH (jjQ (catN k (l.take i)) x (k:=k) (left:=left) (m:=m) (rest:=rest) hlk HM1.out.2.2 HR.out)
        rw [<-hq] at HST
        have HATL:=zH hat
        clear hq hcn hat
        have HAT:=zH (show i*k+(k - left)+m=i*k+(k - rest) by have:=HR.out;have:=HM1.out;omega)
        go_upto_region 17 with fail
        go_region_with (first
         | (go_at_call 318;refine (qxE w w.heap.size atb ob g s s (i*k+(k - left)) (catN k (l.take i)*2 ^ (k - left)+x / 2 ^ left) HNE1.out HNE2.out HNE3.out HBA.out (by omega) q m HM1.out.1 HM1.out.2.1 HCN.out HATL.out _ HP2.out.drew).mono ?_;rintro e w2 ⟨rfl,hp3⟩;rw [HST.out,HAT.out] at hp3;have HP3:=zH hp3;clear hp3)
         | fail)
        go_wp2_with fail
        go_roundw
        case rel=>exact⟨rest,by have:=HR.out;omega,rfl,HP3.out⟩
        case measure=>simp [intOf];have:=HR.out;have:=HM1.out;omega
  · obtain rfl:n=i:=by omega
    have o0:wr.cell? ⟨ob,0,none⟩=some (.slice (some ⟨g,0,none⟩) s s):=by rw [zC HP.out.out];rfl
    have hfin:pack k l=be s (catN k (l.take n)*2 ^ (8*s - n*k)):=by
     unfold pack
     rw [<-HL.out,<-HS.out,zL (by rw [<-HL.out];exact Nat.le_refl _)]
    have HFIN:=zH hfin
    clear hfin
    go_wp2_with fail
    go_ret2
    exact⟨_,s,s,rfl,by rw [HFIN.out];exact HP.out.row,HP.out.below⟩
end
section
open Go Go.RowKit
theorem yyC (a b:Nat) (ha:a<1048576) (hb:b<1048576):bits .or .i64 (a:Int) (b:Int)=((a ||| b:Nat):Int):=by
 have hx:a ||| b<2 ^ 20:=Nat.or_lt_two_pow (by omega) (by omega)
 show IntKind.i64.wrap ((BitVec.ofInt 64 (a:Int) ||| BitVec.ofInt 64 (b:Int)).toNat:Int)=_
 rw [BitVec.toNat_or,ofInt_u64 a (by omega),ofInt_u64 b (by omega)]
 rw [IntKind.wrap_i64]
 omega
def zzw (o:Option (List UInt8)) (w:World) (e:Ending) (w':World):Prop:=Below w.heap.size w w'/\match o with
 | none=>e=.returned (.tuple #[.slice none 0 0,.int .i64 1])
 | some b=>∃ A n c,e=.returned (.tuple #[.slice A n c,.int .i64 0])/\OwnB w' w.heap.size A n c b
theorem jjo (sg:Bool) (x:Int) (h0 : -9223372036854775808<=x) (h1:x<=9223372036854775807) (hs:sg=true∨0<=x) (t:Nat) (ht:t<=512) (w:World) :
 Calls Tryz.prog 281 #[.int .i64 x,.int .i64 (t:Int),.bool sg] w (zzw (if 3<=t/\t<=10 then some (repB (uOf sg x) t) else none) w):=by
 have hu:=jjg (sg:=sg) h0 h1
 obtain⟨u,hue⟩:∃ u,u=uOf sg x:=⟨_,rfl⟩
 have HPL:=zH (jjR sg x h0 h1 hs)
 rw [<-hue] at hu HPL ⊢
 have HU:=zH hu
 clear hue hs hu
 by_cases hc:3<=t/\t<=10
 · rw [if_pos hc]
   have z1:¬ (t:Int)<3:=by omega
   have z2:¬ (t:Int) > 10:=by omega
   have hl:=qxC HU.out
   obtain⟨n,hn⟩:∃ n,n+1=long u:=⟨long u - 1,by omega⟩
   have HN:=zH hn
   rw [<-hn] at hl
   obtain⟨y,hy⟩:∃ y:UInt8,y=UInt8.ofNat (8*n+t - 3):=⟨_,rfl⟩
   have HY:=zH (show bits .or .i64 ((n:Int)*8) ((t:Int) - 3) % 256=((y.toNat:Nat):Int) by
    have e1:=yyC (n*8) (t - 3) (by omega) (by omega)
    rw [nat_join 3 (n*8) (t - 3) (by omega) (by omega)] at e1
    rw [show (n:Int)*8=((n*8:Nat):Int) by simp,show (t:Int) - 3=((t - 3:Nat):Int) by omega,e1,hy,UInt8.toNat_ofNat']
    omega)
   have HYB:=zH (show repB u t=[y]++be (n+1) u by rw [repB,<-HN.out,hy];simp)
   clear hn hy
   have HHI:Hid (∀ w:World,Calls Tryz.prog 314 #[.int .u64 (u:Int),.int .i64 ((n:Int)+1),.slice (some ⟨w.heap.size,0,none⟩) 1 1] (w.alloc (.cells #[.int .u8 ((y.toNat:Nat):Int)] 5)) fun e w'=>∃ A' m' c',e=.returned (.slice A' m' c')/\OwnB w' w.heap.size A' m' c' ([y]++be (n+1) u)/\Below w.heap.size w w'):=zH (fun w=>by
    have ho:OwnB (w.alloc (.cells #[.int .u8 ((y.toNat:Nat):Int)] 5)) w.heap.size (some ⟨w.heap.size,0,none⟩) 1 1 [y]:=World.ownsRow_lit w #[.int .u8 ((y.toNat:Nat):Int)] 1 zN (by simp [maxLen]) rfl
    have hb:Below w.heap.size w (w.alloc (.cells #[.int .u8 ((y.toNat:Nat):Int)] 5)):=(zR).alloc zN _
    refine (kq0 w.heap.size u (n+1) HU.out (by omega) _ 1 1 [y] (by omega) _ ho hb.size).mono ?_
    rintro e w1 ⟨A3,m3,c3,rfl,h3,hb3⟩
    exact⟨A3,m3,c3,rfl,h3,hb.trans hb3⟩)
   go_enter Tryz.func281,Tryz.ntmps281
   go_wp2_with (first
    | (go_at_call 312;refine (HPL.out _).mono ?_;rintro e w1 ⟨rfl,rfl⟩)
    | (go_at_call 313;refine (kqY u HU.out _).mono ?_;rintro e w1 ⟨rfl,rfl⟩;rw [<-HN.out])
    | (rw [HY.out];go_at_call 314;refine (HHI.out w).mono ?_;rintro e w1 ⟨A3,m3,c3,rfl,h3,hb3⟩;have HH3:=zH h3;have HB3:=zH hb3;clear h3 hb3)
    | fail)
   go_ret2
   exact⟨HB3.out,A3,m3,c3,rfl,by rw [HYB.out];exact HH3.out⟩
 · rw [if_neg hc]
   by_cases z1:(t:Int)<3
   · clear hc
     go_enter Tryz.func281,Tryz.ntmps281
     go_wp2_with (first
      | (go_at_call 312;refine (HPL.out _).mono ?_;rintro e w1 ⟨rfl,rfl⟩)
      | fail)
     go_ret2
     exact⟨zR,rfl⟩
   · have z2:(t:Int) > 10:=by omega
     clear hc
     go_enter Tryz.func281,Tryz.ntmps281
     go_wp2_with (first
      | (go_at_call 312;refine (HPL.out _).mono ?_;rintro e w1 ⟨rfl,rfl⟩)
      | fail)
     go_ret2
     exact⟨zR,rfl⟩
end
section
open Go Go.RowKit
theorem vv6 (x0:Int):∀ (l:List Int) (j:Nat) (h:j<l.length),(∀ x∈l.take j,x=x0)->l[j]≠x0->(l.takeWhile (·==x0)).length=j
 | [],_,h,_,_=>absurd h (by simp)
 | a::r,0,_,_,h2=>by
   have:(a==x0)=false:=by simpa using h2
   rw [List.takeWhile_cons,this];rfl
 | a::r,j+1,h,h1,h2=>by
   have ha:a=x0:=h1 a (by simp)
   have:(a==x0)=true:=by simpa using ha
   rw [List.takeWhile_cons,this,if_pos rfl,List.length_cons,vv6 x0 r j (by simpa using h) (fun x hx=>h1 x (by rw [List.take_succ_cons];exact List.mem_cons_of_mem _ hx)) (by simpa using h2)]
theorem jjp (x0:Int):∀ (l:List Int),(∀ x∈l,x=x0)->(l.takeWhile (·==x0)).length=l.length
 | [],_=>rfl
 | a::r,h1=>by
   have ha:a=x0:=h1 a (by simp)
   have:(a==x0)=true:=by simpa using ha
   rw [List.takeWhile_cons,this,if_pos rfl,List.length_cons,List.length_cons,jjp x0 r fun x hx=>h1 x (List.mem_cons_of_mem _ hx)]
theorem vv7 (x x0:Int) (r:Bool) (hr:r = !(x==x0)) (kb b o n c:Nat) (w:World) (hk:w.cell? ⟨kb,0,none⟩=some (.slice (some ⟨b,o,none⟩) n c)) (h0:w.cell? ⟨b,o,none⟩=some (.int .i64 x0)) (hn:1<=n) :
 Calls Tryz.prog 244 #[.int .i64 x,.pointer (some ⟨kb,0,none⟩)] w fun e w'=>e=.returned (.bool r)/\w=w':=by
 have hn1:(0:Int)<(n:Int):=by omega
 have HR:=zH hr
 clear hr hn
 go_enter Tryz.func244,Tryz.ntmps244
 go_wp2_with fail
 go_ret
 exact⟨by rw [HR.out];rfl,rfl⟩
theorem kq8 (x0:Int) (kb b o n c:Nat) (F:Nat->Prop) (l:List Int) (w:World) (h:Sl tI64 F w (some ⟨b,o,none⟩) n c l) (hx0:x0=l.headD 0) (hk:w.cell? ⟨kb,0,none⟩=some (.slice (some ⟨b,o,none⟩) n c)) :
 Calls Tryz.prog 243 #[.slice (some ⟨b,o,none⟩) n c,.func (.func 244) #[] #[.pointer (some ⟨kb,0,none⟩)]] w fun e w'=>e=.returned (.int .i64 (if zz6 l=n then (-1:Int) else ((zz6 l:Nat):Int)))/\w=w':=by
 have HL:=zH h.len
 have HK:=zH hk;have HX0:=zH hx0;have HH:=zH h
 have hmax:n<=9223372036854775807:=by have h2:=h.2.1;have h3:=h.2.2.1;unfold maxLen at h3;omega
 obtain⟨rr,hrr⟩:∃ rr:Int,rr=if zz6 l=n then (-1:Int) else ((zz6 l:Nat):Int):=⟨_,rfl⟩
 rw [<-hrr]
 have HRR:=zH hrr
 clear hk hx0 h hrr
 go_enter Tryz.func243,Tryz.ntmps243
 go_wp2_with fail
 go_loopw [8] (fun i wr=>∃ j:Nat,j<=n/\i=.int .i64 j/\wr=w/\Hid (∀ x∈l.take j,x=x0)) (fun i _=>n - (intOf i).toNat)
 case atStart=>exact⟨0,Nat.zero_le _,rfl,rfl,zH (by simp)⟩
 case round =>
  obtain⟨j,hj,rfl,rfl,HA⟩:=hrel
  by_cases hlt:j<n
  · have hjl:j<l.length:=by rw [<-HL.out];exact hlt
    obtain⟨b',o',he,_,hcell⟩:=yya HH.out (by intro e;rw [e] at hjl;simp at hjl)
    injection he with he;injection he with e1 e2 _
    subst e1;subst e2
    have hd0:l[0]'(by omega)=x0:=by rw [HX0.out];match l,hjl with | _::_,_=>rfl
    have hc0:=(hcell 0 (by omega)).1
    rw [hd0,Nat.add_zero] at hc0
    obtain⟨d,hd⟩:∃ d,d=l[j]:=⟨_,rfl⟩
    have hcj:=(hcell j hjl).1
    rw [<-hd] at hcj
    obtain⟨r,hr⟩:∃ r,r = !(d==x0):=⟨_,rfl⟩
    have HD:=zH hd;have HR:=zH hr;have HC0:=zH hc0
    clear hc0 hd hr hcell hd0
    have hi1:(0:Int)<=(j:Int):=by omega
    have hi2:(j:Int)<(n:Int):=by omega
    cases r with
    | true =>
      have HS:=zH (show zz6 l=j by
       unfold zz6
       rw [<-HX0.out]
       exact vv6 x0 l j hjl HA.out (by rw [<-HD.out];have:=HR.out;simpa using this))
      go_wp2_with (first
       | (go_at_call 244;refine (vv7 d x0 true HR.out kb b o n c _ HK.out HC0.out (by omega)).mono ?_;rintro e w1 ⟨rfl,rfl⟩)
       | fail)
      go_ret
      exact⟨by rw [HRR.out,HS.out,if_neg (by omega)];rfl,rfl⟩
    | false =>
      have HN:Hid (∀ x∈l.take (j+1),x=x0):=zH (by
       intro x hx
       rw [zT hjl,List.mem_append,List.mem_singleton] at hx
       rcases hx with hx | rfl
       · exact HA.out x hx
       · rw [<-HD.out];have:=HR.out;simpa using this)
      go_wp2_with (first
       | (go_at_call 244;refine (vv7 d x0 false HR.out kb b o n c _ HK.out HC0.out (by omega)).mono ?_;rintro e w1 ⟨rfl,rfl⟩)
       | fail)
      go_roundw
      case rel=>exact⟨j+1,by omega,by go_num,by trivial,HN⟩
      case measure=>simp [intOf];omega
  · obtain rfl:n=j:=by omega
    have HS:=zH (show zz6 l=n by
     unfold zz6
     rw [<-HX0.out,jjp x0 l (by have:=HA.out;rwa [zL (by rw [<-HL.out];exact Nat.le_refl _)] at this),<-HL.out])
    go_wp2_with fail
    go_ret
    exact⟨by rw [HRR.out,if_pos HS.out];rfl,rfl⟩
theorem vvH (F:Nat->Prop) (A:Option Addr) (n c:Nat) (l:List Int) (w:World) (h:Sl tI64 F w A n c l) (hl:l≠[]) :
 Calls Tryz.prog 204 #[.slice A n c] w fun e w'=>e=.returned (.int .i64 ((zz6 l:Nat):Int))/\Below w.heap.size w w':=by
 obtain⟨b,o,rfl,_,_⟩:=yya h hl
 obtain⟨w1,hw1⟩:∃ w1,w1=w.alloc (.cells #[.slice (some ⟨b,o,none⟩) n c] 94):=⟨_,rfl⟩
 obtain⟨kb,hkb⟩:∃ kb,kb=w.heap.size:=⟨_,rfl⟩
 have hk:w1.cell? ⟨kb,0,none⟩=some (.slice (some ⟨b,o,none⟩) n c):=by rw [hw1,hkb,zC (heap_alloc_new w _)];rfl
 have HI:=zH (kq8 (l.headD 0) kb b o n c F l w1 (by rw [hw1];exact h.alloc _) rfl hk)
 have HB:=zH (show Below w.heap.size w w1 by rw [hw1];exact (zR).alloc zN _)
 obtain⟨s,hs⟩:∃ s,s=zz6 l:=⟨_,rfl⟩
 have HLN:=zH h.len
 rw [<-hs] at HI ⊢
 have HW:=zH hw1;have HKB:=zH hkb
 clear h hw1 hkb hs
 by_cases hsn:s=n
 · rw [if_pos hsn] at HI
   subst hsn
   go_enter Tryz.func204,Tryz.ntmps204
   go_upto_region 1 with fail
   rw [<-HW.out,<-HKB.out]
   go_wp2_with (first
    | (go_at_call 243;refine HI.out.mono ?_;rintro e w2 ⟨rfl,rfl⟩)
    | fail)
   go_ret
   exact⟨rfl,HB.out⟩
 · rw [if_neg hsn] at HI
   clear hsn
   go_enter Tryz.func204,Tryz.ntmps204
   go_upto_region 1 with fail
   rw [<-HW.out,<-HKB.out]
   go_wp2_with (first
    | (go_at_call 243;refine HI.out.mono ?_;rintro e w2 ⟨rfl,rfl⟩)
    | fail)
   go_ret
   exact⟨rfl,HB.out⟩
theorem kq9 (F:Nat->Prop) (A:Option Addr) (n c:Nat) (l:List Int) (w:World) (h:Sl tI64 F w A n c l) (hl:l≠[]) (hn:n<=512) (sg:Bool) (hk:zzV sg l) :
 Calls Tryz.prog 245 #[.slice A n c,.bool sg] w (zzw (zz9 sg l) w):=by
 have HS:=zH (vvH F A n c l w h hl)
 obtain⟨b,o,rfl,_,hcell⟩:=yya h hl
 have hlen:=h.len
 have hpos:=List.length_pos_iff.2 hl
 obtain⟨x0,hx0⟩:∃ x0,x0=l.headD 0:=⟨_,rfl⟩
 have hd0:l[0]'(by omega)=x0:=by rw [hx0];match l,hl with | _::_,_=>rfl
 have hc0:=(hcell 0 (by omega)).1
 rw [hd0,Nat.add_zero] at hc0
 have hxk:=hk x0 (by rw [<-hd0];exact List.getElem_mem _)
 obtain⟨x1,x2,x3⟩:=hxk
 have HX3:=zH x3
 obtain⟨s,hs⟩:∃ s,s=zz6 l:=⟨_,rfl⟩
 have HT:=zH (show zz9 sg l=if s=n/\3<=n/\n<=10 then some (repB (uOf sg x0) n) else none by unfold zz9;rw [<-hs,<-hlen,<-hx0])
 rw [<-hs] at HS
 have hn0:(0:Int)<(n:Int):=by omega
 have HC0:=zH hc0
 clear hs hx0 hd0 hc0 hcell hlen hpos h hk x3
 by_cases hsn:s=n
 · subst hsn
   by_cases hr:3<=s/\s<=10
   · have HP:=zH (jjo sg x0 x1 x2 HX3.out s hn)
     rw [if_pos hr] at HP
     rw [if_pos ⟨rfl,hr⟩] at HT
     clear hr
     go_enter Tryz.func245,Tryz.ntmps245
     go_wp2_with (first
      | (go_at_call 204;refine HS.out.mono ?_;rintro e w1 ⟨rfl,hb1⟩;have hc1:=zzt hb1 HC0.out;have HB1:=zH hb1;clear hb1)
      | (go_at_call 281;refine (HP.out _).mono ?_;rintro e w2 ⟨hb2,A3,n3,c3,rfl,ho3⟩;have HB2:=zH hb2;have HO3:=zH ho3;clear hb2 ho3)
      | fail)
     go_ret2
     exact⟨HB1.out.trans (HB2.out.mono HB1.out.size),by rw [HT.out];exact⟨A3,n3,c3,rfl,HO3.out.down HB1.out.size⟩⟩
   · have HP:=zH (jjo sg x0 x1 x2 HX3.out s hn)
     rw [if_neg hr] at HP
     rw [if_neg (fun h=>hr h.2)] at HT
     clear hr
     go_enter Tryz.func245,Tryz.ntmps245
     go_wp2_with (first
      | (go_at_call 204;refine HS.out.mono ?_;rintro e w1 ⟨rfl,hb1⟩;have hc1:=zzt hb1 HC0.out;have HB1:=zH hb1;clear hb1)
      | (go_at_call 281;refine (HP.out _).mono ?_;rintro e w2 ⟨hb2,rfl⟩;have HB2:=zH hb2;clear hb2)
      | fail)
     go_ret2
     exact⟨HB1.out.trans (HB2.out.mono HB1.out.size),by rw [HT.out];rfl⟩
 · have HN:=zH (show zz9 sg l=none by rw [HT.out,if_neg (fun h=>hsn h.1)])
   have hsI:¬ (s:Int)=(n:Int):=by omega
   clear hsn
   go_enter Tryz.func245,Tryz.ntmps245
   go_wp2_with (first
    | (go_at_call 204;refine HS.out.mono ?_;rintro e w1 ⟨rfl,hb1⟩;have hc1:=zzt hb1 HC0.out;have HB1:=zH hb1;clear hb1)
    | fail)
   go_ret2
   exact⟨HB1.out,by rw [HN.out];rfl⟩
end
end Go.Proofs.YtpmglcachffojaaGreatDoor
