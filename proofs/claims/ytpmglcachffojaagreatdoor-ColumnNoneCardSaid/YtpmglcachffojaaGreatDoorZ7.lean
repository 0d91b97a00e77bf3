/- A part of what None leans on. -/
import Derived.Test.YtpmglcachffojaaGreatDoorZ6
set_option maxRecDepth 100000
set_option maxHeartbeats 16000000
namespace Go.Proofs.YtpmglcachffojaaGreatDoor
section
open Go Go.RowKit
theorem qxF:(Tryz.prog.info? 112).map (fun i=>(i.zero,i.size,i.bytes))=some (some (.int .u64 0),1,8):=by kernel_rfl
theorem uuN:zzL Tryz.prog 264 112 1:=zzL.mk' (by kernel_rfl) qxF rfl (by decide) (by decide)
abbrev OwnU (w:World) (B:Nat) (A:Option Addr) (n c:Nat) (l:List Nat):Prop:=OwnF tU64 112 (fun _=>False) w B A n c l
theorem zzR {F:Nat->Prop} {w:World} {B n c:Nat} {A:Option Addr} {l:List Nat} (h:OwnF tU64 112 F w B A n c l):OwnU w B A n c l:=jjl jjm (h.row1 jjm).1 (h.row1 jjm).2
theorem xxr (w:World) (B:Nat):OwnU w B none 0 0 []:=⟨⟨[],World.ownsRow_nil _ _ _ _,Reps.nil_⟩,fun _ _ _ h=>h,rfl⟩
section
variable (w a0:World) {ops:Array Oper} {rest:List Oper} {o:Oper} {a:Act} {Q:Exit->Act->World->Prop}
theorem apu1 (hgd:o.guard=none) (s x:Operand) (ho:o.op=.call { callee:=.builtin .append,args:=#[s,x],argTypes:=#[264,264] }) (B:Nat) (A:Option Addr) (n c:Nat) (xs:List Nat) (hs:a.eval s=.slice A n c)
 (hown:OwnU w B A n c xs) (hb:Below B a0 w) (hB:B<=a0.heap.size) (obj:Obj) (hx:a.eval x=.slice (some ⟨w.heap.size,0,none⟩) 1 1) (y:Nat) (hy:U64 y) (hobj:obj=.cells #[.int .u64 (y:Int)] 112) (hlim:n<=34359738368)
 (h:∀ A' c' w',OwnU w' B A' (n+1) c' (xs++[y])->Below B a0 w'->wpList Tryz.prog ops Q rest (a.put o.dst (.slice A' (n+1) c')) w'):wpList Tryz.prog ops Q (o::rest) a (w.alloc obj) :=
 apl1 (T:=tU64) uuN w a0 hgd s x ho B A n c xs hs (fun _=>False) (fun _=>False) hown hb hB obj hx [.int .u64 (y:Int)] y ⟨rfl,hy⟩ 112 hobj (fun _ _ _ _ h=>h) hlim fun A' c' w' ha=>h A' c' w' (zzR ha.own) ha.below
end
theorem vvG (k c m:Nat) (hk:k<=3) (hc:c<=31) (hm:1<=m) (hm2:m<=512) (w:World) :
 Calls Tryz.prog 286 #[.int .i64 (k:Int),.int .i64 (c:Int),.int .i64 (m:Int)] w (Own1 w (zz5 k c m)):=by
 obtain⟨m,rfl⟩:∃ n,m=n+1:=⟨m - 1,by omega⟩
 obtain⟨x,hx⟩:∃ x,x=k*16384+c*512+m:=⟨_,rfl⟩
 have e1:=yyC (k*16384) (c*512) (by omega) (by omega)
 rw [nat_join 14 (k*16384) (c*512) (by omega) (by omega)] at e1
 have e2:=yyC (k*16384+c*512) m (by omega) (by omega)
 rw [nat_join 9 (k*16384+c*512) m (by omega) (by omega),<-hx] at e2
 have f1:bits .or .i64 ((k:Int)*16384) ((c:Int)*512)=((k*16384+c*512:Nat):Int):=by
  rw [show (k:Int)*16384=((k*16384:Nat):Int) by simp,show (c:Int)*512=((c*512:Nat):Int) by simp];exact e1
 have F:=zH (show bits .or .i64 (bits .or .i64 ((k:Int)*16384) ((c:Int)*512)) (m:Int)=(x:Int) by rw [f1];exact e2)
 obtain⟨y,hy⟩:∃ y:UInt8,y=UInt8.ofNat (x / 256):=⟨_,rfl⟩
 obtain⟨z,hz⟩:∃ z:UInt8,z=UInt8.ofNat x:=⟨_,rfl⟩
 have HY:=zH (show (x:Int) / 256 % 256=((y.toNat:Nat):Int) by rw [hy,UInt8.toNat_ofNat'];omega)
 have HZ:=zH (show (x:Int) % 256=((z.toNat:Nat):Int) by rw [hz,UInt8.toNat_ofNat'];omega)
 have HB:=zH (show zz5 k c (m+1)=[y,z] by rw [zz5,hy,hz,hx];congr 2 <;> (try congr 1) <;> (try congr 1) <;> omega)
 clear e1 e2 f1 hx hy hz
 go_enter Tryz.func286,Tryz.ntmps286
 go_wp2_with fail
 rw [F.out,HY.out,HZ.out]
 go_ret
 exact⟨_,2,2,rfl,by rw [HB.out];exact World.ownsRow_lit w #[.int .u8 ((y.toNat:Nat):Int),.int .u8 ((z.toNat:Nat):Int)] 2 zN (by simp [maxLen]) rfl,(zR).alloc zN _⟩
theorem jjS (F:Nat->Prop) (A:Option Addr) (n c:Nat) (l:List Int) (w:World) (h:Sl tI64 F w A n c l) (hn:n<=4294967296) (sg:Bool) (hl:zzV sg l) :
 Calls Tryz.prog 282 #[.slice A n c,.bool sg] w fun e w'=>∃ A' n' c',e=.returned (.tuple #[.slice A' n' c',.int .i64 0])/\OwnU w' w.heap.size A' n' c' (l.map (uOf sg))/\Below w.heap.size w w':=by
 have HH:=zH h;have HK:=zH hl;have HL:=zH h.len
 clear h hl
 go_enter Tryz.func282,Tryz.ntmps282
 go_wp2_with fail
 go_loopw [6,12] (fun av iv wr=>∃ (i:Nat) (A2:Option Addr) (c2:Nat),i<=n/\iv=.int .i64 (i:Int)/\av=.slice A2 i c2/\OwnU wr w.heap.size A2 i c2 ((l.take i).map (uOf sg))/\Below w.heap.size w wr)
  (fun _ iv _=>n - (intOf iv).toNat)
 case atStart=>exact⟨0,none,0,Nat.zero_le _,rfl,rfl,xxr _ _,zR⟩
 case round =>
  obtain⟨i,A2,c2,hi,rfl,rfl,ho,hb⟩:=hrel
  have HO:=zH ho;have HB:=zH hb
  clear ho hb
  by_cases hlt:i<n
  · have hil:i<l.length:=by rw [<-HL.out];exact hlt
    obtain⟨x,hx⟩:∃ x,x=l[i]:=⟨_,rfl⟩
    have hxk:=HK.out x (by rw [hx];exact List.getElem_mem _)
    have hsl:=HH.out.below HB.out zN
    obtain⟨b,o,u,rfl,_,hbl,hr,hc⟩:=hsl.at1 hil rfl
    rw [<-hx] at hr
    obtain⟨hr,_⟩:=hr
    injection hr with hr
    subst hr
    have HT:=zH (show (l.take (i+1)).map (uOf sg)=(l.take i).map (uOf sg)++[uOf sg x] by rw [zT hil,List.map_append,<-hx];rfl)
    obtain⟨v,hv⟩:∃ v,v=uOf sg x:=⟨_,rfl⟩
    have hvu:U64 v:=by rw [hv];exact jjg hxk.1 hxk.2.1
    obtain⟨x0,x1,xs⟩:=hxk
    have hi1:(0:Int)<=(i:Int):=by omega
    have hi2:(i:Int)<(n:Int):=by omega
    rw [<-hv] at HT
    have HVU:=zH hvu
    clear hx hsl hvu
    cases sg with
    | true =>
      have HZ:=zH (show zigN x=v by rw [hv];rfl)
      clear hv xs
      go_wp2_with (first
       | (go_at_call 179;refine (uuH x _ x0 x1).mono ?_;rintro e w1 ⟨rfl,rfl⟩;rw [HZ.out])
       | (at_builtin;refine apu1 wr w rfl (.tmp 23) (.tmp 25) rfl w.heap.size A2 i c2 _ rfl HO.out HB.out zN _ rfl v HVU.out rfl (by omega) ?_;intro A3 c3 w3 h3 hb3)
       | fail)
      go_roundw
      case rel=>exact⟨i+1,A3,c3,by omega,by go_num,rfl,by rw [HT.out];exact h3,hb3⟩
      case measure=>simp [intOf];omega
    | false =>
      have xge:0<=x:=xs.resolve_left (by decide)
      obtain⟨k,rfl⟩:=Int.eq_ofNat_of_zero_le xge
      have HZ:=zH (show k=v by rw [hv];unfold uOf;simp)
      have xn:¬ (k:Int)<0:=by omega
      obtain rfl:=HZ.out
      clear hv xs
      go_wp2_with (first
       | (at_builtin;refine apu1 wr w rfl (.tmp 23) (.tmp 25) rfl w.heap.size A2 i c2 _ rfl HO.out HB.out zN _ rfl k HVU.out rfl (by omega) ?_;intro A3 c3 w3 h3 hb3)
       | fail)
      go_roundw
      case rel=>exact⟨i+1,A3,c3,by omega,by go_num,rfl,by rw [HT.out];exact h3,hb3⟩
      case measure=>simp [intOf];omega
  · obtain rfl:n=i:=by omega
    have HT:=zH (show l.take n=l by rw [zL (by rw [<-HL.out];exact Nat.le_refl _)])
    go_wp2_with fail
    go_ret2
    exact⟨A2,n,c2,rfl,by have:=HO.out;rwa [HT.out] at this,HB.out⟩
theorem xxM (k c m:Nat):(zz5 k c m).length=2:=rfl
theorem qxG {l:List Nat} (h:∀ x∈l,U64 x) {x:Nat} (hx:x∈l):x<2 ^ zzm (most l):=by
 have h1:=xx6 (h x hx)
 have h2:=xxp hx
 have h3:=yyY (yyt l h)
 exact Nat.lt_of_lt_of_le h1 (Nat.pow_le_pow_right (by decide) (by omega))
theorem zql (F:Nat->Prop) (A:Option Addr) (n c:Nat) (l:List Int) (w:World) (h:Sl tI64 F w A n c l) (hn1:1<=n) (hn:n<=512) (sg:Bool) (hl:zzV sg l) :
 Calls Tryz.prog 246 #[.slice A n c,.bool sg] w (zzw (some (dirB sg l)) w):=by
 have HH:=zH h
 have HK:=zH hl
 have hln:=h.len
 obtain⟨us,hus⟩:∃ us,us=l.map (uOf sg):=⟨_,rfl⟩
 have hu:∀ u∈us,U64 u:=by rw [hus];exact hl.u
 have hlu:us.length=n:=by rw [hus,List.length_map];exact hln.symm
 obtain⟨k,hk⟩:∃ k,k=most us:=⟨_,rfl⟩
 have hk64:k<=64:=by rw [hk];exact yyt us hu
 obtain⟨q,hq⟩:∃ q,q=zzm k:=⟨_,rfl⟩
 have hq64:q<=64:=by rw [hq];exact yyu k
 have hx:∀ x∈us,x<2 ^ q:=fun x hx=>by rw [hq,hk];exact qxG hu hx
 obtain⟨hc1,hc2⟩:=vvB hk64
 rw [<-hq] at hc1 hc2
 obtain⟨d,hd⟩:∃ d,d=zzQ q:=⟨_,rfl⟩
 rw [<-hd] at hc1 hc2
 have HB:=zH (show dirB sg l=zz5 1 d n++pack q us by rw [dirB,<-hus,<-hk,<-hq,<-hd,<-hln])
 have HX:=zH hx;have HQ:=zH hq;have HKK:=zH hk;have HC:=zH hc1;have HUS:=zH hus;have HLU:=zH hlu
 clear h hl hu hx hq hk hc1 hus hd hln hlu
 go_enter Tryz.func246,Tryz.ntmps246
 go_upto_region 4 with (first
  | (go_at_call 282;refine (jjS F A n c l _ HH.out (by omega) sg HK.out).mono ?_;rintro e w1 ⟨A1,n1,c1,rfl,ho1,hb1⟩;have HO1:=zH ho1;have HB1:=zH hb1;rw [<-HUS.out] at HO1;clear ho1 hb1)
  | fail)
 have HS1:=zH HO1.out.sl
 obtain rfl:n1=n:=by rw [HO1.out.len,HLU.out]
 go_wp2_with (first
  | (go_at_call 284;refine (vv4 _ A1 n1 c1 us _ HS1.out).mono ?_;rintro e w2 ⟨rfl,rfl⟩;rw [<-HKK.out])
  | (go_at_call 283;refine (yyB k hk64 _).mono ?_;rintro e w2 ⟨rfl,hb2⟩;rw [<-HQ.out];have HB2:=zH hb2;clear hb2;have HS2:=zH (HS1.out.below HB2.out zN))
  | (go_at_call 285;refine (xxq _ A1 n1 c1 us _ HS2.out (by omega) q hq64 HX.out).mono ?_;rintro e w3 ⟨A3,s3,c3,rfl,ho3,hb3⟩;have HO3:=zH ho3;have HB3:=zH hb3;clear ho3 hb3)
  | (go_at_call 287;refine (zzN (q:Int) _).mono ?_;rintro e w4 ⟨rfl,hb4⟩;rw [HC.out];have HB4:=zH hb4;clear hb4)
  | (go_at_call 286;refine (vvG 1 d n1 (by omega) hc2 hn1 hn _).mono ?_;rintro e w5 ⟨A5,n5,c5,rfl,ho5,hb5⟩;have HO5:=zH ho5;have HB5:=zH hb5;clear ho5 hb5
     have HSS:=zH (sl2 HO5.out.bs ((HO3.out.bs.below HB4.out zN).below HB5.out zN) 41)
     have HN:=zH (show [zz5 1 d n1,pack q us].flatten.length<=4294967296 by have:=zz0 n1 q hq64;simp [xxM,xxl,HLU.out];omega))
  | (go_at_call 224;refine (yyk (T:=tU8) zzF (fun _=>True) _ _ _ [zz5 1 d n1,pack q us] _ HSS.out (by omega) HN.out).mono ?_;rintro e w6 ⟨A6,n6,c6,rfl,ho6,hb6⟩;have HO6:=zH ho6;have HB6:=zH hb6;clear ho6 hb6)
  | fail)
 go_ret2
 have b2:=HB1.out.trans (HB2.out.mono HB1.out.size)
 have b3:=b2.trans (HB3.out.mono b2.size)
 have b4:=b3.trans (HB4.out.mono b3.size)
 have b5:=b4.trans (HB5.out.mono b4.size)
 have b6:=b5.alloc b5.size (.cells #[.slice A5 n5 c5,.slice A3 s3 c3] 41)
 have hc6:=b6.size
 refine⟨b6.trans (HB6.out.mono hc6),A6,n6,c6,rfl,?_⟩
 have:=zz7 (HO6.out.down hc6)
 rw [HB.out]
 simpa using this
end
section
open Go Go.RowKit
theorem kq1 (F:Nat->Prop) (A:Option Addr) (n c:Nat) (bs:List UInt8) (x:Int) (sg:Bool) (w:World) (h:Bs F w A n c bs) (hn:n<=4294967200) (h0 : -9223372036854775808<=x) (h1:x<=9223372036854775807) (hs:sg=true∨0<=x) :
 Calls Tryz.prog 289 #[.slice A n c,.int .i64 x,.bool sg] w (Own1 w (bs++vput (uOf sg x))):=by
 have HH:=zH h
 have hu:=jjg (sg:=sg) h0 h1
 have HU:=zH hu
 clear h hu
 cases sg with
 | true =>
   have HZ:=zH (show zigN x=uOf true x from rfl)
   obtain⟨v,hv⟩:∃ v,v=uOf true x:=⟨_,rfl⟩
   rw [<-hv] at HZ HU ⊢
   clear hv hs
   go_enter Tryz.func289,Tryz.ntmps289
   go_wp2_with (first
    | (go_at_call 179;refine (uuH x _ h0 h1).mono ?_;rintro e w1 ⟨rfl,rfl⟩;rw [HZ.out])
    | (go_at_call 180;refine (jjf F A n c bs v _ HH.out hn HU.out).mono ?_;rintro e w1 ⟨A1,n1,c1,rfl,ho1,hb1⟩;have HO1:=zH ho1;have HB1:=zH hb1;clear ho1 hb1)
    | fail)
   go_ret
   exact⟨A1,n1,c1,rfl,HO1.out,HB1.out⟩
 | false =>
   have hx:0<=x:=hs.resolve_left (by decide)
   obtain⟨k,rfl⟩:=Int.eq_ofNat_of_zero_le hx
   have hk:uOf false (k:Int)=k:=by unfold uOf;simp
   rw [hk] at HU ⊢
   clear hk hs
   go_enter Tryz.func289,Tryz.ntmps289
   go_wp2_with (first
    | (go_at_call 180;refine (jjf F A n c bs k _ HH.out hn HU.out).mono ?_;rintro e w1 ⟨A1,n1,c1,rfl,ho1,hb1⟩;have HO1:=zH ho1;have HB1:=zH hb1;clear ho1 hb1)
    | fail)
   go_ret
   exact⟨A1,n1,c1,rfl,HO1.out,HB1.out⟩
def yyP (a b:Int):Array Value:=if gapN a b<9223372036854775808 then #[.int .u64 ((gapN a b:Nat):Int),.bool (decide (b<a)),.bool true] else #[.int .u64 0,.bool false,.bool false]
theorem yyD (a b:Int) (a0 : -9223372036854775808<=a) (a1:a<=9223372036854775807) (b0 : -9223372036854775808<=b) (b1:b<=9223372036854775807) (w:World) :
 Calls Tryz.prog 320 #[.int .i64 a,.int .i64 b] w fun e w'=>e=.returned (.tuple (yyP a b))/\Below w.heap.size w w':=by
 obtain⟨g,hg⟩:∃ g:Int,g=(gapN a b:Nat):=⟨_,rfl⟩
 have hgn:g=if b<a then a - b else b - a:=by rw [hg];unfold gapN;split <;> omega
 have HV:Hid (yyP a b=if g<9223372036854775808 then #[.int .u64 g,.bool (decide (b<a)),.bool true] else #[.int .u64 0,.bool false,.bool false]):=zH (by
  unfold yyP;rw [hg]
  by_cases h:gapN a b<9223372036854775808
  · rw [if_pos h,if_pos (by omega)]
  · rw [if_neg h,if_neg (by omega)])
 obtain⟨p,hp⟩:∃ p,p=IntKind.u64.wrap b:=⟨_,rfl⟩
 obtain⟨q,hq⟩:∃ q,q=IntKind.u64.wrap a:=⟨_,rfl⟩
 obtain⟨d,hd⟩:∃ d,d=IntKind.u64.wrap (p - q):=⟨_,rfl⟩
 have HP:=zH hp;have HQ:=zH hq;have HD:=zH hd
 rw [IntKind.wrap_u64] at hp hq hd
 have hd0:0<=d:=by omega
 have hd1:d<18446744073709551616:=by omega
 by_cases hba:b<a
 · rw [if_pos hba] at hgn
   have F1:=zH (show IntKind.u64.wrap (-d)=g by rw [IntKind.wrap_u64];omega)
   have d1:decide (b<a)=true:=decide_eq_true hba
   rw [d1] at HV
   have hg0:0<=g:=by omega
   clear hg hgn hp hq hd
   by_cases hz:g<9223372036854775808
   · rw [if_pos hz] at HV
     go_enter Tryz.func320,Tryz.ntmps320
     go_upto_region 2 with fail
     rw [<-HP.out,<-HQ.out,<-HD.out]
     go_upto_region 4 with fail
     rw [F1.out]
     go_upto_region 6 with fail
     go_region
     go_wp2_with fail
     go_ret3
     exact⟨by rw [HV.out];rfl,((zR).alloc zN _).drew⟩
   · rw [if_neg hz] at HV
     have hz2:(9223372036854775808:Int)<=g:=by omega
     go_enter Tryz.func320,Tryz.ntmps320
     go_upto_region 2 with fail
     rw [<-HP.out,<-HQ.out,<-HD.out]
     go_upto_region 4 with fail
     rw [F1.out]
     go_wp2_with fail
     go_ret3
     exact⟨by rw [HV.out];rfl,(zR).alloc zN _⟩
 · rw [if_neg hba] at hgn
   obtain rfl:d=g:=by omega
   have d1:decide (b<a)=false:=decide_eq_false hba
   rw [d1] at HV
   clear hg hgn hp hq hd
   by_cases hz:d<9223372036854775808
   · rw [if_pos hz] at HV
     go_enter Tryz.func320,Tryz.ntmps320
     go_upto_region 2 with fail
     rw [<-HP.out,<-HQ.out,<-HD.out]
     go_upto_region 6 with fail
     go_region
     go_wp2_with fail
     go_ret3
     exact⟨by rw [HV.out];rfl,((zR).alloc zN _).drew⟩
   · rw [if_neg hz] at HV
     have hz2:(9223372036854775808:Int)<=d:=by omega
     go_enter Tryz.func320,Tryz.ntmps320
     go_upto_region 2 with fail
     rw [<-HP.out,<-HQ.out,<-HD.out]
     go_wp2_with fail
     go_ret3
     exact⟨by rw [HV.out];rfl,(zR).alloc zN _⟩
end
section
open Go Go.RowKit
theorem jjT (g:Nat) (hg:g<9223372036854775808) (f:Bool) (w:World) :
 Calls Tryz.prog 290 #[.agg #[.int .u64 (g:Int),.bool f]] w fun e w'=>e=.returned (.int .i64 (if f then -(g:Int) else (g:Int)))/\Below w.heap.size w w':=by
 obtain⟨G,hG⟩:∃ G:Int,G=g:=⟨_,rfl⟩
 have h0:0<=G:=by omega
 have h1:G<=9223372036854775807:=by omega
 rw [<-hG]
 clear hG hg
 cases f with
 | true =>
   go_enter Tryz.func290,Tryz.ntmps290
   go_wp2_with fail
   go_ret
   exact⟨rfl,(zR).alloc zN _⟩
 | false =>
   go_enter Tryz.func290,Tryz.ntmps290
   go_wp2_with fail
   go_ret
   exact⟨rfl,(zR).alloc zN _⟩
theorem zzO {P:Program} {fn:Func} {p a b c:Tmp} {ty:TypeId} (h:fn.results=#[.cell p ty,.tmp a,.tmp b,.tmp c]) (tmps:Array Value) (w:World) (g:Nat) (t:TypeId) (cs:Array Value) (fr:Nat×Nat) (d:TypeDesc)
 (hp:tmps.getD p undef=.pointer (some ⟨g,0,none⟩)) (hg:w.heap[g]?=some (.cells cs t fr))
 (hu:P.underlying ty=some d) (hd:(match d with | .struct _ | .array _ _=>true | _=>false)=true) (hi:(P.info? ty).map (·.size)=some cs.size) :
 (results fn tmps).run P w=.ok (.tuple #[.agg cs,tmps.getD a undef,tmps.getD b undef,tmps.getD c undef]) w:=by
 have hp':tmps[p]?.getD undef=.pointer (some ⟨g,0,none⟩):=by simpa using hp
 simp [results,h,hp',asAddr,run_loadVar_row w g t ty cs fr d hg hu hd hi]
structure DfR (w0:World) (fb:Nat) (cs:Array Value) (A:Option Addr) (n c:Nat) (S:List Nat) (w:World):Prop where
 first:w.heap[fb]?=some (.cells cs 322 (0,0))
 row:OwnU w (fb+1) A n c S
 below:Below fb w0 w
theorem DfR.keep {w0:World} {fb:Nat} {cs:Array Value} {A:Option Addr} {n c:Nat} {S:List Nat} {w w':World} (h:DfR w0 fb cs A n c S w) (hb:Below w.heap.size w w'):DfR w0 fb cs A n c S w' :=
 ⟨(hb.block fb (zzc h.first)).trans h.first,zzR (h.row.keepB hb),h.below.trans (hb.mono (Nat.le_of_lt (zzc h.first)))⟩
theorem yyg (f:Bool):∀ l:List Int,zz1 f l=true↔∀ j (h:j+1<l.length),gapN l[j] l[j+1]<9223372036854775808/\(l[j]=l[j+1]∨decide (l[j+1]<l[j])=f)
 | []=>by simp [zz1]
 | [_]=>by simp [zz1]
 | a::b::r=>by
   rw [zz1,Bool.and_eq_true,Bool.and_eq_true,yyg f (b::r),decide_eq_true_eq,Bool.or_eq_true,decide_eq_true_eq,beq_iff_eq]
   constructor
   · rintro ⟨h1,h2⟩ j hj
     cases j with
     | zero=>exact h1
     | succ j=>exact h2 j (by simpa using hj)
   · intro h
     exact⟨h 0 (by simp),fun j hj=>h (j+1) (by simpa using hj)⟩
theorem yyE:∀ (l:List Int) (j:Nat) (h:j+1<l.length),(zzi l)[j]'(by rw [zzW];omega)=gapN l[j] l[j+1]
 | [],_,h=>absurd h (by simp)
 | [_],_,h=>absurd h (by simp)
 | a::b::r,0,_=>rfl
 | a::b::r,j+1,h=>yyE (b::r) j (by simpa using h)
theorem DfR.set {w0:World} {fb:Nat} {cs cs':Array Value} {A:Option Addr} {n c:Nat} {S:List Nat} {w w':World} (h:DfR w0 fb cs A n c S w) (h1:w'.heap[fb]?=some (.cells cs' 322 (0,0))) (h2:∀ b,b≠fb->w'.heap[b]?=w.heap[b]?) (h3:w.heap.size=w'.heap.size) (h5:Below fb w0 w'):DfR w0 fb cs' A n c S w' :=
 ⟨h1,zzR (h.row.keep (Nat.le_of_eq h3) fun b hb _=>h2 b (by rcases hb with hb | ⟨_,hb⟩;exact hb.elim;omega)),h5⟩
theorem DfR.setTo {w0:World} {fb:Nat} {cs:Array Value} {A:Option Addr} {n c:Nat} {S:List Nat} {w:World} (h:DfR w0 fb cs A n c S w) (u v:Value) (hs:cs.size=2) :
 DfR w0 fb #[u,v] A n c S ((w.setCell ⟨fb,0,none⟩ u).setCell ⟨fb,1,none⟩ v):=by
 have h1:(cs.setIfInBounds 0 u).setIfInBounds 1 v=#[u,v]:=by
  obtain⟨l⟩:=cs
  match l,hs with
  | [_,_],_=>rfl
 refine h.set ?_ (fun b hb=>?_) (by simp [World.setCell]) (zzn (zzn h.below zN _) zN _)
 · exact zza (zza h.first rfl) h1
 · exact (Below.heap_setCell _ ⟨fb,1,none⟩ v b hb).trans (Below.heap_setCell _ ⟨fb,0,none⟩ u b hb)
def dfOk (f:Bool) (l:List Int) (i:Nat):Prop:=∀ j (h:j+1<l.length),j<i->gapN l[j] l[j+1]<9223372036854775808/\(l[j]=l[j+1]∨decide (l[j+1]<l[j])=f)
def dfCs (g:Nat) (f:Bool) (i:Nat):Array Value:=if i=0 then #[.int .u64 0,.bool false] else #[.int .u64 (g:Int),.bool f]
theorem kq2 (g:Nat) (f:Bool) (i:Nat):(dfCs g f i).size=2:=by unfold dfCs;split <;> rfl
theorem vvh (g:Nat) (f:Bool) (i:Nat):∃ u v,dfCs g f i=#[.int .u64 u,.bool v]:=by unfold dfCs;split <;> exact⟨_,_,rfl⟩
theorem kq3 (l:List Int) (h:2<=l.length):(zzi l).headD 0=gapN (l[0]'(by omega)) (l[1]'(by omega))/\zz8 l=decide ((l[1]'(by omega))<l[0]'(by omega)):=by
 match l,h with
 | _::_::_,_=>exact⟨rfl,rfl⟩
def kq4 (l:List Int) (w:World) (e:Ending) (w':World):Prop:=Below w.heap.size w w' /\
 if zz1 (zz8 l) l then ∃ A n c,e=.returned (.tuple #[.agg #[.int .u64 (((zzi l).headD 0:Nat):Int),.bool (zz8 l)],.slice A n c,.bool (jjP (zzi l)),.bool true])/\Sl tU64 (fun _=>True) w' A n c (zzi l).tail
 else e=.returned (.tuple #[.agg #[.int .u64 0,.bool false],.slice none 0 0,.bool false,.bool false])
theorem vv5 (F:Nat->Prop) (A:Option Addr) (n c:Nat) (l:List Int) (w:World) (h:Sl tI64 F w A n c l) (hn1:2<=n) (hn:n<=512) :
 Calls Tryz.prog 288 #[.slice A n c] w (kq4 l w):=by
 have HL:=zH h.len
 have hc2:=h.2.1
 have hc3:=h.2.2.1
 unfold maxLen at hc3
 obtain⟨b,o,_,rfl,_,hblt,_,_⟩:=h.at1 (k:=0) (by have:=HL.out;omega) rfl
 have HCELL:Hid (∀ i (hi:i<l.length),w.cell? ⟨b,o+i,none⟩=some (.int .i64 l[i]) /\ -9223372036854775808<=l[i]/\l[i]<=9223372036854775807):=zH fun i hi=>by
  obtain⟨b',o',u,he,_,_,hr,hc⟩:=h.at1 hi rfl
  injection he with he;injection he with e1 e2 _
  subst e1;subst e2
  obtain⟨hr,h1,h2⟩:=hr
  injection hr with hr
  subst hr
  exact⟨hc,h1,h2⟩
 have HBL:=zH hblt
 clear h hblt
 obtain⟨fb,hfb⟩:∃ fb,fb=w.heap.size:=⟨_,rfl⟩
 obtain⟨g0,hg0⟩:∃ g0,g0=(zzi l).headD 0:=⟨_,rfl⟩
 obtain⟨f0,hf0⟩:∃ f0,f0=zz8 l:=⟨_,rfl⟩
 have HG0:=zH hg0;have HF0:=zH hf0;have HFB:=zH hfb
 have hb0:Below w.heap.size w (w.alloc (.cells #[.int .u64 0,.bool false] 322)):=(zR).alloc zN _
 have HDF:=zH (show DfR w fb (dfCs g0 f0 0) none 0 0 [] (w.alloc (.cells #[.int .u64 0,.bool false] 322)) from ⟨by rw [hfb];exact heap_alloc_new w _,xxr _ _,by rw [hfb];exact hb0⟩)
 clear hb0
 go_enter Tryz.func288,Tryz.ntmps288
 go_wp2_with fail
 rw [<-hfb]
 clear hg0 hf0 hfb
 go_loopw [3,4,15] (fun sv mv iv wr=>∃ (i:Nat) (A2:Option Addr) (c2:Nat) (m:Bool),i<=n - 1/\iv=.int .i64 (i:Int)/\sv=.slice A2 i c2/\mv=.bool m/\m=((zzi l).take i).all (·==g0)/\DfR w fb (dfCs g0 f0 i) A2 i c2 ((zzi l).take i) wr/\dfOk f0 l i)
  (fun _ _ iv _=>n - (intOf iv).toNat)
 case atStart=>exact⟨0,none,0,true,Nat.zero_le _,rfl,rfl,rfl,rfl,HDF.out,fun j _ h=>absurd h (Nat.not_lt_zero j)⟩
 case round =>
  obtain⟨i,A2,c2,m,hi,rfl,rfl,rfl,hm,hd,hok⟩:=hrel
  have HM:=zH hm;have HD:=zH hd;have HOK:=zH hok
  clear hm hd hok
  by_cases hlt:i<n - 1
  · have hil:i+1<l.length:=by rw [<-HL.out];omega
    obtain⟨a,ha⟩:∃ a,a=l[i]:=⟨_,rfl⟩
    obtain⟨x,hx⟩:∃ x,x=l[i+1]:=⟨_,rfl⟩
    have hca:=HCELL.out i (by omega)
    have hcx:=HCELL.out (i+1) hil
    rw [<-ha] at hca
    rw [<-hx] at hcx
    obtain⟨ca,a1,a2⟩:=hca
    obtain⟨cx,x1,x2⟩:=hcx
    have hbw:Below w.heap.size w wr:=by rw [<-HFB.out];exact HD.out.below
    have ca':=zzt hbw ca
    have cx':=zzt hbw cx
    rw [show o+(i+1)=o+1+i by omega] at cx'
    clear ca cx hbw
    have i0:(0:Int)<=(i:Int):=by omega
    have i1:(i:Int)<(n:Int) - 1:=by omega
    have i2:(i:Int)<(n:Int):=by omega
    have i3:(i:Int)<((n - 1:Nat):Int):=by omega
    obtain⟨g,hg⟩:∃ g,g=gapN a x:=⟨_,rfl⟩
    have HA:=zH ha;have HX:=zH hx;have HG:=zH hg
    clear ha hx
    by_cases hz:g<9223372036854775808
    · have HV:=zH (show yyP a x=#[.int .u64 (g:Int),.bool (decide (x<a)),.bool true] by unfold yyP;rw [<-hg,if_pos hz])
      clear hg
      obtain⟨fx,hfx⟩:∃ fx,fx=decide (x<a):=⟨_,rfl⟩
      rw [<-hfx] at HV
      have HFX:=zH hfx
      clear hfx
      go_upto_region 7 with (first
       | (go_at_call 320;refine (yyD a x a1 a2 x1 x2 _).mono ?_;rintro e w1 ⟨rfl,hb1⟩;rw [HV.out];have HD1:=zH (HD.out.keep hb1);clear hb1)
       | fail)
      obtain⟨w2,hw2⟩:∃ w2,w2=w1.alloc (.cells #[.int .u64 (g:Int),.bool fx] 322):=⟨_,rfl⟩
      have hd2:DfR w fb (dfCs g0 f0 i) A2 i c2 ((zzi l).take i) w2:=by rw [hw2];exact HD1.out.keep ((zR).alloc zN _)
      obtain⟨d2,hdd⟩:∃ d2,d2=w1.heap.size:=⟨_,rfl⟩
      have hne:d2≠fb:=by have:=zzc HD1.out.first;omega
      have hdh:w2.heap[d2]?=some (.cells #[.int .u64 (g:Int),.bool fx] 322 (0,0)):=by rw [hw2,hdd];exact heap_alloc_new _ _
      rw [<-hw2,<-hdd]
      have HD2:=zH hd2;have HDH:=zH hdh;have HNE:=zH hne
      clear hw2 hdd hd2 hne HD1 ca' cx'
      have c0:w2.cell? ⟨d2,0,none⟩=some (.int .u64 (g:Int)):=by rw [zC hdh];rfl
      have c1:w2.cell? ⟨d2,1,none⟩=some (.bool fx):=by rw [zC hdh];rfl
      clear hdh
      go_upto_if 34 with fail
      go_cut [] from 35 to 35 (fun wx=>∃ wd,wd=wx/\DfR w fb #[.int .u64 (g0:Int),.bool f0] A2 i c2 ((zzi l).take i) wd/\wd.heap[d2]?=some (.cells #[.int .u64 (g:Int),.bool fx] 322 (0,0)))
      case first =>
       by_cases hi0:i=0
       · obtain⟨u,v,huv⟩:=vvh g0 f0 i
         have hf:=HD2.out.first
         rw [huv] at hf
         have k0:w2.cell? ⟨fb,0,none⟩=some (.int .u64 u):=by rw [zC hf];rfl
         have k1:w2.cell? ⟨fb,1,none⟩=some (.bool v):=by rw [zC hf];rfl
         have k2:=zF hf 0
         have k3:=zF hf 1
         have hI:(i:Int)=0:=by omega
         have hI2:((i:Int)==0)=true:=xxJ hI
         clear hf huv
         have HH2:=zH (kq3 l (by omega))
         have hgx:g=g0/\fx=f0:=by
          have ea:=HA.out;have ex:=HX.out
          subst hi0
          exact⟨by rw [HG.out,HG0.out,HH2.out.1,ea,ex],by rw [HFX.out,HF0.out,HH2.out.2,ea,ex]⟩
         have HGG:=zH hgx.1;have HFF:=zH hgx.2
         clear hgx HH2 hi0
         go_wp2_with fail
         go_meet
         refine⟨_,rfl,?_,?_⟩
         · have:=HD2.out.setTo (.int .u64 (g:Int)) (.bool fx) (kq2 _ _ _)
           rw [HGG.out,HFF.out] at this ⊢
           exact this
         · exact (Below.heap_setCell _ ⟨fb,1,none⟩ _ d2 HNE.out).trans ((Below.heap_setCell _ ⟨fb,0,none⟩ _ d2 HNE.out).trans HDH.out)
       · have hI:¬ (i:Int)=0:=by omega
         have hI2:((i:Int)==0)=false:=zzA hI
         go_wp2_with fail
         go_meet
         refine⟨_,rfl,?_,HDH.out⟩
         have:=HD2.out
         rwa [dfCs,if_neg hi0] at this
      case rest =>
       obtain⟨wx,rfl,hd3,hdh3⟩:=hcut
       have HD3:=zH hd3;have HDH3:=zH hdh3
       have hf:=hd3.first
       have k0:wx.cell? ⟨fb,0,none⟩=some (.int .u64 (g0:Int)):=by rw [zC hf];rfl
       have k1:wx.cell? ⟨fb,1,none⟩=some (.bool f0):=by rw [zC hf];rfl
       have k2:=zF hf 0
       have k3:=zF hf 1
       have c0':wx.cell? ⟨d2,0,none⟩=some (.int .u64 (g:Int)):=by rw [zC hdh3];rfl
       have c1':wx.cell? ⟨d2,1,none⟩=some (.bool fx):=by rw [zC hdh3];rfl
       clear hf hd3 hdh3 c0 c1
       refine ‹∀ (a:Act) (w_1:World),Code.wp _ _ _ a w_1->_› _ _ ?_
       by_cases hdir:g=0∨fx=f0
       · go_upto_region 9 with fail
         go_cut [47] from 36 to 46 (fun v wy=>v=.bool false/\wy=wx)
         case first =>
          by_cases gz:g=0
          · have gz':(g:Int)=0:=by omega
            clear gz hdir
            go_wp2_with fail
            go_meet
            exact⟨rfl,rfl⟩
          · have gp:(0:Int)<(g:Int):=by omega
            obtain rfl:fx=f0:=hdir.resolve_left gz
            clear gz hdir
            cases fx with
            | true =>
              go_wp2_with fail
              go_meet
              exact⟨rfl,rfl⟩
            | false =>
              go_wp2_with fail
              go_meet
              exact⟨rfl,rfl⟩
         case rest =>
          obtain⟨rfl,hwc⟩:=hcut
          rw [hwc]
          clear hwc
          refine ‹∀ (a:Act) (w_1:World),Code.wp _ _ _ a w_1->_› _ _ ?_
          go_upto_region 11 with fail
          go_cut [4] from 49 to 63 (fun v wy=>v=.bool (m&&decide (g=g0))/\wy=wx)
          case first =>
           cases m with
           | false =>
             go_wp2_with fail
             go_meet
             exact⟨rfl,rfl⟩
           | true =>
             by_cases hgg:g=g0
             · have hb1:((g:Int)==(g0:Int))=true:=xxJ (by omega)
               by_cases hff:fx=f0
               · have hb2:(fx==f0)=true:=by rw [hff];exact beq_self_eq_true f0
                 have hd3:decide (g=g0)=true:=decide_eq_true hgg
                 clear hff hgg hdir
                 go_wp2_with fail
                 go_meet
                 refine⟨?_,rfl⟩
                 rw [hd3];rfl
               · have hg00:g=0:=hdir.resolve_right hff
                 have hb2:(fx==f0)=false:=by simpa using hff
                 have hb3:(g:Int)=0:=by omega
                 have hb4:(g0:Int)=0:=by omega
                 have hd3:decide (g=g0)=true:=decide_eq_true hgg
                 clear hff hgg hdir hg00 hb1
                 go_wp2_with fail
                 go_meet
                 refine⟨?_,rfl⟩
                 rw [hd3];rfl
             · have hb1:((g:Int)==(g0:Int))=false:=zzA (by omega)
               have hd3:decide (g=g0)=false:=decide_eq_false hgg
               by_cases hgz:g=0
               · have hb3:((g:Int)==0)=true:=xxJ (by omega)
                 have hb4:((g0:Int)==0)=false:=zzA (by omega)
                 clear hgg hdir hgz
                 go_wp2_with fail
                 go_meet
                 refine⟨?_,rfl⟩
                 rw [hd3];rfl
               · have hb3:((g:Int)==0)=false:=zzA (by omega)
                 clear hgg hdir hgz
                 go_wp2_with fail
                 go_meet
                 refine⟨?_,rfl⟩
                 rw [hd3];rfl
          case rest =>
           obtain⟨rfl,hwc⟩:=hcut
           rw [hwc]
           clear hwc
           refine ‹∀ (a:Act) (w_1:World),Code.wp _ _ _ a w_1->_› _ _ ?_
           have hts:(zzi l).take (i+1)=(zzi l).take i++[g]:=by
            have hsl:i<(zzi l).length:=by rw [zzW];omega
            rw [zT hsl,yyE l i hil,HG.out,HA.out,HX.out]
           have HTS:=zH hts
           have hok2:dfOk f0 l (i+1):=fun j hj hji=>by
            by_cases h:j<i
            · exact HOK.out j hj h
            · obtain rfl:j=i:=by omega
              rw [<-HA.out,<-HX.out,<-HG.out,<-HFX.out]
              refine⟨hz,hdir.imp (fun h=>?_) id⟩
              have:=HG.out
              unfold gapN at this
              omega
           have HOK2:=zH hok2
           have hu:U64 g:=Nat.lt_trans hz (by decide)
           have HU:=zH hu
           have hB1:fb+1<=wx.heap.size:=zzc HD3.out.first
           clear hts hok2 hu hdir
           go_wp2_with (first
            | (at_builtin;refine apu1 wx wx rfl (.tmp 64) (.tmp 66) rfl (fb+1) A2 i c2 _ rfl HD3.out.row (zR) hB1 _ rfl g HU.out rfl (by omega) ?_;intro A3 c3 w3 h3 hb3)
            | fail)
           go_roundw
           case rel =>
            refine⟨i+1,A3,c3,m&&decide (g=g0),by omega,by go_num,rfl,rfl,?_,?_,HOK2.out⟩
            · rw [HTS.out,HM.out,List.all_append];simp;rfl
            · rw [HTS.out,dfCs,if_neg (by omega)]
              exact⟨(hb3.block fb (by omega)).trans HD3.out.first,h3,HD3.out.below.trans (hb3.mono (by omega))⟩
           case measure=>simp [intOf];omega
       · have hbad:zz1 (zz8 l) l=false:=by
          refine Bool.eq_false_iff.2 fun h=>?_
          have:=((yyg _ l).1 h i hil).2
          rw [<-HA.out,<-HX.out,<-HFX.out,<-HF0.out] at this
          refine hdir (this.imp (fun h=>?_) id)
          rw [HG.out];unfold gapN;omega
         have HBAD:=zH hbad
         have gp:(0:Int)<(g:Int):=by omega
         obtain⟨hg1,hf1⟩:=not_or.1 hdir
         clear hbad hdir hg1
         cases fx with
         | true =>
           obtain rfl:f0=false:=by simpa using hf1
           clear hf1
           go_wp2_with fail
           refine bodyPost_ret (zzO rfl _ _ fb 322 #[.int .u64 0,.bool false] (0,0) _ rfl (HD3.out.setTo (.int .u64 0) (.bool false) rfl).first Tryz.underlying322 rfl (by kernel_rfl)) rfl ?_
           exact⟨by rw [<-HFB.out];exact (HD3.out.setTo (.int .u64 0) (.bool false) rfl).below,by rw [HBAD.out];exact rfl⟩
         | false =>
           obtain rfl:f0=true:=by simpa using hf1
           clear hf1
           go_wp2_with fail
           refine bodyPost_ret (zzO rfl _ _ fb 322 #[.int .u64 0,.bool false] (0,0) _ rfl (HD3.out.setTo (.int .u64 0) (.bool false) rfl).first Tryz.underlying322 rfl (by kernel_rfl)) rfl ?_
           exact⟨by rw [<-HFB.out];exact (HD3.out.setTo (.int .u64 0) (.bool false) rfl).below,by rw [HBAD.out];exact rfl⟩
    · have HV:=zH (show yyP a x=#[.int .u64 0,.bool false,.bool false] by unfold yyP;rw [<-hg,if_neg hz])
      have hbad:zz1 (zz8 l) l=false:=by
       refine Bool.eq_false_iff.2 fun h=>hz ?_
       have:=((yyg _ l).1 h i hil).1
       rwa [<-HA.out,<-HX.out,<-hg] at this
      have HBAD:=zH hbad
      clear hg hz hbad
      go_upto_region 7 with (first
       | (go_at_call 320;refine (yyD a x a1 a2 x1 x2 _).mono ?_;rintro e w1 ⟨rfl,hb1⟩;rw [HV.out];have HD1:=zH (HD.out.keep hb1);clear hb1)
       | fail)
      obtain⟨w2,hw2⟩:∃ w2,w2=w1.alloc (.cells #[.int .u64 0,.bool false] 322):=⟨_,rfl⟩
      have hd2:DfR w fb (dfCs g0 f0 i) A2 i c2 ((zzi l).take i) w2:=by rw [hw2];exact HD1.out.keep ((zR).alloc zN _)
      obtain⟨d2,hdd⟩:∃ d2,d2=w1.heap.size:=⟨_,rfl⟩
      have hdh:w2.heap[d2]?=some (.cells #[.int .u64 0,.bool false] 322 (0,0)):=by rw [hw2,hdd];exact heap_alloc_new _ _
      rw [<-hw2,<-hdd]
      obtain⟨u,v,huv⟩:=vvh g0 f0 i
      rw [huv] at hd2
      have HD2:=zH hd2
      have hf:=hd2.first
      clear hw2 hdd HD1 ca' cx' huv hd2
      have c0:w2.cell? ⟨d2,0,none⟩=some (.int .u64 0):=by rw [zC hdh];rfl
      have c1:w2.cell? ⟨d2,1,none⟩=some (.bool false):=by rw [zC hdh];rfl
      have k0:w2.cell? ⟨fb,0,none⟩=some (.int .u64 u):=by rw [zC hf];rfl
      have k1:w2.cell? ⟨fb,1,none⟩=some (.bool v):=by rw [zC hf];rfl
      have k2:=zF hf 0
      have k3:=zF hf 1
      clear hdh hf
      go_upto_if 34 with fail
      go_cut [] from 35 to 35 (fun wx=>∃ (wd:World) (u v:Value),wd=wx/\DfR w fb #[u,v] A2 i c2 ((zzi l).take i) wd)
      case first =>
       by_cases hi0:i=0
       · have hI:(i:Int)=0:=by omega
         have hI2:((i:Int)==0)=true:=xxJ hI
         clear hi0
         go_wp2_with fail
         go_meet
         exact⟨_,_,_,rfl,HD2.out.setTo (.int .u64 0) (.bool false) rfl⟩
       · have hI:¬ (i:Int)=0:=by omega
         have hI2:((i:Int)==0)=false:=zzA hI
         go_wp2_with fail
         go_meet
         exact⟨_,_,_,rfl,HD2.out⟩
      case rest =>
       obtain⟨wx,u',v',rfl,hd3⟩:=hcut
       have HD3:=zH hd3
       have hf:=hd3.first
       clear c0 c1 k0 k1 k2 k3
       have k0:wx.cell? ⟨fb,0,none⟩=some u':=by rw [zC hf];rfl
       have k1:wx.cell? ⟨fb,1,none⟩=some v':=by rw [zC hf];rfl
       have k2:=zF hf 0
       have k3:=zF hf 1
       clear hf hd3
       refine ‹∀ (a:Act) (w_1:World),Code.wp _ _ _ a w_1->_› _ _ ?_
       go_wp2_with fail
       refine bodyPost_ret (zzO rfl _ _ fb 322 #[.int .u64 0,.bool false] (0,0) _ rfl (HD3.out.setTo (.int .u64 0) (.bool false) rfl).first Tryz.underlying322 rfl (by kernel_rfl)) rfl ?_
       exact⟨by rw [<-HFB.out];exact (HD3.out.setTo (.int .u64 0) (.bool false) rfl).below,by rw [HBAD.out];exact rfl⟩
  · have hin:i=n - 1:=by omega
    have hts:(zzi l).take i=zzi l:=zL (by rw [zzW,<-HL.out];omega)
    have hcs:dfCs g0 f0 i=#[.int .u64 (g0:Int),.bool f0]:=by rw [dfCs,if_neg (by omega)]
    rw [hts] at HD HM
    rw [hcs] at HD
    have hgood:zz1 (zz8 l) l=true:=(yyg _ l).2 fun j hj=>by rw [<-HF0.out];exact HOK.out j hj (by have:=HL.out;omega)
    have hsl:=HD.out.row.sl
    have hic:=hsl.2.1
    have hic2:=hsl.2.2.1
    unfold maxLen at hic2
    obtain⟨ga,rfl⟩:=HD.out.row.some1 jjm (by intro h;have:=HD.out.row.len;rw [h] at this;simp at this;omega)
    have hcut:=hsl.cut (lo:=1) (hi:=i) (by omega) zN
    have HCUT:=zH hcut;have HGOOD:=zH hgood
    have hf:=HD.out.first
    have k0:wr.cell? ⟨fb,0,none⟩=some (.int .u64 (g0:Int)):=by rw [zC hf];rfl
    have k1:wr.cell? ⟨fb,1,none⟩=some (.bool f0):=by rw [zC hf];rfl
    have k2:=zF hf 0
    have k3:=zF hf 1
    have HTS:=zH hts
    have hi1:(1:Int)<=(i:Int):=by omega
    have hi2:¬ (i:Int)<((n - 1:Nat):Int):=by omega
    have hi3:1<=i:=by omega
    clear hts hcs hgood hsl hcut hf hin HOK
    go_upto_region 14 with fail
    have hFfb:¬ (False∨((some ⟨ga,0,none⟩:Option Addr)=some ⟨fb,0,none⟩/\fb+1<=fb)):=by rintro (h | ⟨_,h⟩);exact h;omega
    by_cases hc1:c2=1
    · obtain rfl:i=1:=by omega
      subst hc1
      go_region
      go_wp2_with fail
      have HFIN:=zH (HD.out.setTo (.int .u64 (g0:Int)) (.bool f0) rfl)
      refine bodyPost_ret (zzO rfl _ _ fb 322 #[.int .u64 (g0:Int),.bool f0] (0,0) _ rfl HFIN.out.first Tryz.underlying322 rfl (by kernel_rfl)) rfl ?_
      refine⟨by rw [<-HFB.out];exact HFIN.out.below.drew,?_⟩
      rw [HGOOD.out,if_pos rfl]
      refine⟨_,_,_,by rw [<-HG0.out,<-HF0.out,jjP,<-HG0.out,<-HM.out];rfl,?_⟩
      have hs:=((HCUT.out.setCell (p:=⟨fb,0,none⟩) hFfb (.int .u64 (g0:Int))).setCell (p:=⟨fb,1,none⟩) hFfb (.bool f0)).drew.any
      rw [show (zzi l).tail=((zzi l).take 1).drop 1 by rw [HTS.out,List.drop_one]]
      simpa using hs
    · go_region
      go_wp2_with fail
      have HFIN:=zH (HD.out.setTo (.int .u64 (g0:Int)) (.bool f0) rfl)
      refine bodyPost_ret (zzO rfl _ _ fb 322 #[.int .u64 (g0:Int),.bool f0] (0,0) _ rfl HFIN.out.first Tryz.underlying322 rfl (by kernel_rfl)) rfl ?_
      refine⟨by rw [<-HFB.out];exact HFIN.out.below.drew,?_⟩
      rw [HGOOD.out,if_pos rfl]
      refine⟨_,_,_,by rw [<-HG0.out,<-HF0.out,jjP,<-HG0.out,<-HM.out];rfl,?_⟩
      have hs:=((HCUT.out.setCell (p:=⟨fb,0,none⟩) hFfb (.int .u64 (g0:Int))).setCell (p:=⟨fb,1,none⟩) hFfb (.bool f0)).drew.any
      rw [show (zzi l).tail=((zzi l).take i).drop 1 by rw [HTS.out,List.drop_one]]
      rw [if_neg hc1] at hs
      exact hs
end
section
open Go Go.RowKit
theorem zze (k:Int) (w:World):Calls Tryz.prog 44 #[.int .i64 k] w fun e w'=>e=.returned (.bool (decide (1<=k/\k<=5)))/\w=w':=by
 by_cases h:1<=k/\k<=5
 · rw [decide_eq_true h]
   obtain rfl | rfl | rfl | rfl | rfl:k=1∨k=2∨k=3∨k=4∨k=5:=by omega
   all_goals
    clear h
    go_enter Tryz.func44,Tryz.ntmps44
    go_wp2_with fail
    go_ret
    exact⟨rfl,rfl⟩
 · rw [decide_eq_false h]
   have e1:(k==1)=false:=zzA (by omega)
   have e2:(k==2)=false:=zzA (by omega)
   have e3:(k==3)=false:=zzA (by omega)
   have e4:(k==4)=false:=zzA (by omega)
   have e5:(k==5)=false:=zzA (by omega)
   have h1:¬ k=1:=by omega
   have h2:¬ k=2:=by omega
   have h3:¬ k=3:=by omega
   have h4:¬ k=4:=by omega
   have h5:¬ k=5:=by omega
   clear h
   go_enter Tryz.func44,Tryz.ntmps44
   go_wp2_with fail
   go_ret
   exact⟨rfl,rfl⟩
theorem xxO (w:World):Calls Tryz.prog 292 #[.int .i64 (-9223372036854775808)] w fun e w'=>e=.returned (.slice none 0 0)/\Below w.heap.size w w':=by
 have HV:=zH (show yyP 0 (-9223372036854775808)=#[.int .u64 0,.bool false,.bool false] by unfold yyP gapN;rw [if_neg (by omega)])
 go_enter Tryz.func292,Tryz.ntmps292
 go_wp2_with (first
  | (go_at_call 320;refine (yyD 0 (-9223372036854775808) (by decide) (by decide) (by decide) (by decide) _).mono ?_;rintro e w1 ⟨rfl,hb1⟩;rw [HV.out];have HB1:=zH hb1;clear hb1)
  | fail)
 go_ret
 exact⟨rfl,HB1.out⟩
end
end Go.Proofs.YtpmglcachffojaaGreatDoor
