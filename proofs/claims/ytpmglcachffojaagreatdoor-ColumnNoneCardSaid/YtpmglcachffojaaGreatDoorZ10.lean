/- A part of what None leans on. -/
import Derived.Test.YtpmglcachffojaaGreatDoorZ7
set_option maxRecDepth 100000
set_option maxHeartbeats 16000000
namespace Go.Proofs.YtpmglcachffojaaGreatDoor
section
open Go Go.RowKit
theorem zzV.least {sg:Bool} {l:List Int} (h:zzV sg l) (hl:l≠[]) : -9223372036854775808<=zzJ l/\zzJ l<=9223372036854775807/\(sg=true∨0<=zzJ l):=h _ (vvi hl).1
theorem vvj {f:Bool} {l:List Int} (h:zz1 f l=true):∀ x∈zzi l,x<9223372036854775808:=fun x hx=>by
 obtain⟨j,hj,rfl⟩:=List.getElem_of_mem hx
 have hj2:j+1<l.length:=by rw [zzW] at hj;omega
 rw [yyE l j hj2]
 exact ((yyg f l).1 h j hj2).1
theorem kq5 (F:Nat->Prop) (A:Option Addr) (n c:Nat) (l:List Int) (w:World) (h:Sl tI64 F w A n c l) (hn1:1<=n) (hn:n<=512) (sg:Bool) (hl:zzV sg l) (hd:delB sg l=none) :
 Calls Tryz.prog 247 #[.slice A n c,.bool sg] w (zzw none w):=by
 have hlen:=h.len
 have hne:l≠[]:=by intro e;rw [e] at hlen;simp at hlen;omega
 have hml:=hl.least hne
 have HMIN:=zH (yy9 F A n c l w h hne)
 obtain⟨mn,hmn⟩:∃ mn,mn=zzJ l:=⟨_,rfl⟩
 rw [<-hmn] at hml HMIN
 obtain⟨m0,m1,m2⟩:=hml
 have HM2:=zH m2
 have HH:=zH h
 clear hmn m2
 by_cases hn2:n<2
 · have z:(n:Int)<2:=by omega
   clear hn2 hlen
   go_enter Tryz.func247,Tryz.ntmps247
   go_wp2_with fail
   go_ret2
   exact⟨zR,rfl⟩
 · have z:¬ (n:Int)<2:=by omega
   have hw:zz1 (zz8 l) l=false:=by
    unfold delB at hd
    by_cases hc:l.length<2∨zz1 (zz8 l) l=false
    · exact hc.resolve_left (by omega)
    · rw [if_neg hc] at hd;cases hd
   have HDF:Hid (Calls Tryz.prog 288 #[.slice A n c] w fun e w'=>e=.returned (.tuple #[.agg #[.int .u64 0,.bool false],.slice none 0 0,.bool false,.bool false])/\Below w.heap.size w w'):=zH ((vv5 F A n c l w h (by omega) hn).mono fun e w1 hp=>by
    obtain⟨hb1,he⟩:=hp
    rw [hw,if_neg (by simp)] at he
    exact⟨he,hb1⟩)
   clear hd hw h hlen
   cases sg with
   | true =>
     go_enter Tryz.func247,Tryz.ntmps247
     go_upto_region 3 with (first
      | (go_at_call 205;refine HMIN.out.mono ?_;rintro e w1 ⟨rfl,rfl⟩)
      | fail)
     go_wp2_with (first
      | (go_at_call 288;refine HDF.out.mono ?_;rintro e w1 ⟨rfl,hb1⟩;have HB1:=zH hb1;clear hb1)
      | fail)
     go_ret2
     exact⟨HB1.out.alloc HB1.out.size _,rfl⟩
   | false =>
     have m3:¬ mn<0:=by rcases HM2.out with h | h;cases h;exact Int.not_lt.2 h
     go_enter Tryz.func247,Tryz.ntmps247
     go_upto_region 3 with (first
      | (go_at_call 205;refine HMIN.out.mono ?_;rintro e w1 ⟨rfl,rfl⟩)
      | fail)
     go_wp2_with (first
      | (go_at_call 288;refine HDF.out.mono ?_;rintro e w1 ⟨rfl,hb1⟩;have HB1:=zH hb1;clear hb1)
      | fail)
     go_ret2
     exact⟨HB1.out.alloc HB1.out.size _,rfl⟩
end
section
open Go Go.RowKit
theorem zqm (k:Nat):pack k []=[]:=by simp [pack,zzD,be]
structure yyZ (w:World) (b0 o0 B1:Nat) (x0:Int) (g0:Nat) (f0:Bool) (A:Option Addr) (m c:Nat) (S:List Nat) (k:Nat) (wx:World):Prop where
 below:Below w.heap.size w wx
 sl:Sl tU64 (fun _=>True) wx A m c S
 lt:∀ x∈S,x<2 ^ k
 many:m<=512
 first:wx.heap[B1]?=some (.cells #[.int .u64 (g0:Int),.bool f0] 322 (0,0))
 zero:wx.cell? ⟨b0,o0,none⟩=some (.int .i64 x0)
theorem yyZ.keep {w:World} {b0 o0 B1:Nat} {x0:Int} {g0:Nat} {f0:Bool} {A:Option Addr} {m c:Nat} {S:List Nat} {k:Nat} {wx wy:World} (h:yyZ w b0 o0 B1 x0 g0 f0 A m c S k wx) (hb:Below wx.heap.size wx wy):yyZ w b0 o0 B1 x0 g0 f0 A m c S k wy :=
 ⟨h.below.trans (hb.mono h.below.size),h.sl.below hb zN,h.lt,h.many,(hb.block _ (zzc h.first)).trans h.first,zzt hb h.zero⟩
theorem yyZ.drew {w:World} {b0 o0 B1:Nat} {x0:Int} {g0:Nat} {f0:Bool} {A:Option Addr} {m c:Nat} {S:List Nat} {k:Nat} {wx:World} (h:yyZ w b0 o0 B1 x0 g0 f0 A m c S k wx):yyZ w b0 o0 B1 x0 g0 f0 A m c S k wx.drew :=
 ⟨h.below.drew,h.sl.drew,h.lt,h.many,h.first,h.zero⟩
theorem xxN {w:World} {B:Nat} {A:Option Addr} {n c:Nat} {l:List UInt8} (h:OwnB w B A n c l):OwnB w.drew B A n c l:=zz7 ⟨_,h.own.drew⟩
theorem xql {w w3 w4 w5:World} {b0 o0 B1:Nat} {x0:Int} {g0:Nat} {f0:Bool} {A A3 A5:Option Addr} {m c s3 c3 n5 c5:Nat} {S:List Nat} {k:Nat} {P R:List UInt8} (h:yyZ w b0 o0 B1 x0 g0 f0 A m c S k w3) (hA:OwnB w3 w.heap.size A3 s3 c3 P)
 (hb4:Below w3.drew.heap.size w3.drew w4) (ho5:OwnB w5 w4.heap.size A5 n5 c5 R) (hb5:Below w4.heap.size w4 w5):OwnB w5 w.heap.size A5 n5 c5 R/\OwnB w5 w.heap.size A3 s3 c3 P/\yyZ w b0 o0 B1 x0 g0 f0 A m c S k w5:=by
 have h4:=h.drew.keep hb4
 exact⟨ho5.down h4.below.size,((xxN hA).keepB hb4).keepB hb5,h4.keep hb5⟩
theorem kq6 (F:Nat->Prop) (A:Option Addr) (n c:Nat) (l:List Int) (w:World) (h:Sl tI64 F w A n c l) (hn2:2<=n) (hn:n<=512) (sg:Bool) (hl:zzV sg l) (hw:zz1 (zz8 l) l=true) :
 Calls Tryz.prog 247 #[.slice A n c,.bool sg] w (zzw (delB sg l) w):=by
 have hlen:=h.len
 have hne:l≠[]:=by intro e;rw [e] at hlen;simp at hlen;omega
 have hml:=hl.least hne
 have HMIN:=zH (yy9 F A n c l w h hne)
 obtain⟨b0,o0,hA,hb0,hcell⟩:=yya h hne
 obtain⟨x0,hx0⟩:∃ x0,x0=l.headD 0:=⟨_,rfl⟩
 have hx0l:l[0]'(by omega)=x0:=by rw [hx0];match l,hne with | _::_,_=>rfl
 have hc0:=(hcell 0 (by omega)).1
 rw [hx0l,Nat.add_zero] at hc0
 have hx0k:=hl x0 (by rw [<-hx0l];exact List.getElem_mem _)
 have HX0K:=zH hx0k
 have HC0:=zH hc0
 obtain⟨g0,hg0⟩:∃ g0,g0=(zzi l).headD 0:=⟨_,rfl⟩
 obtain⟨f0,hf0⟩:∃ f0,f0=zz8 l:=⟨_,rfl⟩
 obtain⟨ev,hev⟩:∃ ev,ev=jjP (zzi l):=⟨_,rfl⟩
 have HDF:Hid (Calls Tryz.prog 288 #[.slice A n c] w fun e w'=>∃ A1 n1 c1,e=.returned (.tuple #[.agg #[.int .u64 (g0:Int),.bool f0],.slice A1 n1 c1,.bool ev,.bool true])/\Sl tU64 (fun _=>True) w' A1 n1 c1 (zzi l).tail/\Below w.heap.size w w'):=zH ((vv5 F A n c l w h hn2 hn).mono fun e w1 hp=>by
  obtain⟨hb1,he⟩:=hp
  rw [if_pos hw,<-hg0,<-hf0,<-hev] at he
  obtain⟨A1,n1,c1,he,hs⟩:=he
  exact⟨A1,n1,c1,he,hs,hb1⟩)
 have hgl:g0<9223372036854775808:=by
  rw [hg0,(kq3 l (by omega)).1,<-yyE l 0 (by omega)]
  exact vvj hw _ (List.getElem_mem _)
 have HGL:=zH hgl
 have HTU:=zH (show ∀ x∈(zzi l).tail,U64 x from fun x hx=>Nat.lt_trans (vvj hw x (List.mem_of_mem_tail hx)) (by decide))
 have HTL:=zH (show (zzi l).tail.length=n - 2 by rw [List.length_tail,zzW];omega)
 obtain⟨T,hT⟩:∃ T,T=(zzi l).tail:=⟨_,rfl⟩
 obtain⟨st,hst⟩:∃ st,st=qxD l:=⟨_,rfl⟩
 have HST:=zH (show (if f0 then -(g0:Int) else (g0:Int))=st by rw [hst,qxD,<-hg0,<-hf0])
 have HDEL:Hid (delB sg l=some (zz5 3 (if ev then 0 else zzQ (delW l)) n++vput (uOf sg x0)++vput (zigN st)++(if ev then [] else pack (delW l) T))):=zH (by
  unfold delB
  rw [if_neg (by rw [hw];simp;omega),<-hx0,<-hst,<-hev,<-hT,<-hlen])
 obtain⟨k,hk⟩:∃ k,k=delW l:=⟨_,rfl⟩
 obtain⟨mo,hmo⟩:∃ mo,mo=most T:=⟨_,rfl⟩
 rw [<-hT] at HDF HTU HTL
 have HMO:=zH hmo
 have hmo64:mo<=64:=by rw [hmo];exact yyt T HTU.out
 have hkc:k=zzm (max 2 mo):=by rw [hk,delW,<-hT,<-hmo]
 have HKC:=zH hkc
 have hk64:k<=64:=by rw [hkc];exact yyu _
 have hcc:=vvB (b:=max 2 mo) (by omega)
 rw [<-hkc] at hcc
 have HCC:=zH hcc
 have HLT:=zH (show ∀ x∈T,x<2 ^ k from fun x hx=>by
  have h1:=xx6 (HTU.out x hx)
  have h2:=xxp hx
  have h3:=yyY (b:=max 2 mo) (by omega)
  exact Nat.lt_of_lt_of_le h1 (Nat.pow_le_pow_right (by decide) (by omega)))
 rw [<-hk] at HDEL
 obtain⟨mn,hmn⟩:∃ mn,mn=zzJ l:=⟨_,rfl⟩
 rw [<-hmn] at hml HMIN
 obtain⟨m0,m1,m2⟩:=hml
 have m3:sg=false->¬ mn<0:=fun e=>by rcases m2 with h | h;rw [e] at h;cases h;exact Int.not_lt.2 h
 have HM3:=zH m3
 subst hA
 clear h hw hlen hne hx0 hx0l hc0 hx0k hg0 hf0 hev hgl hT hst hk hmo hkc hcc hmn m2 m3 hcell hb0 hl
 go_enter Tryz.func247,Tryz.ntmps247
 go_upto_region 1 with fail
 go_cut [31] from 15 to 30 (fun v wx=>v=.bool false/\wx=w)
 case first =>
  cases sg with
  | true =>
    go_wp2_with fail
    go_meet
    refine⟨?_,rfl⟩
    congr 1
    simp
    omega
  | false =>
    have m3:=HM3.out rfl
    go_wp2_with (first
     | (go_at_call 205;refine HMIN.out.mono ?_;rintro e w1 ⟨rfl,rfl⟩)
     | fail)
    go_meet
    refine⟨?_,rfl⟩
    congr 1
    simp
    omega
 case rest =>
  obtain⟨rfl,hwc⟩:=hcut
  rw [hwc]
  clear hwc
  refine ‹∀ (a:Act) (w_1:World),Code.wp _ _ _ a w_1->_› _ _ ?_
  go_upto_region 7 with (first
   | (go_at_call 288;refine HDF.out.mono ?_;rintro e w1 ⟨A1,n1,c1,rfl,hs1,hb1⟩;have HS1:=zH hs1;have HB1:=zH hb1;clear hs1 hb1)
   | fail)
  obtain⟨w2,hw2⟩:∃ w2,w2=w1.alloc (.cells #[.int .u64 (g0:Int),.bool f0] 322):=⟨_,rfl⟩
  obtain⟨B1,hB1⟩:∃ B1,B1=w1.heap.size:=⟨_,rfl⟩
  rw [<-hw2,<-hB1]
  have hk1:Below w1.heap.size w1 w2:=by rw [hw2];exact (zR).alloc zN _
  have hs2:=HS1.out.below hk1 zN
  have hsl:=hs2.len
  have htl:=HTL.out
  have HD0:=zH (show yyZ w b0 o0 B1 x0 g0 f0 A1 n1 c1 T k w2 from ⟨HB1.out.trans (hk1.mono HB1.out.size),hs2,HLT.out,by omega,by rw [hw2,hB1];exact heap_alloc_new _ _,zzt (HB1.out.trans (hk1.mono HB1.out.size)) HC0.out⟩)
  clear hw2 hB1 hk1 hs2 hsl htl HS1 HB1
  go_upto_if 42 with fail
  go_cut [7,10,11] from 43 to 48 (fun sv cv wv wx=>∃ A2 m2 c2,sv=.slice A2 m2 c2/\cv=.int .i64 ((if ev then 0 else zzQ k:Nat):Int)/\wv=.int .i64 ((if ev then 0 else k:Nat):Int)/\yyZ w b0 o0 B1 x0 g0 f0 A2 m2 c2 (if ev then [] else T) (if ev then 0 else k) wx)
  case first =>
   cases ev with
   | true =>
     go_wp2_with fail
     go_meet
     have hd:=HD0.out
     exact⟨none,0,0,rfl,rfl,rfl,hd.below,Sl.nil_ _ _ _,by simp,by omega,hd.first,hd.zero⟩
   | false =>
     have hmax:max (2:Int) (mo:Int)=((max 2 mo:Nat):Int):=by omega
     have HMX:=zH hmax
     clear hmax
     go_wp2_with (first
      | (go_at_call 284;refine (vv4 _ A1 n1 c1 T _ HD0.out.sl).mono ?_;rintro e w3 ⟨rfl,rfl⟩;rw [<-HMO.out])
      | (go_at_call 283;rw [HMX.out];refine (yyB (max 2 mo) (by omega) _).mono ?_;rintro e w3 ⟨rfl,hb3⟩;rw [<-HKC.out];have HD1:=zH (HD0.out.keep hb3);clear hb3)
      | (go_at_call 287;refine (zzN (k:Int) _).mono ?_;rintro e w4 ⟨rfl,hb4⟩;rw [HCC.out.1];have HD2:=zH (HD1.out.keep hb4);clear hb4)
      | fail)
     go_meet
     exact⟨A1,n1,c1,rfl,rfl,rfl,HD2.out⟩
  case rest =>
   obtain⟨A2,m2,c2,rfl,rfl,rfl,hd⟩:=hcut
   obtain⟨d,hd1⟩:∃ d,d=if ev then 0 else zzQ k:=⟨_,rfl⟩
   obtain⟨kk,hd2⟩:∃ kk,kk=if ev then 0 else k:=⟨_,rfl⟩
   obtain⟨S,hd3⟩:∃ S,S=if ev then [] else T:=⟨_,rfl⟩
   have hdd:d<=31:=by rw [hd1];split;exact Nat.zero_le _;exact HCC.out.2
   have hkk:kk<=64:=by rw [hd2];split;exact Nat.zero_le _;exact hk64
   have hpk:(if ev then [] else pack k T)=pack kk S:=by rw [hd2,hd3];cases ev <;> simp [zqm]
   rw [hpk,<-hd1] at HDEL
   rw [<-hd2,<-hd3] at hd
   rw [<-hd1,<-hd2]
   have HDC:=zH hd
   clear hd hd1 hd2 hd3 hpk hmo64 hk64 HDF HMIN HKC HCC HLT HMO HTU HTL HD0
   refine ‹∀ (a:Act) (w_1:World),Code.wp _ _ _ a w_1->_› _ _ ?_
   go_upto_region 12 with (first
    | (go_at_call 285;refine (xxq _ A2 m2 c2 S _ HDC.out.sl (by have:=HDC.out.many;omega) kk hkk HDC.out.lt).mono ?_;rintro e w3 ⟨A3,s3,c3,rfl,ho3,hb3⟩;have HO3:=zH ho3;have HDC3:=zH (HDC.out.keep hb3);clear ho3 hb3)
    | fail)
   have hz3:=HDC3.out.zero
   have HO3B:=zH (HO3.out.down HDC.out.below.size)
   go_cut [14] from 55 to 63 (fun v wx=>∃ A5 n5 c5,v=.slice A5 n5 c5/\OwnB wx w.heap.size A5 n5 c5 (zz5 3 d n++vput (uOf sg x0))/\OwnB wx w.heap.size A3 s3 c3 (pack kk S)/\yyZ w b0 o0 B1 x0 g0 f0 A2 m2 c2 S kk wx)
   case first =>
    have hnI:(0:Int)<(n:Int):=by omega
    go_region_with (first
     | (go_at_call 286;refine (vvG 3 d n (by omega) hdd (by omega) hn _).mono ?_;rintro e w4 ⟨A4,n4,c4,rfl,ho4,hb4⟩;have hz4:=zzt hb4 HDC3.out.zero;have HO4:=zH ho4;have HB4:=zH hb4;clear ho4 hb4)
     | (go_at_call 289;refine (kq1 _ A4 n4 c4 (zz5 3 d n) x0 sg _ HO4.out.bs (by have:=HO4.out.len;rw [xxM] at this;omega) HX0K.out.1 HX0K.out.2.1 HX0K.out.2.2).mono ?_;rintro e w5 ⟨A5,n5,c5,rfl,ho5,hb5⟩;have HO5:=zH ho5;have HB5:=zH hb5;clear ho5 hb5)
     | fail)
    all_goals
     go_wp2_with fail
     go_meet
     exact⟨A5,n5,c5,rfl,xql HDC3.out HO3B.out HB4.out HO5.out HB5.out⟩
   case rest =>
    obtain⟨A5,n5,c5,rfl,ho5,ho3,hd5⟩:=hcut
    have HO5:=zH ho5;have HO3C:=zH ho3;have HD5:=zH hd5
    obtain⟨R,hR⟩:∃ R,R=zz5 3 d n++vput (uOf sg x0):=⟨_,rfl⟩
    have hRl:R.length<=12:=by rw [hR,List.length_append,xxM];have:=jja (uOf sg x0);omega
    rw [<-hR] at HO5 HDEL
    have HRL:=zH hRl
    have hf:=hd5.first
    clear ho5 ho3 hd5 hz3 HDC3 HDC HO3 HO3B hR hRl
    have hlen5:=HO5.out.len
    have hn5:n5<=12:=by have:=HRL.out;omega
    clear hlen5
    have hst0 : -9223372036854775808<=st/\st<=9223372036854775807:=by have:=HST.out;have:=HGL.out;cases f0 <;> simp at * <;> omega
    have hzs:uOf true st=zigN st:=rfl
    rw [<-hzs] at HDEL
    have HST0:=zH hst0
    clear hst0 hzs
    refine ‹∀ (a:Act) (w_1:World),Code.wp _ _ _ a w_1->_› _ _ ?_
    have k0:wc.cell? ⟨B1,0,none⟩=some (.int .u64 (g0:Int)):=by rw [zC hf];rfl
    have k1:wc.cell? ⟨B1,1,none⟩=some (.bool f0):=by rw [zC hf];rfl
    clear hf
    go_wp2_with (first
     | (go_at_call 290;refine (jjT g0 HGL.out f0 _).mono ?_;rintro e w6 ⟨rfl,hb6⟩;rw [HST.out];have HB6:=zH hb6;clear hb6)
     | (go_at_call 289;refine (kq1 _ A5 n5 c5 R st true _ (HO5.out.keepB HB6.out).bs (by omega) HST0.out.1 HST0.out.2 (.inl rfl)).mono ?_;rintro e w7 ⟨A7,n7,c7,rfl,ho7,hb7⟩;have HO7:=zH ho7;have HB7:=zH hb7;clear ho7 hb7
        have HSS:=zH (sl2 HO7.out.bs ((HO3C.out.keepB HB6.out).keepB HB7.out).bs 41)
        have HN:=zH (show [R++vput (uOf true st),pack kk S].flatten.length<=4294967296 by have h1:=zz0 S.length kk hkk;have h2:=HD5.out.sl.len;have h3:=HD5.out.many;have h4:=jja (uOf true st);have h5:=HRL.out;simp [xxl];omega))
     | (go_at_call 224;refine (yyk (T:=tU8) zzF (fun _=>True) _ _ _ [R++vput (uOf true st),pack kk S] _ HSS.out (by omega) HN.out).mono ?_;rintro e w8 ⟨A8,n8,c8,rfl,ho8,hb8⟩;have HO8:=zH ho8;have HB8:=zH hb8;clear ho8 hb8)
     | fail)
    go_ret2
    have b5:=HD5.out.below
    have b6:=b5.trans (HB6.out.mono b5.size)
    have b7:=b6.trans (HB7.out.mono b6.size)
    have b8:=b7.alloc b7.size (.cells #[.slice A7 n7 c7,.slice A3 s3 c3] 41)
    have hc8:=b8.size
    rw [HDEL.out]
    refine⟨b8.trans (HB8.out.mono hc8),A8,n8,c8,rfl,?_⟩
    have:=zz7 (HO8.out.down hc8)
    simpa using this
theorem jjU (F:Nat->Prop) (A:Option Addr) (n c:Nat) (l:List Int) (w:World) (h:Sl tI64 F w A n c l) (hn1:1<=n) (hn:n<=512) (sg:Bool) (hl:zzV sg l) :
 Calls Tryz.prog 247 #[.slice A n c,.bool sg] w (zzw (delB sg l) w):=by
 by_cases hc:l.length<2∨zz1 (zz8 l) l=false
 · have hd:delB sg l=none:=by unfold delB;rw [if_pos hc]
   rw [hd]
   exact kq5 F A n c l w h hn1 hn sg hl hd
 · obtain⟨h1,h2⟩:=not_or.1 hc
   exact kq6 F A n c l w h (by have:=h.len;omega) hn sg hl (by simpa using h2)
end
end Go.Proofs.YtpmglcachffojaaGreatDoor
