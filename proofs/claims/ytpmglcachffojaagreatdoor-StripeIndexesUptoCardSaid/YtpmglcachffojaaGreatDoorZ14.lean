/- A part of what Indexes leans on. -/
import Derived.Test.YtpmglcachffojaaGreatDoorZ13
set_option maxRecDepth 100000
set_option maxHeartbeats 16000000
namespace Go.Proofs.YtpmglcachffojaaGreatDoor
section
open Go Go.RowKit
theorem yyK.least {sg:Bool} {l:List Int} (h:yyK sg l) (hl:l≠[]) : -9223372036854775808<=yyl l/\yyl l<=9223372036854775807/\(sg=true∨0<=yyl l):=h _ (kqo hl).1
theorem kqp {f:Bool} {l:List Int} (h:yyX f l=true):∀ x∈zzB l,x<9223372036854775808:=fun x hx=>by
 obtain⟨j,hj,rfl⟩:=List.getElem_of_mem hx
 have hj2:j+1<l.length:=by rw [yyO] at hj;omega
 rw [vvj l j hj2]
 exact ((xxk f l).1 h j hj2).1
theorem delp_none (F:Nat->Prop) (A:Option Addr) (n c:Nat) (l:List Int) (w:World) (h:Sl tI64 F w A n c l) (hn1:1<=n) (hn:n<=512) (sg:Bool) (hl:yyK sg l) (hd:delB sg l=none) :
 Calls Tryz.prog 247 #[.slice A n c,.bool sg] w (zzV none w):=by
 have hlen:=h.len
 have hne:l≠[]:=by intro e;rw [e] at hlen;simp at hlen;omega
 have hml:=hl.least hne
 have HMIN:=zH (uur F A n c l w h hne)
 obtain⟨mn,hmn⟩:∃ mn,mn=yyl l:=⟨_,rfl⟩
 rw [<-hmn] at hml HMIN
 obtain⟨m0,m1,m2⟩:=hml
 have HM2:=zH m2
 have HH:=zH h
 clear hmn m2
 by_cases hn2:n<2
 · have z:(n:Int)<2:=by omega
   clear hn2 hlen
   go_enter Tryz.func247,Tryz.ntmps247
   go_wp2_with fail
   go_ret2
   exact⟨zR,rfl⟩
 · have z:¬ (n:Int)<2:=by omega
   have hw:yyX (yy6 l) l=false:=by
    unfold delB at hd
    by_cases hc:l.length<2∨yyX (yy6 l) l=false
    · exact hc.resolve_left (by omega)
    · rw [if_neg hc] at hd;cases hd
   have HDF:Hid (Calls Tryz.prog 288 #[.slice A n c] w fun e w'=>e=.returned (.tuple #[.agg #[.int .u64 0,.bool false],.slice none 0 0,.bool false,.bool false])/\Below w.heap.size w w'):=zH ((qzI F A n c l w h (by omega) hn).mono fun e w1 hp=>by
    obtain⟨hb1,he⟩:=hp
    rw [hw,if_neg (by simp)] at he
    exact⟨he,hb1⟩)
   clear hd hw h hlen
   cases sg with
   | true =>
     go_enter Tryz.func247,Tryz.ntmps247
     go_upto_region 3 with (first
      | (go_at_call 205;refine HMIN.out.mono ?_;rintro e w1 ⟨rfl,rfl⟩)
      | fail)
     go_wp2_with (first
      | (go_at_call 288;refine HDF.out.mono ?_;rintro e w1 ⟨rfl,hb1⟩;have HB1:=zH hb1;clear hb1)
      | fail)
     go_ret2
     exact⟨HB1.out.alloc HB1.out.size _,rfl⟩
   | false =>
     have m3:¬ mn<0:=by rcases HM2.out with h | h;cases h;exact Int.not_lt.2 h
     go_enter Tryz.func247,Tryz.ntmps247
     go_upto_region 3 with (first
      | (go_at_call 205;refine HMIN.out.mono ?_;rintro e w1 ⟨rfl,rfl⟩)
      | fail)
     go_wp2_with (first
      | (go_at_call 288;refine HDF.out.mono ?_;rintro e w1 ⟨rfl,hb1⟩;have HB1:=zH hb1;clear hb1)
      | fail)
     go_ret2
     exact⟨HB1.out.alloc HB1.out.size _,rfl⟩
end
section
open Go Go.RowKit
theorem pack_nil (k:Nat):pack k []=[]:=by simp [pack,zz0,be]
structure vv1 (w:World) (b0 o0 B1:Nat) (x0:Int) (g0:Nat) (f0:Bool) (A:Option Addr) (m c:Nat) (S:List Nat) (k:Nat) (wx:World):Prop where
 below:Below w.heap.size w wx
 sl:Sl tU64 (fun _=>True) wx A m c S
 lt:∀ x∈S,x<2 ^ k
 many:m<=512
 first:wx.heap[B1]?=some (.cells #[.int .u64 (g0:Int),.bool f0] 322 (0,0))
 zero:wx.cell? ⟨b0,o0,none⟩=some (.int .i64 x0)
theorem vv1.keep {w:World} {b0 o0 B1:Nat} {x0:Int} {g0:Nat} {f0:Bool} {A:Option Addr} {m c:Nat} {S:List Nat} {k:Nat} {wx wy:World} (h:vv1 w b0 o0 B1 x0 g0 f0 A m c S k wx) (hb:Below wx.heap.size wx wy):vv1 w b0 o0 B1 x0 g0 f0 A m c S k wy :=
 ⟨h.below.trans (hb.mono h.below.size),h.sl.below hb zN,h.lt,h.many,(hb.block _ (zzc h.first)).trans h.first,zzh hb h.zero⟩
theorem vv1.drew {w:World} {b0 o0 B1:Nat} {x0:Int} {g0:Nat} {f0:Bool} {A:Option Addr} {m c:Nat} {S:List Nat} {k:Nat} {wx:World} (h:vv1 w b0 o0 B1 x0 g0 f0 A m c S k wx):vv1 w b0 o0 B1 x0 g0 f0 A m c S k wx.drew :=
 ⟨h.below.drew,h.sl.drew,h.lt,h.many,h.first,h.zero⟩
theorem jjA {w:World} {B:Nat} {A:Option Addr} {n c:Nat} {l:List UInt8} (h:OwnB w B A n c l):OwnB w.drew B A n c l:=zz9 ⟨_,h.own.drew⟩
theorem delFin {w w3 w4 w5:World} {b0 o0 B1:Nat} {x0:Int} {g0:Nat} {f0:Bool} {A A3 A5:Option Addr} {m c s3 c3 n5 c5:Nat} {S:List Nat} {k:Nat} {P R:List UInt8} (h:vv1 w b0 o0 B1 x0 g0 f0 A m c S k w3) (hA:OwnB w3 w.heap.size A3 s3 c3 P)
 (hb4:Below w3.drew.heap.size w3.drew w4) (ho5:OwnB w5 w4.heap.size A5 n5 c5 R) (hb5:Below w4.heap.size w4 w5):OwnB w5 w.heap.size A5 n5 c5 R/\OwnB w5 w.heap.size A3 s3 c3 P/\vv1 w b0 o0 B1 x0 g0 f0 A m c S k w5:=by
 have h4:=h.drew.keep hb4
 exact⟨ho5.down h4.below.size,((jjA hA).keepB hb4).keepB hb5,h4.keep hb5⟩
theorem delp_some (F:Nat->Prop) (A:Option Addr) (n c:Nat) (l:List Int) (w:World) (h:Sl tI64 F w A n c l) (hn2:2<=n) (hn:n<=512) (sg:Bool) (hl:yyK sg l) (hw:yyX (yy6 l) l=true) :
 Calls Tryz.prog 247 #[.slice A n c,.bool sg] w (zzV (delB sg l) w):=by
 have hlen:=h.len
 have hne:l≠[]:=by intro e;rw [e] at hlen;simp at hlen;omega
 have hml:=hl.least hne
 have HMIN:=zH (uur F A n c l w h hne)
 obtain⟨b0,o0,hA,hb0,hcell⟩:=xxa h hne
 obtain⟨x0,hx0⟩:∃ x0,x0=l.headD 0:=⟨_,rfl⟩
 have hx0l:l[0]'(by omega)=x0:=by rw [hx0];match l,hne with | _::_,_=>rfl
 have hc0:=(hcell 0 (by omega)).1
 rw [hx0l,Nat.add_zero] at hc0
 have hx0k:=hl x0 (by rw [<-hx0l];exact List.getElem_mem _)
 have HX0K:=zH hx0k
 have HC0:=zH hc0
 obtain⟨g0,hg0⟩:∃ g0,g0=(zzB l).headD 0:=⟨_,rfl⟩
 obtain⟨f0,hf0⟩:∃ f0,f0=yy6 l:=⟨_,rfl⟩
 obtain⟨ev,hev⟩:∃ ev,ev=xql (zzB l):=⟨_,rfl⟩
 have HDF:Hid (Calls Tryz.prog 288 #[.slice A n c] w fun e w'=>∃ A1 n1 c1,e=.returned (.tuple #[.agg #[.int .u64 (g0:Int),.bool f0],.slice A1 n1 c1,.bool ev,.bool true])/\Sl tU64 (fun _=>True) w' A1 n1 c1 (zzB l).tail/\Below w.heap.size w w'):=zH ((qzI F A n c l w h hn2 hn).mono fun e w1 hp=>by
  obtain⟨hb1,he⟩:=hp
  rw [if_pos hw,<-hg0,<-hf0,<-hev] at he
  obtain⟨A1,n1,c1,he,hs⟩:=he
  exact⟨A1,n1,c1,he,hs,hb1⟩)
 have hgl:g0<9223372036854775808:=by
  rw [hg0,(dfHeads l (by omega)).1,<-vvj l 0 (by omega)]
  exact kqp hw _ (List.getElem_mem _)
 have HGL:=zH hgl
 have HTU:=zH (show ∀ x∈(zzB l).tail,U64 x from fun x hx=>Nat.lt_trans (kqp hw x (List.mem_of_mem_tail hx)) (by decide))
 have HTL:=zH (show (zzB l).tail.length=n - 2 by rw [List.length_tail,yyO];omega)
 obtain⟨T,hT⟩:∃ T,T=(zzB l).tail:=⟨_,rfl⟩
 obtain⟨st,hst⟩:∃ st,st=stepI l:=⟨_,rfl⟩
 have HST:=zH (show (if f0 then -(g0:Int) else (g0:Int))=st by rw [hst,stepI,<-hg0,<-hf0])
 have HDEL:Hid (delB sg l=some (yy3 3 (if ev then 0 else yyC (delW l)) n++vput (uOf sg x0)++vput (zigN st)++(if ev then [] else pack (delW l) T))):=zH (by
  unfold delB
  rw [if_neg (by rw [hw];simp;omega),<-hx0,<-hst,<-hev,<-hT,<-hlen])
 obtain⟨k,hk⟩:∃ k,k=delW l:=⟨_,rfl⟩
 obtain⟨mo,hmo⟩:∃ mo,mo=most T:=⟨_,rfl⟩
 rw [<-hT] at HDF HTU HTL
 have HMO:=zH hmo
 have hmo64:mo<=64:=by rw [hmo];exact xxP T HTU.out
 have hkc:k=zzI (max 2 mo):=by rw [hk,delW,<-hT,<-hmo]
 have HKC:=zH hkc
 have hk64:k<=64:=by rw [hkc];exact xxQ _
 have hcc:=kqV (b:=max 2 mo) (by omega)
 rw [<-hkc] at hcc
 have HCC:=zH hcc
 have HLT:=zH (show ∀ x∈T,x<2 ^ k from fun x hx=>by
  have h1:=jj9 (HTU.out x hx)
  have h2:=uuW hx
  have h3:=vvV (b:=max 2 mo) (by omega)
  exact Nat.lt_of_lt_of_le h1 (Nat.pow_le_pow_right (by decide) (by omega)))
 rw [<-hk] at HDEL
 obtain⟨mn,hmn⟩:∃ mn,mn=yyl l:=⟨_,rfl⟩
 rw [<-hmn] at hml HMIN
 obtain⟨m0,m1,m2⟩:=hml
 have m3:sg=false->¬ mn<0:=fun e=>by rcases m2 with h | h;rw [e] at h;cases h;exact Int.not_lt.2 h
 have HM3:=zH m3
 subst hA
 clear h hw hlen hne hx0 hx0l hc0 hx0k hg0 hf0 hev hgl hT hst hk hmo hkc hcc hmn m2 m3 hcell hb0 hl
 go_enter Tryz.func247,Tryz.ntmps247
 go_upto_region 1 with fail
 go_cut [31] from 15 to 30 (fun v wx=>v=.bool false/\wx=w)
 case first =>
  cases sg with
  | true =>
    go_wp2_with fail
    go_meet
    refine⟨?_,rfl⟩
    congr 1
    simp
    omega
  | false =>
    have m3:=HM3.out rfl
    go_wp2_with (first
     | (go_at_call 205;refine HMIN.out.mono ?_;rintro e w1 ⟨rfl,rfl⟩)
     | fail)
    go_meet
    refine⟨?_,rfl⟩
    congr 1
    simp
    omega
 case rest =>
  obtain⟨rfl,hwc⟩:=hcut
  rw [hwc]
  clear hwc
  refine ‹∀ (a:Act) (w_1:World),Code.wp _ _ _ a w_1->_› _ _ ?_
  go_upto_region 7 with (first
   | (go_at_call 288;refine HDF.out.mono ?_;rintro e w1 ⟨A1,n1,c1,rfl,hs1,hb1⟩;have HS1:=zH hs1;have HB1:=zH hb1;clear hs1 hb1)
   | fail)
  obtain⟨w2,hw2⟩:∃ w2,w2=w1.alloc (.cells #[.int .u64 (g0:Int),.bool f0] 322):=⟨_,rfl⟩
  obtain⟨B1,hB1⟩:∃ B1,B1=w1.heap.size:=⟨_,rfl⟩
  rw [<-hw2,<-hB1]
  have hk1:Below w1.heap.size w1 w2:=by rw [hw2];exact (zR).alloc zN _
  have hs2:=HS1.out.below hk1 zN
  have hsl:=hs2.len
  have htl:=HTL.out
  have HD0:=zH (show vv1 w b0 o0 B1 x0 g0 f0 A1 n1 c1 T k w2 from ⟨HB1.out.trans (hk1.mono HB1.out.size),hs2,HLT.out,by omega,by rw [hw2,hB1];exact heap_alloc_new _ _,zzh (HB1.out.trans (hk1.mono HB1.out.size)) HC0.out⟩)
  clear hw2 hB1 hk1 hs2 hsl htl HS1 HB1
  go_upto_if 42 with fail
  go_cut [7,10,11] from 43 to 48 (fun sv cv wv wx=>∃ A2 m2 c2,sv=.slice A2 m2 c2/\cv=.int .i64 ((if ev then 0 else yyC k:Nat):Int)/\wv=.int .i64 ((if ev then 0 else k:Nat):Int)/\vv1 w b0 o0 B1 x0 g0 f0 A2 m2 c2 (if ev then [] else T) (if ev then 0 else k) wx)
  case first =>
   cases ev with
   | true =>
     go_wp2_with fail
     go_meet
     have hd:=HD0.out
     exact⟨none,0,0,rfl,rfl,rfl,hd.below,Sl.nil_ _ _ _,by simp,by omega,hd.first,hd.zero⟩
   | false =>
     have hmax:max (2:Int) (mo:Int)=((max 2 mo:Nat):Int):=by omega
     have HMX:=zH hmax
     clear hmax
     go_wp2_with (first
      | (go_at_call 284;refine (qzA _ A1 n1 c1 T _ HD0.out.sl).mono ?_;rintro e w3 ⟨rfl,rfl⟩;rw [<-HMO.out])
      | (go_at_call 283;rw [HMX.out];refine (vve (max 2 mo) (by omega) _).mono ?_;rintro e w3 ⟨rfl,hb3⟩;rw [<-HKC.out];have HD1:=zH (HD0.out.keep hb3);clear hb3)
      | (go_at_call 287;refine (yyv (k:Int) _).mono ?_;rintro e w4 ⟨rfl,hb4⟩;rw [HCC.out.1];have HD2:=zH (HD1.out.keep hb4);clear hb4)
      | fail)
     go_meet
     exact⟨A1,n1,c1,rfl,rfl,rfl,HD2.out⟩
  case rest =>
   obtain⟨A2,m2,c2,rfl,rfl,rfl,hd⟩:=hcut
   obtain⟨d,hd1⟩:∃ d,d=if ev then 0 else yyC k:=⟨_,rfl⟩
   obtain⟨kk,hd2⟩:∃ kk,kk=if ev then 0 else k:=⟨_,rfl⟩
   obtain⟨S,hd3⟩:∃ S,S=if ev then [] else T:=⟨_,rfl⟩
   have hdd:d<=31:=by rw [hd1];split;exact Nat.zero_le _;exact HCC.out.2
   have hkk:kk<=64:=by rw [hd2];split;exact Nat.zero_le _;exact hk64
   have hpk:(if ev then [] else pack k T)=pack kk S:=by rw [hd2,hd3];cases ev <;> simp [pack_nil]
   rw [hpk,<-hd1] at HDEL
   rw [<-hd2,<-hd3] at hd
   rw [<-hd1,<-hd2]
   have HDC:=zH hd
   clear hd hd1 hd2 hd3 hpk hmo64 hk64 HDF HMIN HKC HCC HLT HMO HTU HTL HD0
   refine ‹∀ (a:Act) (w_1:World),Code.wp _ _ _ a w_1->_› _ _ ?_
   go_upto_region 12 with (first
    | (go_at_call 285;refine (uuY _ A2 m2 c2 S _ HDC.out.sl (by have:=HDC.out.many;omega) kk hkk HDC.out.lt).mono ?_;rintro e w3 ⟨A3,s3,c3,rfl,ho3,hb3⟩;have HO3:=zH ho3;have HDC3:=zH (HDC.out.keep hb3);clear ho3 hb3)
    | fail)
   have hz3:=HDC3.out.zero
   have HO3B:=zH (HO3.out.down HDC.out.below.size)
   go_cut [14] from 55 to 63 (fun v wx=>∃ A5 n5 c5,v=.slice A5 n5 c5/\OwnB wx w.heap.size A5 n5 c5 (yy3 3 d n++vput (uOf sg x0))/\OwnB wx w.heap.size A3 s3 c3 (pack kk S)/\vv1 w b0 o0 B1 x0 g0 f0 A2 m2 c2 S kk wx)
   case first =>
    have hnI:(0:Int)<(n:Int):=by omega
    go_region_with (first
     | (go_at_call 286;refine (kq4 3 d n (by omega) hdd (by omega) hn _).mono ?_;rintro e w4 ⟨A4,n4,c4,rfl,ho4,hb4⟩;have hz4:=zzh hb4 HDC3.out.zero;have HO4:=zH ho4;have HB4:=zH hb4;clear ho4 hb4)
     | (go_at_call 289;refine (vpi_any _ A4 n4 c4 (yy3 3 d n) x0 sg _ HO4.out.bs (by have:=HO4.out.len;rw [jjz] at this;omega) HX0K.out.1 HX0K.out.2.1 HX0K.out.2.2).mono ?_;rintro e w5 ⟨A5,n5,c5,rfl,ho5,hb5⟩;have HO5:=zH ho5;have HB5:=zH hb5;clear ho5 hb5)
     | fail)
    all_goals
     go_wp2_with fail
     go_meet
     exact⟨A5,n5,c5,rfl,delFin HDC3.out HO3B.out HB4.out HO5.out HB5.out⟩
   case rest =>
    obtain⟨A5,n5,c5,rfl,ho5,ho3,hd5⟩:=hcut
    have HO5:=zH ho5;have HO3C:=zH ho3;have HD5:=zH hd5
    obtain⟨R,hR⟩:∃ R,R=yy3 3 d n++vput (uOf sg x0):=⟨_,rfl⟩
    have hRl:R.length<=12:=by rw [hR,List.length_append,jjz];have:=yyJ (uOf sg x0);omega
    rw [<-hR] at HO5 HDEL
    have HRL:=zH hRl
    have hf:=hd5.first
    clear ho5 ho3 hd5 hz3 HDC3 HDC HO3 HO3B hR hRl
    have hlen5:=HO5.out.len
    have hn5:n5<=12:=by have:=HRL.out;omega
    clear hlen5
    have hst0 : -9223372036854775808<=st/\st<=9223372036854775807:=by have:=HST.out;have:=HGL.out;cases f0 <;> simp at * <;> omega
    have hzs:uOf true st=zigN st:=rfl
    rw [<-hzs] at HDEL
    have HST0:=zH hst0
    clear hst0 hzs
    refine ‹∀ (a:Act) (w_1:World),Code.wp _ _ _ a w_1->_› _ _ ?_
    have k0:wc.cell? ⟨B1,0,none⟩=some (.int .u64 (g0:Int)):=by rw [zC hf];rfl
    have k1:wc.cell? ⟨B1,1,none⟩=some (.bool f0):=by rw [zC hf];rfl
    clear hf
    go_wp2_with (first
     | (go_at_call 290;refine (xqu g0 HGL.out f0 _).mono ?_;rintro e w6 ⟨rfl,hb6⟩;rw [HST.out];have HB6:=zH hb6;clear hb6)
     | (go_at_call 289;refine (vpi_any _ A5 n5 c5 R st true _ (HO5.out.keepB HB6.out).bs (by omega) HST0.out.1 HST0.out.2 (.inl rfl)).mono ?_;rintro e w7 ⟨A7,n7,c7,rfl,ho7,hb7⟩;have HO7:=zH ho7;have HB7:=zH hb7;clear ho7 hb7
        have HSS:=zH (sl2 HO7.out.bs ((HO3C.out.keepB HB6.out).keepB HB7.out).bs 41)
        have HN:=zH (show [R++vput (uOf true st),pack kk S].flatten.length<=4294967296 by have h1:=yyW S.length kk hkk;have h2:=HD5.out.sl.len;have h3:=HD5.out.many;have h4:=yyJ (uOf true st);have h5:=HRL.out;simp [vvU];omega))
     | (go_at_call 224;refine (xxz (T:=tU8) zzA (fun _=>True) _ _ _ [R++vput (uOf true st),pack kk S] _ HSS.out (by omega) HN.out).mono ?_;rintro e w8 ⟨A8,n8,c8,rfl,ho8,hb8⟩;have HO8:=zH ho8;have HB8:=zH hb8;clear ho8 hb8)
     | fail)
    go_ret2
    have b5:=HD5.out.below
    have b6:=b5.trans (HB6.out.mono b5.size)
    have b7:=b6.trans (HB7.out.mono b6.size)
    have b8:=b7.alloc b7.size (.cells #[.slice A7 n7 c7,.slice A3 s3 c3] 41)
    have hc8:=b8.size
    rw [HDEL.out]
    refine⟨b8.trans (HB8.out.mono hc8),A8,n8,c8,rfl,?_⟩
    have:=zz9 (HO8.out.down hc8)
    simpa using this
theorem xqv (F:Nat->Prop) (A:Option Addr) (n c:Nat) (l:List Int) (w:World) (h:Sl tI64 F w A n c l) (hn1:1<=n) (hn:n<=512) (sg:Bool) (hl:yyK sg l) :
 Calls Tryz.prog 247 #[.slice A n c,.bool sg] w (zzV (delB sg l) w):=by
 by_cases hc:l.length<2∨yyX (yy6 l) l=false
 · have hd:delB sg l=none:=by unfold delB;rw [if_pos hc]
   rw [hd]
   exact delp_none F A n c l w h hn1 hn sg hl hd
 · obtain⟨h1,h2⟩:=not_or.1 hc
   exact delp_some F A n c l w h (by have:=h.len;omega) hn sg hl (by simpa using h2)
end
section
open Go Go.RowKit
theorem based_any (b:Int) (b0 : -9223372036854775808<b) (b1:b<=9223372036854775807) (w:World) :
 Calls Tryz.prog 292 #[.int .i64 b] w (Own1 w (kqW b)):=by
 obtain⟨u,hu⟩:∃ u,u=b.natAbs:=⟨_,rfl⟩
 have hug:gapN 0 b=u:=by rw [hu];unfold gapN;rw [Int.sub_zero]
 have hul:u<9223372036854775808:=by omega
 have hu64:U64 u:=Nat.lt_trans hul (by decide)
 obtain⟨fl,hfl⟩:∃ fl,fl=decide (b<0):=⟨_,rfl⟩
 have HV:=zH (show vvI 0 b=#[.int .u64 (u:Int),.bool fl,.bool true] by unfold vvI;rw [hug,if_pos hul,<-hfl])
 obtain⟨q,hq⟩:∃ q,q=bl u / 8:=⟨_,rfl⟩
 obtain⟨bb,hbb⟩:∃ bb,bb=bl u:=⟨_,rfl⟩
 have hbb64:bb<=64:=by rw [hbb];exact xxd hu64
 have hq8:q<=8:=by omega
 have HQ:=zH (show (bb:Int) / 8=(q:Int) by omega)
 have htop:u / 256 ^ q<128:=by
  have h1:=jj9 hu64
  rw [uuV]
  refine Nat.div_lt_of_lt_mul (Nat.lt_of_lt_of_le h1 ?_)
  rw [show (128:Nat)=2 ^ 7 from rfl,<-Nat.pow_add]
  exact Nat.pow_le_pow_right (by decide) (by omega)
 have HTOP:=zH htop
 have HB:Hid (kqW b=be (q+1) (u+if fl then 128*256 ^ q else 0)):=zH (by
  unfold kqW
  rw [<-hu,<-hq,hfl]
  by_cases h:b<0
  · rw [if_pos h,decide_eq_true h,if_pos rfl]
  · rw [if_neg h,decide_eq_false h,if_neg (by simp)])
 have HBB:=zH hbb;have HU64:=zH hu64
 have hb0' : -9223372036854775808<=b:=by omega
 clear hu hug hul hfl hq htop hbb hu64
 go_enter Tryz.func292,Tryz.ntmps292
 go_wp2_with (first
  | (go_at_call 320;refine (vvi 0 b (by decide) (by decide) hb0' b1 _).mono ?_;rintro e w1 ⟨rfl,hb1⟩;rw [HV.out];have HB1:=zH hb1;clear hb1)
  | (go_at_call 315;refine (xxR u HU64.out _).mono ?_;rintro e w2 ⟨rfl,rfl⟩;rw [<-HBB.out])
  | fail)
 go_loopw [6,7] (fun av iv wr=>∃ (j:Nat) (z:Int) (A2:Option Addr) (c2:Nat),j<=q+1/\z=(j:Int) - 1/\iv=.int .i64 z/\av=.slice A2 (q+1 - j) c2/\OwnB wr w.heap.size A2 (q+1 - j) c2 ((be (q+1) u).take (q+1 - j))/\Below w.heap.size w wr)
  (fun _ iv _=>(intOf iv+1).toNat)
 case atStart=>exact⟨q+1,(q:Int),none,0,Nat.le_refl _,by omega,by first | rfl | rw [HQ.out] | go_num,by rw [Nat.sub_self],by rw [Nat.sub_self,List.take_zero];exact OwnB.nil_ _ _,HB1.out⟩
 case round =>
  obtain⟨j,z,A2,c2,hj,hz,rfl,rfl,ho,hb⟩:=hrel
  have HO:=zH ho;have HB2:=zH hb
  clear ho hb
  cases j with
  | zero =>
    have z1:¬ 0<=z:=by omega
    clear hz
    have ho:=HO.out
    rw [Nat.sub_zero,zL (by rw [yyU];exact Nat.le_refl _)] at ho
    have HO2:=zH ho
    obtain⟨g,rfl⟩:=ho.own.some1 vvy (by intro h;have:=congrArg List.length h;rw [yyU] at this;simp at this)
    clear ho HO
    cases fl with
    | false =>
      go_wp2_with fail
      go_ret
      exact⟨_,_,c2,rfl,by rw [HB.out,if_neg (by simp),Nat.add_zero];exact HO2.out,HB2.out⟩
    | true =>
      have hl0:0<(be (q+1) u).length:=by rw [yyU];omega
      obtain⟨t,ht⟩:∃ t,t=u / 256 ^ q:=⟨_,rfl⟩
      have ht128:t<128:=by rw [ht];exact HTOP.out
      have hg:((be (q+1) u)[0]'hl0).toNat=t:=by rw [kqU,show q+1 - 1 - 0=q by omega,<-ht,Nat.mod_eq_of_lt (by omega)]
      have g0:wr.cell? ⟨g,0,none⟩=some (.int .u8 (t:Int)):=by rw [HO2.out.own.cell1 vvy hl0,hg]
      have g1:wr.frozen? ⟨g,0,none⟩=false:=HO2.out.own.free1 vvy 0
      obtain⟨y,hy⟩:∃ y:UInt8,y=UInt8.ofNat (t+128):=⟨_,rfl⟩
      have hor:bits BinOp.or IntKind.u8 (t:Int) 128=((y.toNat:Nat):Int):=by
       rw [u8_or128_right _ (by omega) (by omega),hy,UInt8.toNat_ofNat',Nat.mod_eq_of_lt (by omega)]
       omega
      have HFIN:=zH (show (be (q+1) u).set 0 y=be (q+1) (u+128*256 ^ q) by
       have:=be_set (q+1) u 0 128 (by omega) (by rw [show q+1 - 1 - 0=q by omega,<-ht];omega)
       rw [show q+1 - 1 - 0=q by omega,<-ht,Nat.mod_eq_of_lt (by omega)] at this
       rw [hy];exact this)
      have HHOR:=zH hor
      have hq0:(0:Int)<(q:Int)+1:=by omega
      clear hg ht hy hl0 hor
      go_wp2_with fail
      rw [HHOR.out]
      go_ret
      have hr:=HO2.out.own.set1 vvy 0 y trivial
      refine⟨_,_,c2,rfl,?_,zzi HB2.out (HO2.out.own.base1 vvy).1 _⟩
      rw [HB.out,if_pos (by simp),<-HFIN.out]
      exact zz9 ⟨_,hr⟩
  | succ i =>
    obtain rfl:z=(i:Int):=by omega
    have z0:(0:Int)<=(i:Int):=by omega
    clear hz
    obtain⟨p,hp⟩:∃ p,q+1 - (i+1)=p:=⟨_,rfl⟩
    obtain⟨y,hy⟩:∃ y:UInt8,y=UInt8.ofNat (u / 256 ^ i):=⟨_,rfl⟩
    have hyn:((y.toNat:Nat):Int)=((u / 2 ^ (8*i) % 256:Nat):Int):=by rw [hy,UInt8.toNat_ofNat',uuV]
    have f1:IntKind.u8.wrap ((u:Int) / 2 ^ (8*i))=((y.toNat:Nat):Int):=by
     rw [hyn,IntKind.wrap_u8,show (u:Int) / 2 ^ (8*i)=((u / 2 ^ (8*i):Nat):Int) by simp]
     omega
    have f2:(u:Int) / 2 ^ (8*i) % 256=((y.toNat:Nat):Int):=by
     rw [hyn,show (u:Int) / 2 ^ (8*i)=((u / 2 ^ (8*i):Nat):Int) by simp]
     omega
    have HT:=zH (show (be (q+1) u).take (p+1)=(be (q+1) u).take p++[y] by rw [be_take (q+1) u p (by omega),hy,show q+1 - 1 - p=i by omega])
    rw [hp] at HO
    have HP:=zH hp
    rw [hp]
    have hp8:p<=9:=by omega
    clear hp hy hyn
    go_wp2_with (first
     | (at_builtin;refine apb1 wr w rfl (.tmp 23) (.tmp 29) rfl w.heap.size A2 p c2 ((be (q+1) u).take p) rfl HO.out HB2.out zN _ rfl y rfl (by omega) ?_;intro A3 c3 w3 h3 hb3 _)
     | fail)
    go_roundw
    case rel=>exact⟨i,(i:Int) - 1,A3,c3,by omega,rfl,by first | rfl | go_num,by rw [show q+1 - i=p+1 by have:=HP.out;omega],by rw [show q+1 - i=p+1 by have:=HP.out;omega,HT.out];exact h3,hb3⟩
    case measure=>simp [intOf]
end
end Go.Proofs.YtpmglcachffojaaGreatDoor
