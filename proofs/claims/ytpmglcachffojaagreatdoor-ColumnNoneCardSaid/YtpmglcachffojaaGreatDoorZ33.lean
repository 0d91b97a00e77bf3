/- A part of what None leans on. -/
import Derived.Test.YtpmglcachffojaaGreatDoorZ30
import Derived.Test.YtpmglcachffojaaGreatDoorZ32
import Derived.Laws.IdiomStrings
set_option maxRecDepth 100000
set_option maxHeartbeats 16000000
namespace Go.Proofs.YtpmglcachffojaaGreatDoor
section
open Go Go.RowKit
theorem jjJ (k:Int) (F:Nat->Prop) (A:Option Addr) (n c:Nat) (l:List VV) (w:World) (h:Sl tVV F w A n c l) (hn:n<=4096) (hT:Lib.Utf8Tabs 0 1 w) :
 Calls Tryz.prog 12 #[.int .i64 k,.slice A n c] w (xxe k l w):=by
 by_cases hE:colE k l=0
 · have hk:1<=k/\k<=7:=by
    by_cases hk:1<=k/\k<=7
    · exact hk
    · unfold colE at hE
      rw [if_neg hk] at hE
      exact absurd hE (by decide)
   have hall:l.all (mayV k)=true:=by
    cases hq:l.all (mayV k) with
    | true=>rfl
    | false =>
      unfold colE at hE
      rw [if_pos hk,hq] at hE
      exact absurd hE (by decide)
   by_cases h5:k<=5
   · exact zq8 k F A n c l w h hn hT ⟨hk.1,h5⟩ hall
   · exact zq9 k F A n c l w h hn hT (by omega) hall
 · exact qxX k F A n c l w h hn hT hE
end
section
open Go Go.RowKit
def exV:List VV:=[⟨true,0,⟨#[]⟩⟩,⟨false,1,⟨#[]⟩⟩]
def exS:List (Int×List UInt8):=[(1,[255,64]),(2,[66,0,128])]
theorem exV_E:colE 2 exV=0:=by decide +kernel
theorem exV_R:colR 2 exV=(2,1,0,exS):=by decide +kernel
theorem xqy (X:World):Sl tVV (fun _=>True) (X.alloc (.cells #[.bool true,.int .i64 0,.string ⟨#[]⟩,.bool false,.int .i64 1,.string ⟨#[]⟩] 74)) (some ⟨X.heap.size,0,none⟩) 2 2 exV :=
 (Sl.news (T:=tVV) (F:=fun _=>False) (w:=X) (Reps.mk2 (T:=tVV) (x1:=(⟨true,0,⟨#[]⟩⟩:VV)) (x2:=(⟨false,1,⟨#[]⟩⟩:VV)) ⟨rfl,by unfold VV.ok;decide⟩ ⟨rfl,by unfold VV.ok;decide⟩) 74 2 rfl (by omega) _ rfl).any
theorem qz1 {F:Nat->Prop} {w:World} {A:Option Addr} {n c:Nat} {bs:List UInt8} (h:Sl tU8 F w A n c bs) (hne:0<bs.length) :
 (convert 41 9 (.slice A n c)).run Tryz.prog w=.ok (.string ⟨bs.toArray⟩) w:=by
 obtain⟨b,o,_,rfl,_⟩:=h.at1 hne rfl
 obtain rfl:=h.len
 refine run_convert_bytes_back w _ _ 5 ⟨b,o,none⟩ c bs Tryz.underlying41 Tryz.underlying5 Tryz.underlying9 fun j hj=>?_
 obtain⟨b',o',u,e,_,_,hr,hc⟩:=h.at1 hj rfl
 cases e
 have hr:[u]=[Value.int .u8 (bs[j].toNat:Int)]:=hr
 injection hr with hr
 subst hr
 unfold Addr.add
 split
 · rename_i h0;subst h0;exact hc
 · exact hc
theorem qx1 (F:Nat->Prop) (A:Option Addr) (w:World) (h:Sl tVV F w A 2 2 exV) (hT:Lib.Utf8Tabs 0 1 w) :
 Calls Tryz.prog 12 #[.int .i64 2,.slice A 2 2] w fun e w'=>∃ b o c A1 n1 c1 A2 n2 c2,e=.returned (.tuple #[.agg #[.int .i64 2,.int .i64 1,.int .i64 0,.slice (some ⟨b,o,none⟩) 2 c],.int .i64 0])/\Below w.heap.size w w' /\
  b<w'.heap.size/\w'.cell? ⟨b,o+1,none⟩=some (.slice A1 n1 c1)/\w'.cell? ⟨b,o+3,none⟩=some (.slice A2 n2 c2)/\Sl tU8 (fun _=>True) w' A1 n1 c1 [255,64]/\Sl tU8 (fun _=>True) w' A2 n2 c2 [66,0,128]/\Sl zzo (fun _=>True) w' (some ⟨b,o,none⟩) 2 c exS:=by
 refine (jjJ 2 F A 2 2 exV w h (by omega) hT).mono ?_
 rintro e w' ⟨A',n,c,rfl,hs,hb⟩
 rw [exV_R] at hs ⊢
 rw [exV_E]
 have hs:=hs.weaken (F':=fun _=>True) fun _ _ _=>trivial
 have hs:Sl zzo (fun _=>True) w' A' n c exS:=hs
 have hn:=hs.len
 obtain rfl:n=2:=hn
 obtain⟨b,o,cs,rfl,_,hbl,hr,hg⟩:=hs.at_ (k:=0) (by decide) (by decide)
 obtain⟨b',o',cs',e2,_,_,hr',hg'⟩:=hs.at_ (k:=1) (by decide) (by decide)
 cases e2
 obtain⟨c1,c2,rfl,⟨h1,_⟩,A1,n1,cc1,h2,hsl1⟩:=hr
 obtain⟨d1,d2,rfl,⟨k1,_⟩,A2,n2,cc2,k2,hsl2⟩:=hr'
 subst h1 h2 k1 k2
 exact⟨b,o,c,A1,n1,cc1,A2,n2,cc2,rfl,hb,hbl,hg 1 _ rfl,hg' 1 _ rfl,hsl1,hsl2,hs⟩
theorem kqu (w:World) (hT:Lib.Utf8Tabs 0 1 w) :
 Calls Tryz.prog 10 #[] w fun e w'=>e=.returned (.bool true)/\Below w.heap.size w w':=by
 have HT:=zH hT;clear hT
 have HB0:=zH (show Below w.heap.size w (w.alloc (.cells #[.bool true,.int .i64 0,.string ⟨#[]⟩,.bool false,.int .i64 1,.string ⟨#[]⟩] 74)) from (zR).alloc zN _)
 go_enter Tryz.func10,Tryz.ntmps10
 go_upto_region 2 with (first
  | (go_at_call 12;refine (qx1 _ _ _ (xqy w) (zzh HT.out HB0.out)).mono ?_;rintro e w1 ⟨b,o,c,A1,n1,c1,A2,n2,c2,rfl,hb1,hbl,g1,g2,hs1,hs2,hss⟩;have HB1:=zH (HB0.out.trans (hb1.mono HB0.out.size));have HS1:=zH hs1;have HS2:=zH hs2;have HSS:=zH hss;have HG1:=zH g1;have HG2:=zH g2;clear hb1 hs1 hs2 hss g1 g2)
  | fail)
 obtain⟨w2,hw2⟩:∃ w2,w2=w1.alloc (.cells #[.int .i64 2,.int .i64 1,.int .i64 0,.slice (some ⟨b,o,none⟩) 2 c] 27):=⟨_,rfl⟩
 rw [<-hw2]
 have hb12:Below w1.heap.size w1 w2:=by rw [hw2];exact (zR).alloc zN _
 have hg2:w2.heap[w1.heap.size]?=some (.cells #[.int .i64 2,.int .i64 1,.int .i64 0,.slice (some ⟨b,o,none⟩) 2 c] 27 (0,0)):=by rw [hw2];exact heap_alloc_new _ _
 obtain⟨⟨q0,_⟩,⟨q1,_⟩,⟨q2,_⟩,⟨q3,_⟩⟩:=zzj hg2
 have g1:=zzt hb12 HG1.out
 have g2:=zzt hb12 HG2.out
 have k1:(convert 41 9 (.slice A1 n1 c1)).run Tryz.prog w2=.ok (.string ⟨#[255,64]⟩) w2:=qz1 (HS1.out.below hb12 zN) (by decide)
 have k2:(convert 41 9 (.slice A2 n2 c2)).run Tryz.prog w2=.ok (.string ⟨#[66,0,128]⟩) w2:=qz1 (HS2.out.below hb12 zN) (by decide)
 have HSS2:=zH (HSS.out.below hb12 zN)
 have HB2:=zH (HB1.out.trans (hb12.mono HB1.out.size))
 have e5:((yyI exS:Nat):Int)=5:=by decide
 have HE5:=zH e5
 clear hw2 hb12 hg2 e5
 go_wp2_with (first
  | (go_at_call 15;refine (qz0 2 1 0 _ (some ⟨b,o,none⟩) 2 c exS _ HSS2.out (by omega) (by decide)).mono ?_;rintro e w3 ⟨rfl,hb3⟩;rw [HE5.out];have HB3:=zH hb3;clear hb3)
  | fail)
 go_ret
 exact⟨rfl,HB2.out.trans (HB3.out.mono HB2.out.size)⟩
end
section
open Go Go.RowKit
theorem qxp (x:Int) (m:Nat) (hm:m<4294967296):∃ a:Nat,bits BinOp.and IntKind.i64 x (m:Int)=(a:Int)/\a<=m:=by
 have e:bits BinOp.and IntKind.i64 x (m:Int)=IntKind.i64.wrap ((BitVec.ofInt 64 x &&& BitVec.ofInt 64 ((m:Nat):Int)).toNat:Int):=rfl
 have h1:(BitVec.ofInt 64 x &&& BitVec.ofInt 64 ((m:Nat):Int)).toNat<=m:=by
  rw [BitVec.toNat_and]
  refine Nat.le_trans Nat.and_le_right ?_
  rw [BitVec.toNat_ofInt]
  omega
 refine⟨_,?_,h1⟩
 rw [e,IntKind.wrap_i64]
 omega
theorem qxc {k:Int} (hk:1<=k/\k<=7) (n:Nat):∃ (en tx:Int) (rest:List (Int×List UInt8)),colR k (zzE n)=((n:Int),en,tx,(1,zzI (zzE n))::rest)/\1<=rest.length/\rest.length<=3/\(∀ s∈rest,s.2=[]) /\
 ∀ (N:Int) (F:Nat->Prop) (A:Option Addr) (m c:Nat) (W:World),Sl zzo F W A m c ((1,zzI (zzE n))::rest)->Calls Tryz.prog 79 #[.int .i64 k,.agg #[.int .i64 N,.int .i64 en,.int .i64 tx,.slice A m c],.int .i64 0] W fun e w'=>e=.returned (.tuple #[.slice none 0 0,.int .i64 0])/\Below W.heap.size W w':=by
 by_cases h5:k<=5
 · refine⟨1,0,[(2,[])],qzY ⟨hk.1,h5⟩ n,by simp,by simp,by simp,fun N F A m c W h=>?_⟩
   obtain rfl:m=2:=h.len
   exact zq6 k N F A c _ W h ⟨hk.1,h5⟩
 · refine⟨2,0,[(2,[]),(3,[]),(4,[])],qzZ ⟨by omega,hk.2⟩ n,by simp,by simp,by simp,fun N F A m c W h=>?_⟩
   obtain rfl:m=4:=h.len
   exact zq7 k N F A c _ W h ⟨by omega,hk.2⟩
theorem xx9 (kind many:Int) (w:World) (hU:Lib.Utf8Tabs 0 1 w) :
 Calls Tryz.prog 8 #[.int .i64 kind,.int .i64 many] w fun e w'=>e=.returned (.bool true)/\Below w.heap.size w w':=by
 have HU:=zH hU
 obtain⟨a,ha,ha7⟩:=qxp kind 7 (by omega)
 obtain⟨d,hd,hd7⟩:=qxp many 255 (by omega)
 have ha:bits BinOp.and IntKind.i64 kind 7=(a:Int):=ha
 have hd:bits BinOp.and IntKind.i64 many 255=(d:Int):=hd
 obtain⟨b,hb⟩:∃ b,b=a % 7:=⟨_,rfl⟩
 have t1:(a:Int).tmod 7=(b:Int):=by rw [Int.tmod_eq_emod_of_nonneg (by omega)];omega
 have t2:(a:Int) % 7=(b:Int):=by omega
 obtain⟨k,hk⟩:∃ k,k=1+b:=⟨_,rfl⟩
 obtain⟨n,hn⟩:∃ n,n=1+d:=⟨_,rfl⟩
 have t3:IntKind.i64.wrap (1+(b:Int))=(k:Int):=by rw [IntKind.wrap_i64];omega
 have t4:IntKind.i64.wrap (1+(d:Int))=(n:Int):=by rw [IntKind.wrap_i64];omega
 have t5:(1:Int)+(b:Int)=(k:Int):=by omega
 have HK:Hid (1<=(k:Int)/\(k:Int)<=7):=zH (by omega)
 have HN:Hid (1<=n/\n<=256):=zH (by omega)
 obtain⟨en,tx,rest,hcol,hr1,hr3,hre,hsome⟩:=qxc HK.out n
 obtain⟨P,hP⟩:∃ P,P=zzI (zzE n):=⟨_,rfl⟩
 obtain⟨hnu,hne,hpl⟩:=qxb HN.out.1 HN.out.2
 rw [<-hP] at hcol hsome hnu hne hpl
 have HC1:Hid ((colR (k:Int) (zzE n)).1=(n:Int)):=zH (by rw [hcol])
 have HC2:Hid ((colR (k:Int) (zzE n)).2.1=en):=zH (by rw [hcol])
 have HC3:Hid ((colR (k:Int) (zzE n)).2.2.1=tx):=zH (by rw [hcol])
 have HC4:Hid ((colR (k:Int) (zzE n)).2.2.2=(1,P)::rest):=zH (by rw [hcol])
 have HR1:=zH hr1;have HR3:=zH hr3;have HRE:=zH hre;have HSM:=zH hsome
 have HNU:=zH hnu;have HNE:=zH hne;have HPL:=zH hpl
 have HE:=zH (uu7 HK.out n)
 clear hU ha7 hd7 hb hk hn hcol hr1 hr3 hre hsome hP hnu hne hpl
 go_enter Tryz.func8,Tryz.ntmps8
 go_wp2_with (first
  | (go_at_call 10;refine (kqu _ HU.out).mono ?_;rintro e w1 ⟨rfl,hb1⟩;have HB1:=zH hb1;clear hb1)
  | fail)
 clear ha hd t1 t2 t3 t4 t5
 go_loopw [8,9] (fun lv iv wr=>∃ (i:Nat) (A2:Option Addr) (c2:Nat),i<=n/\iv=.int .i64 (i:Int)/\lv=.slice A2 i c2/\OwnF tVV 74 (fun _=>False) wr w1.heap.size A2 i c2 (zzE i)/\Below w1.heap.size w1 wr) (fun _ iv _=>n - (intOf iv).toNat)
 case atStart=>exact⟨0,_,_,Nat.zero_le _,rfl,rfl,OwnF.empty _ _ _ _ _ zN (fun _ h=>h.elim),(zR).alloc zN _⟩
 case round =>
  obtain⟨i,A2,c2,hi,rfl,rfl,ho,hb⟩:=hrel
  have HO:=zH ho;have HB:=zH hb
  clear ho hb
  by_cases hlt:i<n
  · have i1:(i:Int)<(n:Int):=by omega
    have i2:(i:Int)<=256:=by have:=HN.out;omega
    have HLIM:Hid (i<=34359738368):=zH (by omega)
    have HS:=zH (show zzE (i+1)=zzE i++[zzz false] by unfold zzE;rw [List.replicate_succ'])
    have HOK:Hid (tVV.rep (fun _=>False) wr [.bool true,.int .i64 0,.string ⟨#[]⟩] (zzz false)):=zH ⟨rfl,show (-9223372036854775808:Int)<=0 by decide,show (0:Int)<=9223372036854775807 by decide,show (⟨#[]⟩:ByteArray).size<=Go.maxLen by decide⟩
    go_wp2_with (first
     | (at_builtin;refine apl1 (T:=tVV) qzy wr w1 rfl (.tmp 30) (.tmp 32) rfl w1.heap.size A2 i c2 _ (by rfl) (fun _=>False) (fun _=>False) HO.out HB.out zN _ (by rfl) [.bool true,.int .i64 0,.string ⟨#[]⟩] (zzz false) HOK.out 74 rfl (fun _ _ _ _ h=>h) HLIM.out ?_;intro A5 c5 w5 h5)
     | fail)
    go_roundw
    case rel=>exact⟨i+1,A5,c5,by omega,by go_num,rfl,by rw [HS.out];exact h5.own.weaken (fun b hb _=>hb.1.elim id id) (fun _ _ _ _ h=>h),h5.below⟩
    case measure=>simp [intOf];omega
  · obtain rfl:i=n:=by omega
    have HBX:=zH (HB1.out.trans (HB.out.mono HB1.out.size))
    clear hi hlt
    go_upto_region 10 with (first
     | (go_at_call 12;refine (jjJ _ _ A2 i c2 (zzE i) _ HO.out.sl (by have:=HN.out;omega) (zzh HU.out HBX.out)).mono ?_;rintro e w3 ⟨A3,m3,c3,rfl,hs3,hb3⟩;rw [HC4.out] at hs3;rw [HC1.out,HC2.out,HC3.out,HE.out];have HS3:=zH hs3;have HB3:=zH hb3;clear hs3 hb3)
     | fail)
    obtain⟨w4,hw4,hg4,hb4⟩:=boxC (i:Int) en tx A3 m3 c3 w3
    have hs4:=HS3.out.below hb4 zN
    have hm3:m3=rest.length+1:=HS3.out.len
    obtain⟨b,o,_,rfl,_,_,_,_⟩:=hs4.at_ (k:=0) (by simp) (by decide)
    obtain⟨A8,n8,c8,z0,z1,hs8⟩:=uu6 hs4 (by simp)
    have hn8:0<n8:=by rw [hs8.len];exact List.length_pos_iff.2 HNE.out
    have HS4:=zH hs4;have HB4:=zH hb4;have HM3:=zH hm3
    obtain⟨⟨a0,_⟩,⟨a1,_⟩,⟨a2,_⟩,⟨a3,_⟩⟩:=zzj hg4
    have y1:¬ (m3:Int)<2:=by have:=HR1.out;omega
    have y2:0<m3:=by omega
    have y3:(0:Int)<(m3:Int):=by omega
    have y4:¬ (n8:Int)=0:=by omega
    have y5:((n8:Int)==0)=false:=by simpa using y4
    have HB34:=zH ((HBX.out.trans (HB3.out.mono HBX.out.size)).trans (hb4.mono (Nat.le_trans HBX.out.size HB3.out.size)))
    have HO4:=zH ((HO.out.sl.below HB3.out zN).below hb4 zN)
    have HG4:=zH hg4
    rw [<-hw4]
    clear hw4 hg4 hb4 hs4 hs8 hm3 hn8
    go_wp2_with fail
    clear z0 z1 y1 y4 y5
    go_loopw [12] (fun jv wx=>∃ j:Nat,1<=j/\j<=m3/\jv=.int .i64 (j:Int)/\wx=w4) (fun jv _=>m3 - (intOf jv).toNat)
    case atStart=>exact⟨1,Nat.le_refl _,y2,rfl,rfl⟩
    case round =>
     obtain⟨j,hj1,hj,rfl,hw⟩:=hrel
     obtain rfl:=hw.symm
     by_cases hlt:j<m3
     · obtain⟨b',o',cs,e9,_,_,hrep,hc⟩:=HS4.out.at_ (k:=j) (by rw [List.length_cons,<-HM3.out];exact hlt) (by decide)
       injection e9 with e9;injection e9 with e9 e9';subst e9 e9'
       obtain⟨d1,d2,rfl,⟨h1,_⟩,A9,n9,c9,h2,hsl⟩:=hrep
       subst h1 h2
       obtain⟨g0,g1⟩:=vvb hc
       have hn9:n9=0:=by
        rw [hsl.len]
        obtain⟨q,rfl⟩:∃ q,j=q+1:=⟨j - 1,by omega⟩
        rw [List.getElem_cons_succ,HRE.out _ (List.getElem_mem _)];rfl
       subst hn9
       have j0:(0:Int)<=(j:Int):=by omega
       have j1:(j:Int)<(m3:Int):=by omega
       have j3:(j:Int)<=4:=by have h1:=HM3.out;have h2:=HR3.out;omega
       clear hc hsl g0
       go_wp2_with fail
       go_roundw
       case rel=>exact⟨j+1,by omega,by omega,by go_num,by first | trivial | rfl⟩
       case measure=>simp [intOf];omega
     · obtain rfl:j=m3:=by omega
       clear hj hj1 hlt
       go_wp2_with (first
        | (go_at_call 34;refine (kqr _ i en tx _ _ j c3 P rest w4 HS4.out HK.out (by have:=HN.out;omega) HNE.out (by have:=HPL.out;omega) HNU.out (fun W hb=>HSM.out _ _ _ _ _ W (HS4.out.below hb zN))).mono ?_;rintro e w6 ⟨A6,n6,c6,rfl,hs6,hb6⟩;have HS6:Hid (Sl tVV (fun b=>w4.heap.size<=b) w6 A6 n6 c6 (zzE i)):=zH hs6;have HB6:=zH hb6;clear hs6 hb6)
        | (go_at_call 35;refine (uu9 _ _ A6 A2 n6 c6 i c2 (zzE i) w6 HS6.out (HO4.out.below HB6.out zN)).mono ?_;rintro e w7 ⟨rfl,hd7⟩;have HB7:=zH hd7.below;clear hd7)
        | fail)
       go_ret
       exact⟨rfl,(HB34.out.trans (HB6.out.mono HB34.out.size)).trans (HB7.out.mono (Nat.le_trans HB34.out.size HB6.out.size))⟩
end
end Go.Proofs.YtpmglcachffojaaGreatDoor
