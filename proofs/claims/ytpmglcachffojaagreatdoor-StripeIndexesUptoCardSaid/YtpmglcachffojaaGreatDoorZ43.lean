/- A part of what Indexes leans on. -/
import Derived.Test.YtpmglcachffojaaGreatDoorZ42
set_option maxRecDepth 100000
set_option maxHeartbeats 16000000
namespace Go.Proofs.YtpmglcachffojaaGreatDoor
section
open Go Go.RowKit
def vS (i:Nat):VV:=⟨false,(i:Int),⟨#[]⟩⟩
def yyF (k:Nat):List RR:=(List.range k).map fun i=>[vS i]
def xx3:List CC:=[(⟨#[97]⟩,2)]
theorem xq3 (k:Nat):yyF (k+1)=yyF k++[[vS k]]:=by unfold yyF;rw [List.range_succ,List.map_append];rfl
theorem uuc (k:Nat):(yyF k).length=k:=by unfold yyF;simp
theorem sch_S:schB xx3=true:=by decide +kernel
theorem rows_S:(yyF 9).all (rowB xx3)=true:=by decide +kernel
theorem putE_S:putE xx3 (yyF 9)=0:=zq9 sch_S (by rw [uuc];omega) rows_S
theorem nP_S:nP (yyF 9)=2:=by unfold nP;rw [uuc]
theorem putS_S:putS xx3 (yyF 9)=[zz8 xx3 (yyi (yyF 9) 0),zz8 xx3 (yyi (yyF 9) 1)]:=by rw [(put_yes putE_S).2,nP_S];rfl
theorem fst_S0:(zz8 xx3 (yyi (yyF 9) 0)).1=8:=by show ((yyi (yyF 9) 0).length:Int)=8;rw [jjV,uuc];rfl
theorem fst_S1:(zz8 xx3 (yyi (yyF 9) 1)).1=1:=by show ((yyi (yyF 9) 1).length:Int)=1;rw [jjV,uuc];rfl
theorem vS_ok {k:Nat} (h:k<=100):(vS k).ok:=⟨by show -9223372036854775808<=(k:Int);omega,by show (k:Int)<=9223372036854775807;omega,Nat.zero_le _⟩
theorem colsS_sl (w:World):Sl tCol (fun b=>b=w.heap.size) (w.alloc (.cells #[.string ⟨#[97]⟩,.int .i64 2] 93)) (some ⟨w.heap.size,0,none⟩) 1 1 xx3 :=
 (Sl.new (T:=tCol) (F:=fun _=>False) (cs:=[.string ⟨#[97]⟩,.int .i64 2]) (x:=(⟨#[97]⟩,2)) ⟨[.string ⟨#[97]⟩],[.int .i64 2],rfl,⟨rfl,by decide⟩,rfl,by decide,by decide⟩ 93 _ rfl).weaken fun b hb _=>hb.elim (fun h=>h.1.elim) id
theorem qxb (w:World) (hU:Lib.Utf8Tabs 0 1 w):Calls Tryz.prog 17 #[] w fun e w'=>e=.returned (.bool true)/\Below w.heap.size w w':=by
 have HU:=zH hU
 clear hU
 go_enter Tryz.func17,Tryz.ntmps17
 go_upto_region 2 with (first
  | (go_at_call 19;refine (new_any _).mono ?_;rintro e w1 ⟨rfl,hb1⟩;have HB1:=zH hb1;clear hb1;obtain⟨w2,ht2⟩:=tabW w1;have HT2:=zH ht2;clear ht2)
  | (with_reducible refine wpList_store_mid rfl _ _ _ rfl w1.heap.size 0 jjt rfl rfl (qzX w1) (by kernel_rfl) one_tab ?_)
  | fail)
 rw [<-HT2.out.eq]
 obtain⟨g,hg⟩:∃ g,g=w1.heap.size:=⟨_,rfl⟩
 have HTG:Hid (TabC g w2):=zH (by rw [hg];exact HT2.out.tab)
 have HB2:=zH (HB1.out.trans (HT2.out.below.mono HB1.out.size))
 rw [<-hg]
 clear hg
 go_wp2_with fail
 go_loopw [2,3] (fun sv kv wr=>∃ (k:Nat) (A2:Option Addr) (c2:Nat) (G:Nat->Prop),k<=9/\kv=.int .i64 (k:Int)/\sv=.slice A2 k c2/\OwnF tRow 91 G wr w2.heap.size A2 k c2 (yyF k)/\Below w2.heap.size w2 wr) (fun _ kv _=>9 - (intOf kv).toNat)
 case atStart=>exact⟨0,_,_,fun _=>False,by omega,rfl,rfl,OwnF.empty _ _ _ _ _ zN (fun _ h=>h.elim),(zR).alloc zN _⟩
 case round =>
  obtain⟨k,A2,c2,G,hk,rfl,rfl,ho,hb⟩:=hrel
  have HO:=zH ho;have HB:=zH hb
  clear ho hb
  by_cases hlt:k<9
  · have h1:(k:Int)<9:=by omega
    obtain⟨q,hq⟩:∃ q,q=wr.alloc (.cells #[.bool false,.int .i64 (k:Int),.string ⟨#[]⟩] 74):=⟨_,rfl⟩
    have HOQ:Hid (OwnF tRow 91 G q w2.heap.size A2 k c2 (yyF k)):=zH (by rw [hq];exact HO.out.alloc _)
    have HBQ:Hid (Below w2.heap.size w2 q):=zH (by rw [hq];exact HB.out.alloc HB.out.size _)
    have HSQ:Hid (tRow.rep (fun b=>b=wr.heap.size) q [.slice (some ⟨wr.heap.size,0,none⟩) 1 1] [vS k]):=zH (by
     rw [hq]
     exact⟨_,_,_,rfl,(Sl.new (T:=tVV) (F:=fun _=>False) (cs:=[.bool false,.int .i64 (k:Int),.string ⟨#[]⟩]) (x:=vS k) ⟨rfl,vS_ok (by omega)⟩ 74 _ rfl).weaken fun b hb _=>hb.elim (fun h=>h.1.elim) id⟩)
    have HQZ:Hid (q.heap.size=wr.heap.size+1):=zH (by rw [hq,zS])
    have HS9:=zH (xq3 k)
    have HQ:=zH hq
    clear hq
    go_wp2_with (first
     | (at_builtin;rw [<-HQ.out];refine apl1 (T:=tRow) elemRow20 q w2 rfl (.tmp 13) (.tmp 17) rfl w2.heap.size A2 k c2 (yyF k) (by rfl) G (fun b=>b=wr.heap.size) HOQ.out HBQ.out zN _ (by rw [HQZ.out];rfl) [.slice (some ⟨wr.heap.size,0,none⟩) 1 1] [vS k] HSQ.out 91 rfl (fun b e _ _ h4=>by have h5:=(HO.out.lies' (b:=b) (by rw [e];rfl)).2.2;omega) (by omega) ?_;intro A5 c5 w5 h5)
     | fail)
    go_roundw
    case rel=>exact⟨k+1,A5,c5,_,by omega,by go_num,rfl,by rw [HS9.out];exact h5.own,h5.below⟩
    case measure=>simp [intOf];omega
  · obtain rfl:k=9:=by omega
    have HB3:=zH (HB2.out.trans (HB.out.mono HB2.out.size))
    have HS:=zH HO.out.sl
    obtain⟨wq,hwq⟩:∃ wq,wq=wr.alloc (.cells #[.string ⟨#[97]⟩,.int .i64 2] 93):=⟨_,rfl⟩
    have hbq:Below wr.heap.size wr wq:=by rw [hwq];exact (zR).alloc zN _
    have HCQ:Hid (Sl tCol (fun b=>b=wr.heap.size) wq (some ⟨wr.heap.size,0,none⟩) 1 1 xx3):=zH (by rw [hwq];exact colsS_sl wr)
    have HSQ:=zH (HS.out.below hbq zN)
    have HTQ:Hid (TabC g wq):=zH ((HTG.out.keep HB.out).keep hbq)
    have HBQ:=zH (HB3.out.trans (hbq.mono HB3.out.size))
    have HUQ:=zH (zzb HU.out HBQ.out)
    have HWQ:=zH hwq
    clear hwq hbq
    go_upto_region 8 with (first
     | (go_at_call 20;rw [<-HWQ.out];refine (sput_any g _ _ _ A2 1 1 9 c2 xx3 (yyF 9) wq HTQ.out HCQ.out HSQ.out (by omega) (by omega) HUQ.out).mono ?_;rintro e w5 ⟨A5,n5,c5,A6,n6,c6,rfl,hs5,hs6,hb5⟩;rw [putE_S];rw [putS_S] at hs6;have HB5:=zH (HBQ.out.trans (hb5.mono HBQ.out.size));have HS6:=zH hs6;clear hs5 hs6 hb5)
     | fail)
    obtain rfl:n6=2:=HS6.out.len
    obtain⟨b,o,cs,rfl,_,_,hrep,hc⟩:=HS6.out.at_ (k:=0) (by simp) (by decide)
    obtain⟨A7,n7,c7,A8,n8,c8,rfl,-,-⟩:=yyg hrep
    have y0:=hc 0 _ rfl
    rw [show ([zz8 xx3 (yyi (yyF 9) 0),zz8 xx3 (yyi (yyF 9) 1)]:List ST)[0]=zz8 xx3 (yyi (yyF 9) 0) from rfl,fst_S0] at y0
    obtain⟨b',o',cs,e1,_,_,hrep',hc'⟩:=HS6.out.at_ (k:=1) (by simp) (by decide)
    injection e1 with e1;injection e1 with e1 e2;subst e1 e2
    obtain⟨A9,n9,c9,A10,n10,c10,rfl,-,-⟩:=yyg hrep'
    have y1:=hc' 0 _ rfl
    rw [show ([zz8 xx3 (yyi (yyF 9) 0),zz8 xx3 (yyi (yyF 9) 1)]:List ST)[1]=zz8 xx3 (yyi (yyF 9) 1) from rfl,fst_S1] at y1
    have y0:w5.cell? ⟨b,o,none⟩=some (.int .i64 8):=by
     have e:o+(0*tSt.size+0)=o:=by omega
     rw [e] at y0;exact y0
    have y1:w5.cell? ⟨b,o+3,none⟩=some (.int .i64 1):=by
     have e:o+(1*tSt.size+0)=o+3:=rfl
     rw [e] at y1;exact y1
    clear hrep hrep' hc hc'
    go_wp2_with fail
    go_ret
    exact⟨rfl,HB5.out⟩
end
end Go.Proofs.YtpmglcachffojaaGreatDoor
