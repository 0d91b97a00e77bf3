/- A part of what None leans on. -/
import Derived.Test.YtpmglcachffojaaGreatDoorZ31
set_option maxRecDepth 100000
set_option maxHeartbeats 16000000
namespace Go.Proofs.YtpmglcachffojaaGreatDoor
section
open Go Go.RowKit
theorem zq8 (k:Int) (F:Nat->Prop) (A:Option Addr) (n c:Nat) (l:List VV) (w:World) (h:Sl tVV F w A n c l) (hn:n<=4096) (hT:Lib.Utf8Tabs 0 1 w) (hk:1<=k/\k<=5) (hall:l.all (mayV k)=true) :
 Calls Tryz.prog 12 #[.int .i64 k,.slice A n c] w (xxe k l w):=by
 have hn1:¬ (n:Int) > 4096:=by omega
 have hn2:¬ (4096:Int)<n:=by omega
 obtain⟨wc,hwc⟩:=colW k w
 have HWC:=zH hwc;have HN:=zH hn;have HK:=zH hk;have HL:=zH h.len
 have HH:=zH (h.below hwc.below zN);have HT:=zH (zzh hT hwc.below)
 have hbox:=hwc.box
 have HP:=zH (show decide (1<=k/\k<=7)=true from decide_eq_true (by omega))
 have HQ:=zH (show (!l.all (mayV k))=false by rw [hall];rfl)
 have hE:colE k l=0:=by unfold colE;rw [if_pos (by omega),hall];rfl
 have HE:=zH hE
 have HR:=zH (show colR k l=((l.length:Int),colC k l) from if_pos hE)
 have HM:=zH (show ∀ v∈l.filter zzp,v.null=false/\mayV k v=true from fun v hv=>by
  obtain⟨h1,h2⟩:=List.mem_filter.1 hv
  exact⟨by simpa [zzp] using h2,List.all_eq_true.1 hall v h1⟩)
 have HC:=zH (show colC k l=(1,0,[(1,zzI l),(2,xxW k (l.filter zzp))]) from if_pos hk)
 have HNM:=zH (show decide (1<=k/\k<=5)=true from decide_eq_true hk)
 clear h hn hT hwc hk hall hE
 go_enter Tryz.func12,Tryz.ntmps12
 go_upto_region 1 with fail
 rw [<-HWC.out.eq]
 go_upto_region 10 with (first
  | (go_at_call 38;refine (yyw _ _).mono ?_;rintro e w1 ⟨rfl,rfl⟩;rw [HP.out])
  | (go_at_call 39;refine (xxX k w.heap.size F A n c l _ HH.out hbox HT.out).mono ?_;rintro e w1 ⟨rfl,hb1⟩;rw [HQ.out];have HB1:=zH hb1;clear hb1)
  | (go_at_call 42;refine (jjw F A n c l _ (HH.out.below HB1.out zN) HN.out).mono ?_;rintro e w2 ⟨A1,n1,c1,A2,n2,c2,rfl,hs1,hs2,hb2⟩;have HS1:=zH hs1;have HS2:=zH hs2;have HB2:=zH hb2;clear hs1 hs2 hb2)
  | fail)
 have hz1:=HB1.out.size
 have hz2:=HB2.out.size
 have hzc:=HWC.out.size
 have HZ1:=zH hz1;have HZ2:=zH hz2;have HZC:=zH hzc
 have HL2:=zH HS2.out.len
 have hn24:n2<=4096:=by have:=HL2.out;have:=List.length_filter_le zzp l;have:=HL.out;have:=HN.out;omega
 have HN2:=zH hn24
 have HBX:=zH ((HWC.out.below.trans (HB1.out.mono HWC.out.below.size)).trans (HB2.out.mono (by have:=HWC.out.below.size;omega)))
 have hcol2:w2.heap[w.heap.size+1]?=some (.cells #[.int .i64 0,.int .i64 0,.int .i64 0,.slice none 0 0] 27 (0,0)):=(HB2.out.block _ (by omega)).trans ((HB1.out.block _ (by omega)).trans HWC.out.col)
 have HCOL:=zH hcol2
 have HBOX:=zH (zzt HB2.out (zzt HB1.out hbox))
 have HT2:=zH (zzh (zzh HT.out HB1.out) HB2.out)
 clear hbox hcol2 hz1 hz2 hzc hn24
 go_upto_region 12 with fail
 obtain⟨w3,hw3⟩:∃ w3,w3=w2.alloc (.cells #[.int .i64 (n:Int),.int .i64 1,.int .i64 0,.slice none 0 0] 85):=⟨_,rfl⟩
 rw [<-hw3]
 have hbu3:BuR w2 w2.heap.size (n:Int) 1 0 (fun _=>False) none 0 0 [] w3:=⟨by rw [hw3];exact heap_alloc_new w2 _,OwnF.nil_ _ _ _ _ _,by rw [hw3];exact (zR).alloc zN _⟩
 have BU3:=zH hbu3
 have HS13:=zH ((HS1.out.weaken (F':=fun b=>w1.heap.size<=b/\b<w2.heap.size) fun b hb hl=>⟨hb,hl⟩).below hbu3.below zN)
 clear hbu3 hw3
 go_upto_region 13 with (first
  | (go_at_call 43;refine (xxs w2 w2.heap.size (n:Int) 1 0 (fun _=>False) none 0 0 [] w3 BU3.out (fun h=>h) 1 (by omega) (fun b=>w1.heap.size<=b/\b<w2.heap.size) A1 n1 c1 (zzI l) HS13.out (fun h=>by omega) (fun b h=>by cases h) (by omega)).mono ?_;rintro e w4 ⟨rfl,⟨A4,c4,hbu4,_⟩,hz4,_⟩;have BU4:=zH hbu4;have hbox4:=zzt hbu4.below HBOX.out;have HZ4:=zH hz4;clear hbu4 hz4)
  | fail)
 have HF4:=zH (show ∀ b,((False∨(w1.heap.size<=b/\b<w2.heap.size))/\b<w3.heap.size)->w1.heap.size<=b/\b<w2.heap.size from fun b h=>h.1.elim (fun h=>h.elim) id)
 go_upto_region 15 with (first
  | (go_at_call 44;refine (zze _ _).mono ?_;rintro e w5 ⟨rfl,rfl⟩;rw [HNM.out])
  | (go_at_call 45;refine (zqO k HK.out _ A2 n2 c2 (l.filter zzp) _ (HS2.out.below BU4.out.below zN) HN2.out HM.out (zzh HT2.out BU4.out.below)).mono ?_;rintro e w5 ⟨hb5,A5,n5,c5,rfl,ho5⟩;have HO5:=zH ho5;have HB5:=zH hb5;clear ho5 hb5)
  | fail)
 have hg4:=zzc BU4.out.hold
 have hbu5:BuR w2 w2.heap.size (n:Int) 1 0 _ A4 1 c4 [(1,zzI l)] w5:=⟨(HB5.out.block _ hg4).trans BU4.out.hold,BU4.out.own.keepB HB5.out,BU4.out.below.trans (HB5.out.mono (by omega))⟩
 have BU5:=zH hbu5
 have HS5:=zH (HO5.out.own.sl.weaken (F':=fun b=>w4.heap.size<=b) fun b hb _=>by
  rcases hb with hb | hb
  · exact hb.elim
  · exact hb.2)
 have HG4:=zH hg4
 have HA4:=zH (show ∀ b,A4=some ⟨b,0,none⟩->b<w4.heap.size from fun b e=>(BU4.out.own.lies (b:=b) (by rw [zzb,e];rfl)).2.2)
 clear hbu5 hg4
 go_upto_region 16 with (first
  | (go_at_call 43;refine (xxs w2 w2.heap.size (n:Int) 1 0 _ A4 1 c4 [(1,zzI l)] w5 BU5.out (fun h=>by have:=(HF4.out _ h).2;omega) 2 (by omega) (fun b=>w4.heap.size<=b) A5 n5 c5 (xxW k (l.filter zzp)) HS5.out (fun h=>by have:=HG4.out;omega) (fun b h h2=>by have:=HA4.out b h;omega) (by omega)).mono ?_;rintro e w6 ⟨rfl,⟨A6,c6,hbu6,_⟩,_,_⟩;have BU6:=zH hbu6;clear hbu6)
  | fail)
 have hg6:=BU6.out.hold
 obtain⟨⟨z0,_⟩,⟨z1,_⟩,⟨z2,_⟩,⟨z3,_⟩⟩:=zzj hg6
 have hcol6:=(BU6.out.below.block _ (zzc HCOL.out)).trans HCOL.out
 obtain⟨⟨v0,y0⟩,⟨v1,y1⟩,⟨v2,y2⟩,⟨v3,y3⟩⟩:=zzj hcol6
 have HCOL6:=zH hcol6
 clear hg6 hcol6
 go_wp2_with fail
 refine bodyPost_ret (zzq rfl _ _ (w.heap.size+1) 27 #[.int .i64 (n:Int),.int .i64 1,.int .i64 0,.slice A6 2 c6] (0,0) _ rfl (jjH HCOL6.out _ _ _ _) Tryz.underlying27 rfl (by kernel_rfl)) rfl ?_
 unfold xxe
 rw [HR.out,HE.out,HC.out,<-HL.out]
 refine⟨A6,2,c6,rfl,?_,yyc (HBX.out.trans (BU6.out.below.mono HBX.out.size)) (by omega) _ _ _ _⟩
 have hs7:=BU6.out.own.sl.weaken (F':=fun b=>w.heap.size+2<=b) (fun b hb _=>by
  have e1:=HZ1.out;have e2:=HZ2.out;have e3:=HZC.out;have e4:=HG4.out
  rcases hb with hb | hb
  · rcases hb.1 with hb | hb
    · have:=(HF4.out _ hb).1;omega
    · omega
  · have:=hb.2;omega)
 exact (hs7.keep (by simp) (fun b hb _=>uuw (by omega) _ _ _ _)).weaken fun b hb _=>by omega
end
section
open Go Go.RowKit
theorem qxY (F:Nat->Prop) (A:Option Addr) (n c:Nat) (l:List ByteArray) (w:World) (h:Sl tStr F w A n c l) (hn:n<=4096) (hs:∀ s∈l,s.size<=300) (enc tx:Int) (ss:List (Int×List UInt8)) (ht:txC l=(enc,tx,ss)) :
 Calls Tryz.prog 46 #[.slice A n c] w fun e w'=>∃ A' n' c',e=.returned (.tuple #[.agg #[.int .i64 (n:Int),.int .i64 enc,.int .i64 tx,.slice A' n' c'],.int .i64 0])/\Sl zzo (fun b=>w.heap.size<=b) w' A' n' c' ss/\Below w.heap.size w w':=by
 have h1:=zqX F A n c l w h hn hs
 unfold jjC at h1
 rw [ht,<-h.len] at h1
 exact h1
theorem qxZ (l:List ByteArray):(txC l).2.2.length<=3:=by unfold txC;split <;> simp
theorem zq9 (k:Int) (F:Nat->Prop) (A:Option Addr) (n c:Nat) (l:List VV) (w:World) (h:Sl tVV F w A n c l) (hn:n<=4096) (hT:Lib.Utf8Tabs 0 1 w) (hk:k=6∨k=7) (hall:l.all (mayV k)=true) :
 Calls Tryz.prog 12 #[.int .i64 k,.slice A n c] w (xxe k l w):=by
 have hn1:¬ (n:Int) > 4096:=by omega
 have hn2:¬ (4096:Int)<n:=by omega
 obtain⟨wc,hwc⟩:=colW k w
 have HWC:=zH hwc;have HN:=zH hn;have HK:=zH hk;have HL:=zH h.len
 have HH:=zH (h.below hwc.below zN);have HT:=zH (zzh hT hwc.below)
 have hbox:=hwc.box
 have HP:=zH (show decide (1<=k/\k<=7)=true from decide_eq_true (by omega))
 have HQ:=zH (show (!l.all (mayV k))=false by rw [hall];rfl)
 have hE:colE k l=0:=by unfold colE;rw [if_pos (by omega),hall];rfl
 have HE:=zH hE
 have HR:=zH (show colR k l=((l.length:Int),colC k l) from if_pos hE)
 have HM:=zH (show ∀ v∈l.filter zzp,v.null=false/\mayV k v=true from fun v hv=>by
  obtain⟨h1,h2⟩:=List.mem_filter.1 hv
  exact⟨by simpa [zzp] using h2,List.all_eq_true.1 hall v h1⟩)
 obtain⟨ws,hws⟩:∃ ws,ws=(l.filter zzp).map (·.s):=⟨_,rfl⟩
 have HC:=zH (show colC k l=((txC ws).1,(txC ws).2.1,(1,zzI l)::(txC ws).2.2) by unfold colC;rw [if_neg (by omega),hws])
 obtain⟨enc,tx,ss,htx⟩:∃ enc tx ss,txC ws=(enc,tx,ss):=⟨_,_,_,rfl⟩
 have HWS:=zH hws;have HTX:=zH htx
 have HNM:=zH (show decide (1<=k/\k<=5)=false from decide_eq_false (by omega))
 have HSM:=zH (show ∀ s∈ws,s.size<=300 from fun s hs=>by
  rw [hws] at hs
  obtain⟨v,hv,rfl⟩:=List.mem_map.1 hs
  obtain⟨h1,h2⟩:=HM.out v hv
  unfold mayV at h2
  rw [if_neg (by omega),if_pos hk,h1] at h2
  simp at h2
  exact h2.2.1)
 clear h hn hT hwc hk hall hE hws htx
 go_enter Tryz.func12,Tryz.ntmps12
 go_upto_region 1 with fail
 rw [<-HWC.out.eq]
 go_upto_region 10 with (first
  | (go_at_call 38;refine (yyw _ _).mono ?_;rintro e w1 ⟨rfl,rfl⟩;rw [HP.out])
  | (go_at_call 39;refine (xxX k w.heap.size F A n c l _ HH.out hbox HT.out).mono ?_;rintro e w1 ⟨rfl,hb1⟩;rw [HQ.out];have HB1:=zH hb1;clear hb1)
  | (go_at_call 42;refine (jjw F A n c l _ (HH.out.below HB1.out zN) HN.out).mono ?_;rintro e w2 ⟨A1,n1,c1,A2,n2,c2,rfl,hs1,hs2,hb2⟩;have HS1:=zH hs1;have HS2:=zH hs2;have HB2:=zH hb2;clear hs1 hs2 hb2)
  | fail)
 have hz1:=HB1.out.size
 have hz2:=HB2.out.size
 have hzc:=HWC.out.size
 have HZ1:=zH hz1;have HZ2:=zH hz2;have HZC:=zH hzc
 have HL2:=zH HS2.out.len
 have hn24:n2<=4096:=by have:=HL2.out;have:=List.length_filter_le zzp l;have:=HL.out;have:=HN.out;omega
 have HN2:=zH hn24
 have HBX:=zH ((HWC.out.below.trans (HB1.out.mono HWC.out.below.size)).trans (HB2.out.mono (by have:=HWC.out.below.size;omega)))
 have hcol2:w2.heap[w.heap.size+1]?=some (.cells #[.int .i64 0,.int .i64 0,.int .i64 0,.slice none 0 0] 27 (0,0)):=(HB2.out.block _ (by omega)).trans ((HB1.out.block _ (by omega)).trans HWC.out.col)
 have HCOL:=zH hcol2
 have HBOX:=zH (zzt HB2.out (zzt HB1.out hbox))
 have HT2:=zH (zzh (zzh HT.out HB1.out) HB2.out)
 clear hbox hcol2 hz1 hz2 hzc hn24
 go_upto_region 12 with fail
 obtain⟨w3,hw3⟩:∃ w3,w3=w2.alloc (.cells #[.int .i64 (n:Int),.int .i64 1,.int .i64 0,.slice none 0 0] 85):=⟨_,rfl⟩
 rw [<-hw3]
 have hbu3:BuR w2 w2.heap.size (n:Int) 1 0 (fun _=>False) none 0 0 [] w3:=⟨by rw [hw3];exact heap_alloc_new w2 _,OwnF.nil_ _ _ _ _ _,by rw [hw3];exact (zR).alloc zN _⟩
 have BU3:=zH hbu3
 have HS13:=zH ((HS1.out.weaken (F':=fun b=>w1.heap.size<=b/\b<w2.heap.size) fun b hb hl=>⟨hb,hl⟩).below hbu3.below zN)
 clear hbu3 hw3
 go_upto_region 13 with (first
  | (go_at_call 43;refine (xxs w2 w2.heap.size (n:Int) 1 0 (fun _=>False) none 0 0 [] w3 BU3.out (fun h=>h) 1 (by omega) (fun b=>w1.heap.size<=b/\b<w2.heap.size) A1 n1 c1 (zzI l) HS13.out (fun h=>by omega) (fun b h=>by cases h) (by omega)).mono ?_;rintro e w4 ⟨rfl,⟨A4,c4,hbu4,_⟩,hz4,_⟩;have BU4:=zH hbu4;have hbox4:=zzt hbu4.below HBOX.out;have HZ4:=zH hz4;clear hbu4 hz4)
  | fail)
 have HF4:=zH (show ∀ b,((False∨(w1.heap.size<=b/\b<w2.heap.size))/\b<w3.heap.size)->w1.heap.size<=b/\b<w2.heap.size from fun b h=>h.1.elim (fun h=>h.elim) id)
 go_wp2_with (first
  | (go_at_call 44;refine (zze _ _).mono ?_;rintro e w5 ⟨rfl,rfl⟩;rw [HNM.out])
  | fail)
 go_loopw [12,66] (fun v iv wr=>∃ (j:Nat) (A5:Option Addr) (c5:Nat) (G:Nat->Prop),j<=n2/\iv=.int .i64 (j:Int)/\v=.slice A5 j c5/\OwnF tStr 9 G wr w4.heap.size A5 j c5 (((l.filter zzp).take j).map (·.s))/\Below w4.heap.size w4 wr) (fun _ iv _=>n2 - (intOf iv).toNat)
 case atStart=>exact⟨0,none,0,fun _=>False,Nat.zero_le _,rfl,rfl,OwnF.nil_ _ _ _ _ _,zR⟩
 case round =>
  obtain⟨j,A5,c5,G,hj,rfl,rfl,hown,hb⟩:=hrel
  have HO:=zH hown;have HB:=zH hb
  have hsz:=hb.size
  by_cases hlt:j<n2
  · have hjl:j<(l.filter zzp).length:=by rw [<-HL2.out];exact hlt
    obtain⟨b,o,cs,rfl,_,hbl,hrep,hc⟩:=(HS2.out.below (BU4.out.below.trans (hb.mono (by have:=zzc BU4.out.hold;omega))) zN).at_ hjl (by decide)
    obtain⟨v,hf⟩:∃ v,v=(l.filter zzp)[j]:=⟨_,rfl⟩
    obtain⟨rfl,hok⟩:=hrep
    rw [<-hf] at hc hok
    obtain⟨nu,x,s⟩:=v
    have hsm:s.size<=maxLen:=hok.2.2
    have HF:=zH hf
    obtain⟨g0,g1,g2⟩:=yyo hc
    have g0:_=some (Value.bool nu):=g0
    have g1:_=some (Value.int .i64 x):=g1
    have g2:_=some (Value.string s):=g2
    have hi0:(0:Int)<=(j:Int):=by omega
    have hi1:(j:Int)<(n2:Int):=by omega
    have hj4:j<=34359738368:=by have:=HN2.out;omega
    clear hc hf hown hb hok
    go_wp2_with (first
     | (at_builtin;refine apl1 (T:=tStr) qzG _ w4 rfl (.tmp 70) (.tmp 73) rfl w4.heap.size A5 j c5 (((l.filter zzp).take j).map (·.s)) (by rfl) G (fun _=>False) (HO.out.alloc _) (HB.out.alloc hsz _) zN _ (by rw [zS];rfl) [.string s] s ⟨rfl,hsm⟩ 9 rfl (fun _ _ _ _ h4=>h4) hj4 ?_;intro A7 c7 w7 h7)
     | fail)
    go_roundw
    case rel =>
     have e1:((l.filter zzp).take (j+1)).map (·.s)=((l.filter zzp).take j).map (·.s)++[s]:=by
      rw [zT hjl,List.map_append,<-HF.out];rfl
     have e2:=h7.own
     rw [<-e1] at e2
     exact⟨j+1,A7,c7,_,by omega,by go_num,rfl,e2,h7.below⟩
    case measure=>simp [intOf];omega
  · obtain rfl:j=n2:=by omega
    obtain⟨w5,rfl⟩:∃ w5,w5=wr:=⟨wr,rfl⟩
    have e1:(l.filter zzp).take j=l.filter zzp:=zL (by rw [<-HL2.out];exact Nat.le_refl _)
    rw [e1,<-HWS.out] at hown
    have HO:=zH hown.sl
    have hg4:=zzc BU4.out.hold
    have hbu5:BuR w2 w2.heap.size (n:Int) 1 0 _ A4 1 c4 [(1,zzI l)] w5:=⟨(hb.block _ hg4).trans BU4.out.hold,BU4.out.own.keepB hb,BU4.out.below.trans (hb.mono (by omega))⟩
    have BU5:=zH hbu5
    have hg5:=zzc hbu5.hold
    clear hown hbu5 e1
    go_upto_region 24 with (first
     | (go_at_call 46;refine (qxY _ A5 j c5 ws w5 HO.out HN2.out HSM.out enc tx ss HTX.out).mono ?_;rintro e w6 ⟨A6,n6,c6,rfl,hs6,hb6⟩;have HS6:=zH hs6;have HB6:=zH hb6;clear hs6 hb6)
     | fail)
    obtain⟨w7,hw7⟩:∃ w7,w7=w6.alloc (.cells #[.int .i64 (j:Int),.int .i64 enc,.int .i64 tx,.slice A6 n6 c6] 27):=⟨_,rfl⟩
    rw [<-hw7]
    have hb67:Below w5.heap.size w5 w7:=by rw [hw7];exact HB6.out.alloc HB6.out.size _
    have hg7:w7.heap[w6.heap.size]?=some (.cells #[.int .i64 (j:Int),.int .i64 enc,.int .i64 tx,.slice A6 n6 c6] 27 (0,0)):=by rw [hw7];exact heap_alloc_new _ _
    have HS7:=zH (show Sl zzo (fun b=>w5.heap.size<=b/\b<w7.heap.size) w7 A6 n6 c6 ss from by
     have h1:=HS6.out.alloc (.cells #[.int .i64 (j:Int),.int .i64 enc,.int .i64 tx,.slice A6 n6 c6] 27)
     rw [<-hw7] at h1
     exact h1.weaken fun b hb hl=>⟨hb,hl⟩)
    have hbu7:BuR w2 w2.heap.size (n:Int) 1 0 _ A4 1 c4 [(1,zzI l)] w7:=⟨(hb67.block _ hg5).trans BU5.out.hold,BU5.out.own.keepB hb67,BU5.out.below.trans (hb67.mono (by omega))⟩
    have BU7:=zH hbu7;have HG7:=zH hg7;have HB67:=zH hb67;have HG5:=zH hg5
    have hsz67:w6.heap.size<w7.heap.size:=zzc hg7
    have hsz6:=HB6.out.size
    have hsz5:=hb.size
    have hgne:w6.heap.size≠w2.heap.size:=by omega
    have hgne2:¬ w2.heap.size=w6.heap.size:=by omega
    have hg27:w2.heap.size<w7.heap.size:=by omega
    obtain⟨⟨q0,p0⟩,⟨q1,p1⟩,⟨q2,p2⟩,⟨q3,p3⟩⟩:=zzj hg7
    obtain⟨⟨u0,t0⟩,⟨u1,t1⟩,⟨u2,t2⟩,⟨u3,t3⟩⟩:=zzj hbu7.hold
    have HA4:=zH (show ∀ b,A4=some ⟨b,0,none⟩->b<w5.heap.size from fun b e=>(BU5.out.own.lies (b:=b) (by rw [zzb,e];rfl)).2.2)
    clear hw7 hb67 hg7 hbu7
    go_cut [] from 81 to 89 (fun wx=>∃ wd,wd=wx/\BuR w2 w2.heap.size (n:Int) enc tx (fun b=>(False∨w1.heap.size<=b/\b<w2.heap.size)/\b<w3.heap.size) A4 1 c4 [(1,zzI l)] wd/\w7.heap.size<=wd.heap.size/\∀ b,b<w7.heap.size->b≠w2.heap.size->wd.heap[b]?=w7.heap[b]?)
    case first =>
     go_region
     all_goals
      go_wp2_with fail
      go_meet
      refine⟨_,rfl,⟨zza (zza BU7.out.hold rfl) rfl,BU7.out.own.keep (by simp) (fun b hb hl=>?_),?_⟩,by simp,fun b h1 h2=>(Below.heap_setCell _ _ _ _ h2).trans ((Below.heap_setCell _ _ _ _ h2).trans rfl)⟩
      · have hne:b≠w2.heap.size:=by
         rcases hb with hb | hb
         · have:=(HF4.out b hb).2;omega
         · have:=hb.2;omega
        exact (Below.heap_setCell _ _ _ _ hne).trans ((Below.heap_setCell _ _ _ _ hne).trans rfl)
      · first
         | exact zzn (zzn (jjD BU7.out.below _) zN _) zN _
         | exact zzn (zzn BU7.out.below zN _) zN _
    case rest =>
     obtain⟨wd,rfl,hbu8,hsz8,hk8⟩:=hcut
     have BU8:=zH hbu8;have HK8:=zH hk8;have HZ8:=zH hsz8
     have hg8:=(hk8 _ hsz67 hgne).trans HG7.out
     clear q0 p0 q1 p1 q2 p2 q3 p3 u0 t0 u1 t1 u2 t2 u3 t3
     obtain⟨_,_,_,⟨q3,_⟩⟩:=zzj hg8
     have HS8:=zH (HS7.out.keep hsz8 (fun b hb hl=>hk8 b hl (by omega)))
     have HL6:=zH HS7.out.len
     have HN6:=zH (show n6<=3 by have h1:=qxZ ws;rw [HTX.out] at h1;have h2:ss.length<=3:=h1;have:=HL6.out;omega)
     have HZ5:=zH (show w2.heap.size<w5.heap.size/\w5.heap.size<=wd.heap.size by omega)
     clear hbu8 hk8 hg8
     refine ‹∀ (a:Act) (w_1:World),Code.wp _ _ _ a w_1->_› _ _ ?_
     go_wp2_with fail
     go_loopw [92] (fun iv wx=>∃ (i:Nat) (A7:Option Addr) (c7:Nat) (G:Nat->Prop),i<=n6/\iv=.int .i64 (i:Int)/\BuR w2 w2.heap.size (n:Int) enc tx G A7 (1+i) c7 ((1,zzI l)::ss.take i) wx/\(∀ b,G b->w1.heap.size<=b/\b≠w2.heap.size)/\(∀ b,A7.map (·.block)=some b->b<w5.heap.size∨wd.heap.size<=b)/\wd.heap.size<=wx.heap.size/\∀ b,w5.heap.size<=b->b<wd.heap.size->wx.heap[b]?=wd.heap[b]?) (fun iv _=>n6 - (intOf iv).toNat)
     case atStart =>
      refine⟨0,A4,c4,_,Nat.zero_le _,rfl,BU8.out,fun b hb=>?_,fun b hb=>.inl ?_,Nat.le_refl _,fun _ _ _=>rfl⟩
      · have:=HF4.out b hb;omega
      · obtain⟨e,_⟩:=BU8.out.own.lies (b:=b) (by rw [zzb];exact hb)
        exact HA4.out b e
     case round =>
      obtain⟨i,A7,c7,G,hi,rfl,hbu,hG,hA7,hszx,hkx⟩:=hrel
      obtain⟨wx,rfl⟩:∃ wx,wx=wr:=⟨wr,rfl⟩
      have BUX:=zH hbu;have HGX:=zH hG;have HAX:=zH hA7;have HKX:=zH hkx;have HZX:=zH hszx
      by_cases hlt:i<n6
      · have hil:i<ss.length:=by rw [<-HL6.out];exact hlt
        obtain⟨b,o,cs,rfl,_,hbl,hrep,hc⟩:=(HS8.out.keep hszx (fun b hb hl=>hkx b hb.1 (by have:=HZ8.out;omega))).at_ hil (by decide)
        obtain⟨x,hf⟩:∃ x,x=ss[i]:=⟨_,rfl⟩
        obtain⟨kk,bs⟩:=x
        rw [<-hf] at hrep
        obtain⟨d1,d2,rfl,⟨h1,h1'⟩,A8,n8,c8,h2,hsl⟩:=hrep
        subst h1 h2
        obtain⟨g0,g1⟩:=vvb hc
        have g0:_=some (Value.int .i64 kk):=g0
        have g1:_=some (Value.slice A8 n8 c8):=g1
        have HSL:=zH hsl;have HKK:=zH h1';have HF:=zH hf
        have hi0:(0:Int)<=(i:Int):=by omega
        have hi1:(i:Int)<(n6:Int):=by omega
        have hgx:=zzc hbu.hold
        have hi3:i<=3:=by have:=HN6.out;omega
        have HB9:=zH (show BuR w2 w2.heap.size (n:Int) enc tx G A7 (1+i) c7 ((1,zzI l)::ss.take i) (wx.alloc (.cells #[.int .i64 kk,.slice A8 n8 c8] 55)) from ⟨(Below.heap_alloc _ _ _ hgx).trans hbu.hold,hbu.own.alloc _,hbu.below.alloc (by omega) _⟩)
        clear hc hf h1' hsl hbu hG hA7 hszx hkx
        go_wp2_with (first
         | (go_at_call 43;refine (xxs w2 w2.heap.size (n:Int) enc tx G A7 (1+i) c7 _ _ HB9.out (fun h=>(HGX.out _ h).2 rfl) kk HKK.out _ A8 n8 c8 bs (HSL.out.alloc _) (fun h=>by have:=HZ5.out;omega) (fun b h h2=>by have h3:=HAX.out b (by rw [h];rfl);have:=HZ8.out;omega) (by have:=HN6.out;omega)).mono ?_;rintro e w9 ⟨rfl,⟨A9,c9,hbu9,hl9⟩,hz9,hk9⟩;have BU9:=zH hbu9;have HL9:=zH hl9;have HZ9:=zH hz9;have HK9:=zH hk9;clear hbu9 hl9 hz9 hk9)
         | fail)
        go_roundw
        case rel =>
         have hz9:=HZ9.out
         rw [zS] at hz9
         have e1:(1,zzI l)::ss.take (i+1)=(1,zzI l)::ss.take i++[(kk,bs)]:=by
          rw [zT hil,<-HF.out];rfl
         have hbu9:=BU9.out
         rw [<-e1] at hbu9
         refine⟨i+1,A9,c9,_,by omega,by go_num,hbu9,fun b hb=>?_,fun b hb=>?_,?_,fun b h1 h2=>?_⟩
         · have h5:=HZ5.out;have h2:=HZ2.out;have h8:=HZ8.out
           rcases hb.1 with hb | hb
           · exact HGX.out b hb
           · omega
         · rcases HL9.out with h | h
           · exact HAX.out b (h.symm.trans hb)
           · rw [hb] at h
             injection h with h
             rw [zS] at h
             have:=HZX.out
             omega
         · have:=HZX.out;omega
         · have h5:=HZ5.out;have hzx:=HZX.out
           exact (HK9.out b (by rw [zS];omega) (by omega) (fun e=>by have:=HAX.out b e;omega)).trans ((Below.heap_alloc _ _ _ (by omega)).trans (HKX.out b h1 h2))
        case measure=>simp [intOf];omega
      · obtain rfl:i=n6:=by omega
        have e1:ss.take i=ss:=zL (by rw [<-HL6.out];exact Nat.le_refl _)
        rw [e1] at hbu
        have BUY:=zH hbu
        have hg6:=hbu.hold
        obtain⟨⟨z0,_⟩,⟨z1,_⟩,⟨z2,_⟩,⟨z3,_⟩⟩:=zzj hg6
        have hcol6:=(hbu.below.block _ (zzc HCOL.out)).trans HCOL.out
        obtain⟨⟨v0,y0⟩,⟨v1,y1⟩,⟨v2,y2⟩,⟨v3,y3⟩⟩:=zzj hcol6
        have HCOL6:=zH hcol6
        clear hg6 hcol6 hbu e1 hG hA7 hkx hszx BUX
        go_wp2_with fail
        refine bodyPost_ret (zzq rfl _ _ (w.heap.size+1) 27 #[.int .i64 (n:Int),.int .i64 enc,.int .i64 tx,.slice A7 (1+i) c7] (0,0) _ rfl (jjH HCOL6.out _ _ _ _) Tryz.underlying27 rfl (by kernel_rfl)) rfl ?_
        unfold xxe
        rw [HR.out,HE.out,HC.out,HTX.out,<-HL.out]
        refine⟨A7,1+i,c7,rfl,?_,yyc (HBX.out.trans (BUY.out.below.mono HBX.out.size)) (by omega) _ _ _ _⟩
        have hs7:=BUY.out.own.sl.weaken (F':=fun b=>w.heap.size+2<=b) (fun b hb _=>by
         have e1:=HZ1.out;have e2:=HZ2.out;have e3:=HZC.out
         rcases hb with hb | hb
         · have:=(HGX.out _ hb).1;omega
         · have:=hb.2;omega)
        exact (hs7.keep (by simp) (fun b hb _=>uuw (by omega) _ _ _ _)).weaken fun b hb _=>by omega
end
section
open Go Go.RowKit
def zzE (n:Nat):List VV:=List.replicate n (zzz false)
theorem qxa:∀ n,n<256->nuT (byB (xxk (List.replicate (n+1) false))) (n+1)=some (List.replicate (n+1) false)/\byB (xxk (List.replicate (n+1) false))≠[]/\(byB (xxk (List.replicate (n+1) false))).length<=4096:=by decide +kernel
theorem xxf (n:Nat):(zzE n).filter zzp=[]:=by
 unfold zzE
 rw [List.filter_replicate]
 rfl
theorem kqs {n:Nat} (h1:1<=n) (h2:n<=256):zzI (zzE n)=byB (xxk (List.replicate n false)):=by
 unfold zzI
 rw [xxf,if_pos (by unfold zzE;simp;omega)]
 unfold zzE
 rw [List.map_replicate]
 rfl
theorem qxb {n:Nat} (h1:1<=n) (h2:n<=256):nuT (zzI (zzE n)) n=some (List.replicate n false)/\zzI (zzE n)≠[]/\(zzI (zzE n)).length<=4096:=by
 rw [kqs h1 h2]
 obtain⟨m,rfl⟩:∃ m,n=m+1:=⟨n - 1,by omega⟩
 exact qxa m (by omega)
theorem uu7 {k:Int} (hk:1<=k/\k<=7) (n:Nat):colE k (zzE n)=0:=by
 unfold colE
 rw [if_pos hk,if_pos]
 rw [List.all_eq_true]
 intro v hv
 obtain rfl:=(List.mem_replicate.1 hv).2
 unfold mayV zzz
 by_cases h:1<=k/\k<=5
 · rw [if_pos h];rfl
 · rw [if_neg h,if_pos (by omega)];rfl
theorem kqt:zzy []=[]:=List.length_eq_zero_iff.1 (Nat.le_zero.1 (xx1 []))
theorem qx0:txC []=(2,0,[(2,[]),(3,[]),(4,[])]):=by
 unfold txC zzk xx8 zzu zzf
 rw [kqt,if_neg (by simp)]
 rfl
theorem qzY {k:Int} (hk:1<=k/\k<=5) (n:Nat):colR k (zzE n)=((n:Int),1,0,[(1,zzI (zzE n)),(2,[])]):=by
 unfold colR colC
 rw [if_pos (uu7 (by omega) n),if_pos hk,xxf]
 have e:xxW k []=[]:=by
  unfold xxW
  split
  · rfl
  · split <;> rfl
 rw [e]
 unfold zzE
 rw [List.length_replicate]
theorem qzZ {k:Int} (hk:6<=k/\k<=7) (n:Nat):colR k (zzE n)=((n:Int),2,0,[(1,zzI (zzE n)),(2,[]),(3,[]),(4,[])]):=by
 unfold colR colC
 rw [if_pos (uu7 (by omega) n),if_neg (by omega),xxf,List.map_nil,qx0]
 unfold zzE
 rw [List.length_replicate]
end
end Go.Proofs.YtpmglcachffojaaGreatDoor
