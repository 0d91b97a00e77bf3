/- A part of what Indexes leans on. -/
import Derived.Test.YtpmglcachffojaaGreatDoorZ43
import Derived.Test.YtpmglcachffojaaGreatDoorZ46
import Derived.Test.YtpmglcachffojaaGreatDoorZ47
set_option maxRecDepth 100000
set_option maxHeartbeats 16000000
namespace Go.Proofs.YtpmglcachffojaaGreatDoor
section
open Go Go.RowKit
theorem boxBB (A:Option Addr) (n c:Nat) (sb:Bool) (w:World):∃ w1,w1=w.alloc (.cells #[.slice A n c,.bool sb] 63)/\w1.heap[w.heap.size]?=some (.cells #[.slice A n c,.bool sb] 63 (0,0))/\Below w.heap.size w w1/\w1.heap.size=w.heap.size+1 :=
 ⟨_,rfl,heap_alloc_new w _,(Below.refl _ w).alloc zN _,by simp⟩
theorem uuC (F F1 F2:Nat->Prop) (A A1 A2:Option Addr) (n c n1 c1 n2 c2:Nat) (cols:List CC) (l:List ST) (bs:List UInt8) (sb:Bool) (w:World) (h:Sl tCol F w A n c cols) (h1:Sl tSt F1 w A1 n1 c1 l) (h2:Sl tU8 F2 w A2 n2 c2 bs) (ht:∀ s∈l,∀ z∈s.2.2,z.min.s.size<=1048576/\z.max.s.size<=1048576) (hU:Lib.Utf8Tabs 0 1 w) :
 Calls Tryz.prog 6 #[.slice A n c,.slice A1 n1 c1,.agg #[.slice A2 n2 c2,.bool sb]] w fun e w'=>e=.returned (.bool true)/\Below w.heap.size w w':=by
 obtain⟨w1,hw1,hg1,hb1,hz1⟩:=boxBB A2 n2 c2 sb w
 obtain⟨LO,hLO⟩:∃ LO,LO=zqx l:=⟨_,rfl⟩
 have HOK:Hid (∀ s∈LO,stOk s):=zH (by rw [hLO];exact oursL_ok (sl_fit h1) ht)
 have HLO8:Hid (LO.length<=8):=zH (by rw [hLO];exact oursL_len l)
 have HLO:=zH hLO
 have HC1:=zH h.2.1;have HC2:=zH h2.2.1
 have HH:=zH (h.below hb1 zN);have HH1:=zH (h1.below hb1 zN);have HH2:=zH (h2.below hb1 zN);have HU:=zH (zzb hU hb1)
 have HW1:=zH hw1;have HG1:=zH hg1;have HB1:=zH hb1;have HZ1:=zH hz1
 clear hw1 hg1 hb1 hz1 h h1 h2 hU ht hLO
 go_enter Tryz.func6,Tryz.ntmps6
 go_upto_if 19 with (first
  | (go_at_call 17;rw [<-HW1.out];refine (qxb _ HU.out).mono ?_;rintro e w2 ⟨rfl,hb2⟩;have HB2:=zH hb2;clear hb2)
  | fail)
 have HBX:=zH (HB1.out.trans (HB2.out.mono HB1.out.size))
 have HG2:=zH ((HB2.out.block _ (by have:=HZ1.out;omega)).trans HG1.out)
 go_cut [0] from 20 to 21 (fun s0 wx=>∃ n4,w2=wx/\s0=.slice A n4 c/\n4<=8/\Sl tCol F w2 A n4 c (cols.take 8))
 case first =>
  by_cases h8:(n:Int) > 8
  · have h9:(8:Int)<=(c:Int):=by have:=HC1.out;omega
    have HX:=zH ((HH.out.below HB2.out zN).fst (k:=8) (by omega))
    go_wp2_with fail
    go_meet
    exact⟨8,rfl,rfl,Nat.le_refl _,HX.out⟩
  · have HX:=zH (HH.out.below HB2.out zN)
    have HY:Hid (cols.take 8=cols):=zH (zL (by rw [<-HH.out.len];omega))
    have HM:Hid (n<=8):=zH (by omega)
    go_wp2_with fail
    go_meet
    exact⟨n,rfl,rfl,HM.out,by rw [HY.out];exact HX.out⟩
 obtain⟨n4,rfl,rfl,hn4,hs4⟩:=hcut
 obtain⟨cs,hcs⟩:∃ cs,cs=cols.take 8:=⟨_,rfl⟩
 rw [<-hcs] at hs4
 have HS4:=zH hs4;have HN4:=zH hn4
 clear hcs hs4 hn4
 have z0:w2.cell? ⟨w.heap.size,0,none⟩=some (.slice A2 n2 c2):=by rw [zC HG2.out];rfl
 have z1:w2.cell? ⟨w.heap.size,1,none⟩=some (.bool sb):=by rw [zC HG2.out];rfl
 go_upto_if 26 with fail
 go_cut [8] from 27 to 28 (fun s1 wx=>∃ n5,w2=wx/\s1=.slice A2 n5 c2/\n5<=1000/\Sl tU8 F2 w2 A2 n5 c2 (bs.take 1000))
 case first =>
  by_cases h8:(n2:Int) > 1000
  · have h9:(1000:Int)<=(c2:Int):=by have:=HC2.out;omega
    have HX:=zH ((HH2.out.below HB2.out zN).fst (k:=1000) (by omega))
    go_wp2_with fail
    go_meet
    exact⟨1000,rfl,rfl,Nat.le_refl _,HX.out⟩
  · have HX:=zH (HH2.out.below HB2.out zN)
    have HY:Hid (bs.take 1000=bs):=zH (zL (by rw [<-HH2.out.len];omega))
    have HM:Hid (n2<=1000):=zH (by omega)
    go_wp2_with fail
    go_meet
    exact⟨n2,rfl,rfl,HM.out,by rw [HY.out];exact HX.out⟩
 obtain⟨n5,rfl,rfl,hn5,hs5⟩:=hcut
 have HS5:=zH hs5;have HN5:=zH hn5
 clear hs5 hn5
 go_upto_if 30 with fail
 clear z0 z1
 go_cut [8] from 31 to 32 (fun s1 wx=>∃ A4 n6 c6 B1,s1=.slice A4 n6 c6/\Below w2.heap.size w2 wx/\n6<=1004/\Sl tU8 (fun _=>True) wx A4 n6 c6 B1)
 case first =>
  cases sb with
  | true =>
    go_wp2_with (first
     | (go_at_call 26;refine (vvX _ A2 n5 c2 (bs.take 1000) _ HS5.out (by have:=HN5.out;omega)).mono ?_;rintro e w4 ⟨A4,n6,c6,rfl,ho4,hb4⟩;have HO4:=zH ho4;have HB4:=zH hb4;clear ho4 hb4)
     | fail)
    go_meet
    exact⟨A4,n6,c6,_,rfl,HB4.out,by rw [HO4.out.len,qzB,<-HS5.out.len];have:=HN5.out;omega,HO4.out.bs.any⟩
  | false =>
    go_wp2_with fail
    go_meet
    exact⟨A2,n5,c2,_,rfl,zR,by have:=HN5.out;omega,HS5.out.any⟩
 obtain⟨A4,n6,c6,B1,rfl,hb4,hn6,hs6⟩:=hcut
 obtain⟨w4,hw4⟩:∃ w4,w4=wc:=⟨_,rfl⟩
 rw [<-hw4] at hb4 hs6 ⊢
 have HB24:=zH hb4;have HS6:=zH hs6;have HN6:=zH hn6
 have HB4:=zH (HBX.out.trans (hb4.mono HBX.out.size))
 clear hb4 hn6 hs6 hw4
 go_upto_region 10 with (first
  | (go_at_call 19;refine (new_any _).mono ?_;rintro e w5 ⟨rfl,hb5⟩;have HB5:=zH hb5;clear hb5;obtain⟨w6,ht6⟩:=tabW w5;have HT6:=zH ht6;clear ht6)
  | (with_reducible refine wpList_store_mid rfl _ _ _ rfl w5.heap.size 0 jjt rfl rfl (qzX w5) (by kernel_rfl) one_tab ?_)
  | fail)
 rw [<-HT6.out.eq]
 obtain⟨g,hg⟩:∃ g,g=w5.heap.size:=⟨_,rfl⟩
 have HTG:Hid (TabC g w6):=zH (by rw [hg];exact HT6.out.tab)
 have HB46:=zH (HB5.out.trans (HT6.out.below.mono HB5.out.size))
 have HB26:=zH (HB24.out.trans (HB46.out.mono HB24.out.size))
 have HB6:=zH (HB4.out.trans (HB46.out.mono HB4.out.size))
 rw [<-hg]
 clear hg
 have HS46:=zH (HS4.out.below HB26.out zN)
 have HS66:=zH (HS6.out.below HB46.out zN)
 have HL6:=zH ((HH1.out.below HB2.out zN).below HB26.out zN)
 go_upto_region 11 with (first
  | (go_at_call 31;refine (ours_any F1 A1 n1 c1 l w6 HL6.out).mono ?_;rintro e w7 ⟨A7,n7,c7,rfl,hs7,hb7⟩;rw [<-HLO.out] at hs7;have HB7:=zH hb7;have HS7:=zH hs7;clear hs7 hb7)
  | fail)
 have HN7:Hid (n7<=8):=zH (by rw [HS7.out.len];exact HLO8.out)
 have HB67:=zH (HB6.out.trans (HB7.out.mono HB6.out.size))
 have HS47:=zH (HS46.out.below HB7.out zN)
 have HS67:=zH (HS66.out.below HB7.out zN)
 have HTG7:=zH (HTG.out.keep HB7.out)
 have HU7:=zH (zzb HU.out ((HB2.out.trans (HB26.out.mono HB2.out.size)).trans (HB7.out.mono (Nat.le_trans HB2.out.size HB26.out.size))))
 obtain⟨T,hT⟩:∃ T,T=zzC cs B1:=⟨_,rfl⟩
 obtain⟨ec,hec⟩:∃ ec,ec=okc T.isSome 2:=⟨_,rfl⟩
 obtain⟨V,hV⟩:∃ V,V=idxV T:=⟨_,rfl⟩
 have HVS:Hid (V.length<=1004/\∀ s∈V,s.2.1.length<=4096/\s.2.2.length<=4096):=zH (by
  have h1:=xq9 cs B1
  rw [<-hT,<-hV] at h1
  have h2:=HS6.out.len;have h3:=HN6.out;have h4:=HS4.out.len;have h5:=HN4.out
  exact⟨by omega,fun s hs=>by have:=h1.2 s hs;omega⟩)
 have HT:=zH hT;have HEC:=zH hec;have HV:=zH hV
 clear hT hec hV
 go_upto_region 12 with (first
  | (at_builtin;refine apb (w7.alloc (.cells #[] 5)) w7 rfl (.tmp 38) (.tmp 39) rfl w7.heap.size (some ⟨w7.heap.size,0,none⟩) 0 0 [] rfl (World.ownsRow_lit w7 #[] 0 zN (by simp [maxLen]) rfl:OwnB (w7.alloc (.cells #[] 5)) w7.heap.size (some ⟨w7.heap.size,0,none⟩) 0 0 []) ((zR).alloc zN _) zN (fun b=>True/\b<w7.heap.size) A4 n6 c6 B1 rfl ((HS67.out.weaken (F':=fun b=>True/\b<w7.heap.size) fun b hb hl=>⟨hb,hl⟩).alloc _) (by have:=HN6.out;omega) ?_;intro A8 c8 w8 h8 hb8 _;rw [Nat.zero_add,List.nil_append] at h8;rw [Nat.zero_add];have HO8:=zH h8;have HB8:=zH hb8;clear h8 hb8)
  | (go_at_call 32;refine (qxm g F _ A A8 n4 c n6 c8 cs B1 w8 (HTG7.out.keep HB8.out) (HS47.out.below HB8.out zN) HO8.out.bs (by have:=HN4.out;omega) (by have:=HN6.out;omega) (zzb HU7.out HB8.out)).mono ?_;rintro e w9 ⟨A9,n9,c9,rfl,hs9,hb9⟩;rw [<-HT.out] at hs9 ⊢;rw [<-HV.out] at hs9;rw [<-HEC.out];have HS9:=zH hs9;have HB9:=zH (HB8.out.trans (hb9.mono HB8.out.size));clear hs9 hb9)
  | fail)
 have HS69:=zH (HS67.out.below HB9.out zN)
 have HS49:=zH (HS47.out.below HB9.out zN)
 go_upto_region 13 with (first
  | (go_at_call 33;refine (zqA F _ A A4 n4 c n6 c6 cs B1 w9 HS49.out HS69.out (by have:=HN4.out;omega) (by have:=HN6.out;omega) (zzb HU7.out HB9.out)).mono ?_;rintro e w10 ⟨A10,n10,c10,rfl,hs10,hb10⟩;rw [<-HT.out] at hs10 ⊢;rw [<-HV.out] at hs10;rw [<-HEC.out];have HS10:=zH hs10;have HB10:=zH hb10;clear hs10 hb10)
  | fail)
 have HN9:Hid (n9<=1004):=zH (by rw [HS9.out.len];exact HVS.out.1)
 obtain rfl:n10=n9:=by rw [HS10.out.len,HS9.out.len]
 have HS9b:=zH (HS9.out.below HB10.out zN)
 go_upto_region 14 with (first
  | (go_at_call 23;refine (kqF _ A9 _ c9 V w10 HS9b.out (by have:=HN9.out;omega)).mono ?_;rintro e w11 ⟨A11,c11,rfl,hs11,hb11⟩;have HB11:=zH hb11;have HS11:=zH hs11;clear hs11 hb11)
  | (go_at_call 22;refine (same20_any _ _ A11 A10 _ c11 c10 V w11 HS11.out (HS10.out.below HB11.out zN) (by have:=HN9.out;omega) HVS.out.2).mono ?_;rintro e w12 ⟨rfl,hb12⟩;have HB12:=zH (HB11.out.trans (hb12.mono HB11.out.size));clear hb12)
  | fail)
 have HB712:=zH ((HB9.out.trans (HB10.out.mono HB9.out.size)).trans (HB12.out.mono (Nat.le_trans HB9.out.size HB10.out.size)))
 have HBW:Hid (Below w.heap.size w w12):=zH (HB67.out.trans (HB712.out.mono HB67.out.size))
 have HO12:=zH (HS7.out.below HB712.out zN)
 have HTGB:=zH (HTG7.out.keep HB712.out)
 obtain⟨P,hP⟩:∃ P,P=idxB LO:=⟨_,rfl⟩
 have HP:=zH hP
 clear hP
 refine regL [] (by kernel_rfl) ?_ (fun hHeld=>?_)
 · exact trivial
 iterate 5
  all_goals
   repeat ((first | (refine tkP 0 (oi:=⟨_,_,_,_,_,_⟩) (v:=?_) rfl (by decide +kernel) rfl (fun _ _ _ h=>h) rfl hHeld ?_ ?_) | (refine tkP 1 (oi:=⟨_,_,_,_,_,_⟩) (v:=?_) rfl (by decide +kernel) rfl (fun _ _ _ h=>h) rfl hHeld ?_ ?_) | (refine tkP 2 (oi:=⟨_,_,_,_,_,_⟩) (v:=?_) rfl (by decide +kernel) rfl (fun _ _ _ h=>h) rfl hHeld ?_ ?_) | (refine tkP 5 (oi:=⟨_,_,_,_,_,_⟩) (v:=?_) rfl (by decide +kernel) rfl (fun _ _ _ h=>h) rfl hHeld ?_ ?_) | (refine tkP 9 (oi:=⟨_,_,_,_,_,_⟩) (v:=?_) rfl (by decide +kernel) rfl (fun _ _ _ h=>h) rfl hHeld ?_ ?_) | (refine tkP 10 (oi:=⟨_,_,_,_,_,_⟩) (v:=?_) rfl (by decide +kernel) rfl (fun _ _ _ h=>h) rfl hHeld ?_ ?_) | (refine tkP 11 (oi:=⟨_,_,_,_,_,_⟩) (v:=?_) rfl (by decide +kernel) rfl (fun _ _ _ h=>h) rfl hHeld ?_ ?_) | (refine tkP 12 (oi:=⟨_,_,_,_,_,_⟩) (v:=?_) rfl (by decide +kernel) rfl (fun _ _ _ h=>h) rfl hHeld ?_ ?_) | (refine tkP 13 (oi:=⟨_,_,_,_,_,_⟩) (v:=?_) rfl (by decide +kernel) rfl (fun _ _ _ h=>h) rfl hHeld ?_ ?_) | (refine tkP 14 (oi:=⟨_,_,_,_,_,_⟩) (v:=?_) rfl (by decide +kernel) rfl (fun _ _ _ h=>h) rfl hHeld ?_ ?_) | (refine tkP 15 (oi:=⟨_,_,_,_,_,_⟩) (v:=?_) rfl (by decide +kernel) rfl (fun _ _ _ h=>h) rfl hHeld ?_ ?_) | (refine tkP 16 (oi:=⟨_,_,_,_,_,_⟩) (v:=?_) rfl (by decide +kernel) rfl (fun _ _ _ h=>h) rfl hHeld ?_ ?_) | (refine tkP 17 (oi:=⟨_,_,_,_,_,_⟩) (v:=?_) rfl (by decide +kernel) rfl (fun _ _ _ h=>h) rfl hHeld ?_ ?_) | (refine tkP 18 (oi:=⟨_,_,_,_,_,_⟩) (v:=?_) rfl (by decide +kernel) rfl (fun _ _ _ h=>h) rfl hHeld ?_ ?_) | (refine tkP 19 (oi:=⟨_,_,_,_,_,_⟩) (v:=?_) rfl (by decide +kernel) rfl (fun _ _ _ h=>h) rfl hHeld ?_ ?_));rotate_left;(focus (intro w;(try intro hSw);(try dsimp only at hSw);go_simp;try with_reducible rfl));intro hHeld;(try simp only [Act.put]);(try simp only [List.setIfInBounds_toArray]);(try simp only [List.set_cons_succ]);(try simp only [List.set_cons_zero]))
   first | (refine rd1 3 (o:=⟨_,_,_,_,_,_⟩) (by decide +kernel) rfl (fun K hK=>?_)) | (refine rd1 4 (o:=⟨_,_,_,_,_,_⟩) (by decide +kernel) rfl (fun K hK=>?_)) | (refine rd2 4 6 (o:=⟨_,_,_,_,_,_⟩) (o':=⟨_,_,_,_,_,_⟩) (by decide +kernel) rfl rfl (fun K hK=>?_) (fun K hK=>?_)) | (refine rd2 4 7 (o:=⟨_,_,_,_,_,_⟩) (o':=⟨_,_,_,_,_,_⟩) (by decide +kernel) rfl rfl (fun K hK=>?_) (fun K hK=>?_)) | (refine rd2 4 8 (o:=⟨_,_,_,_,_,_⟩) (o':=⟨_,_,_,_,_,_⟩) (by decide +kernel) rfl rfl (fun K hK=>?_) (fun K hK=>?_)) | (refine rd1 6 (o:=⟨_,_,_,_,_,_⟩) (by decide +kernel) rfl (fun K hK=>?_)) | (refine rd1 7 (o:=⟨_,_,_,_,_,_⟩) (by decide +kernel) rfl (fun K hK=>?_)) | (refine rd1 8 (o:=⟨_,_,_,_,_,_⟩) (by decide +kernel) rfl (fun K hK=>?_))
  all_goals
   first  | (go_simp;(first | (go_at_call 24;refine (zqi g _ A7 n7 c7 LO w12.drew HTGB.out HO12.out.drew (by have:=HN7.out;omega) HOK.out).mono ?_;rintro e w13 ⟨A13,n13,c13,rfl,ho13,hb13⟩;rw [<-HP.out] at ho13;have HB13:Hid (Below w12.heap.size w12 w13):=zH (((zR).drew).trans hb13);have HO13:=zH ho13;have hX:=zzq ho13.bs;clear ho13 hb13) | (go_at_call 23;refine (kqF _ A7 n7 c7 LO w13 (HO12.out.below HB13.out zN) (by have:=HN7.out;omega)).mono ?_;rintro e w14 ⟨A14,c14,rfl,hs14,hb14⟩;have HB14:Hid (Below w13.heap.size w13 w14):=zH hb14;have HS14:=zH hs14;have hX2:=zzq (HO13.out.bs.below HB14.out zN);clear hs14 hb14) | (go_at_call 25;refine (qzl _ A14 n7 c14 LO w14 HS14.out (by have:=HN7.out;omega) HOK.out).mono ?_;rintro e w15 ⟨A15,n15,c15,rfl,ho15,hb15⟩;rw [<-HP.out] at ho15;have HB15:Hid (Below w14.heap.size w14 w15):=zH hb15;have HB135:=zH (HB14.out.trans (HB15.out.mono HB14.out.size));have hX3:=zzq (HO13.out.bs.below HB135.out zN);have hY:=zzq ho15.bs;clear ho15 hb15) | fail)) | go_simp
   refine hK.out _ _ ?_ (fun hHeld=>?_)
   · (try dsimp only);exact trivial
   clear hK K;(try simp only [Act.put]);(try simp only [List.setIfInBounds_toArray]);(try simp only [List.set_cons_succ]);(try simp only [List.set_cons_zero])
 all_goals
  repeat ((first | (refine tkP 9 (oi:=⟨_,_,_,_,_,_⟩) (v:=?_) rfl (by decide +kernel) rfl (fun _ _ _ h=>h) rfl hHeld ?_ ?_) | (refine tkP 10 (oi:=⟨_,_,_,_,_,_⟩) (v:=?_) rfl (by decide +kernel) rfl (fun _ _ _ h=>h) rfl hHeld ?_ ?_) | (refine tkP 11 (oi:=⟨_,_,_,_,_,_⟩) (v:=?_) rfl (by decide +kernel) rfl (fun _ _ _ h=>h) rfl hHeld ?_ ?_) | (refine tkP 12 (oi:=⟨_,_,_,_,_,_⟩) (v:=?_) rfl (by decide +kernel) rfl (fun _ _ _ h=>h) rfl hHeld ?_ ?_) | (refine tkP 13 (oi:=⟨_,_,_,_,_,_⟩) (v:=?_) rfl (by decide +kernel) rfl (fun _ _ _ h=>h) rfl hHeld ?_ ?_) | (refine tkP 14 (oi:=⟨_,_,_,_,_,_⟩) (v:=?_) rfl (by decide +kernel) rfl (fun _ _ _ h=>h) rfl hHeld ?_ ?_) | (refine tkP 15 (oi:=⟨_,_,_,_,_,_⟩) (v:=?_) rfl (by decide +kernel) rfl (fun _ _ _ h=>h) rfl hHeld ?_ ?_) | (refine tkP 16 (oi:=⟨_,_,_,_,_,_⟩) (v:=?_) rfl (by decide +kernel) rfl (fun _ _ _ h=>h) rfl hHeld ?_ ?_) | (refine tkP 17 (oi:=⟨_,_,_,_,_,_⟩) (v:=?_) rfl (by decide +kernel) rfl (fun _ _ _ h=>h) rfl hHeld ?_ ?_) | (refine tkP 18 (oi:=⟨_,_,_,_,_,_⟩) (v:=?_) rfl (by decide +kernel) rfl (fun _ _ _ h=>h) rfl hHeld ?_ ?_) | (refine tkP 19 (oi:=⟨_,_,_,_,_,_⟩) (v:=?_) rfl (by decide +kernel) rfl (fun _ _ _ h=>h) rfl hHeld ?_ ?_));rotate_left;(focus (intro w;(try intro hSw);(try dsimp only at hSw);go_simp;try with_reducible rfl));intro hHeld;(try simp only [Act.put]);(try simp only [List.setIfInBounds_toArray]);(try simp only [List.set_cons_succ]);(try simp only [List.set_cons_zero]))
  refine xxI (by decide +kernel) ?_ _
  go_wp2_with fail
  go_ret
  exact⟨rfl,HBW.out.trans ((HB13.out.trans (HB135.out.mono HB13.out.size)).mono HBW.out.size)⟩
end
end Go.Proofs.YtpmglcachffojaaGreatDoor
