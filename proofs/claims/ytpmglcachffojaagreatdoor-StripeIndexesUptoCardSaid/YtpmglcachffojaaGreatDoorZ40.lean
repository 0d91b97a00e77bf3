/- A part of what Indexes leans on. -/
import Derived.Test.YtpmglcachffojaaGreatDoorZ33
import Derived.Test.YtpmglcachffojaaGreatDoorZ36
import Derived.Test.YtpmglcachffojaaGreatDoorZ37
set_option maxRecDepth 100000
set_option maxHeartbeats 16000000
namespace Go.Proofs.YtpmglcachffojaaGreatDoor
section
open Go Go.RowKit
attribute [local go_sem ↓] Go.wp_at_zero Go.wp_at_succ
def RtNone (w:World) (e:Ending) (w':World):Prop:=∃ A n c,e=.returned (.tuple #[.slice A n c,.int .i64 2])/\Below w.heap.size w w'/\Sl tFld (fun b=>w.heap.size<=b) w' A n c []
def RtSome (L:List Fld) (w:World) (e:Ending) (w':World):Prop:=∃ A n c,e=.returned (.tuple #[.slice A n c,.int .i64 0])/\Below w.heap.size w w'/\Sl tFld (fun b=>w.heap.size<=b) w' A n c L
theorem qxn (F:Nat->Prop) (A:Option Addr) (n c:Nat) (l:List UInt8) (w:World) (h:Bs F w A n c l) (hn:n<=4294967296) (hv:zzo l=none):Calls Tryz.prog 74 #[.slice A n c] w (RtNone w) :=
 (vvw F A n c l w h hn).mono fun e w' ⟨A1,n1,c1,he,hb,hs⟩=>⟨A1,n1,c1,by rw [he,hv];rfl,hb,by rw [hv] at hs;exact hs⟩
theorem jj4 (F:Nat->Prop) (A:Option Addr) (n c:Nat) (l:List UInt8) (L:List Fld) (w:World) (h:Bs F w A n c l) (hn:n<=4294967296) (hv:zzo l=some L):Calls Tryz.prog 74 #[.slice A n c] w (RtSome L w) :=
 (vvw F A n c l w h hn).mono fun e w' ⟨A1,n1,c1,he,hb,hs⟩=>⟨A1,n1,c1,by rw [he,hv];rfl,hb,by rw [hv] at hs;exact hs⟩
theorem sl_ffT (w:World) (p:Nat) (hp:p=w.heap.size):Sl vvx (fun _=>True) (w.alloc (.cells #[.bool false,.bool false,.bool true] 4)) (some ⟨p,0,none⟩) 3 3 [false,false,true]:=by
 subst hp;exact Sl.new3 (T:=vvx) (c1:=[.bool false]) (c2:=[.bool false]) (c3:=[.bool true]) rfl rfl rfl 4 _ rfl
theorem qxo {l:List UInt8} (h:yyq l=none):zzr l=none:=by rw [<-uuf];exact h
theorem jj5 (v:VV) (hv:v.ok) (hs:v.s.size<=4294967000) (p:List UInt8) (hp:p=zzZ v) (w:World) :
 Calls Tryz.prog 126 #[.agg #[.bool v.null,.int .i64 v.n,.string v.s]] w (Own1 w p):=by subst hp;exact xxC v hv hs w
theorem vvB (F:Nat->Prop) (A:Option Addr) (n c:Nat) (l:List UInt8) (w:World) (h:Bs F w A n c l) (hn:n<=4294967000) :
 Calls Tryz.prog 136 #[.slice A n c] w (TvPost l w):=by
 have HL:=zH h.len
 have HH:=zH h
 have HHA:=zH (Sl.alloc h (.cells #[.bool false,.int .i64 0,.string ⟨#[]⟩] 74))
 have hbw:Below w.heap.size w (w.alloc (.cells #[.bool false,.int .i64 0,.string ⟨#[]⟩] 74)):=(zR).alloc zN _
 have HBW:=zH hbw
 clear hbw h
 cases hT:zzo l with
 | none =>
   have HN:=zH (qxo (l:=l) (by unfold yyq;rw [hT];rfl))
   have HT:=zH hT;clear hT
   go_enter Tryz.func136,Tryz.ntmps136
   go_wp2_with (first
    | (go_at_call 74;refine (qxn F A n c l _ HHA.out (by omega) HT.out).mono ?_;rintro e w1 ⟨A1,n1,c1,rfl,hb1,hs1⟩;have HB1:=zH hb1;have HS1:=zH hs1;clear hb1 hs1)
    | (go_at_call 135;refine (vvu _ _ A1 _ n1 c1 3 3 [] [false,false,true] _ (HS1.out.alloc _) (sl_ffT w1 _ rfl)).mono ?_;rintro e w2 ⟨rfl,hd2⟩
       have hb2:=HB1.out.trans (((Below.refl w1.heap.size w1).alloc zN (.cells #[.bool false,.bool false,.bool true] 4)).trans (hd2.below.mono (by simp)) |>.mono HB1.out.size)
       have hbk:w2.heap[w.heap.size]?=some (.cells #[.bool false,.int .i64 0,.string ⟨#[]⟩] 74 (0,0)):=(hb2.block _ (by simp)).trans (heap_alloc_new w _)
       have q0:w2.cell? ⟨w.heap.size,0,none⟩=some (.bool false):=(by rw [zC hbk];rfl)
       have q1:w2.cell? ⟨w.heap.size,1,none⟩=some (.int .i64 0):=(by rw [zC hbk];rfl)
       have q2:w2.cell? ⟨w.heap.size,2,none⟩=some (.string ⟨#[]⟩):=(by rw [zC hbk];rfl)
       have f0:=zF hbk 0;have f1:=zF hbk 1;have f2:=zF hbk 2
       have HB2A:=zH hb2;have HB2:=zH (HBW.out.trans (hb2.mono HBW.out.size));have HBK:=zH hbk;have HS2:=zH ((HS1.out.alloc (.cells #[.bool false,.bool false,.bool true] 4)).drewE hd2);clear hb2 hbk hd2)
    | fail)
   refine bodyPost_ret (zzD rfl _ _ w.heap.size 74 #[.bool false,.int .i64 0,.string ⟨#[]⟩] (0,0) _ rfl (by have hk:=HBK.out;(repeat (first | with_reducible exact hk | with_reducible apply yyh | with_reducible apply zza));all_goals rfl) Tryz.underlying74 rfl (by kernel_rfl)) rfl
    ⟨by rw [zzt HN.out,HN.out];rfl,?_,by rw [zzt HN.out];exact⟨by decide,by decide,by decide⟩,by rw [zzt HN.out];decide⟩
   have hb:=HB2.out
   repeat (first | with_reducible exact hb | with_reducible refine uud ?_ | with_reducible refine zzi ?_ zN _)
 | some L =>
   have HT:=zH hT
   cases hS:zzE 0 L [false,false,true] with
   | false =>
     have HN:=zH (qxo (l:=l) (by
      have h3:=qzh L
      rw [hS] at h3
      unfold yyq;rw [hT,Option.bind_some]
      cases h4:xxw L with
      | none=>rfl
      | some p=>rw [h4] at h3;cases h3))
     have HS:=zH hS
     clear hT hS
     go_enter Tryz.func136,Tryz.ntmps136
     go_wp2_with (first
      | (go_at_call 74;refine (jj4 F A n c l L _ HHA.out (by omega) HT.out).mono ?_;rintro e w1 ⟨A1,n1,c1,rfl,hb1,hs1⟩;have HB1:=zH hb1;have HS1:=zH hs1;clear hb1 hs1)
      | (go_at_call 135;refine (vvu _ _ A1 _ n1 c1 3 3 L [false,false,true] _ (HS1.out.alloc _) (sl_ffT w1 _ rfl)).mono ?_;rintro e w2 ⟨rfl,hd2⟩;rw [HS.out]
         have hb2:=HB1.out.trans (((Below.refl w1.heap.size w1).alloc zN (.cells #[.bool false,.bool false,.bool true] 4)).trans (hd2.below.mono (by simp)) |>.mono HB1.out.size)
         have hbk:w2.heap[w.heap.size]?=some (.cells #[.bool false,.int .i64 0,.string ⟨#[]⟩] 74 (0,0)):=(hb2.block _ (by simp)).trans (heap_alloc_new w _)
         have q0:w2.cell? ⟨w.heap.size,0,none⟩=some (.bool false):=(by rw [zC hbk];rfl)
         have q1:w2.cell? ⟨w.heap.size,1,none⟩=some (.int .i64 0):=(by rw [zC hbk];rfl)
         have q2:w2.cell? ⟨w.heap.size,2,none⟩=some (.string ⟨#[]⟩):=(by rw [zC hbk];rfl)
         have f0:=zF hbk 0;have f1:=zF hbk 1;have f2:=zF hbk 2
         have HB2A:=zH hb2;have HB2:=zH (HBW.out.trans (hb2.mono HBW.out.size));have HBK:=zH hbk;have HS2:=zH ((HS1.out.alloc (.cells #[.bool false,.bool false,.bool true] 4)).drewE hd2);clear hb2 hbk hd2)
      | fail)
     refine bodyPost_ret (zzD rfl _ _ w.heap.size 74 #[.bool false,.int .i64 0,.string ⟨#[]⟩] (0,0) _ rfl (by have hk:=HBK.out;(repeat (first | with_reducible exact hk | with_reducible apply yyh | with_reducible apply zza));all_goals rfl) Tryz.underlying74 rfl (by kernel_rfl)) rfl
      ⟨by rw [zzt HN.out,HN.out];rfl,?_,by rw [zzt HN.out];exact⟨by decide,by decide,by decide⟩,by rw [zzt HN.out];decide⟩
     have hb:=HB2.out
     repeat (first | with_reducible exact hb | with_reducible refine uud ?_ | with_reducible refine zzi ?_ zN _)
   | true =>
     have h3:=qzh L
     rw [hS] at h3
     obtain⟨p,h4⟩:=Option.isSome_iff_exists.1 h3
     obtain⟨g1,g2,g3⟩:=p
     obtain⟨hL,_⟩:=vvO h4
     dsimp only at hL
     subst hL
     obtain⟨v,hv⟩:∃ v,v=kqG (g1,g2,g3):=⟨_,rfl⟩
     have hcnt:=yy1 _ l _ zN hT
     have hb3:g3.b.length<=4294967000:=by simp only [bsum,List.length_cons,List.length_nil] at hcnt;have:=HL.out;omega
     have HT4:=zH h4;have HV:=zH hv;have HS:=zH hS
     clear hT hS h3 h4 hcnt
     go_enter Tryz.func136,Tryz.ntmps136
     go_upto_region 5 with (first
      | (go_at_call 74;refine (jj4 F A n c l _ _ HHA.out (by omega) HT.out).mono ?_;rintro e w1 ⟨A1,n1,c1,rfl,hb1,hs1⟩;have HB1:=zH hb1;have HS1:=zH hs1;clear hb1 hs1)
      | (go_at_call 135;refine (vvu _ _ A1 _ n1 c1 3 3 _ [false,false,true] _ (HS1.out.alloc _) (sl_ffT w1 _ rfl)).mono ?_;rintro e w2 ⟨rfl,hd2⟩;rw [HS.out]
         have hb2:=HB1.out.trans (((Below.refl w1.heap.size w1).alloc zN (.cells #[.bool false,.bool false,.bool true] 4)).trans (hd2.below.mono (by simp)) |>.mono HB1.out.size)
         have hbk:w2.heap[w.heap.size]?=some (.cells #[.bool false,.int .i64 0,.string ⟨#[]⟩] 74 (0,0)):=(hb2.block _ (by simp)).trans (heap_alloc_new w _)
         have q0:w2.cell? ⟨w.heap.size,0,none⟩=some (.bool false):=(by rw [zC hbk];rfl)
         have q1:w2.cell? ⟨w.heap.size,1,none⟩=some (.int .i64 0):=(by rw [zC hbk];rfl)
         have q2:w2.cell? ⟨w.heap.size,2,none⟩=some (.string ⟨#[]⟩):=(by rw [zC hbk];rfl)
         have f0:=zF hbk 0;have f1:=zF hbk 1;have f2:=zF hbk 2
         have HB2A:=zH hb2;have HB2:=zH (HBW.out.trans (hb2.mono HBW.out.size));have HBK:=zH hbk;have HS2:=zH ((HS1.out.alloc (.cells #[.bool false,.bool false,.bool true] 4)).drewE hd2);clear hb2 hbk hd2)
      | fail)
     clear q0 q1 q2 f0 f1 f2
     have hS:Sl tFld (fun b=>w.heap.size<b) w2 A1 n1 c1 [g1,g2,g3]:=HS2.out.weaken fun b hb _=>by simp at hb;omega
     have hn1:n1=3:=hS.len
     subst hn1
     obtain⟨b,o,cs1,rfl,hb,hbl,hr1,hc1⟩:=hS.at_ (k:=0) (by simp) (by decide)
     obtain⟨b',o',cs2,e2,_,_,hr2,hc2⟩:=hS.at_ (k:=1) (by simp) (by decide)
     injection e2 with e2;injection e2 with e2 e2';subst e2 e2'
     obtain⟨b',o',cs3,e3,_,_,hr3,hc3⟩:=hS.at_ (k:=2) (by simp) (by decide)
     injection e3 with e3;injection e3 with e3 e3';subst e3 e3'
     obtain⟨A2,n2,c2,rfl,_,hx1,_⟩:=hr1
     obtain⟨A3,n3,c3,rfl,_,hx2,_⟩:=hr2
     obtain⟨A4,n4,c4,rfl,_,_,hs4⟩:=hr3
     simp only [List.getElem_cons_zero,List.getElem_cons_succ] at hc1 hc2 hc3 hx1 hx2 hs4
     have k1:=(xxN hc1).2.2.1
     have k2:=(xxN hc2).2.2.1
     have k3:=(xxN hc3).2.2.2
     simp only [Nat.zero_mul,Nat.add_zero,Nat.reduceMul] at k1 k2 k3
     have HS4:=zH hs4
     have hz:=kqO g2.n hx2
     have hvok:v.ok:=by rw [hv];exact⟨hz.1,hz.2,by show g3.b.toArray.size<=maxLen;simp only [List.size_toArray,maxLen];omega⟩
     have hvs:v.s.size<=4294967000:=by rw [hv];show g3.b.toArray.size<=_;simp only [List.size_toArray];exact hb3
     have hv0:((g1.n:Int)==1)=v.null:=by
      rw [hv];show _=decide (g1.n=1)
      by_cases h1:g1.n=1
      · simp [h1]
      · simp [h1];omega
     have hv1:zagI g2.n=v.n:=by rw [hv];rfl
     have hv2:(⟨g3.b.toArray⟩:ByteArray)=v.s:=by rw [hv];rfl
     have HV0:=zH hv0;have HV1:=zH hv1;have HV2:=zH hv2;have HVOK:=zH hvok
     clear hc1 hc2 hc3 hs4 hS hv0 hv1 hv2 hvok hz hv
     go_cut [7] from 23 to 38 (fun x wx=>x=.pointer (some ⟨w2.heap.size,0,none⟩)/\Below w2.heap.size w2 wx/\wx.cell? ⟨w2.heap.size,0,none⟩=some (.bool v.null)/\wx.cell? ⟨w2.heap.size,1,none⟩=some (.int .i64 v.n)/\wx.cell? ⟨w2.heap.size,2,none⟩=some (.string v.s))
     case first =>
      go_region_held3 (fun w'=>w'.cell? ⟨b,o+2,none⟩=some (.int .u64 (g1.n:Int))/\w'.cell? ⟨b,o+4+2,none⟩=some (.int .u64 (g2.n:Int))/\w'.cell? ⟨b,o+8+3,none⟩=some (.slice A4 n4 c4)/\(convert 41 9 (.slice A4 n4 c4)).run Tryz.prog w'=.ok (.string ⟨g3.b.toArray⟩) w')
       (first
         | exact⟨k1,k2,k3,zzq HS4.out.drew⟩
         | assumption
         | (refine⟨?_,?_,?_,?_⟩;rotate_left 3;(· have hs:=HS4.out;refine zzq (F:=fun b=>w.heap.size<b) ?_;repeat (first | with_reducible exact hs | with_reducible refine Sl.drew ?_ | with_reducible refine Sl.alloc ?_ _ | with_reducible refine jjW ?_ (Nat.lt_irrefl _) _));all_goals (first | go_keep | exact zzh ((zR).drew.alloc zN _) (by assumption))))
       (first
         | (go_at_call 137;refine (xqj g2.n _ hx2).mono ?_;rintro e w' ⟨rfl,rfl⟩)
         | fail)
      all_goals
       go_wp2_with fail
       go_meet
       rw [<-HV0.out,<-HV1.out,<-HV2.out]
       refine⟨rfl,((zR).alloc zN _).drew,?_,?_,?_⟩ <;> exact World.cell?_alloc_new ..
     case rest =>
      obtain⟨rfl,hb3,k0,k1',k2'⟩:=hcut
      have HB3:=zH hb3
      have hb23:=HB2A.out.trans (hb3.mono HB2A.out.size)
      have HB23:=zH hb23
      have hbb:=HBW.out.trans (hb23.mono HBW.out.size)
      have hs3:=HH.out.below hbb zN
      have HS3:=zH hs3
      have hcv0:=zzq hs3
      obtain⟨w3,rfl⟩:∃ w3:World,w3=wc:=⟨_,rfl⟩
      clear k1 k2 k3 hb3 hb23 hbb hs3 HBK
      by_cases heq:zzZ v=l
      · have HEQ:=zH heq.symm
        have htv:zzr l=some v:=by
         rw [<-uuf];unfold yyq;rw [HT.out,Option.bind_some,HT4.out];dsimp only;rw [<-HV.out,if_pos heq]
        have HTV:=zH htv
        clear heq htv
        go_wp2_with fail
        refine wp_region_held_drew (S:=(fun w'=>w'.cell? ⟨w2.heap.size,0,none⟩=some (.bool v.null)/\w'.cell? ⟨w2.heap.size,1,none⟩=some (.int .i64 v.n)/\w'.cell? ⟨w2.heap.size,2,none⟩=some (.string v.s)/\(convert 41 9 (.slice A n c)).run Tryz.prog w'=.ok (.string ⟨l.toArray⟩) w')) (by kernel_rfl) ?_ (fun hHeld=>?_)
        · ((try dsimp only);(first | exact⟨k0,k1',k2',zzq HS3.out.drew⟩ | exact⟨zzh hb4 k0,zzh hb4 k1',zzh hb4 k2',zzq (HS3.out.drew.below hb4 zN)⟩ | go_keep))
        (refine wpAnyH_take (i:=0) (oi:=⟨_,_,_,_,_,_⟩) (v:=?_) rfl (by kernel_rfl) (by kernel_rfl) (by kernel_rfl) (fun _ _ _ h=>h) (Or.inl ⟨by rfl,?_⟩) (by assumption) ?_;rotate_left;· (intro w hSw;(try dsimp only at hSw);go_simp;try with_reducible rfl));(try simp only [Act.put]);(try simp only [List.setIfInBounds_toArray]);(try simp only [List.set_cons_succ]);(try simp only [List.set_cons_zero])
        (refine wpAnyH_take (i:=3) (oi:=⟨_,_,_,_,_,_⟩) (v:=?_) rfl (by kernel_rfl) (by kernel_rfl) (by kernel_rfl) (fun _ _ _ h=>h) (Or.inl ⟨by rfl,?_⟩) (by assumption) ?_;rotate_left;· (intro w hSw;(try dsimp only at hSw);go_simp;try with_reducible rfl));(try simp only [Act.put]);(try simp only [List.setIfInBounds_toArray]);(try simp only [List.set_cons_succ]);(try simp only [List.set_cons_zero])
        (refine wpAnyH_take (i:=4) (oi:=⟨_,_,_,_,_,_⟩) (v:=?_) rfl (by kernel_rfl) (by kernel_rfl) (by kernel_rfl) (fun _ _ _ h=>h) (Or.inl ⟨by rfl,?_⟩) (by assumption) ?_;rotate_left;· (intro w hSw;(try dsimp only at hSw);go_simp;try with_reducible rfl));(try simp only [Act.put]);(try simp only [List.setIfInBounds_toArray]);(try simp only [List.set_cons_succ]);(try simp only [List.set_cons_zero])
        refine wpAnyH_ready (rs:=[1]) (by kernel_rfl) (by simp) ?_
        refine AllReadyH.cons (o:=⟨_,_,_,_,_,_⟩) rfl (fun K hK=>?_) ?_
        · (go_simp;((go_at_call 126;refine (jj5 v HVOK.out hvs l HEQ.out _).mono ?_;rintro e w4 ⟨A5,n5,c5,rfl,hown4,hb4⟩;have hcv4:=zzq hown4.bs)))
          refine hK.out _ _ ?_ (fun hHeld=>?_)
          · ((try dsimp only);(first | exact⟨k0,k1',k2',zzq HS3.out.drew⟩ | exact⟨zzh hb4 k0,zzh hb4 k1',zzh hb4 k2',zzq (HS3.out.drew.below hb4 zN)⟩ | go_keep))
          clear hK K;(try simp only [Act.put]);(try simp only [List.setIfInBounds_toArray]);(try simp only [List.set_cons_succ]);(try simp only [List.set_cons_zero])
          refine wpAnyH_ready (rs:=[2]) (by kernel_rfl) (by simp) ?_
          refine AllReadyH.cons (o:=⟨_,_,_,_,_,_⟩) rfl (fun K hK=>?_) ?_
          · go_simp
            refine hK.out _ _ ?_ (fun hHeld=>?_)
            · ((try dsimp only);(first | exact⟨k0,k1',k2',zzq HS3.out.drew⟩ | exact⟨zzh hb4 k0,zzh hb4 k1',zzh hb4 k2',zzq (HS3.out.drew.below hb4 zN)⟩ | go_keep))
            clear hK K;(try simp only [Act.put]);(try simp only [List.setIfInBounds_toArray]);(try simp only [List.set_cons_succ]);(try simp only [List.set_cons_zero])
            (refine wpAnyH_take (i:=5) (oi:=⟨_,_,_,_,_,_⟩) (v:=?_) rfl (by kernel_rfl) (by kernel_rfl) (by kernel_rfl) (fun _ _ _ h=>h) (Or.inl ⟨by rfl,?_⟩) (by assumption) ?_;rotate_left;· (intro w hSw;(try dsimp only at hSw);go_simp;try with_reducible rfl));(try simp only [Act.put]);(try simp only [List.setIfInBounds_toArray]);(try simp only [List.set_cons_succ]);(try simp only [List.set_cons_zero])
            refine wpAnyH_done (by kernel_rfl) ?_ _
            have hb4':Below w3.heap.size w3 w4:=(show Below w3.heap.size w3 w3.drew from (zR).drew).trans hb4
            have hb24:=HB23.out.trans (hb4'.mono HB23.out.size)
            have hbk:w4.heap[w.heap.size]?=some (.cells #[.bool false,.int .i64 0,.string ⟨#[]⟩] 74 (0,0)):=(hb24.block _ (by simp)).trans (heap_alloc_new w _)
            have q0:w4.cell? ⟨w.heap.size,0,none⟩=some (.bool false):=(by rw [zC hbk];rfl)
            have q1:w4.cell? ⟨w.heap.size,1,none⟩=some (.int .i64 0):=(by rw [zC hbk];rfl)
            have q2:w4.cell? ⟨w.heap.size,2,none⟩=some (.string ⟨#[]⟩):=(by rw [zC hbk];rfl)
            have f0:=zF hbk 0;have f1:=zF hbk 1;have f2:=zF hbk 2
            have HBK:=zH hbk;have HB4:=zH (HBW.out.trans (hb24.mono HBW.out.size))
            have j0:=zzh hb4' k0;have j1:=zzh hb4' k1';have j2:=zzh hb4' k2'
            have hne:w.heap.size<w2.heap.size:=by have:=HB2A.out.size;simp at this;omega
            clear hbk hb24 hb4' hb4 hown4 hcv4 hcv0 k0 k1' k2'
            go_wp2_with fail
            refine bodyPost_ret (zzD rfl _ _ w.heap.size 74 #[.bool v.null,.int .i64 v.n,.string v.s] (0,0) _ rfl (by have hk:=HBK.out;(repeat (first | with_reducible exact hk | with_reducible apply yyh | with_reducible apply zza));all_goals rfl) Tryz.underlying74 rfl (by kernel_rfl)) rfl
             ⟨by rw [zzF HTV.out,HTV.out];rfl,?_,by rw [zzF HTV.out];exact HVOK.out,by rw [zzF HTV.out];show v.s.size<=_;omega⟩
            have hb:=HB4.out
            repeat (first | with_reducible exact hb | with_reducible refine uud ?_ | with_reducible refine zzi ?_ zN _)
          exact AllReadyH.nil
        exact AllReadyH.nil
      · obtain⟨p,hp⟩:∃ p,p=zzZ v:=⟨_,rfl⟩
        have HP:=zH hp
        have hpq:(p==l)=false:=beq_eq_false_iff_ne.2 (by rw [hp];exact heq)
        have HN:=zH (qxo (l:=l) (by unfold yyq;rw [HT.out,Option.bind_some,HT4.out];dsimp only;rw [<-HV.out,if_neg heq]))
        clear heq hp
        go_wp2_with fail
        refine wp_region_held_drew (S:=(fun w'=>w'.cell? ⟨w2.heap.size,0,none⟩=some (.bool v.null)/\w'.cell? ⟨w2.heap.size,1,none⟩=some (.int .i64 v.n)/\w'.cell? ⟨w2.heap.size,2,none⟩=some (.string v.s)/\(convert 41 9 (.slice A n c)).run Tryz.prog w'=.ok (.string ⟨l.toArray⟩) w')) (by kernel_rfl) ?_ (fun hHeld=>?_)
        · ((try dsimp only);(first | exact⟨k0,k1',k2',zzq HS3.out.drew⟩ | exact⟨zzh hb4 k0,zzh hb4 k1',zzh hb4 k2',zzq (HS3.out.drew.below hb4 zN)⟩ | go_keep))
        (refine wpAnyH_take (i:=0) (oi:=⟨_,_,_,_,_,_⟩) (v:=?_) rfl (by kernel_rfl) (by kernel_rfl) (by kernel_rfl) (fun _ _ _ h=>h) (Or.inl ⟨by rfl,?_⟩) (by assumption) ?_;rotate_left;· (intro w hSw;(try dsimp only at hSw);go_simp;try with_reducible rfl));(try simp only [Act.put]);(try simp only [List.setIfInBounds_toArray]);(try simp only [List.set_cons_succ]);(try simp only [List.set_cons_zero])
        (refine wpAnyH_take (i:=3) (oi:=⟨_,_,_,_,_,_⟩) (v:=?_) rfl (by kernel_rfl) (by kernel_rfl) (by kernel_rfl) (fun _ _ _ h=>h) (Or.inl ⟨by rfl,?_⟩) (by assumption) ?_;rotate_left;· (intro w hSw;(try dsimp only at hSw);go_simp;try with_reducible rfl));(try simp only [Act.put]);(try simp only [List.setIfInBounds_toArray]);(try simp only [List.set_cons_succ]);(try simp only [List.set_cons_zero])
        (refine wpAnyH_take (i:=4) (oi:=⟨_,_,_,_,_,_⟩) (v:=?_) rfl (by kernel_rfl) (by kernel_rfl) (by kernel_rfl) (fun _ _ _ h=>h) (Or.inl ⟨by rfl,?_⟩) (by assumption) ?_;rotate_left;· (intro w hSw;(try dsimp only at hSw);go_simp;try with_reducible rfl));(try simp only [Act.put]);(try simp only [List.setIfInBounds_toArray]);(try simp only [List.set_cons_succ]);(try simp only [List.set_cons_zero])
        refine wpAnyH_ready (rs:=[1]) (by kernel_rfl) (by simp) ?_
        refine AllReadyH.cons (o:=⟨_,_,_,_,_,_⟩) rfl (fun K hK=>?_) ?_
        · (go_simp;((go_at_call 126;refine (jj5 v HVOK.out hvs p HP.out _).mono ?_;rintro e w4 ⟨A5,n5,c5,rfl,hown4,hb4⟩;have hcv4:=zzq hown4.bs)))
          refine hK.out _ _ ?_ (fun hHeld=>?_)
          · ((try dsimp only);(first | exact⟨k0,k1',k2',zzq HS3.out.drew⟩ | exact⟨zzh hb4 k0,zzh hb4 k1',zzh hb4 k2',zzq (HS3.out.drew.below hb4 zN)⟩ | go_keep))
          clear hK K;(try simp only [Act.put]);(try simp only [List.setIfInBounds_toArray]);(try simp only [List.set_cons_succ]);(try simp only [List.set_cons_zero])
          refine wpAnyH_ready (rs:=[2]) (by kernel_rfl) (by simp) ?_
          refine AllReadyH.cons (o:=⟨_,_,_,_,_,_⟩) rfl (fun K hK=>?_) ?_
          · go_simp
            refine hK.out _ _ ?_ (fun hHeld=>?_)
            · ((try dsimp only);(first | exact⟨k0,k1',k2',zzq HS3.out.drew⟩ | exact⟨zzh hb4 k0,zzh hb4 k1',zzh hb4 k2',zzq (HS3.out.drew.below hb4 zN)⟩ | go_keep))
            clear hK K;(try simp only [Act.put]);(try simp only [List.setIfInBounds_toArray]);(try simp only [List.set_cons_succ]);(try simp only [List.set_cons_zero])
            (refine wpAnyH_take (i:=5) (oi:=⟨_,_,_,_,_,_⟩) (v:=?_) rfl (by kernel_rfl) (by kernel_rfl) (by kernel_rfl) (fun _ _ _ h=>h) (Or.inl ⟨by rfl,?_⟩) (by assumption) ?_;rotate_left;· (intro w hSw;(try dsimp only at hSw);go_simp;try with_reducible rfl));(try simp only [Act.put]);(try simp only [List.setIfInBounds_toArray]);(try simp only [List.set_cons_succ]);(try simp only [List.set_cons_zero])
            refine wpAnyH_done (by kernel_rfl) ?_ _
            have hb4':Below w3.heap.size w3 w4:=(show Below w3.heap.size w3 w3.drew from (zR).drew).trans hb4
            have hb24:=HB23.out.trans (hb4'.mono HB23.out.size)
            have hbk:w4.heap[w.heap.size]?=some (.cells #[.bool false,.int .i64 0,.string ⟨#[]⟩] 74 (0,0)):=(hb24.block _ (by simp)).trans (heap_alloc_new w _)
            have q0:w4.cell? ⟨w.heap.size,0,none⟩=some (.bool false):=(by rw [zC hbk];rfl)
            have q1:w4.cell? ⟨w.heap.size,1,none⟩=some (.int .i64 0):=(by rw [zC hbk];rfl)
            have q2:w4.cell? ⟨w.heap.size,2,none⟩=some (.string ⟨#[]⟩):=(by rw [zC hbk];rfl)
            have f0:=zF hbk 0;have f1:=zF hbk 1;have f2:=zF hbk 2
            have HBK:=zH hbk;have HB4:=zH (HBW.out.trans (hb24.mono HBW.out.size))
            have j0:=zzh hb4' k0;have j1:=zzh hb4' k1';have j2:=zzh hb4' k2'
            have hne:w.heap.size<w2.heap.size:=by have:=HB2A.out.size;simp at this;omega
            clear hbk hb24 hb4' hb4 hown4 hcv4 hcv0 k0 k1' k2'
            go_wp2_with fail
            refine bodyPost_ret (zzD rfl _ _ w.heap.size 74 #[.bool false,.int .i64 0,.string ⟨#[]⟩] (0,0) _ rfl (by have hk:=HBK.out;(repeat (first | with_reducible exact hk | with_reducible apply yyh | with_reducible apply zza));all_goals rfl) Tryz.underlying74 rfl (by kernel_rfl)) rfl
             ⟨by rw [zzt HN.out,HN.out];rfl,?_,by rw [zzt HN.out];exact⟨by decide,by decide,by decide⟩,by rw [zzt HN.out];decide⟩
            have hb:=HB4.out
            repeat (first | with_reducible exact hb | with_reducible refine uud ?_ | with_reducible refine zzi ?_ zN _)
          exact AllReadyH.nil
        exact AllReadyH.nil
end
section
open Go Go.RowKit
theorem same20_any (F F2:Nat->Prop) (A B:Option Addr) (n c c2:Nat) (l:List ST) (w:World) (h:Sl tSt F w A n c l) (h2:Sl tSt F2 w B n c2 l) (hn:n<=4096) (hl:∀ s∈l,s.2.1.length<=4096/\s.2.2.length<=4096) :
 Calls Tryz.prog 22 #[.slice A n c,.slice B n c2] w fun e w'=>e=.returned (.bool true)/\Below w.heap.size w w':=by
 have HL:=zH h.len;have HN:=zH hn;have HH:=zH h;have HH2:=zH h2;have HSM:=zH hl
 clear h h2 hn hl
 go_enter Tryz.func22,Tryz.ntmps22
 go_wp2_with fail
 go_loopw [5] (fun iv wr=>∃ i:Nat,i<=n/\iv=.int .i64 (i:Int)/\Below w.heap.size w wr) (fun iv _=>n - (intOf iv).toNat)
 case atStart=>exact⟨0,Nat.zero_le _,rfl,zR⟩
 case round =>
  obtain⟨i,hi,rfl,hb⟩:=hrel
  have HB:=zH hb
  clear hb
  by_cases hlt:i<n
  · have hil:i<l.length:=by rw [<-HL.out];exact hlt
    obtain⟨b,o,cs,rfl,_,_,hrep,hc⟩:=(HH.out.below HB.out zN).at_ hil (by decide)
    obtain⟨b2,o2,cs2,rfl,_,_,hrep2,hc2⟩:=(HH2.out.below HB.out zN).at_ hil (by decide)
    obtain⟨⟨rw_,lg,st⟩,hx⟩:∃ x,x=l[i]:=⟨_,rfl⟩
    rw [<-hx] at hrep hrep2
    obtain⟨A3,n3,c3,A4,n4,c4,rfl,h3,h4⟩:=yyg hrep
    obtain⟨A5,n5,c5,A6,n6,c6,rfl,h5,h6⟩:=yyg hrep2
    dsimp only at hc hc2 h3 h4 h5 h6
    obtain rfl:n5=n3:=h5.len.trans h3.len.symm
    obtain rfl:n6=n4:=h6.len.trans h4.len.symm
    have HM:=zH (show lg.length<=4096/\st.length<=4096 by have:=HSM.out _ (List.getElem_mem hil);rw [<-hx] at this;exact this)
    have HL3:=zH h3.len;have HL4:=zH h4.len
    have H3:=zH h3;have H4:=zH h4;have H5:=zH h5;have H6:=zH h6
    obtain⟨g0,g1,g2⟩:=yyj hc
    obtain⟨y0,y1,y2⟩:=yyj hc2
    have i0:(0:Int)<=(i:Int):=by omega
    have i1:(i:Int)<(n:Int):=by omega
    have i2:(i:Int)<=4096:=by have:=HN.out;omega
    have G1:=zH g1;have G2:=zH g2;have Y1:=zH y1;have Y2:=zH y2
    clear hc hc2 hx hrep hrep2 h3 h4 h5 h6
    go_wp2_with fail
    go_quiet (fail)
    clear g0 g1 g2 y0 y1 y2
    obtain⟨wl,hwl⟩:∃ wl,wl=wr:=⟨_,rfl⟩
    rw [<-hwl] at HB H3 H4 H5 H6 G1 G2 Y1 Y2
    rw [<-hwl]
    clear hwl
    go_wp2_with fail
    go_loopw [6] (fun kv wx=>∃ k:Nat,k<=n5/\kv=.int .i64 (k:Int)/\Below wl.heap.size wl wx) (fun kv _=>n5 - (intOf kv).toNat)
    case atStart=>exact⟨0,Nat.zero_le _,rfl,xxn (zR) _⟩
    case round =>
     obtain⟨k,hk,rfl,hbx⟩:=hrel
     have HBX:=zH hbx
     have f1:=zzh hbx G1.out;have f2:=zzh hbx Y1.out
     clear hbx
     by_cases hkq:k<n5
     · have hk3:k<lg.length:=by rw [<-HL3.out];exact hkq
       obtain⟨b3,o3,u3,rfl,_,_,hr3,y3⟩:=(H3.out.below HBX.out zN).at1 hk3 rfl
       obtain⟨b5,o5,u5,rfl,_,_,hr5,y5⟩:=(H5.out.below HBX.out zN).at1 hk3 rfl
       obtain⟨x,hx⟩:∃ x,x=lg[k]:=⟨_,rfl⟩
       rw [<-hx] at hr3 hr5
       obtain⟨hu3,_,_⟩:=hr3
       obtain⟨hu5,_,_⟩:=hr5
       injection hu3 with hu3
       injection hu5 with hu5
       subst hu3 hu5
       have j0:(0:Int)<=(k:Int):=by omega
       have j1:(k:Int)<(n5:Int):=by omega
       have j3:(k:Int)<=4096:=by have h1:=HL3.out;have h2:=HM.out.1;omega
       clear hx
       go_wp2_with fail
       go_quiet (fail)
       go_wp2_with fail
       go_roundw
       case rel=>exact⟨k+1,by omega,by go_num,xxn HBX.out _⟩
       case measure=>simp [intOf];omega
     · obtain rfl:k=n5:=by omega
       have q1:¬ (k:Int)<(k:Int):=by omega
       go_wp2_with fail
       clear f1 f2
       obtain⟨wm,hwm⟩:∃ wm,wm=wr:=⟨_,rfl⟩
       rw [<-hwm] at HBX
       go_loopw [7] (fun kv wx=>∃ k:Nat,k<=n6/\kv=.int .i64 (k:Int)/\Below wl.heap.size wl wx) (fun kv _=>n6 - (intOf kv).toNat)
       case atStart=>exact⟨0,Nat.zero_le _,rfl,by rw [<-hwm];exact HBX.out⟩
       case round =>
        clear hwm
        obtain⟨j,hj,rfl,hbx⟩:=hrel
        have HBY:=zH hbx
        have f1:=zzh hbx G2.out;have f2:=zzh hbx Y2.out
        clear hbx
        by_cases hjq:j<n6
        · have hj4:j<st.length:=by rw [<-HL4.out];exact hjq
          obtain⟨b4,o4,cs4,rfl,_,_,hr4,hc4⟩:=(H4.out.below HBY.out zN).at_ hj4 (by decide)
          obtain⟨b6,o6,cs6,rfl,_,_,hr6,hc6⟩:=(H6.out.below HBY.out zN).at_ hj4 (by decide)
          obtain⟨z,hz⟩:∃ z,z=st[j]:=⟨_,rfl⟩
          rw [<-hz] at hr4 hr6
          obtain⟨rfl,_⟩:=hr4
          obtain⟨rfl,_⟩:=hr6
          obtain⟨z0,z1,z2,z3,z4,z5,z6,z7,z8,z9⟩:=kqN (uu5 hc4)
          obtain⟨x0,x1,x2,x3,x4,x5,x6,x7,x8,x9⟩:=kqN (uu5 hc6)
          have j0:(0:Int)<=(j:Int):=by omega
          have j1:(j:Int)<(n6:Int):=by omega
          have j3:(j:Int)<=4096:=by have h1:=HL4.out;have h2:=HM.out.2;omega
          clear hz hc4 hc6
          go_wp2_with fail
          go_quiet (fail)
          go_wp2_with fail
          go_roundw
          case rel=>exact⟨j+1,by omega,by go_num,xxn HBY.out _⟩
          case measure=>simp [intOf];omega
        · obtain rfl:j=n6:=by omega
          have q2:¬ (j:Int)<(j:Int):=by omega
          go_wp2_with fail
          go_roundw
          case rel=>exact⟨i+1,by omega,by go_num,HB.out.trans (HBY.out.mono HB.out.size)⟩
          case measure=>simp [intOf];omega
  · obtain rfl:i=n:=by omega
    have q0:¬ (i:Int)<(i:Int):=by omega
    go_wp2_with fail
    go_ret
    exact⟨rfl,HB.out⟩
end
section
open Go Go.RowKit
theorem cell_eq {w w':World} {b o:Nat} (h:w'.heap[b]?=w.heap[b]?):w'.cell? ⟨b,o,none⟩=w.cell? ⟨b,o,none⟩:=by
 unfold World.cell?;simp only [h]
theorem qzl (F:Nat->Prop) (A:Option Addr) (n c:Nat) (l:List ST) (w:World) (h:Sl tSt F w A n c l) (hn:n<=20) (hl:∀ s∈l,stOk s) :
 Calls Tryz.prog 25 #[.slice A n c] w (Own1 w (idxB l)):=by
 have HL:=zH h.len;have HH:=zH (h.weaken (F':=fun b=>b<w.heap.size) fun b _ hl=>hl)
 have HWL0:wlen (idxF l)<=1640000400:=by
  have h1:=jjU l hl
  have h3:82000020*l.length<=82000020*20:=Nat.mul_le_mul_left _ (by have:=h.len;omega)
  exact Nat.le_trans h1 h3
 have HW:=zH (show wlen (idxF l)<=4294967200 by omega)
 have HWL:=zH (Nat.le_trans (vvS (idxF l)) HWL0)
 have HOK:=zH hl;have HN:=zH hn
 clear h hl HWL0
 go_enter Tryz.func25,Tryz.ntmps25
 go_wp2_with fail
 go_loopw [3,4] (fun fv iv wr=>∃ (i m:Nat) (A2:Option Addr) (c2:Nat) (G:Nat->Prop),i<=n/\iv=.int .i64 (i:Int)/\fv=.slice A2 m c2/\OwnF tFld 120 G wr w.heap.size A2 m c2 (idxF (l.take i))/\Below w.heap.size w wr) (fun _ iv _=>n - (intOf iv).toNat)
 case atStart=>exact⟨0,0,_,_,fun _=>False,Nat.zero_le _,rfl,rfl,OwnF.empty _ _ _ _ _ zN (fun _ hb=>hb.elim),(zR).alloc zN _⟩
 case round =>
  obtain⟨i,m,A2,c2,G2,hi,rfl,rfl,ho,hb⟩:=hrel
  have HO:=zH ho;have HB:=zH hb
  have hsz:=hb.size
  clear ho hb
  by_cases hlt:i<n
  · have hil:i<l.length:=by rw [<-HL.out];exact hlt
    obtain⟨b,o,cs,rfl,hbw0,hbl,hrep,hc⟩:=(HH.out.below HB.out zN).at_ hil (by decide)
    obtain⟨⟨rw_,lg,st⟩,hx⟩:∃ x,x=l[i]:=⟨_,rfl⟩
    rw [<-hx] at hrep
    obtain⟨A3,n3,c3,A4,n4,c4,rfl,h3,h4⟩:=yyg hrep
    dsimp only at hc h3 h4
    have HX:=zH hx
    have hok:stOk (rw_,lg,st):=by rw [hx];exact HOK.out _ (List.getElem_mem hil)
    have HLG:Hid (lg.length<=20):=zH hok.1
    have HSO:Hid (∀ z∈st,z.ok):=zH hok.2
    have H3:=zH h3;have H4:=zH h4
    have HML:Hid (m<=41*i):=zH (by
     rw [HO.out.len]
     have h5:=uub (l.take i) (fun s hs=>(HOK.out s (List.mem_of_mem_take hs)).1)
     rw [List.length_take] at h5
     omega)
    have HM2:Hid (m<=34359738368):=zH (by have:=HML.out;omega)
    obtain⟨g0,g1,g2⟩:=yyj hc
    have G1:=zH g1;have G3:=zH g2
    have i0:(0:Int)<=(i:Int):=by omega
    have i1:(i:Int)<(n:Int):=by omega
    have i2:(i:Int)<=20:=by omega
    have HBW0:=zH hbw0;have HBL0:=zH hbl
    clear hc hx hrep hok h3 h4 g1 g2 hbw0 hbl
    go_upto_region 6 with (first
     | (go_at_call 64;refine (kqw _ _ _).mono ?_;rintro e w4 ⟨rfl,hb4⟩;have HB4:=zH hb4;clear hb4)
     | (at_builtin;refine apl1 (T:=tFld) vv6 w4 w rfl (.tmp 15) (.tmp 22) rfl w.heap.size A2 m c2 _ (by rfl) G2 (fun _=>False) (HO.out.keepB HB4.out) (HB.out.trans (HB4.out.mono HB.out.size)) zN _ (by rfl) _ (unum 1 rw_) (yys (by unfold i64;omega)) 120 rfl (fun _ _ _ _ h=>h) HM2.out ?_;intro A5 c5 w5 h5)
     | fail)
    have HB5:=zH h5.below
    have HO5:=zH h5.own
    have HWS5':wr.heap.size<=w5.heap.size:=by have h6:=h5.grown.size;rw [zS] at h6;have h7:=HB4.out.size;omega
    obtain⟨wl,hwl⟩:∃ wl,wl=wr:=⟨_,rfl⟩
    rw [<-hwl] at H3 H4 HB G1 G3 HBL0 HWS5'
    have HWS5:=zH HWS5'
    clear h5 g0 hwl HWS5'
    obtain⟨q,hq⟩:∃ q,q=min n3 n4:=⟨_,rfl⟩
    have HQM:=zH hq
    obtain⟨zp,hzp⟩:∃ zp,zp=lg.zip st:=⟨_,rfl⟩
    have HZP:=zH hzp
    have HZL:Hid (zp.length=q):=zH (by rw [hzp,List.length_zip,<-H3.out.len,<-H4.out.len];exact HQM.out.symm)
    have HQ20:Hid (q<=20):=zH (by have h1:=H3.out.len;have h2:lg.length<=20:=HLG.out;have h3:=HQM.out;omega)
    have HSZ:Hid (∀ wx,Below w.heap.size w wx->∀ b,b<w.heap.size->wx.heap[b]?=wl.heap[b]?):=zH (fun wx hbx b hb=>(hbx.block b hb).trans (HB.out.block b hb).symm)
    clear hzp hq
    go_wp2_with fail
    go_loopw [3,5] (fun fv kv wx=>∃ (k:Nat) (A6:Option Addr) (c6:Nat) (G6:Nat->Prop),k<=q/\kv=.int .i64 (k:Int)/\fv=.slice A6 (m+1+2*k) c6/\OwnF tFld 120 G6 wx w.heap.size A6 (m+1+2*k) c6 (idxF (l.take i)++[unum 1 rw_]++((zp.take k).map uuQ).flatten)/\Below w.heap.size w wx/\Hid (wl.heap.size<=wx.heap.size)) (fun _ kv _=>q - (intOf kv).toNat)
    case atStart=>exact⟨0,A5,c5,_,Nat.zero_le _,rfl,rfl,by rw [List.take_zero];simpa using HO5.out,HB5.out,HWS5⟩
    case round =>
     obtain⟨k,A6,c6,G6,hk,rfl,rfl,ho,hbx,HWS⟩:=hrel
     have HOX:=zH ho;have HBX:=zH hbx
     have hsx:=hbx.size
     have f1:wr.cell? ⟨b,o+i*3+1,none⟩=some (.slice A3 n3 c3):=(cell_eq (HSZ.out wr hbx b HBW0.out)).trans G1.out
     have f2:wr.cell? ⟨b,o+i*3+2,none⟩=some (.slice A4 n4 c4):=(cell_eq (HSZ.out wr hbx b HBW0.out)).trans G3.out
     clear ho hbx
     by_cases hkq:k<q
     · have hkz:k<zp.length:=by rw [HZL.out];exact hkq
       have hk3:k<lg.length:=by rw [<-H3.out.len];have:=HQM.out;omega
       have hk4:k<st.length:=by rw [<-H4.out.len];have:=HQM.out;omega
       have hx3:=H3.out.keep (w':=wr) HWS.out (fun b hb _=>HSZ.out wr HBX.out b hb)
       have hx4:=H4.out.keep (w':=wr) HWS.out (fun b hb _=>HSZ.out wr HBX.out b hb)
       obtain⟨b3,o3,u,rfl,hb3w,_,hr3,y3⟩:=hx3.at1 hk3 rfl
       obtain⟨b4,o4,cs4,rfl,hb4w,_,hr4,hc4⟩:=hx4.at_ hk4 (by decide)
       obtain⟨x,hx⟩:∃ x,x=lg[k]:=⟨_,rfl⟩
       obtain⟨z,hz⟩:∃ z,z=st[k]:=⟨_,rfl⟩
       rw [<-hx] at hr3
       rw [<-hz] at hr4
       obtain⟨hu,_,_⟩:=hr3
       injection hu with hu
       subst hu
       obtain⟨rfl,_⟩:=hr4
       obtain⟨z0,z1,z2,z3,z4,z5,z6,z7,z8,z9⟩:=kqN (uu5 hc4)
       have HZX:=zH (show (x,z)=zp[k] by have:=HZP.out;subst this;rw [hx,hz,List.getElem_zip])
       have HZO:Hid z.ok:=zH (by rw [hz];exact HSO.out _ (List.getElem_mem hk4))
       have HSN:=zH (kqC zp k hkz HZX.out)
       have j0:(0:Int)<=(k:Int):=by omega
       have j1:(k:Int)<(n3:Int):=by have:=HQM.out;omega
       have j2:(k:Int)<(n4:Int):=by have:=HQM.out;omega
       have j3:(k:Int)<=20:=by have:=HQ20.out;omega
       have HMK:Hid (m+1+2*k+2<=68719476736):=zH (by have:=HML.out;omega)
       have HN6:Hid (∀ b,A6.map (·.block)=some b->w.heap.size<=b/\b<wr.heap.size):=zH (fun b hb=>(HOX.out.lies' hb).2)
       have HB4W:=zH hb4w;have HB3W:=zH hb3w
       clear hx hz hc4 hx3 hx4 hb4w hb3w
       go_upto_region 9 with fail
       go_region_held3 (fun w'=>w'.cell? ⟨b,o+i*3+1,none⟩=some (.slice (some ⟨b3,o3,none⟩) n3 c3)/\w'.cell? ⟨b,o+i*3+2,none⟩=some (.slice (some ⟨b4,o4,none⟩) n4 c4)/\w'.cell? ⟨b3,o3+k,none⟩=some (.int .i64 x)/\w'.cell? ⟨b4,o4+k*10,none⟩=some (.int .i64 z.count)/\w'.cell? ⟨b4,o4+k*10+1,none⟩=some (.bool z.hasNull)/\w'.cell? ⟨b4,o4+k*10+2,none⟩=some (.bool z.min.null)/\w'.cell? ⟨b4,o4+k*10+3,none⟩=some (.int .i64 z.min.n)/\w'.cell? ⟨b4,o4+k*10+4,none⟩=some (.string z.min.s)/\w'.cell? ⟨b4,o4+k*10+5,none⟩=some (.bool z.max.null)/\w'.cell? ⟨b4,o4+k*10+6,none⟩=some (.int .i64 z.max.n)/\w'.cell? ⟨b4,o4+k*10+7,none⟩=some (.string z.max.s)/\w'.cell? ⟨b4,o4+k*10+8,none⟩=some (.int .i64 z.sum)/\w'.cell? ⟨b4,o4+k*10+9,none⟩=some (.bool z.over))
        (first | go_keep | (go_split_ands;refine⟨?_,?_,?_,?_,?_,?_,?_,?_,?_,?_,?_,?_,?_⟩ <;> exact zzh (by assumption) (by assumption)) | (go_split_ands;refine⟨?_,?_,?_,?_,?_,?_,?_,?_,?_,?_,?_,?_,?_⟩ <;> first | exact hgz.cell (by assumption) (fun e=>by have h1:w.heap.size<=b:=(HN6.out _ e.symm).1;have h2:=HBW0.out;omega) | exact hgz.cell (by assumption) (fun e=>by have h1:w.heap.size<=b3:=(HN6.out _ e.symm).1;have h2:=HB3W.out;omega) | exact hgz.cell (by assumption) (fun e=>by have h1:w.heap.size<=b4:=(HN6.out _ e.symm).1;have h2:=HB4W.out;omega)))
        (first
          | (go_at_call 64;refine (kqw _ _ _).mono ?_;rintro e w7 ⟨rfl,hb7⟩)
          | (go_at_call 66;refine (xxE z HZO.out _).mono ?_;rintro e w8 ⟨A8,n8,c8,rfl,ho8,hb8⟩)
          | (go_at_call 65;refine (zqW _ _ _ _ _).mono ?_;rintro e w9 ⟨rfl,hb9⟩)
          | (have hbw:Below wr.heap.size wr w9:=(by (repeat (first | exact zR | assumption | refine jja ?_ (by assumption) | refine xxK ?_ _ | refine jjb ?_)))
             have hb87:wr.heap.size<=w7.heap.size:=hb7.size
             have hs8:Sl tU8 (fun b=>wr.heap.size<=b) w9 A8 n8 c8 (zz7 z):=((ho8.own.sl.weaken (fun b hb _=>by (rcases hb with hb | hb;exact hb.elim;exact Nat.le_trans hb87 hb.2))).below hb9 zN)
             refine vvb (T:=tFld) vv6 (w9.alloc _) w rfl (.tmp 44) (.tmp 64) rfl w.heap.size A6 (m+1+2*k) c6 _ rfl G6 (fun b=>(wr.heap.size<=b/\b<w9.heap.size)∨b=w9.heap.size) ((HOX.out.keepB hbw).alloc _) ((HBX.out.trans (hbw.mono hsx)).alloc (by have:=hbw.size;omega) _) zN
              (some ⟨w9.heap.size,0,none⟩) 2 2 [unum 2 x,ftxt 3 (zz7 z)] rfl (Sl.news (T:=tFld) (F:=fun b=>wr.heap.size<=b) (Reps.mk2 (yys (by unfold i64;omega)) ⟨A8,n8,c8,rfl,by unfold i64;simp [ftxt],by simp [ftxt],hs8⟩) 120 2 rfl (by omega) _ rfl)
              (fun b h1 h2 _ h4=>by have h5:=(HN6.out b (by rw [h1];rfl)).2;have:=hbw.size;omega) HMK.out ?_
             intro A9 c9 wz hz9;have hgz:=hz9.grown
             have HWZ:Hid (wl.heap.size<=wz.heap.size):=zH (by have h1:=hgz.size;rw [zS] at h1;have h2:=HWS.out;have h3:=hbw.size;omega)))
       all_goals
        go_wp2_with fail
        go_roundw
        case rel =>
         have e2:=hz9.own
         exact⟨k+1,A9,c9,_,by omega,by go_num,by rw [show m+1+2*(k+1)=m+1+2*k+2 by omega],by rw [show m+1+2*(k+1)=m+1+2*k+2 by omega,HSN.out,<-List.append_assoc];exact e2,hz9.below,HWZ⟩
        case measure=>simp [intOf];omega
     · obtain rfl:k=q:=by omega
       have HFI:Hid (idxF (l.take (i+1))=idxF (l.take i)++[unum 1 rw_]++((zp.take k).map uuQ).flatten):=zH (by
        rw [zqh l i hil HX.out,List.append_assoc,show zp.take k=zp from zL (by rw [HZL.out];exact Nat.le_refl _),HZP.out];rfl)
       by_cases hk3:k<n3
       · have j1:(k:Int)<(n3:Int):=by omega
         have j2:¬ (k:Int)<(n4:Int):=by have:=HQM.out;omega
         go_wp2_with fail
         go_roundw
         case rel=>exact⟨i+1,m+1+2*k,A6,c6,G6,by omega,by go_num,rfl,by rw [HFI.out];exact HOX.out,HBX.out⟩
         case measure=>simp [intOf];omega
       · have j1:¬ (k:Int)<(n3:Int):=by omega
         go_wp2_with fail
         go_roundw
         case rel=>exact⟨i+1,m+1+2*k,A6,c6,G6,by omega,by go_num,rfl,by rw [HFI.out];exact HOX.out,HBX.out⟩
         case measure=>simp [intOf];omega
  · obtain rfl:i=n:=by omega
    have e1:l.take i=l:=zL (by rw [<-HL.out];exact Nat.le_refl _)
    rw [e1] at HO
    have hm:m<=4294967296:=by
     rw [HO.out.len]
     have h5:=uub l (fun s hs=>(HOK.out s hs).1)
     have:=HL.out
     omega
    have HM:=zH hm
    have hsw:=HB.out.size
    clear e1 hm
    go_wp2_with (first
     | (go_at_call 67;refine (jjK _ A2 m c2 (idxF l) _ HO.out.sl HM.out HW.out).mono ?_;rintro e w2 ⟨A3,n3,c3,rfl,ho3,hb3⟩;have HO3:=zH ho3;have HB3:=zH hb3;have hn3:n3<=4294967200:=(by have h1:=ho3.len;have h2:=HWL.out;omega);clear ho3 hb3)
     | (go_at_call 26;refine (vvX _ A3 n3 c3 (dput (idxF l)) _ HO3.out.bs hn3).mono ?_;rintro e w4 ⟨A4,n4,c4,rfl,ho4,hb4⟩;have HO4:=zH ho4;have HB4:=zH hb4;clear ho4 hb4)
     | fail)
    go_ret
    exact⟨A4,n4,c4,rfl,HO4.out.down (Nat.le_trans hsw HB3.out.size),(HB.out.trans (HB3.out.mono hsw)).trans (HB4.out.mono (Nat.le_trans hsw HB3.out.size))⟩
end
end Go.Proofs.YtpmglcachffojaaGreatDoor
