/- A part of what None leans on. -/
import Derived.Test.YtpmglcachffojaaGreatDoorZ29
set_option maxRecDepth 100000
set_option maxHeartbeats 16000000
namespace Go.Proofs.YtpmglcachffojaaGreatDoor
section
open Go Go.RowKit
theorem jjI (n:Nat):cntT (List.replicate n false)=0:=by
 unfold cntT
 rw [List.filter_replicate]
 rfl
theorem uuB (n:Nat):zq0 (List.replicate n false) []=some (List.replicate n (zzz false)):=by
 unfold zq0
 rw [if_pos ⟨jjI n,rfl⟩]
 unfold uu2
 rw [List.length_replicate]
 congr 1
 apply List.ext_getElem
 · simp
 · intro k h1 h2
   rw [List.getElem_map,List.getElem_range,List.getElem_replicate]
   have hk:k<n:=by simpa using h2
   unfold vvs
   rw [List.getD_eq_getElem?_getD,List.getElem?_eq_getElem (by simpa using hk),List.getElem_replicate]
   rfl
theorem kqr (k:Int) (N:Nat) (en tx:Int) (F:Nat->Prop) (A:Option Addr) (m c:Nat) (P:List UInt8) (rest:List (Int×List UInt8)) (w:World) (h:Sl zzo F w A m c ((1,P)::rest)) (hk:1<=k/\k<=7) (hN:N<=4096) (hP:P≠[]) (hPl:P.length<=4294967296) (hT:nuT P N=some (List.replicate N false))
 (hsome:∀ W,Below w.heap.size w W->Calls Tryz.prog 79 #[.int .i64 k,.agg #[.int .i64 (N:Int),.int .i64 en,.int .i64 tx,.slice A m c],.int .i64 0] W fun e w'=>e=.returned (.tuple #[.slice none 0 0,.int .i64 0])/\Below W.heap.size W w') :
 Calls Tryz.prog 34 #[.int .i64 k,.agg #[.int .i64 (N:Int),.int .i64 en,.int .i64 tx,.slice A m c]] w fun e w'=>∃ A2 n2 c2,e=.returned (.tuple #[.slice A2 n2 c2,.int .i64 0])/\Sl tVV (fun b=>w.heap.size<=b) w' A2 n2 c2 (List.replicate N (zzz false))/\Below w.heap.size w w':=by
 obtain⟨w1,hw1,hg1,hb1⟩:=boxC (N:Int) en tx A m c w
 have hm1:=h.len
 have hcc:=h.2.1
 have hs1:=h.below hb1 zN
 obtain⟨b,o,_,rfl,_,_,_,_⟩:=hs1.at_ (k:=0) (by simp) (by decide)
 obtain⟨A8,n8,c8,z0,z1,hs⟩:=uu6 hs1 (by simp)
 have z0:w1.cell? ⟨b,o,none⟩=some (.int .i64 1):=z0
 have HS:Hid (Bs F w1 A8 n8 c8 P):=zH hs
 have HW1:=zH hw1;have HB1:=zH hb1;have HK:=zH hk;have HG1:=zH hg1;have HN:=zH hN;have HP:=zH hP;have HPL:Hid (n8<=4294967296):=zH (by rw [hs.len];exact hPl);have HT:=zH hT;have HSM:=zH hsome
 obtain⟨⟨a0,_⟩,⟨a1,_⟩,⟨a2,_⟩,⟨a3,_⟩⟩:=zzj hg1
 have y0:¬ (N:Int)<0:=by omega
 have y1:¬ (4096:Int)<(N:Int):=by omega
 have y2:¬ (m:Int)=0:=by rw [List.length_cons] at hm1;omega
 have y3:((m:Int)==0)=false:=by simpa using y2
 have y4:(0:Int)<(m:Int):=by omega
 have y5:0<m:=by omega
 clear h hs hs1 hw1 hg1 hb1 hk hN hP hPl hT hsome hm1 hcc
 go_enter Tryz.func34,Tryz.ntmps34
 go_upto_region 1 with fail
 rw [<-HW1.out]
 go_upto_region 5 with (first
  | (go_at_call 38;refine (yyw _ _).mono ?_;rintro e w2 ⟨rfl,rfl⟩;rw [decide_eq_true HK.out])
  | fail)
 refine regL [(none,fun w'=>w'.cell? ⟨w.heap.size,3,none⟩=some (.slice (some ⟨b,o,none⟩) m c)),(some 7,fun w'=>w'.cell? ⟨b,o+1,none⟩=some (.slice A8 n8 c8)),(some 7,fun w'=>w'.cell? ⟨w.heap.size,0,none⟩=some (.int .i64 (N:Int)))] (by kernel_rfl) ?_ (fun hHeld=>?_)
 · exact⟨(by first | exact a3 | exact hb3.1 | fail),fun h=>(by first | exact gone (c:=7) (by decide +kernel) h | exact z1 | fail),fun h=>(by first | exact gone (c:=7) (by decide +kernel) h | exact a0 | fail),trivial⟩
 iterate 1
  all_goals
   repeat ((first | (refine tkP 0 (oi:=⟨_,_,_,_,_,_⟩) (v:=?_) rfl (by decide +kernel) rfl (fun _ _ _ h=>h) rfl hHeld ?_ ?_) | (refine tkL 1 0 rfl (oi:=⟨_,_,_,_,_,_⟩) (v:=?_) rfl (by decide +kernel) rfl (fun _ _ _ h=>h) rfl hHeld ?_ ?_) | (refine tkP 2 (oi:=⟨_,_,_,_,_,_⟩) (v:=?_) rfl (by decide +kernel) rfl (fun _ _ _ h=>h) rfl hHeld ?_ ?_) | (refine tkP 3 (oi:=⟨_,_,_,_,_,_⟩) (v:=?_) rfl (by decide +kernel) rfl (fun _ _ _ h=>h) rfl hHeld ?_ ?_) | (refine tkL 4 1 rfl (oi:=⟨_,_,_,_,_,_⟩) (v:=?_) rfl (by decide +kernel) rfl (fun _ _ _ h=>h) rfl hHeld ?_ ?_) | (refine tkP 5 (oi:=⟨_,_,_,_,_,_⟩) (v:=?_) rfl (by decide +kernel) rfl (fun _ _ _ h=>h) rfl hHeld ?_ ?_) | (refine tkL 6 2 rfl (oi:=⟨_,_,_,_,_,_⟩) (v:=?_) rfl (by decide +kernel) rfl (fun _ _ _ h=>h) rfl hHeld ?_ ?_) | (refine tkP 8 (oi:=⟨_,_,_,_,_,_⟩) (v:=?_) rfl (by decide +kernel) rfl (fun _ _ _ h=>h) rfl hHeld ?_ ?_) | (refine tkP 9 (oi:=⟨_,_,_,_,_,_⟩) (v:=?_) rfl (by decide +kernel) rfl (fun _ _ _ h=>h) rfl hHeld ?_ ?_) | (refine tkP 10 (oi:=⟨_,_,_,_,_,_⟩) (v:=?_) rfl (by decide +kernel) rfl (fun _ _ _ h=>h) rfl hHeld ?_ ?_) | (refine tkP 11 (oi:=⟨_,_,_,_,_,_⟩) (v:=?_) rfl (by decide +kernel) rfl (fun _ _ _ h=>h) rfl hHeld ?_ ?_) | (refine tkP 12 (oi:=⟨_,_,_,_,_,_⟩) (v:=?_) rfl (by decide +kernel) rfl (fun _ _ _ h=>h) rfl hHeld ?_ ?_));rotate_left;(focus (intro w;(try intro hSw);(try dsimp only at hSw);go_simp;try with_reducible rfl));intro hHeld;(try simp only [Act.put]);(try simp only [List.setIfInBounds_toArray]);(try simp only [List.set_cons_succ]);(try simp only [List.set_cons_zero]))
   first | (refine rd1 7 (o:=⟨_,_,_,_,_,_⟩) (by decide +kernel) rfl (fun K hK=>?_))
  all_goals
   first  | (go_simp;(first | (go_at_call 78;refine (uu1 _ A8 n8 c8 P N w1.drew HS.out.drew HPL.out HN.out HP.out).mono ?_;rintro e w2 ⟨A2,n2,c2,rfl,hs2,hb2⟩;rw [HT.out] at hs2;rw [HT.out,show okc (some (List.replicate N false)).isSome 2=0 from rfl];have HB12:Hid (Below w1.heap.size w1 w2):=zH (((Below.refl _ w1).drew).trans hb2);have hb3:=(zzj ((HB12.out.block _ (zzc HG1.out)).trans HG1.out)).2.2.2;have HS2:Hid (Sl zzU (fun _=>True) w2 A2 n2 c2 (List.replicate N false)):=zH hs2.any;clear hs2 hb2) | fail)) | go_simp
   refine hK.out _ _ ?_ (fun hHeld=>?_)
   · (try dsimp only);exact⟨(by first | exact a3 | exact hb3.1 | fail),fun h=>(by first | exact gone (c:=7) (by decide +kernel) h | exact z1 | fail),fun h=>(by first | exact gone (c:=7) (by decide +kernel) h | exact a0 | fail),trivial⟩
   clear hK K;(try simp only [Act.put]);(try simp only [List.setIfInBounds_toArray]);(try simp only [List.set_cons_succ]);(try simp only [List.set_cons_zero])
 all_goals
  repeat ((first | (refine tkP 8 (oi:=⟨_,_,_,_,_,_⟩) (v:=?_) rfl (by decide +kernel) rfl (fun _ _ _ h=>h) rfl hHeld ?_ ?_) | (refine tkP 9 (oi:=⟨_,_,_,_,_,_⟩) (v:=?_) rfl (by decide +kernel) rfl (fun _ _ _ h=>h) rfl hHeld ?_ ?_) | (refine tkP 10 (oi:=⟨_,_,_,_,_,_⟩) (v:=?_) rfl (by decide +kernel) rfl (fun _ _ _ h=>h) rfl hHeld ?_ ?_) | (refine tkP 11 (oi:=⟨_,_,_,_,_,_⟩) (v:=?_) rfl (by decide +kernel) rfl (fun _ _ _ h=>h) rfl hHeld ?_ ?_) | (refine tkP 12 (oi:=⟨_,_,_,_,_,_⟩) (v:=?_) rfl (by decide +kernel) rfl (fun _ _ _ h=>h) rfl hHeld ?_ ?_));rotate_left;(focus (intro w;(try intro hSw);(try dsimp only at hSw);go_simp;try with_reducible rfl));intro hHeld;(try simp only [Act.put]);(try simp only [List.setIfInBounds_toArray]);(try simp only [List.set_cons_succ]);(try simp only [List.set_cons_zero]))
  refine qxs (by decide +kernel) ?_ _
  have HB2:=zH (HB1.out.trans (HB12.out.mono HB1.out.size))
  have HN2:Hid (n2=N):=zH (by rw [HS2.out.len,List.length_replicate])
  have hg2:=(HB12.out.block _ (zzc HG1.out)).trans HG1.out
  obtain⟨⟨b0,_⟩,⟨b1,_⟩,⟨b2,_⟩,⟨b3,_⟩⟩:=zzj hg2
  have hC0:w2.drew.cell? ⟨w.heap.size,0,none⟩=some (.int .i64 (N:Int))/\w2.drew.cell? ⟨w.heap.size,1,none⟩=some (.int .i64 en)/\w2.drew.cell? ⟨w.heap.size,2,none⟩=some (.int .i64 tx)/\w2.drew.cell? ⟨w.heap.size,3,none⟩=some (.slice (some ⟨b,o,none⟩) m c):=⟨b0,b1,b2,b3⟩
  clear hg2 hb3 a0 a1 a2 a3 b0 b1 b2 b3
  go_upto_region 8 with fail
  refine regL [(some 4,fun w'=>w'.cell? ⟨w.heap.size,0,none⟩=some (.int .i64 (N:Int))/\w'.cell? ⟨w.heap.size,1,none⟩=some (.int .i64 en)/\w'.cell? ⟨w.heap.size,2,none⟩=some (.int .i64 tx)/\w'.cell? ⟨w.heap.size,3,none⟩=some (.slice (some ⟨b,o,none⟩) m c))] (by kernel_rfl) ?_ (fun hHeld=>?_)
  · exact⟨fun h=>(by first | exact gone (c:=4) (by decide +kernel) h | exact hC0 | fail),trivial⟩
  iterate 2
   all_goals
    repeat ((first | (refine tkP 0 (oi:=⟨_,_,_,_,_,_⟩) (v:=?_) rfl (by decide +kernel) rfl (fun _ _ _ h=>h) rfl hHeld ?_ ?_) | (refine tkL 1 0 rfl (oi:=⟨_,_,_,_,_,_⟩) (v:=?_) rfl (by decide +kernel) rfl (fun _ _ _ h=>h) rfl hHeld ?_ ?_) | (refine tkP 2 (oi:=⟨_,_,_,_,_,_⟩) (v:=?_) rfl (by decide +kernel) rfl (fun _ _ _ h=>h) rfl hHeld ?_ ?_) | (refine tkP 5 (oi:=⟨_,_,_,_,_,_⟩) (v:=?_) rfl (by decide +kernel) rfl (fun _ _ _ h=>h) rfl hHeld ?_ ?_) | (refine tkP 6 (oi:=⟨_,_,_,_,_,_⟩) (v:=?_) rfl (by decide +kernel) rfl (fun _ _ _ h=>h) rfl hHeld ?_ ?_) | (refine tkP 7 (oi:=⟨_,_,_,_,_,_⟩) (v:=?_) rfl (by decide +kernel) rfl (fun _ _ _ h=>h) rfl hHeld ?_ ?_) | (refine tkP 8 (oi:=⟨_,_,_,_,_,_⟩) (v:=?_) rfl (by decide +kernel) rfl (fun _ _ _ h=>h) rfl hHeld ?_ ?_) | (refine tkP 9 (oi:=⟨_,_,_,_,_,_⟩) (v:=?_) rfl (by decide +kernel) rfl (fun _ _ _ h=>h) rfl hHeld ?_ ?_));rotate_left;(focus (intro w;(try intro hSw);(try dsimp only at hSw);go_simp;try with_reducible rfl));intro hHeld;(try simp only [Act.put]);(try simp only [List.setIfInBounds_toArray]);(try simp only [List.set_cons_succ]);(try simp only [List.set_cons_zero]))
    first | (refine rd1 3 (o:=⟨_,_,_,_,_,_⟩) (by decide +kernel) rfl (fun K hK=>?_)) | (refine rd1 4 (o:=⟨_,_,_,_,_,_⟩) (by decide +kernel) rfl (fun K hK=>?_))
   all_goals
    first  | (go_simp;(first | (go_at_call 80;refine (zz4 _ A2 n2 c2 _ w2.drew HS2.out.drew (by have:=HN2.out;omega)).mono ?_;rintro e w3 ⟨rfl,hw⟩;obtain rfl:=hw.symm;rw [jjI]) | (go_at_call 79;refine (HSM.out w2.drew (HB2.out.drew)).mono ?_;rintro e w4 ⟨rfl,hb4⟩;have HB4:Hid (Below w2.heap.size w2 w4):=zH (((Below.refl _ w2).drew).trans hb4);clear hb4) | fail)) | go_simp
    refine hK.out _ _ ?_ (fun hHeld=>?_)
    · (try dsimp only);exact⟨fun h=>(by first | exact gone (c:=4) (by decide +kernel) h | exact hC0 | fail),trivial⟩
    clear hK K;(try simp only [Act.put]);(try simp only [List.setIfInBounds_toArray]);(try simp only [List.set_cons_succ]);(try simp only [List.set_cons_zero])
  all_goals
   repeat ((first | (refine tkP 5 (oi:=⟨_,_,_,_,_,_⟩) (v:=?_) rfl (by decide +kernel) rfl (fun _ _ _ h=>h) rfl hHeld ?_ ?_) | (refine tkP 6 (oi:=⟨_,_,_,_,_,_⟩) (v:=?_) rfl (by decide +kernel) rfl (fun _ _ _ h=>h) rfl hHeld ?_ ?_) | (refine tkP 7 (oi:=⟨_,_,_,_,_,_⟩) (v:=?_) rfl (by decide +kernel) rfl (fun _ _ _ h=>h) rfl hHeld ?_ ?_) | (refine tkP 8 (oi:=⟨_,_,_,_,_,_⟩) (v:=?_) rfl (by decide +kernel) rfl (fun _ _ _ h=>h) rfl hHeld ?_ ?_) | (refine tkP 9 (oi:=⟨_,_,_,_,_,_⟩) (v:=?_) rfl (by decide +kernel) rfl (fun _ _ _ h=>h) rfl hHeld ?_ ?_));rotate_left;(focus (intro w;(try intro hSw);(try dsimp only at hSw);go_simp;try with_reducible rfl));intro hHeld;(try simp only [Act.put]);(try simp only [List.setIfInBounds_toArray]);(try simp only [List.set_cons_succ]);(try simp only [List.set_cons_zero]))
   refine qxs (by decide +kernel) ?_ _
   go_wp2_with (first
    | (go_at_call 81;refine (qzW _ _ A2 none n2 c2 0 0 _ [] _ (HS2.out.below HB4.out zN) (Sl.nil_ _ (fun _=>True) _) (by have:=HN2.out;have:=HN.out;omega) (by omega)).mono ?_;rintro e w5 ⟨A5,n5,c5,rfl,hs5,hb5⟩;rw [uuB] at hs5;rw [uuB,show okc (some (List.replicate N (zzz false))).isSome 1=0 from rfl];have HS5:=zH hs5;have HB5:=zH hb5;clear hs5 hb5)
    | fail)
   go_ret2
   exact⟨A5,n5,c5,rfl,HS5.out.weaken (fun b hb _=>Nat.le_trans (Nat.le_trans HB2.out.size HB4.out.size) hb),(HB2.out.trans (HB4.out.mono HB2.out.size)).trans (HB5.out.mono (Nat.le_trans HB2.out.size HB4.out.size))⟩
end
end Go.Proofs.YtpmglcachffojaaGreatDoor
