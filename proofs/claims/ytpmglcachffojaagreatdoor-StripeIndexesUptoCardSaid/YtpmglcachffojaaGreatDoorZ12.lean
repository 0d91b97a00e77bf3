/- A part of what Indexes leans on. -/
import Derived.Test.YtpmglcachffojaaGreatDoorZ6
import Derived.Test.YtpmglcachffojaaGreatDoorZ10
set_option maxRecDepth 100000
set_option maxHeartbeats 16000000
namespace Go.Proofs.YtpmglcachffojaaGreatDoor
section
open Go Go.RowKit
attribute [local go_sem ↓] Go.wp_at_zero Go.wp_at_succ
theorem boxed (w:World) (cs:List Value) (t:TypeId):∃ wb,wb=w.alloc (.cells cs.toArray t)/\Below w.heap.size w wb/\(∀ j u,cs[j]?=some u->wb.cell? ⟨w.heap.size,j,none⟩=some u)/\wb.heap.size=w.heap.size+1 /\
 (∀ {α:Type} {T:Ty α} {F:Nat->Prop} {A:Option Addr} {n c:Nat} {xs:List α},Sl T F w A n c xs->Sl T F wb A n c xs) :=
 ⟨_,rfl,(Below.refl _ w).alloc zN _,fun j u hu=>by rw [World.cell?_alloc_new];simpa using hu,by simp,fun h=>h.alloc _⟩
theorem jjK (F:Nat->Prop) (A:Option Addr) (n c:Nat) (l:List Fld) (w:World) (h:Sl tFld F w A n c l) (hlen:n<=4294967296) (hl:wlen l<=4294967200) :
 Calls Tryz.prog 67 #[.slice A n c] w (PutPost l w):=by
 have HL:=zH h.len
 have HNEW:=zH (OwnB.new0 w w.heap.size zN)
 have HB0:=zH (show Below w.heap.size w (w.alloc (.cells #[] 5)) from (zR).alloc zN _)
 go_enter Tryz.func67,Tryz.ntmps67
 go_wp2
 go_loopw [4,5] (fun v i wr=>∃ (k:Nat) (L:List UInt8) (A2:Option Addr) (m c2:Nat),k<=n/\i=.int .i64 k/\v=.slice A2 m c2/\OwnB wr w.heap.size A2 m c2 L/\wput (l.take k)=some L/\Below w.heap.size w wr)
  (fun _ i _=>n - (intOf i).toNat)
 case atStart=>exact⟨0,[],_,0,0,Nat.zero_le _,rfl,rfl,HNEW.out,by simp [wput],HB0.out⟩
 case round =>
  obtain⟨k,L,A2,m,c2,hk,rfl,rfl,hown,hL,hb⟩:=hrel
  clear HNEW HB0
  by_cases hlt:k<n
  · have hkl:k<l.length:=by rw [<-HL.out];exact hlt
    have HO:=zH hown;have HW:=zH hL;have HBR:=zH hb
    have hsz:=hb.size
    obtain⟨b,o,cs,rfl,_,hbl,hrep,hc⟩:=(h.below hb zN).at_ hkl (by decide)
    clear hown hL hb
    obtain⟨A3,n3,c3,rfl,ht,hn3,hs3⟩:=hrep
    obtain⟨f,hf⟩:∃ f,f=l[k]:=⟨_,rfl⟩
    rw [<-hf] at hc ht hn3 hs3
    have HF:=zH hf;clear hf
    obtain⟨g0,g1,g2,g3⟩:=xxN hc
    clear hc
    obtain⟨ht0,ht1⟩:=ht
    obtain⟨wb,hwb,hB,hC,hS,hK⟩:=boxed wr [.int .i64 f.tag,.bool f.bytes,.int .u64 (f.n:Int),.slice A3 n3 c3] 120
    have HBB:=zH hB;have HC:=zH hC;have HSZ:=zH hS;have HS3:=zH (hK hs3);have HS1:=zH (Sl.any (hK HO.out.bs))
    have HOB:=zH (HO.out.keepB hB)
    have H3L:=zH hs3.len
    have HWB:=zH hwb;clear hwb hB hC hS hK hs3
    by_cases htag:1<=f.tag/\f.tag<=100
    · obtain⟨tag,isb,fn,fb⟩:=f
      dsimp only at *
      obtain⟨t,rfl⟩:=Int.eq_ofNat_of_zero_le (show 0<=tag by omega)
      have htl:(t:Int)<=100:=htag.2
      have htg:(1:Int)<=(t:Int):=htag.1
      clear htag
      have hwl:=jjf l k hkl
      rw [<-HF.out] at hwl
      dsimp only at hwl
      have hLl:L.length<=wlen (l.take k):=kqQ _ _ HW.out
      have hml:=HO.out.len
      have h3l:=H3L.out
      have hb1:m+n3+20<=4294967200:=by omega
      have HM:=zH hml
      clear hml h3l hLl hwl
      have hfin:∀ (w':World) (A':Option Addr) (m' c':Nat) (x:List UInt8),x=fld ⟨(t:Int),isb,fn,fb⟩->OwnB w' w.heap.size A' m' c' (L++x)->Below w.heap.size w w' ->
       ∃ (k':Nat) (L':List UInt8) (A'':Option Addr) (m'' c'':Nat),k'<=n/\Value.int .i64 ((k:Int)+1)=.int .i64 k'/\Value.slice A' m' c'=.slice A'' m'' c''/\OwnB w' w.heap.size A'' m'' c'' L'/\wput (l.take k')=some L'/\Below w.heap.size w w':=by
       intro w' A' m' c' x hx ho hbl'
       refine⟨k+1,L++x,A',m',c',by omega,by go_num,rfl,ho,?_,hbl'⟩
       rw [zT hkl,<-HF.out,hx]
       exact jjg _ _ _ HW.out (by simp [jj7];omega)
      have HFIN:=zH hfin
      clear hfin
      cases isb
      · go_wp2_with (first
         | (go_at_call_of 128 (Value.slice A2 m c2);rw [<-HWB.out];refine (vv5 (fun _=>True) A2 m c2 L _ _ HS1.out (by omega) (by omega) (by omega)).mono ?_;rintro e w1 ⟨A4,n4,c4,rfl,hown1,hb1⟩;have hn4:n4<=m+10:=xxr hown1 HM.out;have HO1:=zH hown1;have HB1:=zH hb1;have q2:=zzh hb1 (HC.out 2 _ rfl);clear hown1 hb1)
         | (go_at_call 128;refine (vv5 (fun _=>True) A4 n4 c4 _ _ _ HO1.out.bs.any (by omega) (by omega) (by omega)).mono ?_;rintro e w2 ⟨A5,n5,c5,rfl,hown2,hb2⟩;have HO2:=zH hown2;have HB2:=zH hb2;clear hown2 hb2)
         | fail)
        go_roundw
        case rel =>
         have ho:=HO2.out.down (B':=w.heap.size) (by have:=HB1.out.size;have:=HBB.out.size;omega)
         rw [List.append_assoc,show (8*(t:Int)).toNat=8*t by omega,yyd] at ho
         exact HFIN.out _ _ _ _ _ (by simp [fld]) ho (HBR.out.trans ((HBB.out.trans ((HB1.out.trans (HB2.out.mono HB1.out.size)).mono HBB.out.size)).mono hsz))
        case measure=>simp [intOf];omega
      · go_wp2_with (first
         | (go_at_call_of 128 (Value.slice A2 m c2);rw [<-HWB.out];refine (vv5 (fun _=>True) A2 m c2 L _ _ HS1.out (by omega) (by omega) (by omega)).mono ?_;rintro e w1 ⟨A4,n4,c4,rfl,hown1,hb1⟩;have hn4:n4<=m+10:=xxr hown1 HM.out;have HO1:=zH hown1;have HB1:=zH hb1;have q3:=zzh hb1 (HC.out 3 _ rfl);clear hown1 hb1)
         | (go_at_call 128;refine (vv5 (fun _=>True) A4 n4 c4 _ _ _ HO1.out.bs.any (by omega) (by omega) (by omega)).mono ?_;rintro e w2 ⟨A5,n5,c5,rfl,hown2,hb2⟩;have hn5:n5<=n4+10:=xxr hown2 HO1.out.len;have HO2:=zH (hown2.down (B':=w.heap.size) (by have:=HB1.out.size;have:=HBB.out.size;omega));have HB2:=zH (HB1.out.trans (hb2.mono HB1.out.size));have r3:=zzh hb2 q3;clear hown2 hb2 q3)
         | (at_builtin;refine apb w2 w rfl (.tmp 41) (.tmp 43) rfl w.heap.size A5 n5 c5 _ rfl HO2.out (HBR.out.trans ((HBB.out.trans (HB2.out.mono HBB.out.size)).mono hsz)) zN F A3 n3 c3 fb rfl (HS3.out.below HB2.out zN) (by omega) ?_;intro A6 c6 w6 h6 hb6 _)
         | fail)
        go_roundw
        case rel =>
         have ho:=h6
         rw [List.append_assoc,List.append_assoc,show (8*(t:Int)+2).toNat=8*t+2 by omega,yyd] at ho
         exact HFIN.out _ _ _ _ _ (by simp [fld,H3L.out]) ho hb6
        case measure=>simp [intOf];omega
    · have hbad:wput l=none:=kqP l k hkl (by rw [<-HF.out];simp [jj7];omega)
      have HBAD:=zH hbad;clear hbad
      have hnot:f.tag<1∨100<f.tag:=by omega
      have HBO:=zH (show Below w.heap.size w (wr.alloc (.cells #[.int .i64 f.tag,.bool f.bytes,.int .u64 (f.n:Int),.slice A3 n3 c3] 120)) from HBR.out.alloc hsz _)
      clear htag HWB
      rcases hnot with hnot | hnot
      · go_wp2
        go_ret2
        refine⟨none,0,0,by rw [HBAD.out];rfl,?_,HBO.out⟩
        rw [show dput l=[] by simp [dput,HBAD.out]]
        exact OwnB.nil_ _ _
      · have hnot2:1<=f.tag:=by omega
        go_wp2
        go_ret2
        refine⟨none,0,0,by rw [HBAD.out];rfl,?_,HBO.out⟩
        rw [show dput l=[] by simp [dput,HBAD.out]]
        exact OwnB.nil_ _ _
  · obtain rfl:k=n:=by omega
    have hfull:wput l=some L:=by rw [<-hL,zL (by rw [<-HL.out];exact Nat.le_refl _)]
    have HFU:=zH hfull;clear hfull hL
    go_wp2
    go_ret2
    refine⟨A2,m,c2,by rw [HFU.out];rfl,?_,hb⟩
    rw [show dput l=L by simp [dput,HFU.out]]
    exact hown
theorem qxO (b:Bool) (w:World):Calls Tryz.prog 125 #[.bool b] w fun e w'=>e=.returned (.int .u64 (b2n b:Nat))/\w=w':=by
 cases b <;> (go_enter Tryz.func125,Tryz.ntmps125;go_wp2;go_ret;exact⟨rfl,rfl⟩)
theorem vvm (tag n:Int) (w:World) :
 Calls Tryz.prog 124 #[.int .i64 tag,.int .u64 n] w fun e w'=>e=.returned (.agg #[.int .i64 tag,.bool false,.int .u64 n,.slice none 0 0])/\Below w.heap.size w w':=by
 go_enter Tryz.func124,Tryz.ntmps124
 go_wp2
 refine bodyPost_ret (v:=.agg #[.int .i64 tag,.bool false,.int .u64 n,.slice none 0 0]) (by simp [results,Tryz.results124,go_sem]) rfl ⟨rfl,?_⟩
 exact (Below.refl _ w).alloc zN _
end
section
open Go Go.RowKit
attribute [local go_sem ↓] Go.wp_at_zero Go.wp_at_succ
theorem new3p {α:Type} {T:Ty α} {w:World} {c1 c2 c3:List Value} {x1 x2 x3:α} (h1:T.rep (fun _=>True) w c1 x1) (h2:T.rep (fun _=>True) w c2 x2) (h3:T.rep (fun _=>True) w c3 x3) (t:TypeId) (o:Obj) (ho:o=.cells (c1++(c2++c3)).toArray t) (p:Nat) (hp:p=w.heap.size) :
 Sl T (fun _=>True) (w.alloc o) (some ⟨p,0,none⟩) 3 3 [x1,x2,x3]:=by subst hp;exact Sl.new3 h1 h2 h3 t o ho
theorem xxC (v:VV) (hv:v.ok) (hs:v.s.size<=4294967000) (w:World) :
 Calls Tryz.prog 126 #[.agg #[.bool v.null,.int .i64 v.n,.string v.s]] w (Own1 w (zzZ v)):=by
 obtain⟨h0,h1,h2⟩:=hv
 have hsb:=fun w=>qxp w v.s
 have HW:=zH (show wlen (zzQ v)<=4294967200 from vv4 v hs)
 have HZ:=zH (jje v.n h0 h1)
 go_enter Tryz.func126,Tryz.ntmps126
 go_wp2_with fail
 refine regL [(some 2,fun w'=>w'.cell? ⟨w.heap.size,0,none⟩=some (.bool v.null)),(some 6,fun w'=>w'.cell? ⟨w.heap.size,1,none⟩=some (.int .i64 v.n)),(some 10,fun w'=>w'.cell? ⟨w.heap.size,2,none⟩=some (.string v.s))] (by kernel_rfl) ?_ (fun hHeld=>?_)
 · exact⟨fun h=>(by first | exact gone (c:=2) (by decide +kernel) h | (dsimp only;(go_keep;done)) | fail),fun h=>(by first | exact gone (c:=6) (by decide +kernel) h | (dsimp only;(go_keep;done)) | fail),fun h=>(by first | exact gone (c:=10) (by decide +kernel) h | (dsimp only;(go_keep;done)) | fail),trivial⟩
 iterate 7
  all_goals
   repeat ((first | (refine tkP 0 (oi:=⟨_,_,_,_,_,_⟩) (v:=?_) rfl (by decide +kernel) rfl (fun _ _ _ h=>h) rfl hHeld ?_ ?_) | (refine tkL 1 0 rfl (oi:=⟨_,_,_,_,_,_⟩) (v:=?_) rfl (by decide +kernel) rfl (fun _ _ _ h=>h) rfl hHeld ?_ ?_) | (refine tkP 4 (oi:=⟨_,_,_,_,_,_⟩) (v:=?_) rfl (by decide +kernel) rfl (fun _ _ _ h=>h) rfl hHeld ?_ ?_) | (refine tkL 5 1 rfl (oi:=⟨_,_,_,_,_,_⟩) (v:=?_) rfl (by decide +kernel) rfl (fun _ _ _ h=>h) rfl hHeld ?_ ?_) | (refine tkP 8 (oi:=⟨_,_,_,_,_,_⟩) (v:=?_) rfl (by decide +kernel) rfl (fun _ _ _ h=>h) rfl hHeld ?_ ?_) | (refine tkL 9 2 rfl (oi:=⟨_,_,_,_,_,_⟩) (v:=?_) rfl (by decide +kernel) rfl (fun _ _ _ h=>h) rfl hHeld ?_ ?_) | (refine tkP 11 (oi:=⟨_,_,_,_,_,_⟩) (v:=?_) rfl (by decide +kernel) rfl (fun _ _ _ h=>h) rfl hHeld ?_ ?_) | (refine tkP 14 (oi:=⟨_,_,_,_,_,_⟩) (v:=?_) rfl (by decide +kernel) rfl (fun _ _ _ h=>h) rfl hHeld ?_ ?_) | (refine tkP 15 (oi:=⟨_,_,_,_,_,_⟩) (v:=?_) rfl (by decide +kernel) rfl (fun _ _ _ h=>h) rfl hHeld ?_ ?_) | (refine tkP 16 (oi:=⟨_,_,_,_,_,_⟩) (v:=?_) rfl (by decide +kernel) rfl (fun _ _ _ h=>h) rfl hHeld ?_ ?_) | (refine tkP 17 (oi:=⟨_,_,_,_,_,_⟩) (v:=?_) rfl (by decide +kernel) rfl (fun _ _ _ h=>h) rfl hHeld ?_ ?_) | (refine tkP 18 (oi:=⟨_,_,_,_,_,_⟩) (v:=?_) rfl (by decide +kernel) rfl (fun _ _ _ h=>h) rfl hHeld ?_ ?_));rotate_left;(focus (intro w;(try intro hSw);(try dsimp only at hSw);go_simp;try with_reducible rfl));intro hHeld;(try simp only [Act.put]);(try simp only [List.setIfInBounds_toArray]);(try simp only [List.set_cons_succ]);(try simp only [List.set_cons_zero]))
   first | (refine rd1 2 (o:=⟨_,_,_,_,_,_⟩) (by decide +kernel) rfl (fun K hK=>?_)) | (refine rd2 2 10 (o:=⟨_,_,_,_,_,_⟩) (o':=⟨_,_,_,_,_,_⟩) (by decide +kernel) rfl rfl (fun K hK=>?_) (fun K hK=>?_)) | (refine rd1 3 (o:=⟨_,_,_,_,_,_⟩) (by decide +kernel) rfl (fun K hK=>?_)) | (refine rd2 3 10 (o:=⟨_,_,_,_,_,_⟩) (o':=⟨_,_,_,_,_,_⟩) (by decide +kernel) rfl rfl (fun K hK=>?_) (fun K hK=>?_)) | (refine rd1 6 (o:=⟨_,_,_,_,_,_⟩) (by decide +kernel) rfl (fun K hK=>?_)) | (refine rd2 6 10 (o:=⟨_,_,_,_,_,_⟩) (o':=⟨_,_,_,_,_,_⟩) (by decide +kernel) rfl rfl (fun K hK=>?_) (fun K hK=>?_)) | (refine rd1 7 (o:=⟨_,_,_,_,_,_⟩) (by decide +kernel) rfl (fun K hK=>?_)) | (refine rd2 7 10 (o:=⟨_,_,_,_,_,_⟩) (o':=⟨_,_,_,_,_,_⟩) (by decide +kernel) rfl rfl (fun K hK=>?_) (fun K hK=>?_)) | (refine rd1 10 (o:=⟨_,_,_,_,_,_⟩) (by decide +kernel) rfl (fun K hK=>?_)) | (refine rd1 12 (o:=⟨_,_,_,_,_,_⟩) (by decide +kernel) rfl (fun K hK=>?_)) | (refine rd1 13 (o:=⟨_,_,_,_,_,_⟩) (by decide +kernel) rfl (fun K hK=>?_))
  all_goals
   first  | (go_simp;(first | (go_at_call 125;refine (qxO _ _).mono ?_;rintro e w0 ⟨rfl,rfl⟩) | (go_at_call 127;refine (qxN _ _ h0 h1).mono ?_;rintro e w0 ⟨rfl,rfl⟩) | (go_at_call_of 124 (Value.int .i64 1);refine (vvm _ _ _).mono ?_;rintro e w1 ⟨rfl,hb1⟩) | (go_at_call_of 124 (Value.int .i64 2);refine (vvm _ _ _).mono ?_;rintro e w2 ⟨rfl,hb2⟩) | (go_at_call 67;refine (jjK (fun _=>True) _ 3 3 (zzQ v) _ (by refine Sl.drew (new3p (uuS (tag:=1) (by unfold i64;omega) (jjJ _)) (uuS (tag:=2) (by unfold i64;omega) HZ.out) (vvc (tag:=3) (by unfold i64;omega) ?_) _ _ rfl _ (by simp));(repeat (first | assumption | exact Sl.nil_ _ _ _ | exact (kqR (by assumption)).any | (refine kqg (by assumption) ?_;simp;done) | refine Sl.below ?_ (by assumption) zN | refine Sl.alloc ?_ _ | refine Sl.drew ?_))) (by omega) HW.out).mono ?_;rintro e w4 ⟨A4,n4,c4,rfl,hown,hb4⟩))) | go_simp
   refine hK.out _ _ ?_ (fun hHeld=>?_)
   · (try dsimp only);exact⟨fun h=>(by first | exact gone (c:=2) (by decide +kernel) h | (dsimp only;have hh:=hHeld.get (k:=0) (c:=2) rfl (by decide +kernel);(try dsimp only at hh);first | with_reducible exact hh | with_reducible exact zze hh _ | exact zzh (by assumption) hh | exact zze hh _) | fail),fun h=>(by first | exact gone (c:=6) (by decide +kernel) h | (dsimp only;have hh:=hHeld.get (k:=1) (c:=6) rfl (by decide +kernel);(try dsimp only at hh);first | with_reducible exact hh | with_reducible exact zze hh _ | exact zzh (by assumption) hh | exact zze hh _) | fail),fun h=>(by first | exact gone (c:=10) (by decide +kernel) h | (dsimp only;have hh:=hHeld.get (k:=2) (c:=10) rfl (by decide +kernel);(try dsimp only at hh);first | with_reducible exact hh | with_reducible exact zze hh _ | exact zzh (by assumption) hh | exact zze hh _) | fail),trivial⟩
   clear hK K;(try simp only [Act.put]);(try simp only [List.setIfInBounds_toArray]);(try simp only [List.set_cons_succ]);(try simp only [List.set_cons_zero])
 all_goals
  repeat ((first | (refine tkP 14 (oi:=⟨_,_,_,_,_,_⟩) (v:=?_) rfl (by decide +kernel) rfl (fun _ _ _ h=>h) rfl hHeld ?_ ?_) | (refine tkP 15 (oi:=⟨_,_,_,_,_,_⟩) (v:=?_) rfl (by decide +kernel) rfl (fun _ _ _ h=>h) rfl hHeld ?_ ?_) | (refine tkP 16 (oi:=⟨_,_,_,_,_,_⟩) (v:=?_) rfl (by decide +kernel) rfl (fun _ _ _ h=>h) rfl hHeld ?_ ?_) | (refine tkP 17 (oi:=⟨_,_,_,_,_,_⟩) (v:=?_) rfl (by decide +kernel) rfl (fun _ _ _ h=>h) rfl hHeld ?_ ?_) | (refine tkP 18 (oi:=⟨_,_,_,_,_,_⟩) (v:=?_) rfl (by decide +kernel) rfl (fun _ _ _ h=>h) rfl hHeld ?_ ?_));rotate_left;(focus (intro w;(try intro hSw);(try dsimp only at hSw);go_simp;try with_reducible rfl));intro hHeld;(try simp only [Act.put]);(try simp only [List.setIfInBounds_toArray]);(try simp only [List.set_cons_succ]);(try simp only [List.set_cons_zero]))
  refine xxI (by decide +kernel) ?_ _
  go_wp2
  go_ret
  exact⟨A4,n4,c4,rfl,hown.down (by have:=hb1.size;have:=hb2.size;simp at *;omega),by (repeat (first | exact zR | assumption | refine jja ?_ (by assumption) | refine xxK ?_ _ | refine jjb ?_))⟩
end
end Go.Proofs.YtpmglcachffojaaGreatDoor
