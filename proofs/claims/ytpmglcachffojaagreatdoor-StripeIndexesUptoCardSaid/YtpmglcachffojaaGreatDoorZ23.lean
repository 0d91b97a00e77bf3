/- A part of what Indexes leans on. -/
import Derived.Test.YtpmglcachffojaaGreatDoorZ22
import Derived.Lib.OthersKept
import Derived.Lib.ValidLaws
import Derived.Laws.RangeAny
import Derived.Laws.StructEq
import Derived.Lib.QuoteBits
set_option maxRecDepth 100000
set_option maxHeartbeats 16000000
namespace Go.Proofs.YtpmglcachffojaaGreatDoor
section
open Go Go.RowKit Go.Shelf BigFrame
attribute [local go_sem] Oper.semAt_some
structure ByO (n0 ob lb fb bb B:Nat):Prop where
 o1:n0=ob
 o2:lb=ob+1
 o3:fb=ob+2
 o4:bb=ob+3
 o5:B=ob+4
def xqF (ob lb:Nat):Obj:=.cells #[.func (.func 201) #[] #[.pointer (some ⟨lb,0,none⟩),.pointer (some ⟨ob,0,none⟩)]] 1 (0,0)
def ByI (w:World) (n0 ob lb fb B:Nat) (pre:List Rn) (W:World):Prop:=∃ A1 n1 c1 A2 n2 c2,FlR w n0 ob lb B A1 n1 c1 (xxW pre).1 A2 n2 c2 (xxW pre).2 W/\W.heap[fb]?=some (xqF ob lb)
theorem ByI.own {w:World} {n0 ob lb fb bb B:Nat} (h:ByO n0 ob lb fb bb B):OwnFrom B (ByI w n0 ob lb fb B):=fun s W W' row ⟨A1,n1,c1,A2,n2,c2,h1,h2⟩ hg hr=>by
 have:=h.o3;have:=h.o5
 exact⟨A1,n1,c1,A2,n2,c2,h1.turn hg hr,(hg.block fb (zzc h2) (fun e=>by have:=(hr fb e.symm).1;omega)).trans h2⟩
theorem ByI.box {w:World} {n0 ob lb fb bb B:Nat} (h:ByO n0 ob lb fb bb B) (pre:List Rn) (W:World) (v:Value) (hi:ByI w n0 ob lb fb B pre W):ByI w n0 ob lb fb B pre (W.setCell ⟨bb,0,none⟩ v):=by
 obtain⟨A1,n1,c1,A2,n2,c2,h1,h2⟩:=hi
 have:=h.o1;have:=h.o2;have:=h.o3;have:=h.o4;have:=h.o5
 exact⟨A1,n1,c1,A2,n2,c2,h1.other (by omega) (by omega) (by omega) (by omega) v,zzf h2 (by omega)⟩
theorem kp_of {n0 ob lb fb bb B:Nat} (h:ByO n0 ob lb fb bb B) {W W':World} (hk:FlK ob lb B W W'):KpB n0 bb W W':=by
 have:=h.o1;have:=h.o2;have:=h.o3;have:=h.o4;have:=h.o5
 exact⟨hk.low bb (by omega) (by omega) (by omega),fun b hb=>hk.low b (by omega) (by omega) (by omega),hk.others.size⟩
theorem below7 {W:World} {o:Obj} {w7:World} (h:Below (W.alloc o).drew.heap.size (W.alloc o).drew w7):Below W.heap.size W w7 :=
 (((Below.refl W.heap.size W).alloc zN o).drew).trans (h.mono (by show W.heap.size<=(W.alloc o).heap.size;simp))
theorem fin9 {w W w7 w9:World} {n0 ob lb fb bb B:Nat} {pre:List Rn} {x:Rn} {A1 A2 A9:Option Addr} {n1 c1 n2 c2 c9:Nat} (h7:FlR w n0 ob lb B A1 n1 c1 (xxW pre).1 A2 n2 c2 (xxW pre).2 w7) (hb:Below W.heap.size W w7) (hB:B<=W.heap.size) (hx:x.n<3)
 (hm:MidB w9 B A9 (n2+x.n) c9 ((xxW pre).2++List.replicate x.n x.c)) (hg:w7.grownBy w9 (blkM A2 c2)) (hl:blkM A9 c9=blkM A2 c2∨∀ g,blkM A9 c9=some g->w7.heap.size<=g) (hf:W.heap[fb]?=some (xqF ob lb)) (ho:ByO n0 ob lb fb bb B) :
 KeepsOthers W (w9.setCell ⟨lb,0,none⟩ (.slice A9 (n2+x.n) c9))/\KpB n0 bb W (w9.setCell ⟨lb,0,none⟩ (.slice A9 (n2+x.n) c9))/\ByI w n0 ob lb fb B (pre++[x]) (w9.setCell ⟨lb,0,none⟩ (.slice A9 (n2+x.n) c9)):=by
 obtain⟨_,_,h9,k9⟩:=h7.growL hm hg hl
 have hk:=(FlK.below hB hb).trans k9
 have:=ho.o1;have:=ho.o2;have:=ho.o3;have:=ho.o5
 refine⟨hk.others,kp_of ho hk,A1,n1,c1,A9,n2+x.n,c9,?_,(hk.low fb (by omega) (by omega) (by omega)).trans hf⟩
 rw [kqm,yyG,if_pos hx]
 exact h9
theorem byput_any (F:Nat->Prop) (A:Option Addr) (m c:Nat) (bs:List UInt8) (w:World) (h:Bs F w A m c bs) (hm:m<=512) :
 Calls Tryz.prog 160 #[.slice A m c] w (zzV (some (byB bs)) w):=by
 have HH:=zH (h.weaken (F':=fun b=>b<w.heap.size) fun b _ hb=>hb)
 have hlen:=h.len
 have z0:¬ (m:Int) > 4096:=by omega
 obtain⟨n0,hn0⟩:∃ n0,n0=w.heap.size:=⟨_,rfl⟩
 obtain⟨ob,hob⟩:∃ ob,ob=w.heap.size:=⟨_,rfl⟩
 obtain⟨lb,hlb⟩:∃ lb,lb=w.heap.size+1:=⟨_,rfl⟩
 obtain⟨fb,hfb⟩:∃ fb,fb=w.heap.size+1+1:=⟨_,rfl⟩
 obtain⟨bb,hbb⟩:∃ bb,bb=w.heap.size+1+1+1:=⟨_,rfl⟩
 obtain⟨B,hB⟩:∃ B,B=w.heap.size+1+1+1+1:=⟨_,rfl⟩
 have ho:ByO n0 ob lb fb bb B:=⟨by omega,by omega,by omega,by omega,by omega⟩
 obtain⟨v1,hv1⟩:∃ v1,v1=w.alloc (.cells #[.slice none 0 0] 41):=⟨_,rfl⟩
 obtain⟨v2,hv2⟩:∃ v2,v2=v1.alloc (.cells #[.slice none 0 0] 41):=⟨_,rfl⟩
 obtain⟨v3,hv3⟩:∃ v3,v3=v2.alloc (xqF ob lb):=⟨_,rfl⟩
 obtain⟨W0,hW0⟩:∃ W0,W0=v3.alloc (.cells #[.slice A m c] 41):=⟨_,rfl⟩
 have s1:v1.heap.size=w.heap.size+1:=by rw [hv1,zS]
 have s2:v2.heap.size=w.heap.size+1+1:=by rw [hv2,zS,s1]
 have s3:v3.heap.size=w.heap.size+1+1+1:=by rw [hv3,zS,s2]
 have s4:W0.heap.size=B:=by rw [hW0,zS,s3,hB]
 have b1:Below w.heap.size w v1:=by rw [hv1];exact (zR).alloc zN _
 have b2:Below v1.heap.size v1 v2:=by rw [hv2];exact (zR).alloc zN _
 have b3:Below v2.heap.size v2 v3:=by rw [hv3];exact (zR).alloc zN _
 have b4:Below v3.heap.size v3 W0:=by rw [hW0];exact (zR).alloc zN _
 have q1:v1.heap[ob]?=some (.cells #[.slice none 0 0] 41 (0,0)):=by rw [hv1,hob];exact heap_alloc_new w _
 have q2:v2.heap[lb]?=some (.cells #[.slice none 0 0] 41 (0,0)):=by rw [hv2,hlb,<-s1];exact heap_alloc_new v1 _
 have q3:v3.heap[fb]?=some (xqF ob lb):=by rw [hv3,hfb,<-s2];exact heap_alloc_new v2 _
 have q4:W0.heap[bb]?=some (.cells #[.slice A m c] 41 (0,0)):=by rw [hW0,hbb,<-s3];exact heap_alloc_new v3 _
 have b14:Below w.heap.size w W0:=((b1.trans (b2.mono (by omega))).trans (b3.mono (by omega))).trans (b4.mono (by omega))
 have hI0:ByI w n0 ob lb fb B [] W0:=⟨none,0,0,none,0,0,⟨(b4.block ob (by omega)).trans ((b3.block ob (by omega)).trans ((b2.block ob (by omega)).trans q1)),(b4.block lb (by omega)).trans ((b3.block lb (by omega)).trans q2),OwnB.nil_ _ _,MidB.nil_ _ _,by simp,⟨by omega,by omega,by omega,by omega,by omega,by omega⟩,by rw [hn0];exact b14⟩,(b4.block fb (by omega)).trans q3⟩
 have HI0:=zH hI0;have HO:=zH ho;have HS4:=zH s4;have HB14:=zH b14
 have HSEQ:=zH (runs_st 2 (by omega) n0 bb (by omega) A m c bs W0 q4 (by rw [hn0];exact HH.out.below b14 zN))
 have hW:W0=((v2.alloc (xqF ob lb)).alloc (.cells #[.slice A m c] 41)):=by rw [hW0,hv3]
 rw [hv2,hv1] at hW
 have hN0:=hn0
 rw [hlb,hob] at hW
 have HW:=zH hW
 have HN0:=zH hn0;have HOB:=zH hob;have HLB:=zH hlb;have HFB0:=zH hfb;have HBB:=zH hbb;have HLEN:=zH hlen
 clear h hlen hv1 hv2 hv3 hW0 hW s1 s2 s3 s4 b1 b2 b3 b4 q1 q2 q3 q4 b14 hI0 ho hn0 hN0 hob hlb hfb hbb hB
 refine (callsIn_wide (n:=3)).1 ?_
 refine callsIn_of_wp_marks Tryz.func160 rfl trivial ?_ rfl
 simp only [Tryz.ntmps160,List.size_toArray,List.length_cons,List.length_nil,Nat.reduceAdd,Nat.reduceSub,Array.replicate_succ,Array.replicate_zero,List.push_toArray,List.append_toArray,List.nil_append,List.cons_append]
 gi_wp2
 refine⟨trivial,?_⟩
 (refine (runs_in _ _ _ _ _).mono ?_;rintro e w' ⟨rfl,rfl⟩)
 gi_wp2
 have hWW:=HW.out
 unfold xqF at hWW
 rw [<-hWW]
 clear hWW
 try simp only [zS]
 rw [<-HBB.out,<-HFB0.out,<-HLB.out,<-HOB.out]
 refine qzD rfl (by omega) (gf:=241) (lb:=#[.pointer (some ⟨bb,0,none⟩)]) rfl trivial (enters_of Tryz.func241 (by kernel_rfl) rfl) (bb:=bb) (by rw [HS4.out,HO.out.o4,HO.out.o5];omega) HSEQ.out KpB.trans (fun W l o hl=>KpB.put (w:=W0) (by rw [HS4.out,HO.out.o1,HO.out.o5];omega) (by rw [HS4.out,HO.out.o4,HO.out.o5];omega) W l o hl) (fun _=>rfl)
  (ByI w n0 ob lb fb B) (by rw [HS4.out];exact ByI.own HO.out) (ByI.box HO.out) HI0.out
  (fun x=>{ tmps:=#[.slice A m c,undef,.slice none 0 0,.int .i64 0,.pointer (some ⟨ob,0,none⟩),.pointer (some ⟨lb,0,none⟩),.pointer (some ⟨fb,0,none⟩),.int .u8 (x.c.toNat:Int),.int .i64 (x.n:Int),.slice A m c,.int .i64 (m:Int),.bool false,.func (.func 201) #[] #[.pointer (some ⟨lb,0,none⟩),.pointer (some ⟨ob,0,none⟩)],.slice A m c,.func (.func 241) #[] #[.pointer (some ⟨bb,0,none⟩)],.int .u8 (x.c.toNat:Int),.int .i64 (x.n:Int),undef,undef,undef,undef,undef,undef,undef,undef,undef,undef,undef,undef,undef,undef,undef,undef,undef,undef,undef,undef],defers:=[] }) ?assign ?body ?done
 case assign =>
  intro l x W K hK
  dsimp only [rnEnc]
  gi_wp2
  exact hK
 case body =>
  rintro l' pre x W ⟨A1,n1,c1,A2,n2,c2,hfl,hfb⟩ hpl
  have HFL:=zH hfl;have HFB:=zH hfb;have HORD:=HO
  have hpl2:pre.length<512:=by have:=HLEN.out;omega
  have hrl:=jjx pre
  have hl1:=hfl.out.len
  have hl2:=hfl.lst.len
  have hn1x:n1<=1073741824:=by omega
  have hn2b:n2<=1073741824:=by omega
  have hxm:=x.most
  have hn2x:n2+x.n<=68719476736:=by omega
  have hpx:B<=W.heap.size:=hfl.ord.2.2.2.2.2
  obtain⟨q1,q2,q3,q4⟩:=hfl.cells
  have hx8:x.n<=8192:=by omega
  have hd:1<=3 - 1 - 1:=by omega
  clear hfl hfb hrl hl1 hl2 hpl
  by_cases hx3:x.n<3
  · have hx3I:(x.n:Int)<3:=by omega
    have HX3:=zH hx3
    have HREP:=zH (show Bs (fun _=>True) (W.alloc (.cells #[.int .u8 ((x.c.toNat:Nat):Int)] 5)).drew (some ⟨W.heap.size,0,none⟩) 1 1 [x.c] from (Sl.new (T:=tU8) (F:=fun _=>True) (w:=W) (cs:=[.int .u8 ((x.c.toNat:Nat):Int)]) (x:=x.c) rfl 5 _ rfl).drew.any)
    have qb:∀ o:Obj,(W.alloc o).cell? ⟨lb,0,none⟩=some (.slice A2 n2 c2):=fun o=>zzh ((zR).alloc zN o) q2
    clear hx3
    gi_wp2
    refine regLIm [(some 5,fun w'=>w'.cell? ⟨lb,0,none⟩=some (.slice A2 n2 c2))] (by kernel_rfl) (by kernel_rfl) ?_ (fun hHeld=>?_)
    · exact⟨fun h=>(by first | exact gone (c:=5) (by decide +kernel) h | exact q2 | (dsimp only;with_reducible exact qb _) | exact qb _ | (dsimp only;with_reducible exact r2) | fail),trivial⟩
    iterate 4
     all_goals
      repeat ((first | (refine tkL 0 0 rfl (oi:=⟨_,_,_,_,_,_⟩) (v:=?_) rfl (by decide +kernel) rfl (fun _ _ _ h=>by cases h.1) rfl hHeld ?_ ?_) | (refine tkP 1 (oi:=⟨_,_,_,_,_,_⟩) (v:=?_) rfl (by decide +kernel) rfl (fun _ _ _ h=>by cases h.1) rfl hHeld ?_ ?_) | (refine tkP 3 (oi:=⟨_,_,_,_,_,_⟩) (v:=?_) rfl (by decide +kernel) rfl (fun _ _ _ h=>by cases h.1) rfl hHeld ?_ ?_));rotate_left;(focus (intro w;(try intro hSw);(try dsimp only at hSw);go_simp;try with_reducible rfl));intro hHeld;(try simp only [Act.put]);(try simp only [List.setIfInBounds_toArray]);(try simp only [List.set_cons_succ]);(try simp only [List.set_cons_zero]))
      first | (refine rd1 2 (o:=⟨_,_,_,_,_,_⟩) (by decide +kernel) rfl (fun K hK=>?_)) | (refine rd1 4 (o:=⟨_,_,_,_,_,_⟩) (by decide +kernel) rfl (fun K hK=>?_)) | (refine rd1 5 (o:=⟨_,_,_,_,_,_⟩) (by decide +kernel) rfl (fun K hK=>?_)) | (refine rd1 6 (o:=⟨_,_,_,_,_,_⟩) (by decide +kernel) rfl (fun K hK=>?_))
     all_goals
      first | (refine atD 24 rfl ?_;refine step_mid rfl (.tmp 19) (.tmp 23) rfl B A2 n2 c2 (xxW pre).2 rfl HFL7.out.lst HFL7.out.ord.2.2.2.2.2 (fun _=>True) ⟨g7,0,none⟩ x.n x.n _ rfl hs7 x.one hn2x ?_;intro A9 c9 w9 hm9 hg9 hl9;obtain⟨_,e2,_,_⟩:=HFL7.out.growL hm9 hg9 hl9;have s2:w9.cell? ⟨lb,0,none⟩=some (.slice A2 n2 c2):=(by rw [zC (e2.trans HFL7.out.lbox)];rfl);have s3:=zF (e2.trans HFL7.out.lbox) 0) | (go_simp;((go_at_call 203;refine (xqB (fun _=>True) _ 1 x.c x.n x.one hx8 _ HREP.out).mono ?_;rintro e w7 ⟨g7,rfl,hs7,hb7⟩;have hb7':=below7 hb7;have HFL7:=zH (HFL.out.keep hb7');have r2:=HFL7.out.cells.2.1))) | go_simp
      refine hK.out _ _ ?_ (fun hHeld=>?_)
      · (try dsimp only);exact⟨fun h=>(by first | exact gone (c:=5) (by decide +kernel) h | exact q2 | (dsimp only;with_reducible exact qb _) | exact qb _ | (dsimp only;with_reducible exact r2) | fail),trivial⟩
      clear hK K;(try simp only [Act.put]);(try simp only [List.setIfInBounds_toArray]);(try simp only [List.set_cons_succ]);(try simp only [List.set_cons_zero])
    all_goals
     refine xxI (by decide +kernel) ?_ _
     refine⟨rfl,?_⟩
     gi_wp2
     exact fin9 HFL7.out hb7' hpx HX3.out hm9 hg9 hl9 HFB.out HORD.out
  · have hx3I:¬ (x.n:Int)<3:=by omega
    have HX3:=zH hx3
    have qf:W.cell? ⟨fb,0,none⟩=some (.func (.func 201) #[] #[.pointer (some ⟨lb,0,none⟩),.pointer (some ⟨ob,0,none⟩)]):=by rw [zC HFB.out];rfl
    obtain⟨xn,hxn⟩:∃ xn,xn=x.n:=⟨_,rfl⟩
    rw [<-hxn] at hx3I hxm hn2x
    rw [<-hxn]
    obtain⟨y1,hy1⟩:∃ y1:UInt8,y1=UInt8.ofNat (xn - 3):=⟨_,rfl⟩
    have HY:=zH (show ((xn:Int) - 3)=((y1.toNat:Nat):Int) by rw [hy1,UInt8.toNat_ofNat'];omega)
    have HY1:=zH hy1;have HXN:=zH hxn
    have HLIT:Hid (∀ w:World,Bs (fun _=>True) (w.alloc (.cells #[.int .u8 ((xn:Int) - 3),.int .u8 ((x.c.toNat:Nat):Int)] 5)) (some ⟨w.heap.size,0,none⟩) 2 2 [y1,x.c]):=zH fun w =>
     Sl.new2 (T:=tU8) (c1:=[.int .u8 ((y1.toNat:Nat):Int)]) (c2:=[.int .u8 ((x.c.toNat:Nat):Int)]) rfl rfl 5 _ (by rw [HY.out];rfl)
    clear hx3 hy1 hxn
    gi_wp2_with (first
     | (refine⟨trivial,?_⟩;gi_at_call 201;refine (CallsIn.inRound l' (callsIn_wide.2 (qzU w n0 ob lb B A1 n1 c1 _ A2 n2 c2 _ hn1x hn2b W HFL.out))).mono ?_;rintro e w8 ⟨rfl,A8,n8,c8,A9,c9,hfl8,hk8⟩
        have HFL8:=zH hfl8;have HK8:=zH hk8
        obtain⟨r1,r2,r3,r4⟩:=hfl8.cells
        have HN8:=zH (show n8<=1073741824 by rw [hfl8.out.len,List.length_append];have h1:=jjw (xxW pre).2;have h2:=jjx pre;omega)
        clear hfl8 hk8)
     | (gi_at_builtin;refine apbInL rfl (.tmp 27) (.tmp 32) rfl B A8 n8 c8 ((xxW pre).1++xxj (xxW pre).2) rfl (HFL8.out.open_.alloc _).out (HFL8.out.open_.alloc _).ord.2.2.2.2.2 (fun _=>True) (some ⟨w8.heap.size,0,none⟩) 2 2 [y1,x.c] rfl (HLIT.out w8) (by have:=HN8.out;omega) ?_;intro A10 c10 w10 ho10 hg10 hl10
        obtain⟨hs10,hk10⟩:=(HFL8.out.open_.alloc _).grow ho10 hg10 hl10
        have HS10:=zH hs10.store;have HK10:=zH hk10
        have t1:w10.cell? ⟨ob,0,none⟩=some (.slice A8 n8 c8):=(by rw [zC hs10.obox];rfl)
        have t2:=zF hs10.obox 0
        clear ho10 hg10 hl10 hs10 hk10)
     | fail)
    have hkk:=((HK8.out.trans (FlK.below HFL8.out.ord.2.2.2.2.2 ((zR).alloc zN _))).trans HK10.out).trans (FlK.setO _ (.slice A10 (n8+2) c10))
    refine⟨hkk.others,kp_of HORD.out hkk,A10,n8+2,c10,A9,0,c9,?_,(hkk.low fb (by have:=HORD.out.o3;have:=HORD.out.o5;omega) (by have:=HORD.out.o3;omega) (by have:=HORD.out.o3;have:=HORD.out.o2;omega)).trans HFB.out⟩
    rw [kqm,yyG,if_neg HX3.out,<-HXN.out,<-HY1.out]
    exact HS10.out
 case done =>
  rintro D xs W hD rfl ⟨A1,n1,c1,A2,n2,c2,hfl,hfb⟩ hK
  have hrl:=jjx (rnL bs)
  have hrl2:=rnL_len bs
  have hl1:=hfl.out.len
  have hl2:=hfl.lst.len
  have hbs:bs.length<=512:=by rw [<-HLEN.out];exact hm
  have hn1x:n1<=1073741824:=by omega
  have hn2b:n2<=1073741824:=by omega
  have HFL:=zH hfl;have HKD:=zH hK
  have qf:W.cell? ⟨fb,0,none⟩=some (.func (.func 201) #[] #[.pointer (some ⟨lb,0,none⟩),.pointer (some ⟨ob,0,none⟩)]):=by rw [zC hfb];rfl
  have HDONE:=zH (rn_done bs)
  clear hfl hfb hK hrl hrl2 hl1 hl2 hbs
  gi_wp2_with (first
   | (refine⟨trivial,?_⟩;gi_at_call 201;refine (callsIn_wide.2 (qzU w n0 ob lb B A1 n1 c1 _ A2 n2 c2 _ hn1x hn2b W HFL.out)).mono ?_;rintro e w8 ⟨rfl,A8,n8,c8,A9,c9,hfl8,hk8⟩
      have HFL8:=zH hfl8;have HK8:=zH hk8
      obtain⟨r1,r2,r3,r4⟩:=hfl8.cells
      clear hfl8 hk8)
   | fail)
  have hKD:=HK8.out.others.same D _ HKD.out rfl
  refine⟨by simp,.inl ⟨_,_,rfl,run_takeDeferred hKD,?_⟩⟩
  have hB:B<=D:=by rw [<-HS4.out];exact hD
  have hfin:=HFL8.out.turn (grownBy_putObj' w8 D (.deferred none)) (fun r e=>by injection e with e;subst e;exact⟨hB,_,hKD,rfl⟩)
  refine⟨_,results_tmp2 rfl _ _ _,?_⟩
  have ho:=hfin.out
  rw [HDONE.out] at ho
  exact⟨by rw [<-HN0.out];exact hfin.below,A8,n8,c8,rfl,ho.down (by rw [HO.out.o5,HOB.out];omega)⟩
theorem boolput (F:Nat->Prop) (A:Option Addr) (n c:Nat) (l:List Bool) (w:World) (h:Sl vvx F w A n c l) (hn:n<=4096) :
 Calls Tryz.prog 89 #[.slice A n c] w (zzV (some (byB (uuN l))) w) :=
 zqN (fun F A m c bs w h hm=>byput_any F A m c bs w h hm) F A n c l w h hn
end
section
open Go Go.RowKit
theorem zzb {w w':World} (h:Lib.Utf8Tabs 0 1 w) (hb:Below w.heap.size w w'):Lib.Utf8Tabs 0 1 w' :=
 ⟨fun c hc=>zzh hb (h.1 c hc),fun i hi=>⟨zzh hb (h.2 i hi).1,zzh hb (h.2 i hi).2⟩⟩
theorem ext_drop (s:ByteArray) (pos:Nat):s.extract pos s.size=⟨(s.data.toList.drop pos).toArray⟩:=by
 apply ByteArray.ext
 apply Array.toList_inj.1
 rw [ByteArray.data_extract,Array.toList_extract,List.extract_eq_take_drop]
 show _=s.data.toList.drop pos
 rw [zL]
 rw [List.length_drop,Array.length_toList]
 exact Nat.le_refl _
theorem zqQ (s:ByteArray) (pos:Nat) (h:pos<s.size):Lib.decodeGo (s.extract pos s.size)=Utf8.decode s pos:=by
 have hsz:(s.extract pos s.size).size=s.size - pos:=by rw [ByteArray.size_extract];omega
 unfold Lib.decodeGo
 rw [if_neg (by omega),ext_drop]
 exact Lib.decodeL_drop s pos
theorem right_any (s:ByteArray) (w:World) (hT:Lib.Utf8Tabs 0 1 w) :
 Calls Tryz.prog 87 #[.string s] w fun e w'=>e=.returned (.bool (Lib.validD s.data.toList))/\Below w.heap.size w w':=by
 obtain⟨l,hl⟩:∃ l,l=s.data.toList:=⟨_,rfl⟩
 rw [<-hl]
 have HL:=zH hl;have HT:=zH hT
 clear hl hT
 go_enter Tryz.func87,Tryz.ntmps87
 go_wp2_with fail
 obtain⟨k,hk⟩:∃ k,k=w.heap.size:=⟨_,rfl⟩
 have HK:=zH hk
 rw [<-hk]
 clear hk
 go_loopw [10] (fun _ wr=>∃ pos:Nat,pos<=s.size/\wr.heap[k]?=some (.stringIter s pos)/\Below w.heap.size w wr/\Lib.validD (l.drop pos)=Lib.validD l)
  (fun _ wr=>s.size - wr.iterPos k)
 case atStart=>exact⟨0,Nat.zero_le _,by rw [HK.out];exact heap_alloc_new w _,(zR).alloc zN _,by rw [List.drop_zero]⟩
 case round =>
  obtain⟨pos,hpos,hit,hb,hv⟩:=hrel
  have HIT:=zH hit;have HB:=zH hb;have HV:=zH hv
  have hip:wr.iterPos k=pos:=by unfold World.iterPos;rw [hit]
  have HIP:=zH hip
  have hls:l.length=s.size:=by rw [HL.out,Array.length_toList];rfl
  have HLS:=zH hls
  clear hb hv hip
  by_cases hlt:pos<s.size
  · have hn:=fun ty=>Lib.run_next_any_at (P:=Tryz.prog) wr k s pos ty hit hlt
    obtain⟨r,hr⟩:∃ r,r=(Utf8.decode s pos).1:=⟨_,rfl⟩
    obtain⟨d,hd⟩:∃ d,d=(Utf8.decode s pos).2:=⟨_,rfl⟩
    rw [<-hr,<-hd] at hn
    have hdl:=Lib.decodeL_drop s pos
    rw [<-HL.out] at hdl
    have hwid:=Lib.decodeL_width (l.drop pos)
    have hle:=Lib.decodeL_le (l.drop pos) (fun e=>by have:=congrArg List.length e;rw [List.length_drop] at this;simp at this;omega)
    rw [hdl,<-hd] at hwid hle
    rw [List.length_drop] at hle
    have hst:=Lib.validD_step (l.drop pos) (fun e=>by have:=congrArg List.length e;rw [List.length_drop] at this;simp at this;omega)
    rw [hdl,<-hr,<-hd,List.drop_drop] at hst
    have HST:=zH hst;have HWID:=zH hwid;have HLE:=zH hle
    obtain⟨w2,hw2⟩:∃ w2,w2=wr.iterAt k s (pos+d):=⟨_,rfl⟩
    rw [<-hw2] at hn
    have hit2:w2.heap[k]?=some (.stringIter s (pos+d)):=by rw [hw2];exact Lib.iterAt_heap wr k s pos _ hit
    have hb2:Below w.heap.size w w2:=by rw [hw2];exact Lib.below_iterAt HB.out (by rw [HK.out];exact Nat.le_refl _) s _
    have HIT2:=zH hit2;have HB2:=zH hb2
    have hip2:w2.iterPos k=pos+d:=by unfold World.iterPos;rw [hit2]
    have HIP2:=zH hip2
    have HR:=zH hr;have HD:=zH hd
    clear hr hd hdl hwid hle hst hw2 hit hit2 hb2 hip2
    by_cases hr3:r=65533
    · subst hr3
      have HDG:=zH (zqQ s pos hlt)
      have i1:(pos:Int)<=(s.size:Int):=by omega
      have i2:(0:Int)<=(pos:Int):=by omega
      have HR2:=zH (show (Utf8.decode s pos).1=65533 from HR.out.symm)
      by_cases hd1:d=1
      · have hdI:(d:Int)=1:=by omega
        have HFIN:=zH (show Lib.validD l=false by rw [<-HV.out,HST.out,if_pos ⟨rfl,hd1⟩])
        clear hd1
        go_wp2_with (first
         | (go_at_call 156;refine (Tryz.utf8_DecodeRuneInString (s.extract pos s.size) _ (zzb HT.out HB2.out)).mono ?_;rintro e w3 ⟨rfl,hb3⟩;rw [HDG.out,<-HD.out,HR2.out];have HB3:=zH hb3;clear hb3)
         | fail)
        go_ret
        exact⟨by rw [HFIN.out];rfl,HB2.out.trans (HB3.out.mono HB2.out.size)⟩
      · have hdI:¬ (d:Int)=1:=by omega
        have hdb:((d:Int)==1)=false:=zzL hdI
        have HFIN:=zH (show Lib.validD (l.drop (pos+d))=Lib.validD l by rw [<-HV.out,HST.out,if_neg (fun h=>hd1 h.2)])
        clear hd1
        go_wp2_with (first
         | (go_at_call 156;refine (Tryz.utf8_DecodeRuneInString (s.extract pos s.size) _ (zzb HT.out HB2.out)).mono ?_;rintro e w3 ⟨rfl,hb3⟩;rw [HDG.out,<-HD.out,HR2.out];have HB3:=zH hb3;clear hb3)
         | fail)
        have hit3:=(HB3.out.block k (zzc HIT2.out)).trans HIT2.out
        have hip3:w3.iterPos k=pos+d:=by unfold World.iterPos;rw [hit3]
        go_roundw
        case rel=>exact⟨pos+d,by have:=HLE.out;omega,hit3,HB2.out.trans (HB3.out.mono HB2.out.size),HFIN.out⟩
        case measure=>rw [hip3,HIP.out];have:=HWID.out;omega
    · have hrI:¬ (r:Int)=65533:=by omega
      have hrb:((r:Int) != 65533)=true:=bne_iff_ne.2 hrI
      have HR3:=zH hr3
      clear hr3
      go_wp2_with fail
      go_roundw
      case rel=>exact⟨pos+d,by have:=HLE.out;omega,HIT2.out,HB2.out,by rw [<-HV.out,HST.out,if_neg (fun h=>HR3.out h.1)]⟩
      case measure=>rw [HIP2.out,HIP.out];have:=HWID.out;omega
  · have hn:=fun ty=>Lib.run_next_end_at (P:=Tryz.prog) wr k s pos ty hit hlt
    have HFIN:=zH (show Lib.validD l=true by rw [<-HV.out,List.drop_of_length_le (by omega)];exact Lib.validD_nil)
    clear hit
    go_wp2_with fail
    go_ret
    exact⟨by rw [HFIN.out];rfl,HB.out⟩
end
section
open Go Go.RowKit
theorem qxJ:zzP Tryz.prog 139 4 vvx.size:=zzP.mk' (bytes:=1) (z:=.bool false) (by kernel_rfl) (by kernel_rfl) rfl (by decide) (by decide)
theorem vvJ:zzP Tryz.prog 94 3 tI64.size:=zzP.mk' (bytes:=8) (z:=.int .i64 0) (by kernel_rfl) (by kernel_rfl) rfl (by decide) (by decide)
theorem vvk {P:Program} {f:FuncId} {args:Array Value} {w:World} {r:Ending} (h:Calls P f args w fun e w'=>e=r/\w=w'):Calls P f args w fun e w'=>e=r/\Below w.heap.size w w' :=
 h.mono fun _ _ h2=>⟨h2.1,by rw [<-h2.2];exact zR⟩
def OwnE {α:Type} (T:Ty α) (t:TypeId) (l:List α) (w:World) (e:Ending) (w':World):Prop :=
 ∃ A n c,e=.returned (.slice A n c)/\Own T t w' w.heap.size A n c l/\Below w.heap.size w w'
theorem each_any (F:Nat->Prop) (A:Option Addr) (n c:Nat) (l:List VV) (w:World) (h:Sl tVV F w A n c l) (hl:n<=4096) :
 Calls Tryz.prog 146 #[.slice A n c,.func (.func 147) #[] #[]] w (OwnE vvx 4 (l.map (fun v:VV => !v.null)) w):=by
 have HL:=zH h.len
 go_enter Tryz.func146,Tryz.ntmps146
 go_wp2
 go_loopw [5,10] (fun v i wr=>∃ (k:Nat) (A2:Option Addr) (c2:Nat) (G:Nat->Prop),k<=n/\i=.int .i64 k/\v=.slice A2 k c2/\OwnF vvx 4 G wr w.heap.size A2 k c2 ((l.take k).map (fun v:VV => !v.null))/\Below w.heap.size w wr)
  (fun _ i _=>n - (intOf i).toNat)
 case atStart=>exact⟨0,none,0,fun _=>False,Nat.zero_le _,rfl,rfl,OwnF.nil_ _ _ _ _ _,zR⟩
 case round =>
  obtain⟨k,A2,c2,G,hk,rfl,rfl,hown,hb⟩:=hrel
  by_cases hlt:k<n
  · have hkl:k<l.length:=by rw [<-HL.out];exact hlt
    obtain⟨b,o,cs,rfl,_,hbl,hrep,hc⟩:=(h.below hb zN).at_ hkl (by decide)
    obtain⟨v,hf⟩:∃ v,v=l[k]:=⟨_,rfl⟩
    obtain⟨rfl,hok⟩:=hrep
    rw [<-hf] at hc hok
    obtain⟨nu,x,s⟩:=v
    obtain⟨x0,x1,_⟩:=hok
    have x0 : -9223372036854775808<=x:=x0
    have x1:x<=9223372036854775807:=x1
    have HF:=zH hf;clear hf
    obtain⟨g0,g1,g2⟩:=yyj hc
    clear hc
    have g0:_=some (Value.bool nu):=g0
    have g1:_=some (Value.int .i64 x):=g1
    have g2:_=some (Value.string s):=g2
    have HO:=zH hown;clear hown
    have hsz:=hb.size
    go_wp2_with (first
     | (go_at_call 147;refine (is_any nu x s _).mono ?_;rintro e w1 ⟨rfl,hb3⟩;have HB3:=zH hb3;clear hb3)
     | (at_builtin;refine apl1 (T:=vvx) qxJ w1 w rfl (.tmp 14) (.tmp 18) rfl w.heap.size A2 k c2 ((l.take k).map (fun v:VV => !v.null)) (by rfl) G (fun _=>False) (by first | exact (HO.out.alloc _).keepB HB3.out | exact ((HO.out.alloc _).keepB ((zR).drew)).keepB HB3.out) (by first | exact (hb.alloc hsz _).trans (HB3.out.mono (by simp;omega)) | exact (hb.alloc hsz _).drew.trans (HB3.out.mono (by simp;omega))) zN _ (by rfl) [.bool (!nu)] ((fun v:VV => !v.null) ⟨nu,x,s⟩) (by rfl) 4 rfl (fun _ _ _ _ h4=>h4) (by omega) ?_;intro A5 c5 w5 h5))
    go_roundw
    case rel =>
     have e1:(l.take (k+1)).map (fun v:VV => !v.null)=(l.take k).map (fun v:VV => !v.null)++[(fun v:VV => !v.null) ⟨nu,x,s⟩]:=by
      rw [zT hkl,List.map_append,<-HF.out];rfl
     have e2:=h5.own
     rw [<-e1] at e2
     exact⟨k+1,A5,c5,_,by omega,by go_num,rfl,e2,h5.below⟩
    case measure=>simp [intOf];omega
  · obtain rfl:k=n:=by omega
    have e1:l.take k=l:=zL (by rw [<-HL.out];exact Nat.le_refl _)
    rw [e1] at hown
    have HO:=zH hown;clear hown e1
    go_wp2
    go_ret
    exact⟨A2,k,c2,rfl,⟨G,HO.out⟩,hb⟩
theorem xqH (F:Nat->Prop) (A:Option Addr) (n c:Nat) (l:List VV) (w:World) (h:Sl tVV F w A n c l) (hl:n<=4096) :
 Calls Tryz.prog 90 #[.slice A n c,.func (.func 91) #[] #[]] w (OwnE vvx 4 (l.map (fun v:VV=>v.n==1)) w):=by
 have HL:=zH h.len
 go_enter Tryz.func90,Tryz.ntmps90
 go_wp2
 go_loopw [5,10] (fun v i wr=>∃ (k:Nat) (A2:Option Addr) (c2:Nat) (G:Nat->Prop),k<=n/\i=.int .i64 k/\v=.slice A2 k c2/\OwnF vvx 4 G wr w.heap.size A2 k c2 ((l.take k).map (fun v:VV=>v.n==1))/\Below w.heap.size w wr)
  (fun _ i _=>n - (intOf i).toNat)
 case atStart=>exact⟨0,none,0,fun _=>False,Nat.zero_le _,rfl,rfl,OwnF.nil_ _ _ _ _ _,zR⟩
 case round =>
  obtain⟨k,A2,c2,G,hk,rfl,rfl,hown,hb⟩:=hrel
  by_cases hlt:k<n
  · have hkl:k<l.length:=by rw [<-HL.out];exact hlt
    obtain⟨b,o,cs,rfl,_,hbl,hrep,hc⟩:=(h.below hb zN).at_ hkl (by decide)
    obtain⟨v,hf⟩:∃ v,v=l[k]:=⟨_,rfl⟩
    obtain⟨rfl,hok⟩:=hrep
    rw [<-hf] at hc hok
    obtain⟨nu,x,s⟩:=v
    obtain⟨x0,x1,_⟩:=hok
    have x0 : -9223372036854775808<=x:=x0
    have x1:x<=9223372036854775807:=x1
    have HF:=zH hf;clear hf
    obtain⟨g0,g1,g2⟩:=yyj hc
    clear hc
    have g0:_=some (Value.bool nu):=g0
    have g1:_=some (Value.int .i64 x):=g1
    have g2:_=some (Value.string s):=g2
    have HO:=zH hown;clear hown
    have hsz:=hb.size
    go_wp2_with (first
     | (go_at_call 91;refine (vvk (isone_any x _)).mono ?_;rintro e w1 ⟨rfl,hb3⟩;have HB3:=zH hb3;clear hb3)
     | (at_builtin;refine apl1 (T:=vvx) qxJ w1 w rfl (.tmp 14) (.tmp 19) rfl w.heap.size A2 k c2 ((l.take k).map (fun v:VV=>v.n==1)) (by rfl) G (fun _=>False) (by first | exact (HO.out.alloc _).keepB HB3.out | exact ((HO.out.alloc _).keepB ((zR).drew)).keepB HB3.out) (by first | exact (hb.alloc hsz _).trans (HB3.out.mono (by simp;omega)) | exact (hb.alloc hsz _).drew.trans (HB3.out.mono (by simp;omega))) zN _ (by rfl) [.bool (x==1)] ((fun v:VV=>v.n==1) ⟨nu,x,s⟩) (by rfl) 4 rfl (fun _ _ _ _ h4=>h4) (by omega) ?_;intro A5 c5 w5 h5))
    go_roundw
    case rel =>
     have e1:(l.take (k+1)).map (fun v:VV=>v.n==1)=(l.take k).map (fun v:VV=>v.n==1)++[(fun v:VV=>v.n==1) ⟨nu,x,s⟩]:=by
      rw [zT hkl,List.map_append,<-HF.out];rfl
     have e2:=h5.own
     rw [<-e1] at e2
     exact⟨k+1,A5,c5,_,by omega,by go_num,rfl,e2,h5.below⟩
    case measure=>simp [intOf];omega
  · obtain rfl:k=n:=by omega
    have e1:l.take k=l:=zL (by rw [<-HL.out];exact Nat.le_refl _)
    rw [e1] at hown
    have HO:=zH hown;clear hown e1
    go_wp2
    go_ret
    exact⟨A2,k,c2,rfl,⟨G,HO.out⟩,hb⟩
theorem xqI (F:Nat->Prop) (A:Option Addr) (n c:Nat) (l:List VV) (w:World) (h:Sl tVV F w A n c l) (hl:n<=4096) :
 Calls Tryz.prog 93 #[.slice A n c,.func (.func 94) #[] #[]] w (OwnE tI64 3 (l.map (fun v:VV=>v.n / 1000)) w):=by
 have HL:=zH h.len
 go_enter Tryz.func93,Tryz.ntmps93
 go_wp2
 go_loopw [5,10] (fun v i wr=>∃ (k:Nat) (A2:Option Addr) (c2:Nat) (G:Nat->Prop),k<=n/\i=.int .i64 k/\v=.slice A2 k c2/\OwnF tI64 3 G wr w.heap.size A2 k c2 ((l.take k).map (fun v:VV=>v.n / 1000))/\Below w.heap.size w wr)
  (fun _ i _=>n - (intOf i).toNat)
 case atStart=>exact⟨0,none,0,fun _=>False,Nat.zero_le _,rfl,rfl,OwnF.nil_ _ _ _ _ _,zR⟩
 case round =>
  obtain⟨k,A2,c2,G,hk,rfl,rfl,hown,hb⟩:=hrel
  by_cases hlt:k<n
  · have hkl:k<l.length:=by rw [<-HL.out];exact hlt
    obtain⟨b,o,cs,rfl,_,hbl,hrep,hc⟩:=(h.below hb zN).at_ hkl (by decide)
    obtain⟨v,hf⟩:∃ v,v=l[k]:=⟨_,rfl⟩
    obtain⟨rfl,hok⟩:=hrep
    rw [<-hf] at hc hok
    obtain⟨nu,x,s⟩:=v
    obtain⟨x0,x1,_⟩:=hok
    have x0 : -9223372036854775808<=x:=x0
    have x1:x<=9223372036854775807:=x1
    have HF:=zH hf;clear hf
    obtain⟨g0,g1,g2⟩:=yyj hc
    clear hc
    have g0:_=some (Value.bool nu):=g0
    have g1:_=some (Value.int .i64 x):=g1
    have g2:_=some (Value.string s):=g2
    have HO:=zH hown;clear hown
    have hsz:=hb.size
    have HZ:=zH (show -9223372036854775808<=((fun v:VV=>v.n / 1000) ⟨nu,x,s⟩)/\((fun v:VV=>v.n / 1000) ⟨nu,x,s⟩)<=9223372036854775807 by constructor <;> (show _<=_;dsimp only;omega))
    go_wp2_with (first
     | (go_at_call 94;refine (vvk (whole_any x x0 x1 _)).mono ?_;rintro e w1 ⟨rfl,hb3⟩;have HB3:=zH hb3;clear hb3)
     | (at_builtin;refine apl1 (T:=tI64) vvJ w1 w rfl (.tmp 14) (.tmp 19) rfl w.heap.size A2 k c2 ((l.take k).map (fun v:VV=>v.n / 1000)) (by rfl) G (fun _=>False) (by first | exact (HO.out.alloc _).keepB HB3.out | exact ((HO.out.alloc _).keepB ((zR).drew)).keepB HB3.out) (by first | exact (hb.alloc hsz _).trans (HB3.out.mono (by simp;omega)) | exact (hb.alloc hsz _).drew.trans (HB3.out.mono (by simp;omega))) zN _ (by rfl) [.int .i64 (x / 1000)] ((fun v:VV=>v.n / 1000) ⟨nu,x,s⟩) ⟨rfl,HZ.out⟩ 3 rfl (fun _ _ _ _ h4=>h4) (by omega) ?_;intro A5 c5 w5 h5))
    go_roundw
    case rel =>
     have e1:(l.take (k+1)).map (fun v:VV=>v.n / 1000)=(l.take k).map (fun v:VV=>v.n / 1000)++[(fun v:VV=>v.n / 1000) ⟨nu,x,s⟩]:=by
      rw [zT hkl,List.map_append,<-HF.out];rfl
     have e2:=h5.own
     rw [<-e1] at e2
     exact⟨k+1,A5,c5,_,by omega,by go_num,rfl,e2,h5.below⟩
    case measure=>simp [intOf];omega
  · obtain rfl:k=n:=by omega
    have e1:l.take k=l:=zL (by rw [<-HL.out];exact Nat.le_refl _)
    rw [e1] at hown
    have HO:=zH hown;clear hown e1
    go_wp2
    go_ret
    exact⟨A2,k,c2,rfl,⟨G,HO.out⟩,hb⟩
theorem lefts_any (F:Nat->Prop) (A:Option Addr) (n c:Nat) (l:List VV) (w:World) (h:Sl tVV F w A n c l) (hl:n<=4096) :
 Calls Tryz.prog 93 #[.slice A n c,.func (.func 95) #[] #[]] w (OwnE tI64 3 (l.map (fun v:VV=>v.n % 1000)) w):=by
 have HL:=zH h.len
 go_enter Tryz.func93,Tryz.ntmps93
 go_wp2
 go_loopw [5,10] (fun v i wr=>∃ (k:Nat) (A2:Option Addr) (c2:Nat) (G:Nat->Prop),k<=n/\i=.int .i64 k/\v=.slice A2 k c2/\OwnF tI64 3 G wr w.heap.size A2 k c2 ((l.take k).map (fun v:VV=>v.n % 1000))/\Below w.heap.size w wr)
  (fun _ i _=>n - (intOf i).toNat)
 case atStart=>exact⟨0,none,0,fun _=>False,Nat.zero_le _,rfl,rfl,OwnF.nil_ _ _ _ _ _,zR⟩
 case round =>
  obtain⟨k,A2,c2,G,hk,rfl,rfl,hown,hb⟩:=hrel
  by_cases hlt:k<n
  · have hkl:k<l.length:=by rw [<-HL.out];exact hlt
    obtain⟨b,o,cs,rfl,_,hbl,hrep,hc⟩:=(h.below hb zN).at_ hkl (by decide)
    obtain⟨v,hf⟩:∃ v,v=l[k]:=⟨_,rfl⟩
    obtain⟨rfl,hok⟩:=hrep
    rw [<-hf] at hc hok
    obtain⟨nu,x,s⟩:=v
    obtain⟨x0,x1,_⟩:=hok
    have x0 : -9223372036854775808<=x:=x0
    have x1:x<=9223372036854775807:=x1
    have HF:=zH hf;clear hf
    obtain⟨g0,g1,g2⟩:=yyj hc
    clear hc
    have g0:_=some (Value.bool nu):=g0
    have g1:_=some (Value.int .i64 x):=g1
    have g2:_=some (Value.string s):=g2
    have HO:=zH hown;clear hown
    have hsz:=hb.size
    have HZ:=zH (show -9223372036854775808<=((fun v:VV=>v.n % 1000) ⟨nu,x,s⟩)/\((fun v:VV=>v.n % 1000) ⟨nu,x,s⟩)<=9223372036854775807 by constructor <;> (show _<=_;dsimp only;omega))
    go_wp2_with (first
     | (go_at_call 95;refine (vvk (left_any x x0 x1 _)).mono ?_;rintro e w1 ⟨rfl,hb3⟩;have HB3:=zH hb3;clear hb3)
     | (at_builtin;refine apl1 (T:=tI64) vvJ w1 w rfl (.tmp 14) (.tmp 19) rfl w.heap.size A2 k c2 ((l.take k).map (fun v:VV=>v.n % 1000)) (by rfl) G (fun _=>False) (by first | exact (HO.out.alloc _).keepB HB3.out | exact ((HO.out.alloc _).keepB ((zR).drew)).keepB HB3.out) (by first | exact (hb.alloc hsz _).trans (HB3.out.mono (by simp;omega)) | exact (hb.alloc hsz _).drew.trans (HB3.out.mono (by simp;omega))) zN _ (by rfl) [.int .i64 (x % 1000)] ((fun v:VV=>v.n % 1000) ⟨nu,x,s⟩) ⟨rfl,HZ.out⟩ 3 rfl (fun _ _ _ _ h4=>h4) (by omega) ?_;intro A5 c5 w5 h5))
    go_roundw
    case rel =>
     have e1:(l.take (k+1)).map (fun v:VV=>v.n % 1000)=(l.take k).map (fun v:VV=>v.n % 1000)++[(fun v:VV=>v.n % 1000) ⟨nu,x,s⟩]:=by
      rw [zT hkl,List.map_append,<-HF.out];rfl
     have e2:=h5.own
     rw [<-e1] at e2
     exact⟨k+1,A5,c5,_,by omega,by go_num,rfl,e2,h5.below⟩
    case measure=>simp [intOf];omega
  · obtain rfl:k=n:=by omega
    have e1:l.take k=l:=zL (by rw [<-HL.out];exact Nat.le_refl _)
    rw [e1] at hown
    have HO:=zH hown;clear hown e1
    go_wp2
    go_ret
    exact⟨A2,k,c2,rfl,⟨G,HO.out⟩,hb⟩
theorem nums_any (F:Nat->Prop) (A:Option Addr) (n c:Nat) (l:List VV) (w:World) (h:Sl tVV F w A n c l) (hl:n<=4096) :
 Calls Tryz.prog 93 #[.slice A n c,.func (.func 96) #[] #[]] w (OwnE tI64 3 (l.map (fun v:VV=>v.n)) w):=by
 have HL:=zH h.len
 go_enter Tryz.func93,Tryz.ntmps93
 go_wp2
 go_loopw [5,10] (fun v i wr=>∃ (k:Nat) (A2:Option Addr) (c2:Nat) (G:Nat->Prop),k<=n/\i=.int .i64 k/\v=.slice A2 k c2/\OwnF tI64 3 G wr w.heap.size A2 k c2 ((l.take k).map (fun v:VV=>v.n))/\Below w.heap.size w wr)
  (fun _ i _=>n - (intOf i).toNat)
 case atStart=>exact⟨0,none,0,fun _=>False,Nat.zero_le _,rfl,rfl,OwnF.nil_ _ _ _ _ _,zR⟩
 case round =>
  obtain⟨k,A2,c2,G,hk,rfl,rfl,hown,hb⟩:=hrel
  by_cases hlt:k<n
  · have hkl:k<l.length:=by rw [<-HL.out];exact hlt
    obtain⟨b,o,cs,rfl,_,hbl,hrep,hc⟩:=(h.below hb zN).at_ hkl (by decide)
    obtain⟨v,hf⟩:∃ v,v=l[k]:=⟨_,rfl⟩
    obtain⟨rfl,hok⟩:=hrep
    rw [<-hf] at hc hok
    obtain⟨nu,x,s⟩:=v
    obtain⟨x0,x1,_⟩:=hok
    have x0 : -9223372036854775808<=x:=x0
    have x1:x<=9223372036854775807:=x1
    have HF:=zH hf;clear hf
    obtain⟨g0,g1,g2⟩:=yyj hc
    clear hc
    have g0:_=some (Value.bool nu):=g0
    have g1:_=some (Value.int .i64 x):=g1
    have g2:_=some (Value.string s):=g2
    have HO:=zH hown;clear hown
    have hsz:=hb.size
    have HZ:=zH (show -9223372036854775808<=((fun v:VV=>v.n) ⟨nu,x,s⟩)/\((fun v:VV=>v.n) ⟨nu,x,s⟩)<=9223372036854775807 by constructor <;> (show _<=_;dsimp only;omega))
    go_wp2_with (first
     | (go_at_call 96;refine (vvk (ident_any x _)).mono ?_;rintro e w1 ⟨rfl,hb3⟩;have HB3:=zH hb3;clear hb3)
     | (at_builtin;refine apl1 (T:=tI64) vvJ w1 w rfl (.tmp 14) (.tmp 19) rfl w.heap.size A2 k c2 ((l.take k).map (fun v:VV=>v.n)) (by rfl) G (fun _=>False) (by first | exact (HO.out.alloc _).keepB HB3.out | exact ((HO.out.alloc _).keepB ((zR).drew)).keepB HB3.out) (by first | exact (hb.alloc hsz _).trans (HB3.out.mono (by simp;omega)) | exact (hb.alloc hsz _).drew.trans (HB3.out.mono (by simp;omega))) zN _ (by rfl) [.int .i64 x] ((fun v:VV=>v.n) ⟨nu,x,s⟩) ⟨rfl,HZ.out⟩ 3 rfl (fun _ _ _ _ h4=>h4) (by omega) ?_;intro A5 c5 w5 h5))
    go_roundw
    case rel =>
     have e1:(l.take (k+1)).map (fun v:VV=>v.n)=(l.take k).map (fun v:VV=>v.n)++[(fun v:VV=>v.n) ⟨nu,x,s⟩]:=by
      rw [zT hkl,List.map_append,<-HF.out];rfl
     have e2:=h5.own
     rw [<-e1] at e2
     exact⟨k+1,A5,c5,_,by omega,by go_num,rfl,e2,h5.below⟩
    case measure=>simp [intOf];omega
  · obtain rfl:k=n:=by omega
    have e1:l.take k=l:=zL (by rw [<-HL.out];exact Nat.le_refl _)
    rw [e1] at hown
    have HO:=zH hown;clear hown e1
    go_wp2
    go_ret
    exact⟨A2,k,c2,rfl,⟨G,HO.out⟩,hb⟩
end
section
open Go Go.RowKit
theorem elemVV:zzP Tryz.prog 22 74 tVV.size:=zzP.mk' (bytes:=32) (z:=.agg #[.bool false,.int .i64 0,.string ⟨#[]⟩]) (by kernel_rfl) (by kernel_rfl) rfl (by decide) (by decide)
def encV (d:VV):List Value:=[.bool d.null,.int .i64 d.n,.string d.s]
def xxp (l:List VV):List Value:=(l.map encV).flatten
theorem xxq:∀ l:List VV,(xxp l).length=l.length*3
 | []=>rfl
 | d::r=>by
   have:=xxq r
   simp only [xxp,List.map_cons,List.flatten_cons,List.length_append,encV,List.length_cons,List.length_nil] at this ⊢
   omega
theorem yyo (d:VV) (r:List VV):xxp (d::r)=encV d++xxp r:=rfl
theorem vvl:∀ (l:List VV) (k j:Nat) (h:k<l.length) (u:Value),(encV l[k])[j]?=some u->(xxp l)[k*3+j]?=some u
 | d::r,0,j,_,u,hu=>by
   have hj:j<3:=by
    rcases Nat.lt_or_ge j 3 with h | h
    · exact h
    · rw [List.getElem?_eq_none (by simpa [encV] using h)] at hu;cases hu
   rw [yyo,Nat.zero_mul,Nat.zero_add,List.getElem?_append_left (by simpa [encV] using hj)]
   exact hu
 | d::r,k+1,j,h,u,hu=>by
   have ih:=vvl r k j (by simpa using h) u (by simpa using hu)
   rw [yyo,List.getElem?_append_right (by simp [encV];omega),show (k+1)*3+j - (encV d).length=k*3+j by simp [encV];omega]
   exact ih
theorem zqT (l:List VV) (k:Nat):(xxp l).take (k*3)=xxp (l.take k):=by
 induction l generalizing k with
 | nil=>simp [xxp]
 | cons d r ih =>
   cases k with
   | zero=>simp [xxp]
   | succ k =>
     rw [yyo,List.take_succ_cons,yyo,<-ih k,List.take_append,zL (by simp [encV];omega)]
     congr 2
     simp [encV];omega
theorem kqu:∀ (l:List VV) (i:Nat) (d:VV),i<l.length->(((xxp l).set (i*3) (.bool d.null)).set (i*3+1) (.int .i64 d.n)).set (i*3+2) (.string d.s)=xxp (l.set i d)
 | e::r,0,d,_=>rfl
 | e::r,i+1,d,h=>by
   have ih:=kqu r i d (by simpa using h)
   rw [List.set_cons_succ,yyo,yyo,<-ih]
   simp only [encV,List.cons_append,List.nil_append,show (i+1)*3=i*3+1+1+1 by omega]
   rfl
theorem repsV (F:Nat->Prop) (w:World) (l:List VV) (h:∀ d∈l,d.ok):Reps tVV F w (l.map encV) l:=by
 refine⟨by simp,fun i cs x h1 h2=>?_⟩
 rw [List.getElem?_map,h2] at h1
 simp at h1
 subst h1
 exact⟨rfl,h x (List.mem_of_getElem? h2)⟩
theorem repsV_eq {F:Nat->Prop} {w:World} {css:List (List Value)} {l:List VV} (h:Reps tVV F w css l):css=l.map encV/\∀ d∈l,d.ok:=by
 have hk:∀ i (hi:i<l.length),css[i]?=some (encV l[i])/\(l[i]).ok:=fun i hi=>by
  have hc:i<css.length:=by rw [h.1];exact hi
  have:=h.2 i _ _ (List.getElem?_eq_getElem hc) (List.getElem?_eq_getElem hi)
  exact⟨by rw [List.getElem?_eq_getElem hc,this.1];rfl,this.2⟩
 refine⟨List.ext_getElem? fun i=>?_,fun d hd=>?_⟩
 · rcases Nat.lt_or_ge i l.length with hi | hi
   · rw [(hk i hi).1,List.getElem?_map,List.getElem?_eq_getElem hi];rfl
   · rw [List.getElem?_eq_none (by rw [h.1];exact hi),List.getElem?_eq_none (by simpa using hi)]
 · obtain⟨i,hi,rfl⟩:=List.getElem_of_mem hd
   exact (hk i hi).2
structure OwnV (w:World) (B:Nat) (A:Option Addr) (n c:Nat) (l:List VV):Prop where
 row:w.ownsRow B 74 3 (.slice A n c) n (xxp l)
 ok:∀ d∈l,d.ok
section
variable {w w':World} {B n c:Nat} {A:Option Addr} {l:List VV}
theorem OwnV.len (h:OwnV w B A n c l):n=l.length:=by
 have:=h.row.1
 rw [xxq] at this;omega
theorem OwnV.ownF (h:OwnV w B A n c l):OwnF tVV 74 (fun _=>False) w B A n c l:=⟨⟨l.map encV,h.row,repsV _ w l h.ok⟩,by simp,h.len⟩
theorem ownV_of {F:Nat->Prop} (h:OwnF tVV 74 F w B A n c l):OwnV w B A n c l:=by
 obtain⟨⟨css,h1,h2⟩,_,_⟩:=h
 obtain⟨rfl,h3⟩:=repsV_eq h2
 exact⟨h1,h3⟩
theorem OwnV.sl (h:OwnV w B A n c l):Sl tVV (fun b=>B<=b) w A n c l:=h.ownF.sl.weaken fun b hb _=>by rcases hb with hb | hb;exact hb.elim;exact hb.2
theorem OwnV.cap (h:OwnV w B A n c l):n<=c/\c<=maxLen:=xxL h.row
theorem OwnV.keepB (h:OwnV w B A n c l) (hb:Below w.heap.size w w'):OwnV w' B A n c l:=⟨zz6 h.row fun b hb'=>hb.block b (h.row.lt b hb').2,h.ok⟩
theorem OwnV.front (h:OwnV w B A n c l) {k:Nat} (hk:k<=n) (hA:A≠none):OwnV w B A k c (l.take k):=by
 refine⟨⟨by rw [xxq,List.length_take,<-h.len];omega,?_⟩,fun d hd=>h.ok d (List.mem_of_mem_take hd)⟩
 rcases h.row.2 with ⟨h1,h2⟩ | ⟨g,cap,cur,h1,hb,hg,hn,hc,hs,ht⟩
 · injection h1 with h1;exact absurd h1 hA
 · injection h1 with e1 e2 e3;subst e1 e3
   refine .inr ⟨g,c,cur,rfl,hb,hg,by omega,hc,hs,?_⟩
   rw [<-zqT,<-ht,List.take_take,Nat.min_eq_left (Nat.mul_le_mul_right 3 hk)]
variable {g:Nat}
theorem OwnV.cell (h:OwnV w B (some ⟨g,0,none⟩) n c l) {i:Nat} (hi:i<l.length):w.cell? ⟨g,i*3,none⟩=some (.bool l[i].null)/\w.cell? ⟨g,i*3+1,none⟩=some (.int .i64 l[i].n)/\w.cell? ⟨g,i*3+2,none⟩=some (.string l[i].s):=by
 have hn:=h.len
 refine⟨?_,?_,?_⟩
 · rw [h.row.cellAt (i*3) (by omega)]
   exact vvl l i 0 hi _ rfl
 · rw [h.row.cellAt (i*3+1) (by omega)]
   exact vvl l i 1 hi _ rfl
 · rw [h.row.cellAt (i*3+2) (by omega)]
   exact vvl l i 2 hi _ rfl
theorem OwnV.free (h:OwnV w B (some ⟨g,0,none⟩) n c l) (j:Nat):w.frozen? ⟨g,j,none⟩=false:=h.row.frozenAt j
theorem OwnV.base (h:OwnV w B (some ⟨g,0,none⟩) n c l):B<=g/\g<w.heap.size:=h.row.lt g rfl
theorem OwnV.set (h:OwnV w B (some ⟨g,0,none⟩) n c l) {i:Nat} (hi:i<l.length) (d:VV) (hd:d.ok) :
 OwnV (((w.setCell ⟨g,i*3,none⟩ (.bool d.null)).setCell ⟨g,i*3+1,none⟩ (.int .i64 d.n)).setCell ⟨g,i*3+2,none⟩ (.string d.s)) B (some ⟨g,0,none⟩) n c (l.set i d):=by
 have h1:=(h.row.stored (i*3) (.bool d.null)).1
 have h2:=(h1.stored (i*3+1) (.int .i64 d.n)).1
 have h3:=(h2.stored (i*3+2) (.string d.s)).1
 rw [kqu l i d hi] at h3
 refine⟨h3,fun e he=>?_⟩
 rcases List.mem_or_eq_of_mem_set he with he | rfl
 · exact h.ok e he
 · exact hd
theorem OwnV.past (h:OwnV w B (some ⟨g,0,none⟩) n c l):∀ (vs:List Value) (o:Nat),n*3<=o->OwnV (w.setCells g o vs) B (some ⟨g,0,none⟩) n c l:=by
 intro vs
 induction vs generalizing w with
 | nil=>intro o _;exact h
 | cons v r ih =>
   intro o ho
   have h1:=(h.row.stored o v).1
   rw [List.set_eq_of_length_le (by rw [xxq,<-h.len];exact ho)] at h1
   exact ih (w:=w.setCell ⟨g,o,none⟩ v) ⟨h1,h.ok⟩ (o+1) (by omega)
end
theorem vvz {B g:Nat} {a:World} (hg:B<=g):∀ (vs:List Value) (o:Nat) (w:World),Below B a w->Below B a (w.setCells g o vs)
 | [],_,_,h=>h
 | v::r,o,_,h=>vvz hg r (o+1) _ (zzi h hg v)
theorem xqJ (w:World) (g o m c:Nat) (hm:0<m) (hc:∀ j,j<m*3->(w.cell? ⟨g,o+j,none⟩).isSome=true) (hf:∀ j,j<m*3->w.frozen? ⟨g,o+j,none⟩=false) :
 ∃ vs,∀ ty,(Builtin.clear_ #[22] ty #[.slice (some ⟨g,o,none⟩) m c]).run Tryz.prog w=.ok (.tuple #[]) (w.setCells g o vs):=by
 obtain⟨vs,hvs⟩:∃ vs,vs=(Builtin.zeroCells (Value.agg #[.bool false,.int .i64 0,.string ⟨#[]⟩]).cells m).toList:=⟨_,rfl⟩
 have hlen:vs.length=m*3:=by rw [hvs];simp [Builtin.zeroCells,Value.cells]
 have hone:∀ v∈vs,v.oneCell'=true:=by
  intro v hv
  rw [hvs] at hv
  obtain⟨i,hi,rfl⟩:=List.getElem_of_mem hv
  simp [Builtin.zeroCells,Value.cells] at hi ⊢
  have:i % 3<3:=Nat.mod_lt _ (by decide)
  match i % 3,this with
  | 0,_=>simp;rfl
  | 1,_=>simp;rfl
  | 2,_=>simp;rfl
 refine⟨vs,fun ty=>?_⟩
 have hst:=run_storeCells_cells (P:=Tryz.prog) g o vs 0 w (by simpa [hlen] using hc) (by simpa [hlen] using hf) hone
 simp only [Nat.add_zero] at hst
 have hz:∀ w,(zeroValue 74).run Tryz.prog w=.ok (.agg #[.bool false,.int .i64 0,.string ⟨#[]⟩]) w:=Tryz.zeroValue74
 obtain⟨k,rfl⟩:∃ k,m=k+1:=⟨m - 1,by omega⟩
 simp [Builtin.clear_,run_underlying (show Tryz.prog.underlying 22=some (.slice 74) by kernel_rfl),hz,<-hvs,hst]
end
section
open Go Go.RowKit
def colV (rows:List (List VV)) (i:Nat):List VV:=rows.map fun r=>r.getD i VV.zero
theorem qxK (rows:List (List VV)) (i:Nat):(colV rows i).length=rows.length:=List.length_map ..
theorem colV_snoc {rows:List (List VV)} {i k:Nat} (hk:k<rows.length) {r:List VV} (hr:r=rows[k]) (hi:i<r.length) {v:VV} (hv:v=r[i]):colV (rows.take (k+1)) i=colV (rows.take k) i++[v]:=by
 unfold colV
 rw [zT hk,List.map_append,<-hr,List.map_cons,List.map_nil,List.getD_eq_getElem?_getD,List.getElem?_eq_getElem hi,<-hv];rfl
abbrev RR:=List VV
abbrev tRow:Ty RR:=tSl tVV
end
section
open Go Go.RowKit
def yyE:Ty (Int×List UInt8):=Ty.prod tI64 (tSl tU8)
theorem xqL:zzP Tryz.prog 25 55 yyE.size:=zzP.mk' (bytes:=32) (z:=.agg #[.int .i64 0,.slice none 0 0]) (by kernel_rfl) (by kernel_rfl) rfl (by decide) (by decide)
structure BuR (w0:World) (g:Nat) (m enc tx:Int) (F:Nat->Prop) (A:Option Addr) (n c:Nat) (ss:List (Int×List UInt8)) (W:World):Prop where
 hold:W.heap[g]?=some (.cells #[.int .i64 m,.int .i64 enc,.int .i64 tx,.slice A n c] 85 (0,0))
 own:OwnF yyE 55 F W (g+1) A n c ss
 below:Below g w0 W
theorem uu1 (w0:World) (g:Nat) (m enc tx:Int) (F:Nat->Prop) (A:Option Addr) (n c:Nat) (ss:List (Int×List UInt8)) (w:World) (h:BuR w0 g m enc tx F A n c ss w) (hF:¬ F g) (k:Int) (hk : -9223372036854775808<=k/\k<=9223372036854775807)
 (G:Nat->Prop) (Ab:Option Addr) (nb cb:Nat) (bs:List UInt8) (hb:Sl tU8 G w Ab nb cb bs) (hG:¬ G g) (hGA:∀ b,A=some ⟨b,0,none⟩->¬ G b) (hn:n<=1000) :
 Calls Tryz.prog 43 #[.pointer (some ⟨g,0,none⟩),.int .i64 k,.slice Ab nb cb] w fun e w'=>e=.returned (.tuple #[])/\(∃ A' c',BuR w0 g m enc tx (fun b=>(F b∨G b)/\b<w.heap.size) A' (n+1) c' (ss++[(k,bs)]) w'/\(A'.map (·.block)=A.map (·.block)∨A'.map (·.block)=some (w.heap.size+1))) /\
  w.heap.size<=w'.heap.size/\(∀ b,b<w.heap.size->b≠g->A.map (·.block)≠some b->w'.heap[b]?=w.heap[b]?):=by
 have hgl:g<w.heap.size:=(Array.getElem?_eq_some_iff.1 h.hold).1
 have HH:=zH h.hold;have HO:=zH h.own;have HBW:=zH h.below;have HS:=zH hb
 have c3:w.cell? ⟨g,3,none⟩=some (.slice A n c):=by rw [zC h.hold];rfl
 have hA:∀ b,A.map (·.block)=some b->g+1<=b:=fun b e=>(h.own.lies (b:=b) (by rw [zzl];exact e)).2.1
 have HA:=zH hA
 clear h hb hA
 go_enter Tryz.func43,Tryz.ntmps43
 go_wp2_with (first
  | (at_builtin;refine apl1 (T:=yyE) xqL w w rfl (.tmp 11) (.tmp 15) rfl (g+1) A n c ss (by rfl) F G HO.out (zR) hgl _ (by rfl) [.int .i64 k,.slice Ab nb cb] (k,bs) ⟨[.int .i64 k],[.slice Ab nb cb],rfl,⟨rfl,hk⟩,⟨Ab,nb,cb,rfl,HS.out⟩⟩ 55 rfl (fun b h1 _ _=>hGA b h1) (by omega) ?_;intro A5 c5 w5 h5;have hg5:w5.heap[g]?=some (.cells #[.int .i64 m,.int .i64 enc,.int .i64 tx,.slice A n c] 85 (0,0)):=(h5.grown.block g (by simp;omega) (fun e=>by have:=HA.out g e.symm;omega)).trans ((Below.heap_alloc w _ g hgl).trans HH.out);have d3:w5.cell? ⟨g,3,none⟩=some (.slice A n c):=(by rw [zC hg5];rfl);have f3:=zF hg5 3;have HG5:=zH hg5;clear hg5)
  | fail)
 go_end0
 have hsz5:=h5.grown.size
 rw [zS] at hsz5
 refine⟨rfl,⟨A5,c5,⟨zza HG5.out rfl,?_,?_⟩,(by have h6:=h5.lies;rw [zS] at h6;exact h6)⟩,by simp;omega,fun b hb1 hb2 hb3=>?_⟩
 · refine h5.own.setCell (p:=⟨g,3,none⟩) (fun hx=>?_) (fun e=>?_) _
   · rcases hx.1 with hx | hx
     · exact hF hx
     · exact hG hx
   · have:=(h5.own.lies (b:=g) (by rw [zzl,e];rfl)).2.1
     omega
 · exact zzi (((HBW.out.alloc (Nat.le_of_lt hgl) _).grown h5.grown (by simp;omega) (fun b e=>by have:=HA.out b e;omega))) zN _
 · exact (Below.heap_setCell _ _ _ _ hb2).trans ((h5.grown.block b (by simp;omega) (fun e=>hb3 e.symm)).trans (Below.heap_alloc w _ b hb1))
end
section
open Go Go.RowKit
theorem zzm (k:Int) (w:World):Calls Tryz.prog 49 #[.int .i64 k] w fun e w'=>e=.returned (.bool (decide (1<=k/\k<=5)))/\w=w':=by
 obtain⟨q,hq⟩:∃ q,q=decide (1<=k/\k<=5):=⟨_,rfl⟩
 rw [<-hq]
 by_cases h1:1<=k
 · have h1':k ≥ 1:=h1
   by_cases h2:k<=5
   · obtain rfl:q=true:=hq.trans (decide_eq_true ⟨h1,h2⟩)
     clear hq
     go_enter Tryz.func49,Tryz.ntmps49
     go_wp2_with fail
     go_ret
     exact⟨rfl,rfl⟩
   · obtain rfl:q=false:=hq.trans (decide_eq_false fun h=>h2 h.2)
     clear hq
     go_enter Tryz.func49,Tryz.ntmps49
     go_wp2_with fail
     go_ret
     exact⟨rfl,rfl⟩
 · have h1':¬ k ≥ 1:=h1
   obtain rfl:q=false:=hq.trans (decide_eq_false fun h=>h1 h.1)
   clear hq
   go_enter Tryz.func49,Tryz.ntmps49
   go_wp2_with fail
   go_ret
   exact⟨rfl,rfl⟩
section
variable {w0 w w':World} {l:List VV} {i:Nat} {col:Nat->Nat} {S:Nat} {A1 A2 A3 A4 A':Option Addr} {c1 c2 c3 c4 c' n1 n2 n3 n4:Nat}
end
end
section
open Go Go.RowKit
section
variable {w0 w w':World} {col:Nat->Nat} {S:Nat} {A1 A2 A':Option Addr} {n1 c1 n2 c2 c':Nat} {gs:List Int} {ps:List Nat}
end
end
section
open Go Go.RowKit
end
section
open Go Go.RowKit
end
section
open Go Go.RowKit
end
end Go.Proofs.YtpmglcachffojaaGreatDoor
