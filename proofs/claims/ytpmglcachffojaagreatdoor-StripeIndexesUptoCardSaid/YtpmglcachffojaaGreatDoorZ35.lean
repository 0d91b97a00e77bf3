/- A part of what Indexes leans on. -/
import Derived.Test.YtpmglcachffojaaGreatDoorZ32
set_option maxRecDepth 100000
set_option maxHeartbeats 16000000
namespace Go.Proofs.YtpmglcachffojaaGreatDoor
section
open Go Go.RowKit
def colC (k:Int) (l:List VV):Int×Int×List (Int×List UInt8) :=
 if 1<=k/\k<=5 then (1,0,[(1,yy5 l),(2,uuO k (l.filter zzH))])
 else ((txC ((l.filter zzH).map (·.s))).1,(txC ((l.filter zzH).map (·.s))).2.1,(1,yy5 l)::(txC ((l.filter zzH).map (·.s))).2.2)
def colE (k:Int) (l:List VV):Int:=if 1<=k/\k<=7 then (if l.all (mayV k) then 0 else 21) else 1
def colR (k:Int) (l:List VV):Int×Int×Int×List (Int×List UInt8):=if colE k l=0 then ((l.length:Int),colC k l) else (0,0,0,[])
def vvM (k:Int) (l:List VV) (w:World) (e:Ending) (w':World):Prop :=
 ∃ A n c,e=.returned (.tuple #[.agg #[.int .i64 (colR k l).1,.int .i64 (colR k l).2.1,.int .i64 (colR k l).2.2.1,.slice A n c],.int .i64 (colE k l)])/\Sl yyE (fun b=>w.heap.size<=b) w' A n c (colR k l).2.2.2/\Below w.heap.size w w'
structure ColW (k:Int) (w wc:World):Prop where
 eq:wc=(w.alloc (.cells #[.int .i64 k] 3)).alloc (.cells #[.int .i64 0,.int .i64 0,.int .i64 0,.slice none 0 0] 27)
 below:Below w.heap.size w wc
 size:wc.heap.size=w.heap.size+2
 box:wc.cell? ⟨w.heap.size,0,none⟩=some (.int .i64 k)
 col:wc.heap[w.heap.size+1]?=some (.cells #[.int .i64 0,.int .i64 0,.int .i64 0,.slice none 0 0] 27 (0,0))
theorem colW (k:Int) (w:World):∃ wc,ColW k w wc:=by
 refine⟨_,rfl,?_,by simp,?_,?_⟩
 · have hb1:Below w.heap.size w (w.alloc (.cells #[.int .i64 k] 3)):=(zR).alloc zN _
   exact hb1.alloc hb1.size _
 · have hgk:((w.alloc (.cells #[.int .i64 k] 3)).alloc (.cells #[.int .i64 0,.int .i64 0,.int .i64 0,.slice none 0 0] 27)).heap[w.heap.size]?=some (.cells #[.int .i64 k] 3 (0,0)):=(Below.heap_alloc _ _ _ (by simp)).trans (heap_alloc_new w _)
   rw [zC hgk];rfl
 · have:=heap_alloc_new (w.alloc (.cells #[.int .i64 k] 3)) (.cells #[.int .i64 0,.int .i64 0,.int .i64 0,.slice none 0 0] 27)
   rwa [zS] at this
theorem cput_no (k:Int) (F:Nat->Prop) (A:Option Addr) (n c:Nat) (l:List VV) (w:World) (h:Sl tVV F w A n c l) (hn:n<=4096) (hT:Lib.Utf8Tabs 0 1 w) (hno:¬ colE k l=0) :
 Calls Tryz.prog 12 #[.int .i64 k,.slice A n c] w (vvM k l w):=by
 have hn1:¬ (n:Int) > 4096:=by omega
 have hn2:¬ (4096:Int)<n:=by omega
 obtain⟨wc,hwc⟩:=colW k w
 have HWC:=zH hwc
 have HH:=zH (h.below hwc.below zN);have HT:=zH (zzb hT hwc.below)
 have HNO:=zH hno
 have HR:=zH (show colR k l=(0,0,0,[]) from if_neg hno)
 have hcol:=hwc.col
 have hbox:=hwc.box
 by_cases hk:1<=k/\k<=7
 · have HP:=zH (show decide (1<=k/\k<=7)=true from decide_eq_true hk)
   have hq:l.all (mayV k)=false:=by
    cases hq:l.all (mayV k) with
    | false=>rfl
    | true=>exact absurd (by unfold colE;rw [if_pos hk,hq];rfl) hno
   have HE:=zH (show colE k l=21 by unfold colE;rw [if_pos hk,hq];rfl)
   have HQ:=zH (show (!l.all (mayV k))=true by rw [hq];rfl)
   clear h hn hT hwc hno hq hk hcol
   go_enter Tryz.func12,Tryz.ntmps12
   go_upto_region 1 with fail
   rw [<-HWC.out.eq]
   go_wp2_with (first
    | (go_at_call 38;refine (vv2 _ _).mono ?_;rintro e w1 ⟨rfl,rfl⟩;rw [HP.out])
    | (go_at_call 39;refine (jjL k w.heap.size F A n c l _ HH.out hbox HT.out).mono ?_;rintro e w1 ⟨rfl,hb1⟩;rw [HQ.out];have hg1:=(hb1.block _ (zzc HWC.out.col)).trans HWC.out.col;obtain⟨⟨z0,y0⟩,⟨z1,y1⟩,⟨z2,y2⟩,⟨z3,y3⟩⟩:=zzs hg1;have HG1:=zH hg1;have HB1:=zH (HWC.out.below.trans (hb1.mono HWC.out.below.size));clear hg1 hb1)
    | fail)
   refine bodyPost_ret (zzM rfl _ _ (w.heap.size+1) 27 #[.int .i64 0,.int .i64 0,.int .i64 0,.slice none 0 0] (0,0) _ rfl (qxW HG1.out _ _ _ _) Tryz.underlying27 rfl (by kernel_rfl)) rfl ?_
   refine⟨none,0,0,by rw [HR.out,HE.out];rfl,by rw [HR.out];exact Sl.nil_ _ _ _,xxb HB1.out (by omega) _ _ _ _⟩
 · have HP:=zH (show decide (1<=k/\k<=7)=false from decide_eq_false hk)
   have HE:=zH (show colE k l=1 from if_neg hk)
   have hcol2:wc.heap[w.heap.size+1]?=some (.cells #[.int .i64 0,.int .i64 0,.int .i64 0,.slice none 0 0] 27 (0,0)):=hcol
   obtain⟨⟨z0,y0⟩,⟨z1,y1⟩,⟨z2,y2⟩,⟨z3,y3⟩⟩:=zzs hcol2
   clear h hn hT hwc hno hk hcol hcol2
   go_enter Tryz.func12,Tryz.ntmps12
   go_upto_region 1 with fail
   rw [<-HWC.out.eq]
   go_wp2_with (first
    | (go_at_call 38;refine (vv2 _ _).mono ?_;rintro e w1 ⟨rfl,rfl⟩;rw [HP.out])
    | fail)
   refine bodyPost_ret (zzM rfl _ _ (w.heap.size+1) 27 #[.int .i64 0,.int .i64 0,.int .i64 0,.slice none 0 0] (0,0) _ rfl (qxW HWC.out.col _ _ _ _) Tryz.underlying27 rfl (by kernel_rfl)) rfl ?_
   refine⟨none,0,0,by rw [HR.out,HE.out];rfl,by rw [HR.out];exact Sl.nil_ _ _ _,xxb HWC.out.below (by omega) _ _ _ _⟩
end
section
open Go Go.RowKit
structure StR (gs gt:Nat) (c:Int) (hn:Bool) (mn mx:VV) (S:Int) (w:World):Prop where
 s:w.heap[gs]?=some (.cells #[.int .i64 c,.bool hn,.bool mn.null,.int .i64 mn.n,.string mn.s,.bool mx.null,.int .i64 mx.n,.string mx.s,.int .i64 0,.bool false] 109 (0,0))
 t:w.heap[gt]?=some (.cells #[.int .i64 (tHi S),.int .u64 (tLo S:Nat)] 230 (0,0))
theorem StR.call {gs gt:Nat} {c:Int} {hn:Bool} {mn mx:VV} {S:Int} {w w':World} (h:StR gs gt c hn mn mx S w) (hb:Below w.heap.size w w'):StR gs gt c hn mn mx S w' :=
 ⟨(hb.block _ (zzc h.s)).trans h.s,(hb.block _ (zzc h.t)).trans h.t⟩
structure uua (w0:World) (gs gt:Nat) (c:Int) (hn:Bool) (mn mx:VV) (S:Int) (v:VV) (w:World):Prop where
 st:StR gs gt c hn mn mx S w
 b:w.heap[w0.heap.size]?=some (.cells #[.bool v.null,.int .i64 v.n,.string v.s] 74 (0,0))
 size:w0.heap.size<=w.heap.size
 keep:∀ b,b<w0.heap.size->b≠gs->b≠gt->w.heap[b]?=w0.heap[b]?
 below:∀ (a:World) (B:Nat),Below B a w0->B<=gs->B<=gt->Below B a w
 lts:gs<w0.heap.size
 ltt:gt<w0.heap.size
 ne:gs≠gt
section
variable {w0 w w':World} {gs gt:Nat} {c:Int} {hn:Bool} {mn mx:VV} {S:Int} {v:VV}
theorem uua.call (h:uua w0 gs gt c hn mn mx S v w) (hb:Below w.heap.size w w'):uua w0 gs gt c hn mn mx S v w' :=
 ⟨h.st.call hb,(hb.block _ (zzc h.b)).trans h.b,Nat.le_trans h.size hb.size,fun b h1 h2 h3=>(hb.block b (Nat.lt_of_lt_of_le h1 h.size)).trans (h.keep b h1 h2 h3),fun a B h1 h2 h3=>(h.below a B h1 h2 h3).trans (hb.mono (Nat.le_trans (Nat.le_trans h2 (Nat.le_of_lt h.lts)) h.size)),h.lts,h.ltt,h.ne⟩
theorem uua.drew (h:uua w0 gs gt c hn mn mx S v w):uua w0 gs gt c hn mn mx S v w.drew:=h.call ((zR).drew)
theorem uua.init (h:StR gs gt c hn mn mx S w) (hne:gs≠gt):uua w gs gt c hn mn mx S v (w.alloc (.cells #[.bool v.null,.int .i64 v.n,.string v.s] 74)) :=
 ⟨h.call ((zR).alloc zN _),heap_alloc_new w _,by simp,fun b h1 _ _=>Below.heap_alloc w _ b h1,fun a B h1 h2 _=>h1.alloc (Nat.le_trans (Nat.le_trans h2 (Nat.le_of_lt (zzc h.s))) zN) _,zzc h.s,zzc h.t,hne⟩
theorem uua.count (h:uua w0 gs gt c hn mn mx S v w):uua w0 gs gt (c+1) hn mn mx S v (w.setCell ⟨gs,0,none⟩ (.int .i64 (c+1))) :=
 ⟨⟨zza h.st.s rfl,(Below.heap_setCell _ _ _ _ h.ne.symm).trans h.st.t⟩,(Below.heap_setCell _ _ _ _ (by have:=h.lts;show w0.heap.size≠gs;omega)).trans h.b,by simpa using h.size,fun b h1 h2 h3=>(Below.heap_setCell _ _ _ _ h2).trans (h.keep b h1 h2 h3),fun a B h1 h2 h3=>zzi (h.below a B h1 h2 h3) h2 _,h.lts,h.ltt,h.ne⟩
theorem uua.minmax (h:uua w0 gs gt c hn mn mx S v w) (mn' mx':VV):uua w0 gs gt c hn mn' mx' S v ((((((w.setCell ⟨gs,2,none⟩ (.bool mn'.null)).setCell ⟨gs,3,none⟩ (.int .i64 mn'.n)).setCell ⟨gs,4,none⟩ (.string mn'.s)).setCell ⟨gs,5,none⟩ (.bool mx'.null)).setCell ⟨gs,6,none⟩ (.int .i64 mx'.n)).setCell ⟨gs,7,none⟩ (.string mx'.s)):=by
 have hgv:w0.heap.size≠gs:=by have:=h.lts;omega
 exact⟨⟨(zza (cs':=#[.int .i64 c,.bool hn,.bool mn'.null,.int .i64 mn'.n,.string mn'.s,.bool mx'.null,.int .i64 mx'.n,.string mx'.s,.int .i64 0,.bool false]) (zza (cs':=#[.int .i64 c,.bool hn,.bool mn'.null,.int .i64 mn'.n,.string mn'.s,.bool mx'.null,.int .i64 mx'.n,.string mx.s,.int .i64 0,.bool false]) (zza (cs':=#[.int .i64 c,.bool hn,.bool mn'.null,.int .i64 mn'.n,.string mn'.s,.bool mx'.null,.int .i64 mx.n,.string mx.s,.int .i64 0,.bool false]) (zza (cs':=#[.int .i64 c,.bool hn,.bool mn'.null,.int .i64 mn'.n,.string mn'.s,.bool mx.null,.int .i64 mx.n,.string mx.s,.int .i64 0,.bool false]) (zza (cs':=#[.int .i64 c,.bool hn,.bool mn'.null,.int .i64 mn'.n,.string mn.s,.bool mx.null,.int .i64 mx.n,.string mx.s,.int .i64 0,.bool false]) (zza (cs':=#[.int .i64 c,.bool hn,.bool mn'.null,.int .i64 mn.n,.string mn.s,.bool mx.null,.int .i64 mx.n,.string mx.s,.int .i64 0,.bool false]) h.st.s rfl) rfl) rfl) rfl) rfl) rfl),((Below.heap_setCell _ _ _ _ h.ne.symm).trans ((Below.heap_setCell _ _ _ _ h.ne.symm).trans ((Below.heap_setCell _ _ _ _ h.ne.symm).trans ((Below.heap_setCell _ _ _ _ h.ne.symm).trans ((Below.heap_setCell _ _ _ _ h.ne.symm).trans ((Below.heap_setCell _ _ _ _ h.ne.symm).trans h.st.t))))))⟩,((Below.heap_setCell _ _ _ _ hgv).trans ((Below.heap_setCell _ _ _ _ hgv).trans ((Below.heap_setCell _ _ _ _ hgv).trans ((Below.heap_setCell _ _ _ _ hgv).trans ((Below.heap_setCell _ _ _ _ hgv).trans ((Below.heap_setCell _ _ _ _ hgv).trans h.b)))))),by simpa using h.size,fun b h1 h2 h3=>((Below.heap_setCell _ _ _ _ h2).trans ((Below.heap_setCell _ _ _ _ h2).trans ((Below.heap_setCell _ _ _ _ h2).trans ((Below.heap_setCell _ _ _ _ h2).trans ((Below.heap_setCell _ _ _ _ h2).trans ((Below.heap_setCell _ _ _ _ h2).trans (h.keep b h1 h2 h3))))))),fun a B h1 h2 h3=>(zzi (zzi (zzi (zzi (zzi (zzi (h.below a B h1 h2 h3) h2 _) h2 _) h2 _) h2 _) h2 _) h2 _),h.lts,h.ltt,h.ne⟩
theorem uua.total (h:uua w0 gs gt c hn mn mx S v w) (S':Int):uua w0 gs gt c hn mn mx S' v ((w.setCell ⟨gt,0,none⟩ (.int .i64 (tHi S'))).setCell ⟨gt,1,none⟩ (.int .u64 (tLo S':Nat))):=by
 have hgv:w0.heap.size≠gt:=by have:=h.ltt;omega
 exact⟨⟨(Below.heap_setCell _ _ _ _ h.ne).trans ((Below.heap_setCell _ _ _ _ h.ne).trans h.st.s),zza (zza h.st.t rfl) rfl⟩,(Below.heap_setCell _ _ _ _ hgv).trans ((Below.heap_setCell _ _ _ _ hgv).trans h.b),by simpa using h.size,fun b h1 h2 h3=>(Below.heap_setCell _ _ _ _ h3).trans ((Below.heap_setCell _ _ _ _ h3).trans (h.keep b h1 h2 h3)),fun a B h1 h2 h3=>zzi (zzi (h.below a B h1 h2 h3) h3 _) h3 _,h.lts,h.ltt,h.ne⟩
end
theorem note_any (gs gt:Nat) (c:Int) (hn:Bool) (mn mx:VV) (S:Int) (v:VV) (w:World) (h:StR gs gt c hn mn mx S w) (hne:gs≠gt) (hc:0<=c/\c<=4096) (hS : -4096<=tHi S/\tHi S<=4096) (hv0 : -9223372036854775808<=v.n) (hv1:v.n<=9223372036854775807) :
 Calls Tryz.prog 175 #[.agg #[.bool v.null,.int .i64 v.n,.string v.s],.pointer (some ⟨gs,0,none⟩),.pointer (some ⟨gt,0,none⟩)] w fun e w'=>e=.returned (.tuple #[])/\uua w gs gt (c+1) hn (uuP (-1) mn v) (uuP 1 mx v) (S+v.n) v w':=by
 obtain⟨mn',hmn'⟩:∃ mn',mn'=uuP (-1) mn v:=⟨_,rfl⟩
 obtain⟨mx',hmx'⟩:∃ mx',mx'=uuP 1 mx v:=⟨_,rfl⟩
 rw [<-hmn',<-hmx']
 have HMN:=zH hmn';have HMX:=zH hmx'
 obtain⟨w1,hw1⟩:∃ w1,w1=w.alloc (.cells #[.bool v.null,.int .i64 v.n,.string v.s] 74):=⟨_,rfl⟩
 have hn1:uua w gs gt c hn mn mx S v w1:=by rw [hw1];exact uua.init h hne
 have HN1:=zH hn1;have HW1:=zH hw1
 have HADD:=zH (tadd_any S v.n hv0 hv1 hS)
 obtain⟨hc0,hc1⟩:=hc
 have hs1:=hn1.st.s
 obtain⟨⟨s0,a0⟩,⟨s1,a1⟩,⟨s2,a2⟩,⟨s3,a3⟩,⟨s4,a4⟩,⟨s5,a5⟩,⟨s6,a6⟩,⟨s7,a7⟩,⟨s8,a8⟩,⟨s9,a9⟩⟩:=yyt hs1
 clear hmn' hmx' hw1 hn1 hs1 h hS hv0 hv1
 go_enter Tryz.func175,Tryz.ntmps175
 go_upto_region 1 with fail
 rw [<-HW1.out]
 go_upto_region 2 with fail
 clear s0 a0 s1 a1 s2 a2 s3 a3 s4 a4 s5 a5 s6 a6 s7 a7 s8 a8 s9 a9
 obtain⟨w2,hw2⟩:∃ w2,w2=w1.setCell ⟨gs,0,none⟩ (.int .i64 (c+1)):=⟨_,rfl⟩
 have hn2:=HN1.out.count
 rw [<-hw2] at hn2 ⊢
 have HN2:=zH hn2
 have hs2:=hn2.st.s;have hb2:=hn2.b
 obtain⟨⟨s0,a0⟩,⟨s1,a1⟩,⟨s2,a2⟩,⟨s3,a3⟩,⟨s4,a4⟩,⟨s5,a5⟩,⟨s6,a6⟩,⟨s7,a7⟩,⟨s8,a8⟩,⟨s9,a9⟩⟩:=yyt hs2
 obtain⟨⟨b0,_⟩,⟨b1,_⟩,⟨b2,_⟩⟩:=vv9 hb2
 have hgv:gs≠w.heap.size:=by have:=hn2.lts;omega
 have hgv2:w.heap.size≠gs:=by have:=hn2.lts;omega
 have bd0:w2.drew.cell? ⟨w.heap.size,0,none⟩=some (.bool v.null):=b0
 have bd1:w2.drew.cell? ⟨w.heap.size,1,none⟩=some (.int .i64 v.n):=b1
 have bd2:w2.drew.cell? ⟨w.heap.size,2,none⟩=some (.string v.s):=b2
 clear hw2 hn2 hs2 hb2
 go_cut [] from 8 to 17 (fun wx=>∃ wd,wd=wx/\uua w gs gt (c+1) hn mn' mx' S v wd)
 case first =>
  refine regL [(some 3,fun w'=>w'.cell? ⟨gs,2,none⟩=some (.bool mn.null)/\w'.cell? ⟨gs,3,none⟩=some (.int .i64 mn.n)/\w'.cell? ⟨gs,4,none⟩=some (.string mn.s)),(some 7,fun w'=>w'.cell? ⟨gs,5,none⟩=some (.bool mx.null)/\w'.cell? ⟨gs,6,none⟩=some (.int .i64 mx.n)/\w'.cell? ⟨gs,7,none⟩=some (.string mx.s)),(some 3,fun w'=>w'.cell? ⟨w.heap.size,0,none⟩=some (.bool v.null)/\w'.cell? ⟨w.heap.size,1,none⟩=some (.int .i64 v.n)/\w'.cell? ⟨w.heap.size,2,none⟩=some (.string v.s)),(some 7,fun w'=>w'.cell? ⟨w.heap.size,0,none⟩=some (.bool v.null)/\w'.cell? ⟨w.heap.size,1,none⟩=some (.int .i64 v.n)/\w'.cell? ⟨w.heap.size,2,none⟩=some (.string v.s))] (by kernel_rfl) ?_ (fun hHeld=>?_)
  · exact⟨fun h=>(by first | exact gone (c:=3) (by decide +kernel) h | exact⟨s2,s3,s4⟩ | fail),fun h=>(by first | exact gone (c:=7) (by decide +kernel) h | exact⟨s5,s6,s7⟩ | exact⟨p5,p6,p7⟩ | fail),fun h=>(by first | exact gone (c:=3) (by decide +kernel) h | exact⟨bd0,bd1,bd2⟩ | fail),fun h=>(by first | exact gone (c:=7) (by decide +kernel) h | exact⟨bd0,bd1,bd2⟩ | exact⟨b05,b15,b25⟩ | fail),trivial⟩
  iterate 4
   all_goals
    repeat ((first | (refine tkP 0 (oi:=⟨_,_,_,_,_,_⟩) (v:=?_) rfl (by decide +kernel) rfl (fun _ _ _ h=>h) rfl hHeld ?_ ?_) | (refine tkL 1 0 rfl (oi:=⟨_,_,_,_,_,_⟩) (v:=?_) rfl (by decide +kernel) rfl (fun _ _ _ h=>h) rfl hHeld ?_ ?_) | (refine tkL 2 2 rfl (oi:=⟨_,_,_,_,_,_⟩) (v:=?_) rfl (by decide +kernel) rfl (fun _ _ _ h=>h) rfl hHeld ?_ ?_) | (refine tkP 4 (oi:=⟨_,_,_,_,_,_⟩) (v:=?_) rfl (by decide +kernel) rfl (fun _ _ _ h=>h) rfl hHeld ?_ ?_) | (refine tkL 5 1 rfl (oi:=⟨_,_,_,_,_,_⟩) (v:=?_) rfl (by decide +kernel) rfl (fun _ _ _ h=>h) rfl hHeld ?_ ?_) | (refine tkL 6 3 rfl (oi:=⟨_,_,_,_,_,_⟩) (v:=?_) rfl (by decide +kernel) rfl (fun _ _ _ h=>h) rfl hHeld ?_ ?_) | (refine tkP 8 (oi:=⟨_,_,_,_,_,_⟩) (v:=?_) rfl (by decide +kernel) rfl (fun _ _ _ h=>h) rfl hHeld ?_ ?_) | (refine tkP 10 (oi:=⟨_,_,_,_,_,_⟩) (v:=?_) rfl (by decide +kernel) rfl (fun _ _ _ h=>h) rfl hHeld ?_ ?_));rotate_left;(focus (intro w;(try intro hSw);(try dsimp only at hSw);go_simp;try with_reducible rfl));intro hHeld;(try simp only [Act.put]);(try simp only [List.setIfInBounds_toArray]);(try simp only [List.set_cons_succ]);(try simp only [List.set_cons_zero]))
    first | (refine rd1 3 (o:=⟨_,_,_,_,_,_⟩) (by decide +kernel) rfl (fun K hK=>?_)) | (refine rd1 7 (o:=⟨_,_,_,_,_,_⟩) (by decide +kernel) rfl (fun K hK=>?_)) | (refine rd1 9 (o:=⟨_,_,_,_,_,_⟩) (by decide +kernel) rfl (fun K hK=>?_)) | (refine rd1 11 (o:=⟨_,_,_,_,_,_⟩) (by decide +kernel) rfl (fun K hK=>?_))
   all_goals
    first  | (go_simp;(first | (go_at_call_of 176 (Value.int .i64 1);refine (qx2 1 (.inr rfl) mx v _).mono ?_;rintro e w6 ⟨rfl,hb6⟩;rw [<-HMX.out];have HN6:=zH (HN5.out.call hb6);have hs6:=HN6.out.st.s;obtain⟨⟨r0,g0⟩,⟨r1,g1⟩,⟨r2,g2⟩,⟨r3,g3⟩,⟨r4,g4⟩,⟨r5,g5⟩,⟨r6,g6⟩,⟨r7,g7⟩,⟨r8,g8⟩,⟨r9,g9⟩⟩:=yyt hs6;have b06:=zzh hb6 b05;have b16:=zzh hb6 b15;have b26:=zzh hb6 b25;clear hs6) | (go_at_call 176;refine (qx2 (-1) (.inl rfl) mn v _).mono ?_;rintro e w5 ⟨rfl,hb5⟩;rw [<-HMN.out];have HN5:=zH (HN2.out.drew.call hb5);have hs5:=HN5.out.st.s;obtain⟨⟨p0,f0⟩,⟨p1,f1⟩,⟨p2,f2⟩,⟨p3,f3⟩,⟨p4,f4⟩,⟨p5,f5⟩,⟨p6,f6⟩,⟨p7,f7⟩,⟨p8,f8⟩,⟨p9,f9⟩⟩:=yyt hs5;have b05:=zzh (W:=w2.drew) hb5 b0;have b15:=zzh (W:=w2.drew) hb5 b1;have b25:=zzh (W:=w2.drew) hb5 b2;clear hs5) | fail)) | go_simp
    refine hK.out _ _ ?_ (fun hHeld=>?_)
    · (try dsimp only);exact⟨fun h=>(by first | exact gone (c:=3) (by decide +kernel) h | exact⟨s2,s3,s4⟩ | fail),fun h=>(by first | exact gone (c:=7) (by decide +kernel) h | exact⟨s5,s6,s7⟩ | exact⟨p5,p6,p7⟩ | fail),fun h=>(by first | exact gone (c:=3) (by decide +kernel) h | exact⟨bd0,bd1,bd2⟩ | fail),fun h=>(by first | exact gone (c:=7) (by decide +kernel) h | exact⟨bd0,bd1,bd2⟩ | exact⟨b05,b15,b25⟩ | fail),trivial⟩
    clear hK K;(try simp only [Act.put]);(try simp only [List.setIfInBounds_toArray]);(try simp only [List.set_cons_succ]);(try simp only [List.set_cons_zero])
  all_goals
   refine xxI (by decide +kernel) ?_ _
   go_wp2_with fail
   go_meet
   exact⟨_,rfl,HN6.out.minmax mn' mx'⟩
 case rest =>
  obtain⟨wd,rfl,hnd⟩:=hcut
  have HND:=zH hnd
  clear s0 a0 s1 a1 s2 a2 s3 a3 s4 a4 s5 a5 s6 a6 s7 a7 s8 a8 s9 a9 b0 b1 b2
  have ht:=hnd.st.t;have hbx:=hnd.b
  have t0:wd.cell? ⟨gt,0,none⟩=some (.int .i64 (tHi S)):=by rw [zC ht];rfl
  have t1:wd.cell? ⟨gt,1,none⟩=some (.int .u64 (tLo S:Nat)):=by rw [zC ht];rfl
  obtain⟨⟨b0,_⟩,⟨b1,_⟩,⟨b2,_⟩⟩:=vv9 hbx
  clear hnd ht hbx
  refine ‹∀ (a:Act) (w_1:World),Code.wp _ _ _ a w_1->_› _ _ ?_
  go_wp2_with (first
   | (go_at_call 177;refine (HADD.out _).mono ?_;rintro e w7 ⟨rfl,hb7⟩;have HN7:=zH (HND.out.call hb7);have ht7:=HN7.out.st.t;have t07:w7.cell? ⟨gt,0,none⟩=some (.int .i64 (tHi S)):=(by rw [zC ht7];rfl);have t17:w7.cell? ⟨gt,1,none⟩=some (.int .u64 (tLo S:Nat)):=(by rw [zC ht7];rfl);have f07:=zF ht7 0;have f17:=zF ht7 1;clear ht7 hb7)
   | fail)
  go_end0
  exact⟨rfl,HN7.out.total (S+v.n)⟩
end
section
open Go Go.RowKit
theorem zq6 (s:S0) {v:VV} (h:v.null=true):uuG s v=⟨s.count,true,s.min,s.max⟩:=by unfold uuG;rw [h];rfl
theorem zq7 (s:S0) {v:VV} (h:v.null=false):uuG s v=⟨s.count+1,s.hasNull,uuP (-1) s.min v,uuP 1 s.max v⟩:=by
 unfold uuG uuP
 rw [h,if_neg (by decide)]
 have e1:decide (vcmp v s.min<0)=decide (0 < -1*vcmp v s.min):=by rw [decide_eq_decide];omega
 have e2:decide (0<vcmp v s.max)=decide (0<1*vcmp v s.max):=by rw [decide_eq_decide];omega
 rw [e1,e2]
 rfl
theorem StR.hn {gs gt:Nat} {c:Int} {hn:Bool} {mn mx:VV} {S:Int} {w:World} (h:StR gs gt c hn mn mx S w) (hne:gs≠gt):StR gs gt c true mn mx S (w.setCell ⟨gs,1,none⟩ (.bool true)) :=
 ⟨zza h.s rfl,(Below.heap_setCell _ _ _ _ hne.symm).trans h.t⟩
theorem xq1:∀ l:List VV,(∀ v∈l,v.ok) -> -9223372036854775808*(l.length:Int)<=sumV l/\sumV l<=9223372036854775808*(l.length:Int):=by
 suffices h:∀ r:List VV,(∀ v∈r.reverse,v.ok) -> -9223372036854775808*(r.length:Int)<=sumV r.reverse/\sumV r.reverse<=9223372036854775808*(r.length:Int) by
  intro l hl
  have:=h l.reverse (by rwa [List.reverse_reverse])
  rwa [List.reverse_reverse,List.length_reverse] at this
 intro r
 induction r with
 | nil=>intro _;exact⟨by simp [sumV],by simp [sumV]⟩
 | cons v r ih =>
   intro h
   rw [List.reverse_cons] at h ⊢
   have ih:=ih (fun x hx=>h x (List.mem_append_left _ hx))
   obtain⟨h0,h1,_⟩:=h v (List.mem_append_right _ (List.mem_singleton.2 rfl))
   rw [qz7,List.length_cons]
   split
   · omega
   · omega
theorem sumV_hi {l:List VV} (h:∀ v∈l,v.ok) (hn:l.length<=4096) : -4096<=tHi (sumV l)/\tHi (sumV l)<=4096:=by
 have:=xq1 l h
 unfold tHi
 omega
structure OfW (w w4:World):Prop where
 eq:w4=(((w.alloc (.cells #[.int .i64 0,.bool false,.bool false,.int .i64 0,.string ⟨#[]⟩,.bool false,.int .i64 0,.string ⟨#[]⟩,.int .i64 0,.bool false] 109)).alloc (.cells #[.bool true,.int .i64 0,.string ⟨#[]⟩] 74)).alloc (.cells #[.int .i64 0,.bool false,.bool true,.int .i64 0,.string ⟨#[]⟩,.bool true,.int .i64 0,.string ⟨#[]⟩,.int .i64 0,.bool false] 109)).alloc (.cells #[.int .i64 0,.int .u64 0] 230)
 below:Below w.heap.size w w4
 st:StR (w.heap.size+2) (w.heap.size+3) 0 false jjR jjR 0 w4
 r:w4.heap[w.heap.size]?=some (.cells #[.int .i64 0,.bool false,.bool false,.int .i64 0,.string ⟨#[]⟩,.bool false,.int .i64 0,.string ⟨#[]⟩,.int .i64 0,.bool false] 109 (0,0))
theorem ofW (w:World):∃ w4,OfW w w4:=by
 obtain⟨w1,h1⟩:∃ w1,w1=w.alloc (.cells #[.int .i64 0,.bool false,.bool false,.int .i64 0,.string ⟨#[]⟩,.bool false,.int .i64 0,.string ⟨#[]⟩,.int .i64 0,.bool false] 109):=⟨_,rfl⟩
 obtain⟨w2,h2⟩:∃ w2,w2=w1.alloc (.cells #[.bool true,.int .i64 0,.string ⟨#[]⟩] 74):=⟨_,rfl⟩
 obtain⟨w3,h3⟩:∃ w3,w3=w2.alloc (.cells #[.int .i64 0,.bool false,.bool true,.int .i64 0,.string ⟨#[]⟩,.bool true,.int .i64 0,.string ⟨#[]⟩,.int .i64 0,.bool false] 109):=⟨_,rfl⟩
 obtain⟨w4,h4⟩:∃ w4,w4=w3.alloc (.cells #[.int .i64 0,.int .u64 0] 230):=⟨_,rfl⟩
 have z1:w1.heap.size=w.heap.size+1:=by rw [h1,zS]
 have z2:w2.heap.size=w.heap.size+2:=by rw [h2,zS,z1]
 have z3:w3.heap.size=w.heap.size+3:=by rw [h3,zS,z2]
 have g1:w1.heap[w.heap.size]?=some (.cells #[.int .i64 0,.bool false,.bool false,.int .i64 0,.string ⟨#[]⟩,.bool false,.int .i64 0,.string ⟨#[]⟩,.int .i64 0,.bool false] 109 (0,0)):=by rw [h1];exact heap_alloc_new w _
 have g3:=heap_alloc_new w2 (.cells #[.int .i64 0,.bool false,.bool true,.int .i64 0,.string ⟨#[]⟩,.bool true,.int .i64 0,.string ⟨#[]⟩,.int .i64 0,.bool false] 109)
 rw [<-h3,z2] at g3
 have g4:=heap_alloc_new w3 (.cells #[.int .i64 0,.int .u64 0] 230)
 rw [<-h4,z3] at g4
 have b1:Below w.heap.size w w1:=by rw [h1];exact (zR).alloc zN _
 have b2:Below w.heap.size w w2:=by rw [h2];exact b1.alloc b1.size _
 have b3:Below w.heap.size w w3:=by rw [h3];exact b2.alloc b2.size _
 have b4:Below w.heap.size w w4:=by rw [h4];exact b3.alloc b3.size _
 refine⟨w4,by rw [h4,h3,h2,h1],b4,⟨?_,g4⟩,?_⟩
 · rw [h4];exact (Below.heap_alloc w3 _ _ (by omega)).trans g3
 · rw [h4,Below.heap_alloc w3 _ _ (by omega),h3,Below.heap_alloc w2 _ _ (by omega),h2,Below.heap_alloc w1 _ _ (by omega)];exact g1
theorem sof_any (k:Int) (F:Nat->Prop) (A:Option Addr) (n c:Nat) (l:List VV) (w:World) (h:Sl tVV F w A n c l) (hn:n<=4096) :
 Calls Tryz.prog 112 #[.int .i64 k,.slice A n c] w fun e w'=>e=.returned (.agg #[.int .i64 (zz3 k l).count,.bool (zz3 k l).hasNull,.bool (zz3 k l).min.null,.int .i64 (zz3 k l).min.n,.string (zz3 k l).min.s,.bool (zz3 k l).max.null,.int .i64 (zz3 k l).max.n,.string (zz3 k l).max.s,.int .i64 (zz3 k l).sum,.bool (zz3 k l).over])/\Below w.heap.size w w':=by
 have HL:=zH h.len
 have HOK:=zH (sl_ok h)
 obtain⟨w4,h4⟩:=ofW w
 have HW:=zH h4
 have HH:=zH ((h.weaken (F':=fun b=>b<w.heap.size) fun b _ hl=>hl).below h4.below zN)
 have HN:=zH hn
 obtain⟨gs,hgs⟩:∃ gs,gs=w.heap.size+2:=⟨_,rfl⟩
 have hst0:=h4.st
 rw [show w.heap.size+3=(w.heap.size+2)+1 from rfl,<-hgs] at hst0
 obtain⟨gt,hgt⟩:∃ gt,gt=gs+1:=⟨_,rfl⟩
 rw [<-hgt] at hst0
 have HST0:=zH hst0
 have HG:=zH (show w.heap.size<gs/\w.heap.size<gt/\gs≠gt by omega)
 have HGS:=zH hgs;have HGT:=zH hgt
 clear h h4 hst0 hgs hgt
 go_enter Tryz.func112,Tryz.ntmps112
 go_upto_region 4 with fail
 rw [<-HW.out.eq,<-HGS.out,<-HGT.out]
 go_wp2_with fail
 go_loopw [18] (fun iv wr=>∃ i:Nat,i<=n/\iv=.int .i64 (i:Int)/\StR gs gt ((s0Of (l.take i)).count:Int) (s0Of (l.take i)).hasNull (s0Of (l.take i)).min (s0Of (l.take i)).max (sumV (l.take i)) wr/\wr.heap[w.heap.size]?=some (.cells #[.int .i64 0,.bool false,.bool false,.int .i64 0,.string ⟨#[]⟩,.bool false,.int .i64 0,.string ⟨#[]⟩,.int .i64 0,.bool false] 109 (0,0))/\Below w.heap.size w wr/\Hid (∀ b,b<w.heap.size->wr.heap[b]?=w4.heap[b]?)) (fun iv _=>n - (intOf iv).toNat)
 case atStart=>exact⟨0,Nat.zero_le _,rfl,HST0.out,HW.out.r,HW.out.below,zH fun _ _=>rfl⟩
 case round =>
  obtain⟨i,hi,rfl,hst,hr,hb,HK⟩:=hrel
  have HST:=zH hst;have HR:=zH hr;have HB:=zH hb
  have hsz4:w4.heap.size<=wr.heap.size:=by have h1:=zzc hst.t;have h2:=HW.out.eq;have h3:=HGT.out;have h5:=HGS.out;rw [h2];simp;omega
  have HZ4:=zH hsz4
  clear hst hr hb hsz4
  by_cases hlt:i<n
  · have hil:i<l.length:=by rw [<-HL.out];exact hlt
    obtain⟨b,o,cs,rfl,_,hbl,hrep,hc⟩:=(HH.out.keep HZ4.out (fun b hb _=>HK.out b hb)).at_ hil (by decide)
    obtain⟨v,hf⟩:∃ v,v=l[i]:=⟨_,rfl⟩
    obtain⟨rfl,hok⟩:=hrep
    rw [<-hf] at hc hok
    obtain⟨hv0,hv1,_⟩:=hok
    have HC:=zH (jjS (l.take i) v);have HSV:=zH (qz7 (l.take i) v)
    have HTK:=zH (show l.take (i+1)=l.take i++[v] by rw [zT hil,<-hf])
    have hcl:=qxX (l.take i)
    rw [List.length_take] at hcl
    have hc0:(0:Int)<=((s0Of (l.take i)).count:Int)/\((s0Of (l.take i)).count:Int)<=4096:=by have:=HN.out;omega
    have hSb:=sumV_hi (l:=l.take i) (fun x hx=>HOK.out x (List.mem_of_mem_take hx)) (by rw [List.length_take];have:=HN.out;omega)
    obtain⟨s,hs⟩:∃ s,s=s0Of (l.take i):=⟨_,rfl⟩
    obtain⟨S,hS⟩:∃ S,S=sumV (l.take i):=⟨_,rfl⟩
    rw [<-hs] at HC HST hc0;rw [<-hS] at HSV HST hSb
    have HC0:=zH hc0;have HSB:=zH hSb
    obtain⟨nu,x,t⟩:=v
    obtain⟨g0,g1,g2⟩:=yyj hc
    have g0:_=some (Value.bool nu):=g0
    have g1:_=some (Value.int .i64 x):=g1
    have g2:_=some (Value.string t):=g2
    have hi0:(0:Int)<=(i:Int):=by omega
    have hi1:(i:Int)<(n:Int):=by omega
    have HV:=zH (show -9223372036854775808<=x/\x<=9223372036854775807 from ⟨hv0,hv1⟩)
    clear hc hf hs hS hcl hc0 hSb hv0 hv1
    go_upto_region 8 with fail
    obtain⟨w5,hw5⟩:∃ w5,w5=wr.alloc (.cells #[.bool nu,.int .i64 x,.string t] 74):=⟨_,rfl⟩
    have hb5:Below wr.heap.size wr w5:=by rw [hw5];exact (zR).alloc zN _
    have hg5:w5.heap[wr.heap.size]?=some (.cells #[.bool nu,.int .i64 x,.string t] 74 (0,0)):=by rw [hw5];exact heap_alloc_new _ _
    rw [<-hw5]
    have HB5:=zH hb5
    have HST5:=zH (HST.out.call hb5)
    have HR5:=zH ((hb5.block _ (zzc HR.out)).trans HR.out)
    have HBB:=zH (HB.out.trans (hb5.mono HB.out.size))
    have hwl:=zzc HR.out
    have HWL:=zH hwl
    obtain⟨⟨b0,_⟩,⟨b1,_⟩,⟨b2,_⟩⟩:=vv9 hg5
    clear hw5 hb5 hg5 g0 g1 g2 hwl
    cases nu
    · have e1:=HC.out;have e2:=HSV.out
      rw [zq7 s rfl] at e1
      rw [if_neg (by simp)] at e2
      have HE1:=zH e1;have HE2:=zH e2
      clear e1 e2
      go_wp2_with (first
       | (go_at_call 175;refine (note_any gs gt _ _ _ _ S ⟨false,x,t⟩ w5 HST5.out HG.out.2.2 HC0.out HSB.out HV.out.1 HV.out.2).mono ?_;rintro e w6 ⟨rfl,hn6⟩;have HN6:=zH hn6;clear hn6)
       | fail)
      go_roundw
      case rel =>
       have hgl:=HG.out
       refine⟨i+1,by omega,by go_num,?_,(HN6.out.keep _ (zzc HR5.out) (by omega) (by omega)).trans HR5.out,HN6.out.below _ _ HBB.out (by omega) (by omega),zH fun b hb=>?_⟩
       · rw [HTK.out,HE1.out,HE2.out]
         have h6:=HN6.out.st
         have e:(((s.count+1:Nat)):Int)=(s.count:Int)+1:=by omega
         rw [e]
         exact h6
       · have h1:=HWL.out
         exact (HN6.out.keep b (by have:=HB5.out.size;omega) (by omega) (by omega)).trans ((HB5.out.block b (by omega)).trans (HK.out b hb))
      case measure=>simp [intOf];omega
    · have e1:=HC.out;have e2:=HSV.out
      rw [zq6 s rfl] at e1
      rw [if_pos rfl] at e2
      have HE1:=zH e1;have HE2:=zH e2
      have hs5:=HST5.out.s
      have q1:w5.cell? ⟨gs,1,none⟩=some (.bool s.hasNull):=by rw [zC hs5];rfl
      have f1:=zF hs5 1
      clear e1 e2 hs5
      go_wp2_with fail
      go_roundw
      case rel =>
       have hgl:=HG.out
       refine⟨i+1,by omega,by go_num,?_,(Below.heap_setCell _ _ _ _ (by show w.heap.size≠gs;omega)).trans HR5.out,zzi HBB.out (by omega) _,zH fun b hb=>?_⟩
       · rw [HTK.out,HE1.out,HE2.out]
         exact HST5.out.hn hgl.2.2
       · have h1:=HWL.out
         exact (Below.heap_setCell _ _ _ _ (by show b≠gs;omega)).trans ((HB5.out.block b (by omega)).trans (HK.out b hb))
      case measure=>simp [intOf];omega
  · obtain rfl:i=n:=by omega
    have e1:l.take i=l:=zL (by rw [<-HL.out];exact Nat.le_refl _)
    rw [e1] at HST
    obtain⟨sm,hsm⟩:∃ sm:Int,sm=if decide (1<=k/\k<=5)&&uux (sumV l) then sumV l else 0:=⟨_,rfl⟩
    obtain⟨ov,hov⟩:∃ ov:Bool,ov=(decide (1<=k/\k<=5) && !uux (sumV l)):=⟨_,rfl⟩
    have hsu:=xq0 k ((s0Of l).count:Int) (s0Of l).hasNull (s0Of l).min (s0Of l).max (sumV l)
    rw [<-hsm,<-hov] at hsu
    have HSM:=zH hsu;have HS1:=zH hsm;have HS2:=zH hov
    have hs:=HST.out.s;have ht:=HST.out.t
    obtain⟨⟨s0,_⟩,⟨s1,_⟩,⟨s2,_⟩,⟨s3,_⟩,⟨s4,_⟩,⟨s5,_⟩,⟨s6,_⟩,⟨s7,_⟩,⟨s8,_⟩,⟨s9,_⟩⟩:=yyt hs
    have t0:wr.cell? ⟨gt,0,none⟩=some (.int .i64 (tHi (sumV l))):=by rw [zC ht];rfl
    have t1:wr.cell? ⟨gt,1,none⟩=some (.int .u64 (tLo (sumV l):Nat)):=by rw [zC ht];rfl
    clear hs ht e1 hsu hsm hov
    go_wp2_with (first
     | (go_at_call 178;refine (HSM.out _).mono ?_;rintro e w6 ⟨rfl,hb6⟩;have HB6:=zH hb6;have HR6:=zH ((hb6.block _ (zzc HR.out)).trans HR.out);have hr6:=HR6.out;obtain⟨⟨r0,y0⟩,⟨r1,y1⟩,⟨r2,y2⟩,⟨r3,y3⟩,⟨r4,y4⟩,⟨r5,y5⟩,⟨r6,y6⟩,⟨r7,y7⟩,⟨r8,y8⟩,⟨r9,y9⟩⟩:=yyt hr6;clear hr6 hb6)
     | fail)
    exact bodyPost_ret (results_cell_row rfl _ _ w.heap.size 109 _ (0,0) _ rfl (xqZ HR6.out _ _ _ _ _ _ _ _ _ _) Tryz.underlying109 rfl (by kernel_rfl)) rfl ⟨by rw [HS1.out,HS2.out];rfl,zq5 (HB.out.trans (HB6.out.mono HB.out.size)) zN _ _ _ _ _ _ _ _ _ _⟩
end
section
open Go Go.RowKit
attribute [local go_sem ↓] Go.wp_at_zero Go.wp_at_succ
def qxe (w w':World):Prop:=∃ m,w'=w.drewN m
theorem qxe.refl (w:World):qxe w w:=⟨0,rfl⟩
theorem drewE2 {w w':World} (h:qxe w w') (n:Nat):qxe w (w'.drewN n):=by obtain⟨m,rfl⟩:=h;exact⟨m+n,World.drewN_drewN ..⟩
theorem qxe.below {w w':World} (h:qxe w w'):Below w.heap.size w w':=by obtain⟨m,rfl⟩:=h;exact xxn (zR) m
theorem Sl.drewE {α:Type} {T:Ty α} {F:Nat->Prop} {w w':World} {A:Option Addr} {n c:Nat} {xs:List α} (h:Sl T F w A n c xs) (hm:qxe w w'):Sl T F w' A n c xs:=by
 obtain⟨m,rfl⟩:=hm;exact h.drewN m
def zzE:Nat->List Fld->List Bool->Bool
 | _,[],[]=>true
 | i,f::r,b::s=>decide (f.tag=(i:Int)+1)&&(f.bytes==b)&&zzE (i+1) r s
 | _,_,_=>false
theorem vvt:∀ (i:Nat) (l:List Fld) (s:List Bool),l.length≠s.length->zzE i l s=false
 | _,[],[],h=>absurd rfl h
 | _,[],_::_,_=>rfl
 | _,_::_,[],_=>rfl
 | i,f::r,b::s,h=>by simp only [zzE];rw [vvt (i+1) r s (by simpa using h)];simp
theorem qzh (l:List Fld):(xxw l).isSome=zzE 0 l [false,false,true]:=by
 match l with
 | []=>rfl
 | [_]=>simp [xxw,zzE]
 | [_,_]=>simp [xxw,zzE]
 | _::_::_::_::_=>simp [xxw,zzE]
 | [f1,f2,f3] =>
   unfold xxw
   dsimp only
   by_cases hc:f1.tag=1/\f1.bytes=false/\f2.tag=2/\f2.bytes=false/\f3.tag=3/\f3.bytes=true
   · rw [if_pos hc]
     obtain⟨a1,a2,a3,a4,a5,a6⟩:=hc
     simp [zzE,a1,a2,a3,a4,a5,a6]
   · rw [if_neg hc]
     simp only [zzE,Option.isSome_none]
     symm
     rw [Bool.eq_false_iff]
     intro h
     simp only [Bool.and_eq_true,decide_eq_true_eq,beq_iff_eq] at h
     exact hc ⟨h.1.1,h.1.2,h.2.1.1,h.2.1.2,h.2.2.1.1,h.2.2.1.2⟩
theorem vvu (F F':Nat->Prop) (A A':Option Addr) (n c n' c':Nat) (l:List Fld) (s:List Bool) (w:World) (h:Sl tFld F w A n c l) (h':Sl vvx F' w A' n' c' s) :
 Calls Tryz.prog 135 #[.slice A n c,.slice A' n' c'] w fun e w'=>e=.returned (.bool (zzE 0 l s))/\qxe w w':=by
 have HL:=zH h.len;have HL':=zH h'.len
 have hmax:n<=9223372036854775807:=by have h2:=h.2.1;have h3:=h.2.2.1;unfold maxLen at h3;omega
 by_cases hnn:n=n'
 · obtain rfl:n'=n:=hnn.symm
   clear hnn
   go_enter Tryz.func135,Tryz.ntmps135
   go_wp2
   go_loopw [5] (fun i wr=>∃ k:Nat,k<=n'/\i=.int .i64 k/\qxe w wr/\zzE 0 l s=zzE k (l.drop k) (s.drop k)) (fun i _=>n' - (intOf i).toNat)
   case atStart=>exact⟨0,Nat.zero_le _,rfl,qxe.refl _,by simp⟩
   case round =>
    obtain⟨k,hk,rfl,hm,hsh⟩:=hrel
    have g:=h.drewE hm
    have g':=h'.drewE hm
    have HW:=zH hm;have HS:=zH hsh;clear hm hsh
    by_cases hlt:k<n'
    · have hkl:k<l.length:=by rw [<-HL.out];exact hlt
      have hkl':k<s.length:=by rw [<-HL'.out];exact hlt
      obtain⟨b,o,u,rfl,_,hbl,hu,hc⟩:=g.at_ hkl (by decide)
      obtain⟨b',o',u',rfl,_,hbl',hu',hc'⟩:=g'.at1 hkl' rfl
      obtain⟨f,hf⟩:∃ f,f=l[k]:=⟨_,rfl⟩
      obtain⟨t,ht⟩:∃ t,t=s[k]:=⟨_,rfl⟩
      have hdl:l.drop k=f::l.drop (k+1):=by rw [hf];exact List.drop_eq_getElem_cons hkl
      have hds:s.drop k=t::s.drop (k+1):=by rw [ht];exact List.drop_eq_getElem_cons hkl'
      have hstep:zzE 0 l s=(decide (f.tag=(k:Int)+1)&&(f.bytes==t)&&zzE (k+1) (l.drop (k+1)) (s.drop (k+1))):=by rw [HS.out,hdl,hds,zzE]
      rw [<-hf] at hu
      rw [<-ht] at hu'
      have HST:=zH hstep
      obtain⟨A3,n3,c3,rfl,_⟩:=hu
      obtain rfl:u'=.bool t:=by simpa [vvx] using hu'
      obtain⟨g0,g1,_,_⟩:=xxN hc
      clear g g' hc hu' hf ht hdl hds hstep
      have hi1:(0:Int)<=(k:Int):=by omega
      have hi2:(k:Int)<(n':Int):=by omega
      have hw1:IntKind.i64.wrap ((k:Int)+1)=(k:Int)+1:=by rw [IntKind.wrap_i64];omega
      by_cases h1:f.tag=(k:Int)+1
      · have h1b:(f.tag != (k:Int)+1)=false:=by simp [h1]
        by_cases h2:f.bytes=t
        · have h2b:(f.bytes==t)=true:=by simp [h2]
          have hfin:zzE 0 l s=zzE (k+1) (l.drop (k+1)) (s.drop (k+1)):=by rw [HST.out,h1,h2];simp
          have HFIN:=zH hfin
          clear h1 h2 hfin
          go_wp2_with fail
          go_quiet (fail)
          clear hw1
          go_wp2_with fail
          go_roundw
          case rel=>exact⟨k+1,by omega,by go_num,drewE2 HW.out _,HFIN.out⟩
          case measure=>simp [intOf];omega
        · have h2b:(f.bytes==t)=false:=by simp [h2]
          have hfin:zzE 0 l s=false:=by rw [HST.out];simp [h2]
          have HFIN:=zH hfin
          clear h1 h2 hfin
          go_wp2_with fail
          go_quiet (fail)
          clear hw1
          go_wp2_with fail
          go_ret
          exact⟨by rw [HFIN.out];rfl,drewE2 HW.out _⟩
      · have h1b:(f.tag != (k:Int)+1)=true:=by simp [h1]
        have hfin:zzE 0 l s=false:=by rw [HST.out];simp [h1]
        have HFIN:=zH hfin
        clear h1 hfin
        go_wp2_with fail
        go_quiet (fail)
        clear hw1
        go_wp2_with fail
        go_ret
        exact⟨by rw [HFIN.out];rfl,drewE2 HW.out _⟩
    · obtain rfl:k=n':=by omega
      have hfin:zzE 0 l s=true:=by
       rw [HS.out,List.drop_of_length_le (by rw [<-HL.out];exact Nat.le_refl _),List.drop_of_length_le (by rw [<-HL'.out];exact Nat.le_refl _)];rfl
      have HFIN:=zH hfin;clear hfin
      go_wp2_with fail
      go_ret
      exact⟨by rw [HFIN.out];rfl,HW.out⟩
 · have hfin:zzE 0 l s=false:=vvt 0 l s (by rw [<-HL.out,<-HL'.out];exact hnn)
   have HFIN:=zH hfin;clear hfin
   go_enter Tryz.func135,Tryz.ntmps135
   go_wp2
   go_ret
   exact⟨by rw [HFIN.out];rfl,qxe.refl _⟩
end
section
open Go Go.RowKit
attribute [local go_sem ↓] Go.wp_at_zero Go.wp_at_succ
def patS (s:List Bool):ByteArray:=⟨(s.map fun b=>cond b (98:UInt8) 110).toArray⟩
theorem patS_size (s:List Bool):(patS s).size=s.length:=by
 show (s.map fun b=>cond b (98:UInt8) 110).toArray.size=_
 rw [List.size_toArray,List.length_map]
theorem run_strix (s:List UInt8) (i:Nat) (hi:i<s.length) (v:Int) (hv:v=(i:Int)) (w:World):(Instr.index 9 (.string ⟨s.toArray⟩) (.int .i64 v)).run Tryz.prog w=.ok (.int .u8 ((s[i]).toNat:Int)) w:=by
 subst hv
 rw [run_index_string w 9 ⟨s.toArray⟩ .i64 i (by kernel_rfl)]
 have h:0<=(i:Int)/\(i:Int)<((⟨s.toArray⟩:ByteArray).size:Nat):=⟨by omega,by show (i:Int)<(s.toArray.size:Nat);rw [List.size_toArray];omega⟩
 rw [dif_pos h]
 have e2:(⟨s.toArray⟩:ByteArray)[(i:Int).toNat]'(by rw [Int.toNat_natCast];show i<s.toArray.size;rw [List.size_toArray];exact hi)=s[i]:=by
  simp only [Int.toNat_natCast]
  show s.toArray[i]'_=_
  simp
 rw [e2]
theorem run_pat (s:List Bool) (k:Nat) (hk:k<s.length) (q:World):(Instr.index 9 (.string (patS s)) (.int .i64 (k:Int))).run Tryz.prog q=.ok (.int .u8 (cond s[k] 98 110)) q:=by
 have h:=run_strix (s.map fun b=>cond b (98:UInt8) 110) k (by rw [List.length_map];exact hk) (k:Int) rfl q
 rw [List.getElem_map] at h
 refine h.trans ?_
 cases s[k] <;> rfl
def shq (s:List Bool) (b:List UInt8):Option (List Fld):=(zzo b).bind fun L=>if zzE 0 L s=true then some L else none
def ShqPost (s:List Bool) (l:List UInt8) (w:World) (e:Ending) (w':World):Prop :=
 ∃ A n c,e=.returned (.tuple #[.slice A n c,.bool (shq s l).isSome])/\Below w.heap.size w w'/\Sl tFld (fun b=>w.heap.size<=b) w' A n c ((shq s l).getD [])
theorem uuA:∀ (k i:Nat) (L:List Fld) (s:List Bool) (hL:k<L.length) (hs:k<s.length),(decide (L[k].tag=((i+k:Nat):Int)+1)&&(L[k].bytes==s[k]))=false->zzE i L s=false
 | 0,i,f::r,b::t,_,_,h=>by
   have h:(decide (f.tag=((i+0:Nat):Int)+1)&&(f.bytes==b))=false:=h
   rw [Nat.add_zero] at h
   rw [zzE,h,Bool.false_and]
 | k+1,i,f::r,b::t,hL,hs,h=>by
   have h:(decide ((r[k]'(by simpa using hL)).tag=((i+(k+1):Nat):Int)+1)&&((r[k]'(by simpa using hL)).bytes==t[k]'(by simpa using hs)))=false:=h
   rw [zzE,uuA k (i+1) r t (by simpa using hL) (by simpa using hs) (by rw [show i+1+k=i+(k+1) by omega];exact h),Bool.and_false]
theorem kqH:∀ (i:Nat) (L:List Fld) (s:List Bool),L.length=s.length->(∀ k (hL:k<L.length) (hs:k<s.length),(decide (L[k].tag=((i+k:Nat):Int)+1)&&(L[k].bytes==s[k]))=true)->zzE i L s=true
 | _,[],[],_,_=>rfl
 | i,f::r,b::t,hl,h=>by
   have h0:(decide (f.tag=((i+0:Nat):Int)+1)&&(f.bytes==b))=true:=h 0 (by simp) (by simp)
   rw [Nat.add_zero] at h0
   rw [zzE,h0,Bool.true_and]
   refine kqH (i+1) r t (by simpa using hl) fun k hL hs=>?_
   have:=h (k+1) (by simpa using hL) (by simpa using hs)
   rw [show i+1+k=i+(k+1) by omega]
   exact this
theorem kqI (s:List Bool) (p:ByteArray) (hp:p=patS s) (hs:s.length<=100) (F:Nat->Prop) (A:Option Addr) (n c:Nat) (l:List UInt8) (w:World) (h:Bs F w A n c l) (hn:n<=4294967296) :
 Calls Tryz.prog 185 #[.slice A n c,.string p] w (ShqPost s l w):=by
 have hpz:p.size=s.length:=by rw [hp,patS_size]
 have HIX:Hid (∀ k (hk:k<s.length) (q:World),(Instr.index 9 (.string p) (.int .i64 (k:Int))).run Tryz.prog q=.ok (.int .u8 (cond s[k] 98 110)) q):=zH (by rw [hp];exact run_pat s)
 have HPZ:=zH hpz;have HS100:=zH hs
 clear hp hpz hs
 go_enter Tryz.func185,Tryz.ntmps185
 go_wp2_with (go_at_call 131;refine (zqs F A n c l _ h hn).mono ?_)
 rintro e w1 ⟨A1,n1,c1,rfl,hb1,hs1⟩
 obtain⟨ec,hec⟩:∃ ec,ec=okc (zzo l).isSome 2:=⟨_,rfl⟩
 rw [<-hec]
 have HB1:=zH hb1;clear hb1
 cases hT:zzo l with
 | none =>
   obtain rfl:ec=2:=by rw [hec,hT];rfl
   have HN:=zH (show shq s l=none by simp [shq,hT])
   clear hs1 hT hec
   go_wp2
   go_ret2
   exact⟨none,0,0,by rw [HN.out];rfl,HB1.out,by rw [HN.out];exact Sl.nil_ _ _ _⟩
 | some L =>
   obtain rfl:ec=0:=by rw [hec,hT];rfl
   rw [hT] at hs1
   have hS:Sl tFld (fun b=>w.heap.size<=b) w1 A1 n1 c1 L:=hs1
   have HL:=zH hS.len
   have HSH:=zH (show shq s l=if zzE 0 L s=true then some L else none by simp [shq,hT])
   have HSL:=zH hS
   clear hs1 hT hec hS
   by_cases h3:L.length=s.length
   · have HLS:=zH h3
     have hpe:((n1:Int) != (p.size:Int))=false:=by rw [bne_eq_false_iff_eq];have h1:=HL.out;have h2:=HPZ.out;omega
     have HN1:Hid (n1<=100):=zH (by have h1:=HL.out;have h2:=HS100.out;omega)
     clear h3
     go_wp2_with fail
     go_loopw [26] (fun i wr=>∃ (k:Nat),k<=n1/\i=.int .i64 k/\Below w1.heap.size w1 wr/\∀ j (hj:j<L.length) (hs:j<s.length),j<k->(decide (L[j].tag=((0+j:Nat):Int)+1)&&(L[j].bytes==s[j]))=true)
      (fun i _=>n1 - (intOf i).toNat)
     case atStart=>exact⟨0,by omega,rfl,zR,by intro j hj _ h;omega⟩
     case round =>
      obtain⟨k,hk,rfl,hb,hok⟩:=hrel
      have HOK:=zH hok;have HB:=zH hb
      clear hok hb
      by_cases hlt:k<n1
      · have hkl:k<L.length:=by rw [<-HL.out];exact hlt
        have hks:k<s.length:=by rw [<-HLS.out];exact hkl
        obtain⟨b,o,cs,rfl,_,hbl,hrep,hc⟩:=(HSL.out.below HB.out zN).at_ hkl (by decide)
        obtain⟨f,hf⟩:∃ f,f=L[k]:=⟨_,rfl⟩
        obtain⟨t,ht⟩:∃ t,t=s[k]:=⟨_,rfl⟩
        have hix:=HIX.out k hks
        rw [<-hf] at hrep
        rw [<-ht] at hix
        have HF:=zH hf;have HT:=zH ht
        clear hf ht
        obtain⟨A3,n3,c3,rfl,-,-,-⟩:=hrep
        obtain⟨g0,g1,g2,g3⟩:=xxN hc
        clear hc
        obtain⟨tag,isb,fn,fb⟩:=f
        dsimp only at *
        have hk100:(k:Int)<=100:=by have:=HN1.out;omega
        have hw1:IntKind.i64.wrap ((k:Int)+1)=(k:Int)+1:=by rw [IntKind.wrap_i64];omega
        have hi0:(0:Int)<=(k:Int):=by omega
        have hi1:(k:Int)<(n1:Int):=by omega
        have HBX:=zH (HB1.out.trans (HB.out.mono HB1.out.size))
        have HKL:=zH hkl;have HKS:=zH hks
        by_cases htag:tag=(k:Int)+1
        · have htag2:(tag != (k:Int)+1)=false:=by simp [htag]
          by_cases hib:isb=t
          · have HK:Hid ((decide ((L[k]'hkl).tag=((0+k:Nat):Int)+1)&&((L[k]'hkl).bytes==(s[k]'hks)))=true):=zH (by rw [<-HF.out,<-HT.out];simp [htag,hib])
            subst hib
            clear htag HF
            cases isb
            all_goals
             go_wp2_with fail
             go_quiet (fail)
             go_wp2_with fail
             go_roundw
             case rel =>
              refine⟨k+1,by omega,by go_num,((HB.out.alloc HB.out.size _).trans ⟨rfl,rfl,rfl,Nat.le_refl _,fun _ _=>rfl⟩),fun j hj hs hjk=>?_⟩
              rcases Nat.lt_or_eq_of_le (Nat.le_of_lt_succ hjk) with h | h
              · exact HOK.out j hj hs h
              · subst h;exact HK.out
             case measure=>simp [intOf];omega
          · have HN:=zH (show shq s l=none by
             rw [HSH.out,if_neg]
             rw [uuA k 0 L s hkl hks (by rw [<-HF.out,<-HT.out];simp [hib])];simp)
            clear htag HF
            cases isb <;> cases t
            all_goals
             first
             | (exact absurd rfl hib)
             | (clear hib
                go_wp2_with fail
                go_quiet (fail)
                go_wp2_with fail
                go_ret2
                exact⟨none,0,0,by rw [HN.out];rfl,((HBX.out.alloc HBX.out.size _).trans ⟨rfl,rfl,rfl,Nat.le_refl _,fun _ _=>rfl⟩),by rw [HN.out];exact Sl.nil_ _ _ _⟩)
        · have HN:=zH (show shq s l=none by
           rw [HSH.out,if_neg]
           rw [uuA k 0 L s hkl hks (by rw [<-HF.out,Nat.zero_add];simp [htag])];simp)
          have htag2:(tag != (k:Int)+1)=true:=by simp [htag]
          clear htag HF
          go_wp2_with fail
          go_quiet (fail)
          go_wp2_with fail
          go_ret2
          exact⟨none,0,0,by rw [HN.out];rfl,((HBX.out.alloc HBX.out.size _).trans ⟨rfl,rfl,rfl,Nat.le_refl _,fun _ _=>rfl⟩),by rw [HN.out];exact Sl.nil_ _ _ _⟩
      · obtain rfl:k=n1:=by omega
        have HN:=zH (show shq s l=some L by
         rw [HSH.out,if_pos]
         exact kqH 0 L s HLS.out fun j hj hs=>HOK.out j hj hs (by rw [HL.out];exact hj))
        go_wp2
        go_ret2
        exact⟨A1,k,c1,by rw [HN.out];rfl,HB1.out.trans (HB.out.mono HB1.out.size),by rw [HN.out];exact HSL.out.below HB.out zN⟩
   · have HN:=zH (show shq s l=none by rw [HSH.out,vvt 0 L s h3];simp)
     have h3':((n1:Int) != (p.size:Int))=true:=by rw [bne_iff_ne];have h1:=HL.out;have h2:=HPZ.out;omega
     clear h3
     go_wp2
     go_ret2
     exact⟨none,0,0,by rw [HN.out];rfl,HB1.out,by rw [HN.out];exact Sl.nil_ _ _ _⟩
end
end Go.Proofs.YtpmglcachffojaaGreatDoor
