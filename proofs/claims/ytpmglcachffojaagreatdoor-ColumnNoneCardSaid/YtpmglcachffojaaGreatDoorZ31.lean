/- A part of what None leans on. -/
import Derived.Test.YtpmglcachffojaaGreatDoorZ29
set_option maxRecDepth 100000
set_option maxHeartbeats 16000000
namespace Go.Proofs.YtpmglcachffojaaGreatDoor
section
open Go Go.RowKit
def colC (k:Int) (l:List VV):Int×Int×List (Int×List UInt8) :=
 if 1<=k/\k<=5 then (1,0,[(1,zzI l),(2,xxW k (l.filter zzp))])
 else ((txC ((l.filter zzp).map (·.s))).1,(txC ((l.filter zzp).map (·.s))).2.1,(1,zzI l)::(txC ((l.filter zzp).map (·.s))).2.2)
def colE (k:Int) (l:List VV):Int:=if 1<=k/\k<=7 then (if l.all (mayV k) then 0 else 21) else 1
def colR (k:Int) (l:List VV):Int×Int×Int×List (Int×List UInt8):=if colE k l=0 then ((l.length:Int),colC k l) else (0,0,0,[])
def xxe (k:Int) (l:List VV) (w:World) (e:Ending) (w':World):Prop :=
 ∃ A n c,e=.returned (.tuple #[.agg #[.int .i64 (colR k l).1,.int .i64 (colR k l).2.1,.int .i64 (colR k l).2.2.1,.slice A n c],.int .i64 (colE k l)])/\Sl zzo (fun b=>w.heap.size<=b) w' A n c (colR k l).2.2.2/\Below w.heap.size w w'
structure ColW (k:Int) (w wc:World):Prop where
 eq:wc=(w.alloc (.cells #[.int .i64 k] 3)).alloc (.cells #[.int .i64 0,.int .i64 0,.int .i64 0,.slice none 0 0] 27)
 below:Below w.heap.size w wc
 size:wc.heap.size=w.heap.size+2
 box:wc.cell? ⟨w.heap.size,0,none⟩=some (.int .i64 k)
 col:wc.heap[w.heap.size+1]?=some (.cells #[.int .i64 0,.int .i64 0,.int .i64 0,.slice none 0 0] 27 (0,0))
theorem colW (k:Int) (w:World):∃ wc,ColW k w wc:=by
 refine⟨_,rfl,?_,by simp,?_,?_⟩
 · have hb1:Below w.heap.size w (w.alloc (.cells #[.int .i64 k] 3)):=(zR).alloc zN _
   exact hb1.alloc hb1.size _
 · have hgk:((w.alloc (.cells #[.int .i64 k] 3)).alloc (.cells #[.int .i64 0,.int .i64 0,.int .i64 0,.slice none 0 0] 27)).heap[w.heap.size]?=some (.cells #[.int .i64 k] 3 (0,0)):=(Below.heap_alloc _ _ _ (by simp)).trans (heap_alloc_new w _)
   rw [zC hgk];rfl
 · have:=heap_alloc_new (w.alloc (.cells #[.int .i64 k] 3)) (.cells #[.int .i64 0,.int .i64 0,.int .i64 0,.slice none 0 0] 27)
   rwa [zS] at this
theorem qxX (k:Int) (F:Nat->Prop) (A:Option Addr) (n c:Nat) (l:List VV) (w:World) (h:Sl tVV F w A n c l) (hn:n<=4096) (hT:Lib.Utf8Tabs 0 1 w) (hno:¬ colE k l=0) :
 Calls Tryz.prog 12 #[.int .i64 k,.slice A n c] w (xxe k l w):=by
 have hn1:¬ (n:Int) > 4096:=by omega
 have hn2:¬ (4096:Int)<n:=by omega
 obtain⟨wc,hwc⟩:=colW k w
 have HWC:=zH hwc
 have HH:=zH (h.below hwc.below zN);have HT:=zH (zzh hT hwc.below)
 have HNO:=zH hno
 have HR:=zH (show colR k l=(0,0,0,[]) from if_neg hno)
 have hcol:=hwc.col
 have hbox:=hwc.box
 by_cases hk:1<=k/\k<=7
 · have HP:=zH (show decide (1<=k/\k<=7)=true from decide_eq_true hk)
   have hq:l.all (mayV k)=false:=by
    cases hq:l.all (mayV k) with
    | false=>rfl
    | true=>exact absurd (by unfold colE;rw [if_pos hk,hq];rfl) hno
   have HE:=zH (show colE k l=21 by unfold colE;rw [if_pos hk,hq];rfl)
   have HQ:=zH (show (!l.all (mayV k))=true by rw [hq];rfl)
   clear h hn hT hwc hno hq hk hcol
   go_enter Tryz.func12,Tryz.ntmps12
   go_upto_region 1 with fail
   rw [<-HWC.out.eq]
   go_wp2_with (first
    | (go_at_call 38;refine (yyw _ _).mono ?_;rintro e w1 ⟨rfl,rfl⟩;rw [HP.out])
    | (go_at_call 39;refine (xxX k w.heap.size F A n c l _ HH.out hbox HT.out).mono ?_;rintro e w1 ⟨rfl,hb1⟩;rw [HQ.out];have hg1:=(hb1.block _ (zzc HWC.out.col)).trans HWC.out.col;obtain⟨⟨z0,y0⟩,⟨z1,y1⟩,⟨z2,y2⟩,⟨z3,y3⟩⟩:=zzj hg1;have HG1:=zH hg1;have HB1:=zH (HWC.out.below.trans (hb1.mono HWC.out.below.size));clear hg1 hb1)
    | fail)
   refine bodyPost_ret (zzq rfl _ _ (w.heap.size+1) 27 #[.int .i64 0,.int .i64 0,.int .i64 0,.slice none 0 0] (0,0) _ rfl (jjH HG1.out _ _ _ _) Tryz.underlying27 rfl (by kernel_rfl)) rfl ?_
   refine⟨none,0,0,by rw [HR.out,HE.out];rfl,by rw [HR.out];exact Sl.nil_ _ _ _,yyc HB1.out (by omega) _ _ _ _⟩
 · have HP:=zH (show decide (1<=k/\k<=7)=false from decide_eq_false hk)
   have HE:=zH (show colE k l=1 from if_neg hk)
   have hcol2:wc.heap[w.heap.size+1]?=some (.cells #[.int .i64 0,.int .i64 0,.int .i64 0,.slice none 0 0] 27 (0,0)):=hcol
   obtain⟨⟨z0,y0⟩,⟨z1,y1⟩,⟨z2,y2⟩,⟨z3,y3⟩⟩:=zzj hcol2
   clear h hn hT hwc hno hk hcol hcol2
   go_enter Tryz.func12,Tryz.ntmps12
   go_upto_region 1 with fail
   rw [<-HWC.out.eq]
   go_wp2_with (first
    | (go_at_call 38;refine (yyw _ _).mono ?_;rintro e w1 ⟨rfl,rfl⟩;rw [HP.out])
    | fail)
   refine bodyPost_ret (zzq rfl _ _ (w.heap.size+1) 27 #[.int .i64 0,.int .i64 0,.int .i64 0,.slice none 0 0] (0,0) _ rfl (jjH HWC.out.col _ _ _ _) Tryz.underlying27 rfl (by kernel_rfl)) rfl ?_
   refine⟨none,0,0,by rw [HR.out,HE.out];rfl,by rw [HR.out];exact Sl.nil_ _ _ _,yyc HWC.out.below (by omega) _ _ _ _⟩
end
end Go.Proofs.YtpmglcachffojaaGreatDoor
