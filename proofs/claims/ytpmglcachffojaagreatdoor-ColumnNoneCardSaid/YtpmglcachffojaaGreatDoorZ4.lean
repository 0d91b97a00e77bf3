/- A part of what None leans on. -/
import Derived.Test.YtpmglcachffojaaGreatDoorZ1
import Derived.Test.YtpmglcachffojaaGreatDoorZS1
import Derived.Deep.CutRange
set_option maxRecDepth 100000
set_option maxHeartbeats 16000000
namespace Go.Proofs.YtpmglcachffojaaGreatDoor
section
open Go Go.RowKit
theorem zzt {W w1:World} {a:Addr} {v:Value} (hb:Below W.heap.size W w1) (h:W.cell? a=some v):w1.cell? a=some v:=(hb.cell (World.block_lt_of_cell? W a h)).trans h
theorem zzc {w:World} {b:Nat} {o:Obj} (h:w.heap[b]?=some o):b<w.heap.size:=(Array.getElem?_eq_some_iff.1 h).1
theorem xxJ {a b:Int} (h:a=b):(a==b)=true:=by simpa using h
theorem zzA {a b:Int} (h:¬ a=b):(a==b)=false:=by simpa using h
theorem zza {w:World} {g j:Nat} {cs cs':Array Value} {t:TypeId} {fr:Nat×Nat} {v:Value} (h:w.heap[g]?=some (.cells cs t fr)) (hc:cs.setIfInBounds j v=cs'):(w.setCell ⟨g,j,none⟩ v).heap[g]?=some (.cells cs' t fr):=by
 subst hc
 simp [World.setCell,Array.getElem?_modify,h]
theorem zzn {B b j:Nat} {a w:World} (h:Below B a w) (hb:B<=b) (v:Value):Below B a (w.setCell ⟨b,j,none⟩ v):=h.setCell (p:=⟨b,j,none⟩) hb v
theorem vv3 {P:Program} {fn:Func} {p:Tmp} {ty:TypeId} (h:fn.results=#[.cell p ty]) (tmps:Array Value) (w:World) (g:Nat) (t:TypeId) (cs:Array Value) (fr:Nat×Nat) (d:TypeDesc)
 (hp:tmps.getD p undef=.pointer (some ⟨g,0,none⟩)) (hg:w.heap[g]?=some (.cells cs t fr))
 (hu:P.underlying ty=some d) (hd:(match d with | .struct _ | .array _ _=>true | _=>false)=true) (hi:(P.info? ty).map (·.size)=some cs.size) :
 (results fn tmps).run P w=.ok (.agg cs) w:=by
 have hp':tmps[p]?.getD undef=.pointer (some ⟨g,0,none⟩):=by simpa using hp
 simp [results,h,hp',asAddr,run_loadVar_row w g t ty cs fr d hg hu hd hi]
theorem zz2 (w:World):Calls Tryz.prog 293 #[] w fun e w'=>e=.returned (.agg #[.int .i64 26,.int .i64 28,.int .i64 30,.int .i64 32,.int .i64 40,.int .i64 48,.int .i64 56,.int .i64 64])/\Below w.heap.size w w':=by
 go_enter Tryz.func293,Tryz.ntmps293
 go_wp2_with fail
 refine bodyPost_ret (vv3 rfl _ _ w.heap.size 334 #[.int .i64 26,.int .i64 28,.int .i64 30,.int .i64 32,.int .i64 40,.int .i64 48,.int .i64 56,.int .i64 64] (0,0) _ rfl (heap_alloc_new w _) Tryz.underlying334 rfl (by kernel_rfl)) rfl ?_
 exact⟨rfl,(zR).alloc zN _⟩
theorem kqR (c:Int) (h0:0<=c) (h1:c<=31) (w:World):Calls Tryz.prog 250 #[.int .i64 c] w fun e w'=>e=.returned (.int .i64 (wOf c))/\Below w.heap.size w w':=by
 by_cases h:c<24
 · have e1:=zH (show wOf c=c+1 by unfold wOf;rw [if_neg (by omega),if_pos h])
   go_enter Tryz.func250,Tryz.ntmps250
   go_wp2_with (first
    | (go_at_call 293;refine (zz2 _).mono ?_;rintro e w1 ⟨rfl,hb1⟩;have HB1:=zH (hb1.alloc hb1.size (.cells #[.int .i64 26,.int .i64 28,.int .i64 30,.int .i64 32,.int .i64 40,.int .i64 48,.int .i64 56,.int .i64 64] 334));clear hb1)
    | fail)
   go_ret
   exact⟨by rw [e1.out];rfl,HB1.out⟩
 · obtain rfl | rfl | rfl | rfl | rfl | rfl | rfl | rfl:c=24∨c=25∨c=26∨c=27∨c=28∨c=29∨c=30∨c=31:=by omega
   all_goals
    clear h0 h1 h
    go_enter Tryz.func250,Tryz.ntmps250
    go_wp2_with (first
     | (go_at_call 293;refine (zz2 _).mono ?_;rintro e w1 ⟨rfl,hb1⟩;have HB1:=zH (hb1.alloc hb1.size (.cells #[.int .i64 26,.int .i64 28,.int .i64 30,.int .i64 32,.int .i64 40,.int .i64 48,.int .i64 56,.int .i64 64] 334));clear hb1)
     | fail)
    go_ret
    exact⟨rfl,HB1.out⟩
theorem xqc (zs:List Int) (x:Int):∀ i,Lib.idxFrom zs x i = -1∨(0<=Lib.idxFrom zs x i):=by
 induction zs with
 | nil=>intro i;exact .inl rfl
 | cons z r ih =>
   intro i
   unfold Lib.idxFrom
   split
   · exact .inr (by omega)
   · exact ih (i+1)
def xxK:List Int:=[26,28,30,32,40,48,56,64]
theorem jjn (x:Int):Lib.idxOf xxK x=if x=26 then 0 else if x=28 then 1 else if x=30 then 2 else if x=32 then 3 else if x=40 then 4 else if x=48 then 5 else if x=56 then 6 else if x=64 then 7 else -1:=by
 unfold Lib.idxOf xxK
 simp only [Lib.idxFrom,eq_comm (b:=x)]
 rfl
theorem kqS {x:Int} (h:¬ (1<=x/\x<=24)):zzZ x=if Lib.idxOf xxK x<0 then -1 else 24+Lib.idxOf xxK x:=by
 rw [jjn]
 unfold zzZ
 rw [if_neg h]
 (repeat' split) <;> first | rfl | omega
theorem yyA (w:World):∀ j,j<xxK.length->(w.alloc (.cells #[.int .i64 26,.int .i64 28,.int .i64 30,.int .i64 32,.int .i64 40,.int .i64 48,.int .i64 56,.int .i64 64] 334)).cell? ⟨w.heap.size,0+j,none⟩=some (.int .i64 (xxK.getD j 0)):=fun j hj=>by
 rw [zC (heap_alloc_new w _)]
 have hj8:j<8:=hj
 obtain rfl | rfl | rfl | rfl | rfl | rfl | rfl | rfl:j=0∨j=1∨j=2∨j=3∨j=4∨j=5∨j=6∨j=7:=by omega
 all_goals rfl
theorem zzN (x:Int) (w:World):Calls Tryz.prog 287 #[.int .i64 x] w fun e w'=>e=.returned (.int .i64 (zzZ x))/\Below w.heap.size w w':=by
 by_cases h:1<=x/\x<=24
 · have e1:=zH (show zzZ x=x - 1 by unfold zzZ;rw [if_pos h])
   obtain⟨h1,h2⟩:=h
   go_enter Tryz.func287,Tryz.ntmps287
   go_wp2_with fail
   go_ret
   exact⟨by rw [e1.out];rfl,zR⟩
 · obtain⟨i,hi⟩:∃ i,Lib.idxOf xxK x=i:=⟨_,rfl⟩
   have e1:=kqS h
   have hb:=xqc xxK x 0
   have hb2:i<=7:=by rw [<-hi,jjn];(repeat' split) <;> omega
   rw [show Lib.idxFrom xxK x 0=i from hi] at hb
   rw [hi] at e1
   have HI:=zH hi
   have HE:=zH e1
   clear e1 hi
   rcases hb with hb | hb
   · subst hb
     have e2:=zH (show zzZ x = -1 by rw [HE.out];rfl)
     by_cases hx1:1<=x
     · have hx2:¬ x<=24:=by omega
       clear h
       go_enter Tryz.func287,Tryz.ntmps287
       go_wp2_with (first
        | (go_at_call 293;refine (zz2 _).mono ?_;rintro e w1 ⟨rfl,hb1⟩;have HB1:=zH (hb1.alloc hb1.size (.cells #[.int .i64 26,.int .i64 28,.int .i64 30,.int .i64 32,.int .i64 40,.int .i64 48,.int .i64 56,.int .i64 64] 334));have HC1:=zH (yyA w1);clear hb1)
        | (go_at_call 319;refine (Tryz.slices_Index_int w1.heap.size 0 8 8 xxK x _ (by decide) (by decide) HC1.out).mono ?_;rintro e w2 ⟨rfl,rfl⟩;rw [show Lib.idxOf (xxK.take 8) x=_ from HI.out])
        | fail)
       go_ret
       exact⟨by rw [e2.out];rfl,HB1.out⟩
     · clear h
       go_enter Tryz.func287,Tryz.ntmps287
       go_wp2_with (first
        | (go_at_call 293;refine (zz2 _).mono ?_;rintro e w1 ⟨rfl,hb1⟩;have HB1:=zH (hb1.alloc hb1.size (.cells #[.int .i64 26,.int .i64 28,.int .i64 30,.int .i64 32,.int .i64 40,.int .i64 48,.int .i64 56,.int .i64 64] 334));have HC1:=zH (yyA w1);clear hb1)
        | (go_at_call 319;refine (Tryz.slices_Index_int w1.heap.size 0 8 8 xxK x _ (by decide) (by decide) HC1.out).mono ?_;rintro e w2 ⟨rfl,rfl⟩;rw [show Lib.idxOf (xxK.take 8) x=_ from HI.out])
        | fail)
       go_ret
       exact⟨by rw [e2.out];rfl,HB1.out⟩
   · have e2:=zH (show zzZ x=24+i by rw [HE.out,if_neg (by omega)])
     by_cases hx1:1<=x
     · have hx2:¬ x<=24:=by omega
       clear h
       go_enter Tryz.func287,Tryz.ntmps287
       go_wp2_with (first
        | (go_at_call 293;refine (zz2 _).mono ?_;rintro e w1 ⟨rfl,hb1⟩;have HB1:=zH (hb1.alloc hb1.size (.cells #[.int .i64 26,.int .i64 28,.int .i64 30,.int .i64 32,.int .i64 40,.int .i64 48,.int .i64 56,.int .i64 64] 334));have HC1:=zH (yyA w1);clear hb1)
        | (go_at_call 319;refine (Tryz.slices_Index_int w1.heap.size 0 8 8 xxK x _ (by decide) (by decide) HC1.out).mono ?_;rintro e w2 ⟨rfl,rfl⟩;rw [show Lib.idxOf (xxK.take 8) x=_ from HI.out])
        | fail)
       go_ret
       exact⟨by rw [e2.out];rfl,HB1.out⟩
     · clear h
       go_enter Tryz.func287,Tryz.ntmps287
       go_wp2_with (first
        | (go_at_call 293;refine (zz2 _).mono ?_;rintro e w1 ⟨rfl,hb1⟩;have HB1:=zH (hb1.alloc hb1.size (.cells #[.int .i64 26,.int .i64 28,.int .i64 30,.int .i64 32,.int .i64 40,.int .i64 48,.int .i64 56,.int .i64 64] 334));have HC1:=zH (yyA w1);clear hb1)
        | (go_at_call 319;refine (Tryz.slices_Index_int w1.heap.size 0 8 8 xxK x _ (by decide) (by decide) HC1.out).mono ?_;rintro e w2 ⟨rfl,rfl⟩;rw [show Lib.idxOf (xxK.take 8) x=_ from HI.out])
        | fail)
       go_ret
       exact⟨by rw [e2.out];rfl,HB1.out⟩
theorem xqd (w:World):(Instr.index 334 (.agg #[.int .i64 26,.int .i64 28,.int .i64 30,.int .i64 32,.int .i64 40,.int .i64 48,.int .i64 56,.int .i64 64]) (.int .i64 0)).run Tryz.prog w=.ok (.int .i64 26) w:=by first | kernel_rfl | rfl
theorem xqe (w:World):(Instr.index 334 (.agg #[.int .i64 26,.int .i64 28,.int .i64 30,.int .i64 32,.int .i64 40,.int .i64 48,.int .i64 56,.int .i64 64]) (.int .i64 1)).run Tryz.prog w=.ok (.int .i64 28) w:=by first | kernel_rfl | rfl
theorem xqf (w:World):(Instr.index 334 (.agg #[.int .i64 26,.int .i64 28,.int .i64 30,.int .i64 32,.int .i64 40,.int .i64 48,.int .i64 56,.int .i64 64]) (.int .i64 2)).run Tryz.prog w=.ok (.int .i64 30) w:=by first | kernel_rfl | rfl
theorem xqg (w:World):(Instr.index 334 (.agg #[.int .i64 26,.int .i64 28,.int .i64 30,.int .i64 32,.int .i64 40,.int .i64 48,.int .i64 56,.int .i64 64]) (.int .i64 3)).run Tryz.prog w=.ok (.int .i64 32) w:=by first | kernel_rfl | rfl
theorem xqh (w:World):(Instr.index 334 (.agg #[.int .i64 26,.int .i64 28,.int .i64 30,.int .i64 32,.int .i64 40,.int .i64 48,.int .i64 56,.int .i64 64]) (.int .i64 4)).run Tryz.prog w=.ok (.int .i64 40) w:=by first | kernel_rfl | rfl
theorem xqi (w:World):(Instr.index 334 (.agg #[.int .i64 26,.int .i64 28,.int .i64 30,.int .i64 32,.int .i64 40,.int .i64 48,.int .i64 56,.int .i64 64]) (.int .i64 5)).run Tryz.prog w=.ok (.int .i64 48) w:=by first | kernel_rfl | rfl
theorem xqj (w:World):(Instr.index 334 (.agg #[.int .i64 26,.int .i64 28,.int .i64 30,.int .i64 32,.int .i64 40,.int .i64 48,.int .i64 56,.int .i64 64]) (.int .i64 6)).run Tryz.prog w=.ok (.int .i64 56) w:=by first | kernel_rfl | rfl
theorem xqk (w:World):(Instr.index 334 (.agg #[.int .i64 26,.int .i64 28,.int .i64 30,.int .i64 32,.int .i64 40,.int .i64 48,.int .i64 56,.int .i64 64]) (.int .i64 7)).run Tryz.prog w=.ok (.int .i64 64) w:=by first | kernel_rfl | rfl
theorem yyB (b:Nat) (hb:b<=64) (w:World):Calls Tryz.prog 283 #[.int .i64 (b:Int)] w fun e w'=>e=.returned (.int .i64 ((zzm b:Nat):Int))/\Below w.heap.size w w':=by
 have HC:=zH (vv0 b)
 by_cases h:b<=24
 · have e1:=zH (show zzv (b:Int)=max 1 (b:Int) by unfold zzv;rw [if_pos (by omega)])
   go_enter Tryz.func283,Tryz.ntmps283
   go_wp2_with fail
   go_ret
   exact⟨by rw [HC.out,e1.out];rfl,zR⟩
 · have s0:¬ (b:Int)<=24:=by omega
   go_enter Tryz.func283,Tryz.ntmps283
   go_wp2_with (first
    | (go_at_call 293;refine (zz2 _).mono ?_;rintro e w1 ⟨rfl,hb1⟩;have HB1:=zH hb1;clear hb1)
    | fail)
   go_loopw [10] (fun kv wr=>∃ k:Nat,k<=8/\kv=.int .i64 (k:Int)/\(∀ j,j<k->xxK.getD j 0<(b:Int))/\wr=w1)
    (fun kv _=>8 - (intOf kv).toNat)
   case atStart=>exact⟨0,by omega,rfl,fun j hj=>by omega,rfl⟩
   case round =>
    obtain⟨k,hk,rfl,hj,rfl⟩:=hrel
    have HJ:=zH hj
    clear hj
    obtain rfl | rfl | rfl | rfl | rfl | rfl | rfl | rfl | rfl:k=0∨k=1∨k=2∨k=3∨k=4∨k=5∨k=6∨k=7∨k=8:=by omega
    · have hix:=xqd
      by_cases hc:(b:Int)<=26
      · have e1:=zH (show ((zzm b:Nat):Int)=26 by
         rw [HC.out]
         skip
         unfold zzv
         (repeat' split) <;> omega)
        go_wp2_with fail
        go_ret
        exact⟨by rw [e1.out];rfl,HB1.out⟩
      · go_wp2_with fail
        go_roundw
        case rel=>exact⟨1,by omega,by first | rfl | go_num,fun j hj=>by
         by_cases hjj:j<0
         · exact HJ.out j hjj
         · obtain rfl:j=0:=by omega
           show (26:Int)<(b:Int)
           omega,trivial⟩
        case measure=>simp [intOf]
    · have hix:=xqe
      by_cases hc:(b:Int)<=28
      · have e1:=zH (show ((zzm b:Nat):Int)=28 by
         rw [HC.out]
         have h0:(26:Int)<(b:Int):=HJ.out 0 (by decide)
         unfold zzv
         (repeat' split) <;> omega)
        go_wp2_with fail
        go_ret
        exact⟨by rw [e1.out];rfl,HB1.out⟩
      · go_wp2_with fail
        go_roundw
        case rel=>exact⟨2,by omega,by first | rfl | go_num,fun j hj=>by
         by_cases hjj:j<1
         · exact HJ.out j hjj
         · obtain rfl:j=1:=by omega
           show (28:Int)<(b:Int)
           omega,trivial⟩
        case measure=>simp [intOf]
    · have hix:=xqf
      by_cases hc:(b:Int)<=30
      · have e1:=zH (show ((zzm b:Nat):Int)=30 by
         rw [HC.out]
         have h0:(28:Int)<(b:Int):=HJ.out 1 (by decide)
         unfold zzv
         (repeat' split) <;> omega)
        go_wp2_with fail
        go_ret
        exact⟨by rw [e1.out];rfl,HB1.out⟩
      · go_wp2_with fail
        go_roundw
        case rel=>exact⟨3,by omega,by first | rfl | go_num,fun j hj=>by
         by_cases hjj:j<2
         · exact HJ.out j hjj
         · obtain rfl:j=2:=by omega
           show (30:Int)<(b:Int)
           omega,trivial⟩
        case measure=>simp [intOf]
    · have hix:=xqg
      by_cases hc:(b:Int)<=32
      · have e1:=zH (show ((zzm b:Nat):Int)=32 by
         rw [HC.out]
         have h0:(30:Int)<(b:Int):=HJ.out 2 (by decide)
         unfold zzv
         (repeat' split) <;> omega)
        go_wp2_with fail
        go_ret
        exact⟨by rw [e1.out];rfl,HB1.out⟩
      · go_wp2_with fail
        go_roundw
        case rel=>exact⟨4,by omega,by first | rfl | go_num,fun j hj=>by
         by_cases hjj:j<3
         · exact HJ.out j hjj
         · obtain rfl:j=3:=by omega
           show (32:Int)<(b:Int)
           omega,trivial⟩
        case measure=>simp [intOf]
    · have hix:=xqh
      by_cases hc:(b:Int)<=40
      · have e1:=zH (show ((zzm b:Nat):Int)=40 by
         rw [HC.out]
         have h0:(32:Int)<(b:Int):=HJ.out 3 (by decide)
         unfold zzv
         (repeat' split) <;> omega)
        go_wp2_with fail
        go_ret
        exact⟨by rw [e1.out];rfl,HB1.out⟩
      · go_wp2_with fail
        go_roundw
        case rel=>exact⟨5,by omega,by first | rfl | go_num,fun j hj=>by
         by_cases hjj:j<4
         · exact HJ.out j hjj
         · obtain rfl:j=4:=by omega
           show (40:Int)<(b:Int)
           omega,trivial⟩
        case measure=>simp [intOf]
    · have hix:=xqi
      by_cases hc:(b:Int)<=48
      · have e1:=zH (show ((zzm b:Nat):Int)=48 by
         rw [HC.out]
         have h0:(40:Int)<(b:Int):=HJ.out 4 (by decide)
         unfold zzv
         (repeat' split) <;> omega)
        go_wp2_with fail
        go_ret
        exact⟨by rw [e1.out];rfl,HB1.out⟩
      · go_wp2_with fail
        go_roundw
        case rel=>exact⟨6,by omega,by first | rfl | go_num,fun j hj=>by
         by_cases hjj:j<5
         · exact HJ.out j hjj
         · obtain rfl:j=5:=by omega
           show (48:Int)<(b:Int)
           omega,trivial⟩
        case measure=>simp [intOf]
    · have hix:=xqj
      by_cases hc:(b:Int)<=56
      · have e1:=zH (show ((zzm b:Nat):Int)=56 by
         rw [HC.out]
         have h0:(48:Int)<(b:Int):=HJ.out 5 (by decide)
         unfold zzv
         (repeat' split) <;> omega)
        go_wp2_with fail
        go_ret
        exact⟨by rw [e1.out];rfl,HB1.out⟩
      · go_wp2_with fail
        go_roundw
        case rel=>exact⟨7,by omega,by first | rfl | go_num,fun j hj=>by
         by_cases hjj:j<6
         · exact HJ.out j hjj
         · obtain rfl:j=6:=by omega
           show (56:Int)<(b:Int)
           omega,trivial⟩
        case measure=>simp [intOf]
    · have hix:=xqk
      by_cases hc:(b:Int)<=64
      · have e1:=zH (show ((zzm b:Nat):Int)=64 by
         rw [HC.out]
         have h0:(56:Int)<(b:Int):=HJ.out 6 (by decide)
         unfold zzv
         (repeat' split) <;> omega)
        go_wp2_with fail
        go_ret
        exact⟨by rw [e1.out];rfl,HB1.out⟩
      · exact absurd (by omega) hc
    · have h0:(64:Int)<(b:Int):=HJ.out 7 (by decide)
      omega
theorem yyv (x:Nat) (hx:U64 x) (w:World):Calls Tryz.prog 315 #[.int .u64 (x:Int)] w fun e w'=>e=.returned (.int .i64 ((bl x:Nat):Int))/\w=w':=by
 have hx':(x:Int)<=18446744073709551615:=by have:x<18446744073709551616:=hx;omega
 go_enter Tryz.func315,Tryz.ntmps315
 go_wp2_with (first
  | (go_at_call 303;refine (Tryz.bits_Len64 (x:Int) _ (by omega) hx').mono ?_;rintro e w1 ⟨rfl,rfl⟩)
  | fail)
 go_ret
 exact⟨rfl,rfl⟩
theorem vv4 (F:Nat->Prop) (A:Option Addr) (n c:Nat) (l:List Nat) (w:World) (h:Sl tU64 F w A n c l):Calls Tryz.prog 284 #[.slice A n c] w fun e w'=>e=.returned (.int .i64 ((most l:Nat):Int))/\w=w':=by
 have HH:=zH h
 have hu:∀ x∈l,U64 x:=by
  intro x hx
  obtain⟨k,hk,rfl⟩:=List.getElem_of_mem hx
  obtain⟨_,_,_,_,_,_,hr,_⟩:=h.at1 hk rfl
  exact hr.2
 have HU:=zH hu
 have hn:=h.len
 have HL:=zH hn
 have hmax:n<=9223372036854775807:=by have h2:=h.2.1;have h3:=h.2.2.1;unfold maxLen at h3;omega
 clear h hu hn
 go_enter Tryz.func284,Tryz.ntmps284
 go_wp2_with fail
 go_loopw [3,8] (fun av kv wr=>∃ (k a:Nat),k<=n/\kv=.int .i64 (k:Int)/\av=.int .u64 (a:Int)/\a=(l.take k).foldl (· ||| ·) 0/\wr=w)
  (fun _ kv _=>n - (intOf kv).toNat)
 case atStart=>exact⟨0,0,Nat.zero_le _,rfl,rfl,rfl,rfl⟩
 case round =>
  obtain⟨k,a,hk,rfl,rfl,ha,rfl⟩:=hrel
  have HA:=zH ha
  clear ha
  have hat:=(kqM (l.take k) fun x hx=>HU.out x (List.mem_of_mem_take hx)).1
  rw [<-HA.out] at hat
  by_cases hlt:k<n
  · have hkl:k<l.length:=by rw [<-HL.out];exact hlt
    obtain⟨v,hv⟩:∃ v,v=l[k]:=⟨_,rfl⟩
    have hvu:v<18446744073709551616:=by rw [hv];exact HU.out _ (List.getElem_mem _)
    obtain⟨b,o,u,rfl,_,hbl,hr,hc⟩:=HH.out.at1 hkl rfl
    rw [<-hv] at hr
    obtain⟨hr,_⟩:=hr
    injection hr with hr
    subst hr
    have hor:bits .or .u64 (a:Int) (v:Int)=((a ||| v:Nat):Int):=u64_or_nat a v hat hvu
    have HS:=zH (show (a ||| v)=(l.take (k+1)).foldl (· ||| ·) 0 by rw [zT hkl,List.foldl_append,<-HA.out,<-hv];rfl)
    have hi1:(0:Int)<=(k:Int):=by omega
    have hi2:(k:Int)<(n:Int):=by omega
    clear hv hvu hat
    go_wp2_with fail
    go_roundw
    case rel=>exact⟨k+1,a ||| v,by omega,by go_num,by first | rfl | rw [hor],HS.out,trivial⟩
    case measure=>simp [intOf];omega
  · obtain rfl:n=k:=by omega
    have hm:=(kqM l HU.out).2
    have hall:l.take n=l:=zL (by rw [<-HL.out];exact Nat.le_refl _)
    rw [hall] at HA
    rw [<-HA.out] at hm
    have HM:=zH hm
    clear hm hall
    go_wp2_with (first
     | (go_at_call 315;refine (yyv a hat _).mono ?_;rintro e w1 ⟨rfl,rfl⟩)
     | fail)
    go_ret
    exact⟨by rw [HM.out];rfl,rfl⟩
end
end Go.Proofs.YtpmglcachffojaaGreatDoor
