/- A part of what Indexes leans on. -/
import Derived.Test.YtpmglcachffojaaGreatDoorZ26
import Derived.Test.YtpmglcachffojaaGreatDoorZ27
import Derived.Sort.OwnSorted
import Derived.Test.YtpmglcachffojaaGreatDoorZS2
import Derived.Maps.OwnOps
import Derived.Maps.OwnSet
import Derived.Maps.Views
import Derived.StringKeys
import Derived.StillTailTactics
import Derived.Laws.Externs
import Derived.Laws.IdiomStrings
set_option maxRecDepth 100000
set_option maxHeartbeats 16000000
namespace Go.Proofs.YtpmglcachffojaaGreatDoor
section
open Go Go.RowKit
def sb (s:ByteArray):List UInt8:=s.data.toList
theorem sb_inj {a b:ByteArray} (h:sb a=sb b):a=b:=uut h
theorem lt_irr (a:List UInt8):¬ a<a:=List.lt_irrefl a
theorem lt_of {a b:List UInt8} (h:a<=b) (hne:a≠b):a<b:=Classical.byContradiction fun hn=>hne (List.le_antisymm h hn)
theorem lt_tri (a b:List UInt8) (h:a≠b):a<b∨b<a:=by
 rcases List.le_total a b with h1 | h1
 · exact .inl (lt_of h1 h)
 · exact .inr (lt_of h1 (Ne.symm h))
end
section
open Go Go.RowKit
theorem zq4 (a b:ByteArray):ltS a b=true↔sb a<sb b:=by
 unfold ltS
 rw [bytesLess_eq,ByteArray.toList_eq,ByteArray.toList_eq]
 exact decide_eq_true_iff
theorem ltS_eq {a b:ByteArray} (h1:ltS a b=false) (h2:ltS b a=false):a=b:=by
 by_cases h:sb a=sb b
 · exact sb_inj h
 · rcases lt_tri _ _ h with h | h
   · rw [(zq4 a b).2 h] at h1;cases h1
   · rw [(zq4 b a).2 h] at h2;cases h2
theorem zqd {a b:ByteArray} (h:ltS a b=true):¬ a=b:=fun e=>by
 subst e;exact lt_irr _ ((zq4 a a).1 h)
theorem nan_i (x:Int) (w:World):Calls Tryz.prog 305 #[.int .i64 x] w fun e w'=>e=.returned (.bool false)/\w=w':=by
 have hx:(x != x)=false:=by simp
 go_enter Tryz.func305,Tryz.ntmps305
 go_wp2_with fail
 go_ret
 exact⟨by simp,rfl⟩
theorem nan_s (x:ByteArray) (w:World):Calls Tryz.prog 306 #[.string x] w fun e w'=>e=.returned (.bool false)/\w=w':=by
 go_enter Tryz.func306,Tryz.ntmps306
 go_wp2_with fail
 go_ret
 exact⟨by simp,rfl⟩
theorem cmpI_any (x y:Int) (w:World):Calls Tryz.prog 268 #[.int .i64 x,.int .i64 y] w fun e w'=>e=.returned (.int .i64 (icmp x y))/\w=w':=by
 obtain⟨q,hq⟩:∃ q,q=icmp x y:=⟨_,rfl⟩
 rw [<-hq]
 unfold icmp at hq
 by_cases h1:x<y
 · obtain rfl:q = -1:=by rw [hq,if_pos h1]
   clear hq
   go_enter Tryz.func268,Tryz.ntmps268
   go_wp2_with (first
    | (go_at_call 305;refine (nan_i _ _).mono ?_;rintro e w' ⟨rfl,rfl⟩)
    | fail)
   go_ret
   exact⟨rfl,rfl⟩
 · by_cases h2:y<x
   · obtain rfl:q=1:=by rw [hq,if_neg h1,if_pos h2]
     have h3:x > y:=h2
     clear hq
     go_enter Tryz.func268,Tryz.ntmps268
     go_wp2_with (first
      | (go_at_call 305;refine (nan_i _ _).mono ?_;rintro e w' ⟨rfl,rfl⟩)
      | fail)
     go_ret
     exact⟨rfl,rfl⟩
   · obtain rfl:q=0:=by rw [hq,if_neg h1,if_neg h2]
     have h3:¬ x > y:=h2
     clear hq
     go_enter Tryz.func268,Tryz.ntmps268
     go_wp2_with (first
      | (go_at_call 305;refine (nan_i _ _).mono ?_;rintro e w' ⟨rfl,rfl⟩)
      | fail)
     go_ret
     exact⟨rfl,rfl⟩
theorem cmpS_any (x y:ByteArray) (w:World):Calls Tryz.prog 269 #[.string x,.string y] w fun e w'=>e=.returned (.int .i64 (scmp x y))/\w=w':=by
 obtain⟨q,hq⟩:∃ q,q=scmp x y:=⟨_,rfl⟩
 rw [<-hq]
 unfold scmp at hq
 cases h1:ltS x y
 · rw [h1] at hq
   cases h2:ltS y x
   · rw [h2] at hq
     obtain rfl:q=0:=hq
     obtain rfl:=ltS_eq h1 h2
     have h3:Op.bytesLess x.toList x.toList=false:=h1
     clear h1 h2
     go_enter Tryz.func269,Tryz.ntmps269
     go_wp2_with (first
      | (go_at_call 306;refine (nan_s _ _).mono ?_;rintro e w' ⟨rfl,rfl⟩)
      | fail)
     go_ret
     exact⟨rfl,rfl⟩
   · rw [h2] at hq
     obtain rfl:q=1:=hq
     have h3:Op.bytesLess x.toList y.toList=false:=h1
     have h4:(x.toList==y.toList)=false:=(zqc (fun e=>zqd h2 e.symm)).1
     clear h1 h2
     go_enter Tryz.func269,Tryz.ntmps269
     go_wp2_with (first
      | (go_at_call 306;refine (nan_s _ _).mono ?_;rintro e w' ⟨rfl,rfl⟩)
      | fail)
     go_ret
     exact⟨rfl,rfl⟩
 · rw [h1] at hq
   obtain rfl:q = -1:=hq
   have h3:Op.bytesLess x.toList y.toList=true:=h1
   clear h1
   go_enter Tryz.func269,Tryz.ntmps269
   go_wp2_with (first
    | (go_at_call 306;refine (nan_s _ _).mono ?_;rintro e w' ⟨rfl,rfl⟩)
    | fail)
   go_ret
   exact⟨rfl,rfl⟩
theorem or2_any (F:Nat->Prop) (A:Option Addr) (c:Nat) (x y:Int) (w:World) (h:Sl tI64 F w A 2 c [x,y]) :
 Calls Tryz.prog 267 #[.slice A 2 c] w fun e w'=>e=.returned (.int .i64 (if x=0 then y else x))/\w=w':=by
 obtain⟨b,o,u,rfl,_,_,hr,hc0⟩:=h.at1 (k:=0) (by simp) rfl
 obtain⟨b',o',u',e1,_,_,hr',hc1⟩:=h.at1 (k:=1) (by simp) rfl
 cases e1
 obtain⟨hr,_⟩:=hr
 injection hr with hr;subst hr
 obtain⟨hr',_⟩:=hr'
 injection hr' with hr';subst hr'
 have hc0:w.cell? ⟨b,o,none⟩=some (.int .i64 x):=hc0
 have hc1:w.cell? ⟨b,o+1,none⟩=some (.int .i64 y):=hc1
 have H0:=zH hc0;have H1:=zH hc1
 clear h hc0 hc1
 go_enter Tryz.func267,Tryz.ntmps267
 go_wp2_with fail
 go_loopw [5,8] (fun v iv wr=>∃ i:Nat,i<=2/\iv=.int .i64 (i:Int)/\(1<=i->x=0)/\(2<=i->y=0)/\w=wr) (fun _ iv _=>2 - (intOf iv).toNat)
 case atStart=>exact⟨0,by omega,rfl,by omega,by omega,rfl⟩
 case round =>
  obtain⟨i,hi,rfl,hx,hy,rfl⟩:=hrel
  have hc0:=H0.out;have hc1:=H1.out
  rcases Nat.lt_or_ge i 1 with h0 | h0
  · obtain rfl:i=0:=by omega
    by_cases hx0:x=0
    · subst hx0
      clear hx hy
      go_wp2_with fail
      go_roundw
      case rel=>exact⟨1,by omega,by rfl,by simp,by omega,trivial⟩
      case measure=>simp [intOf]
    · have hb:=bne_y hx0
      clear hx hy
      go_wp2_with fail
      go_ret
      exact⟨rfl,rfl⟩
  · obtain rfl:x=0:=hx h0
    rcases Nat.lt_or_ge i 2 with h1 | h1
    · obtain rfl:i=1:=by omega
      by_cases hy0:y=0
      · subst hy0
        clear hx hy
        go_wp2_with fail
        go_roundw
        case rel=>exact⟨2,by omega,by rfl,by simp,by simp,trivial⟩
        case measure=>simp [intOf]
      · have hb:=bne_y hy0
        clear hx hy
        go_wp2_with fail
        go_ret
        exact⟨rfl,rfl⟩
    · obtain rfl:i=2:=by omega
      obtain rfl:y=0:=hy h1
      clear hx hy
      go_wp2_with fail
      go_ret
      exact⟨rfl,rfl⟩
theorem zqe (a b:VV) (h:a.null=b.null):vcmp a b=if icmp a.n b.n=0 then scmp a.s b.s else icmp a.n b.n:=by
 unfold vcmp
 rw [h,if_neg (by cases b.null <;> decide),if_neg (by cases b.null <;> decide)]
theorem kqA (a b:ByteArray):scmp a b = -1∨scmp a b=0∨scmp a b=1:=by
 unfold scmp;split
 · exact .inl rfl
 · split
   · exact .inr (.inr rfl)
   · exact .inr (.inl rfl)
theorem kqB (a b:Int):icmp a b = -1∨icmp a b=0∨icmp a b=1:=by
 unfold icmp;split
 · exact .inl rfl
 · split
   · exact .inr (.inr rfl)
   · exact .inr (.inl rfl)
theorem xqY (a b:VV):vcmp a b = -1∨vcmp a b=0∨vcmp a b=1:=by
 unfold vcmp;split
 · exact .inl rfl
 · split
   · exact .inr (.inr rfl)
   · split
     · exact kqA _ _
     · exact kqB _ _
structure Box2 (w:World) (a b:VV) (w2:World):Prop where
 eq:w2=(w.alloc (.cells #[.bool a.null,.int .i64 a.n,.string a.s] 74)).alloc (.cells #[.bool b.null,.int .i64 b.n,.string b.s] 74)
 below:Below w.heap.size w w2
 a0:w2.cell? ⟨w.heap.size,0,none⟩=some (.bool a.null)
 a1:w2.cell? ⟨w.heap.size,1,none⟩=some (.int .i64 a.n)
 a2:w2.cell? ⟨w.heap.size,2,none⟩=some (.string a.s)
 b0:w2.cell? ⟨w.heap.size+1,0,none⟩=some (.bool b.null)
 b1:w2.cell? ⟨w.heap.size+1,1,none⟩=some (.int .i64 b.n)
 b2:w2.cell? ⟨w.heap.size+1,2,none⟩=some (.string b.s)
theorem box2 (w:World) (a b:VV):∃ w2,Box2 w a b w2:=by
 have h1:((w.alloc (.cells #[.bool a.null,.int .i64 a.n,.string a.s] 74)).alloc (.cells #[.bool b.null,.int .i64 b.n,.string b.s] 74)).heap[w.heap.size]?=some (.cells #[.bool a.null,.int .i64 a.n,.string a.s] 74 (0,0)):=(Below.heap_alloc _ _ _ (by simp)).trans (heap_alloc_new w _)
 have h2:=heap_alloc_new (w.alloc (.cells #[.bool a.null,.int .i64 a.n,.string a.s] 74)) (.cells #[.bool b.null,.int .i64 b.n,.string b.s] 74)
 rw [zS] at h2
 refine⟨_,rfl,((zR).alloc zN _).alloc (by simp) _,?_,?_,?_,?_,?_,?_⟩
 · rw [zC h1];rfl
 · rw [zC h1];rfl
 · rw [zC h1];rfl
 · rw [zC h2];rfl
 · rw [zC h2];rfl
 · rw [zC h2];rfl
theorem zzn (a b:VV) (w:World) :
 Calls Tryz.prog 221 #[.agg #[.bool a.null,.int .i64 a.n,.string a.s],.agg #[.bool b.null,.int .i64 b.n,.string b.s]] w fun e w'=>e=.returned (.int .i64 (vcmp a b))/\Below w.heap.size w w':=by
 obtain⟨q,hq⟩:∃ q,q=vcmp a b:=⟨_,rfl⟩
 rw [<-hq]
 obtain⟨w2,hw2⟩:=box2 w a b
 have HW:=zH hw2.eq;have HB:=zH hw2.below
 obtain⟨-,-,a0,a1,a2,b0,b1,b2⟩:=hw2
 by_cases hne:a.null=b.null
 · rw [zqe a b hne] at hq
   obtain⟨an,ai,sa⟩:=a
   obtain⟨bn,bi,sb'⟩:=b
   obtain rfl:an=bn:=hne
   have A0:w2.cell? ⟨w.heap.size,0,none⟩=some (.bool an):=a0
   have A1:w2.cell? ⟨w.heap.size,1,none⟩=some (.int .i64 ai):=a1
   have A2:w2.cell? ⟨w.heap.size,2,none⟩=some (.string sa):=a2
   have B0:w2.cell? ⟨w.heap.size+1,0,none⟩=some (.bool an):=b0
   have B1:w2.cell? ⟨w.heap.size+1,1,none⟩=some (.int .i64 bi):=b1
   have B2:w2.cell? ⟨w.heap.size+1,2,none⟩=some (.string sb'):=b2
   dsimp only at hq HW
   have HQ:=zH hq
   clear hq a0 a1 a2 b0 b1 b2
   cases an
   all_goals
    go_enter Tryz.func221,Tryz.ntmps221
    go_upto_region 1 with fail
    rw [<-HW.out]
    go_wp2_with fail
    refine wp_region_still_tail 10 (by kernel_rfl) (by kernel_rfl) ?_
    simp only [List.take_succ_cons,List.take_zero,List.drop_succ_cons,List.drop_zero]
    repeat (first | still_call ((cmpI_any ai bi _).mono fun _ _ h=>⟨h.1,h.2.symm⟩) | still_call ((cmpS_any sa sb' _).mono fun _ _ h=>⟨h.1,h.2.symm⟩) | still_step)
    refine wpStill_nil ?_
    change wpList _ _ _ _ _ w2.drew
    obtain⟨wd,hwd⟩:∃ wd:World,wd=w2.drew:=⟨_,rfl⟩
    have hdr:Below w2.heap.size w2 wd:=by rw [hwd];exact (zR).drew
    have HDR:=zH hdr
    rw [<-hwd]
    clear hwd hdr
    obtain⟨x,hx⟩:∃ x,x=icmp ai bi:=⟨_,rfl⟩
    obtain⟨y,hy⟩:∃ y,y=scmp sa sb':=⟨_,rfl⟩
    have hx1:i64 x:=by rw [hx];unfold i64;rcases kqB ai bi with h | h | h <;> omega
    have hy1:i64 y:=by rw [hy];unfold i64;rcases kqA sa sb' with h | h | h <;> omega
    have HS:=zH (Sl.news (T:=tI64) (F:=fun _=>True) (w:=wd) (Reps.mk2 (T:=tI64) (x1:=x) (x2:=y) ⟨rfl,hx1⟩ ⟨rfl,hy1⟩) 3 2 rfl (by omega) _ rfl)
    rw [<-hx,<-hy] at HQ
    rw [<-hx,<-hy]
    clear hx hy hx1 hy1
    go_wp2_with (first
     | (go_at_call 267;refine (or2_any _ _ _ x y _ HS.out).mono ?_;rintro e w5 ⟨rfl,rfl⟩;rw [<-HQ.out])
     | fail)
    go_ret
    exact⟨rfl,HB.out.trans ((HDR.out.alloc HDR.out.size _).mono HB.out.size)⟩
 · obtain⟨an,ai,sa⟩:=a
   obtain⟨bn,bi,sb'⟩:=b
   have A0:w2.cell? ⟨w.heap.size,0,none⟩=some (.bool an):=a0
   have B0:w2.cell? ⟨w.heap.size+1,0,none⟩=some (.bool bn):=b0
   unfold vcmp at hq
   dsimp only at hq HW hne
   clear a0 a1 a2 b0 b1 b2
   cases an
   · obtain rfl:bn=true:=by cases bn <;> simp_all
     obtain rfl:q=1:=hq
     clear hne
     go_enter Tryz.func221,Tryz.ntmps221
     go_upto_region 1 with fail
     rw [<-HW.out]
     go_wp2_with fail
     go_ret
     exact⟨rfl,HB.out⟩
   · obtain rfl:bn=false:=by cases bn <;> simp_all
     obtain rfl:q = -1:=hq
     clear hne
     go_enter Tryz.func221,Tryz.ntmps221
     go_upto_region 1 with fail
     rw [<-HW.out]
     go_wp2_with fail
     go_ret
     exact⟨rfl,HB.out⟩
end
section
open Go Go.RowKit
def tHi (S:Int):Int:=S / 18446744073709551616
def tLo (S:Int):Nat:=(S % 18446744073709551616).toNat
theorem tLo_lt (S:Int):tLo S<18446744073709551616:=by unfold tLo;omega
theorem t_eq (S:Int):S=tHi S*18446744073709551616+(tLo S:Int):=by unfold tHi tLo;omega
theorem tadd_any (S n:Int) (h0 : -9223372036854775808<=n) (h1:n<=9223372036854775807) (hS : -4096<=tHi S/\tHi S<=4096) (w:World) :
 Calls Tryz.prog 177 #[.agg #[.int .i64 (tHi S),.int .u64 (tLo S:Nat)],.int .i64 n] w fun e w'=>e=.returned (.agg #[.int .i64 (tHi (S+n)),.int .u64 (tLo (S+n):Nat)])/\Below w.heap.size w w':=by
 obtain⟨hi,hhi⟩:∃ hi,hi=tHi S:=⟨_,rfl⟩
 obtain⟨lo,hlo⟩:∃ lo,lo=tLo S:=⟨_,rfl⟩
 have hlt:=tLo_lt S
 rw [<-hlo] at hlt
 rw [<-hhi] at hS
 rw [<-hhi,<-hlo]
 obtain⟨l2,hl2⟩:∃ l2:Nat,l2=tLo (S+n):=⟨_,rfl⟩
 obtain⟨c2,hc2⟩:∃ c2:Nat,(c2:Int)=((lo:Int)+n % 18446744073709551616) / 18446744073709551616:=⟨(((lo:Int)+n % 18446744073709551616) / 18446744073709551616).toNat,by omega⟩
 have hS2:=t_eq S
 rw [<-hhi,<-hlo] at hS2
 have hl2':(l2:Int)=((lo:Int)+n % 18446744073709551616) % 18446744073709551616:=by rw [hl2];unfold tLo;omega
 have hc1:c2<=1:=by omega
 have HH:=zH (show tHi (S+n)=hi+n / 9223372036854775808+(c2:Int) by unfold tHi;omega)
 have hadd:∀ W:World,(callFunc 222 #[.int .u64 (lo:Int),.int .u64 (IntKind.u64.wrap n),.int .u64 0]).run Tryz.prog W=.ok (.value (.tuple #[.int .u64 (l2:Int),.int .u64 (c2:Int)])) W:=fun W=>by
  have hw:IntKind.u64.wrap n=n % 18446744073709551616:=IntKind.wrap_u64 n
  rw [run_callFunc_extern Tryz.func222 (by kernel_rfl) (by kernel_rfl) (by kernel_rfl) (e:=add64Entry) (by kernel_rfl),hw,run_add64 (lo:Int) (n % 18446744073709551616) 0 (by omega) (by omega) (by omega) (by omega),Int.add_zero,<-hl2',<-hc2]
  rfl
 have HL2:=zH hl2
 have hb0 : -1<=n / 9223372036854775808/\n / 9223372036854775808<=0:=by omega
 obtain⟨s,hs⟩:∃ s,s=n / 9223372036854775808:=⟨_,rfl⟩
 have HSS:=zH hs.symm
 rw [<-hs] at HH hb0
 have HN0:=zH h0
 clear hhi hlo hl2 hc2 hS2 hl2' hs
 obtain⟨ws,hws⟩:∃ ws,ws=(w.alloc (.cells #[.int .i64 hi,.int .u64 (lo:Int)] 230)).alloc (.cells #[.int .i64 0,.int .u64 0] 230):=⟨_,rfl⟩
 have hb:Below w.heap.size w ws:=by rw [hws];exact ((zR).alloc zN _).alloc (by simp) _
 have hz:ws.heap.size=w.heap.size+2:=by rw [hws];simp
 have hg0:ws.heap[w.heap.size]?=some (.cells #[.int .i64 hi,.int .u64 (lo:Int)] 230 (0,0)):=by rw [hws];exact (Below.heap_alloc _ _ _ (by simp)).trans (heap_alloc_new w _)
 have hg1:ws.heap[w.heap.size+1]?=some (.cells #[.int .i64 0,.int .u64 0] 230 (0,0)):=by
  have:=heap_alloc_new (w.alloc (.cells #[.int .i64 hi,.int .u64 (lo:Int)] 230)) (.cells #[.int .i64 0,.int .u64 0] 230)
  rw [zS] at this
  rw [hws];exact this
 have HW:=zH hws;have HB:=zH hb;have HG1:=zH hg1
 have q0:ws.cell? ⟨w.heap.size,0,none⟩=some (.int .i64 hi):=by rw [zC hg0];rfl
 have q1:ws.cell? ⟨w.heap.size,1,none⟩=some (.int .u64 (lo:Int)):=by rw [zC hg0];rfl
 have r0:ws.cell? ⟨w.heap.size+1,0,none⟩=some (.int .i64 0):=by rw [zC hg1];rfl
 have r1:ws.cell? ⟨w.heap.size+1,1,none⟩=some (.int .u64 0):=by rw [zC hg1];rfl
 have s0:=zF hg1 0
 have s1:=zF hg1 1
 clear hws hb hz hg0 hg1
 go_enter Tryz.func177,Tryz.ntmps177
 go_upto_region 1 with fail
 rw [<-HW.out]
 go_upto_region 2 with fail
 clear hadd
 go_wp2_with fail
 refine bodyPost_ret (results_cell_row rfl _ _ (w.heap.size+1) 230 #[.int .i64 (hi+n / 9223372036854775808+(c2:Int)),.int .u64 (l2:Int)] (0,0) _ rfl (zza (zza HG1.out rfl) rfl) Tryz.underlying230 rfl (by kernel_rfl)) rfl ⟨by rw [HSS.out,<-HH.out,<-HL2.out],zzi (zzi HB.out (by omega) _) (by omega) _⟩
theorem tnum_any (S:Int) (w:World) :
 Calls Tryz.prog 223 #[.agg #[.int .i64 (tHi S),.int .u64 (tLo S:Nat)]] w fun e w'=>e=.returned (.tuple #[.int .i64 (if uux S then S else 0),.bool (uux S)])/\Below w.heap.size w w':=by
 obtain⟨hi,hhi⟩:∃ hi,hi=tHi S:=⟨_,rfl⟩
 obtain⟨lo,hlo⟩:∃ lo,lo=tLo S:=⟨_,rfl⟩
 have hlt:=tLo_lt S
 rw [<-hlo] at hlt
 rw [<-hhi,<-hlo]
 have hS2:=t_eq S
 rw [<-hhi,<-hlo] at hS2
 obtain⟨x,hx⟩:∃ x,x=wrap64 (lo:Int):=⟨_,rfl⟩
 obtain⟨ok,hok⟩:∃ ok,ok=uux S:=⟨_,rfl⟩
 rw [<-hok]
 have hwx:x=if lo<9223372036854775808 then (lo:Int) else (lo:Int) - 18446744073709551616:=by rw [hx];unfold wrap64;split <;> omega
 have hfit:ok=decide (hi=x / 9223372036854775808):=by
  rw [hok];unfold uux
  rw [decide_eq_decide,hwx]
  split <;> omega
 have hfx:ok=true->x=S:=fun h=>by
  rw [h] at hfit
  have h2:=of_decide_eq_true hfit.symm
  rw [hwx] at h2 ⊢
  split <;> rename_i h3 <;> simp only [h3,if_true,if_false] at h2 <;> omega
 have HFX:=zH hfx
 have HXW:=zH hx.symm
 have hx0 : -9223372036854775808<=x/\x<=9223372036854775807:=by rw [hwx];split <;> omega
 clear hok hwx hfx hx hhi hlo hS2
 obtain⟨ws,hws⟩:∃ ws,ws=w.alloc (.cells #[.int .i64 hi,.int .u64 (lo:Int)] 230):=⟨_,rfl⟩
 have hb:Below w.heap.size w ws:=by rw [hws];exact (zR).alloc zN _
 have hg0:ws.heap[w.heap.size]?=some (.cells #[.int .i64 hi,.int .u64 (lo:Int)] 230 (0,0)):=by rw [hws];exact heap_alloc_new w _
 have q0:ws.cell? ⟨w.heap.size,0,none⟩=some (.int .i64 hi):=by rw [zC hg0];rfl
 have q1:ws.cell? ⟨w.heap.size,1,none⟩=some (.int .u64 (lo:Int)):=by rw [zC hg0];rfl
 have HW:=zH hws;have HB:=zH hb
 clear hws hb hg0
 go_enter Tryz.func223,Tryz.ntmps223
 go_upto_region 1 with fail
 rw [<-HW.out]
 go_upto_region 2 with fail
 rw [HXW.out]
 obtain⟨y,hy⟩:∃ y,y=x / 9223372036854775808:=⟨_,rfl⟩
 rw [<-hy] at hfit
 have HY:=zH hy.symm
 by_cases he:hi=y
 · obtain rfl:ok=true:=by rw [hfit];exact decide_eq_true he
   have hq:(hi != x / 9223372036854775808)=false:=by rw [HY.out];simpa using he
   have HX:=zH (HFX.out rfl)
   clear he hfit hy
   go_wp2_with fail
   go_ret2
   exact⟨by rw [HX.out];rfl,HB.out⟩
 · obtain rfl:ok=false:=by rw [hfit];exact decide_eq_false he
   have hq:(hi != x / 9223372036854775808)=true:=by rw [HY.out];simpa using he
   clear he hfit hy
   go_wp2_with fail
   go_ret2
   exact⟨rfl,HB.out⟩
end
section
open Go Go.RowKit
section
variable {w w0:World} {g B:Nat} {c0 c1 c2 c3 c4 c5 c6 c7 c8 c9:Value} {t:TypeId}
theorem yyt (h:w.heap[g]?=some (.cells #[c0,c1,c2,c3,c4,c5,c6,c7,c8,c9] t (0,0))):(w.cell? ⟨g,0,none⟩=some c0/\w.frozen? ⟨g,0,none⟩=false)/\(w.cell? ⟨g,1,none⟩=some c1/\w.frozen? ⟨g,1,none⟩=false)/\(w.cell? ⟨g,2,none⟩=some c2/\w.frozen? ⟨g,2,none⟩=false)/\(w.cell? ⟨g,3,none⟩=some c3/\w.frozen? ⟨g,3,none⟩=false)/\(w.cell? ⟨g,4,none⟩=some c4/\w.frozen? ⟨g,4,none⟩=false)/\(w.cell? ⟨g,5,none⟩=some c5/\w.frozen? ⟨g,5,none⟩=false)/\(w.cell? ⟨g,6,none⟩=some c6/\w.frozen? ⟨g,6,none⟩=false)/\(w.cell? ⟨g,7,none⟩=some c7/\w.frozen? ⟨g,7,none⟩=false)/\(w.cell? ⟨g,8,none⟩=some c8/\w.frozen? ⟨g,8,none⟩=false)/\(w.cell? ⟨g,9,none⟩=some c9/\w.frozen? ⟨g,9,none⟩=false) :=
 ⟨⟨by rw [zC h];rfl,zF h 0⟩,⟨by rw [zC h];rfl,zF h 1⟩,⟨by rw [zC h];rfl,zF h 2⟩,⟨by rw [zC h];rfl,zF h 3⟩,⟨by rw [zC h];rfl,zF h 4⟩,⟨by rw [zC h];rfl,zF h 5⟩,⟨by rw [zC h];rfl,zF h 6⟩,⟨by rw [zC h];rfl,zF h 7⟩,⟨by rw [zC h];rfl,zF h 8⟩,⟨by rw [zC h];rfl,zF h 9⟩⟩
theorem xqZ (h:w.heap[g]?=some (.cells #[c0,c1,c2,c3,c4,c5,c6,c7,c8,c9] t (0,0))) (u0 u1 u2 u3 u4 u5 u6 u7 u8 u9:Value):((((((((((w.setCell ⟨g,0,none⟩ u0).setCell ⟨g,1,none⟩ u1).setCell ⟨g,2,none⟩ u2).setCell ⟨g,3,none⟩ u3).setCell ⟨g,4,none⟩ u4).setCell ⟨g,5,none⟩ u5).setCell ⟨g,6,none⟩ u6).setCell ⟨g,7,none⟩ u7).setCell ⟨g,8,none⟩ u8).setCell ⟨g,9,none⟩ u9).heap[g]?=some (.cells #[u0,u1,u2,u3,u4,u5,u6,u7,u8,u9] t (0,0)):=(zza (cs':=#[u0,u1,u2,u3,u4,u5,u6,u7,u8,u9]) (zza (cs':=#[u0,u1,u2,u3,u4,u5,u6,u7,u8,c9]) (zza (cs':=#[u0,u1,u2,u3,u4,u5,u6,u7,c8,c9]) (zza (cs':=#[u0,u1,u2,u3,u4,u5,u6,c7,c8,c9]) (zza (cs':=#[u0,u1,u2,u3,u4,u5,c6,c7,c8,c9]) (zza (cs':=#[u0,u1,u2,u3,u4,c5,c6,c7,c8,c9]) (zza (cs':=#[u0,u1,u2,u3,c4,c5,c6,c7,c8,c9]) (zza (cs':=#[u0,u1,u2,c3,c4,c5,c6,c7,c8,c9]) (zza (cs':=#[u0,u1,c2,c3,c4,c5,c6,c7,c8,c9]) (zza (cs':=#[u0,c1,c2,c3,c4,c5,c6,c7,c8,c9]) h rfl) rfl) rfl) rfl) rfl) rfl) rfl) rfl) rfl) rfl)
theorem zq5 (hb:Below B w0 w) (hg:B<=g) (u0 u1 u2 u3 u4 u5 u6 u7 u8 u9:Value):Below B w0 ((((((((((w.setCell ⟨g,0,none⟩ u0).setCell ⟨g,1,none⟩ u1).setCell ⟨g,2,none⟩ u2).setCell ⟨g,3,none⟩ u3).setCell ⟨g,4,none⟩ u4).setCell ⟨g,5,none⟩ u5).setCell ⟨g,6,none⟩ u6).setCell ⟨g,7,none⟩ u7).setCell ⟨g,8,none⟩ u8).setCell ⟨g,9,none⟩ u9):=(zzi (zzi (zzi (zzi (zzi (zzi (zzi (zzi (zzi (zzi hb hg _) hg _) hg _) hg _) hg _) hg _) hg _) hg _) hg _) hg _)
end
structure SumW (w:World) (c:Int) (hn:Bool) (mn mx:VV) (S:Int) (ws:World):Prop where
 eq:ws=((w.alloc (.cells #[.int .i64 c,.bool hn,.bool mn.null,.int .i64 mn.n,.string mn.s,.bool mx.null,.int .i64 mx.n,.string mx.s,.int .i64 0,.bool false] 109)).alloc (.cells #[.int .i64 (tHi S),.int .u64 (tLo S:Nat)] 230)).alloc (.cells #[.int .i64 0,.bool false,.bool false,.int .i64 0,.string ⟨#[]⟩,.bool false,.int .i64 0,.string ⟨#[]⟩,.int .i64 0,.bool false] 109)
 below:Below w.heap.size w ws
 s:ws.heap[w.heap.size]?=some (.cells #[.int .i64 c,.bool hn,.bool mn.null,.int .i64 mn.n,.string mn.s,.bool mx.null,.int .i64 mx.n,.string mx.s,.int .i64 0,.bool false] 109 (0,0))
 t:ws.heap[w.heap.size+1]?=some (.cells #[.int .i64 (tHi S),.int .u64 (tLo S:Nat)] 230 (0,0))
 r:ws.heap[w.heap.size+2]?=some (.cells #[.int .i64 0,.bool false,.bool false,.int .i64 0,.string ⟨#[]⟩,.bool false,.int .i64 0,.string ⟨#[]⟩,.int .i64 0,.bool false] 109 (0,0))
theorem sumW (w:World) (c:Int) (hn:Bool) (mn mx:VV) (S:Int):∃ ws,SumW w c hn mn mx S ws:=by
 refine⟨_,rfl,(((zR).alloc zN _).alloc (by simp) _).alloc (by simp;omega) _,?_,?_,?_⟩
 · exact (Below.heap_alloc _ _ _ (by simp;omega)).trans ((Below.heap_alloc _ _ _ (by simp)).trans (heap_alloc_new w _))
 · refine (Below.heap_alloc _ _ _ (by simp)).trans ?_
   have:=heap_alloc_new (w.alloc (.cells #[.int .i64 c,.bool hn,.bool mn.null,.int .i64 mn.n,.string mn.s,.bool mx.null,.int .i64 mx.n,.string mx.s,.int .i64 0,.bool false] 109)) (.cells #[.int .i64 (tHi S),.int .u64 (tLo S:Nat)] 230)
   rwa [zS] at this
 · have:=heap_alloc_new ((w.alloc (.cells #[.int .i64 c,.bool hn,.bool mn.null,.int .i64 mn.n,.string mn.s,.bool mx.null,.int .i64 mx.n,.string mx.s,.int .i64 0,.bool false] 109)).alloc (.cells #[.int .i64 (tHi S),.int .u64 (tLo S:Nat)] 230)) (.cells #[.int .i64 0,.bool false,.bool false,.int .i64 0,.string ⟨#[]⟩,.bool false,.int .i64 0,.string ⟨#[]⟩,.int .i64 0,.bool false] 109)
   rwa [zS,zS] at this
theorem xq0 (k c:Int) (hn:Bool) (mn mx:VV) (S:Int) (w:World) :
 Calls Tryz.prog 178 #[.int .i64 k,.agg #[.int .i64 c,.bool hn,.bool mn.null,.int .i64 mn.n,.string mn.s,.bool mx.null,.int .i64 mx.n,.string mx.s,.int .i64 0,.bool false],.agg #[.int .i64 (tHi S),.int .u64 (tLo S:Nat)]] w fun e w' =>
  e=.returned (.agg #[.int .i64 c,.bool hn,.bool mn.null,.int .i64 mn.n,.string mn.s,.bool mx.null,.int .i64 mx.n,.string mx.s,.int .i64 (if decide (1<=k/\k<=5)&&uux S then S else 0),.bool (decide (1<=k/\k<=5) && !uux S)])/\Below w.heap.size w w':=by
 obtain⟨ws,h⟩:=sumW w c hn mn mx S
 have HW:=zH h
 have hs:=h.s;have ht:=h.t;have hr:=h.r
 obtain⟨⟨s0,a0⟩,⟨s1,a1⟩,⟨s2,a2⟩,⟨s3,a3⟩,⟨s4,a4⟩,⟨s5,a5⟩,⟨s6,a6⟩,⟨s7,a7⟩,⟨s8,a8⟩,⟨s9,a9⟩⟩:=yyt hs
 have t0:ws.cell? ⟨w.heap.size+1,0,none⟩=some (.int .i64 (tHi S)):=by rw [zC ht];rfl
 have t1:ws.cell? ⟨w.heap.size+1,1,none⟩=some (.int .u64 (tLo S:Nat)):=by rw [zC ht];rfl
 obtain⟨⟨r0,y0⟩,⟨r1,y1⟩,⟨r2,y2⟩,⟨r3,y3⟩,⟨r4,y4⟩,⟨r5,y5⟩,⟨r6,y6⟩,⟨r7,y7⟩,⟨r8,y8⟩,⟨r9,y9⟩⟩:=yyt hr
 obtain⟨mnn,mni,mns⟩:=mn
 obtain⟨mxn,mxi,mxs⟩:=mx
 obtain⟨q,hq⟩:∃ q,q=decide (1<=k/\k<=5):=⟨_,rfl⟩
 rw [<-hq]
 have HQ:=zH hq
 dsimp only at *
 clear h hs ht hr hq
 cases q
 · go_enter Tryz.func178,Tryz.ntmps178
   go_upto_region 1 with fail
   rw [<-HW.out.eq]
   go_wp2_with (first
    | (go_at_call 44;refine (zzg _ _).mono ?_;rintro e w5 ⟨rfl,rfl⟩;rw [<-HQ.out])
    | fail)
   exact bodyPost_ret (results_cell_row rfl _ _ (w.heap.size+2) 109 _ (0,0) _ rfl (xqZ HW.out.r _ _ _ _ _ _ _ _ _ _) Tryz.underlying109 rfl (by kernel_rfl)) rfl ⟨rfl,zq5 HW.out.below (by omega) _ _ _ _ _ _ _ _ _ _⟩
 · obtain⟨ok,hok⟩:∃ ok,ok=uux S:=⟨_,rfl⟩
   have HT:=zH (tnum_any S)
   obtain⟨x,hx⟩:∃ x,x=if ok then S else 0:=⟨_,rfl⟩
   rw [<-hok] at HT ⊢
   rw [<-hx] at HT
   cases ok
   all_goals
    (first | (replace hx:=(show x=S from hx);subst hx) | (replace hx:=(show x=0 from hx);subst hx))
    clear hok
    go_enter Tryz.func178,Tryz.ntmps178
    go_upto_region 1 with fail
    rw [<-HW.out.eq]
    go_upto_region 4 with (first
     | (go_at_call 44;refine (zzg _ _).mono ?_;rintro e w5 ⟨rfl,rfl⟩;rw [<-HQ.out])
     | (go_at_call 223;refine (HT.out _).mono ?_;rintro e w6 ⟨rfl,hb6⟩;have HB6:=zH hb6;clear hb6)
     | fail)
    have hs6:=(HB6.out.block _ (zzc HW.out.s)).trans HW.out.s
    have HR6:=zH ((HB6.out.block _ (zzc HW.out.r)).trans HW.out.r)
    have HB:=zH (HW.out.below.trans (HB6.out.mono HW.out.below.size))
    clear s0 a0 r0 y0 s1 a1 r1 y1 s2 a2 r2 y2 s3 a3 r3 y3 s4 a4 r4 y4 s5 a5 r5 y5 s6 a6 r6 y6 s7 a7 r7 y7 s8 a8 r8 y8 s9 a9 r9 y9 t0 t1
    obtain⟨⟨s0,a0⟩,⟨s1,a1⟩,⟨s2,a2⟩,⟨s3,a3⟩,⟨s4,a4⟩,⟨s5,a5⟩,⟨s6,a6⟩,⟨s7,a7⟩,⟨s8,a8⟩,⟨s9,a9⟩⟩:=yyt hs6
    obtain⟨⟨r0,y0⟩,⟨r1,y1⟩,⟨r2,y2⟩,⟨r3,y3⟩,⟨r4,y4⟩,⟨r5,y5⟩,⟨r6,y6⟩,⟨r7,y7⟩,⟨r8,y8⟩,⟨r9,y9⟩⟩:=yyt HR6.out
    clear hs6
    go_wp2_with fail
    exact bodyPost_ret (results_cell_row rfl _ _ (w.heap.size+2) 109 _ (0,0) _ rfl (xqZ ((Below.heap_setCell _ _ _ _ (by simp)).trans ((Below.heap_setCell _ _ _ _ (by simp)).trans HR6.out)) _ _ _ _ _ _ _ _ _ _) Tryz.underlying109 rfl (by kernel_rfl)) rfl ⟨rfl,zq5 (zzi (zzi HB.out zN _) zN _) (by omega) _ _ _ _ _ _ _ _ _ _⟩
end
section
open Go Go.RowKit
end
end Go.Proofs.YtpmglcachffojaaGreatDoor
