/- A part of what Indexes leans on. -/
import Derived.Test.YtpmglcachffojaaGreatDoorZ2
import Derived.Test.YtpmglcachffojaaGreatDoorZ36
import Derived.Test.YtpmglcachffojaaGreatDoorZ38
set_option maxRecDepth 100000
set_option maxHeartbeats 16000000
namespace Go.Proofs.YtpmglcachffojaaGreatDoor
section
open Go Go.RowKit
structure PartW (n:Nat) (w w4:World):Prop where
 eq:w4=(w.alloc (.cells #[.int .i64 0,.slice none 0 0,.slice none 0 0] 97)).alloc (.cells #[.int .i64 (n:Int),.slice none 0 0,.slice none 0 0] 97)
 below:Below w.heap.size w w4
 size:w4.heap.size=w.heap.size+2
 s:w4.heap[w.heap.size+1]?=some (.cells #[.int .i64 (n:Int),.slice none 0 0,.slice none 0 0] 97 (0,0))
 r:w4.heap[w.heap.size]?=some (.cells #[.int .i64 0,.slice none 0 0,.slice none 0 0] 97 (0,0))
theorem partW (n:Nat) (w:World):∃ w4,PartW n w w4:=by
 obtain⟨w1,h1⟩:∃ w1,w1=w.alloc (.cells #[.int .i64 0,.slice none 0 0,.slice none 0 0] 97):=⟨_,rfl⟩
 have z1:w1.heap.size=w.heap.size+1:=by rw [h1,zS]
 have g1:w1.heap[w.heap.size]?=some (.cells #[.int .i64 0,.slice none 0 0,.slice none 0 0] 97 (0,0)):=by rw [h1];exact heap_alloc_new w _
 have b1:Below w.heap.size w w1:=by rw [h1];exact (zR).alloc zN _
 have g2:=heap_alloc_new w1 (.cells #[.int .i64 (n:Int),.slice none 0 0,.slice none 0 0] 97)
 rw [z1] at g2
 exact⟨w1.alloc (.cells #[.int .i64 (n:Int),.slice none 0 0,.slice none 0 0] 97),by rw [h1],b1.alloc b1.size _,by rw [zS,z1],g2,(Below.heap_alloc w1 _ _ (by omega)).trans g1⟩
theorem zqf {P:Program} {fn:Func} {p u v:Tmp} {ty:TypeId} (h:fn.results=#[.tmp u,.cell p ty,.tmp v]) (tmps:Array Value) (w:World) (g:Nat) (t:TypeId) (cs:Array Value) (fr:Nat×Nat) (d:TypeDesc)
 (hp:tmps.getD p undef=.pointer (some ⟨g,0,none⟩)) (hg:w.heap[g]?=some (.cells cs t fr))
 (hu:P.underlying ty=some d) (hd:(match d with | .struct _ | .array _ _=>true | _=>false)=true) (hi:(P.info? ty).map (·.size)=some cs.size) :
 (results fn tmps).run P w=.ok (.tuple #[tmps.getD u undef,.agg cs,tmps.getD v undef]) w:=by
 have hp':tmps[p]?.getD undef=.pointer (some ⟨g,0,none⟩):=by simpa using hp
 simp [results,h,hp',asAddr,run_loadVar_row w g t ty cs fr d hg hu hd hi]
def qx3 (cols:List CC) (rows:List RR) (w:World) (e:Ending) (w':World):Prop :=
 ∃ A n c A1 n1 c1 A2 n2 c2,e=.returned (.tuple #[.slice A n c,.agg #[.int .i64 (rows.length:Int),.slice A1 n1 c1,.slice A2 n2 c2],.int .i64 0]) /\
  Sl tU8 (fun b=>w.heap.size<=b) w' A n c (vv7 cols rows cols.length)/\Sl tI64 (fun b=>w.heap.size<=b) w' A1 n1 c1 (qz9 cols rows cols.length)/\Sl tSS (fun b=>w.heap.size<=b) w' A2 n2 c2 (zqa cols rows cols.length)/\Below w.heap.size w w'
theorem yya {α:Type} {T:Ty α} {e:TypeId} {col:Nat->Nat} {i B S:Nat} {w w':World} {A:Option Addr} {n c:Nat} {xs:List α} (h:Col T e col i B S w A n c xs) (hg:w.grownBy w' (A.map (·.block))) {b:Nat} (hl:b<w.heap.size) (hb:b<B∨S<=b∨col b≠i):w'.heap[b]?=w.heap[b]? :=
 hg.block b hl (fun e=>by
  have h1:=h.lies e.symm
  rcases hb with hb | hb | hb
  · omega
  · omega
  · exact hb h1.2.2)
structure PR (B B1:Nat) (D:List UInt8) (L:List Int) (M:List SS) (A0:Option Addr) (m0 c0:Nat) (A3:Option Addr) (n3 c3:Nat) (A4:Option Addr) (n4 c4:Nat) (col:Nat->Nat) (S:Nat) (w0 w:World):Prop where
 q0:Col tU8 5 col 0 B S w A0 m0 c0 D
 q1:Col tI64 3 col 1 B1 S w A3 n3 c3 L
 q2:Col tSS 109 col 2 B1 S w A4 n4 c4 M
 hB:B<=S
 hS:S<=w.heap.size
 below:Below w0.heap.size w0 w
 hB0:w0.heap.size<=B
 hB1:B<=B1
 hB2:B1<=S
section
variable {B B1:Nat} {D:List UInt8} {L:List Int} {M:List SS} {A0:Option Addr} {m0 c0:Nat} {A3:Option Addr} {n3 c3:Nat} {A4:Option Addr} {n4 c4:Nat} {col:Nat->Nat} {S:Nat} {w0 w w':World} {F G:Nat->Prop} {wa wb:World} {A':Option Addr} {n' c':Nat}
theorem PR.call (h:PR B B1 D L M A0 m0 c0 A3 n3 c3 A4 n4 c4 col S w0 w) (hb:Below w.heap.size w w'):PR B B1 D L M A0 m0 c0 A3 n3 c3 A4 n4 c4 col S w0 w' :=
 ⟨h.q0.keep hb.size (fun b _ _ hl _=>hb.block b hl),h.q1.keep hb.size (fun b _ _ hl _=>hb.block b hl),h.q2.keep hb.size (fun b _ _ hl _=>hb.block b hl),h.hB,Nat.le_trans h.hS hb.size,h.below.trans (hb.mono h.below.size),h.hB0,h.hB1,h.hB2⟩
theorem PR.data {D':List UInt8} (h:PR B B1 D L M A0 m0 c0 A3 n3 c3 A4 n4 c4 col S w0 w) (hf:∀ b,F b->b<S/\B<=b/\col b=0) (hl:∀ b,A0.map (·.block)=some b->b<S/\col b=0) (hG:∀ b,G b->S<=b)
 (ha:ApdL tU8 5 (fun b=>(F b∨G b)/\b<wb.heap.size) wa w w' B A0 A' n' c' D'):PR B B1 D' L M A' n' c' A3 n3 c3 A4 n4 c4 (zz5 col 0 S) w'.heap.size w0 w':=by
 have hs:=ha.grown.size
 have h1:=h.hS;have h2:=h.hB
 exact⟨Col.apd hf hl hG h.hB h.hS ha,h.q1.past (by decide) hl ha.grown (by omega),h.q2.past (by decide) hl ha.grown (by omega),by omega,Nat.le_refl _,
  h.below.grown ha.grown h.below.size (fun q e=>by have:=(h.q0.lies e).1;have:=h.hB0;have:=h.hB1;omega),h.hB0,h.hB1,by have:=h.hB2;omega⟩
theorem PR.long {L':List Int} (h:PR B B1 D L M A0 m0 c0 A3 n3 c3 A4 n4 c4 col S w0 w) (hf:∀ b,F b->b<S/\B1<=b/\col b=1) (hl:∀ b,A3.map (·.block)=some b->b<S/\col b=1) (hG:∀ b,G b->S<=b)
 (ha:ApdL tI64 3 (fun b=>(F b∨G b)/\b<wb.heap.size) wa w w' B1 A3 A' n' c' L'):PR B B1 D L' M A0 m0 c0 A' n' c' A4 n4 c4 (zz5 col 1 S) w'.heap.size w0 w':=by
 have hs:=ha.grown.size
 have h1:=h.hS;have h2:=h.hB
 exact⟨h.q0.past (by decide) hl ha.grown (by omega),Col.apd hf hl hG h.hB2 h.hS ha,h.q2.past (by decide) hl ha.grown (by omega),by omega,Nat.le_refl _,
  h.below.grown ha.grown h.below.size (fun q e=>by have:=(h.q1.lies e).1;have:=h.hB0;have:=h.hB1;omega),h.hB0,h.hB1,by have:=h.hB2;omega⟩
theorem PR.stat {M':List SS} (h:PR B B1 D L M A0 m0 c0 A3 n3 c3 A4 n4 c4 col S w0 w) (hf:∀ b,F b->b<S/\B1<=b/\col b=2) (hl:∀ b,A4.map (·.block)=some b->b<S/\col b=2) (hG:∀ b,G b->S<=b)
 (ha:ApdL tSS 109 (fun b=>(F b∨G b)/\b<wb.heap.size) wa w w' B1 A4 A' n' c' M'):PR B B1 D L M' A0 m0 c0 A3 n3 c3 A' n' c' (zz5 col 2 S) w'.heap.size w0 w':=by
 have hs:=ha.grown.size
 have h1:=h.hS;have h2:=h.hB
 exact⟨h.q0.past (by decide) hl ha.grown (by omega),h.q1.past (by decide) hl ha.grown (by omega),Col.apd hf hl hG h.hB2 h.hS ha,by omega,Nat.le_refl _,
  h.below.grown ha.grown h.below.size (fun q e=>by have:=(h.q2.lies e).1;have:=h.hB0;have:=h.hB1;omega),h.hB0,h.hB1,by have:=h.hB2;omega⟩
theorem PR.setP (h:PR B B1 D L M A0 m0 c0 A3 n3 c3 A4 n4 c4 col S w0 w) {b j:Nat} (hb:b<B) (h0:w0.heap.size<=b) (v:Value):PR B B1 D L M A0 m0 c0 A3 n3 c3 A4 n4 c4 col S w0 (w.setCell ⟨b,j,none⟩ v) :=
 ⟨h.q0.setP hb v,h.q1.setP (Nat.lt_of_lt_of_le hb h.hB1) v,h.q2.setP (Nat.lt_of_lt_of_le hb h.hB1) v,h.hB,by simpa using h.hS,zzi h.below h0 v,h.hB0,h.hB1,h.hB2⟩
end
theorem jjT {cols:List CC} {rows:List RR} {n n2:Nat} {w wr:World} {A0:Option Addr} {m0 c0:Nat} {A3:Option Addr} {c3:Nat} {A4:Option Addr} {c4:Nat} {col:Nat->Nat} {S:Nat} {u0 u1 u2:Value} (hL:n=cols.length) (hL2:n2=rows.length)
 (h:PR (w.heap.size+2) (w.heap.size+2) (vv7 cols rows n) (qz9 cols rows n) (zqa cols rows n) A0 m0 c0 A3 n c3 A4 n c4 col S w wr) :
 qx3 cols rows w (.returned (.tuple #[.slice A0 m0 c0,.agg #[.int .i64 (n2:Int),.slice A3 n c3,.slice A4 n c4],.int .i64 0])) (((wr.setCell ⟨w.heap.size,0,none⟩ u0).setCell ⟨w.heap.size,1,none⟩ u1).setCell ⟨w.heap.size,2,none⟩ u2).drew:=by
 have h1:=(((h.setP (b:=w.heap.size) (j:=0) (by omega) zN u0).setP (b:=w.heap.size) (j:=1) (by omega) zN u1).setP (b:=w.heap.size) (j:=2) (by omega) zN u2).call ((zR).drew)
 subst hL hL2
 exact⟨A0,m0,c0,A3,_,c3,A4,_,c4,rfl,h1.q0.sl.weaken (fun b hb _=>by omega),h1.q1.sl.weaken (fun b hb _=>by omega),h1.q2.sl.weaken (fun b hb _=>by omega),h1.below⟩
theorem part_any (g:Nat) (F F2:Nat->Prop) (A A2:Option Addr) (n c n2 c2:Nat) (cols:List CC) (rows:List RR) (w:World) (hT:TabC g w) (h:Sl tCol F w A n c cols) (h2:Sl tRow F2 w A2 n2 c2 rows) (hm:∀ r∈rows,r.length=n) (hn:n<=40) (hn2:n2<=4096)
 (hE:∀ j,j<cols.length->colE (kd cols j) (colV rows j)=0) (hU:Lib.Utf8Tabs 0 1 w) :
 Calls Tryz.prog 55 #[.pointer (some ⟨g,0,none⟩),.slice A n c,.slice A2 n2 c2] w (qx3 cols rows w):=by
 have HH:=zH h;have HH2:=zH h2;have HL:=zH h.len;have HL2:=zH h2.len;have HM:=zH hm;have HN:=zH hn;have HN2:=zH hn2;have HE:=zH hE;have HU:=zH hU;have HT:=zH hT
 obtain⟨w4,h4⟩:=partW n2 w
 have HW:=zH h4
 obtain⟨gs,hgs⟩:∃ gs,gs=w.heap.size+1:=⟨_,rfl⟩
 have HGS:=zH hgs
 have hs0:=h4.s
 rw [<-hgs] at hs0
 have HS0:=zH hs0
 clear h h2 hm hn hn2 hE hU hT h4 hgs hs0
 go_enter Tryz.func55,Tryz.ntmps55
 go_upto_region 3 with fail
 rw [<-HW.out.eq,<-HGS.out]
 go_wp2_with fail
 go_loopw [9,24] (fun dv iv wr=>∃ (i:Nat) (A0:Option Addr) (m0 c0:Nat) (A3:Option Addr) (c3:Nat) (A4:Option Addr) (c4:Nat) (col:Nat->Nat) (S:Nat),i<=n/\iv=.int .i64 (i:Int)/\dv=.slice A0 m0 c0 /\
  PR (w.heap.size+2) (w.heap.size+2) (vv7 cols rows i) (qz9 cols rows i) (zqa cols rows i) A0 m0 c0 A3 i c3 A4 i c4 col S w wr /\
  wr.heap[gs]?=some (.cells #[.int .i64 (n2:Int),.slice A3 i c3,.slice A4 i c4] 97 (0,0))/\wr.heap[w.heap.size]?=some (.cells #[.int .i64 0,.slice none 0 0,.slice none 0 0] 97 (0,0))) (fun _ iv _=>n - (intOf iv).toNat)
 case atStart=>exact⟨0,none,0,0,none,0,none,0,fun _=>0,w.heap.size+2,Nat.zero_le _,rfl,rfl,⟨Col.nil_ _ _ _ _ _ _ _,Col.nil_ _ _ _ _ _ _ _,Col.nil_ _ _ _ _ _ _ _,Nat.le_refl _,by rw [HW.out.size];exact Nat.le_refl _,HW.out.below,by omega,Nat.le_refl _,Nat.le_refl _⟩,HS0.out,HW.out.r⟩
 case round =>
  obtain⟨i,A0,m0,c0,A3,c3,A4,c4,col,S,hi,rfl,rfl,hq,hs,hr⟩:=hrel
  have HQ:=zH hq;have HS:=zH hs;have HR:=zH hr;have HB:=zH hq.below
  have HS1:=zH hq.hB;have HS2:=zH hq.hS
  clear hq hs hr
  by_cases hlt:i<n
  · have hil:i<cols.length:=by rw [<-HL.out];exact hlt
    obtain⟨b,o,cs,rfl,_,_,hrep,hc⟩:=(HH.out.below HB.out zN).at_ hil (by decide)
    obtain⟨⟨nm,kv⟩,hx⟩:∃ x,x=cols[i]:=⟨_,rfl⟩
    rw [<-hx] at hrep
    obtain⟨rfl,-,-,-⟩:=xxo hrep
    dsimp only at hc
    have HKV:=zH (show kv=kd cols i from (kd_at hil hx).symm)
    obtain⟨g0,g1⟩:=uuD hc
    have i0:(0:Int)<=(i:Int):=by omega
    have i1:(i:Int)<(n:Int):=by omega
    have i2:(i:Int)<=40:=by have:=HN.out;omega
    clear hc hx hrep
    go_upto_region 7 with fail
    obtain⟨wq,hwq⟩:∃ wq,wq=wr.alloc (.cells #[.string nm,.int .i64 kv] 93):=⟨_,rfl⟩
    have hbq:Below wr.heap.size wr wq:=by rw [hwq];exact (zR).alloc zN _
    have HBQ:=zH hbq
    have HBW:=zH (HB.out.trans (hbq.mono HB.out.size))
    have HKH:Hid (wq.heap[wr.heap.size]?=some (.cells #[.string nm,.int .i64 kv] 93 (0,0))):=zH (by rw [hwq];exact heap_alloc_new wr _)
    have HKC:Hid (wq.cell? ⟨wr.heap.size,1,none⟩=some (.int .i64 kv)):=zH (by rw [hwq];exact by rw [zC (heap_alloc_new wr _)];rfl)
    have HZQ:Hid (wq.heap.size=wr.heap.size+1):=zH (by rw [hwq,zS])
    rw [<-hwq]
    clear g0 g1 hwq hbq
    obtain⟨wl,hwl⟩:∃ wl,wl=wr:=⟨_,rfl⟩
    rw [<-hwl] at HQ HS HR HB HS2 HBQ HKC HKH HZQ
    rw [<-hwl]
    clear hwl
    go_wp2_with fail
    go_loopw [13,15,31] (fun lv _ kx wx=>∃ (k:Nat) (A5:Option Addr) (c5:Nat),k<=n2/\kx=.int .i64 (k:Int)/\lv=.slice A5 k c5/\OwnF tVV 74 (fun _=>False) wx wq.heap.size A5 k c5 (colV (rows.take k) i)/\Below wq.heap.size wq wx) (fun _ _ kx _=>n2 - (intOf kx).toNat)
    case atStart=>exact⟨0,none,0,Nat.zero_le _,rfl,rfl,OwnF.nil_ _ _ _ _ _,zR⟩
    case round =>
     obtain⟨k,A5,c5,hk,rfl,rfl,ho,hbx⟩:=hrel
     have HO:=zH ho;have HBX:=zH hbx
     have HBY:=zH (HBW.out.trans (hbx.mono HBW.out.size))
     clear ho hbx
     by_cases hlt2:k<n2
     · have hkl:k<rows.length:=by rw [<-HL2.out];exact hlt2
       obtain⟨b3,o3,cs3,rfl,_,_,hrep,hc⟩:=(HH2.out.below HBY.out zN).at_ hkl (by decide)
       obtain⟨r,hr⟩:∃ r,r=rows[k]:=⟨_,rfl⟩
       rw [<-hr] at hrep
       have HR3:=zH hr
       obtain⟨A6,n6,c6,rfl,h6⟩:=hrep
       have hn6:n6=n:=by rw [h6.len,hr];exact HM.out _ (List.getElem_mem hkl)
       subst hn6
       have hin:i<r.length:=by rw [<-h6.len];exact hlt
       obtain⟨b7,o7,cs7,rfl,_,_,hrep2,hc2⟩:=h6.at_ hin (by decide)
       obtain⟨v,hv⟩:∃ v,v=r[i]:=⟨_,rfl⟩
       rw [<-hv] at hrep2
       have HV:=zH hv
       obtain⟨rfl,hok⟩:=hrep2
       have HOK:=zH hok
       have y:=hc 0 _ rfl
       have y:wr.cell? ⟨b3,o3+k,none⟩=some (.slice (some ⟨b7,o7,none⟩) n6 c6):=by
        have e:o3+(k*tRow.size+0)=o3+k:=by show o3+(k*1+0)=o3+k;omega
        rw [e] at y;exact y
       obtain⟨y0,y1,y2⟩:=yyj hc2
       have k0:(0:Int)<=(k:Int):=by omega
       have k1:(k:Int)<(n2:Int):=by omega
       have k2:(k:Int)<=4096:=by have:=HN2.out;omega
       have HSN:=zH (colV_snoc hkl HR3.out hin HV.out)
       clear hc hc2 hr hv hok h6
       go_wp2_with (first
        | (at_builtin;refine apl1 (T:=tVV) elemVV wr wq rfl (.tmp 35) (.tmp 40) rfl wq.heap.size A5 k c5 _ (by rfl) (fun _=>False) (fun _=>False) HO.out HBX.out zN _ (by rfl) [.bool v.null,.int .i64 v.n,.string v.s] v ⟨rfl,HOK.out⟩ 74 rfl (fun _ _ _ _ h4=>h4) (by have:=HN2.out;omega) ?_;intro A8 c8 w5 h5)
        | fail)
       go_roundw
       case rel=>exact⟨k+1,A8,c8,by omega,by go_num,rfl,by rw [HSN.out];exact h5.own.flat flatVV,h5.below⟩
       case measure=>simp [intOf];omega
     · obtain rfl:k=n2:=by omega
       have e1:rows.take k=rows:=zL (by rw [<-HL2.out];exact Nat.le_refl _)
       rw [e1] at HO
       obtain⟨V,hV⟩:∃ V,V=colV rows i:=⟨_,rfl⟩
       obtain⟨⟨q1,q2,q3,ss⟩,hcr⟩:∃ cr,cr=colR kv V:=⟨_,rfl⟩
       have hVl:V.length=k:=by rw [hV,qxK,HL2.out]
       have HVL:=zH hVl
       have hcp:=cput_any kv _ A5 k c5 V wr (by rw [hV];exact HO.out.sl) HN2.out (zzb HU.out HBY.out)
       have hE0:colE kv V=0:=by rw [hV,HKV.out];exact HE.out i hil
       unfold vvM at hcp
       rw [<-hcr,hE0] at hcp
       dsimp only at hcp
       have HCP:=zH hcp
       have hwl:=qx1 kv V (by rw [hVl];exact HN2.out)
       have hfew:=qx0 kv V
       rw [<-hcr] at hwl hfew
       dsimp only at hwl hfew
       have hch:vvn q1 q2 q3 ss=chJ cols rows i:=by unfold chJ chB;rw [<-HKV.out,<-hV,<-hcr]
       have hchl:=chB_len kv V (by rw [hVl];exact HN2.out)
       have hchl:(vvn q1 q2 q3 ss).length<=5000004:=by rw [hch];unfold chJ;rw [<-HKV.out,<-hV];exact hchl
       have hst:zz3 kv V=zz3 (kd cols i) (colV rows i):=by rw [HKV.out,hV]
       have hO:OwnF tVV 74 (fun _=>False) wr wq.heap.size A5 k c5 V:=by rw [hV];exact HO.out
       have HOV:=zH hO
       have HFIT:=zH (stats_fit kv V (sl_ok hO.sl) (by rw [hVl];exact HN2.out))
       have HWL:=zH hwl;have HFEW:=zH hfew;have HCH:=zH hch;have HCHL:=zH hchl;have HST:=zH hst
       have kc:=zzh HBX.out HKC.out
       have HDL:=zH (vv8 cols rows (by rw [<-HL2.out];exact HN2.out) i)
       clear e1 hcr hcp hwl hfew hch hchl hE0 hV hst hO HO hVl
       go_upto_region 15 with (first
        | (go_at_call 12;refine HCP.out.mono ?_;rintro e w5 ⟨A6,n6,c6,rfl,hs6,hb5⟩;have HS6:=zH hs6;have HB5:=zH hb5;clear hs6 hb5)
        | fail)
       obtain⟨w6,hw6⟩:∃ w6,w6=w5.alloc (.cells #[.int .i64 q1,.int .i64 q2,.int .i64 q3,.slice A6 n6 c6] 27):=⟨_,rfl⟩
       rw [<-hw6]
       have hg6:w6.heap[w5.heap.size]?=some (.cells #[.int .i64 q1,.int .i64 q2,.int .i64 q3,.slice A6 n6 c6] 27 (0,0)):=by rw [hw6];exact heap_alloc_new w5 _
       have k0:w6.cell? ⟨w5.heap.size,0,none⟩=some (.int .i64 q1):=by rw [zC hg6];rfl
       have k1:w6.cell? ⟨w5.heap.size,1,none⟩=some (.int .i64 q2):=by rw [zC hg6];rfl
       have k2:w6.cell? ⟨w5.heap.size,2,none⟩=some (.int .i64 q3):=by rw [zC hg6];rfl
       have k3:w6.cell? ⟨w5.heap.size,3,none⟩=some (.slice A6 n6 c6):=by rw [zC hg6];rfl
       have HB6:=zH (show Below wr.heap.size wr w6 by rw [hw6];exact HB5.out.alloc HB5.out.size _)
       have HBY6:=zH (HBY.out.trans (HB6.out.mono HBY.out.size))
       have HS66:Hid (Sl yyE (fun b=>wr.heap.size<=b) w6 A6 n6 c6 ss):=zH (by rw [hw6];exact HS6.out.alloc _)
       have HN6:Hid (n6<=1000):=zH (by rw [HS6.out.len];have:=HFEW.out;omega)
       have HBX6:=zH (HBX.out.trans (HB6.out.mono HBX.out.size))
       clear hw6 hg6 kc
       go_upto_region 16 with (first
        | (go_at_call 29;refine (qz6 g q1 q2 q3 _ A6 n6 c6 ss _ (HT.out.keep HBY6.out) HS66.out HN6.out (by have:=HWL.out;omega)).mono ?_;rintro e w7 ⟨A7,n7,c7,rfl,ho7,hb7⟩;have HO7:=zH ho7;have HB7:=zH hb7;clear ho7 hb7)
        | fail)
       clear k0 k1 k2 k3
       have HBX7:=zH (HBX6.out.trans (HB7.out.mono HBX6.out.size))
       have HBY7:=zH (HBY6.out.trans (HB7.out.mono HBY6.out.size))
       have HBL7:=zH (HBQ.out.trans (HBX7.out.mono HBQ.out.size))
       have hS7:S<=w7.heap.size:=Nat.le_trans HS2.out HBL7.out.size
       have hq7:=HQ.out.call HBL7.out
       have HQ7:=zH hq7
       have hq0:=hq7.q0
       have hm0:m0<=200000160:=by
        have h0:=hq0.len
        have h1:=HDL.out
        rw [<-h0] at h1
        exact Nat.le_trans h1 (Nat.mul_le_mul_right 5000004 (show i<=40 by omega))
       have hn7:n7<=5000004:=by rw [HO7.out.len];exact HCHL.out
       obtain⟨F0,o0,f0,l0⟩:=hq0
       have HSL7:Hid (Sl tU8 (fun b=>S<=b) w7 A7 n7 c7 (vvn q1 q2 q3 ss)):=zH (HO7.out.own.sl.weaken (fun b hb _=>by
        rcases hb with hb | hb
        · exact hb.elim
        · have h1:=hb.2;have h2:=HBX6.out.size;have h3:=HS2.out;have h4:=HZQ.out;omega))
       have O0:=zH o0;have F0':=zH f0;have L0:=zH l0;have HS7:=zH hS7;have HM0:=zH hm0;have HN7:=zH hn7
       have HBS:Hid (w.heap.size+2<=w7.heap.size):=zH (by have:=HS1.out;omega)
       clear o0 f0 l0 hq7 hS7 hm0 hn7
       go_upto_region 17 with (first
        | (at_builtin;refine apl (T:=tU8) zzA w7 w7 rfl (.tmp 57) (.tmp 58) rfl (w.heap.size+2) A0 m0 c0 _ (by rfl) F0 (fun b=>S<=b) O0.out (zR) HBS.out A7 n7 c7 _ (by rfl) HSL7.out (fun b hb _ _ hg=>by have:=(L0.out b (by rw [hb];rfl)).1;omega) (by have:=HM0.out;have:=HN7.out;omega) ?_;intro A8 c8 w8 h8)
        | fail)
       have hq8:=HQ7.out.data F0'.out L0.out (fun _ h=>h) h8
       rw [HCH.out,<-kqz] at hq8
       have hg8:w8.heap[gs]?=some (.cells #[.int .i64 (k:Int),.slice A3 i c3,.slice A4 i c4] 97 (0,0)):=(yya HQ7.out.q0 h8.grown (Nat.lt_of_lt_of_le (zzc HS.out) HBL7.out.size) (.inl (by have:=HGS.out;omega))).trans ((HBL7.out.block _ (zzc HS.out)).trans HS.out)
       have hr8:w8.heap[w.heap.size]?=some (.cells #[.int .i64 0,.slice none 0 0,.slice none 0 0] 97 (0,0)):=(yya HQ7.out.q0 h8.grown (Nat.lt_of_lt_of_le (zzc HR.out) HBL7.out.size) (.inl (by omega))).trans ((HBL7.out.block _ (zzc HR.out)).trans HR.out)
       have hv7:=(HOV.out.keepB (HB6.out.trans (HB7.out.mono HB6.out.size))).sl.weaken (F':=fun b=>S<=b) (fun b hb _=>by
        rcases hb with hb | hb
        · exact hb.elim
        · have h1:=hb.2;have h3:=HS2.out;have h4:=HZQ.out;omega)
       have hv8:=hv7.keep h8.grown.size (fun b hb hl=>yya HQ7.out.q0 h8.grown hl (.inr (.inl hb)))
       have hk8:w8.heap[wl.heap.size]?=some (.cells #[.string nm,.int .i64 kv] 93 (0,0)):=(yya HQ7.out.q0 h8.grown (Nat.lt_of_lt_of_le (zzc HKH.out) HBX7.out.size) (.inr (.inl HS2.out))).trans ((HBX7.out.block _ (zzc HKH.out)).trans HKH.out)
       obtain⟨col8,hcol8⟩:∃ q,q=zz5 col 0 S:=⟨_,rfl⟩
       rw [<-hcol8] at hq8
       have HC8:Hid (∀ b,S<=b->col8 b=0):=zH (fun b hb=>by rw [hcol8];exact yyp _ _ _ _ hb)
       obtain⟨z,hz⟩:∃ z,z=zz3 kv V:=⟨_,rfl⟩
       have HZ:=zH (hz.trans HST.out)
       have HFZ:Hid z.fit:=zH (by rw [hz];exact HFIT.out)
       have HSO:Hid (∀ (F:Nat->Prop) (w:World),Sl tVV F w A5 k c5 V->Calls Tryz.prog 112 #[.int .i64 kv,.slice A5 k c5] w fun e w'=>e=.returned (.agg #[.int .i64 z.count,.bool z.hasNull,.bool z.min.null,.int .i64 z.min.n,.string z.min.s,.bool z.max.null,.int .i64 z.max.n,.string z.max.s,.int .i64 z.sum,.bool z.over])/\Below w.heap.size w w'):=zH (by rw [hz];exact fun F w h=>sof_any kv F A5 k c5 V w h HN2.out)
       have HQ8:=zH hq8;have HG8:=zH hg8;have HR8:=zH hr8;have HV8:=zH hv8;have HK8:=zH hk8
       have HBS8:Hid (w.heap.size+2<=w8.drew.heap.size):=zH (Nat.le_trans hq8.hB hq8.hS)
       obtain⟨F1,o1,f1,l1⟩:=hq8.q1
       have O1:=zH o1;have F1':=zH f1;have L1:=zH l1
       have HM8:Hid ((n7:Int)=((chJ cols rows i).length:Int)):=zH (by rw [<-HCH.out,<-HO7.out.len])
       clear hq8 hg8 hr8 hv7 hv8 hk8 hcol8 hz o1 f1 l1 h8
       have d1:w8.drew.cell? ⟨gs,1,none⟩=some (.slice A3 i c3):=by rw [show w8.drew.cell? ⟨gs,1,none⟩=w8.cell? ⟨gs,1,none⟩ from rfl,zC HG8.out];rfl
       have d2:w8.drew.cell? ⟨gs,2,none⟩=some (.slice A4 i c4):=by rw [show w8.drew.cell? ⟨gs,2,none⟩=w8.cell? ⟨gs,2,none⟩ from rfl,zC HG8.out];rfl
       have kk:w8.drew.cell? ⟨wl.heap.size,1,none⟩=some (.int .i64 kv):=by rw [show w8.drew.cell? ⟨wl.heap.size,1,none⟩=w8.cell? ⟨wl.heap.size,1,none⟩ from rfl,zC HK8.out];rfl
       have e1:∀ o:Obj,(w8.alloc o).cell? ⟨gs,1,none⟩=some (.slice A3 i c3):=fun o=>by rw [zC ((Below.heap_alloc w8 o _ (zzc HG8.out)).trans HG8.out)];rfl
       have e2:∀ o:Obj,(w8.alloc o).cell? ⟨gs,2,none⟩=some (.slice A4 i c4):=fun o=>by rw [zC ((Below.heap_alloc w8 o _ (zzc HG8.out)).trans HG8.out)];rfl
       have e3:∀ o:Obj,(w8.alloc o).cell? ⟨wl.heap.size,1,none⟩=some (.int .i64 kv):=fun o=>by rw [zC ((Below.heap_alloc w8 o _ (zzc HK8.out)).trans HK8.out)];rfl
       have HGW:Hid (gs≠wl.heap.size):=zH (by have:=HGS.out;have:=HS1.out;have:=HS2.out;omega)
       refine regL [(some 5,fun w'=>w'.cell? ⟨gs,1,none⟩=some (.slice A3 i c3)),(some 13,fun w'=>w'.cell? ⟨gs,2,none⟩=some (.slice A4 i c4)),(some 11,(fun w'=>w'.cell? ⟨wl.heap.size,1,none⟩=some (.int .i64 kv)))] (by kernel_rfl) ?_ (fun hHeld=>?_)
       · exact⟨fun h=>(by first | exact gone (c:=5) (by decide +kernel) h | (dsimp only;with_reducible exact d1) | (dsimp only;with_reducible exact e1 _) | exact e1 _ | fail),fun h=>(by first | exact gone (c:=13) (by decide +kernel) h | (dsimp only;with_reducible exact d2) | (dsimp only;with_reducible exact e2 _) | (dsimp only;with_reducible exact d29) | (dsimp only;with_reducible exact d210) | (dsimp only;with_reducible exact da10 _) | exact e2 _ | fail),fun h=>(by first | exact gone (c:=11) (by decide +kernel) h | (dsimp only;with_reducible exact kk) | (dsimp only;with_reducible exact e3 _) | (dsimp only;with_reducible exact kk9) | exact e3 _ | fail),trivial⟩
       iterate 7
        all_goals
         repeat ((first | (refine tkP 0 (oi:=⟨_,_,_,_,_,_⟩) (v:=?_) rfl (by decide +kernel) rfl (fun _ _ _ h=>h) rfl hHeld ?_ ?_) | (refine tkL 1 0 rfl (oi:=⟨_,_,_,_,_,_⟩) (v:=?_) rfl (by decide +kernel) rfl (fun _ _ _ h=>h) rfl hHeld ?_ ?_) | (refine tkP 2 (oi:=⟨_,_,_,_,_,_⟩) (v:=?_) rfl (by decide +kernel) rfl (fun _ _ _ h=>h) rfl hHeld ?_ ?_) | (refine tkP 3 (oi:=⟨_,_,_,_,_,_⟩) (v:=?_) rfl (by decide +kernel) rfl (fun _ _ _ h=>h) rfl hHeld ?_ ?_) | (refine tkP 6 (oi:=⟨_,_,_,_,_,_⟩) (v:=?_) rfl (by decide +kernel) rfl (fun _ _ _ h=>h) rfl hHeld ?_ ?_) | (refine tkL 7 1 rfl (oi:=⟨_,_,_,_,_,_⟩) (v:=?_) rfl (by decide +kernel) rfl (fun _ _ _ h=>h) rfl hHeld ?_ ?_) | (refine tkP 8 (oi:=⟨_,_,_,_,_,_⟩) (v:=?_) rfl (by decide +kernel) rfl (fun _ _ _ h=>h) rfl hHeld ?_ ?_) | (refine tkL 9 2 rfl (oi:=⟨_,_,_,_,_,_⟩) (v:=?_) rfl (by decide +kernel) rfl (fun _ _ _ h=>h) rfl hHeld ?_ ?_) | (refine tkP 10 (oi:=⟨_,_,_,_,_,_⟩) (v:=?_) rfl (by decide +kernel) rfl (fun _ _ _ h=>h) rfl hHeld ?_ ?_) | (refine tkP 14 (oi:=⟨_,_,_,_,_,_⟩) (v:=?_) rfl (by decide +kernel) rfl (fun _ _ _ h=>h) rfl hHeld ?_ ?_) | (refine tkP 16 (oi:=⟨_,_,_,_,_,_⟩) (v:=?_) rfl (by decide +kernel) rfl (fun _ _ _ h=>h) rfl hHeld ?_ ?_));rotate_left;(focus (intro w;(try intro hSw);(try dsimp only at hSw);go_simp;try with_reducible rfl));intro hHeld;(try simp only [Act.put]);(try simp only [List.setIfInBounds_toArray]);(try simp only [List.set_cons_succ]);(try simp only [List.set_cons_zero]))
         first | (refine rd1 4 (o:=⟨_,_,_,_,_,_⟩) (by decide +kernel) rfl (fun K hK=>?_)) | (refine rd1 5 (o:=⟨_,_,_,_,_,_⟩) (by decide +kernel) rfl (fun K hK=>?_)) | (refine rd1 11 (o:=⟨_,_,_,_,_,_⟩) (by decide +kernel) rfl (fun K hK=>?_)) | (refine rd1 12 (o:=⟨_,_,_,_,_,_⟩) (by decide +kernel) rfl (fun K hK=>?_)) | (refine rd1 13 (o:=⟨_,_,_,_,_,_⟩) (by decide +kernel) rfl (fun K hK=>?_)) | (refine rd1 15 (o:=⟨_,_,_,_,_,_⟩) (by decide +kernel) rfl (fun K hK=>?_)) | (refine rd1 17 (o:=⟨_,_,_,_,_,_⟩) (by decide +kernel) rfl (fun K hK=>?_))
        all_goals
         first | (refine atD 65 rfl ?_;refine xxM (T:=tI64) vvJ w8.drew w8.drew rfl (.tmp 61) (.tmp 64) rfl (w.heap.size+2) A3 i c3 (qz9 cols rows i) (by rfl) F1 (fun _=>False) O1.out.drew (zR) HBS8.out _ (by rfl) [.int .i64 (n7:Int)] (n7:Int) ⟨rfl,by have:=HN7.out;omega⟩ 3 rfl (fun _ _ _ _ h=>h) (by omega) ?_;intro A9 c9 w9 h9;have hqa:=HQ8.out.call (w':=w8.drew.alloc (.cells #[.int .i64 (n7:Int)] 3)) (((zR).drew).alloc zN _);have hp9:∀ b,b<w8.heap.size->(b<w.heap.size+2∨col8 b≠1)->w9.heap[b]?=w8.heap[b]?:=fun b hl hb=>(yya hqa.q1 h9.grown (by rw [zS];exact Nat.lt_succ_of_lt hl) (hb.elim .inl (fun h=>.inr (.inr h)))).trans (Below.heap_alloc w8.drew _ b hl);have hq9:=hqa.long F1'.out L1.out (fun _ h=>h.elim) h9;have hg9:=(hp9 gs (zzc HG8.out) (.inl (by have:=HGS.out;omega))).trans HG8.out;have hr9:=(hp9 w.heap.size (zzc HR8.out) (.inl (by omega))).trans HR8.out;have hk9:=(hp9 wl.heap.size (zzc HK8.out) (.inr (by rw [HC8.out _ HS2.out];decide))).trans HK8.out;have hv9:=HV8.out.keep (by have:=h9.grown.size;rw [zS] at this;exact Nat.le_trans (Nat.le_succ _) this) (fun b hb hl=>hp9 b hl (.inr (by rw [HC8.out _ hb];decide)));have HQ9:=zH hq9;have HG9:=zH hg9;have HR9:=zH hr9;have HV9:=zH hv9;have d29:w9.cell? ⟨gs,2,none⟩=some (.slice A4 i c4):=(by rw [zC hg9];rfl);have kk9:w9.cell? ⟨wl.heap.size,1,none⟩=some (.int .i64 kv):=(by rw [zC hk9];rfl);have HK9:=zH hk9;clear hqa hp9 hq9 hg9 hr9 hk9 hv9 h9) | (refine atD 71 rfl ?_;refine uuI rfl 112 Tryz.func112 (by kernel_rfl) (by kernel_rfl) (.tmp 69) (.tmp 70) _ rfl (.int .i64 kv) (.slice A5 k c5) rfl rfl (HSO.out _ _ HV9.out) ?_;rintro e w10 ⟨rfl,hb10⟩;have hq10:=HQ9.out.call hb10;have hg10:=(hb10.block _ (zzc HG9.out)).trans HG9.out;have hr10:=(hb10.block _ (zzc HR9.out)).trans HR9.out;have HQ10:=zH hq10;have HG10:=zH hg10;have HR10:=zH hr10;have d210:w10.cell? ⟨gs,2,none⟩=some (.slice A4 i c4):=(by rw [zC hg10];rfl);have hk10:=(hb10.block _ (zzc HK9.out)).trans HK9.out;have HK10:=zH hk10;have kk10:w10.cell? ⟨wl.heap.size,1,none⟩=some (.int .i64 kv):=(by rw [zC hk10];rfl);have ka10:∀ o:Obj,(w10.alloc o).cell? ⟨wl.heap.size,1,none⟩=some (.int .i64 kv):=(fun o=>by rw [zC ((Below.heap_alloc w10 o _ (zzc hk10)).trans hk10)];rfl);clear hk10;have da10:∀ o:Obj,(w10.alloc o).cell? ⟨gs,2,none⟩=some (.slice A4 i c4):=(fun o=>by rw [zC ((Below.heap_alloc w10 o _ (zzc hg10)).trans hg10)];rfl);obtain⟨F2',o2,f2,l2⟩:=hq10.q2;have O2:=zH o2;have F2'':=zH f2;have L2:=zH l2;have HBS10:Hid (w.heap.size+2<=w10.heap.size):=zH (Nat.le_trans hq10.hB hq10.hS);clear hq10 hg10 hr10 hb10 o2 f2 l2;refine⟨_,rfl,?_⟩) | (refine atD 73 rfl ?_;refine xxM (T:=tSS) elemSS w10 w10 rfl (.tmp 67) (.tmp 72) rfl (w.heap.size+2) A4 i c4 (zqa cols rows i) (by rfl) F2' (fun _=>False) O2.out (zR) HBS10.out _ (by rfl) (zz4 z) z ⟨rfl,HFZ.out⟩ 109 rfl (fun _ _ _ _ h=>h) (by omega) ?_;intro A10 c10 w11 h11;have hqa:=HQ10.out.call (w':=w10.alloc (.cells (zz4 z).toArray 109)) ((zR).alloc zN _);have hp11:∀ b,b<w10.heap.size->(b<w.heap.size+2∨zz5 col8 1 w8.heap.size b≠2)->w11.heap[b]?=w10.heap[b]?:=fun b hl hb=>(yya hqa.q2 h11.grown (by rw [zS];exact Nat.lt_succ_of_lt hl) (hb.elim .inl (fun h=>.inr (.inr h)))).trans (Below.heap_alloc w10 _ b hl);have hq11:=hqa.stat F2''.out L2.out (fun _ h=>h.elim) h11;have hg11:=(hp11 gs (zzc HG10.out) (.inl (by have:=HGS.out;omega))).trans HG10.out;have hr11:=(hp11 w.heap.size (zzc HR10.out) (.inl (by omega))).trans HR10.out;have HQ11:=zH hq11;have HG11:=zH hg11;have HR11:=zH hr11;have z1:w11.cell? ⟨gs,1,none⟩=some (.slice A3 i c3):=(by rw [zC hg11];rfl);have z2:w11.cell? ⟨gs,2,none⟩=some (.slice A4 i c4):=(by rw [zC hg11];rfl);have y1:=zF hg11 1;have y2:=zF hg11 2;have hk11:=(hp11 wl.heap.size (zzc HK10.out) (.inr (by rw [xxF _ _ _ _ (zzc HK8.out),HC8.out _ HS2.out];decide))).trans HK10.out;have kk11:w11.cell? ⟨wl.heap.size,1,none⟩=some (.int .i64 kv):=(by rw [zC hk11];rfl);have ks11:=(World.cell?_setCell_far w11 ⟨gs,1,none⟩ ⟨wl.heap.size,1,none⟩ (.slice A9 (i+1) c9) HGW.out).trans kk11;have kt11:=(World.cell?_setCell_far (w11.setCell ⟨gs,1,none⟩ (.slice A9 (i+1) c9)) ⟨gs,2,none⟩ ⟨wl.heap.size,1,none⟩ (.slice A10 (i+1) c10) HGW.out).trans ks11;clear hk11 hqa hp11 hq11 hg11 hr11 h11) | (go_simp;(fail)) | go_simp
         refine hK.out _ _ ?_ (fun hHeld=>?_)
         · (try dsimp only);exact⟨fun h=>(by first | exact gone (c:=5) (by decide +kernel) h | (dsimp only;with_reducible exact d1) | (dsimp only;with_reducible exact e1 _) | exact e1 _ | fail),fun h=>(by first | exact gone (c:=13) (by decide +kernel) h | (dsimp only;with_reducible exact d2) | (dsimp only;with_reducible exact e2 _) | (dsimp only;with_reducible exact d29) | (dsimp only;with_reducible exact d210) | (dsimp only;with_reducible exact da10 _) | exact e2 _ | fail),fun h=>(by first | exact gone (c:=11) (by decide +kernel) h | (dsimp only;with_reducible exact kk) | (dsimp only;with_reducible exact e3 _) | (dsimp only;with_reducible exact kk9) | exact e3 _ | fail),trivial⟩
         clear hK K;(try simp only [Act.put]);(try simp only [List.setIfInBounds_toArray]);(try simp only [List.set_cons_succ]);(try simp only [List.set_cons_zero])
       all_goals
        refine xxI (by decide +kernel) ?_ _
        go_wp2_with fail
        go_roundw
        case rel =>
         have hgs:=HGS.out
         exact⟨i+1,A8,m0+n7,c8,A9,c9,A10,c10,_,_,by omega,by go_num,rfl,by rw [xqW,xqX,<-HM8.out,<-HZ.out];exact (HQ11.out.setP (by omega) (by omega) _).setP (by omega) (by omega) _,zza (zza HG11.out rfl) rfl,(Below.heap_setCell _ _ _ _ (by show w.heap.size≠gs;omega)).trans ((Below.heap_setCell _ _ _ _ (by show w.heap.size≠gs;omega)).trans HR11.out)⟩
        case measure=>simp [intOf];omega
  · obtain rfl:i=n:=by omega
    have hs:=HS.out;have hr:=HR.out
    have c0':wr.cell? ⟨gs,0,none⟩=some (.int .i64 (n2:Int)):=by rw [zC hs];rfl
    have c1':wr.cell? ⟨gs,1,none⟩=some (.slice A3 i c3):=by rw [zC hs];rfl
    have c2':wr.cell? ⟨gs,2,none⟩=some (.slice A4 i c4):=by rw [zC hs];rfl
    have z0:wr.cell? ⟨w.heap.size,0,none⟩=some (.int .i64 0):=by rw [zC hr];rfl
    have z1:wr.cell? ⟨w.heap.size,1,none⟩=some (.slice none 0 0):=by rw [zC hr];rfl
    have z2:wr.cell? ⟨w.heap.size,2,none⟩=some (.slice none 0 0):=by rw [zC hr];rfl
    have y0:=zF hr 0
    have y1:=zF hr 1
    have y2:=zF hr 2
    clear hs hr
    go_wp2_with fail
    go_region
    all_goals
     go_wp2_with fail
     refine bodyPost_ret (zqf rfl _ _ w.heap.size 97 #[.int .i64 (n2:Int),.slice A3 i c3,.slice A4 i c4] (0,0) _ rfl (zza (zza (zza HR.out rfl) rfl) rfl) Tryz.underlying97 rfl (by kernel_rfl)) rfl ?_
     exact jjT HL.out HL2.out HQ.out
end
section
open Go Go.RowKit
theorem kqF (F:Nat->Prop) (A:Option Addr) (n c:Nat) (l:List ST) (w:World) (h:Sl tSt F w A n c l) (hn:n<=4096) :
 Calls Tryz.prog 23 #[.slice A n c] w fun e w'=>∃ A2 c2,e=.returned (.slice A2 n c2)/\Sl tSt (fun b=>F b∨w.heap.size<=b) w' A2 n c2 l/\Below w.heap.size w w':=by
 have HL:=zH h.len;have HN:=zH hn
 have HH:=zH (h.weaken (F':=fun b=>F b/\b<w.heap.size) fun b hb hl=>⟨hb,hl⟩)
 clear h hn
 go_enter Tryz.func23,Tryz.ntmps23
 go_wp2_with fail
 go_loopw [3,4] (fun ov iv wr=>∃ (i:Nat) (A2:Option Addr) (c2:Nat),i<=n/\iv=.int .i64 (i:Int)/\ov=.slice A2 i c2/\OwnF tSt 106 (fun b=>F b/\b<w.heap.size) wr w.heap.size A2 i c2 (l.take i)/\Below w.heap.size w wr) (fun _ iv _=>n - (intOf iv).toNat)
 case atStart=>exact⟨0,_,_,Nat.zero_le _,rfl,rfl,OwnF.empty _ _ _ _ _ zN (fun _ hb=>hb.2),(zR).alloc zN _⟩
 case round =>
  obtain⟨i,A2,c2,hi,rfl,rfl,ho,hb⟩:=hrel
  have HO:=zH ho;have HB:=zH hb
  clear ho hb
  by_cases hlt:i<n
  · have hil:i<l.length:=by rw [<-HL.out];exact hlt
    obtain⟨b,o,cs,rfl,hbF,hbl,hrep,hc⟩:=(HH.out.below HB.out zN).at_ hil (by decide)
    obtain⟨x,hx⟩:∃ x,x=l[i]:=⟨_,rfl⟩
    rw [<-hx] at hrep
    have HR0:=zH hrep
    obtain⟨A3,n3,c3,A4,n4,c4,rfl,h3,h4⟩:=yyg hrep
    obtain⟨rw_,lg,st⟩:=x
    obtain⟨g0,g1,g2⟩:=yyj hc
    have g0:wr.cell? ⟨b,o+i*3,none⟩=some (.int .i64 rw_):=g0
    have HX:=zH (show l.take (i+1)=l.take i++[(rw_,lg,st)] by rw [zT hil,<-hx])
    have HR:Hid (tSt.rep (fun b=>F b/\b<w.heap.size) wr [.int .i64 rw_,.slice A3 n3 c3,.slice A4 n4 c4] (rw_,lg,st)):=HR0
    have HBF:=zH hbF
    have i0:(0:Int)<=(i:Int):=by omega
    have i1:(i:Int)<(n:Int):=by omega
    have i2:(i:Int)<=4096:=by have:=HN.out;omega
    have HM:Hid (i<=34359738368):=zH (by omega)
    clear hc hx hrep h3 h4 hbF HR0
    go_wp2_with fail
    go_region_held3 (fun w'=>w'.cell? ⟨b,o+i*3,none⟩=some (.int .i64 rw_)/\w'.cell? ⟨b,o+i*3+1,none⟩=some (.slice A3 n3 c3)/\w'.cell? ⟨b,o+i*3+2,none⟩=some (.slice A4 n4 c4))
     (first | go_keep | (go_split_ands;refine⟨?_,?_,?_⟩ <;> exact h5.grown.cell (by assumption) (fun e=>by have h1:w.heap.size<=b:=(HO.out.lies' e.symm).2.1;have h2:=HBF.out.2;omega)))
     (first
       | (refine xxM (T:=tSt) elemRSt wr.drew w rfl (.tmp 12) (.tmp 29) rfl w.heap.size A2 i c2 (l.take i) rfl (fun b=>F b/\b<w.heap.size) (fun b=>F b/\b<w.heap.size) HO.out.drew (HB.out.drew) zN _ rfl [.int .i64 rw_,.slice A3 n3 c3,.slice A4 n4 c4] (rw_,lg,st) (tSt.keep HR.out zN (fun _ _ _=>rfl)) 106 rfl (fun b _ hB _ h=>by have:=h.2;omega) HM.out ?_
          intro A5 c5 w5 h5))
    all_goals
     go_wp2_with fail
     go_roundw
     case rel=>exact⟨i+1,A5,c5,by omega,by go_num,rfl,by rw [HX.out];exact h5.own.weaken (fun b hb _=>hb.1.elim id id) (fun b _ hB _ h=>by have:=h.2;omega),h5.below⟩
     case measure=>simp [intOf];omega
  · obtain rfl:i=n:=by omega
    have e1:l.take i=l:=zL (by rw [<-HL.out];exact Nat.le_refl _)
    rw [e1] at HO
    clear e1
    go_wp2_with fail
    go_ret
    exact⟨A2,c2,rfl,HO.out.sl.weaken (fun b hb _=>hb.elim (fun h=>.inl h.1) (fun h=>.inr h.2)),HB.out⟩
end
end Go.Proofs.YtpmglcachffojaaGreatDoor
