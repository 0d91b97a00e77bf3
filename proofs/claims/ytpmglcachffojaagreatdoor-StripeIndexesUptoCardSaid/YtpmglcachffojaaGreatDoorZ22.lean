/- A part of what Indexes leans on. -/
import Derived.Test.YtpmglcachffojaaGreatDoorZ21
set_option maxRecDepth 100000
set_option maxHeartbeats 16000000
namespace Go.Proofs.YtpmglcachffojaaGreatDoor
section
open Go Go.RowKit
theorem step_apbL {ops:Array Oper} {o:Oper} {a:Act} {w:World} {Q:Exit->Act->World->Prop} {K:Act->World->Prop} {E':Prop} (hgd:o.guard=none) (s x:Operand) (ho:o.op=.call { callee:=.builtin .append,args:=#[s,x],argTypes:=#[41,41] }) (B:Nat) (A:Option Addr) (n c:Nat) (xs:List UInt8) (hs:a.eval s=.slice A n c)
 (hown:OwnB w B A n c xs) (hB:B<=w.heap.size) (F:Nat->Prop) (A2:Option Addr) (m c2:Nat) (ys:List UInt8) (hx:a.eval x=.slice A2 m c2) (hsl:Bs F w A2 m c2 ys) (hlim:n+m<=68719476736)
 (h:∀ A' c' w',OwnB w' B A' (n+m) c' (xs++ys)->w.grownBy w' (A.map (·.block))->(A'.map (·.block)=A.map (·.block)∨A'.map (·.block)=some w.heap.size)->K (a.put o.dst (.slice A' (n+m) c')) w') :
 if Region.wanted o (yielded ops a.tmps)=true then Oper.wp Tryz.prog o a w K Q else E':=by
 have hw:Region.wanted o (yielded ops a.tmps)=true:=by simp [Region.wanted,hgd]
 rw [if_pos hw]
 obtain⟨h5,h6,h7,dss,h8,h9⟩:=hsl
 exact uuk (T:=tU8) zzA w w s x ho B A n c xs hs (fun _=>False) F (fun _=>False) hown.own (zR) hB A2 m c2 ys dss hx h5 h8 (h9.flat' qzn) (fun _ _ _ _ h=>h) hlim fun A' c' w' ha=>h A' c' w' (zz9 ⟨_,ha.own⟩) ha.grown ha.lies
theorem xqE {ops:Array Oper} {o:Oper} {a:Act} {w:World} {Q:Exit->Act->World->Prop} {K:Act->World->Prop} {E':Prop} (hgd:o.guard=none) (s x:Operand) (ho:o.op=.call { callee:=.builtin .append,args:=#[s,x],argTypes:=#[41,41] }) (B:Nat) (A:Option Addr) (n c:Nat) (xs:List UInt8) (hs:a.eval s=.slice A n c)
 (hown:OwnB w B A n c xs) (hB:B<=w.heap.size) (obj:Obj) (hx:a.eval x=.slice (some ⟨w.heap.size,0,none⟩) 1 1) (y:UInt8) (hobj:obj=.cells #[.int .u8 (y.toNat:Int)] 5) (hlim:n<=34359738368)
 (h:∀ A' c' w',OwnB w' B A' (n+1) c' (xs++[y])->(w.drew.alloc obj).grownBy w' (A.map (·.block))->(A'.map (·.block)=A.map (·.block)∨A'.map (·.block)=some (w.drew.alloc obj).heap.size)->K (a.put o.dst (.slice A' (n+1) c')) w') :
 if Region.wanted o (yielded ops a.tmps)=true then Oper.wp Tryz.prog o a (w.alloc obj).drew K Q else E' :=
 uus (T:=tU8) zzA w w.drew hgd s x ho B A n c xs hs (fun _=>False) (fun _=>False) hown.own.drew (zR) hB obj hx [.int .u8 (y.toNat:Int)] y rfl 5 hobj (fun _ _ _ _ h=>h) hlim fun A' c' w' ha=>h A' c' w' (zz9 ⟨_,ha.own⟩) ha.grown ha.lies
structure FlR (w0:World) (n0 ob lb B:Nat) (Ao:Option Addr) (no co:Nat) (out:List UInt8) (Al:Option Addr) (nl cl:Nat) (lst:List UInt8) (w:World):Prop where
 obox:w.heap[ob]?=some (.cells #[.slice Ao no co] 41 (0,0))
 lbox:w.heap[lb]?=some (.cells #[.slice Al nl cl] 41 (0,0))
 out:OwnB w B Ao no co out
 lst:MidB w B Al nl cl lst
 apart:∀ g,blkM Al cl=some g->Ao.map (·.block)≠some g
 ord:n0<=ob/\n0<=lb/\ob<B/\lb<B/\ob≠lb/\B<=w.heap.size
 below:Below n0 w0 w
structure FlK (ob lb B:Nat) (w w':World):Prop where
 others:KeepsOthers w w'
 low:∀ b,b<B->b≠ob->b≠lb->w'.heap[b]?=w.heap[b]?
theorem FlK.refl (ob lb B:Nat) (w:World):FlK ob lb B w w:=⟨KeepsOthers.refl w,fun _ _ _ _=>rfl⟩
theorem FlK.trans {ob lb B:Nat} {a b c:World} (h:FlK ob lb B a b) (k:FlK ob lb B b c):FlK ob lb B a c:=⟨h.others.trans k.others,fun x h1 h2 h3=>(k.low x h1 h2 h3).trans (h.low x h1 h2 h3)⟩
theorem FlK.setO {ob lb B:Nat} (w:World) (v:Value):FlK ob lb B w (w.setCell ⟨ob,0,none⟩ v):=⟨KeepsOthers.setCell _ _ _,fun b _ h _=>Below.heap_setCell w ⟨ob,0,none⟩ v b h⟩
theorem FlK.setL {ob lb B:Nat} (w:World) (v:Value):FlK ob lb B w (w.setCell ⟨lb,0,none⟩ v):=⟨KeepsOthers.setCell _ _ _,fun b _ _ h=>Below.heap_setCell w ⟨lb,0,none⟩ v b h⟩
theorem FlK.drewAlloc {ob lb B:Nat} (w:World) (o:Obj) (hB:B<=w.heap.size):FlK ob lb B w (w.drew.alloc o):=⟨(KeepsOthers.drew w).trans (KeepsOthers.alloc _ o),fun b hb _ _=>Below.heap_alloc w.drew o b (by show b<w.heap.size;omega)⟩
theorem bs_front {F:Nat->Prop} {w:World} {b o n c:Nat} {l:List UInt8} (h:Bs F w (some ⟨b,o,none⟩) n c l) {k:Nat} (hk:k<=n) (h1:1<=k):Bs F w (some ⟨b,o,none⟩) k c (l.take k):=by
 have h2:=h.cut (lo:=0) (hi:=k) (by omega) hk
 have h3:=h.2.1
 rw [if_neg (by omega)] at h2
 simpa [Addr.add] using h2
section
variable {w0 w w' W:World} {n0 ob lb B:Nat} {Ao A' Al:Option Addr} {no co n' c' nl cl:Nat} {out out' lst lst':List UInt8}
theorem FlR.keep (h:FlR w0 n0 ob lb B Ao no co out Al nl cl lst w) (hb:Below w.heap.size w w'):FlR w0 n0 ob lb B Ao no co out Al nl cl lst w':=by
 have ho:=h.ord
 exact⟨(hb.block ob (by omega)).trans h.obox,(hb.block lb (by omega)).trans h.lbox,h.out.keepB hb,h.lst.keep fun g hg=>hb.block g (h.lst.blk hg).2.1,h.apart,⟨ho.1,ho.2.1,ho.2.2.1,ho.2.2.2.1,ho.2.2.2.2.1,Nat.le_trans ho.2.2.2.2.2 hb.size⟩,h.below.trans (hb.mono (by omega))⟩
theorem FlR.cells (h:FlR w0 n0 ob lb B Ao no co out Al nl cl lst w):w.cell? ⟨ob,0,none⟩=some (.slice Ao no co)/\w.cell? ⟨lb,0,none⟩=some (.slice Al nl cl)/\w.frozen? ⟨ob,0,none⟩=false/\w.frozen? ⟨lb,0,none⟩=false:=by
 refine⟨?_,?_,zF h.obox 0,zF h.lbox 0⟩
 · rw [zC h.obox];rfl
 · rw [zC h.lbox];rfl
structure FlO (w0:World) (n0 ob lb B:Nat) (Ao:Option Addr) (no co:Nat) (Ar:Option Addr) (nr cr:Nat) (out:List UInt8) (Al:Option Addr) (nl cl:Nat) (lst:List UInt8) (w:World):Prop where
 obox:w.heap[ob]?=some (.cells #[.slice Ao no co] 41 (0,0))
 lbox:w.heap[lb]?=some (.cells #[.slice Al nl cl] 41 (0,0))
 out:OwnB w B Ar nr cr out
 lst:MidB w B Al nl cl lst
 apart:∀ g,blkM Al cl=some g->Ar.map (·.block)≠some g
 ord:n0<=ob/\n0<=lb/\ob<B/\lb<B/\ob≠lb/\B<=w.heap.size
 below:Below n0 w0 w
theorem FlR.open_ (h:FlR w0 n0 ob lb B Ao no co out Al nl cl lst w):FlO w0 n0 ob lb B Ao no co Ao no co out Al nl cl lst w:=⟨h.obox,h.lbox,h.out,h.lst,h.apart,h.ord,h.below⟩
theorem FlO.drew {Ar:Option Addr} {nr cr:Nat} (h:FlO w0 n0 ob lb B Ao no co Ar nr cr out Al nl cl lst w):FlO w0 n0 ob lb B Ao no co Ar nr cr out Al nl cl lst w.drew :=
 ⟨h.obox,h.lbox,jjA h.out,h.lst.keep fun _ _=>rfl,h.apart,h.ord,h.below.drew⟩
theorem FlO.alloc {Ar:Option Addr} {nr cr:Nat} (h:FlO w0 n0 ob lb B Ao no co Ar nr cr out Al nl cl lst w) (o:Obj):FlO w0 n0 ob lb B Ao no co Ar nr cr out Al nl cl lst (w.alloc o):=by
 have ho:=h.ord
 have hb:Below w.heap.size w (w.alloc o):=(zR).alloc zN o
 exact⟨(hb.block ob (by omega)).trans h.obox,(hb.block lb (by omega)).trans h.lbox,h.out.keepB hb,h.lst.keep fun g hg=>hb.block g (h.lst.blk hg).2.1,h.apart,⟨ho.1,ho.2.1,ho.2.2.1,ho.2.2.2.1,ho.2.2.2.2.1,Nat.le_trans ho.2.2.2.2.2 hb.size⟩,h.below.trans (hb.mono (by omega))⟩
theorem FlO.grow {Ar:Option Addr} {nr cr:Nat} (h:FlO w0 n0 ob lb B Ao no co Ar nr cr out Al nl cl lst w) (ho2:OwnB w' B A' n' c' out') (hg:w.grownBy w' (Ar.map (·.block))) (hl:A'.map (·.block)=Ar.map (·.block)∨A'.map (·.block)=some w.heap.size) :
 FlO w0 n0 ob lb B Ao no co A' n' c' out' Al nl cl lst w'/\FlK ob lb B w w':=by
 have ho:=h.ord
 have hrow:∀ k,Ar.map (·.block)=some k->B<=k:=fun k hk=>(yyf h.out.own hk).2.1
 have hne:∀ b,b<B->some b≠Ar.map (·.block):=fun b hb e=>by have:=hrow b e.symm;omega
 refine⟨⟨(hg.block ob (by omega) (hne ob (by omega))).trans h.obox,(hg.block lb (by omega) (hne lb (by omega))).trans h.lbox,ho2,h.lst.keep fun g hg'=>hg.block g (h.lst.blk hg').2.1 (fun e=>h.apart g hg' e.symm),fun g hg' e=>?_,?_,?_⟩,?_,fun b hb _ _=>hg.block b (by omega) (hne b hb)⟩
 · rcases hl with h1 | h1
   · exact h.apart g hg' (by rw [<-h1];exact e)
   · rw [h1] at e
     have:=(h.lst.blk hg').2.1
     injection e with e
     omega
 · exact⟨ho.1,ho.2.1,ho.2.2.1,ho.2.2.2.1,ho.2.2.2.2.1,Nat.le_trans ho.2.2.2.2.2 hg.size⟩
 · exact h.below.grown hg (by omega) (fun k e=>by have:=hrow k e;omega)
 · refine KeepsOthers.of_grownBy hg fun j o hj hjo=>?_
   obtain⟨css,h1,_⟩:=h.out.own.row
   rcases h1.2 with ⟨e1,_⟩ | ⟨g,cap,cur,e1,_,hgc,_⟩
   · injection e1 with e1;rw [e1] at hj;cases hj
   · injection e1 with e1
     rw [e1] at hj
     injection hj with hj
     subst hj
     rw [hgc] at hjo
     injection hjo with hjo
     subst hjo
     rfl
theorem FlO.store {Ar:Option Addr} {nr cr:Nat} (h:FlO w0 n0 ob lb B Ao no co Ar nr cr out Al nl cl lst w):FlR w0 n0 ob lb B Ar nr cr out Al nl cl lst (w.setCell ⟨ob,0,none⟩ (.slice Ar nr cr)):=by
 have ho:=h.ord
 refine⟨zza h.obox rfl,zzf h.lbox (by omega),zz6 h.out fun b hb=>Below.heap_setCell w ⟨ob,0,none⟩ _ b (fun e=>by have:=(h.out.lt b hb).1;simp at e;omega),h.lst.keep fun g hg=>Below.heap_setCell w ⟨ob,0,none⟩ _ g (fun e=>by have:=(h.lst.blk hg).1;simp at e;omega),h.apart,by simpa using h.ord,zzi h.below ho.1 _⟩
theorem FlR.storeL (h:FlR w0 n0 ob lb B Ao no co out Al nl cl lst w) (hm:MidB w B A' n' c' lst') (ha:∀ g,blkM A' c'=some g->Ao.map (·.block)≠some g):FlR w0 n0 ob lb B Ao no co out A' n' c' lst' (w.setCell ⟨lb,0,none⟩ (.slice A' n' c')):=by
 have ho:=h.ord
 refine⟨zzf h.obox (by omega),zza h.lbox rfl,zz6 h.out fun b hb=>Below.heap_setCell w ⟨lb,0,none⟩ _ b (fun e=>by have:=(h.out.lt b hb).1;simp at e;omega),hm.keep fun g hg=>Below.heap_setCell w ⟨lb,0,none⟩ _ g (fun e=>by have:=(hm.blk hg).1;simp at e;omega),ha,by simpa using h.ord,zzi h.below ho.2.1 _⟩
end
theorem MidB.drop {w:World} {B g o n c:Nat} {l:List UInt8} (h:MidB w B (some ⟨g,o,none⟩) n c l) {k:Nat} (hk:k<=n):MidB w B (if c=k then some ⟨g,o,none⟩ else some ⟨g,o+k,none⟩) (n - k) (c - k) (l.drop k):=by
 have h1:=h.len
 have h2:=h.cap
 refine⟨by rw [List.length_drop,<-h1],by omega,Nat.le_trans (Nat.sub_le _ _) h.max,?_⟩
 by_cases hc:c=k
 · exact .inl (by omega)
 · rcases h.row with h0 | ⟨g',o',cur,e,k2,k3,k4,k5⟩
   · exact .inl (by omega)
   · injection e with e
     injection e with e1 e2 _
     subst e1 e2
     rw [if_neg hc]
     refine .inr ⟨g,o+k,cur,rfl,k2,k3,by omega,fun j hj=>?_⟩
     rw [List.length_drop] at hj
     rw [List.getElem_drop,Nat.add_assoc]
     exact k5 (k+j) (by omega)
theorem blkM_drop {g o c k:Nat} {b:Nat} (h:blkM (if c=k then some ⟨g,o,none⟩ else some ⟨g,o+k,none⟩) (c - k)=some b):blkM (some ⟨g,o,none⟩) c=some b:=by
 unfold blkM at *
 by_cases hc:c - k=0
 · rw [if_pos hc] at h;cases h
 · rw [if_neg hc,if_neg (by omega)] at h
   rw [if_neg (by omega)]
   exact h
theorem qzU (w0:World) (n0 ob lb B:Nat) (Ao:Option Addr) (no co:Nat) (out:List UInt8) (Al:Option Addr) (nl cl:Nat) (lst:List UInt8) (hno:no<=1073741824) (hnl:nl<=1073741824) (w:World) (h:FlR w0 n0 ob lb B Ao no co out Al nl cl lst w) :
 Calls Tryz.prog 201 #[.pointer (some ⟨lb,0,none⟩),.pointer (some ⟨ob,0,none⟩)] w fun e w'=>e=.returned (.tuple #[])/\∃ Ao' no' co' Al' cl',FlR w0 n0 ob lb B Ao' no' co' (out++xxj lst) Al' 0 cl' [] w'/\FlK ob lb B w w':=by
 have HH:=zH h
 have HNL:=zH (show lst.length<=1073741824 by rw [<-h.lst.len];exact hnl)
 have HNO:=zH (show out.length<=1073741824 by rw [<-h.out.len];exact hno)
 clear h hno hnl
 go_enter Tryz.func201,Tryz.ntmps201
 go_wp2_with fail
 go_loopw [3] (fun _ wr=>∃ (o1 l1:List UInt8) (A1:Option Addr) (n1 c1:Nat) (A2:Option Addr) (n2 c2:Nat),FlR w0 n0 ob lb B A1 n1 c1 o1 A2 n2 c2 l1 wr/\FlK ob lb B w wr/\o1++xxj l1=out++xxj lst/\l1.length<=lst.length)
  (fun _ wr=>lenV ((wr.cell? ⟨lb,0,none⟩).getD undef))
 case atStart=>exact⟨out,lst,Ao,no,co,Al,nl,cl,HH.out,FlK.refl _ _ _ _,rfl,Nat.le_refl _⟩
 case round =>
  obtain⟨o1,l1,A1,n1,c1,A2,n2,c2,hr,hk,he,hll⟩:=hrel
  have HR:=zH hr;have HK:=zH hk;have HE:=zH he;have HLL:=zH hll
  obtain⟨q1,q2,q3,q4⟩:=hr.cells
  have hl1:=hr.lst.len
  clear hr hk he hll
  by_cases hz:n2=0
  · subst hz
    obtain rfl:l1=[]:=List.length_eq_zero_iff.1 hl1.symm
    clear hl1
    go_wp2_with fail
    go_end0
    exact⟨rfl,A1,n1,c1,A2,c2,by have:=HR.out;rw [<-HE.out,qzE,List.append_nil];exact this,HK.out⟩
  · have hne:l1≠[]:=fun e=>by rw [e] at hl1;simp at hl1;omega
    obtain⟨k,hk⟩:∃ k,k=min n2 128:=⟨_,rfl⟩
    have hk1:1<=k/\k<=n2/\k<=128:=by omega
    obtain⟨y,hy⟩:∃ y:UInt8,y=UInt8.ofNat (256 - k):=⟨_,rfl⟩
    have HY:=zH (show IntKind.u8.wrap (IntKind.i64.wrap (-(k:Int)))=((y.toNat:Nat):Int) by rw [hy,UInt8.toNat_ofNat',IntKind.wrap_i64,IntKind.wrap_u8];omega)
    have HFS:=zH (show xxj l1=([y]++l1.take k)++xxj (l1.drop k) by
     rw [uuq hne,litB,hy]
     have e1:min 128 l1.length=k:=by omega
     rw [e1]
     by_cases h128:128<=l1.length
     · rw [show k=128 by omega];rfl
     · rw [show l1.drop 128=l1.drop k by rw [List.drop_of_length_le (by omega),List.drop_of_length_le (by omega)]];rfl)
    obtain⟨g,o,hA2,hx1,hx2,hx3⟩:=qzq HR.out.lst.bs (k:=0) (by omega)
    clear hx1 hx2 hx3
    subst hA2
    have z1:(0:Int)<(n2:Int):=by omega
    have z2:0<n2:=by omega
    have z3:decide (0<n2)=true:=decide_eq_true z2
    have zm:min (n2:Int) 128=(k:Int):=by omega
    have i0:(0:Int)<=(k:Int):=by omega
    have hcap:=HR.out.lst.cap
    have hmax:=HR.out.lst.max
    unfold maxLen at hmax
    have i1:(k:Int)<=(c2:Int):=by omega
    have i2:(k:Int)<=(n2:Int):=by omega
    have i3:(n2:Int)<=(c2:Int):=by omega
    have hfl:=congrArg List.length HE.out
    rw [List.length_append,List.length_append] at hfl
    have hfo:=jjw lst
    have ho1:=HR.out.out.len
    have hlim:n1<=8589934592:=by have:=HNO.out;have:=HNL.out;omega
    have HLIM:=zH hlim;have HL1:=zH hl1;have HK1:=zH hk1
    have hB:=HR.out.ord.2.2.2.2.2
    have HB:=zH hB
    have qa:∀ o:Obj,(wr.alloc o).cell? ⟨ob,0,none⟩=some (.slice A1 n1 c1):=fun o=>zzh ((zR).alloc zN o) q1
    have qb:∀ ob:Obj,(wr.alloc ob).cell? ⟨lb,0,none⟩=some (.slice (some ⟨g,o,none⟩) n2 c2):=fun ob=>zzh ((zR).alloc zN ob) q2
    clear hfl hfo hlim ho1 hy hl1 hk1 hk
    go_upto_region 2 with fail
    go_cut [] from 9 to 18 (fun wx=>∃ (wd:World) (A5:Option Addr) (c5:Nat),wd=wx/\FlR w0 n0 ob lb B A5 (n1+1+k) c5 (o1++[y]++l1.take k) (some ⟨g,o,none⟩) n2 c2 l1 wd/\FlK ob lb B wr wd)
    case first =>
     go_region_law (first
      | (refine xqE (w:=wr) rfl (.tmp 9) (.tmp 13) rfl B A1 n1 c1 o1 rfl HR.out.out HB.out _ rfl y (by rw [HY.out]) (by have:=HLIM.out;omega) ?_;intro A4 c4 w4 ho4 hg4 hl4
         obtain⟨hs4,hk4⟩:=(HR.out.open_.drew.alloc _).grow ho4 hg4 hl4
         have HS4:=zH hs4;have HK4:=zH hk4
         have r1:w4.cell? ⟨ob,0,none⟩=some (.slice A1 n1 c1):=(by rw [zC hs4.obox];rfl)
         have r2:w4.cell? ⟨lb,0,none⟩=some (.slice (some ⟨g,o,none⟩) n2 c2):=(by rw [zC hs4.lbox];rfl)
         clear ho4 hg4 hl4 hs4 hk4)
      | (refine step_apbL (w:=w4) rfl (.tmp 14) (.tmp 17) rfl B A4 (n1+1) c4 (o1++[y]) rfl HS4.out.out HS4.out.ord.2.2.2.2.2 (fun _=>True) (some ⟨g,o,none⟩) k c2 (l1.take k) rfl (bs_front HS4.out.lst.bs HK1.out.2.1 HK1.out.1).any (by have:=HLIM.out;have:=HK1.out;omega) ?_;intro A5 c5 w5 ho5 hg5 hl5
         obtain⟨hs5,hk5⟩:=HS4.out.grow ho5 hg5 hl5
         have HS5:=zH hs5.store;have HK5:=zH hk5
         have s1:w5.cell? ⟨ob,0,none⟩=some (.slice A1 n1 c1):=(by rw [zC hs5.obox];rfl)
         have s2:=zF hs5.obox 0
         clear ho5 hg5 hl5 hs5 hk5)
      | fail)
     all_goals
      go_wp2_with fail
      go_meet
      exact⟨_,A5,c5,rfl,HS5.out,((FlK.drewAlloc wr _ HB.out).trans (HK4.out.trans HK5.out)).trans (FlK.setO _ _)⟩
    case rest =>
     obtain⟨wx,A5,c5,rfl,hs5,hk5⟩:=hcut
     have HS5:=zH hs5;have HK5:=zH hk5
     clear q1 q2 q3 q4 qa qb hs5 hk5
     obtain⟨q1,q2,q3,q4⟩:=HS5.out.cells
     refine ‹∀ (a:Act) (w_1:World),Code.wp _ _ _ a w_1->_› _ _ ?_
     have hdr:=HS5.out.lst.drop (k:=k) HK1.out.2.1
     have hda:∀ b,blkM (if c2=k then some ⟨g,o,none⟩ else some ⟨g,o+k,none⟩) (c2 - k)=some b->A5.map (·.block)≠some b:=fun b hb=>HS5.out.apart b (blkM_drop hb)
     have HFIN:=zH (HS5.out.storeL hdr hda)
     have HEE:=zH (show o1++[y]++l1.take k++xxj (l1.drop k)=out++xxj lst by rw [<-HE.out,HFS.out];simp)
     have HLD:=zH (show (l1.drop k).length<=lst.length by rw [List.length_drop];have:=HLL.out;omega)
     clear hdr hda
     by_cases hck:c2=k
     · rw [if_pos hck,show c2 - k=0 by omega] at HFIN
       go_wp2_with fail
       go_roundw
       case rel=>exact⟨_,_,A5,_,c5,_,_,_,HFIN.out,HK.out.trans (HK5.out.trans (FlK.setL _ _)),HEE.out,HLD.out⟩
       case measure =>
        have e1:=HFIN.out.cells.2.1
        have e2:=HR.out.cells.2.1
        simp only [e1,e2,Option.getD_some,lenV]
        have:=HK1.out;omega
     · rw [if_neg hck] at HFIN
       go_wp2_with fail
       go_roundw
       case rel=>exact⟨_,_,A5,_,c5,_,_,_,HFIN.out,HK.out.trans (HK5.out.trans (FlK.setL _ _)),HEE.out,HLD.out⟩
       case measure =>
        have e1:=HFIN.out.cells.2.1
        have e2:=HR.out.cells.2.1
        simp only [e1,e2,Option.getD_some,lenV]
        have:=HK1.out;omega
end
section
open Go Go.RowKit Go.Shelf BigFrame
attribute [local go_sem] Oper.semAt_some
section
variable {w0 w w' W:World} {n0 ob lb B:Nat} {Ao A' Al:Option Addr} {no co n' c' nl cl:Nat} {out out' lst lst':List UInt8}
theorem FlR.turn (h:FlR w0 n0 ob lb B Ao no co out Al nl cl lst w) {row:Option Nat} (hg:w.grownBy w' row) (hr:∀ r,row=some r->B<=r/\∃ o:Obj,w.heap[r]?=some o/\o.isCells=false):FlR w0 n0 ob lb B Ao no co out Al nl cl lst w':=by
 have ho:=h.ord
 have hne:∀ b,b<B->some b≠row:=fun b hb e=>by have:=(hr b e.symm).1;omega
 have hcell:∀ b,(∃ cur e fr,w.heap[b]?=some (.cells cur e fr))->some b≠row:=fun b ⟨cur,e,fr,hb⟩ e2=>by
  obtain⟨_,o,h1,h2⟩:=hr b e2.symm
  rw [hb] at h1
  injection h1 with h1
  subst h1
  cases h2
 refine⟨(hg.block ob (by omega) (hne ob (by omega))).trans h.obox,(hg.block lb (by omega) (hne lb (by omega))).trans h.lbox,zz6 h.out fun b hb=>hg.block b (h.out.lt b hb).2 (hcell b ?_),h.lst.keep fun g hg'=>hg.block g (h.lst.blk hg').2.1 (hcell g ?_),h.apart,?_,?_⟩
 · rcases h.out.2 with ⟨e1,_⟩ | ⟨g,cap,cur,e1,_,hgc,_⟩
   · rw [e1] at hb;cases hb
   · rw [e1] at hb;injection hb with hb;subst hb;exact⟨_,_,_,hgc⟩
 · obtain⟨_,_,cur,hc⟩:=h.lst.blk hg'
   exact⟨_,_,_,hc⟩
 · exact⟨ho.1,ho.2.1,ho.2.2.1,ho.2.2.2.1,ho.2.2.2.2.1,Nat.le_trans ho.2.2.2.2.2 hg.size⟩
 · exact h.below.grown hg (by omega) (fun k e=>by have:=(hr k e).1;omega)
theorem FlR.other (h:FlR w0 n0 ob lb B Ao no co out Al nl cl lst w) {b:Nat} (hb:b<B) (h1:b≠ob) (h2:b≠lb) (h3:n0<=b) (v:Value):FlR w0 n0 ob lb B Ao no co out Al nl cl lst (w.setCell ⟨b,0,none⟩ v):=by
 have ho:=h.ord
 exact⟨zzf h.obox (Ne.symm h1),zzf h.lbox (Ne.symm h2),zz6 h.out fun k hk=>Below.heap_setCell w ⟨b,0,none⟩ _ k (fun e=>by have:=(h.out.lt k hk).1;simp at e;omega),h.lst.keep fun g hg=>Below.heap_setCell w ⟨b,0,none⟩ _ g (fun e=>by have:=(h.lst.blk hg).1;simp at e;omega),h.apart,by simpa using ho,zzi h.below h3 _⟩
theorem FlR.growL (h:FlR w0 n0 ob lb B Ao no co out Al nl cl lst w) (hm:MidB w' B A' n' c' lst') (hg:w.grownBy w' (blkM Al cl)) (hl:blkM A' c'=blkM Al cl∨∀ g,blkM A' c'=some g->w.heap.size<=g) :
 (w'.heap[ob]?=w.heap[ob]?)/\(w'.heap[lb]?=w.heap[lb]?)/\FlR w0 n0 ob lb B Ao no co out A' n' c' lst' (w'.setCell ⟨lb,0,none⟩ (.slice A' n' c'))/\FlK ob lb B w (w'.setCell ⟨lb,0,none⟩ (.slice A' n' c')):=by
 have ho:=h.ord
 have hrow:∀ k,blkM Al cl=some k->B<=k:=fun k hk=>(h.lst.blk hk).1
 have hne:∀ b,b<B->some b≠blkM Al cl:=fun b hb e=>by have:=hrow b e.symm;omega
 have e1:=hg.block ob (by omega) (hne ob (by omega))
 have e2:=hg.block lb (by omega) (hne lb (by omega))
 have hlb:=e2.trans h.lbox
 have hout:OwnB w' B Ao no co out:=zz6 h.out fun b hb=>hg.block b (h.out.lt b hb).2 (fun e=>h.apart b e.symm (by rw [<-zzl Ao no co];exact hb))
 have hap:∀ g,blkM A' c'=some g->Ao.map (·.block)≠some g:=fun g hg' e=>by
  rcases hl with h1 | h1
  · exact h.apart g (by rw [<-h1];exact hg') e
  · have:=h1 g hg'
    have:=(yyf h.out.own e).2.2
    omega
 refine⟨e1,e2,⟨zzf (e1.trans h.obox) (by omega),zza hlb rfl,zz6 hout fun b hb=>Below.heap_setCell w' ⟨lb,0,none⟩ _ b (fun e=>by have:=(hout.lt b hb).1;simp at e;omega),hm.keep fun g hg=>Below.heap_setCell w' ⟨lb,0,none⟩ _ g (fun e=>by have:=(hm.blk hg).1;simp at e;omega),hap,?_,?_⟩,?_⟩
 · have:=hg.size
   have h6:B<=(w'.setCell ⟨lb,0,none⟩ (.slice A' n' c')).heap.size:=by simp;omega
   exact⟨ho.1,ho.2.1,ho.2.2.1,ho.2.2.2.1,ho.2.2.2.2.1,h6⟩
 · exact zzi (h.below.grown hg (by omega) (fun k e=>by have:=hrow k e;omega)) ho.2.1 _
 · refine FlK.trans ⟨KeepsOthers.of_grownBy hg fun j o hj hjo=>?_,fun b hb _ _=>hg.block b (by omega) (hne b hb)⟩ (FlK.setL _ _)
   obtain⟨_,_,cur,hc⟩:=h.lst.blk hj
   rw [hc] at hjo
   injection hjo with hjo
   subst hjo
   rfl
end
theorem FlK.below {ob lb B:Nat} {w w':World} (hB:B<=w.heap.size) (h:Below w.heap.size w w'):FlK ob lb B w w' :=
 ⟨⟨h.size,fun k o hk _=>(h.block k (zzc hk)).trans hk⟩,fun b hb _ _=>h.block b (by omega)⟩
section
variable {F:Fence} {nF:Nat} {ops:Array Oper} {rest:List Oper} {o:Oper} {a:Act} {Q:Exit->Act->World->Prop} {w:World}
theorem step_mid {K:Act->World->Prop} {E':Prop} (hgd:o.guard=none) (s x:Operand) (ho:o.op=.call { callee:=.builtin .append,args:=#[s,x],argTypes:=#[41,41] }) (B:Nat) (A:Option Addr) (n c:Nat) (l:List UInt8) (hs:a.eval s=.slice A n c)
 (hown:MidB w B A n c l) (hB:B<=w.heap.size) (G:Nat->Prop) (ad:Addr) (m c2:Nat) (ys:List UInt8) (hx:a.eval x=.slice (some ad) m c2) (hsl:Bs G w (some ad) m c2 ys) (hm:1<=m) (hlim:n+m<=68719476736)
 (h:∀ A' c' w',MidB w' B A' (n+m) c' (l++ys)->w.grownBy w' (blkM A c)->(blkM A' c'=blkM A c∨∀ g,blkM A' c'=some g->w.heap.size<=g)->K (a.put o.dst (.slice A' (n+m) c')) w') :
 if Region.wanted o (yielded ops a.tmps)=true then Oper.wp Tryz.prog o a w K Q else E':=by
 have hw:Region.wanted o (yielded ops a.tmps)=true:=by simp [Region.wanted,hgd]
 rw [if_pos hw]
 obtain⟨A',c',w',hrun,h2,h3,h4⟩:=xqD w B A n c l hown hB o.type G ad m c2 ys hsl hm hlim
 unfold Oper.wp execOp
 simp only [ho,resolve,invoke,builtin,Sem.run_bind,Sem.run_pure,Result.andThen_ok,List.map_toArray,List.map_cons,List.map_nil,hs,hx,hrun]
 exact h A' c' w' h2 h3 h4
theorem apbInL (hgd:o.guard=none) (s x:Operand) (ho:o.op=.call { callee:=.builtin .append,args:=#[s,x],argTypes:=#[41,41] }) (B:Nat) (A:Option Addr) (n c:Nat) (xs:List UInt8) (hs:a.eval s=.slice A n c)
 (hown:OwnB w B A n c xs) (hB:B<=w.heap.size) (G:Nat->Prop) (A2:Option Addr) (m c2:Nat) (ys:List UInt8) (hx:a.eval x=.slice A2 m c2) (hsl:Bs G w A2 m c2 ys) (hlim:n+m<=68719476736)
 (h:∀ A' c' w',OwnB w' B A' (n+m) c' (xs++ys)->w.grownBy w' (A.map (·.block))->(A'.map (·.block)=A.map (·.block)∨A'.map (·.block)=some w.heap.size)->wpListIn F nF Tryz.prog ops Q rest (a.put o.dst (.slice A' (n+m) c')) w'):wpListIn F nF Tryz.prog ops Q (o::rest) a w:=by
 refine wpListIn_plain hgd fun K hK=>?_
 obtain⟨A',c',w',hrun,h2,h3,h4⟩:=xxx zzA o.type w B (.slice A n c) n (bvs xs) hown G A2 m c2 (bvs ys) (by rw [zzS,Nat.mul_one];exact hsl.len.symm) (bs_rd hsl) (zqC _) hlim hB
 unfold Oper.wpIn
 refine⟨by simp [Oper.about,ho,resolve,Target.leads,Sem.run_pure],?_⟩
 rw [Oper.semAt_plain F _ _ (by rw [ho];intro c hc';cases hc')]
 simp [execOp,ho,resolve,invoke,builtin,hs,hx,hrun,Result.andThen]
 rw [zzl] at h3 h4
 exact hK _ _ (h A' c' w' (by unfold OwnB;rw [kqf];exact h2) h3 h4)
end
end
end Go.Proofs.YtpmglcachffojaaGreatDoor
