/- A part of what Indexes leans on. -/
import Derived.Test.YtpmglcachffojaaGreatDoorZ39
set_option maxRecDepth 100000
set_option maxHeartbeats 16000000
namespace Go.Proofs.YtpmglcachffojaaGreatDoor
section
open Go Go.RowKit
theorem cellsSt:tSt.OnCells:=Ty.OnCells.prod (Ty.Flat.cells flatI64) (Ty.OnCells.prod (Ty.OnCells.sl (Ty.Flat.cells flatI64)) (Ty.OnCells.sl (Ty.Flat.cells flatSS)))
structure TwoL (B:Nat) (D:List UInt8) (L:List ST) (A0:Option Addr) (m0 c0:Nat) (A7:Option Addr) (k c7:Nat) (F3:Nat->Prop) (W:World):Prop where
 d:OwnF tU8 5 (fun _=>False) W B A0 m0 c0 D
 s:OwnF tSt 97 F3 W B A7 k c7 L
 ap:∀ b,A0=some ⟨b,0,none⟩->B<=b->A7≠some ⟨b,0,none⟩/\¬ F3 b
 lt:∀ b,F3 b->B<=b/\b<W.heap.size
section
variable {B:Nat} {D D':List UInt8} {L L':List ST} {A0:Option Addr} {m0 c0:Nat} {A7:Option Addr} {k c7:Nat} {F3 G:Nat->Prop} {W W' wa wb:World} {A':Option Addr} {n' c':Nat}
theorem TwoL.keep (h:TwoL B D L A0 m0 c0 A7 k c7 F3 W) (hs:W.heap.size<=W'.heap.size) (hk:∀ b,B<=b->b<W.heap.size->W'.heap[b]?=W.heap[b]?):TwoL B D L A0 m0 c0 A7 k c7 F3 W' :=
 ⟨h.d.keep hs (fun b hb hl=>hk b (hb.elim False.elim (fun x=>x.2)) hl),h.s.keep hs (fun b hb hl=>hk b (hb.elim (fun x=>(h.lt b x).1) (fun x=>x.2)) hl),h.ap,fun b hb=>⟨(h.lt b hb).1,by have:=(h.lt b hb).2;omega⟩⟩
theorem TwoL.call (h:TwoL B D L A0 m0 c0 A7 k c7 F3 W) (hb:Below W.heap.size W W'):TwoL B D L A0 m0 c0 A7 k c7 F3 W':=h.keep hb.size fun b _ hl=>hb.block b hl
theorem TwoL.data (h:TwoL B D L A0 m0 c0 A7 k c7 F3 W) (ha:ApdL tU8 5 G wa W W' B A0 A' n' c' D'):TwoL B D' L A' n' c' A7 k c7 F3 W':=by
 have hs:=ha.grown.size
 refine⟨ha.own.flat qzn,h.s.grown ha.grown fun g e=>?_,fun b e hb=>?_,fun b hb=>⟨(h.lt b hb).1,by have:=(h.lt b hb).2;omega⟩⟩
 · obtain⟨e1,e2,_⟩:=h.d.lies' e
   exact⟨(h.ap g e1 e2).2,(h.ap g e1 e2).1⟩
 · rcases ha.lies with h1 | h1
   · rw [e] at h1
     obtain⟨e1,e2,_⟩:=h.d.lies' h1.symm
     exact h.ap b e1 e2
   · rw [e] at h1
     injection h1 with h1
     have h1:b=W.heap.size:=h1
     exact⟨fun e7=>by have:=(h.s.lies' (b:=b) (by rw [e7];rfl)).2.2;omega,fun hb=>by have:=(h.lt b hb).2;omega⟩
theorem TwoL.stride (h:TwoL B D L A0 m0 c0 A7 k c7 F3 W) (ha:ApdL tSt 97 (fun b=>(F3 b∨G b)/\b<wb.heap.size) wa W W' B A7 A' n' c' L') (hw:wb.heap.size<=W.heap.size) (hG:∀ b,G b->B<=b/\A0≠some ⟨b,0,none⟩):TwoL B D L' A0 m0 c0 A' n' c' (fun b=>(F3 b∨G b)/\b<wb.heap.size) W':=by
 have hs:=ha.grown.size
 refine⟨h.d.grown ha.grown fun g e=>⟨id,fun e0=>?_⟩,ha.own,fun b e hb=>⟨fun e'=>?_,fun hb'=>?_⟩,fun b hb=>⟨?_,by have:=hb.2;omega⟩⟩
 · obtain⟨e1,e2,_⟩:=h.s.lies' e
   exact (h.ap g e0 e2).1 e1
 · rcases ha.lies with h1 | h1
   · rw [e'] at h1
     exact (h.ap b e hb).1 (h.s.lies' h1.symm).1
   · rw [e'] at h1
     injection h1 with h1
     have h1:b=W.heap.size:=h1
     have:=(h.d.lies' (b:=b) (by rw [e];rfl)).2.2
     omega
 · rcases hb'.1 with h1 | h1
   · exact (h.ap b e hb).2 h1
   · exact (hG b h1).2 e
 · rcases hb.1 with h1 | h1
   · exact (h.lt b h1).1
   · exact (hG b h1).1
theorem TwoL.quiet (h:TwoL B D L A0 m0 c0 A7 k c7 F3 W) {row:Option Nat} (hg:W.grownBy W' row) (hr:∀ r,row=some r->∃ o:Obj,W.heap[r]?=some o/\o.isCells=false):TwoL B D L A0 m0 c0 A7 k c7 (fun b=>F3 b/\zzW W b) W' :=
 ⟨(h.d.quiet (Ty.Flat.cells qzn) hg hr).flat qzn,h.s.quiet cellsSt hg hr,fun b e hb=>⟨(h.ap b e hb).1,fun h1=>(h.ap b e hb).2 h1.1⟩,fun b hb=>⟨(h.lt b hb.1).1,by have:=(h.lt b hb.1).2;have:=hg.size;omega⟩⟩
end
theorem TwoL.nil_ (B:Nat) (W:World):TwoL B [] [] none 0 0 none 0 0 (fun _=>False) W:=⟨OwnF.nil_ _ _ _ _ _,OwnF.nil_ _ _ _ _ _,fun b e _=>(by cases e),fun b h=>h.elim⟩
def xx2 (cols:List CC) (rows:List RR) {m:Nat} (pre:List (Fin m)):List UInt8:=(pre.map fun x=>vv7 cols (yyi rows x.val) cols.length).flatten
def stF8 (cols:List CC) (rows:List RR) {m:Nat} (pre:List (Fin m)):List ST:=pre.map fun x=>zz8 cols (yyi rows x.val)
theorem dataF_all (cols:List CC) (rows:List RR) (m:Nat):xx2 cols rows (List.finRange m)=dataR cols rows m:=by unfold xx2 dataR;rw [xx0 m fun j=>vv7 cols (yyi rows j) cols.length]
theorem stF8_all (cols:List CC) (rows:List RR) (m:Nat):stF8 cols rows (List.finRange m)=stR cols rows m:=by unfold stF8 stR;rw [xx0 m fun j=>zz8 cols (yyi rows j)]
theorem xq2 (cols:List CC) (rows:List RR) {m:Nat} (pre:List (Fin m)) (x:Fin m):xx2 cols rows (pre++[x])=xx2 cols rows pre++vv7 cols (yyi rows x.val) cols.length:=by unfold xx2;simp
theorem stF8_snoc (cols:List CC) (rows:List RR) {m:Nat} (pre:List (Fin m)) (x:Fin m):stF8 cols rows (pre++[x])=stF8 cols rows pre++[zz8 cols (yyi rows x.val)]:=by unfold stF8;simp
theorem zqm (cols:List CC) (rows:List RR) {m:Nat} (hc:cols.length<=6):∀ pre:List (Fin m),(xx2 cols rows pre).length<=pre.length*30000024
 | []=>by simp [xx2]
 | x::r=>by
   have ih:=zqm cols rows hc r
   have h1:=vv8 cols (yyi rows x.val) (by rw [jjV];omega) cols.length
   have h2:cols.length*5000004<=6*5000004:=Nat.mul_le_mul_right 5000004 hc
   show (xx2 cols rows ([x]++r)).length<=_
   rw [show xx2 cols rows ([x]++r)=vv7 cols (yyi rows x.val) cols.length++xx2 cols rows r by unfold xx2;simp,List.length_append,List.length_cons,Nat.succ_mul]
   omega
def SpI (cols:List CC) (rows:List RR) (B K:Nat) (wd:World) {m:Nat} (pre:List (Fin m)) (W:World):Prop :=
 ∃ A0 m0 c0 A7 c7 F3,TwoL B (xx2 cols rows pre) (stF8 cols rows pre) A0 m0 c0 A7 pre.length c7 F3 W/\W.heap[K]?=some (.cells #[.slice A0 m0 c0] 41 (0,0))/\W.heap[K+1]?=some (.cells #[.slice A7 pre.length c7] 42 (0,0))/\Below K wd W/\B<=W.heap.size
theorem SpI.own (cols:List CC) (rows:List RR) (B K:Nat) (wd:World) (m:Nat) (hK:K+2<=B) (hw:wd.heap.size=K):OwnFrom B (SpI cols rows B K wd (m:=m)):=fun pre W W' row hs hg hr=>by
 obtain⟨A0,m0,c0,A7,c7,F3,h1,h2,h3,h4,h5⟩:=hs
 have hr1:∀ r,row=some r->B<=r:=fun r e=>(hr r e).1
 exact⟨A0,m0,c0,A7,c7,_,h1.quiet hg (fun r e=>(hr r e).2),(hg.block K (by omega) (fun e=>by have:=hr1 _ e.symm;omega)).trans h2,(hg.block (K+1) (by omega) (fun e=>by have:=hr1 _ e.symm;omega)).trans h3,h4.grown hg (by omega) (fun r e=>by have:=hr1 r e;omega),Nat.le_trans h5 hg.size⟩
end
end Go.Proofs.YtpmglcachffojaaGreatDoor
