/- A part of what None leans on. -/
import Derived.Test.YtpmglcachffojaaGreatDoorZ18
import Derived.ArgAppend
set_option maxRecDepth 100000
set_option maxHeartbeats 16000000
namespace Go.Proofs.YtpmglcachffojaaGreatDoor
section
open Go Go.RowKit
structure MidB (w:World) (B:Nat) (A:Option Addr) (n c:Nat) (l:List UInt8):Prop where
 len:n=l.length
 cap:n<=c
 max:c<=maxLen
 row:c=0∨∃ g o cur,A=some ⟨g,o,none⟩/\B<=g/\w.heap[g]?=some (.cells cur 5 (0,0))/\o+c<=cur.size/\∀ j (h:j<l.length),cur[o+j]?=some (.int .u8 ((l[j].toNat:Nat):Int))
def blkM (A:Option Addr) (c:Nat):Option Nat:=if c=0 then none else A.map (·.block)
theorem MidB.nil_ (w:World) (B:Nat):MidB w B none 0 0 []:=⟨rfl,Nat.le_refl _,by simp [maxLen],.inl rfl⟩
theorem MidB.blk {w:World} {B:Nat} {A:Option Addr} {n c:Nat} {l:List UInt8} (h:MidB w B A n c l) {g:Nat} (hg:blkM A c=some g):B<=g/\g<w.heap.size/\∃ cur,w.heap[g]?=some (.cells cur 5 (0,0)):=by
 unfold blkM at hg
 split at hg
 · cases hg
 · rename_i hc
   rcases h.row with h0 | ⟨g',o,cur,rfl,h2,h3,_⟩
   · exact absurd h0 hc
   · injection hg with hg
     subst hg
     exact⟨h2,zzc h3,cur,h3⟩
theorem MidB.keep {w w':World} {B:Nat} {A:Option Addr} {n c:Nat} {l:List UInt8} (h:MidB w B A n c l) (hk:∀ g,blkM A c=some g->w'.heap[g]?=w.heap[g]?):MidB w' B A n c l:=by
 refine⟨h.len,h.cap,h.max,?_⟩
 rcases h.row with h0 | ⟨g,o,cur,rfl,h2,h3,h4,h5⟩
 · exact .inl h0
 · by_cases hc:c=0
   · exact .inl hc
   · exact .inr ⟨g,o,cur,rfl,h2,(hk g (by unfold blkM;rw [if_neg hc];rfl)).trans h3,h4,h5⟩
theorem MidB.bs {w:World} {B:Nat} {A:Option Addr} {n c:Nat} {l:List UInt8} (h:MidB w B A n c l):Bs (fun b=>blkM A c=some b) w A n c l:=by
 refine zqa (fun hne=>?_) h.len h.cap h.max
 rcases h.row with h0 | ⟨g,o,cur,rfl,h2,h3,h4,h5⟩
 · have:=h.len
   have h1:=h.cap
   exact absurd (List.length_eq_zero_iff.1 (by rw [zzs];omega)) hne
 · have hc:c≠0:=fun h0=>by
    have:=h.len
    have h1:=h.cap
    exact absurd (List.length_eq_zero_iff.1 (by rw [zzs];omega)) hne
   refine⟨g,o,rfl,by unfold blkM;rw [if_neg hc];rfl,zzc h3,fun j u hu=>?_⟩
   have hj:j<l.length:=by
    rcases Nat.lt_or_ge j l.length with h | h
    · exact h
    · rw [List.getElem?_eq_none (by rw [zzs];exact h)] at hu;cases hu
   rw [yyN l j hj] at hu
   rw [zC h3,h5 j hj,hu]
theorem MidB.of_own {w:World} {B:Nat} {A:Option Addr} {n c:Nat} {l:List UInt8} (h:OwnB w B A n c l):MidB w B A n c l:=by
 refine⟨h.len,(yyq h).1,(yyq h).2,?_⟩
 rcases h.2 with ⟨h1,_⟩ | ⟨g,cap,cur,h1,hb,hg,hn,hcm,hsz,ht⟩
 · injection h1 with _ _ h3
   exact .inl h3
 · injection h1 with e1 _ e3
   subst e1 e3
   refine .inr ⟨g,0,cur,rfl,hb,hg,by omega,fun j hj=>?_⟩
   have h4:=h.cells (g:=g) rfl j _ (yyN l j hj)
   rw [yyL,zC hg] at h4
   exact h4
theorem xxU {g b:Nat} (hne:b≠g):∀ (vs:List Value) (q:Nat) (w:World),(w.setCells g q vs).heap[b]?=w.heap[b]?
 | [],_,_=>rfl
 | v::r,q,w=>(xxU hne r (q+1) _).trans (Below.heap_setCell w ⟨g,q,none⟩ v b hne)
theorem jjv {g:Nat} {t:TypeId} {fr:Nat×Nat}:∀ (vs:List Value) (q:Nat) (w:World) (cur:Array Value),w.heap[g]?=some (.cells cur t fr)->∃ cur',(w.setCells g q vs).heap[g]?=some (.cells cur' t fr)/\cur'.size=cur.size /\
 (∀ j,j<q∨q+vs.length<=j->cur'[j]?=cur[j]?)/\∀ j (h:j<vs.length),q+j<cur.size->cur'[q+j]?=some vs[j]
 | [],q,w,cur,h=>⟨cur,h,rfl,fun _ _=>rfl,fun j hj=>by simp at hj⟩
 | v::r,q,w,cur,h=>by
   obtain⟨cur',h1,h2,h3,h4⟩:=jjv r (q+1) (w.setCell ⟨g,q,none⟩ v) (cur.setIfInBounds q v) (zza h rfl)
   refine⟨cur',h1,by rw [h2,Array.size_setIfInBounds],fun j hj=>?_,fun j hj hjs=>?_⟩
   · rw [List.length_cons] at hj
     rw [h3 j (by omega),Array.getElem?_setIfInBounds_ne (by omega)]
   · cases j with
     | zero =>
       rw [h3 (q+0) (by omega),Nat.add_zero,Array.getElem?_setIfInBounds_self_of_lt (by simpa using hjs)]
       rfl
     | succ i =>
       have:=h4 i (by simpa using hj) (by rw [Array.size_setIfInBounds];omega)
       rw [show q+(i+1)=q+1+i by omega,this]
       rfl
theorem qzm (w:World) (g q:Nat) (vs:List Value):w.grownBy (w.setCells g q vs) (some g):=by
 have hb:=yy0 (B:=0) (g:=g) (a:=w) (Nat.zero_le _) vs q (Below.refl 0 w)
 exact⟨hb.os,hb.tape,hb.output,hb.size,fun k _ hk=>xxU (fun e=>hk (by rw [e])) vs q w⟩
theorem jj0 {w w':World} (h:w.grownBy w' none) (row:Option Nat):w.grownBy w' row:=⟨h.os,h.tape,h.output,h.size,fun k hk _=>h.block k hk (by simp)⟩
theorem qzn {k:Nat} (h:k<=68719476736):k<=maxLen/\k*1<=140737488355328:=by unfold maxLen;omega
theorem jj1 (w:World) (B:Nat) (A:Option Addr) (n c:Nat) (l:List UInt8) (h:MidB w B A n c l) (hB:B<=w.heap.size) (ty:TypeId) (F:Nat->Prop) (ad:Addr) (m c2:Nat) (ys:List UInt8) (hs:Bs F w (some ad) m c2 ys) (hm:1<=m) (hlim:n+m<=68719476736) :
 ∃ A' c' w',(Builtin.append_ #[41,41] ty #[.slice A n c,.slice (some ad) m c2]).run Tryz.prog w=.ok (.slice A' (n+m) c') w'/\MidB w' B A' (n+m) c' (l++ys)/\w.grownBy w' (blkM A c)/\(blkM A' c'=blkM A c∨∀ g,blkM A' c'=some g->w.heap.size<=g):=by
 obtain⟨i,hi,h0,h1,h2⟩:=info_parts xxo
 have hne:ys≠[]:=fun e=>by have:=hs.len;rw [e] at this;simp at this;omega
 have hnews:∀ j u,(bvs ys)[j]?=some u->w.cell? (ad.add j)=some u:=(kqG hs).news rfl
 have hl:(bvs ys).length=m*1:=by rw [zzs,Nat.mul_one];exact hs.len.symm
 have hfit:=qzn hlim
 have grow:∀ v' w',w'.ownsRow w.heap.size 5 1 v' (n+m) (bvs l++bvs ys)->w.grownBy w' none->∃ A' c',v'=.slice A' (n+m) c'/\MidB w' B A' (n+m) c' (l++ys)/\(blkM A' c'=blkM A c∨∀ g,blkM A' c'=some g->w.heap.size<=g):=fun v' w' ho hg=>by
  rw [<-vvd] at ho
  rcases ho.2 with ⟨_,hz⟩ | ⟨g,cap,cur,rfl,hb,hgc,hn,hcm,hsz,ht⟩
  · omega
  · have hm2:MidB w' w.heap.size (some ⟨g,0,none⟩) (n+m) cap (l++ys):=MidB.of_own (show OwnB w' w.heap.size (some ⟨g,0,none⟩) (n+m) cap (l++ys) from ho)
    refine⟨_,cap,rfl,⟨hm2.len,hm2.cap,hm2.max,?_⟩,?_⟩
    · rcases hm2.row with hc | ⟨g',o,cur',e,k2,k3⟩
      · exact .inl hc
      · exact .inr ⟨g',o,cur',e,by omega,k3⟩
    · refine .inr fun g' hg'=>?_
      have:=hm2.blk hg'
      omega
 by_cases hroom:n+m<=c
 · rcases h.row with hc | ⟨g,o,cur,rfl,k2,k3,k4,k5⟩
   · omega
   · have hcell:∀ j,j<c->(w.cell? ⟨g,o+j,none⟩).isSome=true:=fun j hj=>by
      rw [zC k3,Array.getElem?_eq_getElem (by omega)];rfl
     have hln:=h.len
     obtain⟨cur',q1,q2,q3,q4⟩:=jjv (bvs ys) (o+n*i.size) w cur k3
     rw [h1,Nat.mul_one] at q1 q3 q4
     refine⟨some ⟨g,o,none⟩,c,w.setCells g (o+n) (bvs ys),?_,⟨?_,hroom,h.max,.inr ⟨g,o,cur',rfl,k2,q1,by omega,fun j hj=>?_⟩⟩,?_,.inl rfl⟩
     · have:=run_append_room_cells (P:=Tryz.prog) w 41 ty 5 i zzG hi g o n c ad m c2 (bvs ys) (by rw [hl,h1]) hnews (uuE ys) hroom
        (fun j hj=>by rw [h1,Nat.mul_one,Nat.add_assoc];exact hcell _ (by rw [hl] at hj;omega)) (fun j _=>zF k3 _)
       rw [h1,Nat.mul_one] at this
       exact this
     · rw [List.length_append,<-hln,<-hs.len]
     · by_cases hjl:j<l.length
       · rw [q3 (o+j) (by omega),k5 j hjl,List.getElem_append_left hjl]
       · obtain⟨p,rfl⟩:∃ p,j=l.length+p:=⟨j - l.length,by omega⟩
         have hp:p<ys.length:=by rw [List.length_append] at hj;omega
         have e1:=q4 p (by rw [zzs];exact hp) (by rw [List.length_append,<-hs.len] at hj;omega)
         have e2:=yyN ys p hp
         rw [List.getElem?_eq_getElem (by rw [zzs];exact hp)] at e2
         have e3:(l++ys)[l.length+p]'hj=ys[p]:=by rw [List.getElem_append_right (Nat.le_add_right _ _)];simp only [Nat.add_sub_cancel_left]
         rw [show o+(l.length+p)=o+n+p by omega,e1,Option.some.inj e2,e3]
     · rw [show blkM (some ⟨g,o,none⟩) c=some g by unfold blkM;rw [if_neg (by omega)];rfl]
       exact qzm w g (o+n) (bvs ys)
 · cases A with
   | none =>
     have hz:n=0/\c=0:=by
      rcases h.row with hc | ⟨g,o,cur,e,_⟩
      · have:=h.cap;omega
      · cases e
     obtain⟨rfl,rfl⟩:=hz
     obtain rfl:l=[]:=List.length_eq_zero_iff.1 h.len.symm
     obtain⟨v',w',hrun,r1,r2,_⟩:=run_append_own (P:=Tryz.prog) w w.heap.size 41 ty 5 i (.int .u8 0) 1 1 zzG hi h0 h1 h2 rfl (by decide) (.slice none 0 0) 0 [] (World.ownsRow_nil w _ _ 1) ad m c2 (bvs ys) hl hnews (uuE ys) hfit.1 hfit.2 zN
     obtain⟨A',c',rfl,hm2,hlies⟩:=grow v' w' r1 r2
     exact⟨A',c',w',hrun,hm2,r2,hlies⟩
   | some b =>
     have holds:∀ j u,(bvs l)[j]?=some u->w.cell? (b.add j)=some u:=by
      by_cases hl0:l=[]
      · subst hl0;intro j u hu;simp [bvs] at hu
      · obtain⟨g,o,e,_,_,_⟩:=kqG h.bs (by rw [Ne,<-List.length_eq_zero_iff,zzs,List.length_eq_zero_iff];exact hl0)
        exact (kqG h.bs).news rfl
     obtain⟨v',w',hrun,r1,r2⟩:=run_append_arg_grows (P:=Tryz.prog) w 41 ty 5 i (.int .u8 0) 1 1 zzG hi h0 h1 h2 rfl (by decide) b n c (bvs l) (by rw [zzs,Nat.mul_one];exact h.len.symm) holds ad m c2 (bvs ys) hl hnews (by omega) hfit.1 hfit.2
     obtain⟨A',c',rfl,hm2,hlies⟩:=grow v' w' r1 r2
     exact⟨A',c',w',hrun,hm2,jj0 r2 _,hlies⟩
end
section
open Go Go.RowKit
theorem qzo {ops:Array Oper} {o:Oper} {a:Act} {w:World} {Q:Exit->Act->World->Prop} {K:Act->World->Prop} {E':Prop} (hgd:o.guard=none) (s x:Operand) (ho:o.op=.call { callee:=.builtin .append,args:=#[s,x],argTypes:=#[41,41] }) (B:Nat) (A:Option Addr) (n c:Nat) (xs:List UInt8) (hs:a.eval s=.slice A n c)
 (hown:OwnB w B A n c xs) (hB:B<=w.heap.size) (F:Nat->Prop) (A2:Option Addr) (m c2:Nat) (ys:List UInt8) (hx:a.eval x=.slice A2 m c2) (hsl:Bs F w A2 m c2 ys) (hlim:n+m<=68719476736)
 (h:∀ A' c' w',OwnB w' B A' (n+m) c' (xs++ys)->w.grownBy w' (A.map (·.block))->(A'.map (·.block)=A.map (·.block)∨A'.map (·.block)=some w.heap.size)->K (a.put o.dst (.slice A' (n+m) c')) w') :
 if Region.wanted o (yielded ops a.tmps)=true then Oper.wp Tryz.prog o a w K Q else E':=by
 have hw:Region.wanted o (yielded ops a.tmps)=true:=by simp [Region.wanted,hgd]
 rw [if_pos hw]
 obtain⟨h5,h6,h7,dss,h8,h9⟩:=hsl
 exact vvv (T:=tU8) zzF w w s x ho B A n c xs hs (fun _=>False) F (fun _=>False) hown.own (zR) hB A2 m c2 ys dss hx h5 h8 (h9.flat' qxd) (fun _ _ _ _ h=>h) hlim fun A' c' w' ha=>h A' c' w' (zz7 ⟨_,ha.own⟩) ha.grown ha.lies
theorem jj2 {ops:Array Oper} {o:Oper} {a:Act} {w:World} {Q:Exit->Act->World->Prop} {K:Act->World->Prop} {E':Prop} (hgd:o.guard=none) (s x:Operand) (ho:o.op=.call { callee:=.builtin .append,args:=#[s,x],argTypes:=#[41,41] }) (B:Nat) (A:Option Addr) (n c:Nat) (xs:List UInt8) (hs:a.eval s=.slice A n c)
 (hown:OwnB w B A n c xs) (hB:B<=w.heap.size) (obj:Obj) (hx:a.eval x=.slice (some ⟨w.heap.size,0,none⟩) 1 1) (y:UInt8) (hobj:obj=.cells #[.int .u8 (y.toNat:Int)] 5) (hlim:n<=34359738368)
 (h:∀ A' c' w',OwnB w' B A' (n+1) c' (xs++[y])->(w.drew.alloc obj).grownBy w' (A.map (·.block))->(A'.map (·.block)=A.map (·.block)∨A'.map (·.block)=some (w.drew.alloc obj).heap.size)->K (a.put o.dst (.slice A' (n+1) c')) w') :
 if Region.wanted o (yielded ops a.tmps)=true then Oper.wp Tryz.prog o a (w.alloc obj).drew K Q else E' :=
 xxa (T:=tU8) zzF w w.drew hgd s x ho B A n c xs hs (fun _=>False) (fun _=>False) hown.own.drew (zR) hB obj hx [.int .u8 (y.toNat:Int)] y rfl 5 hobj (fun _ _ _ _ h=>h) hlim fun A' c' w' ha=>h A' c' w' (zz7 ⟨_,ha.own⟩) ha.grown ha.lies
structure FlR (w0:World) (n0 ob lb B:Nat) (Ao:Option Addr) (no co:Nat) (out:List UInt8) (Al:Option Addr) (nl cl:Nat) (lst:List UInt8) (w:World):Prop where
 obox:w.heap[ob]?=some (.cells #[.slice Ao no co] 41 (0,0))
 lbox:w.heap[lb]?=some (.cells #[.slice Al nl cl] 41 (0,0))
 out:OwnB w B Ao no co out
 lst:MidB w B Al nl cl lst
 apart:∀ g,blkM Al cl=some g->Ao.map (·.block)≠some g
 ord:n0<=ob/\n0<=lb/\ob<B/\lb<B/\ob≠lb/\B<=w.heap.size
 below:Below n0 w0 w
structure FlK (ob lb B:Nat) (w w':World):Prop where
 others:KeepsOthers w w'
 low:∀ b,b<B->b≠ob->b≠lb->w'.heap[b]?=w.heap[b]?
theorem FlK.refl (ob lb B:Nat) (w:World):FlK ob lb B w w:=⟨KeepsOthers.refl w,fun _ _ _ _=>rfl⟩
theorem FlK.trans {ob lb B:Nat} {a b c:World} (h:FlK ob lb B a b) (k:FlK ob lb B b c):FlK ob lb B a c:=⟨h.others.trans k.others,fun x h1 h2 h3=>(k.low x h1 h2 h3).trans (h.low x h1 h2 h3)⟩
theorem FlK.setO {ob lb B:Nat} (w:World) (v:Value):FlK ob lb B w (w.setCell ⟨ob,0,none⟩ v):=⟨KeepsOthers.setCell _ _ _,fun b _ h _=>Below.heap_setCell w ⟨ob,0,none⟩ v b h⟩
theorem FlK.setL {ob lb B:Nat} (w:World) (v:Value):FlK ob lb B w (w.setCell ⟨lb,0,none⟩ v):=⟨KeepsOthers.setCell _ _ _,fun b _ _ h=>Below.heap_setCell w ⟨lb,0,none⟩ v b h⟩
theorem FlK.drewAlloc {ob lb B:Nat} (w:World) (o:Obj) (hB:B<=w.heap.size):FlK ob lb B w (w.drew.alloc o):=⟨(KeepsOthers.drew w).trans (KeepsOthers.alloc _ o),fun b hb _ _=>Below.heap_alloc w.drew o b (by show b<w.heap.size;omega)⟩
theorem zqC {F:Nat->Prop} {w:World} {b o n c:Nat} {l:List UInt8} (h:Bs F w (some ⟨b,o,none⟩) n c l) {k:Nat} (hk:k<=n) (h1:1<=k):Bs F w (some ⟨b,o,none⟩) k c (l.take k):=by
 have h2:=h.cut (lo:=0) (hi:=k) (by omega) hk
 have h3:=h.2.1
 rw [if_neg (by omega)] at h2
 simpa [Addr.add] using h2
section
variable {w0 w w' W:World} {n0 ob lb B:Nat} {Ao A' Al:Option Addr} {no co n' c' nl cl:Nat} {out out' lst lst':List UInt8}
theorem FlR.keep (h:FlR w0 n0 ob lb B Ao no co out Al nl cl lst w) (hb:Below w.heap.size w w'):FlR w0 n0 ob lb B Ao no co out Al nl cl lst w':=by
 have ho:=h.ord
 exact⟨(hb.block ob (by omega)).trans h.obox,(hb.block lb (by omega)).trans h.lbox,h.out.keepB hb,h.lst.keep fun g hg=>hb.block g (h.lst.blk hg).2.1,h.apart,⟨ho.1,ho.2.1,ho.2.2.1,ho.2.2.2.1,ho.2.2.2.2.1,Nat.le_trans ho.2.2.2.2.2 hb.size⟩,h.below.trans (hb.mono (by omega))⟩
theorem FlR.cells (h:FlR w0 n0 ob lb B Ao no co out Al nl cl lst w):w.cell? ⟨ob,0,none⟩=some (.slice Ao no co)/\w.cell? ⟨lb,0,none⟩=some (.slice Al nl cl)/\w.frozen? ⟨ob,0,none⟩=false/\w.frozen? ⟨lb,0,none⟩=false:=by
 refine⟨?_,?_,zF h.obox 0,zF h.lbox 0⟩
 · rw [zC h.obox];rfl
 · rw [zC h.lbox];rfl
structure FlO (w0:World) (n0 ob lb B:Nat) (Ao:Option Addr) (no co:Nat) (Ar:Option Addr) (nr cr:Nat) (out:List UInt8) (Al:Option Addr) (nl cl:Nat) (lst:List UInt8) (w:World):Prop where
 obox:w.heap[ob]?=some (.cells #[.slice Ao no co] 41 (0,0))
 lbox:w.heap[lb]?=some (.cells #[.slice Al nl cl] 41 (0,0))
 out:OwnB w B Ar nr cr out
 lst:MidB w B Al nl cl lst
 apart:∀ g,blkM Al cl=some g->Ar.map (·.block)≠some g
 ord:n0<=ob/\n0<=lb/\ob<B/\lb<B/\ob≠lb/\B<=w.heap.size
 below:Below n0 w0 w
theorem FlR.open_ (h:FlR w0 n0 ob lb B Ao no co out Al nl cl lst w):FlO w0 n0 ob lb B Ao no co Ao no co out Al nl cl lst w:=⟨h.obox,h.lbox,h.out,h.lst,h.apart,h.ord,h.below⟩
theorem FlO.drew {Ar:Option Addr} {nr cr:Nat} (h:FlO w0 n0 ob lb B Ao no co Ar nr cr out Al nl cl lst w):FlO w0 n0 ob lb B Ao no co Ar nr cr out Al nl cl lst w.drew :=
 ⟨h.obox,h.lbox,xxN h.out,h.lst.keep fun _ _=>rfl,h.apart,h.ord,h.below.drew⟩
theorem FlO.alloc {Ar:Option Addr} {nr cr:Nat} (h:FlO w0 n0 ob lb B Ao no co Ar nr cr out Al nl cl lst w) (o:Obj):FlO w0 n0 ob lb B Ao no co Ar nr cr out Al nl cl lst (w.alloc o):=by
 have ho:=h.ord
 have hb:Below w.heap.size w (w.alloc o):=(zR).alloc zN o
 exact⟨(hb.block ob (by omega)).trans h.obox,(hb.block lb (by omega)).trans h.lbox,h.out.keepB hb,h.lst.keep fun g hg=>hb.block g (h.lst.blk hg).2.1,h.apart,⟨ho.1,ho.2.1,ho.2.2.1,ho.2.2.2.1,ho.2.2.2.2.1,Nat.le_trans ho.2.2.2.2.2 hb.size⟩,h.below.trans (hb.mono (by omega))⟩
theorem FlO.grow {Ar:Option Addr} {nr cr:Nat} (h:FlO w0 n0 ob lb B Ao no co Ar nr cr out Al nl cl lst w) (ho2:OwnB w' B A' n' c' out') (hg:w.grownBy w' (Ar.map (·.block))) (hl:A'.map (·.block)=Ar.map (·.block)∨A'.map (·.block)=some w.heap.size) :
 FlO w0 n0 ob lb B Ao no co A' n' c' out' Al nl cl lst w'/\FlK ob lb B w w':=by
 have ho:=h.ord
 have hrow:∀ k,Ar.map (·.block)=some k->B<=k:=fun k hk=>(zzx h.out.own hk).2.1
 have hne:∀ b,b<B->some b≠Ar.map (·.block):=fun b hb e=>by have:=hrow b e.symm;omega
 refine⟨⟨(hg.block ob (by omega) (hne ob (by omega))).trans h.obox,(hg.block lb (by omega) (hne lb (by omega))).trans h.lbox,ho2,h.lst.keep fun g hg'=>hg.block g (h.lst.blk hg').2.1 (fun e=>h.apart g hg' e.symm),fun g hg' e=>?_,?_,?_⟩,?_,fun b hb _ _=>hg.block b (by omega) (hne b hb)⟩
 · rcases hl with h1 | h1
   · exact h.apart g hg' (by rw [<-h1];exact e)
   · rw [h1] at e
     have:=(h.lst.blk hg').2.1
     injection e with e
     omega
 · exact⟨ho.1,ho.2.1,ho.2.2.1,ho.2.2.2.1,ho.2.2.2.2.1,Nat.le_trans ho.2.2.2.2.2 hg.size⟩
 · exact h.below.grown hg (by omega) (fun k e=>by have:=hrow k e;omega)
 · refine KeepsOthers.of_grownBy hg fun j o hj hjo=>?_
   obtain⟨css,h1,_⟩:=h.out.own.row
   rcases h1.2 with ⟨e1,_⟩ | ⟨g,cap,cur,e1,_,hgc,_⟩
   · injection e1 with e1;rw [e1] at hj;cases hj
   · injection e1 with e1
     rw [e1] at hj
     injection hj with hj
     subst hj
     rw [hgc] at hjo
     injection hjo with hjo
     subst hjo
     rfl
theorem FlO.store {Ar:Option Addr} {nr cr:Nat} (h:FlO w0 n0 ob lb B Ao no co Ar nr cr out Al nl cl lst w):FlR w0 n0 ob lb B Ar nr cr out Al nl cl lst (w.setCell ⟨ob,0,none⟩ (.slice Ar nr cr)):=by
 have ho:=h.ord
 refine⟨zza h.obox rfl,zzd h.lbox (by omega),zzC h.out fun b hb=>Below.heap_setCell w ⟨ob,0,none⟩ _ b (fun e=>by have:=(h.out.lt b hb).1;simp at e;omega),h.lst.keep fun g hg=>Below.heap_setCell w ⟨ob,0,none⟩ _ g (fun e=>by have:=(h.lst.blk hg).1;simp at e;omega),h.apart,by simpa using h.ord,zzn h.below ho.1 _⟩
theorem FlR.storeL (h:FlR w0 n0 ob lb B Ao no co out Al nl cl lst w) (hm:MidB w B A' n' c' lst') (ha:∀ g,blkM A' c'=some g->Ao.map (·.block)≠some g):FlR w0 n0 ob lb B Ao no co out A' n' c' lst' (w.setCell ⟨lb,0,none⟩ (.slice A' n' c')):=by
 have ho:=h.ord
 refine⟨zzd h.obox (by omega),zza h.lbox rfl,zzC h.out fun b hb=>Below.heap_setCell w ⟨lb,0,none⟩ _ b (fun e=>by have:=(h.out.lt b hb).1;simp at e;omega),hm.keep fun g hg=>Below.heap_setCell w ⟨lb,0,none⟩ _ g (fun e=>by have:=(hm.blk hg).1;simp at e;omega),ha,by simpa using h.ord,zzn h.below ho.2.1 _⟩
end
theorem MidB.drop {w:World} {B g o n c:Nat} {l:List UInt8} (h:MidB w B (some ⟨g,o,none⟩) n c l) {k:Nat} (hk:k<=n):MidB w B (if c=k then some ⟨g,o,none⟩ else some ⟨g,o+k,none⟩) (n - k) (c - k) (l.drop k):=by
 have h1:=h.len
 have h2:=h.cap
 refine⟨by rw [List.length_drop,<-h1],by omega,Nat.le_trans (Nat.sub_le _ _) h.max,?_⟩
 by_cases hc:c=k
 · exact .inl (by omega)
 · rcases h.row with h0 | ⟨g',o',cur,e,k2,k3,k4,k5⟩
   · exact .inl (by omega)
   · injection e with e
     injection e with e1 e2 _
     subst e1 e2
     rw [if_neg hc]
     refine .inr ⟨g,o+k,cur,rfl,k2,k3,by omega,fun j hj=>?_⟩
     rw [List.length_drop] at hj
     rw [List.getElem_drop,Nat.add_assoc]
     exact k5 (k+j) (by omega)
theorem qzp {g o c k:Nat} {b:Nat} (h:blkM (if c=k then some ⟨g,o,none⟩ else some ⟨g,o+k,none⟩) (c - k)=some b):blkM (some ⟨g,o,none⟩) c=some b:=by
 unfold blkM at *
 by_cases hc:c - k=0
 · rw [if_pos hc] at h;cases h
 · rw [if_neg hc,if_neg (by omega)] at h
   rw [if_neg (by omega)]
   exact h
theorem uui (w0:World) (n0 ob lb B:Nat) (Ao:Option Addr) (no co:Nat) (out:List UInt8) (Al:Option Addr) (nl cl:Nat) (lst:List UInt8) (hno:no<=1073741824) (hnl:nl<=1073741824) (w:World) (h:FlR w0 n0 ob lb B Ao no co out Al nl cl lst w) :
 Calls Tryz.prog 201 #[.pointer (some ⟨lb,0,none⟩),.pointer (some ⟨ob,0,none⟩)] w fun e w'=>e=.returned (.tuple #[])/\∃ Ao' no' co' Al' cl',FlR w0 n0 ob lb B Ao' no' co' (out++yyf lst) Al' 0 cl' [] w'/\FlK ob lb B w w':=by
 have HH:=zH h
 have HNL:=zH (show lst.length<=1073741824 by rw [<-h.lst.len];exact hnl)
 have HNO:=zH (show out.length<=1073741824 by rw [<-h.out.len];exact hno)
 clear h hno hnl
 go_enter Tryz.func201,Tryz.ntmps201
 go_wp2_with fail
 go_loopw [3] (fun _ wr=>∃ (o1 l1:List UInt8) (A1:Option Addr) (n1 c1:Nat) (A2:Option Addr) (n2 c2:Nat),FlR w0 n0 ob lb B A1 n1 c1 o1 A2 n2 c2 l1 wr/\FlK ob lb B w wr/\o1++yyf l1=out++yyf lst/\l1.length<=lst.length)
  (fun _ wr=>lenV ((wr.cell? ⟨lb,0,none⟩).getD undef))
 case atStart=>exact⟨out,lst,Ao,no,co,Al,nl,cl,HH.out,FlK.refl _ _ _ _,rfl,Nat.le_refl _⟩
 case round =>
  obtain⟨o1,l1,A1,n1,c1,A2,n2,c2,hr,hk,he,hll⟩:=hrel
  have HR:=zH hr;have HK:=zH hk;have HE:=zH he;have HLL:=zH hll
  obtain⟨q1,q2,q3,q4⟩:=hr.cells
  have hl1:=hr.lst.len
  clear hr hk he hll
  by_cases hz:n2=0
  · subst hz
    obtain rfl:l1=[]:=List.length_eq_zero_iff.1 hl1.symm
    clear hl1
    go_wp2_with fail
    go_end0
    exact⟨rfl,A1,n1,c1,A2,c2,by have:=HR.out;rw [<-HE.out,vvT,List.append_nil];exact this,HK.out⟩
  · have hne:l1≠[]:=fun e=>by rw [e] at hl1;simp at hl1;omega
    obtain⟨k,hk⟩:∃ k,k=min n2 128:=⟨_,rfl⟩
    have hk1:1<=k/\k<=n2/\k<=128:=by omega
    obtain⟨y,hy⟩:∃ y:UInt8,y=UInt8.ofNat (256 - k):=⟨_,rfl⟩
    have HY:=zH (show IntKind.u8.wrap (IntKind.i64.wrap (-(k:Int)))=((y.toNat:Nat):Int) by rw [hy,UInt8.toNat_ofNat',IntKind.wrap_i64,IntKind.wrap_u8];omega)
    have HFS:=zH (show yyf l1=([y]++l1.take k)++yyf (l1.drop k) by
     rw [yy7 hne,litB,hy]
     have e1:min 128 l1.length=k:=by omega
     rw [e1]
     by_cases h128:128<=l1.length
     · rw [show k=128 by omega];rfl
     · rw [show l1.drop 128=l1.drop k by rw [List.drop_of_length_le (by omega),List.drop_of_length_le (by omega)]];rfl)
    obtain⟨g,o,hA2,hx1,hx2,hx3⟩:=uuF HR.out.lst.bs (k:=0) (by omega)
    clear hx1 hx2 hx3
    subst hA2
    have z1:(0:Int)<(n2:Int):=by omega
    have z2:0<n2:=by omega
    have z3:decide (0<n2)=true:=decide_eq_true z2
    have zm:min (n2:Int) 128=(k:Int):=by omega
    have i0:(0:Int)<=(k:Int):=by omega
    have hcap:=HR.out.lst.cap
    have hmax:=HR.out.lst.max
    unfold maxLen at hmax
    have i1:(k:Int)<=(c2:Int):=by omega
    have i2:(k:Int)<=(n2:Int):=by omega
    have i3:(n2:Int)<=(c2:Int):=by omega
    have hfl:=congrArg List.length HE.out
    rw [List.length_append,List.length_append] at hfl
    have hfo:=xxC lst
    have ho1:=HR.out.out.len
    have hlim:n1<=8589934592:=by have:=HNO.out;have:=HNL.out;omega
    have HLIM:=zH hlim;have HL1:=zH hl1;have HK1:=zH hk1
    have hB:=HR.out.ord.2.2.2.2.2
    have HB:=zH hB
    have qa:∀ o:Obj,(wr.alloc o).cell? ⟨ob,0,none⟩=some (.slice A1 n1 c1):=fun o=>zzt ((zR).alloc zN o) q1
    have qb:∀ ob:Obj,(wr.alloc ob).cell? ⟨lb,0,none⟩=some (.slice (some ⟨g,o,none⟩) n2 c2):=fun ob=>zzt ((zR).alloc zN ob) q2
    clear hfl hfo hlim ho1 hy hl1 hk1 hk
    go_upto_region 2 with fail
    go_cut [] from 9 to 18 (fun wx=>∃ (wd:World) (A5:Option Addr) (c5:Nat),wd=wx/\FlR w0 n0 ob lb B A5 (n1+1+k) c5 (o1++[y]++l1.take k) (some ⟨g,o,none⟩) n2 c2 l1 wd/\FlK ob lb B wr wd)
    case first =>
     go_region_law (first
      | (refine jj2 (w:=wr) rfl (.tmp 9) (.tmp 13) rfl B A1 n1 c1 o1 rfl HR.out.out HB.out _ rfl y (by rw [HY.out]) (by have:=HLIM.out;omega) ?_;intro A4 c4 w4 ho4 hg4 hl4
         obtain⟨hs4,hk4⟩:=(HR.out.open_.drew.alloc _).grow ho4 hg4 hl4
         have HS4:=zH hs4;have HK4:=zH hk4
         have r1:w4.cell? ⟨ob,0,none⟩=some (.slice A1 n1 c1):=(by rw [zC hs4.obox];rfl)
         have r2:w4.cell? ⟨lb,0,none⟩=some (.slice (some ⟨g,o,none⟩) n2 c2):=(by rw [zC hs4.lbox];rfl)
         clear ho4 hg4 hl4 hs4 hk4)
      | (refine qzo (w:=w4) rfl (.tmp 14) (.tmp 17) rfl B A4 (n1+1) c4 (o1++[y]) rfl HS4.out.out HS4.out.ord.2.2.2.2.2 (fun _=>True) (some ⟨g,o,none⟩) k c2 (l1.take k) rfl (zqC HS4.out.lst.bs HK1.out.2.1 HK1.out.1).any (by have:=HLIM.out;have:=HK1.out;omega) ?_;intro A5 c5 w5 ho5 hg5 hl5
         obtain⟨hs5,hk5⟩:=HS4.out.grow ho5 hg5 hl5
         have HS5:=zH hs5.store;have HK5:=zH hk5
         have s1:w5.cell? ⟨ob,0,none⟩=some (.slice A1 n1 c1):=(by rw [zC hs5.obox];rfl)
         have s2:=zF hs5.obox 0
         clear ho5 hg5 hl5 hs5 hk5)
      | fail)
     all_goals
      go_wp2_with fail
      go_meet
      exact⟨_,A5,c5,rfl,HS5.out,((FlK.drewAlloc wr _ HB.out).trans (HK4.out.trans HK5.out)).trans (FlK.setO _ _)⟩
    case rest =>
     obtain⟨wx,A5,c5,rfl,hs5,hk5⟩:=hcut
     have HS5:=zH hs5;have HK5:=zH hk5
     clear q1 q2 q3 q4 qa qb hs5 hk5
     obtain⟨q1,q2,q3,q4⟩:=HS5.out.cells
     refine ‹∀ (a:Act) (w_1:World),Code.wp _ _ _ a w_1->_› _ _ ?_
     have hdr:=HS5.out.lst.drop (k:=k) HK1.out.2.1
     have hda:∀ b,blkM (if c2=k then some ⟨g,o,none⟩ else some ⟨g,o+k,none⟩) (c2 - k)=some b->A5.map (·.block)≠some b:=fun b hb=>HS5.out.apart b (qzp hb)
     have HFIN:=zH (HS5.out.storeL hdr hda)
     have HEE:=zH (show o1++[y]++l1.take k++yyf (l1.drop k)=out++yyf lst by rw [<-HE.out,HFS.out];simp)
     have HLD:=zH (show (l1.drop k).length<=lst.length by rw [List.length_drop];have:=HLL.out;omega)
     clear hdr hda
     by_cases hck:c2=k
     · rw [if_pos hck,show c2 - k=0 by omega] at HFIN
       go_wp2_with fail
       go_roundw
       case rel=>exact⟨_,_,A5,_,c5,_,_,_,HFIN.out,HK.out.trans (HK5.out.trans (FlK.setL _ _)),HEE.out,HLD.out⟩
       case measure =>
        have e1:=HFIN.out.cells.2.1
        have e2:=HR.out.cells.2.1
        simp only [e1,e2,Option.getD_some,lenV]
        have:=HK1.out;omega
     · rw [if_neg hck] at HFIN
       go_wp2_with fail
       go_roundw
       case rel=>exact⟨_,_,A5,_,c5,_,_,_,HFIN.out,HK.out.trans (HK5.out.trans (FlK.setL _ _)),HEE.out,HLD.out⟩
       case measure =>
        have e1:=HFIN.out.cells.2.1
        have e2:=HR.out.cells.2.1
        simp only [e1,e2,Option.getD_some,lenV]
        have:=HK1.out;omega
end
end Go.Proofs.YtpmglcachffojaaGreatDoor
