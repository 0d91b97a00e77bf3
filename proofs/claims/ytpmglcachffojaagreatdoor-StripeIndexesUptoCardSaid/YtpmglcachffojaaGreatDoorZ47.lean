/- A part of what Indexes leans on. -/
import Derived.Test.YtpmglcachffojaaGreatDoorZ9
import Derived.Test.YtpmglcachffojaaGreatDoorZ41
import Derived.Test.YtpmglcachffojaaGreatDoorZ45
set_option maxRecDepth 100000
set_option maxHeartbeats 16000000
namespace Go.Proofs.YtpmglcachffojaaGreatDoor
section
open Go Go.RowKit Go.Shelf
attribute [local go_sem] Oper.semAt_some
theorem apl1In {P:Program} {α:Type} {T:Ty α} {t e:TypeId} (E:zzP P t e T.size) (w a0:World) {ops:Array Oper} {rest:List Oper} {o:Oper} {a:Act} {Q:Exit->Act->World->Prop} {l nF:Nat} (hgd:o.guard=none) (s x:Operand) (ho:o.op=.call { callee:=.builtin .append,args:=#[s,x],argTypes:=#[t,t] }) (B:Nat) (A:Option Addr) (n c:Nat) (xs:List α) (hs:a.eval s=.slice A n c)
 (F G:Nat->Prop) (hown:OwnF T e F w B A n c xs) (hb:Below B a0 w) (hB:B<=a0.heap.size) (obj:Obj) (hx:a.eval x=.slice (some ⟨w.heap.size,0,none⟩) 1 1)
 (cs:List Value) (y:α) (hrep:T.rep G w cs y) (t':TypeId) (hobj:obj=.cells cs.toArray t') (hF:∀ b,A=some ⟨b,0,none⟩->B<=b->b<w.heap.size->¬ G b) (hlim:n<=34359738368)
 (h:∀ A' c' w',ApdL T e (fun b=>(F b∨G b)/\b<w.heap.size) a0 (w.alloc obj) w' B A A' (n+1) c' (xs++[y])->wpListIn (Fence.wide.inRound l) nF P ops Q rest (a.put o.dst (.slice A' (n+1) c')) w'):wpListIn (Fence.wide.inRound l) nF P ops Q (o::rest) a (w.alloc obj) :=
 wpListIn_plain hgd fun _ hK=>xxU (by rw [ho];intro c hc;cases hc) (kqM E w a0 s x ho B A n c xs hs F G hown hb hB obj hx cs y hrep t' hobj hF hlim fun A' c' w' h2=>hK _ _ (h A' c' w' h2))
theorem results_c2 {P:Program} {fn:Func} {p q:Tmp} {t1 t2:TypeId} (h:fn.results=#[.cell p t1,.cell q t2]) (tmps:Array Value) (w:World) (g1 g2:Nat) (v1 v2:Value)
 (hp:tmps.getD p undef=.pointer (some ⟨g1,0,none⟩)) (hq:tmps.getD q undef=.pointer (some ⟨g2,0,none⟩))
 (h1:(loadVar t1 ⟨g1,0,none⟩).run P w=.ok v1 w) (h2:(loadVar t2 ⟨g2,0,none⟩).run P w=.ok v2 w) :
 (results fn tmps).run P w=.ok (.tuple #[v1,v2]) w:=by
 have hp':tmps[p]?.getD undef=.pointer (some ⟨g1,0,none⟩):=by simpa using hp
 have hq':tmps[q]?.getD undef=.pointer (some ⟨g2,0,none⟩):=by simpa using hq
 simp [results,h,hp',hq',asAddr,h1,h2]
theorem run_stcell {w:World} {g:Nat} {v:Value} (h:w.cell? ⟨g,0,none⟩=some v):(loadVar 42 ⟨g,0,none⟩).run Tryz.prog w=.ok v w:=by
 simp [go_sem,h]
structure TiR (w:World) (A:Option Addr) (n c:Nat) (v:Value) (er:Int) (W:World):Prop where
 x:W.heap[w.heap.size]?=some (.cells #[.slice A n c] 34 (0,0))
 r:W.heap[w.heap.size+1]?=some (.cells #[v] 42 (0,0))
 e:W.heap[w.heap.size+1+1]?=some (.cells #[.int .i64 er] 28 (0,0))
 below:Below w.heap.size w W
section
variable {w W W':World} {A:Option Addr} {n c:Nat} {v:Value} {er:Int}
theorem TiR.cellsOf (h:TiR w A n c v er W):W.cell? ⟨w.heap.size,0,none⟩=some (.slice A n c)/\(W.cell? ⟨w.heap.size+1,0,none⟩=some v/\W.frozen? ⟨w.heap.size+1,0,none⟩=false)/\(W.cell? ⟨w.heap.size+1+1,0,none⟩=some (.int .i64 er)/\W.frozen? ⟨w.heap.size+1+1,0,none⟩=false) :=
 ⟨by rw [zC h.x];rfl,⟨by rw [zC h.r];rfl,zF h.r 0⟩,⟨by rw [zC h.e];rfl,zF h.e 0⟩⟩
theorem TiR.call (h:TiR w A n c v er W) (hb:Below (w.heap.size+3) W W'):TiR w A n c v er W' :=
 ⟨(hb.block _ (by omega)).trans h.x,(hb.block _ (by omega)).trans h.r,(hb.block _ (by omega)).trans h.e,h.below.trans (hb.mono (by omega))⟩
theorem TiR.put (h:TiR w A n c v er W) (v':Value) (er':Int):TiR w A n c v' er' ((W.setCell ⟨w.heap.size+1,0,none⟩ v').setCell ⟨w.heap.size+1+1,0,none⟩ (.int .i64 er')) :=
 ⟨zzf (zzf h.x (by omega)) (by omega),zzf (zza h.r rfl) (by omega),zza (zzf h.e (by omega)) rfl,zzi (zzi h.below (Nat.le_succ _) _) (by omega) _⟩
theorem TiR.grow (h:TiR w A n c v er W) {row:Option Nat} (hg:W.grownBy W' row) (hs:w.heap.size+3<=W.heap.size) (hr:∀ k,row=some k->w.heap.size+3<=k):TiR w A n c v er W' :=
 ⟨(hg.block _ (by omega) (fun e=>by have:=hr _ e.symm;omega)).trans h.x,(hg.block _ (by omega) (fun e=>by have:=hr _ e.symm;omega)).trans h.r,(hg.block _ (by omega) (fun e=>by have:=hr _ e.symm;omega)).trans h.e,h.below.grown hg (by omega) (fun k e=>by have:=hr k e;omega)⟩
end
theorem tiW (w:World) (A:Option Addr) (n c:Nat):∃ wb,wb=((w.alloc (.cells #[.slice A n c] 34)).alloc (.cells #[.slice none 0 0] 42)).alloc (.cells #[.int .i64 0] 28)/\TiR w A n c (.slice none 0 0) 0 wb/\wb.heap.size=w.heap.size+3 :=
 ⟨_,rfl,⟨zzd (zzd (zzp rfl _) _) _,zzd (zzp (by simp) _) _,zzp (by simp) _,(((Below.refl _ w).alloc zN _).alloc (by simp) _).alloc (by simp;omega) _⟩,by simp⟩
theorem ti_res {w W:World} {A:Option Addr} {n c:Nat} {v:Value} {er:Int} (h:TiR w A n c v er W) (tm:Array Value) (h6:tm.getD 6 undef=.pointer (some ⟨w.heap.size+1,0,none⟩)) (h7:tm.getD 7 undef=.pointer (some ⟨w.heap.size+1+1,0,none⟩)) :
 (results Tryz.f32 tm).run Tryz.prog W=.ok (.tuple #[v,.int .i64 er]) W :=
 results_c2 rfl _ _ _ _ _ _ h6 h7 (run_stcell (by rw [zC h.r];rfl)) (jjQ (by rw [zC h.e];rfl))
theorem ti_keeps {B r:Nat} {W w2:World} {a b:Value} (hb:Below W.heap.size W w2):KeepsFrom B W ((w2.setCell ⟨r,0,none⟩ a).setCell ⟨r+1,0,none⟩ b) :=
 (⟨hb.size,fun k _ _ hk _=>(hb.block k (zzc hk)).trans hk⟩:KeepsFrom B W w2).trans (((KeepsOthers.setCell w2 _ _).trans (KeepsOthers.setCell _ _ _)).from B)
def TiI (cols:List CC) (l:List Fld) (B K:Nat) (w4:World) {m:Nat} (pre:List (Fin m)) (W:World):Prop :=
 ∃ A7 c7 F3,TwoL B [] (pre.map fun x=>atI cols l x.val) none 0 0 A7 pre.length c7 F3 W/\W.heap[K]?=some (.cells #[.slice A7 pre.length c7] 42 (0,0))/\Below K w4 W/\B<=W.heap.size/\∀ x∈pre,okI cols l x.val=true
theorem TiI.own (cols:List CC) (l:List Fld) (B K:Nat) (w4:World) (m:Nat) (hK:K+3=B) (hw:w4.heap.size=K):OwnFrom B (TiI cols l B K w4 (m:=m)):=fun pre W W' row hs hg hr=>by
 obtain⟨A7,c7,F3,h1,h2,h3,h4,h5⟩:=hs
 have hr1:∀ r,row=some r->B<=r:=fun r e=>(hr r e).1
 exact⟨A7,c7,_,h1.quiet hg (fun r e=>(hr r e).2),(hg.block K (by omega) (fun e=>by have:=hr1 _ e.symm;omega)).trans h2,h3.grown hg (by omega) (fun r e=>by have:=hr1 r e;omega),Nat.le_trans h4 hg.size,h5⟩
def TiX (cols:List CC) (bs:List UInt8) (w:World) (A:Option Addr) (n cc:Nat) (B:Nat) {m:Nat} (c:Code) (_:List (Fin m)) (W:World):Prop:=c=.ret/\zzC cols bs=none/\TiR w A n cc (.slice none 0 0) 2 W/\B<=W.heap.size
theorem TiX.own (cols:List CC) (bs:List UInt8) (w:World) (A:Option Addr) (n cc B m:Nat) (hB:w.heap.size+3<=B) (c:Code):OwnFrom B (TiX cols bs w A n cc B (m:=m) c):=fun _ W W' row hs hg hr=>by
 obtain⟨h1,h2,h3,h4⟩:=hs
 have hr1:∀ r,row=some r->B<=r:=fun r e=>(hr r e).1
 exact⟨h1,h2,h3.grow hg (by omega) (fun r e=>by have:=hr1 r e;omega),Nat.le_trans h4 hg.size⟩
theorem ti_fin {B K:Nat} {W W4 w9:World} {A7:Option Addr} {obj:Obj} (v:Value) (hK:K<B) (hBW:B<=W.heap.size) (hb4:Below W.heap.size W W4) (hA:∀ b,A7.map (·.block)=some b->B<=b/\zzW W b) (hg:(W4.alloc obj).grownBy w9 (A7.map (·.block))) :
 KeepsFrom B W (w9.setCell ⟨K,0,none⟩ v)/\(∀ b,b<B->b≠K->(w9.setCell ⟨K,0,none⟩ v).heap[b]?=W.heap[b]?)/\W.heap.size<=(w9.setCell ⟨K,0,none⟩ v).heap.size/\w9.heap[K]?=W.heap[K]?/\Below B W w9:=by
 have hsz:W4.heap.size+1<=w9.heap.size:=by have:=hg.size;rw [zS] at this;exact this
 have hs4:=hb4.size
 have hlow:∀ b,b<B->w9.heap[b]?=W.heap[b]?:=fun b hb=>(hg.block b (by rw [zS];omega) (fun e=>by have:=(hA b e.symm).1;omega)).trans ((Below.heap_alloc W4 obj b (by omega)).trans (hb4.block b (by omega)))
 refine⟨⟨by simp;omega,fun k o hk hl hc=>?_⟩,fun b hb1 hne=>(Below.heap_setCell _ _ _ _ hne).trans (hlow b hb1),by simp;omega,hlow K hK,((hb4.mono hBW).alloc (by omega) obj).grown hg (by rw [zS];omega) (fun k e=>(hA k e).1)⟩
 have hkl:=zzc hl
 refine (Below.heap_setCell _ _ _ _ (by show k≠K;omega)).trans ?_
 refine (hg.block k (by rw [zS];omega) (fun e=>?_)).trans ((Below.heap_alloc W4 obj k (by omega)).trans ((hb4.block k hkl).trans hl))
 exact yyQ (hA k e.symm).2 ⟨o,hl,hc⟩ rfl
theorem opened_b {b:List UInt8} {l:List Fld} (h:(yyc b).bind zzo=some l):∀ f∈l,f.b.length<=b.length:=fun f hf=>by
 cases ho:yyc b with
 | none=>rw [ho] at h;cases h
 | some x =>
   rw [ho] at h
   have h:zzo x=some l:=h
   have h1:=xx6 ho
   have h2:=yy1 x.length x l zN h
   have h3:=uu8 l f hf
   omega
theorem qxm (g:Nat) (F F2:Nat->Prop) (A A2:Option Addr) (n c n2 c2:Nat) (cols:List CC) (bs:List UInt8) (w:World) (hT:TabC g w) (h:Sl tCol F w A n c cols) (h2:Sl tU8 F2 w A2 n2 c2 bs) (hn:n<=40) (hn2:n2<=1000000) (hU:Lib.Utf8Tabs 0 1 w) :
 Calls Tryz.prog 32 #[.pointer (some ⟨g,0,none⟩),.slice A n c,.slice A2 n2 c2] w (xqi cols bs w):=by
 obtain⟨wb,hw,hr,hsz⟩:=tiW w A n c
 have HW:=zH hw;have HR:=zH hr;have HSZ:=zH hsz;have HN:=zH hn;have HN2:=zH hn2;have HL:=zH h.len;have HL2:=zH h2.len
 have HTB:=zH (hT.keep hr.below);have HH:=zH (h.below hr.below zN);have HH2:=zH (h2.below hr.below zN);have HU:=zH (zzb hU hr.below)
 obtain⟨ec,hec⟩:∃ ec,ec=okc ((yyc bs).bind zzo).isSome 2:=⟨_,rfl⟩
 have HEC:=zH hec
 obtain⟨m,hm⟩:∃ m,m=1+2*n:=⟨_,rfl⟩
 have HM:=zH hm
 have e1:IntKind.i64.wrap (2*(n:Int))=2*(n:Int):=by rw [IntKind.wrap_i64];omega
 have e2:IntKind.i64.wrap (1+2*(n:Int))=(m:Int):=by rw [IntKind.wrap_i64];omega
 have e3:1+2*(n:Int)=(m:Int):=by omega
 have e4:¬ (m:Int)=0:=by omega
 have e6:(m:Int)<=81:=by omega
 have e7:(0:Int)<=(m:Int):=by omega
 have e8:(0:Int)<(m:Int):=by omega
 have e5:((m:Int)==0)=false:=by simpa using e4
 have FIN:Hid (∀ (w1:World) (tm:Array Value),Below wb.heap.size wb w1->tm.getD 6 undef=.pointer (some ⟨w.heap.size+1,0,none⟩)->tm.getD 7 undef=.pointer (some ⟨w.heap.size+1+1,0,none⟩)->zzC cols bs=none ->
  ∃ r,(results Tryz.f32 tm).run Tryz.prog ((w1.setCell ⟨w.heap.size+1,0,none⟩ (.slice none 0 0)).setCell ⟨w.heap.size+1+1,0,none⟩ (.int .i64 2))=.ok r ((w1.setCell ⟨w.heap.size+1,0,none⟩ (.slice none 0 0)).setCell ⟨w.heap.size+1+1,0,none⟩ (.int .i64 2))/\xqi cols bs w (.returned r) ((w1.setCell ⟨w.heap.size+1,0,none⟩ (.slice none 0 0)).setCell ⟨w.heap.size+1+1,0,none⟩ (.int .i64 2))):=zH (fun w1 tm hb e6 e7 hN=>by
  have h2:=(HR.out.call (hb.mono (by have:=HSZ.out;omega))).put (.slice none 0 0) 2
  exact⟨_,ti_res h2 tm e6 e7,uuR hN h2.below⟩)
 clear hw hr hsz hn hn2 hT h h2 hec hU hm
 refine (callsIn_wide (n:=3)).1 ?_
 refine callsIn_of_wp_marks Tryz.func32 rfl trivial ?_ rfl
 simp only [Tryz.ntmps32,List.size_toArray,List.length_cons,List.length_nil,Nat.reduceAdd,Nat.reduceSub,Array.replicate_succ,Array.replicate_zero,List.push_toArray,List.append_toArray,List.nil_append,List.cons_append]
 gi_wp2
 refine⟨trivial,?_⟩
 rw [<-HW.out]
 refine (callsIn_wide.2 (xq7 g F2 A2 n2 c2 bs _ HTB.out HH2.out (by have:=HN2.out;omega))).mono ?_
 rintro e w1 ⟨A1,n1,c1,rfl,hb1,hs1⟩
 rw [<-HEC.out]
 have HB1:=zH hb1
 obtain⟨x0,⟨z0,z0'⟩,⟨z1,z1'⟩⟩:=(HR.out.call (hb1.mono (by have:=HSZ.out;omega))).cellsOf
 clear hb1
 cases hO:(yyc bs).bind zzo with
 | none =>
   obtain rfl:ec=2:=by rw [HEC.out,hO];rfl
   have HC:=zH (xx9 (cols:=cols) hO)
   clear hO hs1
   gi_wp2
   repeat (refine⟨trivial,?_⟩;gi_wp2)
   refine FIN.out w1 _ HB1.out ?_ ?_ HC.out <;> rfl
 | some l =>
   obtain rfl:ec=0:=by rw [HEC.out,hO];rfl
   have HC:=zH (uuK (cols:=cols) hO)
   rw [hO] at hs1
   have hs1:Sl tFld (fun k=>wb.heap.size<=k) w1 A1 n1 c1 l:=hs1
   have HS1:=zH hs1
   have HLN:Hid (l.length<=bs.length):=zH (vvv hO).1
   have HFB:Hid (∀ f∈l,f.b.length<=1000000):=zH (fun f hf=>by have h1:=opened_b hO f hf;have h2:=HL2.out;have h3:=HN2.out;omega)
   have HL1:=zH hs1.len
   have HC1:=zH hs1.2.1;have HC2:=zH hs1.2.2.1
   have HMC:Hid (m=1+2*cols.length):=zH (by rw [HM.out,HL.out])
   clear hO hs1
   by_cases hmod:n1 % m=0
   · have t1:(n1:Int).tmod (m:Int)=0:=by rw [Int.tmod_eq_emod_of_nonneg (by omega),<-Int.natCast_emod,hmod];rfl
     have t2:(n1:Int) % (m:Int)=0:=by rw [<-Int.natCast_emod,hmod];rfl
     have HMOD:=zH hmod
     clear hmod
     gi_wp2
     obtain⟨Q,hQ⟩:∃ Q,Q=n1 / m:=⟨_,rfl⟩
     have hQ2:n1=m*Q:=by rw [hQ];have h1:=Nat.div_add_mod n1 m;rw [HMOD.out,Nat.add_zero] at h1;exact h1.symm
     have HQ2:=zH hQ2
     have HQL:Hid (Q=l.length / (1+2*cols.length)):=zH (by rw [hQ,HMC.out,HL1.out])
     obtain⟨Kx,hK⟩:∃ q,q=w1.heap.size:=⟨_,rfl⟩
     obtain⟨W4,hW4⟩:∃ W4,W4=w1.alloc (.cells #[.slice none 0 0] 42):=⟨_,rfl⟩
     have hb4:Below w1.heap.size w1 W4:=by rw [hW4];exact (zR).alloc zN _
     have HZ4:Hid (W4.heap.size=Kx+1):=zH (by rw [hW4,hK];simp)
     have HBX:Hid (W4.heap[Kx]?=some (.cells #[.slice none 0 0] 42 (0,0))):=zH (by rw [hW4,hK];exact heap_alloc_new w1 _)
     have HB4:=zH hb4;have HK:=zH hK
     have HSP:Hid (Sl tFld (fun k=>wb.heap.size<=k/\k<Kx) w1 A1 n1 c1 l):=zH (HS1.out.weaken (F':=fun k=>wb.heap.size<=k/\k<Kx) (fun k hk hl=>⟨hk,by rw [hK];exact hl⟩))
     have HM1:Hid (1<=m/\m<=81):=zH (by omega)
     rw [<-hW4,<-hK]
     clear hK hW4 hb4 hQ hQ2
     refine⟨trivial,?_⟩
     refine (chFld_in Fence.wide _ trivial rfl A1 n1 c1 m HM1.out.1 _).mono ?_
     rintro e w' ⟨rfl,rfl⟩
     obtain⟨W0,hW0⟩:∃ W0,W0=(W4.alloc (.cells #[.slice A1 n1 c1] 111)).alloc (.cells #[.int .i64 (m:Int)] 3):=⟨_,rfl⟩
     have hb0:W0.heap[W4.heap.size]?=some (.cells #[.slice A1 n1 c1] 111 (0,0)):=by rw [hW0];exact zzd (zzp rfl _) _
     have hb1:W0.heap[W4.heap.size+1]?=some (.cells #[.int .i64 (m:Int)] 3 (0,0)):=by rw [hW0];exact zzp (by simp) _
     have hbw:Below W4.heap.size W4 W0:=by rw [hW0];exact ((zR).alloc zN _).alloc (by simp) _
     have hz0:W0.heap.size=Kx+3:=by rw [hW0];simp;exact HZ4.out
     rw [<-hW0]
     have HB40:=zH hbw;have HZ0:=zH hz0;have HA0:=zH hb0;have HA1:=zH hb1
     clear hW0 hbw hz0 hb0 hb1
     gi_wp2
     have hbw:=HB40.out;have hz0:=HZ0.out;have hb0:=HA0.out;have hb1:=HA1.out
     have hz4:=HZ4.out
     have hk4:w1.heap.size=Kx:=HK.out.symm
     have hkw:wb.heap.size<=Kx:=by have:=HB1.out.size;omega
     have hszb:=HSZ.out
     have h0:TiI cols l W0.heap.size Kx w1 (m:=Q) [] W0 :=
      ⟨none,0,_,TwoL.nil_ _ _,(hbw.block Kx (by omega)).trans HBX.out,by rw [<-hk4];exact HB4.out.trans (hbw.mono (by omega)),Nat.le_refl _,by simp⟩
     have hn0:∀ k,k<Q↔m*k<n1:=fun k=>by rw [HQ2.out];exact (Nat.mul_lt_mul_left (by have:=HM1.out;omega)).symm
     have hnn:n1<=4294967296:=by have h1:=HL1.out;have h2:=HLN.out;have h3:=HL2.out;have h4:=HN2.out;omega
     refine wpIn_rangeFunc_ownG rfl (by omega) (gf:=132) (lb:=#[.pointer (some ⟨W4.heap.size,0,none⟩),.pointer (some ⟨W4.heap.size+1,0,none⟩)]) rfl trivial (enters_of Tryz.func132 (by kernel_rfl) rfl)
      (qxl Fence.wide _ trivial rfl (by omega) W4.heap.size (W4.heap.size+1) A1 m Q n1 c1 HM1.out.1 (by have:=HM1.out;omega) hn0 hnn HC1.out HC2.out W0 hb0 hb1) KpC.trans (KpC.put (by omega) (by omega)) (zR) (fun _=>rfl)
      (TiI cols l W0.heap.size Kx w1) (TiX cols bs w A n c W0.heap.size) (TiI.own cols l _ Kx w1 _ (by omega) hk4) (TiX.own cols bs w A n c _ _ (by omega)) h0 ?_ ?_ ?_ ?_ ?_
     rotate_left
     · intro l x W K hK
       dsimp only [uu9]
       gi_wp2
       exact hK
     · rintro l' pre x W ⟨A7,c7,F3,htl,hbox,hbk,hszW,hok⟩ hpl
       have HKW:=zH hkw;have HPL:=zH hpl
       have hmx:m*x.val+m<=n1:=by rw [HQ2.out,<-Nat.mul_succ];exact Nat.mul_le_mul_left m x.isLt
       have HTL:=zH htl;have HBOX:=zH hbox;have HBK:=zH hbk;have HSZW:=zH hszW;have HOKS:=zH hok;have HMX:=zH hmx
       have HBW:Hid (Below wb.heap.size wb W):=zH (HB1.out.trans (hbk.mono hkw))
       have HTR:=zH (HR.out.call (HBW.out.mono (by omega)))
       have HLOW:Hid (w.heap.size+3<=W.heap.size):=zH (by omega)
       obtain⟨AP,hAP⟩:∃ q,q=Option.map (fun a:Addr=>a.add (m*x.val*4)) A1:=⟨_,rfl⟩
       obtain⟨P,hP⟩:∃ q,q=zqw l m x.val:=⟨_,rfl⟩
       have hmin:min m (n1 - m*x.val)=m:=by omega
       have hPS:Sl tFld (fun k=>wb.heap.size<=k/\k<Kx) W AP m m P:=by
        have h1:=(HSP.out.below hbk (by omega)).cut (lo:=m*x.val) (hi:=m*x.val+m) (by omega) hmx
        rw [if_neg (by have h2:=HC1.out;have h3:=HM1.out;omega),List.drop_take,Nat.add_sub_cancel_left] at h1
        have h2:Sl tFld (fun k=>wb.heap.size<=k/\k<Kx) W (A1.map fun a=>a.add (m*x.val*4)) m m ((l.drop (m*x.val)).take m):=⟨h1.1,Nat.le_refl _,by have h3:=h1.2.2.1;have h4:=h1.2.1;omega,h1.2.2.2⟩
        rw [hAP,hP]
        exact h2
       have HPS:=zH hPS
       have HPN:Hid (P.length=1+2*cols.length):=zH (by rw [<-hPS.len,HMC.out])
       have HPB:Hid (∀ f∈P,f.b.length<=1000000):=zH (fun f hf=>HFB.out f (partF_mem (by rw [<-hP];exact hf)))
       have HOI:Hid (okI cols l x.val=(zzy cols P).isSome):=zH (by unfold okI;rw [hP,HMC.out])
       have HAI:Hid (atI cols l x.val=(zzy cols P).getD (0,[],[])):=zH (by unfold atI;rw [hP,HMC.out])
       have HXQ:Hid (x.val<Q):=zH x.isLt
       rw [hmin,<-hAP]
       have HNO:Hid (∀ w2,Below W.heap.size W w2->okI cols l x.val=false->KeepsFrom W0.heap.size W ((w2.setCell ⟨w.heap.size+1,0,none⟩ (.slice none 0 0)).setCell ⟨w.heap.size+1+1,0,none⟩ (.int .i64 2))/\TiX cols bs w A n c W0.heap.size (m:=Q) .ret (pre++[x]) ((w2.setCell ⟨w.heap.size+1,0,none⟩ (.slice none 0 0)).setCell ⟨w.heap.size+1+1,0,none⟩ (.int .i64 2))):=zH (fun w2 hb hf=>by
        have h2:=(HTR.out.call (hb.mono HLOW.out)).put (.slice none 0 0) 2
        exact⟨ti_keeps hb,rfl,by rw [HC.out];exact xqg (by rw [<-HQL.out];exact HXQ.out) hf,h2,by simp;have:=hb.size;have:=HSZW.out;omega⟩)
       obtain⟨y0,-,-⟩:=HTR.out.cellsOf
       clear htl hbox hbk hszW hok hpl hk4 hz4 hszb hz0 hb0 hb1 h0 hbw hAP hP hmin hmx hPS hnn hkw x0 z0 z0' z1 z1'
       gi_wp2
       refine⟨trivial,?_⟩
       refine (CallsIn.inRound l' (callsIn_wide.2 (stride_any F _ A AP n c m m cols P W (HH.out.below HBW.out zN) HPS.out HPN.out HN.out HPB.out (zzb HU.out HBW.out)))).mono ?_
       rintro e w3 ⟨hb3,⟨hno,q,A5,n5,c5,A6,n6,c6,rfl⟩ | ⟨q,L,M,A5,n5,c5,A6,n6,c6,hyes,rfl,hq,hs5,hs6⟩⟩
       · have HB3:=zH hb3
         have HF:Hid (okI cols l x.val=false):=zH (by rw [HOI.out,hno];rfl)
         have z0:∀ o,(w3.alloc o).cell? ⟨w.heap.size+1,0,none⟩=some (.slice none 0 0):=fun o=>(HTR.out.call ((hb3.mono HLOW.out).alloc (by have:=hb3.size;have:=HLOW.out;omega) o)).cellsOf.2.1.1
         have z0':∀ o,(w3.alloc o).frozen? ⟨w.heap.size+1,0,none⟩=false:=fun o=>(HTR.out.call ((hb3.mono HLOW.out).alloc (by have:=hb3.size;have:=HLOW.out;omega) o)).cellsOf.2.1.2
         have z1:∀ o,(w3.alloc o).cell? ⟨w.heap.size+1+1,0,none⟩=some (.int .i64 0):=fun o=>(HTR.out.call ((hb3.mono HLOW.out).alloc (by have:=hb3.size;have:=HLOW.out;omega) o)).cellsOf.2.2.1
         have z1':∀ o,(w3.alloc o).frozen? ⟨w.heap.size+1+1,0,none⟩=false:=fun o=>(HTR.out.call ((hb3.mono HLOW.out).alloc (by have:=hb3.size;have:=HLOW.out;omega) o)).cellsOf.2.2.2
         clear hb3 hno y0
         gi_wp2
         repeat (refine⟨trivial,?_⟩;gi_wp2)
         exact HNO.out _ (HB3.out.alloc HB3.out.size _) HF.out
       · have HB3:=zH hb3
         have HF:Hid (okI cols l x.val=true):=zH (by rw [HOI.out,hyes];rfl)
         have HAT:Hid (atI cols l x.val=(q,L,M)):=zH (by rw [HAI.out,hyes];rfl)
         have k0:∀ o,(w3.alloc o).cell? ⟨Kx,0,none⟩=some (.slice A7 pre.length c7):=fun o=>zze (by rw [zC ((hb3.block Kx (zzc HBOX.out)).trans HBOX.out)];rfl) o
         have HS5:=zH (hs5.weaken (F':=fun b=>W.heap.size<=b/\b<w3.heap.size) fun b h1 h2=>⟨h1,h2⟩)
         have HS6:=zH (hs6.weaken (F':=fun b=>W.heap.size<=b/\b<w3.heap.size) fun b h1 h2=>⟨h1,h2⟩)
         have HQI:=zH hq
         obtain⟨OB,hOB⟩:∃ OB:Obj,OB=.cells #[.int .i64 q,.slice A5 n5 c5,.slice A6 n6 c6] 97:=⟨_,rfl⟩
         have hb35:Below W.heap.size W (w3.alloc (.cells #[.int .i64 q,.slice A5 n5 c5,.slice A6 n6 c6] 97)):=hb3.alloc hb3.size _
         have HB35:=zH hb35
         have HT5:=zH (HTL.out.call hb35)
         have HREP:Hid (tSt.rep (fun b=>W.heap.size<=b/\b<w3.heap.size) (w3.alloc (.cells #[.int .i64 q,.slice A5 n5 c5,.slice A6 n6 c6] 97)) [.int .i64 q,.slice A5 n5 c5,.slice A6 n6 c6] (atI cols l x.val)):=zH (by
          rw [HAT.out]
          exact⟨[.int .i64 q],[.slice A5 n5 c5,.slice A6 n6 c6],rfl,⟨rfl,HQI.out⟩,[.slice A5 n5 c5],[.slice A6 n6 c6],rfl,⟨A5,n5,c5,rfl,HS5.out.alloc _⟩,A6,n6,c6,rfl,HS6.out.alloc _⟩)
         have H7:Hid (∀ b,A7.map (·.block)=some b->W0.heap.size<=b/\b<W.heap.size/\zzW W b):=zH fun b e=>⟨(HTL.out.s.lies' e).2.1,(HTL.out.s.lies' e).2.2,HTL.out.s.rowCells e⟩
         have HLIM:Hid (pre.length<=34359738368):=zH (by have h1:=HPL.out;have h2:=HL1.out;have h3:=HLN.out;have h4:=HL2.out;have h5:=HN2.out;have h6:=HQ2.out;have h7:=Nat.le_mul_of_pos_left Q (show 0<m by have:=HM1.out;omega);omega)
         clear hb3 hyes y0 hs5 hs6 hq hb35 hOB
         gi_wp2_with (first
          | (gi_at_builtin;refine apl1In (T:=tSt) qxZ (w3.alloc (.cells #[.int .i64 q,.slice A5 n5 c5,.slice A6 n6 c6] 97)) (w3.alloc (.cells #[.int .i64 q,.slice A5 n5 c5,.slice A6 n6 c6] 97)) rfl (.tmp 47) (.tmp 49) rfl W0.heap.size A7 pre.length c7 (pre.map fun x=>atI cols l x.val) (by rfl) F3 (fun b=>W.heap.size<=b/\b<w3.heap.size) HT5.out.s (zR) (by have h1:=HSZW.out;have h2:=HB35.out.size;omega) _ (by rw [zS];rfl) [.int .i64 q,.slice A5 n5 c5,.slice A6 n6 c6] (atI cols l x.val) HREP.out 97 rfl (fun b e _ _ h=>by have:=(H7.out b (by rw [e];rfl)).2.1;omega) HLIM.out ?_;intro A9 c9 w9 h9;obtain⟨f1,f2,f3,f4,f5⟩:=ti_fin (B:=W0.heap.size) (K:=Kx) (.slice A9 (pre.length+1) c9) (by have:=HZ0.out;omega) HSZW.out HB35.out (fun b e=>⟨(H7.out b e).1,(H7.out b e).2.2⟩) h9.grown;obtain⟨F10,HT9⟩:∃ F10,Hid (TwoL W0.heap.size [] ((pre.map fun x=>atI cols l x.val)++[atI cols l x.val]) none 0 0 A9 (pre.length+1) c9 F10 w9):=⟨_,zH ((HT5.out.call ((zR).alloc zN (.cells #[.int .i64 q,.slice A5 n5 c5,.slice A6 n6 c6] 97))).stride h9 (by simp only [zS];omega) (fun b hb=>⟨by have:=HSZW.out;omega,fun e=>by cases e⟩))⟩;have HBOX9:=zH (f4.trans HBOX.out);have d9:w9.cell? ⟨Kx,0,none⟩=some (.slice A7 pre.length c7):=(by rw [zC HBOX9.out];rfl);have d9':=zF HBOX9.out 0;have HF1:=zH f1;have HF2:=zH f2;have HF3:=zH f3;have HF5:=zH f5;clear f1 f2 f3 f4 f5 h9)
          | fail)
         refine⟨HF1.out,⟨?_,?_⟩,A9,c9,F10,?_,?_,?_,?_,?_⟩
         · exact HF2.out _ (by have:=HZ0.out;have:=HZ4.out;omega) (by have:=HZ4.out;omega)
         · exact HF2.out _ (by have:=HZ0.out;have:=HZ4.out;omega) (by have:=HZ4.out;omega)
         · rw [List.length_append,List.length_singleton,List.map_append,List.map_singleton]
           exact HT9.out.keep (by simp) (fun b hb _=>Below.heap_setCell _ _ _ _ (by have:=HZ0.out;show b≠Kx;omega))
         · rw [List.length_append,List.length_singleton]
           exact zza HBOX9.out rfl
         · exact zzi (HBK.out.trans (HF5.out.mono (by have:=HZ0.out;omega))) zN _
         · have h1:=HF3.out;have h2:=HSZW.out;omega
         · intro y hy
           rcases List.mem_append.1 hy with hy | hy
           · exact HOKS.out y hy
           · rw [List.mem_singleton.1 hy];exact HF.out
     · rintro D xs W hD rfl ⟨A7,c7,F3,htl,hbox,hbk,hszW,hok⟩ hK
       rw [List.length_finRange] at htl hbox
       rw [xx0 Q (atI cols l)] at htl
       have HT:Hid (zzC cols bs=some ((List.range Q).map (atI cols l))):=zH (by
        rw [HC.out,xqh (by rw [<-HMC.out,<-HL1.out];exact HMOD.out) (fun k hk=>hok ⟨k,by rw [HQL.out];exact hk⟩ (List.mem_finRange _)),<-HQL.out])
       have HTR:=zH (HR.out.call (((HB1.out.mono (by omega)).trans (hbk.mono (by omega)))))
       obtain⟨-,⟨y1,y1'⟩,⟨y2,y2'⟩⟩:=HTR.out.cellsOf
       have v0:W.cell? ⟨Kx,0,none⟩=some (.slice A7 Q c7):=by rw [zC hbox];rfl
       have HTL:=zH htl
       have HKD:=zH hK;have HD:=zH hD;have HLW:Hid (w.heap.size+3<=Kx/\Kx+3=W0.heap.size/\W0.heap.size<=W.heap.size):=zH ⟨by omega,by omega,hszW⟩
       clear htl hbox hbk hszW hok hK hD hk4 hz4 hszb hz0 hb0 hb1 h0 hbw hkw hnn hn0 x0 z0 z0' z1 z1'
       gi_wp2
       have h2:=HTR.out.put (.slice A7 Q c7) 0
       have hlw:=HLW.out;have hdd:=HD.out
       have hfar:∀ k,w.heap.size+3<=k->((W.setCell ⟨w.heap.size+1,0,none⟩ (.slice A7 Q c7)).setCell ⟨w.heap.size+1+1,0,none⟩ (.int .i64 0)).heap[k]?=W.heap[k]?:=fun k hk =>
        (Below.heap_setCell _ _ _ _ (by show k≠w.heap.size+1+1;omega)).trans (Below.heap_setCell _ _ _ _ (by show k≠w.heap.size+1;omega))
       obtain⟨WF,hWF⟩:∃ WF,WF=((W.setCell ⟨w.heap.size+1,0,none⟩ (.slice A7 Q c7)).setCell ⟨w.heap.size+1+1,0,none⟩ (.int .i64 0)):=⟨_,rfl⟩
       have hszF:WF.heap.size=W.heap.size:=by rw [hWF];simp
       rw [<-hWF] at h2 hfar ⊢
       have hKD:WF.heap[D]?=some (.deferred (some [])):=(hfar D (by omega)).trans HKD.out
       refine⟨by simp,.inl ⟨_,_,rfl,run_takeDeferred hKD,?_⟩⟩
       have hp:=grownBy_putObj' WF D (.deferred none)
       have h3:=h2.grow hp (by omega) (fun k e=>by injection e with e;omega)
       have T2:=(HTL.out.keep (W':=WF) (by omega) (fun b hb _=>hfar b (by omega))).quiet hp (fun r e=>by injection e with e;subst e;exact⟨_,hKD,rfl⟩)
       refine⟨_,ti_res h3 _ rfl rfl,A7,Q,c7,by rw [HT.out];rfl,?_,h3.below⟩
       rw [HT.out]
       exact T2.s.sl.weaken fun b hb _=>hb.elim (fun h=>by have:=(T2.lt b h).1;omega) (fun h=>by have:=h.2;omega)
     · rintro D c pre W hD - ⟨rfl,hN,hTR,hszW⟩ hK
       gi_wp2
       refine⟨by simp,.inl ⟨_,_,rfl,run_takeDeferred hK,?_⟩⟩
       have h2:=hTR.grow (grownBy_putObj' W D (.deferred none)) (by omega) (fun k e=>by injection e with e;omega)
       exact⟨_,ti_res h2 _ rfl rfl,uuR hN h2.below⟩
   · have HZ:Hid (zzC cols bs=none):=zH (by rw [HC.out];exact idxO_no (by rw [<-HMC.out,<-HL1.out];exact hmod))
     obtain⟨r,hr⟩:∃ r,r=n1 % m:=⟨_,rfl⟩
     have t1:(n1:Int).tmod (m:Int)=(r:Int):=by rw [Int.tmod_eq_emod_of_nonneg (by omega),<-Int.natCast_emod,hr]
     have t2:(n1:Int) % (m:Int)=(r:Int):=by rw [<-Int.natCast_emod,hr]
     have t3:¬ (r:Int)=0:=by omega
     have t4:((r:Int)==0)=false:=by simpa using t3
     have t5:IntKind.i64.wrap (r:Int)=(r:Int):=by
      have h1:=HL1.out;have h2:=HLN.out;have h3:=HL2.out;have h4:=HN2.out;have h5:=Nat.mod_le n1 m
      rw [IntKind.wrap_i64];omega
     clear hr hmod
     gi_wp2
     repeat (refine⟨trivial,?_⟩;gi_wp2)
     refine FIN.out w1 _ HB1.out ?_ ?_ HZ.out <;> rfl
end
end Go.Proofs.YtpmglcachffojaaGreatDoor
