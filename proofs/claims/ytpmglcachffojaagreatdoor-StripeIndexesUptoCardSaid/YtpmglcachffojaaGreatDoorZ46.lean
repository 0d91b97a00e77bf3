/- A part of what Indexes leans on. -/
import Derived.Test.YtpmglcachffojaaGreatDoorZ44
set_option maxRecDepth 100000
set_option maxHeartbeats 16000000
namespace Go.Proofs.YtpmglcachffojaaGreatDoor
section
open Go Go.RowKit
theorem ropened_b {b:List UInt8} {l:List Fld} (h:(yyc b).bind zzo=some l):∀ f∈l,f.b.length<=b.length:=fun f hf=>by
 cases ho:yyc b with
 | none=>rw [ho] at h;cases h
 | some x =>
   rw [ho] at h
   have h:zzo x=some l:=h
   have h1:=xx6 ho
   have h2:=yy1 x.length x l zN h
   have h3:=uu8 l f hf
   omega
structure RxI (L:List Int) (M:List SS) (A3:Option Addr) (i c3:Nat) (A4:Option Addr) (c4:Nat) (col:Nat->Nat) (S:Nat) (wr wl:World) (y0:Int) (K1 K2:Nat) (t1:Int) (i1:Bool) (x1:Nat) (A1:Option Addr) (n1 c1:Nat) (t2:Int) (i2:Bool) (x2:Nat) (A2:Option Addr) (n2 c2:Nat) (W:World):Prop where
 pr:PR (wr.heap.size+1) (wr.heap.size+1) [] L M none 0 0 A3 i c3 A4 i c4 col S wr W
 g:W.heap[wr.heap.size]?=some (.cells #[.int .i64 y0,.slice A3 i c3,.slice A4 i c4] 106 (0,0))
 a:W.heap[K1]?=some (.cells #[.int .i64 t1,.bool i1,.int .u64 (x1:Int),.slice A1 n1 c1] 120 (0,0))
 b:W.heap[K2]?=some (.cells #[.int .i64 t2,.bool i2,.int .u64 (x2:Int),.slice A2 n2 c2] 120 (0,0))
 lb:Below wl.heap.size wl W
section
variable {L:List Int} {M:List SS} {A3:Option Addr} {i c3:Nat} {A4:Option Addr} {c4:Nat} {col:Nat->Nat} {S:Nat} {wr wl:World} {y0:Int} {K1 K2:Nat} {t1:Int} {i1:Bool} {x1:Nat} {A1:Option Addr} {n1 c1:Nat} {t2:Int} {i2:Bool} {x2:Nat} {A2:Option Addr} {n2 c2:Nat} {W W':World}
theorem RxI.call (h:RxI L M A3 i c3 A4 c4 col S wr wl y0 K1 K2 t1 i1 x1 A1 n1 c1 t2 i2 x2 A2 n2 c2 W) (hb:Below W.heap.size W W'):RxI L M A3 i c3 A4 c4 col S wr wl y0 K1 K2 t1 i1 x1 A1 n1 c1 t2 i2 x2 A2 n2 c2 W' :=
 ⟨h.pr.call hb,(hb.block _ (zzc h.g)).trans h.g,(hb.block _ (zzc h.a)).trans h.a,(hb.block _ (zzc h.b)).trans h.b,h.lb.trans (hb.mono h.lb.size)⟩
theorem rstr3 {W:World} {g:Nat} {v0 v1 v2:Value} {t:TypeId} (h:W.heap[g]?=some (.cells #[v0,v1,v2] t (0,0))):(W.cell? ⟨g,0,none⟩=some v0/\W.frozen? ⟨g,0,none⟩=false)/\(W.cell? ⟨g,1,none⟩=some v1/\W.frozen? ⟨g,1,none⟩=false)/\(W.cell? ⟨g,2,none⟩=some v2/\W.frozen? ⟨g,2,none⟩=false) :=
 ⟨⟨by rw [zC h];rfl,zF h 0⟩,⟨by rw [zC h];rfl,zF h 1⟩,⟨by rw [zC h];rfl,zF h 2⟩⟩
theorem rten_of {W:World} {g:Nat} {v0 v1 v2 v3 v4 v5 v6 v7 v8 v9:Value} {t:TypeId} (h:W.heap[g]?=some (.cells #[v0,v1,v2,v3,v4,v5,v6,v7,v8,v9] t (0,0))):W.cell? ⟨g,0,none⟩=some v0/\W.cell? ⟨g,1,none⟩=some v1/\W.cell? ⟨g,2,none⟩=some v2/\W.cell? ⟨g,3,none⟩=some v3/\W.cell? ⟨g,4,none⟩=some v4/\W.cell? ⟨g,5,none⟩=some v5/\W.cell? ⟨g,6,none⟩=some v6/\W.cell? ⟨g,7,none⟩=some v7/\W.cell? ⟨g,8,none⟩=some v8/\W.cell? ⟨g,9,none⟩=some v9 :=
 ⟨by rw [zC h];rfl,by rw [zC h];rfl,by rw [zC h];rfl,by rw [zC h];rfl,by rw [zC h];rfl,by rw [zC h];rfl,by rw [zC h];rfl,by rw [zC h];rfl,by rw [zC h];rfl,by rw [zC h];rfl⟩
theorem RxI.cells (h:RxI L M A3 i c3 A4 c4 col S wr wl y0 K1 K2 t1 i1 x1 A1 n1 c1 t2 i2 x2 A2 n2 c2 W) :
 ((W.cell? ⟨wr.heap.size,0,none⟩=some (.int .i64 y0)/\W.frozen? ⟨wr.heap.size,0,none⟩=false)/\(W.cell? ⟨wr.heap.size,1,none⟩=some (.slice A3 i c3)/\W.frozen? ⟨wr.heap.size,1,none⟩=false)/\(W.cell? ⟨wr.heap.size,2,none⟩=some (.slice A4 i c4)/\W.frozen? ⟨wr.heap.size,2,none⟩=false)) /\
 (W.cell? ⟨K1,0,none⟩=some (.int .i64 t1)/\W.cell? ⟨K1,1,none⟩=some (.bool i1)/\W.cell? ⟨K1,2,none⟩=some (.int .u64 (x1:Int))/\W.cell? ⟨K1,3,none⟩=some (.slice A1 n1 c1)) /\
 (W.cell? ⟨K2,0,none⟩=some (.int .i64 t2)/\W.cell? ⟨K2,1,none⟩=some (.bool i2)/\W.cell? ⟨K2,2,none⟩=some (.int .u64 (x2:Int))/\W.cell? ⟨K2,3,none⟩=some (.slice A2 n2 c2)):=by
 obtain⟨⟨a0,_⟩,⟨a1,_⟩,⟨a2,_⟩,⟨a3,_⟩⟩:=zzs h.a
 obtain⟨⟨b0,_⟩,⟨b1,_⟩,⟨b2,_⟩,⟨b3,_⟩⟩:=zzs h.b
 exact⟨⟨⟨by rw [zC h.g];rfl,zF h.g 0⟩,⟨by rw [zC h.g];rfl,zF h.g 1⟩,⟨by rw [zC h.g];rfl,zF h.g 2⟩⟩,⟨a0,a1,a2,a3⟩,⟨b0,b1,b2,b3⟩⟩
end
theorem zqz {W:World} {g:Nat} {cs:Array Value} {t:TypeId} (h:W.heap[g]?=some (.cells cs t (0,0))) (hs:cs.size=10):W.there g 0 10:=fun j hj=>by
 refine⟨?_,zF h _⟩
 rw [Nat.zero_add,zC h]
 rw [Array.getElem?_eq_getElem (by omega)];rfl
theorem set10s {w:World} {g:Nat} {u0 u1 u2 u3 u4 u5 u6 u7 u8 u9:Value} {t:TypeId} (h:w.heap[g]?=some (.cells #[u0,u1,u2,u3,u4,u5,u6,u7,u8,u9] t (0,0))) (v0 v1 v2 v3 v4 v5 v6 v7 v8 v9:Value) :
 (w.setCells g 0 [v0,v1,v2,v3,v4,v5,v6,v7,v8,v9]).heap[g]?=some (.cells #[v0,v1,v2,v3,v4,v5,v6,v7,v8,v9] t (0,0)):=by
 simp only [World.setCells,Nat.zero_add,Nat.reduceAdd]
 exact xqZ h v0 v1 v2 v3 v4 v5 v6 v7 v8 v9
theorem uuL {ops:Array Oper} {op:Oper} {a:Act} {w:World} {Q:Exit->Act->World->Prop} {K:Act->World->Prop} {E':Prop} (hgd:op.guard=none) (ty:TypeId) (x y:Operand) (ho:op.op=.store ty x y)
 (b:Nat) (cells:List Value) (hx:a.eval x=.pointer (some ⟨b,0,none⟩)) (hy:a.eval y=.agg cells.toArray) (ht:w.there b 0 10) (hi:(Tryz.prog.info? ty).map (·.size)=some 10) (hs:cells.toArray.size=10) (h1:cells.toArray.all (·.oneCell')=true)
 (h:K (a.put op.dst undef) (w.setCells b 0 cells)):if Region.wanted op (yielded ops a.tmps)=true then Oper.wp Tryz.prog op a w K Q else E':=by
 have hw:Region.wanted op (yielded ops a.tmps)=true:=by simp [Region.wanted,hgd]
 rw [if_pos hw]
 exact wp_store_mid ty x y ho b 0 cells.toArray hx hy (by rw [hs];exact ht) (by rw [hs];exact hi) h1 h
theorem long_apl {ops:Array Oper} {rest:List Oper} {Q:Exit->Act->World->Prop} {o:Oper} {a:Act} {B B1:Nat} {D:List UInt8} {L:List Int} {M:List SS} {A0:Option Addr} {m0 c0:Nat} {A3:Option Addr} {n3 c3:Nat} {A4:Option Addr} {n4 c4:Nat} {col:Nat->Nat} {S:Nat} {w0 W:World} {k:Nat}
 (h:PR B B1 D L M A0 m0 c0 A3 n3 c3 A4 n4 c4 col S w0 W) {y:Int} (hk:W.heap[k]?=some (.cells ([.int .i64 y]).toArray 3 (0,0))) (hn:i64 y) (hlim:n3<=4294967296) (hgd:o.guard=none) (s x:Operand)
 (ho:o.op=.call { callee:=.builtin .append,args:=#[s,x],argTypes:=#[94,94] }) (hs:a.eval s=.slice A3 n3 c3) (hx:a.eval x=.slice (some ⟨k,0,none⟩) 1 1)
 (hK:∀ A' c' w',PR B B1 D (L++[y]) M A0 m0 c0 A' (n3+1) c' A4 n4 c4 (zz5 col 1 S) w'.heap.size w0 w'->(∀ b,b<W.heap.size->(b<B1∨S<=b∨col b≠1)->w'.heap[b]?=W.heap[b]?)->W.heap.size<=w'.heap.size->wpList Tryz.prog ops Q rest (a.put o.dst (.slice A' (n3+1) c')) w') :
 wpList Tryz.prog ops Q (o::rest) a W :=
 wpList_plain hgd fun K hK2=>by
  have h1:=uui (Q:=Q) (ops:=ops) (K:=K) (E':=True) h hk hn hlim hgd s x ho hs hx (fun A' c' w' a1 a2 a3=>hK2 _ _ (hK A' c' w' a1 a2 a3))
  rwa [if_pos (by simp [Region.wanted,hgd])] at h1
theorem stat_apl {ops:Array Oper} {rest:List Oper} {Q:Exit->Act->World->Prop} {o:Oper} {a:Act} {B B1:Nat} {D:List UInt8} {L:List Int} {M:List SS} {A0:Option Addr} {m0 c0:Nat} {A3:Option Addr} {n3 c3:Nat} {A4:Option Addr} {n4 c4:Nat} {col:Nat->Nat} {S:Nat} {w0 W:World} {k:Nat}
 (h:PR B B1 D L M A0 m0 c0 A3 n3 c3 A4 n4 c4 col S w0 W) {y:SS} (hk:W.heap[k]?=some (.cells (zz4 y).toArray 109 (0,0))) (hn:y.fit) (hlim:n4<=4294967296) (hgd:o.guard=none) (s x:Operand)
 (ho:o.op=.call { callee:=.builtin .append,args:=#[s,x],argTypes:=#[95,95] }) (hs:a.eval s=.slice A4 n4 c4) (hx:a.eval x=.slice (some ⟨k,0,none⟩) 1 1)
 (hK:∀ A' c' w',PR B B1 D L (M++[y]) A0 m0 c0 A3 n3 c3 A' (n4+1) c' (zz5 col 2 S) w'.heap.size w0 w'->(∀ b,b<W.heap.size->(b<B1∨S<=b∨col b≠2)->w'.heap[b]?=W.heap[b]?)->W.heap.size<=w'.heap.size->wpList Tryz.prog ops Q rest (a.put o.dst (.slice A' (n4+1) c')) w') :
 wpList Tryz.prog ops Q (o::rest) a W :=
 wpList_plain hgd fun K hK2=>by
  have h1:=uuj (Q:=Q) (ops:=ops) (K:=K) (E':=True) h hk hn hlim hgd s x ho hs hx (fun A' c' w' a1 a2 a3=>hK2 _ _ (hK A' c' w' a1 a2 a3))
  rwa [if_pos (by simp [Region.wanted,hgd])] at h1
theorem zqA (F F2:Nat->Prop) (A A2:Option Addr) (n c nb cb:Nat) (cols:List CC) (bs:List UInt8) (w:World) (h:Sl tCol F w A n c cols) (h2:Sl tU8 F2 w A2 nb cb bs) (hn:n<=40) (hn2:nb<=1000000) (hU:Lib.Utf8Tabs 0 1 w) :
 Calls Tryz.prog 33 #[.slice A n c,.slice A2 nb cb] w (xqi cols bs w):=by
 have HH:=zH h;have HH2:=zH h2;have HN:=zH hn;have HN2:=zH hn2;have HL:=zH h.len;have HLB:=zH h2.len;have HU:=zH hU
 obtain⟨ec,hec⟩:∃ ec,ec=okc (yyc bs).isSome 2:=⟨_,rfl⟩
 have HEC:=zH hec
 obtain⟨m,hm⟩:∃ m,m=1+2*n:=⟨_,rfl⟩
 have HM:=zH hm
 have e1:IntKind.i64.wrap (2*(n:Int))=2*(n:Int):=by rw [IntKind.wrap_i64];omega
 have e2:IntKind.i64.wrap (1+2*(n:Int))=(m:Int):=by rw [IntKind.wrap_i64];omega
 have e3:1+2*(n:Int)=(m:Int):=by omega
 have e4:¬ (m:Int)=0:=by omega
 have e6:(m:Int)<=81:=by omega
 have e7:(0:Int)<=(m:Int):=by omega
 have e8:(0:Int)<(m:Int):=by omega
 have e5:((m:Int)==0)=false:=by simpa using e4
 have HMC:Hid (m=1+2*cols.length):=zH (by rw [hm,HL.out])
 have HM1:Hid (1<=m/\m<=81):=zH (by omega)
 clear h h2 hn hn2 hU hec hm
 go_enter Tryz.func33,Tryz.ntmps33
 go_upto_region 2 with (first
  | (go_at_call 73;refine (ropen_any F2 A2 nb cb bs w HH2.out (by have:=HN2.out;omega)).mono ?_;rintro e w1 ⟨A1,n1,c1,rfl,hb1,ho1⟩;rw [<-HEC.out];have HB1:=zH hb1;have HO1:=zH ho1;clear hb1 ho1)
  | fail)
 cases hO:yyc bs with
 | none =>
   obtain rfl:ec=2:=by rw [HEC.out,hO];rfl
   have HC:=zH (xx9 (cols:=cols) (b:=bs) (by rw [hO];rfl))
   clear hO
   go_wp2_with fail
   go_ret2
   exact uuR HC.out HB1.out
 | some x =>
   obtain rfl:ec=0:=by rw [HEC.out,hO];rfl
   have HLX:=zH (xx6 hO)
   have HO:=zH hO
   rw [hO] at HO1
   have HO1:Hid (OwnB w1 w.heap.size A1 n1 c1 x):=HO1
   obtain⟨ec,hec⟩:∃ ec,ec=okc (zzo x).isSome 2:=⟨_,rfl⟩
   have HEC:=zH hec
   clear hO hec
   go_upto_region 5 with (first
    | (go_at_call 74;refine (vvw _ A1 n1 c1 x _ HO1.out.bs (by have h1:=HO1.out.len;have h2:=HLX.out;have h3:=HLB.out;have h4:=HN2.out;omega)).mono ?_;rintro e w2 ⟨Al,nl,cl,rfl,hb2,hs2⟩;rw [<-HEC.out];have HB2:=zH (HB1.out.trans (hb2.mono HB1.out.size));have HS2:=zH (hs2.weaken (F':=fun b=>w.heap.size<=b) fun b hb _=>Nat.le_trans HB1.out.size hb);clear hs2 hb2)
    | fail)
   cases hT:zzo x with
   | none =>
     obtain rfl:ec=2:=by rw [HEC.out,hT];rfl
     have HC:=zH (xx9 (cols:=cols) (b:=bs) (by rw [HO.out];exact hT))
     clear hT
     go_wp2_with fail
     go_ret2
     exact uuR HC.out HB2.out
   | some l =>
     obtain rfl:ec=0:=by rw [HEC.out,hT];rfl
     have hB:(yyc bs).bind zzo=some l:=by rw [HO.out];exact hT
     have HC:=zH (uuK (cols:=cols) hB)
     have HLN:Hid (l.length<=bs.length):=zH (vvv hB).1
     have HOKF:Hid (∀ f∈l,f.ok):=zH (vvv hB).2
     have HFB:Hid (∀ f∈l,f.b.length<=1000000):=zH (fun f hf=>by have h1:=ropened_b hB f hf;have h2:=HLB.out;have h3:=HN2.out;omega)
     rw [hT] at HS2
     have HS2:Hid (Sl tFld (fun b=>w.heap.size<=b) w2 Al nl cl l):=HS2
     have HL2:=zH HS2.out.len
     have HNL:Hid (nl<=1000000):=zH (by have h1:=HL2.out;have h2:=HLN.out;have h3:=HLB.out;have h4:=HN2.out;omega)
     clear hT hB
     by_cases hmod:nl % m=0
     · have t1:(nl:Int).tmod (m:Int)=0:=by rw [Int.tmod_eq_emod_of_nonneg (by omega),<-Int.natCast_emod,hmod];rfl
       have t2:(nl:Int) % (m:Int)=0:=by rw [<-Int.natCast_emod,hmod];rfl
       obtain⟨Q,hQ⟩:∃ Q,Q=nl / m:=⟨_,rfl⟩
       have HQ2:Hid (nl=m*Q):=zH (by rw [hQ];have h1:=Nat.div_add_mod nl m;rw [hmod,Nat.add_zero] at h1;exact h1.symm)
       have HQL:Hid (Q=l.length / (1+2*cols.length)):=zH (by rw [hQ,HMC.out,HL2.out])
       have HMOD:Hid (l.length % (1+2*cols.length)=0):=zH (by rw [<-HMC.out,<-HL2.out];exact hmod)
       clear hmod hQ
       go_wp2_with fail
       obtain⟨w3,hw3⟩:∃ w3,w3=w2.alloc (.cells #[] 106):=⟨_,rfl⟩
       have HO0:Hid (OwnF tSt 106 (fun _=>False) w3 w2.heap.size (some ⟨w2.heap.size,0,none⟩) 0 0 []):=zH (by rw [hw3];exact OwnF.empty _ _ _ w2 _ zN (fun _ h=>h.elim))
       have HB3:Hid (Below w2.heap.size w2 w3):=zH (by rw [hw3];exact (zR).alloc zN _)
       rw [<-hw3]
       clear hw3
       go_loopw [10,11] (fun ov av wr=>∃ (k p:Nat) (A7:Option Addr) (c7:Nat) (F3:Nat->Prop),Hid (p=m*k)/\k<=Q/\av=.int .i64 (p:Int)/\ov=.slice A7 k c7/\OwnF tSt 106 F3 wr w2.heap.size A7 k c7 ((List.range k).map (atI cols l))/\(∀ b,F3 b->w2.heap.size<=b/\b<wr.heap.size)/\Below w2.heap.size w2 wr/\(∀ j,j<k->okI cols l j=true)) (fun _ av _=>nl - (intOf av).toNat)
       case atStart=>exact⟨0,0,_,_,fun _=>False,zH (Nat.mul_zero m).symm,Nat.zero_le _,rfl,rfl,HO0.out,fun _ h=>h.elim,HB3.out,fun j hj=>absurd hj (Nat.not_lt_zero j)⟩
       case round =>
        obtain⟨k,p,A7,c7,F3,HP,hk,rfl,rfl,ho,hf3,hbr,hok⟩:=hrel
        have HO7:=zH ho;have HF3:=zH hf3;have HBR:=zH hbr;have HOKS:=zH hok
        have HBW:Hid (Below w.heap.size w wr):=zH (HB2.out.trans (hbr.mono HB2.out.size))
        clear ho hf3 hbr hok
        by_cases hlk:k<Q
        · have hpm:p+m<=nl:=by rw [HP.out,HQ2.out,<-Nat.mul_succ];exact Nat.mul_le_mul_left m hlk
          have HLK:=zH hlk
          obtain⟨P,hP⟩:∃ q,q=zqw l m k:=⟨_,rfl⟩
          have HPT:=zH hP
          have hpl:m*k+m<=l.length:=by rw [<-HP.out,<-HL2.out];exact hpm
          have HAT:Hid (∀ j,j<m->P[j]?=l[p+j]?):=zH (fun j hj=>by rw [HP.out,hP];exact partF_at hj)
          have HOI:Hid (okI cols l k=(zzy cols P).isSome):=zH (by unfold okI;rw [hP,HMC.out])
          have HAI:Hid (atI cols l k=(zzy cols P).getD (0,[],[])):=zH (by unfold atI;rw [hP,HMC.out])
          have HNO:Hid (zzy cols P=none->zzC cols bs=none):=zH (fun hn=>by rw [HC.out];exact xqg (k:=k) (by rw [<-HQL.out];exact HLK.out) (by rw [HOI.out,hn];rfl))
          have hpn:p<l.length:=by have h1:=HL2.out;have h2:=HM1.out;omega
          have hsr:=HS2.out.below HBR.out zN
          obtain⟨b,o,Aa,na,ca,hAl,k0,-,x0⟩:=yym hsr (k:=p) hpn
          subst hAl
          obtain⟨f0,hf0⟩:∃ f,l[p]'hpn=f:=⟨_,rfl⟩
          rw [hf0] at k0 x0
          have HF0:Hid (P[0]?=some f0):=zH (by rw [HAT.out 0 (by have:=HM1.out;omega),Nat.add_zero,List.getElem?_eq_getElem hpn,hf0])
          obtain⟨t0,i0,y0,bb0⟩:=f0
          dsimp only at k0 x0
          have X0:=zH x0;have K0:=zH k0;have HPM:=zH hpm
          obtain⟨p0,p1,p2,p3⟩:=k0
          have hp0:(0:Int)<=(p:Int):=by omega
          have hp1:(p:Int)<(nl:Int):=by have:=HL2.out;omega
          have hp2:(p:Int)<=1000000:=by have:=HNL.out;omega
          clear hP hpl hpn hsr hf0 x0 hlk hk hpm
          cases hi0:isN 1 ⟨t0,i0,y0,[]⟩ with
          | false =>
            have HI0:=zH hi0
            have HZ:Hid (zzC cols bs=none):=zH (HNO.out (yyT HF0.out (by unfold jj2;exact (congrArg (·&&_) HI0.out).trans rfl)))
            clear hi0
            go_wp2_with (first | (go_at_call 75;refine (xxf _ _ _ _ _ _ _ _ _ X0.out _ rfl).mono ?_;rintro e w4 ⟨rfl,hb4⟩;rw [yyA,HI0.out];have HB44:=zH hb4;have HBW4:=zH (HBW.out.trans (hb4.mono HBW.out.size));have K4:=zH (K0.out.keep hb4);obtain⟨p0,p1,p2,p3⟩:=K4.out;clear hb4) | fail)
            go_ret2
            exact uuR HZ.out HBW4.out
          | true =>
            have HI0:=zH hi0
            clear hi0
            by_cases hlo:y0<1
            · have hlo':(y0:Int)<1:=by omega
              have HZ:Hid (zzC cols bs=none):=zH (HNO.out (yyT HF0.out (by unfold jj2;rw [decide_eq_false (show ¬ 1<=y0 by omega),Bool.false_and,Bool.and_false])))
              clear hlo
              go_wp2_with (first | (go_at_call 75;refine (xxf _ _ _ _ _ _ _ _ _ X0.out _ rfl).mono ?_;rintro e w4 ⟨rfl,hb4⟩;rw [yyA,HI0.out];have HB44:=zH hb4;have HBW4:=zH (HBW.out.trans (hb4.mono HBW.out.size));have K4:=zH (K0.out.keep hb4);obtain⟨p0,p1,p2,p3⟩:=K4.out;clear hb4) | fail)
              go_ret2
              exact uuR HZ.out HBW4.out
            · have hlo':¬ (y0:Int)<1:=by omega
              by_cases hhi:8<y0
              · have hhi':(8:Int)<(y0:Int):=by omega
                have HZ:Hid (zzC cols bs=none):=zH (HNO.out (yyT HF0.out (by unfold jj2;rw [decide_eq_false (show ¬ y0<=8 by omega),Bool.and_false,Bool.and_false])))
                clear hhi hlo
                go_wp2_with (first | (go_at_call 75;refine (xxf _ _ _ _ _ _ _ _ _ X0.out _ rfl).mono ?_;rintro e w4 ⟨rfl,hb4⟩;rw [yyA,HI0.out];have HB44:=zH hb4;have HBW4:=zH (HBW.out.trans (hb4.mono HBW.out.size));have K4:=zH (K0.out.keep hb4);obtain⟨p0,p1,p2,p3⟩:=K4.out;clear hb4) | fail)
                go_ret2
                exact uuR HZ.out HBW4.out
              · have hhi':¬ (8:Int)<(y0:Int):=by omega
                have HSO0:Hid (vvP cols P y0 0 [] []):=zH (kqK HF0.out (by unfold jj2;rw [decide_eq_true (show 1<=y0 by omega),decide_eq_true (show y0<=8 by omega)];exact (Bool.and_true _).trans HI0.out))
                have HY:Hid (1<=y0/\y0<=8):=zH (by omega)
                have hyw:IntKind.i64.wrap (y0:Int)=(y0:Int):=by rw [IntKind.wrap_i64];omega
                clear hhi hlo
                go_upto_region 15 with (first | (go_at_call 75;refine (xxf _ _ _ _ _ _ _ _ _ X0.out _ rfl).mono ?_;rintro e w4 ⟨rfl,hb4⟩;rw [yyA,HI0.out];have HB44:=zH hb4;have HBW4:=zH (HBW.out.trans (hb4.mono HBW.out.size));have K4:=zH (K0.out.keep hb4);obtain⟨p0,p1,p2,p3⟩:=K4.out;clear hb4) | fail)
                obtain⟨wl0,hwl0⟩:∃ wl0,wl0=w4.alloc (.cells #[.int .i64 (y0:Int),.slice none 0 0,.slice none 0 0] 106):=⟨_,rfl⟩
                have HG0:Hid (wl0.heap[w4.heap.size]?=some (.cells #[.int .i64 (y0:Int),.slice none 0 0,.slice none 0 0] 106 (0,0))):=zH (by rw [hwl0];exact heap_alloc_new w4 _)
                have HBL0:Hid (Below w4.heap.size w4 wl0):=zH (by rw [hwl0];exact (zR).alloc zN _)
                have HZL0:Hid (w4.heap.size+1<=wl0.heap.size):=zH (zzc HG0.out)
                rw [<-hwl0]
                clear hwl0 p0 p1 p2 p3
                go_wp2_with fail
                go_loopw [13] (fun jv wx=>∃ (i:Nat) (L:List Int) (M:List SS) (A3:Option Addr) (c3:Nat) (A4:Option Addr) (c4:Nat) (col:Nat->Nat) (S:Nat),i<=n/\jv=.int .i64 (i:Int)/\vvP cols P y0 i L M /\
                 PR (w4.heap.size+1) (w4.heap.size+1) [] L M none 0 0 A3 i c3 A4 i c4 col S w4 wx /\
                 wx.heap[w4.heap.size]?=some (.cells #[.int .i64 (y0:Int),.slice A3 i c3,.slice A4 i c4] 106 (0,0))) (fun jv _=>n - (intOf jv).toNat)
                case atStart=>exact⟨0,[],[],none,0,none,0,fun _=>0,w4.heap.size+1,Nat.zero_le _,rfl,HSO0.out,⟨Col.nil_ _ _ _ _ _ _ _,Col.nil_ _ _ _ _ _ _ _,Col.nil_ _ _ _ _ _ _ _,Nat.le_refl _,HZL0.out,HBL0.out,by omega,Nat.le_refl _,Nat.le_refl _⟩,HG0.out⟩
                case round =>
                 obtain⟨i,L,M,A3,c3,A4,c4,col,S,hi,rfl,hso,hq,hs⟩:=hrel
                 have HSO:=zH hso;have HQ:=zH hq;have HS:=zH hs;have HBX:=zH hq.below
                 have HS1:=zH hq.hB;have HS2':=zH hq.hS
                 rename World=>wx
                 have HBXW:Hid (Below w.heap.size w wx):=zH (HBW4.out.trans (hq.below.mono HBW4.out.size))
                 have HBX2:Hid (Below w2.heap.size w2 wx):=zH (HBR.out.trans ((HB44.out.trans (hq.below.mono HB44.out.size)).mono HBR.out.size))
                 clear hso hq hs
                 by_cases hlt:i<n
                 · have hil:i<cols.length:=by rw [<-HL.out];exact hlt
                   have h2l:p+(2*i+2)<l.length:=by have h1:=HPM.out;have h2:=HL2.out;have h3:=HM.out;omega
                   obtain⟨cb',co,cs,rfl,_,_,hrep,hc⟩:=(HH.out.below HBXW.out zN).at_ hil (by decide)
                   obtain⟨⟨nm,kv⟩,hx⟩:∃ x,x=cols[i]:=⟨_,rfl⟩
                   rw [<-hx] at hrep
                   obtain⟨rfl,-,-,-⟩:=xxo hrep
                   dsimp only at hc
                   obtain⟨g0,g1⟩:=uuD hc
                   have hfs:=HS2.out.below HBX2.out zN
                   obtain⟨b',o',A5,n5,c5,e9,k1,s7,x1⟩:=yym hfs (k:=p+(2*i+1)) (by omega)
                   injection e9 with e9;injection e9 with e9 e9';subst e9 e9'
                   obtain⟨b',o',A8,n8,c8,e9,k2,s8,x2⟩:=yym hfs (k:=p+(2*i+2)) h2l
                   injection e9 with e9;injection e9 with e9 e9';subst e9 e9'
                   have hb8:=HFB.out _ (List.getElem_mem h2l)
                   have hok8:=HOKF.out _ (List.getElem_mem h2l)
                   obtain⟨fa,hfa⟩:∃ f,l[p+(2*i+1)]'(by omega)=f:=⟨_,rfl⟩
                   obtain⟨fb,hfb⟩:∃ f,l[p+(2*i+2)]'h2l=f:=⟨_,rfl⟩
                   rw [hfa] at k1 x1;rw [hfb] at k2 s8 x2 hb8 hok8
                   have HFA:Hid (P[2*i+1]?=some fa):=zH (by rw [HAT.out _ (by have:=HM.out;omega),List.getElem?_eq_getElem (by omega),hfa])
                   have HFB':Hid (P[2*i+2]?=some fb):=zH (by rw [HAT.out _ (by have:=HM.out;omega),List.getElem?_eq_getElem h2l,hfb])
                   have hbe:=isR_ok (t:=3) hok8
                   obtain⟨ta,ia,ya,da⟩:=fa;obtain⟨tb,ib,yb,db⟩:=fb
                   dsimp only at k1 k2 s8 x1 x2 hb8
                   have HBE:Hid (isR 3 true ⟨tb,ib,yb,[]⟩=isB 3 ⟨tb,ib,yb,[]⟩):=zH hbe
                   have HIL:=zH hil;have HX:Hid (cols[i]=(nm,kv)):=zH hx.symm;have S8:=zH s8;have XA:=zH x1;have XB:=zH x2;have HD8:=zH hb8
                   have HKV:Hid (wx.cell? ⟨cb',co+i*2+1,none⟩=some (.int .i64 kv)):=zH g1
                   have i0:(0:Int)<=(i:Int):=by omega
                   have i1:(i:Int)<(n:Int):=by omega
                   have i2:(i:Int)<=40:=by have:=HN.out;omega
                   have j1:(p:Int)+1+2*(i:Int)<(nl:Int):=by have:=HL2.out;omega
                   have j2:(p:Int)+2+2*(i:Int)<(nl:Int):=by have:=HL2.out;omega
                   have j3:(0:Int)<=(p:Int)+1+2*(i:Int):=by omega
                   have j4:(0:Int)<=(p:Int)+2+2*(i:Int):=by omega
                   have q1:((p:Int)+1+2*(i:Int)).toNat=p+(2*i+1):=by omega
                   have q2:((p:Int)+2+2*(i:Int)).toNat=p+(2*i+2):=by omega
                   have m0':IntKind.i64.wrap ((p:Int)+1)=(p:Int)+1:=by rw [IntKind.wrap_i64];omega
                   have m0'':IntKind.i64.wrap ((p:Int)+2)=(p:Int)+2:=by rw [IntKind.wrap_i64];omega
                   have m1:IntKind.i64.wrap (2*(i:Int))=2*(i:Int):=by rw [IntKind.wrap_i64];omega
                   have m2:IntKind.i64.wrap ((p:Int)+1+2*(i:Int))=(p:Int)+1+2*(i:Int):=by rw [IntKind.wrap_i64];omega
                   have m3:IntKind.i64.wrap ((p:Int)+2+2*(i:Int))=(p:Int)+2+2*(i:Int):=by rw [IntKind.wrap_i64];omega
                   obtain⟨a0,a1,a2,a3⟩:=k1
                   have b0:∀ ob,(wx.alloc ob).cell? ⟨b,o+(p+(2*i+2))*4,none⟩=some (.int .i64 tb):=fun ob=>zze k2.c0 ob
                   have b1:∀ ob,(wx.alloc ob).cell? ⟨b,o+(p+(2*i+2))*4+1,none⟩=some (.bool ib):=fun ob=>zze k2.c1 ob
                   have b2:∀ ob,(wx.alloc ob).cell? ⟨b,o+(p+(2*i+2))*4+2,none⟩=some (.int .u64 (yb:Int)):=fun ob=>zze k2.c2 ob
                   have b3:∀ ob,(wx.alloc ob).cell? ⟨b,o+(p+(2*i+2))*4+3,none⟩=some (.slice A8 n8 c8):=fun ob=>zze k2.c3 ob
                   clear hc hx hrep hfs hfa hfb k2 s7 s8 x1 x2 hb8 hok8 hbe h2l hil hlt hi g0 g1
                   go_upto_region 20 with fail
                   obtain⟨w5,hw5⟩:∃ w5,w5=(wx.alloc (.cells #[.int .i64 ta,.bool ia,.int .u64 (ya:Int),.slice A5 n5 c5] 120)).alloc (.cells #[.int .i64 tb,.bool ib,.int .u64 (yb:Int),.slice A8 n8 c8] 120):=⟨_,rfl⟩
                   have hb5:Below wx.heap.size wx w5:=by rw [hw5];exact ((zR).alloc zN _).alloc (by simp) _
                   obtain⟨K1,hK1⟩:∃ q,q=wx.heap.size:=⟨_,rfl⟩
                   obtain⟨K2,hK2⟩:∃ q,q=wx.heap.size+1:=⟨_,rfl⟩
                   have HI5:Hid (RxI L M A3 i c3 A4 c4 col S w4 wx (y0:Int) K1 K2 ta ia ya A5 n5 c5 tb ib yb A8 n8 c8 w5):=zH ⟨HQ.out.call hb5,(hb5.block _ (zzc HS.out)).trans HS.out,by rw [hw5,hK1];exact zzd (zzp rfl _) _,by rw [hw5,hK2];exact zzp (by simp) _,hb5⟩
                   have HK1S:Hid (S<=K1):=zH (by rw [hK1];exact HS2'.out)
                   rw [<-hw5,<-hK2,<-hK1]
                   clear hw5 hb5 hK1 hK2 a0 a1 a2 a3 b0 b1 b2 b3 j1 j2 j3 j4 q1 q2 m0' m0'' m1 m2 m3
                   obtain⟨⟨⟨z0,z0'⟩,⟨z1,z1'⟩,⟨z2,z2'⟩⟩,⟨a0,a1,a2,a3⟩,⟨b0,b1,b2,b3⟩⟩:=HI5.out.cells
                   cases hia:isN 2 ⟨ta,ia,ya,[]⟩ with
                   | false =>
                     have HIA:=zH hia
                     have HZ:Hid (zzC cols bs=none):=zH (HNO.out (HSO.out.no HIL.out HX.out HFA.out HFB'.out (qzi (by unfold xx8;exact (congrArg (·&&_) HIA.out).trans rfl))))
                     clear hia
                     go_wp2_with (first | (go_at_call_of 75 (Value.int .i64 2);refine (xxf _ _ _ _ _ _ _ _ _ XA.out _ rfl).mono ?_;rintro e w6 ⟨rfl,hb6⟩;rw [yyA,HIA.out];have HI6:=zH (HI5.out.call hb6);obtain⟨⟨⟨z0,z0'⟩,⟨z1,z1'⟩,⟨z2,z2'⟩⟩,⟨a0,a1,a2,a3⟩,⟨b0,b1,b2,b3⟩⟩:=HI6.out.cells;clear hb6) | fail)
                     go_ret2
                     exact uuR HZ.out (HBXW.out.trans (HI6.out.lb.mono HBXW.out.size))
                   | true =>
                     have HIA:=zH hia
                     clear hia
                     by_cases hya:ya<=1048576
                     · have hya':¬ (1048576:Int)<(ya:Int):=by omega
                       have HYA:Hid (ya<=1048576):=zH hya
                       have HOA:Hid (xx8 ⟨ta,ia,ya,da⟩=true):=zH (by unfold xx8;rw [decide_eq_true hya];exact (Bool.and_true _).trans HIA.out)
                       clear hya
                       cases hib:isB 3 ⟨tb,ib,yb,[]⟩ with
                       | false =>
                         have HIB:=zH hib
                         have HZ:Hid (zzC cols bs=none):=zH (HNO.out (HSO.out.no HIL.out HX.out HFA.out HFB'.out (cellO_b HIB.out)))
                         clear hib
                         go_wp2_with (first | (go_at_call_of 75 (Value.int .i64 2);refine (xxf _ _ _ _ _ _ _ _ _ XA.out _ rfl).mono ?_;rintro e w6 ⟨rfl,hb6⟩;rw [yyA,HIA.out];have HI6:=zH (HI5.out.call hb6);obtain⟨⟨⟨z0,z0'⟩,⟨z1,z1'⟩,⟨z2,z2'⟩⟩,⟨a0,a1,a2,a3⟩,⟨b0,b1,b2,b3⟩⟩:=HI6.out.cells;clear hb6) | (go_at_call_of 75 (Value.int .i64 3);refine (xxf _ _ _ _ _ _ _ _ _ XB.out _ rfl).mono ?_;rintro e w7 ⟨rfl,hb7⟩;rw [HBE.out,HIB.out];have HI7:=zH (HI6.out.call hb7);obtain⟨⟨⟨z0,z0'⟩,⟨z1,z1'⟩,⟨z2,z2'⟩⟩,⟨a0,a1,a2,a3⟩,⟨b0,b1,b2,b3⟩⟩:=HI7.out.cells;clear hb7) | fail)
                         go_ret2
                         exact uuR HZ.out (HBXW.out.trans (HI7.out.lb.mono HBXW.out.size))
                       | true =>
                         have HIB:=zH hib
                         clear hib
                         obtain⟨T,hT⟩:∃ T,zzj kv db=T:=⟨_,rfl⟩
                         obtain⟨z,hz⟩:∃ z,tsV T=z:=⟨_,rfl⟩
                         obtain⟨ct,bh,⟨v0,mi,ms⟩,⟨u0,xi,xs⟩,sm,bo⟩:=z
                         obtain⟨ee,hee⟩:∃ ee,ee=okc T.isSome 2:=⟨_,rfl⟩
                         have HT:=zH hT
                         have HTS:Hid (∀ W,Below wx.heap.size wx W->Calls Tryz.prog 77 #[.int .i64 kv,.slice A8 n8 c8] W fun e w'=>e=.returned (.tuple #[.agg #[.int .i64 ct,.bool bh,.bool v0,.int .i64 mi,.string ms,.bool u0,.int .i64 xi,.string xs,.int .i64 sm,.bool bo],.int .i64 ee])/\Below W.heap.size W w'):=zH (fun W hb=>by
                          have h1:=kqc kv _ A8 n8 c8 db W (S8.out.below hb zN) (by rw [S8.out.len];exact HD8.out) (zzb HU.out (HBXW.out.trans (hb.mono HBXW.out.size)))
                          unfold jj1 at h1
                          rw [hT,hz,<-hee] at h1
                          exact h1)
                         have HFT:Hid (SS.fit ⟨ct,bh,⟨v0,mi,ms⟩,⟨u0,xi,xs⟩,sm,bo⟩):=zH (by rw [<-hz,<-hT];exact tsV_fit HD8.out)
                         obtain⟨bad,hbad⟩:∃ q,q = !(T.isSome&&yy2 y0 ⟨ct,bh,⟨v0,mi,ms⟩,⟨u0,xi,xs⟩,sm,bo⟩):=⟨_,rfl⟩
                         have HBNO:Hid (bad=true->xxH kv y0 ⟨ta,ia,ya,da⟩ ⟨tb,ib,yb,db⟩=none):=zH (fun hb=>by
                          cases T with
                          | none=>exact cellO_t HT.out
                          | some s =>
                            have hz:s=⟨ct,bh,⟨v0,mi,ms⟩,⟨u0,xi,xs⟩,sm,bo⟩:=hz
                            rw [<-hz] at hbad
                            refine cellO_s HT.out ?_
                            rw [hbad] at hb
                            cases h:yy2 y0 s with
                            | true=>rw [h] at hb;cases hb
                            | false=>rfl)
                         have HYES:Hid (bad=false->xxH kv y0 ⟨ta,ia,ya,da⟩ ⟨tb,ib,yb,db⟩=some ((ya:Int),⟨ct,bh,⟨v0,mi,ms⟩,⟨u0,xi,xs⟩,sm,bo⟩)):=zH (fun hb=>by
                          cases T with
                          | none=>rw [hbad] at hb;cases hb
                          | some s =>
                            have hz:s=⟨ct,bh,⟨v0,mi,ms⟩,⟨u0,xi,xs⟩,sm,bo⟩:=hz
                            rw [<-hz] at hbad ⊢
                            refine xqf HOA.out HIB.out HT.out ?_
                            rw [hbad] at hb
                            cases h:yy2 y0 s with
                            | true=>rfl
                            | false=>rw [h] at hb;cases hb)
                         have HBAD:=zH hbad
                         have HEE:=zH hee
                         clear hT hz hee hbad
                         go_upto_region 22 with (first | (go_at_call_of 75 (Value.int .i64 2);refine (xxf _ _ _ _ _ _ _ _ _ XA.out _ rfl).mono ?_;rintro e w6 ⟨rfl,hb6⟩;rw [yyA,HIA.out];have HI6:=zH (HI5.out.call hb6);obtain⟨⟨⟨z0,z0'⟩,⟨z1,z1'⟩,⟨z2,z2'⟩⟩,⟨a0,a1,a2,a3⟩,⟨b0,b1,b2,b3⟩⟩:=HI6.out.cells;clear hb6) | (go_at_call_of 75 (Value.int .i64 3);refine (xxf _ _ _ _ _ _ _ _ _ XB.out _ rfl).mono ?_;rintro e w7 ⟨rfl,hb7⟩;rw [HBE.out,HIB.out];have HI7:=zH (HI6.out.call hb7);obtain⟨⟨⟨z0,z0'⟩,⟨z1,z1'⟩,⟨z2,z2'⟩⟩,⟨a0,a1,a2,a3⟩,⟨b0,b1,b2,b3⟩⟩:=HI7.out.cells;clear hb7) | fail)
                         go_cut [16,17] from 115 to 125 (fun v e wy=>∃ (wd:World) (KD:Nat),wd=wy/\v=.pointer (some ⟨KD,0,none⟩)/\e=.int .i64 ee/\Hid (Below w7.heap.size w7 wd)/\Hid (w7.heap.size<=KD)/\Hid (wd.heap[KD]?=some (.cells #[.int .i64 ct,.bool bh,.bool v0,.int .i64 mi,.string ms,.bool u0,.int .i64 xi,.string xs,.int .i64 sm,.bool bo] 109 (0,0))))
                         case first =>
                          have kv0:w7.cell? ⟨cb',co+i*2+1,none⟩=some (.int .i64 kv):=zzh HI7.out.lb HKV.out
                          have sl0:=b3
                          have HONE:Hid (([.int .i64 ct,.bool bh,.bool v0,.int .i64 mi,.string ms,.bool u0,.int .i64 xi,.string xs,.int .i64 sm,.bool bo]:List Value).toArray.all (·.oneCell')=true):=zH (all_oneCell_toArray (tSS.one (F:=fun _=>True) (w:=w7) (cs:=zz4 ⟨ct,bh,⟨v0,mi,ms⟩,⟨u0,xi,xs⟩,sm,bo⟩) (x:=⟨ct,bh,⟨v0,mi,ms⟩,⟨u0,xi,xs⟩,sm,bo⟩) ⟨rfl,HFT.out⟩))
                          refine regL [(some 7,fun w'=>w'.cell? ⟨cb',co+i*2+1,none⟩=some (.int .i64 kv)),(some 7,fun w'=>w'.cell? ⟨K2,3,none⟩=some (.slice A8 n8 c8))] (by kernel_rfl) ?_ (fun hHeld=>?_)
                          · exact⟨fun h=>(by first | exact gone (c:=7) (by decide +kernel) h | exact kv0 | exact zze kv0 _ | fail),fun h=>(by first | exact gone (c:=7) (by decide +kernel) h | exact sl0 | exact zze sl0 _ | fail),trivial⟩
                          iterate 3
                           all_goals
                            repeat ((first | (refine tkP 0 (oi:=⟨_,_,_,_,_,_⟩) (v:=?_) rfl (by decide +kernel) rfl (fun _ _ _ h=>h) rfl hHeld ?_ ?_) | (refine tkP 1 (oi:=⟨_,_,_,_,_,_⟩) (v:=?_) rfl (by decide +kernel) rfl (fun _ _ _ h=>h) rfl hHeld ?_ ?_) | (refine tkP 2 (oi:=⟨_,_,_,_,_,_⟩) (v:=?_) rfl (by decide +kernel) rfl (fun _ _ _ h=>h) rfl hHeld ?_ ?_) | (refine tkP 3 (oi:=⟨_,_,_,_,_,_⟩) (v:=?_) rfl (by decide +kernel) rfl (fun _ _ _ h=>h) rfl hHeld ?_ ?_) | (refine tkL 4 0 rfl (oi:=⟨_,_,_,_,_,_⟩) (v:=?_) rfl (by decide +kernel) rfl (fun _ _ _ h=>h) rfl hHeld ?_ ?_) | (refine tkP 5 (oi:=⟨_,_,_,_,_,_⟩) (v:=?_) rfl (by decide +kernel) rfl (fun _ _ _ h=>h) rfl hHeld ?_ ?_) | (refine tkL 6 1 rfl (oi:=⟨_,_,_,_,_,_⟩) (v:=?_) rfl (by decide +kernel) rfl (fun _ _ _ h=>h) rfl hHeld ?_ ?_) | (refine tkP 8 (oi:=⟨_,_,_,_,_,_⟩) (v:=?_) rfl (by decide +kernel) rfl (fun _ _ _ h=>h) rfl hHeld ?_ ?_) | (refine tkP 9 (oi:=⟨_,_,_,_,_,_⟩) (v:=?_) rfl (by decide +kernel) rfl (fun _ _ _ h=>h) rfl hHeld ?_ ?_) | (refine tkP 10 (oi:=⟨_,_,_,_,_,_⟩) (v:=?_) rfl (by decide +kernel) rfl (fun _ _ _ h=>h) rfl hHeld ?_ ?_) | (refine tkP 13 (oi:=⟨_,_,_,_,_,_⟩) (v:=?_) rfl (by decide +kernel) rfl (fun _ _ _ h=>h) rfl hHeld ?_ ?_));rotate_left;(focus (intro w;(try intro hSw);(try dsimp only at hSw);go_simp;try with_reducible rfl));intro hHeld;(try simp only [Act.put]);(try simp only [List.setIfInBounds_toArray]);(try simp only [List.set_cons_succ]);(try simp only [List.set_cons_zero]))
                            first | (refine rd1 7 (o:=⟨_,_,_,_,_,_⟩) (by decide +kernel) rfl (fun K hK=>?_)) | (refine rd2 7 11 (o:=⟨_,_,_,_,_,_⟩) (o':=⟨_,_,_,_,_,_⟩) (by decide +kernel) rfl rfl (fun K hK=>?_) (fun K hK=>?_)) | (refine rd1 11 (o:=⟨_,_,_,_,_,_⟩) (by decide +kernel) rfl (fun K hK=>?_)) | (refine rd1 12 (o:=⟨_,_,_,_,_,_⟩) (by decide +kernel) rfl (fun K hK=>?_))
                           all_goals
                            first | (refine atD 123 rfl ?_;refine uuI rfl 77 Tryz.func77 (by kernel_rfl) (by kernel_rfl) (.tmp 120) (.tmp 122) _ rfl (.int .i64 kv) (.slice A8 n8 c8) rfl rfl (HTS.out _ ?_) ?_;(exact HI7.out.lb.trans (Below.mono (B:=w7.heap.size) (by repeat (first | with_reducible exact zR | with_reducible refine Below.drew ?_ | (with_reducible refine Below.alloc ?_ (by simp) _))) HI7.out.lb.size));rintro e w8 ⟨rfl,hb8'⟩;have hbw:=hb8';(first | (have hz8:w8.heap[w7.heap.size]?=some (.cells #[.int .i64 0,.bool false,.bool false,.int .i64 0,.string ⟨#[]⟩,.bool false,.int .i64 0,.string ⟨#[]⟩,.int .i64 0,.bool false] 109 (0,0)):=(hb8'.block _ (by show w7.heap.size<(w7.alloc _).heap.size;rw [zS];exact Nat.lt_succ_self _)).trans (by show (w7.alloc _).heap[w7.heap.size]?=_;exact heap_alloc_new w7 _);have HB8:Hid (Below w7.heap.size w7 w8):=zH (Below.trans (by repeat (first | with_reducible exact zR | with_reducible refine Below.drew ?_ | (with_reducible refine Below.alloc ?_ (by simp) _))) (hb8'.mono (by simp)));have HZ8:=zH hz8;clear hz8) | (have HB8:Hid (Below w7.heap.size w7 w8):=zH (Below.trans (by repeat (first | with_reducible exact zR | with_reducible refine Below.drew ?_ | (with_reducible refine Below.alloc ?_ (by simp) _))) (hb8'.mono (by simp)))));clear hbw hb8';refine⟨_,rfl,?_⟩) | (refine uuL rfl _ _ _ rfl w8.heap.size [.int .i64 ct,.bool bh,.bool v0,.int .i64 mi,.string ms,.bool u0,.int .i64 xi,.string xs,.int .i64 sm,.bool bo] rfl rfl (zqz (zzp rfl _) rfl) (by kernel_rfl) rfl HONE.out ?_) | (refine uuL rfl _ _ _ rfl w7.heap.size [.int .i64 ct,.bool bh,.bool v0,.int .i64 mi,.string ms,.bool u0,.int .i64 xi,.string xs,.int .i64 sm,.bool bo] rfl rfl (zqz HZ8.out rfl) (by kernel_rfl) rfl HONE.out ?_) | (go_simp;(fail)) | go_simp
                            refine hK.out _ _ ?_ (fun hHeld=>?_)
                            · (try dsimp only);exact⟨fun h=>(by first | exact gone (c:=7) (by decide +kernel) h | exact kv0 | exact zze kv0 _ | fail),fun h=>(by first | exact gone (c:=7) (by decide +kernel) h | exact sl0 | exact zze sl0 _ | fail),trivial⟩
                            clear hK K;(try simp only [Act.put]);(try simp only [List.setIfInBounds_toArray]);(try simp only [List.set_cons_succ]);(try simp only [List.set_cons_zero])
                          all_goals
                           repeat ((first | (refine tkP 13 (oi:=⟨_,_,_,_,_,_⟩) (v:=?_) rfl (by decide +kernel) rfl (fun _ _ _ h=>h) rfl hHeld ?_ ?_));rotate_left;(focus (intro w;(try intro hSw);(try dsimp only at hSw);go_simp;try with_reducible rfl));intro hHeld;(try simp only [Act.put]);(try simp only [List.setIfInBounds_toArray]);(try simp only [List.set_cons_succ]);(try simp only [List.set_cons_zero]))
                           refine xxI (by decide +kernel) ?_ _
                           go_wp2_with fail
                           go_meet
                           first
                            | (have hz:=HZ8.out;exact⟨_,w7.heap.size,rfl,rfl,rfl,zH (xxl zN _ _ HB8.out),zH zN,zH (set10s hz _ _ _ _ _ _ _ _ _ _)⟩)
                            | exact⟨_,w8.heap.size,rfl,rfl,rfl,zH (xxl HB8.out.size _ _ (HB8.out.alloc HB8.out.size _)),zH HB8.out.size,zH (set10s (zzp rfl _) _ _ _ _ _ _ _ _ _ _)⟩
                         case rest =>
                          obtain⟨w9,KD,rfl,rfl,rfl,HB9,HKD,HD⟩:=hcut
                          have HI9:=zH (HI7.out.call HB9.out)
                          have HDS:Hid (S<=KD):=zH (Nat.le_trans HI7.out.pr.hS HKD.out)
                          obtain⟨⟨⟨z0,z0'⟩,⟨z1,z1'⟩,⟨z2,z2'⟩⟩,⟨a0,a1,a2,a3⟩,⟨b0,b1,b2,b3⟩⟩:=HI9.out.cells
                          obtain⟨s0,s1,s2,s3,s4,s5,s6',s7,s8,s9⟩:=rten_of HD.out
                          refine ‹∀ (a:Act) (w_1:World),Code.wp _ _ _ a w_1->_› _ _ ?_
                          go_upto_region 23 with fail
                          go_cut [144] from 126 to 144 (fun v wy=>v=.bool bad/\wy=w9)
                          case first =>
                           cases T with
                           | none =>
                             obtain rfl:ee=2:=by rw [HEE.out];rfl
                             obtain rfl:bad=true:=by rw [HBAD.out];rfl
                             go_wp2_with fail
                             go_meet
                             exact⟨rfl,rfl⟩
                           | some s =>
                             obtain rfl:ee=0:=by rw [HEE.out];rfl
                             by_cases hct:(y0:Int)<ct
                             · obtain rfl:bad=true:=by rw [HBAD.out];unfold yy2;dsimp only;rw [decide_eq_false (show ¬ ct<=(y0:Int) by omega)];rfl
                               go_wp2_with fail
                               go_meet
                               exact⟨rfl,rfl⟩
                             · by_cases hlc:ct<(y0:Int)
                               · obtain rfl:bad = !bh:=by rw [HBAD.out];unfold yy2;dsimp only;rw [decide_eq_true (show ct<=(y0:Int) by omega),decide_eq_true hlc];cases bh <;> rfl
                                 cases bh with
                                 | true =>
                                   go_wp2_with fail
                                   go_meet
                                   exact⟨rfl,rfl⟩
                                 | false =>
                                   go_wp2_with fail
                                   go_meet
                                   exact⟨rfl,rfl⟩
                               · obtain rfl:bad=bh:=by rw [HBAD.out];unfold yy2;dsimp only;rw [decide_eq_true (show ct<=(y0:Int) by omega),decide_eq_false hlc];cases bh <;> rfl
                                 cases bad with
                                 | true =>
                                   go_wp2_with fail
                                   go_meet
                                   exact⟨rfl,rfl⟩
                                 | false =>
                                   go_wp2_with fail
                                   go_meet
                                   exact⟨rfl,rfl⟩
                          case rest =>
                           obtain⟨rfl,hwc⟩:=hcut
                           rw [hwc]
                           clear hwc
                           refine ‹∀ (a:Act) (w_1:World),Code.wp _ _ _ a w_1->_› _ _ ?_
                           cases bad with
                           | true =>
                             have HZ:Hid (zzC cols bs=none):=zH (HNO.out (HSO.out.no HIL.out HX.out HFA.out HFB'.out (HBNO.out rfl)))
                             go_wp2_with fail
                             go_ret2
                             exact uuR HZ.out (HBXW.out.trans (HI9.out.lb.mono HBXW.out.size))
                           | false =>
                             have HSO2:Hid (vvP cols P y0 (i+1) (L++[(ya:Int)]) (M++[⟨ct,bh,⟨v0,mi,ms⟩,⟨u0,xi,xs⟩,sm,bo⟩])):=zH (HSO.out.yes HIL.out HX.out HFA.out HFB'.out (HYES.out rfl))
                             have hwa:IntKind.i64.wrap (ya:Int)=(ya:Int):=by have:=HYA.out;rw [IntKind.wrap_i64];omega
                             have HYI:Hid (i64 (ya:Int)):=zH (by have:=HYA.out;unfold i64;omega)
                             have HLIM:Hid (i<=4294967296):=zH (by omega)
                             go_upto_region 26 with (first
                              | (at_builtin;refine long_apl (k:=w9.heap.size) (y:=(ya:Int)) (HI9.out.pr.call ((Below.refl _ w9).alloc zN _)) (zzp rfl _) HYI.out HLIM.out rfl (.tmp 146) (.tmp 150) rfl (by rfl) (by rfl) ?_;intro A10 c10 w10 hq10 hp10 hs10;have hl10:∀ k o,w9.heap[k]?=some o->(k<w4.heap.size+1∨S<=k)->w10.heap[k]?=some o:=(fun k o hk hr=>(hp10 k (by rw [zS];have:=zzc hk;omega) (hr.elim .inl (fun h=>.inr (.inl h)))).trans (zzd hk _));have HG10:=zH (hl10 _ _ HI9.out.g (.inl (Nat.lt_succ_self _)));have HD10:=zH (hl10 _ _ HD.out (.inr HDS.out));have HQ10:=zH hq10;obtain⟨⟨y0',y0''⟩,⟨y1',y1''⟩,⟨y2',y2''⟩⟩:=rstr3 HG10.out;clear hl10 hp10 hq10 hs10)
                              | fail)
                             obtain⟨w11,hw11⟩:∃ w11,w11=w10.setCell ⟨w4.heap.size,1,none⟩ (.slice A10 (i+1) c10):=⟨_,rfl⟩
                             have HQ11:Hid (PR (w4.heap.size+1) (w4.heap.size+1) [] (L++[(ya:Int)]) M none 0 0 A10 (i+1) c10 A4 i c4 (zz5 col 1 S) w10.heap.size w4 w11):=zH (by rw [hw11];exact HQ10.out.setP (Nat.lt_succ_self _) zN _)
                             have HG11:Hid (w11.heap[w4.heap.size]?=some (.cells #[.int .i64 (y0:Int),.slice A10 (i+1) c10,.slice A4 i c4] 106 (0,0))):=zH (by rw [hw11];exact zza HG10.out rfl)
                             have HD11:Hid (w11.heap[KD]?=some (.cells #[.int .i64 ct,.bool bh,.bool v0,.int .i64 mi,.string ms,.bool u0,.int .i64 xi,.string xs,.int .i64 sm,.bool bo] 109 (0,0))):=zH (by rw [hw11];exact zzf HD10.out (by have h1:=HDS.out;have h2:=HI9.out.pr.hB;omega))
                             rw [<-hw11]
                             clear hw11 z0 z1 z2 z0' z1' z2' y0' y0'' y1' y1'' y2' y2'' s0 s1 s2 s3 s4 s5 s6' s7 s8 s9
                             obtain⟨⟨z0,z0'⟩,⟨z1,z1'⟩,⟨z2,z2'⟩⟩:=rstr3 HG11.out
                             obtain⟨s0,s1,s2,s3,s4,s5,s6',s7,s8,s9⟩:=rten_of HD11.out
                             go_wp2_with (first
                              | (at_builtin;refine stat_apl (k:=w11.heap.size) (y:=⟨ct,bh,⟨v0,mi,ms⟩,⟨u0,xi,xs⟩,sm,bo⟩) (HQ11.out.call ((Below.refl _ w11).alloc zN _)) (zzp rfl _) HFT.out HLIM.out rfl (.tmp 154) (.tmp 156) rfl (by rfl) (by rfl) ?_;intro A12 c12 w12 hq12 hp12 hs12;have HG12:=zH ((hp12 _ (by rw [zS];have:=zzc HG11.out;omega) (.inl (Nat.lt_succ_self _))).trans (zzd HG11.out _));have HQ12:=zH hq12;obtain⟨⟨y0',y0''⟩,⟨y1',y1''⟩,⟨y2',y2''⟩⟩:=rstr3 HG12.out;clear hp12 hq12 hs12)
                              | fail)
                             go_roundw
                             case rel =>
                              exact⟨i+1,L++[(ya:Int)],M++[⟨ct,bh,⟨v0,mi,ms⟩,⟨u0,xi,xs⟩,sm,bo⟩],A10,c10,A12,c12,_,_,by omega,by go_num,HSO2.out,HQ12.out.setP (Nat.lt_succ_self _) zN _,zza HG12.out rfl⟩
                             case measure=>simp [intOf];omega
                     · have hya':(1048576:Int)<(ya:Int):=by omega
                       have HZ:Hid (zzC cols bs=none):=zH (HNO.out (HSO.out.no HIL.out HX.out HFA.out HFB'.out (qzi (by unfold xx8;dsimp only;rw [decide_eq_false hya,Bool.and_false]))))
                       clear hya
                       go_wp2_with (first | (go_at_call_of 75 (Value.int .i64 2);refine (xxf _ _ _ _ _ _ _ _ _ XA.out _ rfl).mono ?_;rintro e w6 ⟨rfl,hb6⟩;rw [yyA,HIA.out];have HI6:=zH (HI5.out.call hb6);obtain⟨⟨⟨z0,z0'⟩,⟨z1,z1'⟩,⟨z2,z2'⟩⟩,⟨a0,a1,a2,a3⟩,⟨b0,b1,b2,b3⟩⟩:=HI6.out.cells;clear hb6) | fail)
                       go_ret2
                       exact uuR HZ.out (HBXW.out.trans (HI6.out.lb.mono HBXW.out.size))
                 · obtain rfl:i=n:=by omega
                   have HEN:Hid (zzy cols P=some ((y0:Int),L,M)):=zH (by have h1:=HSO.out;rw [HL.out] at h1;exact h1.end)
                   have HF:Hid (okI cols l k=true):=zH (by rw [HOI.out,HEN.out];rfl)
                   have HATI:Hid (atI cols l k=((y0:Int),L,M)):=zH (by rw [HAI.out,HEN.out];rfl)
                   obtain⟨⟨z0,z0'⟩,⟨z1,z1'⟩,⟨z2,z2'⟩⟩:=rstr3 HS.out
                   have HGR:Hid (tSt.rep (fun b=>w4.heap.size+1<=b) wx [.int .i64 (y0:Int),.slice A3 i c3,.slice A4 i c4] (atI cols l k)):=zH (by
                    rw [HATI.out]
                    exact⟨[.int .i64 (y0:Int)],_,rfl,⟨rfl,by have:=HY.out;omega,by have:=HY.out;omega⟩,_,_,rfl,⟨A3,i,c3,rfl,HQ.out.q1.sl.weaken (fun b hb _=>by omega)⟩,A4,i,c4,rfl,HQ.out.q2.sl.weaken (fun b hb _=>by omega)⟩)
                   have HOX:=zH (HO7.out.keepB (HB44.out.trans (HBX.out.mono HB44.out.size)))
                   have HKL:Hid (k<=34359738368):=zH (by have h1:=HLK.out;have h2:=HQ2.out;have h3:=HNL.out;have h4:=Nat.le_mul_of_pos_left Q (show 0<m by have:=HM1.out;omega);omega)
                   have HZX:Hid (w2.heap.size<=wx.heap.size):=zH HBX2.out.size
                   clear hi hlt
                   go_wp2_with (first
                    | (at_builtin;refine apl1 (T:=tSt) elemRSt wx wx rfl (.tmp 159) (.tmp 161) rfl w2.heap.size A7 k c7 ((List.range k).map (atI cols l)) (by rfl) F3 (fun b=>w4.heap.size+1<=b) HOX.out (zR) HZX.out _ (by rfl) [.int .i64 (y0:Int),.slice A3 i c3,.slice A4 i c4] (atI cols l k) HGR.out 106 rfl (fun b e _ _ h=>by have h1:=(HO7.out.lies' (b:=b) (by rw [e];rfl)).2.2;have h2:=HB44.out.size;omega) HKL.out ?_;intro A13 c13 w13 h13;have H13:=zH h13.own;have HS13:Hid (wx.heap.size<=w13.heap.size):=zH (by have h1:=h13.grown.size;rw [zS] at h1;omega);have HB13:=zH ((HBX2.out.alloc HBX2.out.size _).grown h13.grown (by rw [zS];have:=HZX.out;omega) (fun g e=>(HOX.out.lies' e).2.1));clear h13)
                    | fail)
                   go_roundw
                   case rel =>
                    have hp1':=HPM.out;have hp2':=HM1.out
                    refine⟨k+1,p+m,A13,c13,fun b=>(F3 b∨w4.heap.size+1<=b)/\b<wx.heap.size,zH (by rw [HP.out,Nat.mul_succ]),HLK.out,by go_num,rfl,?_,?_,HB13.out,?_⟩
                    · rw [List.range_succ,List.map_append,List.map_singleton];exact H13.out
                    · intro b hb
                      have h1:=HS13.out;have h2:=HB44.out.size;have h3:=HBR.out.size
                      refine⟨hb.1.elim (fun h=>(HF3.out b h).1) (fun h=>by omega),by have:=hb.2;omega⟩
                    · intro j hj
                      rcases Nat.lt_succ_iff_lt_or_eq.1 hj with h | h
                      · exact HOKS.out j h
                      · rw [h];exact HF.out
                   case measure=>have hp1':=HPM.out;have hp2':=HM1.out;simp [intOf];omega
        · have hkq:k=Q:=by omega
          have hpn:p=nl:=by rw [HP.out,HQ2.out,hkq]
          have hlt:¬ (p:Int)<(nl:Int):=by omega
          have HT:Hid (zzC cols bs=some ((List.range k).map (atI cols l))):=zH (by
           rw [HC.out,xqh HMOD.out (fun j hj=>HOKS.out j (by rw [hkq,HQL.out];exact hj)),hkq,<-HQL.out])
          clear hpn hkq hlk hk
          go_wp2_with fail
          go_ret2
          exact⟨A7,k,c7,by rw [HT.out];rfl,by rw [HT.out];exact HO7.out.sl.weaken (fun b hb _=>hb.elim (fun h=>by have:=(HF3.out b h).1;have:=HB2.out.size;omega) (fun h=>by have:=h.2;have:=HB2.out.size;omega)),HBW.out⟩
     · have HZ:Hid (zzC cols bs=none):=zH (by rw [HC.out];exact idxO_no (by rw [<-HMC.out,<-HL2.out];exact hmod))
       obtain⟨r,hr⟩:∃ r,r=nl % m:=⟨_,rfl⟩
       have t1:(nl:Int).tmod (m:Int)=(r:Int):=by rw [Int.tmod_eq_emod_of_nonneg (by omega),<-Int.natCast_emod,hr]
       have t2:(nl:Int) % (m:Int)=(r:Int):=by rw [<-Int.natCast_emod,hr]
       have t3:¬ (r:Int)=0:=by omega
       have t4:((r:Int)==0)=false:=by simpa using t3
       have t5:IntKind.i64.wrap (r:Int)=(r:Int):=by
        have h1:=HNL.out;have h5:=Nat.mod_le nl m
        rw [IntKind.wrap_i64];omega
       clear hr hmod
       go_wp2_with fail
       go_ret2
       exact uuR HZ.out HB2.out
end
end Go.Proofs.YtpmglcachffojaaGreatDoor
