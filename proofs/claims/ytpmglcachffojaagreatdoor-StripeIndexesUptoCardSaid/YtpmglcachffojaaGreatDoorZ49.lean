/- A part of what Indexes leans on. -/
import Derived.Test.YtpmglcachffojaaGreatDoorZ39
import Derived.OpenShut
import Derived.ProofKit
import Derived.Deep.Slices
import Derived.Carry
import Derived.Deep.DeepHandedRow
import Derived.Lib.LaidU8T
import Derived.Lib.LaidIn
import Derived.Deep.DeepWitnessRowRef
set_option maxRecDepth 100000
set_option maxHeartbeats 16000000
namespace Go.Proofs.YtpmglcachffojaaGreatDoor
section
open Go Go.RowKit Go.ChangeShapes Go.WideShapes Go.ChangeAt Go.Deep
def RdT {α:Type} (T:Ty α) (t:TypeId) (m:α->Nat):Prop :=
 ∀ (H:Type) (enc:TypeId×Value->H) (W:World) (fuel:Nat) (cs:List Value) (d:DataW H) (p:List MemPlace),DataW.trod enc Tryz.prog W 0 (fun _=>true) true fuel t cs=some (d,p) ->
  ∃ x,T.rep (fun _=>True) W cs x/\m x<=250*Rows.uptoBulk d
def msum {α:Type} (m:α->Nat):List α->Nat
 | []=>0
 | x::r=>m x+msum m r
theorem bulk_app {H:Type} (l r:List (DataW H)):Rows.uptoBulkAll (l++r)=Rows.uptoBulkAll l+Rows.uptoBulkAll r:=by
 induction l with
 | nil=>simp [Rows.uptoBulkAll]
 | cons x l ih=>simp only [List.cons_append,Rows.uptoBulkAll,ih];omega
theorem kqe {α H:Type} (m:α->Nat) (f:Nat->α) (D:Nat->DataW H):∀ n,(∀ i,i<n->m (f i)<=250*Rows.uptoBulk (D i))->msum m ((List.range n).map f)<=250*Rows.uptoBulkAll ((List.range n).map D)
 | 0,_=>by simp [msum,Rows.uptoBulkAll]
 | n+1,h=>by
   have ih:=kqe m f D n (fun i hi=>h i (by omega))
   have hn:=h n (by omega)
   have e:∀ (l:List α) (x:α),msum m (l++[x])=msum m l+m x:=by
    intro l x
    induction l with
    | nil=>simp [msum]
    | cons y r ih=>simp only [List.cons_append,msum,ih];omega
   rw [List.range_succ,List.map_append,List.map_append,List.map_singleton,List.map_singleton,e,bulk_app]
   simp only [Rows.uptoBulkAll]
   omega
theorem vvT {α:Type} [Inhabited α] {T:Ty α} {e t:TypeId} {m:α->Nat} (ht:Tryz.prog.underlying t=some (.slice e)) (hc:Tryz.prog.cellsOf e=T.size) (h:RdT T e m):RdT (tSl T) t (fun xs=>msum m xs+250):=by
 intro H enc W fuel cs d p hd
 rcases open_slice ht hd with ⟨rfl,hx⟩ | ⟨a,len,cap,mm,n,D,Pl,rfl,hb,hl,hm,hmm,hx,hi⟩
 · injection hx with hx _;subst hx
   exact⟨[],⟨none,0,0,rfl,Sl.nil_ _ _ _⟩,by simp [msum,Rows.uptoBulk]⟩
 · injection hx with hx _;subst hx
   have hmc:mm=cap:=by simpa using hmm
   rw [hc] at hi
   obtain⟨f,hf⟩:=choose_lt (α:=List Value×α) (n:=len) (p:=fun i y=>W.cells? 0 (a.add (i*T.size)) T.size=some y.1/\T.rep (fun _=>True) W y.1 y.2/\m y.2<=250*Rows.uptoBulk (D i)) (fun i hil=>by
    obtain⟨cs',h1,h2⟩:=hi i (by omega)
    obtain⟨x,h3,h4⟩:=h H enc W n cs' _ _ h2
    exact⟨(cs',x),h1,h3,h4⟩)
   refine⟨(List.range len).map fun i=>(f i).2,⟨some a,len,cap,rfl,by simp,hl,hm,(List.range len).map fun i=>(f i).1,?_,?_⟩,?_⟩
   · have key:∀ k,k<=len->Rd (fun _=>True) W (some a) ((List.range k).map fun i=>(f i).1).flatten/\(((List.range k).map fun i=>(f i).1).flatten).length=k*T.size/\∀ j u,(((List.range k).map fun i=>(f i).1).flatten)[j]?=some u->W.cell? (a.add j)=some u:=by
      intro k
      induction k with
      | zero=>intro _;exact⟨fun h=>absurd rfl h,by simp,by simp⟩
      | succ k ih =>
        intro hk
        obtain⟨_,i2,i3⟩:=ih (by omega)
        obtain⟨c1,_,_⟩:=hf k (by omega)
        obtain⟨_,c2,c3⟩:=World.cells?_some c1
        have e1:((List.range (k+1)).map fun i=>(f i).1).flatten=((List.range k).map fun i=>(f i).1).flatten++(f k).1:=by
         rw [List.range_succ];simp
        have hl2:(((List.range (k+1)).map fun i=>(f i).1).flatten).length=(k+1)*T.size:=by
         rw [e1,List.length_append,i2,c2,Nat.succ_mul]
        have hcl:∀ j u,(((List.range (k+1)).map fun i=>(f i).1).flatten)[j]?=some u->W.cell? (a.add j)=some u:=by
         intro j u hju
         rw [e1] at hju
         rcases Nat.lt_or_ge j (k*T.size) with hj | hj
         · rw [List.getElem?_append_left (by rw [i2];exact hj)] at hju
           exact i3 j u hju
         · rw [List.getElem?_append_right (by rw [i2];exact hj),i2] at hju
           have hj2:j - k*T.size<T.size:=by
            exact Nat.lt_of_lt_of_le (List.getElem?_eq_some_iff.1 hju).1 (Nat.le_of_eq c2)
           have:=c3 _ hj2
           rw [hju,add_add,show k*T.size+(j - k*T.size)=j by omega] at this
           exact this
        refine⟨fun hne=>?_,hl2,hcl⟩
        obtain⟨b,o,sp⟩:=a
        have h0:=hcl 0 _ (List.getElem?_eq_getElem (List.length_pos_iff.2 hne))
        have hsp:sp=none:=by simpa [Addr.add] using World.cell?_spot h0
        subst hsp
        refine⟨b,o,rfl,trivial,World.block_lt_of_cell? W _ h0,fun j u hju=>?_⟩
        have:=hcl j u hju
        unfold Addr.add at this
        split at this
        · rename_i hj0;subst hj0;exact this
        · exact this
     exact (key len zN).1
   · refine⟨by simp,fun i cs x h1 h2=>?_⟩
     have hil:i<len:=by
      have:=(List.getElem?_eq_some_iff.1 h1).1
      simpa using this
     simp [hil] at h1 h2
     subst h1 h2
     exact (hf i hil).2.1
   · have:=kqe m (fun i=>(f i).2) D len (fun i hil=>(hf i hil).2.2)
     simp only [Rows.uptoBulk]
     omega
instance:Inhabited VV:=⟨⟨false,0,⟨#[]⟩⟩⟩
theorem jjh {n:Int} (h:(Lit.int .i64 n).wf=true):i64 n:=by
 have : -9223372036854775808<=n/\n<=9223372036854775807:=by simpa [Lit.wf,IntKind.min,IntKind.max,IntKind.signed,IntKind.bits] using h
 exact this
theorem own:ownKnob Tryz.prog.godebug=none:=by kernel_rfl
theorem zqB:laidOutB Tryz.prog=true:=by kernel_rfl
noncomputable def jji (os:Os):World :=
 let w0:=World.holding Tryz.prog os ⟨#[],#[],[]⟩
 let put (h:Array Obj) (g:Nat) (cs:Array Value):Array Obj:=h.modify g fun
  | .cells _ t frozen=>.cells cs t frozen
  | o=>o
 let h1:=put w0.heap 0 (Lib.firstTab.map fun z=>Value.int .u8 z).toArray
 let h2:=put h1 1 ((List.range 16).flatMap fun i=>[Value.int .u8 (Lib.accLo i),Value.int .u8 (Lib.accHi i)]).toArray
 { w0 with heap:=h2 }
end
section
open Go Go.RowKit Go.ChangeShapes Go.WideShapes Go.ChangeAt Go.Deep
instance:Inhabited CC:=⟨(⟨#[]⟩,0)⟩
theorem rd_CC:RdT tCol 93 (fun _=>0):=by
 intro H enc W fuel cs d p hd
 obtain⟨xs,n,_,hx,hl,hlen,hf⟩:=DataW.trod_struct Tryz.underlying93 hd
 injection hx with hx _;subst hx
 obtain⟨y0,y1,rfl⟩:∃ y0 y1,xs=[y0,y1]:=by match xs,hlen with | [y0,y1],_=>exact⟨y0,y1,rfl⟩
 have hl2:cs.length=2:=hl.trans (by kernel_rfl)
 obtain⟨c0,c1,rfl⟩:∃ c0 c1,cs=[c0,c1]:=by match cs,hl2 with | [c0,c1],_=>exact⟨c0,c1,rfl⟩
 have f0:DataW.trod enc Tryz.prog W 0 (fun _=>true) true n 9 [c0]=some (y0.1,y0.2):=by
  have q:DataW.trod enc Tryz.prog W 0 (fun _=>true) true n 9 (([c0,c1].drop 0).take (Tryz.prog.cellsOf 9))=some y0:=hf 0 _ rfl
  rw [show Tryz.prog.cellsOf 9=1 by kernel_rfl] at q
  exact q
 have f1:DataW.trod enc Tryz.prog W 0 (fun _=>true) true n 3 [c1]=some (y1.1,y1.2):=by
  have q:DataW.trod enc Tryz.prog W 0 (fun _=>true) true n 3 (([c0,c1].drop 1).take (Tryz.prog.cellsOf 3))=some y1:=hf 1 _ rfl
  rw [show Tryz.prog.cellsOf 3=1 by kernel_rfl] at q
  exact q
 obtain⟨x0,h0,e0,w0⟩:=DataW.trod_string Tryz.underlying9 f0
 injection e0 with e0 _;obtain rfl:c0=_:=by simpa using h0
 obtain⟨x1,h1,e1,w1⟩:=DataW.trod_int Tryz.underlying3 f1
 injection e1 with e1 _;obtain rfl:c1=_:=by simpa using h1
 exact⟨(x0,x1),⟨[.string x0],[.int .i64 x1],rfl,⟨rfl,w0⟩,rfl,(jjh w1).1,(jjh w1).2⟩,Nat.zero_le _⟩
theorem rd_CCs:RdT (tSl tCol) 34 (fun xs=>msum (fun _=>0) xs+250):=vvT Tryz.underlying34 (by kernel_rfl) rd_CC
end
section
open Go Go.RowKit Go.ChangeShapes Go.WideShapes Go.ChangeAt Go.Deep
instance:Inhabited (Int×List UInt8):=⟨(0,[])⟩
theorem u8_wf {n:Int} (h:(Lit.int .u8 n).wf=true):0<=n/\n<=255:=by
 simpa [Lit.wf,IntKind.min,IntKind.max,IntKind.signed,IntKind.bits] using h
theorem rd_i64 {t:TypeId} (ht:Tryz.prog.underlying t=some (.int .i64)):RdT tI64 t (fun _=>0):=by
 intro H enc W fuel cs d p hd
 obtain⟨n,rfl,hx,hw⟩:=DataW.trod_int ht hd
 exact⟨n,⟨rfl,jjh hw⟩,Nat.zero_le _⟩
theorem rd_u8 {t:TypeId} (ht:Tryz.prog.underlying t=some (.int .u8)):RdT tU8 t (fun _=>0):=by
 intro H enc W fuel cs d p hd
 obtain⟨n,rfl,hx,hw⟩:=DataW.trod_int ht hd
 have hb:=u8_wf hw
 refine⟨UInt8.ofNat n.toNat,?_,Nat.zero_le _⟩
 show [Value.int .u8 n]=[Value.int .u8 ((UInt8.ofNat n.toNat).toNat:Int)]
 have e:((UInt8.ofNat n.toNat).toNat:Int)=n:=by rw [UInt8.toNat_ofNat'];omega
 rw [e]
theorem rd_u8s:RdT (tSl tU8) 41 (fun xs=>msum (fun _=>0) xs+250):=vvT Tryz.underlying41 (by kernel_rfl) (rd_u8 Tryz.underlying5)
end
section
open Go Go.RowKit Go.ChangeShapes Go.WideShapes Go.ChangeAt Go.Deep
theorem rd_VVm:RdT tVV 74 (fun v=>250*v.s.size):=by
 intro H enc W fuel cs d p hd
 obtain⟨xs,n,_,hx,hl,hlen,hf⟩:=DataW.trod_struct Tryz.underlying74 hd
 injection hx with hx _;subst hx
 obtain⟨y0,y1,y2,rfl⟩:∃ y0 y1 y2,xs=[y0,y1,y2]:=by match xs,hlen with | [y0,y1,y2],_=>exact⟨y0,y1,y2,rfl⟩
 have hl2:cs.length=3:=hl.trans (by kernel_rfl)
 obtain⟨c0,c1,c2,rfl⟩:∃ c0 c1 c2,cs=[c0,c1,c2]:=by match cs,hl2 with | [c0,c1,c2],_=>exact⟨c0,c1,c2,rfl⟩
 have f0:DataW.trod enc Tryz.prog W 0 (fun _=>true) true n 4 [c0]=some (y0.1,y0.2):=by
  have q:DataW.trod enc Tryz.prog W 0 (fun _=>true) true n 4 (([c0,c1,c2].drop 0).take (Tryz.prog.cellsOf 4))=some y0:=hf 0 _ rfl
  rw [show Tryz.prog.cellsOf 4=1 by kernel_rfl] at q
  exact q
 have f1:DataW.trod enc Tryz.prog W 0 (fun _=>true) true n 3 [c1]=some (y1.1,y1.2):=by
  have q:DataW.trod enc Tryz.prog W 0 (fun _=>true) true n 3 (([c0,c1,c2].drop 1).take (Tryz.prog.cellsOf 3))=some y1:=hf 1 _ rfl
  rw [show Tryz.prog.cellsOf 3=1 by kernel_rfl] at q
  exact q
 have f2:DataW.trod enc Tryz.prog W 0 (fun _=>true) true n 9 [c2]=some (y2.1,y2.2):=by
  have q:DataW.trod enc Tryz.prog W 0 (fun _=>true) true n 9 (([c0,c1,c2].drop 2).take (Tryz.prog.cellsOf 9))=some y2:=hf 2 _ rfl
  rw [show Tryz.prog.cellsOf 9=1 by kernel_rfl] at q
  exact q
 obtain⟨x0,h0,e0⟩:=DataW.trod_bool Tryz.underlying4 f0
 injection e0 with e0 _;obtain rfl:c0=_:=by simpa using h0
 obtain⟨x1,h1,e1,w1⟩:=DataW.trod_int Tryz.underlying3 f1
 injection e1 with e1 _;obtain rfl:c1=_:=by simpa using h1
 obtain⟨x2,h2,e2,w2⟩:=DataW.trod_string Tryz.underlying9 f2
 injection e2 with e2 _;obtain rfl:c2=_:=by simpa using h2
 refine⟨⟨x0,x1,x2⟩,⟨rfl,(jjh w1).1,(jjh w1).2,w2⟩,?_⟩
 have hz:x2.data.toList.length=x2.size:=Array.length_toList
 simp only [List.map_cons,List.map_nil,e0,e1,e2,Rows.uptoBulk,Rows.uptoBulkAll]
 omega
def ssM (z:SS):Nat:=250*(z.min.s.size+z.max.s.size)
theorem rd_SS:RdT tSS 109 ssM:=by
 intro H enc W fuel cs d p hd
 obtain⟨xs,n,_,hx,hl,hlen,hf⟩:=DataW.trod_struct Tryz.underlying109 hd
 injection hx with hx _;subst hx
 obtain⟨y0,y1,y2,y3,y4,y5,rfl⟩:∃ y0 y1 y2 y3 y4 y5,xs=[y0,y1,y2,y3,y4,y5]:=by match xs,hlen with | [y0,y1,y2,y3,y4,y5],_=>exact⟨y0,y1,y2,y3,y4,y5,rfl⟩
 have hl2:cs.length=10:=hl.trans (by kernel_rfl)
 obtain⟨c0,c1,c2,c3,c4,c5,c6,c7,c8,c9,rfl⟩:∃ c0 c1 c2 c3 c4 c5 c6 c7 c8 c9,cs=[c0,c1,c2,c3,c4,c5,c6,c7,c8,c9]:=by match cs,hl2 with | [c0,c1,c2,c3,c4,c5,c6,c7,c8,c9],_=>exact⟨c0,c1,c2,c3,c4,c5,c6,c7,c8,c9,rfl⟩
 have f0:DataW.trod enc Tryz.prog W 0 (fun _=>true) true n 3 [c0]=some (y0.1,y0.2):=by
  have q:DataW.trod enc Tryz.prog W 0 (fun _=>true) true n 3 (([c0,c1,c2,c3,c4,c5,c6,c7,c8,c9].drop 0).take (Tryz.prog.cellsOf 3))=some y0:=hf 0 _ rfl
  rw [show Tryz.prog.cellsOf 3=1 by kernel_rfl] at q
  exact q
 have f1:DataW.trod enc Tryz.prog W 0 (fun _=>true) true n 4 [c1]=some (y1.1,y1.2):=by
  have q:DataW.trod enc Tryz.prog W 0 (fun _=>true) true n 4 (([c0,c1,c2,c3,c4,c5,c6,c7,c8,c9].drop 1).take (Tryz.prog.cellsOf 4))=some y1:=hf 1 _ rfl
  rw [show Tryz.prog.cellsOf 4=1 by kernel_rfl] at q
  exact q
 have f2:DataW.trod enc Tryz.prog W 0 (fun _=>true) true n 74 [c2,c3,c4]=some (y2.1,y2.2):=by
  have q:DataW.trod enc Tryz.prog W 0 (fun _=>true) true n 74 (([c0,c1,c2,c3,c4,c5,c6,c7,c8,c9].drop 2).take (Tryz.prog.cellsOf 74))=some y2:=hf 2 _ rfl
  rw [show Tryz.prog.cellsOf 74=3 by kernel_rfl] at q
  exact q
 have f3:DataW.trod enc Tryz.prog W 0 (fun _=>true) true n 74 [c5,c6,c7]=some (y3.1,y3.2):=by
  have q:DataW.trod enc Tryz.prog W 0 (fun _=>true) true n 74 (([c0,c1,c2,c3,c4,c5,c6,c7,c8,c9].drop 5).take (Tryz.prog.cellsOf 74))=some y3:=hf 3 _ rfl
  rw [show Tryz.prog.cellsOf 74=3 by kernel_rfl] at q
  exact q
 have f4:DataW.trod enc Tryz.prog W 0 (fun _=>true) true n 3 [c8]=some (y4.1,y4.2):=by
  have q:DataW.trod enc Tryz.prog W 0 (fun _=>true) true n 3 (([c0,c1,c2,c3,c4,c5,c6,c7,c8,c9].drop 8).take (Tryz.prog.cellsOf 3))=some y4:=hf 4 _ rfl
  rw [show Tryz.prog.cellsOf 3=1 by kernel_rfl] at q
  exact q
 have f5:DataW.trod enc Tryz.prog W 0 (fun _=>true) true n 4 [c9]=some (y5.1,y5.2):=by
  have q:DataW.trod enc Tryz.prog W 0 (fun _=>true) true n 4 (([c0,c1,c2,c3,c4,c5,c6,c7,c8,c9].drop 9).take (Tryz.prog.cellsOf 4))=some y5:=hf 5 _ rfl
  rw [show Tryz.prog.cellsOf 4=1 by kernel_rfl] at q
  exact q
 obtain⟨x0,h0,e0,w0⟩:=DataW.trod_int Tryz.underlying3 f0
 obtain rfl:c0=_:=by simpa using h0
 obtain⟨x1,h1,e1⟩:=DataW.trod_bool Tryz.underlying4 f1
 obtain rfl:c1=_:=by simpa using h1
 obtain⟨⟨m0,mi,ms⟩,⟨r2,k2⟩,z2⟩:=rd_VVm H enc W n _ _ _ f2
 obtain⟨⟨u0,xi,xs⟩,⟨r3,k3⟩,z3⟩:=rd_VVm H enc W n _ _ _ f3
 obtain⟨x4,h4,e4,w4⟩:=DataW.trod_int Tryz.underlying3 f4
 obtain rfl:c8=_:=by simpa using h4
 obtain⟨x5,h5,e5⟩:=DataW.trod_bool Tryz.underlying4 f5
 obtain rfl:c9=_:=by simpa using h5
 injection r2 with r20 r2;injection r2 with r21 r2;injection r2 with r22 r2
 injection r3 with r30 r3;injection r3 with r31 r3;injection r3 with r32 r3
 subst r20 r21 r22 r30 r31 r32
 refine⟨⟨x0,x1,⟨m0,mi,ms⟩,⟨u0,xi,xs⟩,x4,x5⟩,⟨rfl,jjh w0,k2,k3,jjh w4⟩,?_⟩
 unfold ssM
 simp only [List.map_cons,List.map_nil,Rows.uptoBulk,Rows.uptoBulkAll]
 dsimp only at z2 z3 ⊢
 omega
theorem rd_ints:RdT (tSl tI64) 94 (fun xs=>msum (fun _=>0) xs+250):=vvT Tryz.underlying94 (by kernel_rfl) (rd_i64 Tryz.underlying3)
instance:Inhabited SS:=⟨⟨0,false,⟨false,0,⟨#[]⟩⟩,⟨false,0,⟨#[]⟩⟩,0,false⟩⟩
theorem rd_SSs:RdT (tSl tSS) 95 (fun xs=>msum ssM xs+250):=vvT Tryz.underlying95 (by kernel_rfl) rd_SS
def stM (s:ST):Nat:=msum ssM s.2.2
theorem rd_St:RdT tSt 106 stM:=by
 intro H enc W fuel cs d p hd
 obtain⟨xs,n,_,hx,hl,hlen,hf⟩:=DataW.trod_struct Tryz.underlying106 hd
 injection hx with hx _;subst hx
 obtain⟨y0,y1,y2,rfl⟩:∃ y0 y1 y2,xs=[y0,y1,y2]:=by match xs,hlen with | [y0,y1,y2],_=>exact⟨y0,y1,y2,rfl⟩
 have hl2:cs.length=3:=hl.trans (by kernel_rfl)
 obtain⟨c0,c1,c2,rfl⟩:∃ c0 c1 c2,cs=[c0,c1,c2]:=by match cs,hl2 with | [c0,c1,c2],_=>exact⟨c0,c1,c2,rfl⟩
 have f0:DataW.trod enc Tryz.prog W 0 (fun _=>true) true n 3 [c0]=some (y0.1,y0.2):=by
  have q:DataW.trod enc Tryz.prog W 0 (fun _=>true) true n 3 (([c0,c1,c2].drop 0).take (Tryz.prog.cellsOf 3))=some y0:=hf 0 _ rfl
  rw [show Tryz.prog.cellsOf 3=1 by kernel_rfl] at q
  exact q
 have f1:DataW.trod enc Tryz.prog W 0 (fun _=>true) true n 94 [c1]=some (y1.1,y1.2):=by
  have q:DataW.trod enc Tryz.prog W 0 (fun _=>true) true n 94 (([c0,c1,c2].drop 1).take (Tryz.prog.cellsOf 94))=some y1:=hf 1 _ rfl
  rw [show Tryz.prog.cellsOf 94=1 by kernel_rfl] at q
  exact q
 have f2:DataW.trod enc Tryz.prog W 0 (fun _=>true) true n 95 [c2]=some (y2.1,y2.2):=by
  have q:DataW.trod enc Tryz.prog W 0 (fun _=>true) true n 95 (([c0,c1,c2].drop 2).take (Tryz.prog.cellsOf 95))=some y2:=hf 2 _ rfl
  rw [show Tryz.prog.cellsOf 95=1 by kernel_rfl] at q
  exact q
 obtain⟨x0,r0,_⟩:=rd_i64 Tryz.underlying3 H enc W n _ _ _ f0
 obtain⟨x1,r1,_⟩:=rd_ints H enc W n _ _ _ f1
 obtain⟨x2,r2,z2⟩:=rd_SSs H enc W n _ _ _ f2
 refine⟨(x0,x1,x2),⟨_,_,rfl,r0,_,_,rfl,r1,r2⟩,?_⟩
 unfold stM
 simp only [List.map_cons,List.map_nil,Rows.uptoBulk,Rows.uptoBulkAll]
 dsimp only at z2 ⊢
 omega
instance:Inhabited ST:=⟨(0,[],[])⟩
theorem rd_Sts:RdT (tSl tSt) 46 (fun xs=>msum stM xs+250):=vvT Tryz.underlying46 (by kernel_rfl) rd_St
theorem qzm {α:Type} {m:α->Nat}:∀ {l:List α} {x:α},x∈l->m x<=msum m l
 | [],_,h=>by cases h
 | y::r,x,h=>by
   rcases List.mem_cons.1 h with rfl | h
   · exact Nat.le_add_right _ _
   · exact Nat.le_trans (qzm h) (Nat.le_add_left _ _)
theorem sts_texts {l:List ST} {b:Nat} (h:msum stM l+250<=250*b) (hb:b<=1048576):∀ s∈l,∀ z∈s.2.2,z.min.s.size<=1048576/\z.max.s.size<=1048576:=fun s hs z hz=>by
 have h1:=qzm (m:=stM) hs
 have h2:=qzm (m:=ssM) hz
 unfold stM at h1
 unfold ssM at h2
 have h3:msum ssM s.2.2=msum (fun z:SS=>250*(z.min.s.size+z.max.s.size)) s.2.2:=rfl
 have h4:msum stM l=msum (fun s:ST=>msum ssM s.2.2) l:=rfl
 rw [<-h3] at h2
 rw [<-h4] at h1
 omega
def tBB:Ty (List UInt8×Bool) where
 size:=2
 rep F w cs x:=∃ A n c,cs=[.slice A n c,.bool x.2]/\Sl tU8 F w A n c x.1
 len h:=by obtain⟨_,_,_,rfl,_⟩:=h;rfl
 one h:=by obtain⟨_,_,_,rfl,_⟩:=h;intro u hu;simp at hu;rcases hu with rfl | rfl <;> rfl
 keep h h1 h2:=by obtain⟨A,n,c,rfl,h3⟩:=h;exact⟨A,n,c,rfl,h3.keep h1 h2⟩
 weaken h h1:=by obtain⟨A,n,c,rfl,h3⟩:=h;exact⟨A,n,c,rfl,h3.weaken h1⟩
theorem rd_BB:RdT tBB 63 (fun _=>0):=by
 intro H enc W fuel cs d p hd
 obtain⟨xs,n,_,hx,hl,hlen,hf⟩:=DataW.trod_struct Tryz.underlying63 hd
 injection hx with hx _;subst hx
 obtain⟨y0,y1,rfl⟩:∃ y0 y1,xs=[y0,y1]:=by match xs,hlen with | [y0,y1],_=>exact⟨y0,y1,rfl⟩
 have hl2:cs.length=2:=hl.trans (by kernel_rfl)
 obtain⟨c0,c1,rfl⟩:∃ c0 c1,cs=[c0,c1]:=by match cs,hl2 with | [c0,c1],_=>exact⟨c0,c1,rfl⟩
 have f0:DataW.trod enc Tryz.prog W 0 (fun _=>true) true n 41 [c0]=some (y0.1,y0.2):=by
  have q:DataW.trod enc Tryz.prog W 0 (fun _=>true) true n 41 (([c0,c1].drop 0).take (Tryz.prog.cellsOf 41))=some y0:=hf 0 _ rfl
  rw [show Tryz.prog.cellsOf 41=1 by kernel_rfl] at q
  exact q
 have f1:DataW.trod enc Tryz.prog W 0 (fun _=>true) true n 4 [c1]=some (y1.1,y1.2):=by
  have q:DataW.trod enc Tryz.prog W 0 (fun _=>true) true n 4 (([c0,c1].drop 1).take (Tryz.prog.cellsOf 4))=some y1:=hf 1 _ rfl
  rw [show Tryz.prog.cellsOf 4=1 by kernel_rfl] at q
  exact q
 obtain⟨x0,⟨A,n0,c,r0,s0⟩,_⟩:=rd_u8s H enc W n _ _ _ f0
 obtain⟨x1,h1,e1⟩:=DataW.trod_bool Tryz.underlying4 f1
 obtain rfl:c1=_:=by simpa using h1
 injection r0 with r0 _;subst r0
 exact⟨(x0,x1),⟨A,n0,c,rfl,s0⟩,Nat.zero_le _⟩
end
end Go.Proofs.YtpmglcachffojaaGreatDoor
