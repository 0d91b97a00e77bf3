/- A part of what None leans on. -/
import Derived.WalkKit
import Derived.WalkSpells
import Derived.WalkLawsBesides
import Derived.Maps.AppendAt
import Derived.Deep.AppendLies
import Derived.Deep.Draws
import Derived.Lib.Hide
import Derived.Laws.BitsAllLaws
import Derived.Laws.BitsLemmas
import Derived.Test.YtpmglcachffojaaGreatDoorRows
import Derived.Lib.AppendZerosOnto
import Derived.Deep.RegionHeld3
import Derived.Deep.DrawnRows
import Derived.Lib.ItoaNum
import Derived.Deep.QuietTactic
import Derived.BigQuiet
set_option maxRecDepth 100000
set_option maxHeartbeats 16000000
namespace Go.Proofs.YtpmglcachffojaaGreatDoor
section
open Go Go.RowKit
theorem zN {n:Nat}:n<=n:=Nat.le_refl n
theorem zR {B:Nat} {w:World}:Below B w w:=Below.refl B w
theorem zH {p:Prop} (h:p):Hid p:=Lib.hid h
theorem zC {w:World} {b:Nat} {cs:Array Value} {T:TypeId} {fr:Nat×Nat} (h:w.heap[b]?=some (Obj.cells cs T fr)) (j:Nat):w.cell? { block:=b,off:=j }=cs[j]?:=Lib.cell_of_heap h j
theorem zS (w:World) (o:Obj):(w.alloc o).heap.size=w.heap.size+1:=World.size_alloc w o
theorem zF {w:World} {b:Nat} {cs:Array Value} {T:TypeId} (h:w.heap[b]?=some (Obj.cells cs T)) (j:Nat):w.frozen? { block:=b,off:=j }=false:=Lib.frozen_of_heap h j
theorem zT {α:Type} {i:Nat} {l:List α} (h:i<l.length):List.take (i+1) l=List.take i l++[l[i]]:=List.take_succ_eq_append_getElem h
theorem zL {α:Type} {i:Nat} {l:List α} (h:l.length<=i):List.take i l=l:=List.take_of_length_le h
end
section
open Go Go.RowKit
theorem yyL (b o j:Nat):(⟨b,o,none⟩:Addr).add j=⟨b,o+j,none⟩:=by
 unfold Addr.add;split <;> simp_all
def Rd (F:Nat->Prop) (w:World) (A:Option Addr) (xs:List Value):Prop :=
 xs≠[]->∃ b o,A=some ⟨b,o,none⟩/\F b/\b<w.heap.size/\∀ j u,xs[j]?=some u->w.cell? ⟨b,o+j,none⟩=some u
section
variable {F F':Nat->Prop} {w w':World} {A:Option Addr} {xs ys:List Value}
theorem Rd.nil_:Rd F w A []:=fun h=>absurd rfl h
theorem Rd.keep (h:Rd F w A xs) (hs:w.heap.size<=w'.heap.size) (hk:∀ b,F b->b<w.heap.size->w'.heap[b]?=w.heap[b]?):Rd F w' A xs:=fun hx=>by
 obtain⟨b,o,e,hF,hb,hc⟩:=h hx
 exact⟨b,o,e,hF,by omega,fun j u hu=>(World.cell?_of_block (a:=⟨b,o+j,none⟩) (hk b hF hb)).trans (hc j u hu)⟩
theorem Rd.weaken (h:Rd F w A xs) (hF:∀ b,F b->b<w.heap.size->F' b):Rd F' w A xs:=fun hx=>by
 obtain⟨b,o,e,hf,hb,hc⟩:=h hx
 exact⟨b,o,e,hF b hf hb,hb,hc⟩
theorem Rd.any (h:Rd F w A xs):Rd (fun _=>True) w A xs:=h.weaken fun _ _ _=>trivial
theorem Rd.below {B:Nat} (h:Rd F w A xs) (hb:Below B w w') (hB:w.heap.size<=B):Rd F w' A xs:=h.keep hb.size fun b _ hl=>hb.block b (by omega)
theorem Rd.grown {row:Option Nat} (h:Rd F w A xs) (hg:w.grownBy w' row) (hr:∀ g,row=some g->¬ F g):Rd F w' A xs :=
 h.keep hg.size fun b hF hl=>hg.block b hl (fun e=>hr b e.symm hF)
theorem Rd.alloc (h:Rd F w A xs) (o:Obj):Rd F (w.alloc o) A xs:=h.keep (by simp) fun b _ hl=>Below.heap_alloc w o b hl
theorem Rd.drew (h:Rd F w A xs):Rd F w.drew A xs:=h
theorem Rd.drewN (h:Rd F w A xs) (n:Nat):Rd F (w.drewN n) A xs:=h
theorem Rd.setCell (h:Rd F w A xs) {p:Addr} (hp:¬ F p.block) (u:Value):Rd F (w.setCell p u) A xs :=
 h.keep (by simp) fun b hF _=>Below.heap_setCell w p u b (fun e=>hp (e ▸ hF))
theorem Rd.at_ {j:Nat} {u:Value} (h:Rd F w A xs) (hj:xs[j]?=some u):∃ b o,A=some ⟨b,o,none⟩/\F b/\b<w.heap.size/\w.cell? ⟨b,o+j,none⟩=some u:=by
 obtain⟨b,o,e,hF,hb,hc⟩:=h (by rintro rfl;simp at hj)
 exact⟨b,o,e,hF,hb,hc j u hj⟩
theorem Rd.part {c k s:Nat} (h:Rd F w A xs) (he:∃ al zs,xs=al++ys++zs/\al.length=k*s) (hc:xs.length<=c*s) :
 Rd F w (if c=k then A else A.map (·.add (k*s))) ys:=fun hy=>by
 obtain⟨al,zs,rfl,hk⟩:=he
 obtain⟨b,o,e,hF,hb,hcell⟩:=h (by simp [hy])
 have hl:0<ys.length:=List.length_pos_iff.2 hy
 have hne:c≠k:=by
  rintro rfl
  simp only [List.length_append] at hc
  omega
 refine⟨b,o+k*s,by rw [if_neg hne,e];simp [yyL],hF,hb,fun j u hu=>?_⟩
 rw [Nat.add_assoc]
 refine hcell _ u ?_
 have hj:j<ys.length:=by
  rcases Nat.lt_or_ge j ys.length with h | h
  · exact h
  · rw [List.getElem?_eq_none h] at hu;cases hu
 rw [List.append_assoc,List.getElem?_append_right (by omega),hk,show k*s+j - k*s=j by omega,List.getElem?_append_left hj]
 exact hu
theorem Rd.front {zs:List Value} (h:Rd F w A (ys++zs)):Rd F w A ys:=fun hy=>by
 obtain⟨b,o,e,hF,hb,hcell⟩:=h (by simp [hy])
 refine⟨b,o,e,hF,hb,fun j u hu=>hcell j u ?_⟩
 have hj:j<ys.length:=by
  rcases Nat.lt_or_ge j ys.length with h | h
  · exact h
  · rw [List.getElem?_eq_none h] at hu;cases hu
 rw [List.getElem?_append_left hj];exact hu
theorem Rd.own {base:Nat} {e:TypeId} {size n c:Nat} (h:w.ownsRow base e size (.slice A n c) n xs):Rd (fun b=>A=some ⟨b,0,none⟩/\base<=b) w A xs:=fun hx=>by
 rcases h.2 with ⟨h1,rfl⟩ | ⟨g,cap,cur,h1,hb,hg,hn,_,_,ht⟩
 · have:=h.1;simp at this;exact absurd this hx
 · injection h1 with hA
   refine⟨g,0,hA,⟨hA,hb⟩,(Array.getElem?_eq_some_iff.1 hg).1,fun j u hu=>?_⟩
   have:=h.cells (g:=g) (by simp [Value.ownBlock,hA]) j u hu
   rwa [yyL] at this
theorem Rd.news (h:Rd F w A xs) {ad:Addr} (hA:A=some ad):∀ j u,xs[j]?=some u->w.cell? (ad.add j)=some u:=fun j u hu=>by
 obtain⟨b,o,e,_,_,hc⟩:=h (by rintro rfl;simp at hu)
 rw [hA] at e;injection e with e;subst e
 rw [yyL];exact hc j u hu
end
structure zzL (P:Program) (t e:TypeId) (size:Nat):Prop where
 und:P.underlying t=some (.slice e)
 info:∃ i z,P.info? e=some i/\i.zero=some z/\i.size=size/\i.bytes<=1024/\z.cells.size=size/\0<size
theorem zzL.mk' {P:Program} {t e:TypeId} {z:Value} {size bytes:Nat} (ht:P.underlying t=some (.slice e)) (h:(P.info? e).map (fun i=>(i.zero,i.size,i.bytes))=some (some z,size,bytes))
 (hz:z.cells.size=size) (hs:0<size) (hb:bytes<=1024):zzL P t e size:=by
 obtain⟨i,hi,h0,h1,h2⟩:=info_parts h
 exact⟨ht,i,z,hi,h0,h1,by omega,hz,hs⟩
theorem yyj {P:Program} {t e:TypeId} {size:Nat} (E:zzL P t e size) (ty:TypeId) (w:World) (base:Nat)
 (v:Value) (n:Nat) (xs:List Value) (hown:w.ownsRow base e size v n xs)
 (F:Nat->Prop) (A:Option Addr) (m c:Nat) (news:List Value) (hl:news.length=m*size) (hr:Rd F w A news) (h1:∀ u∈news,u.oneCell'=true)
 (hlim:n+m<=68719476736) (hbase:base<=w.heap.size) :
 ∃ A' c' w',(Builtin.append_ #[t,t] ty #[v,.slice A m c]).run P w=.ok (.slice A' (n+m) c') w'/\w'.ownsRow base e size (.slice A' (n+m) c') (n+m) (xs++news)/\w.grownBy w' v.ownBlock /\
  (A'.map (·.block)=v.ownBlock∨A'.map (·.block)=some w.heap.size):=by
 obtain⟨ht,i,z,hi,hz,hsize,hby,hzs,hsz⟩:=E
 have shape:∀ (v':Value) (w':World),w'.ownsRow base e size v' (n+m) (xs++news)->∃ (A':Option Addr) (c':Nat),v'=Value.slice A' (n+m) c'/\v'.ownBlock=A'.map (·.block):=by
  intro v' w' ho
  rcases ho.2 with ⟨rfl,h0⟩ | ⟨g,cap,cur,rfl,_⟩
  · exact⟨none,0,by rw [h0],rfl⟩
  · exact⟨_,cap,rfl,rfl⟩
 by_cases hne:A=none
 · subst hne
   have hn:news=[]:=by
    rcases List.eq_nil_or_concat news with h | ⟨l,u,rfl⟩
    · exact h
    · obtain⟨_,_,h,_⟩:=hr (by simp);cases h
   subst hn
   have hm:m=0:=by
    rcases Nat.eq_zero_or_pos m with h | h
    · exact h
    · have:=Nat.mul_pos h hsz;simp at hl;omega
   subst hm
   have hrun:(Builtin.append_ #[t,t] ty #[v,.slice none 0 c]).run P w=.ok v w:=by
    rcases hown.2 with ⟨rfl,rfl⟩ | ⟨g,cap,cur,rfl,_,_,hnc,_⟩
    · simp [Builtin.append_,run_underlying ht,sizeOf,typeInfo,hi,Builtin.lenOf,Builtin.firstCells]
    · simp [Builtin.append_,run_underlying ht,sizeOf,typeInfo,hi,Builtin.lenOf,Builtin.firstCells,hnc,storeCells]
   have ho:w.ownsRow base e size v (n+0) (xs++[]):=by simpa using hown
   obtain⟨A',c',e1,e2⟩:=shape v w ho
   refine⟨A',c',w,by rw [hrun,e1],by rw [<-e1];exact ho,World.grownBy.refl w _,.inl ?_⟩
   rw [e2]
 · obtain⟨ad,rfl⟩:=Option.ne_none_iff_exists'.1 hne
   obtain⟨v',w',hrun,h2,h3,_,h5⟩:=run_append_own_at (P:=P) w base t ty e i z size i.bytes ht hi hz hsize rfl hzs hsz v n xs hown ad m c news hl (hr.news rfl) h1 (by simp only [maxLen];omega)
    (Nat.le_trans (Nat.mul_le_mul_left _ hby) (by omega)) hbase
   obtain⟨A',c',rfl,e2⟩:=shape v' w' h2
   exact⟨A',c',w',hrun,h2,h3,by rw [<-e2];exact h5⟩
structure Apd (a0 w w':World) (B:Nat) (e:TypeId) (size:Nat) (v0:Value) (A':Option Addr) (n c':Nat) (xs:List Value):Prop where
 own:w'.ownsRow B e size (.slice A' n c') n xs
 below:Below B a0 w'
 grown:w.grownBy w' v0.ownBlock
 lies:A'.map (·.block)=v0.ownBlock∨A'.map (·.block)=some w.heap.size
section
variable {P:Program} {t e:TypeId} {size:Nat} (E:zzL P t e size) (w a0:World) {ops:Array Oper} {rest:List Oper} {o:Oper} {a:Act} {Q:Exit->Act->World->Prop}
include E
theorem wp_ap {K:Act->World->Prop} (s x:Operand) (ho:o.op=.call { callee:=.builtin .append,args:=#[s,x],argTypes:=#[t,t] }) (B:Nat) (v0:Value) (n:Nat) (xs:List Value) (hs:a.eval s=v0)
 (hown:w.ownsRow B e size v0 n xs) (hb:Below B a0 w) (hB:B<=a0.heap.size)
 (F:Nat->Prop) (A:Option Addr) (m c:Nat) (news:List Value) (hx:a.eval x=.slice A m c) (hl:news.length=m*size) (hr:Rd F w A news) (h1:∀ u∈news,u.oneCell'=true) (hlim:n+m<=68719476736)
 (h:∀ A' c' w',Apd a0 w w' B e size v0 A' (n+m) c' (xs++news)->K (a.put o.dst (.slice A' (n+m) c')) w'):o.wp P a w K Q:=by
 have hbase:B<=w.heap.size:=Nat.le_trans hB hb.size
 obtain⟨A',c',w',hrun,h2,h3,h4⟩:=yyj E o.type w B v0 n xs hown F A m c news hl hr h1 hlim hbase
 unfold Oper.wp execOp
 simp only [ho,resolve,invoke,builtin,Sem.run_bind,Sem.run_pure,Result.andThen_ok,List.map_toArray,List.map_cons,List.map_nil,hs,hx,hrun]
 exact h A' c' w' ⟨h2,hb.grown h3 hbase (fun k hk=>(hown.lt k hk).1),h3,h4⟩
end
theorem Rd.new (w:World) (cs:List Value) (t:TypeId):Rd (fun b=>b=w.heap.size) (w.alloc (.cells cs.toArray t)) (some ⟨w.heap.size,0,none⟩) cs:=fun _ =>
 ⟨_,0,rfl,rfl,by simp,fun j u hu=>by rw [Nat.zero_add,World.cell?_alloc_new];simpa using hu⟩
end
section
open Go Go.RowKit
structure Ty (α:Type) where
 size:Nat
 rep:(Nat->Prop)->World->List Value->α->Prop
 len:∀ {F w cs x},rep F w cs x->cs.length=size
 one:∀ {F w cs x},rep F w cs x->∀ u∈cs,u.oneCell'=true
 keep:∀ {F w w' cs x},rep F w cs x->w.heap.size<=w'.heap.size->(∀ b,F b->b<w.heap.size->w'.heap[b]?=w.heap[b]?)->rep F w' cs x
 weaken:∀ {F F' w cs x},rep F w cs x->(∀ b,F b->b<w.heap.size->F' b)->rep F' w cs x
theorem Ty.below {α:Type} (T:Ty α) {F:Nat->Prop} {w w':World} {B:Nat} {cs:List Value} {x:α} (h:T.rep F w cs x) (hb:Below B w w') (hB:w.heap.size<=B):T.rep F w' cs x :=
 T.keep h hb.size fun b _ hl=>hb.block b (by omega)
theorem Ty.grown {α:Type} (T:Ty α) {F:Nat->Prop} {w w':World} {row:Option Nat} {cs:List Value} {x:α} (h:T.rep F w cs x) (hg:w.grownBy w' row) (hr:∀ g,row=some g->¬ F g):T.rep F w' cs x :=
 T.keep h hg.size fun b hF hl=>hg.block b hl (fun e=>hr b e.symm hF)
theorem Ty.alloc {α:Type} (T:Ty α) {F:Nat->Prop} {w:World} {cs:List Value} {x:α} (h:T.rep F w cs x) (o:Obj):T.rep F (w.alloc o) cs x :=
 T.keep h (by simp) fun b _ hl=>Below.heap_alloc w o b hl
def tI64:Ty Int where
 size:=1
 rep _ _ cs x:=cs=[.int .i64 x] /\ -9223372036854775808<=x/\x<=9223372036854775807
 len h:=by rw [h.1];rfl
 one h:=by rw [h.1];intro u hu;simp at hu;subst hu;rfl
 keep h _ _:=h
 weaken h _:=h
def tU64:Ty Nat where
 size:=1
 rep _ _ cs x:=cs=[.int .u64 (x:Int)]/\x<18446744073709551616
 len h:=by rw [h.1];rfl
 one h:=by rw [h.1];intro u hu;simp at hu;subst hu;rfl
 keep h _ _:=h
 weaken h _:=h
def tU8:Ty UInt8 where
 size:=1
 rep _ _ cs x:=cs=[.int .u8 (x.toNat:Int)]
 len h:=by rw [h];rfl
 one h:=by rw [h];intro u hu;simp at hu;subst hu;rfl
 keep h _ _:=h
 weaken h _:=h
def zzU:Ty Bool where
 size:=1
 rep _ _ cs x:=cs=[.bool x]
 len h:=by rw [h];rfl
 one h:=by rw [h];intro u hu;simp at hu;subst hu;rfl
 keep h _ _:=h
 weaken h _:=h
def tStr:Ty ByteArray where
 size:=1
 rep _ _ cs x:=cs=[.string x]/\x.size<=maxLen
 len h:=by rw [h.1];rfl
 one h:=by rw [h.1];intro u hu;simp at hu;subst hu;rfl
 keep h _ _:=h
 weaken h _:=h
def Ty.prod {α β:Type} (S:Ty α) (T:Ty β):Ty (α×β) where
 size:=S.size+T.size
 rep F w cs x:=∃ c1 c2,cs=c1++c2/\S.rep F w c1 x.1/\T.rep F w c2 x.2
 len h:=by obtain⟨c1,c2,rfl,h1,h2⟩:=h;simp [S.len h1,T.len h2]
 one h:=by
  obtain⟨c1,c2,rfl,h1,h2⟩:=h
  intro u hu
  rcases List.mem_append.1 hu with hu | hu
  · exact S.one h1 u hu
  · exact T.one h2 u hu
 keep h hs hk:=by obtain⟨c1,c2,rfl,h1,h2⟩:=h;exact⟨c1,c2,rfl,S.keep h1 hs hk,T.keep h2 hs hk⟩
 weaken h hF:=by obtain⟨c1,c2,rfl,h1,h2⟩:=h;exact⟨c1,c2,rfl,S.weaken h1 hF,T.weaken h2 hF⟩
def Ty.map {α β:Type} (f:β->α) (T:Ty α):Ty β where
 size:=T.size
 rep F w cs x:=T.rep F w cs (f x)
 len h:=T.len h
 one h:=T.one h
 keep h:=T.keep h
 weaken h:=T.weaken h
def Reps {α:Type} (T:Ty α) (F:Nat->Prop) (w:World) (css:List (List Value)) (xs:List α):Prop :=
 css.length=xs.length/\∀ (i:Nat) (cs:List Value) (x:α),css[i]?=some cs->xs[i]?=some x->T.rep F w cs x
section
variable {α:Type} {T:Ty α} {F F':Nat->Prop} {w w':World} {css:List (List Value)} {xs:List α}
theorem Reps.nil_:Reps T F w [] []:=⟨rfl,by simp⟩
theorem Reps.keep (h:Reps T F w css xs) (hs:w.heap.size<=w'.heap.size) (hk:∀ b,F b->b<w.heap.size->w'.heap[b]?=w.heap[b]?):Reps T F w' css xs :=
 ⟨h.1,fun i cs x h1 h2=>T.keep (h.2 i cs x h1 h2) hs hk⟩
theorem Reps.weaken (h:Reps T F w css xs) (hF:∀ b,F b->b<w.heap.size->F' b):Reps T F' w css xs :=
 ⟨h.1,fun i cs x h1 h2=>T.weaken (h.2 i cs x h1 h2) hF⟩
theorem Reps.snoc {cs:List Value} {x:α} (h:Reps T F w css xs) (hx:T.rep F w cs x):Reps T F w (css++[cs]) (xs++[x]):=by
 refine⟨by simp [h.1],fun i c y h1 h2=>?_⟩
 rcases Nat.lt_trichotomy i css.length with hi | hi | hi
 · rw [List.getElem?_append_left hi] at h1
   rw [List.getElem?_append_left (by rw [<-h.1];exact hi)] at h2
   exact h.2 i c y h1 h2
 · subst hi
   simp at h1
   rw [h.1] at h2
   simp at h2
   subst h1 h2
   exact hx
 · rw [List.getElem?_eq_none (by simp;omega)] at h1
   cases h1
theorem Reps.append {dss:List (List Value)} {ys:List α} (h:Reps T F w css xs) (k:Reps T F w dss ys):Reps T F w (css++dss) (xs++ys):=by
 refine⟨by simp [h.1,k.1],fun i c y h1 h2=>?_⟩
 rcases Nat.lt_or_ge i css.length with hi | hi
 · rw [List.getElem?_append_left hi] at h1
   rw [List.getElem?_append_left (by rw [<-h.1];exact hi)] at h2
   exact h.2 i c y h1 h2
 · rw [List.getElem?_append_right hi] at h1
   rw [List.getElem?_append_right (by rw [<-h.1];exact hi),<-h.1] at h2
   exact k.2 _ c y h1 h2
theorem Reps.take (h:Reps T F w css xs) (k:Nat):Reps T F w (css.take k) (xs.take k):=by
 refine⟨by simp [h.1],fun i c y h1 h2=>?_⟩
 rw [List.getElem?_take] at h1 h2
 split at h1
 · rename_i hk;rw [if_pos hk] at h2;exact h.2 i c y h1 h2
 · cases h1
theorem Reps.drop (h:Reps T F w css xs) (k:Nat):Reps T F w (css.drop k) (xs.drop k):=by
 refine⟨by simp [h.1],fun i c y h1 h2=>?_⟩
 rw [List.getElem?_drop] at h1 h2
 exact h.2 _ c y h1 h2
theorem Reps.lens (h:Reps T F w css xs):∀ cs∈css,cs.length=T.size:=by
 intro cs hc
 obtain⟨i,hi,rfl⟩:=List.getElem_of_mem hc
 exact T.len (h.2 i _ (xs[i]'(by rw [<-h.1];exact hi)) (List.getElem?_eq_getElem hi) (List.getElem?_eq_getElem _))
theorem Reps.ones (h:Reps T F w css xs):∀ u∈css.flatten,u.oneCell'=true:=by
 intro u hu
 obtain⟨cs,hc,hu⟩:=List.mem_flatten.1 hu
 obtain⟨i,hi,rfl⟩:=List.getElem_of_mem hc
 exact T.one (h.2 i _ (xs[i]'(by rw [<-h.1];exact hi)) (List.getElem?_eq_getElem hi) (List.getElem?_eq_getElem _)) u hu
theorem xxv {s:Nat}:∀ {css:List (List Value)},(∀ cs∈css,cs.length=s)->css.flatten.length=css.length*s
 | [],_=>by simp
 | c::r,h=>by
   rw [List.flatten_cons,List.length_append,xxv (fun cs hc=>h cs (by simp [hc])),h c (by simp),List.length_cons,Nat.succ_mul];omega
theorem vva {s:Nat}:∀ {css:List (List Value)},(∀ cs∈css,cs.length=s)->∀ (k j:Nat) (cs:List Value) (u:Value),css[k]?=some cs->cs[j]?=some u->css.flatten[k*s+j]?=some u
 | [],_,k,j,cs,u,h,_=>by simp at h
 | c::r,hl,0,j,cs,u,h,hu=>by
   simp at h;subst h
   have hj:j<c.length:=by
    rcases Nat.lt_or_ge j c.length with h | h
    · exact h
    · rw [List.getElem?_eq_none h] at hu;cases hu
   rw [List.flatten_cons,Nat.zero_mul,Nat.zero_add,List.getElem?_append_left hj];exact hu
 | c::r,hl,k+1,j,cs,u,h,hu=>by
   have hc:=hl c (by simp)
   rw [List.flatten_cons,List.getElem?_append_right (by rw [hc,Nat.succ_mul];omega),hc,show (k+1)*s+j - s=k*s+j by rw [Nat.succ_mul];omega]
   exact vva (fun cs hc=>hl cs (by simp [hc])) k j cs u (by simpa using h) hu
theorem Reps.flat (h:Reps T F w css xs):css.flatten.length=xs.length*T.size:=by rw [xxv h.lens,h.1]
end
def Sl {α:Type} (T:Ty α) (F:Nat->Prop) (w:World) (A:Option Addr) (n c:Nat) (xs:List α):Prop :=
 n=xs.length/\n<=c/\c<=maxLen/\∃ css,Rd F w A css.flatten/\Reps T F w css xs
section
variable {α:Type} {T:Ty α} {F F':Nat->Prop} {w w':World} {A:Option Addr} {n c:Nat} {xs:List α}
theorem Sl.keep (h:Sl T F w A n c xs) (hs:w.heap.size<=w'.heap.size) (hk:∀ b,F b->b<w.heap.size->w'.heap[b]?=w.heap[b]?):Sl T F w' A n c xs:=by
 obtain⟨h1,h2,h3,css,h4,h5⟩:=h
 exact⟨h1,h2,h3,css,h4.keep hs hk,h5.keep hs hk⟩
theorem Sl.weaken (h:Sl T F w A n c xs) (hF:∀ b,F b->b<w.heap.size->F' b):Sl T F' w A n c xs:=by
 obtain⟨h1,h2,h3,css,h4,h5⟩:=h
 exact⟨h1,h2,h3,css,h4.weaken hF,h5.weaken hF⟩
theorem Sl.below {B:Nat} (h:Sl T F w A n c xs) (hb:Below B w w') (hB:w.heap.size<=B):Sl T F w' A n c xs:=h.keep hb.size fun b _ hl=>hb.block b (by omega)
theorem Sl.grown {row:Option Nat} (h:Sl T F w A n c xs) (hg:w.grownBy w' row) (hr:∀ g,row=some g->¬ F g):Sl T F w' A n c xs :=
 h.keep hg.size fun b hF hl=>hg.block b hl (fun e=>hr b e.symm hF)
theorem Sl.alloc (h:Sl T F w A n c xs) (o:Obj):Sl T F (w.alloc o) A n c xs:=h.keep (by simp) fun b _ hl=>Below.heap_alloc w o b hl
theorem Sl.drew (h:Sl T F w A n c xs):Sl T F w.drew A n c xs:=h.keep zN fun _ _ _=>rfl
theorem Sl.drewN (h:Sl T F w A n c xs) (k:Nat):Sl T F (w.drewN k) A n c xs:=h.keep zN fun _ _ _=>rfl
theorem Sl.setCell (h:Sl T F w A n c xs) {p:Addr} (hp:¬ F p.block) (u:Value):Sl T F (w.setCell p u) A n c xs :=
 h.keep (by simp) fun b hF _=>Below.heap_setCell w p u b (fun e=>hp (e ▸ hF))
theorem Sl.nil_ (T:Ty α) (F:Nat->Prop) (w:World):Sl T F w none 0 0 []:=⟨rfl,Nat.le_refl _,by simp [maxLen],[],Rd.nil_,Reps.nil_⟩
theorem Sl.len (h:Sl T F w A n c xs):n=xs.length:=h.1
theorem Sl.at_ (h:Sl T F w A n c xs) {k:Nat} (hk:k<xs.length) (hs:0<T.size) :
 ∃ b o cs,A=some ⟨b,o,none⟩/\F b/\b<w.heap.size/\T.rep F w cs (xs[k]'hk)/\∀ j u,cs[j]?=some u->w.cell? ⟨b,o+(k*T.size+j),none⟩=some u:=by
 obtain⟨h1,h2,h3,css,h4,h5⟩:=h
 have hk':k<css.length:=by rw [h5.1];exact hk
 have hrep:=h5.2 k _ _ (List.getElem?_eq_getElem hk') (List.getElem?_eq_getElem hk)
 have hne:css.flatten≠[]:=by
  intro he
  have:=h5.flat
  rw [he] at this
  have:0<xs.length*T.size:=Nat.mul_pos (by omega) hs
  simp at *
  omega
 obtain⟨b,o,e,hF,hb,hc⟩:=h4 hne
 exact⟨b,o,css[k],e,hF,hb,hrep,fun j u hu=>hc _ u (vva h5.lens k j _ u (List.getElem?_eq_getElem hk') hu)⟩
theorem Sl.at1 (h:Sl T F w A n c xs) {k:Nat} (hk:k<xs.length) (hs:T.size=1) :
 ∃ b o u,A=some ⟨b,o,none⟩/\F b/\b<w.heap.size/\T.rep F w [u] (xs[k]'hk)/\w.cell? ⟨b,o+k,none⟩=some u:=by
 obtain⟨b,o,cs,e,hF,hb,hr,hc⟩:=h.at_ hk (by omega)
 obtain⟨u,rfl⟩:∃ u,cs=[u]:=by
  have:=T.len hr
  rw [hs] at this
  match cs,this with
  | [u],_=>exact⟨u,rfl⟩
 refine⟨b,o,u,e,hF,hb,hr,?_⟩
 have:=hc 0 u rfl
 rw [hs,Nat.mul_one,Nat.add_zero] at this
 exact this
theorem Sl.cut (h:Sl T F w A n c xs) {lo hi:Nat} (h1:lo<=hi) (h2:hi<=n):Sl T F w (if c=lo then A else A.map (·.add (lo*T.size))) (hi - lo) (c - lo) ((xs.take hi).drop lo):=by
 obtain⟨h3,h4,h5,css,h6,h7⟩:=h
 refine⟨by simp;omega,by omega,by omega,(css.take hi).drop lo,?_,(h7.take hi).drop lo⟩
 refine h6.part ⟨(css.take lo).flatten,(css.drop hi).flatten,?_,?_⟩ (by rw [h7.flat];exact Nat.mul_le_mul_right _ (by omega))
 · rw [<-List.flatten_append,<-List.flatten_append]
   congr 1
   have e1:css.take lo=(css.take hi).take lo:=by rw [List.take_take,Nat.min_eq_left h1]
   rw [e1,List.take_append_drop,List.take_append_drop]
 · rw [(h7.take lo).flat,List.length_take]
   congr 1
   omega
end
def tSl {α:Type} (T:Ty α):Ty (List α) where
 size:=1
 rep F w cs xs:=∃ A n c,cs=[.slice A n c]/\Sl T F w A n c xs
 len h:=by obtain⟨_,_,_,rfl,_⟩:=h;rfl
 one h:=by obtain⟨_,_,_,rfl,_⟩:=h;intro u hu;simp at hu;subst hu;rfl
 keep h hs hk:=by obtain⟨A,n,c,rfl,h1⟩:=h;exact⟨A,n,c,rfl,h1.keep hs hk⟩
 weaken h hF:=by obtain⟨A,n,c,rfl,h1⟩:=h;exact⟨A,n,c,rfl,h1.weaken hF⟩
structure OwnF {α:Type} (T:Ty α) (e:TypeId) (F:Nat->Prop) (w:World) (B:Nat) (A:Option Addr) (n c:Nat) (xs:List α):Prop where
 row:∃ css,w.ownsRow B e T.size (.slice A n c) n css.flatten/\Reps T F w css xs
 off:∀ b o,A=some ⟨b,o,none⟩->¬ F b
 len:n=xs.length
def Own {α:Type} (T:Ty α) (e:TypeId) (w:World) (B:Nat) (A:Option Addr) (n c:Nat) (xs:List α):Prop:=∃ F,OwnF T e F w B A n c xs
theorem yyq {w:World} {B:Nat} {A:Option Addr} {n c:Nat} {e:TypeId} {size:Nat} {ys:List Value} (h:w.ownsRow B e size (.slice A n c) n ys):n<=c/\c<=maxLen:=by
 rcases h.2 with ⟨h1,h2⟩ | ⟨g,cap,cur,h1,_,_,h2,h3,_⟩
 · injection h1 with _ h3 h4;subst h4;exact⟨by omega,by simp [maxLen]⟩
 · injection h1 with _ _ h4;subst h4;exact⟨h2,h3⟩
theorem yyS {w:World} {B:Nat} {n:Nat} {e:TypeId} {size:Nat} {v:Value} {ys:List Value} {B':Nat} (h:w.ownsRow B e size v n ys) (hB:B'<=B):w.ownsRow B' e size v n ys:=by
 refine⟨h.1,?_⟩
 rcases h.2 with h1 | ⟨g,cap,cur,h1,hb,r⟩
 · exact .inl h1
 · exact .inr ⟨g,cap,cur,h1,by omega,r⟩
theorem zzC {w w':World} {B:Nat} {n:Nat} {e:TypeId} {size:Nat} {v:Value} {ys:List Value} (h:w.ownsRow B e size v n ys) (hk:∀ b,v.ownBlock=some b->w'.heap[b]?=w.heap[b]?):w'.ownsRow B e size v n ys:=by
 refine⟨h.1,?_⟩
 rcases h.2 with h1 | ⟨g,cap,cur,rfl,hb,hg,r⟩
 · exact .inl h1
 · exact .inr ⟨g,cap,cur,rfl,hb,by rw [hk g rfl];exact hg,r⟩
theorem xxw {w:World} {B:Nat} {A:Option Addr} {n c:Nat} {e:TypeId} {size:Nat} {ys:List Value} (h:w.ownsRow B e size (.slice A n c) n ys) {b:Nat} (hb:(Value.slice A n c).ownBlock=some b):A=some ⟨b,0,none⟩/\B<=b/\b<w.heap.size:=by
 have hl:=h.lt b hb
 rcases h.2 with ⟨h1,h2⟩ | ⟨g,cap,cur,h1,_⟩
 · injection h1 with h1;subst h1;simp [Value.ownBlock] at hb
 · injection h1 with h1;subst h1;simp [Value.ownBlock] at hb;subst hb;exact⟨rfl,hl⟩
section
variable {α:Type} {T:Ty α} {e:TypeId} {F F':Nat->Prop} {w w':World} {B:Nat} {A:Option Addr} {n c:Nat} {xs:List α}
theorem OwnF.nil_ (T:Ty α) (e:TypeId) (F:Nat->Prop) (w:World) (B:Nat):OwnF T e F w B none 0 0 []:=⟨⟨[],World.ownsRow_nil w B e _,Reps.nil_⟩,by simp,rfl⟩
theorem Own.nil_ (T:Ty α) (e:TypeId) (w:World) (B:Nat):Own T e w B none 0 0 []:=⟨fun _=>False,OwnF.nil_ T e _ w B⟩
theorem Own.len (h:Own T e w B A n c xs):n=xs.length:=h.elim fun _ h=>h.len
theorem OwnF.cap (h:OwnF T e F w B A n c xs):n<=c/\c<=maxLen:=by obtain⟨css,h1,_⟩:=h.row;exact yyq h1
theorem Own.cap (h:Own T e w B A n c xs):n<=c/\c<=maxLen:=h.elim fun _ h=>h.cap
theorem OwnF.down (h:OwnF T e F w B A n c xs) {B':Nat} (hB:B'<=B):OwnF T e F w B' A n c xs:=by
 obtain⟨⟨css,h1,h2⟩,h3,h4⟩:=h
 exact⟨⟨css,yyS h1 hB,h2⟩,h3,h4⟩
theorem Own.down (h:Own T e w B A n c xs) {B':Nat} (hB:B'<=B):Own T e w B' A n c xs:=h.elim fun _ h=>⟨_,h.down hB⟩
theorem OwnF.lies (h:OwnF T e F w B A n c xs) {b:Nat} (hb:(Value.slice A n c).ownBlock=some b):A=some ⟨b,0,none⟩/\B<=b/\b<w.heap.size:=by
 obtain⟨css,h1,_⟩:=h.row;exact xxw h1 hb
theorem OwnF.weaken (h:OwnF T e F w B A n c xs) (hF:∀ b,F b->b<w.heap.size->F' b) (hA:∀ b,A=some ⟨b,0,none⟩->B<=b->b<w.heap.size->¬ F' b):OwnF T e F' w B A n c xs:=by
 obtain⟨⟨css,h1,h2⟩,h3,h4⟩:=h
 refine⟨⟨css,h1,h2.weaken hF⟩,fun b o hA'=>?_,h4⟩
 obtain⟨e1,e2,e3⟩:=xxw h1 (b:=b) (by simp [Value.ownBlock,hA'])
 exact hA b e1 e2 e3
theorem OwnF.sl (h:OwnF T e F w B A n c xs):Sl T (fun b=>F b∨(A=some ⟨b,0,none⟩/\B<=b)) w A n c xs:=by
 obtain⟨⟨css,h1,h2⟩,h3,h4⟩:=h
 obtain⟨h5,h6⟩:=yyq h1
 exact⟨h4,h5,h6,css,(Rd.own h1).weaken fun _ h _=>.inr h,h2.weaken fun _ h _=>.inl h⟩
theorem Own.sl (h:Own T e w B A n c xs):Sl T (fun _=>True) w A n c xs:=h.elim fun _ h=>h.sl.weaken fun _ _ _=>trivial
theorem OwnF.keep (h:OwnF T e F w B A n c xs) (hs:w.heap.size<=w'.heap.size) (hk:∀ b,(F b∨(A=some ⟨b,0,none⟩/\B<=b))->b<w.heap.size->w'.heap[b]?=w.heap[b]?):OwnF T e F w' B A n c xs:=by
 obtain⟨⟨css,h1,h2⟩,h3,h4⟩:=h
 exact⟨⟨css,zzC h1 (fun b hb=>by obtain⟨e1,e2,e3⟩:=xxw h1 hb;exact hk b (.inr ⟨e1,e2⟩) e3),h2.keep hs fun b hb hl=>hk b (.inl hb) hl⟩,h3,h4⟩
theorem OwnF.keepB (h:OwnF T e F w B A n c xs) (hb:Below w.heap.size w w'):OwnF T e F w' B A n c xs:=h.keep hb.size fun b _ hl=>hb.block b hl
theorem Own.keepB (h:Own T e w B A n c xs) (hb:Below w.heap.size w w'):Own T e w' B A n c xs:=h.elim fun _ h=>⟨_,h.keepB hb⟩
theorem OwnF.alloc (h:OwnF T e F w B A n c xs) (o:Obj):OwnF T e F (w.alloc o) B A n c xs:=h.keepB ((Below.refl _ w).alloc zN o)
theorem Own.alloc (h:Own T e w B A n c xs) (o:Obj):Own T e (w.alloc o) B A n c xs:=h.elim fun _ h=>⟨_,h.alloc o⟩
theorem OwnF.drew (h:OwnF T e F w B A n c xs):OwnF T e F w.drew B A n c xs:=h.keepB ⟨rfl,rfl,rfl,Nat.le_refl _,fun _ _=>rfl⟩
theorem OwnF.drewN (h:OwnF T e F w B A n c xs) (k:Nat):OwnF T e F (w.drewN k) B A n c xs:=h.keepB ⟨rfl,rfl,rfl,Nat.le_refl _,fun _ _=>rfl⟩
theorem OwnF.grown (h:OwnF T e F w B A n c xs) {row:Option Nat} (hg:w.grownBy w' row) (hr:∀ g,row=some g->¬ F g/\A≠some ⟨g,0,none⟩):OwnF T e F w' B A n c xs :=
 h.keep hg.size fun b hb hl=>hg.block b hl (fun e=>by
  have:=hr b e.symm
  rcases hb with hb | hb
  · exact this.1 hb
  · exact this.2 hb.1)
theorem OwnF.setCell (h:OwnF T e F w B A n c xs) {p:Addr} (hp:¬ F p.block) (hp':A≠some ⟨p.block,0,none⟩) (u:Value):OwnF T e F (w.setCell p u) B A n c xs :=
 h.keep (by simp) fun b hb _=>Below.heap_setCell w p u b (fun e=>by
  subst e
  rcases hb with hb | hb
  · exact hp hb
  · exact hp' hb.1)
theorem OwnF.apd {a0:World} {A':Option Addr} {m c':Nat} {ys:List α} {dss css:List (List Value)}
 (hr:Reps T F w css xs) (hown:w.ownsRow B e T.size (.slice A n c) n css.flatten) (hA:∀ b o,A=some ⟨b,o,none⟩->¬ F b) (hA':∀ b,A=some ⟨b,0,none⟩->B<=b->b<w.heap.size->¬ F' b)
 (hk:Reps T F' w dss ys) (h:Apd a0 w w' B e T.size (.slice A n c) A' m c' (css.flatten++dss.flatten)) (hm:m=xs.length+ys.length) :
 OwnF T e (fun b=>(F b∨F' b)/\b<w.heap.size) w' B A' m c' (xs++ys):=by
 have g1:Reps T (fun b=>(F b∨F' b)/\b<w.heap.size) w css xs:=hr.weaken fun b hb hl=>⟨.inl hb,hl⟩
 have g2:Reps T (fun b=>(F b∨F' b)/\b<w.heap.size) w dss ys:=hk.weaken fun b hb hl=>⟨.inr hb,hl⟩
 have hne:∀ b,(Value.slice A n c).ownBlock=some b->¬ (F b∨F' b):=fun b hb=>by
  obtain⟨e1,e2,e3⟩:=xxw hown hb
  rintro (h | h)
  · exact hA b 0 e1 h
  · exact hA' b e1 e2 e3 h
 refine⟨⟨css++dss,by rw [List.flatten_append];exact h.own,(g1.append g2).keep h.grown.size fun b hb hl=>h.grown.block b hl (fun e=>hne b e.symm hb.1)⟩,?_,by simp [hm]⟩
 rintro b o rfl ⟨hb,hl⟩
 rcases h.lies with h1 | h1
 · exact hne b h1.symm hb
 · simp at h1;omega
end
structure ApdL {α:Type} (T:Ty α) (e:TypeId) (F:Nat->Prop) (a0 w w':World) (B:Nat) (A:Option Addr) (A':Option Addr) (n c':Nat) (xs:List α):Prop where
 own:OwnF T e F w' B A' n c' xs
 below:Below B a0 w'
 grown:w.grownBy w' (A.map (·.block))
 lies:A'.map (·.block)=A.map (·.block)∨A'.map (·.block)=some w.heap.size
theorem zzb (A:Option Addr) (n c:Nat):(Value.slice A n c).ownBlock=A.map (·.block):=by cases A <;> rfl
section
variable {P:Program} {α:Type} {T:Ty α} {t e:TypeId} (E:zzL P t e T.size) (w a0:World) {ops:Array Oper} {rest:List Oper} {o:Oper} {a:Act} {Q:Exit->Act->World->Prop}
include E
theorem vvv {K:Act->World->Prop} (s x:Operand) (ho:o.op=.call { callee:=.builtin .append,args:=#[s,x],argTypes:=#[t,t] }) (B:Nat) (A:Option Addr) (n c:Nat) (xs:List α) (hs:a.eval s=.slice A n c)
 (F F1 F':Nat->Prop) (hown:OwnF T e F w B A n c xs) (hb:Below B a0 w) (hB:B<=a0.heap.size)
 (A2:Option Addr) (m c2:Nat) (ys:List α) (dss:List (List Value)) (hx:a.eval x=.slice A2 m c2) (hm:m=ys.length) (hrd:Rd F1 w A2 dss.flatten) (hreps:Reps T F' w dss ys) (hF:∀ b,A=some ⟨b,0,none⟩->B<=b->b<w.heap.size->¬ F' b) (hlim:n+m<=68719476736)
 (h:∀ A' c' w',ApdL T e (fun b=>(F b∨F' b)/\b<w.heap.size) a0 w w' B A A' (n+m) c' (xs++ys)->K (a.put o.dst (.slice A' (n+m) c')) w'):o.wp P a w K Q:=by
 obtain⟨⟨css,h1,h2⟩,h3,h4⟩:=hown
 have hlen:dss.flatten.length=m*T.size:=by rw [hreps.flat,hm]
 refine wp_ap E w a0 s x ho B (.slice A n c) n css.flatten hs h1 hb hB F1 A2 m c2 dss.flatten hx hlen hrd hreps.ones hlim fun A' c' w' ha=>?_
 refine h A' c' w' ⟨?_,ha.below,by rw [<-zzb A n c];exact ha.grown,by rw [<-zzb A n c];exact ha.lies⟩
 exact OwnF.apd h2 h1 h3 hF hreps ha (by rw [h4,hm])
theorem qx2 {K:Act->World->Prop} (s x:Operand) (ho:o.op=.call { callee:=.builtin .append,args:=#[s,x],argTypes:=#[t,t] }) (B:Nat) (A:Option Addr) (n c:Nat) (xs:List α) (hs:a.eval s=.slice A n c)
 (F F':Nat->Prop) (hown:OwnF T e F w B A n c xs) (hb:Below B a0 w) (hB:B<=a0.heap.size)
 (A2:Option Addr) (m c2:Nat) (ys:List α) (hx:a.eval x=.slice A2 m c2) (hsl:Sl T F' w A2 m c2 ys) (hF:∀ b,A=some ⟨b,0,none⟩->B<=b->b<w.heap.size->¬ F' b) (hlim:n+m<=68719476736)
 (h:∀ A' c' w',ApdL T e (fun b=>(F b∨F' b)/\b<w.heap.size) a0 w w' B A A' (n+m) c' (xs++ys)->K (a.put o.dst (.slice A' (n+m) c')) w'):o.wp P a w K Q:=by
 obtain⟨h5,h6,h7,dss,h8,h9⟩:=hsl
 exact vvv E w a0 s x ho B A n c xs hs F F' F' hown hb hB A2 m c2 ys dss hx h5 h8 h9 hF hlim h
theorem apl (hgd:o.guard=none) (s x:Operand) (ho:o.op=.call { callee:=.builtin .append,args:=#[s,x],argTypes:=#[t,t] }) (B:Nat) (A:Option Addr) (n c:Nat) (xs:List α) (hs:a.eval s=.slice A n c)
 (F F':Nat->Prop) (hown:OwnF T e F w B A n c xs) (hb:Below B a0 w) (hB:B<=a0.heap.size)
 (A2:Option Addr) (m c2:Nat) (ys:List α) (hx:a.eval x=.slice A2 m c2) (hsl:Sl T F' w A2 m c2 ys) (hF:∀ b,A=some ⟨b,0,none⟩->B<=b->b<w.heap.size->¬ F' b) (hlim:n+m<=68719476736)
 (h:∀ A' c' w',ApdL T e (fun b=>(F b∨F' b)/\b<w.heap.size) a0 w w' B A A' (n+m) c' (xs++ys)->wpList P ops Q rest (a.put o.dst (.slice A' (n+m) c')) w'):wpList P ops Q (o::rest) a w :=
 wpList_plain hgd fun _ hK=>qx2 E w a0 s x ho B A n c xs hs F F' hown hb hB A2 m c2 ys hx hsl hF hlim fun A' c' w' h2=>hK _ _ (h A' c' w' h2)
theorem uuC {K:Act->World->Prop} (s x:Operand) (ho:o.op=.call { callee:=.builtin .append,args:=#[s,x],argTypes:=#[t,t] }) (B:Nat) (A:Option Addr) (n c:Nat) (xs:List α) (hs:a.eval s=.slice A n c)
 (F G:Nat->Prop) (hown:OwnF T e F w B A n c xs) (hb:Below B a0 w) (hB:B<=a0.heap.size) (obj:Obj) (hx:a.eval x=.slice (some ⟨w.heap.size,0,none⟩) 1 1)
 (cs:List Value) (y:α) (hrep:T.rep G w cs y) (t':TypeId) (hobj:obj=.cells cs.toArray t') (hF:∀ b,A=some ⟨b,0,none⟩->B<=b->b<w.heap.size->¬ G b) (hlim:n<=34359738368)
 (h:∀ A' c' w',ApdL T e (fun b=>(F b∨G b)/\b<w.heap.size) a0 (w.alloc obj) w' B A A' (n+1) c' (xs++[y])->K (a.put o.dst (.slice A' (n+1) c')) w'):o.wp P a (w.alloc obj) K Q:=by
 have hsz:B<=w.heap.size:=Nat.le_trans hB hb.size
 subst hobj
 have hown':OwnF T e (fun b=>F b/\b<w.heap.size) (w.alloc (.cells cs.toArray t')) B A n c xs :=
  (hown.weaken (fun b h1 h2=>⟨h1,h2⟩) (fun b h1 h2 h3 h4=>hown.off b 0 h1 h4.1)).alloc _
 have hrep':Reps T (fun b=>G b/\b<w.heap.size) (w.alloc (.cells cs.toArray t')) [cs] [y]:=by
  simpa using Reps.snoc Reps.nil_ (T.alloc (T.weaken hrep (F':=fun b=>G b/\b<w.heap.size) fun b h1 h2=>⟨h1,h2⟩) (.cells cs.toArray t'))
 refine vvv E (w.alloc (.cells cs.toArray t')) a0 s x ho B A n c xs hs (fun b=>F b/\b<w.heap.size) (fun b=>b=w.heap.size) (fun b=>G b/\b<w.heap.size) hown' (hb.alloc hsz _) hB (some ⟨w.heap.size,0,none⟩) 1 1 [y] [cs] hx rfl
  (by simpa using Rd.new w cs t') hrep' (fun b h1 h2 h3 h4=>hF b h1 h2 h4.2 h4.1) (by omega) fun A' c' w' ha=>h A' c' w' ⟨?_,ha.below,ha.grown,ha.lies⟩
 refine ha.own.weaken (fun b h1 _=>?_) (fun b h1 _ _ h2=>ha.own.off b 0 h1 ?_)
 · rcases h1.1 with h | h
   · exact⟨.inl h.1,h.2⟩
   · exact⟨.inr h.1,h.2⟩
 · refine⟨?_,by rw [zS];omega⟩
   rcases h2.1 with h | h
   · exact .inl ⟨h,h2.2⟩
   · exact .inr ⟨h,h2.2⟩
theorem apl1 (hgd:o.guard=none) (s x:Operand) (ho:o.op=.call { callee:=.builtin .append,args:=#[s,x],argTypes:=#[t,t] }) (B:Nat) (A:Option Addr) (n c:Nat) (xs:List α) (hs:a.eval s=.slice A n c)
 (F G:Nat->Prop) (hown:OwnF T e F w B A n c xs) (hb:Below B a0 w) (hB:B<=a0.heap.size) (obj:Obj) (hx:a.eval x=.slice (some ⟨w.heap.size,0,none⟩) 1 1)
 (cs:List Value) (y:α) (hrep:T.rep G w cs y) (t':TypeId) (hobj:obj=.cells cs.toArray t') (hF:∀ b,A=some ⟨b,0,none⟩->B<=b->b<w.heap.size->¬ G b) (hlim:n<=34359738368)
 (h:∀ A' c' w',ApdL T e (fun b=>(F b∨G b)/\b<w.heap.size) a0 (w.alloc obj) w' B A A' (n+1) c' (xs++[y])->wpList P ops Q rest (a.put o.dst (.slice A' (n+1) c')) w'):wpList P ops Q (o::rest) a (w.alloc obj) :=
 wpList_plain hgd fun _ hK=>uuC E w a0 s x ho B A n c xs hs F G hown hb hB obj hx cs y hrep t' hobj hF hlim fun A' c' w' h2=>hK _ _ (h A' c' w' h2)
theorem kqv {K:Act->World->Prop} {E':Prop} (hgd:o.guard=none) (s x:Operand) (ho:o.op=.call { callee:=.builtin .append,args:=#[s,x],argTypes:=#[t,t] }) (B:Nat) (A:Option Addr) (n c:Nat) (xs:List α) (hs:a.eval s=.slice A n c)
 (F G:Nat->Prop) (hown:OwnF T e F w B A n c xs) (hb:Below B a0 w) (hB:B<=a0.heap.size) (obj:Obj) (hx:a.eval x=.slice (some ⟨w.heap.size,0,none⟩) 1 1)
 (cs:List Value) (y:α) (hrep:T.rep G w cs y) (t':TypeId) (hobj:obj=.cells cs.toArray t') (hF:∀ b,A=some ⟨b,0,none⟩->B<=b->b<w.heap.size->¬ G b) (hlim:n<=34359738368)
 (h:∀ A' c' w',ApdL T e (fun b=>(F b∨G b)/\b<w.heap.size) a0 (w.alloc obj) w' B A A' (n+1) c' (xs++[y])->K (a.put o.dst (.slice A' (n+1) c')) w') :
 if Region.wanted o (yielded ops a.tmps)=true then Oper.wp P o a (w.alloc obj) K Q else E':=by
 have hw:Region.wanted o (yielded ops a.tmps)=true:=by simp [Region.wanted,hgd]
 rw [if_pos hw]
 exact uuC E w a0 s x ho B A n c xs hs F G hown hb hB obj hx cs y hrep t' hobj hF hlim h
end
theorem Sl.new {α:Type} {T:Ty α} {F:Nat->Prop} {w:World} {cs:List Value} {x:α} (h:T.rep F w cs x) (t:TypeId) (o:Obj) (ho:o=.cells cs.toArray t) :
 Sl T (fun b=>(F b/\b<w.heap.size)∨b=w.heap.size) (w.alloc o) (some ⟨w.heap.size,0,none⟩) 1 1 [x]:=by
 subst ho
 refine⟨rfl,Nat.le_refl _,by simp [maxLen],[cs],?_,?_⟩
 · rw [show [cs].flatten=cs by simp]
   exact (Rd.new w cs t).weaken fun b h _=>.inr h
 · have:=T.alloc (T.weaken h (F':=fun b=>(F b/\b<w.heap.size)∨b=w.heap.size) fun b hb hl=>.inl ⟨hb,hl⟩) (Obj.cells cs.toArray t)
   simpa using Reps.snoc Reps.nil_ this
theorem Sl.news {α:Type} {T:Ty α} {F:Nat->Prop} {w:World} {css:List (List Value)} {xs:List α} (h:Reps T F w css xs) (t:TypeId) (n:Nat) (hn:n=xs.length) (hm:n<=4294967296) (o:Obj) (ho:o=.cells css.flatten.toArray t) :
 Sl T (fun b=>(F b/\b<w.heap.size)∨b=w.heap.size) (w.alloc o) (some ⟨w.heap.size,0,none⟩) n n xs:=by
 subst ho
 refine⟨hn,Nat.le_refl _,by simp only [maxLen];omega,css,(Rd.new w css.flatten t).weaken fun b h _=>.inr h,?_⟩
 exact (h.weaken (F':=fun b=>(F b/\b<w.heap.size)∨b=w.heap.size) fun b hb hl=>.inl ⟨hb,hl⟩).keep (by simp) fun b _ hl=>Below.heap_alloc w _ b hl
theorem Reps.mk1 {α:Type} {T:Ty α} {F:Nat->Prop} {w:World} {c1:List Value} {x1:α} (h1:T.rep F w c1 x1):Reps T F w [c1] [x1]:=by simpa using Reps.snoc Reps.nil_ h1
theorem Reps.mk2 {α:Type} {T:Ty α} {F:Nat->Prop} {w:World} {c1 c2:List Value} {x1 x2:α} (h1:T.rep F w c1 x1) (h2:T.rep F w c2 x2):Reps T F w [c1,c2] [x1,x2]:=by simpa using Reps.snoc (Reps.mk1 h1) h2
theorem Reps.mk3 {α:Type} {T:Ty α} {F:Nat->Prop} {w:World} {c1 c2 c3:List Value} {x1 x2 x3:α} (h1:T.rep F w c1 x1) (h2:T.rep F w c2 x2) (h3:T.rep F w c3 x3):Reps T F w [c1,c2,c3] [x1,x2,x3]:=by simpa using Reps.snoc (Reps.mk2 h1 h2) h3
theorem Reps.mk4 {α:Type} {T:Ty α} {F:Nat->Prop} {w:World} {c1 c2 c3 c4:List Value} {x1 x2 x3 x4:α} (h1:T.rep F w c1 x1) (h2:T.rep F w c2 x2) (h3:T.rep F w c3 x3) (h4:T.rep F w c4 x4):Reps T F w [c1,c2,c3,c4] [x1,x2,x3,x4]:=by simpa using Reps.snoc (Reps.mk3 h1 h2 h3) h4
theorem Sl.any {α:Type} {T:Ty α} {F:Nat->Prop} {w:World} {A:Option Addr} {n c:Nat} {xs:List α} (h:Sl T F w A n c xs):Sl T (fun _=>True) w A n c xs:=h.weaken fun _ _ _=>trivial
theorem Sl.rep {α:Type} {T:Ty α} {F:Nat->Prop} {w:World} {A:Option Addr} {n c:Nat} {xs:List α} (h:Sl T F w A n c xs):(tSl T).rep F w [.slice A n c] xs:=⟨A,n,c,rfl,h⟩
theorem sl2 {α:Type} {T:Ty α} {F1 F2:Nat->Prop} {w:World} {A1 A2:Option Addr} {n1 n2 c1 c2:Nat} {x1 x2:List α} (h1:Sl T F1 w A1 n1 c1 x1) (h2:Sl T F2 w A2 n2 c2 x2) (t:TypeId) :
 Sl (tSl T) (fun _=>True) (w.alloc (.cells #[.slice A1 n1 c1,.slice A2 n2 c2] t)) (some ⟨w.heap.size,0,none⟩) 2 2 [x1,x2]:=by
 have hr:Reps (tSl T) (fun _=>True) w [[.slice A1 n1 c1],[.slice A2 n2 c2]] [x1,x2]:=Reps.mk2 h1.any.rep h2.any.rep
 exact (Sl.news hr t 2 rfl (by omega) _ rfl).any
theorem sl3 {α:Type} {T:Ty α} {F1 F2 F3:Nat->Prop} {w:World} {A1 A2 A3:Option Addr} {n1 n2 n3 c1 c2 c3:Nat} {x1 x2 x3:List α} (h1:Sl T F1 w A1 n1 c1 x1) (h2:Sl T F2 w A2 n2 c2 x2) (h3:Sl T F3 w A3 n3 c3 x3) (t:TypeId) :
 Sl (tSl T) (fun _=>True) (w.alloc (.cells #[.slice A1 n1 c1,.slice A2 n2 c2,.slice A3 n3 c3] t)) (some ⟨w.heap.size,0,none⟩) 3 3 [x1,x2,x3]:=by
 have hr:Reps (tSl T) (fun _=>True) w [[.slice A1 n1 c1],[.slice A2 n2 c2],[.slice A3 n3 c3]] [x1,x2,x3]:=Reps.mk3 h1.any.rep h2.any.rep h3.any.rep
 exact (Sl.news hr t 3 rfl (by omega) _ rfl).any
theorem vvb {w:World} {b o k:Nat} {u0 u1:Value} (h:∀ j u,([u0,u1]:List Value)[j]?=some u->w.cell? ⟨b,o+(k*2+j),none⟩=some u) :
 w.cell? ⟨b,o+k*2,none⟩=some u0/\w.cell? ⟨b,o+k*2+1,none⟩=some u1 :=
 ⟨by have:=h 0 _ rfl;rw [<-Nat.add_assoc] at this;exact this,by have:=h 1 _ rfl;rw [<-Nat.add_assoc] at this;exact this⟩
theorem yyo {w:World} {b o k:Nat} {u0 u1 u2:Value} (h:∀ j u,([u0,u1,u2]:List Value)[j]?=some u->w.cell? ⟨b,o+(k*3+j),none⟩=some u) :
 w.cell? ⟨b,o+k*3,none⟩=some u0/\w.cell? ⟨b,o+k*3+1,none⟩=some u1/\w.cell? ⟨b,o+k*3+2,none⟩=some u2 :=
 ⟨by have:=h 0 _ rfl;rw [<-Nat.add_assoc] at this;exact this,by have:=h 1 _ rfl;rw [<-Nat.add_assoc] at this;exact this,by have:=h 2 _ rfl;rw [<-Nat.add_assoc] at this;exact this⟩
theorem Sl.new2 {α:Type} {T:Ty α} {w:World} {c1 c2:List Value} {x1 x2:α} (h1:T.rep (fun _=>True) w c1 x1) (h2:T.rep (fun _=>True) w c2 x2) (t:TypeId) (o:Obj) (ho:o=.cells (c1++c2).toArray t) :
 Sl T (fun _=>True) (w.alloc o) (some ⟨w.heap.size,0,none⟩) 2 2 [x1,x2]:=(Sl.news (Reps.mk2 h1 h2) t 2 rfl (by omega) o (by rw [ho];simp)).any
def Ty.Flat {α:Type} (T:Ty α):Prop:=∀ {F F':Nat->Prop} {w w':World} {cs:List Value} {x:α},T.rep F w cs x->T.rep F' w' cs x
theorem Reps.flat' {α:Type} {T:Ty α} (hT:T.Flat) {F F':Nat->Prop} {w w':World} {css:List (List Value)} {xs:List α} (h:Reps T F w css xs):Reps T F' w' css xs:=⟨h.1,fun i cs x h1 h2=>hT (h.2 i cs x h1 h2)⟩
theorem qxd:tU8.Flat:=fun h=>h
theorem Ty.Flat.prod {α β:Type} {S:Ty α} {T:Ty β} (hS:S.Flat) (hT:T.Flat):(S.prod T).Flat:=fun h=>by
 obtain⟨c1,c2,e,h1,h2⟩:=h
 exact⟨c1,c2,e,hS h1,hT h2⟩
theorem Ty.Flat.map {α β:Type} {f:β->α} {T:Ty α} (hT:T.Flat):(T.map f).Flat:=fun h=>hT h
theorem OwnF.flat {α:Type} {T:Ty α} (hT:T.Flat) {e:TypeId} {F:Nat->Prop} {w:World} {B:Nat} {A:Option Addr} {n c:Nat} {xs:List α} (h:OwnF T e F w B A n c xs):OwnF T e (fun _=>False) w B A n c xs:=by
 obtain⟨⟨css,h1,h2⟩,h3,h4⟩:=h
 exact⟨⟨css,h1,h2.flat' hT⟩,fun _ _ _ h=>h,h4⟩
end
section
open Go Go.RowKit
theorem qxq {k:IntKind} {a b:Int} (h:a=b):Ending.returned (.int k a)=.returned (.int k b):=by rw [h]
def zigN (x:Int):Nat:=if x<0 then (-2*x - 1).toNat else (2*x).toNat
def zagI (u:Nat):Int:=if u % 2=1 then -((u / 2:Nat):Int) - 1 else ((u / 2:Nat):Int)
theorem qxr (x:Int) (h0 : -9223372036854775808<=x) (h1:x<=9223372036854775807):zigN x<18446744073709551616:=by unfold zigN;split <;> omega
theorem jjK (a:Nat) (h:a<18446744073709551616):a ^^^ 18446744073709551615=18446744073709551615 - a:=by
 have e:(BitVec.ofNat 64 a ^^^ BitVec.allOnes 64) = ~~~ BitVec.ofNat 64 a:=BitVec.xor_allOnes
 have e2:=congrArg BitVec.toNat e
 rw [BitVec.toNat_xor,BitVec.toNat_not,BitVec.toNat_ofNat,BitVec.toNat_allOnes,Nat.mod_eq_of_lt (by omega)] at e2
 exact e2
theorem qz2 (x:Int) (h0 : -9223372036854775808<=x) (h1:x<=9223372036854775807) :
 bits BinOp.xor IntKind.u64 (IntKind.u64.wrap (IntKind.u64.wrap x*2)) (IntKind.u64.wrap (x / 9223372036854775808))=(zigN x:Int):=by
 rw [IntKind.wrap_u64,IntKind.wrap_u64,IntKind.wrap_u64]
 unfold zigN
 split
 · rename_i h
   rw [show x / 9223372036854775808 = -1 by omega,show (-1:Int) % 18446744073709551616=((18446744073709551615:Nat):Int) by decide,
    show x % 18446744073709551616*2 % 18446744073709551616=(((x % 18446744073709551616*2 % 18446744073709551616).toNat:Nat):Int) by omega,u64_xor_nat _ _ (by omega) (by omega),jjK _ (by omega)]
   omega
 · rename_i h
   rw [show x / 9223372036854775808=0 by omega,show (0:Int) % 18446744073709551616=((0:Nat):Int) by decide,
    show x % 18446744073709551616*2 % 18446744073709551616=(((x % 18446744073709551616*2 % 18446744073709551616).toNat:Nat):Int) by omega,u64_xor_nat _ _ (by omega) (by omega),Nat.xor_zero]
   omega
theorem qz3 (b:Nat) (h:b<256):bits BinOp.or IntKind.u8 (b:Int) 128=((b % 128+128:Nat):Int):=by
 rw [show (128:Int)=((128:Nat):Int) from rfl,u8_or_nat _ _ h (by omega)]
 congr 1
 exact (by decide +kernel:∀ b:Fin 256,b.val ||| 128=b.val % 128+128) ⟨b,h⟩
theorem vvP (n:Nat) (h:n<18446744073709551616):IntKind.u64.wrap (n:Int)=(n:Int):=by rw [IntKind.wrap_u64];omega
end
section
def vvw:Nat->Nat->List UInt8
 | 0,x=>[UInt8.ofNat x]
 | f+1,x=>if x<128 then [UInt8.ofNat x] else UInt8.ofNat (x % 128+128)::vvw f (x / 128)
def vput (x:Nat):List UInt8:=vvw 9 x
theorem kqw (f x:Nat):1<=(vvw f x).length/\(vvw f x).length<=f+1:=by
 induction f generalizing x with
 | zero=>simp [vvw]
 | succ f ih =>
   unfold vvw
   split
   · simp
   · have:=ih (x / 128);simp;omega
theorem jja (x:Nat):1<=(vput x).length/\(vput x).length<=10:=kqw 9 x
structure Fld where
 tag:Int
 bytes:Bool
 n:Nat
 b:List UInt8
 deriving DecidableEq
def fld (f:Fld):List UInt8:=if f.bytes then vput (8*f.tag.toNat+2)++vput f.b.length++f.b else vput (8*f.tag.toNat)++vput f.n
def tagOk (f:Fld):Bool:=1<=f.tag&&f.tag<=100
def wput:List Fld->Option (List UInt8)
 | []=>some []
 | f::r=>if tagOk f then (wput r).map (fld f++·) else none
def okc (b:Bool) (e:Int):Int:=if b then 0 else e
def dput (l:List Fld):List UInt8:=(wput l).getD []
def fnum (tag:Int) (n:Nat):Fld:=⟨tag,false,n,[]⟩
def ftxt (tag:Int) (b:List UInt8):Fld:=⟨tag,true,0,b⟩
structure VV where
 null:Bool
 n:Int
 s:ByteArray
 deriving DecidableEq
def VV.zero:VV:=⟨false,0,⟨#[]⟩⟩
def VV.ok (v:VV):Prop := -9223372036854775808<=v.n/\v.n<=9223372036854775807/\v.s.size<=Go.maxLen
def b2n (b:Bool):Nat:=if b then 1 else 0
def kqx (v:VV):List Fld:=[fnum 1 (b2n v.null),fnum 2 (zigN v.n),ftxt 3 v.s.data.toList]
def qz4 (v:VV):List UInt8:=dput (kqx v)
structure KK where
 id:Int
 bucket:Int
 row:Int
 deriving DecidableEq
def putRow (r:List VV):List UInt8:=dput (r.map fun v=>ftxt 1 (qz4 v))
def KK.zero:KK:=⟨0,0,0⟩
def KK.put (k:KK) (i:Nat) (x:Int):KK:=match i with | 0=>{ k with id:=x } | 1=>{ k with bucket:=x } | _=>{ k with row:=x }
def keyOf:Nat->KK->List Fld->Bool×KK
 | _,k,[]=>(false,k)
 | i,k,f::r=>if 3<=i then (true,k) else keyOf (i+1) (k.put i (zagI f.n)) r
end
section
open Go Go.RowKit
def i64 (x:Int):Prop := -9223372036854775808<=x/\x<=9223372036854775807
def tVV:Ty VV where
 size:=3
 rep _ _ cs v:=cs=[.bool v.null,.int .i64 v.n,.string v.s]/\v.ok
 len h:=by rw [h.1];rfl
 one h:=by rw [h.1];intro u hu;simp at hu;rcases hu with rfl | rfl | rfl <;> rfl
 keep h _ _:=h
 weaken h _:=h
def KK.ok (k:KK):Prop:=i64 k.id/\i64 k.bucket/\i64 k.row
end
section
def be:Nat->Nat->List UInt8
 | 0,_=>[]
 | s+1,N=>UInt8.ofNat (N / 256 ^ s)::be s N
theorem zzY:∀ s N,(be s N).length=s
 | 0,_=>rfl
 | s+1,N=>by rw [be,List.length_cons,zzY s N]
theorem vvS:∀ (s N j:Nat) (_:j<s),(be s N)[j]?=some (UInt8.ofNat (N / 256 ^ (s - 1 - j)))
 | s+1,N,0,_=>by rw [be];simp
 | s+1,N,j+1,h=>by
   rw [be,List.getElem?_cons_succ,vvS s N j (by omega)]
   congr 4;omega
theorem vvx (s N j:Nat) (h:j<(be s N).length):((be s N)[j]).toNat=N / 256 ^ (s - 1 - j) % 256:=by
 have hj:j<s:=by rwa [zzY] at h
 have:=vvS s N j hj
 rw [List.getElem?_eq_getElem h] at this
 rw [Option.some.inj this,UInt8.toNat_ofNat']
theorem xxz (n:Nat):UInt8.ofNat (n % 256)=UInt8.ofNat n:=by
 apply UInt8.toNat_inj.1
 rw [UInt8.toNat_ofNat',UInt8.toNat_ofNat'];omega
theorem qz5 (N c f e:Nat) (hc:N / 256 ^ f % 256+c<256) (he:f<e):(N+c*256 ^ f) / 256 ^ e=N / 256 ^ e:=by
 obtain⟨d,rfl⟩:∃ d,e=f+(1+d):=⟨e - f - 1,by omega⟩
 have hp:0<256 ^ f:=Nat.pow_pos (by decide)
 rw [Nat.pow_add,<-Nat.div_div_eq_div_mul,<-Nat.div_div_eq_div_mul,Nat.add_mul_div_right _ _ hp,Nat.pow_add,<-Nat.div_div_eq_div_mul,<-Nat.div_div_eq_div_mul]
 congr 1
 rw [Nat.pow_one]
 omega
theorem qxt (N c f e:Nat) (he:e<f):(N+c*256 ^ f) / 256 ^ e % 256=N / 256 ^ e % 256:=by
 obtain⟨d,rfl⟩:∃ d,f=e+(1+d):=⟨f - e - 1,by omega⟩
 have hp:0<256 ^ e:=Nat.pow_pos (by decide)
 have:c*256 ^ (e+(1+d))=(c*256 ^ d*256)*256 ^ e:=by
  rw [Nat.pow_add,Nat.pow_add,Nat.pow_one]
  ac_rfl
 rw [this,Nat.add_mul_div_right _ _ hp,Nat.add_mul_mod_self_right]
theorem qxe (s N j c:Nat) (hj:j<s) (hc:N / 256 ^ (s - 1 - j) % 256+c<256) :
 (be s N).set j (UInt8.ofNat (N / 256 ^ (s - 1 - j) % 256+c))=be s (N+c*256 ^ (s - 1 - j)):=by
 apply List.ext_getElem?
 intro i
 by_cases hi:i<s
 · rw [vvS s _ i hi,List.getElem?_set]
   by_cases hij:j=i
   · subst hij
     rw [if_pos rfl,if_pos (by rw [zzY];exact hj),Nat.add_mul_div_right _ _ (Nat.pow_pos (by decide))]
     congr 1
     rw [<-xxz (N / 256 ^ (s - 1 - j)+c)]
     congr 1;omega
   · rw [if_neg hij,vvS s _ i hi]
     congr 1
     rw [<-xxz (N / _),<-xxz ((N+_) / _)]
     congr 1
     by_cases h2:j<i
     · rw [qxt _ _ _ _ (by omega)]
     · rw [qz5 _ _ _ _ hc (by omega)]
 · rw [List.getElem?_eq_none (by rw [List.length_set,zzY];omega),List.getElem?_eq_none (by rw [zzY];omega)]
theorem uuD:∀ s,be s 0=List.replicate s 0
 | 0=>rfl
 | s+1=>by rw [be,uuD s,List.replicate_succ,Nat.zero_div];rfl
def catN (w:Nat) (l:List Nat):Nat:=l.foldl (fun a x=>a*2 ^ w+x) 0
theorem xxA (w:Nat) (l:List Nat) (x:Nat):catN w (l++[x])=catN w l*2 ^ w+x:=by simp [catN]
def zzD (many w:Nat):Nat:=(many*w+7) / 8
def pack (w:Nat) (l:List Nat):List UInt8:=be (zzD l.length w) (catN w l*2 ^ (8*zzD l.length w - l.length*w))
theorem xxl (w:Nat) (l:List Nat):(pack w l).length=zzD l.length w:=zzY _ _
theorem yyr {s at_ V:Nat} (h:at_<8*s):V*2 ^ (8*s - at_) / 256 ^ (s - 1 - at_ / 8) % 256 % 2 ^ (8 - at_ % 8)=0:=by
 have e:8*s - at_=8*(s - 1 - at_ / 8)+(8 - at_ % 8):=by omega
 have h256:(256:Nat) ^ (s - 1 - at_ / 8)=2 ^ (8*(s - 1 - at_ / 8)):=by rw [Nat.pow_mul]
 rw [e,Nat.pow_add,h256,show V*(2 ^ (8*(s - 1 - at_ / 8))*2 ^ (8 - at_ % 8))=V*2 ^ (8 - at_ % 8)*2 ^ (8*(s - 1 - at_ / 8)) by ac_rfl,Nat.mul_div_cancel _ (Nat.pow_pos (by decide))]
 have:(2 ^ (8 - at_ % 8))∣256:=by
  have:(256:Nat)=2 ^ (8 - at_ % 8)*2 ^ (at_ % 8):=by rw [<-Nat.pow_add,show 8 - at_ % 8+at_ % 8=8 by omega]
  exact⟨_,this⟩
 rw [Nat.mod_mod_of_dvd _ this,Nat.mul_mod_left]
theorem kqz {B c r:Nat} (hB:B<256) (hf:B % 2 ^ r=0) (hr:r<=8) (hc:c<2 ^ r):B+c<256:=by
 have h256:(256:Nat)=2 ^ r*2 ^ (8 - r):=by rw [<-Nat.pow_add,show r+(8 - r)=8 by omega]
 obtain⟨q,hq⟩:=Nat.dvd_of_mod_eq_zero hf
 rw [hq,h256] at hB
 have hq2:q<2 ^ (8 - r):=Nat.lt_of_mul_lt_mul_left hB
 have:2 ^ r*(q+1)<=2 ^ r*2 ^ (8 - r):=Nat.mul_le_mul_left _ hq2
 rw [<-h256,Nat.mul_add,Nat.mul_one,<-hq] at this
 omega
theorem qxu {B c r:Nat} (hf:B % 2 ^ r=0) (hc:c<2 ^ r):B ||| c=B+c:=by
 obtain⟨q,rfl⟩:=Nat.dvd_of_mod_eq_zero hf
 exact (Nat.two_pow_add_eq_or_of_lt hc q).symm
theorem xxm (k:Nat):(256:Nat) ^ k=2 ^ (8*k):=by rw [Nat.pow_mul]
theorem jjb {s at_ V c n:Nat} (h:at_<8*s) (hn:n<=8 - at_ % 8) (hc:c<2 ^ n) :
 (be s (V*2 ^ (8*s - at_))).set (at_ / 8) (UInt8.ofNat (V*2 ^ (8*s - at_) / 256 ^ (s - 1 - at_ / 8) % 256+c*2 ^ (8 - at_ % 8 - n)))=be s ((V*2 ^ n+c)*2 ^ (8*s - (at_+n))):=by
 have hf:=yyr (V:=V) h
 have hb:c*2 ^ (8 - at_ % 8 - n)<2 ^ (8 - at_ % 8):=by
  have:=Nat.mul_lt_mul_of_pos_right hc (Nat.pow_pos (n:=8 - at_ % 8 - n) (show 0<2 by decide))
  rwa [<-Nat.pow_add,show n+(8 - at_ % 8 - n)=8 - at_ % 8 by omega] at this
 have hlt:=kqz (Nat.mod_lt _ (by decide)) hf (by omega) hb
 rw [qxe _ _ _ _ (by omega) hlt,xxm,Nat.add_mul,Nat.mul_assoc,Nat.mul_assoc,<-Nat.pow_add,<-Nat.pow_add]
 congr 2
 · congr 2;omega
 · congr 2;omega
theorem qz6 {s at_ V c n:Nat} (h:at_+n<=8*s) (hn:8 - at_ % 8<n) (hn8:n<=8) (hc:c<2 ^ n) :
 ((be s (V*2 ^ (8*s - at_))).set (at_ / 8) (UInt8.ofNat (V*2 ^ (8*s - at_) / 256 ^ (s - 1 - at_ / 8) % 256+c / 2 ^ (n - (8 - at_ % 8))))).set (at_ / 8+1) (UInt8.ofNat (c*2 ^ (16 - at_ % 8 - n) % 256))=be s ((V*2 ^ n+c)*2 ^ (8*s - (at_+n))):=by
 have hr:at_ % 8<8:=Nat.mod_lt _ (by decide)
 obtain⟨r,hre⟩:∃ r,r=8 - at_ % 8:=⟨_,rfl⟩
 obtain⟨m,hm⟩:∃ m,n=r+m:=⟨n - r,by omega⟩
 have h1:=jjb (V:=V) (c:=c / 2 ^ m) (n:=r) (s:=s) (at_:=at_) (by omega) (by omega) (by
  rw [Nat.div_lt_iff_lt_mul (Nat.pow_pos (by decide)),<-Nat.pow_add,<-hm];exact hc)
 rw [show 8 - at_ % 8 - r=0 by omega,Nat.pow_zero,Nat.mul_one] at h1
 rw [show n - (8 - at_ % 8)=m by omega,h1]
 have h2:=jjb (V:=V*2 ^ r+c / 2 ^ m) (c:=c % 2 ^ m) (n:=m) (s:=s) (at_:=at_+r) (by omega) (by omega) (Nat.mod_lt _ (Nat.pow_pos (by decide)))
 rw [show (at_+r) / 8=at_ / 8+1 by omega,show (at_+r) % 8=0 by omega] at h2
 have hz:(V*2 ^ r+c / 2 ^ m)*2 ^ (8*s - (at_+r)) / 256 ^ (s - 1 - (at_ / 8+1)) % 256=0:=by
  have:=yyr (V:=V*2 ^ r+c / 2 ^ m) (s:=s) (at_:=at_+r) (by omega)
  rw [show (at_+r) / 8=at_ / 8+1 by omega,show (at_+r) % 8=0 by omega,Nat.mod_eq_of_lt (Nat.mod_lt _ (by decide))] at this
  exact this
 rw [hz,Nat.zero_add] at h2
 have h3:c*2 ^ (16 - at_ % 8 - n) % 256=c % 2 ^ m*2 ^ (8 - 0 - m):=by
  rw [show 16 - at_ % 8 - n=8 - m by omega,show (256:Nat)=2 ^ m*2 ^ (8 - m) by rw [<-Nat.pow_add,show m+(8 - m)=8 by omega],Nat.mul_mod_mul_right]
 rw [h3,h2]
 congr 1
 rw [show at_+r+m=at_+n by omega,hm,Nat.pow_add,Nat.add_mul (V*2 ^ r),Nat.add_assoc,Nat.mul_assoc V,Nat.mul_comm (c / 2 ^ m),Nat.div_add_mod]
end
section
open Go Go.RowKit
def bv (b:UInt8):Value:=.int .u8 (b.toNat:Int)
def bvs (l:List UInt8):List Value:=l.map bv
theorem zzs (l:List UInt8):(bvs l).length=l.length:=by simp [bvs]
theorem uuE (l:List UInt8):∀ u∈bvs l,u.oneCell'=true:=by
 intro u hu
 simp only [bvs,List.mem_map] at hu
 obtain⟨b,_,rfl⟩:=hu
 rfl
theorem vvd (l m:List UInt8):bvs (l++m)=bvs l++bvs m:=by simp [bvs]
theorem yyN (l:List UInt8) (j:Nat) (h:j<l.length):(bvs l)[j]?=some (.int .u8 ((l[j]'h).toNat:Int)):=by simp [bvs,bv,h]
theorem xxE (l:List UInt8):(l.map fun b=>[bv b]).flatten=bvs l:=by
 induction l with
 | nil=>rfl
 | cons b l ih=>simp only [List.map_cons,List.flatten_cons,ih,bvs];rfl
theorem kqF (F:Nat->Prop) (w:World) (l:List UInt8):Reps tU8 F w (l.map fun b=>[bv b]) l:=by
 refine⟨by simp,fun i cs x h1 h2=>?_⟩
 rw [List.getElem?_map,h2] at h1
 simp at h1
 exact h1.symm
theorem yy8 {F:Nat->Prop} {w:World} {css:List (List Value)} {l:List UInt8} (h:Reps tU8 F w css l):css=l.map fun b=>[bv b]:=by
 refine List.ext_getElem? fun i=>?_
 rcases Nat.lt_or_ge i l.length with hi | hi
 · have hc:i<css.length:=by rw [h.1];exact hi
   have:=h.2 i _ _ (List.getElem?_eq_getElem hc) (List.getElem?_eq_getElem hi)
   rw [List.getElem?_eq_getElem hc,List.getElem?_map,List.getElem?_eq_getElem hi,show css[i]=[bv l[i]] from this]
   rfl
 · rw [List.getElem?_eq_none (by rw [h.1];exact hi),List.getElem?_eq_none (by simpa using hi)]
theorem xxo:(Tryz.prog.info? 5).map (fun i=>(i.zero,i.size,i.bytes))=some (some (.int .u8 0),1,1):=by kernel_rfl
theorem zzF:zzL Tryz.prog 41 5 1:=zzL.mk' (by kernel_rfl) xxo rfl (by decide) (by decide)
theorem zzG:Tryz.prog.underlying 41=some (.slice 5):=by kernel_rfl
theorem qx9:Tryz.prog.underlying 3=some (.int .i64):=by kernel_rfl
abbrev Bs (F:Nat->Prop) (w:World) (A:Option Addr) (n c:Nat) (bs:List UInt8):Prop:=Sl tU8 F w A n c bs
section
variable {F F':Nat->Prop} {w w':World} {A:Option Addr} {n c B:Nat} {l:List UInt8}
theorem kqG (h:Bs F w A n c l):Rd F w A (bvs l):=by
 obtain⟨_,_,_,css,h4,h5⟩:=h
 rw [yy8 h5,xxE] at h4
 exact h4
theorem zqa (h1:Rd F w A (bvs l)) (h2:n=l.length) (h3:n<=c) (h4:c<=maxLen):Bs F w A n c l:=⟨h2,h3,h4,_,by rw [xxE];exact h1,kqF F w l⟩
theorem uuF (h:Bs F w A n c l) {k:Nat} (hk:k<l.length):∃ b o,A=some ⟨b,o,none⟩/\F b/\b<w.heap.size/\w.cell? ⟨b,o+k,none⟩=some (.int .u8 ((l[k]'hk).toNat:Int)) :=
 (kqG h).at_ (yyN l k hk)
def OwnB (w:World) (B:Nat) (A:Option Addr) (n c:Nat) (bs:List UInt8):Prop:=w.ownsRow B 5 1 (.slice A n c) n (bvs bs)
theorem OwnB.len (h:OwnB w B A n c l):n=l.length:=by
 have:=h.1;simp [bvs] at this;exact this.symm
theorem OwnB.nil_ (w:World) (B:Nat):OwnB w B none 0 0 []:=World.ownsRow_nil w B _ _
theorem OwnB.down (h:OwnB w B A n c l) {B':Nat} (hB:B'<=B):OwnB w B' A n c l:=yyS h hB
theorem OwnB.rd (h:OwnB w B A n c l):Rd (fun b=>A=some ⟨b,0,none⟩/\B<=b) w A (bvs l):=Rd.own h
theorem OwnB.bs (h:OwnB w B A n c l):Bs (fun b=>A=some ⟨b,0,none⟩/\B<=b) w A n c l:=zqa h.rd h.len (yyq h).1 (yyq h).2
theorem OwnB.ownF (h:OwnB w B A n c l) (hA:∀ b o,A=some ⟨b,o,none⟩->¬ F b):OwnF tU8 5 F w B A n c l:=⟨⟨_,by rw [xxE];exact h,kqF _ w l⟩,hA,h.len⟩
theorem OwnB.own (h:OwnB w B A n c l):OwnF tU8 5 (fun _=>False) w B A n c l:=h.ownF (by simp)
theorem OwnB.keepB (h:OwnB w B A n c l) (hb:Below w.heap.size w w'):OwnB w' B A n c l:=zzC h fun b hb'=>hb.block b (h.lt b hb').2
end
theorem zz7 {w:World} {B:Nat} {A:Option Addr} {n c:Nat} {l:List UInt8} (h:Own tU8 5 w B A n c l):OwnB w B A n c l:=by
 obtain⟨F,⟨css,h1,h3⟩,_,_⟩:=h
 rw [yy8 h3,xxE] at h1
 exact h1
def vvA (w:World) (s:ByteArray):Nat:=grownCap w s.size 0 5
def yyX (w:World) (s:ByteArray):Obj:=.cells (bytesRow s (vvA w s)) 5 ((bytesRow s (vvA w s)).size,(bytesRow s (vvA w s)).size+1)
theorem xxF:Tryz.prog.underlying 9=some .string:=by kernel_rfl
theorem uuG:Tryz.prog.underlying 5=some (.int .u8):=by kernel_rfl
theorem qxf (w:World) (s:ByteArray):(convert 9 41 (.string s)).run Tryz.prog w=.ok (.slice (some ⟨w.heap.size,0,none⟩) s.size (vvA w s)) (w.alloc (yyX w s)).drew :=
 run_bytes_of_string w 9 41 5 s xxF zzG uuG
theorem qxg (w:World) (s:ByteArray) (hs:s.size<=maxLen):s.size<=vvA w s/\vvA w s<=maxLen:=⟨grownCap_ge w s.size 0 5,grownCap_le_maxLen w _ _ _ hs⟩
theorem xqa {w w0:World} {s:ByteArray} (hs:s.size<=maxLen):Bs (fun b=>b=w.heap.size) (w.alloc (yyX w0 s)) (some ⟨w.heap.size,0,none⟩) s.size (vvA w0 s) s.data.toList:=by
 refine zqa (fun _=>⟨w.heap.size,0,rfl,rfl,by rw [zS];omega,fun j u hu=>?_⟩) (show s.data.size=s.data.toList.length from Array.length_toList.symm) (qxg w0 s hs).1 (qxg w0 s hs).2
 have hj:j<s.data.size:=by
  rcases Nat.lt_or_ge j s.data.size with h | h
  · exact h
  · rw [List.getElem?_eq_none (by simpa [bvs] using h)] at hu;cases hu
 rw [yyN _ _ (by simpa using hj)] at hu
 rw [Nat.zero_add,cell_of_row (w.alloc (yyX w0 s)) w.heap.size j _ _ _ (heap_alloc_new w _),<-hu]
 unfold bytesRow
 rw [Array.getElem?_append_left (by simpa using hj),Array.getElem?_map,Array.getElem?_eq_getElem hj]
 simp
section
variable (w a0:World) {ops:Array Oper} {rest:List Oper} {o:Oper} {a:Act} {Q:Exit->Act->World->Prop}
theorem qxh {K:Act->World->Prop} (s x:Operand) (ho:o.op=.call { callee:=.builtin .append,args:=#[s,x],argTypes:=#[41,41] }) (B:Nat) (A:Option Addr) (n c:Nat) (xs:List UInt8) (hs:a.eval s=.slice A n c)
 (hown:OwnB w B A n c xs) (hb:Below B a0 w) (hB:B<=a0.heap.size) (F:Nat->Prop) (A2:Option Addr) (m c2:Nat) (ys:List UInt8) (hx:a.eval x=.slice A2 m c2) (hsl:Bs F w A2 m c2 ys) (hlim:n+m<=68719476736)
 (h:∀ A' c' w',OwnB w' B A' (n+m) c' (xs++ys)->Below B a0 w'->w.grownBy w' (A.map (·.block))->K (a.put o.dst (.slice A' (n+m) c')) w'):o.wp Tryz.prog a w K Q:=by
 obtain⟨h5,h6,h7,dss,h8,h9⟩:=hsl
 exact vvv (T:=tU8) zzF w a0 s x ho B A n c xs hs (fun _=>False) F (fun _=>False) hown.own hb hB A2 m c2 ys dss hx h5 h8 (h9.flat' qxd) (fun _ _ _ _ h=>h) hlim fun A' c' w' ha=>h A' c' w' (zz7 ⟨_,ha.own⟩) ha.below ha.grown
theorem apb (hgd:o.guard=none) (s x:Operand) (ho:o.op=.call { callee:=.builtin .append,args:=#[s,x],argTypes:=#[41,41] }) (B:Nat) (A:Option Addr) (n c:Nat) (xs:List UInt8) (hs:a.eval s=.slice A n c)
 (hown:OwnB w B A n c xs) (hb:Below B a0 w) (hB:B<=a0.heap.size) (F:Nat->Prop) (A2:Option Addr) (m c2:Nat) (ys:List UInt8) (hx:a.eval x=.slice A2 m c2) (hsl:Bs F w A2 m c2 ys) (hlim:n+m<=68719476736)
 (h:∀ A' c' w',OwnB w' B A' (n+m) c' (xs++ys)->Below B a0 w'->w.grownBy w' (A.map (·.block))->wpList Tryz.prog ops Q rest (a.put o.dst (.slice A' (n+m) c')) w'):wpList Tryz.prog ops Q (o::rest) a w :=
 wpList_plain hgd fun _ hK=>qxh w a0 s x ho B A n c xs hs hown hb hB F A2 m c2 ys hx hsl hlim fun A' c' w' h1 h2 h3=>hK _ _ (h A' c' w' h1 h2 h3)
theorem qxA {K:Act->World->Prop} (s x:Operand) (ho:o.op=.call { callee:=.builtin .append,args:=#[s,x],argTypes:=#[41,41] }) (B:Nat) (A:Option Addr) (n c:Nat) (xs:List UInt8) (hs:a.eval s=.slice A n c)
 (hown:OwnB w B A n c xs) (hb:Below B a0 w) (hB:B<=a0.heap.size) (obj:Obj) (hx:a.eval x=.slice (some ⟨w.heap.size,0,none⟩) 1 1) (y:UInt8) (hobj:obj=.cells #[.int .u8 (y.toNat:Int)] 5) (hlim:n<=34359738368)
 (h:∀ A' c' w',OwnB w' B A' (n+1) c' (xs++[y])->Below B a0 w'->(w.alloc obj).grownBy w' (A.map (·.block))->K (a.put o.dst (.slice A' (n+1) c')) w'):o.wp Tryz.prog a (w.alloc obj) K Q :=
 uuC (T:=tU8) zzF w a0 s x ho B A n c xs hs (fun _=>False) (fun _=>False) hown.own hb hB obj hx [.int .u8 (y.toNat:Int)] y rfl 5 hobj (fun _ _ _ _ h=>h) hlim fun A' c' w' ha=>h A' c' w' (zz7 ⟨_,ha.own⟩) ha.below ha.grown
theorem apb1 (hgd:o.guard=none) (s x:Operand) (ho:o.op=.call { callee:=.builtin .append,args:=#[s,x],argTypes:=#[41,41] }) (B:Nat) (A:Option Addr) (n c:Nat) (xs:List UInt8) (hs:a.eval s=.slice A n c)
 (hown:OwnB w B A n c xs) (hb:Below B a0 w) (hB:B<=a0.heap.size) (obj:Obj) (hx:a.eval x=.slice (some ⟨w.heap.size,0,none⟩) 1 1) (y:UInt8) (hobj:obj=.cells #[.int .u8 (y.toNat:Int)] 5) (hlim:n<=34359738368)
 (h:∀ A' c' w',OwnB w' B A' (n+1) c' (xs++[y])->Below B a0 w'->(w.alloc obj).grownBy w' (A.map (·.block))->wpList Tryz.prog ops Q rest (a.put o.dst (.slice A' (n+1) c')) w'):wpList Tryz.prog ops Q (o::rest) a (w.alloc obj) :=
 wpList_plain hgd fun _ hK=>qxA w a0 s x ho B A n c xs hs hown hb hB obj hx y hobj hlim fun A' c' w' h1 h2 h3=>hK _ _ (h A' c' w' h1 h2 h3)
end
def Own1 (w:World) (bs:List UInt8) (e:Ending) (w':World):Prop :=
 ∃ A n c,e=.returned (.slice A n c)/\OwnB w' w.heap.size A n c bs/\Below w.heap.size w w'
end
section
open Go Go.RowKit
theorem xxG {P:Program} {t tn e:TypeId} {size:Nat} (E:zzL P t e size) (htn:P.underlying tn=some (.int .i64)) (ty:TypeId) (w:World) (k:Nat) (h0:0<k) (hk:k<=4294967296) :
 ∃ cap w',(Builtin.append_ #[t,tn] ty #[.slice none 0 0,.int .i64 (k:Int)]).run P w=.ok (.slice (some ⟨w.heap.size,0,none⟩) k cap) w'/\k<=cap/\w'.ownsRow w.heap.size e size (.slice (some ⟨w.heap.size,0,none⟩) 0 cap) 0 []/\Below w.heap.size w w':=by
 obtain⟨ht,i,z,hi,hz,hs,hby,hzs,hsz⟩:=E
 have hcap:∀ w:World,k<=grownCap w (0+k) 0 e/\grownCap w (0+k) 0 e<=maxLen:=fun w=>by
  have h1:=grownCap_ge w (0+k) 0 e
  exact⟨by omega,grownCap_le_maxLen w _ _ e (by simp only [maxLen];omega)⟩
 have hb:k*i.bytes<=4294967296*1024:=Nat.mul_le_mul hk hby
 have hfit:Builtin.nextslicecap (0+k) 0*i.bytes<=281474976710656:=by
  have h1:0<0+k:=by omega
  exact growslice_fits h1 (by rw [Nat.zero_add];omega)
 have h:=Lib.run_append_grow_zeros (P:=P) w t tn ty e i z .i64 .i64 ht htn hi hz none 0 0 [] (by simp [Builtin.firstCells]) k h0 (by omega) (by omega) (by omega) (by omega) hfit
 simp only [Nat.zero_add] at h hcap
 have hc:=hcap w
 refine⟨grownCap w k 0 e,_,h,hc.1,⟨by simp,.inr ⟨w.heap.size,_,_,rfl,Nat.le_refl _,heap_alloc_new w.drew _,Nat.zero_le _,hc.2,?_,by simp⟩⟩,((Below.refl _ w).drew).alloc (by simp) _⟩
 have hz':∀ m,(Builtin.zeroCells z.cells m).size=m*size:=fun m=>by simp [Builtin.zeroCells,hzs]
 simp only [Array.size_append,hz']
 rw [show (([]:List Value).toArray).size=0 from rfl,Nat.zero_add,<-Nat.add_mul]
 congr 1
 omega
theorem kqH {size:Nat} (E:zzL Tryz.prog 41 5 size) (n:Nat) (w:World) (hn:n<=4294967296) :
 Calls Tryz.prog 270 #[.slice none 0 0,.int .i64 (n:Int)] w fun e w'=>∃ A c,e=.returned (.slice A 0 c)/\w'.ownsRow w.heap.size 5 size (.slice A 0 c) 0 []/\Below w.heap.size w w':=by
 rcases Nat.eq_zero_or_pos n with rfl | h0
 · go_enter Tryz.func270,Tryz.ntmps270
   go_wp2
   go_ret
   exact⟨none,0,rfl,World.ownsRow_nil _ _ _ _,zR⟩
 · obtain⟨cap,w',hrun,hc,hown,hb⟩:=xxG E qx9 41 w n h0 hn
   have h0':(0:Int)<(n:Int):=by omega
   have hcap:=(yyq hown).2
   unfold maxLen at hcap
   go_enter Tryz.func270,Tryz.ntmps270
   go_wp2_with (at_builtin;refine Lib.wpList_append_run _ rfl _ _ _ _ rfl _ _ rfl rfl _ _ hrun ?_)
   go_ret
   exact⟨_,cap,rfl,hown,hb⟩
def totB {α:Type} (l:List (List α)) (k:Nat):Nat:=(l.take k).flatten.length
theorem vvX {α:Type} (l:List (List α)) (k:Nat) (h:k<l.length):totB l (k+1)=totB l k+(l[k]'h).length:=by
 unfold totB
 rw [zT h,List.flatten_append]
 simp only [List.length_append,List.flatten_cons,List.flatten_nil,List.append_nil]
theorem kqI {α:Type} (l:List (List α)):totB l 0=0:=by simp [totB]
theorem qxB {α:Type} (l:List (List α)) (k:Nat):totB l k<=l.flatten.length:=by
 unfold totB
 rw [show l.flatten=(l.take k).flatten++(l.drop k).flatten by rw [<-List.flatten_append,List.take_append_drop]]
 simp
theorem yyk {α:Type} {T:Ty α} (E:zzL Tryz.prog 41 5 T.size) (F:Nat->Prop) (A:Option Addr) (n c:Nat) (l:List (List α)) (w:World) (h:Sl (tSl T) F w A n c l) (hn:n<=4294967296) (hl:l.flatten.length<=4294967296) :
 Calls Tryz.prog 224 #[.slice A n c] w fun e w'=>∃ A' n' c',e=.returned (.slice A' n' c')/\Own T 5 w' w.heap.size A' n' c' l.flatten/\Below w.heap.size w w':=by
 have HL:=zH h.len
 have hle:=qxB l
 go_enter Tryz.func224,Tryz.ntmps224
 go_wp2
 go_loop [3,11] (fun s i=>∃ k:Nat,k<=n/\i=.int .i64 k/\s=.int .i64 (totB l k:Nat)) (fun _ i=>n - (intOf i).toNat)
 case atStart=>exact⟨0,Nat.zero_le _,rfl,rfl⟩
 case round =>
  obtain⟨k,hk,rfl,rfl⟩:=hrel
  have h1:=hle k
  by_cases hlt:k<n
  · have h2:=hle (k+1)
    have hkl:k<l.length:=by rw [<-HL.out];exact hlt
    have H3:=zH (vvX l k hkl)
    obtain⟨b,o,u,rfl,_,_,hu,hc⟩:=h.at1 hkl rfl
    obtain⟨Ak,nk,ck,hu,hsl⟩:=hu
    obtain rfl:u=.slice Ak nk ck:=by simpa using hu
    have H4:=zH hsl.len
    have h5:totB l k+nk=totB l (k+1):=by rw [H3.out,H4.out]
    have h6:totB l k+nk<=l.flatten.length:=by rw [h5];exact h2
    have H5:=zH h5;clear h5 hu
    go_wp2
    go_round
    case rel=>exact⟨k+1,by omega,by go_num,by rw [<-H5.out];go_num⟩
    case measure=>simp [intOf];omega
  · obtain rfl:k=n:=by omega
    have hF:∃ F',Sl (tSl T) F' w A k c l/\∀ b,F' b->b<w.heap.size:=⟨_,h.weaken (F':=fun b=>F b/\b<w.heap.size) (fun b h1 h2=>⟨h1,h2⟩),fun b h=>h.2⟩
    obtain⟨F',h',hF'⟩:=hF
    clear h
    have hz:=kqI l
    have HZ:=zH hz;clear hz
    go_wp2_with (go_at_call 270;refine (kqH E (totB l k) w (by omega)).mono ?_;rintro e w1 ⟨A1,c1,rfl,hown,hb⟩)
    go_loopw [6,27] (fun v i wr=>∃ (j:Nat) (A2:Option Addr) (m c2:Nat) (G:Nat->Prop),j<=k/\i=.int .i64 j/\v=.slice A2 m c2/\OwnF T 5 G wr w.heap.size A2 m c2 (l.take j).flatten/\Below w.heap.size w wr) (fun _ i _=>k - (intOf i).toNat)
    case atStart=>exact⟨0,A1,0,c1,fun _=>False,Nat.zero_le _,rfl,rfl,⟨⟨[],hown,Reps.nil_⟩,fun _ _ _ h=>h,rfl⟩,hb⟩
    case round =>
     obtain⟨j,A2,m,c2,G,hj,rfl,rfl,hown2,hb2⟩:=hrel
     have hj1:=hle j
     by_cases hlt2:j<k
     · have hj2:=hle (j+1)
       have hkl:j<l.length:=by rw [<-HL.out];exact hlt2
       have H3:=zH (vvX l j hkl)
       have hwr:=h'.below hb2 zN
       obtain⟨b,o,u,rfl,hFb,_,hu,hc⟩:=hwr.at1 hkl rfl
       obtain⟨Ak,nk,ck,hu,hsl⟩:=hu
       obtain rfl:u=.slice Ak nk ck:=by simpa using hu
       clear hu hwr
       have h6:m+nk<=4294967296:=by rw [hown2.len,hsl.len];have:=H3.out;unfold totB at *;omega
       have H7:=zH hown2;have H8:=zH hsl
       clear hown2 hsl
       go_wp2_with (at_builtin;refine apl E wr w rfl (.tmp 31) (.tmp 32) rfl w.heap.size A2 m c2 (l.take j).flatten rfl G F' H7.out hb2 zN Ak nk ck l[j] rfl H8.out (fun b _ h1 _ h2=>by have:=hF' b h2;omega) (by omega) ?_;intro A3 c3 w3 h3)
       go_roundw
       case rel =>
        have e1:(l.take (j+1)).flatten=(l.take j).flatten++l[j]:=by
         rw [zT hkl,List.flatten_append];simp
        have e2:=h3.own
        rw [<-e1] at e2
        exact⟨j+1,A3,m+nk,c3,_,by omega,by go_num,rfl,e2,h3.below⟩
       case measure=>simp [intOf];omega
     · obtain rfl:j=k:=by omega
       go_wp2
       go_ret
       refine⟨A2,m,c2,rfl,⟨G,?_⟩,hb2⟩
       have e1:l.take j=l:=zL (by rw [<-HL.out];exact Nat.le_refl _)
       rw [e1] at hown2
       exact hown2
end
section
open Go Go.RowKit
theorem uuH (x:Int) (w:World) (h0 : -9223372036854775808<=x) (h1:x<=9223372036854775807) :
 Calls Tryz.prog 179 #[.int .i64 x] w fun e w'=>e=.returned (.int .u64 (zigN x:Nat))/\w=w':=by
 have H:=zH (qz2 x h0 h1)
 go_enter Tryz.func179,Tryz.ntmps179
 go_wp2
 go_ret
 exact⟨qxq H.out,rfl⟩
theorem kqJ (x:Nat):bits BinOp.or IntKind.u8 ((x:Int) % 256) 128=((UInt8.ofNat (x % 128+128)).toNat:Int):=by
 rw [show (x:Int) % 256=((x % 256:Nat):Int) by omega,qz3 _ (by omega),UInt8.toNat_ofNat']
 congr 1
 omega
theorem kqK (x:Nat):IntKind.u8.wrap (x:Int)=((UInt8.ofNat x).toNat:Int):=by
 rw [IntKind.wrap_u8,UInt8.toNat_ofNat']
 omega
theorem jjf (F:Nat->Prop) (A:Option Addr) (n c:Nat) (bs:List UInt8) (x:Nat) (w:World) (h:Bs F w A n c bs) (hn:n<=4294967200) (hx:x<18446744073709551616) :
 Calls Tryz.prog 180 #[.slice A n c,.int .u64 (x:Int)] w (Own1 w (bs++vput x)):=by
 go_enter Tryz.func180,Tryz.ntmps180
 go_wp2
 go_loopw [5,1] (fun v xv wr=>∃ (f x':Nat) (L:List UInt8) (A2:Option Addr) (m c2:Nat),m+f<=9/\xv=.int .u64 (x':Int)/\v=.slice A2 m c2/\OwnB wr w.heap.size A2 m c2 L/\L++vvw f x'=vput x/\x'<128 ^ (f+1)/\x'<18446744073709551616/\Below w.heap.size w wr)
  (fun _ xv _=>(intOf xv).toNat)
 case atStart=>exact⟨9,x,[],none,0,0,by omega,rfl,rfl,OwnB.nil_ _ _,rfl,by omega,hx,zR⟩
 case round =>
  obtain⟨f,x',L,A2,m,c2,hm,rfl,rfl,hown,heq,hlt,hlt2,hb⟩:=hrel
  have HE:=zH heq;have HO:=zH hown;have HL:=zH hlt
  clear heq hown hlt
  have hsz:=hb.size
  by_cases hx':x'<128
  · have hlast:=kqK x'
    rw [IntKind.wrap_u8,show (x':Int) % 256=(x':Int) by omega] at hlast
    have s1:=(HO.out.bs.any).alloc (.cells #[.int .u8 (x':Int)] 5)
    have s2:=((h.any).below hb zN).alloc (.cells #[.int .u8 (x':Int)] 5)
    have s3:Sl tU8 (fun _=>True) (wr.alloc (.cells #[.int .u8 (x':Int)] 5)) (some ⟨wr.heap.size,0,none⟩) 1 1 [UInt8.ofNat x'] :=
     (Sl.new (T:=tU8) (F:=fun _=>True) (cs:=[.int .u8 (x':Int)]) (by rw [hlast];rfl) 5 _ rfl).any
    have hs:=sl3 s2 s1 s3 41
    rw [zS] at hs
    have HS:=zH hs;clear hs
    have HB:=zH ((hb.alloc hsz (.cells #[.int .u8 (x':Int)] 5)).alloc (by simp;omega) (.cells #[.slice A n c,.slice A2 m c2,.slice (some ⟨wr.heap.size,0,none⟩) 1 1] 41))
    have hnl:=h.len
    have hml:=HO.out.len
    have HN:=zH (show [bs,L,[UInt8.ofNat x']].flatten.length<=4294967296 by simp;omega)
    clear s1 s2 s3 hlast hnl hml
    go_wp2_with (go_at_call 224;refine (yyk (T:=tU8) zzF (fun _=>True) _ _ _ [bs,L,[UInt8.ofNat x']] _ HS.out (by omega) HN.out).mono ?_;rintro e w1 ⟨A1,n1,c1,rfl,hown1,hb1⟩)
    go_ret
    refine⟨A1,n1,c1,rfl,?_,HB.out.trans (hb1.mono (by simp;omega))⟩
    have hfin:[bs,L,[UInt8.ofNat x']].flatten=bs++vput x:=by
     rw [<-HE.out]
     cases f <;> simp [vvw,hx']
    rw [hfin] at hown1
    exact zz7 (hown1.down (by simp;omega))
  · have HM:=zH (kqJ x')
    go_wp2_with (at_builtin;refine apb1 wr w rfl (.tmp 10) (.tmp 14) rfl w.heap.size A2 m c2 L rfl HO.out hb zN _ rfl (UInt8.ofNat (x' % 128+128)) (by rw [<-HM.out]) (by omega) ?_;intro A3 c3 w3 h3 hb3 _)
    go_roundw
    case rel =>
     obtain⟨f,rfl⟩:∃ f',f=f'+1:=by
      cases f with
      | zero=>have:=HL.out;omega
      | succ f=>exact⟨f,rfl⟩
     have hlt:=HL.out
     refine⟨f,x' / 128,L++[UInt8.ofNat (x' % 128+128)],A3,m+1,c3,by omega,by go_num,rfl,h3,?_,?_,by omega,hb3⟩
     · rw [<-HE.out]
       simp [vvw,hx']
     · rw [Nat.pow_succ] at hlt;exact Nat.div_lt_of_lt_mul (by omega)
    case measure=>simp [intOf];omega
end
section
abbrev U64 (x:Nat):Prop:=x<18446744073709551616
def wOf (c:Int):Int:=if c<0∨31<c then 0 else if c<24 then c+1 else if c<28 then 24+2*(c - 23) else 32+8*(c - 27)
def zzZ (w:Int):Int:=if 1<=w/\w<=24 then w - 1 else if w=26 then 24 else if w=28 then 25 else if w=30 then 26 else if w=32 then 27 else if w=40 then 28 else if w=48 then 29 else if w=56 then 30 else if w=64 then 31 else -1
def zzv (b:Int):Int:=if b<=24 then max 1 b else if b<=26 then 26 else if b<=28 then 28 else if b<=30 then 30 else if b<=32 then 32 else if b<=40 then 40 else if b<=48 then 48 else if b<=56 then 56 else if b<=64 then 64 else 0
theorem vvY (c:Int):0<=wOf c/\wOf c<=64:=by unfold wOf;(repeat' split) <;> omega
theorem xxH (w:Int) : -1<=zzZ w/\zzZ w<=31:=by unfold zzZ;(repeat' split) <;> omega
theorem xxh (b:Int):0<=zzv b/\zzv b<=64:=by unfold zzv;(repeat' split) <;> omega
theorem kqL {b:Int} (h:b<=64):b<=zzv b/\1<=zzv b:=by unfold zzv;(repeat' split) <;> omega
theorem uuI {b:Int} (h:b<=64):0<=zzZ (zzv b)/\wOf (zzZ (zzv b))=zzv b:=by
 unfold zzv
 (repeat' split) <;> first
   | omega
   | decide
   | (have h1:zzZ (max 1 b)=max 1 b - 1:=by unfold zzZ;rw [if_pos (by omega)]
      rw [h1];constructor
      · omega
      · unfold wOf;rw [if_neg (by omega),if_pos (by omega)];omega)
theorem zqb {c:Int} (h0:0<=c) (h1:c<=31):zzZ (wOf c)=c:=by
 have e:∀ k:Fin 32,zzZ (wOf (k.val:Nat))=(k.val:Nat):=by decide
 have:=e ⟨c.toNat,by omega⟩
 rwa [show ((c.toNat:Nat):Int)=c by omega] at this
theorem zqc {c d:Int} (h0:0<=c) (h:c<d) (h1:d<=31):wOf c<wOf d:=by unfold wOf;(repeat' split) <;> omega
abbrev bl (x:Nat):Nat:=Lib.bitLen x
theorem xx6 {x:Nat} (h:U64 x):x<2 ^ bl x:=by
 by_cases h0:x=0
 · subst h0;decide
 · exact (Lib.bitLenAux_bounds 64 x h h0).2.2
theorem xqb {x k:Nat} (hk:k<=64) (h:x<2 ^ k):bl x<=k:=Lib.bitLen_le x k hk h
theorem yyd {x:Nat} (h:U64 x):bl x<=64:=xqb zN h
theorem xxI {x k:Nat} (h:U64 x) (hk:k<=64):bl x<=k↔x<2 ^ k :=
 ⟨fun hb=>Nat.lt_of_lt_of_le (xx6 h) (Nat.pow_le_pow_right (by decide) hb),xqb hk⟩
theorem qxi {a b:Nat} (ha:U64 a) (hb:U64 b):U64 (a ||| b):=Nat.or_lt_two_pow (n:=64) ha hb
theorem bl_or {a b:Nat} (ha:U64 a) (hb:U64 b):bl (a ||| b)=max (bl a) (bl b):=by
 have ho:=qxi ha hb
 have h1:=yyd ha
 have h2:=yyd hb
 have h3:=yyd ho
 have le1:bl (a ||| b)<=max (bl a) (bl b):=by
  rw [xxI ho (by omega)]
  exact Nat.or_lt_two_pow (Nat.lt_of_lt_of_le (xx6 ha) (Nat.pow_le_pow_right (by decide) (by omega))) (Nat.lt_of_lt_of_le (xx6 hb) (Nat.pow_le_pow_right (by decide) (by omega)))
 have le2:bl a<=bl (a ||| b):=by
  rw [xxI ha h3]
  exact Nat.lt_of_le_of_lt Nat.left_le_or (xx6 ho)
 have le3:bl b<=bl (a ||| b):=by
  rw [xxI hb h3]
  exact Nat.lt_of_le_of_lt Nat.right_le_or (xx6 ho)
 omega
def most (l:List Nat):Nat:=l.foldl (fun n x=>max n (bl x)) 0
theorem vvZ (l:List Nat) (x:Nat):most (l++[x])=max (most l) (bl x):=by simp [most]
theorem yyt (l:List Nat) (h:∀ x∈l,U64 x):most l<=64:=by
 have:∀ (l:List Nat) (n:Nat),n<=64->(∀ x∈l,U64 x)->l.foldl (fun n x=>max n (bl x)) n<=64:=by
  intro l
  induction l with
  | nil=>intro n hn _;exact hn
  | cons a r ih =>
    intro n hn h
    rw [List.foldl_cons]
    have:=yyd (h a (by simp))
    exact ih _ (by omega) fun x hx=>h x (by simp [hx])
 exact this l 0 (by omega) h
theorem xxp {l:List Nat} {x:Nat} (h:x∈l):bl x<=most l:=by
 have key:∀ (l:List Nat) (n:Nat),n<=l.foldl (fun n x=>max n (bl x)) n:=by
  intro l
  induction l with
  | nil=>intro n;exact Nat.le_refl _
  | cons a r ih=>intro n;rw [List.foldl_cons];exact Nat.le_trans (by omega) (ih _)
 have:∀ (l:List Nat) (n:Nat),x∈l->bl x<=l.foldl (fun n x=>max n (bl x)) n:=by
  intro l
  induction l with
  | nil=>intro n h;simp at h
  | cons a r ih =>
    intro n h
    rw [List.foldl_cons]
    rcases List.mem_cons.1 h with rfl | h
    · exact Nat.le_trans (by omega) (key r _)
    · exact ih _ h
 exact this l 0 h
theorem kqM (l:List Nat) (h:∀ x∈l,U64 x):U64 (l.foldl (· ||| ·) 0)/\bl (l.foldl (· ||| ·) 0)=most l:=by
 have:∀ (l:List Nat) (a n:Nat),U64 a->bl a=n->(∀ x∈l,U64 x)->U64 (l.foldl (· ||| ·) a)/\bl (l.foldl (· ||| ·) a)=l.foldl (fun n x=>max n (bl x)) n:=by
  intro l
  induction l with
  | nil=>intro a n ha hn _;exact⟨ha,hn⟩
  | cons b r ih =>
    intro a n ha hn h
    rw [List.foldl_cons,List.foldl_cons]
    have hb:=h b (by simp)
    exact ih _ _ (qxi ha hb) (by rw [bl_or ha hb,hn]) fun x hx=>h x (by simp [hx])
 exact this l 0 0 (by decide) (by decide) h
end
section
def uOf (sg:Bool) (x:Int):Nat:=if sg then zigN x else x.toNat
def zzV (sg:Bool) (l:List Int):Prop:=∀ x∈l,-9223372036854775808<=x/\x<=9223372036854775807/\(sg=true∨0<=x)
theorem jjg {sg:Bool} {x:Int} (h0 : -9223372036854775808<=x) (h1:x<=9223372036854775807):U64 (uOf sg x):=by
 unfold uOf
 split
 · exact qxr x h0 h1
 · show x.toNat<18446744073709551616;omega
theorem zzV.u {sg:Bool} {l:List Int} (h:zzV sg l):∀ u∈l.map (uOf sg),U64 u:=fun u hu=>by
 obtain⟨x,hx,rfl⟩:=List.mem_map.1 hu
 exact jjg (h x hx).1 (h x hx).2.1
theorem zzV.take {sg:Bool} {l:List Int} (h:zzV sg l) (n:Nat):zzV sg (l.take n):=fun x hx=>h x (List.mem_of_mem_take hx)
theorem zzV.drop {sg:Bool} {l:List Int} (h:zzV sg l) (n:Nat):zzV sg (l.drop n):=fun x hx=>h x (List.mem_of_mem_drop hx)
def long (u:Nat):Nat:=max 1 ((bl u+7) / 8)
theorem qxC {u:Nat} (h:U64 u):1<=long u/\long u<=8:=by have:=yyd h;unfold long;omega
def repB (u times:Nat):List UInt8:=UInt8.ofNat (8*(long u - 1)+times - 3)::be (long u) u
def zz5 (kind code many:Nat):List UInt8:=[UInt8.ofNat ((16384*kind+512*code+many - 1) / 256),UInt8.ofNat (16384*kind+512*code+many - 1)]
def zzQ (w:Nat):Nat:=(zzZ w).toNat
def zzm (b:Nat):Nat:=(zzv b).toNat
theorem yyu (b:Nat):zzm b<=64:=by unfold zzm;have:=xxh b;omega
theorem vv0 (b:Nat):((zzm b:Nat):Int)=zzv b:=by unfold zzm;have:=xxh b;omega
theorem yyY {b:Nat} (h:b<=64):b<=zzm b/\1<=zzm b:=by have:=kqL (b:=(b:Int)) (by omega);unfold zzm;omega
theorem vvB {b:Nat} (h:b<=64):zzZ (zzm b:Nat)=((zzQ (zzm b):Nat):Int)/\zzQ (zzm b)<=31:=by
 have h1:=uuI (b:=(b:Int)) (by omega)
 have h2:=xxH (zzv b)
 unfold zzQ
 rw [vv0]
 omega
def dirB (sg:Bool) (l:List Int):List UInt8:=zz5 1 (zzQ (zzm (most (l.map (uOf sg))))) l.length++pack (zzm (most (l.map (uOf sg)))) (l.map (uOf sg))
theorem zz0 (n w:Nat) (h:w<=64):zzD n w<=8*n:=by
 unfold zzD
 have:n*w<=n*64:=Nat.mul_le_mul_left n h
 omega
theorem zqd (sg:Bool) (l:List Int):(dirB sg l).length<=2+8*l.length:=by
 unfold dirB
 rw [List.length_append,xxl,List.length_map]
 have:=zz0 l.length _ (yyu (most (l.map (uOf sg))))
 simp [zz5];omega
def gapN (a b:Int):Nat:=(b - a).natAbs
def zzi:List Int->List Nat
 | a::b::r=>gapN a b::zzi (b::r)
 | _=>[]
theorem zzW:∀ l:List Int,(zzi l).length=l.length - 1
 | []=>rfl
 | [_]=>rfl
 | a::b::r=>by rw [zzi,List.length_cons,zzW (b::r)];simp
def zz1 (falls:Bool):List Int->Bool
 | a::b::r=>decide (gapN a b<9223372036854775808)&&(decide (a=b) || decide (b<a)==falls)&&zz1 falls (b::r)
 | _=>true
def zz8 (l:List Int):Bool:=match l with | a::b::_=>decide (b<a) | _=>false
def jjP (s:List Nat):Bool:=s.all (·==s.headD 0)
def qxD (l:List Int):Int:=if zz8 l then -((zzi l).headD 0:Nat) else ((zzi l).headD 0:Nat)
def delW (l:List Int):Nat:=zzm (max 2 (most (zzi l).tail))
def delB (sg:Bool) (l:List Int):Option (List UInt8) :=
 if l.length<2∨zz1 (zz8 l) l=false then none else
 some (zz5 3 (if jjP (zzi l) then 0 else zzQ (delW l)) l.length++vput (uOf sg (l.headD 0))++vput (zigN (qxD l))++(if jjP (zzi l) then [] else pack (delW l) (zzi l).tail))
def zzJ (l:List Int):Int:=l.foldl min (l.headD 0)
def upN (l:List Int):List Nat:=l.map fun x=>(x - zzJ l).toNat
def zzr (w:Nat):Nat->Nat->List Nat->List (Nat×Nat)
 | _,_,[]=>[]
 | i,last,x::r=>if x / 2 ^ w=0 then zzr w (i+1) last r else List.replicate ((i - last - 1) / 255) (255,0)++(i - last - 255*((i - last - 1) / 255),x / 2 ^ w)::zzr w (i+1) i r
def gapW (p:List (Nat×Nat)):Nat:=max 1 (most (p.map (·.1)))
def patW (p:List (Nat×Nat)):Nat:=zzm (max 1 (most (p.map (·.2))))
def vvC (b:Int):List UInt8:=be (bl b.natAbs / 8+1) (b.natAbs+if b<0 then 128*256 ^ (bl b.natAbs / 8) else 0)
def yyO (w:Nat) (l:List Int):Bool :=
 (upN l).all (·<9223372036854775808)&&zzJ l != -9223372036854775808&&decide ((zzr w 0 0 (upN l)).length<=31)&&decide (gapW (zzr w 0 0 (upN l))+patW (zzr w 0 0 (upN l))<=64)&&decide (w+patW (zzr w 0 0 (upN l))<=64)
def patB (w:Nat) (l:List Int):Option (List UInt8) :=
 let p:=zzr w 0 0 (upN l)
 if yyO w l then
  some (zz5 2 (zzQ w) l.length++[UInt8.ofNat (32*((vvC (zzJ l)).length - 1)+zzQ (patW p)),UInt8.ofNat (32*(gapW p - 1)+p.length)]++vvC (zzJ l)++pack w ((upN l).map (· % 2 ^ w))++pack (zzm (gapW p+patW p)) (p.map fun x=>x.1*2 ^ patW p+x.2))
 else none
def zzl (a:List UInt8) (b:Option (List UInt8)):List UInt8:=match b with | none=>a | some b=>if a=[]∨b.length<a.length then b else a
def zz6 (l:List Int):Nat:=(l.takeWhile (·==l.headD 0)).length
def zz9 (sg:Bool) (l:List Int):Option (List UInt8):=if zz6 l=l.length/\3<=l.length/\l.length<=10 then some (repB (uOf sg (l.headD 0)) l.length) else none
def wN (c:Nat):Nat:=(wOf c).toNat
def uuJ (sg:Bool) (l:List Int) (c:Nat):List UInt8:=(List.range c).foldl (fun a c=>zzl a (patB (wN c) l)) (zzl (zzl (zzl [] (zz9 sg l)) (some (dirB sg l))) (delB sg l))
def runB (sg:Bool) (l:List Int):List UInt8:=uuJ sg l 31
theorem vve (sg:Bool) (l:List Int) (c:Nat):uuJ sg l (c+1)=zzl (uuJ sg l c) (patB (wN c) l):=by unfold uuJ;rw [List.range_succ,List.foldl_append];rfl
theorem vvf (a:List UInt8) (b:Option (List UInt8)) (h:a≠[]):(zzl a b).length<=a.length:=by
 unfold zzl
 split
 · exact Nat.le_refl _
 · split
   · rename_i h2;rcases h2 with h2 | h2
     · exact absurd h2 h
     · omega
   · exact Nat.le_refl _
theorem vvg (a:List UInt8) (b:Option (List UInt8)) (h:a≠[]) (hb:∀ x,b=some x->x≠[]):zzl a b≠[]:=by
 unfold zzl
 split
 · exact h
 · split
   · exact hb _ rfl
   · exact h
theorem uuK (sg:Bool) (l:List Int):dirB sg l≠[]:=by simp [dirB,zz5]
theorem kqN (sg:Bool) (l:List Int):∀ x,delB sg l=some x->x≠[]:=by
 unfold delB
 split
 · intro x h;cases h
 · intro x h;cases h;simp [zz5]
theorem kqO (w:Nat) (l:List Int):∀ x,patB w l=some x->x≠[]:=by
 unfold patB
 dsimp only
 split
 · intro x h;cases h;simp [zz5]
 · intro x h;cases h
theorem vv1 (sg:Bool) (l:List Int):∀ x,zz9 sg l=some x->x≠[]:=by
 unfold zz9
 split
 · intro x h;cases h;simp [repB]
 · intro x h;cases h
theorem zqe (sg:Bool) (l:List Int):zzl (zzl [] (zz9 sg l)) (some (dirB sg l))≠[]/\(zzl (zzl [] (zz9 sg l)) (some (dirB sg l))).length<=(dirB sg l).length:=by
 have hs:zzl [] (zz9 sg l)=(zz9 sg l).getD []:=by
  unfold zzl
  split
  · next h=>rw [h];rfl
  · next h=>rw [h,if_pos (.inl rfl)];rfl
 rw [hs]
 cases ht:zz9 sg l with
 | none=>simp only [Option.getD_none,zzl,true_or,if_true];exact⟨uuK sg l,Nat.le_refl _⟩
 | some t =>
   have:=vv1 sg l t ht
   simp only [Option.getD_some,zzl,this,false_or]
   split
   · exact⟨uuK sg l,Nat.le_refl _⟩
   · exact⟨this,by omega⟩
theorem jjh (sg:Bool) (l:List Int) (c:Nat):uuJ sg l c≠[]/\(uuJ sg l c).length<=(dirB sg l).length:=by
 induction c with
 | zero =>
   show zzl _ _≠[]/\_
   obtain⟨h1,h2⟩:=zqe sg l
   exact⟨vvg _ _ h1 (kqN sg l),Nat.le_trans (vvf _ _ h1) h2⟩
 | succ c ih =>
   rw [vve]
   exact⟨vvg _ _ ih.1 (kqO _ l),Nat.le_trans (vvf _ _ ih.1) ih.2⟩
theorem zqf (sg:Bool) (l:List Int):(runB sg l).length<=2+8*l.length:=Nat.le_trans (jjh sg l 31).2 (zqd sg l)
def xxj (l:List Int):Nat->Nat->Nat
 | 0,n=>n
 | f+1,n=>if 5<=zz6 (l.drop n) then n else xxj l f (n+1)
def cutN (l:List Int):Nat:=if 3<=zz6 l then min (zz6 l) 512 else if l.length<=1 then l.length else xxj l (min l.length 512 - 1) 1
theorem jji (l:List Int):zz6 l<=l.length:=by unfold zz6;exact (List.takeWhile_prefix _).length_le
theorem jjj (l:List Int):∀ f n,n<=xxj l f n/\xxj l f n<=n+f
 | 0,n=>⟨Nat.le_refl _,Nat.le_refl _⟩
 | f+1,n=>by
   unfold xxj
   split
   · omega
   · have:=jjj l f (n+1);omega
theorem vvD (l:List Int) (h:l≠[]):1<=cutN l/\cutN l<=l.length/\cutN l<=512:=by
 have hl:=List.length_pos_iff.2 h
 have hs:=jji l
 unfold cutN
 split
 · omega
 · split
   · omega
   · have:=jjj l (min l.length 512 - 1) 1;omega
def rleF (sg:Bool):Nat->List Int->List UInt8
 | 0,_=>[]
 | f+1,l=>if l=[] then [] else runB sg (l.take (cutN l))++rleF sg f (l.drop (cutN l))
def rleB (sg:Bool) (l:List Int):List UInt8:=rleF sg l.length l
theorem vv2 (sg:Bool):∀ (f g:Nat) (l:List Int),l.length<=f->l.length<=g->rleF sg f l=rleF sg g l
 | 0,0,_,_,_=>rfl
 | 0,g+1,l,h,_=>by
   obtain rfl:l=[]:=List.length_eq_zero_iff.1 (by omega)
   rfl
 | f+1,0,l,_,h=>by
   obtain rfl:l=[]:=List.length_eq_zero_iff.1 (by omega)
   rfl
 | f+1,g+1,l,h1,h2=>by
   rw [rleF,rleF]
   by_cases hl:l=[]
   · rw [if_pos hl,if_pos hl]
   · rw [if_neg hl,if_neg hl]
     have:=vvD l hl
     rw [vv2 sg f g _ (by rw [List.length_drop];omega) (by rw [List.length_drop];omega)]
theorem zqg (sg:Bool):rleB sg []=[]:=rfl
theorem kqP (sg:Bool) (l:List Int) (h:l≠[]):rleB sg l=runB sg (l.take (cutN l))++rleB sg (l.drop (cutN l)):=by
 have:=vvD l h
 have hl:=List.length_pos_iff.2 h
 unfold rleB
 obtain⟨k,hk⟩:∃ k,l.length=k+1:=⟨l.length - 1,by omega⟩
 rw [hk,rleF,if_neg h,vv2 sg k _ (l.drop (cutN l)) (by rw [List.length_drop];omega) zN]
theorem jjk (sg:Bool):∀ (f:Nat) (l:List Int),(rleF sg f l).length<=10*l.length
 | 0,_=>Nat.zero_le _
 | f+1,l=>by
   rw [rleF]
   by_cases h:l=[]
   · rw [if_pos h];exact Nat.zero_le _
   · rw [if_neg h,List.length_append]
     have h1:=vvD l h
     have h2:=zqf sg (l.take (cutN l))
     have h3:=jjk sg f (l.drop (cutN l))
     rw [List.length_take] at h2
     rw [List.length_drop] at h3
     omega
theorem vvE (sg:Bool) (l:List Int):(rleB sg l).length<=10*l.length:=jjk sg _ l
end
section
open Go Go.RowKit
structure OneT {α:Type} (T:Ty α) (enc:α->Value) (ok:α->Prop):Prop where
 size:T.size=1
 rep:∀ (F:Nat->Prop) (w:World) (cs:List Value) (x:α),T.rep F w cs x↔cs=[enc x]/\ok x
section
variable {α:Type} {T:Ty α} {enc:α->Value} {ok:α->Prop} (O:OneT T enc ok)
include O
theorem zqh (F:Nat->Prop) (w:World) (l:List α) (h:∀ d∈l,ok d):Reps T F w (l.map fun x=>[enc x]) l:=by
 refine⟨by simp,fun i cs x h1 h2=>?_⟩
 rw [List.getElem?_map,h2] at h1
 simp at h1
 subst h1
 exact (O.rep F w _ x).2 ⟨rfl,h x (List.mem_of_getElem? h2)⟩
theorem uuL {F:Nat->Prop} {w:World} {css:List (List Value)} {l:List α} (h:Reps T F w css l):css=(l.map fun x=>[enc x])/\∀ d∈l,ok d:=by
 have hk:∀ i (hi:i<l.length),css[i]?=some [enc l[i]]/\ok l[i]:=fun i hi=>by
  have hc:i<css.length:=by rw [h.1];exact hi
  have:=(O.rep F w _ _).1 (h.2 i _ _ (List.getElem?_eq_getElem hc) (List.getElem?_eq_getElem hi))
  exact⟨by rw [List.getElem?_eq_getElem hc,this.1],this.2⟩
 refine⟨List.ext_getElem? fun i=>?_,fun d hd=>?_⟩
 · rcases Nat.lt_or_ge i l.length with hi | hi
   · rw [(hk i hi).1,List.getElem?_map,List.getElem?_eq_getElem hi];rfl
   · rw [List.getElem?_eq_none (by rw [h.1];exact hi),List.getElem?_eq_none (by simpa using hi)]
 · obtain⟨i,hi,rfl⟩:=List.getElem_of_mem hd
   exact (hk i hi).2
omit O in
theorem kqQ (enc:α->Value) (l:List α):(l.map fun x=>[enc x]).flatten=l.map enc:=by
 induction l with
 | nil=>rfl
 | cons a r ih=>rw [List.map_cons,List.flatten_cons,ih];rfl
theorem OwnF.row1 {e:TypeId} {F:Nat->Prop} {w:World} {B n c:Nat} {A:Option Addr} {l:List α} (h:OwnF T e F w B A n c l):w.ownsRow B e 1 (.slice A n c) n (l.map enc)/\∀ x∈l,ok x:=by
 obtain⟨⟨css,h1,h2⟩,_,_⟩:=h
 obtain⟨rfl,h3⟩:=uuL O h2
 rw [kqQ,O.size] at h1
 exact⟨h1,h3⟩
theorem jjl {e:TypeId} {w:World} {B n c:Nat} {A:Option Addr} {l:List α} (h:w.ownsRow B e 1 (.slice A n c) n (l.map enc)) (hk:∀ x∈l,ok x):OwnF T e (fun _=>False) w B A n c l :=
 ⟨⟨l.map fun x=>[enc x],by rw [kqQ,O.size];exact h,zqh O _ w l hk⟩,by simp,by have:=h.1;simpa using this.symm⟩
variable {e:TypeId} {F:Nat->Prop} {w:World} {B n c g:Nat} {l:List α}
theorem OwnF.cell1 (h:OwnF T e F w B (some ⟨g,0,none⟩) n c l) {i:Nat} (hi:i<l.length):w.cell? ⟨g,i,none⟩=some (enc l[i]):=by
 have hn:=h.len
 rw [(h.row1 O).1.cellAt i (by omega)]
 simp [hi]
theorem OwnF.free1 (h:OwnF T e F w B (some ⟨g,0,none⟩) n c l) (j:Nat):w.frozen? ⟨g,j,none⟩=false:=(h.row1 O).1.frozenAt j
theorem OwnF.base1 (h:OwnF T e F w B (some ⟨g,0,none⟩) n c l):B<=g/\g<w.heap.size:=(h.row1 O).1.lt g rfl
theorem OwnF.set1 (h:OwnF T e F w B (some ⟨g,0,none⟩) n c l) (i:Nat) (x:α) (hx:ok x):OwnF T e (fun _=>False) (w.setCell ⟨g,i,none⟩ (enc x)) B (some ⟨g,0,none⟩) n c (l.set i x):=by
 obtain⟨h1,h2⟩:=h.row1 O
 have h3:=(h1.stored i (enc x)).1
 rw [<-List.map_set] at h3
 refine jjl O h3 fun d hd=>?_
 rcases List.mem_or_eq_of_mem_set hd with hd | rfl
 · exact h2 d hd
 · exact hx
theorem OwnF.some1 {A:Option Addr} (h:OwnF T e F w B A n c l) (hl:l≠[]):∃ g,A=some ⟨g,0,none⟩:=by
 rcases (h.row1 O).1.2 with ⟨_,hn⟩ | ⟨g,_,_,h1,_⟩
 · have:=h.len
   exact absurd (List.length_eq_zero_iff.1 (by omega)) hl
 · injection h1 with e1 e2 e3
   exact⟨g,e1⟩
end
theorem jjm:OneT tU64 (fun x=>.int .u64 (x:Int)) (fun x=>x<18446744073709551616):=⟨rfl,fun _ _ _ _=>Iff.rfl⟩
theorem yyH:OneT tU8 (fun x=>.int .u8 (x.toNat:Int)) (fun _=>True):=⟨rfl,fun _ _ _ _=>⟨fun h=>⟨h,trivial⟩,fun h=>h.1⟩⟩
end
section
def yyp (w:Nat):Nat->Nat->List Nat->Nat
 | _,la,[]=>la
 | i,la,x::r=>yyp w (i+1) (if x / 2 ^ w=0 then la else i) r
def uua (w i la x:Nat):List (Nat×Nat):=if x / 2 ^ w=0 then [] else List.replicate ((i - la - 1) / 255) (255,0)++[(i - la - 255*((i - la - 1) / 255),x / 2 ^ w)]
theorem yyl (w i la x:Nat) (r:List Nat):zzr w i la (x::r)=uua w i la x++zzr w (i+1) (if x / 2 ^ w=0 then la else i) r:=by
 unfold uua
 rw [zzr]
 by_cases h:x / 2 ^ w=0
 · rw [if_pos h,if_pos h,if_pos h,List.nil_append]
 · rw [if_neg h,if_neg h,if_neg h,List.append_assoc,List.singleton_append]
theorem xxP (w:Nat):∀ (a:List Nat) (i la x:Nat),zzr w i la (a++[x])=zzr w i la a++uua w (i+a.length) (yyp w i la a) x
 | [],i,la,x=>by
   rw [List.nil_append,yyl]
   simp [zzr,yyp]
 | y::r,i,la,x=>by
   rw [List.cons_append,yyl,xxP w r,yyl,List.append_assoc,yyp,List.length_cons,show i+1+r.length=i+(r.length+1) by omega]
theorem vvk (w:Nat):∀ (a:List Nat) (i la x:Nat),yyp w i la (a++[x])=if x / 2 ^ w=0 then yyp w i la a else i+a.length
 | [],i,la,x=>by simp [yyp]
 | y::r,i,la,x=>by
   rw [List.cons_append,yyp,vvk w r,yyp,List.length_cons,show i+1+r.length=i+(r.length+1) by omega]
theorem vvI (w:Nat):∀ (a:List Nat) (i la:Nat),la<=i->yyp w i la a<=i+a.length
 | [],i,la,h=>by simpa [yyp] using h
 | y::r,i,la,h=>by
   rw [yyp,List.length_cons]
   have:=vvI w r (i+1) (if y / 2 ^ w=0 then la else i) (by split <;> omega)
   omega
theorem zqr (w:Nat) (a:List Nat) (i la:Nat) (h:la<=i) (ha:a≠[]):yyp w i la a<i+a.length:=by
 match a,ha with
 | y::r,_ =>
   rw [yyp,List.length_cons]
   have:=vvI w r (i+1) (if y / 2 ^ w=0 then la else i) (by split <;> omega)
   have h2:∀ (r:List Nat) (i la:Nat),la<i->yyp w i la r<i+r.length:=by
    intro r
    induction r with
    | nil=>intro i la h;simpa [yyp] using h
    | cons z r ih =>
      intro i la h
      rw [yyp,List.length_cons]
      have:=ih (i+1) (if z / 2 ^ w=0 then la else i) (by split <;> omega)
      omega
   have:=h2 r (i+1) (if y / 2 ^ w=0 then la else i) (by split <;> omega)
   omega
def patM (p:List (Nat×Nat)):Nat:=max 1 (most (p.map (·.2)))
theorem vvJ (p:List (Nat×Nat)):patW p=zzm (patM p):=rfl
theorem uub (p:List (Nat×Nat)) (x:Nat×Nat):gapW (p++[x])=max (gapW p) (bl x.1):=by
 unfold gapW
 rw [List.map_append,List.map_singleton,vvZ];omega
theorem uuc (p:List (Nat×Nat)) (x:Nat×Nat):patM (p++[x])=max (patM p) (bl x.2):=by
 unfold patM
 rw [List.map_append,List.map_singleton,vvZ];omega
theorem qxJ (p:List (Nat×Nat)) (h:∀ x∈p,U64 x.1):1<=gapW p/\gapW p<=64:=by
 have:=yyt (p.map (·.1)) (fun y hy=>by obtain⟨x,hx,rfl⟩:=List.mem_map.1 hy;exact h x hx)
 unfold gapW;omega
theorem qzf (p:List (Nat×Nat)) (h:∀ x∈p,U64 x.2):1<=patM p/\patM p<=64:=by
 have:=yyt (p.map (·.2)) (fun y hy=>by obtain⟨x,hx,rfl⟩:=List.mem_map.1 hy;exact h x hx)
 unfold patM;omega
theorem xxQ (l:List Int):(upN l).length=l.length:=by simp [upN]
end
section
open Go Go.RowKit
theorem jjD {B:Nat} {a w:World} (h:Below B a w) (n:Nat):Below B a (w.drewN n):=⟨h.os,h.tape,h.output,h.size,h.block⟩
theorem OwnF.newL {α:Type} {T:Ty α} {F:Nat->Prop} {w:World} {css:List (List Value)} {xs:List α} {e:TypeId} {B n:Nat} (h:Reps T F w css xs) (hB:B<=w.heap.size) (hn:n=xs.length) (hm:n<=4294967296) (o:Obj) (ho:o=.cells css.flatten.toArray e) :
 OwnF T e (fun b=>F b/\b<w.heap.size) (w.alloc o) B (some ⟨w.heap.size,0,none⟩) n n xs:=by
 subst ho
 have hr:=h.weaken (F':=fun b=>F b/\b<w.heap.size) (fun b hb hl=>⟨hb,hl⟩)
 refine⟨⟨css,?_,hr.keep (by simp) fun b _ hl=>Below.heap_alloc w _ b hl⟩,?_,hn⟩
 · have:=World.ownsRow_lit (base:=B) (e:=e) (size:=T.size) w css.flatten.toArray n hB (by simp only [maxLen];omega) (by simp only [List.size_toArray];rw [hr.flat,hn])
   simpa using this
 · rintro b o h ⟨_,hl⟩
   injection h with h;injection h with h;omega
theorem OwnF.empty {α:Type} (T:Ty α) (e:TypeId) (F:Nat->Prop) (w:World) (B:Nat) (hB:B<=w.heap.size) (hF:∀ b,F b->b<B):OwnF T e F (w.alloc (.cells #[] e)) B (some ⟨w.heap.size,0,none⟩) 0 0 [] :=
 (OwnF.newL (T:=T) (F:=fun _=>False) (w:=w) (n:=0) (css:=[]) (xs:=[]) Reps.nil_ hB rfl (by omega) _ rfl).weaken (fun b hb _=>hb.1.elim) (fun b _ hB' _ hh=>by have:=hF b hh;omega)
end
section
open Go Go.RowKit
theorem uuo {l m:List Int} (h:l.length=m.length) (h2:l.take l.length=m.take l.length):l=m:=by
 rw [zL zN,zL (by omega)] at h2;exact h2
theorem qzM (F F':Nat->Prop) (A A':Option Addr) (n c n' c':Nat) (l m:List Int) (w:World) (h:Sl tI64 F w A n c l) (h':Sl tI64 F' w A' n' c' m) (hn:n<=4294967296) (hn':n'<=4294967296) (r:Bool) (hr:r=decide (l=m)) :
 Calls Tryz.prog 232 #[.slice A n c,.slice A' n' c'] w fun e w'=>e=.returned (.bool r)/\Below w.heap.size w w':=by
 have HR:=zH hr;clear hr
 have HL:=zH h.len;have HM:=zH h'.len
 by_cases hnn:n=n'
 · subst hnn
   go_enter Tryz.func232,Tryz.ntmps232
   go_wp2
   go_loopw [13] (fun i wr=>∃ k:Nat,k<=n/\i=.int .i64 k/\l.take k=m.take k/\Below w.heap.size w wr) (fun i _=>n - (intOf i).toNat)
   case atStart=>exact⟨0,Nat.zero_le _,rfl,rfl,zR⟩
   case round =>
    obtain⟨k,hk,rfl,hpre,hb⟩:=hrel
    have HP:=zH hpre;clear hpre
    by_cases hlt:k<n
    · have hkl:k<l.length:=by rw [<-HL.out];exact hlt
      have hkm:k<m.length:=by rw [<-HM.out];exact hlt
      obtain⟨b,o,u,rfl,_,hbl,hr,hc⟩:=(h.below hb zN).at1 hkl rfl
      obtain⟨b',o',u',rfl,_,hbl',hr',hc'⟩:=(h'.below hb zN).at1 hkm rfl
      obtain⟨x,hx⟩:∃ x,x=l[k]:=⟨_,rfl⟩
      obtain⟨y,hy⟩:∃ y,y=m[k]:=⟨_,rfl⟩
      rw [<-hx] at hr;rw [<-hy] at hr'
      have hr1:=hr.1;have hr2:=hr'.1
      injection hr1 with hr1;injection hr2 with hr2
      subst hr1 hr2
      clear hr hr'
      have HX:=zH hx;have HY:=zH hy;clear hx hy
      have hi1:(0:Int)<=(k:Int):=by omega
      have hi2:(k:Int)<(n:Int):=by omega
      by_cases hxy:x=y
      · subst hxy
        have hnx:l.take (k+1)=m.take (k+1):=by
         rw [zT hkl,zT hkm,HP.out,<-HX.out,<-HY.out]
        have HNX:=zH hnx;clear hnx
        go_wp2_with fail
        go_quiet (fail)
        go_wp2_with fail
        go_roundw
        case rel=>exact⟨k+1,by omega,by go_num,HNX.out,jjD hb _⟩
        case measure=>simp [intOf];omega
      · have hne:(x != y)=true:=by rw [bne_iff_ne];exact hxy
        have hfin:r=false:=by
         rw [HR.out]
         refine decide_eq_false fun e=>hxy ?_
         rw [HX.out,HY.out]
         subst e;rfl
        have HFIN:=zH hfin
        clear hxy hfin
        go_wp2_with fail
        go_quiet (fail)
        go_wp2_with fail
        go_ret
        exact⟨by rw [HFIN.out];rfl,jjD hb _⟩
    · obtain rfl:k=n:=by omega
      have hfin:r=true:=by
       rw [HR.out]
       refine decide_eq_true (uuo (by rw [<-HL.out,<-HM.out]) ?_)
       rw [<-HL.out];exact HP.out
      have HFIN:=zH hfin
      clear hfin
      go_wp2_with fail
      go_ret
      exact⟨by rw [HFIN.out];rfl,hb⟩
 · have hfin:r=false:=by
    rw [HR.out]
    refine decide_eq_false fun e=>hnn ?_
    rw [HL.out,HM.out,e]
   have HFIN:=zH hfin
   clear hfin
   go_enter Tryz.func232,Tryz.ntmps232
   go_wp2
   go_ret
   exact⟨by rw [HFIN.out];rfl,zR⟩
end
section
open Go Go.RowKit
section
variable {α:Type} {T:Ty α} {e:TypeId} {col col':Nat->Nat} {i B S S':Nat} {w w':World} {A A':Option Addr} {n c c':Nat} {xs:List α}
theorem OwnF.lies' {F:Nat->Prop} (h:OwnF T e F w B A n c xs) {b:Nat} (hb:A.map (·.block)=some b):A=some ⟨b,0,none⟩/\B<=b/\b<w.heap.size:=h.lies (by rw [zzb];exact hb)
end
end
end Go.Proofs.YtpmglcachffojaaGreatDoor
