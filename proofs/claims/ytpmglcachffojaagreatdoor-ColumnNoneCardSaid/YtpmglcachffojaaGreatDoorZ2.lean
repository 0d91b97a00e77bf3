/- A part of what None leans on. -/
import Derived.Test.YtpmglcachffojaaGreatDoorZ1
import Derived.RangeFuncCalls
import Derived.OrdersIn
import Derived.Deep.RegionHeld
import Derived.OrdersHeld
set_option maxRecDepth 100000
set_option maxHeartbeats 16000000
namespace Go.Proofs.YtpmglcachffojaaGreatDoor
section
open Go Go.RowKit
def yy5 (ops:Array Oper):Bool:=ops.all fun o=>match o.op with | .defer _=>false | _=>true
theorem jjL {ops:Array Oper} (h:yy5 ops=true) {i:Nat} {o:Oper} (hi:ops[i]?=some o):∀ c,o.op≠.defer c:=fun c e=>by
 unfold yy5 at h
 rw [Array.all_eq_true_iff_forall_mem] at h
 have h1:=h o (Array.mem_of_getElem? hi)
 rw [e] at h1
 cases h1
section
variable {P:Program} {ops:Array Oper} {Q:Exit->Act->World->Prop} {md:Region.Mode} {l n:Nat}
theorem xxy {o:Oper} {K:Act->World->Prop} {a:Act} {w:World} (hd:∀ c,o.op≠.defer c) (h:Oper.wp P o a w K Q):Oper.wpIn (Fence.wide.inRound l) n P o a w K Q:=by
 unfold Oper.wp at h
 unfold Oper.wpIn
 refine⟨fun _ _=>trivial,?_⟩
 rw [Oper.semAt_eq _ _ _ hd]
 generalize (execOp a.eval o).run P w=r at *
 cases r with
 | ok x w' =>
   cases x <;> simp only [Oper.upon,Oper.uponIn] at h ⊢
   case value=>exact h
   case skip=>exact h
   case defer=>exact h
   case enter f args=>exact⟨fun e=>(by cases e),CallsIn.inRound l (callsIn_wide.2 h)⟩
   case row row args=>exact⟨fun e=>(by cases e),fun c cs _=>let ⟨v,w',r,s⟩:=h c cs;⟨v,w',r,stepsIn_wide.2 s⟩⟩
 | halt x w' =>
   cases x <;> simp only [Oper.upon,Oper.uponIn] at h ⊢
   case panic=>exact h
theorem vvQ (hd:yy5 ops=true) (hQ:¬ LetsOut Q) {i:Nat} {K:Act->World->Prop} {a:Act} {w:World} (h:wpOp P ops Q i K a w):wpOpIn (Fence.wide.inRound l) n P ops Q i K a w:=by
 unfold wpOp at h
 unfold wpOpIn
 cases ho:ops[i]? with
 | none=>simp only [ho] at h ⊢;exact h
 | some o =>
   simp only [ho] at h ⊢
   by_cases hw:Region.wanted o (yielded ops a.tmps)=true
   · rw [if_pos hw] at h ⊢
     rcases h with h | ⟨_,h⟩
     · exact xxy (jjL hd ho) h
     · exact absurd h hQ
   · rw [if_neg hw] at h ⊢
     exact⟨fun _ _=>trivial,h⟩
theorem yyT (hd:yy5 ops=true) (hQ:¬ LetsOut Q):∀ (fuel:Nat) (listed:Array Bool) (a:Act) (w:World),wpAny P md ops Q fuel listed a w->wpAnyIn (Fence.wide.inRound l) n P md ops Q fuel listed a w
 | 0,_,_,_,h=>h
 | fuel+1,_,_,_,h=>⟨h.1,fun i hi=>vvQ hd hQ (wpOp_mono (fun a' w' h'=>yyT hd hQ fuel _ a' w' h') (h.2 i hi))⟩
theorem qx3 {R:Act->World->Prop}:¬ LetsOut (fun e a w=>e=Exit.normal/\R a w):=fun ⟨_,_,h,_⟩=>by cases h
end
end
section
open Go Go.RowKit
section
variable {P:Program} {ops:Array Oper} {Q:Exit->Act->World->Prop} {md:Region.Mode}
def SLx (c:Option Nat) (listed:Array Bool) (p:Prop):Prop :=
 match c with
 | none=>p
 | some c=>listed.getD c true=false->p
def SL:List (Option Nat×(World->Prop))->Array Bool->World->Prop
 | [],_,_=>True
 | x::r,listed,w=>SLx x.1 listed (x.2 w)/\SL r listed w
def gds (cs:List (Option Nat×(World->Prop))):List Nat:=cs.filterMap Prod.fst
theorem SL.at:∀ {cs:List (Option Nat×(World->Prop))} {k:Nat} {c:Option Nat} {p:World->Prop} {listed:Array Bool} {w:World},SL cs listed w->cs[k]?=some (c,p)->SLx c listed (p w)
 | [],_,_,_,_,_,_,h=>by simp at h
 | x::r,0,c,p,_,_,h,hk=>by
   simp at hk
   subst hk
   exact h.1
 | x::r,k+1,c,p,_,_,h,hk=>SL.at h.2 (by simpa using hk)
theorem SL.get {cs:List (Option Nat×(World->Prop))} {k c:Nat} {p:World->Prop} {listed:Array Bool} {w:World} (h:SL cs listed w) (hk:cs[k]?=some (some c,p)) (hc:listed.getD c true=false):p w:=SL.at h hk hc
theorem SL.all {cs:List (Option Nat×(World->Prop))} {k:Nat} {p:World->Prop} {listed:Array Bool} {w:World} (h:SL cs listed w) (hk:cs[k]?=some (none,p)):p w:=SL.at h hk
theorem SL.set:∀ {cs:List (Option Nat×(World->Prop))} {i:Nat} {listed:Array Bool} {w:World},(gds cs).contains i=false->(SL cs (listed.setIfInBounds i true) w↔SL cs listed w)
 | [],_,_,_,_=>Iff.rfl
 | (none,p)::r,i,listed,w,h=>by
   have ih:=SL.set (listed:=listed) (w:=w) (cs:=r) (i:=i) h
   show (p w/\SL r (listed.setIfInBounds i true) w)↔(p w/\SL r listed w)
   rw [ih]
 | (some c,p)::r,i,listed,w,h=>by
   have h:((c::gds r).contains i)=false:=h
   have hne:i≠c:=fun e=>by subst e;simp at h
   have hr:(gds r).contains i=false:=by
    cases hq:(gds r).contains i with
    | false=>rfl
    | true=>simp only [List.contains_cons,hq,Bool.or_true] at h;cases h
   have ih:=SL.set (listed:=listed) (w:=w) hr
   show (((listed.setIfInBounds i true).getD c true=false->p w)/\SL r (listed.setIfInBounds i true) w)↔((listed.getD c true=false->p w)/\SL r listed w)
   rw [getD_set_ne true hne,ih]
def zzM (P:Program) (md:Region.Mode) (ops:Array Oper) (Q:Exit->Act->World->Prop) (cs:List (Option Nat×(World->Prop))):Nat->Array Bool->Act->World->Prop
 | 0,listed,a,w=>Region.ready md ops listed=[]/\Q .normal a w
 | fuel+1,listed,a,w =>
   (Region.ready md ops listed=[]->Q .normal a w) /\
   ∀ i∈Region.ready md ops listed,wpOp P ops Q i (fun a' w'=>SL cs (listed.setIfInBounds i true) w'/\zzM P md ops Q cs fuel (listed.setIfInBounds i true) a' w') a w
variable {cs:List (Option Nat×(World->Prop))}
theorem yy6:∀ (fuel:Nat) (listed:Array Bool) (a:Act) (w:World),zzM P md ops Q cs fuel listed a w->wpAny P md ops Q fuel listed a w
 | 0,_,_,_,h=>h
 | fuel+1,_,_,_,h=>⟨h.1,fun i hi=>wpOp_mono (fun a' w' h'=>yy6 fuel _ a' w' h'.2) (h.2 i hi)⟩
def SLw (cs:List (Option Nat×(World->Prop))) (c:Option Nat) (w:World):Prop:=∃ listed:Array Bool,(∀ c',c=some c'->listed.getD c' true=false)/\SL cs listed w
theorem xxg {i:Nat} {c:Option Nat} {oi:Oper} {v:Value} (hi:ops[i]?=some oi) (hsel:∀ (j:Nat) (o:Oper) cs b,ops[j]?=some o->o.op≠.select cs b)
 (hQ:∀ c a w,Q (.panic c) (a.put oi.dst v) w->Q (.panic c) a w) (hc:∀ c',c=some c'->∀ oc,ops[c']?=some oc->∃ e∈oc.after,Region.binds md e=true/\e.on=i) (hcs:(gds cs).contains i=false) :
 ∀ (fuel:Nat) (listed:Array Bool) (a:Act) (w:World),
  (∀ j oj,ops[j]?=some oj->j≠i->listed.getD j true=false->(∀ e∈oj.after,Region.binds md e=true->e.on≠i)->oi.apart ops oj=true) ->
  i∈Region.ready md ops listed->YieldsIf P ops (SLw cs c) oi v a->(∀ c',c=some c'->listed.getD c' true=false)->SL cs listed w ->
  zzM P md ops Q cs fuel (listed.setIfInBounds i true) (a.put oi.dst v) w->zzM P md ops Q cs (fuel+1) listed a w:=by
 intro fuel
 induction fuel with
 | zero =>
   intro listed a w _ hr hy hl hS H
   refine⟨fun h=>(by rw [h] at hr;cases hr),fun j hj=>?_⟩
   by_cases hji:j=i
   · subst hji;exact hy.wpOp hi ⟨listed,hl,hS⟩ ⟨(SL.set hcs).2 hS,H⟩
   · have:=ready_mono hj hji
     rw [H.1] at this
     cases this
 | succ fuel ih =>
   intro listed a w hfree hr hy hl hS H
   refine⟨fun h=>(by rw [h] at hr;cases hr),fun j hj=>?_⟩
   by_cases hji:j=i
   · subst hji;exact hy.wpOp hi ⟨listed,hl,hS⟩ ⟨(SL.set hcs).2 hS,H⟩
   · have h1:=H.2 j (ready_mono hj hji)
     obtain⟨hjun,oj,hoj,hall⟩:=mem_ready.1 hj
     have hun:∀ b,listed.getD i true=b->listed.getD i false=true->False:=fun b _ h1=>by
      have h0:=(mem_ready.1 hr).1
      rcases Nat.lt_or_ge i listed.size with h' | h'
      · simp [h'] at h0 h1;rw [h0] at h1;cases h1
      · simp [Array.getElem?_eq_none h'] at h1
     have hnot:∀ e∈oj.after,Region.binds md e=true->e.on≠i:=fun e he hb heq=>by
      have h1:=hall e he hb
      rw [heq] at h1
      exact hun _ rfl h1
     have hjc:∀ c',c=some c'->j≠c':=fun c' e0 e=>by
      subst e
      obtain⟨e,he,hb,hon⟩:=hc j e0 oj hoj
      exact hnot e he hb hon
     have h2:=wpOp_putIf hoj (hfree j oj hoj hji hjun hnot) (fun cs b=>hsel i oi cs b hi) (fun cs b=>hsel j oj cs b hoj) hQ hy h1
     have hfree':∀ k ok,ops[k]?=some ok->k≠i->(listed.setIfInBounds j true).getD k true=false ->
      (∀ e∈ok.after,Region.binds md e=true->e.on≠i)->oi.apart ops ok=true:=fun k ok hk hki hun hno=>by
      refine hfree k ok hk hki ?_ hno
      by_cases hjk:j=k
      · subst hjk;exact hjun
      · rw [getD_set_ne true hjk] at hun;exact hun
     refine wpOp_mono (fun a' w' h3=>?_) h2
     have hS':SL cs (listed.setIfInBounds j true) w':=by
      have h4:=h3.2.1
      rw [Array.setIfInBounds_comm _ _ (Ne.symm hji)] at h4
      exact (SL.set hcs).1 h4
     refine⟨hS',ih (listed.setIfInBounds j true) a' w' hfree' (ready_mono hr (Ne.symm hji)) h3.1 (fun c' e0=>by rw [getD_set_ne true (hjc c' e0)];exact hl c' e0) hS' ?_⟩
     rw [Array.setIfInBounds_comm _ _ hji]
     exact h3.2.2
def tkB (md:Region.Mode) (ops:Array Oper) (listed:Array Bool) (i:Nat):Bool:=Region.noSelect ops&&Region.free md ops listed i&&(Region.ready md ops listed).contains i
def tkC (md:Region.Mode) (ops:Array Oper) (listed:Array Bool) (i:Nat) (c:Option Nat):Bool:=tkB md ops listed i&&(match c with | none=>true | some c => !(listed.getD c true)&&((ops[c]?).map fun o=>o.after.any fun e=>Region.binds md e&&e.on==i).getD true)
theorem tkL (i k:Nat) {c:Option Nat} {p:World->Prop} {oi:Oper} {v:Value} {fuel:Nat} {listed:Array Bool} {a:Act} {w:World} (hk:cs[k]?=some (c,p)) (hi:ops[i]?=some oi) (hB:tkC md ops listed i c=true) (hcs:(gds cs).contains i=false)
 (hQ:∀ c a w,Q (.panic c) (a.put oi.dst v) w->Q (.panic c) a w) (hw:Region.wanted oi (yielded ops a.tmps)=true) (hS:SL cs listed w) (hy:∀ w,p w->(execOp a.eval oi).run P w=.ok (.value v) w)
 (h:SL cs (listed.setIfInBounds i true) w->zzM P md ops Q cs fuel (listed.setIfInBounds i true) (a.put oi.dst v) w):zzM P md ops Q cs (fuel+1) listed a w:=by
 have h:=h ((SL.set hcs).2 hS)
 unfold tkC tkB at hB
 rw [Bool.and_eq_true,Bool.and_eq_true,Bool.and_eq_true] at hB
 obtain⟨⟨⟨h1,h2⟩,h3⟩,h4⟩:=hB
 refine xxg (c:=c) hi (Region.noSelect_spec h1) hQ (fun c' e0 oc hoc=>?_) hcs fuel listed a w (Region.free_spec hi h2) (by simpa using h3) (.inl ⟨hw,fun w hw=>?_⟩) (fun c' e0=>?_) hS h
 · subst e0
   simp only [Bool.and_eq_true] at h4
   have h5:=h4.2
   rw [hoc] at h5
   simp only [Option.map_some,Option.getD_some] at h5
   obtain⟨e,he,h6⟩:=Array.any_eq_true'.1 h5
   simp only [Bool.and_eq_true,beq_iff_eq] at h6
   exact⟨e,he,h6.1,h6.2⟩
 · obtain⟨l,hl,hs⟩:=hw
   refine hy w ?_
   have h5:=SL.at hs hk
   cases c with
   | none=>exact h5
   | some c=>exact h5 (hl c rfl)
 · subst e0
   simp only [Bool.and_eq_true] at h4
   simpa using h4.1
theorem tkP (i:Nat) {oi:Oper} {v:Value} {fuel:Nat} {listed:Array Bool} {a:Act} {w:World} (hi:ops[i]?=some oi) (hB:tkB md ops listed i=true) (hcs:(gds cs).contains i=false)
 (hQ:∀ c a w,Q (.panic c) (a.put oi.dst v) w->Q (.panic c) a w) (hw:Region.wanted oi (yielded ops a.tmps)=true) (hS:SL cs listed w) (hy:∀ w,(execOp a.eval oi).run P w=.ok (.value v) w)
 (h:SL cs (listed.setIfInBounds i true) w->zzM P md ops Q cs fuel (listed.setIfInBounds i true) (a.put oi.dst v) w):zzM P md ops Q cs (fuel+1) listed a w:=by
 have h:=h ((SL.set hcs).2 hS)
 unfold tkB at hB
 simp only [Bool.and_eq_true] at hB
 obtain⟨⟨h1,h2⟩,h3⟩:=hB
 exact xxg (c:=none) hi (Region.noSelect_spec h1) hQ (fun c' e0=>by cases e0) hcs fuel listed a w (Region.free_spec hi h2) (by simpa using h3) (.inl ⟨hw,fun w _=>hy w⟩) (fun c' e0=>by cases e0) hS h
def yyU (P:Program) (md:Region.Mode) (ops:Array Oper) (Q:Exit->Act->World->Prop) (cs:List (Option Nat×(World->Prop))) (fuel:Nat) (listed:Array Bool) (a:Act) (w:World) (rs:List Nat):Prop :=
 ∀ i∈rs,wpOp P ops Q i (fun a' w'=>SL cs (listed.setIfInBounds i true) w'/\zzM P md ops Q cs fuel (listed.setIfInBounds i true) a' w') a w
theorem nilL {fuel:Nat} {listed:Array Bool} {a:Act} {w:World}:yyU P md ops Q cs fuel listed a w []:=fun _ h=>by cases h
theorem consL {fuel:Nat} {listed:Array Bool} {a:Act} {w:World} {i:Nat} {o:Oper} {rs:List Nat} (ho:ops[i]?=some o)
 (h:∀ K':Act->World->Prop,Shut (∀ a w,SL cs (listed.setIfInBounds i true) w->(SL cs (listed.setIfInBounds i true) w->zzM P md ops Q cs fuel (listed.setIfInBounds i true) a w)->K' a w)->if Region.wanted o (yielded ops a.tmps)=true then Oper.wp P o a w K' Q else K' (a.put o.dst undef) w)
 (hs:yyU P md ops Q cs fuel listed a w rs):yyU P md ops Q cs fuel listed a w (i::rs):=fun j hj=>by
 rcases List.mem_cons.1 hj with rfl | hj
 · exact wpOp_step ho (fun K' hK=>h K' (fun a w hS hW=>hK a w ⟨hS,hW hS⟩))
 · exact hs j hj
theorem qx4 {rs:List Nat} {fuel:Nat} {listed:Array Bool} {a:Act} {w:World} (hr:Region.ready md ops listed=rs) (hne:rs≠[])
 (h:yyU P md ops Q cs fuel listed a w rs):zzM P md ops Q cs (fuel+1) listed a w:=⟨fun h0=>absurd (hr ▸ h0) hne,hr ▸ h⟩
theorem rd1 (i:Nat) {o:Oper} {fuel:Nat} {listed:Array Bool} {a:Act} {w:World} (hr:Region.ready md ops listed=[i]) (ho:ops[i]?=some o)
 (h:∀ K':Act->World->Prop,Shut (∀ a w,SL cs (listed.setIfInBounds i true) w->(SL cs (listed.setIfInBounds i true) w->zzM P md ops Q cs fuel (listed.setIfInBounds i true) a w)->K' a w)->if Region.wanted o (yielded ops a.tmps)=true then Oper.wp P o a w K' Q else K' (a.put o.dst undef) w):zzM P md ops Q cs (fuel+1) listed a w:=qx4 hr (by simp) (consL ho h nilL)
theorem atD (d:Tmp) {o:Oper} {a:Act} {w:World} {K:Act->World->Prop} {E:Prop} (_:o.dst=some d) (h:if Region.wanted o (yielded ops a.tmps)=true then Oper.wp P o a w K Q else E):if Region.wanted o (yielded ops a.tmps)=true then Oper.wp P o a w K Q else E:=h
theorem gone {listed:Array Bool} {c:Nat} {p:Prop} (hg:listed.getD c true=true) (h:listed.getD c true=false):p:=by rw [hg] at h;cases h
theorem qxs {listed:Array Bool} {a:Act} {w:World} (hr:Region.ready md ops listed=[]) (h:Q .normal a w):∀ fuel,zzM P md ops Q cs fuel listed a w
 | 0=>⟨hr,h⟩
 | _+1=>⟨fun _=>h,by rw [hr];simp⟩
theorem regL (cs:List (Option Nat×(World->Prop))) {id:Nat} {a:Act} {w:World} (hm:P.follows .mixedOrders=true) (hS:SL cs (Array.replicate ops.size false) w.drew)
 (h:SL cs (Array.replicate ops.size false) w.drew->zzM P .any ops Q cs ops.size (Array.replicate ops.size false) a w.drew):(Code.region id ops true).wp P Q a w :=
 wp_region_any hm (yy6 _ _ _ _ (h hS))
theorem qx5 (cs:List (Option Nat×(World->Prop))) {l n id:Nat} {a:Act} {w:World} (hm:P.follows .mixedOrders=true) (hd:yy5 ops=true) (hQ:¬ LetsOut Q) (hS:SL cs (Array.replicate ops.size false) w.drew)
 (h:SL cs (Array.replicate ops.size false) w.drew->zzM P .any ops Q cs ops.size (Array.replicate ops.size false) a w.drew):(Code.region id ops true).wpIn (Fence.wide.inRound l) n P Q a w :=
 wpIn_region_any hm (yyT hd hQ _ _ _ _ (yy6 _ _ _ _ (h hS)))
theorem qx6 (cs:List (Option Nat×(World->Prop))) {l n id:Nat} {a:Act} {w:World} (hm:P.follows .mixedOrders=true) (hd:yy5 ops=true) (hS:SL cs (Array.replicate ops.size false) w.drew)
 (h:SL cs (Array.replicate ops.size false) w.drew->zzM P .any ops (fun e a w=>e=.normal/\Q .normal a w) cs ops.size (Array.replicate ops.size false) a w.drew):(Code.region id ops true).wpIn (Fence.wide.inRound l) n P Q a w :=
 wpIn_mono (qx5 cs hm hd qx3 hS h) fun _ _ _ h=>by rw [h.1];exact h.2
end
end
section
def zzg (b:List UInt8):Nat:=min 130 (b.takeWhile (·==b.headD 0)).length
theorem yyV (b:List UInt8):zzg b<=b.length:=by
 have:=(List.takeWhile_prefix (l:=b) (·==b.headD 0)).length_le
 unfold zzg;omega
theorem yye {b:List UInt8} (h:b≠[]):1<=zzg b:=by
 match b,h with
 | c::r,_=>unfold zzg;simp;omega
def litF:Nat->List UInt8->Nat
 | 0,_=>0
 | _+1,[]=>0
 | f+1,c::r=>if zzg (c::r)<3 then 1+litF f r else 0
def litN (b:List UInt8):Nat:=litF 128 b
theorem jjc {b:List UInt8} (h:b≠[]) (hs:zzg b<3):1<=litN b:=by
 match b,h with
 | c::r,_=>unfold litN litF;rw [if_pos hs];omega
def litB (k:Nat) (b:List UInt8):List UInt8:=UInt8.ofNat (256 - k)::b.take k
def byF:Nat->List UInt8->List UInt8
 | 0,_=>[]
 | _+1,[]=>[]
 | f+1,c::r=>if 3<=zzg (c::r) then UInt8.ofNat (zzg (c::r) - 3)::c::byF f ((c::r).drop (zzg (c::r))) else litB (litN (c::r)) (c::r)++byF f ((c::r).drop (litN (c::r)))
def byB (b:List UInt8):List UInt8:=byF b.length b
theorem vvy (f:Nat):byF f []=[]:=by cases f <;> rfl
theorem xxn:∀ (f g:Nat) (b:List UInt8),b.length<=f->b.length<=g->byF f b=byF g b
 | 0,g,b,h,_=>by
   obtain rfl:b=[]:=List.length_eq_zero_iff.1 (by omega)
   rw [vvy,vvy]
 | f+1,0,b,_,h=>by
   obtain rfl:b=[]:=List.length_eq_zero_iff.1 (by omega)
   rw [vvy,vvy]
 | f+1,g+1,[],_,_=>rfl
 | f+1,g+1,c::r,h1,h2=>by
   rw [byF,byF]
   simp only [List.length_cons] at h1 h2
   by_cases hs:3<=zzg (c::r)
   · rw [if_pos hs,if_pos hs,xxn f g _ (by rw [List.length_drop,List.length_cons];omega) (by rw [List.length_drop,List.length_cons];omega)]
   · rw [if_neg hs,if_neg hs]
     have:=jjc (b:=c::r) (by simp) (by omega)
     rw [xxn f g _ (by rw [List.length_drop,List.length_cons];omega) (by rw [List.length_drop,List.length_cons];omega)]
theorem qxv:byB []=[]:=rfl
theorem qxw {b:List UInt8} (h:3<=zzg b):byB b=[UInt8.ofNat (zzg b - 3),b.headD 0]++byB (b.drop (zzg b)):=by
 match b,h with
 | [],h=>simp [zzg] at h
 | c::r,h =>
   have e:byB (c::r)=UInt8.ofNat (zzg (c::r) - 3)::c::byF r.length ((c::r).drop (zzg (c::r))):=by
    unfold byB;rw [List.length_cons,byF,if_pos h]
   rw [e,xxn _ ((c::r).drop (zzg (c::r))).length _ (by rw [List.length_drop,List.length_cons];omega) zN]
   rfl
theorem qxx {b:List UInt8} (h0:b≠[]) (h:zzg b<3):byB b=litB (litN b) b++byB (b.drop (litN b)):=by
 match b,h0,h with
 | c::r,h0,h =>
   have hp:=jjc h0 h
   have e:byB (c::r)=litB (litN (c::r)) (c::r)++byF r.length ((c::r).drop (litN (c::r))):=by
    unfold byB;rw [List.length_cons,byF,if_neg (by omega)]
   rw [e,xxn _ ((c::r).drop (litN (c::r))).length _ (by rw [List.length_drop,List.length_cons];omega) zN]
   rfl
def Lit (l b:List UInt8):Prop:=∀ i,i<l.length->zzg ((l++b).drop i)<3
def yyW:Nat->List UInt8->List UInt8
 | 0,_=>[]
 | _+1,[]=>[]
 | f+1,c::r=>litB (min 128 (r.length+1)) (c::r)++yyW f ((c::r).drop 128)
theorem yyz (f:Nat):yyW f []=[]:=by cases f <;> rfl
theorem xxB:∀ (f g:Nat) (b:List UInt8),b.length<=f->b.length<=g->yyW f b=yyW g b
 | 0,g,b,h,_=>by
   obtain rfl:b=[]:=List.length_eq_zero_iff.1 (by omega)
   rw [yyz,yyz]
 | f+1,0,b,_,h=>by
   obtain rfl:b=[]:=List.length_eq_zero_iff.1 (by omega)
   rw [yyz,yyz]
 | f+1,g+1,[],_,_=>rfl
 | f+1,g+1,c::r,h1,h2=>by
   simp only [List.length_cons] at h1 h2
   rw [yyW,yyW,xxB f g _ (by rw [List.length_drop,List.length_cons];omega) (by rw [List.length_drop,List.length_cons];omega)]
def yyf (l:List UInt8):List UInt8:=yyW l.length l
theorem vvT:yyf []=[]:=rfl
theorem yy7 {l:List UInt8} (h:l≠[]):yyf l=litB (min 128 l.length) l++yyf (l.drop 128):=by
 match l,h with
 | c::r,_ =>
   have e:yyf (c::r)=litB (min 128 (r.length+1)) (c::r)++yyW r.length ((c::r).drop 128):=by unfold yyf;rw [List.length_cons,yyW]
   rw [e,xxB _ ((c::r).drop 128).length _ (by rw [List.length_drop,List.length_cons];omega) zN]
   rfl
theorem jjd:∀ (f:Nat) (l b:List UInt8),Lit l b->(b=[]∨3<=zzg b)->litF f (l++b)=min f l.length
 | 0,l,b,_,_=>by simp [litF]
 | f+1,[],b,_,h=>by
   rcases h with rfl | h
   · simp [litF]
   · match b,h with
     | [],h=>simp [zzg] at h
     | c::r,h=>rw [List.nil_append,litF,if_neg (by omega)];simp
 | f+1,c::l,b,hl,h=>by
   have h0:=hl 0 (by simp)
   rw [List.drop_zero] at h0
   rw [List.cons_append,litF,if_pos (by rwa [List.cons_append] at h0),jjd f l b (fun i hi=>by have:=hl (i+1) (by simp;omega);simpa using this) h]
   simp;omega
theorem qz7 {l b:List UInt8} (h:Lit l b) (k:Nat):Lit (l.drop k) b:=fun i hi=>by
 rw [List.length_drop] at hi
 have:=h (k+i) (by omega)
 rwa [show ((l.drop k++b).drop i)=(l++b).drop (k+i) by rw [<-List.drop_drop,List.drop_append_of_le_length (l₁:=l) (by omega)]]
theorem vvU {l b:List UInt8} (hl:Lit l b) (h:b=[]∨3<=zzg b):byB (l++b)=yyf l++byB b:=by
 generalize hn:l.length=n
 induction n using Nat.strongRecOn generalizing l with
 | _ n ih =>
   by_cases h0:l=[]
   · subst h0;rfl
   · have hp:=List.length_pos_iff.2 h0
     have h3:=hl 0 hp
     rw [List.drop_zero] at h3
     have hk:litN (l++b)=min 128 l.length:=jjd 128 l b hl h
     rw [qxx (by simp [h0]) h3,hk,yy7 h0]
     have e1:(l++b).drop (min 128 l.length)=l.drop 128++b:=by
      rw [List.drop_append_of_le_length (by omega)]
      congr 1
      by_cases h128:128<=l.length
      · rw [Nat.min_eq_left h128]
      · rw [Nat.min_eq_right (by omega),List.drop_length,List.drop_of_length_le (by omega)]
     have e2:litB (min 128 l.length) (l++b)=litB (min 128 l.length) l:=by unfold litB;rw [List.take_append_of_le_length (by omega)]
     rw [e1,e2,ih (l.drop 128).length (by rw [List.length_drop];omega) (qz7 hl 128) rfl,List.append_assoc]
theorem qz8 {l b:List UInt8} (hl:Lit l b) (h:3<=zzg b):byB (l++b)=yyf l++[UInt8.ofNat (zzg b - 3),b.headD 0]++byB (b.drop (zzg b)):=by
 rw [vvU hl (.inr h),qxw h,List.append_assoc]
theorem kqA {b:List UInt8} (h:zzg b=2):zzg (b.drop 1)<3:=by
 match b,h with
 | [],h=>simp [zzg] at h
 | [c],h=>simp [zzg] at h
 | [c,d],h=>unfold zzg;have:=(List.takeWhile_prefix (l:=[d]) (·==[d].headD 0)).length_le;simp at this;simp
 | c::d::e::r,h =>
   have hcd:d=c:=by
    apply Classical.byContradiction;intro hne
    have:((d==c)=false):=by simpa using hne
    simp [zzg,this] at h
   subst hcd
   have hne:(e==d)=false:=by
    apply Classical.byContradiction;intro hh
    have:e==d:=by simpa using hh
    simp [zzg,this] at h
    omega
   simp [zzg,hne]
theorem qz9 {l b:List UInt8} (hl:Lit l b) (h:zzg b<3) (h0:b≠[]):Lit (l++b.take (zzg b)) (b.drop (zzg b)):=fun i hi=>by
 have hp:=yye h0
 rw [List.append_assoc,List.take_append_drop]
 rw [List.length_append,List.length_take] at hi
 by_cases hil:i<l.length
 · exact hl i hil
 · have hle:=yyV b
   rw [List.drop_append,List.drop_of_length_le (by omega),List.nil_append]
   obtain h1 | h1:i - l.length=0∨(i - l.length=1/\zzg b=2):=by omega
   · rw [h1,List.drop_zero];exact h
   · rw [h1.1];exact kqA h1.2
theorem kqB (b:List UInt8):Lit [] b:=fun i hi=>by simp at hi
end
section
structure Rn where
 c:UInt8
 n:Nat
 one:1<=n
 most:n<=130
theorem vvV (b:List UInt8):zzg b<=130:=by unfold zzg;omega
def rnOf (b:List UInt8) (h:b≠[]):Rn:=⟨b.headD 0,zzg b,yye h,vvV b⟩
def rnF:Nat->List UInt8->List Rn
 | 0,_=>[]
 | f+1,b=>if h:b=[] then [] else rnOf b h::rnF f (b.drop (zzg b))
def rnL (b:List UInt8):List Rn:=rnF b.length b
theorem yyM (f:Nat):rnF f []=[]:=by cases f <;> simp [rnF]
theorem jje:∀ (f g:Nat) (b:List UInt8),b.length<=f->b.length<=g->rnF f b=rnF g b
 | 0,g,b,h,_=>by
   obtain rfl:b=[]:=List.length_eq_zero_iff.1 (by omega)
   rw [yyM,yyM]
 | f+1,0,b,_,h=>by
   obtain rfl:b=[]:=List.length_eq_zero_iff.1 (by omega)
   rw [yyM,yyM]
 | f+1,g+1,b,h1,h2=>by
   by_cases hb:b=[]
   · rw [hb,yyM,yyM]
   · have:=yye hb
     rw [rnF,rnF,dif_neg hb,dif_neg hb,jje f g _ (by rw [List.length_drop];omega) (by rw [List.length_drop];omega)]
theorem kqC:rnL []=[]:=rfl
theorem vvz {b:List UInt8} (h:b≠[]):rnL b=rnOf b h::rnL (b.drop (zzg b)):=by
 have hp:=yye h
 have hl:=List.length_pos_iff.2 h
 unfold rnL
 obtain⟨k,hk⟩:∃ k,b.length=k+1:=⟨b.length - 1,by omega⟩
 rw [hk,rnF,dif_neg h,jje k _ (b.drop (zzg b)) (by rw [List.length_drop];omega) zN]
theorem kqD:∀ (f:Nat) (b:List UInt8),(rnF f b).length<=b.length
 | 0,_=>Nat.zero_le _
 | f+1,b=>by
   by_cases h:b=[]
   · rw [h,yyM];exact Nat.le_refl _
   · have:=yye h
     have h2:=yyV b
     have h3:=kqD f (b.drop (zzg b))
     rw [rnF,dif_neg h,List.length_cons]
     rw [List.length_drop] at h3
     omega
theorem kqE (b:List UInt8):(rnL b).length<=b.length:=kqD _ b
theorem vvW {b:List UInt8} {j:Nat} (h:j<zzg b):b[j]?=some (b.headD 0):=by
 have h1:j<(b.takeWhile (·==b.headD 0)).length:=by unfold zzg at h;omega
 obtain⟨r,hr⟩:=List.takeWhile_prefix (l:=b) (·==b.headD 0)
 have h2:(b.takeWhile (·==b.headD 0))[j]=b.headD 0:=by
  have:=List.all_eq_true.1 (List.all_takeWhile (p:=(·==b.headD 0)) (l:=b)) _ (List.getElem_mem h1)
  simpa using this
 have h3:b[j]?=(b.takeWhile (·==b.headD 0)++r)[j]?:=by rw [hr]
 rw [h3,List.getElem?_append_left h1,List.getElem?_eq_getElem h1,h2]
theorem jjM {b:List UInt8} (h1:zzg b<130) (h2:zzg b<b.length):b[zzg b]≠b.headD 0:=by
 have e:zzg b=(b.takeWhile (·==b.headD 0)).length:=by unfold zzg at *;omega
 intro hh
 have h3:∀ (l:List UInt8) (p:UInt8->Bool) (hk:(l.takeWhile p).length<l.length),p (l[(l.takeWhile p).length])=false:=by
  intro l p
  induction l with
  | nil=>intro hk;simp at hk
  | cons a r ih =>
    intro hk
    cases hp:p a with
    | false=>simp [hp]
    | true =>
      simp only [List.takeWhile_cons,hp,if_true,List.length_cons,List.getElem_cons_succ] at hk ⊢
      exact ih (by simpa using hk)
 have h4:=h3 b (·==b.headD 0) (by rw [<-e];exact h2)
 simp only [<-e] at h4
 rw [hh] at h4
 simp at h4
theorem jjN {b:List UInt8}:b.take (zzg b)=List.replicate (zzg b) (b.headD 0):=by
 have hle:=yyV b
 apply List.ext_getElem?
 intro j
 by_cases hj:j<zzg b
 · rw [List.getElem?_take_of_lt hj,vvW hj,List.getElem?_replicate,if_pos hj]
 · rw [List.getElem?_eq_none (by rw [List.length_take];omega),List.getElem?_eq_none (by rw [List.length_replicate];omega)]
theorem jjO {b:List UInt8} {n:Nat} (h1:1<=n) (h2:n<=b.length) (h3:n<=130) (hs:∀ j,j<n->b[j]?=some (b.headD 0)) (he:n=130∨n=b.length∨∃ h:n<b.length,b[n]≠b.headD 0):zzg b=n:=by
 rcases Nat.lt_trichotomy (zzg b) n with h | h | h
 · have hb:=jjM (b:=b) (by omega) (by omega)
   have:=hs (zzg b) h
   rw [List.getElem?_eq_getElem (by omega)] at this
   exact absurd (Option.some.inj this) hb
 · exact h
 · have hle:=yyV b
   have h130:=vvV b
   rcases he with he | he | ⟨hn,he⟩
   · omega
   · omega
   · have:=vvW h
     rw [List.getElem?_eq_getElem hn] at this
     exact absurd (Option.some.inj this) he
def zzS (s:List UInt8×List UInt8) (x:Rn):List UInt8×List UInt8:=if x.n<3 then (s.1,s.2++List.replicate x.n x.c) else (s.1++yyf s.2++[UInt8.ofNat (x.n - 3),x.c],[])
def yys (l:List Rn):List UInt8×List UInt8:=l.foldl zzS ([],[])
theorem vvc (l:List Rn) (x:Rn):yys (l++[x])=zzS (yys l) x:=by simp [yys]
theorem qxy:∀ (k:Nat) (b:List UInt8) (s:List UInt8×List UInt8),b.length=k->Lit s.2 b->((rnL b).foldl zzS s).1++yyf ((rnL b).foldl zzS s).2=s.1++byB (s.2++b):=by
 intro k
 induction k using Nat.strongRecOn with
 | _ k ih =>
   intro b s hk hl
   by_cases hb:b=[]
   · subst hb
     rw [kqC,List.foldl_nil,vvU hl (.inl rfl),qxv,List.append_nil]
   · have hp:=yye hb
     have hle:=yyV b
     rw [vvz hb,List.foldl_cons]
     have hlt:(b.drop (zzg b)).length<k:=by rw [List.length_drop];omega
     by_cases h3:zzg b<3
     · have e:zzS s (rnOf b hb)=(s.1,s.2++b.take (zzg b)):=by
        unfold zzS rnOf
        rw [if_pos h3,jjN]
       rw [e,ih _ hlt _ _ rfl (qz9 hl h3 hb)]
       simp only
       rw [List.append_assoc s.2,List.take_append_drop]
     · have e:zzS s (rnOf b hb)=(s.1++yyf s.2++[UInt8.ofNat (zzg b - 3),b.headD 0],[]):=by
        unfold zzS rnOf
        rw [if_neg h3]
       rw [e,ih _ hlt _ _ rfl (kqB _)]
       simp only
       rw [List.nil_append,qz8 hl (by omega)]
       simp
theorem qxz (b:List UInt8):(yys (rnL b)).1++yyf (yys (rnL b)).2=byB b:=by
 have:=qxy b.length b ([],[]) rfl (kqB b)
 rw [List.nil_append,List.nil_append] at this
 exact this
theorem xxC (l:List UInt8):(yyf l).length<=2*l.length:=by
 generalize hn:l.length=n
 induction n using Nat.strongRecOn generalizing l with
 | _ n ih =>
   by_cases h:l=[]
   · subst h;simp [vvT]
   · have hp:=List.length_pos_iff.2 h
     have:=ih (l.drop 128).length (by rw [List.length_drop];omega) (l.drop 128) rfl
     rw [yy7 h,List.length_append,litB,List.length_cons,List.length_take]
     rw [List.length_drop] at this
     omega
theorem xxD:∀ (l:List Rn),(yys l).1.length+2*(yys l).2.length<=262*l.length:=by
 intro l
 have:∀ (l:List Rn) (s:List UInt8×List UInt8),(l.foldl zzS s).1.length+2*(l.foldl zzS s).2.length<=s.1.length+2*s.2.length+262*l.length:=by
  intro l
  induction l with
  | nil=>intro s;simp
  | cons x r ih =>
    intro s
    rw [List.foldl_cons,List.length_cons]
    have h1:=ih (zzS s x)
    have h2:(zzS s x).1.length+2*(zzS s x).2.length<=s.1.length+2*s.2.length+262:=by
     unfold zzS
     have hx:=x.most
     split
     · simp;omega
     · have:=xxC s.2
       simp;omega
    omega
 have h:=this l ([],[])
 simpa [yys] using h
end
end Go.Proofs.YtpmglcachffojaaGreatDoor
