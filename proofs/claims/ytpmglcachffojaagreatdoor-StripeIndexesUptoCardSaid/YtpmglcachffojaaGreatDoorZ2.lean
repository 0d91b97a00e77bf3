/- A part of what Indexes leans on. -/
import Derived.Test.YtpmglcachffojaaGreatDoorZ1
import Derived.Deep.RegionLaw
set_option maxRecDepth 100000
set_option maxHeartbeats 16000000
namespace Go.Proofs.YtpmglcachffojaaGreatDoor
section
open Go Go.RowKit
section
variable {P:Program} {ops:Array Oper} {o:Oper} {a:Act} {w:World} {Q:Exit->Act->World->Prop}
theorem wp_callee {K : Act → World → Prop} (f : FuncId) {fn : Func} (hfn : P.funcs[f]? = some fn) (hname : (fn.name == "runtime.NumGoroutine") = false) (hbody : fn.body.isNone = false)
 (xs:Array Operand) (ts:Array TypeId) (ho:o.op=.call { callee:=.value (.func f),args:=xs,argTypes:=ts }) (vs:Array Value) (hv:xs.map a.eval=vs) {R:Ending->World->Prop} (h:Calls P f vs w R)
 (hR:∀ e w',R e w'->∃ v,e=.returned v/\K (a.put o.dst v) w'):o.wp P a w K Q:=by
 have hrun:(execOp a.eval o).run P w=.ok (.enter f vs) w:=by
  unfold execOp
  simp only [ho,resolve,hv]
  have h1 : ¬ fn.name = "runtime.NumGoroutine" := by simpa using hname
  have h2:¬ fn.body=none:=fun e=>by rw [e] at hbody;cases hbody
  simp [Act.eval,Deferred.ofValue,invoke,callFunc,hfn,h1,h2]
 unfold Oper.wp
 rw [hrun,Oper.upon_enter]
 refine h.mono fun e w' hr=>?_
 obtain⟨v,rfl,hk⟩:=hR e w' hr
 exact hk
theorem zq8 {K : Act → World → Prop} {E' : Prop} (hgd : o.guard = none) (f : FuncId) {fn : Func} (hfn : P.funcs[f]? = some fn) (hname : (fn.name == "runtime.NumGoroutine") = false) (hbody : fn.body.isNone = false)
 (xs:Array Operand) (ts:Array TypeId) (ho:o.op=.call { callee:=.value (.func f),args:=xs,argTypes:=ts }) (vs:Array Value) (hv:xs.map a.eval=vs) {R:Ending->World->Prop} (h:Calls P f vs w R)
 (hR:∀ e w',R e w'->∃ v,e=.returned v/\K (a.put o.dst v) w'):if Region.wanted o (yielded ops a.tmps)=true then Oper.wp P o a w K Q else E':=by
 have hw:Region.wanted o (yielded ops a.tmps)=true:=by simp [Region.wanted,hgd]
 rw [if_pos hw]
 exact wp_callee f hfn hname hbody xs ts ho vs hv h hR
theorem uuI {K : Act → World → Prop} {E' : Prop} (hgd : o.guard = none) (f : FuncId) {fn : Func} (hfn : P.funcs[f]? = some fn) (hname : (fn.name == "runtime.NumGoroutine") = false) (hbody : fn.body.isNone = false)
 (x y:Operand) (ts:Array TypeId) (ho:o.op=.call { callee:=.value (.func f),args:=#[x,y],argTypes:=ts }) (u v:Value) (hx:a.eval x=u) (hy:a.eval y=v) {R:Ending->World->Prop} (h:Calls P f #[u,v] w R)
 (hR:∀ e w',R e w'->∃ v,e=.returned v/\K (a.put o.dst v) w'):if Region.wanted o (yielded ops a.tmps)=true then Oper.wp P o a w K Q else E' :=
 zq8 hgd f hfn hname hbody #[x,y] ts ho #[u,v] (by simp [hx,hy]) h hR
end
end
end Go.Proofs.YtpmglcachffojaaGreatDoor
