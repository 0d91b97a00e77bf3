/- A part of what None leans on. -/
import Derived.Test.YtpmglcachffojaaGreatDoorZ14
import Derived.Laws.EntriesVeiled
import Derived.Lib.MakeNoZero
import Derived.Laws.IdiomCopy
set_option maxRecDepth 100000
set_option maxHeartbeats 16000000
namespace Go.Proofs.YtpmglcachffojaaGreatDoor
section
open Go Go.RowKit
section
variable {P:Program} (w:World) {ops:Array Oper} {rest:List Oper} {o:Oper} {a:Act} {Q:Exit->Act->World->Prop}
theorem wp_cp {K:Act->World->Prop} {t1 t2 e:TypeId} (d s:Operand) (ho:o.op=.call { callee:=.builtin .copy,args:=#[d,s],argTypes:=#[t1,t2] }) (hu:P.underlying t1=some (.slice e)) (he:(P.info? e).map (·.size)=some 1)
 (g q dl dc:Nat) (ad:Addr) (sl sc:Nat) (cs:List Value) (hd:a.eval d=.slice (some ⟨g,q,none⟩) dl dc) (hs:a.eval s=.slice (some ad) sl sc) (hn:cs.length=Nat.min sl dl)
 (hsrc:∀ j v,cs[j]?=some v->w.cell? (ad.add j)=some v) (hc:∀ j,j<cs.length->(w.cell? ⟨g,q+j,none⟩).isSome=true) (hf:∀ j,j<cs.length->w.frozen? ⟨g,q+j,none⟩=false) (h1:∀ v∈cs,v.oneCell'=true)
 (h:K (a.put o.dst (.int .i64 (cs.length:Int))) (w.setCells g q cs)):o.wp P a w K Q:=by
 have hrun:=run_copy_cells (P:=P) w t1 t2 o.type e g q dl dc ad sl sc cs hu he hn hsrc hc hf h1
 unfold Oper.wp execOp
 simp only [ho,resolve,invoke,builtin,Sem.run_bind,Sem.run_pure,Result.andThen_ok,List.map_toArray,List.map_cons,List.map_nil,hd,hs,hrun]
 exact h
theorem qxN {K:Act->World->Prop} {E':Prop} {t1 t2 e:TypeId} (hgd:o.guard=none) (d s:Operand) (ho:o.op=.call { callee:=.builtin .copy,args:=#[d,s],argTypes:=#[t1,t2] }) (hu:P.underlying t1=some (.slice e)) (he:(P.info? e).map (·.size)=some 1)
 (g q dl dc:Nat) (ad:Addr) (sl sc:Nat) (cs:List Value) (hd:a.eval d=.slice (some ⟨g,q,none⟩) dl dc) (hs:a.eval s=.slice (some ad) sl sc) (hn:cs.length=Nat.min sl dl)
 (hsrc:∀ j v,cs[j]?=some v->w.cell? (ad.add j)=some v) (hc:∀ j,j<cs.length->(w.cell? ⟨g,q+j,none⟩).isSome=true) (hf:∀ j,j<cs.length->w.frozen? ⟨g,q+j,none⟩=false) (h1:∀ v∈cs,v.oneCell'=true)
 (h:K (a.put o.dst (.int .i64 (cs.length:Int))) (w.setCells g q cs)):if Region.wanted o (yielded ops a.tmps)=true then Oper.wp P o a w K Q else E':=by
 have hw:Region.wanted o (yielded ops a.tmps)=true:=by simp [Region.wanted,hgd]
 rw [if_pos hw]
 exact wp_cp w d s ho hu he g q dl dc ad sl sc cs hd hs hn hsrc hc hf h1 h
end
structure RpR (w0:World) (g n p:Nat) (x:UInt8) (w:World):Prop where
 below:Below w0.heap.size w0 w
 base:w0.heap.size<=g
 lt:g<w.heap.size
 there:∀ j,j<n->(w.cell? ⟨g,j,none⟩).isSome=true
 free:∀ j,w.frozen? ⟨g,j,none⟩=false
 have_:∀ j,j<p->w.cell? ⟨g,j,none⟩=some (.int .u8 (x.toNat:Int))
theorem yy0 {B g:Nat} {a:World} (hb:B<=g):∀ (vs:List Value) (o:Nat) {w:World},Below B a w->Below B a (w.setCells g o vs)
 | [],_,_,h=>h
 | v::r,o,_,h=>yy0 hb r (o+1) (h.setCell (p:=⟨g,o,none⟩) hb v)
theorem RpR.fill {w0 w:World} {g n p k:Nat} {x:UInt8} (h:RpR w0 g n p x w) (hk:p+k<=n):RpR w0 g n (p+k) x (w.setCells g p (List.replicate k (.int .u8 (x.toNat:Int)))):=by
 have hin:∀ j,j<(List.replicate k (Value.int .u8 (x.toNat:Int))).length->(w.cell? ⟨g,p+j,none⟩).isSome=true:=fun j hj=>h.there _ (by rw [List.length_replicate] at hj;omega)
 have hs:w.heap.size<=(w.setCells g p (List.replicate k (.int .u8 (x.toNat:Int)))).heap.size:=(yy0 (B:=0) (a:=w) (g:=g) (Nat.zero_le _) _ p (Below.refl 0 w)).size
 refine⟨yy0 h.base _ _ h.below,h.base,Nat.lt_of_lt_of_le h.lt hs,fun j hj=>?_,fun j=>by rw [World.frozen?_setCells];exact h.free j,fun j hj=>?_⟩
 · by_cases hjp:p<=j/\j<p+k
   · obtain⟨i,rfl⟩:∃ i,j=p+i:=⟨j - p,by omega⟩
     rw [World.cell?_setCells_in g _ p w hin i (by rw [List.length_replicate];omega)]
     simp
   · rw [World.cell?_setCells_out g _ p w ⟨g,j,none⟩ (fun _ _=>by rw [List.length_replicate];simp only;omega)]
     exact h.there j hj
 · by_cases hjp:j<p
   · rw [World.cell?_setCells_out g _ p w ⟨g,j,none⟩ (fun _ _=>.inl hjp)]
     exact h.have_ j hjp
   · obtain⟨i,rfl⟩:∃ i,j=p+i:=⟨j - p,by omega⟩
     rw [World.cell?_setCells_in g _ p w hin i (by rw [List.length_replicate];omega)]
     simp
theorem qzk:(Tryz.prog.info? 5).map (·.size)=some 1:=by kernel_rfl
theorem vvn (F:Nat->Prop) (A:Option Addr) (c:Nat) (x:UInt8) (n:Nat) (hn1:1<=n) (hn:n<=8192) (w:World) (h:Bs F w A 1 c [x]) :
 Calls Tryz.prog 203 #[.slice A 1 c,.int .i64 (n:Int)] w fun e w'=>∃ g,e=.returned (.slice (some ⟨g,0,none⟩) n n)/\Bs (fun _=>True) w' (some ⟨g,0,none⟩) n n (List.replicate n x)/\Below w.heap.size w w':=by
 obtain⟨b,o,rfl,_,hbl,hx0⟩:=uuF h (k:=0) (by simp)
 rw [Nat.add_zero] at hx0
 have hx0':w.cell? ⟨b,o,none⟩=some (.int .u8 (x.toNat:Int)):=hx0
 have hcap:=h.2.1
 obtain⟨cs,hrun,hle,hmax⟩:=Lib.run_makeNoZero (P:=Tryz.prog) w #[3] 41 5 zzG n (by omega)
 have hcall:(callFunc 242 #[.int .i64 (n:Int)]).run Tryz.prog w=.ok (.value (.slice (some ⟨w.heap.size,0,none⟩) n cs.size)) (w.drew.drew.alloc (.cells cs 5)):=by
  rw [run_callFunc_extern Tryz.func242 (by kernel_rfl) (by kernel_rfl) (by kernel_rfl) (e:=Extern.BytealgMakeNoZero.makeNoZero #[3] #[41]) (by kernel_rfl),hrun]
  rfl
 obtain⟨g,hg⟩:∃ g,g=w.heap.size:=⟨_,rfl⟩
 obtain⟨w1,hw1⟩:∃ w1,w1=w.drew.drew.alloc (.cells cs 5):=⟨_,rfl⟩
 have hb1:Below w.heap.size w w1:=by rw [hw1];exact ((Below.refl w.heap.size w).drew.drew).alloc zN _
 have hgc:w1.heap[g]?=some (.cells cs 5 (0,0)):=by rw [hw1,hg];exact heap_alloc_new w.drew.drew _
 have HR0:=zH (show RpR w g n 0 x w1 from ⟨hb1,by omega,zzc hgc,fun j hj=>by rw [zC hgc];simp;omega,fun j=>zF hgc j,fun j hj=>absurd hj (Nat.not_lt_zero j)⟩)
 rw [<-hg,<-hw1] at hcall
 have HX:=zH (zzt hb1 hx0')
 have i0:(0:Int)<(n:Int):=by omega
 have i1:(n:Int)<=(cs.size:Int):=by omega
 have q0:((n:Int)==0)=false:=zzA (by omega)
 have i2:n<18446744073709551616:=by omega
 have i3:¬ (8192:Int)<(n:Int):=by omega
 have e1:1*n / 18446744073709551616=0:=by omega
 have e2:1*n % 18446744073709551616=n:=by omega
 have HG:=zH hg;have HBL:=zH hbl
 have HE1:=zH e1;have HE2:=zH e2
 have i4:(0:Int)<=(n:Int):=by omega
 clear h hx0 hx0' hw1 hb1 hgc hrun hmax e1 e2 hg hbl
 go_enter Tryz.func203,Tryz.ntmps203
 go_upto_region 17 with (first
  | (go_at_call 190;refine ((Tryz.bits_Mul 1 n (by decide) i2 _).mono (R':=fun e w'=>e=_/\w=w') fun e w' h=>⟨h.1,h.2.symm⟩).mono ?_;rintro e w2 ⟨rfl,rfl⟩;rw [HE1.out,HE2.out])
  | fail)
 have HR1:=zH (HR0.out.fill (k:=1) (by omega))
 have hmin:([Value.int .u8 (x.toNat:Int)]).length=Nat.min 1 n:=(Nat.min_eq_left hn1).symm
 have hsrc:∀ j v,([Value.int .u8 (x.toNat:Int)])[j]?=some v->w1.cell? ((⟨b,o,none⟩:Addr).add j)=some v:=fun j v hj=>by
  match j,hj with
  | 0,hj=>rw [yyL];simp at hj;rw [<-hj];exact HX.out
 have hthere:∀ j,j<([Value.int .u8 (x.toNat:Int)]).length->(w1.cell? ⟨g,0+j,none⟩).isSome=true:=fun j hj=>HR0.out.there _ (by simp at hj;omega)
 have hfree:∀ j,j<([Value.int .u8 (x.toNat:Int)]).length->w1.frozen? ⟨g,0+j,none⟩=false:=fun j _=>HR0.out.free _
 have hcp:(Builtin.copy_ #[41,41] 3 #[.slice (some ⟨g,0,none⟩) n n,.slice (some ⟨b,o,none⟩) 1 c]).run Tryz.prog w1=.ok (.int .i64 1) (w1.setCells g 0 [.int .u8 (x.toNat:Int)]) :=
  run_copy_cells (P:=Tryz.prog) w1 41 41 3 5 g 0 n n ⟨b,o,none⟩ 1 c [.int .u8 (x.toNat:Int)] zzG qzk hmin hsrc hthere hfree (by simp [Value.oneCell'])
 go_wp2_with fail
 obtain⟨w3,hw3⟩:∃ w3,w3=w1.setCells g 0 [.int .u8 (x.toNat:Int)]:=⟨_,rfl⟩
 have hr3:RpR w g n 1 x w3:=by rw [hw3];have:=HR1.out;simpa using this
 have HR3:=zH hr3
 try rw [<-hw3]
 clear hw3 hr3 HR0 HR1 hmin hsrc hthere hfree hcall hle hcap hcp
 go_loopw [10] (fun pv wr=>∃ p:Nat,1<=p/\p<=n/\pv=.int .i64 (p:Int)/\RpR w g n p x wr) (fun pv _=>n - (intOf pv).toNat)
 case atStart=>exact⟨1,Nat.le_refl _,hn1,rfl,HR3.out⟩
 case round =>
  obtain⟨p,hp1,hpn,rfl,hr⟩:=hrel
  have HR:=zH hr
  clear hr
  by_cases hlt:p<n
  · obtain⟨k,hk⟩:∃ k,k=min p (n - p):=⟨_,rfl⟩
    have hk1:1<=k/\k<=p/\p+k<=n:=by omega
    have z0:(0:Int)<=(p:Int):=by omega
    have z1:(p:Int)<(n:Int):=by omega
    have z2:(p:Int)<=(n:Int):=by omega
    have zne:¬ n=p:=by omega
    have zm:min (p:Int) (n:Int)=(p:Int):=by omega
    have hlen:(List.replicate k (Value.int .u8 (x.toNat:Int))).length=Nat.min p (n - p):=by rw [List.length_replicate,hk]
    have hsrc:∀ j v,(List.replicate k (Value.int .u8 (x.toNat:Int)))[j]?=some v->wr.drew.cell? ((⟨g,0,none⟩:Addr).add j)=some v:=fun j v hj=>by
     rw [yyL,Nat.zero_add]
     have hjk:j<k:=by
      rcases Nat.lt_or_ge j k with h | h
      · exact h
      · rw [List.getElem?_eq_none (by rw [List.length_replicate];exact h)] at hj;cases hj
     rw [List.getElem?_replicate,if_pos hjk] at hj
     rw [<-Option.some.inj hj]
     exact HR.out.have_ j (by omega)
    have hthere:∀ j,j<(List.replicate k (Value.int .u8 (x.toNat:Int))).length->(wr.drew.cell? ⟨g,p+j,none⟩).isSome=true:=fun j hj=>HR.out.there _ (by rw [List.length_replicate] at hj;omega)
    have hfree:∀ j,j<(List.replicate k (Value.int .u8 (x.toNat:Int))).length->wr.drew.frozen? ⟨g,p+j,none⟩=false:=fun j _=>HR.out.free _
    have hone:∀ v∈List.replicate k (Value.int .u8 (x.toNat:Int)),v.oneCell'=true:=fun v hv=>by rw [(List.mem_replicate.1 hv).2];rfl
    have HF:=zH ((show RpR w g n p x wr.drew from ⟨HR.out.below.drew,HR.out.base,HR.out.lt,HR.out.there,HR.out.free,HR.out.have_⟩).fill (k:=k) hk1.2.2)
    have HK1:=zH hk1
    have HLR:=zH (show ((List.replicate k (Value.int .u8 (x.toNat:Int))).length:Int)=(k:Int) by rw [List.length_replicate])
    have HWR:=zH (show IntKind.i64.wrap ((p:Int)+(k:Int))=(p:Int)+(k:Int) by rw [IntKind.wrap_i64];omega)
    clear hk hk1
    go_upto_region 20 with fail
    go_region_law (first
     | (refine qxN wr.drew rfl (.tmp 70) (.tmp 73) rfl zzG qzk g p (n - p) (n - p) ⟨g,0,none⟩ p n (List.replicate k (.int .u8 (x.toNat:Int))) (by simp only [Act.put,List.getElem_toArray,List.getElem_cons_succ,List.getElem_cons_zero,List.setIfInBounds_toArray,List.set_cons_succ,List.set_cons_zero];rfl) (by simp only [Act.put,List.getElem_toArray,List.getElem_cons_succ,List.getElem_cons_zero,List.setIfInBounds_toArray,List.set_cons_succ,List.set_cons_zero];rfl) hlen hsrc hthere hfree hone ?_;rw [HLR.out])
     | fail)
    (try simp only [Act.put,List.getElem_toArray,List.getElem_cons_succ,List.getElem_cons_zero,List.setIfInBounds_toArray,List.set_cons_succ,List.set_cons_zero])
    rw [HWR.out]
    go_wp2_with fail
    go_roundw
    case rel=>exact⟨p+k,by omega,by have:=HK1.out;omega,by go_num,HF.out⟩
    case measure=>have:=HK1.out;simp [intOf];omega
  · obtain rfl:p=n:=by omega
    go_wp2_with fail
    go_ret
    refine⟨g,rfl,zqa (fun _=>⟨g,0,rfl,trivial,HR.out.lt,fun j u hu=>?_⟩) (by rw [List.length_replicate]) zN (by unfold maxLen;omega),HR.out.below⟩
    rw [Nat.zero_add]
    have hj:j<p:=by
     rcases Nat.lt_or_ge j p with h | h
     · exact h
     · rw [List.getElem?_eq_none (by rw [zzs,List.length_replicate];exact h)] at hu;cases hu
    rw [yyN _ _ (by rw [List.length_replicate];exact hj),List.getElem_replicate] at hu
    rw [<-Option.some.inj hu]
    exact HR.out.have_ j hj
end
end Go.Proofs.YtpmglcachffojaaGreatDoor
