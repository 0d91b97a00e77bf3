/- A part of what Indexes leans on. -/
import Derived.Test.YtpmglcachffojaaGreatDoorZ17
import Derived.Laws.EntriesVeiled
import Derived.Lib.MakeNoZero
import Derived.Laws.IdiomCopy
set_option maxRecDepth 100000
set_option maxHeartbeats 16000000
namespace Go.Proofs.YtpmglcachffojaaGreatDoor
section
open Go Go.RowKit
def zqP (F:Nat->Prop) (w:World) (cs:List Value):Nat->Prop
 | 0=>cs=[.func (.func 245) #[] #[]]
 | 1=>cs=[.func (.func 246) #[] #[]]
 | 2=>cs=[.func (.func 247) #[] #[]]
 | c+3=>∃ b,cs=[.func (.func 248) #[] #[.pointer (some ⟨b,0,none⟩)]]/\F b/\b<w.heap.size/\w.cell? ⟨b,0,none⟩=some (.int .i64 (c:Int))
theorem jjF {F:Nat->Prop} {w:World} {cs:List Value} {j:Nat} (h:zqP F w cs j):∃ u:Value,cs=[u]/\u.oneCell'=true:=by
 match j,h with
 | 0,h=>exact⟨_,h,rfl⟩
 | 1,h=>exact⟨_,h,rfl⟩
 | 2,h=>exact⟨_,h,rfl⟩
 | _+3,⟨_,h,_⟩=>exact⟨_,h,rfl⟩
def tKind:Ty Nat where
 size:=1
 rep F w cs j:=zqP F w cs j
 len h:=by obtain⟨_,rfl,_⟩:=jjF h;rfl
 one h:=by obtain⟨_,rfl,h1⟩:=jjF h;intro u hu;simp at hu;subst hu;exact h1
 keep {F w w' cs x} h hs hk:=by
  match x,h with
  | 0,h=>exact h
  | 1,h=>exact h
  | 2,h=>exact h
  | _+3,⟨b,h1,h2,h3,h4⟩=>exact⟨b,h1,h2,by omega,(World.cell?_of_block (a:=⟨b,0,none⟩) (hk b h2 h3)).trans h4⟩
 weaken {F F' w cs x} h hF:=by
  match x,h with
  | 0,h=>exact h
  | 1,h=>exact h
  | 2,h=>exact h
  | _+3,⟨b,h1,h2,h3,h4⟩=>exact⟨b,h1,hF b h2 h3,h3,h4⟩
theorem infoKind:(Tryz.prog.info? 260).map (fun i=>(i.zero,i.size,i.bytes))=some (some (.agg #[.nilFunc]),1,8):=by kernel_rfl
theorem elemKind:zzP Tryz.prog 257 260 1:=zzP.mk' (by kernel_rfl) infoKind rfl (by decide) (by decide)
theorem kinds_any (w:World):Calls Tryz.prog 206 #[] w fun e w'=>∃ A c,e=.returned (.slice A 34 c)/\Sl tKind (fun _=>True) w' A 34 c (List.range 34)/\Below w.heap.size w w':=by
 obtain⟨w1,hw1⟩:∃ w1,w1=w.alloc (.cells #[.func (.func 245) #[] #[],.func (.func 246) #[] #[],.func (.func 247) #[] #[]] 260):=⟨_,rfl⟩
 have ho:Own tKind 260 w1 w.heap.size (some ⟨w.heap.size,0,none⟩) 3 3 (List.range 3):=by
  refine⟨fun _=>False,⟨[[.func (.func 245) #[] #[]],[.func (.func 246) #[] #[]],[.func (.func 247) #[] #[]]],?_,?_⟩,fun _ _ _ h=>h,rfl⟩
  · rw [hw1]
    exact World.ownsRow_lit w #[.func (.func 245) #[] #[],.func (.func 246) #[] #[],.func (.func 247) #[] #[]] 3 zN (by simp [maxLen]) rfl
  · exact Reps.mk3 (T:=tKind) (F:=fun _=>False) (w:=w1) (x1:=0) (x2:=1) (x3:=2) rfl rfl rfl
 have HO:=zH ho
 have HB:=zH (show Below w.heap.size w w1 by rw [hw1];exact (zR).alloc zN _)
 have HW1:=zH hw1
 clear ho hw1
 go_enter Tryz.func206,Tryz.ntmps206
 go_wp2_with fail
 rw [<-HW1.out]
 go_loopw [1,7] (fun lv iv wr=>∃ (i m:Nat) (A2:Option Addr) (c2:Nat),i<=31/\m=3+i/\iv=.int .i64 (i:Int)/\lv=.slice A2 m c2/\Own tKind 260 wr w.heap.size A2 m c2 (List.range m)/\Below w.heap.size w wr)
  (fun _ iv _=>31 - (intOf iv).toNat)
 case atStart=>exact⟨0,3,_,3,by omega,rfl,rfl,rfl,HO.out,HB.out⟩
 case round =>
  obtain⟨i,m,A2,c2,hi,hm,rfl,rfl,⟨F2,ho2⟩,hb2⟩:=hrel
  have HO2:=zH ho2;have HB2:=zH hb2;have HM:=zH hm
  have hm34:m<=34:=by omega
  clear ho2 hb2 hm
  by_cases hlt:i<31
  · have i1:(i:Int)<31:=by omega
    obtain⟨p,hp⟩:∃ p,p=wr.heap.size:=⟨_,rfl⟩
    obtain⟨w4,hw4⟩:∃ w4,w4=wr.alloc (.cells #[.int .i64 (i:Int)] 3):=⟨_,rfl⟩
    have hb4:Below wr.heap.size wr w4:=by rw [hw4];exact (zR).alloc zN _
    have HO4:=zH (HO2.out.keepB hb4)
    have HB4:=zH (HB2.out.trans (hb4.mono HB2.out.size))
    have HC4:=zH (show w4.cell? ⟨p,0,none⟩=some (.int .i64 (i:Int)) by rw [hw4,hp,zC (heap_alloc_new _ _)];rfl)
    have HP4:=zH (show p<w4.heap.size by rw [hw4,hp,zS];omega)
    have hG:∀ b,A2=some ⟨b,0,none⟩->w.heap.size<=b->b<w4.heap.size->¬ b=p:=fun b e _ _ h=>by
     have:=(yyf HO2.out (b:=b) (by rw [e];rfl)).2.2
     omega
    have HGG:=zH hG
    have HW4:=zH hw4;have HP:=zH hp
    clear hw4 hb4 hG hp
    go_upto_region 5 with fail
    rw [<-HW4.out,<-HP.out]
    go_wp2_with (first
     | (at_builtin;refine apl1 (T:=tKind) elemKind w4 w rfl (.tmp 10) (.tmp 13) rfl w.heap.size A2 m c2 _ rfl F2 (fun b=>b=p) HO4.out HB4.out zN _ rfl [.func (.func 248) #[] #[.pointer (some ⟨p,0,none⟩)]] (i+3) ⟨p,rfl,rfl,HP4.out,HC4.out⟩ 260 rfl HGG.out (by omega) ?_;intro A5 c5 w5 h5;have HA5:=zH h5.own;have HB5:=zH h5.below;clear h5)
     | fail)
    go_roundw
    case rel=>exact⟨i+1,m+1,A5,c5,by omega,by have:=HM.out;omega,by go_num,rfl,⟨_,by rw [List.range_succ,show List.range m++[m]=List.range m++[i+3] by rw [HM.out,Nat.add_comm]];exact HA5.out⟩,HB5.out⟩
    case measure=>simp [intOf];omega
  · obtain rfl:i=31:=by omega
    have hm34:m=34:=by have:=HM.out;omega
    subst hm34
    go_wp2_with fail
    go_ret
    exact⟨A2,c2,rfl,HO2.out.sl.any,HB2.out⟩
theorem wN_ok (c:Nat) (h:c<=30):wOf (c:Int)=((wN c:Nat):Int)/\wN c<=63/\yyV ((wN c:Nat):Int)=((yyC (wN c):Nat):Int):=by
 have h1:=qzu (c:Int)
 have e:wOf (c:Int)=((wN c:Nat):Int):=by unfold wN;omega
 have h2:=wOf_code (c:=(c:Int)) (by omega) (by omega)
 have h3:=wOf_mono (c:=(c:Int)) (d:=31) (by omega) (by omega) (by omega)
 have h4:=qzu 31
 rw [e] at h2 h3
 refine⟨e,by omega,?_⟩
 unfold yyC
 rw [h2];omega
theorem xqA (F:Nat->Prop) (A:Option Addr) (n c:Nat) (l:List Int) (w:World) (h:Sl tI64 F w A n c l) (hn1:1<=n) (hn:n<=512) (sg:Bool) (hl:yyK sg l) (d p:Nat) (hd:d<=30) (hp:w.cell? ⟨p,0,none⟩=some (.int .i64 (d:Int))) :
 Calls Tryz.prog 248 #[.slice A n c,.bool sg,.pointer (some ⟨p,0,none⟩)] w (zzV (patB (wN d) l) w):=by
 obtain⟨e1,e2,e3⟩:=wN_ok d hd
 have HE1:=zH e1;have HE2:=zH e2;have HE3:=zH e3;have HH:=zH h;have HK:=zH hl
 obtain⟨o,ho⟩:∃ o,o=patB (wN d) l:=⟨_,rfl⟩
 have HO:=zH ho
 clear e1 e2 e3 h hl
 rw [<-ho]
 clear ho
 go_enter Tryz.func248,Tryz.ntmps248
 cases o with
 | none =>
   go_wp2_with (first
    | (go_at_call 250;refine (wof_any (d:Int) (by omega) (by omega) _).mono ?_;rintro e w1 ⟨rfl,hb1⟩;rw [HE1.out];have HB1:=zH hb1;clear hb1)
    | (go_at_call 249;refine (qxF F A n c l _ (HH.out.below HB1.out zN) hn1 hn sg HK.out (wN d) HE2.out HE3.out).mono ?_;rw [<-HO.out];rintro e w2 ⟨hb2,rfl⟩;have HB2:=zH hb2;clear hb2)
    | fail)
   go_ret2
   exact⟨HB1.out.trans (HB2.out.mono HB1.out.size),rfl⟩
 | some b =>
   go_wp2_with (first
    | (go_at_call 250;refine (wof_any (d:Int) (by omega) (by omega) _).mono ?_;rintro e w1 ⟨rfl,hb1⟩;rw [HE1.out];have HB1:=zH hb1;clear hb1)
    | (go_at_call 249;refine (qxF F A n c l _ (HH.out.below HB1.out zN) hn1 hn sg HK.out (wN d) HE2.out HE3.out).mono ?_;rw [<-HO.out];rintro e w2 ⟨hb2,A2,n2,c2,rfl,ho2⟩;have HB2:=zH hb2;have HO2:=zH ho2;clear hb2 ho2)
    | fail)
   go_ret2
   exact⟨HB1.out.trans (HB2.out.mono HB1.out.size),A2,n2,c2,rfl,HO2.out.down HB1.out.size⟩
end
section
open Go Go.RowKit
section
variable {P:Program} (w:World) {ops:Array Oper} {rest:List Oper} {o:Oper} {a:Act} {Q:Exit->Act->World->Prop}
theorem wp_cp {K:Act->World->Prop} {t1 t2 e:TypeId} (d s:Operand) (ho:o.op=.call { callee:=.builtin .copy,args:=#[d,s],argTypes:=#[t1,t2] }) (hu:P.underlying t1=some (.slice e)) (he:(P.info? e).map (·.size)=some 1)
 (g q dl dc:Nat) (ad:Addr) (sl sc:Nat) (cs:List Value) (hd:a.eval d=.slice (some ⟨g,q,none⟩) dl dc) (hs:a.eval s=.slice (some ad) sl sc) (hn:cs.length=Nat.min sl dl)
 (hsrc:∀ j v,cs[j]?=some v->w.cell? (ad.add j)=some v) (hc:∀ j,j<cs.length->(w.cell? ⟨g,q+j,none⟩).isSome=true) (hf:∀ j,j<cs.length->w.frozen? ⟨g,q+j,none⟩=false) (h1:∀ v∈cs,v.oneCell'=true)
 (h:K (a.put o.dst (.int .i64 (cs.length:Int))) (w.setCells g q cs)):o.wp P a w K Q:=by
 have hrun:=run_copy_cells (P:=P) w t1 t2 o.type e g q dl dc ad sl sc cs hu he hn hsrc hc hf h1
 unfold Oper.wp execOp
 simp only [ho,resolve,invoke,builtin,Sem.run_bind,Sem.run_pure,Result.andThen_ok,List.map_toArray,List.map_cons,List.map_nil,hd,hs,hrun]
 exact h
theorem step_cp {K:Act->World->Prop} {E':Prop} {t1 t2 e:TypeId} (hgd:o.guard=none) (d s:Operand) (ho:o.op=.call { callee:=.builtin .copy,args:=#[d,s],argTypes:=#[t1,t2] }) (hu:P.underlying t1=some (.slice e)) (he:(P.info? e).map (·.size)=some 1)
 (g q dl dc:Nat) (ad:Addr) (sl sc:Nat) (cs:List Value) (hd:a.eval d=.slice (some ⟨g,q,none⟩) dl dc) (hs:a.eval s=.slice (some ad) sl sc) (hn:cs.length=Nat.min sl dl)
 (hsrc:∀ j v,cs[j]?=some v->w.cell? (ad.add j)=some v) (hc:∀ j,j<cs.length->(w.cell? ⟨g,q+j,none⟩).isSome=true) (hf:∀ j,j<cs.length->w.frozen? ⟨g,q+j,none⟩=false) (h1:∀ v∈cs,v.oneCell'=true)
 (h:K (a.put o.dst (.int .i64 (cs.length:Int))) (w.setCells g q cs)):if Region.wanted o (yielded ops a.tmps)=true then Oper.wp P o a w K Q else E':=by
 have hw:Region.wanted o (yielded ops a.tmps)=true:=by simp [Region.wanted,hgd]
 rw [if_pos hw]
 exact wp_cp w d s ho hu he g q dl dc ad sl sc cs hd hs hn hsrc hc hf h1 h
end
structure RpR (w0:World) (g n p:Nat) (x:UInt8) (w:World):Prop where
 below:Below w0.heap.size w0 w
 base:w0.heap.size<=g
 lt:g<w.heap.size
 there:∀ j,j<n->(w.cell? ⟨g,j,none⟩).isSome=true
 free:∀ j,w.frozen? ⟨g,j,none⟩=false
 have_:∀ j,j<p->w.cell? ⟨g,j,none⟩=some (.int .u8 (x.toNat:Int))
theorem xxl {B g:Nat} {a:World} (hb:B<=g):∀ (vs:List Value) (o:Nat) {w:World},Below B a w->Below B a (w.setCells g o vs)
 | [],_,_,h=>h
 | v::r,o,_,h=>xxl hb r (o+1) (h.setCell (p:=⟨g,o,none⟩) hb v)
theorem RpR.fill {w0 w:World} {g n p k:Nat} {x:UInt8} (h:RpR w0 g n p x w) (hk:p+k<=n):RpR w0 g n (p+k) x (w.setCells g p (List.replicate k (.int .u8 (x.toNat:Int)))):=by
 have hin:∀ j,j<(List.replicate k (Value.int .u8 (x.toNat:Int))).length->(w.cell? ⟨g,p+j,none⟩).isSome=true:=fun j hj=>h.there _ (by rw [List.length_replicate] at hj;omega)
 have hs:w.heap.size<=(w.setCells g p (List.replicate k (.int .u8 (x.toNat:Int)))).heap.size:=(xxl (B:=0) (a:=w) (g:=g) (Nat.zero_le _) _ p (Below.refl 0 w)).size
 refine⟨xxl h.base _ _ h.below,h.base,Nat.lt_of_lt_of_le h.lt hs,fun j hj=>?_,fun j=>by rw [World.frozen?_setCells];exact h.free j,fun j hj=>?_⟩
 · by_cases hjp:p<=j/\j<p+k
   · obtain⟨i,rfl⟩:∃ i,j=p+i:=⟨j - p,by omega⟩
     rw [World.cell?_setCells_in g _ p w hin i (by rw [List.length_replicate];omega)]
     simp
   · rw [World.cell?_setCells_out g _ p w ⟨g,j,none⟩ (fun _ _=>by rw [List.length_replicate];simp only;omega)]
     exact h.there j hj
 · by_cases hjp:j<p
   · rw [World.cell?_setCells_out g _ p w ⟨g,j,none⟩ (fun _ _=>.inl hjp)]
     exact h.have_ j hjp
   · obtain⟨i,rfl⟩:∃ i,j=p+i:=⟨j - p,by omega⟩
     rw [World.cell?_setCells_in g _ p w hin i (by rw [List.length_replicate];omega)]
     simp
theorem size1U8:(Tryz.prog.info? 5).map (·.size)=some 1:=by kernel_rfl
theorem xqB (F:Nat->Prop) (A:Option Addr) (c:Nat) (x:UInt8) (n:Nat) (hn1:1<=n) (hn:n<=8192) (w:World) (h:Bs F w A 1 c [x]) :
 Calls Tryz.prog 203 #[.slice A 1 c,.int .i64 (n:Int)] w fun e w'=>∃ g,e=.returned (.slice (some ⟨g,0,none⟩) n n)/\Bs (fun _=>True) w' (some ⟨g,0,none⟩) n n (List.replicate n x)/\Below w.heap.size w w':=by
 obtain⟨b,o,rfl,_,hbl,hx0⟩:=qzq h (k:=0) (by simp)
 rw [Nat.add_zero] at hx0
 have hx0':w.cell? ⟨b,o,none⟩=some (.int .u8 (x.toNat:Int)):=hx0
 have hcap:=h.2.1
 obtain⟨cs,hrun,hle,hmax⟩:=Lib.run_makeNoZero (P:=Tryz.prog) w #[3] 41 5 yye n (by omega)
 have hcall:(callFunc 242 #[.int .i64 (n:Int)]).run Tryz.prog w=.ok (.value (.slice (some ⟨w.heap.size,0,none⟩) n cs.size)) (w.drew.drew.alloc (.cells cs 5)):=by
  rw [run_callFunc_extern Tryz.func242 (by kernel_rfl) (by kernel_rfl) (by kernel_rfl) (e:=Extern.BytealgMakeNoZero.makeNoZero #[3] #[41]) (by kernel_rfl),hrun]
  rfl
 obtain⟨g,hg⟩:∃ g,g=w.heap.size:=⟨_,rfl⟩
 obtain⟨w1,hw1⟩:∃ w1,w1=w.drew.drew.alloc (.cells cs 5):=⟨_,rfl⟩
 have hb1:Below w.heap.size w w1:=by rw [hw1];exact ((Below.refl w.heap.size w).drew.drew).alloc zN _
 have hgc:w1.heap[g]?=some (.cells cs 5 (0,0)):=by rw [hw1,hg];exact heap_alloc_new w.drew.drew _
 have HR0:=zH (show RpR w g n 0 x w1 from ⟨hb1,by omega,zzc hgc,fun j hj=>by rw [zC hgc];simp;omega,fun j=>zF hgc j,fun j hj=>absurd hj (Nat.not_lt_zero j)⟩)
 rw [<-hg,<-hw1] at hcall
 have HX:=zH (zzh hb1 hx0')
 have i0:(0:Int)<(n:Int):=by omega
 have i1:(n:Int)<=(cs.size:Int):=by omega
 have q0:((n:Int)==0)=false:=zzL (by omega)
 have i2:n<18446744073709551616:=by omega
 have i3:¬ (8192:Int)<(n:Int):=by omega
 have e1:1*n / 18446744073709551616=0:=by omega
 have e2:1*n % 18446744073709551616=n:=by omega
 have HG:=zH hg;have HBL:=zH hbl
 have HE1:=zH e1;have HE2:=zH e2
 have i4:(0:Int)<=(n:Int):=by omega
 clear h hx0 hx0' hw1 hb1 hgc hrun hmax e1 e2 hg hbl
 go_enter Tryz.func203,Tryz.ntmps203
 go_upto_region 17 with (first
  | (go_at_call 190;refine ((Tryz.bits_Mul 1 n (by decide) i2 _).mono (R':=fun e w'=>e=_/\w=w') fun e w' h=>⟨h.1,h.2.symm⟩).mono ?_;rintro e w2 ⟨rfl,rfl⟩;rw [HE1.out,HE2.out])
  | fail)
 have HR1:=zH (HR0.out.fill (k:=1) (by omega))
 have hmin:([Value.int .u8 (x.toNat:Int)]).length=Nat.min 1 n:=(Nat.min_eq_left hn1).symm
 have hsrc:∀ j v,([Value.int .u8 (x.toNat:Int)])[j]?=some v->w1.cell? ((⟨b,o,none⟩:Addr).add j)=some v:=fun j v hj=>by
  match j,hj with
  | 0,hj=>rw [yyB];simp at hj;rw [<-hj];exact HX.out
 have hthere:∀ j,j<([Value.int .u8 (x.toNat:Int)]).length->(w1.cell? ⟨g,0+j,none⟩).isSome=true:=fun j hj=>HR0.out.there _ (by simp at hj;omega)
 have hfree:∀ j,j<([Value.int .u8 (x.toNat:Int)]).length->w1.frozen? ⟨g,0+j,none⟩=false:=fun j _=>HR0.out.free _
 have hcp:(Builtin.copy_ #[41,41] 3 #[.slice (some ⟨g,0,none⟩) n n,.slice (some ⟨b,o,none⟩) 1 c]).run Tryz.prog w1=.ok (.int .i64 1) (w1.setCells g 0 [.int .u8 (x.toNat:Int)]) :=
  run_copy_cells (P:=Tryz.prog) w1 41 41 3 5 g 0 n n ⟨b,o,none⟩ 1 c [.int .u8 (x.toNat:Int)] yye size1U8 hmin hsrc hthere hfree (by simp [Value.oneCell'])
 go_wp2_with fail
 obtain⟨w3,hw3⟩:∃ w3,w3=w1.setCells g 0 [.int .u8 (x.toNat:Int)]:=⟨_,rfl⟩
 have hr3:RpR w g n 1 x w3:=by rw [hw3];have:=HR1.out;simpa using this
 have HR3:=zH hr3
 try rw [<-hw3]
 clear hw3 hr3 HR0 HR1 hmin hsrc hthere hfree hcall hle hcap hcp
 go_loopw [10] (fun pv wr=>∃ p:Nat,1<=p/\p<=n/\pv=.int .i64 (p:Int)/\RpR w g n p x wr) (fun pv _=>n - (intOf pv).toNat)
 case atStart=>exact⟨1,Nat.le_refl _,hn1,rfl,HR3.out⟩
 case round =>
  obtain⟨p,hp1,hpn,rfl,hr⟩:=hrel
  have HR:=zH hr
  clear hr
  by_cases hlt:p<n
  · obtain⟨k,hk⟩:∃ k,k=min p (n - p):=⟨_,rfl⟩
    have hk1:1<=k/\k<=p/\p+k<=n:=by omega
    have z0:(0:Int)<=(p:Int):=by omega
    have z1:(p:Int)<(n:Int):=by omega
    have z2:(p:Int)<=(n:Int):=by omega
    have zne:¬ n=p:=by omega
    have zm:min (p:Int) (n:Int)=(p:Int):=by omega
    have hlen:(List.replicate k (Value.int .u8 (x.toNat:Int))).length=Nat.min p (n - p):=by rw [List.length_replicate,hk]
    have hsrc:∀ j v,(List.replicate k (Value.int .u8 (x.toNat:Int)))[j]?=some v->wr.drew.cell? ((⟨g,0,none⟩:Addr).add j)=some v:=fun j v hj=>by
     rw [yyB,Nat.zero_add]
     have hjk:j<k:=by
      rcases Nat.lt_or_ge j k with h | h
      · exact h
      · rw [List.getElem?_eq_none (by rw [List.length_replicate];exact h)] at hj;cases hj
     rw [List.getElem?_replicate,if_pos hjk] at hj
     rw [<-Option.some.inj hj]
     exact HR.out.have_ j (by omega)
    have hthere:∀ j,j<(List.replicate k (Value.int .u8 (x.toNat:Int))).length->(wr.drew.cell? ⟨g,p+j,none⟩).isSome=true:=fun j hj=>HR.out.there _ (by rw [List.length_replicate] at hj;omega)
    have hfree:∀ j,j<(List.replicate k (Value.int .u8 (x.toNat:Int))).length->wr.drew.frozen? ⟨g,p+j,none⟩=false:=fun j _=>HR.out.free _
    have hone:∀ v∈List.replicate k (Value.int .u8 (x.toNat:Int)),v.oneCell'=true:=fun v hv=>by rw [(List.mem_replicate.1 hv).2];rfl
    have HF:=zH ((show RpR w g n p x wr.drew from ⟨HR.out.below.drew,HR.out.base,HR.out.lt,HR.out.there,HR.out.free,HR.out.have_⟩).fill (k:=k) hk1.2.2)
    have HK1:=zH hk1
    have HLR:=zH (show ((List.replicate k (Value.int .u8 (x.toNat:Int))).length:Int)=(k:Int) by rw [List.length_replicate])
    have HWR:=zH (show IntKind.i64.wrap ((p:Int)+(k:Int))=(p:Int)+(k:Int) by rw [IntKind.wrap_i64];omega)
    clear hk hk1
    go_upto_region 20 with fail
    go_region_law (first
     | (refine step_cp wr.drew rfl (.tmp 70) (.tmp 73) rfl yye size1U8 g p (n - p) (n - p) ⟨g,0,none⟩ p n (List.replicate k (.int .u8 (x.toNat:Int))) (by simp only [Act.put,List.getElem_toArray,List.getElem_cons_succ,List.getElem_cons_zero,List.setIfInBounds_toArray,List.set_cons_succ,List.set_cons_zero];rfl) (by simp only [Act.put,List.getElem_toArray,List.getElem_cons_succ,List.getElem_cons_zero,List.setIfInBounds_toArray,List.set_cons_succ,List.set_cons_zero];rfl) hlen hsrc hthere hfree hone ?_;rw [HLR.out])
     | fail)
    (try simp only [Act.put,List.getElem_toArray,List.getElem_cons_succ,List.getElem_cons_zero,List.setIfInBounds_toArray,List.set_cons_succ,List.set_cons_zero])
    rw [HWR.out]
    go_wp2_with fail
    go_roundw
    case rel=>exact⟨p+k,by omega,by have:=HK1.out;omega,by go_num,HF.out⟩
    case measure=>have:=HK1.out;simp [intOf];omega
  · obtain rfl:p=n:=by omega
    go_wp2_with fail
    go_ret
    refine⟨g,rfl,bs_mk (fun _=>⟨g,0,rfl,trivial,HR.out.lt,fun j u hu=>?_⟩) (by rw [List.length_replicate]) zN (by unfold maxLen;omega),HR.out.below⟩
    rw [Nat.zero_add]
    have hj:j<p:=by
     rcases Nat.lt_or_ge j p with h | h
     · exact h
     · rw [List.getElem?_eq_none (by rw [zzS,List.length_replicate];exact h)] at hu;cases hu
    rw [vvC _ _ (by rw [List.length_replicate];exact hj),List.getElem_replicate] at hu
    rw [<-Option.some.inj hu]
    exact HR.out.have_ j hj
end
end Go.Proofs.YtpmglcachffojaaGreatDoor
