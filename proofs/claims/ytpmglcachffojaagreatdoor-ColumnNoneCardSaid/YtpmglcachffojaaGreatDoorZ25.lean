/- A part of what None leans on. -/
import Derived.Test.YtpmglcachffojaaGreatDoorZ22
import Derived.Test.YtpmglcachffojaaGreatDoorZ23
set_option maxRecDepth 100000
set_option maxHeartbeats 16000000
namespace Go.Proofs.YtpmglcachffojaaGreatDoor
section
open Go Go.RowKit
theorem Sl.fst {α:Type} {T:Ty α} {F:Nat->Prop} {w:World} {A:Option Addr} {n c:Nat} {xs:List α} (h:Sl T F w A n c xs) {k:Nat} (hk:k<=n):Sl T F w A k c (xs.take k):=by
 obtain⟨h1,h2,h3,css,h4,h5⟩:=h
 refine⟨by rw [List.length_take];omega,by omega,h3,css.take k,?_,h5.take k⟩
 have h6:(css.take k).flatten++(css.drop k).flatten=css.flatten:=by rw [<-List.flatten_append,List.take_append_drop]
 rw [<-h6] at h4
 exact h4.front
theorem xqv {F:Nat->Prop} {w:World} {A:Option Addr} {n c:Nat} {l:List UInt8} (h:Bs F w A n c l):(convert 41 9 (.slice A n c)).run Tryz.prog w=.ok (.string ⟨l.toArray⟩) w:=by
 obtain⟨hn,_,_,css,hrd,hr⟩:=h
 subst hn
 have hcs:=yy8 hr
 subst hcs
 rw [xxE] at hrd
 cases A with
 | none =>
   have:l=[]:=by
    cases l with
    | nil=>rfl
    | cons x t=>obtain⟨_,_,h,_⟩:=hrd (by simp [bvs]);cases h
   subst this
   rw [List.length_nil,run_convert_bytes_string w _ _ _ none 0 c zzG uuG xxF]
   simp [Conv.bytesToString]
   rfl
 | some a =>
   refine run_convert_bytes_back w _ _ _ a c l zzG uuG xxF (fun j hj=>?_)
   obtain⟨b,o,e,_,_,hc⟩:=hrd (by intro h0;cases l with | nil=>simp at hj | cons x t=>simp [bvs] at h0)
   injection e with e;subst e
   rw [yyL]
   exact hc j _ (by rw [yyN l j hj])
end
section
open Go Go.RowKit
def yyI:List (Int×List UInt8)->Nat
 | []=>0
 | x::r=>x.2.length+yyI r
theorem vvt:∀ (l:List (Int×List UInt8)) (x:Int×List UInt8),yyI (l++[x])=yyI l+x.2.length
 | [],x=>by simp [yyI]
 | y::r,x=>by simp only [List.cons_append,yyI,vvt r x];omega
theorem vvu:∀ (l:List (Int×List UInt8)) (k:Nat),yyI (l.take k)<=yyI l
 | [],k=>by simp
 | x::r,0=>by simp [yyI]
 | x::r,k+1=>by have:=vvu r k;simp only [List.take_succ_cons,yyI];omega
theorem qz0 (m enc tx:Int) (F:Nat->Prop) (A:Option Addr) (n c:Nat) (ss:List (Int×List UInt8)) (w:World) (h:Sl zzo F w A n c ss) (hn:n<=1000) (hs:yyI ss<=4611686018427387904) :
 Calls Tryz.prog 15 #[.agg #[.int .i64 m,.int .i64 enc,.int .i64 tx,.slice A n c]] w fun e w'=>e=.returned (.int .i64 (yyI ss:Int))/\Below w.heap.size w w':=by
 have HL:=zH h.len;have HH:=zH h;have HS:=zH hs
 clear h hs
 go_enter Tryz.func15,Tryz.ntmps15
 go_wp2_with fail
 go_loopw [3,9] (fun s iv wr=>∃ k:Nat,k<=n/\iv=.int .i64 (k:Int)/\s=.int .i64 ((yyI (ss.take k):Nat):Int)/\Below w.heap.size w wr) (fun _ iv _=>n - (intOf iv).toNat)
 case atStart=>exact⟨0,Nat.zero_le _,rfl,rfl,(zR).alloc zN _⟩
 case round =>
  obtain⟨k,hk,rfl,rfl,hb⟩:=hrel
  have HB:=zH hb
  have hsz:=hb.size
  by_cases hlt:k<n
  · have hkl:k<ss.length:=by rw [<-HL.out];exact hlt
    obtain⟨b,o,cs,rfl,_,hbl,hrep,hc⟩:=(HH.out.below hb zN).at_ hkl (by decide)
    obtain⟨x,hf⟩:∃ x,x=ss[k]:=⟨_,rfl⟩
    obtain⟨kk,bs⟩:=x
    rw [<-hf] at hrep
    obtain⟨c1,c2,rfl,⟨h1,h1'⟩,A2,n2,cc2,h2,hsl⟩:=hrep
    subst h1 h2
    obtain⟨g0,g1⟩:=vvb hc
    have e1:yyI (ss.take (k+1))=yyI (ss.take k)+n2:=by
     rw [zT hkl,<-hf,vvt,hsl.len]
    obtain⟨q,hq⟩:∃ q,q=yyI (ss.take k):=⟨_,rfl⟩
    have hle:=vvu ss (k+1)
    rw [e1] at hle
    have hq4:=HS.out
    rw [<-hq] at e1 hle ⊢
    have hsum:(q:Int)+(n2:Int)<=4611686018427387904:=by omega
    have HE1:=zH e1
    have g0:_=some (Value.int .i64 kk):=g0
    have g1:_=some (Value.slice A2 n2 cc2):=g1
    clear hc hf hb hq hle hq4 e1 h1'
    go_wp2_with fail
    go_roundw
    case rel=>exact⟨k+1,by omega,by go_num,by rw [HE1.out];go_num,HB.out.alloc hsz _⟩
    case measure=>simp [intOf];omega
  · obtain rfl:k=n:=by omega
    have e1:ss.take k=ss:=zL (by rw [<-HL.out];exact Nat.le_refl _)
    have HE:=zH e1
    clear hb e1
    go_wp2_with fail
    go_ret
    exact⟨by rw [HE.out];rfl,HB.out⟩
end
end Go.Proofs.YtpmglcachffojaaGreatDoor
