/- A part of what None leans on. -/
import Derived.Test.YtpmglcachffojaaGreatDoorZ21
import Derived.Test.YtpmglcachffojaaGreatDoorZ24
import Derived.Test.YtpmglcachffojaaGreatDoorZ25
set_option maxRecDepth 100000
set_option maxHeartbeats 16000000
namespace Go.Proofs.YtpmglcachffojaaGreatDoor
section
open Go Go.RowKit
def qzE (l:List VV) (w:World) (e:Ending) (w':World):Prop :=
 ∃ A1 c1 A2 n2 c2,e=.returned (.tuple #[.slice A1 l.length c1,.slice A2 n2 c2])/\Sl zzU (fun b=>w.heap.size<=b) w' A1 l.length c1 (l.map fun v => !v.null)/\Sl tVV (fun b=>w.heap.size<=b) w' A2 n2 c2 (l.filter zzp)/\Below w.heap.size w w'
theorem qzF (F:Nat->Prop) (A:Option Addr) (n c:Nat) (l:List VV) (w:World) (h:Sl tVV F w A n c l) (hn:n<=4096) :
 Calls Tryz.prog 88 #[.slice A n c] w (qzE l w):=by
 have H:=zH h;have HN:=zH hn
 clear h hn
 go_enter Tryz.func88,Tryz.ntmps88
 go_wp2_with (first
  | (go_at_call 158;refine (qzB F A n c l _ H.out (by have:=HN.out;omega)).mono ?_;rintro e w1 ⟨A1,c1,rfl,ho1,hb1⟩;have HO1:=zH ho1;have HB1:=zH hb1;clear ho1 hb1)
  | (go_at_call 157;refine (qxT w.heap.size A1 n c1 l _ HO1.out HB1.out.size).mono ?_;rintro e w2 ⟨m,rfl,ho2,hb2⟩;have HO2:=zH ho2;have HB2:=zH (HB1.out.trans hb2);clear ho2 hb2)
  | (go_at_call 146;refine (vvN F A n c l _ (H.out.below HB2.out zN) HN.out).mono ?_;rintro e w3 ⟨A3,n3,c3,rfl,⟨G,ho3⟩,hb3⟩;have HO3:=zH ho3;have HB3:=zH hb3;clear ho3 hb3)
  | fail)
 go_ret2
 have e3:n3=l.length:=by have:=HO3.out.len;simpa using this
 subst e3
 exact⟨A3,c3,A1,m,c1,rfl,(HO3.out.flat (T:=zzU) (fun h=>h)).sl.weaken (fun b hb _=>by
  rcases hb with hb | hb
  · exact hb.elim
  · have:=HB2.out.size;exact Nat.le_trans this hb.2),(HO2.out.keepB HB3.out).sl,HB2.out.trans (HB3.out.mono HB2.out.size)⟩
def zzI (l:List VV):List UInt8:=if (l.filter zzp).length<l.length then byB (xxk (l.map fun v => !v.null)) else []
def zqM (l:List VV) (w:World) (e:Ending) (w':World):Prop :=
 ∃ A1 n1 c1 A2 n2 c2,e=.returned (.tuple #[.slice A1 n1 c1,.slice A2 n2 c2,.int .i64 0])/\Sl tU8 (fun b=>w.heap.size<=b) w' A1 n1 c1 (zzI l)/\Sl tVV (fun b=>w.heap.size<=b) w' A2 n2 c2 (l.filter zzp)/\Below w.heap.size w w'
theorem jjw (F:Nat->Prop) (A:Option Addr) (n c:Nat) (l:List VV) (w:World) (h:Sl tVV F w A n c l) (hn:n<=4096) :
 Calls Tryz.prog 42 #[.slice A n c] w (zqM l w):=by
 have H:=zH h;have HN:=zH hn;have HL:=zH h.len
 have hn1:¬ (n:Int) > 4096:=by omega
 have hn2:¬ (4096:Int)<n:=by omega
 clear h hn
 go_enter Tryz.func42,Tryz.ntmps42
 go_upto_if 18 with (first
  | (go_at_call 88;refine (qzF F A n c l _ H.out HN.out).mono ?_;rintro e w1 ⟨A1,c1,A2,n2,c2,rfl,hs1,hs2,hb1⟩;have HS1:=zH hs1;have HS2:=zH hs2;have HB1:=zH hb1;clear hs1 hs2 hb1)
  | fail)
 have HL2:=zH HS2.out.len
 by_cases hlt:n2<n
 · have hI:(n2:Int)<(n:Int):=by omega
   have HP:=zH (show zzI l=byB (xxk (l.map fun v => !v.null)) from if_pos (by rw [<-HL2.out,<-HL.out];exact hlt))
   go_wp2_with (first
    | (go_at_call 89;refine (qzr _ A1 l.length c1 _ _ HS1.out (by rw [<-HL.out];exact HN.out)).mono ?_;rintro e w2 ⟨hb2,A3,n3,c3,rfl,ho3⟩;have HO3:=zH ho3;have HB2:=zH hb2;clear ho3 hb2)
    | fail)
   go_ret3
   refine⟨A3,n3,c3,A2,n2,c2,rfl,?_,HS2.out.below HB2.out zN,HB1.out.trans (HB2.out.mono HB1.out.size)⟩
   rw [HP.out]
   exact HO3.out.own.sl.weaken fun b hb _=>by
    have:=HB1.out.size
    rcases hb with hb | hb
    · exact hb.elim
    · exact Nat.le_trans this hb.2
 · have hI:¬ (n2:Int)<(n:Int):=by omega
   have HP:=zH (show zzI l=[] from if_neg (by rw [<-HL2.out,<-HL.out];exact hlt))
   go_wp2_with fail
   go_ret3
   exact⟨none,0,0,A2,n2,c2,rfl,by rw [HP.out];exact Sl.nil_ _ _ _,HS2.out,HB1.out⟩
end
section
open Go Go.RowKit
def xx8 (l:List ByteArray):List UInt8:=rleB false (l.map fun s=>(s.size:Int))
theorem qzG:zzL Tryz.prog 89 9 tStr.size:=zzL.mk' (bytes:=16) (z:=.string ⟨#[]⟩) (by kernel_rfl) (by kernel_rfl) rfl (by decide) (by decide)
theorem jjy (F:Nat->Prop) (A:Option Addr) (n c:Nat) (l:List ByteArray) (w:World) (h:Sl tStr F w A n c l) (hl:n<=4096) :
 Calls Tryz.prog 101 #[.slice A n c] w (Own1 w (xx8 l)):=by
 have HL:=zH h.len
 have HOK:Hid (zzV false (l.map fun s=>(s.size:Int))):=zH (by
  intro x hx
  obtain⟨s,hs,rfl⟩:=List.mem_map.1 hx
  obtain⟨i,hi,rfl⟩:=List.getElem_of_mem hs
  obtain⟨_,_,_,_,_,_,hr,_⟩:=h.at1 hi rfl
  obtain⟨_,h2⟩:=hr
  unfold maxLen at h2
  exact⟨by omega,by omega,.inr (by omega)⟩)
 go_enter Tryz.func101,Tryz.ntmps101
 go_wp2
 go_loopw [3,10] (fun v i wr=>∃ (k:Nat) (A2:Option Addr) (c2:Nat) (G:Nat->Prop),k<=n/\i=.int .i64 k/\v=.slice A2 k c2/\OwnF tI64 3 G wr w.heap.size A2 k c2 ((l.take k).map fun s:ByteArray=>(s.size:Int))/\Below w.heap.size w wr)
  (fun _ i _=>n - (intOf i).toNat)
 case atStart=>exact⟨0,none,0,fun _=>False,Nat.zero_le _,rfl,rfl,OwnF.nil_ _ _ _ _ _,zR⟩
 case round =>
  obtain⟨k,A2,c2,G,hk,rfl,rfl,hown,hb⟩:=hrel
  by_cases hlt:k<n
  · have hkl:k<l.length:=by rw [<-HL.out];exact hlt
    obtain⟨b,o,cs,rfl,_,hbl,hrep,hc⟩:=(h.below hb zN).at1 hkl rfl
    obtain⟨v,hf⟩:∃ v,v=l[k]:=⟨_,rfl⟩
    obtain⟨hcs,hok⟩:=hrep
    injection hcs with hcs;subst hcs
    rw [<-hf] at hc hok
    unfold maxLen at hok
    have HF:=zH hf;clear hf
    have HO:=zH hown;clear hown
    have hsz:=hb.size
    go_wp2_with (first
     | (at_builtin;refine apl1 (T:=tI64) xxb wr w rfl (.tmp 14) (.tmp 17) rfl w.heap.size A2 k c2 ((l.take k).map fun s:ByteArray=>(s.size:Int)) (by rfl) G (fun _=>False) HO.out hb zN _ (by rfl) [.int .i64 (v.size:Int)] (v.size:Int) ⟨rfl,by omega,by omega⟩ 3 rfl (fun _ _ _ _ h4=>h4) (by omega) ?_;intro A5 c5 w5 h5))
    go_roundw
    case rel =>
     have e1:(l.take (k+1)).map (fun s:ByteArray=>(s.size:Int))=(l.take k).map (fun s:ByteArray=>(s.size:Int))++[(v.size:Int)]:=by
      rw [zT hkl,List.map_append,<-HF.out];rfl
     have e2:=h5.own
     rw [<-e1] at e2
     exact⟨k+1,A5,c5,_,by omega,by go_num,rfl,e2,h5.below⟩
    case measure=>simp [intOf];omega
  · obtain rfl:k=n:=by omega
    have e1:l.take k=l:=zL (by rw [<-HL.out];exact Nat.le_refl _)
    rw [e1] at hown
    have HO:=zH hown.sl;clear hown e1
    go_wp2_with (first
     | (go_at_call 92;refine (xxT _ A2 k c2 _ _ HO.out hl false HOK.out).mono ?_;rintro e w4 ⟨hb4,A4,n4,c4,rfl,ho4⟩;have HO4:=zH ho4;have HB4:=zH hb4;clear ho4 hb4)
     | fail)
    go_ret
    exact⟨A4,n4,c4,rfl,HO4.out.down hb.size,hb.trans (HB4.out.mono hb.size)⟩
theorem qzH (s:ByteArray) (w:World):Calls Tryz.prog 98 #[.string s] w fun e w'=>e=.returned (.bool (decide (300<s.size)))/\Below w.heap.size w w':=by
 by_cases h:300<s.size
 · have h1:(300:Int)<s.size:=by omega
   have HD:=zH (decide_eq_true h)
   clear h
   go_enter Tryz.func98,Tryz.ntmps98
   go_wp2_with fail
   go_ret
   exact⟨by first | (rw [HD.out];rfl) | (rw [HD.out];simp [h1]),zR⟩
 · have h1:¬ (300:Int)<s.size:=by omega
   have HD:=zH (decide_eq_false h)
   clear h
   go_enter Tryz.func98,Tryz.ntmps98
   go_wp2_with fail
   go_ret
   exact⟨by first | (rw [HD.out];rfl) | (rw [HD.out];simp [h1]),zR⟩
end
section
open Go Go.RowKit
theorem zqQ (F:Nat->Prop) (A:Option Addr) (n c:Nat) (l:List ByteArray) (w:World) (h:Sl tStr F w A n c l) (hs:∀ s∈l,s.size<=300) (hn:n<=4611686018427387904) :
 Calls Tryz.prog 163 #[.slice A n c,.func (.func 98) #[] #[]] w fun e w'=>e=.returned (.int .i64 (-1))/\Below w.heap.size w w':=by
 have HL:=zH h.len;have HS:=zH hs
 clear hs
 go_enter Tryz.func163,Tryz.ntmps163
 go_wp2_with fail
 go_loopw [8] (fun i wr=>∃ j:Nat,j<=n/\i=.int .i64 j/\Below w.heap.size w wr) (fun i _=>n - (intOf i).toNat)
 case atStart=>exact⟨0,Nat.zero_le _,rfl,zR⟩
 case round =>
  obtain⟨j,hj,rfl,hb⟩:=hrel
  have HB:=zH hb
  have hsz:=hb.size
  by_cases hlt:j<n
  · have hjl:j<l.length:=by rw [<-HL.out];exact hlt
    obtain⟨b,o,u,rfl,_,hbl,hr,hc⟩:=(h.below hb zN).at1 hjl rfl
    have hsm:=HS.out _ (List.getElem_mem hjl)
    obtain⟨s,hs⟩:∃ s,s=l[j]:=⟨_,rfl⟩
    obtain⟨hr,_⟩:=hr
    injection hr with hr;subst hr
    rw [<-hs] at hc hsm
    have HD:=zH (show decide (300<s.size)=false from decide_eq_false (by omega))
    have hi1:(0:Int)<=(j:Int):=by omega
    have hi2:(j:Int)<(n:Int):=by omega
    clear hb hs hsm
    go_wp2_with (first
     | (go_at_call 98;refine (qzH s _).mono ?_;rintro e w1 ⟨rfl,hb1⟩;rw [HD.out];have HB1:=zH (HB.out.trans (hb1.mono hsz));clear hb1)
     | fail)
    go_roundw
    case rel=>exact⟨j+1,by omega,by go_num,HB1.out⟩
    case measure=>simp [intOf];omega
  · obtain rfl:j=n:=by omega
    go_wp2_with fail
    go_ret
    exact⟨rfl,HB.out⟩
theorem zqR (F:Nat->Prop) (A:Option Addr) (n c:Nat) (l:List ByteArray) (w:World) (h:Sl tStr F w A n c l) (hs:∀ s∈l,s.size<=300) (hn:n<=4611686018427387904) :
 Calls Tryz.prog 97 #[.slice A n c,.func (.func 98) #[] #[]] w fun e w'=>e=.returned (.bool false)/\Below w.heap.size w w':=by
 have H:=zH h;have HS:=zH hs;have HN:=zH hn
 clear h hs hn
 go_enter Tryz.func97,Tryz.ntmps97
 go_wp2_with (first
  | (go_at_call 163;refine (zqQ F A n c l _ H.out HS.out HN.out).mono ?_;rintro e w1 ⟨rfl,hb1⟩;have HB1:=zH hb1;clear hb1)
  | fail)
 go_ret
 exact⟨rfl,HB1.out⟩
end
section
open Go Go.RowKit
theorem Sl.fore {α:Type} {T:Ty α} {F:Nat->Prop} {w:World} {A:Option Addr} {n c:Nat} {xs:List α} (h:Sl T F w A n c xs) {k:Nat} (hk:k<=n):Sl T F w A k c (xs.take k):=by
 obtain⟨h1,h2,h3,css,h4,h5⟩:=h
 refine⟨by rw [List.length_take];omega,by omega,h3,css.take k,?_,h5.take k⟩
 have h6:(css.take k).flatten++(css.drop k).flatten=css.flatten:=by rw [<-List.flatten_append,List.take_append_drop]
 rw [<-h6] at h4
 exact h4.front
def cntT (l:List Bool):Nat:=(l.filter id).length
theorem xx4 {l:List Bool} {k:Nat} (hk:k<l.length):cntT (l.take (k+1))=cntT (l.take k)+(if l[k] then 1 else 0):=by
 unfold cntT
 rw [zT hk,List.filter_append,List.length_append]
 cases l[k] <;> rfl
def bitV (c:UInt8) (i:Nat):Bool := !decide (bits BinOp.and IntKind.u8 (c.toNat:Int) ((128:Int) / 2 ^ i)=0)
def zqY (c:UInt8):List Bool:=(List.range 8).map (bitV c)
def zzP (b:List UInt8):List Bool:=(b.map zqY).flatten
theorem qzR (c:UInt8):(zqY c).length=8:=by simp [zqY]
theorem uus:∀ b:List UInt8,(zzP b).length=8*b.length
 | []=>rfl
 | c::r=>by
   have:=uus r
   unfold zzP at *
   rw [List.map_cons,List.flatten_cons,List.length_append,this,qzR,List.length_cons];omega
theorem kqi {b:List UInt8} {k:Nat} (hk:k<b.length):zzP (b.take (k+1))=zzP (b.take k)++zqY b[k]:=by
 unfold zzP
 rw [zT hk,List.map_append,List.flatten_append];simp
theorem kqj (f:Nat->Bool) (i:Nat):(List.range (i+1)).map f=(List.range i).map f++[f i]:=by rw [List.range_succ,List.map_append];rfl
def boT (b:List UInt8) (m:Nat):Option (List Bool×List UInt8):=(byT b ((m+7) / 8)).bind fun x=>if cntT ((zzP x.1).drop m)=0 then some ((zzP x.1).take m,x.2) else none
def qzS (o:Option (List Bool×List UInt8)) (w:World) (e:Ending) (w':World):Prop :=
 ∃ A n c A2 n2 c2,e=.returned (.tuple #[.slice A n c,.slice A2 n2 c2,.int .i64 (okc o.isSome 2)])/\Sl zzU (fun b=>w.heap.size<=b) w' A n c (o.getD ([],[])).1/\Bs (fun b=>w.heap.size<=b) w' A2 n2 c2 (o.getD ([],[])).2/\Below w.heap.size w w'
theorem uut {o:Option (List Bool×List UInt8)} {w w':World} (h:o=none) (hb:Below w.heap.size w w'):qzS o w (.returned (.tuple #[.slice none 0 0,.slice none 0 0,.int .i64 2])) w' :=
 ⟨none,0,0,none,0,0,by rw [h];rfl,by rw [h];exact Sl.nil_ _ _ _,by rw [h];exact Sl.nil_ _ _ _,hb⟩
theorem vvq (x:Bool) (w:World):Calls Tryz.prog 144 #[.bool x] w fun e w'=>e=.returned (.bool x)/\w'=w:=by
 go_enter Tryz.func144,Tryz.ntmps144
 go_wp2
 go_ret
 exact⟨rfl,rfl⟩
theorem qzT (F:Nat->Prop) (A:Option Addr) (n c:Nat) (l:List Bool) (w:World) (h:Sl zzU F w A n c l) (hn:n<=4294967296) :
 Calls Tryz.prog 143 #[.slice A n c,.func (.func 144) #[] #[]] w fun e w'=>e=.returned (.int .i64 ((cntT l:Nat):Int))/\w'=w:=by
 have HH:=zH h;have HL:=zH h.len;have HN:=zH hn
 clear h hn
 go_enter Tryz.func143,Tryz.ntmps143
 go_wp2_with fail
 go_loopw [5,10] (fun sv iv wr=>∃ (i s:Nat),i<=n/\iv=.int .i64 (i:Int)/\sv=.int .i64 (s:Int)/\s=cntT (l.take i)/\s<=i/\wr=w) (fun _ iv _=>n - (intOf iv).toNat)
 case atStart=>exact⟨0,0,Nat.zero_le _,rfl,rfl,rfl,Nat.le_refl _,rfl⟩
 case round =>
  obtain⟨i,s,hi,rfl,rfl,hs,hsi,rfl⟩:=hrel
  have HS:=zH hs
  clear hs
  by_cases hlt:i<n
  · have hil:i<l.length:=by rw [<-HL.out];exact hlt
    obtain⟨b,o,u,rfl,_,hbl,hr,hc⟩:=HH.out.at1 hil rfl
    have HT:=zH (xx4 hil)
    obtain⟨v,hv⟩:∃ v,v=l[i]:=⟨_,rfl⟩
    rw [<-hv] at hr HT
    injection hr with hr
    subst hr
    have i1:(0:Int)<=(i:Int):=by omega
    have i2:(i:Int)<(n:Int):=by omega
    have i3:(i:Int)<=4294967296:=by have:=HN.out;omega
    have i4:(s:Int)<=4294967296:=by omega
    clear hv
    cases v with
    | true =>
      go_wp2_with (first
       | (go_at_call 144;refine (vvq _ _).mono ?_;rintro e w1 ⟨rfl,rfl⟩)
       | fail)
      go_roundw
      case rel=>exact⟨i+1,s+1,by omega,by go_num,by go_num,by rw [HT.out,HS.out];rfl,by omega,by first | trivial | rfl⟩
      case measure=>simp [intOf];omega
    | false =>
      go_wp2_with (first
       | (go_at_call 144;refine (vvq _ _).mono ?_;rintro e w1 ⟨rfl,rfl⟩)
       | fail)
      go_roundw
      case rel=>exact⟨i+1,s,by omega,by go_num,rfl,by rw [HT.out,HS.out];rfl,by omega,by first | trivial | rfl⟩
      case measure=>simp [intOf];omega
  · obtain rfl:i=n:=by omega
    have HE:=zH (show s=cntT l by rw [HS.out,zL (by rw [<-HL.out];exact Nat.le_refl _)])
    go_wp2_with fail
    go_ret
    exact⟨by first | rfl | (rw [HE.out];rfl),by first | trivial | rfl⟩
theorem zz4 (F:Nat->Prop) (A:Option Addr) (n c:Nat) (l:List Bool) (w:World) (h:Sl zzU F w A n c l) (hn:n<=4294967296) :
 Calls Tryz.prog 80 #[.slice A n c] w fun e w'=>e=.returned (.int .i64 ((cntT l:Nat):Int))/\w'=w:=by
 have HH:=zH h;have HN:=zH hn
 clear h hn
 go_enter Tryz.func80,Tryz.ntmps80
 go_wp2_with (first
  | (go_at_call 143;refine (qzT F A n c l _ HH.out HN.out).mono ?_;rintro e w1 ⟨rfl,rfl⟩)
  | fail)
 go_ret
 exact⟨rfl,rfl⟩
theorem vvr (F:Nat->Prop) (A:Option Addr) (n c:Nat) (bs:List UInt8) (m:Nat) (w:World) (h:Bs F w A n c bs) (hn:n<=4294967296) (hm:m<=4096) :
 Calls Tryz.prog 140 #[.slice A n c,.int .i64 (m:Int)] w (qzS (boT bs m) w):=by
 have HH:=zH h;have HN:=zH hn
 obtain⟨q,hq⟩:∃ q,q=(m+7) / 8:=⟨_,rfl⟩
 have HO0:=zH (show boT bs m=(byT bs q).bind fun x=>if cntT ((zzP x.1).drop m)=0 then some ((zzP x.1).take m,x.2) else none by rw [hq];rfl)
 obtain⟨o,ho⟩:∃ o,o=boT bs m:=⟨_,rfl⟩
 rw [<-ho] at HO0 ⊢
 have z0:¬ (m:Int)<0:=by omega
 have z1:¬ (4096:Int)<(m:Int):=by omega
 have zq:((m:Int)+8 - 1) / 8=(q:Int):=by omega
 have zq2:((m:Int)+8 - 1).tdiv 8=(q:Int):=by rw [Int.tdiv_eq_ediv_of_nonneg (by omega)];exact zq
 have zq3:((m:Int)+7) / 8=(q:Int):=by omega
 have HQ5:Hid (q<=512):=zH (by omega)
 have HQM:Hid (m<=8*q):=zH (by omega)
 obtain⟨T,hT⟩:∃ T,T=byT bs q:=⟨_,rfl⟩
 rw [<-hT] at HO0
 have HT:=zH hT
 obtain⟨ec,hec⟩:∃ ec,ec=okc T.isSome 2:=⟨_,rfl⟩
 have HEC:=zH hec
 clear h hn ho hq hT hec
 go_enter Tryz.func140,Tryz.ntmps140
 go_upto_region 4 with (first
  | (go_at_call 191;refine (kqh F A n c bs q w HH.out HN.out (by have:=HQ5.out;omega)).mono ?_;rintro e w1 ⟨A1,n1,c1,A2,n2,c2,rfl,hs1,hs2,hb1⟩;rw [<-HT.out] at hs1 hs2 ⊢;rw [<-HEC.out];have HS1:=zH hs1;have HS2:=zH hs2;have HB1:=zH hb1;clear hs1 hs2 hb1)
  | fail)
 cases T with
 | none =>
   obtain rfl:ec=2:=by rw [HEC.out];rfl
   have HZ:=zH (show o=none by rw [HO0.out];rfl)
   go_wp2_with fail
   go_ret3
   exact uut HZ.out HB1.out
 | some x =>
   obtain rfl:ec=0:=by rw [HEC.out];rfl
   obtain⟨xb,xr⟩:=x
   have HS1:Hid (Bs (fun b=>w.heap.size<=b) w1 A1 n1 c1 xb):=HS1
   have HS2:Hid (Bs (fun b=>w.heap.size<=b) w1 A2 n2 c2 xr):=HS2
   have HLX:Hid (xb.length=q):=zH (qzN HT.out.symm).1
   have HL1:=zH HS1.out.len
   have HO1:=zH (show o=if cntT ((zzP xb).drop m)=0 then some ((zzP xb).take m,xr) else none by rw [HO0.out];rfl)
   go_wp2_with fail
   go_loopw [10,34] (fun ov iv wr=>∃ (i:Nat) (A3:Option Addr) (c3:Nat),i<=n1/\iv=.int .i64 (i:Int)/\ov=.slice A3 (8*i) c3/\OwnF zzU 4 (fun _=>False) wr w1.heap.size A3 (8*i) c3 (zzP (xb.take i))/\Below w1.heap.size w1 wr) (fun _ iv _=>n1 - (intOf iv).toNat)
   case atStart=>exact⟨0,none,0,Nat.zero_le _,rfl,rfl,OwnF.nil_ _ _ _ _ _,zR⟩
   case round =>
    obtain⟨i,A3,c3,hi,rfl,rfl,ho,hb⟩:=hrel
    have HO:=zH ho;have HB:=zH hb
    clear ho hb
    by_cases hlt:i<n1
    · have hil:i<xb.length:=by rw [<-HL1.out];exact hlt
      obtain⟨b,a,rfl,_,_,hx0⟩:=uuF (HS1.out.below HB.out zN) hil
      have HSN:=zH (kqi hil)
      obtain⟨y,hy⟩:∃ y,y=xb[i]:=⟨_,rfl⟩
      rw [<-hy] at hx0 HSN
      have i1:(0:Int)<=(i:Int):=by omega
      have i2:(i:Int)<(n1:Int):=by omega
      have HI5:Hid (i<=512):=zH (by have:=HLX.out;have:=HQ5.out;omega)
      have i3:(i:Int)<=512:=by have:=HI5.out;omega
      clear hy hil
      go_upto_region 11 with fail
      go_loopw [10,38] (fun ov jv wr'=>∃ (j:Nat) (A4:Option Addr) (c4:Nat),j<=8/\jv=.int .i64 (j:Int)/\ov=.slice A4 (8*i+j) c4/\OwnF zzU 4 (fun _=>False) wr' w1.heap.size A4 (8*i+j) c4 (zzP (xb.take i)++(List.range j).map (bitV y))/\Below w1.heap.size w1 wr') (fun _ jv _=>8 - (intOf jv).toNat)
      case atStart=>exact⟨0,A3,c3,Nat.zero_le _,rfl,rfl,by rw [Nat.add_zero];simpa using HO.out,HB.out⟩
      case round =>
       obtain⟨j,A4,c4,hj,rfl,rfl,ho,hb⟩:=hrel
       have HO4:=zH ho;have HB4:=zH hb
       clear ho hb
       rename World=>wr'
       by_cases hjl:j<8
       · have j1:(0:Int)<=(j:Int):=by omega
         have j2:(j:Int)<8:=by omega
         have HM:Hid (8*i+j<=34359738368):=zH (by have:=HI5.out;omega)
         have HBV:=zH (show bitV y j = !decide (bits BinOp.and IntKind.u8 (y.toNat:Int) ((128:Int) / 2 ^ j)=0) from rfl)
         obtain⟨v,hv⟩:∃ v,v=bitV y j:=⟨_,rfl⟩
         obtain⟨z,hz⟩:∃ z,z=bits BinOp.and IntKind.u8 (y.toNat:Int) ((128:Int) / 2 ^ j):=⟨_,rfl⟩
         rw [<-hv,<-hz] at HBV
         have HZ:=zH hz;have HV:=zH hv
         have HRN:=zH (show zzP (xb.take i)++(List.range (j+1)).map (bitV y)=(zzP (xb.take i)++(List.range j).map (bitV y))++[v] by rw [kqj,hv,List.append_assoc])
         clear hv hz
         go_wp2_with (first
          | (at_builtin;refine apl1 (T:=zzU) vvM wr' w1 rfl (.tmp 41) (.tmp 47) rfl w1.heap.size A4 (8*i+j) c4 _ (by rfl) (fun _=>False) (fun _=>False) HO4.out HB4.out zN _ (by rfl) [.bool v] v (by rfl) 4 (by rw [HBV.out,HZ.out];rfl) (fun _ _ _ _ h=>h) HM.out ?_;intro A5 c5 w5 h5)
          | fail)
         go_roundw
         case rel=>exact⟨j+1,A5,c5,by omega,by go_num,rfl,by rw [HRN.out];exact h5.own.weaken (fun b hb _=>hb.1.elim id id) (fun _ _ _ _ h=>h),h5.below⟩
         case measure=>simp [intOf];omega
       · obtain rfl:j=8:=by omega
         have HF:=zH (show zzP (xb.take i)++(List.range 8).map (bitV y)=zzP (xb.take (i+1)) by rw [HSN.out];rfl)
         go_wp2_with fail
         go_roundw
         case rel=>exact⟨i+1,A4,c4,by omega,by go_num,by rw [show 8*(i+1)=8*i+8 by omega],by rw [show 8*(i+1)=8*i+8 by omega,<-HF.out];exact HO4.out,HB4.out⟩
         case measure=>simp [intOf];omega
    · obtain rfl:i=n1:=by omega
      have HTK:=zH (show xb.take i=xb from zL (by rw [<-HL1.out];exact Nat.le_refl _))
      rw [HTK.out] at HO
      obtain⟨N,hN⟩:∃ N,N=8*i:=⟨_,rfl⟩
      rw [<-hN] at HO ⊢
      have hmN:m<=N:=by rw [hN];have h1:=HQM.out;have h2:=HLX.out;have h3:=HL1.out;omega
      have hN5:N<=4096:=by rw [hN];have h1:=HQ5.out;have h2:=HLX.out;have h3:=HL1.out;omega
      have HC3:=HO.out.sl.2.1
      have HCUT:=zH (HO.out.sl.cut (lo:=m) (hi:=N) hmN zN)
      have HCN:=zH (show ((zzP xb).take N).drop m=(zzP xb).drop m by rw [zL (by rw [<-HO.out.sl.len];exact Nat.le_refl _)])
      rw [HCN.out] at HCUT
      have HFR:=zH (Sl.fore HO.out.sl (k:=m) hmN)
      obtain⟨z,hz⟩:∃ z,z=cntT ((zzP xb).drop m):=⟨_,rfl⟩
      have HZC:=zH hz
      have HLIM:Hid (N - m<=4294967296):=zH (by omega)
      have k1:(m:Int)<=(N:Int):=by omega
      have k2:(m:Int)<=(c3:Int):=by omega
      have k3:(N:Int)<=(c3:Int):=by omega
      have k4:m<=c3:=by omega
      have key:∀ (A':Option Addr),Hid (Sl zzU (fun b=>False∨(A3=some ⟨b,0,none⟩/\w1.heap.size<=b)) wr A' (N - m) (c3 - m) ((zzP xb).drop m))->Calls Tryz.prog 80 #[.slice A' (N - m) (c3 - m)] wr fun e w'=>e=.returned (.int .i64 (z:Int))/\w'=wr:=fun A' h=>by rw [hz];exact zz4 _ A' _ _ _ _ h.out HLIM.out
      have HKEY:=zH key
      clear hz key hN hmN hN5 HC3 hi
      rcases A3 with _ | ⟨a⟩
      · have hN0:N=0:=by
         rcases Nat.eq_zero_or_pos N with h | h
         · exact h
         · obtain⟨b,a,u,e,_⟩:=HO.out.sl.at1 (k:=0) (by rw [<-HO.out.sl.len];exact h) rfl
           cases e
        obtain rfl:m=0:=by omega
        subst hN0
        have HC:=HKEY.out none (zH (by have h:=HCUT.out;simpa using h))
        have HCALL:=zH HC
        clear HC
        go_upto_if 55 with (first
         | (go_at_call 80;refine HCALL.out.mono ?_;rintro e w4 ⟨rfl,rfl⟩)
         | fail)
        by_cases hz0:z=0
        · have hz1:¬ (0:Int)<(z:Int):=by omega
          have HRES:=zH (show o=some ((zzP xb).take 0,xr) by rw [HO1.out,if_pos (by rw [<-HZC.out];exact hz0)])
          clear hz0
          go_wp2_with fail
          go_ret3
          exact⟨_,_,_,A2,n2,c2,by rw [HRES.out];rfl,by rw [HRES.out];exact HFR.out.weaken (fun b hb _=>hb.elim (fun h=>h.elim) (fun h=>Nat.le_trans HB1.out.size h.2)),by rw [HRES.out];exact HS2.out.below HB.out zN,HB1.out.trans (HB.out.mono HB1.out.size)⟩
        · have hz1:(0:Int)<(z:Int):=by omega
          have HRES:=zH (show o=none by rw [HO1.out,if_neg (by rw [<-HZC.out];exact hz0)])
          clear hz0
          go_wp2_with fail
          go_ret3
          exact uut HRES.out (HB1.out.trans (HB.out.mono HB1.out.size))
      · obtain⟨e1,-,-⟩:=zzx HO.out (b:=a.block) rfl
        injection e1 with e1
        rw [e1] at HO HCUT HFR HKEY ⊢
        obtain⟨b,hb⟩:∃ b,b=a.block:=⟨_,rfl⟩
        rw [<-hb] at HO HCUT HFR HKEY ⊢
        clear e1 hb
        by_cases hcm:c3=m
        · have HCALL:=zH (HKEY.out (some ⟨b,0,none⟩) (zH (by have h:=HCUT.out;rw [if_pos hcm] at h;exact h)))
          rw [show c3 - m=0 by omega] at HCALL
          rw [hcm] at HFR
          go_upto_if 55 with (first
           | (go_at_call 80;refine HCALL.out.mono ?_;rintro e w4 ⟨rfl,rfl⟩)
           | fail)
          by_cases hz0:z=0
          · have hz1:¬ (0:Int)<(z:Int):=by omega
            have HRES:=zH (show o=some ((zzP xb).take m,xr) by rw [HO1.out,if_pos (by rw [<-HZC.out];exact hz0)])
            clear hz0
            go_wp2_with fail
            go_ret3
            exact⟨_,_,_,A2,n2,c2,by rw [HRES.out];rfl,by rw [HRES.out];exact HFR.out.weaken (fun b hb _=>hb.elim (fun h=>h.elim) (fun h=>Nat.le_trans HB1.out.size h.2)),by rw [HRES.out];exact HS2.out.below HB.out zN,HB1.out.trans (HB.out.mono HB1.out.size)⟩
          · have hz1:(0:Int)<(z:Int):=by omega
            have HRES:=zH (show o=none by rw [HO1.out,if_neg (by rw [<-HZC.out];exact hz0)])
            clear hz0
            go_wp2_with fail
            go_ret3
            exact uut HRES.out (HB1.out.trans (HB.out.mono HB1.out.size))
        · by_cases hm0:m=0
          · subst hm0
            have HCALL:=zH (HKEY.out (some ⟨b,0,none⟩) (zH (by have h:=HCUT.out;rw [if_neg hcm] at h;simpa [Addr.add] using h)))
            go_upto_if 55 with (first
             | (go_at_call 80;refine HCALL.out.mono ?_;rintro e w4 ⟨rfl,rfl⟩)
             | fail)
            by_cases hz0:z=0
            · have hz1:¬ (0:Int)<(z:Int):=by omega
              have HRES:=zH (show o=some ((zzP xb).take 0,xr) by rw [HO1.out,if_pos (by rw [<-HZC.out];exact hz0)])
              clear hz0
              go_wp2_with fail
              go_ret3
              exact⟨_,_,_,A2,n2,c2,by rw [HRES.out];rfl,by rw [HRES.out];exact HFR.out.weaken (fun b hb _=>hb.elim (fun h=>h.elim) (fun h=>Nat.le_trans HB1.out.size h.2)),by rw [HRES.out];exact HS2.out.below HB.out zN,HB1.out.trans (HB.out.mono HB1.out.size)⟩
            · have hz1:(0:Int)<(z:Int):=by omega
              have HRES:=zH (show o=none by rw [HO1.out,if_neg (by rw [<-HZC.out];exact hz0)])
              clear hz0
              go_wp2_with fail
              go_ret3
              exact uut HRES.out (HB1.out.trans (HB.out.mono HB1.out.size))
          · have HCALL:=zH (HKEY.out (some ⟨b,m,none⟩) (zH (by have h:=HCUT.out;rw [if_neg hcm] at h;simpa [Addr.add,hm0,show zzU.size=1 from rfl] using h)))
            go_upto_if 55 with (first
             | (go_at_call 80;refine HCALL.out.mono ?_;rintro e w4 ⟨rfl,rfl⟩)
             | fail)
            by_cases hz0:z=0
            · have hz1:¬ (0:Int)<(z:Int):=by omega
              have HRES:=zH (show o=some ((zzP xb).take m,xr) by rw [HO1.out,if_pos (by rw [<-HZC.out];exact hz0)])
              clear hz0
              go_wp2_with fail
              go_ret3
              exact⟨_,_,_,A2,n2,c2,by rw [HRES.out];rfl,by rw [HRES.out];exact HFR.out.weaken (fun b hb _=>hb.elim (fun h=>h.elim) (fun h=>Nat.le_trans HB1.out.size h.2)),by rw [HRES.out];exact HS2.out.below HB.out zN,HB1.out.trans (HB.out.mono HB1.out.size)⟩
            · have hz1:(0:Int)<(z:Int):=by omega
              have HRES:=zH (show o=none by rw [HO1.out,if_neg (by rw [<-HZC.out];exact hz0)])
              clear hz0
              go_wp2_with fail
              go_ret3
              exact uut HRES.out (HB1.out.trans (HB.out.mono HB1.out.size))
end
section
open Go Go.RowKit
def nuT (b:List UInt8) (m:Nat):Option (List Bool):=if b=[] then some (List.replicate m true) else (boT b m).bind fun x=>if x.2=[]/\cntT x.1≠m then some x.1 else none
def qxo (o:Option (List Bool)) (w:World) (e:Ending) (w':World):Prop :=
 ∃ A n c,e=.returned (.tuple #[.slice A n c,.int .i64 (okc o.isSome 2)])/\Sl zzU (fun b=>w.heap.size<=b) w' A n c (o.getD [])/\Below w.heap.size w w'
theorem qxU {o:Option (List Bool)} {w w':World} (h:o=none) (hb:Below w.heap.size w w'):qxo o w (.returned (.tuple #[.slice none 0 0,.int .i64 2])) w' :=
 ⟨none,0,0,by rw [h];rfl,by rw [h];exact Sl.nil_ _ _ _,hb⟩
theorem qxV {b:List UInt8} {m:Nat} {x:List Bool×List UInt8} (h:boT b m=some x):x.1.length=m/\x.2.length<=b.length:=by
 unfold boT at h
 cases hT:byT b ((m+7) / 8) with
 | none=>rw [hT] at h;cases h
 | some y =>
   rw [hT,Option.bind_some] at h
   obtain⟨h1,h2⟩:=qzN hT
   split at h
   · injection h with h;subst h
     refine⟨?_,h2⟩
     show ((zzP y.1).take m).length=m
     rw [List.length_take,uus,h1];omega
   · cases h
theorem uu1 (F:Nat->Prop) (A:Option Addr) (n c:Nat) (bs:List UInt8) (m:Nat) (w:World) (h:Bs F w A n c bs) (hn:n<=4294967296) (hm:m<=4096) (hne:bs≠[]) :
 Calls Tryz.prog 78 #[.slice A n c,.int .i64 (m:Int)] w (qxo (nuT bs m) w):=by
 have HH:=zH h;have HN:=zH hn;have HM:=zH hm
 have HO0:=zH (show nuT bs m=(boT bs m).bind fun x=>if x.2=[]/\cntT x.1≠m then some x.1 else none by unfold nuT;rw [if_neg hne])
 obtain⟨o,ho⟩:∃ o,o=nuT bs m:=⟨_,rfl⟩
 rw [<-ho] at HO0 ⊢
 have z0:¬ (m:Int)<0:=by omega
 have z1:¬ (4096:Int)<(m:Int):=by omega
 have z2:¬ (n:Int)=0:=by have:=h.len;have:=List.length_pos_iff.2 hne;omega
 have z3:((n:Int)==0)=false:=by simpa using z2
 obtain⟨T,hT⟩:∃ T,T=boT bs m:=⟨_,rfl⟩
 rw [<-hT] at HO0
 have HT:=zH hT
 obtain⟨ec,hec⟩:∃ ec,ec=okc T.isSome 2:=⟨_,rfl⟩
 have HEC:=zH hec
 clear h hn ho hT hec hne hm
 go_enter Tryz.func78,Tryz.ntmps78
 go_upto_region 6 with (first
  | (go_at_call 140;refine (vvr F A n c bs m w HH.out HN.out HM.out).mono ?_;rintro e w1 ⟨A1,n1,c1,A2,n2,c2,rfl,hs1,hs2,hb1⟩;rw [<-HT.out] at hs1 hs2 ⊢;rw [<-HEC.out];have HS1:=zH hs1;have HS2:=zH hs2;have HB1:=zH hb1;clear hs1 hs2 hb1)
  | fail)
 cases T with
 | none =>
   obtain rfl:ec=2:=by rw [HEC.out];rfl
   have HZ:=zH (show o=none by rw [HO0.out];rfl)
   go_wp2_with fail
   go_ret2
   exact qxU HZ.out HB1.out
 | some x =>
   obtain rfl:ec=0:=by rw [HEC.out];rfl
   obtain⟨xb,xr⟩:=x
   have HS1:Hid (Sl zzU (fun b=>w.heap.size<=b) w1 A1 n1 c1 xb):=HS1
   have HS2:Hid (Bs (fun b=>w.heap.size<=b) w1 A2 n2 c2 xr):=HS2
   have HO1:=zH (show o=if xr=[]/\cntT xb≠m then some xb else none by rw [HO0.out];rfl)
   have HL1:Hid (n1=m):=zH (by rw [HS1.out.len];exact (qxV HT.out.symm).1)
   by_cases hr:xr=[]
   · obtain rfl:n2=0:=by rw [HS2.out.len,hr];rfl
     obtain⟨z,hz⟩:∃ z,z=cntT xb:=⟨_,rfl⟩
     have HZ:=zH hz
     by_cases he:z=m
     · have HD:=zH (show o=none by rw [HO1.out,if_neg (fun h=>h.2 (by rw [<-hz];exact he))])
       have he1:(z:Int)=(m:Int):=by omega
       have he2:((z:Int)==(m:Int))=true:=by simpa using he1
       clear hr hz he
       go_wp2_with (first
        | (go_at_call 80;refine (zz4 _ A1 n1 c1 xb _ HS1.out (by have:=HL1.out;have:=HM.out;omega)).mono ?_;rintro e w2 ⟨rfl,rfl⟩;rw [<-HZ.out])
        | fail)
       go_ret2
       exact qxU HD.out HB1.out
     · have HD:=zH (show o=some xb by rw [HO1.out,if_pos ⟨hr,by rw [<-hz];exact he⟩])
       have he1:¬ (z:Int)=(m:Int):=by omega
       have he2:((z:Int)==(m:Int))=false:=by simpa using he1
       clear hr hz he
       go_wp2_with (first
        | (go_at_call 80;refine (zz4 _ A1 n1 c1 xb _ HS1.out (by have:=HL1.out;have:=HM.out;omega)).mono ?_;rintro e w2 ⟨rfl,rfl⟩;rw [<-HZ.out])
        | fail)
       go_ret2
       exact⟨A1,n1,c1,by rw [HD.out];rfl,by rw [HD.out];exact HS1.out,HB1.out⟩
   · have hn2:(0:Int)<(n2:Int):=by have:=HS2.out.len;have:=List.length_pos_iff.2 hr;omega
     have HD:=zH (show o=none by rw [HO1.out,if_neg (fun h=>hr h.1)])
     clear hr
     go_wp2_with fail
     go_ret2
     exact qxU HD.out HB1.out
def zzz (on:Bool):VV:=⟨!on,0,⟨#[]⟩⟩
def vvs (p:List Bool) (l:List VV) (k:Nat):VV:=if p.getD k false then l.getD (cntT (p.take k)) (zzz false) else zzz false
def uu2 (p:List Bool) (l:List VV):List VV:=(List.range p.length).map (vvs p l)
def yyn (p:List Bool) (l:List VV) (i:Nat):List VV:=(List.range p.length).map fun k=>if k<i then vvs p l k else zzz (p.getD k false)
theorem kqk (p:List Bool) (l:List VV):yyn p l 0=p.map zzz:=by
 unfold yyn
 apply List.ext_getElem
 · simp
 · intro k h1 h2
   simp only [List.getElem_map,List.getElem_range,Nat.not_lt_zero,if_false]
   rw [List.getD_eq_getElem?_getD,List.getElem?_eq_getElem (by simpa using h2)];rfl
theorem qzU (p:List Bool) (l:List VV):yyn p l p.length=uu2 p l:=by
 unfold yyn uu2
 apply List.map_congr_left
 intro k hk
 rw [if_pos (List.mem_range.1 hk)]
theorem xx5 (p:List Bool) (l:List VV) (i:Nat):(yyn p l i).length=p.length:=by simp [yyn]
theorem jjF {p:List Bool} {l:List VV} {i k:Nat} (h:k<(yyn p l i).length):(yyn p l i)[k]=if k<i then vvs p l k else zzz (p.getD k false):=by simp [yyn]
theorem zqZ {p:List Bool} {l:List VV} {i:Nat} (hi:i<p.length) (h:p[i]=false):yyn p l (i+1)=yyn p l i:=by
 unfold yyn
 apply List.map_congr_left
 intro k _
 by_cases hk:k<i
 · rw [if_pos hk,if_pos (by omega)]
 · by_cases hk2:k=i
   · subst hk2
     rw [if_pos (by omega),if_neg hk]
     have e:p.getD k false=false:=by rw [List.getD_eq_getElem?_getD,List.getElem?_eq_getElem hi,h];rfl
     unfold vvs
     rw [e,if_neg (by simp)]
   · rw [if_neg hk,if_neg (by omega)]
theorem qzV {p:List Bool} {l:List VV} {i:Nat} (hi:i<p.length) (h:p[i]=true) (ha:cntT (p.take i)<l.length):yyn p l (i+1)=(yyn p l i).set i l[cntT (p.take i)]:=by
 apply List.ext_getElem
 · rw [List.length_set,xx5,xx5]
 · intro k h1 h2
   rw [List.getElem_set,jjF]
   by_cases hk2:i=k
   · subst hk2
     rw [if_pos (Nat.lt_succ_self i),if_pos rfl]
     have e:p.getD i false=true:=by rw [List.getD_eq_getElem?_getD,List.getElem?_eq_getElem hi,h];rfl
     unfold vvs
     rw [e,if_pos rfl,List.getD_eq_getElem?_getD,List.getElem?_eq_getElem ha];rfl
   · rw [if_neg hk2,jjF]
     by_cases hk:k<i
     · rw [if_pos hk,if_pos (show k<i+1 by omega)]
     · rw [if_neg hk,if_neg (show ¬ k<i+1 by omega)]
theorem xqt {p:List Bool} {i:Nat} (hi:i<p.length) (h:p[i]=true):cntT (p.take i)<cntT p:=by
 have h1:=xx4 hi
 rw [h,if_pos rfl] at h1
 have h2:cntT p=cntT (p.take (i+1))+cntT (p.drop (i+1)):=by
  unfold cntT
  rw [<-List.length_append,<-List.filter_append,List.take_append_drop]
 omega
def zq0 (p:List Bool) (l:List VV):Option (List VV):=if cntT p=l.length/\l.all (fun v => !v.null)=true then some (uu2 p l) else none
def xqu (o:Option (List VV)) (w:World) (e:Ending) (w':World):Prop :=
 ∃ A n c,e=.returned (.tuple #[.slice A n c,.int .i64 (okc o.isSome 1)])/\Sl tVV (fun b=>w.heap.size<=b) w' A n c (o.getD [])/\Below w.heap.size w w'
theorem kql (x:Bool) (w:World):Calls Tryz.prog 149 #[.bool x] w fun e w'=>e=.returned (.agg #[.bool (!x),.int .i64 0,.string ⟨#[]⟩])/\Below w.heap.size w w':=by
 go_enter Tryz.func149,Tryz.ntmps149
 go_wp2
 exact bodyPost_ret (v:=.agg #[.bool (!x),.int .i64 0,.string ⟨#[]⟩]) (by simp [results,Tryz.results149,go_sem]) rfl ⟨rfl,(Below.refl _ w).alloc zN _⟩
theorem uuu (F:Nat->Prop) (A:Option Addr) (n c:Nat) (l:List Bool) (w:World) (h:Sl zzU F w A n c l) (hl:n<=4096) :
 Calls Tryz.prog 148 #[.slice A n c,.func (.func 149) #[] #[]] w fun e w'=>∃ A2 c2,e=.returned (.slice A2 n c2)/\OwnF tVV 74 (fun _=>False) w' w.heap.size A2 n c2 (l.map zzz)/\Below w.heap.size w w':=by
 have HL:=zH h.len;have HH:=zH h;have HN:=zH hl
 clear h hl
 go_enter Tryz.func148,Tryz.ntmps148
 go_wp2_with fail
 go_loopw [5,10] (fun v i wr=>∃ (k:Nat) (A2:Option Addr) (c2:Nat),k<=n/\i=.int .i64 (k:Int)/\v=.slice A2 k c2/\OwnF tVV 74 (fun _=>False) wr w.heap.size A2 k c2 ((l.take k).map zzz)/\Below w.heap.size w wr)
  (fun _ i _=>n - (intOf i).toNat)
 case atStart=>exact⟨0,none,0,Nat.zero_le _,rfl,rfl,OwnF.nil_ _ _ _ _ _,zR⟩
 case round =>
  obtain⟨k,A2,c2,hk,rfl,rfl,hown,hb⟩:=hrel
  have HO:=zH hown;have HB:=zH hb
  clear hown hb
  by_cases hlt:k<n
  · have hkl:k<l.length:=by rw [<-HL.out];exact hlt
    obtain⟨b,o,u,rfl,_,hbl,hr,hc⟩:=(HH.out.below HB.out zN).at1 hkl rfl
    have HT:=zH (show (l.take (k+1)).map zzz=(l.take k).map zzz++[zzz l[k]] by rw [zT hkl,List.map_append];rfl)
    obtain⟨v,hv⟩:∃ v,v=l[k]:=⟨_,rfl⟩
    rw [<-hv] at hr HT
    injection hr with hr
    subst hr
    have i1:(0:Int)<=(k:Int):=by omega
    have i2:(k:Int)<(n:Int):=by omega
    have i3:(k:Int)<=4096:=by have:=HN.out;omega
    have HLIM:Hid (k<=34359738368):=zH (by omega)
    have HOK:Hid (tVV.rep (fun _=>False) wr [.bool (!v),.int .i64 0,.string ⟨#[]⟩] (zzz v)):=zH ⟨rfl,show (-9223372036854775808:Int)<=0 by decide,show (0:Int)<=9223372036854775807 by decide,show (⟨#[]⟩:ByteArray).size<=Go.maxLen by decide⟩
    clear hv hkl
    go_wp2_with (first
     | (go_at_call 149;refine (kql _ _).mono ?_;rintro e w1 ⟨rfl,hb1⟩;have HB1:=zH hb1;clear hb1)
     | (at_builtin;refine apl1 (T:=tVV) qzy w1 w rfl (.tmp 14) (.tmp 18) rfl w.heap.size A2 k c2 _ (by rfl) (fun _=>False) (fun _=>False) (HO.out.keepB HB1.out) (HB.out.trans (HB1.out.mono HB.out.size)) zN _ (by rfl) [.bool (!v),.int .i64 0,.string ⟨#[]⟩] (zzz v) HOK.out 74 rfl (fun _ _ _ _ h=>h) HLIM.out ?_;intro A5 c5 w5 h5)
     | fail)
    go_roundw
    case rel=>exact⟨k+1,A5,c5,by omega,by go_num,rfl,by rw [HT.out];exact h5.own.weaken (fun b hb _=>hb.1.elim id id) (fun _ _ _ _ h=>h),h5.below⟩
    case measure=>simp [intOf];omega
  · obtain rfl:k=n:=by omega
    have HE:=zH (show (l.take k).map zzz=l.map zzz by rw [zL (by rw [<-HL.out];exact Nat.le_refl _)])
    go_wp2_with fail
    go_ret
    exact⟨A2,c2,rfl,by rw [<-HE.out];exact HO.out,HB.out⟩
theorem zq1 (F:Nat->Prop) (A:Option Addr) (n c:Nat) (l:List Bool) (w:World) (h:Sl zzU F w A n c l) (hn:n<=4096) :
 Calls Tryz.prog 197 #[.slice A n c,.bool false] w fun e w'=>∃ r:Int,e=.returned (.int .i64 r)/\decide (0<=r) = !l.all id/\w'=w:=by
 have HH:=zH h;have HL:=zH h.len;have HN:=zH hn
 clear h hn
 go_enter Tryz.func197,Tryz.ntmps197
 go_wp2_with fail
 go_loopw [5,8] (fun _ iv wr=>∃ (i:Nat),i<=n/\iv=.int .i64 (i:Int)/\(l.take i).all id=true/\wr=w) (fun _ iv _=>n - (intOf iv).toNat)
 case atStart=>exact⟨0,Nat.zero_le _,rfl,rfl,rfl⟩
 case round =>
  obtain⟨i,hi,rfl,hs,rfl⟩:=hrel
  have HS:=zH hs
  clear hs
  by_cases hlt:i<n
  · have hil:i<l.length:=by rw [<-HL.out];exact hlt
    obtain⟨b,o,u,rfl,_,hbl,hr,hc⟩:=HH.out.at1 hil rfl
    have HMEM:=zH (List.getElem_mem hil)
    have HTK:=zH (show (l.take (i+1)).all id=((l.take i).all id&&l[i]) by rw [zT hil,List.all_append];simp)
    obtain⟨v,hv⟩:∃ v,v=l[i]:=⟨_,rfl⟩
    rw [<-hv] at hr HMEM HTK
    injection hr with hr
    subst hr
    have i1:(0:Int)<=(i:Int):=by omega
    have i2:(i:Int)<(n:Int):=by omega
    have i3:(i:Int)<=4096:=by have:=HN.out;omega
    clear hv hil
    cases v with
    | true =>
      go_wp2_with fail
      go_roundw
      case rel=>exact⟨i+1,by omega,by go_num,by rw [HTK.out,HS.out];rfl,by first | trivial | rfl⟩
      case measure=>simp [intOf];omega
    | false =>
      have HF:=zH (show l.all id=false by rw [List.all_eq_false];exact⟨false,HMEM.out,by simp⟩)
      go_wp2_with fail
      go_ret
      exact⟨(i:Int),rfl,by rw [HF.out,decide_eq_true i1];rfl,by first | trivial | rfl⟩
  · obtain rfl:i=n:=by omega
    have HE:=zH (show l.all id=true by have h1:=HS.out;rwa [zL (by rw [<-HL.out];exact Nat.le_refl _)] at h1)
    go_wp2_with fail
    go_ret
    exact⟨-1,rfl,by rw [HE.out];rfl,by first | trivial | rfl⟩
theorem jjG (F:Nat->Prop) (A:Option Addr) (n c:Nat) (l:List Bool) (w:World) (h:Sl zzU F w A n c l) (hn:n<=4096) :
 Calls Tryz.prog 145 #[.slice A n c,.bool false] w fun e w'=>e=.returned (.bool (!l.all id))/\w'=w:=by
 have HH:=zH h;have HN:=zH hn
 clear h hn
 go_enter Tryz.func145,Tryz.ntmps145
 go_wp2_with (first
  | (go_at_call 197;refine (zq1 F A n c l _ HH.out HN.out).mono ?_;rintro e w1 ⟨r,rfl,hr,rfl⟩;have HR:=zH hr;clear hr)
  | fail)
 go_ret
 exact⟨by rw [<-HR.out];rfl,rfl⟩
end
section
open Go Go.RowKit
theorem yyb (F:Nat->Prop) (A:Option Addr) (n c:Nat) (l:List UInt8) (sg:Bool) (w:World) (h:Bs F w A n c l) (hn:n<=4294967296) :
 Calls Tryz.prog 229 #[.slice A n c,.int .i64 0,.bool sg] w fun e w'=>∃ A2 c2,e=.returned (.tuple #[.slice none 0 0,.slice A2 n c2,.int .i64 0])/\Bs (fun b=>w.heap.size<=b) w' A2 n c2 l/\Below w.heap.size w w':=by
 have HH:=zH h;have HN:=zH hn
 clear h hn
 go_enter Tryz.func229,Tryz.ntmps229
 go_wp2_with fail
 go_loopw [0,9] (fun bv ov wr=>bv=.slice A n c/\ov=.slice none 0 0/\wr=w) (fun _ _ _=>0)
 case atStart=>exact⟨rfl,rfl,rfl⟩
 case round =>
  obtain⟨rfl,rfl,hw⟩:=hrel
  obtain rfl:=hw.symm
  go_wp2_with (first
   | (go_at_call 181;refine (kqm F A n c l _ HH.out (by have:=HN.out;omega)).mono ?_;rintro e w1 ⟨A1,n1,c1,rfl,ho1,hb1⟩;have HO1:=zH ho1;have HB1:=zH hb1;clear ho1 hb1)
   | fail)
  go_ret3
  have hl:n1=n:=by rw [HO1.out.len,<-HH.out.len]
  subst hl
  exact⟨A1,c1,rfl,HO1.out.bs.weaken (fun b hb _=>hb.2),HB1.out⟩
theorem xxi (F:Nat->Prop) (A:Option Addr) (c:Nat) (w:World) (h:Bs F w A 0 c []) :
 Calls Tryz.prog 235 #[.slice A 0 c,.int .i64 0] w fun e w'=>e=.returned (.tuple #[.slice none 0 0,.int .i64 0])/\Below w.heap.size w w':=by
 have HH:=zH h
 clear h
 go_enter Tryz.func235,Tryz.ntmps235
 go_wp2_with (first
  | (go_at_call 229;refine (yyb F A 0 c [] false _ HH.out (by omega)).mono ?_;rintro e w1 ⟨A1,c1,rfl,hs1,hb1⟩;have HB1:=zH hb1;clear hs1 hb1)
  | fail)
 go_ret2
 exact⟨rfl,HB1.out⟩
theorem zq4 (F F2:Nat->Prop) (A A2:Option Addr) (c c2:Nat) (w:World) (h:Bs F w A 0 c []) (h2:Bs F2 w A2 0 c2 []) :
 Calls Tryz.prog 195 #[.slice A 0 c,.slice A2 0 c2,.int .i64 0] w fun e w'=>e=.returned (.tuple #[.slice none 0 0,.int .i64 0])/\Below w.heap.size w w':=by
 have HH:=zH h;have HH2:=zH h2
 clear h h2
 go_enter Tryz.func195,Tryz.ntmps195
 go_upto_region 5 with (first
  | (go_at_call 235;refine (xxi F2 A2 c2 _ HH2.out).mono ?_;rintro e w1 ⟨rfl,hb1⟩;have HB1:=zH hb1;clear hb1)
  | fail)
 have hX:=xqv (HH.out.below HB1.out zN)
 go_wp2_with fail
 go_loopw [10,11,27] (fun ov rv iv wr=>ov=.slice none 0 0/\rv=.string ⟨#[]⟩/\iv=.int .i64 0/\wr=w1) (fun _ _ _ _=>0)
 case atStart=>exact⟨rfl,rfl,rfl,rfl⟩
 case round =>
  obtain⟨rfl,rfl,rfl,hw⟩:=hrel
  obtain rfl:=hw.symm
  go_wp2_with fail
  go_ret2
  exact⟨rfl,HB1.out⟩
theorem uu3 (F:Nat->Prop) (A:Option Addr) (c:Nat) (w:World) (h:Bs F w A 0 c []) :
 Calls Tryz.prog 192 #[.slice A 0 c,.int .i64 0] w fun e w'=>∃ A2 c2,e=.returned (.tuple #[.slice none 0 0,.slice A2 0 c2,.int .i64 0])/\Below w.heap.size w w':=by
 have HH:=zH h
 clear h
 go_enter Tryz.func192,Tryz.ntmps192
 go_wp2_with (first
  | (go_at_call 140;refine (vvr F A 0 c [] 0 _ HH.out (by omega) (by omega)).mono ?_;rintro e w1 ⟨A1,n1,c1,A2,n2,c2,rfl,hs1,hs2,hb1⟩;obtain rfl:n1=0:=hs1.len;obtain rfl:n2=0:=hs2.len;rw [show okc (boT [] 0).isSome 2=0 from rfl];have HB1:=zH hb1;clear hs1 hs2 hb1)
  | fail)
 go_loopw [10,23] (fun ov iv wr=>ov=.slice none 0 0/\iv=.int .i64 0/\wr=w1) (fun _ _ _=>0)
 case atStart=>exact⟨rfl,rfl,rfl⟩
 case round =>
  obtain⟨rfl,rfl,hw⟩:=hrel
  obtain rfl:=hw.symm
  go_wp2_with fail
  go_ret3
  first | exact⟨A2,c2,rfl,HB1.out⟩ | exact⟨⟨A2,c2,rfl⟩,HB1.out⟩
theorem zq5 (w:World):(Instr.makeSlice 94 (.int .i64 0) (.int .i64 0)).run Tryz.prog w=.ok (.slice (some ⟨w.heap.size,0,none⟩) 0 0) (w.alloc (.cells (madeCells #[.int .i64 0] 0) 3)) :=
 kqT (by_:=8) (z:=.int .i64 0) Tryz.underlying94 (by kernel_rfl) (by decide) 0 (by omega) w
theorem kqn (F:Nat->Prop) (A:Option Addr) (c:Nat) (tm:Bool) (w:World) (h:Bs F w A 0 c []) :
 Calls Tryz.prog 193 #[.slice A 0 c,.int .i64 0,.bool tm] w fun e w'=>∃ A2 c2,e=.returned (.tuple #[.slice none 0 0,.slice A2 0 c2,.int .i64 0])/\Below w.heap.size w w':=by
 have HH:=zH h
 have hmk:=zq5
 clear h
 cases tm with
 | false =>
   go_enter Tryz.func193,Tryz.ntmps193
   go_wp2_with (first
    | (go_at_call_of 229 (Value.bool true);refine (yyb F A 0 c [] true _ HH.out (by omega)).mono ?_;rintro e w1 ⟨A1,c1,rfl,hs1,hb1⟩;have HS1:=zH hs1;have HB1:=zH hb1;clear hs1 hb1)
    | fail)
   go_loopw [13,41] (fun ov iv wr=>ov=.slice none 0 0/\iv=.int .i64 0/\Below w.heap.size w wr) (fun _ _ _=>0)
   case atStart=>exact⟨rfl,rfl,HB1.out.alloc HB1.out.size _⟩
   case round =>
    obtain⟨rfl,rfl,hw⟩:=hrel
    go_wp2_with fail
    go_ret3
    first | exact⟨_,_,rfl,hw⟩ | exact⟨⟨_,_,rfl⟩,hw⟩
 | true =>
   go_enter Tryz.func193,Tryz.ntmps193
   go_wp2_with (first
    | (go_at_call_of 229 (Value.bool true);refine (yyb F A 0 c [] true _ HH.out (by omega)).mono ?_;rintro e w1 ⟨A1,c1,rfl,hs1,hb1⟩;have HS1:=zH hs1;have HB1:=zH hb1;clear hs1 hb1)
    | (go_at_call_of 229 (Value.bool false);refine (yyb _ A1 0 c1 [] false _ ((HS1.out.weaken (F':=fun b=>w.heap.size<=b/\b<w1.heap.size) fun b hb hl=>⟨hb,hl⟩).alloc _) (by omega)).mono ?_;rintro e w2 ⟨A2,c2,rfl,hs2,hb2⟩;have HS2:=zH hs2;have HB2:=zH hb2;clear hs2 hb2)
    | fail)
   go_loopw [13,41] (fun ov iv wr=>ov=.slice none 0 0/\iv=.int .i64 0/\Below w.heap.size w wr) (fun _ _ _=>0)
   case atStart=>exact⟨rfl,rfl,(HB1.out.alloc HB1.out.size _).trans (HB2.out.mono (by rw [zS];have:=HB1.out.size;omega))⟩
   case round =>
    obtain⟨rfl,rfl,hw⟩:=hrel
    go_wp2_with fail
    go_ret3
    first | exact⟨_,_,rfl,hw⟩ | exact⟨⟨_,_,rfl⟩,hw⟩
theorem kqo (F:Nat->Prop) (A:Option Addr) (c:Nat) (k:Int) (w:World) (h:Bs F w A 0 c []) (hk:1<=k/\k<=5) :
 Calls Tryz.prog 141 #[.int .i64 k,.slice A 0 c,.int .i64 0] w fun e w'=>e=.returned (.tuple #[.slice none 0 0,.int .i64 0])/\Below w.heap.size w w':=by
 have HH:=zH h
 clear h
 obtain rfl | rfl | rfl | rfl | rfl:k=1∨k=2∨k=3∨k=4∨k=5:=by omega
 all_goals
  clear hk
  go_enter Tryz.func141,Tryz.ntmps141
  go_wp2_with (first
   | (go_at_call 44;refine (zze _ _).mono ?_;rintro e w1 ⟨rfl,hw⟩;obtain rfl:=hw.symm;rw [decide_eq_true (by decide)])
   | (go_at_call 192;refine (uu3 F A c _ HH.out).mono ?_;rintro e w2 ⟨A2,c2,rfl,hb2⟩;have HB2:=zH hb2;clear hb2)
   | (go_at_call 193;refine (kqn F A c _ _ HH.out).mono ?_;rintro e w2 ⟨A2,c2,rfl,hb2⟩;have HB2:=zH hb2;clear hb2)
   | fail)
  go_ret2
  exact⟨rfl,HB2.out⟩
end
end Go.Proofs.YtpmglcachffojaaGreatDoor
