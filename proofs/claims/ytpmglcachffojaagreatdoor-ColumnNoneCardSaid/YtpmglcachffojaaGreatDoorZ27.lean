/- A part of what None leans on. -/
import Derived.Test.YtpmglcachffojaaGreatDoorZ21
import Derived.Test.YtpmglcachffojaaGreatDoorZ24
set_option maxRecDepth 100000
set_option maxHeartbeats 16000000
namespace Go.Proofs.YtpmglcachffojaaGreatDoor
section
open Go Go.RowKit
def xxW (k:Int) (l:List VV):List UInt8 :=
 if k=1 then byB (xxk (l.map fun v=>v.n==1))
 else if k=5 then rleB true (l.map fun v=>v.n / 1000)++rleB false (l.map fun v=>v.n % 1000)
 else rleB true (l.map fun v=>v.n)
theorem zqN (l:List VV) (h:∀ v∈l,v.ok):zzV true (l.map fun v=>v.n)/\zzV true (l.map fun v=>v.n / 1000)/\zzV false (l.map fun v=>v.n % 1000):=by
 refine⟨fun x hx=>?_,fun x hx=>?_,fun x hx=>?_⟩ <;>
 · obtain⟨v,hv,rfl⟩:=List.mem_map.1 hx
   obtain⟨h0,h1,_⟩:=h v hv
   refine⟨by omega,by omega,?_⟩
   first | exact .inl rfl | exact .inr (by omega)
theorem xqq {F:Nat->Prop} {w:World} {A:Option Addr} {n c:Nat} {l:List VV} (h:Sl tVV F w A n c l):∀ v∈l,v.ok:=by
 intro v hv
 obtain⟨i,hi,rfl⟩:=List.getElem_of_mem hv
 obtain⟨_,_,_,_,_,_,hr,_⟩:=h.at_ hi (by decide)
 exact hr.2
theorem zqO (k:Int) (hk:1<=k/\k<=5) (F:Nat->Prop) (A:Option Addr) (n c:Nat) (l:List VV) (w:World) (h:Sl tVV F w A n c l) (hn:n<=4096) (hm:∀ v∈l,v.null=false/\mayV k v=true) (hT:Lib.Utf8Tabs 0 1 w) :
 Calls Tryz.prog 45 #[.int .i64 k,.slice A n c] w (zzw (some (xxW k l)) w):=by
 have HL:=zH h.len
 have H:=zH h;have HN:=zH hn;have HM:=zH hm;have HT:=zH hT
 have HOK:=zH (zqN l (xqq h))
 have HVO:=zH (xqq h)
 have HNM:=zH (show decide (1<=k/\k<=5)=true by simpa using hk)
 have hn1:¬ (n:Int) > 4096:=by omega
 have hn2:¬ (4096:Int)<n:=by omega
 have HK:=zH hk
 clear h hn hm hT hk
 go_enter Tryz.func45,Tryz.ntmps45
 go_wp2_with (first
  | (go_at_call 44;refine (zze _ _).mono ?_;rintro e w1 ⟨rfl,rfl⟩;rw [HNM.out])
  | fail)
 go_loopw [21] (fun iv wr=>∃ j:Nat,j<=n/\iv=.int .i64 (j:Int)/\Below w.heap.size w wr) (fun iv _=>n - (intOf iv).toNat)
 case atStart=>exact⟨0,Nat.zero_le _,rfl,zR⟩
 case round =>
  obtain⟨j,hj,rfl,hb⟩:=hrel
  have HB:=zH hb
  have hsz:=hb.size
  by_cases hlt:j<n
  · have hjl:j<l.length:=by rw [<-HL.out];exact hlt
    obtain⟨b,o,cs,rfl,_,hbl,hrep,hc⟩:=(H.out.below hb zN).at_ hjl (by decide)
    have hml:=HM.out _ (List.getElem_mem hjl)
    have hvo:=HVO.out _ (List.getElem_mem hjl)
    obtain⟨v,hf⟩:∃ v,v=l[j]:=⟨_,rfl⟩
    obtain⟨rfl,_⟩:=hrep
    rw [<-hf] at hc hml hvo
    obtain⟨nu,x,s⟩:=v
    obtain⟨hnu,hmay⟩:=hml
    have hnu:nu=false:=hnu
    subst hnu
    have HMAY:=zH hmay;have HVK:=zH hvo
    obtain⟨g0,g1,g2⟩:=yyo hc
    have g0:_=some (Value.bool false):=g0
    have g1:_=some (Value.int .i64 x):=g1
    have g2:_=some (Value.string s):=g2
    have i0:(0:Int)<=(j:Int):=by omega
    have i1:(j:Int)<(n:Int):=by omega
    clear hc hf hmay hvo hb
    go_wp2_with (first
     | (go_at_call 41;refine (qzw k ⟨false,x,s⟩ HVK.out _ (zzh HT.out (HB.out.alloc hsz _))).mono ?_;rintro e w3 ⟨rfl,hb3⟩;rw [HMAY.out];have HB3:=zH ((HB.out.alloc hsz _).trans (hb3.mono (by simp;omega)));clear hb3)
     | fail)
    go_roundw
    case rel=>exact⟨j+1,by omega,by go_num,HB3.out⟩
    case measure=>simp [intOf];omega
  · obtain rfl:j=n:=by omega
    have HS:=zH (H.out.below hb zN)
    have i1:¬ (j:Int)<(j:Int):=by omega
    clear hb
    by_cases hk1:k=1
    · subst hk1
      have HI:=zH (show xxW 1 l=byB (xxk (l.map fun v=>v.n==1)) from if_pos rfl)
      go_wp2_with (first
       | (go_at_call 90;refine (jj5 F A j c l _ HS.out HN.out).mono ?_;rintro e w3 ⟨A3,n3,c3,rfl,⟨G,ho3⟩,hb3⟩;have HO3:=zH ho3.sl;have HL3:=zH ho3.len;have HB3:=zH hb3;clear ho3 hb3)
       | (go_at_call 89;refine (qzr _ A3 n3 c3 _ _ HO3.out (by have:=HL3.out;rw [List.length_map,<-HL.out] at this;rw [this];exact HN.out)).mono ?_;rintro e w4 ⟨hb4,A4,n4,c4,rfl,ho4⟩;have HO4:=zH ho4;have HB4:=zH hb4;clear ho4 hb4)
       | fail)
      go_ret2
      have hw:=HB.out.trans (HB3.out.mono hsz)
      exact⟨hw.trans (HB4.out.mono hw.size),A4,n4,c4,rfl,by rw [HI.out];exact HO4.out.down hw.size⟩
    · have hkb1:=zzA hk1
      by_cases hk5:k=5
      · subst hk5
        have HI:=zH (show xxW 5 l=rleB true (l.map fun v=>v.n / 1000)++rleB false (l.map fun v=>v.n % 1000) by unfold xxW;rw [if_neg (by decide),if_pos rfl])
        have HR1:=zH (vvE true (l.map fun v=>v.n / 1000));have HR2:=zH (vvE false (l.map fun v=>v.n % 1000))
        go_upto_region 18 with (first
         | (go_at_call 93;refine (jj6 F A j c l _ HS.out HN.out).mono ?_;rintro e w3 ⟨A3,n3,c3,rfl,⟨G,ho3⟩,hb3⟩;have HO3:=zH ho3.sl;have HL3:=zH ho3.len;have HB3:=zH hb3;clear ho3 hb3)
         | (go_at_call 92;refine (xxT _ A3 n3 c3 _ _ HO3.out (by have:=HL3.out;rw [List.length_map,<-HL.out] at this;rw [this];exact HN.out) true HOK.out.2.1).mono ?_;rintro e w4 ⟨hb4,A4,n4,c4,rfl,ho4⟩;have HO4:=zH ho4;have HB4:=zH hb4;clear ho4 hb4)
         | fail)
        have hw4:=HB.out.trans ((HB3.out.mono hsz).trans (HB4.out.mono (by have:=HB3.out.size;omega)))
        have HW4:=zH hw4
        obtain⟨A5,hA5⟩:∃ A5,A5=A4:=⟨_,rfl⟩
        obtain⟨n5,hn5⟩:∃ n5,n5=n4:=⟨_,rfl⟩
        obtain⟨c5,hc5⟩:∃ c5,c5=c4:=⟨_,rfl⟩
        have HO5:=HO4
        rw [<-hA5,<-hn5,<-hc5] at HO5 ⊢
        have HS4:=zH (H.out.below hw4 zN)
        have HZ:=zH (show w.heap.size<=w3.heap.size from Nat.le_trans hsz HB3.out.size)
        clear hA5 hn5 hc5 hw4 HO4 HO3 HB3 HB4 HL3
        go_wp2_with (first
         | (go_at_call 93;refine (qzx F A j c l _ HS4.out HN.out).mono ?_;rintro e w6 ⟨A3,n3,c3,rfl,⟨G,ho3⟩,hb3⟩;have HO3:=zH ho3.sl;have HL3:=zH ho3.len;have HB3:=zH hb3;clear ho3 hb3)
         | (go_at_call 92;refine (xxT _ A3 n3 c3 _ _ HO3.out (by have:=HL3.out;rw [List.length_map,<-HL.out] at this;rw [this];exact HN.out) false HOK.out.2.2).mono ?_;rintro e w7 ⟨hb4,A4,n4,c4,rfl,ho4⟩;have HO4:=zH ho4;have HB4:=zH hb4;clear ho4 hb4)
         | (at_builtin;refine apb w7 w rfl (.tmp 59) (.tmp 60) rfl w.heap.size A5 n5 c5 (rleB true (l.map fun v=>v.n / 1000)) (by rfl) ((HO5.out.down HZ.out).keepB (HB3.out.trans (HB4.out.mono HB3.out.size))) (HW4.out.trans ((HB3.out.mono HW4.out.size).trans (HB4.out.mono (by have:=HW4.out.size;have:=HB3.out.size;omega)))) zN _ A4 n4 c4 (rleB false (l.map fun v=>v.n % 1000)) (by rfl) HO4.out.bs (by have h1:=HO5.out.len;have h2:=HO4.out.len;have h3:=HR1.out;have h4:=HR2.out;rw [List.length_map,<-HL.out] at h3 h4;have h5:=HN.out;omega) ?_;intro A8 c8 w8 h8 hb8 _;have HO8:=zH h8;have HB8:=zH hb8;clear h8 hb8)
         | fail)
        go_ret2
        exact⟨HB8.out,A8,_,c8,rfl,by rw [HI.out];exact HO8.out⟩
      · have hkb5:=zzA hk5
        have HI:=zH (show xxW k l=rleB true (l.map fun v=>v.n) by unfold xxW;rw [if_neg hk1,if_neg hk5])
        go_wp2_with (first
         | (go_at_call 93;refine (zqI F A j c l _ HS.out HN.out).mono ?_;rintro e w3 ⟨A3,n3,c3,rfl,⟨G,ho3⟩,hb3⟩;have HO3:=zH ho3.sl;have HL3:=zH ho3.len;have HB3:=zH hb3;clear ho3 hb3)
         | (go_at_call 92;refine (xxT _ A3 n3 c3 _ _ HO3.out (by have:=HL3.out;rw [List.length_map,<-HL.out] at this;rw [this];exact HN.out) true HOK.out.1).mono ?_;rintro e w4 ⟨hb4,A4,n4,c4,rfl,ho4⟩;have HO4:=zH ho4;have HB4:=zH hb4;clear ho4 hb4)
         | fail)
        go_ret2
        have hw:=HB.out.trans (HB3.out.mono hsz)
        exact⟨hw.trans (HB4.out.mono hw.size),A4,n4,c4,rfl,by rw [HI.out];exact HO4.out.down hw.size⟩
end
section
open Go Go.RowKit
theorem jjx (k:Int) (kb:Nat) (d:VV) (hd:d.ok) (r:Bool) (hr:r = !mayV k d) (w:World) (hk:w.cell? ⟨kb,0,none⟩=some (.int .i64 k)) (hT:Lib.Utf8Tabs 0 1 w) :
 Calls Tryz.prog 40 #[.agg #[.bool d.null,.int .i64 d.n,.string d.s],.pointer (some ⟨kb,0,none⟩)] w fun e w'=>e=.returned (.bool r)/\Below w.heap.size w w':=by
 have HB0:=zH (show Below w.heap.size w (w.alloc (.cells #[.bool d.null,.int .i64 d.n,.string d.s] 74)) from (zR).alloc zN _)
 have hk0:=zzt HB0.out hk
 have HT:=zH (zzh hT HB0.out);have HD:=zH hd;have HR:=zH hr
 clear hT hd hr hk
 go_enter Tryz.func40,Tryz.ntmps40
 go_wp2_with (first
  | (go_at_call 41;refine (qzw k d HD.out _ HT.out).mono ?_;rintro e w1 ⟨rfl,hb1⟩;have HB1:=zH hb1;clear hb1)
  | fail)
 go_ret
 exact⟨by rw [HR.out];rfl,HB0.out.trans (HB1.out.mono HB0.out.size)⟩
theorem zqP (k:Int) (kb:Nat) (F:Nat->Prop) (A:Option Addr) (n c:Nat) (l:List VV) (w:World) (h:Sl tVV F w A n c l) (hcl:w.cell? ⟨kb,0,none⟩=some (.int .i64 k)) (hT:Lib.Utf8Tabs 0 1 w) :
 Calls Tryz.prog 86 #[.slice A n c,.func (.func 40) #[] #[.pointer (some ⟨kb,0,none⟩)]] w (qzC (mayV k) l w):=by
 have HL:=zH h.len
 have HC:=zH hcl;have HT:=zH hT
 have hmax:n<=9223372036854775807:=by have h2:=h.2.1;have h3:=h.2.2.1;unfold maxLen at h3;omega
 clear hcl hT
 go_enter Tryz.func86,Tryz.ntmps86
 go_wp2_with fail
 go_loopw [8] (fun i wr=>∃ j:Nat,j<=n/\i=.int .i64 j/\Below w.heap.size w wr/\Hid (∀ x∈l.take j,mayV k x=true)) (fun i _=>n - (intOf i).toNat)
 case atStart=>exact⟨0,Nat.zero_le _,rfl,zR,zH (by simp)⟩
 case round =>
  obtain⟨j,hj,rfl,hb,HA⟩:=hrel
  have g:=h.below hb zN
  have HB:=zH hb
  have HCR:=zH (zzt hb HC.out);have HTR:=zH (zzh HT.out hb)
  have hsz:=hb.size
  clear hb
  by_cases hlt:j<n
  · have hjl:j<l.length:=by rw [<-HL.out];exact hlt
    obtain⟨d,hd⟩:∃ d,d=l[j]:=⟨_,rfl⟩
    obtain⟨b,o,u,rfl,_,hbl,hu,hc⟩:=g.at_ hjl (by decide)
    rw [<-hd] at hu
    obtain⟨rfl,hdk⟩:=hu
    have HDK:=zH hdk;clear hdk
    obtain⟨c0,c1,c2⟩:=yyo hc
    obtain⟨r,hr⟩:∃ r,r = !mayV k d:=⟨_,rfl⟩
    have HD:=zH hd;have HR:=zH hr
    clear g hc hd hr
    have hi1:(0:Int)<=(j:Int):=by omega
    have hi2:(j:Int)<(n:Int):=by omega
    cases r with
    | true =>
      have HF:Hid (yyy (mayV k) l (j:Int)):=zH (.inr ⟨j,rfl,hjl,HA.out,by rw [<-HD.out];have:=HR.out;simpa using this⟩)
      go_wp2_with (first
       | (go_at_call 40;refine (jjx k kb d HDK.out true HR.out _ HCR.out HTR.out).mono ?_;rintro e w1 ⟨rfl,hb1⟩;have HB1:=zH (HB.out.trans (hb1.mono hsz));clear hb1)
       | fail)
      go_ret
      exact⟨_,rfl,HF.out,HB1.out⟩
    | false =>
      have HN:Hid (∀ x∈l.take (j+1),mayV k x=true):=zH (by
       intro x hx
       rw [zT hjl,List.mem_append,List.mem_singleton] at hx
       rcases hx with hx | rfl
       · exact HA.out x hx
       · rw [<-HD.out];have:=HR.out;simpa using this)
      go_wp2_with (first
       | (go_at_call 40;refine (jjx k kb d HDK.out false HR.out _ HCR.out HTR.out).mono ?_;rintro e w1 ⟨rfl,hb1⟩;have HB1:=zH (HB.out.trans (hb1.mono hsz));clear hb1)
       | fail)
      go_roundw
      case rel=>exact⟨j+1,by omega,by go_num,HB1.out,HN⟩
      case measure=>simp [intOf];omega
  · obtain rfl:j=n:=by omega
    have HF:Hid (yyy (mayV k) l (-1)):=zH (.inl ⟨rfl,by
     have:=HA.out
     rwa [zL (by rw [<-HL.out];exact Nat.le_refl _)] at this⟩)
    go_wp2_with fail
    go_ret
    exact⟨_,rfl,HF.out,HB.out⟩
theorem xxX (k:Int) (kb:Nat) (F:Nat->Prop) (A:Option Addr) (n c:Nat) (l:List VV) (w:World) (h:Sl tVV F w A n c l) (hcl:w.cell? ⟨kb,0,none⟩=some (.int .i64 k)) (hT:Lib.Utf8Tabs 0 1 w) :
 Calls Tryz.prog 39 #[.slice A n c,.func (.func 40) #[] #[.pointer (some ⟨kb,0,none⟩)]] w fun e w'=>e=.returned (.bool (!l.all (mayV k)))/\Below w.heap.size w w':=by
 have H:=zH h;have HC:=zH hcl;have HT:=zH hT
 clear h hcl hT
 go_enter Tryz.func39,Tryz.ntmps39
 go_wp2_with (first
  | (go_at_call 86;refine (zqP k kb F A n c l _ H.out HC.out HT.out).mono ?_;rintro e w1 ⟨r,rfl,hr,hb1⟩;have HR:=zH hr;have HB1:=zH hb1;clear hr hb1)
  | fail)
 go_ret
 refine⟨?_,HB1.out⟩
 have e1:decide (0<=r) = !l.all (mayV k):=by
  rcases HR.out with ⟨rfl,h1⟩ | ⟨i,rfl,hi,_,h1⟩
  · rw [List.all_eq_true.2 h1];rfl
  · have:l.all (mayV k)=false:=by
     rw [List.all_eq_false]
     exact⟨_,List.getElem_mem hi,by rw [h1];simp⟩
    rw [this];simp
 rw [<-e1]
 first | rfl | simp
end
section
open Go Go.RowKit
def KpV (K:Nat) (W W':World):Prop:=W.heap.size<=W'.heap.size/\∀ b,b<K->W'.heap[b]?=W.heap[b]?
theorem KpV.refl (K:Nat) (W:World):KpV K W W:=⟨Nat.le_refl _,fun _ _=>rfl⟩
theorem KpV.trans {K:Nat} {A B C:World} (h:KpV K A B) (k:KpV K B C):KpV K A C:=⟨Nat.le_trans h.1 k.1,fun b hb=>(k.2 b hb).trans (h.2 b hb)⟩
theorem zqS (F:Fence) (n:Nat) (hf:F.fn 209) (hro:F.round=none) (hn:1<=n) (l bb K:Nat) (A:Option Addr) (m c:Nat) (xs:List ByteArray) (J Jx:List ByteArray->World->Prop)
 (hY:∀ pre x W1,J pre W1->pre.length<m->YieldAt F (n - 1) Tryz.prog l #[.string x] W1 fun e W'=>(e=.returned (.bool true)/\J (pre++[x]) W'/\KpV K W1 W')∨(e=.returned (.bool false)/\Jx (pre++[x]) W'))
 (W:World) (h0:W.cell? ⟨bb,0,none⟩=some (.slice A m c)) (hs:Sl tStr (fun b=>b<K) W A m c xs) (hJ0:J [] W) :
 CallsIn F n Tryz.prog 209 #[.func (.yield l) #[] #[],.pointer (some ⟨bb,0,none⟩)] W fun e W'=>(∃ v,e=.returned v)/\((∃ ys,ys=xs/\J ys W')∨(∃ pre,(∃ k,k<=m/\pre=xs.take k)/\Jx pre W')):=by
 have HL:=zH hs.len;have HS:=zH hs
 have hmax:m<=9223372036854775807:=by have h2:=hs.2.1;have h3:=hs.2.2.1;unfold maxLen at h3;omega
 clear hs
 refine callsIn_of_wp Tryz.func209 rfl hf ?_ hro
 simp only [Tryz.ntmps209,List.size_toArray,List.length_cons,List.length_nil,Nat.reduceAdd,Nat.reduceSub,Array.replicate_succ,Array.replicate_zero,List.push_toArray,List.append_toArray,List.nil_append,List.cons_append]
 gi_wp2
 gi_loopw [7] (fun i wr=>∃ (k:Nat),k<=m/\i=.int .i64 (k:Int)/\J (xs.take k) wr/\KpV K W wr)
  (fun i _=>m - (intOf i).toNat)
 case atStart=>exact⟨0,Nat.zero_le _,rfl,hJ0,KpV.refl _ _⟩
 case round =>
  clear h0 hJ0
  obtain⟨k,hk,rfl,hJs,hkp⟩:=hrel
  by_cases hlt:k<m
  · have hkl:k<xs.length:=by rw [<-HL.out];exact hlt
    obtain⟨b,o,u,rfl,_,hbl,hr,hc⟩:=(HS.out.keep hkp.1 (fun b hb _=>hkp.2 b hb)).at1 hkl rfl
    obtain⟨x,hx⟩:∃ x,x=xs[k]:=⟨_,rfl⟩
    obtain⟨hr,_⟩:=hr
    injection hr with hr;subst hr
    rw [<-hx] at hc
    have HX:=zH hx
    have hi0:(0:Int)<=(k:Int):=by omega
    have hi1:(k:Int)<(m:Int):=by omega
    obtain⟨fn,tmps,assign,body,hy,hR⟩:=hY _ x wr hJs (by rw [List.length_take];omega)
    have HKP:=zH hkp;clear hkp hx
    gi_wp2
    refine hR.mono ?_
    rintro e W3 (⟨rfl,hJ3,hk3⟩ | ⟨rfl,hJx3⟩)
    · have HK3:=zH hk3;clear hk3
      gi_wp2
      go_roundw
      case rel=>exact⟨k+1,by omega,by go_num,by rw [zT hkl,<-HX.out];exact hJ3,HKP.out.trans HK3.out⟩
      case measure=>simp [intOf];omega
    · gi_wp2
      refine bodyPost_ret (results_none rfl _ _ _) rfl ?_
      exact⟨⟨_,rfl⟩,.inr ⟨_,⟨k+1,by omega,by rw [zT hkl,<-HX.out]⟩,hJx3⟩⟩
  · obtain rfl:k=m:=by omega
    have e1:xs.take k=xs:=zL (by rw [<-HL.out];exact Nat.le_refl _)
    rw [e1] at hJs
    gi_wp2
    go_end0
    first | exact⟨⟨_,rfl⟩,.inl ⟨_,rfl,hJs⟩⟩ | exact⟨⟨_,rfl⟩,.inl hJs⟩ | exact .inl hJs | exact hJs
end
end Go.Proofs.YtpmglcachffojaaGreatDoor
