/- A part of what Indexes leans on. -/
import Derived.Test.YtpmglcachffojaaGreatDoorZ24
set_option maxRecDepth 100000
set_option maxHeartbeats 16000000
namespace Go.Proofs.YtpmglcachffojaaGreatDoor
section
open Go Go.RowKit
def nmI (c:Int):Bool:=decide (97<=c/\c<=122∨48<=c/\c<=57∨c=95)
def nmU (b:UInt8):Bool:=nmI (b.toNat:Int)
def nmS (s:ByteArray):Bool:=s.data.toList.all nmU&&decide (¬ s.size=0/\s.size<=20)
theorem kqt (c:Int) (w:World):Calls Tryz.prog 174 #[.int .i32 c] w fun e w'=>e=.returned (.bool (nmI c))/\w=w':=by
 obtain⟨q,hq⟩:∃ q,q=nmI c:=⟨_,rfl⟩
 rw [<-hq]
 unfold nmI at hq
 by_cases h1:97<=c
 · have h1':c ≥ 97:=h1
   have h5:c ≥ 48:=by omega
   have h5':48<=c:=h5
   have h6:¬ c<=57:=by omega
   have h7:¬ c=95:=by omega
   by_cases h2:c<=122
   · obtain rfl:q=true:=hq.trans (decide_eq_true (.inl ⟨h1,h2⟩))
     clear hq
     go_enter Tryz.func174,Tryz.ntmps174
     go_wp2_with fail
     go_ret
     exact⟨rfl,rfl⟩
   · obtain rfl:q=false:=hq.trans (decide_eq_false (by omega))
     have h8:=zzL h7
     clear hq
     go_enter Tryz.func174,Tryz.ntmps174
     go_wp2_with fail
     go_ret
     exact⟨rfl,rfl⟩
 · have h1':¬ c ≥ 97:=h1
   by_cases h3:c=95
   · subst h3
     obtain rfl:q=true:=hq.trans (by decide)
     clear hq
     go_enter Tryz.func174,Tryz.ntmps174
     go_wp2_with fail
     go_ret
     exact⟨rfl,rfl⟩
   · have h8:=zzL h3
     by_cases h4:48<=c
     · have h4':c ≥ 48:=h4
       by_cases h5:c<=57
       · obtain rfl:q=true:=hq.trans (decide_eq_true (by omega))
         clear hq
         go_enter Tryz.func174,Tryz.ntmps174
         go_wp2_with fail
         go_ret
         exact⟨rfl,rfl⟩
       · obtain rfl:q=false:=hq.trans (decide_eq_false (by omega))
         clear hq
         go_enter Tryz.func174,Tryz.ntmps174
         go_wp2_with fail
         go_ret
         exact⟨rfl,rfl⟩
     · have h4':¬ c ≥ 48:=h4
       obtain rfl:q=false:=hq.trans (decide_eq_false (by omega))
       clear hq
       go_enter Tryz.func174,Tryz.ntmps174
       go_wp2_with fail
       go_ret
       exact⟨rfl,rfl⟩
theorem all_snoc {l:List UInt8} {p:Nat} (hp:p<l.length) {b:UInt8} (hb:b=l[p]):(l.take (p+1)).all nmU=((l.take p).all nmU&&nmU b):=by
 rw [zT hp,List.all_append,<-hb];simp
theorem all_no {l:List UInt8} {p:Nat} (hp:p<l.length) {b:UInt8} (hb:b=l[p]) (h:nmU b=false):l.all nmU=false:=by
 rw [List.all_eq_false]
 exact⟨b,hb ▸ List.getElem_mem hp,by rw [h];decide⟩
theorem nm_high {c:Int} (h:128<=c):nmI c=false:=decide_eq_false (by omega)
theorem xxm (s:ByteArray) (hs:s.size<=maxLen) (w:World) :
 Calls Tryz.prog 110 #[.string s] w fun e w'=>e=.returned (.bool (nmS s))/\Below w.heap.size w w':=by
 obtain⟨l,hl⟩:∃ l,l=s.data.toList:=⟨_,rfl⟩
 have HL:=zH hl;have HS:=zH hs
 obtain⟨k,hk⟩:∃ k,k=w.heap.size:=⟨_,rfl⟩
 have HK:=zH hk
 have hls:l.length=s.size:=by rw [hl,Array.length_toList];rfl
 have HLS:=zH hls
 have HQ:=zH (show nmS s=(l.all nmU&&decide (¬ s.size=0/\s.size<=20)) by unfold nmS;rw [hl])
 clear hl hs hls
 go_enter Tryz.func110,Tryz.ntmps110
 go_wp2_with fail
 rw [<-hk]
 clear hk
 go_loopw [8] (fun _ wr=>∃ pos:Nat,pos<=s.size/\wr.heap[k]?=some (.stringIter s pos)/\Below w.heap.size w wr/\(l.take pos).all nmU=true)
  (fun _ wr=>s.size - wr.iterPos k)
 case atStart=>exact⟨0,Nat.zero_le _,by rw [HK.out];exact heap_alloc_new w _,(zR).alloc zN _,by rw [List.take_zero];rfl⟩
 case round =>
  obtain⟨pos,hpos,hit,hb,hv⟩:=hrel
  have HIT:=zH hit;have HB:=zH hb;have HV:=zH hv
  have hip:wr.iterPos k=pos:=by unfold World.iterPos;rw [hit]
  have HIP:=zH hip
  clear hb hv hip
  by_cases hlt:pos<s.size
  · have hn:=fun ty=>Lib.run_next_any_at (P:=Tryz.prog) wr k s pos ty hit hlt
    obtain⟨r,hr⟩:∃ r,r=(Utf8.decode s pos).1:=⟨_,rfl⟩
    obtain⟨d,hd⟩:∃ d,d=(Utf8.decode s pos).2:=⟨_,rfl⟩
    rw [<-hr,<-hd] at hn
    have hlp:pos<l.length:=by rw [HLS.out];exact hlt
    obtain⟨b,hb⟩:∃ b,b=l[pos]:=⟨_,rfl⟩
    have hsb:s[pos]'hlt=b:=by rw [hb];have:=HL.out;subst this;rfl
    obtain⟨w2,hw2⟩:∃ w2,w2=wr.iterAt k s (pos+d):=⟨_,rfl⟩
    rw [<-hw2] at hn
    have hit2:w2.heap[k]?=some (.stringIter s (pos+d)):=by rw [hw2];exact Lib.iterAt_heap wr k s pos _ hit
    have hb2:Below w.heap.size w w2:=by rw [hw2];exact Lib.below_iterAt HB.out (by rw [HK.out];exact Nat.le_refl _) s _
    have HIT2:=zH hit2;have HB2:=zH hb2
    have hip2:w2.iterPos k=pos+d:=by unfold World.iterPos;rw [hit2]
    have HIP2:=zH hip2
    have HSB:=zH hsb;have HBL:=zH hb;have HR:=zH hr;have HD:=zH hd
    clear hw2 hit hit2 hb2 hip2 hsb hb hr hd
    cases hnb:nmU b with
    | true =>
      have HNB:=zH hnb
      have hb8:b.toNat<128:=by
       rcases Nat.lt_or_ge b.toNat 128 with h | h
       · exact h
       · unfold nmU at hnb;rw [nm_high (by omega)] at hnb;cases hnb
      have hdec:=decode_ascii s pos hlt (by rw [HSB.out];exact hb8)
      rw [HSB.out] at hdec
      have HR2:=zH (show r=b.toNat by rw [HR.out,hdec])
      have HD2:=zH (show d=1 by rw [HD.out,hdec])
      have HNR:=zH (show nmI (r:Int)=true by rw [HR2.out];exact hnb)
      clear hnb hdec hb8
      go_wp2_with (first
       | (go_at_call 174;refine (kqt (r:Int) _).mono ?_;rintro e w3 ⟨rfl,rfl⟩;rw [HNR.out])
       | fail)
      go_roundw
      case rel=>exact⟨pos+d,by rw [HD2.out];omega,HIT2.out,HB2.out,by rw [HD2.out,all_snoc hlp HBL.out,HNB.out];exact (Bool.and_true _).trans HV.out⟩
      case measure=>rw [HIP2.out,HIP.out];have:=HD2.out;omega
    | false =>
      have HFIN:=zH (show nmS s=false by rw [HQ.out,all_no hlp HBL.out hnb];rfl)
      have HNR:=zH (show nmI (r:Int)=false by
       rcases Nat.lt_or_ge b.toNat 128 with h | h
       · have hdec:=decode_ascii s pos hlt (by rw [HSB.out];exact h)
         rw [HSB.out] at hdec
         rw [HR.out,hdec];exact hnb
       · have hdec:=decode_high s pos hlt (by rw [HSB.out];exact h)
         rw [<-HR.out] at hdec
         exact nm_high (by omega))
      clear hnb
      go_wp2_with (first
       | (go_at_call 174;refine (kqt (r:Int) _).mono ?_;rintro e w3 ⟨rfl,rfl⟩;rw [HNR.out])
       | fail)
      go_ret
      exact⟨by rw [HFIN.out];rfl,HB2.out⟩
  · have hn:=fun ty=>Lib.run_next_end_at (P:=Tryz.prog) wr k s pos ty hit hlt
    have hall:l.all nmU=true:=by rw [<-HV.out,zL (by rw [HLS.out];omega)]
    obtain⟨q,hq⟩:∃ q,q=nmS s:=⟨_,rfl⟩
    have HFQ:=zH hq
    rw [HQ.out,hall,Bool.true_and] at hq
    clear hit hall
    by_cases h0:s.size=0
    · obtain rfl:q=false:=hq.trans (decide_eq_false (fun h=>h.1 h0))
      obtain rfl:=(xxY s).2 h0
      clear hq h0
      go_wp2_with fail
      go_ret
      exact⟨by rw [<-HFQ.out];rfl,HB.out⟩
    · obtain⟨a1,a2,a3,a4,a5⟩:=qzV h0
      by_cases h20:s.size<=20
      · obtain rfl:q=true:=hq.trans (decide_eq_true ⟨h0,h20⟩)
        have h20':(s.size:Int)<=20:=by omega
        clear hq h0 h20
        go_wp2_with fail
        go_ret
        exact⟨by rw [<-HFQ.out];rfl,HB.out⟩
      · obtain rfl:q=false:=hq.trans (decide_eq_false (fun h=>h20 h.2))
        have h20':¬ (s.size:Int)<=20:=by omega
        clear hq h0 h20
        go_wp2_with fail
        go_ret
        exact⟨by rw [<-HFQ.out];rfl,HB.out⟩
end
section
open Go Go.RowKit
def SplitPost (l:List VV) (w:World) (e:Ending) (w':World):Prop :=
 ∃ A1 c1 A2 n2 c2,e=.returned (.tuple #[.slice A1 l.length c1,.slice A2 n2 c2])/\Sl vvx (fun b=>w.heap.size<=b) w' A1 l.length c1 (l.map fun v => !v.null)/\Sl tVV (fun b=>w.heap.size<=b) w' A2 n2 c2 (l.filter zzH)/\Below w.heap.size w w'
theorem split_any (F:Nat->Prop) (A:Option Addr) (n c:Nat) (l:List VV) (w:World) (h:Sl tVV F w A n c l) (hn:n<=4096) :
 Calls Tryz.prog 88 #[.slice A n c] w (SplitPost l w):=by
 have H:=zH h;have HN:=zH hn
 clear h hn
 go_enter Tryz.func88,Tryz.ntmps88
 go_wp2_with (first
  | (go_at_call 158;refine (clone_any F A n c l _ H.out (by have:=HN.out;omega)).mono ?_;rintro e w1 ⟨A1,c1,rfl,ho1,hb1⟩;have HO1:=zH ho1;have HB1:=zH hb1;clear ho1 hb1)
  | (go_at_call 157;refine (del_any w.heap.size A1 n c1 l _ HO1.out HB1.out.size).mono ?_;rintro e w2 ⟨m,rfl,ho2,hb2⟩;have HO2:=zH ho2;have HB2:=zH (HB1.out.trans hb2);clear ho2 hb2)
  | (go_at_call 146;refine (each_any F A n c l _ (H.out.below HB2.out zN) HN.out).mono ?_;rintro e w3 ⟨A3,n3,c3,rfl,⟨G,ho3⟩,hb3⟩;have HO3:=zH ho3;have HB3:=zH hb3;clear ho3 hb3)
  | fail)
 go_ret2
 have e3:n3=l.length:=by have:=HO3.out.len;simpa using this
 subst e3
 exact⟨A3,c3,A1,m,c1,rfl,(HO3.out.flat (T:=vvx) (fun h=>h)).sl.weaken (fun b hb _=>by
  rcases hb with hb | hb
  · exact hb.elim
  · have:=HB2.out.size;exact Nat.le_trans this hb.2),(HO2.out.keepB HB3.out).sl,HB2.out.trans (HB3.out.mono HB2.out.size)⟩
def yy5 (l:List VV):List UInt8:=if (l.filter zzH).length<l.length then byB (uuN (l.map fun v => !v.null)) else []
def NPutPost (l:List VV) (w:World) (e:Ending) (w':World):Prop :=
 ∃ A1 n1 c1 A2 n2 c2,e=.returned (.tuple #[.slice A1 n1 c1,.slice A2 n2 c2,.int .i64 0])/\Sl tU8 (fun b=>w.heap.size<=b) w' A1 n1 c1 (yy5 l)/\Sl tVV (fun b=>w.heap.size<=b) w' A2 n2 c2 (l.filter zzH)/\Below w.heap.size w w'
theorem qxP (F:Nat->Prop) (A:Option Addr) (n c:Nat) (l:List VV) (w:World) (h:Sl tVV F w A n c l) (hn:n<=4096) :
 Calls Tryz.prog 42 #[.slice A n c] w (NPutPost l w):=by
 have H:=zH h;have HN:=zH hn;have HL:=zH h.len
 have hn1:¬ (n:Int) > 4096:=by omega
 have hn2:¬ (4096:Int)<n:=by omega
 clear h hn
 go_enter Tryz.func42,Tryz.ntmps42
 go_upto_if 18 with (first
  | (go_at_call 88;refine (split_any F A n c l _ H.out HN.out).mono ?_;rintro e w1 ⟨A1,c1,A2,n2,c2,rfl,hs1,hs2,hb1⟩;have HS1:=zH hs1;have HS2:=zH hs2;have HB1:=zH hb1;clear hs1 hs2 hb1)
  | fail)
 have HL2:=zH HS2.out.len
 by_cases hlt:n2<n
 · have hI:(n2:Int)<(n:Int):=by omega
   have HP:=zH (show yy5 l=byB (uuN (l.map fun v => !v.null)) from if_pos (by rw [<-HL2.out,<-HL.out];exact hlt))
   go_wp2_with (first
    | (go_at_call 89;refine (boolput _ A1 l.length c1 _ _ HS1.out (by rw [<-HL.out];exact HN.out)).mono ?_;rintro e w2 ⟨hb2,A3,n3,c3,rfl,ho3⟩;have HO3:=zH ho3;have HB2:=zH hb2;clear ho3 hb2)
    | fail)
   go_ret3
   refine⟨A3,n3,c3,A2,n2,c2,rfl,?_,HS2.out.below HB2.out zN,HB1.out.trans (HB2.out.mono HB1.out.size)⟩
   rw [HP.out]
   exact HO3.out.own.sl.weaken fun b hb _=>by
    have:=HB1.out.size
    rcases hb with hb | hb
    · exact hb.elim
    · exact Nat.le_trans this hb.2
 · have hI:¬ (n2:Int)<(n:Int):=by omega
   have HP:=zH (show yy5 l=[] from if_neg (by rw [<-HL2.out,<-HL.out];exact hlt))
   go_wp2_with fail
   go_ret3
   exact⟨none,0,0,A2,n2,c2,rfl,by rw [HP.out];exact Sl.nil_ _ _ _,HS2.out,HB1.out⟩
end
section
open Go Go.RowKit
def uuO (k:Int) (l:List VV):List UInt8 :=
 if k=1 then byB (uuN (l.map fun v=>v.n==1))
 else if k=5 then rleB true (l.map fun v=>v.n / 1000)++rleB false (l.map fun v=>v.n % 1000)
 else rleB true (l.map fun v=>v.n)
theorem numOk_of (l:List VV) (h:∀ v∈l,v.ok):yyK true (l.map fun v=>v.n)/\yyK true (l.map fun v=>v.n / 1000)/\yyK false (l.map fun v=>v.n % 1000):=by
 refine⟨fun x hx=>?_,fun x hx=>?_,fun x hx=>?_⟩ <;>
 · obtain⟨v,hv,rfl⟩:=List.mem_map.1 hx
   obtain⟨h0,h1,_⟩:=h v hv
   refine⟨by omega,by omega,?_⟩
   first | exact .inl rfl | exact .inr (by omega)
theorem sl_ok {F:Nat->Prop} {w:World} {A:Option Addr} {n c:Nat} {l:List VV} (h:Sl tVV F w A n c l):∀ v∈l,v.ok:=by
 intro v hv
 obtain⟨i,hi,rfl⟩:=List.getElem_of_mem hv
 obtain⟨_,_,_,_,_,_,hr,_⟩:=h.at_ hi (by decide)
 exact hr.2
theorem iput_any (k:Int) (hk:1<=k/\k<=5) (F:Nat->Prop) (A:Option Addr) (n c:Nat) (l:List VV) (w:World) (h:Sl tVV F w A n c l) (hn:n<=4096) (hm:∀ v∈l,v.null=false/\mayV k v=true) (hT:Lib.Utf8Tabs 0 1 w) :
 Calls Tryz.prog 45 #[.int .i64 k,.slice A n c] w (zzV (some (uuO k l)) w):=by
 have HL:=zH h.len
 have H:=zH h;have HN:=zH hn;have HM:=zH hm;have HT:=zH hT
 have HOK:=zH (numOk_of l (sl_ok h))
 have HVO:=zH (sl_ok h)
 have HNM:=zH (show decide (1<=k/\k<=5)=true by simpa using hk)
 have hn1:¬ (n:Int) > 4096:=by omega
 have hn2:¬ (4096:Int)<n:=by omega
 have HK:=zH hk
 clear h hn hm hT hk
 go_enter Tryz.func45,Tryz.ntmps45
 go_wp2_with (first
  | (go_at_call 44;refine (zzg _ _).mono ?_;rintro e w1 ⟨rfl,rfl⟩;rw [HNM.out])
  | fail)
 go_loopw [21] (fun iv wr=>∃ j:Nat,j<=n/\iv=.int .i64 (j:Int)/\Below w.heap.size w wr) (fun iv _=>n - (intOf iv).toNat)
 case atStart=>exact⟨0,Nat.zero_le _,rfl,zR⟩
 case round =>
  obtain⟨j,hj,rfl,hb⟩:=hrel
  have HB:=zH hb
  have hsz:=hb.size
  by_cases hlt:j<n
  · have hjl:j<l.length:=by rw [<-HL.out];exact hlt
    obtain⟨b,o,cs,rfl,_,hbl,hrep,hc⟩:=(H.out.below hb zN).at_ hjl (by decide)
    have hml:=HM.out _ (List.getElem_mem hjl)
    have hvo:=HVO.out _ (List.getElem_mem hjl)
    obtain⟨v,hf⟩:∃ v,v=l[j]:=⟨_,rfl⟩
    obtain⟨rfl,_⟩:=hrep
    rw [<-hf] at hc hml hvo
    obtain⟨nu,x,s⟩:=v
    obtain⟨hnu,hmay⟩:=hml
    have hnu:nu=false:=hnu
    subst hnu
    have HMAY:=zH hmay;have HVK:=zH hvo
    obtain⟨g0,g1,g2⟩:=yyj hc
    have g0:_=some (Value.bool false):=g0
    have g1:_=some (Value.int .i64 x):=g1
    have g2:_=some (Value.string s):=g2
    have i0:(0:Int)<=(j:Int):=by omega
    have i1:(j:Int)<(n:Int):=by omega
    clear hc hf hmay hvo hb
    go_wp2_with (first
     | (go_at_call 41;refine (zzK k ⟨false,x,s⟩ HVK.out _ (zzb HT.out (HB.out.alloc hsz _))).mono ?_;rintro e w3 ⟨rfl,hb3⟩;rw [HMAY.out];have HB3:=zH ((HB.out.alloc hsz _).trans (hb3.mono (by simp;omega)));clear hb3)
     | fail)
    go_roundw
    case rel=>exact⟨j+1,by omega,by go_num,HB3.out⟩
    case measure=>simp [intOf];omega
  · obtain rfl:j=n:=by omega
    have HS:=zH (H.out.below hb zN)
    have i1:¬ (j:Int)<(j:Int):=by omega
    clear hb
    by_cases hk1:k=1
    · subst hk1
      have HI:=zH (show uuO 1 l=byB (uuN (l.map fun v=>v.n==1)) from if_pos rfl)
      go_wp2_with (first
       | (go_at_call 90;refine (xqH F A j c l _ HS.out HN.out).mono ?_;rintro e w3 ⟨A3,n3,c3,rfl,⟨G,ho3⟩,hb3⟩;have HO3:=zH ho3.sl;have HL3:=zH ho3.len;have HB3:=zH hb3;clear ho3 hb3)
       | (go_at_call 89;refine (boolput _ A3 n3 c3 _ _ HO3.out (by have:=HL3.out;rw [List.length_map,<-HL.out] at this;rw [this];exact HN.out)).mono ?_;rintro e w4 ⟨hb4,A4,n4,c4,rfl,ho4⟩;have HO4:=zH ho4;have HB4:=zH hb4;clear ho4 hb4)
       | fail)
      go_ret2
      have hw:=HB.out.trans (HB3.out.mono hsz)
      exact⟨hw.trans (HB4.out.mono hw.size),A4,n4,c4,rfl,by rw [HI.out];exact HO4.out.down hw.size⟩
    · have hkb1:=zzL hk1
      by_cases hk5:k=5
      · subst hk5
        have HI:=zH (show uuO 5 l=rleB true (l.map fun v=>v.n / 1000)++rleB false (l.map fun v=>v.n % 1000) by unfold uuO;rw [if_neg (by decide),if_pos rfl])
        have HR1:=zH (yyL true (l.map fun v=>v.n / 1000));have HR2:=zH (yyL false (l.map fun v=>v.n % 1000))
        go_upto_region 18 with (first
         | (go_at_call 93;refine (xqI F A j c l _ HS.out HN.out).mono ?_;rintro e w3 ⟨A3,n3,c3,rfl,⟨G,ho3⟩,hb3⟩;have HO3:=zH ho3.sl;have HL3:=zH ho3.len;have HB3:=zH hb3;clear ho3 hb3)
         | (go_at_call 92;refine (jjG _ A3 n3 c3 _ _ HO3.out (by have:=HL3.out;rw [List.length_map,<-HL.out] at this;rw [this];exact HN.out) true HOK.out.2.1).mono ?_;rintro e w4 ⟨hb4,A4,n4,c4,rfl,ho4⟩;have HO4:=zH ho4;have HB4:=zH hb4;clear ho4 hb4)
         | fail)
        have hw4:=HB.out.trans ((HB3.out.mono hsz).trans (HB4.out.mono (by have:=HB3.out.size;omega)))
        have HW4:=zH hw4
        obtain⟨A5,hA5⟩:∃ A5,A5=A4:=⟨_,rfl⟩
        obtain⟨n5,hn5⟩:∃ n5,n5=n4:=⟨_,rfl⟩
        obtain⟨c5,hc5⟩:∃ c5,c5=c4:=⟨_,rfl⟩
        have HO5:=HO4
        rw [<-hA5,<-hn5,<-hc5] at HO5 ⊢
        have HS4:=zH (H.out.below hw4 zN)
        have HZ:=zH (show w.heap.size<=w3.heap.size from Nat.le_trans hsz HB3.out.size)
        clear hA5 hn5 hc5 hw4 HO4 HO3 HB3 HB4 HL3
        go_wp2_with (first
         | (go_at_call 93;refine (lefts_any F A j c l _ HS4.out HN.out).mono ?_;rintro e w6 ⟨A3,n3,c3,rfl,⟨G,ho3⟩,hb3⟩;have HO3:=zH ho3.sl;have HL3:=zH ho3.len;have HB3:=zH hb3;clear ho3 hb3)
         | (go_at_call 92;refine (jjG _ A3 n3 c3 _ _ HO3.out (by have:=HL3.out;rw [List.length_map,<-HL.out] at this;rw [this];exact HN.out) false HOK.out.2.2).mono ?_;rintro e w7 ⟨hb4,A4,n4,c4,rfl,ho4⟩;have HO4:=zH ho4;have HB4:=zH hb4;clear ho4 hb4)
         | (at_builtin;refine apb w7 w rfl (.tmp 59) (.tmp 60) rfl w.heap.size A5 n5 c5 (rleB true (l.map fun v=>v.n / 1000)) (by rfl) ((HO5.out.down HZ.out).keepB (HB3.out.trans (HB4.out.mono HB3.out.size))) (HW4.out.trans ((HB3.out.mono HW4.out.size).trans (HB4.out.mono (by have:=HW4.out.size;have:=HB3.out.size;omega)))) zN _ A4 n4 c4 (rleB false (l.map fun v=>v.n % 1000)) (by rfl) HO4.out.bs (by have h1:=HO5.out.len;have h2:=HO4.out.len;have h3:=HR1.out;have h4:=HR2.out;rw [List.length_map,<-HL.out] at h3 h4;have h5:=HN.out;omega) ?_;intro A8 c8 w8 h8 hb8 _;have HO8:=zH h8;have HB8:=zH hb8;clear h8 hb8)
         | fail)
        go_ret2
        exact⟨HB8.out,A8,_,c8,rfl,by rw [HI.out];exact HO8.out⟩
      · have hkb5:=zzL hk5
        have HI:=zH (show uuO k l=rleB true (l.map fun v=>v.n) by unfold uuO;rw [if_neg hk1,if_neg hk5])
        go_wp2_with (first
         | (go_at_call 93;refine (nums_any F A j c l _ HS.out HN.out).mono ?_;rintro e w3 ⟨A3,n3,c3,rfl,⟨G,ho3⟩,hb3⟩;have HO3:=zH ho3.sl;have HL3:=zH ho3.len;have HB3:=zH hb3;clear ho3 hb3)
         | (go_at_call 92;refine (jjG _ A3 n3 c3 _ _ HO3.out (by have:=HL3.out;rw [List.length_map,<-HL.out] at this;rw [this];exact HN.out) true HOK.out.1).mono ?_;rintro e w4 ⟨hb4,A4,n4,c4,rfl,ho4⟩;have HO4:=zH ho4;have HB4:=zH hb4;clear ho4 hb4)
         | fail)
        go_ret2
        have hw:=HB.out.trans (HB3.out.mono hsz)
        exact⟨hw.trans (HB4.out.mono hw.size),A4,n4,c4,rfl,by rw [HI.out];exact HO4.out.down hw.size⟩
end
section
open Go Go.RowKit
theorem qxQ (k:Int) (kb:Nat) (d:VV) (hd:d.ok) (r:Bool) (hr:r = !mayV k d) (w:World) (hk:w.cell? ⟨kb,0,none⟩=some (.int .i64 k)) (hT:Lib.Utf8Tabs 0 1 w) :
 Calls Tryz.prog 40 #[.agg #[.bool d.null,.int .i64 d.n,.string d.s],.pointer (some ⟨kb,0,none⟩)] w fun e w'=>e=.returned (.bool r)/\Below w.heap.size w w':=by
 have HB0:=zH (show Below w.heap.size w (w.alloc (.cells #[.bool d.null,.int .i64 d.n,.string d.s] 74)) from (zR).alloc zN _)
 have hk0:=zzh HB0.out hk
 have HT:=zH (zzb hT HB0.out);have HD:=zH hd;have HR:=zH hr
 clear hT hd hr hk
 go_enter Tryz.func40,Tryz.ntmps40
 go_wp2_with (first
  | (go_at_call 41;refine (zzK k d HD.out _ HT.out).mono ?_;rintro e w1 ⟨rfl,hb1⟩;have HB1:=zH hb1;clear hb1)
  | fail)
 go_ret
 exact⟨by rw [HR.out];rfl,HB0.out.trans (HB1.out.mono HB0.out.size)⟩
theorem idxm_any (k:Int) (kb:Nat) (F:Nat->Prop) (A:Option Addr) (n c:Nat) (l:List VV) (w:World) (h:Sl tVV F w A n c l) (hcl:w.cell? ⟨kb,0,none⟩=some (.int .i64 k)) (hT:Lib.Utf8Tabs 0 1 w) :
 Calls Tryz.prog 86 #[.slice A n c,.func (.func 40) #[] #[.pointer (some ⟨kb,0,none⟩)]] w (IdxPost (mayV k) l w):=by
 have HL:=zH h.len
 have HC:=zH hcl;have HT:=zH hT
 have hmax:n<=9223372036854775807:=by have h2:=h.2.1;have h3:=h.2.2.1;unfold maxLen at h3;omega
 clear hcl hT
 go_enter Tryz.func86,Tryz.ntmps86
 go_wp2_with fail
 go_loopw [8] (fun i wr=>∃ j:Nat,j<=n/\i=.int .i64 j/\Below w.heap.size w wr/\Hid (∀ x∈l.take j,mayV k x=true)) (fun i _=>n - (intOf i).toNat)
 case atStart=>exact⟨0,Nat.zero_le _,rfl,zR,zH (by simp)⟩
 case round =>
  obtain⟨j,hj,rfl,hb,HA⟩:=hrel
  have g:=h.below hb zN
  have HB:=zH hb
  have HCR:=zH (zzh hb HC.out);have HTR:=zH (zzb HT.out hb)
  have hsz:=hb.size
  clear hb
  by_cases hlt:j<n
  · have hjl:j<l.length:=by rw [<-HL.out];exact hlt
    obtain⟨d,hd⟩:∃ d,d=l[j]:=⟨_,rfl⟩
    obtain⟨b,o,u,rfl,_,hbl,hu,hc⟩:=g.at_ hjl (by decide)
    rw [<-hd] at hu
    obtain⟨rfl,hdk⟩:=hu
    have HDK:=zH hdk;clear hdk
    obtain⟨c0,c1,c2⟩:=yyj hc
    obtain⟨r,hr⟩:∃ r,r = !mayV k d:=⟨_,rfl⟩
    have HD:=zH hd;have HR:=zH hr
    clear g hc hd hr
    have hi1:(0:Int)<=(j:Int):=by omega
    have hi2:(j:Int)<(n:Int):=by omega
    cases r with
    | true =>
      have HF:Hid (xxZ (mayV k) l (j:Int)):=zH (.inr ⟨j,rfl,hjl,HA.out,by rw [<-HD.out];have:=HR.out;simpa using this⟩)
      go_wp2_with (first
       | (go_at_call 40;refine (qxQ k kb d HDK.out true HR.out _ HCR.out HTR.out).mono ?_;rintro e w1 ⟨rfl,hb1⟩;have HB1:=zH (HB.out.trans (hb1.mono hsz));clear hb1)
       | fail)
      go_ret
      exact⟨_,rfl,HF.out,HB1.out⟩
    | false =>
      have HN:Hid (∀ x∈l.take (j+1),mayV k x=true):=zH (by
       intro x hx
       rw [zT hjl,List.mem_append,List.mem_singleton] at hx
       rcases hx with hx | rfl
       · exact HA.out x hx
       · rw [<-HD.out];have:=HR.out;simpa using this)
      go_wp2_with (first
       | (go_at_call 40;refine (qxQ k kb d HDK.out false HR.out _ HCR.out HTR.out).mono ?_;rintro e w1 ⟨rfl,hb1⟩;have HB1:=zH (HB.out.trans (hb1.mono hsz));clear hb1)
       | fail)
      go_roundw
      case rel=>exact⟨j+1,by omega,by go_num,HB1.out,HN⟩
      case measure=>simp [intOf];omega
  · obtain rfl:j=n:=by omega
    have HF:Hid (xxZ (mayV k) l (-1)):=zH (.inl ⟨rfl,by
     have:=HA.out
     rwa [zL (by rw [<-HL.out];exact Nat.le_refl _)] at this⟩)
    go_wp2_with fail
    go_ret
    exact⟨_,rfl,HF.out,HB.out⟩
theorem jjL (k:Int) (kb:Nat) (F:Nat->Prop) (A:Option Addr) (n c:Nat) (l:List VV) (w:World) (h:Sl tVV F w A n c l) (hcl:w.cell? ⟨kb,0,none⟩=some (.int .i64 k)) (hT:Lib.Utf8Tabs 0 1 w) :
 Calls Tryz.prog 39 #[.slice A n c,.func (.func 40) #[] #[.pointer (some ⟨kb,0,none⟩)]] w fun e w'=>e=.returned (.bool (!l.all (mayV k)))/\Below w.heap.size w w':=by
 have H:=zH h;have HC:=zH hcl;have HT:=zH hT
 clear h hcl hT
 go_enter Tryz.func39,Tryz.ntmps39
 go_wp2_with (first
  | (go_at_call 86;refine (idxm_any k kb F A n c l _ H.out HC.out HT.out).mono ?_;rintro e w1 ⟨r,rfl,hr,hb1⟩;have HR:=zH hr;have HB1:=zH hb1;clear hr hb1)
  | fail)
 go_ret
 refine⟨?_,HB1.out⟩
 have e1:decide (0<=r) = !l.all (mayV k):=by
  rcases HR.out with ⟨rfl,h1⟩ | ⟨i,rfl,hi,_,h1⟩
  · rw [List.all_eq_true.2 h1];rfl
  · have:l.all (mayV k)=false:=by
     rw [List.all_eq_false]
     exact⟨_,List.getElem_mem hi,by rw [h1];simp⟩
    rw [this];simp
 rw [<-e1]
 first | rfl | simp
end
section
open Go Go.RowKit
theorem Col.empty {α:Type} (T:Ty α) (e:TypeId) (col:Nat->Nat) (i B:Nat) (w:World) (hB:B<=w.heap.size) (hc:col w.heap.size=i):Col T e col i B (w.heap.size+1) (w.alloc (.cells #[] e)) (some ⟨w.heap.size,0,none⟩) 0 0 [] :=
 ⟨fun _=>False,OwnF.empty T e _ w B hB (fun _ hb=>hb.elim),fun _ hb=>hb.elim,fun b hb=>by
  injection hb with hb
  have hb:w.heap.size=b:=hb
  subst hb
  exact⟨Nat.lt_succ_self _,hc⟩⟩
theorem Col.keepB {α:Type} {T:Ty α} {e:TypeId} {col:Nat->Nat} {i B S:Nat} {w w':World} {A:Option Addr} {n c:Nat} {xs:List α} (h:Col T e col i B S w A n c xs) (hb:Below w.heap.size w w'):Col T e col i B S w' A n c xs :=
 h.keep hb.size fun b _ _ hl _=>hb.block b hl
end
section
open Go Go.RowKit
theorem zqc {a b:ByteArray} (h:¬ a=b):(a.toList==b.toList)=false/\¬ a.toList=b.toList/\decide (a=b)=false:=by
 have h1:¬ a.toList=b.toList:=by
  rw [ByteArray.toList_eq,ByteArray.toList_eq]
  intro e;exact h (uut e)
 exact⟨by simpa using h1,h1,decide_eq_false h⟩
end
end Go.Proofs.YtpmglcachffojaaGreatDoor
