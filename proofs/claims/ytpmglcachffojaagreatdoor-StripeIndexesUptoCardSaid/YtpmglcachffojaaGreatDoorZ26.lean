/- A part of what Indexes leans on. -/
import Derived.Test.YtpmglcachffojaaGreatDoorZ24
set_option maxRecDepth 100000
set_option maxHeartbeats 16000000
namespace Go.Proofs.YtpmglcachffojaaGreatDoor
section
open Go Go.RowKit
theorem uu0 {a b:Int} (h:¬ a=b):(a != b)=true:=by simpa using h
theorem xqG (k n:Int) (b:Bool) (s:ByteArray) (w:World) (h:¬ (1<=k/\k<=7)) :
 Calls Tryz.prog 47 #[.int .i64 k,.agg #[.bool b,.int .i64 n,.string s]] w fun e w'=>e=.returned (.bool false)/\Below w.heap.size w w':=by
 by_cases h1:k<1
 · clear h
   go_enter Tryz.func47,Tryz.ntmps47
   go_wp2_with fail
   go_ret
   exact⟨rfl,(zR).alloc zN _⟩
 · have h2:k > 7:=by omega
   have h3:7<k:=h2
   clear h
   go_enter Tryz.func47,Tryz.ntmps47
   go_wp2_with fail
   go_ret
   exact⟨rfl,(zR).alloc zN _⟩
theorem rmay_null (k n:Int) (s:ByteArray) (w:World) (h:1<=k/\k<=7) :
 Calls Tryz.prog 47 #[.int .i64 k,.agg #[.bool true,.int .i64 n,.string s]] w fun e w'=>e=.returned (.bool (decide (n=0/\s.size=0)))/\Below w.heap.size w w':=by
 obtain⟨q,hq⟩:∃ q:Bool,q=decide (n=0/\s.size=0):=⟨_,rfl⟩
 rw [<-hq]
 have k1:¬ k<1:=by omega
 have k2:¬ k > 7:=by omega
 have k3:¬ 7<k:=by omega
 clear h
 by_cases hn:n=0
 · subst hn
   by_cases hs:s.size=0
   · obtain rfl:q=true:=by rw [hq];simp [hs]
     clear hq
     obtain rfl:=(xxY s).2 hs
     clear hs
     go_enter Tryz.func47,Tryz.ntmps47
     go_wp2_with fail
     go_ret
     exact⟨rfl,(zR).alloc zN _⟩
   · obtain rfl:q=false:=by rw [hq];simp [hs]
     clear hq
     obtain⟨a1,a2,a3,a4,a5⟩:=qzV hs
     clear hs
     go_enter Tryz.func47,Tryz.ntmps47
     go_wp2_with fail
     go_ret
     exact⟨rfl,(zR).alloc zN _⟩
 · obtain rfl:q=false:=by rw [hq];simp [hn]
   clear hq
   have hb:=zzL hn
   go_enter Tryz.func47,Tryz.ntmps47
   go_wp2_with fail
   go_ret
   exact⟨rfl,(zR).alloc zN _⟩
theorem rmay_num (k n:Int) (s:ByteArray) (w:World) (h:1<=k/\k<=5) :
 Calls Tryz.prog 47 #[.int .i64 k,.agg #[.bool false,.int .i64 n,.string s]] w fun e w'=>e=.returned (.bool (decide (s.size=0/\(¬ k=1∨n=0∨n=1))))/\Below w.heap.size w w':=by
 obtain⟨q,hq⟩:∃ q:Bool,q=decide (s.size=0/\(¬ k=1∨n=0∨n=1)):=⟨_,rfl⟩
 rw [<-hq]
 have k1:¬ k<1:=by omega
 have k2:¬ k > 7:=by omega
 have k3:¬ 7<k:=by omega
 have k4:k<=5:=by omega
 clear h
 by_cases hs:s.size=0
 · obtain rfl:=(xxY s).2 hs
   clear hs
   by_cases hk:k=1
   · subst hk
     by_cases hn:n=0
     · subst hn
       obtain rfl:q=true:=hq.trans (decide_eq_true ⟨rfl,.inr (.inl rfl)⟩)
       clear hq
       go_enter Tryz.func47,Tryz.ntmps47
       go_wp2_with fail
       go_ret
       exact⟨rfl,(zR).alloc zN _⟩
     · have hb:=zzL hn
       by_cases hn1:n=1
       · subst hn1
         obtain rfl:q=true:=hq.trans (decide_eq_true ⟨rfl,.inr (.inr rfl)⟩)
         clear hq
         go_enter Tryz.func47,Tryz.ntmps47
         go_wp2_with fail
         go_ret
         exact⟨rfl,(zR).alloc zN _⟩
       · have hb1:=zzL hn1
         obtain rfl:q=false:=by rw [hq];simp [hn,hn1]
         clear hq
         go_enter Tryz.func47,Tryz.ntmps47
         go_wp2_with fail
         go_ret
         exact⟨rfl,(zR).alloc zN _⟩
   · have hb:=uu0 hk
     obtain rfl:q=true:=hq.trans (decide_eq_true ⟨rfl,.inl hk⟩)
     clear hq
     go_enter Tryz.func47,Tryz.ntmps47
     go_wp2_with fail
     go_ret
     exact⟨rfl,(zR).alloc zN _⟩
 · obtain rfl:q=false:=by rw [hq];simp [hs]
   clear hq
   obtain⟨a1,a2,a3,a4,a5⟩:=qzV hs
   clear hs
   go_enter Tryz.func47,Tryz.ntmps47
   go_wp2_with fail
   go_ret
   exact⟨rfl,(zR).alloc zN _⟩
theorem rmay_text (k n:Int) (s:ByteArray) (w:World) (h:k=6∨k=7) (hm:s.size<=maxLen) (hT:Lib.Utf8Tabs 0 1 w) :
 Calls Tryz.prog 47 #[.int .i64 k,.agg #[.bool false,.int .i64 n,.string s]] w fun e w'=>e=.returned (.bool (decide (n=0/\s.size<=300/\(k=7∨Lib.validD s.data.toList=true))))/\Below w.heap.size w w':=by
 obtain⟨q,hq⟩:∃ q:Bool,q=decide (n=0/\s.size<=300/\(k=7∨Lib.validD s.data.toList=true)):=⟨_,rfl⟩
 rw [<-hq]
 have k1:¬ k<1:=by omega
 have k2:¬ k > 7:=by omega
 have k3:¬ 7<k:=by omega
 have k4:¬ k<=5:=by omega
 have HH:=zH h;have HM:=zH hm;have HT:=zH (zzb hT ((Below.refl w.heap.size w).alloc zN (.cells #[.bool false,.int .i64 n,.string s] 74)))
 clear h hm hT
 by_cases hn:n=0
 · subst hn
   by_cases hs:s.size<=300
   · have hs1:(s.size:Int)<=300:=by omega
     by_cases hk:k=7
     · subst hk
       obtain rfl:q=true:=hq.trans (decide_eq_true ⟨rfl,hs,.inl rfl⟩)
       clear hq
       clear hs
       go_enter Tryz.func47,Tryz.ntmps47
       go_wp2_with fail
       go_ret
       exact⟨rfl,(zR).alloc zN _⟩
     · have hb:=zzL hk
       obtain⟨v,hv⟩:∃ v,v=Lib.validD s.data.toList:=⟨_,rfl⟩
       have HV:=zH hv
       obtain rfl:q=v:=by rw [hq];rw [<-hv];simp [hs,hk]
       clear hq
       clear hs hv
       go_enter Tryz.func47,Tryz.ntmps47
       go_wp2_with (first
        | (go_at_call 102;refine (Any.utf8_ValidString Tryz.laysValid s _ (by have:=HM.out;unfold maxLen at this;omega) HT.out).mono ?_;rintro e w1 ⟨rfl,hb1⟩;rw [<-HV.out];have HB1:=zH hb1;clear hb1)
        | fail)
       go_ret
       exact⟨rfl,((zR).alloc zN _).trans (HB1.out.mono (by simp))⟩
   · have hs1:¬ (s.size:Int)<=300:=by omega
     obtain rfl:q=false:=by rw [hq];simp [hs]
     clear hq
     clear hs
     go_enter Tryz.func47,Tryz.ntmps47
     go_wp2_with fail
     go_ret
     exact⟨rfl,(zR).alloc zN _⟩
 · have hb:=zzL hn
   obtain rfl:q=false:=by rw [hq];simp [hn]
   clear hq
   go_enter Tryz.func47,Tryz.ntmps47
   go_wp2_with fail
   go_ret
   exact⟨rfl,(zR).alloc zN _⟩
theorem zzz (k:Int) (d:VV) (hd:d.ok) (w:World) (hT:Lib.Utf8Tabs 0 1 w) :
 Calls Tryz.prog 47 #[.int .i64 k,.agg #[.bool d.null,.int .i64 d.n,.string d.s]] w fun e w'=>e=.returned (.bool (mayV k d))/\Below w.heap.size w w':=by
 by_cases hk:1<=k/\k<=7
 · obtain⟨nu,n,s⟩:=d
   cases nu with
   | true =>
     have e:mayV k ⟨true,n,s⟩=decide (n=0/\s.size=0):=by
      unfold mayV
      by_cases h5:1<=k/\k<=5
      · rw [if_pos h5];rfl
      · rw [if_neg h5,if_pos (by omega)];rfl
     rw [e];exact rmay_null k n s w hk
   | false =>
     by_cases h5:1<=k/\k<=5
     · have e:mayV k ⟨false,n,s⟩=decide (s.size=0/\(¬ k=1∨n=0∨n=1)):=by
        unfold mayV
        rw [if_pos h5]
        by_cases h1:k=1
        · simp [h1]
        · simp [h1]
       rw [e];exact rmay_num k n s w h5
     · have e:mayV k ⟨false,n,s⟩=decide (n=0/\s.size<=300/\(k=7∨Lib.validD s.data.toList=true)):=by
        unfold mayV
        rw [if_neg h5,if_pos (by omega)]
        rfl
       rw [e];exact rmay_text k n s w (by omega) hd.2.2 hT
 · have e:mayV k d=false:=by
    unfold mayV
    rw [if_neg (by omega),if_neg (by omega)]
   rw [e];exact xqG k d.n d.null d.s w hk
end
section
open Go Go.RowKit
def tCol:Ty (ByteArray×Int):=tStr.prod tI64
theorem xxo {F:Nat->Prop} {w:World} {cs:List Value} {x:ByteArray×Int} (h:tCol.rep F w cs x):cs=[.string x.1,.int .i64 x.2]/\x.1.size<=maxLen /\ -9223372036854775808<=x.2/\x.2<=9223372036854775807:=by
 obtain⟨c1,c2,rfl,⟨rfl,h1⟩,rfl,h2⟩:=h
 exact⟨rfl,h1,h2⟩
def rowB (l:List (ByteArray×Int)) (r:List VV):Bool:=decide (l.length=r.length)&&(l.zip r).all fun p=>mayV p.1.2 p.2
def rowE (l:List (ByteArray×Int)) (r:List VV):Int:=if rowB l r then 0 else 21
theorem qza {l:List (ByteArray×Int)} {r:List VV} (h:rowB l r=true):rowE l r=0:=if_pos h
theorem zqR {l:List (ByteArray×Int)} {r:List VV} (h:rowB l r=false):rowE l r=21:=if_neg (by rw [h];decide)
theorem vv3 {α:Type} {p:α->Bool} {l:List α} {i:Nat} (hi:i<l.length) {b:α} (hb:b=l[i]):(l.take (i+1)).all p=((l.take i).all p&&p b):=by
 rw [zT hi,List.all_append,<-hb];simp
theorem all_not {α:Type} {p:α->Bool} {l:List α} {i:Nat} (hi:i<l.length) {b:α} (hb:b=l[i]) (h:p b=false):l.all p=false:=by
 rw [List.all_eq_false]
 exact⟨b,hb ▸ List.getElem_mem hi,by rw [h];decide⟩
theorem zqS (F F2:Nat->Prop) (A A2:Option Addr) (n c n2 c2:Nat) (l:List (ByteArray×Int)) (r:List VV) (w:World) (h:Sl tCol F w A n c l) (h2:Sl tVV F2 w A2 n2 c2 r) (hn:n<=4096) (hT:Lib.Utf8Tabs 0 1 w) :
 Calls Tryz.prog 53 #[.slice A n c,.slice A2 n2 c2] w fun e w'=>e=.returned (.int .i64 (rowE l r))/\Below w.heap.size w w':=by
 have HH:=zH h;have HH2:=zH h2;have HL:=zH h.len;have HL2:=zH h2.len;have HT:=zH hT
 have HN:=zH hn
 clear h h2 hT hn
 by_cases hnn:n=n2
 · subst hnn
   obtain⟨z,hz⟩:∃ z,z=l.zip r:=⟨_,rfl⟩
   have HZ:=zH hz
   have hzl:z.length=n:=by rw [hz,List.length_zip,<-HL.out,<-HL2.out,Nat.min_self]
   have HZL:=zH hzl
   have HQ:=zH (show rowB l r=z.all fun p=>mayV p.1.2 p.2 by unfold rowB;rw [hz,decide_eq_true (show l.length=r.length by rw [<-HL.out,<-HL2.out]),Bool.true_and])
   clear hz hzl
   go_enter Tryz.func53,Tryz.ntmps53
   go_wp2_with fail
   go_loopw [14] (fun iv wr=>∃ i:Nat,i<=n/\iv=.int .i64 (i:Int)/\Below w.heap.size w wr/\(z.take i).all (fun p=>mayV p.1.2 p.2)=true) (fun iv _=>n - (intOf iv).toNat)
   case atStart=>exact⟨0,Nat.zero_le _,rfl,zR,by rw [List.take_zero];rfl⟩
   case round =>
    obtain⟨i,hi,rfl,hb,hv⟩:=hrel
    have HB:=zH hb;have HV:=zH hv
    clear hb hv
    by_cases hlt:i<n
    · have hil:i<l.length:=by rw [<-HL.out];exact hlt
      have hir:i<r.length:=by rw [<-HL2.out];exact hlt
      have hiz:i<z.length:=by rw [HZL.out];exact hlt
      obtain⟨b,o,cs,rfl,_,_,hrep,hc⟩:=(HH.out.below HB.out zN).at_ hil (by decide)
      obtain⟨b2,o2,cs2,rfl,_,hbl2,hrep2,hc2⟩:=(HH2.out.below HB.out zN).at_ hir (by decide)
      obtain⟨x,hx⟩:∃ x,x=l[i]:=⟨_,rfl⟩
      obtain⟨v,hvv⟩:∃ v,v=r[i]:=⟨_,rfl⟩
      have HZI:=zH (show (x,v)=z[i] by have:=HZ.out;subst this;rw [hx,hvv,List.getElem_zip])
      rw [<-hx] at hrep
      obtain⟨rfl,hx1,hx2,hx3⟩:=xxo hrep
      obtain⟨rfl,hok⟩:=hrep2
      rw [<-hvv] at hc2 hok
      obtain⟨nm,kd⟩:=x
      obtain⟨g0,g1⟩:=uuD hc
      obtain⟨y0,y1,y2⟩:=yyj hc2
      have g0:_=some (Value.string nm):=g0
      have g1:_=some (Value.int .i64 kd):=g1
      have HOK:=zH hok
      have i0:(0:Int)<=(i:Int):=by omega
      have i1:(i:Int)<(n:Int):=by omega
      have i2:(i:Int)<=4096:=by have:=HN.out;omega
      obtain⟨q,hq⟩:∃ q,q=mayV kd v:=⟨_,rfl⟩
      have HQV:=zH hq
      clear hc hc2 hx hvv hrep hok hx1 hx2 hx3 hq
      go_upto_region 6 with fail
      obtain⟨w2,hw2⟩:∃ w2,w2=wr.alloc (.cells #[.string nm,.int .i64 kd] 93):=⟨_,rfl⟩
      rw [<-hw2]
      have k1:w2.cell? ⟨wr.heap.size,1,none⟩=some (.int .i64 kd):=by rw [hw2];exact by rw [zC (heap_alloc_new wr _)];rfl
      have kb:Below wr.heap.size wr w2:=by rw [hw2];exact (zR).alloc zN _
      have m0:=zzh kb y0;have m1:=zzh kb y1;have m2:=zzh kb y2
      have HB2:=zH (HB.out.trans (kb.mono HB.out.size))
      have HBL:=zH hbl2
      clear g0 g1 y0 y1 y2 kb hw2 hbl2
      cases q
      · have HFIN:=zH (show rowE l r=21 from zqR (by rw [HQ.out];exact all_not hiz HZI.out HQV.out.symm))
        go_wp2_with fail
        go_region_held3 (fun w'=>w'.cell? ⟨wr.heap.size,1,none⟩=some (.int .i64 kd)/\w'.cell? ⟨b2,o2+i*3,none⟩=some (.bool v.null)/\w'.cell? ⟨b2,o2+i*3+1,none⟩=some (.int .i64 v.n)/\w'.cell? ⟨b2,o2+i*3+2,none⟩=some (.string v.s))
         (first | go_keep | (go_split_ands;refine⟨?_,?_,?_,?_⟩ <;> exact zzh (by assumption) (by assumption)))
         (first
           | (go_at_call 41;refine (zzK kd v HOK.out _ (zzb HT.out (xxn HB2.out _))).mono ?_;rintro e w3 ⟨rfl,hb3⟩;rw [<-HQV.out]))
        have HB3:=zH ((xxn HB2.out 1).trans (hb3.mono (xxn HB2.out 1).size))
        go_wp2_with fail
        go_ret
        exact⟨by rw [HFIN.out];rfl,HB3.out⟩
      · have HFIN:=zH (show (z.take (i+1)).all (fun p=>mayV p.1.2 p.2)=true by rw [vv3 hiz HZI.out,HV.out];exact HQV.out.symm)
        go_wp2_with fail
        go_region_held3 (fun w'=>w'.cell? ⟨wr.heap.size,1,none⟩=some (.int .i64 kd)/\w'.cell? ⟨b2,o2+i*3,none⟩=some (.bool v.null)/\w'.cell? ⟨b2,o2+i*3+1,none⟩=some (.int .i64 v.n)/\w'.cell? ⟨b2,o2+i*3+2,none⟩=some (.string v.s))
         (first | go_keep | (go_split_ands;refine⟨?_,?_,?_,?_⟩ <;> exact zzh (by assumption) (by assumption)))
         (first
           | (go_at_call 41;refine (zzK kd v HOK.out _ (zzb HT.out (xxn HB2.out _))).mono ?_;rintro e w3 ⟨rfl,hb3⟩;rw [<-HQV.out]))
        have HB3:=zH ((xxn HB2.out 1).trans (hb3.mono (xxn HB2.out 1).size))
        go_wp2_with fail
        go_roundw
        case rel=>exact⟨i+1,by omega,by go_num,HB3.out,HFIN.out⟩
        case measure=>simp [intOf];omega
    · obtain rfl:i=n:=by omega
      have HFIN:=zH (show rowE l r=0 from qza (by rw [HQ.out,<-HV.out,zL (by rw [HZL.out];exact Nat.le_refl _)]))
      go_wp2_with fail
      go_ret
      exact⟨by rw [HFIN.out];rfl,HB.out⟩
 · have e1:rowB l r=false:=by unfold rowB;rw [decide_eq_false (by rw [<-HL.out,<-HL2.out];exact hnn)];rfl
   have HFIN:=zH (zqR e1)
   have c1:=uu0 (a:=(n:Int)) (b:=(n2:Int)) (by omega)
   clear hnn e1
   go_enter Tryz.func53,Tryz.ntmps53
   go_wp2_with fail
   go_ret
   exact⟨by rw [HFIN.out];rfl,zR⟩
end
section
open Go Go.RowKit
def uuu (l:List ByteArray):List UInt8:=rleB false (l.map fun s=>(s.size:Int))
theorem elemStr:zzP Tryz.prog 89 9 tStr.size:=zzP.mk' (bytes:=16) (z:=.string ⟨#[]⟩) (by kernel_rfl) (by kernel_rfl) rfl (by decide) (by decide)
theorem qxR (F:Nat->Prop) (A:Option Addr) (n c:Nat) (l:List ByteArray) (w:World) (h:Sl tStr F w A n c l) (hl:n<=4096) :
 Calls Tryz.prog 101 #[.slice A n c] w (Own1 w (uuu l)):=by
 have HL:=zH h.len
 have HOK:Hid (yyK false (l.map fun s=>(s.size:Int))):=zH (by
  intro x hx
  obtain⟨s,hs,rfl⟩:=List.mem_map.1 hx
  obtain⟨i,hi,rfl⟩:=List.getElem_of_mem hs
  obtain⟨_,_,_,_,_,_,hr,_⟩:=h.at1 hi rfl
  obtain⟨_,h2⟩:=hr
  unfold maxLen at h2
  exact⟨by omega,by omega,.inr (by omega)⟩)
 go_enter Tryz.func101,Tryz.ntmps101
 go_wp2
 go_loopw [3,10] (fun v i wr=>∃ (k:Nat) (A2:Option Addr) (c2:Nat) (G:Nat->Prop),k<=n/\i=.int .i64 k/\v=.slice A2 k c2/\OwnF tI64 3 G wr w.heap.size A2 k c2 ((l.take k).map fun s:ByteArray=>(s.size:Int))/\Below w.heap.size w wr)
  (fun _ i _=>n - (intOf i).toNat)
 case atStart=>exact⟨0,none,0,fun _=>False,Nat.zero_le _,rfl,rfl,OwnF.nil_ _ _ _ _ _,zR⟩
 case round =>
  obtain⟨k,A2,c2,G,hk,rfl,rfl,hown,hb⟩:=hrel
  by_cases hlt:k<n
  · have hkl:k<l.length:=by rw [<-HL.out];exact hlt
    obtain⟨b,o,cs,rfl,_,hbl,hrep,hc⟩:=(h.below hb zN).at1 hkl rfl
    obtain⟨v,hf⟩:∃ v,v=l[k]:=⟨_,rfl⟩
    obtain⟨hcs,hok⟩:=hrep
    injection hcs with hcs;subst hcs
    rw [<-hf] at hc hok
    unfold maxLen at hok
    have HF:=zH hf;clear hf
    have HO:=zH hown;clear hown
    have hsz:=hb.size
    go_wp2_with (first
     | (at_builtin;refine apl1 (T:=tI64) vvJ wr w rfl (.tmp 14) (.tmp 17) rfl w.heap.size A2 k c2 ((l.take k).map fun s:ByteArray=>(s.size:Int)) (by rfl) G (fun _=>False) HO.out hb zN _ (by rfl) [.int .i64 (v.size:Int)] (v.size:Int) ⟨rfl,by omega,by omega⟩ 3 rfl (fun _ _ _ _ h4=>h4) (by omega) ?_;intro A5 c5 w5 h5))
    go_roundw
    case rel =>
     have e1:(l.take (k+1)).map (fun s:ByteArray=>(s.size:Int))=(l.take k).map (fun s:ByteArray=>(s.size:Int))++[(v.size:Int)]:=by
      rw [zT hkl,List.map_append,<-HF.out];rfl
     have e2:=h5.own
     rw [<-e1] at e2
     exact⟨k+1,A5,c5,_,by omega,by go_num,rfl,e2,h5.below⟩
    case measure=>simp [intOf];omega
  · obtain rfl:k=n:=by omega
    have e1:l.take k=l:=zL (by rw [<-HL.out];exact Nat.le_refl _)
    rw [e1] at hown
    have HO:=zH hown.sl;clear hown e1
    go_wp2_with (first
     | (go_at_call 92;refine (jjG _ A2 k c2 _ _ HO.out hl false HOK.out).mono ?_;rintro e w4 ⟨hb4,A4,n4,c4,rfl,ho4⟩;have HO4:=zH ho4;have HB4:=zH hb4;clear ho4 hb4)
     | fail)
    go_ret
    exact⟨A4,n4,c4,rfl,HO4.out.down hb.size,hb.trans (HB4.out.mono hb.size)⟩
theorem long1_any (s:ByteArray) (w:World):Calls Tryz.prog 98 #[.string s] w fun e w'=>e=.returned (.bool (decide (300<s.size)))/\Below w.heap.size w w':=by
 by_cases h:300<s.size
 · have h1:(300:Int)<s.size:=by omega
   have HD:=zH (decide_eq_true h)
   clear h
   go_enter Tryz.func98,Tryz.ntmps98
   go_wp2_with fail
   go_ret
   exact⟨by first | (rw [HD.out];rfl) | (rw [HD.out];simp [h1]),zR⟩
 · have h1:¬ (300:Int)<s.size:=by omega
   have HD:=zH (decide_eq_false h)
   clear h
   go_enter Tryz.func98,Tryz.ntmps98
   go_wp2_with fail
   go_ret
   exact⟨by first | (rw [HD.out];rfl) | (rw [HD.out];simp [h1]),zR⟩
end
section
open Go Go.RowKit
theorem idxs_any (F:Nat->Prop) (A:Option Addr) (n c:Nat) (l:List ByteArray) (w:World) (h:Sl tStr F w A n c l) (hs:∀ s∈l,s.size<=300) (hn:n<=4611686018427387904) :
 Calls Tryz.prog 163 #[.slice A n c,.func (.func 98) #[] #[]] w fun e w'=>e=.returned (.int .i64 (-1))/\Below w.heap.size w w':=by
 have HL:=zH h.len;have HS:=zH hs
 clear hs
 go_enter Tryz.func163,Tryz.ntmps163
 go_wp2_with fail
 go_loopw [8] (fun i wr=>∃ j:Nat,j<=n/\i=.int .i64 j/\Below w.heap.size w wr) (fun i _=>n - (intOf i).toNat)
 case atStart=>exact⟨0,Nat.zero_le _,rfl,zR⟩
 case round =>
  obtain⟨j,hj,rfl,hb⟩:=hrel
  have HB:=zH hb
  have hsz:=hb.size
  by_cases hlt:j<n
  · have hjl:j<l.length:=by rw [<-HL.out];exact hlt
    obtain⟨b,o,u,rfl,_,hbl,hr,hc⟩:=(h.below hb zN).at1 hjl rfl
    have hsm:=HS.out _ (List.getElem_mem hjl)
    obtain⟨s,hs⟩:∃ s,s=l[j]:=⟨_,rfl⟩
    obtain⟨hr,_⟩:=hr
    injection hr with hr;subst hr
    rw [<-hs] at hc hsm
    have HD:=zH (show decide (300<s.size)=false from decide_eq_false (by omega))
    have hi1:(0:Int)<=(j:Int):=by omega
    have hi2:(j:Int)<(n:Int):=by omega
    clear hb hs hsm
    go_wp2_with (first
     | (go_at_call 98;refine (long1_any s _).mono ?_;rintro e w1 ⟨rfl,hb1⟩;rw [HD.out];have HB1:=zH (HB.out.trans (hb1.mono hsz));clear hb1)
     | fail)
    go_roundw
    case rel=>exact⟨j+1,by omega,by go_num,HB1.out⟩
    case measure=>simp [intOf];omega
  · obtain rfl:j=n:=by omega
    go_wp2_with fail
    go_ret
    exact⟨rfl,HB.out⟩
theorem long_any (F:Nat->Prop) (A:Option Addr) (n c:Nat) (l:List ByteArray) (w:World) (h:Sl tStr F w A n c l) (hs:∀ s∈l,s.size<=300) (hn:n<=4611686018427387904) :
 Calls Tryz.prog 97 #[.slice A n c,.func (.func 98) #[] #[]] w fun e w'=>e=.returned (.bool false)/\Below w.heap.size w w':=by
 have H:=zH h;have HS:=zH hs;have HN:=zH hn
 clear h hs hn
 go_enter Tryz.func97,Tryz.ntmps97
 go_wp2_with (first
  | (go_at_call 163;refine (idxs_any F A n c l _ H.out HS.out HN.out).mono ?_;rintro e w1 ⟨rfl,hb1⟩;have HB1:=zH hb1;clear hb1)
  | fail)
 go_ret
 exact⟨rfl,HB1.out⟩
end
section
open Go Go.RowKit
def KpV (K:Nat) (W W':World):Prop:=W.heap.size<=W'.heap.size/\∀ b,b<K->W'.heap[b]?=W.heap[b]?
theorem KpV.refl (K:Nat) (W:World):KpV K W W:=⟨Nat.le_refl _,fun _ _=>rfl⟩
theorem KpV.trans {K:Nat} {A B C:World} (h:KpV K A B) (k:KpV K B C):KpV K A C:=⟨Nat.le_trans h.1 k.1,fun b hb=>(k.2 b hb).trans (h.2 b hb)⟩
theorem vals1_in (F:Fence) (n:Nat) (hf:F.fn 209) (hro:F.round=none) (hn:1<=n) (l bb K:Nat) (A:Option Addr) (m c:Nat) (xs:List ByteArray) (J Jx:List ByteArray->World->Prop)
 (hY:∀ pre x W1,J pre W1->pre.length<m->YieldAt F (n - 1) Tryz.prog l #[.string x] W1 fun e W'=>(e=.returned (.bool true)/\J (pre++[x]) W'/\KpV K W1 W')∨(e=.returned (.bool false)/\Jx (pre++[x]) W'))
 (W:World) (h0:W.cell? ⟨bb,0,none⟩=some (.slice A m c)) (hs:Sl tStr (fun b=>b<K) W A m c xs) (hJ0:J [] W) :
 CallsIn F n Tryz.prog 209 #[.func (.yield l) #[] #[],.pointer (some ⟨bb,0,none⟩)] W fun e W'=>(∃ v,e=.returned v)/\((∃ ys,ys=xs/\J ys W')∨(∃ pre,(∃ k,k<=m/\pre=xs.take k)/\Jx pre W')):=by
 have HL:=zH hs.len;have HS:=zH hs
 have hmax:m<=9223372036854775807:=by have h2:=hs.2.1;have h3:=hs.2.2.1;unfold maxLen at h3;omega
 clear hs
 refine callsIn_of_wp Tryz.func209 rfl hf ?_ hro
 simp only [Tryz.ntmps209,List.size_toArray,List.length_cons,List.length_nil,Nat.reduceAdd,Nat.reduceSub,Array.replicate_succ,Array.replicate_zero,List.push_toArray,List.append_toArray,List.nil_append,List.cons_append]
 gi_wp2
 gi_loopw [7] (fun i wr=>∃ (k:Nat),k<=m/\i=.int .i64 (k:Int)/\J (xs.take k) wr/\KpV K W wr)
  (fun i _=>m - (intOf i).toNat)
 case atStart=>exact⟨0,Nat.zero_le _,rfl,hJ0,KpV.refl _ _⟩
 case round =>
  clear h0 hJ0
  obtain⟨k,hk,rfl,hJs,hkp⟩:=hrel
  by_cases hlt:k<m
  · have hkl:k<xs.length:=by rw [<-HL.out];exact hlt
    obtain⟨b,o,u,rfl,_,hbl,hr,hc⟩:=(HS.out.keep hkp.1 (fun b hb _=>hkp.2 b hb)).at1 hkl rfl
    obtain⟨x,hx⟩:∃ x,x=xs[k]:=⟨_,rfl⟩
    obtain⟨hr,_⟩:=hr
    injection hr with hr;subst hr
    rw [<-hx] at hc
    have HX:=zH hx
    have hi0:(0:Int)<=(k:Int):=by omega
    have hi1:(k:Int)<(m:Int):=by omega
    obtain⟨fn,tmps,assign,body,hy,hR⟩:=hY _ x wr hJs (by rw [List.length_take];omega)
    have HKP:=zH hkp;clear hkp hx
    gi_wp2
    refine hR.mono ?_
    rintro e W3 (⟨rfl,hJ3,hk3⟩ | ⟨rfl,hJx3⟩)
    · have HK3:=zH hk3;clear hk3
      gi_wp2
      go_roundw
      case rel=>exact⟨k+1,by omega,by go_num,by rw [zT hkl,<-HX.out];exact hJ3,HKP.out.trans HK3.out⟩
      case measure=>simp [intOf];omega
    · gi_wp2
      refine bodyPost_ret (results_none rfl _ _ _) rfl ?_
      exact⟨⟨_,rfl⟩,.inr ⟨_,⟨k+1,by omega,by rw [zT hkl,<-HX.out]⟩,hJx3⟩⟩
  · obtain rfl:k=m:=by omega
    have e1:xs.take k=xs:=zL (by rw [<-HL.out];exact Nat.le_refl _)
    rw [e1] at hJs
    gi_wp2
    go_end0
    first | exact⟨⟨_,rfl⟩,.inl ⟨_,rfl,hJs⟩⟩ | exact⟨⟨_,rfl⟩,.inl hJs⟩ | exact .inl hJs | exact hJs
end
section
open Go Go.RowKit Go.Shelf
attribute [local go_sem] Oper.semAt_some
theorem zzu {w w':World} {row:Option Nat} (h:Below w.heap.size w w'):w.grownBy w' row:=⟨h.os,h.tape,h.output,h.size,fun k hk _=>h.block k hk⟩
theorem jjM {w w1 w2:World} {row:Option Nat} (h:w.grownBy w1 row) (k:w1.grownBy w2 row):w.grownBy w2 row :=
 ⟨k.os.trans h.os,k.tape.trans h.tape,k.output.trans h.output,Nat.le_trans h.size k.size,fun i hi hr=>(k.block i (Nat.lt_of_lt_of_le hi h.size) hr).trans (h.block i hi hr)⟩
theorem zqX {w w1:World} {row:Option Nat} (h:w.grownBy w1 row) (o:Obj):w.grownBy (w1.alloc o) row :=
 ⟨h.os,h.tape,h.output,by have:=h.size;simp;omega,fun k hk hr=>(Below.heap_alloc w1 o k (Nat.lt_of_lt_of_le hk h.size)).trans (h.block k hk hr)⟩
def svs (l:List ByteArray):List Value:=l.map Value.string
def OwnS (w:World) (B:Nat) (A:Option Addr) (n c:Nat) (l:List ByteArray):Prop:=w.ownsRow B 9 1 (.slice A n c) n (svs l)
theorem OwnS.nil_ (w:World) (B:Nat):OwnS w B none 0 0 []:=World.ownsRow_nil w B _ _
theorem yyP {w:World} {B:Nat} {A:Option Addr} {n c:Nat} {l:List ByteArray} (h:OwnS w B A n c l) {b:Nat} (hb:A.map (·.block)=some b):∃ cur e fr,w.heap[b]?=some (.cells cur e fr)/\B<=b:=by
 rcases h.2 with ⟨h1,_⟩ | ⟨g,cap,cur,h1,hB,hg,_⟩
 · injection h1 with h1;subst h1;cases hb
 · injection h1 with h1;subst h1;injection hb with hb;subst hb;exact⟨cur,_,_,hg,hB⟩
theorem apsIn1 {F:Fence} {nF:Nat} {ops:Array Oper} {rest:List Oper} {o:Oper} {a:Act} {Q:Exit->Act->World->Prop} (hgd:o.guard=none) (s x:Operand) (ho:o.op=.call { callee:=.builtin .append,args:=#[s,x],argTypes:=#[89,89] })
 (w wx:World) (B:Nat) (A:Option Addr) (n c:Nat) (xs:List ByteArray) (hs:a.eval s=.slice A n c) (hown:OwnS w B A n c xs) (hB:B<=w.heap.size) (y:ByteArray) (hwx:wx=w.alloc (.cells #[.string y] 9)) (hx:a.eval x=.slice (some ⟨w.heap.size,0,none⟩) 1 1) (hlim:n<=34359738368)
 (h:∀ A' c' w',OwnS w' B A' (n+1) c' (xs++[y])->wx.grownBy w' (A.map (·.block))->wpListIn F nF Tryz.prog ops Q rest (a.put o.dst (.slice A' (n+1) c')) w'):wpListIn F nF Tryz.prog ops Q (o::rest) a wx:=by
 subst hwx
 refine wpListIn_plain hgd fun K hK=>?_
 obtain⟨A',c',w',hrun,h2,h3,_⟩:=xxx elemStr o.type (w.alloc (.cells #[.string y] 9)) B (.slice A n c) n (svs xs) (World.ownsRow.alloc hown _) (fun b=>b=w.heap.size) (some ⟨w.heap.size,0,none⟩) 1 1 [.string y] rfl (Rd.new w _ _) (by intro u hu;simp at hu;subst hu;rfl) (by omega) (by rw [zS];omega)
 unfold Oper.wpIn
 refine⟨by simp [Oper.about,ho,resolve,Target.leads,Sem.run_pure],?_⟩
 rw [Oper.semAt_plain F _ _ (by rw [ho];intro c hc';cases hc')]
 simp [execOp,ho,resolve,invoke,builtin,hs,hx,hrun,Result.andThen]
 rw [zzl] at h3
 exact hK _ _ (h A' c' w' (by unfold OwnS svs;rw [List.map_append];exact h2) h3)
structure ApS (w:World) (k2:Nat) (pre:List ByteArray) (W:World):Prop where
 st:∃ A c,W.heap[k2]?=some (.cells #[.slice A pre.length c] 89 (0,0))/\OwnS W (k2+1) A pre.length c pre
 below:Below k2 w W
 size:k2+1<=W.heap.size
theorem ApS.own (w:World) (k2:Nat) (hk:k2=w.heap.size):OwnFrom (k2+1) (ApS w k2):=fun pre W W' row hs hg hr=>by
 obtain⟨⟨A,c,h1,h2⟩,h3,h4⟩:=hs
 refine⟨⟨A,c,(hg.block k2 (by omega) (fun e=>by have:=(hr _ e.symm).1;omega)).trans h1,zz6 h2 fun b hb=>hg.block b (h2.lt b hb).2 (fun e=>?_)⟩,h3.grown hg (by omega) (fun k e=>by have:=(hr k e).1;omega),Nat.le_trans h4 hg.size⟩
 obtain⟨_,o,ho,hc⟩:=hr b e.symm
 rw [zzl] at hb
 obtain⟨cur,ty,fr,h8,_⟩:=yyP h2 hb
 rw [h8] at ho
 injection ho with ho
 subst ho
 cases hc
theorem KpV.put {K:Nat} (W:World) (l:Nat) (o o':Obj) (hl:K<=l) (_:W.heap[l]?=some o) (_:o.isCells=false) (_:o.isWalk=false):KpV K W (W.putObj l o') :=
 ⟨by have:=(grownBy_putObj' W l o').size;exact this,fun b hb=>World.putObj_heap_other (by omega)⟩
theorem xqM (F:Fence) (n:Nat) (hf:F.fn 209) (hro:F.round=none) (hn:1<=n) (bb K:Nat) (A:Option Addr) (m c:Nat) (xs:List ByteArray) (w:World) (h0:w.cell? ⟨bb,0,none⟩=some (.slice A m c)) (hs:Sl tStr (fun b=>b<K) w A m c xs) :
 SeqStopsK F n Tryz.prog 209 #[.pointer (some ⟨bb,0,none⟩)] (fun x:ByteArray=>#[.string x]) (KpV K) (fun ys=>ys=xs) (fun pre=>∃ k,k<=m/\pre=xs.take k) m w:=fun l J Jx W hW _ _ hY hJ0 =>
 vals1_in F n hf hro hn l bb K A m c xs J Jx hY W ((hW.cell (p:=⟨bb,0,none⟩) (World.block_lt_of_cell? w _ h0)).trans h0) (hs.below hW zN) hJ0
theorem xqN (bb:Nat) (F:Nat->Prop) (A:Option Addr) (m c:Nat) (xs:List ByteArray) (w:World) (h0:w.cell? ⟨bb,0,none⟩=some (.slice A m c)) (hs:Sl tStr F w A m c xs) (hm:m<=4096) :
 Calls Tryz.prog 251 #[.slice none 0 0,.func (.func 209) #[] #[.pointer (some ⟨bb,0,none⟩)]] w fun e W=>∃ A' c',e=.returned (.slice A' m c')/\OwnS W w.heap.size A' m c' xs/\Below w.heap.size w W:=by
 have hbb:=World.block_lt_of_cell? w _ h0
 have hlen:=hs.len
 obtain⟨W0,hW0⟩:∃ W0,W0=w.alloc (.cells #[.slice none 0 0] 89):=⟨_,rfl⟩
 have hsz:W0.heap.size=w.heap.size+1:=by rw [hW0];simp
 have hb0:Below w.heap.size w W0:=by rw [hW0];exact (zR).alloc zN _
 have hv0:W0.heap[w.heap.size]?=some (.cells #[.slice none 0 0] 89 (0,0)):=by rw [hW0];exact heap_alloc_new w _
 have hc0:W0.cell? ⟨bb,0,none⟩=some (.slice A m c):=zzh hb0 h0
 have hs0:Sl tStr (fun b=>b<w.heap.size) W0 A m c xs:=(hs.weaken (F':=fun b=>b<w.heap.size) fun b _ hb=>hb).below hb0 zN
 have hI0:ApS w w.heap.size [] W0:=⟨⟨none,0,hv0,OwnS.nil_ _ _⟩,hb0,by omega⟩
 have HW0:=zH hW0;have HB0:=zH hb0;have HSZ:=zH hsz;have HLEN:=zH hlen
 clear hs h0 hb0 hv0 hW0
 refine (callsIn_wide (n:=3)).1 ?_
 refine callsIn_of_wp_marks Tryz.func251 rfl trivial ?_ rfl
 simp only [Tryz.ntmps251,List.size_toArray,List.length_cons,List.length_nil,Nat.reduceAdd,Nat.reduceSub,Array.replicate_succ,Array.replicate_zero,List.push_toArray,List.append_toArray,List.nil_append,List.cons_append]
 gi_wp2
 rw [<-HW0.out]
 refine wpIn_rangeFunc_ownG rfl (by omega) (gf:=209) (lb:=#[.pointer (some ⟨bb,0,none⟩)]) rfl trivial (enters_of Tryz.func209 (by kernel_rfl) rfl)
  (xqM Fence.wide _ trivial rfl (by omega) bb w.heap.size A m c xs W0 hc0 hs0) KpV.trans (fun W l o o' h1=>KpV.put W l o o' (by omega)) (zR) (fun _=>rfl)
  (ApS w w.heap.size) (fun _ _ _=>False) (by rw [HSZ.out];exact ApS.own w _ rfl) (fun _ _ _ _ _ h _ _=>h) hI0
  (fun x=>{ tmps:=#[.slice none 0 0,.func (.func 209) #[] #[.pointer (some ⟨bb,0,none⟩)],.pointer (some ⟨w.heap.size,0,none⟩),undef,.slice none 0 0,.string x,.func (.func 209) #[] #[.pointer (some ⟨bb,0,none⟩)],.string x,undef,undef,undef,undef,undef],defers:=[] }) ?assign ?body ?done ?stop
 case assign =>
  intro l x W K hK
  gi_wp2
  exact hK
 case body =>
  rintro l' pre x W ⟨⟨A6,c6,hbox,hown⟩,hbl,hsw⟩ hpl
  have HBOX:=zH hbox;have HOWN:=zH hown;have HBL:=zH hbl
  have v0:W.cell? ⟨w.heap.size,0,none⟩=some (.slice A6 pre.length c6):=by rw [zC hbox];rfl
  have vf:W.frozen? ⟨w.heap.size,0,none⟩=false:=zF hbox 0
  clear hbox hown hbl
  gi_wp2_with (first
   | (gi_at_builtin;refine apsIn1 rfl (.tmp 8) (.tmp 10) rfl W _ (w.heap.size+1) A6 pre.length c6 pre (by rfl) HOWN.out hsw x (by rfl) (by rfl) (by omega) ?_;intro A7 c7 w7 hown7 hg7;have HO7:=zH hown7;have HG7:Hid (W.grownBy w7 (A6.map (·.block))):=zH (jjM (zqX (zzu (Below.refl _ W)) _) hg7);have v7:w7.cell? ⟨w.heap.size,0,none⟩=some (.slice A6 pre.length c6):=HG7.out.cell v0 (fun e=>by obtain⟨_,_,_,_,h8⟩:=yyP HOWN.out e.symm;have h9:w.heap.size+1<=w.heap.size:=h8;omega);have vf7:w7.frozen? ⟨w.heap.size,0,none⟩=false:=zF (HG7.out.block (w.heap.size) (by omega) (fun e=>by obtain⟨_,_,_,_,h8⟩:=yyP HOWN.out e.symm;omega) |>.trans HBOX.out) 0;clear hown7 hg7)
   | fail)
  have hA6:∀ k,A6.map (·.block)=some k->w.heap.size+1<=k:=fun k e=>by obtain⟨_,_,_,_,h8⟩:=yyP HOWN.out e;exact h8
  have hsz7:=HG7.out.size
  have e7:(pre++[x]).length=pre.length+1:=by simp
  refine⟨((KeepsOthers.of_grownBy HG7.out fun j o hj ho=>by obtain⟨cur,e1,fr,h8,_⟩:=yyP HOWN.out hj;rw [h8] at ho;injection ho with ho;subst ho;rfl).trans (KeepsOthers.setCell _ _ _)).from _,⟨by simpa using hsz7,fun b hb=>(Below.heap_setCell _ _ _ _ (by simp;omega)).trans (HG7.out.block b (by omega) (fun e=>by have:=hA6 _ e.symm;omega))⟩,?_⟩
  refine⟨⟨A7,c7,?_,?_⟩,?_,by simp;omega⟩
  · rw [e7]
    exact zza ((HG7.out.block (w.heap.size) (by omega) (fun e=>by have:=hA6 _ e.symm;omega)).trans HBOX.out) rfl
  · rw [e7]
    refine zz6 HO7.out (fun b hb=>Below.heap_setCell _ _ _ _ ?_)
    have h8:=(HO7.out.lt b hb).1
    simp
    omega
  · exact zzi (HBL.out.grown HG7.out (by omega) (fun k e=>by have:=hA6 k e;omega)) zN _
 case done =>
  rintro D ys W hD rfl ⟨⟨A6,c6,hbox,hown⟩,hbl,hsw⟩ hK
  have v0:W.cell? ⟨w.heap.size,0,none⟩=some (.slice A6 ys.length c6):=by rw [zC hbox];rfl
  have HOWN:=zH hown;have HBL:=zH hbl;have HKD:=zH hK
  clear hbox hown hbl hK
  gi_wp2
  refine⟨by simp,.inl ⟨_,_,rfl,run_takeDeferred HKD.out,?_⟩⟩
  have hp:=grownBy_putObj' W D (.deferred none)
  refine⟨_,results_tmp rfl _ _ _,A6,c6,by rw [HLEN.out];rfl,?_,HBL.out.grown hp (by omega) (fun k e=>by injection e with e;omega)⟩
  rw [HLEN.out]
  refine vvR (zz6 HOWN.out fun b hb=>World.putObj_heap_other (fun e=>?_)) (Nat.le_succ _)
  rw [zzl] at hb
  obtain⟨cur,ty,fr,h8,_⟩:=yyP HOWN.out hb
  rw [e,HKD.out] at h8
  cases h8
 case stop =>
  rintro D c pre W hD _ h
  exact h.elim
end
end Go.Proofs.YtpmglcachffojaaGreatDoor
