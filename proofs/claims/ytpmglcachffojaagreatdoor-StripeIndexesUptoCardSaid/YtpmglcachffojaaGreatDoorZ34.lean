/- A part of what Indexes leans on. -/
import Derived.Test.YtpmglcachffojaaGreatDoorZ32
set_option maxRecDepth 100000
set_option maxHeartbeats 16000000
namespace Go.Proofs.YtpmglcachffojaaGreatDoor
section
open Go Go.RowKit Go.Maps
abbrev CC:=ByteArray×Int
def nmEq (x y:CC):Bool:=decide (y.1.data.toList=x.1.data.toList)
def colB (l:List CC) (i:Nat) (x:CC):Bool:=nmS x.1 && !((l.take i).any (nmEq x))&&decide (1<=x.2/\x.2<=7)
def colI (l:List CC) (i:Nat):Bool:=match l[i]? with | some x=>colB l i x | none=>true
def schB (l:List CC):Bool:=decide (1<=l.length/\l.length<=6)&&(List.range l.length).all (colI l)
def schE (l:List CC):Int:=if schB l then 0 else 20
theorem qze {l:List CC} (h:schB l=true):schE l=0:=if_pos h
theorem uuy {l:List CC} (h:schB l=false):schE l=20:=if_neg (by rw [h];decide)
theorem kqy {l:List CC} (h:¬ (1<=l.length/\l.length<=6)):schB l=false:=by unfold schB;rw [decide_eq_false h];rfl
theorem zq2 {l:List CC} {i:Nat} (hi:i<l.length) {x:CC} (hx:x=l[i]) (h:colB l i x=false):schB l=false:=by
 unfold schB
 have:(List.range l.length).all (colI l)=false:=by
  rw [List.all_eq_false]
  exact⟨i,List.mem_range.2 hi,by unfold colI;rw [List.getElem?_eq_getElem hi,<-hx];simp [h]⟩
 rw [this,Bool.and_false]
theorem schB_yes {l:List CC} (h1:1<=l.length/\l.length<=6) (h:∀ j,j<l.length->colI l j=true):schB l=true:=by
 unfold schB
 rw [decide_eq_true h1,Bool.true_and,List.all_eq_true]
 exact fun j hj=>h j (List.mem_range.1 hj)
theorem qzf {l:List CC} {i:Nat} (hi:i<l.length) {x:CC} (hx:x=l[i]):colI l i=colB l i x:=by
 unfold colI;rw [List.getElem?_eq_getElem hi,<-hx]
def nmD (H:Type) (l:List CC):Nat->DataW H
 | 0=>.map []
 | k+1=>(nmD H l k).put (.string (l.getD k (⟨#[]⟩,0)).1.data.toList) (.lit (.bool true))
theorem qxY (H:Type) (l:List CC):∀ k,Tidy (nmD H l k)
 | 0=>tidy_empty
 | k+1=>(qxY H l k).put (jjO _) _
theorem nmD_at (H:Type) (l:List CC) (x:CC):∀ k,k<=l.length->(nmD H l k).atKey (.string x.1.data.toList) (.lit (.bool false))=.lit (.bool ((l.take k).any (nmEq x)))
 | 0,_=>rfl
 | k+1,hk=>by
   have ih:=nmD_at H l x k (by omega)
   have hkl:k<l.length:=by omega
   have e1:l.getD k (⟨#[]⟩,0)=l[k]:=by rw [List.getD_eq_getElem?_getD,List.getElem?_eq_getElem hkl];rfl
   rw [nmD,e1,zT hkl,List.any_append,List.any_cons,List.any_nil,Bool.or_false]
   by_cases h:(l[k]).1.data.toList=x.1.data.toList
   · rw [<-h,atKey_put_same (qxY H l k).isMap (jjO _)]
     have:nmEq x l[k]=true:=decide_eq_true h
     rw [this,Bool.or_true]
   · rw [atKey_put_other (by intro e;injection e with e;exact h e.symm),ih]
     have:nmEq x l[k]=false:=decide_eq_false h
     rw [this,Bool.or_false]
theorem xxt {P:Program} {k t e:TypeId} {w:World} {b n:Nat} {D:DataW Unit} (h:w.ownsMap P k (plainElem P e) b n D) (K:Keyed P k) (ht:P.underlying t=some (.map k e)) (he:P.underlying e=some .bool) (hz:(zeroValue e).run P w=.ok (.bool false) w)
 {key:Value} {kl:Go.Lit} (hkey:Go.keyOf P k key=some kl) {q:Bool} (hq:D.atKey kl (.lit (.bool false))=.lit (.bool q)):(Instr.lookup t (.map (some b)) key false).run P w=.ok (.bool q) w:=by
 obtain⟨v,ps,hrun,hv⟩:=h.lookup K ht hz (plainElem_bool he false) hkey
 rw [hq] at hv
 unfold plainElem at hv
 rw [he] at hv
 cases v <;> simp at hv
 obtain⟨rfl,_⟩:=hv
 exact hrun
theorem xqV (w:World):(zeroValue 4).run Tryz.prog w=.ok (.bool false) w:=by kernel_rfl
theorem vvq (F:Nat->Prop) (A:Option Addr) (n c:Nat) (l:List CC) (w:World) (h:Sl tCol F w A n c l) :
 Calls Tryz.prog 52 #[.slice A n c] w fun e w'=>e=.returned (.int .i64 (schE l))/\Below w.heap.size w w':=by
 have HH:=zH h;have HL:=zH h.len
 clear h
 by_cases h0:n<1
 · have HFIN:=zH (uuy (kqy (l:=l) (by rw [<-HL.out];omega)))
   have c1:(n:Int)<1:=by omega
   clear h0
   go_enter Tryz.func52,Tryz.ntmps52
   go_wp2_with fail
   go_ret
   exact⟨by rw [HFIN.out];rfl,zR⟩
 · by_cases h6:n > 6
   · have HFIN:=zH (uuy (kqy (l:=l) (by rw [<-HL.out];omega)))
     have c1:¬ (n:Int)<1:=by omega
     have c2:(n:Int) > 6:=by omega
     clear h0 h6
     go_enter Tryz.func52,Tryz.ntmps52
     go_wp2_with fail
     go_ret
     exact⟨by rw [HFIN.out];rfl,zR⟩
   · have HN:=zH (show 1<=l.length/\l.length<=6 by rw [<-HL.out];omega)
     have c1:¬ (n:Int)<1:=by omega
     have c2:¬ (n:Int) > 6:=by omega
     have hmm:=@run_makeMap Tryz.prog
     obtain⟨mb,hmb⟩:∃ mb,mb=w.heap.size:=⟨_,rfl⟩
     have HMB:=zH hmb
     clear h0 h6
     go_enter Tryz.func52,Tryz.ntmps52
     go_wp2_with fail
     rw [<-hmb]
     clear c1 c2 hmb
     go_loopw [17] (fun iv wr=>∃ i:Nat,i<=n/\iv=.int .i64 (i:Int)/\wr.ownsMap Tryz.prog 9 (plainElem (H:=Unit) Tryz.prog 4) mb i (nmD Unit l i)/\Below w.heap.size w wr/\Hid (∀ j,j<i->colI l j=true)) (fun iv _=>n - (intOf iv).toNat)
     case atStart=>exact⟨0,Nat.zero_le _,rfl,by rw [HMB.out];exact World.ownsMap_made w _ _ _,(zR).alloc zN _,zH fun j hj=>absurd hj (Nat.not_lt_zero _)⟩
     case round =>
      obtain⟨i,hi,rfl,hm,hb,HV⟩:=hrel
      have HB:=zH hb;have HM:=zH hm
      clear hb hm
      by_cases hlt:i<n
      · have hil:i<l.length:=by rw [<-HL.out];exact hlt
        obtain⟨b,o,cs,rfl,_,_,hrep,hc⟩:=(HH.out.below HB.out zN).at_ hil (by decide)
        obtain⟨⟨nm,kd⟩,hx⟩:∃ x,x=l[i]:=⟨_,rfl⟩
        rw [<-hx] at hrep
        have HX:=zH hx
        obtain⟨rfl,hx1,-,-⟩:=xxo hrep
        dsimp only at hc hx1
        have hat:=nmD_at Unit l (nm,kd) i (Nat.le_of_lt hil)
        dsimp only at hat
        obtain⟨q1,hq1⟩:∃ q,q=nmS nm:=⟨_,rfl⟩
        obtain⟨q2,hq2⟩:∃ q,q=(l.take i).any (nmEq (nm,kd)):=⟨_,rfl⟩
        rw [<-hq2] at hat
        have HCB:=zH (show colB l i (nm,kd)=(q1 && !q2&&decide (1<=kd/\kd<=7)) by unfold colB;rw [<-hq1,<-hq2])
        have HD:=zH (show nmD Unit l (i+1)=(nmD Unit l i).put (.string nm.data.toList) (.lit (.bool true)) by rw [nmD,List.getD_eq_getElem?_getD,List.getElem?_eq_getElem hil,<-hx];rfl)
        have HAT:=zH hat;have HQ1:=zH hq1;have HX1:=zH hx1
        obtain⟨g0,g1⟩:=uuD hc
        have hkey:Go.keyOf Tryz.prog 9 (.string nm)=some (.string nm.data.toList):=WideMaps.keyOf_string_mk Tryz.underlying9 hx1
        have HKEY:=zH hkey
        have i0:(0:Int)<=(i:Int):=by omega
        have i1:(i:Int)<(n:Int):=by omega
        have i2:(i:Int)<=6:=by have:=HN.out;omega
        obtain⟨nu,hnu⟩:∃ q,q=decide (1<=kd/\kd<=5):=⟨_,rfl⟩
        have HNU:=zH hnu
        clear hc hx hrep hx1 hat hq1 hq2 hkey hnu
        go_upto_region 7 with fail
        obtain⟨w2,hw2⟩:∃ w2,w2=wr.alloc (.cells #[.string nm,.int .i64 kd] 93):=⟨_,rfl⟩
        rw [<-hw2]
        have HC0:Hid (w2.cell? ⟨wr.heap.size,0,none⟩=some (.string nm)):=zH (by rw [hw2];exact by rw [zC (heap_alloc_new wr _)];rfl)
        have HC1:Hid (w2.cell? ⟨wr.heap.size,1,none⟩=some (.int .i64 kd)):=zH (by rw [hw2];exact by rw [zC (heap_alloc_new wr _)];rfl)
        have kb:Below wr.heap.size wr w2:=by rw [hw2];exact (zR).alloc zN _
        have HB2:=zH (HB.out.trans (kb.mono HB.out.size))
        have HM2:=zH (HM.out.kept (zzu (row:=none) kb) (by simp))
        have k0:=HC0.out
        clear g0 g1 kb hw2 HM
        cases q1
        · have HXX:=HCB
          have HFIN:=zH (uuy (zq2 hil HX.out (show colB l i (nm,kd)=false by rw [HCB.out];rfl)))
          go_wp2_with (first | (go_at_call 110;refine (xxm nm HX1.out _).mono ?_;rintro e w3 ⟨rfl,hb3⟩;rw [<-HQ1.out];have k3:=zzh hb3 HC0.out;have k4:=zzh hb3 HC1.out;have hm3:=HM2.out.kept (zzu (row:=none) hb3) (by simp);have hlk:=xxt hm3 law9 Tryz.underlying168 Tryz.underlying4 (xqV _) HKEY.out HAT.out;have HM3:=zH hm3;have HB3:=zH (HB2.out.trans (hb3.mono HB2.out.size));clear hb3 hm3) | (go_at_call 44;refine (zzg _ _).mono ?_;rintro e w5 ⟨rfl,rfl⟩;rw [<-HNU.out]) | fail)
          go_ret
          exact⟨by rw [HFIN.out];rfl,HB3.out⟩
        · cases q2
          · by_cases n1:1<=kd/\kd<=5
            · obtain rfl:nu=true:=by rw [HNU.out];exact decide_eq_true n1
              have HFIN:Hid (∀ j,j<i+1->colI l j=true):=zH (fun j hj=>by
               rcases Nat.lt_or_ge j i with h | h
               · exact HV.out j h
               · obtain rfl:j=i:=by omega
                 rw [qzf hil HX.out,HCB.out];rw [decide_eq_true (show 1<=kd/\kd<=7 by omega)];rfl)
              go_wp2_with (first | (go_at_call 110;refine (xxm nm HX1.out _).mono ?_;rintro e w3 ⟨rfl,hb3⟩;rw [<-HQ1.out];have k3:=zzh hb3 HC0.out;have k4:=zzh hb3 HC1.out;have hm3:=HM2.out.kept (zzu (row:=none) hb3) (by simp);have hlk:=xxt hm3 law9 Tryz.underlying168 Tryz.underlying4 (xqV _) HKEY.out HAT.out;have HM3:=zH hm3;have HB3:=zH (HB2.out.trans (hb3.mono HB2.out.size));clear hb3 hm3) | (go_at_call 44;refine (zzg _ _).mono ?_;rintro e w5 ⟨rfl,rfl⟩;rw [<-HNU.out]) | (at_mapUpdate;have hm3:=HM3.out;refine wpList_mapUpdate_own _ rfl _ _ _ 168 rfl 9 4 law9 Tryz.underlying168 _ mb i _ (by rfl) hm3 (by unfold maxLen;omega) _ _ _ (by rfl) (by rfl) HKEY.out _ [] (plainElem_bool Tryz.underlying4 true) ?_;intro w4 hown4 hgrow4) | fail)
              go_roundw
              case rel=>exact⟨i+1,by omega,by go_num,by rw [HD.out];exact hown4,HB3.out.grown hgrow4 HB3.out.size (fun q e=>by injection e with e;have:=HMB.out;omega),HFIN⟩
              case measure=>simp [intOf];omega
            · obtain rfl:nu=false:=by rw [HNU.out];exact decide_eq_false n1
              by_cases n6:kd=6
              · subst n6
                have HFIN:Hid (∀ j,j<i+1->colI l j=true):=zH (fun j hj=>by
                 rcases Nat.lt_or_ge j i with h | h
                 · exact HV.out j h
                 · obtain rfl:j=i:=by omega
                   rw [qzf hil HX.out,HCB.out];rfl)
                go_wp2_with (first | (go_at_call 110;refine (xxm nm HX1.out _).mono ?_;rintro e w3 ⟨rfl,hb3⟩;rw [<-HQ1.out];have k3:=zzh hb3 HC0.out;have k4:=zzh hb3 HC1.out;have hm3:=HM2.out.kept (zzu (row:=none) hb3) (by simp);have hlk:=xxt hm3 law9 Tryz.underlying168 Tryz.underlying4 (xqV _) HKEY.out HAT.out;have HM3:=zH hm3;have HB3:=zH (HB2.out.trans (hb3.mono HB2.out.size));clear hb3 hm3) | (go_at_call 44;refine (zzg _ _).mono ?_;rintro e w5 ⟨rfl,rfl⟩;rw [<-HNU.out]) | (at_mapUpdate;have hm3:=HM3.out;refine wpList_mapUpdate_own _ rfl _ _ _ 168 rfl 9 4 law9 Tryz.underlying168 _ mb i _ (by rfl) hm3 (by unfold maxLen;omega) _ _ _ (by rfl) (by rfl) HKEY.out _ [] (plainElem_bool Tryz.underlying4 true) ?_;intro w4 hown4 hgrow4) | fail)
                go_roundw
                case rel=>exact⟨i+1,by omega,by go_num,by rw [HD.out];exact hown4,HB3.out.grown hgrow4 HB3.out.size (fun q e=>by injection e with e;have:=HMB.out;omega),HFIN⟩
                case measure=>simp [intOf];omega
              · by_cases n7:kd=7
                · subst n7
                  have HFIN:Hid (∀ j,j<i+1->colI l j=true):=zH (fun j hj=>by
                   rcases Nat.lt_or_ge j i with h | h
                   · exact HV.out j h
                   · obtain rfl:j=i:=by omega
                     rw [qzf hil HX.out,HCB.out];rfl)
                  go_wp2_with (first | (go_at_call 110;refine (xxm nm HX1.out _).mono ?_;rintro e w3 ⟨rfl,hb3⟩;rw [<-HQ1.out];have k3:=zzh hb3 HC0.out;have k4:=zzh hb3 HC1.out;have hm3:=HM2.out.kept (zzu (row:=none) hb3) (by simp);have hlk:=xxt hm3 law9 Tryz.underlying168 Tryz.underlying4 (xqV _) HKEY.out HAT.out;have HM3:=zH hm3;have HB3:=zH (HB2.out.trans (hb3.mono HB2.out.size));clear hb3 hm3) | (go_at_call 44;refine (zzg _ _).mono ?_;rintro e w5 ⟨rfl,rfl⟩;rw [<-HNU.out]) | (at_mapUpdate;have hm3:=HM3.out;refine wpList_mapUpdate_own _ rfl _ _ _ 168 rfl 9 4 law9 Tryz.underlying168 _ mb i _ (by rfl) hm3 (by unfold maxLen;omega) _ _ _ (by rfl) (by rfl) HKEY.out _ [] (plainElem_bool Tryz.underlying4 true) ?_;intro w4 hown4 hgrow4) | fail)
                  go_roundw
                  case rel=>exact⟨i+1,by omega,by go_num,by rw [HD.out];exact hown4,HB3.out.grown hgrow4 HB3.out.size (fun q e=>by injection e with e;have:=HMB.out;omega),HFIN⟩
                  case measure=>simp [intOf];omega
                · have e6:=uu0 n6
                  have e7:=uu0 n7
                  have HKD:=zH (show ¬ (1<=kd/\kd<=7) by omega)
                  clear n1 n6 n7
                  have HFIN:=zH (uuy (zq2 hil HX.out (show colB l i (nm,kd)=false by rw [HCB.out];rw [decide_eq_false HKD.out];rfl)))
                  go_wp2_with (first | (go_at_call 110;refine (xxm nm HX1.out _).mono ?_;rintro e w3 ⟨rfl,hb3⟩;rw [<-HQ1.out];have k3:=zzh hb3 HC0.out;have k4:=zzh hb3 HC1.out;have hm3:=HM2.out.kept (zzu (row:=none) hb3) (by simp);have hlk:=xxt hm3 law9 Tryz.underlying168 Tryz.underlying4 (xqV _) HKEY.out HAT.out;have HM3:=zH hm3;have HB3:=zH (HB2.out.trans (hb3.mono HB2.out.size));clear hb3 hm3) | (go_at_call 44;refine (zzg _ _).mono ?_;rintro e w5 ⟨rfl,rfl⟩;rw [<-HNU.out]) | fail)
                  go_ret
                  exact⟨by rw [HFIN.out];rfl,HB3.out⟩
          · have HXX:=HCB
            have HFIN:=zH (uuy (zq2 hil HX.out (show colB l i (nm,kd)=false by rw [HCB.out];rfl)))
            go_wp2_with (first | (go_at_call 110;refine (xxm nm HX1.out _).mono ?_;rintro e w3 ⟨rfl,hb3⟩;rw [<-HQ1.out];have k3:=zzh hb3 HC0.out;have k4:=zzh hb3 HC1.out;have hm3:=HM2.out.kept (zzu (row:=none) hb3) (by simp);have hlk:=xxt hm3 law9 Tryz.underlying168 Tryz.underlying4 (xqV _) HKEY.out HAT.out;have HM3:=zH hm3;have HB3:=zH (HB2.out.trans (hb3.mono HB2.out.size));clear hb3 hm3) | (go_at_call 44;refine (zzg _ _).mono ?_;rintro e w5 ⟨rfl,rfl⟩;rw [<-HNU.out]) | fail)
            go_ret
            exact⟨by rw [HFIN.out];rfl,HB3.out⟩
      · obtain rfl:i=n:=by omega
        have HFIN:=zH (qze (schB_yes HN.out (by rw [<-HL.out];exact HV.out)))
        clear HM
        go_wp2_with fail
        go_ret
        exact⟨by rw [HFIN.out];rfl,HB.out⟩
end
section
open Go Go.RowKit
def yyc (b:List UInt8):Option (List UInt8):=if 4<=b.length/\vvF (b.take (b.length - 4))=b then some (b.take (b.length - 4)) else none
theorem jj0 {b:List UInt8} (h:b.length<4):yyc b=none:=if_neg (fun h2=>by omega)
theorem zqu {b:List UInt8} {m:Nat} (hm:b.length=m+4) (h:vvF (b.take m)≠b):yyc b=none:=if_neg (fun h2=>h (by rw [hm] at h2;exact h2.2))
theorem xqd {b:List UInt8} {m:Nat} (hm:b.length=m+4) (h:vvF (b.take m)=b):yyc b=some (b.take m):=by
 unfold yyc
 rw [if_pos ⟨by omega,by rw [hm];exact h⟩,hm];rfl
theorem xx6 {b c:List UInt8} (h:yyc b=some c):c.length<=b.length:=by
 unfold yyc at h
 split at h
 · injection h with h;subst h;rw [List.length_take];omega
 · cases h
def OpPost (l:List UInt8) (w:World) (e:Ending) (w':World):Prop :=
 ∃ A n c,e=.returned (.tuple #[.slice A n c,.int .i64 (okc (yyc l).isSome 2)])/\Below w.heap.size w w'/\OwnB w' w.heap.size A n c ((yyc l).getD [])
theorem xqe (g:Nat) (F:Nat->Prop) (A:Option Addr) (n c:Nat) (l:List UInt8) (w:World) (hT:TabC g w) (h:Sl tU8 F w A n c l) (hn:n<=4294967000) :
 Calls Tryz.prog 130 #[.pointer (some ⟨g,0,none⟩),.slice A n c] w (OpPost l w):=by
 have HL:=zH h.len;have HT:=zH hT
 by_cases h4:4<=n
 · obtain⟨m,rfl⟩:∃ m,n=m+4:=⟨n - 4,by omega⟩
   have HF:=zH (h.fst (k:=m) (by omega))
   have HH:=zH h
   have hm1:(m:Int)+4 - 4=(m:Int):=by omega
   have hm2:(0:Int)<=(m:Int):=by omega
   have hm3:(m:Int)<=(c:Int):=by have:=h.2.1;omega
   have hm4:¬ (m:Int)<0:=by omega
   have hm5:(m:Int)<=4294967000:=by omega
   have HN:Hid (m+4<=4294967000):=zH hn
   clear h h4 hT hn
   by_cases hs:vvF (l.take m)=l
   · have HO:=zH (xqd HL.out.symm hs)
     have HS:=zH hs
     clear hs
     go_enter Tryz.func130,Tryz.ntmps130
     go_wp2_with (first
      | (go_at_call 123;refine (kqZ g F A m c (l.take m) _ HT.out HF.out (by have:=HN.out;omega)).mono ?_;rintro e w1 ⟨A1,n1,c1,rfl,ho1,hb1⟩;rw [HS.out] at ho1;have HO1:=zH ho1;have HB1:=zH hb1;clear ho1 hb1)
      | (go_at_call 183;refine (eqB_any _ F A1 A n1 c1 (m+4) c l l _ HO1.out.bs (HH.out.below HB1.out zN) (by have h1:=HO1.out.len;have h2:=HL.out;have h3:=HN.out;omega) (by have h3:=HN.out;omega) true (by simp)).mono ?_;rintro e w2 ⟨rfl,hb2⟩;have HB2:=zH (HB1.out.trans (hb2.mono HB1.out.size));clear hb2)
      | (go_at_call 181;refine (kql F A m c (l.take m) _ (HF.out.below HB2.out zN) (by have:=HN.out;omega)).mono ?_;rintro e w3 ⟨A3,n3,c3,rfl,ho3,hb3⟩;have HO3:=zH (vvR ho3 HB2.out.size);have HB3:=zH (HB2.out.trans (hb3.mono HB2.out.size));clear ho3 hb3)
      | fail)
     go_ret2
     exact⟨A3,n3,c3,by rw [HO.out];rfl,HB3.out,by rw [HO.out];exact HO3.out⟩
   · have HO:=zH (zqu HL.out.symm hs)
     have HS:=zH hs
     clear hs
     go_enter Tryz.func130,Tryz.ntmps130
     go_wp2_with (first
      | (go_at_call 123;refine (kqZ g F A m c (l.take m) _ HT.out HF.out (by have:=HN.out;omega)).mono ?_;rintro e w1 ⟨A1,n1,c1,rfl,ho1,hb1⟩;have HO1:=zH ho1;have HB1:=zH hb1;clear ho1 hb1)
      | (go_at_call 183;refine (eqB_any _ F A1 A n1 c1 (m+4) c _ l _ HO1.out.bs (HH.out.below HB1.out zN) (by have h1:=HO1.out.len;have h2:=HL.out;have h3:=HN.out;have h4:=qzB (l.take m);rw [List.length_take] at h4;omega) (by have h3:=HN.out;omega) false (by simpa using HS.out)).mono ?_;rintro e w2 ⟨rfl,hb2⟩;have HB2:=zH (HB1.out.trans (hb2.mono HB1.out.size));clear hb2)
      | fail)
     go_ret2
     exact⟨none,0,0,by rw [HO.out];rfl,HB2.out,by rw [HO.out];exact OwnB.nil_ _ _⟩
 · have HO:=zH (jj0 (b:=l) (by rw [<-HL.out];omega))
   have h5:(n:Int) - 4<0:=by omega
   go_enter Tryz.func130,Tryz.ntmps130
   go_wp2_with fail
   go_ret2
   exact⟨none,0,0,by rw [HO.out];rfl,zR,by rw [HO.out];exact OwnB.nil_ _ _⟩
def OdPost (l:List UInt8) (w:World) (e:Ending) (w':World):Prop :=
 ∃ A n c,e=.returned (.tuple #[.slice A n c,.int .i64 (okc ((yyc l).bind zzo).isSome 2)])/\Below w.heap.size w w'/\Sl tFld (fun b=>w.heap.size<=b) w' A n c (((yyc l).bind zzo).getD [])
theorem xq7 (g:Nat) (F:Nat->Prop) (A:Option Addr) (n c:Nat) (l:List UInt8) (w:World) (hT:TabC g w) (h:Sl tU8 F w A n c l) (hn:n<=4294967000) :
 Calls Tryz.prog 69 #[.pointer (some ⟨g,0,none⟩),.slice A n c] w (OdPost l w):=by
 have HL:=zH h.len;have HT:=zH hT;have HH:=zH h;have HN:=zH hn
 clear hT h hn
 obtain⟨ec,hec⟩:∃ ec,ec=okc (yyc l).isSome 2:=⟨_,rfl⟩
 have HEC:=zH hec
 clear hec
 cases hO:yyc l with
 | none =>
   obtain rfl:ec=2:=by rw [HEC.out,hO];rfl
   have HR:Hid ((yyc l).bind zzo=none):=zH (by rw [hO];rfl)
   clear hO
   go_enter Tryz.func69,Tryz.ntmps69
   go_wp2_with (first
    | (go_at_call 130;refine (xqe g F A n c l _ HT.out HH.out HN.out).mono ?_;rintro e w1 ⟨A1,n1,c1,rfl,hb1,ho1⟩;rw [<-HEC.out];have HB1:=zH hb1;clear ho1 hb1)
    | fail)
   go_ret2
   exact⟨none,0,0,by rw [HR.out];rfl,HB1.out,by rw [HR.out];exact Sl.nil_ _ _ _⟩
 | some x =>
   obtain rfl:ec=0:=by rw [HEC.out,hO];rfl
   have HX:Hid ((yyc l).getD []=x):=zH (by rw [hO];rfl)
   have HR:Hid ((yyc l).bind zzo=zzo x):=zH (by rw [hO];rfl)
   have HLX:=zH (xx6 hO)
   clear hO
   go_enter Tryz.func69,Tryz.ntmps69
   go_wp2_with (first
    | (go_at_call 130;refine (xqe g F A n c l _ HT.out HH.out HN.out).mono ?_;rintro e w1 ⟨A1,n1,c1,rfl,hb1,ho1⟩;rw [<-HEC.out];rw [HX.out] at ho1;have HB1:=zH hb1;have HO1:=zH ho1;clear ho1 hb1)
    | (go_at_call 131;refine (zqs _ A1 n1 c1 x _ HO1.out.bs (by have h1:=HO1.out.len;have h2:=HLX.out;have h3:=HL.out;have h4:=HN.out;omega)).mono ?_;rintro e w2 ⟨A2,n2,c2,rfl,hb2,hs2⟩;rw [<-HR.out];rw [<-HR.out] at hs2;have HB2:=zH (HB1.out.trans (hb2.mono HB1.out.size));have HS2:=zH (hs2.weaken (F':=fun b=>w.heap.size<=b) fun b hb _=>Nat.le_trans HB1.out.size hb);clear hs2 hb2)
    | fail)
   go_ret2
   exact⟨A2,n2,c2,rfl,HB2.out,HS2.out⟩
end
section
open Go Go.RowKit
theorem isR_ok {t:Int} {f:Fld} (h:f.ok):isR t true f=isB t f:=by
 unfold isR isB
 have:=h.2.2.2
 cases hb:f.bytes with
 | false=>simp
 | true=>rw [hb] at this;simp only [if_true] at this;rw [this];simp
theorem vvv {b:List UInt8} {l:List Fld} (h:(yyc b).bind zzo=some l):l.length<=b.length/\∀ f∈l,f.ok:=by
 cases ho:yyc b with
 | none=>rw [ho] at h;cases h
 | some x =>
   rw [ho] at h
   have h:zzo x=some l:=h
   have h1:=xx6 ho
   have h2:=yy1 x.length x l zN h
   exact⟨by omega,(vvN h).2⟩
end
section
open Go Go.RowKit
theorem ropen_any (F:Nat->Prop) (A:Option Addr) (n c:Nat) (l:List UInt8) (w:World) (h:Sl tU8 F w A n c l) (hn:n<=4294967000) :
 Calls Tryz.prog 73 #[.slice A n c] w (OpPost l w):=by
 have HL:=zH h.len
 by_cases h4:4<=n
 · obtain⟨m,rfl⟩:∃ m,n=m+4:=⟨n - 4,by omega⟩
   have HF:=zH (h.fst (k:=m) (by omega))
   have HH:=zH h
   have hm1:(m:Int)+4 - 4=(m:Int):=by omega
   have hm2:(0:Int)<=(m:Int):=by omega
   have hm3:(m:Int)<=(c:Int):=by have:=h.2.1;omega
   have hm4:¬ (m:Int)<0:=by omega
   have hm5:(m:Int)<=4294967000:=by omega
   have hm7:IntKind.i64.wrap (m:Int)=(m:Int):=by rw [IntKind.wrap_i64];omega
   have hm6:¬ (m:Int)+4<4:=by omega
   have HN:Hid (m+4<=4294967000):=zH hn
   have hD0:=zzq h.drew
   obtain⟨X,hX⟩:∃ X,X=vvF (l.take m):=⟨_,rfl⟩
   have HX:=zH hX
   clear h h4 hn hX
   by_cases hs:X=l
   · have HO:=zH (xqd HL.out.symm (HX.out.symm.trans hs))
     have hcmp:(X==l)=true:=by rw [hs];exact beq_self_eq_true _
     clear hs
     go_enter Tryz.func73,Tryz.ntmps73
     go_upto_region 1 with fail
     refine regL [(none,fun w'=>(convert 41 9 (.slice A (m+4) c)).run Tryz.prog w'=.ok (.string ⟨l.toArray⟩) w')] (by kernel_rfl) ?_ (fun hHeld=>?_)
     · exact⟨(by first | exact hD0 | exact hE0 | fail),trivial⟩
     iterate 2
      all_goals
       repeat ((first | (refine tkP 0 (oi:=⟨_,_,_,_,_,_⟩) (v:=?_) rfl (by decide +kernel) rfl (fun _ _ _ h=>h) rfl hHeld ?_ ?_) | (refine tkP 1 (oi:=⟨_,_,_,_,_,_⟩) (v:=?_) rfl (by decide +kernel) rfl (fun _ _ _ h=>h) rfl hHeld ?_ ?_) | (refine tkP 2 (oi:=⟨_,_,_,_,_,_⟩) (v:=?_) rfl (by decide +kernel) rfl (fun _ _ _ h=>h) rfl hHeld ?_ ?_) | (refine tkP 3 (oi:=⟨_,_,_,_,_,_⟩) (v:=?_) rfl (by decide +kernel) rfl (fun _ _ _ h=>h) rfl hHeld ?_ ?_) | (refine tkP 4 (oi:=⟨_,_,_,_,_,_⟩) (v:=?_) rfl (by decide +kernel) rfl (fun _ _ _ h=>h) rfl hHeld ?_ ?_) | (refine tkP 5 (oi:=⟨_,_,_,_,_,_⟩) (v:=?_) rfl (by decide +kernel) rfl (fun _ _ _ h=>h) rfl hHeld ?_ ?_) | (refine tkP 6 (oi:=⟨_,_,_,_,_,_⟩) (v:=?_) rfl (by decide +kernel) rfl (fun _ _ _ h=>h) rfl hHeld ?_ ?_) | (refine tkP 7 (oi:=⟨_,_,_,_,_,_⟩) (v:=?_) rfl (by decide +kernel) rfl (fun _ _ _ h=>h) rfl hHeld ?_ ?_) | (refine tkP 8 (oi:=⟨_,_,_,_,_,_⟩) (v:=?_) rfl (by decide +kernel) rfl (fun _ _ _ h=>h) rfl hHeld ?_ ?_) | (refine tkP 11 (oi:=⟨_,_,_,_,_,_⟩) (v:=?_) rfl (by decide +kernel) rfl (fun _ _ _ h=>h) rfl hHeld ?_ ?_) | (refine tkL 12 0 rfl (oi:=⟨_,_,_,_,_,_⟩) (v:=?_) rfl (by decide +kernel) rfl (fun _ _ _ h=>h) rfl hHeld ?_ ?_) | (refine tkP 13 (oi:=⟨_,_,_,_,_,_⟩) (v:=?_) rfl (by decide +kernel) rfl (fun _ _ _ h=>h) rfl hHeld ?_ ?_) | (refine tkP 14 (oi:=⟨_,_,_,_,_,_⟩) (v:=?_) rfl (by decide +kernel) rfl (fun _ _ _ h=>h) rfl hHeld ?_ ?_));rotate_left;(focus (intro w;(try intro hSw);(try dsimp only at hSw);go_simp;try with_reducible rfl));intro hHeld;(try simp only [Act.put]);(try simp only [List.setIfInBounds_toArray]);(try simp only [List.set_cons_succ]);(try simp only [List.set_cons_zero]))
       first | (refine rd1 9 (o:=⟨_,_,_,_,_,_⟩) (by decide +kernel) rfl (fun K hK=>?_)) | (refine rd1 10 (o:=⟨_,_,_,_,_,_⟩) (by decide +kernel) rfl (fun K hK=>?_))
      all_goals
       first  | (go_simp;(first | (go_at_call 26;refine (vvX F A m c (l.take m) w.drew HF.out.drew (by have:=HN.out;omega)).mono ?_;rintro e w1 ⟨A1,n1,c1,rfl,ho1,hb1⟩;rw [<-HX.out] at ho1;have HB1:Hid (Below w.heap.size w w1):=zH (((zR).drew).trans hb1);have hE0:=zzq (HH.out.below HB1.out zN);have hX1:=zzq ho1.bs;clear ho1 hb1) | fail)) | go_simp
       refine hK.out _ _ ?_ (fun hHeld=>?_)
       · (try dsimp only);exact⟨(by first | exact hD0 | exact hE0 | fail),trivial⟩
       clear hK K;(try simp only [Act.put]);(try simp only [List.setIfInBounds_toArray]);(try simp only [List.set_cons_succ]);(try simp only [List.set_cons_zero])
     all_goals
      repeat ((first | (refine tkP 13 (oi:=⟨_,_,_,_,_,_⟩) (v:=?_) rfl (by decide +kernel) rfl (fun _ _ _ h=>h) rfl hHeld ?_ ?_) | (refine tkP 14 (oi:=⟨_,_,_,_,_,_⟩) (v:=?_) rfl (by decide +kernel) rfl (fun _ _ _ h=>h) rfl hHeld ?_ ?_));rotate_left;(focus (intro w;(try intro hSw);(try dsimp only at hSw);go_simp;try with_reducible rfl));intro hHeld;(try simp only [Act.put]);(try simp only [List.setIfInBounds_toArray]);(try simp only [List.set_cons_succ]);(try simp only [List.set_cons_zero]))
      refine xxI (by decide +kernel) ?_ _
      have HE:Hid (OwnB (w1.alloc (.cells #[] 5)) w1.heap.size (some ⟨w1.heap.size,0,none⟩) 0 0 []):=zH (World.ownsRow_lit w1 #[] 0 zN (by simp [maxLen]) rfl)
      go_wp2_with (first
       | (at_builtin;refine apb (w1.alloc (.cells #[] 5)) w rfl (.tmp 19) (.tmp 24) rfl w.heap.size (some ⟨w1.heap.size,0,none⟩) 0 0 [] rfl (OwnB.down HE.out HB1.out.size) (HB1.out.alloc HB1.out.size _) zN (fun b=>F b/\b<w.heap.size) A m c (l.take m) rfl (((HF.out.weaken (F':=fun b=>F b/\b<w.heap.size) fun b hb hl=>⟨hb,hl⟩).below HB1.out zN).alloc _) (by have:=HN.out;omega) ?_;intro A5 c5 w5 h5 hb5 _;rw [Nat.zero_add,List.nil_append] at h5;rw [Nat.zero_add];have HO5:=zH h5;have HB5:=zH hb5;clear h5 hb5)
       | fail)
      go_ret2
      exact⟨A5,m,c5,by rw [HO.out];rfl,HB5.out,by rw [HO.out];exact HO5.out⟩
   · have HO:=zH (zqu HL.out.symm (fun e=>hs (HX.out.trans e)))
     have hcmp:(X==l)=false:=beq_eq_false_iff_ne.2 hs
     clear hs
     go_enter Tryz.func73,Tryz.ntmps73
     go_upto_region 1 with fail
     refine regL [(none,fun w'=>(convert 41 9 (.slice A (m+4) c)).run Tryz.prog w'=.ok (.string ⟨l.toArray⟩) w')] (by kernel_rfl) ?_ (fun hHeld=>?_)
     · exact⟨(by first | exact hD0 | exact hE0 | fail),trivial⟩
     iterate 2
      all_goals
       repeat ((first | (refine tkP 0 (oi:=⟨_,_,_,_,_,_⟩) (v:=?_) rfl (by decide +kernel) rfl (fun _ _ _ h=>h) rfl hHeld ?_ ?_) | (refine tkP 1 (oi:=⟨_,_,_,_,_,_⟩) (v:=?_) rfl (by decide +kernel) rfl (fun _ _ _ h=>h) rfl hHeld ?_ ?_) | (refine tkP 2 (oi:=⟨_,_,_,_,_,_⟩) (v:=?_) rfl (by decide +kernel) rfl (fun _ _ _ h=>h) rfl hHeld ?_ ?_) | (refine tkP 3 (oi:=⟨_,_,_,_,_,_⟩) (v:=?_) rfl (by decide +kernel) rfl (fun _ _ _ h=>h) rfl hHeld ?_ ?_) | (refine tkP 4 (oi:=⟨_,_,_,_,_,_⟩) (v:=?_) rfl (by decide +kernel) rfl (fun _ _ _ h=>h) rfl hHeld ?_ ?_) | (refine tkP 5 (oi:=⟨_,_,_,_,_,_⟩) (v:=?_) rfl (by decide +kernel) rfl (fun _ _ _ h=>h) rfl hHeld ?_ ?_) | (refine tkP 6 (oi:=⟨_,_,_,_,_,_⟩) (v:=?_) rfl (by decide +kernel) rfl (fun _ _ _ h=>h) rfl hHeld ?_ ?_) | (refine tkP 7 (oi:=⟨_,_,_,_,_,_⟩) (v:=?_) rfl (by decide +kernel) rfl (fun _ _ _ h=>h) rfl hHeld ?_ ?_) | (refine tkP 8 (oi:=⟨_,_,_,_,_,_⟩) (v:=?_) rfl (by decide +kernel) rfl (fun _ _ _ h=>h) rfl hHeld ?_ ?_) | (refine tkP 11 (oi:=⟨_,_,_,_,_,_⟩) (v:=?_) rfl (by decide +kernel) rfl (fun _ _ _ h=>h) rfl hHeld ?_ ?_) | (refine tkL 12 0 rfl (oi:=⟨_,_,_,_,_,_⟩) (v:=?_) rfl (by decide +kernel) rfl (fun _ _ _ h=>h) rfl hHeld ?_ ?_) | (refine tkP 13 (oi:=⟨_,_,_,_,_,_⟩) (v:=?_) rfl (by decide +kernel) rfl (fun _ _ _ h=>h) rfl hHeld ?_ ?_) | (refine tkP 14 (oi:=⟨_,_,_,_,_,_⟩) (v:=?_) rfl (by decide +kernel) rfl (fun _ _ _ h=>h) rfl hHeld ?_ ?_));rotate_left;(focus (intro w;(try intro hSw);(try dsimp only at hSw);go_simp;try with_reducible rfl));intro hHeld;(try simp only [Act.put]);(try simp only [List.setIfInBounds_toArray]);(try simp only [List.set_cons_succ]);(try simp only [List.set_cons_zero]))
       first | (refine rd1 9 (o:=⟨_,_,_,_,_,_⟩) (by decide +kernel) rfl (fun K hK=>?_)) | (refine rd1 10 (o:=⟨_,_,_,_,_,_⟩) (by decide +kernel) rfl (fun K hK=>?_))
      all_goals
       first  | (go_simp;(first | (go_at_call 26;refine (vvX F A m c (l.take m) w.drew HF.out.drew (by have:=HN.out;omega)).mono ?_;rintro e w1 ⟨A1,n1,c1,rfl,ho1,hb1⟩;rw [<-HX.out] at ho1;have HB1:Hid (Below w.heap.size w w1):=zH (((zR).drew).trans hb1);have hE0:=zzq (HH.out.below HB1.out zN);have hX1:=zzq ho1.bs;clear ho1 hb1) | fail)) | go_simp
       refine hK.out _ _ ?_ (fun hHeld=>?_)
       · (try dsimp only);exact⟨(by first | exact hD0 | exact hE0 | fail),trivial⟩
       clear hK K;(try simp only [Act.put]);(try simp only [List.setIfInBounds_toArray]);(try simp only [List.set_cons_succ]);(try simp only [List.set_cons_zero])
     all_goals
      repeat ((first | (refine tkP 13 (oi:=⟨_,_,_,_,_,_⟩) (v:=?_) rfl (by decide +kernel) rfl (fun _ _ _ h=>h) rfl hHeld ?_ ?_) | (refine tkP 14 (oi:=⟨_,_,_,_,_,_⟩) (v:=?_) rfl (by decide +kernel) rfl (fun _ _ _ h=>h) rfl hHeld ?_ ?_));rotate_left;(focus (intro w;(try intro hSw);(try dsimp only at hSw);go_simp;try with_reducible rfl));intro hHeld;(try simp only [Act.put]);(try simp only [List.setIfInBounds_toArray]);(try simp only [List.set_cons_succ]);(try simp only [List.set_cons_zero]))
      refine xxI (by decide +kernel) ?_ _
      go_wp2_with fail
      go_ret2
      exact⟨none,0,0,by rw [HO.out];rfl,HB1.out,by rw [HO.out];exact OwnB.nil_ _ _⟩
 · have HO:=zH (jj0 (b:=l) (by rw [<-HL.out];omega))
   have h5:(n:Int)<4:=by omega
   go_enter Tryz.func73,Tryz.ntmps73
   go_upto_region 1 with fail
   refine regL [] (by kernel_rfl) ?_ (fun hHeld=>?_)
   · exact trivial
   all_goals
    repeat (first | ((first | (refine tkP 0 (oi:=⟨_,_,_,_,_,_⟩) (v:=?_) rfl (by decide +kernel) rfl (fun _ _ _ h=>h) rfl hHeld ?_ ?_) | (refine tkP 1 (oi:=⟨_,_,_,_,_,_⟩) (v:=?_) rfl (by decide +kernel) rfl (fun _ _ _ h=>h) rfl hHeld ?_ ?_) | (refine tkP 2 (oi:=⟨_,_,_,_,_,_⟩) (v:=?_) rfl (by decide +kernel) rfl (fun _ _ _ h=>h) rfl hHeld ?_ ?_) | (refine tkP 3 (oi:=⟨_,_,_,_,_,_⟩) (v:=?_) rfl (by decide +kernel) rfl (fun _ _ _ h=>h) rfl hHeld ?_ ?_) | (refine tkP 14 (oi:=⟨_,_,_,_,_,_⟩) (v:=?_) rfl (by decide +kernel) rfl (fun _ _ _ h=>h) rfl hHeld ?_ ?_));rotate_left;(focus (intro w;(try intro hSw);(try dsimp only at hSw);go_simp;try with_reducible rfl));intro hHeld;(try simp only [Act.put]);(try simp only [List.setIfInBounds_toArray]);(try simp only [List.set_cons_succ]);(try simp only [List.set_cons_zero])) | ((first | (refine tkN 4 (oi:=⟨_,_,_,_,_,_⟩) rfl (by decide +kernel) rfl (fun _ _ _ h=>h) rfl hHeld ?_) | (refine tkN 5 (oi:=⟨_,_,_,_,_,_⟩) rfl (by decide +kernel) rfl (fun _ _ _ h=>h) rfl hHeld ?_) | (refine tkN 6 (oi:=⟨_,_,_,_,_,_⟩) rfl (by decide +kernel) rfl (fun _ _ _ h=>h) rfl hHeld ?_) | (refine tkN 7 (oi:=⟨_,_,_,_,_,_⟩) rfl (by decide +kernel) rfl (fun _ _ _ h=>h) rfl hHeld ?_) | (refine tkN 8 (oi:=⟨_,_,_,_,_,_⟩) rfl (by decide +kernel) rfl (fun _ _ _ h=>h) rfl hHeld ?_) | (refine tkN 9 (oi:=⟨_,_,_,_,_,_⟩) rfl (by decide +kernel) rfl (fun _ _ _ h=>h) rfl hHeld ?_) | (refine tkN 10 (oi:=⟨_,_,_,_,_,_⟩) rfl (by decide +kernel) rfl (fun _ _ _ h=>h) rfl hHeld ?_) | (refine tkN 11 (oi:=⟨_,_,_,_,_,_⟩) rfl (by decide +kernel) rfl (fun _ _ _ h=>h) rfl hHeld ?_) | (refine tkN 12 (oi:=⟨_,_,_,_,_,_⟩) rfl (by decide +kernel) rfl (fun _ _ _ h=>h) rfl hHeld ?_) | (refine tkN 13 (oi:=⟨_,_,_,_,_,_⟩) rfl (by decide +kernel) rfl (fun _ _ _ h=>h) rfl hHeld ?_));intro hHeld;(try simp only [Act.put]);(try simp only [List.setIfInBounds_toArray]);(try simp only [List.set_cons_succ]);(try simp only [List.set_cons_zero])))
    refine xxI (by decide +kernel) ?_ _
    go_wp2_with fail
    go_ret2
    exact⟨none,0,0,by rw [HO.out];rfl,(zR).drew,by rw [HO.out];exact OwnB.nil_ _ _⟩
end
end Go.Proofs.YtpmglcachffojaaGreatDoor
