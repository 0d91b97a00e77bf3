/- A part of what Indexes leans on. -/
import Derived.Test.YtpmglcachffojaaGreatDoorZ18
set_option maxRecDepth 100000
set_option maxHeartbeats 16000000
namespace Go.Proofs.YtpmglcachffojaaGreatDoor
section
open Go Go.RowKit
def kindB (sg:Bool) (l:List Int):Nat->Option (List UInt8)
 | 0=>yy7 sg l
 | 1=>some (dirB sg l)
 | 2=>delB sg l
 | c+3=>patB (wN c) l
def outK (sg:Bool) (l:List Int) (j:Nat):List UInt8:=(List.range j).foldl (fun a j=>zzG a (kindB sg l j)) []
theorem qzT (sg:Bool) (l:List Int) (j:Nat):outK sg l (j+1)=zzG (outK sg l j) (kindB sg l j):=by unfold outK;rw [List.range_succ,List.foldl_append];rfl
theorem outK_run (sg:Bool) (l:List Int) (c:Nat):outK sg l (c+3)=zqG sg l c:=by
 induction c with
 | zero=>rfl
 | succ c ih=>rw [show c+1+3=(c+3)+1 by omega,qzT,ih,kqh];rfl
theorem kq8 {F:Nat->Prop} {w:World} {u:Value} {j:Nat} (h:zqP F w [u] j):∃ f caps,u=.func f #[] caps /\
 ((f=.func 245/\caps=#[]/\j=0)∨(f=.func 246/\caps=#[]/\j=1)∨(f=.func 247/\caps=#[]/\j=2) ∨
   ∃ d p,f=.func 248/\caps=#[.pointer (some ⟨p,0,none⟩)]/\j=d+3/\w.cell? ⟨p,0,none⟩=some (.int .i64 (d:Int))):=by
 match j,h with
 | 0,h=>exact⟨_,_,by injection h,.inl ⟨rfl,rfl,rfl⟩⟩
 | 1,h=>exact⟨_,_,by injection h,.inr (.inl ⟨rfl,rfl,rfl⟩)⟩
 | 2,h=>exact⟨_,_,by injection h,.inr (.inr (.inl ⟨rfl,rfl,rfl⟩))⟩
 | d+3,⟨p,h1,_,_,h4⟩=>exact⟨_,_,by injection h1,.inr (.inr (.inr ⟨d,p,rfl,rfl,rfl,h4⟩))⟩
def KPost (o:Option (List UInt8)) (w0:World) (bv ev:Value) (w:World):Prop:=Below w0.heap.size w0 w/\match o with
 | none=>bv=.slice none 0 0/\ev=.int .i64 1
 | some b=>∃ A n c,bv=.slice A n c/\ev=.int .i64 0/\OwnB w w0.heap.size A n c b
def OutP (w0:World) (ov:Value) (p:List UInt8) (w:World):Prop:=(p=[]/\ov=.slice none 0 0)∨(∃ g m c,p≠[]/\ov=.slice (some ⟨g,0,none⟩) m c/\OwnB w w0.heap.size (some ⟨g,0,none⟩) m c p)
theorem OutP.keep {w0 w w':World} {ov:Value} {p:List UInt8} (h:OutP w0 ov p w) (hb:Below w.heap.size w w'):OutP w0 ov p w':=by
 rcases h with h | ⟨g,m,c,h1,h2,h3⟩
 · exact .inl h
 · exact .inr ⟨g,m,c,h1,h2,h3.keepB hb⟩
theorem kindB_ne (sg:Bool) (l:List Int):∀ j x,kindB sg l j=some x->x≠[]
 | 0,x,h=>qzx sg l x h
 | 1,x,h=>by cases h;exact zqH sg l
 | 2,x,h=>delB_ne sg l x h
 | _+3,x,h=>patB_ne _ l x h
theorem run_any (F:Nat->Prop) (A:Option Addr) (n c:Nat) (l:List Int) (w:World) (h:Sl tI64 F w A n c l) (hn1:1<=n) (hn:n<=512) (sg:Bool) (hl:yyK sg l) :
 Calls Tryz.prog 162 #[.slice A n c,.bool sg] w (zzV (some (runB sg l)) w):=by
 have hlen:=h.len
 have hne:l≠[]:=by intro e;rw [e] at hlen;simp at hlen;omega
 have hml:=hl.least hne
 have HMIN:=zH (uur F A n c l w h hne)
 have HH:=zH h;have HNE:=zH hne;have HK:=zH hl
 obtain⟨mn,hmn⟩:∃ mn,mn=yyl l:=⟨_,rfl⟩
 rw [<-hmn] at hml HMIN
 obtain⟨m0,m1,m2⟩:=hml
 have m3:sg=false->¬ mn<0:=fun e=>by rcases m2 with h | h;rw [e] at h;cases h;exact Int.not_lt.2 h
 have HM3:=zH m3
 have qT:=eqlNil
 have hn5:¬ (n:Int) > 512:=by omega
 have hn6:¬ (n:Int)<1:=by omega
 clear h hl hlen hne hmn m2 m3
 go_enter Tryz.func162,Tryz.ntmps162
 go_upto_region 1 with fail
 go_cut [27] from 11 to 27 (fun v wx=>v=.bool false/\wx=w)
 case first =>
  cases sg with
  | true =>
    go_wp2_with fail
    go_meet
    exact⟨rfl,rfl⟩
  | false =>
    have m3:=HM3.out rfl
    go_wp2_with (first
     | (go_at_call 205;refine HMIN.out.mono ?_;rintro e w1 ⟨rfl,rfl⟩)
     | fail)
    go_meet
    exact⟨by congr 1;simp;omega,rfl⟩
 case rest =>
  obtain⟨rfl,hwc⟩:=hcut
  rw [hwc]
  clear hwc HMIN HM3 m0 m1
  refine ‹∀ (a:Act) (w_1:World),Code.wp _ _ _ a w_1->_› _ _ ?_
  go_wp2_with (first
   | (go_at_call 206;refine (kinds_any _).mono ?_;rintro e w1 ⟨A1,c1,rfl,hs1,hb1⟩;have HS1:=zH hs1;have HB1:=zH hb1;clear hs1 hb1)
   | fail)
  go_loopw [6,30] (fun ov iv wr=>∃ (j:Nat),j<=34/\iv=.int .i64 (j:Int)/\OutP w ov (outK sg l j) wr/\Below w1.heap.size w1 wr)
   (fun _ iv _=>34 - (intOf iv).toNat)
  case atStart=>exact⟨0,by omega,rfl,.inl ⟨rfl,rfl⟩,zR⟩
  case round =>
   rename_i ov _ _
   obtain⟨j,hj,rfl,ho,hb⟩:=hrel
   have HO:=zH ho;have HB:=zH hb
   have HBW:=zH (HB1.out.trans (hb.mono HB1.out.size))
   clear ho hb
   by_cases hlt:j<34
   · have hj1:(j:Int)<34:=by omega
     have hj0:(0:Int)<=(j:Int):=by omega
     have hsl:=HS1.out.below HB.out zN
     obtain⟨b,o,u,hA,_,hbl,hr,hc⟩:=hsl.at1 (by rw [List.length_range];exact hlt) rfl
     rw [List.getElem_range] at hr
     obtain⟨f,caps,rfl,hu⟩:=kq8 hr
     have HU:=zH hu
     clear hr hsl hu
     subst hA
     obtain⟨w5,hw5⟩:∃ w5,w5=wr.alloc (.cells #[.func f #[] caps] 260):=⟨_,rfl⟩
     obtain⟨k8,hk8⟩:∃ k8,k8=wr.heap.size:=⟨_,rfl⟩
     have hb5:Below wr.heap.size wr w5:=by rw [hw5];exact (zR).alloc zN _
     have hd0:w5.cell? ⟨k8,0,none⟩=some (.func f #[] caps):=by rw [hw5,hk8,zC (heap_alloc_new _ _)];rfl
     have HB5:=zH hb5;have HW5:=zH hw5;have HK8:=zH hk8
     have HSL5:=zH (HH.out.below (HBW.out.trans (hb5.mono HBW.out.size)) zN)
     clear hw5 hk8 hb5
     go_upto_region 7 with fail
     rw [<-HW5.out,<-HK8.out]
     obtain⟨kb,hkb⟩:∃ kb,kb=kindB sg l j:=⟨_,rfl⟩
     have HKB:=zH hkb
     clear hkb
     go_cut [9,10] from 34 to 41 (fun bv ev wx=>∃ wd,wd=wx/\KPost kb w5 bv ev wd)
     case first =>
      have HHK:=HKB.out
      rcases HU.out with ⟨rfl,rfl,hj⟩ | ⟨rfl,rfl,hj⟩ | ⟨rfl,rfl,hj⟩ | ⟨d,p,rfl,rfl,hj,hp⟩
      · have HC:=zH (times_any F A n c l w5 HSL5.out HNE.out hn sg HK.out)
        rw [show yy7 sg l=kb by rw [HHK,hj];rfl] at HC
        clear hj HHK
        cases kb with
        | none =>
          go_wp2_with (first | (go_at_call 245;refine HC.out.mono ?_;rintro e w6 ⟨hb6,rfl⟩;have HB6:=zH hb6;clear hb6) | fail)
          go_meet
          exact⟨_,rfl,HB6.out,rfl,rfl⟩
        | some kb =>
          go_wp2_with (first | (go_at_call 245;refine HC.out.mono ?_;rintro e w6 ⟨hb6,A6,n6,c6,rfl,ho6⟩;have HB6:=zH hb6;have HO6:=zH ho6;clear hb6 ho6) | fail)
          go_meet
          exact⟨_,rfl,HB6.out,A6,n6,c6,rfl,rfl,HO6.out⟩
      · have HC:=zH (dput_any F A n c l w5 HSL5.out hn1 hn sg HK.out)
        rw [show some (dirB sg l)=kb by rw [HHK,hj];rfl] at HC
        clear hj HHK
        cases kb with
        | none =>
          go_wp2_with (first | (go_at_call 246;refine HC.out.mono ?_;rintro e w6 ⟨hb6,rfl⟩;have HB6:=zH hb6;clear hb6) | fail)
          go_meet
          exact⟨_,rfl,HB6.out,rfl,rfl⟩
        | some kb =>
          go_wp2_with (first | (go_at_call 246;refine HC.out.mono ?_;rintro e w6 ⟨hb6,A6,n6,c6,rfl,ho6⟩;have HB6:=zH hb6;have HO6:=zH ho6;clear hb6 ho6) | fail)
          go_meet
          exact⟨_,rfl,HB6.out,A6,n6,c6,rfl,rfl,HO6.out⟩
      · have HC:=zH (xqv F A n c l w5 HSL5.out hn1 hn sg HK.out)
        rw [show delB sg l=kb by rw [HHK,hj];rfl] at HC
        clear hj HHK
        cases kb with
        | none =>
          go_wp2_with (first | (go_at_call 247;refine HC.out.mono ?_;rintro e w6 ⟨hb6,rfl⟩;have HB6:=zH hb6;clear hb6) | fail)
          go_meet
          exact⟨_,rfl,HB6.out,rfl,rfl⟩
        | some kb =>
          go_wp2_with (first | (go_at_call 247;refine HC.out.mono ?_;rintro e w6 ⟨hb6,A6,n6,c6,rfl,ho6⟩;have HB6:=zH hb6;have HO6:=zH ho6;clear hb6 ho6) | fail)
          go_meet
          exact⟨_,rfl,HB6.out,A6,n6,c6,rfl,rfl,HO6.out⟩
      · have HC:=zH (xqA F A n c l w5 HSL5.out hn1 hn sg HK.out d p (by omega) (zzh HB5.out hp))
        rw [show patB (wN d) l=kb by rw [HHK,hj];rfl] at HC
        clear hj HHK
        cases kb with
        | none =>
          go_wp2_with (first | (go_at_call 248;refine HC.out.mono ?_;rintro e w6 ⟨hb6,rfl⟩;have HB6:=zH hb6;clear hb6) | fail)
          go_meet
          exact⟨_,rfl,HB6.out,rfl,rfl⟩
        | some kb =>
          go_wp2_with (first | (go_at_call 248;refine HC.out.mono ?_;rintro e w6 ⟨hb6,A6,n6,c6,rfl,ho6⟩;have HB6:=zH hb6;have HO6:=zH ho6;clear hb6 ho6) | fail)
          go_meet
          exact⟨_,rfl,HB6.out,A6,n6,c6,rfl,rfl,HO6.out⟩
     case rest =>
      rename_i bv ev _ _
      obtain⟨wx,rfl,hb6,hkp⟩:=hcut
      refine ‹∀ (a:Act) (w_1:World),Code.wp _ _ _ a w_1->_› _ _ ?_
      have hbw:Below wr.heap.size wr wx:=HB5.out.trans (hb6.mono HB5.out.size)
      have HO6:=zH (HO.out.keep hbw)
      have HB6:=zH (HB.out.trans (hbw.mono HB.out.size))
      have HS6:=zH (HBW.out.size)
      have hs5:w.heap.size<=w5.heap.size:=Nat.le_trans HBW.out.size HB5.out.size
      have HS5:=zH hs5
      have HST:=zH (qzT sg l j)
      rw [<-HKB.out] at HST
      clear hb6 hbw hd0 HU hs5 HSL5 HB5 HW5 HK8 HO HB HBW HS6
      cases kb with
      | none =>
        obtain⟨rfl,rfl⟩:=hkp
        go_wp2_with fail
        go_roundw
        case rel=>exact⟨j+1,by omega,by go_num,by rw [HST.out];exact HO6.out,HB6.out⟩
        case measure=>simp [intOf];omega
      | some kb =>
        obtain⟨A6,n6,c6,rfl,rfl,hk6⟩:=hkp
        have hkne:=kindB_ne sg l j kb HKB.out.symm
        obtain⟨g6,rfl⟩:=hk6.own.some1 vvy hkne
        have HK6:=zH (hk6.down HS5.out)
        have HKNE:=zH hkne
        have hl6:=hk6.len
        have HL6:=zH hl6
        clear hk6 hkne hl6
        rcases HO6.out with ⟨hp0,rfl⟩ | ⟨g7,m7,c7,hp0,rfl,ho7⟩
        · have HFIN:=zH (show outK sg l (j+1)=kb by rw [HST.out,hp0];unfold zzG;simp)
          clear hp0
          go_wp2_with fail
          go_roundw
          case rel=>exact⟨j+1,by omega,by go_num,.inr ⟨g6,n6,c6,by rw [HFIN.out];exact HKNE.out,rfl,by rw [HFIN.out];exact HK6.out⟩,HB6.out⟩
          case measure=>simp [intOf];omega
        · have hl7:=ho7.len
          by_cases hsh:n6<m7
          · have HFIN:=zH (show outK sg l (j+1)=kb by rw [HST.out];unfold zzG;simp only;rw [if_pos (.inr (by have:=HL6.out;omega))])
            have hsI:(n6:Int)<(m7:Int):=by omega
            clear hp0 hl7 ho7 hsh
            go_wp2_with fail
            go_roundw
            case rel=>exact⟨j+1,by omega,by go_num,.inr ⟨g6,n6,c6,by rw [HFIN.out];exact HKNE.out,rfl,by rw [HFIN.out];exact HK6.out⟩,HB6.out⟩
            case measure=>simp [intOf];omega
          · have HFIN:=zH (show outK sg l (j+1)=outK sg l j by rw [HST.out];unfold zzG;simp only;rw [if_neg (by rintro (h | h);exact hp0 h;have:=HL6.out;omega)])
            have hsI:¬ (n6:Int)<(m7:Int):=by omega
            clear hp0 hl7 ho7 hsh
            go_wp2_with fail
            go_roundw
            case rel=>exact⟨j+1,by omega,by go_num,by rw [HFIN.out];exact HO6.out,HB6.out⟩
            case measure=>simp [intOf];omega
   · obtain rfl:j=34:=by omega
     have hrun:outK sg l 34=runB sg l:=outK_run sg l 31
     rcases HO.out with ⟨hp0,rfl⟩ | ⟨g7,m7,c7,hp0,rfl,ho7⟩
     · exact absurd hp0 (by rw [hrun];exact (qxs sg l 31).1)
     · have HO7:=zH ho7
       rw [hrun] at HO7
       clear hp0 ho7 hrun
       go_wp2_with fail
       go_ret2
       exact⟨HBW.out,_,m7,c7,rfl,HO7.out⟩
end
end Go.Proofs.YtpmglcachffojaaGreatDoor
