/- A part of what None leans on. -/
import Derived.Test.YtpmglcachffojaaGreatDoorZ14
import Derived.Laws.EntriesVeiled
set_option maxRecDepth 100000
set_option maxHeartbeats 16000000
namespace Go.Proofs.YtpmglcachffojaaGreatDoor
section
open Go Go.RowKit
def uuS (F:Nat->Prop) (w:World) (cs:List Value):Nat->Prop
 | 0=>cs=[.func (.func 245) #[] #[]]
 | 1=>cs=[.func (.func 246) #[] #[]]
 | 2=>cs=[.func (.func 247) #[] #[]]
 | c+3=>∃ b,cs=[.func (.func 248) #[] #[.pointer (some ⟨b,0,none⟩)]]/\F b/\b<w.heap.size/\w.cell? ⟨b,0,none⟩=some (.int .i64 (c:Int))
theorem xxS {F:Nat->Prop} {w:World} {cs:List Value} {j:Nat} (h:uuS F w cs j):∃ u:Value,cs=[u]/\u.oneCell'=true:=by
 match j,h with
 | 0,h=>exact⟨_,h,rfl⟩
 | 1,h=>exact⟨_,h,rfl⟩
 | 2,h=>exact⟨_,h,rfl⟩
 | _+3,⟨_,h,_⟩=>exact⟨_,h,rfl⟩
def qzi:Ty Nat where
 size:=1
 rep F w cs j:=uuS F w cs j
 len h:=by obtain⟨_,rfl,_⟩:=xxS h;rfl
 one h:=by obtain⟨_,rfl,h1⟩:=xxS h;intro u hu;simp at hu;subst hu;exact h1
 keep {F w w' cs x} h hs hk:=by
  match x,h with
  | 0,h=>exact h
  | 1,h=>exact h
  | 2,h=>exact h
  | _+3,⟨b,h1,h2,h3,h4⟩=>exact⟨b,h1,h2,by omega,(World.cell?_of_block (a:=⟨b,0,none⟩) (hk b h2 h3)).trans h4⟩
 weaken {F F' w cs x} h hF:=by
  match x,h with
  | 0,h=>exact h
  | 1,h=>exact h
  | 2,h=>exact h
  | _+3,⟨b,h1,h2,h3,h4⟩=>exact⟨b,h1,hF b h2 h3,h3,h4⟩
theorem zqt:(Tryz.prog.info? 260).map (fun i=>(i.zero,i.size,i.bytes))=some (some (.agg #[.nilFunc]),1,8):=by kernel_rfl
theorem zqu:zzL Tryz.prog 257 260 1:=zzL.mk' (by kernel_rfl) zqt rfl (by decide) (by decide)
theorem qzj (w:World):Calls Tryz.prog 206 #[] w fun e w'=>∃ A c,e=.returned (.slice A 34 c)/\Sl qzi (fun _=>True) w' A 34 c (List.range 34)/\Below w.heap.size w w':=by
 obtain⟨w1,hw1⟩:∃ w1,w1=w.alloc (.cells #[.func (.func 245) #[] #[],.func (.func 246) #[] #[],.func (.func 247) #[] #[]] 260):=⟨_,rfl⟩
 have ho:Own qzi 260 w1 w.heap.size (some ⟨w.heap.size,0,none⟩) 3 3 (List.range 3):=by
  refine⟨fun _=>False,⟨[[.func (.func 245) #[] #[]],[.func (.func 246) #[] #[]],[.func (.func 247) #[] #[]]],?_,?_⟩,fun _ _ _ h=>h,rfl⟩
  · rw [hw1]
    exact World.ownsRow_lit w #[.func (.func 245) #[] #[],.func (.func 246) #[] #[],.func (.func 247) #[] #[]] 3 zN (by simp [maxLen]) rfl
  · exact Reps.mk3 (T:=qzi) (F:=fun _=>False) (w:=w1) (x1:=0) (x2:=1) (x3:=2) rfl rfl rfl
 have HO:=zH ho
 have HB:=zH (show Below w.heap.size w w1 by rw [hw1];exact (zR).alloc zN _)
 have HW1:=zH hw1
 clear ho hw1
 go_enter Tryz.func206,Tryz.ntmps206
 go_wp2_with fail
 rw [<-HW1.out]
 go_loopw [1,7] (fun lv iv wr=>∃ (i m:Nat) (A2:Option Addr) (c2:Nat),i<=31/\m=3+i/\iv=.int .i64 (i:Int)/\lv=.slice A2 m c2/\Own qzi 260 wr w.heap.size A2 m c2 (List.range m)/\Below w.heap.size w wr)
  (fun _ iv _=>31 - (intOf iv).toNat)
 case atStart=>exact⟨0,3,_,3,by omega,rfl,rfl,rfl,HO.out,HB.out⟩
 case round =>
  obtain⟨i,m,A2,c2,hi,hm,rfl,rfl,⟨F2,ho2⟩,hb2⟩:=hrel
  have HO2:=zH ho2;have HB2:=zH hb2;have HM:=zH hm
  have hm34:m<=34:=by omega
  clear ho2 hb2 hm
  by_cases hlt:i<31
  · have i1:(i:Int)<31:=by omega
    obtain⟨p,hp⟩:∃ p,p=wr.heap.size:=⟨_,rfl⟩
    obtain⟨w4,hw4⟩:∃ w4,w4=wr.alloc (.cells #[.int .i64 (i:Int)] 3):=⟨_,rfl⟩
    have hb4:Below wr.heap.size wr w4:=by rw [hw4];exact (zR).alloc zN _
    have HO4:=zH (HO2.out.keepB hb4)
    have HB4:=zH (HB2.out.trans (hb4.mono HB2.out.size))
    have HC4:=zH (show w4.cell? ⟨p,0,none⟩=some (.int .i64 (i:Int)) by rw [hw4,hp,zC (heap_alloc_new _ _)];rfl)
    have HP4:=zH (show p<w4.heap.size by rw [hw4,hp,zS];omega)
    have hG:∀ b,A2=some ⟨b,0,none⟩->w.heap.size<=b->b<w4.heap.size->¬ b=p:=fun b e _ _ h=>by
     have:=(zzx HO2.out (b:=b) (by rw [e];rfl)).2.2
     omega
    have HGG:=zH hG
    have HW4:=zH hw4;have HP:=zH hp
    clear hw4 hb4 hG hp
    go_upto_region 5 with fail
    rw [<-HW4.out,<-HP.out]
    go_wp2_with (first
     | (at_builtin;refine apl1 (T:=qzi) zqu w4 w rfl (.tmp 10) (.tmp 13) rfl w.heap.size A2 m c2 _ rfl F2 (fun b=>b=p) HO4.out HB4.out zN _ rfl [.func (.func 248) #[] #[.pointer (some ⟨p,0,none⟩)]] (i+3) ⟨p,rfl,rfl,HP4.out,HC4.out⟩ 260 rfl HGG.out (by omega) ?_;intro A5 c5 w5 h5;have HA5:=zH h5.own;have HB5:=zH h5.below;clear h5)
     | fail)
    go_roundw
    case rel=>exact⟨i+1,m+1,A5,c5,by omega,by have:=HM.out;omega,by go_num,rfl,⟨_,by rw [List.range_succ,show List.range m++[m]=List.range m++[i+3] by rw [HM.out,Nat.add_comm]];exact HA5.out⟩,HB5.out⟩
    case measure=>simp [intOf];omega
  · obtain rfl:i=31:=by omega
    have hm34:m=34:=by have:=HM.out;omega
    subst hm34
    go_wp2_with fail
    go_ret
    exact⟨A2,c2,rfl,HO2.out.sl.any,HB2.out⟩
theorem wN_ok (c:Nat) (h:c<=30):wOf (c:Int)=((wN c:Nat):Int)/\wN c<=63/\zzZ ((wN c:Nat):Int)=((zzQ (wN c):Nat):Int):=by
 have h1:=vvY (c:Int)
 have e:wOf (c:Int)=((wN c:Nat):Int):=by unfold wN;omega
 have h2:=zqb (c:=(c:Int)) (by omega) (by omega)
 have h3:=zqc (c:=(c:Int)) (d:=31) (by omega) (by omega) (by omega)
 have h4:=vvY 31
 rw [e] at h2 h3
 refine⟨e,by omega,?_⟩
 unfold zzQ
 rw [h2];omega
theorem jjZ (F:Nat->Prop) (A:Option Addr) (n c:Nat) (l:List Int) (w:World) (h:Sl tI64 F w A n c l) (hn1:1<=n) (hn:n<=512) (sg:Bool) (hl:zzV sg l) (d p:Nat) (hd:d<=30) (hp:w.cell? ⟨p,0,none⟩=some (.int .i64 (d:Int))) :
 Calls Tryz.prog 248 #[.slice A n c,.bool sg,.pointer (some ⟨p,0,none⟩)] w (zzw (patB (wN d) l) w):=by
 obtain⟨e1,e2,e3⟩:=wN_ok d hd
 have HE1:=zH e1;have HE2:=zH e2;have HE3:=zH e3;have HH:=zH h;have HK:=zH hl
 obtain⟨o,ho⟩:∃ o,o=patB (wN d) l:=⟨_,rfl⟩
 have HO:=zH ho
 clear e1 e2 e3 h hl
 rw [<-ho]
 clear ho
 go_enter Tryz.func248,Tryz.ntmps248
 cases o with
 | none =>
   go_wp2_with (first
    | (go_at_call 250;refine (kqR (d:Int) (by omega) (by omega) _).mono ?_;rintro e w1 ⟨rfl,hb1⟩;rw [HE1.out];have HB1:=zH hb1;clear hb1)
    | (go_at_call 249;refine (jjs F A n c l _ (HH.out.below HB1.out zN) hn1 hn sg HK.out (wN d) HE2.out HE3.out).mono ?_;rw [<-HO.out];rintro e w2 ⟨hb2,rfl⟩;have HB2:=zH hb2;clear hb2)
    | fail)
   go_ret2
   exact⟨HB1.out.trans (HB2.out.mono HB1.out.size),rfl⟩
 | some b =>
   go_wp2_with (first
    | (go_at_call 250;refine (kqR (d:Int) (by omega) (by omega) _).mono ?_;rintro e w1 ⟨rfl,hb1⟩;rw [HE1.out];have HB1:=zH hb1;clear hb1)
    | (go_at_call 249;refine (jjs F A n c l _ (HH.out.below HB1.out zN) hn1 hn sg HK.out (wN d) HE2.out HE3.out).mono ?_;rw [<-HO.out];rintro e w2 ⟨hb2,A2,n2,c2,rfl,ho2⟩;have HB2:=zH hb2;have HO2:=zH ho2;clear hb2 ho2)
    | fail)
   go_ret2
   exact⟨HB1.out.trans (HB2.out.mono HB1.out.size),A2,n2,c2,rfl,HO2.out.down HB1.out.size⟩
end
section
open Go Go.RowKit
def zqv (sg:Bool) (l:List Int):Nat->Option (List UInt8)
 | 0=>zz9 sg l
 | 1=>some (dirB sg l)
 | 2=>delB sg l
 | c+3=>patB (wN c) l
def outK (sg:Bool) (l:List Int) (j:Nat):List UInt8:=(List.range j).foldl (fun a j=>zzl a (zqv sg l j)) []
theorem uuh (sg:Bool) (l:List Int) (j:Nat):outK sg l (j+1)=zzl (outK sg l j) (zqv sg l j):=by unfold outK;rw [List.range_succ,List.foldl_append];rfl
theorem zqw (sg:Bool) (l:List Int) (c:Nat):outK sg l (c+3)=uuJ sg l c:=by
 induction c with
 | zero=>rfl
 | succ c ih=>rw [show c+1+3=(c+3)+1 by omega,uuh,ih,vve];rfl
theorem vvK {F:Nat->Prop} {w:World} {u:Value} {j:Nat} (h:uuS F w [u] j):∃ f caps,u=.func f #[] caps /\
 ((f=.func 245/\caps=#[]/\j=0)∨(f=.func 246/\caps=#[]/\j=1)∨(f=.func 247/\caps=#[]/\j=2) ∨
   ∃ d p,f=.func 248/\caps=#[.pointer (some ⟨p,0,none⟩)]/\j=d+3/\w.cell? ⟨p,0,none⟩=some (.int .i64 (d:Int))):=by
 match j,h with
 | 0,h=>exact⟨_,_,by injection h,.inl ⟨rfl,rfl,rfl⟩⟩
 | 1,h=>exact⟨_,_,by injection h,.inr (.inl ⟨rfl,rfl,rfl⟩)⟩
 | 2,h=>exact⟨_,_,by injection h,.inr (.inr (.inl ⟨rfl,rfl,rfl⟩))⟩
 | d+3,⟨p,h1,_,_,h4⟩=>exact⟨_,_,by injection h1,.inr (.inr (.inr ⟨d,p,rfl,rfl,rfl,h4⟩))⟩
def KPost (o:Option (List UInt8)) (w0:World) (bv ev:Value) (w:World):Prop:=Below w0.heap.size w0 w/\match o with
 | none=>bv=.slice none 0 0/\ev=.int .i64 1
 | some b=>∃ A n c,bv=.slice A n c/\ev=.int .i64 0/\OwnB w w0.heap.size A n c b
def OutP (w0:World) (ov:Value) (p:List UInt8) (w:World):Prop:=(p=[]/\ov=.slice none 0 0)∨(∃ g m c,p≠[]/\ov=.slice (some ⟨g,0,none⟩) m c/\OwnB w w0.heap.size (some ⟨g,0,none⟩) m c p)
theorem OutP.keep {w0 w w':World} {ov:Value} {p:List UInt8} (h:OutP w0 ov p w) (hb:Below w.heap.size w w'):OutP w0 ov p w':=by
 rcases h with h | ⟨g,m,c,h1,h2,h3⟩
 · exact .inl h
 · exact .inr ⟨g,m,c,h1,h2,h3.keepB hb⟩
theorem zqx (sg:Bool) (l:List Int):∀ j x,zqv sg l j=some x->x≠[]
 | 0,x,h=>vv1 sg l x h
 | 1,x,h=>by cases h;exact uuK sg l
 | 2,x,h=>kqN sg l x h
 | _+3,x,h=>kqO _ l x h
theorem qxL (F:Nat->Prop) (A:Option Addr) (n c:Nat) (l:List Int) (w:World) (h:Sl tI64 F w A n c l) (hn1:1<=n) (hn:n<=512) (sg:Bool) (hl:zzV sg l) :
 Calls Tryz.prog 162 #[.slice A n c,.bool sg] w (zzw (some (runB sg l)) w):=by
 have hlen:=h.len
 have hne:l≠[]:=by intro e;rw [e] at hlen;simp at hlen;omega
 have hml:=hl.least hne
 have HMIN:=zH (yy9 F A n c l w h hne)
 have HH:=zH h;have HNE:=zH hne;have HK:=zH hl
 obtain⟨mn,hmn⟩:∃ mn,mn=zzJ l:=⟨_,rfl⟩
 rw [<-hmn] at hml HMIN
 obtain⟨m0,m1,m2⟩:=hml
 have m3:sg=false->¬ mn<0:=fun e=>by rcases m2 with h | h;rw [e] at h;cases h;exact Int.not_lt.2 h
 have HM3:=zH m3
 have qT:=uue
 have hn5:¬ (n:Int) > 512:=by omega
 have hn6:¬ (n:Int)<1:=by omega
 clear h hl hlen hne hmn m2 m3
 go_enter Tryz.func162,Tryz.ntmps162
 go_upto_region 1 with fail
 go_cut [27] from 11 to 27 (fun v wx=>v=.bool false/\wx=w)
 case first =>
  cases sg with
  | true =>
    go_wp2_with fail
    go_meet
    exact⟨rfl,rfl⟩
  | false =>
    have m3:=HM3.out rfl
    go_wp2_with (first
     | (go_at_call 205;refine HMIN.out.mono ?_;rintro e w1 ⟨rfl,rfl⟩)
     | fail)
    go_meet
    exact⟨by congr 1;simp;omega,rfl⟩
 case rest =>
  obtain⟨rfl,hwc⟩:=hcut
  rw [hwc]
  clear hwc HMIN HM3 m0 m1
  refine ‹∀ (a:Act) (w_1:World),Code.wp _ _ _ a w_1->_› _ _ ?_
  go_wp2_with (first
   | (go_at_call 206;refine (qzj _).mono ?_;rintro e w1 ⟨A1,c1,rfl,hs1,hb1⟩;have HS1:=zH hs1;have HB1:=zH hb1;clear hs1 hb1)
   | fail)
  go_loopw [6,30] (fun ov iv wr=>∃ (j:Nat),j<=34/\iv=.int .i64 (j:Int)/\OutP w ov (outK sg l j) wr/\Below w1.heap.size w1 wr)
   (fun _ iv _=>34 - (intOf iv).toNat)
  case atStart=>exact⟨0,by omega,rfl,.inl ⟨rfl,rfl⟩,zR⟩
  case round =>
   rename_i ov _ _
   obtain⟨j,hj,rfl,ho,hb⟩:=hrel
   have HO:=zH ho;have HB:=zH hb
   have HBW:=zH (HB1.out.trans (hb.mono HB1.out.size))
   clear ho hb
   by_cases hlt:j<34
   · have hj1:(j:Int)<34:=by omega
     have hj0:(0:Int)<=(j:Int):=by omega
     have hsl:=HS1.out.below HB.out zN
     obtain⟨b,o,u,hA,_,hbl,hr,hc⟩:=hsl.at1 (by rw [List.length_range];exact hlt) rfl
     rw [List.getElem_range] at hr
     obtain⟨f,caps,rfl,hu⟩:=vvK hr
     have HU:=zH hu
     clear hr hsl hu
     subst hA
     obtain⟨w5,hw5⟩:∃ w5,w5=wr.alloc (.cells #[.func f #[] caps] 260):=⟨_,rfl⟩
     obtain⟨k8,hk8⟩:∃ k8,k8=wr.heap.size:=⟨_,rfl⟩
     have hb5:Below wr.heap.size wr w5:=by rw [hw5];exact (zR).alloc zN _
     have hd0:w5.cell? ⟨k8,0,none⟩=some (.func f #[] caps):=by rw [hw5,hk8,zC (heap_alloc_new _ _)];rfl
     have HB5:=zH hb5;have HW5:=zH hw5;have HK8:=zH hk8
     have HSL5:=zH (HH.out.below (HBW.out.trans (hb5.mono HBW.out.size)) zN)
     clear hw5 hk8 hb5
     go_upto_region 7 with fail
     rw [<-HW5.out,<-HK8.out]
     obtain⟨kb,hkb⟩:∃ kb,kb=zqv sg l j:=⟨_,rfl⟩
     have HKB:=zH hkb
     clear hkb
     go_cut [9,10] from 34 to 41 (fun bv ev wx=>∃ wd,wd=wx/\KPost kb w5 bv ev wd)
     case first =>
      have HHK:=HKB.out
      rcases HU.out with ⟨rfl,rfl,hj⟩ | ⟨rfl,rfl,hj⟩ | ⟨rfl,rfl,hj⟩ | ⟨d,p,rfl,rfl,hj,hp⟩
      · have HC:=zH (kq9 F A n c l w5 HSL5.out HNE.out hn sg HK.out)
        rw [show zz9 sg l=kb by rw [HHK,hj];rfl] at HC
        clear hj HHK
        cases kb with
        | none =>
          go_wp2_with (first | (go_at_call 245;refine HC.out.mono ?_;rintro e w6 ⟨hb6,rfl⟩;have HB6:=zH hb6;clear hb6) | fail)
          go_meet
          exact⟨_,rfl,HB6.out,rfl,rfl⟩
        | some kb =>
          go_wp2_with (first | (go_at_call 245;refine HC.out.mono ?_;rintro e w6 ⟨hb6,A6,n6,c6,rfl,ho6⟩;have HB6:=zH hb6;have HO6:=zH ho6;clear hb6 ho6) | fail)
          go_meet
          exact⟨_,rfl,HB6.out,A6,n6,c6,rfl,rfl,HO6.out⟩
      · have HC:=zH (zql F A n c l w5 HSL5.out hn1 hn sg HK.out)
        rw [show some (dirB sg l)=kb by rw [HHK,hj];rfl] at HC
        clear hj HHK
        cases kb with
        | none =>
          go_wp2_with (first | (go_at_call 246;refine HC.out.mono ?_;rintro e w6 ⟨hb6,rfl⟩;have HB6:=zH hb6;clear hb6) | fail)
          go_meet
          exact⟨_,rfl,HB6.out,rfl,rfl⟩
        | some kb =>
          go_wp2_with (first | (go_at_call 246;refine HC.out.mono ?_;rintro e w6 ⟨hb6,A6,n6,c6,rfl,ho6⟩;have HB6:=zH hb6;have HO6:=zH ho6;clear hb6 ho6) | fail)
          go_meet
          exact⟨_,rfl,HB6.out,A6,n6,c6,rfl,rfl,HO6.out⟩
      · have HC:=zH (jjU F A n c l w5 HSL5.out hn1 hn sg HK.out)
        rw [show delB sg l=kb by rw [HHK,hj];rfl] at HC
        clear hj HHK
        cases kb with
        | none =>
          go_wp2_with (first | (go_at_call 247;refine HC.out.mono ?_;rintro e w6 ⟨hb6,rfl⟩;have HB6:=zH hb6;clear hb6) | fail)
          go_meet
          exact⟨_,rfl,HB6.out,rfl,rfl⟩
        | some kb =>
          go_wp2_with (first | (go_at_call 247;refine HC.out.mono ?_;rintro e w6 ⟨hb6,A6,n6,c6,rfl,ho6⟩;have HB6:=zH hb6;have HO6:=zH ho6;clear hb6 ho6) | fail)
          go_meet
          exact⟨_,rfl,HB6.out,A6,n6,c6,rfl,rfl,HO6.out⟩
      · have HC:=zH (jjZ F A n c l w5 HSL5.out hn1 hn sg HK.out d p (by omega) (zzt HB5.out hp))
        rw [show patB (wN d) l=kb by rw [HHK,hj];rfl] at HC
        clear hj HHK
        cases kb with
        | none =>
          go_wp2_with (first | (go_at_call 248;refine HC.out.mono ?_;rintro e w6 ⟨hb6,rfl⟩;have HB6:=zH hb6;clear hb6) | fail)
          go_meet
          exact⟨_,rfl,HB6.out,rfl,rfl⟩
        | some kb =>
          go_wp2_with (first | (go_at_call 248;refine HC.out.mono ?_;rintro e w6 ⟨hb6,A6,n6,c6,rfl,ho6⟩;have HB6:=zH hb6;have HO6:=zH ho6;clear hb6 ho6) | fail)
          go_meet
          exact⟨_,rfl,HB6.out,A6,n6,c6,rfl,rfl,HO6.out⟩
     case rest =>
      rename_i bv ev _ _
      obtain⟨wx,rfl,hb6,hkp⟩:=hcut
      refine ‹∀ (a:Act) (w_1:World),Code.wp _ _ _ a w_1->_› _ _ ?_
      have hbw:Below wr.heap.size wr wx:=HB5.out.trans (hb6.mono HB5.out.size)
      have HO6:=zH (HO.out.keep hbw)
      have HB6:=zH (HB.out.trans (hbw.mono HB.out.size))
      have HS6:=zH (HBW.out.size)
      have hs5:w.heap.size<=w5.heap.size:=Nat.le_trans HBW.out.size HB5.out.size
      have HS5:=zH hs5
      have HST:=zH (uuh sg l j)
      rw [<-HKB.out] at HST
      clear hb6 hbw hd0 HU hs5 HSL5 HB5 HW5 HK8 HO HB HBW HS6
      cases kb with
      | none =>
        obtain⟨rfl,rfl⟩:=hkp
        go_wp2_with fail
        go_roundw
        case rel=>exact⟨j+1,by omega,by go_num,by rw [HST.out];exact HO6.out,HB6.out⟩
        case measure=>simp [intOf];omega
      | some kb =>
        obtain⟨A6,n6,c6,rfl,rfl,hk6⟩:=hkp
        have hkne:=zqx sg l j kb HKB.out.symm
        obtain⟨g6,rfl⟩:=hk6.own.some1 yyH hkne
        have HK6:=zH (hk6.down HS5.out)
        have HKNE:=zH hkne
        have hl6:=hk6.len
        have HL6:=zH hl6
        clear hk6 hkne hl6
        rcases HO6.out with ⟨hp0,rfl⟩ | ⟨g7,m7,c7,hp0,rfl,ho7⟩
        · have HFIN:=zH (show outK sg l (j+1)=kb by rw [HST.out,hp0];unfold zzl;simp)
          clear hp0
          go_wp2_with fail
          go_roundw
          case rel=>exact⟨j+1,by omega,by go_num,.inr ⟨g6,n6,c6,by rw [HFIN.out];exact HKNE.out,rfl,by rw [HFIN.out];exact HK6.out⟩,HB6.out⟩
          case measure=>simp [intOf];omega
        · have hl7:=ho7.len
          by_cases hsh:n6<m7
          · have HFIN:=zH (show outK sg l (j+1)=kb by rw [HST.out];unfold zzl;simp only;rw [if_pos (.inr (by have:=HL6.out;omega))])
            have hsI:(n6:Int)<(m7:Int):=by omega
            clear hp0 hl7 ho7 hsh
            go_wp2_with fail
            go_roundw
            case rel=>exact⟨j+1,by omega,by go_num,.inr ⟨g6,n6,c6,by rw [HFIN.out];exact HKNE.out,rfl,by rw [HFIN.out];exact HK6.out⟩,HB6.out⟩
            case measure=>simp [intOf];omega
          · have HFIN:=zH (show outK sg l (j+1)=outK sg l j by rw [HST.out];unfold zzl;simp only;rw [if_neg (by rintro (h | h);exact hp0 h;have:=HL6.out;omega)])
            have hsI:¬ (n6:Int)<(m7:Int):=by omega
            clear hp0 hl7 ho7 hsh
            go_wp2_with fail
            go_roundw
            case rel=>exact⟨j+1,by omega,by go_num,by rw [HFIN.out];exact HO6.out,HB6.out⟩
            case measure=>simp [intOf];omega
   · obtain rfl:j=34:=by omega
     have hrun:outK sg l 34=runB sg l:=zqw sg l 31
     rcases HO.out with ⟨hp0,rfl⟩ | ⟨g7,m7,c7,hp0,rfl,ho7⟩
     · exact absurd hp0 (by rw [hrun];exact (jjh sg l 31).1)
     · have HO7:=zH ho7
       rw [hrun] at HO7
       clear hp0 ho7 hrun
       go_wp2_with fail
       go_ret2
       exact⟨HBW.out,_,m7,c7,rfl,HO7.out⟩
end
end Go.Proofs.YtpmglcachffojaaGreatDoor
