/- A part of what Indexes leans on. -/
import Derived.Test.YtpmglcachffojaaGreatDoorZ10
set_option maxRecDepth 100000
set_option maxHeartbeats 16000000
namespace Go.Proofs.YtpmglcachffojaaGreatDoor
section
open Go Go.RowKit
theorem xqu (g:Nat) (hg:g<9223372036854775808) (f:Bool) (w:World) :
 Calls Tryz.prog 290 #[.agg #[.int .u64 (g:Int),.bool f]] w fun e w'=>e=.returned (.int .i64 (if f then -(g:Int) else (g:Int)))/\Below w.heap.size w w':=by
 obtain⟨G,hG⟩:∃ G:Int,G=g:=⟨_,rfl⟩
 have h0:0<=G:=by omega
 have h1:G<=9223372036854775807:=by omega
 rw [<-hG]
 clear hG hg
 cases f with
 | true =>
   go_enter Tryz.func290,Tryz.ntmps290
   go_wp2_with fail
   go_ret
   exact⟨rfl,(zR).alloc zN _⟩
 | false =>
   go_enter Tryz.func290,Tryz.ntmps290
   go_wp2_with fail
   go_ret
   exact⟨rfl,(zR).alloc zN _⟩
theorem yyw {P:Program} {fn:Func} {p a b c:Tmp} {ty:TypeId} (h:fn.results=#[.cell p ty,.tmp a,.tmp b,.tmp c]) (tmps:Array Value) (w:World) (g:Nat) (t:TypeId) (cs:Array Value) (fr:Nat×Nat) (d:TypeDesc)
 (hp:tmps.getD p undef=.pointer (some ⟨g,0,none⟩)) (hg:w.heap[g]?=some (.cells cs t fr))
 (hu:P.underlying ty=some d) (hd:(match d with | .struct _ | .array _ _=>true | _=>false)=true) (hi:(P.info? ty).map (·.size)=some cs.size) :
 (results fn tmps).run P w=.ok (.tuple #[.agg cs,tmps.getD a undef,tmps.getD b undef,tmps.getD c undef]) w:=by
 have hp':tmps[p]?.getD undef=.pointer (some ⟨g,0,none⟩):=by simpa using hp
 simp [results,h,hp',asAddr,run_loadVar_row w g t ty cs fr d hg hu hd hi]
structure DfR (w0:World) (fb:Nat) (cs:Array Value) (A:Option Addr) (n c:Nat) (S:List Nat) (w:World):Prop where
 first:w.heap[fb]?=some (.cells cs 322 (0,0))
 row:OwnU w (fb+1) A n c S
 below:Below fb w0 w
theorem DfR.keep {w0:World} {fb:Nat} {cs:Array Value} {A:Option Addr} {n c:Nat} {S:List Nat} {w w':World} (h:DfR w0 fb cs A n c S w) (hb:Below w.heap.size w w'):DfR w0 fb cs A n c S w' :=
 ⟨(hb.block fb (zzc h.first)).trans h.first,yyD (h.row.keepB hb),h.below.trans (hb.mono (Nat.le_of_lt (zzc h.first)))⟩
theorem xxk (f:Bool):∀ l:List Int,yyX f l=true↔∀ j (h:j+1<l.length),gapN l[j] l[j+1]<9223372036854775808/\(l[j]=l[j+1]∨decide (l[j+1]<l[j])=f)
 | []=>by simp [yyX]
 | [_]=>by simp [yyX]
 | a::b::r=>by
   rw [yyX,Bool.and_eq_true,Bool.and_eq_true,xxk f (b::r),decide_eq_true_eq,Bool.or_eq_true,decide_eq_true_eq,beq_iff_eq]
   constructor
   · rintro ⟨h1,h2⟩ j hj
     cases j with
     | zero=>exact h1
     | succ j=>exact h2 j (by simpa using hj)
   · intro h
     exact⟨h 0 (by simp),fun j hj=>h (j+1) (by simpa using hj)⟩
theorem vvj:∀ (l:List Int) (j:Nat) (h:j+1<l.length),(zzB l)[j]'(by rw [yyO];omega)=gapN l[j] l[j+1]
 | [],_,h=>absurd h (by simp)
 | [_],_,h=>absurd h (by simp)
 | a::b::r,0,_=>rfl
 | a::b::r,j+1,h=>vvj (b::r) j (by simpa using h)
theorem DfR.set {w0:World} {fb:Nat} {cs cs':Array Value} {A:Option Addr} {n c:Nat} {S:List Nat} {w w':World} (h:DfR w0 fb cs A n c S w) (h1:w'.heap[fb]?=some (.cells cs' 322 (0,0))) (h2:∀ b,b≠fb->w'.heap[b]?=w.heap[b]?) (h3:w.heap.size=w'.heap.size) (h5:Below fb w0 w'):DfR w0 fb cs' A n c S w' :=
 ⟨h1,yyD (h.row.keep (Nat.le_of_eq h3) fun b hb _=>h2 b (by rcases hb with hb | ⟨_,hb⟩;exact hb.elim;omega)),h5⟩
theorem DfR.setTo {w0:World} {fb:Nat} {cs:Array Value} {A:Option Addr} {n c:Nat} {S:List Nat} {w:World} (h:DfR w0 fb cs A n c S w) (u v:Value) (hs:cs.size=2) :
 DfR w0 fb #[u,v] A n c S ((w.setCell ⟨fb,0,none⟩ u).setCell ⟨fb,1,none⟩ v):=by
 have h1:(cs.setIfInBounds 0 u).setIfInBounds 1 v=#[u,v]:=by
  obtain⟨l⟩:=cs
  match l,hs with
  | [_,_],_=>rfl
 refine h.set ?_ (fun b hb=>?_) (by simp [World.setCell]) (zzi (zzi h.below zN _) zN _)
 · exact zza (zza h.first rfl) h1
 · exact (Below.heap_setCell _ ⟨fb,1,none⟩ v b hb).trans (Below.heap_setCell _ ⟨fb,0,none⟩ u b hb)
def dfOk (f:Bool) (l:List Int) (i:Nat):Prop:=∀ j (h:j+1<l.length),j<i->gapN l[j] l[j+1]<9223372036854775808/\(l[j]=l[j+1]∨decide (l[j+1]<l[j])=f)
def dfCs (g:Nat) (f:Bool) (i:Nat):Array Value:=if i=0 then #[.int .u64 0,.bool false] else #[.int .u64 (g:Int),.bool f]
theorem dfCs_size (g:Nat) (f:Bool) (i:Nat):(dfCs g f i).size=2:=by unfold dfCs;split <;> rfl
theorem kqn (g:Nat) (f:Bool) (i:Nat):∃ u v,dfCs g f i=#[.int .u64 u,.bool v]:=by unfold dfCs;split <;> exact⟨_,_,rfl⟩
theorem dfHeads (l:List Int) (h:2<=l.length):(zzB l).headD 0=gapN (l[0]'(by omega)) (l[1]'(by omega))/\yy6 l=decide ((l[1]'(by omega))<l[0]'(by omega)):=by
 match l,h with
 | _::_::_,_=>exact⟨rfl,rfl⟩
def DiffsPost (l:List Int) (w:World) (e:Ending) (w':World):Prop:=Below w.heap.size w w' /\
 if yyX (yy6 l) l then ∃ A n c,e=.returned (.tuple #[.agg #[.int .u64 (((zzB l).headD 0:Nat):Int),.bool (yy6 l)],.slice A n c,.bool (xql (zzB l)),.bool true])/\Sl tU64 (fun _=>True) w' A n c (zzB l).tail
 else e=.returned (.tuple #[.agg #[.int .u64 0,.bool false],.slice none 0 0,.bool false,.bool false])
theorem qzI (F:Nat->Prop) (A:Option Addr) (n c:Nat) (l:List Int) (w:World) (h:Sl tI64 F w A n c l) (hn1:2<=n) (hn:n<=512) :
 Calls Tryz.prog 288 #[.slice A n c] w (DiffsPost l w):=by
 have HL:=zH h.len
 have hc2:=h.2.1
 have hc3:=h.2.2.1
 unfold maxLen at hc3
 obtain⟨b,o,_,rfl,_,hblt,_,_⟩:=h.at1 (k:=0) (by have:=HL.out;omega) rfl
 have HCELL:Hid (∀ i (hi:i<l.length),w.cell? ⟨b,o+i,none⟩=some (.int .i64 l[i]) /\ -9223372036854775808<=l[i]/\l[i]<=9223372036854775807):=zH fun i hi=>by
  obtain⟨b',o',u,he,_,_,hr,hc⟩:=h.at1 hi rfl
  injection he with he;injection he with e1 e2 _
  subst e1;subst e2
  obtain⟨hr,h1,h2⟩:=hr
  injection hr with hr
  subst hr
  exact⟨hc,h1,h2⟩
 have HBL:=zH hblt
 clear h hblt
 obtain⟨fb,hfb⟩:∃ fb,fb=w.heap.size:=⟨_,rfl⟩
 obtain⟨g0,hg0⟩:∃ g0,g0=(zzB l).headD 0:=⟨_,rfl⟩
 obtain⟨f0,hf0⟩:∃ f0,f0=yy6 l:=⟨_,rfl⟩
 have HG0:=zH hg0;have HF0:=zH hf0;have HFB:=zH hfb
 have hb0:Below w.heap.size w (w.alloc (.cells #[.int .u64 0,.bool false] 322)):=(zR).alloc zN _
 have HDF:=zH (show DfR w fb (dfCs g0 f0 0) none 0 0 [] (w.alloc (.cells #[.int .u64 0,.bool false] 322)) from ⟨by rw [hfb];exact heap_alloc_new w _,uuZ _ _,by rw [hfb];exact hb0⟩)
 clear hb0
 go_enter Tryz.func288,Tryz.ntmps288
 go_wp2_with fail
 rw [<-hfb]
 clear hg0 hf0 hfb
 go_loopw [3,4,15] (fun sv mv iv wr=>∃ (i:Nat) (A2:Option Addr) (c2:Nat) (m:Bool),i<=n - 1/\iv=.int .i64 (i:Int)/\sv=.slice A2 i c2/\mv=.bool m/\m=((zzB l).take i).all (·==g0)/\DfR w fb (dfCs g0 f0 i) A2 i c2 ((zzB l).take i) wr/\dfOk f0 l i)
  (fun _ _ iv _=>n - (intOf iv).toNat)
 case atStart=>exact⟨0,none,0,true,Nat.zero_le _,rfl,rfl,rfl,rfl,HDF.out,fun j _ h=>absurd h (Nat.not_lt_zero j)⟩
 case round =>
  obtain⟨i,A2,c2,m,hi,rfl,rfl,rfl,hm,hd,hok⟩:=hrel
  have HM:=zH hm;have HD:=zH hd;have HOK:=zH hok
  clear hm hd hok
  by_cases hlt:i<n - 1
  · have hil:i+1<l.length:=by rw [<-HL.out];omega
    obtain⟨a,ha⟩:∃ a,a=l[i]:=⟨_,rfl⟩
    obtain⟨x,hx⟩:∃ x,x=l[i+1]:=⟨_,rfl⟩
    have hca:=HCELL.out i (by omega)
    have hcx:=HCELL.out (i+1) hil
    rw [<-ha] at hca
    rw [<-hx] at hcx
    obtain⟨ca,a1,a2⟩:=hca
    obtain⟨cx,x1,x2⟩:=hcx
    have hbw:Below w.heap.size w wr:=by rw [<-HFB.out];exact HD.out.below
    have ca':=zzh hbw ca
    have cx':=zzh hbw cx
    rw [show o+(i+1)=o+1+i by omega] at cx'
    clear ca cx hbw
    have i0:(0:Int)<=(i:Int):=by omega
    have i1:(i:Int)<(n:Int) - 1:=by omega
    have i2:(i:Int)<(n:Int):=by omega
    have i3:(i:Int)<((n - 1:Nat):Int):=by omega
    obtain⟨g,hg⟩:∃ g,g=gapN a x:=⟨_,rfl⟩
    have HA:=zH ha;have HX:=zH hx;have HG:=zH hg
    clear ha hx
    by_cases hz:g<9223372036854775808
    · have HV:=zH (show vvI a x=#[.int .u64 (g:Int),.bool (decide (x<a)),.bool true] by unfold vvI;rw [<-hg,if_pos hz])
      clear hg
      obtain⟨fx,hfx⟩:∃ fx,fx=decide (x<a):=⟨_,rfl⟩
      rw [<-hfx] at HV
      have HFX:=zH hfx
      clear hfx
      go_upto_region 7 with (first
       | (go_at_call 320;refine (vvi a x a1 a2 x1 x2 _).mono ?_;rintro e w1 ⟨rfl,hb1⟩;rw [HV.out];have HD1:=zH (HD.out.keep hb1);clear hb1)
       | fail)
      obtain⟨w2,hw2⟩:∃ w2,w2=w1.alloc (.cells #[.int .u64 (g:Int),.bool fx] 322):=⟨_,rfl⟩
      have hd2:DfR w fb (dfCs g0 f0 i) A2 i c2 ((zzB l).take i) w2:=by rw [hw2];exact HD1.out.keep ((zR).alloc zN _)
      obtain⟨d2,hdd⟩:∃ d2,d2=w1.heap.size:=⟨_,rfl⟩
      have hne:d2≠fb:=by have:=zzc HD1.out.first;omega
      have hdh:w2.heap[d2]?=some (.cells #[.int .u64 (g:Int),.bool fx] 322 (0,0)):=by rw [hw2,hdd];exact heap_alloc_new _ _
      rw [<-hw2,<-hdd]
      have HD2:=zH hd2;have HDH:=zH hdh;have HNE:=zH hne
      clear hw2 hdd hd2 hne HD1 ca' cx'
      have c0:w2.cell? ⟨d2,0,none⟩=some (.int .u64 (g:Int)):=by rw [zC hdh];rfl
      have c1:w2.cell? ⟨d2,1,none⟩=some (.bool fx):=by rw [zC hdh];rfl
      clear hdh
      go_upto_if 34 with fail
      go_cut [] from 35 to 35 (fun wx=>∃ wd,wd=wx/\DfR w fb #[.int .u64 (g0:Int),.bool f0] A2 i c2 ((zzB l).take i) wd/\wd.heap[d2]?=some (.cells #[.int .u64 (g:Int),.bool fx] 322 (0,0)))
      case first =>
       by_cases hi0:i=0
       · obtain⟨u,v,huv⟩:=kqn g0 f0 i
         have hf:=HD2.out.first
         rw [huv] at hf
         have k0:w2.cell? ⟨fb,0,none⟩=some (.int .u64 u):=by rw [zC hf];rfl
         have k1:w2.cell? ⟨fb,1,none⟩=some (.bool v):=by rw [zC hf];rfl
         have k2:=zF hf 0
         have k3:=zF hf 1
         have hI:(i:Int)=0:=by omega
         have hI2:((i:Int)==0)=true:=jjq hI
         clear hf huv
         have HH2:=zH (dfHeads l (by omega))
         have hgx:g=g0/\fx=f0:=by
          have ea:=HA.out;have ex:=HX.out
          subst hi0
          exact⟨by rw [HG.out,HG0.out,HH2.out.1,ea,ex],by rw [HFX.out,HF0.out,HH2.out.2,ea,ex]⟩
         have HGG:=zH hgx.1;have HFF:=zH hgx.2
         clear hgx HH2 hi0
         go_wp2_with fail
         go_meet
         refine⟨_,rfl,?_,?_⟩
         · have:=HD2.out.setTo (.int .u64 (g:Int)) (.bool fx) (dfCs_size _ _ _)
           rw [HGG.out,HFF.out] at this ⊢
           exact this
         · exact (Below.heap_setCell _ ⟨fb,1,none⟩ _ d2 HNE.out).trans ((Below.heap_setCell _ ⟨fb,0,none⟩ _ d2 HNE.out).trans HDH.out)
       · have hI:¬ (i:Int)=0:=by omega
         have hI2:((i:Int)==0)=false:=zzL hI
         go_wp2_with fail
         go_meet
         refine⟨_,rfl,?_,HDH.out⟩
         have:=HD2.out
         rwa [dfCs,if_neg hi0] at this
      case rest =>
       obtain⟨wx,rfl,hd3,hdh3⟩:=hcut
       have HD3:=zH hd3;have HDH3:=zH hdh3
       have hf:=hd3.first
       have k0:wx.cell? ⟨fb,0,none⟩=some (.int .u64 (g0:Int)):=by rw [zC hf];rfl
       have k1:wx.cell? ⟨fb,1,none⟩=some (.bool f0):=by rw [zC hf];rfl
       have k2:=zF hf 0
       have k3:=zF hf 1
       have c0':wx.cell? ⟨d2,0,none⟩=some (.int .u64 (g:Int)):=by rw [zC hdh3];rfl
       have c1':wx.cell? ⟨d2,1,none⟩=some (.bool fx):=by rw [zC hdh3];rfl
       clear hf hd3 hdh3 c0 c1
       refine ‹∀ (a:Act) (w_1:World),Code.wp _ _ _ a w_1->_› _ _ ?_
       by_cases hdir:g=0∨fx=f0
       · go_upto_region 9 with fail
         go_cut [47] from 36 to 46 (fun v wy=>v=.bool false/\wy=wx)
         case first =>
          by_cases gz:g=0
          · have gz':(g:Int)=0:=by omega
            clear gz hdir
            go_wp2_with fail
            go_meet
            exact⟨rfl,rfl⟩
          · have gp:(0:Int)<(g:Int):=by omega
            obtain rfl:fx=f0:=hdir.resolve_left gz
            clear gz hdir
            cases fx with
            | true =>
              go_wp2_with fail
              go_meet
              exact⟨rfl,rfl⟩
            | false =>
              go_wp2_with fail
              go_meet
              exact⟨rfl,rfl⟩
         case rest =>
          obtain⟨rfl,hwc⟩:=hcut
          rw [hwc]
          clear hwc
          refine ‹∀ (a:Act) (w_1:World),Code.wp _ _ _ a w_1->_› _ _ ?_
          go_upto_region 11 with fail
          go_cut [4] from 49 to 63 (fun v wy=>v=.bool (m&&decide (g=g0))/\wy=wx)
          case first =>
           cases m with
           | false =>
             go_wp2_with fail
             go_meet
             exact⟨rfl,rfl⟩
           | true =>
             by_cases hgg:g=g0
             · have hb1:((g:Int)==(g0:Int))=true:=jjq (by omega)
               by_cases hff:fx=f0
               · have hb2:(fx==f0)=true:=by rw [hff];exact beq_self_eq_true f0
                 have hd3:decide (g=g0)=true:=decide_eq_true hgg
                 clear hff hgg hdir
                 go_wp2_with fail
                 go_meet
                 refine⟨?_,rfl⟩
                 rw [hd3];rfl
               · have hg00:g=0:=hdir.resolve_right hff
                 have hb2:(fx==f0)=false:=by simpa using hff
                 have hb3:(g:Int)=0:=by omega
                 have hb4:(g0:Int)=0:=by omega
                 have hd3:decide (g=g0)=true:=decide_eq_true hgg
                 clear hff hgg hdir hg00 hb1
                 go_wp2_with fail
                 go_meet
                 refine⟨?_,rfl⟩
                 rw [hd3];rfl
             · have hb1:((g:Int)==(g0:Int))=false:=zzL (by omega)
               have hd3:decide (g=g0)=false:=decide_eq_false hgg
               by_cases hgz:g=0
               · have hb3:((g:Int)==0)=true:=jjq (by omega)
                 have hb4:((g0:Int)==0)=false:=zzL (by omega)
                 clear hgg hdir hgz
                 go_wp2_with fail
                 go_meet
                 refine⟨?_,rfl⟩
                 rw [hd3];rfl
               · have hb3:((g:Int)==0)=false:=zzL (by omega)
                 clear hgg hdir hgz
                 go_wp2_with fail
                 go_meet
                 refine⟨?_,rfl⟩
                 rw [hd3];rfl
          case rest =>
           obtain⟨rfl,hwc⟩:=hcut
           rw [hwc]
           clear hwc
           refine ‹∀ (a:Act) (w_1:World),Code.wp _ _ _ a w_1->_› _ _ ?_
           have hts:(zzB l).take (i+1)=(zzB l).take i++[g]:=by
            have hsl:i<(zzB l).length:=by rw [yyO];omega
            rw [zT hsl,vvj l i hil,HG.out,HA.out,HX.out]
           have HTS:=zH hts
           have hok2:dfOk f0 l (i+1):=fun j hj hji=>by
            by_cases h:j<i
            · exact HOK.out j hj h
            · obtain rfl:j=i:=by omega
              rw [<-HA.out,<-HX.out,<-HG.out,<-HFX.out]
              refine⟨hz,hdir.imp (fun h=>?_) id⟩
              have:=HG.out
              unfold gapN at this
              omega
           have HOK2:=zH hok2
           have hu:U64 g:=Nat.lt_trans hz (by decide)
           have HU:=zH hu
           have hB1:fb+1<=wx.heap.size:=zzc HD3.out.first
           clear hts hok2 hu hdir
           go_wp2_with (first
            | (at_builtin;refine apu1 wx wx rfl (.tmp 64) (.tmp 66) rfl (fb+1) A2 i c2 _ rfl HD3.out.row (zR) hB1 _ rfl g HU.out rfl (by omega) ?_;intro A3 c3 w3 h3 hb3)
            | fail)
           go_roundw
           case rel =>
            refine⟨i+1,A3,c3,m&&decide (g=g0),by omega,by go_num,rfl,rfl,?_,?_,HOK2.out⟩
            · rw [HTS.out,HM.out,List.all_append];simp;rfl
            · rw [HTS.out,dfCs,if_neg (by omega)]
              exact⟨(hb3.block fb (by omega)).trans HD3.out.first,h3,HD3.out.below.trans (hb3.mono (by omega))⟩
           case measure=>simp [intOf];omega
       · have hbad:yyX (yy6 l) l=false:=by
          refine Bool.eq_false_iff.2 fun h=>?_
          have:=((xxk _ l).1 h i hil).2
          rw [<-HA.out,<-HX.out,<-HFX.out,<-HF0.out] at this
          refine hdir (this.imp (fun h=>?_) id)
          rw [HG.out];unfold gapN;omega
         have HBAD:=zH hbad
         have gp:(0:Int)<(g:Int):=by omega
         obtain⟨hg1,hf1⟩:=not_or.1 hdir
         clear hbad hdir hg1
         cases fx with
         | true =>
           obtain rfl:f0=false:=by simpa using hf1
           clear hf1
           go_wp2_with fail
           refine bodyPost_ret (yyw rfl _ _ fb 322 #[.int .u64 0,.bool false] (0,0) _ rfl (HD3.out.setTo (.int .u64 0) (.bool false) rfl).first Tryz.underlying322 rfl (by kernel_rfl)) rfl ?_
           exact⟨by rw [<-HFB.out];exact (HD3.out.setTo (.int .u64 0) (.bool false) rfl).below,by rw [HBAD.out];exact rfl⟩
         | false =>
           obtain rfl:f0=true:=by simpa using hf1
           clear hf1
           go_wp2_with fail
           refine bodyPost_ret (yyw rfl _ _ fb 322 #[.int .u64 0,.bool false] (0,0) _ rfl (HD3.out.setTo (.int .u64 0) (.bool false) rfl).first Tryz.underlying322 rfl (by kernel_rfl)) rfl ?_
           exact⟨by rw [<-HFB.out];exact (HD3.out.setTo (.int .u64 0) (.bool false) rfl).below,by rw [HBAD.out];exact rfl⟩
    · have HV:=zH (show vvI a x=#[.int .u64 0,.bool false,.bool false] by unfold vvI;rw [<-hg,if_neg hz])
      have hbad:yyX (yy6 l) l=false:=by
       refine Bool.eq_false_iff.2 fun h=>hz ?_
       have:=((xxk _ l).1 h i hil).1
       rwa [<-HA.out,<-HX.out,<-hg] at this
      have HBAD:=zH hbad
      clear hg hz hbad
      go_upto_region 7 with (first
       | (go_at_call 320;refine (vvi a x a1 a2 x1 x2 _).mono ?_;rintro e w1 ⟨rfl,hb1⟩;rw [HV.out];have HD1:=zH (HD.out.keep hb1);clear hb1)
       | fail)
      obtain⟨w2,hw2⟩:∃ w2,w2=w1.alloc (.cells #[.int .u64 0,.bool false] 322):=⟨_,rfl⟩
      have hd2:DfR w fb (dfCs g0 f0 i) A2 i c2 ((zzB l).take i) w2:=by rw [hw2];exact HD1.out.keep ((zR).alloc zN _)
      obtain⟨d2,hdd⟩:∃ d2,d2=w1.heap.size:=⟨_,rfl⟩
      have hdh:w2.heap[d2]?=some (.cells #[.int .u64 0,.bool false] 322 (0,0)):=by rw [hw2,hdd];exact heap_alloc_new _ _
      rw [<-hw2,<-hdd]
      obtain⟨u,v,huv⟩:=kqn g0 f0 i
      rw [huv] at hd2
      have HD2:=zH hd2
      have hf:=hd2.first
      clear hw2 hdd HD1 ca' cx' huv hd2
      have c0:w2.cell? ⟨d2,0,none⟩=some (.int .u64 0):=by rw [zC hdh];rfl
      have c1:w2.cell? ⟨d2,1,none⟩=some (.bool false):=by rw [zC hdh];rfl
      have k0:w2.cell? ⟨fb,0,none⟩=some (.int .u64 u):=by rw [zC hf];rfl
      have k1:w2.cell? ⟨fb,1,none⟩=some (.bool v):=by rw [zC hf];rfl
      have k2:=zF hf 0
      have k3:=zF hf 1
      clear hdh hf
      go_upto_if 34 with fail
      go_cut [] from 35 to 35 (fun wx=>∃ (wd:World) (u v:Value),wd=wx/\DfR w fb #[u,v] A2 i c2 ((zzB l).take i) wd)
      case first =>
       by_cases hi0:i=0
       · have hI:(i:Int)=0:=by omega
         have hI2:((i:Int)==0)=true:=jjq hI
         clear hi0
         go_wp2_with fail
         go_meet
         exact⟨_,_,_,rfl,HD2.out.setTo (.int .u64 0) (.bool false) rfl⟩
       · have hI:¬ (i:Int)=0:=by omega
         have hI2:((i:Int)==0)=false:=zzL hI
         go_wp2_with fail
         go_meet
         exact⟨_,_,_,rfl,HD2.out⟩
      case rest =>
       obtain⟨wx,u',v',rfl,hd3⟩:=hcut
       have HD3:=zH hd3
       have hf:=hd3.first
       clear c0 c1 k0 k1 k2 k3
       have k0:wx.cell? ⟨fb,0,none⟩=some u':=by rw [zC hf];rfl
       have k1:wx.cell? ⟨fb,1,none⟩=some v':=by rw [zC hf];rfl
       have k2:=zF hf 0
       have k3:=zF hf 1
       clear hf hd3
       refine ‹∀ (a:Act) (w_1:World),Code.wp _ _ _ a w_1->_› _ _ ?_
       go_wp2_with fail
       refine bodyPost_ret (yyw rfl _ _ fb 322 #[.int .u64 0,.bool false] (0,0) _ rfl (HD3.out.setTo (.int .u64 0) (.bool false) rfl).first Tryz.underlying322 rfl (by kernel_rfl)) rfl ?_
       exact⟨by rw [<-HFB.out];exact (HD3.out.setTo (.int .u64 0) (.bool false) rfl).below,by rw [HBAD.out];exact rfl⟩
  · have hin:i=n - 1:=by omega
    have hts:(zzB l).take i=zzB l:=zL (by rw [yyO,<-HL.out];omega)
    have hcs:dfCs g0 f0 i=#[.int .u64 (g0:Int),.bool f0]:=by rw [dfCs,if_neg (by omega)]
    rw [hts] at HD HM
    rw [hcs] at HD
    have hgood:yyX (yy6 l) l=true:=(xxk _ l).2 fun j hj=>by rw [<-HF0.out];exact HOK.out j hj (by have:=HL.out;omega)
    have hsl:=HD.out.row.sl
    have hic:=hsl.2.1
    have hic2:=hsl.2.2.1
    unfold maxLen at hic2
    obtain⟨ga,rfl⟩:=HD.out.row.some1 qxx (by intro h;have:=HD.out.row.len;rw [h] at this;simp at this;omega)
    have hcut:=hsl.cut (lo:=1) (hi:=i) (by omega) zN
    have HCUT:=zH hcut;have HGOOD:=zH hgood
    have hf:=HD.out.first
    have k0:wr.cell? ⟨fb,0,none⟩=some (.int .u64 (g0:Int)):=by rw [zC hf];rfl
    have k1:wr.cell? ⟨fb,1,none⟩=some (.bool f0):=by rw [zC hf];rfl
    have k2:=zF hf 0
    have k3:=zF hf 1
    have HTS:=zH hts
    have hi1:(1:Int)<=(i:Int):=by omega
    have hi2:¬ (i:Int)<((n - 1:Nat):Int):=by omega
    have hi3:1<=i:=by omega
    clear hts hcs hgood hsl hcut hf hin HOK
    go_upto_region 14 with fail
    have hFfb:¬ (False∨((some ⟨ga,0,none⟩:Option Addr)=some ⟨fb,0,none⟩/\fb+1<=fb)):=by rintro (h | ⟨_,h⟩);exact h;omega
    by_cases hc1:c2=1
    · obtain rfl:i=1:=by omega
      subst hc1
      go_region
      go_wp2_with fail
      have HFIN:=zH (HD.out.setTo (.int .u64 (g0:Int)) (.bool f0) rfl)
      refine bodyPost_ret (yyw rfl _ _ fb 322 #[.int .u64 (g0:Int),.bool f0] (0,0) _ rfl HFIN.out.first Tryz.underlying322 rfl (by kernel_rfl)) rfl ?_
      refine⟨by rw [<-HFB.out];exact HFIN.out.below.drew,?_⟩
      rw [HGOOD.out,if_pos rfl]
      refine⟨_,_,_,by rw [<-HG0.out,<-HF0.out,xql,<-HG0.out,<-HM.out];rfl,?_⟩
      have hs:=((HCUT.out.setCell (p:=⟨fb,0,none⟩) hFfb (.int .u64 (g0:Int))).setCell (p:=⟨fb,1,none⟩) hFfb (.bool f0)).drew.any
      rw [show (zzB l).tail=((zzB l).take 1).drop 1 by rw [HTS.out,List.drop_one]]
      simpa using hs
    · go_region
      go_wp2_with fail
      have HFIN:=zH (HD.out.setTo (.int .u64 (g0:Int)) (.bool f0) rfl)
      refine bodyPost_ret (yyw rfl _ _ fb 322 #[.int .u64 (g0:Int),.bool f0] (0,0) _ rfl HFIN.out.first Tryz.underlying322 rfl (by kernel_rfl)) rfl ?_
      refine⟨by rw [<-HFB.out];exact HFIN.out.below.drew,?_⟩
      rw [HGOOD.out,if_pos rfl]
      refine⟨_,_,_,by rw [<-HG0.out,<-HF0.out,xql,<-HG0.out,<-HM.out];rfl,?_⟩
      have hs:=((HCUT.out.setCell (p:=⟨fb,0,none⟩) hFfb (.int .u64 (g0:Int))).setCell (p:=⟨fb,1,none⟩) hFfb (.bool f0)).drew.any
      rw [show (zzB l).tail=((zzB l).take i).drop 1 by rw [HTS.out,List.drop_one]]
      rw [if_neg hc1] at hs
      exact hs
end
section
open Go Go.RowKit
theorem zzg (k:Int) (w:World):Calls Tryz.prog 44 #[.int .i64 k] w fun e w'=>e=.returned (.bool (decide (1<=k/\k<=5)))/\w=w':=by
 by_cases h:1<=k/\k<=5
 · rw [decide_eq_true h]
   obtain rfl | rfl | rfl | rfl | rfl:k=1∨k=2∨k=3∨k=4∨k=5:=by omega
   all_goals
    clear h
    go_enter Tryz.func44,Tryz.ntmps44
    go_wp2_with fail
    go_ret
    exact⟨rfl,rfl⟩
 · rw [decide_eq_false h]
   have e1:(k==1)=false:=zzL (by omega)
   have e2:(k==2)=false:=zzL (by omega)
   have e3:(k==3)=false:=zzL (by omega)
   have e4:(k==4)=false:=zzL (by omega)
   have e5:(k==5)=false:=zzL (by omega)
   have h1:¬ k=1:=by omega
   have h2:¬ k=2:=by omega
   have h3:¬ k=3:=by omega
   have h4:¬ k=4:=by omega
   have h5:¬ k=5:=by omega
   clear h
   go_enter Tryz.func44,Tryz.ntmps44
   go_wp2_with fail
   go_ret
   exact⟨rfl,rfl⟩
theorem jjB (w:World):Calls Tryz.prog 292 #[.int .i64 (-9223372036854775808)] w fun e w'=>e=.returned (.slice none 0 0)/\Below w.heap.size w w':=by
 have HV:=zH (show vvI 0 (-9223372036854775808)=#[.int .u64 0,.bool false,.bool false] by unfold vvI gapN;rw [if_neg (by omega)])
 go_enter Tryz.func292,Tryz.ntmps292
 go_wp2_with (first
  | (go_at_call 320;refine (vvi 0 (-9223372036854775808) (by decide) (by decide) (by decide) (by decide) _).mono ?_;rintro e w1 ⟨rfl,hb1⟩;rw [HV.out];have HB1:=zH hb1;clear hb1)
  | fail)
 go_ret
 exact⟨rfl,HB1.out⟩
end
section
open Go Go.RowKit
theorem whole_any (x:Int) (h0 : -9223372036854775808<=x) (h1:x<=9223372036854775807) (w:World):Calls Tryz.prog 94 #[.int .i64 x] w fun e w'=>e=.returned (.int .i64 (x / 1000))/\w=w':=by
 obtain⟨q,hq⟩:∃ q,q=x.tdiv 1000:=⟨_,rfl⟩
 obtain⟨r,hr⟩:∃ r,r=x.tmod 1000:=⟨_,rfl⟩
 have hqr:1000*q+r=x:=by rw [hq,hr];exact Int.mul_tdiv_add_tmod x 1000
 have hb:(0<=x->0<=r/\r<1000)/\(x<0 -> -1000<r/\r<=0):=by
  rw [hr]
  refine⟨fun h=>⟨Int.tmod_nonneg 1000 h,Int.tmod_lt_of_pos x (by decide)⟩,fun h=>?_⟩
  have e:x.tmod 1000 = -((-x).tmod 1000):=by rw [Int.neg_tmod,Int.neg_neg]
  have h1:=Int.tmod_nonneg 1000 (show 0 <= -x by omega)
  have h2:=Int.tmod_lt_of_pos (-x) (show (0:Int)<1000 by decide)
  omega
 have hq0 : -9223372036854776<=q/\q<=9223372036854775:=by omega
 by_cases hneg:r<0
 · have HD:=zH (show x / 1000=q - 1 by omega)
   obtain⟨q0,q1⟩:=hq0
   have HQ:=hq.symm;have HR:=hr.symm
   clear hb hqr hq hr
   go_enter Tryz.func94,Tryz.ntmps94
   go_wp2_with fail
   go_ret
   exact⟨by rw [HD.out];rfl,rfl⟩
 · have HD:=zH (show x / 1000=q by omega)
   obtain⟨q0,q1⟩:=hq0
   have HQ:=hq.symm;have HR:=hr.symm
   clear hb hqr hq hr
   go_enter Tryz.func94,Tryz.ntmps94
   go_wp2_with fail
   go_ret
   exact⟨by rw [HD.out];rfl,rfl⟩
theorem eqb_of (a b:Int):(a==b)=decide (a=b):=rfl
theorem vv2 (k:Int) (w:World):Calls Tryz.prog 38 #[.int .i64 k] w fun e w'=>e=.returned (.bool (decide (1<=k/\k<=7)))/\w=w':=by
 obtain⟨p,hp⟩:∃ p,p=decide (1<=k/\k<=5):=⟨_,rfl⟩
 have HN:=zH (zzg k)
 rw [<-hp] at HN
 have HP:=zH hp
 clear hp
 cases p with
 | true =>
   have hk:1<=k/\k<=5:=by have:=HP.out;simpa using this.symm
   rw [decide_eq_true (show 1<=k/\k<=7 by omega)]
   clear hk
   go_enter Tryz.func38,Tryz.ntmps38
   go_wp2_with (first
    | (go_at_call 44;refine (HN.out _).mono ?_;rintro e w1 ⟨rfl,rfl⟩)
    | fail)
   go_ret
   exact⟨rfl,rfl⟩
 | false =>
   have hk:¬ (1<=k/\k<=5):=by have:=HP.out;simpa using this.symm
   have HD:=zH (show decide (1<=k/\k<=7)=((k==6) || (k==7)) by
    rw [eqb_of,eqb_of,<-Bool.decide_or];exact decide_eq_decide.2 (by omega))
   obtain⟨rr,hrr⟩:∃ rr,rr=decide (1<=k/\k<=7):=⟨_,rfl⟩
   rw [<-hrr] at HD ⊢
   clear hk hrr
   go_enter Tryz.func38,Tryz.ntmps38
   go_wp2_with (first
    | (go_at_call 44;refine (HN.out _).mono ?_;rintro e w1 ⟨rfl,rfl⟩)
    | fail)
   all_goals go_ret
   all_goals exact⟨by rw [HD.out];simp [*],rfl⟩
end
end Go.Proofs.YtpmglcachffojaaGreatDoor
