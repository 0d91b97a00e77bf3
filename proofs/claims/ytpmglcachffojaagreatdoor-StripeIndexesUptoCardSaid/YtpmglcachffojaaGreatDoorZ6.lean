/- A part of what Indexes leans on. -/
import Derived.Test.YtpmglcachffojaaGreatDoorZ3
import Derived.Test.YtpmglcachffojaaGreatDoorZ4
import Derived.Lib.SliceRun
import Derived.Laws.EntriesVeiled
set_option maxRecDepth 100000
set_option maxHeartbeats 16000000
namespace Go.Proofs.YtpmglcachffojaaGreatDoor
section
open Go Go.RowKit
theorem xxr {w:World} {B:Nat} {A:Option Addr} {n c m:Nat} {L:List UInt8} {x:Nat} (h:OwnB w B A n c (L++vput x)) (hm:m=L.length):n<=m+10:=by
 have h1:=h.len
 have h2:=yyJ x
 simp at h1;omega
def qzY (tag:Int) (bytes:Bool) (n:Nat) (A:Option Addr) (k c:Nat) (w:World) (e:Ending) (w':World):Prop :=
 e=.returned (.agg #[.int .i64 tag,.bool bytes,.int .u64 (n:Int),.slice A k c])/\Below w.heap.size w w'
theorem jjI (tag:Int) (is:Bool) (w:World) :
 Calls Tryz.prog 118 #[.int .i64 tag,.bool is] w (qzY tag false (b2n is) none 0 0 w):=by
 cases is
 all_goals
  go_enter Tryz.func118,Tryz.ntmps118
  go_wp2
  exact bodyPost_ret (v:=.agg #[_,_,_,_]) (by simp [results,Tryz.results118,go_sem,b2n]) rfl ⟨rfl,((Below.refl _ w).alloc zN _).alloc (by simp) _⟩
theorem qxL (tag x:Int) (w:World) (h0 : -9223372036854775808<=x) (h1:x<=9223372036854775807) :
 Calls Tryz.prog 121 #[.int .i64 tag,.int .i64 x] w (qzY tag false (zigN x) none 0 0 w):=by
 go_enter Tryz.func121,Tryz.ntmps121
 go_wp2_with (go_at_call 179;refine (kqS x _ h0 h1).mono ?_;rintro e w' ⟨rfl,rfl⟩)
 exact bodyPost_ret (v:=.agg #[_,_,_,_]) (by simp [results,Tryz.results121,go_sem]) rfl ⟨rfl,(Below.refl _ w).alloc zN _⟩
theorem qzb (tag:Int) (A:Option Addr) (n c:Nat) (w:World) :
 Calls Tryz.prog 119 #[.int .i64 tag,.slice A n c] w (qzY tag true 0 A n c w):=by
 go_enter Tryz.func119,Tryz.ntmps119
 go_wp2
 exact bodyPost_ret (v:=.agg #[_,_,_,_]) (by simp [results,Tryz.results119,go_sem]) rfl ⟨rfl,(Below.refl _ w).alloc zN _⟩
def PutPost (l:List Fld) (w:World) (e:Ending) (w':World):Prop :=
 ∃ A n c,e=.returned (.tuple #[.slice A n c,.int .i64 (okc (wput l).isSome 1)])/\OwnB w' w.heap.size A n c (dput l)/\Below w.heap.size w w'
theorem qxM (F:Nat->Prop) (A:Option Addr) (n c:Nat) (l:List Fld) (w:World) (h:Sl tFld F w A n c l) (hlen:n<=4294967296) (hl:wlen l<=4294967200) :
 Calls Tryz.prog 122 #[.slice A n c] w (PutPost l w):=by
 have HL:=zH h.len
 go_enter Tryz.func122,Tryz.ntmps122
 go_wp2
 go_loopw [4,10] (fun v i wr=>∃ (k:Nat) (L:List UInt8) (A2:Option Addr) (m c2:Nat),k<=n/\i=.int .i64 k/\v=.slice A2 m c2/\OwnB wr w.heap.size A2 m c2 L/\wput (l.take k)=some L/\Below w.heap.size w wr)
  (fun _ i _=>n - (intOf i).toNat)
 case atStart=>exact⟨0,[],none,0,0,Nat.zero_le _,rfl,rfl,OwnB.nil_ _ _,by simp [wput],zR⟩
 case round =>
  obtain⟨k,L,A2,m,c2,hk,rfl,rfl,hown,hL,hb⟩:=hrel
  by_cases hlt:k<n
  · have hkl:k<l.length:=by rw [<-HL.out];exact hlt
    have HO:=zH hown;have HW:=zH hL
    clear hown hL
    obtain⟨b,o,cs,rfl,_,hbl,hrep,hc⟩:=(h.below hb zN).at_ hkl (by decide)
    obtain⟨A3,n3,c3,rfl,ht,hn3,hs3⟩:=hrep
    obtain⟨f,hf⟩:∃ f,f=l[k]:=⟨_,rfl⟩
    rw [<-hf] at hc ht hn3 hs3
    have HF:=zH hf;clear hf
    obtain⟨g0,g1,g2,g3⟩:=xxN hc
    clear hc
    obtain⟨ht0,ht1⟩:=ht
    by_cases htag:1<=f.tag/\f.tag<=100
    · obtain⟨tag,isb,fn,fb⟩:=f
      dsimp only at *
      obtain⟨t,rfl⟩:=Int.eq_ofNat_of_zero_le (show 0<=tag by omega)
      have htl:(t:Int)<=100:=htag.2
      have htg:(1:Int)<=(t:Int):=htag.1
      clear htag
      have hwl:=jjf l k hkl
      rw [<-HF.out] at hwl
      dsimp only at hwl
      have hLl:L.length<=wlen (l.take k):=kqQ _ _ HW.out
      have hml:=HO.out.len
      have h3l:=hs3.len
      have hb1:m+n3+20<=4294967200:=by omega
      have HM:=zH hml;have H3L:=zH h3l
      clear hml h3l hLl hwl
      have hsz:=hb.size
      have HN3:=zH (yyu n3 (by omega))
      have hfin:∀ (w':World) (A':Option Addr) (m' c':Nat) (x:List UInt8),x=fld ⟨(t:Int),isb,fn,fb⟩->OwnB w' w.heap.size A' m' c' (L++x)->Below w.heap.size w w' ->
       ∃ (k':Nat) (L':List UInt8) (A'':Option Addr) (m'' c'':Nat),k'<=n/\Value.int .i64 ((k:Int)+1)=.int .i64 k'/\Value.slice A' m' c'=.slice A'' m'' c''/\OwnB w' w.heap.size A'' m'' c'' L'/\wput (l.take k')=some L'/\Below w.heap.size w w':=by
       intro w' A' m' c' x hx ho hbl'
       refine⟨k+1,L++x,A',m',c',by omega,by go_num,rfl,ho,?_,hbl'⟩
       rw [zT hkl,<-HF.out,hx]
       exact jjg _ _ _ HW.out (by simp [jj7];omega)
      have HFIN:=zH hfin
      clear hfin
      cases isb
      · have HS1:=zH ((HO.out.bs.any.alloc (.cells #[.int .i64 (t:Int),.bool false,.int .u64 (fn:Int),.slice A3 n3 c3] 114)).drew)
        have HB0:=zH ((hb.alloc hsz (.cells #[.int .i64 (t:Int),.bool false,.int .u64 (fn:Int),.slice A3 n3 c3] 114)).drew)
        go_wp2_with fail
        go_region_held3 (fun w'=>w'.cell? ⟨wr.heap.size,2,none⟩=some (.int .u64 (fn:Int)))
         (first | go_keep | (exact (hb1.cell (p:=⟨wr.heap.size,2,none⟩) (by simp)).trans (by simp)) | (exact (hb2.cell (p:=⟨wr.heap.size,2,none⟩) (by have:=hb1.size;simp at this;show wr.heap.size<_;omega)).trans (by assumption)))
         (first
           | (go_at_call_of 180 (Value.slice A2 m c2);refine (uuU (fun _=>True) A2 m c2 L _ _ HS1.out (by omega) (by omega) (by omega)).mono ?_;rintro e w1 ⟨A4,n4,c4,rfl,hown1,hb1⟩;have hn4:n4<=m+10:=xxr hown1 HM.out)
           | (go_at_call 180;refine (uuU (fun _=>True) A4 n4 c4 _ _ _ hown1.bs.any (by omega) (by omega) (by omega)).mono ?_;rintro e w2 ⟨A5,n5,c5,rfl,hown2,hb2⟩))
        have hs1:=hb1.size
        simp only [World.size_drew,zS] at hs1
        have HO5:=zH (hown2.down (B':=w.heap.size) (by omega))
        have HB5:=zH ((HB0.out.trans (hb1.mono (by simp;omega))).trans (hb2.mono (by omega)))
        clear hown1 hown2 hb1 hb2 HS1 HB0
        go_wp2
        go_roundw
        case rel =>
         have ho:=HO5.out
         rw [List.append_assoc,show ((t:Int)*8).toNat=8*t by omega,yyd] at ho
         exact HFIN.out _ _ _ _ _ (by simp [fld]) ho HB5.out
        case measure=>simp [intOf];omega
      · have H2:=zH (u64_or2 t (by omega))
        have HS1:=zH ((HO.out.bs.any.alloc (.cells #[.int .i64 (t:Int),.bool true,.int .u64 (fn:Int),.slice A3 n3 c3] 114)).drew)
        have HB0:=zH ((hb.alloc hsz (.cells #[.int .i64 (t:Int),.bool true,.int .u64 (fn:Int),.slice A3 n3 c3] 114)).drew)
        go_wp2_with fail
        go_region_held3 (fun w'=>w'.cell? ⟨wr.heap.size,3,none⟩=some (.slice A3 n3 c3))
         (first | go_keep | (exact (hb1.cell (p:=⟨wr.heap.size,3,none⟩) (by simp)).trans (by simp)) | (exact (hb2.cell (p:=⟨wr.heap.size,3,none⟩) (by have:=hb1.size;simp at this;show wr.heap.size<_;omega)).trans (by assumption)))
         (first
           | (go_at_call_of 180 (Value.slice A2 m c2);refine (uuU (fun _=>True) A2 m c2 L _ _ HS1.out (by omega) (by rw [H2.out];omega) (by rw [H2.out];omega)).mono ?_;rintro e w1 ⟨A4,n4,c4,rfl,hown1,hb1⟩;have hn4:n4<=m+10:=xxr hown1 HM.out)
           | (go_at_call 180;refine (uuU (fun _=>True) A4 n4 c4 _ _ _ hown1.bs.any (by omega) (by rw [HN3.out];omega) (by rw [HN3.out];omega)).mono ?_;rintro e w2 ⟨A5,n5,c5,rfl,hown2,hb2⟩))
        have hs1:=hb1.size
        simp only [World.size_drew,zS] at hs1
        have hn5:n5<=n4+10:=xxr hown2 hown1.len
        have HO5:=zH (hown2.down (B':=w.heap.size) (by omega))
        have HB5:=zH ((HB0.out.trans (hb1.mono (by simp;omega))).trans (hb2.mono (by omega)))
        have HS5:=zH (((hs3.keep (w':=w2) (by have:=hb2.size;omega) (fun b' _ hl=>((hb2.block b' (by omega)).trans (hb1.block b' (by simp;omega))).trans (Below.heap_alloc _ _ _ hl)))))
        clear hown1 hown2 hb1 hb2 HS1 HB0
        go_wp2_with (at_builtin;refine apb w2 w rfl (.tmp 37) (.tmp 39) rfl w.heap.size A5 n5 c5 _ rfl HO5.out HB5.out zN F A3 n3 c3 fb rfl HS5.out (by omega) ?_;intro A6 c6 w6 h6 hb6 _)
        go_roundw
        case rel =>
         have ho:=h6
         rw [List.append_assoc,List.append_assoc,H2.out,HN3.out,yyd,yyd] at ho
         exact HFIN.out _ _ _ _ _ (by simp [fld,H3L.out]) ho hb6
        case measure=>simp [intOf];omega
    · have hbad:wput l=none:=kqP l k hkl (by rw [<-HF.out];simp [jj7];omega)
      have HBAD:=zH hbad;clear hbad
      have HB0:=zH (hb.alloc hb.size (.cells #[.int .i64 f.tag,.bool f.bytes,.int .u64 (f.n:Int),.slice A3 n3 c3] 114))
      have hnot:f.tag<1∨100<f.tag:=by omega
      clear htag
      rcases hnot with hnot | hnot
      · go_wp2
        go_ret2
        refine⟨none,0,0,by rw [HBAD.out];rfl,?_,HB0.out⟩
        rw [show dput l=[] by simp [dput,HBAD.out]]
        exact OwnB.nil_ _ _
      · have hnot2:1<=f.tag:=by omega
        go_wp2
        go_ret2
        refine⟨none,0,0,by rw [HBAD.out];rfl,?_,HB0.out⟩
        rw [show dput l=[] by simp [dput,HBAD.out]]
        exact OwnB.nil_ _ _
  · obtain rfl:k=n:=by omega
    have hfull:wput l=some L:=by rw [<-hL,zL (by rw [<-HL.out];exact Nat.le_refl _)]
    have HFU:=zH hfull;clear hfull hL
    go_wp2
    go_ret2
    refine⟨A2,m,c2,by rw [HFU.out];rfl,?_,hb⟩
    rw [show dput l=L by simp [dput,HFU.out]]
    exact hown
end
section
open Go Go.RowKit
attribute [local go_sem ↓] Go.wp_at_zero Go.wp_at_succ
theorem jjJ (b:Bool):b2n b<18446744073709551616:=by cases b <;> decide
theorem vv4 (v:VV) (hs:v.s.size<=4294967000):wlen (zzQ v)<=4294967200:=by
 have e:v.s.data.toList.length=v.s.size:=Array.length_toList
 simp only [zzQ,wlen,fnum,ftxt,e,List.length_nil]
 omega
theorem qzZ (F:Nat->Prop) (A:Option Addr) (n c:Nat) (l:List Fld) (w:World) (h:Sl tFld F w A n c l) (hlen:n<=4294967296) (hl:wlen l<=4294967200) :
 Calls Tryz.prog 116 #[.slice A n c] w (Own1 w (dput l)):=by
 go_enter Tryz.func116,Tryz.ntmps116
 go_wp2_with (go_at_call 122;refine (qxM F A n c l _ h hlen hl).mono ?_;rintro e w1 ⟨A1,n1,c1,rfl,hown,hb⟩)
 go_ret
 exact⟨A1,n1,c1,rfl,hown,hb⟩
theorem uuF (v:VV) (hv:v.ok) (hs:v.s.size<=4294967000) (w:World) :
 Calls Tryz.prog 120 #[.agg #[.bool v.null,.int .i64 v.n,.string v.s]] w (Own1 w (zzZ v)):=by
 obtain⟨h0,h1,h2⟩:=hv
 have hsb:=fun w=>qxp w v.s
 have HW:=zH (show wlen (zzQ v)<=4294967200 from vv4 v hs)
 have HZ:=zH (jje v.n h0 h1)
 go_enter Tryz.func120,Tryz.ntmps120
 go_wp2_with fail
 refine regL [(some 2,fun w'=>w'.cell? ⟨w.heap.size,0,none⟩=some (.bool v.null)),(some 5,fun w'=>w'.cell? ⟨w.heap.size,1,none⟩=some (.int .i64 v.n)),(some 8,fun w'=>w'.cell? ⟨w.heap.size,2,none⟩=some (.string v.s))] (by kernel_rfl) ?_ (fun hHeld=>?_)
 · exact⟨fun h=>(by first | exact gone (c:=2) (by decide +kernel) h | (dsimp only;(go_keep;done)) | fail),fun h=>(by first | exact gone (c:=5) (by decide +kernel) h | (dsimp only;(go_keep;done)) | fail),fun h=>(by first | exact gone (c:=8) (by decide +kernel) h | (dsimp only;(go_keep;done)) | fail),trivial⟩
 iterate 6
  all_goals
   repeat ((first | (refine tkP 0 (oi:=⟨_,_,_,_,_,_⟩) (v:=?_) rfl (by decide +kernel) rfl (fun _ _ _ h=>h) rfl hHeld ?_ ?_) | (refine tkL 1 0 rfl (oi:=⟨_,_,_,_,_,_⟩) (v:=?_) rfl (by decide +kernel) rfl (fun _ _ _ h=>h) rfl hHeld ?_ ?_) | (refine tkP 3 (oi:=⟨_,_,_,_,_,_⟩) (v:=?_) rfl (by decide +kernel) rfl (fun _ _ _ h=>h) rfl hHeld ?_ ?_) | (refine tkL 4 1 rfl (oi:=⟨_,_,_,_,_,_⟩) (v:=?_) rfl (by decide +kernel) rfl (fun _ _ _ h=>h) rfl hHeld ?_ ?_) | (refine tkP 6 (oi:=⟨_,_,_,_,_,_⟩) (v:=?_) rfl (by decide +kernel) rfl (fun _ _ _ h=>h) rfl hHeld ?_ ?_) | (refine tkL 7 2 rfl (oi:=⟨_,_,_,_,_,_⟩) (v:=?_) rfl (by decide +kernel) rfl (fun _ _ _ h=>h) rfl hHeld ?_ ?_) | (refine tkP 12 (oi:=⟨_,_,_,_,_,_⟩) (v:=?_) rfl (by decide +kernel) rfl (fun _ _ _ h=>h) rfl hHeld ?_ ?_));rotate_left;(focus (intro w;(try intro hSw);(try dsimp only at hSw);go_simp;try with_reducible rfl));intro hHeld;(try simp only [Act.put]);(try simp only [List.setIfInBounds_toArray]);(try simp only [List.set_cons_succ]);(try simp only [List.set_cons_zero]))
   first | (refine rd1 2 (o:=⟨_,_,_,_,_,_⟩) (by decide +kernel) rfl (fun K hK=>?_)) | (refine rd2 2 8 (o:=⟨_,_,_,_,_,_⟩) (o':=⟨_,_,_,_,_,_⟩) (by decide +kernel) rfl rfl (fun K hK=>?_) (fun K hK=>?_)) | (refine rd1 5 (o:=⟨_,_,_,_,_,_⟩) (by decide +kernel) rfl (fun K hK=>?_)) | (refine rd2 5 8 (o:=⟨_,_,_,_,_,_⟩) (o':=⟨_,_,_,_,_,_⟩) (by decide +kernel) rfl rfl (fun K hK=>?_) (fun K hK=>?_)) | (refine rd1 8 (o:=⟨_,_,_,_,_,_⟩) (by decide +kernel) rfl (fun K hK=>?_)) | (refine rd1 9 (o:=⟨_,_,_,_,_,_⟩) (by decide +kernel) rfl (fun K hK=>?_)) | (refine rd1 10 (o:=⟨_,_,_,_,_,_⟩) (by decide +kernel) rfl (fun K hK=>?_)) | (refine rd1 11 (o:=⟨_,_,_,_,_,_⟩) (by decide +kernel) rfl (fun K hK=>?_))
  all_goals
   first  | (go_simp;(first | (go_at_call 118;refine (jjI _ _ _).mono ?_;rintro e w1 ⟨rfl,hb1⟩) | (go_at_call 121;refine (qxL _ _ _ h0 h1).mono ?_;rintro e w2 ⟨rfl,hb2⟩) | (go_at_call 119;refine (qzb _ _ _ _ _).mono ?_;rintro e w3 ⟨rfl,hb3⟩) | (go_at_call 116;refine (qzZ (fun _=>True) _ 3 3 (zzQ v) _ (by refine Sl.new3 (uuS (by unfold i64;omega) (jjJ _)) (uuS (by unfold i64;omega) HZ.out) (vvc (by unfold i64;omega) ?_) _ _ rfl;(repeat (first | assumption | exact Sl.nil_ _ _ _ | exact (kqR (by assumption)).any | (refine kqg (by assumption) ?_;simp;done) | refine Sl.below ?_ (by assumption) zN | refine Sl.alloc ?_ _ | refine Sl.drew ?_))) (by omega) HW.out).mono ?_;rintro e w4 ⟨A4,n4,c4,rfl,hown,hb4⟩))) | go_simp
   refine hK.out _ _ ?_ (fun hHeld=>?_)
   · (try dsimp only);exact⟨fun h=>(by first | exact gone (c:=2) (by decide +kernel) h | (dsimp only;have hh:=hHeld.get (k:=0) (c:=2) rfl (by decide +kernel);(try dsimp only at hh);first | with_reducible exact hh | with_reducible exact zze hh _ | exact zzh (by assumption) hh | exact zze hh _) | fail),fun h=>(by first | exact gone (c:=5) (by decide +kernel) h | (dsimp only;have hh:=hHeld.get (k:=1) (c:=5) rfl (by decide +kernel);(try dsimp only at hh);first | with_reducible exact hh | with_reducible exact zze hh _ | exact zzh (by assumption) hh | exact zze hh _) | fail),fun h=>(by first | exact gone (c:=8) (by decide +kernel) h | (dsimp only;have hh:=hHeld.get (k:=2) (c:=8) rfl (by decide +kernel);(try dsimp only at hh);first | with_reducible exact hh | with_reducible exact zze hh _ | exact zzh (by assumption) hh | exact zze hh _) | fail),trivial⟩
   clear hK K;(try simp only [Act.put]);(try simp only [List.setIfInBounds_toArray]);(try simp only [List.set_cons_succ]);(try simp only [List.set_cons_zero])
 all_goals
  repeat ((first | (refine tkP 12 (oi:=⟨_,_,_,_,_,_⟩) (v:=?_) rfl (by decide +kernel) rfl (fun _ _ _ h=>h) rfl hHeld ?_ ?_));rotate_left;(focus (intro w;(try intro hSw);(try dsimp only at hSw);go_simp;try with_reducible rfl));intro hHeld;(try simp only [Act.put]);(try simp only [List.setIfInBounds_toArray]);(try simp only [List.set_cons_succ]);(try simp only [List.set_cons_zero]))
  refine xxI (by decide +kernel) ?_ _
  go_wp2
  go_ret
  exact⟨A4,n4,c4,rfl,hown.down (by have:=hb1.size;have:=hb2.size;have:=hb3.size;simp at *;omega),by (repeat (first | exact zR | assumption | refine jja ?_ (by assumption) | refine xxK ?_ _ | refine jjb ?_))⟩
end
section
open Go Go.RowKit
end
section
open Go Go.RowKit
end
end Go.Proofs.YtpmglcachffojaaGreatDoor
