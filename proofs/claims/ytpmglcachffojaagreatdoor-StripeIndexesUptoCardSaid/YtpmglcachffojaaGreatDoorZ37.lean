/- A part of what Indexes leans on. -/
import Derived.Test.YtpmglcachffojaaGreatDoorZ35
set_option maxRecDepth 100000
set_option maxHeartbeats 16000000
namespace Go.Proofs.YtpmglcachffojaaGreatDoor
section
open Go Go.RowKit
section
variable {w0 w w':World} {gs:Nat} {c:Int} {hn:Bool} {mn mx:VV} {v:VV}
end
end
section
open Go Go.RowKit
attribute [local go_sem ↓] Go.wp_at_zero Go.wp_at_succ
abbrev shp (b:List UInt8):Option (List Fld):=shq [false,false,true] b
def vOf (f1 f2 f3:Fld):VV:=⟨decide (f1.n=1),zagI f2.n,⟨f3.b.toArray⟩⟩
theorem len3 {L:List Fld} (h:L.length=3):∃ a b c,L=[a,b,c]:=by
 match L,h with
 | [a,b,c],_=>exact⟨a,b,c,rfl⟩
theorem uug {s:List Bool} {l:List UInt8} {L:List Fld} (h:shq s l=some L):zzo l=some L/\zzE 0 L s=true/\L.length=s.length:=by
 unfold shq at h
 cases hw:zzo l with
 | none=>rw [hw] at h;cases h
 | some M =>
   rw [hw] at h
   simp only [Option.bind_some] at h
   split at h
   · rename_i hs
     injection h with h;subst h
     refine⟨rfl,hs,?_⟩
     by_cases hl:M.length=s.length
     · exact hl
     · rw [vvt 0 M s hl] at hs;cases hs
   · cases h
theorem kqb {s:List Bool} {l:List UInt8} {L:List Fld} (h:shq s l=some L):∀ f∈L,f.b.length<=l.length/\f.ok:=fun f hf=>by
 obtain⟨h1,_,_⟩:=uug h
 have h2:=yy1 _ l _ zN h1
 have h3:=uu8 L f hf
 exact⟨by omega,(vvN h1).2 f hf⟩
theorem shp_len {l:List UInt8} {L:List Fld} (h:shp l=some L):L.length=3:=(uug h).2.2
theorem shp_b3 {l:List UInt8} {a b c:Fld} (hl:l.length<=4294967296) (h:shp l=some [a,b,c]):c.b.length<=4294967296:=by
 have:=(kqb h c (by simp)).1;omega
theorem xxG (l:List UInt8):zzr l=(shp l).bind fun L=>match L with | [f1,f2,f3]=>if f1.n<=1 then some (vOf f1 f2 f3) else none | _=>none:=by
 rw [xx5]
 unfold shp shq
 cases h:zzo l with
 | none=>rfl
 | some L =>
   simp only [Option.bind_some]
   have h3:=qzh L
   cases hs:xxw L with
   | none =>
     rw [hs] at h3
     rw [<-h3]
     rfl
   | some p =>
     rw [hs] at h3
     obtain⟨e,_⟩:=vvO hs
     rw [<-h3]
     rw [e]
     rfl
theorem zzt {l:List UInt8} (h:zzr l=none):yyn l=(true,VV.zero):=by simp [yyn,h]
theorem zzF {l:List UInt8} {v:VV} (h:zzr l=some v):yyn l=(false,v):=by simp [yyn,h]
def TvPost (l:List UInt8) (w:World) (e:Ending) (w':World):Prop :=
 e=.returned (.tuple #[.agg #[.bool (yyn l).2.null,.int .i64 (yyn l).2.n,.string (yyn l).2.s],.int .i64 (okc (zzr l).isSome 2)])/\Below w.heap.size w w'/\(yyn l).2.ok/\(yyn l).2.s.size<=4294967296
theorem uuh (F:Nat->Prop) (A:Option Addr) (n c:Nat) (l:List UInt8) (w:World) (h:Bs F w A n c l) (hn:n<=4294967296) :
 Calls Tryz.prog 186 #[.slice A n c] w (TvPost l w):=by
 have HL:=zH h.len
 go_enter Tryz.func186,Tryz.ntmps186
 go_wp2_with (go_at_call 185;refine (kqI [false,false,true] _ rfl (by decide) F A n c l _ (h.alloc _) hn).mono ?_)
 rintro e w1 ⟨A1,n1,c1,rfl,hb1,hs1⟩
 have hbk:w1.heap[w.heap.size]?=some (.cells #[.bool false,.int .i64 0,.string ⟨#[]⟩] 74 (0,0)):=(hb1.block _ (by simp)).trans (heap_alloc_new w _)
 have hlt:w.heap.size<w1.heap.size:=by
  rcases Nat.lt_or_ge w.heap.size w1.heap.size with h' | h'
  · exact h'
  · rw [Array.getElem?_eq_none h'] at hbk;cases hbk
 have q0:w1.cell? ⟨w.heap.size,0,none⟩=some (.bool false):=by rw [zC hbk];rfl
 have q1:w1.cell? ⟨w.heap.size,1,none⟩=some (.int .i64 0):=by rw [zC hbk];rfl
 have q2:w1.cell? ⟨w.heap.size,2,none⟩=some (.string ⟨#[]⟩):=by rw [zC hbk];rfl
 have f0:=zF hbk 0
 have f1:=zF hbk 1
 have f2:=zF hbk 2
 have HB1:Hid (Below w.heap.size w w1):=zH (((Below.refl _ w).alloc zN _).trans (hb1.mono (by simp)))
 have HBK:=zH hbk
 have hs1:Sl tFld (fun b=>w.heap.size<b) w1 A1 n1 c1 ((shp l).getD []):=hs1.weaken fun b hb _=>by simp at hb;omega
 clear hbk hb1
 obtain⟨ok,hok⟩:∃ ok,ok=(shp l).isSome:=⟨_,rfl⟩
 rw [<-hok]
 cases hT:shp l with
 | none =>
   obtain rfl:ok=false:=by rw [hok,hT];rfl
   have HN:=zH (show zzr l=none by rw [xxG,hT];rfl)
   clear hs1 hT hok
   go_wp2_with fail
   refine bodyPost_ret (zzD rfl _ _ w.heap.size 74 #[.bool false,.int .i64 0,.string ⟨#[]⟩] (0,0) _ rfl (by have hk:=HBK.out;(repeat (first | with_reducible exact hk | with_reducible apply yyh | with_reducible apply zza));all_goals rfl) Tryz.underlying74 rfl (by kernel_rfl)) rfl
    ⟨by rw [zzt HN.out,HN.out];rfl,?_,by rw [zzt HN.out];exact⟨by decide,by decide,by decide⟩,by rw [zzt HN.out];decide⟩
   have hb:=HB1.out
   repeat (first | with_reducible exact hb | with_reducible refine uud ?_ | with_reducible refine zzi ?_ zN _)
 | some L =>
   obtain rfl:ok=true:=by rw [hok,hT];rfl
   rw [hT] at hs1
   have hS:Sl tFld (fun b=>w.heap.size<b) w1 A1 n1 c1 L:=hs1
   clear hs1
   obtain⟨g1,g2,g3,rfl⟩:=len3 (shp_len hT)
   have hn1:n1=3:=hS.len
   subst hn1
   obtain⟨b,o,cs1,rfl,hb,hbl,hr1,hc1⟩:=hS.at_ (k:=0) (by simp) (by decide)
   obtain⟨b',o',cs2,e2,_,_,hr2,hc2⟩:=hS.at_ (k:=1) (by simp) (by decide)
   injection e2 with e2;injection e2 with e2 e2';subst e2 e2'
   obtain⟨b',o',cs3,e3,_,_,hr3,hc3⟩:=hS.at_ (k:=2) (by simp) (by decide)
   injection e3 with e3;injection e3 with e3 e3';subst e3 e3'
   obtain⟨A2,n2,c2,rfl,_,hx1,_⟩:=hr1
   obtain⟨A3,n3,c3,rfl,_,hx2,_⟩:=hr2
   obtain⟨A4,n4,c4,rfl,_,_,hs4⟩:=hr3
   simp only [List.getElem_cons_zero,List.getElem_cons_succ] at hc1 hc2 hc3 hx1 hx2 hs4
   have k1:=(xxN hc1).2.2.1
   have k2:=(xxN hc2).2.2.1
   have k3:=(xxN hc3).2.2.2
   simp only [Nat.zero_mul,Nat.add_zero,Nat.reduceMul] at k1 k2 k3
   clear hc1 hc2 hc3
   have hT2:=xxG l
   rw [hT] at hT2
   simp only [Option.bind_some] at hT2
   have HS4:=zH hs4
   have hsz4:g3.b.length<=4294967296:=shp_b3 (by have:=HL.out;omega) hT
   by_cases hle:g1.n<=1
   · rw [if_pos hle] at hT2
     have HT2:=zH hT2
     have hle':¬ (1:Int)<(g1.n:Int):=by omega
     have hz:=kqO g2.n hx2
     clear hT hT2 hok hS hs4
     have hne:w.heap.size≠b:=by omega
     go_wp2_with fail
     go_region_held3 (fun w'=>w'.cell? ⟨b,o+2,none⟩=some (.int .u64 (g1.n:Int))/\w'.cell? ⟨b,o+4+2,none⟩=some (.int .u64 (g2.n:Int))/\w'.cell? ⟨b,o+8+3,none⟩=some (.slice A4 n4 c4)/\(convert 41 9 (.slice A4 n4 c4)).run Tryz.prog w'=.ok (.string ⟨g3.b.toArray⟩) w')
      (first
        | exact⟨k1,k2,k3,zzq HS4.out.drew⟩
        | assumption
        | (refine⟨?_,?_,?_,?_⟩;rotate_left 3;(· have hs:=HS4.out;refine zzq (F:=fun b=>w.heap.size<b) ?_;repeat (first | with_reducible exact hs | with_reducible refine Sl.drew ?_ | with_reducible refine jjW ?_ (Nat.lt_irrefl _) _));all_goals (simp [World.cell?_setCell_far,hne];assumption)))
      (first
        | (go_at_call 187;refine (zag_any g2.n _ hx2).mono ?_;rintro e w' ⟨rfl,rfl⟩))
     go_wp2_with fail
     have hb1:((g1.n:Int)==1)=decide (g1.n=1):=by
      by_cases h1:g1.n=1
      · simp [h1]
      · simp [h1];omega
     refine bodyPost_ret (zzD rfl _ _ w.heap.size 74 #[.bool ((g1.n:Int)==1),.int .i64 (zagI g2.n),.string ⟨g3.b.toArray⟩] (0,0) _ rfl (by have hk:=HBK.out;(repeat (first | with_reducible exact hk | with_reducible apply yyh | with_reducible apply zza));all_goals rfl) Tryz.underlying74 rfl (by kernel_rfl)) rfl
      ⟨by rw [zzF HT2.out,HT2.out,hb1];rfl,?_,by rw [zzF HT2.out];exact⟨hz.1,hz.2,by show g3.b.toArray.size<=maxLen;simp only [List.size_toArray,maxLen];omega⟩,by rw [zzF HT2.out];show g3.b.toArray.size<=_;simp only [List.size_toArray];exact hsz4⟩
     have hb:=HB1.out
     repeat (first | with_reducible exact hb | with_reducible refine uud ?_ | with_reducible refine zzi ?_ zN _)
   · rw [if_neg hle] at hT2
     have HN:=zH hT2
     have hle':(1:Int)<(g1.n:Int):=by omega
     clear hT hT2 hok hS hs4
     go_wp2_with fail
     refine bodyPost_ret (zzD rfl _ _ w.heap.size 74 #[.bool false,.int .i64 0,.string ⟨#[]⟩] (0,0) _ rfl (by have hk:=HBK.out;(repeat (first | with_reducible exact hk | with_reducible apply yyh | with_reducible apply zza));all_goals rfl) Tryz.underlying74 rfl (by kernel_rfl)) rfl
      ⟨by rw [zzt HN.out,HN.out];rfl,?_,by rw [zzt HN.out];exact⟨by decide,by decide,by decide⟩,by rw [zzt HN.out];decide⟩
     have hb:=HB1.out
     repeat (first | with_reducible exact hb | with_reducible refine uud ?_ | with_reducible refine zzi ?_ zN _)
end
end Go.Proofs.YtpmglcachffojaaGreatDoor
