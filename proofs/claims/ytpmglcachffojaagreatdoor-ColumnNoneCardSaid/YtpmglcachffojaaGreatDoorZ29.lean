/- A part of what None leans on. -/
import Derived.Test.YtpmglcachffojaaGreatDoorZ28
set_option maxRecDepth 100000
set_option maxHeartbeats 16000000
namespace Go.Proofs.YtpmglcachffojaaGreatDoor
section
open Go Go.RowKit
theorem kqf (l:List (List UInt8)):(yyQ l).Pairwise (fun a b=>a<=b):=by
 have tr:∀ a b c:List UInt8,decide (a<=b)=true->decide (b<=c)=true->decide (a<=c)=true:=fun a b c h1 h2=>by
  simp only [decide_eq_true_eq] at h1 h2 ⊢;exact List.le_trans h1 h2
 have tot:∀ a b:List UInt8,(decide (a<=b) || decide (b<=a))=true:=fun a b=>by simp only [Bool.or_eq_true,decide_eq_true_eq];exact List.le_total a b
 exact (List.pairwise_mergeSort tr tot l).imp fun {a b} h=>by simpa using h
theorem yyK (d:Array (List UInt8)) (hs:∀ i j,i<=j->j<d.size->d[i]! <= d[j]!):∀ m,m<=d.size->(Lib.compactUpTo d m).Pairwise (fun a b=>a<=b/\a≠b)
 | 0,_=>by simp [Lib.compactUpTo]
 | m+1,hm=>by
   have ih:=yyK d hs m (by omega)
   rw [Lib.compactUpTo_succ,List.pairwise_append]
   refine⟨ih,by split <;> simp,fun x hx y hy=>?_⟩
   split at hy
   · rename_i hk
     obtain rfl:=List.mem_singleton.1 hy
     obtain⟨i,hi,rfl⟩:=(yym d m (by omega) x).1 hx
     refine⟨hs i m (by omega) (by omega),fun e=>?_⟩
     have hk2:m=0∨d[m]! ≠ d[m - 1]! := by simpa [Lib.keeps] using hk
     rcases hk2 with h | h
     · omega
     · have h1:=hs i (m - 1) (by omega) (by omega)
       have h2:=hs (m - 1) m (by omega) (by omega)
       rw [e] at h1
       exact h (List.le_antisymm h1 h2)
   · cases hy
theorem kqg (l:List ByteArray):(zzy l).Pairwise (fun a b=>a<=b/\a≠b):=by
 unfold zzy Lib.compact
 refine yyK _ (fun i j hij hj=>?_) _ (by simp)
 have hj':j<(yyQ (zzf l)).length:=by simpa using hj
 have hi':i<(yyQ (zzf l)).length:=by omega
 have e1:(yyQ (zzf l)).toArray[i]! = (yyQ (zzf l))[i]:=by simp [getElem!_pos,hi']
 have e2:(yyQ (zzf l)).toArray[j]! = (yyQ (zzf l))[j]:=by simp [getElem!_pos,hj']
 rw [e1,e2]
 rcases Nat.eq_or_lt_of_le hij with h | h
 · subst h;exact List.le_refl _
 · exact List.pairwise_iff_getElem.1 (kqf _) i j hi' hj' h
theorem xx0 (l:List ByteArray):(zzy l).Nodup:=(kqg l).imp fun h=>h.2
def zzT (l:List ByteArray) (s:ByteArray):Nat:=(zzy l).idxOf s.data.toList
theorem xxu (l:List ByteArray) {s:ByteArray} (h:s∈l):zzT l s<(zzy l).length :=
 List.idxOf_lt_length_of_mem ((uun l _).2 (List.mem_map.2 ⟨s,h,rfl⟩))
theorem qzK (l:List ByteArray) {s:ByteArray} (h:s∈l):(zzy l).getD (zzT l s) []=s.data.toList:=by
 rw [xxc (xxu l h)]
 exact List.getElem_idxOf (xxu l h)
theorem xx1 (l:List ByteArray):(zzy l).length<=l.length:=by
 refine Nat.le_trans (xxZ _) ?_
 unfold yyQ zzf
 simp
end
section
open Go Go.RowKit Go.Maps
theorem jjB:∀ l:List ByteArray,(l.map fun s=>[Value.string s]).flatten=svs l
 | []=>rfl
 | x::r=>by
   have ih:=jjB r
   unfold svs at ih ⊢
   rw [List.map_cons,List.flatten_cons,ih]
   rfl
theorem xqs {w:World} {B:Nat} {A:Option Addr} {n c:Nat} {l:List ByteArray} (h:OwnS w B A n c l) (hs:∀ s∈l,s.size<=maxLen):OwnF tStr 9 (fun _=>False) w B A n c l:=by
 have e:=jjB l
 refine⟨⟨l.map fun s=>[Value.string s],by rw [e];exact h,by simp,fun i cs x h1 h2=>?_⟩,by simp,h.len⟩
 rw [List.getElem?_map,h2] at h1
 simp at h1
 subst h1
 exact⟨rfl,hs x (List.mem_of_getElem? h2)⟩
theorem xx2 {l:List ByteArray} (hs:∀ s∈l,s.size<=300):∀ s∈zzk l,s.size<=300:=by
 intro s h
 obtain⟨b,hb,rfl⟩:=List.mem_map.1 h
 obtain⟨t,ht,rfl⟩:=List.mem_map.1 ((uun l b).1 hb)
 exact hs t ht
theorem qzL (ws:List (List UInt8)) {k:Nat} (hk:k<ws.length) (hk2:k<(ws.map mkS).length):((ws.map mkS)[k]).data.toList=ws.getD k []:=by
 rw [List.getElem_map,xxc hk]
 simp [mkS]
theorem zqW (k:Nat) (h:k<=4096):(Lit.int .i64 (k:Int)).wf=true:=by
 have h1:IntKind.i64.min = -9223372036854775808:=by decide
 have h2:IntKind.i64.max=9223372036854775807:=by decide
 show (decide (IntKind.i64.min<=(k:Int))&&decide ((k:Int)<=IntKind.i64.max))=true
 rw [h1,h2]
 simp
 omega
theorem xxd (x:Int) (h:0<=x/\x<=4096) : -9223372036854775808<=x/\x<=9223372036854775807:=by omega
theorem law9:Keyed Tryz.prog 9:=string_keyed Tryz.underlying9
theorem zero3 (w:World):(zeroValue 3).run Tryz.prog w=.ok (.int .i64 0) w:=by kernel_rfl
def txC (l:List ByteArray):Int×Int×List (Int×List UInt8) :=
 if l.length<2*(zzy l).length then (1,0,[(2,zzu l),(3,xx8 l)])
 else (2,((zzy l).length:Int),[(2,rleB false (l.map fun s=>(zzT l s:Int))),(3,xx8 (zzk l)),(4,zzu (zzk l))])
def jjC (l:List ByteArray) (w:World) (e:Ending) (w':World):Prop :=
 ∃ A n c,e=.returned (.tuple #[.agg #[.int .i64 (l.length:Int),.int .i64 (txC l).1,.int .i64 (txC l).2.1,.slice A n c],.int .i64 0])/\Sl zzo (fun b=>w.heap.size<=b) w' A n c (txC l).2.2/\Below w.heap.size w w'
theorem zqX (F:Nat->Prop) (A:Option Addr) (n c:Nat) (l:List ByteArray) (w:World) (h:Sl tStr F w A n c l) (hn:n<=4096) (hs:∀ s∈l,s.size<=300) :
 Calls Tryz.prog 46 #[.slice A n c] w (jjC l w):=by
 have HL:=zH h.len;have H:=zH h;have HS:=zH hs
 have hn1:¬ (n:Int) > 4096:=by omega
 have hn2:¬ (4096:Int)<n:=by omega
 have hmm:=@run_makeMap Tryz.prog
 have HWL:=zH (xx1 l)
 obtain⟨m,hm⟩:∃ m,m=(zzy l).length:=⟨_,rfl⟩
 have HM:=zH hm
 obtain⟨wc,hwc⟩:∃ wc,wc=w.alloc (.cells #[.int .i64 0,.int .i64 0,.int .i64 0,.slice none 0 0] 27):=⟨_,rfl⟩
 have hbc:Below w.heap.size w wc:=by rw [hwc];exact (zR).alloc zN _
 have hgc:wc.heap[w.heap.size]?=some (.cells #[.int .i64 0,.int .i64 0,.int .i64 0,.slice none 0 0] 27 (0,0)):=by rw [hwc];exact heap_alloc_new w _
 have HWC:=zH hwc;have HBC:=zH hbc;have HGC:=zH hgc
 clear h hs hm hwc hbc hgc
 go_enter Tryz.func46,Tryz.ntmps46
 go_upto_region 1 with fail
 rw [<-HWC.out]
 go_wp2_with (first
  | (go_at_call 97;refine (zqR F A n c l _ (H.out.below HBC.out zN) HS.out (by omega)).mono ?_;rintro e w1 ⟨rfl,hb1⟩;have HB1:=zH hb1;have HW1:=zH (HBC.out.trans (hb1.mono HBC.out.size));clear hb1)
  | (go_at_call 99;refine (uul F A n c l _ (H.out.below (HW1.out.alloc HW1.out.size _) zN) hn).mono ?_;rintro e w3 ⟨A3,c3,rfl,ho3,hb3⟩;rw [<-HM.out] at ho3 ⊢;have HO3:=zH ho3;have HB3:=zH hb3;clear ho3 hb3)
  | fail)
 have hmap:w3.ownsMap Tryz.prog 9 (plainElem (H:=Unit) Tryz.prog 3) w1.heap.size 0 (.map []):=(World.ownsMap_made w1 _ _ _).kept (zzB (row:=none) HB3.out) (by simp)
 have HOF:=zH (xqs HO3.out (fun s hs=>Nat.le_trans (xx2 HS.out s hs) (by unfold maxLen;omega))).sl
 obtain⟨mb,hmb⟩:∃ mb,mb=w1.heap.size:=⟨_,rfl⟩
 have HMB:=zH hmb
 rw [<-hmb] at hmap
 rw [<-hmb]
 have HMAP:=zH hmap
 have hm4:m<=4096:=by have:=HWL.out;rw [<-HM.out,<-HL.out] at this;omega
 clear hmap hmb
 go_loopw [28] (fun iv wr=>∃ k:Nat,k<=m/\iv=.int .i64 (k:Int)/\wr.ownsMap Tryz.prog 9 (plainElem (H:=Unit) Tryz.prog 3) mb k (plD Unit (zzy l) k)/\w3.grownBy wr (some mb)) (fun iv _=>m - (intOf iv).toNat)
 case atStart=>exact⟨0,Nat.zero_le _,rfl,HMAP.out,zzB (zR)⟩
 case round =>
  obtain⟨k,hk,rfl,hown,hgr⟩:=hrel
  have HGR:=zH hgr
  by_cases hlt:k<m
  · have hkw:k<(zzy l).length:=by rw [<-HM.out];exact hlt
    have hkl:k<(zzk l).length:=by unfold zzk;rw [List.length_map];exact hkw
    obtain⟨b,o,u,rfl,_,hbl,hr,hc⟩:=(HOF.out.keep hgr.size (fun b hb hl=>hgr.block b hl (fun e=>by
     injection e with e
     rcases hb with hb | hb
     · exact hb
     · have:=hb.2;rw [zS] at this;have:=HMB.out;omega))).at1 hkl rfl
    obtain⟨s,hs⟩:∃ s,s=(zzk l)[k]:=⟨_,rfl⟩
    obtain⟨hr,hsz⟩:=hr
    injection hr with hr;subst hr
    rw [<-hs] at hc hsz
    have HSK:=zH (show (zzy l).getD k []=s.data.toList by rw [hs];exact (qzL (zzy l) hkw hkl).symm)
    have hkey:Go.keyOf Tryz.prog 9 (.string s)=some (.string s.data.toList):=WideMaps.keyOf_string_mk Tryz.underlying9 hsz
    have hwf:(Lit.int .i64 (k:Int)).wf=true:=zqW k (by omega)
    have hi0:(0:Int)<=(k:Int):=by omega
    have hi1:(k:Int)<(m:Int):=by omega
    clear hgr hs
    go_wp2_with (first
     | (at_mapUpdate;refine wpList_mapUpdate_own _ rfl _ _ _ 159 rfl 9 3 law9 Tryz.underlying159 _ mb k _ (by rfl) hown (by unfold maxLen;omega) _ _ _ (by rfl) (by rfl) hkey _ [] (plainElem_int Tryz.underlying3 hwf) ?_;intro w4 hown4 hgrow4)
     | fail)
    go_roundw
    case rel=>exact⟨k+1,by omega,by go_num,by rw [plD,HSK.out];exact hown4,xxY HGR.out hgrow4⟩
    case measure=>simp [intOf];omega
  · obtain rfl:k=m:=by omega
    have hsize:Maps.size (plD Unit (zzy l) k)=k:=jjz Unit _ (xx0 l) k (by rw [<-HM.out];exact Nat.le_refl _)
    have hml:=hown.len Tryz.underlying159
    rw [hsize] at hml
    have HOWN:=zH hown
    have hw2:Below w.heap.size w (w1.alloc (.map #[] 0)):=HW1.out.alloc HW1.out.size _
    have hmbl:w.heap.size<mb:=by have:=HB1.out.size;have:=zzc HGC.out;have:=HMB.out;omega
    have hbr:Below w.heap.size w wr:=(hw2.trans (HB3.out.mono hw2.size)).grown hgr (hw2.trans (HB3.out.mono hw2.size)).size (fun q e=>by injection e with e;omega)
    have hgw:wr.heap[w.heap.size]?=some (.cells #[.int .i64 0,.int .i64 0,.int .i64 0,.slice none 0 0] 27 (0,0)):=by
     have h1:=zzc HGC.out
     have h2:w.heap.size<w1.heap.size:=by have:=HB1.out.size;omega
     exact (hgr.block _ (by have:=HB3.out.size;rw [zS] at this;omega) (fun e=>by injection e with e;omega)).trans ((HB3.out.block _ (by rw [zS];omega)).trans ((Below.heap_alloc w1 _ _ h2).trans ((HB1.out.block _ h1).trans HGC.out)))
    have HBR:=zH hbr;have HGW:=zH hgw
    clear hgr hown hsize hw2 hbr hgw
    go_upto_if 42 with fail
    by_cases hlt2:n<2*k
    · have hI:(n:Int)<2*(k:Int):=by omega
      clear hml
      have hsb:=fun w=>qxf w (mkS (zzu l))
      go_wp2_with (first
       | (go_at_call 100;refine (jjA F A n c l _ (H.out.below HBR.out zN) hn HS.out).mono ?_;rintro e w5 ⟨rfl,hb5⟩;have HB5:=zH (HBR.out.trans (hb5.mono HBR.out.size));have HW5:=zH hb5;clear hb5)
       | (go_at_call 101;refine (jjy F A n c l _ (H.out.below ((HB5.out.alloc HB5.out.size _).drew) zN) hn).mono ?_;rintro e w6 ⟨A6,n6,c6,rfl,ho6,hb6⟩;have hg6:w6.heap[w.heap.size]?=some (.cells #[.int .i64 0,.int .i64 0,.int .i64 0,.slice none 0 0] 27 (0,0)):=(hb6.block _ (by have h1:=zzc HGW.out;have h2:=HW5.out.size;simp;omega)).trans ((Below.heap_alloc w5 _ _ (by have h1:=zzc HGW.out;have h2:=HW5.out.size;omega)).trans ((HW5.out.block _ (zzc HGW.out)).trans HGW.out));have hga:∀ o:Obj,(w6.alloc o).heap[w.heap.size]?=some (.cells #[.int .i64 0,.int .i64 0,.int .i64 0,.slice none 0 0] 27 (0,0)):=(fun o=>(Below.heap_alloc w6 o _ (zzc hg6)).trans hg6);have z0:∀ o:Obj,(w6.alloc o).cell? ⟨w.heap.size,0,none⟩=some (.int .i64 0):=(fun o=>by rw [zC (hga o)];rfl);have y0:∀ o:Obj,(w6.alloc o).frozen? ⟨w.heap.size,0,none⟩=false:=(fun o=>zF (hga o) 0);have z1:∀ o:Obj,(w6.alloc o).cell? ⟨w.heap.size,1,none⟩=some (.int .i64 0):=(fun o=>by rw [zC (hga o)];rfl);have y1:∀ o:Obj,(w6.alloc o).frozen? ⟨w.heap.size,1,none⟩=false:=(fun o=>zF (hga o) 1);have z2:∀ o:Obj,(w6.alloc o).cell? ⟨w.heap.size,2,none⟩=some (.int .i64 0):=(fun o=>by rw [zC (hga o)];rfl);have y2:∀ o:Obj,(w6.alloc o).frozen? ⟨w.heap.size,2,none⟩=false:=(fun o=>zF (hga o) 2);have z3:∀ o:Obj,(w6.alloc o).cell? ⟨w.heap.size,3,none⟩=some (.slice none 0 0):=(fun o=>by rw [zC (hga o)];rfl);have y3:∀ o:Obj,(w6.alloc o).frozen? ⟨w.heap.size,3,none⟩=false:=(fun o=>zF (hga o) 3);clear hga;have HG6:=zH hg6;have HO6:=zH ho6;have HB6:=zH hb6;clear ho6 hb6 hg6)
       | fail)
      have e1:txC l=(1,0,[(2,zzu l),(3,xx8 l)]):=if_pos (by rw [<-HL.out,<-HM.out];exact hlt2)
      have hb56:Below (w5.alloc (yyX w5 (mkS (zzu l)))).heap.size (w5.alloc (yyX w5 (mkS (zzu l)))) w6:=(zR).drew.trans HB6.out
      have h5:w.heap.size+1<=w5.heap.size:=by have:=zzc HGW.out;have:=HW5.out.size;omega
      have hjl:=yy1 l HS.out
      rw [<-HL.out] at hjl
      have s1:Sl tU8 (fun b=>w.heap.size+1<=b) w6 (some ⟨w5.heap.size,0,none⟩) (mkS (zzu l)).size (vvA w5 (mkS (zzu l))) (zzu l) :=
       ((xqa (w:=w5) (w0:=w5) (s:=mkS (zzu l)) (by show (zzu l).toArray.size<=_;simp [maxLen];omega)).weaken (F':=fun b=>w.heap.size+1<=b) (fun b hb _=>by omega)).below hb56 zN
      have s2:Sl tU8 (fun b=>w.heap.size+1<=b) w6 A6 n6 c6 (xx8 l):=HO6.out.own.sl.weaken fun b hb _=>by
       rcases hb with hb | hb
       · exact hb.elim
       · have h7:=hb.2
         simp at h7
         omega
      have h56:=HB6.out.size
      have hw6:w5.heap.size+1<=w6.heap.size:=by simpa using h56
      have s3:=Sl.news (T:=zzo) (F:=fun b=>w.heap.size+1<=b) (w:=w6) (Reps.mk2 (T:=zzo) (x1:=((2:Int),zzu l)) (x2:=((3:Int),xx8 l)) ⟨[.int .i64 2],_,rfl,⟨rfl,xxd 2 (by omega)⟩,_,_,_,rfl,s1⟩ ⟨[.int .i64 3],_,rfl,⟨rfl,xxd 3 (by omega)⟩,_,_,_,rfl,s2⟩) 55 2 rfl (by omega) _ rfl
      refine bodyPost_ret (zzq rfl _ _ w.heap.size 27 #[.int .i64 (n:Int),.int .i64 1,.int .i64 0,.slice (some ⟨w6.heap.size,0,none⟩) 2 2] (0,0) _ rfl (zza (zza (zza (zza ((Below.heap_alloc w6 _ _ (zzc HG6.out)).trans HG6.out) rfl) rfl) rfl) rfl) Tryz.underlying27 rfl (by kernel_rfl)) rfl ?_
      unfold jjC
      rw [e1]
      refine⟨some ⟨w6.heap.size,0,none⟩,2,2,by rw [<-HL.out];rfl,(s3.keep (by simp) (fun b hb _=>?_)).weaken (fun b hb _=>by rcases hb with hb | hb <;> omega),?_⟩
      · have hne:b≠w.heap.size:=by rcases hb with hb | hb <;> omega
        exact (Below.heap_setCell _ _ _ _ hne).trans ((Below.heap_setCell _ _ _ _ hne).trans ((Below.heap_setCell _ _ _ _ hne).trans (Below.heap_setCell _ _ _ _ hne)))
      · have hbb:Below w.heap.size w w6:=((HB5.out.alloc HB5.out.size _).drew).trans (HB6.out.mono (by simp;omega))
        exact zzn (zzn (zzn (zzn (hbb.alloc (by omega) _) zN _) zN _) zN _) zN _
    · have hI:¬ (n:Int)<2*(k:Int):=by omega
      clear hml
      obtain⟨wq,hwq⟩:∃ wq,wq=wr:=⟨_,rfl⟩
      rw [<-hwq] at HBR HGW HOWN ⊢
      go_wp2_with fail
      go_loopw [9,56] (fun v iv wx=>∃ (j:Nat) (A5:Option Addr) (c5:Nat) (G:Nat->Prop),j<=n/\iv=.int .i64 (j:Int)/\v=.slice A5 j c5/\OwnF tI64 3 G wx wq.heap.size A5 j c5 ((l.take j).map fun s:ByteArray=>(zzT l s:Int))/\Below wq.heap.size wq wx) (fun _ iv _=>n - (intOf iv).toNat)
      case atStart=>exact⟨0,none,0,fun _=>False,Nat.zero_le _,rfl,rfl,OwnF.nil_ _ _ _ _ _,by rw [hwq];exact zR⟩
      case round =>
       obtain⟨j,A5,c5,G,hj,rfl,rfl,hown5,hb5⟩:=hrel
       have HO5:=zH hown5;have HB5:=zH hb5
       by_cases hjn:j<n
       · have hjl:j<l.length:=by rw [<-HL.out];exact hjn
         have hbj:Below w.heap.size w _:=HBR.out.trans (hb5.mono HBR.out.size)
         obtain⟨b,o,u,rfl,_,hbl,hr,hc⟩:=(H.out.below hbj zN).at1 hjl rfl
         have hsj:=List.getElem_mem hjl
         obtain⟨t,ht⟩:∃ t,t=l[j]:=⟨_,rfl⟩
         obtain⟨hr,hsz⟩:=hr
         injection hr with hr;subst hr
         rw [<-ht] at hc hsz hsj
         have hkey:Go.keyOf Tryz.prog 9 (.string t)=some (.string t.data.toList):=WideMaps.keyOf_string_mk Tryz.underlying9 hsz
         have hpl:=xxu l hsj
         have hat:=qxm Unit (zzy l) (xx0 l) (.lit (.int .i64 0)) k (by rw [<-HM.out];exact Nat.le_refl _) (zzT l t) (by rw [HM.out];exact hpl)
         rw [qzK l hsj] at hat
         have hp4:zzT l t<=4096:=by have:=HM.out;omega
         have hp5:(0:Int)<=(zzT l t:Int)/\(zzT l t:Int)<=4096:=by omega
         have HAT:=zH hat;have HT:=zH ht
         have hmj:=HOWN.out.kept (zzB (row:=none) hb5) (by simp)
         have hi0:(0:Int)<=(j:Int):=by omega
         have hi1:(j:Int)<(n:Int):=by omega
         clear hat ht hbj hown5 hb5
         go_wp2_with (first
          | (at_lookup;refine wpList_lookup_own_int _ rfl _ _ 159 rfl 9 3 .i64 law9 Tryz.underlying159 Tryz.underlying3 (zero3 _) mb k _ (by rfl) hmj _ _ (by rfl) hkey ?_;intro q hq hwq2;obtain rfl:q=(zzT l t:Int):=(by rw [HAT.out] at hq;injection hq with hq;injection hq with _ hq;exact hq.symm))
          | (at_builtin;refine apl1 (T:=tI64) xxb wr wq rfl (.tmp 60) (.tmp 64) rfl wq.heap.size A5 j c5 ((l.take j).map fun s:ByteArray=>(zzT l s:Int)) (by rfl) G (fun _=>False) HO5.out HB5.out zN _ (by rfl) [.int .i64 (zzT l t:Int)] (zzT l t:Int) ⟨rfl,xxd _ hp5⟩ 3 rfl (fun _ _ _ _ h4=>h4) (by omega) ?_;intro A6 c6 w6 h6)
          | fail)
         go_roundw
         case rel=>exact⟨j+1,A6,c6,_,by omega,by go_num,rfl,by rw [zT hjl,List.map_append,<-HT.out];exact h6.own,h6.below⟩
         case measure=>simp [intOf];omega
       · obtain rfl:j=n:=by omega
         have htk:l.take j=l:=zL (by rw [<-HL.out];exact Nat.le_refl _)
         rw [htk] at hown5
         have HPS:=zH hown5.sl
         have HOK:=zH (show zzV false (l.map fun s:ByteArray=>(zzT l s:Int)) from by
          intro x hx
          obtain⟨s,hs,rfl⟩:=List.mem_map.1 hx
          have h1:=xxu l hs
          have h2:=HM.out
          exact⟨by omega,by omega,.inr (by omega)⟩)
         have hbr5:Below w.heap.size w wr:=HBR.out.trans (hb5.mono HBR.out.size)
         have HB5:=zH hbr5
         have hgr5:wr.heap[w.heap.size]?=some (.cells #[.int .i64 0,.int .i64 0,.int .i64 0,.slice none 0 0] 27 (0,0)):=(hb5.block _ (zzc HGW.out)).trans HGW.out
         have HGR5:=zH hgr5
         have hwords:=(HOF.out.keep HGR.out.size (fun b hb hl=>HGR.out.block b hl (fun e=>by
          injection e with e
          rcases hb with hb | hb
          · exact hb
          · have:=hb.2;rw [zS] at this;have:=HMB.out;omega))).weaken (F':=fun _=>True) (fun _ _ _=>trivial)
         rw [<-hwq] at hwords
         have HWS:=zH (hwords.below hb5 zN)
         have HSM:=zH (xx2 HS.out)
         have hsb:=fun w=>qxf w (mkS (zzu (zzk l)))
         clear hown5 hb5 hbr5 hgr5 hwords htk
         go_upto_region 20 with (first
          | (go_at_call 92;refine (xxT _ A5 j c5 _ _ HPS.out hn false HOK.out).mono ?_;rintro e w5 ⟨hb5,A7,n7,c7,rfl,ho5⟩;have HO7:=zH ho5;have HB7:=zH hb5;have HG7:=zH ((hb5.block _ (zzc HGR5.out)).trans HGR5.out);clear ho5 hb5)
          | fail)
         have HB8:=zH (HB5.out.trans (HB7.out.mono HB5.out.size))
         have HWS8:=zH (HWS.out.below HB7.out zN)
         have hG8:Hid (w5.heap[w.heap.size]?=some (.cells #[.int .i64 0,.int .i64 0,.int .i64 0,.slice none 0 0] 27 (0,0))):=HG7
         have hm4:=hm4
         go_wp2_with (first
          | (go_at_call 101;refine (jjy _ A3 k c3 (zzk l) _ HWS8.out hm4).mono ?_;rintro e w6 ⟨A6,n6,c6,rfl,ho6,hb6⟩;have HO6:=zH ho6;have HB6:=zH hb6;have HWS6:=zH (HWS8.out.below hb6 zN);clear ho6 hb6)
          | (go_at_call 100;refine (jjA _ A3 k c3 (zzk l) _ HWS6.out hm4 HSM.out).mono ?_;rintro e w8 ⟨rfl,hb8⟩;have HBJ:=zH hb8;have hg8:w8.heap[w.heap.size]?=some (.cells #[.int .i64 0,.int .i64 0,.int .i64 0,.slice none 0 0] 27 (0,0)):=(hb8.block _ (by have h1:=zzc hG8.out;have h2:=HB6.out.size;omega)).trans ((HB6.out.block _ (zzc hG8.out)).trans hG8.out);have HG8:=zH hg8;have hga:∀ o1 o2:Obj,((w8.alloc o1).alloc o2).heap[w.heap.size]?=some (.cells #[.int .i64 0,.int .i64 0,.int .i64 0,.slice none 0 0] 27 (0,0)):=(fun o1 o2=>(Below.heap_alloc _ o2 _ (by rw [zS];exact Nat.lt_succ_of_lt (zzc hg8))).trans ((Below.heap_alloc w8 o1 _ (zzc hg8)).trans hg8));have z0:∀ o1 o2:Obj,((w8.alloc o1).alloc o2).cell? ⟨w.heap.size,0,none⟩=some (.int .i64 0):=(fun o1 o2=>by rw [zC (hga o1 o2)];rfl);have y0:∀ o1 o2:Obj,((w8.alloc o1).alloc o2).frozen? ⟨w.heap.size,0,none⟩=false:=(fun o1 o2=>zF (hga o1 o2) 0);have z1:∀ o1 o2:Obj,((w8.alloc o1).alloc o2).cell? ⟨w.heap.size,1,none⟩=some (.int .i64 0):=(fun o1 o2=>by rw [zC (hga o1 o2)];rfl);have y1:∀ o1 o2:Obj,((w8.alloc o1).alloc o2).frozen? ⟨w.heap.size,1,none⟩=false:=(fun o1 o2=>zF (hga o1 o2) 1);have z2:∀ o1 o2:Obj,((w8.alloc o1).alloc o2).cell? ⟨w.heap.size,2,none⟩=some (.int .i64 0):=(fun o1 o2=>by rw [zC (hga o1 o2)];rfl);have y2:∀ o1 o2:Obj,((w8.alloc o1).alloc o2).frozen? ⟨w.heap.size,2,none⟩=false:=(fun o1 o2=>zF (hga o1 o2) 2);have z3:∀ o1 o2:Obj,((w8.alloc o1).alloc o2).cell? ⟨w.heap.size,3,none⟩=some (.slice none 0 0):=(fun o1 o2=>by rw [zC (hga o1 o2)];rfl);have y3:∀ o1 o2:Obj,((w8.alloc o1).alloc o2).frozen? ⟨w.heap.size,3,none⟩=false:=(fun o1 o2=>zF (hga o1 o2) 3);clear hb8 hg8 hga)
          | fail)
         have e1:txC l=(2,(k:Int),[(2,rleB false (l.map fun s:ByteArray=>(zzT l s:Int))),(3,xx8 (zzk l)),(4,zzu (zzk l))]):=by
          rw [HM.out]
          exact if_neg (by rw [<-HL.out,<-HM.out];exact hlt2)
         have hjl:=yy1 (zzk l) HSM.out
         have hwl:(zzk l).length=k:=by rw [HM.out];unfold zzk;rw [List.length_map]
         rw [hwl] at hjl
         have h5:w.heap.size+1<=wr.heap.size:=by have:=zzc HGR5.out;omega
         have h57:=HB7.out.size
         have h67:=HB6.out.size
         have h87:=HBJ.out.size
         have hb58:Below w5.heap.size w5 (w8.alloc (yyX w8 (mkS (zzu (zzk l))))).drew:=((HB6.out.trans (HBJ.out.mono HB6.out.size)).alloc (by omega) _).drew
         have hb68:Below w6.heap.size w6 (w8.alloc (yyX w8 (mkS (zzu (zzk l))))).drew:=(HBJ.out.alloc (by omega) _).drew
         have s1:Sl tU8 (fun b=>w.heap.size+1<=b) (w8.alloc (yyX w8 (mkS (zzu (zzk l))))).drew A7 n7 c7 (rleB false (l.map fun s:ByteArray=>(zzT l s:Int))):=(HO7.out.own.sl.below hb58 zN).weaken fun b hb _=>by
          rcases hb with hb | hb
          · exact hb.elim
          · have h7:=hb.2
            omega
         have s2:Sl tU8 (fun b=>w.heap.size+1<=b) (w8.alloc (yyX w8 (mkS (zzu (zzk l))))).drew A6 n6 c6 (xx8 (zzk l)):=(HO6.out.own.sl.below hb68 zN).weaken fun b hb _=>by
          rcases hb with hb | hb
          · exact hb.elim
          · have h7:=hb.2
            omega
         have s4:Sl tU8 (fun b=>w.heap.size+1<=b) (w8.alloc (yyX w8 (mkS (zzu (zzk l))))).drew (some ⟨w8.heap.size,0,none⟩) (mkS (zzu (zzk l))).size (vvA w8 (mkS (zzu (zzk l)))) (zzu (zzk l)) :=
          ((xqa (w:=w8) (w0:=w8) (s:=mkS (zzu (zzk l))) (by show (zzu (zzk l)).toArray.size<=_;simp [maxLen];omega)).weaken (F':=fun b=>w.heap.size+1<=b) (fun b hb _=>by omega)).drew
         have s3:=Sl.news (T:=zzo) (F:=fun b=>w.heap.size+1<=b) (w:=(w8.alloc (yyX w8 (mkS (zzu (zzk l))))).drew) (Reps.mk3 (T:=zzo) (x1:=((2:Int),rleB false (l.map fun s:ByteArray=>(zzT l s:Int)))) (x2:=((3:Int),xx8 (zzk l))) (x3:=((4:Int),zzu (zzk l))) ⟨[.int .i64 2],_,rfl,⟨rfl,xxd 2 (by omega)⟩,_,_,_,rfl,s1⟩ ⟨[.int .i64 3],_,rfl,⟨rfl,xxd 3 (by omega)⟩,_,_,_,rfl,s2⟩ ⟨[.int .i64 4],_,rfl,⟨rfl,xxd 4 (by omega)⟩,_,_,_,rfl,s4⟩) 55 3 rfl (by omega) _ rfl
         have hg9:(w8.alloc (yyX w8 (mkS (zzu (zzk l))))).drew.heap[w.heap.size]?=some (.cells #[.int .i64 0,.int .i64 0,.int .i64 0,.slice none 0 0] 27 (0,0)):=(Below.heap_alloc w8 _ _ (zzc HG8.out)).trans HG8.out
         refine bodyPost_ret (zzq rfl _ _ w.heap.size 27 #[.int .i64 (j:Int),.int .i64 2,.int .i64 (k:Int),.slice (some ⟨w8.heap.size+1,0,none⟩) 3 3] (0,0) _ rfl (zza (zza (zza (zza ((Below.heap_alloc _ _ _ (zzc hg9)).trans hg9) rfl) rfl) rfl) rfl) Tryz.underlying27 rfl (by kernel_rfl)) rfl ?_
         unfold jjC
         rw [e1]
         have hsz9:(w8.alloc (yyX w8 (mkS (zzu (zzk l))))).drew.heap.size=w8.heap.size+1:=by simp
         rw [hsz9] at s3
         refine⟨some ⟨w8.heap.size+1,0,none⟩,3,3,by rw [<-HL.out];rfl,(s3.keep (by simp) (fun b hb _=>?_)).weaken (fun b hb _=>by rcases hb with hb | hb <;> omega),?_⟩
         · have hne:b≠w.heap.size:=by rcases hb with hb | hb <;> omega
           exact (Below.heap_setCell _ _ _ _ hne).trans ((Below.heap_setCell _ _ _ _ hne).trans ((Below.heap_setCell _ _ _ _ hne).trans (Below.heap_setCell _ _ _ _ hne)))
         · have hbb:Below w.heap.size w (w8.alloc (yyX w8 (mkS (zzu (zzk l))))).drew:=HB8.out.trans (hb58.mono HB8.out.size)
           exact zzn (zzn (zzn (zzn (hbb.alloc hbb.size _) zN _) zN _) zN _) zN _
end
section
open Go Go.RowKit Go.Maps Go.Shelf
def strD:List (Int×Value)->DataW Value->DataW Value
 | [],D=>D
 | p::r,D=>strD r (D.put (.int .i64 p.1) (.held p.2))
theorem uux (p:Int×Value):∀ (vs:List (Int×Value)) (D:DataW Value),strD (vs++[p]) D=(strD vs D).put (.int .i64 p.1) (.held p.2)
 | [],_=>rfl
 | _::r,_=>uux p r _
def SV (F:Nat->Prop) (W:World):List (Int×Value)->List (Int×List UInt8)->Prop
 | [],[]=>True
 | p::vs,s::ss=>(p.1=s.1/\∃ A n c,p.2=.slice A n c/\Bs F W A n c s.2)/\SV F W vs ss
 | _,_=>False
theorem SV.snoc {F:Nat->Prop} {W:World} {p:Int×Value} {s:Int×List UInt8} (hp:p.1=s.1/\∃ A n c,p.2=.slice A n c/\Bs F W A n c s.2):∀ {vs:List (Int×Value)} {ss:List (Int×List UInt8)},SV F W vs ss->SV F W (vs++[p]) (ss++[s])
 | [],[],_=>⟨hp,trivial⟩
 | _::_,_::_,h=>⟨h.1,SV.snoc hp h.2⟩
 | [],_::_,h=>h.elim
 | _::_,[],h=>h.elim
theorem SV.keep {F:Nat->Prop} {W W':World} (hs:W.heap.size<=W'.heap.size) (hk:∀ b,F b->b<W.heap.size->W'.heap[b]?=W.heap[b]?):∀ {vs:List (Int×Value)} {ss:List (Int×List UInt8)},SV F W vs ss->SV F W' vs ss
 | [],[],_=>trivial
 | _::_,_::_,⟨⟨h1,A,n,c,h2,h3⟩,h4⟩=>⟨⟨h1,A,n,c,h2,h3.keep hs hk⟩,SV.keep hs hk h4⟩
 | [],_::_,h=>h.elim
 | _::_,[],h=>h.elim
theorem SV.kinds {F:Nat->Prop} {W:World}:∀ {vs:List (Int×Value)} {ss:List (Int×List UInt8)},SV F W vs ss->vs.map Prod.fst=ss.map Prod.fst
 | [],[],_=>rfl
 | _::_,_::_,h=>by rw [List.map_cons,List.map_cons,h.1.1,SV.kinds h.2]
 | [],_::_,h=>h.elim
 | _::_,[],h=>h.elim
theorem kli (x:Int):WideAt.IsKeyLit (.int .i64 x):=trivial
theorem xqw {x:Int} (h : -9223372036854775808<=x/\x<=9223372036854775807):(Lit.int .i64 x).wf=true:=by
 simpa [Lit.wf,IntKind.min,IntKind.max,IntKind.signed,IntKind.bits] using h
theorem uuy:∀ (vs:List (Int×Value)) {D:DataW Value},Tidy D->(vs.map Prod.fst).Nodup->(∀ p∈vs,has D (.int .i64 p.1)=false)->Maps.size (strD vs D)=Maps.size D+vs.length
 | [],_,_,_,_=>rfl
 | p::r,D,h,hn,hd=>by
   rw [strD]
   have hn2:p.1 ∉ r.map Prod.fst/\(r.map Prod.fst).Nodup:=by rw [List.map_cons] at hn;exact List.nodup_cons.1 hn
   rw [uuy r (h.put (kli _) _) hn2.2 (fun q hq=>by
    rw [has_put_other (by intro e2;injection e2 with _ e2;exact hn2.1 (by rw [<-e2];exact List.mem_map_of_mem hq))]
    exact hd q (List.mem_cons_of_mem _ hq))]
   rw [size_put h,hd p (List.mem_cons_self),List.length_cons]
   simp only [Bool.false_eq_true,if_false]
   omega
theorem lawI:Keyed Tryz.prog 3:=int_keyed Tryz.underlying3
def qxW (F:Nat->Prop) (ss:List (Int×List UInt8)) (ks:List Int) (w:World) (e:Ending) (w':World):Prop :=
 ∃ mb nn vs,e=.returned (.tuple #[.map (some mb),.bool (decide (ss.map Prod.fst=ks))])/\SV F w' vs ss/\w'.ownsMap Tryz.prog 3 yy3 mb nn (strD vs (.map []))/\w.heap.size<=mb/\Below w.heap.size w w'
theorem uu5 (m en tx:Int) (F F2:Nat->Prop) (A A2:Option Addr) (n c n2 c2:Nat) (ss:List (Int×List UInt8)) (ks:List Int) (w:World) (h:Sl zzo F w A n c ss) (h2:Sl tI64 F2 w A2 n2 c2 ks) (hn:n<=100) (hn2:n2<=100) (hd:ks.Nodup) :
 Calls Tryz.prog 194 #[.agg #[.int .i64 m,.int .i64 en,.int .i64 tx,.slice A n c],.slice A2 n2 c2] w (qxW (fun b=>F b/\b<w.heap.size) ss ks w):=by
 obtain⟨w1,hw1,hg1,hb1,hz1⟩:∃ w1,w1=w.alloc (.cells #[.int .i64 m,.int .i64 en,.int .i64 tx,.slice A n c] 27)/\w1.heap[w.heap.size]?=some (.cells #[.int .i64 m,.int .i64 en,.int .i64 tx,.slice A n c] 27 (0,0))/\Below w.heap.size w w1/\w1.heap.size=w.heap.size+1 :=
  ⟨_,rfl,heap_alloc_new w _,(Below.refl _ w).alloc zN _,by simp⟩
 have hmm:=@run_makeMap Tryz.prog
 have HH:=zH (h.weaken (F':=fun b=>F b/\b<w.heap.size) fun b hb hl=>⟨hb,hl⟩);have HL:=zH h.len;have HN:=zH hn
 have HH2:=zH (h2.weaken (F':=fun b=>F2 b/\b<w.heap.size) fun b hb hl=>⟨hb,hl⟩);have HL2:=zH h2.len;have HN2:=zH hn2;have HD:=zH hd
 have HW1:=zH hw1;have HG1:=zH hg1;have HB1:=zH hb1;have HZ1:=zH hz1
 clear h h2 hn hn2 hd hw1 hg1 hb1 hz1
 go_enter Tryz.func194,Tryz.ntmps194
 go_upto_region 1 with fail
 rw [<-HW1.out]
 go_upto_region 3 with fail
 obtain⟨w2,hw2⟩:∃ w2,w2=w1.alloc (.map #[] 0):=⟨_,rfl⟩
 obtain⟨mb,hmb⟩:∃ mb,mb=w1.heap.size:=⟨_,rfl⟩
 have HM0:Hid (w2.ownsMap Tryz.prog 3 yy3 mb 0 (.map [])):=zH (by rw [hw2,hmb];exact World.ownsMap_made w1 _ _ _)
 have HB12:Hid (Below w1.heap.size w1 w2):=zH (by rw [hw2];exact (zR).alloc zN _)
 have HB2:Hid (Below w.heap.size w w2):=zH (HB1.out.trans (HB12.out.mono HB1.out.size))
 have HMB:Hid (w.heap.size<mb):=zH (by rw [hmb,HZ1.out];omega)
 have HZ2:Hid (w2.heap.size=mb+1):=zH (by rw [hw2,hmb];simp)
 have HG2:=zH ((HB12.out.block _ (by have:=HZ1.out;omega)).trans HG1.out)
 have a3:w2.cell? ⟨w.heap.size,3,none⟩=some (.slice A n c):=(zzj HG2.out).2.2.2.1
 rw [<-hw2,<-hmb]
 clear hw2 hmb
 go_wp2_with fail
 go_loopw [7,14] (fun ov iv wr=>∃ (i:Nat) (vs:List (Int×Value)) (A3:Option Addr) (c3:Nat),i<=n/\iv=.int .i64 (i:Int)/\ov=.slice A3 i c3/\OwnF tI64 3 (fun _=>False) wr (mb+1) A3 i c3 ((ss.take i).map Prod.fst)/\SV (fun b=>F b/\b<w.heap.size) wr vs (ss.take i)/\wr.ownsMap Tryz.prog 3 yy3 mb i (strD vs (.map []))/\Below w.heap.size w wr/\mb+1<=wr.heap.size) (fun _ iv _=>n - (intOf iv).toNat)
 case atStart=>exact⟨0,[],none,0,Nat.zero_le _,rfl,rfl,OwnF.nil_ _ _ _ _ _,trivial,HM0.out,HB2.out,by rw [HZ2.out];exact Nat.le_refl _⟩
 case round =>
  obtain⟨i,vs,A3,c3,hi,rfl,rfl,ho,hsv,hmp,hb,hsz⟩:=hrel
  have HO:=zH ho;have HV:=zH hsv;have HM:=zH hmp;have HB:=zH hb;have HZ:=zH hsz
  clear ho hsv hmp hb hsz
  by_cases hlt:i<n
  · have hil:i<ss.length:=by rw [<-HL.out];exact hlt
    obtain⟨b,o,cs,rfl,hbF,hbl,hrep,hc⟩:=(HH.out.below HB.out zN).at_ hil (by decide)
    obtain⟨x,hx⟩:∃ x,x=ss[i]:=⟨_,rfl⟩
    obtain⟨kk,bb⟩:=x
    have HT:=zH (show ss.take (i+1)=ss.take i++[(kk,bb)] by rw [zT hil,<-hx])
    rw [<-hx] at hrep
    obtain⟨d1,d2,rfl,⟨h1,h1'⟩,A8,n8,c8,h2,hsl⟩:=hrep
    subst h1 h2
    obtain⟨g0,g1⟩:=vvb hc
    have g0:_=some (Value.int .i64 kk):=g0
    have g1:_=some (Value.slice A8 n8 c8):=g1
    have HSL:=zH hsl;have HKK:=zH h1'
    have hkey:Go.keyOf Tryz.prog 3 (.int .i64 kk)=some (.int .i64 kk):=keyOf_int_mk Tryz.underlying3 (xqw h1')
    have i0:(0:Int)<=(i:Int):=by omega
    have i1:(i:Int)<(n:Int):=by omega
    have i3:(i:Int)<=100:=by have:=HN.out;omega
    have HI:Hid (i<=100):=zH (by have:=HN.out;omega)
    clear hc hx hsl h1' hbF hil
    go_upto_region 6 with fail
    obtain⟨w3,hw3⟩:∃ w3,w3=wr.alloc (.cells #[.int .i64 kk,.slice A8 n8 c8] 55):=⟨_,rfl⟩
    obtain⟨K,hK⟩:∃ K,K=wr.heap.size:=⟨_,rfl⟩
    have HB3:Hid (Below wr.heap.size wr w3):=zH (by rw [hw3];exact (zR).alloc zN _)
    have HG3:Hid (w3.heap[K]?=some (.cells #[.int .i64 kk,.slice A8 n8 c8] 55 (0,0))):=zH (by rw [hw3,hK];exact heap_alloc_new wr _)
    have HK:=zH hK
    have hm3:w3.ownsMap Tryz.prog 3 yy3 mb i (strD vs (.map [])):=HM.out.kept (zzB (row:=none) HB3.out) (by simp)
    rw [<-hw3,<-hK]
    clear hw3 hK g0 g1
    have z0:w3.cell? ⟨K,0,none⟩=some (.int .i64 kk):=by rw [zC HG3.out];rfl
    have z1:w3.cell? ⟨K,1,none⟩=some (.slice A8 n8 c8):=by rw [zC HG3.out];rfl
    go_upto_region 7 with (first
     | (at_mapUpdate;refine wpList_mapUpdate_own _ rfl _ _ _ 247 rfl 3 41 lawI Tryz.underlying247 yy3 mb i _ (by rfl) hm3 (by unfold maxLen;omega) _ _ _ (by rfl) (by rfl) hkey _ [] (by rfl) ?_;intro w4 hown4 hgrow4;have HM4:=zH hown4;have HR4:=zH hgrow4;clear hown4 hgrow4)
     | fail)
    have HB34:=zH (HB.out.trans (HB3.out.mono HB.out.size))
    have HZ3:Hid (mb+1<=w3.heap.size):=zH (Nat.le_trans HZ.out HB3.out.size)
    have HB4:Hid (Below w.heap.size w w4):=zH (HB34.out.grown HR4.out HB34.out.size (fun q e=>by injection e with e;have:=HMB.out;omega))
    have HZ4:Hid (mb+1<=w4.heap.size):=zH (Nat.le_trans HZ3.out HR4.out.size)
    have HO4:Hid (OwnF tI64 3 (fun _=>False) w4 (mb+1) A3 i c3 ((ss.take i).map Prod.fst)):=zH ((HO.out.keepB HB3.out).grown HR4.out (fun g e=>⟨id,fun e2=>by injection e with e;have h1:=(HO.out.lies' (b:=g) (by rw [e2];rfl)).2.1;omega⟩))
    have hk4:w4.heap[K]?=some (.cells #[.int .i64 kk,.slice A8 n8 c8] 55 (0,0)):=(HR4.out.block _ (zzc HG3.out) (fun e=>by injection e with e;have h1:=HK.out;have h2:=HZ.out;omega)).trans HG3.out
    have y0:w4.cell? ⟨K,0,none⟩=some (.int .i64 kk):=by rw [zC hk4];rfl
    have HV4:Hid (SV (fun b=>F b/\b<w.heap.size) w4 (vs++[(kk,.slice A8 n8 c8)]) (ss.take (i+1))):=zH (by
     rw [HT.out]
     have hkp:∀ b,(F b/\b<w.heap.size)->b<wr.heap.size->w4.heap[b]?=wr.heap[b]?:=fun b hb hl=>(HR4.out.block b (Nat.lt_of_lt_of_le hl HB3.out.size) (fun e=>by injection e with e;have:=HMB.out;have:=hb.2;omega)).trans (HB3.out.block b hl)
     have hss:=Nat.le_trans HB3.out.size HR4.out.size
     exact SV.snoc ⟨rfl,A8,n8,c8,rfl,HSL.out.keep hss hkp⟩ (HV.out.keep hss hkp))
    have HMP:Hid (w4.ownsMap Tryz.prog 3 yy3 mb (i+1) (strD (vs++[(kk,.slice A8 n8 c8)]) (.map []))):=zH (by rw [uux];exact HM4.out)
    have HLIM:Hid (i<=34359738368):=zH (by have:=HI.out;omega)
    have HF1:Hid ((ss.take (i+1)).map Prod.fst=(ss.take i).map Prod.fst++[kk]):=zH (by rw [HT.out,List.map_append];rfl)
    clear hk4 z0 z1 hm3 hkey
    go_wp2_with (first
     | (at_builtin;refine apl1 (T:=tI64) xxb w4 w4 rfl (.tmp 23) (.tmp 26) rfl (mb+1) A3 i c3 _ (by rfl) (fun _=>False) (fun _=>False) HO4.out (zR) HZ4.out _ (by rfl) [.int .i64 kk] kk ⟨rfl,HKK.out⟩ 3 rfl (fun _ _ _ _ h=>h) HLIM.out ?_;intro A5 c5 w5 h5;have HO5:=zH h5.own;have HGW:=zH h5.grown;have HB45:=zH h5.below;clear h5)
     | fail)
    go_roundw
    case rel =>
     refine⟨i+1,vs++[(kk,.slice A8 n8 c8)],A5,c5,by omega,by go_num,rfl,by rw [HF1.out];exact HO5.out.weaken (fun b hb _=>hb.1.elim id id) (fun _ _ _ _ h=>h),?_,?_,?_,?_⟩
     · exact HV4.out.keep HB45.out.size (fun b hb _=>HB45.out.block b (by have:=HMB.out;have:=hb.2;omega))
     · obtain⟨es,clock,hb,Ft,hs,hD⟩:=HMP.out
       exact⟨es,clock,(HB45.out.block mb (Nat.lt_succ_self _)).trans hb,Ft,hs,hD⟩
     · exact HB4.out.trans (HB45.out.mono (by have:=HMB.out;omega))
     · exact Nat.le_trans HZ4.out HB45.out.size
    case measure=>simp [intOf];omega
  · obtain rfl:i=n:=by omega
    have HTK:=zH (show ss.take i=ss from zL (by rw [<-HL.out];exact Nat.le_refl _))
    rw [HTK.out] at HO HV
    obtain⟨r,hr⟩:∃ r,r=decide (ss.map Prod.fst=ks):=⟨_,rfl⟩
    have HR:=zH hr
    have HK2:=zH (HH2.out.below HB.out zN)
    clear hr
    cases r with
    | false =>
      go_wp2_with (first
       | (go_at_call 232;refine (qzM _ _ A3 A2 i c3 n2 c2 _ ks _ HO.out.sl HK2.out (by have:=HN.out;omega) (by have:=HN2.out;omega) false HR.out).mono ?_;rintro e w5 ⟨rfl,hb5⟩;have HB5:=zH hb5;clear hb5)
       | fail)
      go_ret2
      refine⟨mb,i,vs,by rw [<-HR.out];rfl,HV.out.keep HB5.out.size (fun b _ hl=>HB5.out.block b hl),?_,by have:=HMB.out;omega,HB.out.trans (HB5.out.mono HB.out.size)⟩
      obtain⟨es,clock,hb,Ft,hs,hD⟩:=HM.out
      exact⟨es,clock,(HB5.out.block mb (by have:=HZ.out;omega)).trans hb,Ft,hs,hD⟩
    | true =>
      have HEQ:=zH (of_decide_eq_true HR.out.symm)
      have HNN:Hid (n2=i):=zH (by rw [HL2.out,HL.out,<-HEQ.out,List.length_map])
      have HSZ:Hid (Maps.size (strD vs (.map []))=i):=zH (by
       have hk:=HV.out.kinds
       have hl:=congrArg List.length hk
       rw [List.length_map,List.length_map] at hl
       rw [uuy vs tidy_empty (by rw [hk,HEQ.out];exact HD.out) (fun p _=>rfl),hl,<-HL.out]
       exact Nat.zero_add _)
      obtain⟨z,hz⟩:∃ z,z=Maps.size (strD vs (.map [])):=⟨_,rfl⟩
      have HZ1':=zH hz
      have he1:(z:Int)=(n2:Int):=by have h1:=HSZ.out;have h2:=HNN.out;omega
      have he2:((z:Int)==(n2:Int))=true:=by simpa using he1
      clear hz he1
      go_wp2_with (first
       | (go_at_call 232;refine (qzM _ _ A3 A2 i c3 n2 c2 _ ks _ HO.out.sl HK2.out (by have:=HN.out;omega) (by have:=HN2.out;omega) true HR.out).mono ?_;rintro e w5 ⟨rfl,hb5⟩;have HB5:=zH hb5;have HM5:Hid (w5.ownsMap Tryz.prog 3 yy3 mb i (strD vs (.map []))):=zH (by obtain⟨es,clock,hb,Ft,hs,hD⟩:=HM.out;exact⟨es,clock,(hb5.block mb (by have:=HZ.out;omega)).trans hb,Ft,hs,hD⟩);clear hb5)
       | (go_at_call 234;refine (qzX _ _).mono ?_;rintro e w6 ⟨rfl,hw6⟩;subst hw6)
       | (go_at_call 233;refine (uuv w5 HM5.out (by have h1:=HSZ.out;have h2:=HN.out;omega)).mono ?_;rintro e w7 ⟨A7,c7,rfl,hb7⟩;rw [<-HZ1'.out];have HB7:=zH hb7;clear hb7)
       | fail)
      go_ret2
      refine⟨mb,i,vs,by rw [<-HR.out];rfl,HV.out.keep (Nat.le_trans HB5.out.size HB7.out.size) (fun b _ hl=>(HB7.out.block b (Nat.lt_of_lt_of_le hl HB5.out.size)).trans (HB5.out.block b hl)),?_,by have:=HMB.out;omega,(HB.out.trans (HB5.out.mono HB.out.size)).trans (HB7.out.mono (Nat.le_trans HB.out.size HB5.out.size))⟩
      obtain⟨es,clock,hb,Ft,hs,hD⟩:=HM5.out
      exact⟨es,clock,(HB7.out.block mb (by have:=HZ.out;have:=HB5.out.size;omega)).trans hb,Ft,hs,hD⟩
end
section
open Go Go.RowKit Go.Maps Go.Shelf
theorem xqx (w:World):(zeroValue 41).run Tryz.prog w=.ok (.slice none 0 0) w:=by kernel_rfl
theorem yyR {P:Program} {T k e:TypeId} (hK0:Keyed P k) (ht:P.underlying T=some (TypeDesc.map k e)) {z:Value} {ops:Array Oper} {rest:List Oper} {o:Oper} {a:Act} {w:World} {Q:Exit->Act->World->Prop} (hz:(zeroValue e).run P w=.ok z w) (hg:o.guard=none) (m x:Operand) (hop:o.op=Op.lookup T m x false)
 (b n:Nat) (D:DataW Value) (hm:a.eval m=.map (some b)) (hown:w.ownsMap P k yy3 b n D) (key:Value) (kl:Go.Lit) (hx:a.eval x=key) (hkey:Go.keyOf P k key=some kl) (v0:Value) (hat:D.atKey kl (.held z)=.held v0)
 (hK:wpList P ops Q rest (a.put o.dst v0) w):wpList P ops Q (o::rest) a w:=by
 refine wpList_plain hg fun K' hK'=>?_
 obtain⟨v,ps,hrun,hv⟩:=hown.lookup hK0 ht hz (zd:=.held z) (zp:=[]) rfl hkey
 have e:v=v0:=by
  unfold yy3 at hv
  injection hv with hv
  injection hv with hv _
  rw [hat] at hv
  injection hv
 subst e
 unfold Oper.wp
 simp [execOp,hop,hm,hx,hrun,Result.andThen]
 exact hK' _ _ hK
theorem zzH {ops:Array Oper} {rest:List Oper} {o:Oper} {a:Act} {w:World} {Q:Exit->Act->World->Prop} (hg:o.guard=none) (m x:Operand) (hop:o.op=Op.lookup 247 m x false)
 (b n:Nat) (D:DataW Value) (hm:a.eval m=.map (some b)) (hown:w.ownsMap Tryz.prog 3 yy3 b n D) (k:Int) (hx:a.eval x=.int .i64 k) (hk:(Go.Lit.int .i64 k).wf=true) (v0:Value) (hat:D.atKey (.int .i64 k) (.held (.slice none 0 0))=.held v0)
 (hK:wpList Tryz.prog ops Q rest (a.put o.dst v0) w):wpList Tryz.prog ops Q (o::rest) a w :=
 yyR lawI Tryz.underlying247 (xqx w) hg m x hop b n D hm hown _ _ hx (keyOf_int_mk Tryz.underlying3 hk) v0 hat hK
theorem sv3 {F:Nat->Prop} {W:World} {vs:List (Int×Value)} (h:SV F W vs [(2,[]),(3,[]),(4,[])]):∃ A2 c2 A3 c3 A4 c4,vs=[(2,.slice A2 0 c2),(3,.slice A3 0 c3),(4,.slice A4 0 c4)]/\Bs F W A2 0 c2 []/\Bs F W A3 0 c3 []/\Bs F W A4 0 c4 []:=by
 match vs,h with
 | [(k2,v2),(k3,v3),(k4,v4)],⟨⟨h1,A2,n2,c2,h2,h3⟩,⟨h4,A3,n3,c3,h5,h6⟩,⟨h7,A4,n4,c4,h8,h9⟩,_⟩ =>
   dsimp only at h1 h2 h4 h5 h7 h8 h3 h6 h9
   subst h1 h2 h4 h5 h7 h8
   obtain rfl:n2=0:=h3.len
   obtain rfl:n3=0:=h6.len
   obtain rfl:n4=0:=h9.len
   exact⟨A2,c2,A3,c3,A4,c4,rfl,h3,h6,h9⟩
theorem at3 (v2 v3 v4 z:Value):(strD [(2,v2),(3,v3),(4,v4)] (.map [])).atKey (.int .i64 2) (.held z)=.held v2/\(strD [(2,v2),(3,v3),(4,v4)] (.map [])).atKey (.int .i64 3) (.held z)=.held v3/\(strD [(2,v2),(3,v3),(4,v4)] (.map [])).atKey (.int .i64 4) (.held z)=.held v4:=by
 have t1:Tidy ((.map []:DataW Value).put (.int .i64 2) (.held v2)):=tidy_empty.put (kli _) _
 have t2:=t1.put (kli 3) (.held v3)
 refine⟨?_,?_,?_⟩
 · show ((((.map []:DataW Value).put (.int .i64 2) (.held v2)).put (.int .i64 3) (.held v3)).put (.int .i64 4) (.held v4)).atKey _ _=_
   rw [atKey_put_other (by intro e;injection e with _ e;omega),atKey_put_other (by intro e;injection e with _ e;omega),atKey_put_same isMap_empty (kli _)]
 · show ((((.map []:DataW Value).put (.int .i64 2) (.held v2)).put (.int .i64 3) (.held v3)).put (.int .i64 4) (.held v4)).atKey _ _=_
   rw [atKey_put_other (by intro e;injection e with _ e;omega),atKey_put_same t1.isMap (kli _)]
 · show ((((.map []:DataW Value).put (.int .i64 2) (.held v2)).put (.int .i64 3) (.held v3)).put (.int .i64 4) (.held v4)).atKey _ _=_
   rw [atKey_put_same t2.isMap (kli _)]
theorem yy4 {mb nn:Nat} {D:DataW Value} {W W':World} (h:W.ownsMap Tryz.prog 3 yy3 mb nn D) (hb:Below W.heap.size W W'):W'.ownsMap Tryz.prog 3 yy3 mb nn D:=by
 have hl:=h.lt
 obtain⟨es,clock,hh,Ft,hs,hD⟩:=h
 exact⟨es,clock,(hb.block mb hl).trans hh,Ft,hs,hD⟩
theorem kqp (c:Nat) (A:Option Addr) (w:World):Calls Tryz.prog 236 #[.slice A 0 c] w fun e w'=>e=.returned (.bool true)/\w=w':=by
 go_enter Tryz.func236,Tryz.ntmps236
 go_wp2_with fail
 go_loopw [3] (fun iv wr=>iv=.int .i64 (-1)/\w=wr) (fun _ _=>0)
 case atStart=>exact⟨rfl,rfl⟩
 case round =>
  obtain⟨rfl,rfl⟩:=hrel
  go_wp2_with fail
  go_ret
  exact⟨rfl,rfl⟩
theorem uuz (en:Int) (F:Nat->Prop) (A:Option Addr) (n c mb nn:Nat) (vs:List (Int×Value)) (w:World) (hm:w.ownsMap Tryz.prog 3 yy3 mb nn (strD vs (.map []))) (hv:SV F w vs [(2,[]),(3,[]),(4,[])]) :
 Calls Tryz.prog 196 #[.agg #[.int .i64 0,.int .i64 en,.int .i64 0,.slice A n c],.map (some mb)] w fun e w'=>e=.returned (.tuple #[.slice none 0 0,.int .i64 0])/\Below w.heap.size w w':=by
 obtain⟨w1,hw1,hg1,hb1⟩:∃ w1,w1=w.alloc (.cells #[.int .i64 0,.int .i64 en,.int .i64 0,.slice A n c] 27)/\w1.heap[w.heap.size]?=some (.cells #[.int .i64 0,.int .i64 en,.int .i64 0,.slice A n c] 27 (0,0))/\Below w.heap.size w w1 :=
  ⟨_,rfl,heap_alloc_new w _,(Below.refl _ w).alloc zN _⟩
 obtain⟨A2,c2,A3,c3,A4,c4,rfl,h2,h3,h4⟩:=sv3 hv
 obtain⟨t2,t3,t4⟩:=at3 (.slice A2 0 c2) (.slice A3 0 c3) (.slice A4 0 c4) (.slice none 0 0)
 have T2:=zH t2;have T3:=zH t3;have T4:=zH t4
 obtain⟨D,hD⟩:∃ D,D=strD [(2,.slice A2 0 c2),(3,.slice A3 0 c3),(4,.slice A4 0 c4)] (.map []):=⟨_,rfl⟩
 rw [<-hD] at T2 T3 T4 hm
 have HM1:=zH (yy4 hm hb1)
 have H2:=zH (h2.below hb1 zN);have H3:=zH (h3.below hb1 zN);have H4:=zH (h4.below hb1 zN)
 have HW1:=zH hw1;have HG1:=zH hg1;have HB1:=zH hb1
 obtain⟨⟨a0,_⟩,⟨a1,_⟩,⟨a2,_⟩,⟨a3,_⟩⟩:=zzj hg1
 clear hv hm h2 h3 h4 t2 t3 t4 hD hw1 hg1 hb1
 go_enter Tryz.func196,Tryz.ntmps196
 go_upto_region 1 with fail
 rw [<-HW1.out]
 go_upto_region 2 with (first
  | (at_lookup;refine zzH rfl _ _ rfl mb nn D (by rfl) HM1.out 2 (by rfl) (by decide) _ T2.out ?_)
  | (go_at_call 235;refine (xxi _ A2 c2 _ H2.out).mono ?_;rintro e w2 ⟨rfl,hb2⟩;have HB2:=zH (HB1.out.trans (hb2.mono HB1.out.size));have HM2:=zH (yy4 HM1.out hb2);have H3':=zH (H3.out.below hb2 zN);have H4':=zH (H4.out.below hb2 zN);have hg2:=(hb2.block _ (zzc HG1.out)).trans HG1.out;obtain⟨⟨b0,_⟩,⟨b1,_⟩,⟨b2,_⟩,⟨b3,_⟩⟩:=zzj hg2;clear hb2 hg2)
  | fail)
 go_upto_region 3 with (first
  | (at_lookup;refine zzH rfl _ _ rfl mb nn D (by rfl) HM2.out 4 (by rfl) (by decide) _ T4.out ?_)
  | (at_lookup;refine zzH rfl _ _ rfl mb nn D (by rfl) HM2.out 3 (by rfl) (by decide) _ T3.out ?_)
  | (go_at_call 195;refine (zq4 _ _ A4 A3 c4 c3 _ H4'.out H3'.out).mono ?_;rintro e w3 ⟨rfl,hb3⟩;have HB3:=zH (HB2.out.trans (hb3.mono HB2.out.size));clear hb3)
  | fail)
 go_wp2_with (first
  | (go_at_call 99;refine (uul (fun _=>True) none 0 0 [] _ (Sl.nil_ _ _ _) (by omega)).mono ?_;rintro e w4 ⟨A5,c5,rfl,ho5,hb5⟩;rw [show (zzy []).length=0 from Nat.le_zero.1 (xx1 [])];have HB5:=zH (HB3.out.trans (hb5.mono HB3.out.size));clear ho5 hb5)
  | (go_at_call 236;refine (kqp 0 none _).mono ?_;rintro e w6 ⟨rfl,rfl⟩)
  | fail)
 go_loopw [10,52] (fun ov iv wr=>ov=.slice none 0 0/\iv=.int .i64 0/\Below w.heap.size w wr) (fun _ _ _=>0)
 case atStart=>exact⟨rfl,rfl,HB5.out⟩
 case round =>
  obtain⟨rfl,rfl,hb⟩:=hrel
  go_wp2_with fail
  go_ret2
  exact⟨rfl,hb⟩
theorem kqq (F:Nat->Prop) (A:Option Addr) (c:Nat) (w:World) (h:Sl zzo F w A 3 c [(2,[]),(3,[]),(4,[])]) :
 Calls Tryz.prog 142 #[.agg #[.int .i64 0,.int .i64 2,.int .i64 0,.slice A 3 c]] w fun e w'=>e=.returned (.tuple #[.slice none 0 0,.int .i64 0])/\Below w.heap.size w w':=by
 obtain⟨w1,hw1,hg1,hb1⟩:∃ w1,w1=w.alloc (.cells #[.int .i64 0,.int .i64 2,.int .i64 0,.slice A 3 c] 27)/\w1.heap[w.heap.size]?=some (.cells #[.int .i64 0,.int .i64 2,.int .i64 0,.slice A 3 c] 27 (0,0))/\Below w.heap.size w w1 :=
  ⟨_,rfl,heap_alloc_new w _,(Below.refl _ w).alloc zN _⟩
 have HH:=zH (h.below hb1 zN)
 have HW1:=zH hw1;have HG1:=zH hg1;have HB1:=zH hb1
 obtain⟨⟨a0,_⟩,⟨a1,_⟩,⟨a2,_⟩,⟨a3,_⟩⟩:=zzj hg1
 clear h hw1 hg1 hb1
 go_enter Tryz.func142,Tryz.ntmps142
 go_upto_region 1 with fail
 rw [<-HW1.out]
 go_upto_region 10 with (first
  | (go_at_call 194;refine (uu5 0 2 0 _ _ A (some ⟨w1.heap.size,0,none⟩) 3 c 3 3 _ [2,3,4] _ (HH.out.alloc _) (Sl.news (T:=tI64) (F:=fun _=>True) (Reps.mk3 (x1:=(2:Int)) (x2:=(3:Int)) (x3:=(4:Int)) ⟨rfl,by omega,by omega⟩ ⟨rfl,by omega,by omega⟩ ⟨rfl,by omega,by omega⟩) 3 3 rfl (by omega) _ rfl) (by omega) (by omega) (by decide)).mono ?_;rintro e w2 ⟨mb,nn,vs,rfl,hsv,hmp,_,hb2⟩;rw [show decide (([(2,[]),(3,[]),(4,[])]:List (Int×List UInt8)).map Prod.fst=[2,3,4])=true from rfl];have HV:=zH hsv;have HM:=zH hmp;have HB12:Hid (Below w1.heap.size w1 w2):=zH (((Below.refl _ w1).alloc zN _).trans (hb2.mono (by simp)));clear hsv hmp hb2)
  | fail)
 have HB2:=zH (HB1.out.trans (HB12.out.mono HB1.out.size))
 have hg2:=(HB12.out.block _ (zzc HG1.out)).trans HG1.out
 obtain⟨⟨b0,_⟩,⟨b1,_⟩,⟨b2,_⟩,⟨b3,_⟩⟩:=zzj hg2
 clear hg2
 go_wp2_with (first
  | (go_at_call 196;refine (uuz 2 _ A 3 c mb nn vs _ HM.out HV.out).mono ?_;rintro e w3 ⟨rfl,hb3⟩;have HB3:=zH (HB2.out.trans (hb3.mono HB2.out.size));clear hb3)
  | fail)
 go_ret2
 exact⟨rfl,HB3.out⟩
end
section
open Go Go.RowKit
theorem uuA {F:Nat->Prop} {w:World} {A:Option Addr} {n c:Nat} {s0:Int×List UInt8} {ss:List (Int×List UInt8)} (h:Sl zzo F w A (n+1) c (s0::ss)) (hn:1<=n):∃ b o,A=some ⟨b,o,none⟩/\Sl zzo F w (some ⟨b,o+2,none⟩) n (c - 1) ss:=by
 obtain⟨b,o,_,rfl,_,_,_,_⟩:=h.at_ (k:=0) (by simp) (by decide)
 have h2:=h.cut (lo:=1) (hi:=n+1) (by omega) zN
 have h3:=h.2.1
 have h4:=h.len
 rw [if_neg (by omega),zL (by rw [<-h4];exact Nat.le_refl _)] at h2
 refine⟨b,o,rfl,?_⟩
 simpa [Addr.add,show zzo.size=2 from rfl] using h2
theorem uu6 {F:Nat->Prop} {w:World} {b o n c:Nat} {ss:List (Int×List UInt8)} (h:Sl zzo F w (some ⟨b,o,none⟩) n c ss) (hn:0<ss.length):∃ A8 n8 c8,w.cell? ⟨b,o,none⟩=some (.int .i64 ss[0].1)/\w.cell? ⟨b,o+1,none⟩=some (.slice A8 n8 c8)/\Bs F w A8 n8 c8 ss[0].2:=by
 obtain⟨b',o',cs,e,_,_,hrep,hc⟩:=h.at_ (k:=0) hn (by decide)
 injection e with e;injection e with e1 e2;subst e1 e2
 obtain⟨d1,d2,rfl,⟨h1,_⟩,A8,n8,c8,h2,hsl⟩:=hrep
 subst h1 h2
 obtain⟨g0,g1⟩:=vvb hc
 rw [Nat.zero_mul,Nat.add_zero] at g0 g1
 exact⟨A8,n8,c8,g0,g1,hsl⟩
theorem boxC (m en tx:Int) (A:Option Addr) (n c:Nat) (w:World):∃ w1,w1=w.alloc (.cells #[.int .i64 m,.int .i64 en,.int .i64 tx,.slice A n c] 27)/\w1.heap[w.heap.size]?=some (.cells #[.int .i64 m,.int .i64 en,.int .i64 tx,.slice A n c] 27 (0,0))/\Below w.heap.size w w1 :=
 ⟨_,rfl,heap_alloc_new w _,(Below.refl _ w).alloc zN _⟩
theorem zq6 (k m:Int) (F:Nat->Prop) (A:Option Addr) (c:Nat) (s0:Int×List UInt8) (w:World) (h:Sl zzo F w A 2 c [s0,(2,[])]) (hk:1<=k/\k<=5) :
 Calls Tryz.prog 79 #[.int .i64 k,.agg #[.int .i64 m,.int .i64 1,.int .i64 0,.slice A 2 c],.int .i64 0] w fun e w'=>e=.returned (.tuple #[.slice none 0 0,.int .i64 0])/\Below w.heap.size w w':=by
 obtain⟨w1,hw1,hg1,hb1⟩:=boxC m 1 0 A 2 c w
 have hc2:2<=c:=h.2.1
 obtain⟨b,o,rfl,hr⟩:=uuA (n:=1) (h.below hb1 zN) zN
 obtain⟨A8,n8,c8,z0,z1,hs⟩:=uu6 hr (by simp)
 have z0:w1.cell? ⟨b,o+2,none⟩=some (.int .i64 2):=z0
 obtain rfl:n8=0:=hs.len
 have HS:Hid (Bs F w1 A8 0 c8 []):=zH hs
 have HW1:=zH hw1;have HB1:=zH hb1;have HK:=zH hk
 obtain⟨⟨a0,_⟩,⟨a1,_⟩,⟨a2,_⟩,⟨a3,_⟩⟩:=zzj hg1
 have i1:(1:Int)<=(c:Int):=by omega
 have i2:¬ c=1:=by omega
 have i3:(2:Int)<=(c:Int):=by omega
 clear h hr hs hw1 hg1 hb1 hk
 go_enter Tryz.func79,Tryz.ntmps79
 go_upto_region 1 with fail
 rw [<-HW1.out]
 go_wp2_with (first
  | (go_at_call 44;refine (zze _ _).mono ?_;rintro e w2 ⟨rfl,hw⟩;obtain rfl:=hw.symm;rw [decide_eq_true HK.out])
  | (go_at_call 141;refine (kqo _ A8 c8 k _ HS.out HK.out).mono ?_;rintro e w3 ⟨rfl,hb3⟩;have HB3:=zH (HB1.out.trans (hb3.mono HB1.out.size));clear hb3)
  | fail)
 go_ret2
 exact⟨rfl,HB3.out⟩
theorem zq7 (k m:Int) (F:Nat->Prop) (A:Option Addr) (c:Nat) (s0:Int×List UInt8) (w:World) (h:Sl zzo F w A 4 c [s0,(2,[]),(3,[]),(4,[])]) (hk:6<=k/\k<=7) :
 Calls Tryz.prog 79 #[.int .i64 k,.agg #[.int .i64 m,.int .i64 2,.int .i64 0,.slice A 4 c],.int .i64 0] w fun e w'=>e=.returned (.tuple #[.slice none 0 0,.int .i64 0])/\Below w.heap.size w w':=by
 obtain⟨w1,hw1,hg1,hb1⟩:=boxC m 2 0 A 4 c w
 have hc2:4<=c:=h.2.1
 obtain⟨b,o,rfl,hr⟩:=uuA (n:=3) (h.below hb1 zN) (by omega)
 have HS:=zH hr
 have HW1:=zH hw1;have HB1:=zH hb1
 have HK:Hid (¬ (1<=k/\k<=5)):=zH (by omega)
 obtain⟨⟨a0,_⟩,⟨a1,_⟩,⟨a2,_⟩,⟨a3,_⟩⟩:=zzj hg1
 have i1:(1:Int)<=(c:Int):=by omega
 have i2:¬ c=1:=by omega
 have i3:(4:Int)<=(c:Int):=by omega
 clear h hr hw1 hg1 hb1 hk
 go_enter Tryz.func79,Tryz.ntmps79
 go_upto_region 1 with fail
 rw [<-HW1.out]
 go_wp2_with (first
  | (go_at_call 44;refine (zze _ _).mono ?_;rintro e w2 ⟨rfl,hw⟩;obtain rfl:=hw.symm;rw [decide_eq_false HK.out])
  | (go_at_call 142;refine (kqq _ _ _ _ HS.out).mono ?_;rintro e w3 ⟨rfl,hb3⟩;have HB3:=zH (HB1.out.trans (hb3.mono HB1.out.size));clear hb3)
  | fail)
 go_loopw [11,62] (fun ov iv wr=>ov=.slice none 0 0/\iv=.int .i64 0/\Below w.heap.size w wr) (fun _ _ _=>0)
 case atStart=>exact⟨rfl,rfl,HB3.out⟩
 case round =>
  obtain⟨rfl,rfl,hb⟩:=hrel
  go_wp2_with fail
  go_ret2
  exact⟨rfl,hb⟩
end
end Go.Proofs.YtpmglcachffojaaGreatDoor
