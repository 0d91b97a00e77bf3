/- A part of what Indexes leans on. -/
import Derived.Test.YtpmglcachffojaaGreatDoorZ25
import Derived.Test.YtpmglcachffojaaGreatDoorZ26
import Derived.Sort.OwnSorted
import Derived.Test.YtpmglcachffojaaGreatDoorZS2
import Derived.Maps.OwnOps
import Derived.Maps.OwnSet
import Derived.Maps.Views
import Derived.StringKeys
set_option maxRecDepth 100000
set_option maxHeartbeats 16000000
namespace Go.Proofs.YtpmglcachffojaaGreatDoor
section
open Go Go.RowKit Go.Sort
def mkS (b:List UInt8):ByteArray:=⟨b.toArray⟩
def zzw (l:List ByteArray):List (List UInt8):=l.map (·.data.toList)
theorem mk_bytes (l:List ByteArray):(zzw l).map mkS=l:=by
 unfold zzw
 rw [List.map_map]
 conv=>rhs;rw [<-List.map_id l]
 rfl
theorem bytes_mk (l:List (List UInt8)):zzw (l.map mkS)=l:=by
 unfold zzw
 rw [List.map_map]
 conv=>rhs;rw [<-List.map_id l]
 apply List.map_congr_left
 intro b _
 simp [mkS]
theorem svs_mk (l:List (List UInt8)):svs (l.map mkS)=l.map encStr:=by
 unfold svs
 rw [List.map_map]
 rfl
theorem qz1 (l:List ByteArray):svs l=(zzw l).map encStr:=by rw [<-svs_mk,mk_bytes]
def vvK (l:List (List UInt8)):List (List UInt8):=l.mergeSort fun x y=>decide (x<=y)
def zz2 (l:List ByteArray):List (List UInt8):=Lib.compact (vvK (zzw l))
theorem OwnS.len {w:World} {B:Nat} {A:Option Addr} {n c:Nat} {l:List ByteArray} (h:OwnS w B A n c l):n=l.length:=by
 have:=h.1
 unfold svs at this
 simp at this
 omega
theorem xqO {w:World} {B:Nat} {A:Option Addr} {n c:Nat} {l:List ByteArray} (h:OwnS w B A n c l) {k:Nat} (hk:k<=n) (hA:A≠none):OwnS w B A k c (l.take k):=by
 have hl:=h.len
 refine⟨by unfold svs;simp;omega,?_⟩
 rcases h.2 with ⟨h1,h2⟩ | ⟨g,cap,cur,h1,hb,hg,hn,hc,hs,ht⟩
 · injection h1 with h1;exact absurd h1 hA
 · injection h1 with e1 e2 e3;subst e1 e3
   refine .inr ⟨g,c,cur,rfl,hb,hg,by omega,hc,hs,?_⟩
   have e4:svs (l.take k)=(svs l).take (k*1):=by unfold svs;rw [List.map_take,Nat.mul_one]
   rw [e4,<-ht,List.take_take,Nat.min_eq_left (Nat.mul_le_mul_right 1 hk)]
theorem sort_any (B:Nat) (A:Option Addr) (n c:Nat) (l:List ByteArray) (w:World) (h:OwnS w B A n c l) (hB:B<=w.heap.size) (hn:n<=4096) :
 Calls Tryz.prog 208 #[.slice A n c] w fun e w'=>e=.returned (.tuple #[])/\OwnS w' B A n c ((vvK (zzw l)).map mkS)/\Below B w w':=by
 have hl:=h.len
 have hlen:(zzw l).length=n:=by unfold zzw;simp;omega
 rcases h.2 with ⟨h1,h2⟩ | ⟨g,cap,cur,h1,hb,hg,hnc,hc,hs,ht⟩
 · injection h1 with e1 e2 e3
   subst e1 e3 h2
   have:l=[]:=List.length_eq_zero_iff.1 hl.symm
   subst this
   refine (Tryz.slices_Sort_string_none none 0 w).mono ?_
   rintro e w' ⟨rfl,rfl⟩
   exact⟨rfl,by simpa [zzw,vvK] using h,zR⟩
 · injection h1 with e1 e2 e3
   subst e1 e3
   have hH:Holds encStr w g 0 (zzw l).toArray:=holds_of_block hg (by rw [hlen,<-qz1,<-ht,Nat.mul_one])
   have hgl:g<w.heap.size:=(Array.getElem?_eq_some_iff.1 hg).1
   have hC:=Tryz.slices_Sort_string g 0 c (zzw l) w hH hgl (by omega)
   rw [hlen] at hC
   refine hC.mono ?_
   rintro e w' ⟨rfl,q,os,rfl⟩
   have hr:=ownsRow_sorted (n:=q) (os:=os) (ss:=zzw l) (ts:=vvK (zzw l)) (by simp [vvK]) hb hg (by omega) hc hs
   rw [hlen,<-svs_mk] at hr
   exact⟨rfl,hr,(Below.refl B w).grown (grownBy_sorted _) hB (fun j hj=>by cases hj;exact hb)⟩
theorem jjN (zs:List (List UInt8)):(Lib.compact zs).length<=zs.length:=by
 unfold Lib.compact Lib.compactUpTo
 rw [List.length_map]
 exact Nat.le_trans (List.length_filter_le _ _) (by simp)
theorem zqY (B:Nat) (A:Option Addr) (n c:Nat) (l:List ByteArray) (w:World) (h:OwnS w B A n c l) (hB:B<=w.heap.size) (hn:n<=4096) :
 Calls Tryz.prog 164 #[.slice A n c] w fun e w'=>e=.returned (.slice A (Lib.compact (zzw l)).length c)/\OwnS w' B A (Lib.compact (zzw l)).length c ((Lib.compact (zzw l)).map mkS)/\Below B w w':=by
 have hl:=h.len
 have hlen:(zzw l).length=n:=by unfold zzw;simp;omega
 rcases h.2 with ⟨h1,h2⟩ | ⟨g,cap,cur,h1,hb,hg,hnc,hc,hs,ht⟩
 · injection h1 with e1 e2 e3
   subst e1 e3 h2
   have:l=[]:=List.length_eq_zero_iff.1 hl.symm
   subst this
   refine (Tryz.slices_Compact_string_empty none 0 w).mono ?_
   rintro e w' ⟨rfl,rfl⟩
   exact⟨rfl,h,zR⟩
 · injection h1 with e1 e2 e3
   subst e1 e3
   have hH:Holds encStr w g 0 (zzw l).toArray:=holds_of_block hg (by rw [hlen,<-qz1,<-ht,Nat.mul_one])
   have hC:=Tryz.slices_Compact_string g 0 c (zzw l) w hH (by omega) (by omega)
   rw [hlen] at hC
   refine hC.mono ?_
   rintro e w' ⟨rfl,q,hw⟩
   have hcl:=jjN (zzw l)
   have hw2:w'=grow (Go.Sort.putRow encStr (Sort.ahead w q) g 0 (Lib.compact (zzw l)++List.replicate (n - (Lib.compact (zzw l)).length) []).toArray) #[]:=by rw [hw];simp [grow];rfl
   have hr:=ownsRow_sorted (n:=q) (os:=#[]) (ss:=zzw l) (ts:=Lib.compact (zzw l)++List.replicate (n - (Lib.compact (zzw l)).length) []) (by simp;omega) hb hg (by omega) hc hs
   rw [<-hw2,hlen,<-svs_mk] at hr
   have hf:=xqO (A:=some ⟨g,0,none⟩) hr (k:=(Lib.compact (zzw l)).length) (by omega) (by simp)
   rw [<-List.map_take,List.take_left' rfl] at hf
   exact⟨rfl,hf,by rw [hw2];exact (Below.refl B w).grown (grownBy_sorted _) hB (fun j hj=>by cases hj;exact hb)⟩
theorem xqP (A:Option Addr) (n c:Nat) (w:World) :
 Calls Tryz.prog 166 #[.slice A n c] w fun e w'=>e=.returned (.func (.func 209) #[] #[.pointer (some ⟨w.heap.size,0,none⟩)])/\w'=w.alloc (.cells #[.slice A n c] 89):=by
 go_enter Tryz.func166,Tryz.ntmps166
 go_wp2_with fail
 go_ret
 exact⟨rfl,rfl⟩
theorem zqZ (bb:Nat) (F:Nat->Prop) (A:Option Addr) (m c:Nat) (xs:List ByteArray) (w:World) (h0:w.cell? ⟨bb,0,none⟩=some (.slice A m c)) (hs:Sl tStr F w A m c xs) (hm:m<=4096) :
 Calls Tryz.prog 207 #[.func (.func 209) #[] #[.pointer (some ⟨bb,0,none⟩)]] w fun e W=>∃ A' c',e=.returned (.slice A' m c')/\OwnS W w.heap.size A' m c' xs/\Below w.heap.size w W:=by
 have H:=zH (xqN bb F A m c xs w h0 hs hm)
 clear h0 hs
 go_enter Tryz.func207,Tryz.ntmps207
 go_wp2_with (first
  | (go_at_call 251;refine H.out.mono ?_;rintro e w1 ⟨A1,c1,rfl,ho1,hb1⟩;have HO1:=zH ho1;have HB1:=zH hb1;clear ho1 hb1)
  | fail)
 go_ret
 exact⟨A1,c1,rfl,HO1.out,HB1.out⟩
theorem xqQ (bb:Nat) (F:Nat->Prop) (A:Option Addr) (m c:Nat) (xs:List ByteArray) (w:World) (h0:w.cell? ⟨bb,0,none⟩=some (.slice A m c)) (hs:Sl tStr F w A m c xs) (hm:m<=4096) :
 Calls Tryz.prog 165 #[.func (.func 209) #[] #[.pointer (some ⟨bb,0,none⟩)]] w fun e W=>∃ A' c',e=.returned (.slice A' m c')/\OwnS W w.heap.size A' m c' ((vvK (zzw xs)).map mkS)/\Below w.heap.size w W:=by
 have H:=zH (zqZ bb F A m c xs w h0 hs hm)
 clear h0 hs
 go_enter Tryz.func165,Tryz.ntmps165
 go_wp2_with (first
  | (go_at_call 207;refine H.out.mono ?_;rintro e w1 ⟨A1,c1,rfl,ho1,hb1⟩;have HO1:=zH ho1;have HB1:=zH hb1;clear ho1 hb1)
  | (go_at_call 208;refine (sort_any w.heap.size A1 m c1 xs w1 HO1.out HB1.out.size hm).mono ?_;rintro e w2 ⟨rfl,ho2,hb2⟩;have HO2:=zH ho2;have HB2:=zH (HB1.out.trans hb2);clear ho2 hb2)
  | fail)
 go_ret
 exact⟨A1,c1,rfl,HO2.out,HB2.out⟩
def zzx (l:List ByteArray):List ByteArray:=(zz2 l).map mkS
theorem words_any (F:Nat->Prop) (A:Option Addr) (n c:Nat) (l:List ByteArray) (w:World) (h:Sl tStr F w A n c l) (hn:n<=4096) :
 Calls Tryz.prog 99 #[.slice A n c] w fun e W=>∃ A' c',e=.returned (.slice A' (zz2 l).length c')/\OwnS W w.heap.size A' (zz2 l).length c' (zzx l)/\Below w.heap.size w W:=by
 obtain⟨w0,hw0⟩:∃ w0,w0=w.alloc (.cells #[.slice A n c] 89):=⟨_,rfl⟩
 have hb0:Below w.heap.size w w0:=by rw [hw0];exact (zR).alloc zN _
 have hc0:w0.cell? ⟨w.heap.size,0,none⟩=some (.slice A n c):=by rw [hw0,World.cell?_alloc_new];rfl
 have HS:=zH (xqQ w.heap.size F A n c l w0 hc0 (h.below hb0 zN) hn)
 have HB0:=zH hb0;have HW0:=zH hw0
 clear h hb0 hc0 hw0
 go_enter Tryz.func99,Tryz.ntmps99
 go_wp2_with (first
  | (go_at_call 166;refine (xqP A n c w).mono ?_;rintro e w1 ⟨rfl,hw1⟩;obtain rfl:w1=w0:=hw1.trans HW0.out.symm;clear hw1)
  | (go_at_call 165;refine HS.out.mono ?_;rintro e w2 ⟨A2,c2,rfl,ho2,hb2⟩;have HO2:=zH (show OwnS w2 w.heap.size A2 n c2 _ from vvR ho2 HB0.out.size);have HB2:=zH (HB0.out.trans (hb2.mono HB0.out.size));clear ho2 hb2)
  | (go_at_call 164;refine (zqY w.heap.size A2 n c2 _ w2 HO2.out HB2.out.size hn).mono ?_;rintro e w3 ⟨rfl,ho3,hb3⟩;rw [bytes_mk] at ho3 ⊢;have HO3:=zH ho3;have HB3:=zH (HB2.out.trans hb3);clear ho3 hb3)
  | fail)
 go_ret
 exact⟨A2,c2,rfl,HO3.out,HB3.out⟩
end
section
open Go Go.RowKit Go.Maps
def plD (H:Type) (ws:List (List UInt8)):Nat->DataW H
 | 0=>.map []
 | k+1=>(plD H ws k).put (.string (ws.getD k [])) (.lit (.int .i64 (k:Int)))
theorem jjO (s:List UInt8):WideAt.IsKeyLit (.string s):=trivial
theorem qz2 {ws:List (List UInt8)} (hn:ws.Nodup) {i j:Nat} (hi:i<ws.length) (hj:j<ws.length) (e:ws[i]=ws[j]):i=j:=by
 rcases Nat.lt_trichotomy i j with h | h | h
 · exact absurd e (List.pairwise_iff_getElem.1 hn i j hi hj h)
 · exact h
 · exact absurd e.symm (List.pairwise_iff_getElem.1 hn j i hj hi h)
theorem uu3 (H:Type) (ws:List (List UInt8)):∀ k,Tidy (plD H ws k)
 | 0=>tidy_empty
 | k+1=>(uu3 H ws k).put (jjO _) _
theorem uuv {ws:List (List UInt8)} {k:Nat} (h:k<ws.length):ws.getD k []=ws[k]:=by
 rw [List.getD_eq_getElem?_getD,List.getElem?_eq_getElem h];rfl
theorem plD_has (H:Type) (ws:List (List UInt8)) (s:List UInt8):∀ k,k<=ws.length->(has (plD H ws k) (.string s)=decide (s∈ws.take k))
 | 0,_=>by simp [plD,has]
 | k+1,hk=>by
   have ih:=plD_has H ws s k (by omega)
   have hkl:k<ws.length:=by omega
   rw [plD,uuv hkl,zT hkl]
   by_cases h:s=ws[k]
   · subst h
     rw [has_put_same (uu3 H ws k).isMap (jjO _)]
     symm
     rw [decide_eq_true_eq,List.mem_append,List.mem_singleton]
     exact .inr rfl
   · rw [has_put_other (by intro e;injection e with e;exact h e),ih,decide_eq_decide,List.mem_append,List.mem_singleton]
     exact⟨.inl,fun h'=>h'.resolve_right h⟩
theorem qxS (H:Type) (ws:List (List UInt8)) (hn:ws.Nodup):∀ k,k<=ws.length->Maps.size (plD H ws k)=k
 | 0,_=>rfl
 | k+1,hk=>by
   have ih:=qxS H ws hn k (by omega)
   have hkl:k<ws.length:=by omega
   have hno:has (plD H ws k) (.string ws[k])=false:=by
    rw [plD_has H ws _ k (by omega)]
    simp only [decide_eq_false_iff_not]
    intro hm
    obtain⟨i,hi,he⟩:=List.getElem_of_mem hm
    rw [List.getElem_take] at he
    rw [List.length_take] at hi
    have:=qz2 hn (by omega) hkl he
    omega
   rw [plD,uuv hkl,size_put (uu3 H ws k),hno,ih]
   rfl
theorem plD_at (H:Type) (ws:List (List UInt8)) (hn:ws.Nodup) (z:DataW H):∀ k,k<=ws.length->∀ i,i<k->(plD H ws k).atKey (.string (ws.getD i [])) z=.lit (.int .i64 (i:Int))
 | k+1,hk,i,hi=>by
   have hkl:k<ws.length:=by omega
   have hil:i<ws.length:=by omega
   rw [plD]
   by_cases h:i=k
   · subst h
     rw [atKey_put_same (uu3 H ws i).isMap (jjO _)]
   · rw [atKey_put_other]
     · exact plD_at H ws hn z k (by omega) i (by omega)
     · intro e
       injection e with e
       rw [uuv hil,uuv hkl] at e
       exact h (qz2 hn hil hkl e)
theorem xxD (d:Array (List UInt8)):∀ m,m<=d.size->∀ x,(x∈Lib.compactUpTo d m↔∃ i,i<m/\d[i]! = x)
 | 0,_,x=>by simp [Lib.compactUpTo]
 | m+1,hm,x=>by
   have ih:=xxD d m (by omega) x
   rw [Lib.compactUpTo_succ,List.mem_append,ih]
   constructor
   · rintro (⟨i,hi,he⟩ | h)
     · exact⟨i,by omega,he⟩
     · split at h
       · exact⟨m,by omega,(List.mem_singleton.1 h).symm⟩
       · cases h
   · rintro ⟨i,hi,he⟩
     rcases Nat.lt_or_ge i m with h | h
     · exact .inl ⟨i,h,he⟩
     · obtain rfl:i=m:=by omega
       by_cases hk:Lib.keeps d i=true
       · right
         rw [if_pos hk,<-he]
         exact List.mem_singleton.2 rfl
       · left
         have hk2:¬ (i=0∨d[i]! ≠ d[i - 1]!):=by simpa [Lib.keeps] using hk
         have h0:i≠0:=fun e=>hk2 (.inl e)
         have h1:d[i]! = d[i - 1]! := Classical.byContradiction fun e=>hk2 (.inr e)
         exact⟨i - 1,by omega,by rw [<-h1,he]⟩
theorem zq0 (zs:List (List UInt8)) (x:List UInt8):x∈Lib.compact zs↔x∈zs:=by
 unfold Lib.compact
 rw [xxD zs.toArray zs.length (by simp) x]
 constructor
 · rintro ⟨i,hi,rfl⟩
   simp [getElem!_pos,hi]
 · intro h
   obtain⟨i,hi,rfl⟩:=List.getElem_of_mem h
   exact⟨i,hi,by simp [getElem!_pos,hi]⟩
theorem qz3 (l:List ByteArray) (x:List UInt8):x∈zz2 l↔x∈zzw l:=by
 unfold zz2 vvK
 rw [zq0]
 exact (List.mergeSort_perm _ _).mem_iff
end
section
open Go Go.RowKit
theorem xqR (l:List (List UInt8)):(vvK l).Pairwise (fun a b=>a<=b):=by
 have tr:∀ a b c:List UInt8,decide (a<=b)=true->decide (b<=c)=true->decide (a<=c)=true:=fun a b c h1 h2=>by
  simp only [decide_eq_true_eq] at h1 h2 ⊢;exact List.le_trans h1 h2
 have tot:∀ a b:List UInt8,(decide (a<=b) || decide (b<=a))=true:=fun a b=>by simp only [Bool.or_eq_true,decide_eq_true_eq];exact List.le_total a b
 exact (List.pairwise_mergeSort tr tot l).imp fun {a b} h=>by simpa using h
theorem vvA (d:Array (List UInt8)) (hs:∀ i j,i<=j->j<d.size->d[i]! <= d[j]!):∀ m,m<=d.size->(Lib.compactUpTo d m).Pairwise (fun a b=>a<=b/\a≠b)
 | 0,_=>by simp [Lib.compactUpTo]
 | m+1,hm=>by
   have ih:=vvA d hs m (by omega)
   rw [Lib.compactUpTo_succ,List.pairwise_append]
   refine⟨ih,by split <;> simp,fun x hx y hy=>?_⟩
   split at hy
   · rename_i hk
     obtain rfl:=List.mem_singleton.1 hy
     obtain⟨i,hi,rfl⟩:=(xxD d m (by omega) x).1 hx
     refine⟨hs i m (by omega) (by omega),fun e=>?_⟩
     have hk2:m=0∨d[m]! ≠ d[m - 1]! := by simpa [Lib.keeps] using hk
     rcases hk2 with h | h
     · omega
     · have h1:=hs i (m - 1) (by omega) (by omega)
       have h2:=hs (m - 1) m (by omega) (by omega)
       rw [e] at h1
       exact h (List.le_antisymm h1 h2)
   · cases hy
theorem xqS (l:List ByteArray):(zz2 l).Pairwise (fun a b=>a<=b/\a≠b):=by
 unfold zz2 Lib.compact
 refine vvA _ (fun i j hij hj=>?_) _ (by simp)
 have hj':j<(vvK (zzw l)).length:=by simpa using hj
 have hi':i<(vvK (zzw l)).length:=by omega
 have e1:(vvK (zzw l)).toArray[i]! = (vvK (zzw l))[i]:=by simp [getElem!_pos,hi']
 have e2:(vvK (zzw l)).toArray[j]! = (vvK (zzw l))[j]:=by simp [getElem!_pos,hj']
 rw [e1,e2]
 rcases Nat.eq_or_lt_of_le hij with h | h
 · subst h;exact List.le_refl _
 · exact List.pairwise_iff_getElem.1 (xqR _) i j hi' hj' h
theorem jjP (l:List ByteArray):(zz2 l).Nodup:=(xqS l).imp fun h=>h.2
def yyx (l:List ByteArray) (s:ByteArray):Nat:=(zz2 l).idxOf s.data.toList
theorem uu4 (l:List ByteArray) {s:ByteArray} (h:s∈l):yyx l s<(zz2 l).length :=
 List.idxOf_lt_length_of_mem ((qz3 l _).2 (List.mem_map.2 ⟨s,h,rfl⟩))
theorem place_get (l:List ByteArray) {s:ByteArray} (h:s∈l):(zz2 l).getD (yyx l s) []=s.data.toList:=by
 rw [uuv (uu4 l h)]
 exact List.getElem_idxOf (uu4 l h)
theorem qz4 (l:List ByteArray):(zz2 l).length<=l.length:=by
 refine Nat.le_trans (jjN _) ?_
 unfold vvK zzw
 simp
end
section
open Go Go.RowKit
def zzT (l:List ByteArray):List UInt8:=(zzw l).flatten
theorem qzd:∀ l:List (List UInt8),Lib.join l []=l.flatten
 | []=>rfl
 | [x]=>by simp [Lib.join]
 | x::y::r=>by
   have ih:=qzd (y::r)
   have e:List.intersperse ([]:List UInt8) (x::y::r)=x::[]::List.intersperse [] (y::r):=rfl
   unfold Lib.join List.intercalate at ih ⊢
   rw [e,List.flatten_cons,List.flatten_cons,ih,List.nil_append]
   rfl
theorem xxs:∀ l:List ByteArray,(∀ s∈l,s.size<=300)->(zzT l).length<=300*l.length
 | [],_=>by simp [zzT,zzw]
 | x::r,h=>by
   have ih:=xxs r (fun s hs=>h s (List.mem_cons_of_mem _ hs))
   have hx:=h x (List.mem_cons_self ..)
   have e:(zzT (x::r)).length=x.data.toList.length+(zzT r).length:=by simp [zzT,zzw]
   have e2:x.data.toList.length=x.size:=by rw [Array.length_toList];rfl
   rw [e,List.length_cons]
   omega
theorem qxT (F:Nat->Prop) (A:Option Addr) (n c:Nat) (l:List ByteArray) (w:World) (h:Sl tStr F w A n c l) (hn:n<=4096) (hs:∀ s∈l,s.size<=300) :
 Calls Tryz.prog 100 #[.slice A n c,.string ⟨#[]⟩] w fun e w'=>e=.returned (.string (mkS (zzT l)))/\Below w.heap.size w w':=by
 have hl:=h.len
 cases A with
 | none =>
   have hl0:l=[]:=by
    cases l with
    | nil=>rfl
    | cons x r=>obtain⟨b,o,_,e,_⟩:=h.at1 (k:=0) (by simp) rfl;cases e
   subst hl0
   obtain rfl:n=0:=hl
   refine (Tryz.strings_Join_none none c ⟨#[]⟩ w).mono ?_
   rintro e w' ⟨he,hw⟩
   exact⟨by rw [he];rfl,by first | exact hw | (rw [hw];exact zR)⟩
 | some a =>
   by_cases hl0:l=[]
   · subst hl0
     obtain rfl:n=0:=hl
     refine (Tryz.strings_Join_none (some a) c ⟨#[]⟩ w).mono ?_
     rintro e w' ⟨he,hw⟩
     exact⟨by rw [he];rfl,by first | exact hw | (rw [hw];exact zR)⟩
   · have hlp:0<l.length:=List.length_pos_iff.2 hl0
     obtain⟨b,o,u0,e0,_,hbl,_,_⟩:=h.at1 (k:=0) hlp rfl
     injection e0 with e0
     subst e0
     have hcells:∀ (j:Nat) x,l[j]?=some x->w.cell? ⟨b,o+j,none⟩=some (.string x):=fun j x hx=>by
      obtain⟨hj,rfl⟩:=List.getElem?_eq_some_iff.1 hx
      obtain⟨b2,o2,u,e2,_,_,hr,hc⟩:=h.at1 hj rfl
      injection e2 with e2;injection e2 with e3 e4 _;subst e3;subst e4
      obtain⟨hr,_⟩:=hr
      injection hr with hr;subst hr
      exact hc
     have hJ:=Tryz.strings_Join b o c l ⟨#[]⟩ w hcells hbl (by omega) (by have:=h.2.1;omega) (by
      show (Lib.join (zzw l) []).length<=_
      rw [qzd]
      have:=xxs l hs
      unfold zzT at this
      omega)
     rw [<-hl] at hJ
     refine hJ.mono ?_
     rintro e w' ⟨he,hw⟩
     refine⟨?_,hw⟩
     rw [he]
     show Ending.returned (.string ⟨(Lib.join (zzw l) []).toArray⟩)=_
     rw [qzd]
     rfl
end
section
open Go Go.RowKit Go.Maps
theorem qxU:∀ l:List ByteArray,(l.map fun s=>[Value.string s]).flatten=svs l
 | []=>rfl
 | x::r=>by
   have ih:=qxU r
   unfold svs at ih ⊢
   rw [List.map_cons,List.flatten_cons,ih]
   rfl
theorem ownS_F {w:World} {B:Nat} {A:Option Addr} {n c:Nat} {l:List ByteArray} (h:OwnS w B A n c l) (hs:∀ s∈l,s.size<=maxLen):OwnF tStr 9 (fun _=>False) w B A n c l:=by
 have e:=qxU l
 refine⟨⟨l.map fun s=>[Value.string s],by rw [e];exact h,by simp,fun i cs x h1 h2=>?_⟩,by simp,h.len⟩
 rw [List.getElem?_map,h2] at h1
 simp at h1
 subst h1
 exact⟨rfl,hs x (List.mem_of_getElem? h2)⟩
theorem vvL {l:List ByteArray} (hs:∀ s∈l,s.size<=300):∀ s∈zzx l,s.size<=300:=by
 intro s h
 obtain⟨b,hb,rfl⟩:=List.mem_map.1 h
 obtain⟨t,ht,rfl⟩:=List.mem_map.1 ((qz3 l b).1 hb)
 exact hs t ht
theorem words_get (ws:List (List UInt8)) {k:Nat} (hk:k<ws.length) (hk2:k<(ws.map mkS).length):((ws.map mkS)[k]).data.toList=ws.getD k []:=by
 rw [List.getElem_map,uuv hk]
 simp [mkS]
theorem wf_small (k:Nat) (h:k<=4096):(Lit.int .i64 (k:Int)).wf=true:=by
 have h1:IntKind.i64.min = -9223372036854775808:=by decide
 have h2:IntKind.i64.max=9223372036854775807:=by decide
 show (decide (IntKind.i64.min<=(k:Int))&&decide ((k:Int)<=IntKind.i64.max))=true
 rw [h1,h2]
 simp
 omega
theorem uuw (x:Int) (h:0<=x/\x<=4096) : -9223372036854775808<=x/\x<=9223372036854775807:=by omega
theorem law9:Keyed Tryz.prog 9:=string_keyed Tryz.underlying9
theorem zero3 (w:World):(zeroValue 3).run Tryz.prog w=.ok (.int .i64 0) w:=by kernel_rfl
def txC (l:List ByteArray):Int×Int×List (Int×List UInt8) :=
 if l.length<2*(zz2 l).length then (1,0,[(2,zzT l),(3,uuu l)])
 else (2,((zz2 l).length:Int),[(2,rleB false (l.map fun s=>(yyx l s:Int))),(3,uuu (zzx l)),(4,zzT (zzx l))])
def qxV (l:List ByteArray) (w:World) (e:Ending) (w':World):Prop :=
 ∃ A n c,e=.returned (.tuple #[.agg #[.int .i64 (l.length:Int),.int .i64 (txC l).1,.int .i64 (txC l).2.1,.slice A n c],.int .i64 0])/\Sl yyE (fun b=>w.heap.size<=b) w' A n c (txC l).2.2/\Below w.heap.size w w'
theorem tput_any (F:Nat->Prop) (A:Option Addr) (n c:Nat) (l:List ByteArray) (w:World) (h:Sl tStr F w A n c l) (hn:n<=4096) (hs:∀ s∈l,s.size<=300) :
 Calls Tryz.prog 46 #[.slice A n c] w (qxV l w):=by
 have HL:=zH h.len;have H:=zH h;have HS:=zH hs
 have hn1:¬ (n:Int) > 4096:=by omega
 have hn2:¬ (4096:Int)<n:=by omega
 have hmm:=@run_makeMap Tryz.prog
 have HWL:=zH (qz4 l)
 obtain⟨m,hm⟩:∃ m,m=(zz2 l).length:=⟨_,rfl⟩
 have HM:=zH hm
 obtain⟨wc,hwc⟩:∃ wc,wc=w.alloc (.cells #[.int .i64 0,.int .i64 0,.int .i64 0,.slice none 0 0] 27):=⟨_,rfl⟩
 have hbc:Below w.heap.size w wc:=by rw [hwc];exact (zR).alloc zN _
 have hgc:wc.heap[w.heap.size]?=some (.cells #[.int .i64 0,.int .i64 0,.int .i64 0,.slice none 0 0] 27 (0,0)):=by rw [hwc];exact heap_alloc_new w _
 have HWC:=zH hwc;have HBC:=zH hbc;have HGC:=zH hgc
 clear h hs hm hwc hbc hgc
 go_enter Tryz.func46,Tryz.ntmps46
 go_upto_region 1 with fail
 rw [<-HWC.out]
 go_wp2_with (first
  | (go_at_call 97;refine (long_any F A n c l _ (H.out.below HBC.out zN) HS.out (by omega)).mono ?_;rintro e w1 ⟨rfl,hb1⟩;have HB1:=zH hb1;have HW1:=zH (HBC.out.trans (hb1.mono HBC.out.size));clear hb1)
  | (go_at_call 99;refine (words_any F A n c l _ (H.out.below (HW1.out.alloc HW1.out.size _) zN) hn).mono ?_;rintro e w3 ⟨A3,c3,rfl,ho3,hb3⟩;rw [<-HM.out] at ho3 ⊢;have HO3:=zH ho3;have HB3:=zH hb3;clear ho3 hb3)
  | fail)
 have hmap:w3.ownsMap Tryz.prog 9 (plainElem (H:=Unit) Tryz.prog 3) w1.heap.size 0 (.map []):=(World.ownsMap_made w1 _ _ _).kept (zzu (row:=none) HB3.out) (by simp)
 have HOF:=zH (ownS_F HO3.out (fun s hs=>Nat.le_trans (vvL HS.out s hs) (by unfold maxLen;omega))).sl
 obtain⟨mb,hmb⟩:∃ mb,mb=w1.heap.size:=⟨_,rfl⟩
 have HMB:=zH hmb
 rw [<-hmb] at hmap
 rw [<-hmb]
 have HMAP:=zH hmap
 have hm4:m<=4096:=by have:=HWL.out;rw [<-HM.out,<-HL.out] at this;omega
 clear hmap hmb
 go_loopw [28] (fun iv wr=>∃ k:Nat,k<=m/\iv=.int .i64 (k:Int)/\wr.ownsMap Tryz.prog 9 (plainElem (H:=Unit) Tryz.prog 3) mb k (plD Unit (zz2 l) k)/\w3.grownBy wr (some mb)) (fun iv _=>m - (intOf iv).toNat)
 case atStart=>exact⟨0,Nat.zero_le _,rfl,HMAP.out,zzu (zR)⟩
 case round =>
  obtain⟨k,hk,rfl,hown,hgr⟩:=hrel
  have HGR:=zH hgr
  by_cases hlt:k<m
  · have hkw:k<(zz2 l).length:=by rw [<-HM.out];exact hlt
    have hkl:k<(zzx l).length:=by unfold zzx;rw [List.length_map];exact hkw
    obtain⟨b,o,u,rfl,_,hbl,hr,hc⟩:=(HOF.out.keep hgr.size (fun b hb hl=>hgr.block b hl (fun e=>by
     injection e with e
     rcases hb with hb | hb
     · exact hb
     · have:=hb.2;rw [zS] at this;have:=HMB.out;omega))).at1 hkl rfl
    obtain⟨s,hs⟩:∃ s,s=(zzx l)[k]:=⟨_,rfl⟩
    obtain⟨hr,hsz⟩:=hr
    injection hr with hr;subst hr
    rw [<-hs] at hc hsz
    have HSK:=zH (show (zz2 l).getD k []=s.data.toList by rw [hs];exact (words_get (zz2 l) hkw hkl).symm)
    have hkey:Go.keyOf Tryz.prog 9 (.string s)=some (.string s.data.toList):=WideMaps.keyOf_string_mk Tryz.underlying9 hsz
    have hwf:(Lit.int .i64 (k:Int)).wf=true:=wf_small k (by omega)
    have hi0:(0:Int)<=(k:Int):=by omega
    have hi1:(k:Int)<(m:Int):=by omega
    clear hgr hs
    go_wp2_with (first
     | (at_mapUpdate;refine wpList_mapUpdate_own _ rfl _ _ _ 159 rfl 9 3 law9 Tryz.underlying159 _ mb k _ (by rfl) hown (by unfold maxLen;omega) _ _ _ (by rfl) (by rfl) hkey _ [] (plainElem_int Tryz.underlying3 hwf) ?_;intro w4 hown4 hgrow4)
     | fail)
    go_roundw
    case rel=>exact⟨k+1,by omega,by go_num,by rw [plD,HSK.out];exact hown4,jjM HGR.out hgrow4⟩
    case measure=>simp [intOf];omega
  · obtain rfl:k=m:=by omega
    have hsize:Maps.size (plD Unit (zz2 l) k)=k:=qxS Unit _ (jjP l) k (by rw [<-HM.out];exact Nat.le_refl _)
    have hml:=hown.len Tryz.underlying159
    rw [hsize] at hml
    have HOWN:=zH hown
    have hw2:Below w.heap.size w (w1.alloc (.map #[] 0)):=HW1.out.alloc HW1.out.size _
    have hmbl:w.heap.size<mb:=by have:=HB1.out.size;have:=zzc HGC.out;have:=HMB.out;omega
    have hbr:Below w.heap.size w wr:=(hw2.trans (HB3.out.mono hw2.size)).grown hgr (hw2.trans (HB3.out.mono hw2.size)).size (fun q e=>by injection e with e;omega)
    have hgw:wr.heap[w.heap.size]?=some (.cells #[.int .i64 0,.int .i64 0,.int .i64 0,.slice none 0 0] 27 (0,0)):=by
     have h1:=zzc HGC.out
     have h2:w.heap.size<w1.heap.size:=by have:=HB1.out.size;omega
     exact (hgr.block _ (by have:=HB3.out.size;rw [zS] at this;omega) (fun e=>by injection e with e;omega)).trans ((HB3.out.block _ (by rw [zS];omega)).trans ((Below.heap_alloc w1 _ _ h2).trans ((HB1.out.block _ h1).trans HGC.out)))
    have HBR:=zH hbr;have HGW:=zH hgw
    clear hgr hown hsize hw2 hbr hgw
    go_upto_if 42 with fail
    by_cases hlt2:n<2*k
    · have hI:(n:Int)<2*(k:Int):=by omega
      clear hml
      have hsb:=fun w=>qxp w (mkS (zzT l))
      go_wp2_with (first
       | (go_at_call 100;refine (qxT F A n c l _ (H.out.below HBR.out zN) hn HS.out).mono ?_;rintro e w5 ⟨rfl,hb5⟩;have HB5:=zH (HBR.out.trans (hb5.mono HBR.out.size));have HW5:=zH hb5;clear hb5)
       | (go_at_call 101;refine (qxR F A n c l _ (H.out.below ((HB5.out.alloc HB5.out.size _).drew) zN) hn).mono ?_;rintro e w6 ⟨A6,n6,c6,rfl,ho6,hb6⟩;have hg6:w6.heap[w.heap.size]?=some (.cells #[.int .i64 0,.int .i64 0,.int .i64 0,.slice none 0 0] 27 (0,0)):=(hb6.block _ (by have h1:=zzc HGW.out;have h2:=HW5.out.size;simp;omega)).trans ((Below.heap_alloc w5 _ _ (by have h1:=zzc HGW.out;have h2:=HW5.out.size;omega)).trans ((HW5.out.block _ (zzc HGW.out)).trans HGW.out));have hga:∀ o:Obj,(w6.alloc o).heap[w.heap.size]?=some (.cells #[.int .i64 0,.int .i64 0,.int .i64 0,.slice none 0 0] 27 (0,0)):=(fun o=>(Below.heap_alloc w6 o _ (zzc hg6)).trans hg6);have z0:∀ o:Obj,(w6.alloc o).cell? ⟨w.heap.size,0,none⟩=some (.int .i64 0):=(fun o=>by rw [zC (hga o)];rfl);have y0:∀ o:Obj,(w6.alloc o).frozen? ⟨w.heap.size,0,none⟩=false:=(fun o=>zF (hga o) 0);have z1:∀ o:Obj,(w6.alloc o).cell? ⟨w.heap.size,1,none⟩=some (.int .i64 0):=(fun o=>by rw [zC (hga o)];rfl);have y1:∀ o:Obj,(w6.alloc o).frozen? ⟨w.heap.size,1,none⟩=false:=(fun o=>zF (hga o) 1);have z2:∀ o:Obj,(w6.alloc o).cell? ⟨w.heap.size,2,none⟩=some (.int .i64 0):=(fun o=>by rw [zC (hga o)];rfl);have y2:∀ o:Obj,(w6.alloc o).frozen? ⟨w.heap.size,2,none⟩=false:=(fun o=>zF (hga o) 2);have z3:∀ o:Obj,(w6.alloc o).cell? ⟨w.heap.size,3,none⟩=some (.slice none 0 0):=(fun o=>by rw [zC (hga o)];rfl);have y3:∀ o:Obj,(w6.alloc o).frozen? ⟨w.heap.size,3,none⟩=false:=(fun o=>zF (hga o) 3);clear hga;have HG6:=zH hg6;have HO6:=zH ho6;have HB6:=zH hb6;clear ho6 hb6 hg6)
       | fail)
      have e1:txC l=(1,0,[(2,zzT l),(3,uuu l)]):=if_pos (by rw [<-HL.out,<-HM.out];exact hlt2)
      have hb56:Below (w5.alloc (vvD w5 (mkS (zzT l)))).heap.size (w5.alloc (vvD w5 (mkS (zzT l)))) w6:=(zR).drew.trans HB6.out
      have h5:w.heap.size+1<=w5.heap.size:=by have:=zzc HGW.out;have:=HW5.out.size;omega
      have hjl:=xxs l HS.out
      rw [<-HL.out] at hjl
      have s1:Sl tU8 (fun b=>w.heap.size+1<=b) w6 (some ⟨w5.heap.size,0,none⟩) (mkS (zzT l)).size (jj8 w5 (mkS (zzT l))) (zzT l) :=
       ((kqR (w:=w5) (w0:=w5) (s:=mkS (zzT l)) (by show (zzT l).toArray.size<=_;simp [maxLen];omega)).weaken (F':=fun b=>w.heap.size+1<=b) (fun b hb _=>by omega)).below hb56 zN
      have s2:Sl tU8 (fun b=>w.heap.size+1<=b) w6 A6 n6 c6 (uuu l):=HO6.out.own.sl.weaken fun b hb _=>by
       rcases hb with hb | hb
       · exact hb.elim
       · have h7:=hb.2
         simp at h7
         omega
      have h56:=HB6.out.size
      have hw6:w5.heap.size+1<=w6.heap.size:=by simpa using h56
      have s3:=Sl.news (T:=yyE) (F:=fun b=>w.heap.size+1<=b) (w:=w6) (Reps.mk2 (T:=yyE) (x1:=((2:Int),zzT l)) (x2:=((3:Int),uuu l)) ⟨[.int .i64 2],_,rfl,⟨rfl,uuw 2 (by omega)⟩,_,_,_,rfl,s1⟩ ⟨[.int .i64 3],_,rfl,⟨rfl,uuw 3 (by omega)⟩,_,_,_,rfl,s2⟩) 55 2 rfl (by omega) _ rfl
      refine bodyPost_ret (zzM rfl _ _ w.heap.size 27 #[.int .i64 (n:Int),.int .i64 1,.int .i64 0,.slice (some ⟨w6.heap.size,0,none⟩) 2 2] (0,0) _ rfl (zza (zza (zza (zza ((Below.heap_alloc w6 _ _ (zzc HG6.out)).trans HG6.out) rfl) rfl) rfl) rfl) Tryz.underlying27 rfl (by kernel_rfl)) rfl ?_
      unfold qxV
      rw [e1]
      refine⟨some ⟨w6.heap.size,0,none⟩,2,2,by rw [<-HL.out];rfl,(s3.keep (by simp) (fun b hb _=>?_)).weaken (fun b hb _=>by rcases hb with hb | hb <;> omega),?_⟩
      · have hne:b≠w.heap.size:=by rcases hb with hb | hb <;> omega
        exact (Below.heap_setCell _ _ _ _ hne).trans ((Below.heap_setCell _ _ _ _ hne).trans ((Below.heap_setCell _ _ _ _ hne).trans (Below.heap_setCell _ _ _ _ hne)))
      · have hbb:Below w.heap.size w w6:=((HB5.out.alloc HB5.out.size _).drew).trans (HB6.out.mono (by simp;omega))
        exact zzi (zzi (zzi (zzi (hbb.alloc (by omega) _) zN _) zN _) zN _) zN _
    · have hI:¬ (n:Int)<2*(k:Int):=by omega
      clear hml
      obtain⟨wq,hwq⟩:∃ wq,wq=wr:=⟨_,rfl⟩
      rw [<-hwq] at HBR HGW HOWN ⊢
      go_wp2_with fail
      go_loopw [9,56] (fun v iv wx=>∃ (j:Nat) (A5:Option Addr) (c5:Nat) (G:Nat->Prop),j<=n/\iv=.int .i64 (j:Int)/\v=.slice A5 j c5/\OwnF tI64 3 G wx wq.heap.size A5 j c5 ((l.take j).map fun s:ByteArray=>(yyx l s:Int))/\Below wq.heap.size wq wx) (fun _ iv _=>n - (intOf iv).toNat)
      case atStart=>exact⟨0,none,0,fun _=>False,Nat.zero_le _,rfl,rfl,OwnF.nil_ _ _ _ _ _,by rw [hwq];exact zR⟩
      case round =>
       obtain⟨j,A5,c5,G,hj,rfl,rfl,hown5,hb5⟩:=hrel
       have HO5:=zH hown5;have HB5:=zH hb5
       by_cases hjn:j<n
       · have hjl:j<l.length:=by rw [<-HL.out];exact hjn
         have hbj:Below w.heap.size w _:=HBR.out.trans (hb5.mono HBR.out.size)
         obtain⟨b,o,u,rfl,_,hbl,hr,hc⟩:=(H.out.below hbj zN).at1 hjl rfl
         have hsj:=List.getElem_mem hjl
         obtain⟨t,ht⟩:∃ t,t=l[j]:=⟨_,rfl⟩
         obtain⟨hr,hsz⟩:=hr
         injection hr with hr;subst hr
         rw [<-ht] at hc hsz hsj
         have hkey:Go.keyOf Tryz.prog 9 (.string t)=some (.string t.data.toList):=WideMaps.keyOf_string_mk Tryz.underlying9 hsz
         have hpl:=uu4 l hsj
         have hat:=plD_at Unit (zz2 l) (jjP l) (.lit (.int .i64 0)) k (by rw [<-HM.out];exact Nat.le_refl _) (yyx l t) (by rw [HM.out];exact hpl)
         rw [place_get l hsj] at hat
         have hp4:yyx l t<=4096:=by have:=HM.out;omega
         have hp5:(0:Int)<=(yyx l t:Int)/\(yyx l t:Int)<=4096:=by omega
         have HAT:=zH hat;have HT:=zH ht
         have hmj:=HOWN.out.kept (zzu (row:=none) hb5) (by simp)
         have hi0:(0:Int)<=(j:Int):=by omega
         have hi1:(j:Int)<(n:Int):=by omega
         clear hat ht hbj hown5 hb5
         go_wp2_with (first
          | (at_lookup;refine wpList_lookup_own_int _ rfl _ _ 159 rfl 9 3 .i64 law9 Tryz.underlying159 Tryz.underlying3 (zero3 _) mb k _ (by rfl) hmj _ _ (by rfl) hkey ?_;intro q hq hwq2;obtain rfl:q=(yyx l t:Int):=(by rw [HAT.out] at hq;injection hq with hq;injection hq with _ hq;exact hq.symm))
          | (at_builtin;refine apl1 (T:=tI64) vvJ wr wq rfl (.tmp 60) (.tmp 64) rfl wq.heap.size A5 j c5 ((l.take j).map fun s:ByteArray=>(yyx l s:Int)) (by rfl) G (fun _=>False) HO5.out HB5.out zN _ (by rfl) [.int .i64 (yyx l t:Int)] (yyx l t:Int) ⟨rfl,uuw _ hp5⟩ 3 rfl (fun _ _ _ _ h4=>h4) (by omega) ?_;intro A6 c6 w6 h6)
          | fail)
         go_roundw
         case rel=>exact⟨j+1,A6,c6,_,by omega,by go_num,rfl,by rw [zT hjl,List.map_append,<-HT.out];exact h6.own,h6.below⟩
         case measure=>simp [intOf];omega
       · obtain rfl:j=n:=by omega
         have htk:l.take j=l:=zL (by rw [<-HL.out];exact Nat.le_refl _)
         rw [htk] at hown5
         have HPS:=zH hown5.sl
         have HOK:=zH (show yyK false (l.map fun s:ByteArray=>(yyx l s:Int)) from by
          intro x hx
          obtain⟨s,hs,rfl⟩:=List.mem_map.1 hx
          have h1:=uu4 l hs
          have h2:=HM.out
          exact⟨by omega,by omega,.inr (by omega)⟩)
         have hbr5:Below w.heap.size w wr:=HBR.out.trans (hb5.mono HBR.out.size)
         have HB5:=zH hbr5
         have hgr5:wr.heap[w.heap.size]?=some (.cells #[.int .i64 0,.int .i64 0,.int .i64 0,.slice none 0 0] 27 (0,0)):=(hb5.block _ (zzc HGW.out)).trans HGW.out
         have HGR5:=zH hgr5
         have hwords:=(HOF.out.keep HGR.out.size (fun b hb hl=>HGR.out.block b hl (fun e=>by
          injection e with e
          rcases hb with hb | hb
          · exact hb
          · have:=hb.2;rw [zS] at this;have:=HMB.out;omega))).weaken (F':=fun _=>True) (fun _ _ _=>trivial)
         rw [<-hwq] at hwords
         have HWS:=zH (hwords.below hb5 zN)
         have HSM:=zH (vvL HS.out)
         have hsb:=fun w=>qxp w (mkS (zzT (zzx l)))
         clear hown5 hb5 hbr5 hgr5 hwords htk
         go_upto_region 20 with (first
          | (go_at_call 92;refine (jjG _ A5 j c5 _ _ HPS.out hn false HOK.out).mono ?_;rintro e w5 ⟨hb5,A7,n7,c7,rfl,ho5⟩;have HO7:=zH ho5;have HB7:=zH hb5;have HG7:=zH ((hb5.block _ (zzc HGR5.out)).trans HGR5.out);clear ho5 hb5)
          | fail)
         have HB8:=zH (HB5.out.trans (HB7.out.mono HB5.out.size))
         have HWS8:=zH (HWS.out.below HB7.out zN)
         have hG8:Hid (w5.heap[w.heap.size]?=some (.cells #[.int .i64 0,.int .i64 0,.int .i64 0,.slice none 0 0] 27 (0,0))):=HG7
         have hm4:=hm4
         go_wp2_with (first
          | (go_at_call 101;refine (qxR _ A3 k c3 (zzx l) _ HWS8.out hm4).mono ?_;rintro e w6 ⟨A6,n6,c6,rfl,ho6,hb6⟩;have HO6:=zH ho6;have HB6:=zH hb6;have HWS6:=zH (HWS8.out.below hb6 zN);clear ho6 hb6)
          | (go_at_call 100;refine (qxT _ A3 k c3 (zzx l) _ HWS6.out hm4 HSM.out).mono ?_;rintro e w8 ⟨rfl,hb8⟩;have HBJ:=zH hb8;have hg8:w8.heap[w.heap.size]?=some (.cells #[.int .i64 0,.int .i64 0,.int .i64 0,.slice none 0 0] 27 (0,0)):=(hb8.block _ (by have h1:=zzc hG8.out;have h2:=HB6.out.size;omega)).trans ((HB6.out.block _ (zzc hG8.out)).trans hG8.out);have HG8:=zH hg8;have hga:∀ o1 o2:Obj,((w8.alloc o1).alloc o2).heap[w.heap.size]?=some (.cells #[.int .i64 0,.int .i64 0,.int .i64 0,.slice none 0 0] 27 (0,0)):=(fun o1 o2=>(Below.heap_alloc _ o2 _ (by rw [zS];exact Nat.lt_succ_of_lt (zzc hg8))).trans ((Below.heap_alloc w8 o1 _ (zzc hg8)).trans hg8));have z0:∀ o1 o2:Obj,((w8.alloc o1).alloc o2).cell? ⟨w.heap.size,0,none⟩=some (.int .i64 0):=(fun o1 o2=>by rw [zC (hga o1 o2)];rfl);have y0:∀ o1 o2:Obj,((w8.alloc o1).alloc o2).frozen? ⟨w.heap.size,0,none⟩=false:=(fun o1 o2=>zF (hga o1 o2) 0);have z1:∀ o1 o2:Obj,((w8.alloc o1).alloc o2).cell? ⟨w.heap.size,1,none⟩=some (.int .i64 0):=(fun o1 o2=>by rw [zC (hga o1 o2)];rfl);have y1:∀ o1 o2:Obj,((w8.alloc o1).alloc o2).frozen? ⟨w.heap.size,1,none⟩=false:=(fun o1 o2=>zF (hga o1 o2) 1);have z2:∀ o1 o2:Obj,((w8.alloc o1).alloc o2).cell? ⟨w.heap.size,2,none⟩=some (.int .i64 0):=(fun o1 o2=>by rw [zC (hga o1 o2)];rfl);have y2:∀ o1 o2:Obj,((w8.alloc o1).alloc o2).frozen? ⟨w.heap.size,2,none⟩=false:=(fun o1 o2=>zF (hga o1 o2) 2);have z3:∀ o1 o2:Obj,((w8.alloc o1).alloc o2).cell? ⟨w.heap.size,3,none⟩=some (.slice none 0 0):=(fun o1 o2=>by rw [zC (hga o1 o2)];rfl);have y3:∀ o1 o2:Obj,((w8.alloc o1).alloc o2).frozen? ⟨w.heap.size,3,none⟩=false:=(fun o1 o2=>zF (hga o1 o2) 3);clear hb8 hg8 hga)
          | fail)
         have e1:txC l=(2,(k:Int),[(2,rleB false (l.map fun s:ByteArray=>(yyx l s:Int))),(3,uuu (zzx l)),(4,zzT (zzx l))]):=by
          rw [HM.out]
          exact if_neg (by rw [<-HL.out,<-HM.out];exact hlt2)
         have hjl:=xxs (zzx l) HSM.out
         have hwl:(zzx l).length=k:=by rw [HM.out];unfold zzx;rw [List.length_map]
         rw [hwl] at hjl
         have h5:w.heap.size+1<=wr.heap.size:=by have:=zzc HGR5.out;omega
         have h57:=HB7.out.size
         have h67:=HB6.out.size
         have h87:=HBJ.out.size
         have hb58:Below w5.heap.size w5 (w8.alloc (vvD w8 (mkS (zzT (zzx l))))).drew:=((HB6.out.trans (HBJ.out.mono HB6.out.size)).alloc (by omega) _).drew
         have hb68:Below w6.heap.size w6 (w8.alloc (vvD w8 (mkS (zzT (zzx l))))).drew:=(HBJ.out.alloc (by omega) _).drew
         have s1:Sl tU8 (fun b=>w.heap.size+1<=b) (w8.alloc (vvD w8 (mkS (zzT (zzx l))))).drew A7 n7 c7 (rleB false (l.map fun s:ByteArray=>(yyx l s:Int))):=(HO7.out.own.sl.below hb58 zN).weaken fun b hb _=>by
          rcases hb with hb | hb
          · exact hb.elim
          · have h7:=hb.2
            omega
         have s2:Sl tU8 (fun b=>w.heap.size+1<=b) (w8.alloc (vvD w8 (mkS (zzT (zzx l))))).drew A6 n6 c6 (uuu (zzx l)):=(HO6.out.own.sl.below hb68 zN).weaken fun b hb _=>by
          rcases hb with hb | hb
          · exact hb.elim
          · have h7:=hb.2
            omega
         have s4:Sl tU8 (fun b=>w.heap.size+1<=b) (w8.alloc (vvD w8 (mkS (zzT (zzx l))))).drew (some ⟨w8.heap.size,0,none⟩) (mkS (zzT (zzx l))).size (jj8 w8 (mkS (zzT (zzx l)))) (zzT (zzx l)) :=
          ((kqR (w:=w8) (w0:=w8) (s:=mkS (zzT (zzx l))) (by show (zzT (zzx l)).toArray.size<=_;simp [maxLen];omega)).weaken (F':=fun b=>w.heap.size+1<=b) (fun b hb _=>by omega)).drew
         have s3:=Sl.news (T:=yyE) (F:=fun b=>w.heap.size+1<=b) (w:=(w8.alloc (vvD w8 (mkS (zzT (zzx l))))).drew) (Reps.mk3 (T:=yyE) (x1:=((2:Int),rleB false (l.map fun s:ByteArray=>(yyx l s:Int)))) (x2:=((3:Int),uuu (zzx l))) (x3:=((4:Int),zzT (zzx l))) ⟨[.int .i64 2],_,rfl,⟨rfl,uuw 2 (by omega)⟩,_,_,_,rfl,s1⟩ ⟨[.int .i64 3],_,rfl,⟨rfl,uuw 3 (by omega)⟩,_,_,_,rfl,s2⟩ ⟨[.int .i64 4],_,rfl,⟨rfl,uuw 4 (by omega)⟩,_,_,_,rfl,s4⟩) 55 3 rfl (by omega) _ rfl
         have hg9:(w8.alloc (vvD w8 (mkS (zzT (zzx l))))).drew.heap[w.heap.size]?=some (.cells #[.int .i64 0,.int .i64 0,.int .i64 0,.slice none 0 0] 27 (0,0)):=(Below.heap_alloc w8 _ _ (zzc HG8.out)).trans HG8.out
         refine bodyPost_ret (zzM rfl _ _ w.heap.size 27 #[.int .i64 (j:Int),.int .i64 2,.int .i64 (k:Int),.slice (some ⟨w8.heap.size+1,0,none⟩) 3 3] (0,0) _ rfl (zza (zza (zza (zza ((Below.heap_alloc _ _ _ (zzc hg9)).trans hg9) rfl) rfl) rfl) rfl) Tryz.underlying27 rfl (by kernel_rfl)) rfl ?_
         unfold qxV
         rw [e1]
         have hsz9:(w8.alloc (vvD w8 (mkS (zzT (zzx l))))).drew.heap.size=w8.heap.size+1:=by simp
         rw [hsz9] at s3
         refine⟨some ⟨w8.heap.size+1,0,none⟩,3,3,by rw [<-HL.out];rfl,(s3.keep (by simp) (fun b hb _=>?_)).weaken (fun b hb _=>by rcases hb with hb | hb <;> omega),?_⟩
         · have hne:b≠w.heap.size:=by rcases hb with hb | hb <;> omega
           exact (Below.heap_setCell _ _ _ _ hne).trans ((Below.heap_setCell _ _ _ _ hne).trans ((Below.heap_setCell _ _ _ _ hne).trans (Below.heap_setCell _ _ _ _ hne)))
         · have hbb:Below w.heap.size w (w8.alloc (vvD w8 (mkS (zzT (zzx l))))).drew:=HB8.out.trans (hb58.mono HB8.out.size)
           exact zzi (zzi (zzi (zzi (hbb.alloc hbb.size _) zN _) zN _) zN _) zN _
end
section
open Go Go.RowKit
attribute [local go_sem ↓] Go.wp_at_zero Go.wp_at_succ
theorem qz6 (g:Nat) (m enc tx:Int) (F:Nat->Prop) (A:Option Addr) (n c:Nat) (ss:List (Int×List UInt8)) (w:World) (hT:TabC g w) (h:Sl yyE F w A n c ss) (hn:n<=1000) (hl:wlen (yy0 m enc tx ss)<=4294967000) :
 Calls Tryz.prog 29 #[.pointer (some ⟨g,0,none⟩),.agg #[.int .i64 m,.int .i64 enc,.int .i64 tx,.slice A n c]] w (Own1 w (vvn m enc tx ss)):=by
 have HL:=zH h.len;have HT:=zH hT;have HH:=zH (h.weaken (F':=fun b=>b<w.heap.size) fun b _ hl=>hl)
 have HW:=zH (show wlen (yy0 m enc tx ss)<=4294967100 by omega)
 have HN:=zH hn
 clear h hT hl
 go_enter Tryz.func29,Tryz.ntmps29
 go_wp2_with fail
 go_cut [5] from 8 to 17 (fun x wx=>∃ b G,x=.slice (some ⟨b,0,none⟩) 3 3/\OwnF tFld 114 G wx w.heap.size (some ⟨b,0,none⟩) 3 3 [unum 1 m,unum 2 enc,unum 3 tx]/\Below w.heap.size w wx/\wx.cell? ⟨w.heap.size,3,none⟩=some (.slice A n c))
 case first =>
  go_region_held3 (fun w'=>w'.cell? ⟨w.heap.size,0,none⟩=some (.int .i64 m)/\w'.cell? ⟨w.heap.size,1,none⟩=some (.int .i64 enc)/\w'.cell? ⟨w.heap.size,2,none⟩=some (.int .i64 tx)/\w'.cell? ⟨w.heap.size,3,none⟩=some (.slice A n c))
   (first | go_keep | (go_split_ands;refine⟨?_,?_,?_,?_⟩ <;> exact zzh (by assumption) (by assumption)))
   (first
     | (go_at_call_of 60 (Value.int .i64 1);refine (vvo _ _ _).mono ?_;rintro e w1 ⟨rfl,hb1⟩)
     | (go_at_call_of 60 (Value.int .i64 2);refine (vvo _ _ _).mono ?_;rintro e w2 ⟨rfl,hb2⟩)
     | (go_at_call_of 60 (Value.int .i64 3);refine (vvo _ _ _).mono ?_;rintro e w3 ⟨rfl,hb3⟩)
     | fail)
  all_goals
   go_wp2_with fail
   go_split_ands
   go_meet
   have hbw:Below w.heap.size w w3:=by (repeat (first | exact zR | assumption | refine jja ?_ (by assumption) | refine xxK ?_ _ | refine jjb ?_))
   exact⟨_,_,rfl,OwnF.newL (T:=tFld) (n:=3) (F:=fun _=>False) (Reps.mk3 (yys (by unfold i64;omega)) (yys (by unfold i64;omega)) (yys (by unfold i64;omega))) hbw.size rfl (by omega) _ rfl,(by (repeat (first | exact zR | assumption | refine jja ?_ (by assumption) | refine xxK ?_ _ | refine jjb ?_))),(by assumption)⟩
 case rest =>
  obtain⟨b,G,rfl,ho,hb0,hc3⟩:=hcut
  have HO0:=zH ho;have HB0:=zH hb0
  clear ho hb0
  go_wp2_with fail
  go_loopw [5,21] (fun v iv wr=>∃ (k:Nat) (A2:Option Addr) (c2:Nat) (G:Nat->Prop),k<=n/\iv=.int .i64 (k:Int)/\v=.slice A2 (3+2*k) c2/\OwnF tFld 114 G wr w.heap.size A2 (3+2*k) c2 (yy0 m enc tx (ss.take k))/\Below w.heap.size w wr) (fun _ iv _=>n - (intOf iv).toNat)
  case atStart=>exact⟨0,_,_,_,Nat.zero_le _,rfl,rfl,HO0.out,HB0.out⟩
  case round =>
   clear hc3
   obtain⟨k,A2,c2,G2,hk,rfl,rfl,ho,hb⟩:=hrel
   have HO:=zH ho;have HB:=zH hb
   have hsz:=hb.size
   clear ho hb
   by_cases hlt:k<n
   · have hkl:k<ss.length:=by rw [<-HL.out];exact hlt
     obtain⟨b8,o8,cs,rfl,_,hbl,hrep,hc⟩:=(HH.out.below HB.out zN).at_ hkl (by decide)
     obtain⟨x,hf⟩:∃ x,x=ss[k]:=⟨_,rfl⟩
     obtain⟨kk,bs⟩:=x
     rw [<-hf] at hrep
     have HS:=zH (show yy0 m enc tx (ss.take (k+1))=yy0 m enc tx (ss.take k)++[unum 4 kk,ftxt 5 bs] by rw [zqV m enc tx ss hkl,<-hf];rfl)
     obtain⟨d1,d2,rfl,⟨h1,h1'⟩,A8,n8,c8,h2,hsl⟩:=hrep
     subst h1 h2
     obtain⟨g0,g1⟩:=uuD hc
     have g0:_=some (Value.int .i64 kk):=g0
     have g1:_=some (Value.slice A8 n8 c8):=g1
     have HSL:=zH hsl
     have hi0:(0:Int)<=(k:Int):=by omega
     have hi1:(k:Int)<(n:Int):=by omega
     have hk4:3+2*k<=4000:=by have:=HN.out;omega
     clear hc hf hsl h1'
     go_upto_region 5 with fail
     go_region_held3 (fun w'=>w'.cell? ⟨wr.heap.size,0,none⟩=some (.int .i64 kk)/\w'.cell? ⟨wr.heap.size,1,none⟩=some (.slice A8 n8 c8))
      (first | go_keep | (go_split_ands;refine⟨?_,?_⟩ <;> exact zzh (by assumption) (by assumption)) | (go_split_ands;refine⟨?_,?_⟩ <;> exact hg9.cell (by assumption) (HO.out.offNew zN)))
      (first
        | (go_at_call 60;refine (vvo _ _ _).mono ?_;rintro e w4 ⟨rfl,hb4⟩)
        | (go_at_call 61;refine (kqv _ _ _ _ _).mono ?_;rintro e w5 ⟨rfl,hb5⟩)
        | (have hbw:Below wr.heap.size wr w5:=(by (repeat (first | exact zR | assumption | refine jja ?_ (by assumption) | refine xxK ?_ _ | refine jjb ?_)))
           refine vvb (T:=tFld) uu2 (w5.alloc _) w rfl (.tmp 25) (.tmp 32) rfl w.heap.size A2 (3+2*k) c2 (yy0 m enc tx (ss.take k)) rfl G2 (fun b=>(b<w.heap.size/\b<w5.heap.size)∨b=w5.heap.size) ((HO.out.keepB hbw).alloc _) ((HB.out.trans (hbw.mono hsz)).alloc (by have:=hbw.size;omega) _) zN
            (some ⟨w5.heap.size,0,none⟩) 2 2 [unum 4 kk,ftxt 5 bs] rfl (Sl.news (T:=tFld) (F:=fun b=>b<w.heap.size) (Reps.mk2 (yys (by unfold i64;omega)) ⟨A8,n8,c8,rfl,by unfold i64;simp [ftxt],by simp [ftxt],HSL.out.below hbw zN⟩) 114 2 rfl (by omega) _ rfl)
            (fun b h1 h2 _ h4=>by obtain⟨_,_,e3⟩:=HO.out.lies (b:=b) (by simp [Value.ownBlock,h1]);have:=hbw.size;omega) (by omega) ?_
           intro A9 c9 w9 h9;have hg9:=h9.grown))
     all_goals
      go_wp2_with fail
      go_roundw
      case rel =>
       have e2:=h9.own
       rw [<-HS.out] at e2
       exact⟨k+1,A9,c9,_,by omega,by go_num,by rw [show 3+2*(k+1)=3+2*k+2 by omega],by rw [show 3+2*(k+1)=3+2*k+2 by omega];exact e2,h9.below⟩
      case measure=>simp [intOf];omega
   · obtain rfl:k=n:=by omega
     have e1:ss.take k=ss:=zL (by rw [<-HL.out];exact Nat.le_refl _)
     rw [e1] at HO
     have hk4:3+2*k<=4294967296:=by have:=HN.out;omega
     clear e1
     go_wp2_with (first
      | (go_at_call 63;refine (kqx g _ A2 (3+2*k) c2 (yy0 m enc tx ss) _ (HT.out.keep HB.out) HO.out.sl hk4 HW.out).mono ?_;rintro e w2 ⟨A3,n3,c3,rfl,ho3,hb3⟩;have HO3:=zH ho3;have HB3:=zH hb3;clear ho3 hb3)
      | fail)
     go_ret
     exact⟨A3,n3,c3,rfl,HO3.out.down hsz,HB.out.trans (HB3.out.mono hsz)⟩
end
end Go.Proofs.YtpmglcachffojaaGreatDoor
