/- A part of what None leans on. -/
import Derived.Test.YtpmglcachffojaaGreatDoorZ26
import Derived.Test.YtpmglcachffojaaGreatDoorZ27
import Derived.RangeFuncWrites
import Derived.Sort.OwnSorted
import Derived.Test.YtpmglcachffojaaGreatDoorZS2
import Derived.Maps.OwnOps
import Derived.Maps.OwnSet
import Derived.Maps.Views
import Derived.StringKeys
import Derived.Test.YtpmglcachffojaaGreatDoorZS3
set_option maxRecDepth 100000
set_option maxHeartbeats 16000000
namespace Go.Proofs.YtpmglcachffojaaGreatDoor
section
open Go Go.RowKit Go.Shelf
attribute [local go_sem] Oper.semAt_some
theorem zzB {w w':World} {row:Option Nat} (h:Below w.heap.size w w'):w.grownBy w' row:=⟨h.os,h.tape,h.output,h.size,fun k hk _=>h.block k hk⟩
theorem xxY {w w1 w2:World} {row:Option Nat} (h:w.grownBy w1 row) (k:w1.grownBy w2 row):w.grownBy w2 row :=
 ⟨k.os.trans h.os,k.tape.trans h.tape,k.output.trans h.output,Nat.le_trans h.size k.size,fun i hi hr=>(k.block i (Nat.lt_of_lt_of_le hi h.size) hr).trans (h.block i hi hr)⟩
theorem uuV {w w1:World} {row:Option Nat} (h:w.grownBy w1 row) (o:Obj):w.grownBy (w1.alloc o) row :=
 ⟨h.os,h.tape,h.output,by have:=h.size;simp;omega,fun k hk hr=>(Below.heap_alloc w1 o k (Nat.lt_of_lt_of_le hk h.size)).trans (h.block k hk hr)⟩
def svs (l:List ByteArray):List Value:=l.map Value.string
def OwnS (w:World) (B:Nat) (A:Option Addr) (n c:Nat) (l:List ByteArray):Prop:=w.ownsRow B 9 1 (.slice A n c) n (svs l)
theorem OwnS.nil_ (w:World) (B:Nat):OwnS w B none 0 0 []:=World.ownsRow_nil w B _ _
theorem zzX {w:World} {B:Nat} {A:Option Addr} {n c:Nat} {l:List ByteArray} (h:OwnS w B A n c l) {b:Nat} (hb:A.map (·.block)=some b):∃ cur e fr,w.heap[b]?=some (.cells cur e fr)/\B<=b:=by
 rcases h.2 with ⟨h1,_⟩ | ⟨g,cap,cur,h1,hB,hg,_⟩
 · injection h1 with h1;subst h1;cases hb
 · injection h1 with h1;subst h1;injection hb with hb;subst hb;exact⟨cur,_,_,hg,hB⟩
theorem xqr {F:Fence} {nF:Nat} {ops:Array Oper} {rest:List Oper} {o:Oper} {a:Act} {Q:Exit->Act->World->Prop} (hgd:o.guard=none) (s x:Operand) (ho:o.op=.call { callee:=.builtin .append,args:=#[s,x],argTypes:=#[89,89] })
 (w wx:World) (B:Nat) (A:Option Addr) (n c:Nat) (xs:List ByteArray) (hs:a.eval s=.slice A n c) (hown:OwnS w B A n c xs) (hB:B<=w.heap.size) (y:ByteArray) (hwx:wx=w.alloc (.cells #[.string y] 9)) (hx:a.eval x=.slice (some ⟨w.heap.size,0,none⟩) 1 1) (hlim:n<=34359738368)
 (h:∀ A' c' w',OwnS w' B A' (n+1) c' (xs++[y])->wx.grownBy w' (A.map (·.block))->wpListIn F nF Tryz.prog ops Q rest (a.put o.dst (.slice A' (n+1) c')) w'):wpListIn F nF Tryz.prog ops Q (o::rest) a wx:=by
 subst hwx
 refine wpListIn_plain hgd fun K hK=>?_
 obtain⟨A',c',w',hrun,h2,h3,_⟩:=yyj qzG o.type (w.alloc (.cells #[.string y] 9)) B (.slice A n c) n (svs xs) (World.ownsRow.alloc hown _) (fun b=>b=w.heap.size) (some ⟨w.heap.size,0,none⟩) 1 1 [.string y] rfl (Rd.new w _ _) (by intro u hu;simp at hu;subst hu;rfl) (by omega) (by rw [zS];omega)
 unfold Oper.wpIn
 refine⟨by simp [Oper.about,ho,resolve,Target.leads,Sem.run_pure],?_⟩
 rw [Oper.semAt_plain F _ _ (by rw [ho];intro c hc';cases hc')]
 simp [execOp,ho,resolve,invoke,builtin,hs,hx,hrun,Result.andThen]
 rw [zzb] at h3
 exact hK _ _ (h A' c' w' (by unfold OwnS svs;rw [List.map_append];exact h2) h3)
structure ApS (w:World) (k2:Nat) (pre:List ByteArray) (W:World):Prop where
 st:∃ A c,W.heap[k2]?=some (.cells #[.slice A pre.length c] 89 (0,0))/\OwnS W (k2+1) A pre.length c pre
 below:Below k2 w W
 size:k2+1<=W.heap.size
theorem ApS.own (w:World) (k2:Nat) (hk:k2=w.heap.size):OwnFrom (k2+1) (ApS w k2):=fun pre W W' row hs hg hr=>by
 obtain⟨⟨A,c,h1,h2⟩,h3,h4⟩:=hs
 refine⟨⟨A,c,(hg.block k2 (by omega) (fun e=>by have:=(hr _ e.symm).1;omega)).trans h1,zzC h2 fun b hb=>hg.block b (h2.lt b hb).2 (fun e=>?_)⟩,h3.grown hg (by omega) (fun k e=>by have:=(hr k e).1;omega),Nat.le_trans h4 hg.size⟩
 obtain⟨_,o,ho,hc⟩:=hr b e.symm
 rw [zzb] at hb
 obtain⟨cur,ty,fr,h8,_⟩:=zzX h2 hb
 rw [h8] at ho
 injection ho with ho
 subst ho
 cases hc
theorem KpV.put {K:Nat} (W:World) (l:Nat) (o o':Obj) (hl:K<=l) (_:W.heap[l]?=some o) (_:o.isCells=false) (_:o.isWalk=false):KpV K W (W.putObj l o') :=
 ⟨by have:=(grownBy_putObj' W l o').size;exact this,fun b hb=>World.putObj_heap_other (by omega)⟩
theorem kqa (F:Fence) (n:Nat) (hf:F.fn 209) (hro:F.round=none) (hn:1<=n) (bb K:Nat) (A:Option Addr) (m c:Nat) (xs:List ByteArray) (w:World) (h0:w.cell? ⟨bb,0,none⟩=some (.slice A m c)) (hs:Sl tStr (fun b=>b<K) w A m c xs) :
 SeqStopsK F n Tryz.prog 209 #[.pointer (some ⟨bb,0,none⟩)] (fun x:ByteArray=>#[.string x]) (KpV K) (fun ys=>ys=xs) (fun pre=>∃ k,k<=m/\pre=xs.take k) m w:=fun l J Jx W hW _ _ hY hJ0 =>
 zqS F n hf hro hn l bb K A m c xs J Jx hY W ((hW.cell (p:=⟨bb,0,none⟩) (World.block_lt_of_cell? w _ h0)).trans h0) (hs.below hW zN) hJ0
theorem kqb (bb:Nat) (F:Nat->Prop) (A:Option Addr) (m c:Nat) (xs:List ByteArray) (w:World) (h0:w.cell? ⟨bb,0,none⟩=some (.slice A m c)) (hs:Sl tStr F w A m c xs) (hm:m<=4096) :
 Calls Tryz.prog 251 #[.slice none 0 0,.func (.func 209) #[] #[.pointer (some ⟨bb,0,none⟩)]] w fun e W=>∃ A' c',e=.returned (.slice A' m c')/\OwnS W w.heap.size A' m c' xs/\Below w.heap.size w W:=by
 have hbb:=World.block_lt_of_cell? w _ h0
 have hlen:=hs.len
 obtain⟨W0,hW0⟩:∃ W0,W0=w.alloc (.cells #[.slice none 0 0] 89):=⟨_,rfl⟩
 have hsz:W0.heap.size=w.heap.size+1:=by rw [hW0];simp
 have hb0:Below w.heap.size w W0:=by rw [hW0];exact (zR).alloc zN _
 have hv0:W0.heap[w.heap.size]?=some (.cells #[.slice none 0 0] 89 (0,0)):=by rw [hW0];exact heap_alloc_new w _
 have hc0:W0.cell? ⟨bb,0,none⟩=some (.slice A m c):=zzt hb0 h0
 have hs0:Sl tStr (fun b=>b<w.heap.size) W0 A m c xs:=(hs.weaken (F':=fun b=>b<w.heap.size) fun b _ hb=>hb).below hb0 zN
 have hI0:ApS w w.heap.size [] W0:=⟨⟨none,0,hv0,OwnS.nil_ _ _⟩,hb0,by omega⟩
 have HW0:=zH hW0;have HB0:=zH hb0;have HSZ:=zH hsz;have HLEN:=zH hlen
 clear hs h0 hb0 hv0 hW0
 refine (callsIn_wide (n:=3)).1 ?_
 refine callsIn_of_wp_marks Tryz.func251 rfl trivial ?_ rfl
 simp only [Tryz.ntmps251,List.size_toArray,List.length_cons,List.length_nil,Nat.reduceAdd,Nat.reduceSub,Array.replicate_succ,Array.replicate_zero,List.push_toArray,List.append_toArray,List.nil_append,List.cons_append]
 gi_wp2
 rw [<-HW0.out]
 refine wpIn_rangeFunc_ownG rfl (by omega) (gf:=209) (lb:=#[.pointer (some ⟨bb,0,none⟩)]) rfl trivial (enters_of Tryz.func209 (by kernel_rfl) rfl)
  (kqa Fence.wide _ trivial rfl (by omega) bb w.heap.size A m c xs W0 hc0 hs0) KpV.trans (fun W l o o' h1=>KpV.put W l o o' (by omega)) (zR) (fun _=>rfl)
  (ApS w w.heap.size) (fun _ _ _=>False) (by rw [HSZ.out];exact ApS.own w _ rfl) (fun _ _ _ _ _ h _ _=>h) hI0
  (fun x=>{ tmps:=#[.slice none 0 0,.func (.func 209) #[] #[.pointer (some ⟨bb,0,none⟩)],.pointer (some ⟨w.heap.size,0,none⟩),undef,.slice none 0 0,.string x,.func (.func 209) #[] #[.pointer (some ⟨bb,0,none⟩)],.string x,undef,undef,undef,undef,undef],defers:=[] }) ?assign ?body ?done ?stop
 case assign =>
  intro l x W K hK
  gi_wp2
  exact hK
 case body =>
  rintro l' pre x W ⟨⟨A6,c6,hbox,hown⟩,hbl,hsw⟩ hpl
  have HBOX:=zH hbox;have HOWN:=zH hown;have HBL:=zH hbl
  have v0:W.cell? ⟨w.heap.size,0,none⟩=some (.slice A6 pre.length c6):=by rw [zC hbox];rfl
  have vf:W.frozen? ⟨w.heap.size,0,none⟩=false:=zF hbox 0
  clear hbox hown hbl
  gi_wp2_with (first
   | (gi_at_builtin;refine xqr rfl (.tmp 8) (.tmp 10) rfl W _ (w.heap.size+1) A6 pre.length c6 pre (by rfl) HOWN.out hsw x (by rfl) (by rfl) (by omega) ?_;intro A7 c7 w7 hown7 hg7;have HO7:=zH hown7;have HG7:Hid (W.grownBy w7 (A6.map (·.block))):=zH (xxY (uuV (zzB (Below.refl _ W)) _) hg7);have v7:w7.cell? ⟨w.heap.size,0,none⟩=some (.slice A6 pre.length c6):=HG7.out.cell v0 (fun e=>by obtain⟨_,_,_,_,h8⟩:=zzX HOWN.out e.symm;have h9:w.heap.size+1<=w.heap.size:=h8;omega);have vf7:w7.frozen? ⟨w.heap.size,0,none⟩=false:=zF (HG7.out.block (w.heap.size) (by omega) (fun e=>by obtain⟨_,_,_,_,h8⟩:=zzX HOWN.out e.symm;omega) |>.trans HBOX.out) 0;clear hown7 hg7)
   | fail)
  have hA6:∀ k,A6.map (·.block)=some k->w.heap.size+1<=k:=fun k e=>by obtain⟨_,_,_,_,h8⟩:=zzX HOWN.out e;exact h8
  have hsz7:=HG7.out.size
  have e7:(pre++[x]).length=pre.length+1:=by simp
  refine⟨((KeepsOthers.of_grownBy HG7.out fun j o hj ho=>by obtain⟨cur,e1,fr,h8,_⟩:=zzX HOWN.out hj;rw [h8] at ho;injection ho with ho;subst ho;rfl).trans (KeepsOthers.setCell _ _ _)).from _,⟨by simpa using hsz7,fun b hb=>(Below.heap_setCell _ _ _ _ (by simp;omega)).trans (HG7.out.block b (by omega) (fun e=>by have:=hA6 _ e.symm;omega))⟩,?_⟩
  refine⟨⟨A7,c7,?_,?_⟩,?_,by simp;omega⟩
  · rw [e7]
    exact zza ((HG7.out.block (w.heap.size) (by omega) (fun e=>by have:=hA6 _ e.symm;omega)).trans HBOX.out) rfl
  · rw [e7]
    refine zzC HO7.out (fun b hb=>Below.heap_setCell _ _ _ _ ?_)
    have h8:=(HO7.out.lt b hb).1
    simp
    omega
  · exact zzn (HBL.out.grown HG7.out (by omega) (fun k e=>by have:=hA6 k e;omega)) zN _
 case done =>
  rintro D ys W hD rfl ⟨⟨A6,c6,hbox,hown⟩,hbl,hsw⟩ hK
  have v0:W.cell? ⟨w.heap.size,0,none⟩=some (.slice A6 ys.length c6):=by rw [zC hbox];rfl
  have HOWN:=zH hown;have HBL:=zH hbl;have HKD:=zH hK
  clear hbox hown hbl hK
  gi_wp2
  refine⟨by simp,.inl ⟨_,_,rfl,run_takeDeferred HKD.out,?_⟩⟩
  have hp:=grownBy_putObj' W D (.deferred none)
  refine⟨_,results_tmp rfl _ _ _,A6,c6,by rw [HLEN.out];rfl,?_,HBL.out.grown hp (by omega) (fun k e=>by injection e with e;omega)⟩
  rw [HLEN.out]
  refine yyS (zzC HOWN.out fun b hb=>World.putObj_heap_other (fun e=>?_)) (Nat.le_succ _)
  rw [zzb] at hb
  obtain⟨cur,ty,fr,h8,_⟩:=zzX HOWN.out hb
  rw [e,HKD.out] at h8
  cases h8
 case stop =>
  rintro D c pre W hD _ h
  exact h.elim
end
section
open Go Go.RowKit Go.Sort
def mkS (b:List UInt8):ByteArray:=⟨b.toArray⟩
def zzf (l:List ByteArray):List (List UInt8):=l.map (·.data.toList)
theorem zqT (l:List ByteArray):(zzf l).map mkS=l:=by
 unfold zzf
 rw [List.map_map]
 conv=>rhs;rw [<-List.map_id l]
 rfl
theorem zqU (l:List (List UInt8)):zzf (l.map mkS)=l:=by
 unfold zzf
 rw [List.map_map]
 conv=>rhs;rw [<-List.map_id l]
 apply List.map_congr_left
 intro b _
 simp [mkS]
theorem qzI (l:List (List UInt8)):svs (l.map mkS)=l.map encStr:=by
 unfold svs
 rw [List.map_map]
 rfl
theorem uuk (l:List ByteArray):svs l=(zzf l).map encStr:=by rw [<-qzI,zqT]
def yyQ (l:List (List UInt8)):List (List UInt8):=l.mergeSort fun x y=>decide (x<=y)
def zzy (l:List ByteArray):List (List UInt8):=Lib.compact (yyQ (zzf l))
theorem OwnS.len {w:World} {B:Nat} {A:Option Addr} {n c:Nat} {l:List ByteArray} (h:OwnS w B A n c l):n=l.length:=by
 have:=h.1
 unfold svs at this
 simp at this
 omega
theorem kqc {w:World} {B:Nat} {A:Option Addr} {n c:Nat} {l:List ByteArray} (h:OwnS w B A n c l) {k:Nat} (hk:k<=n) (hA:A≠none):OwnS w B A k c (l.take k):=by
 have hl:=h.len
 refine⟨by unfold svs;simp;omega,?_⟩
 rcases h.2 with ⟨h1,h2⟩ | ⟨g,cap,cur,h1,hb,hg,hn,hc,hs,ht⟩
 · injection h1 with h1;exact absurd h1 hA
 · injection h1 with e1 e2 e3;subst e1 e3
   refine .inr ⟨g,c,cur,rfl,hb,hg,by omega,hc,hs,?_⟩
   have e4:svs (l.take k)=(svs l).take (k*1):=by unfold svs;rw [List.map_take,Nat.mul_one]
   rw [e4,<-ht,List.take_take,Nat.min_eq_left (Nat.mul_le_mul_right 1 hk)]
theorem zqV (B:Nat) (A:Option Addr) (n c:Nat) (l:List ByteArray) (w:World) (h:OwnS w B A n c l) (hB:B<=w.heap.size) (hn:n<=4096) :
 Calls Tryz.prog 208 #[.slice A n c] w fun e w'=>e=.returned (.tuple #[])/\OwnS w' B A n c ((yyQ (zzf l)).map mkS)/\Below B w w':=by
 have hl:=h.len
 have hlen:(zzf l).length=n:=by unfold zzf;simp;omega
 rcases h.2 with ⟨h1,h2⟩ | ⟨g,cap,cur,h1,hb,hg,hnc,hc,hs,ht⟩
 · injection h1 with e1 e2 e3
   subst e1 e3 h2
   have:l=[]:=List.length_eq_zero_iff.1 hl.symm
   subst this
   refine (Tryz.slices_Sort_string_none none 0 w).mono ?_
   rintro e w' ⟨rfl,rfl⟩
   exact⟨rfl,by simpa [zzf,yyQ] using h,zR⟩
 · injection h1 with e1 e2 e3
   subst e1 e3
   have hH:Holds encStr w g 0 (zzf l).toArray:=holds_of_block hg (by rw [hlen,<-uuk,<-ht,Nat.mul_one])
   have hgl:g<w.heap.size:=(Array.getElem?_eq_some_iff.1 hg).1
   have hC:=Tryz.slices_Sort_string g 0 c (zzf l) w hH hgl (by omega)
   rw [hlen] at hC
   refine hC.mono ?_
   rintro e w' ⟨rfl,q,os,rfl⟩
   have hr:=ownsRow_sorted (n:=q) (os:=os) (ss:=zzf l) (ts:=yyQ (zzf l)) (by simp [yyQ]) hb hg (by omega) hc hs
   rw [hlen,<-qzI] at hr
   exact⟨rfl,hr,(Below.refl B w).grown (grownBy_sorted _) hB (fun j hj=>by cases hj;exact hb)⟩
theorem xxZ (zs:List (List UInt8)):(Lib.compact zs).length<=zs.length:=by
 unfold Lib.compact Lib.compactUpTo
 rw [List.length_map]
 exact Nat.le_trans (List.length_filter_le _ _) (by simp)
theorem uuW (B:Nat) (A:Option Addr) (n c:Nat) (l:List ByteArray) (w:World) (h:OwnS w B A n c l) (hB:B<=w.heap.size) (hn:n<=4096) :
 Calls Tryz.prog 164 #[.slice A n c] w fun e w'=>e=.returned (.slice A (Lib.compact (zzf l)).length c)/\OwnS w' B A (Lib.compact (zzf l)).length c ((Lib.compact (zzf l)).map mkS)/\Below B w w':=by
 have hl:=h.len
 have hlen:(zzf l).length=n:=by unfold zzf;simp;omega
 rcases h.2 with ⟨h1,h2⟩ | ⟨g,cap,cur,h1,hb,hg,hnc,hc,hs,ht⟩
 · injection h1 with e1 e2 e3
   subst e1 e3 h2
   have:l=[]:=List.length_eq_zero_iff.1 hl.symm
   subst this
   refine (Tryz.slices_Compact_string_empty none 0 w).mono ?_
   rintro e w' ⟨rfl,rfl⟩
   exact⟨rfl,h,zR⟩
 · injection h1 with e1 e2 e3
   subst e1 e3
   have hH:Holds encStr w g 0 (zzf l).toArray:=holds_of_block hg (by rw [hlen,<-uuk,<-ht,Nat.mul_one])
   have hC:=Tryz.slices_Compact_string g 0 c (zzf l) w hH (by omega) (by omega)
   rw [hlen] at hC
   refine hC.mono ?_
   rintro e w' ⟨rfl,q,hw⟩
   have hcl:=xxZ (zzf l)
   have hw2:w'=grow (Go.Sort.putRow encStr (Sort.ahead w q) g 0 (Lib.compact (zzf l)++List.replicate (n - (Lib.compact (zzf l)).length) []).toArray) #[]:=by rw [hw];simp [grow];rfl
   have hr:=ownsRow_sorted (n:=q) (os:=#[]) (ss:=zzf l) (ts:=Lib.compact (zzf l)++List.replicate (n - (Lib.compact (zzf l)).length) []) (by simp;omega) hb hg (by omega) hc hs
   rw [<-hw2,hlen,<-qzI] at hr
   have hf:=kqc (A:=some ⟨g,0,none⟩) hr (k:=(Lib.compact (zzf l)).length) (by omega) (by simp)
   rw [<-List.map_take,List.take_left' rfl] at hf
   exact⟨rfl,hf,by rw [hw2];exact (Below.refl B w).grown (grownBy_sorted _) hB (fun j hj=>by cases hj;exact hb)⟩
theorem kqd (A:Option Addr) (n c:Nat) (w:World) :
 Calls Tryz.prog 166 #[.slice A n c] w fun e w'=>e=.returned (.func (.func 209) #[] #[.pointer (some ⟨w.heap.size,0,none⟩)])/\w'=w.alloc (.cells #[.slice A n c] 89):=by
 go_enter Tryz.func166,Tryz.ntmps166
 go_wp2_with fail
 go_ret
 exact⟨rfl,rfl⟩
theorem uuX (bb:Nat) (F:Nat->Prop) (A:Option Addr) (m c:Nat) (xs:List ByteArray) (w:World) (h0:w.cell? ⟨bb,0,none⟩=some (.slice A m c)) (hs:Sl tStr F w A m c xs) (hm:m<=4096) :
 Calls Tryz.prog 207 #[.func (.func 209) #[] #[.pointer (some ⟨bb,0,none⟩)]] w fun e W=>∃ A' c',e=.returned (.slice A' m c')/\OwnS W w.heap.size A' m c' xs/\Below w.heap.size w W:=by
 have H:=zH (kqb bb F A m c xs w h0 hs hm)
 clear h0 hs
 go_enter Tryz.func207,Tryz.ntmps207
 go_wp2_with (first
  | (go_at_call 251;refine H.out.mono ?_;rintro e w1 ⟨A1,c1,rfl,ho1,hb1⟩;have HO1:=zH ho1;have HB1:=zH hb1;clear ho1 hb1)
  | fail)
 go_ret
 exact⟨A1,c1,rfl,HO1.out,HB1.out⟩
theorem kqe (bb:Nat) (F:Nat->Prop) (A:Option Addr) (m c:Nat) (xs:List ByteArray) (w:World) (h0:w.cell? ⟨bb,0,none⟩=some (.slice A m c)) (hs:Sl tStr F w A m c xs) (hm:m<=4096) :
 Calls Tryz.prog 165 #[.func (.func 209) #[] #[.pointer (some ⟨bb,0,none⟩)]] w fun e W=>∃ A' c',e=.returned (.slice A' m c')/\OwnS W w.heap.size A' m c' ((yyQ (zzf xs)).map mkS)/\Below w.heap.size w W:=by
 have H:=zH (uuX bb F A m c xs w h0 hs hm)
 clear h0 hs
 go_enter Tryz.func165,Tryz.ntmps165
 go_wp2_with (first
  | (go_at_call 207;refine H.out.mono ?_;rintro e w1 ⟨A1,c1,rfl,ho1,hb1⟩;have HO1:=zH ho1;have HB1:=zH hb1;clear ho1 hb1)
  | (go_at_call 208;refine (zqV w.heap.size A1 m c1 xs w1 HO1.out HB1.out.size hm).mono ?_;rintro e w2 ⟨rfl,ho2,hb2⟩;have HO2:=zH ho2;have HB2:=zH (HB1.out.trans hb2);clear ho2 hb2)
  | fail)
 go_ret
 exact⟨A1,c1,rfl,HO2.out,HB2.out⟩
def zzk (l:List ByteArray):List ByteArray:=(zzy l).map mkS
theorem uul (F:Nat->Prop) (A:Option Addr) (n c:Nat) (l:List ByteArray) (w:World) (h:Sl tStr F w A n c l) (hn:n<=4096) :
 Calls Tryz.prog 99 #[.slice A n c] w fun e W=>∃ A' c',e=.returned (.slice A' (zzy l).length c')/\OwnS W w.heap.size A' (zzy l).length c' (zzk l)/\Below w.heap.size w W:=by
 obtain⟨w0,hw0⟩:∃ w0,w0=w.alloc (.cells #[.slice A n c] 89):=⟨_,rfl⟩
 have hb0:Below w.heap.size w w0:=by rw [hw0];exact (zR).alloc zN _
 have hc0:w0.cell? ⟨w.heap.size,0,none⟩=some (.slice A n c):=by rw [hw0,World.cell?_alloc_new];rfl
 have HS:=zH (kqe w.heap.size F A n c l w0 hc0 (h.below hb0 zN) hn)
 have HB0:=zH hb0;have HW0:=zH hw0
 clear h hb0 hc0 hw0
 go_enter Tryz.func99,Tryz.ntmps99
 go_wp2_with (first
  | (go_at_call 166;refine (kqd A n c w).mono ?_;rintro e w1 ⟨rfl,hw1⟩;obtain rfl:w1=w0:=hw1.trans HW0.out.symm;clear hw1)
  | (go_at_call 165;refine HS.out.mono ?_;rintro e w2 ⟨A2,c2,rfl,ho2,hb2⟩;have HO2:=zH (show OwnS w2 w.heap.size A2 n c2 _ from yyS ho2 HB0.out.size);have HB2:=zH (HB0.out.trans (hb2.mono HB0.out.size));clear ho2 hb2)
  | (go_at_call 164;refine (uuW w.heap.size A2 n c2 _ w2 HO2.out HB2.out.size hn).mono ?_;rintro e w3 ⟨rfl,ho3,hb3⟩;rw [zqU] at ho3 ⊢;have HO3:=zH ho3;have HB3:=zH (HB2.out.trans hb3);clear ho3 hb3)
  | fail)
 go_ret
 exact⟨A2,c2,rfl,HO3.out,HB3.out⟩
end
section
open Go Go.RowKit Go.Maps
def plD (H:Type) (ws:List (List UInt8)):Nat->DataW H
 | 0=>.map []
 | k+1=>(plD H ws k).put (.string (ws.getD k [])) (.lit (.int .i64 (k:Int)))
theorem uuY (s:List UInt8):WideAt.IsKeyLit (.string s):=trivial
theorem uum {ws:List (List UInt8)} (hn:ws.Nodup) {i j:Nat} (hi:i<ws.length) (hj:j<ws.length) (e:ws[i]=ws[j]):i=j:=by
 rcases Nat.lt_trichotomy i j with h | h | h
 · exact absurd e (List.pairwise_iff_getElem.1 hn i j hi hj h)
 · exact h
 · exact absurd e.symm (List.pairwise_iff_getElem.1 hn j i hj hi h)
theorem xxt (H:Type) (ws:List (List UInt8)):∀ k,Tidy (plD H ws k)
 | 0=>tidy_empty
 | k+1=>(xxt H ws k).put (uuY _) _
theorem xxc {ws:List (List UInt8)} {k:Nat} (h:k<ws.length):ws.getD k []=ws[k]:=by
 rw [List.getD_eq_getElem?_getD,List.getElem?_eq_getElem h];rfl
theorem qzJ (H:Type) (ws:List (List UInt8)) (s:List UInt8):∀ k,k<=ws.length->(has (plD H ws k) (.string s)=decide (s∈ws.take k))
 | 0,_=>by simp [plD,has]
 | k+1,hk=>by
   have ih:=qzJ H ws s k (by omega)
   have hkl:k<ws.length:=by omega
   rw [plD,xxc hkl,zT hkl]
   by_cases h:s=ws[k]
   · subst h
     rw [has_put_same (xxt H ws k).isMap (uuY _)]
     symm
     rw [decide_eq_true_eq,List.mem_append,List.mem_singleton]
     exact .inr rfl
   · rw [has_put_other (by intro e;injection e with e;exact h e),ih,decide_eq_decide,List.mem_append,List.mem_singleton]
     exact⟨.inl,fun h'=>h'.resolve_right h⟩
theorem jjz (H:Type) (ws:List (List UInt8)) (hn:ws.Nodup):∀ k,k<=ws.length->Maps.size (plD H ws k)=k
 | 0,_=>rfl
 | k+1,hk=>by
   have ih:=jjz H ws hn k (by omega)
   have hkl:k<ws.length:=by omega
   have hno:has (plD H ws k) (.string ws[k])=false:=by
    rw [qzJ H ws _ k (by omega)]
    simp only [decide_eq_false_iff_not]
    intro hm
    obtain⟨i,hi,he⟩:=List.getElem_of_mem hm
    rw [List.getElem_take] at he
    rw [List.length_take] at hi
    have:=uum hn (by omega) hkl he
    omega
   rw [plD,xxc hkl,size_put (xxt H ws k),hno,ih]
   rfl
theorem qxm (H:Type) (ws:List (List UInt8)) (hn:ws.Nodup) (z:DataW H):∀ k,k<=ws.length->∀ i,i<k->(plD H ws k).atKey (.string (ws.getD i [])) z=.lit (.int .i64 (i:Int))
 | k+1,hk,i,hi=>by
   have hkl:k<ws.length:=by omega
   have hil:i<ws.length:=by omega
   rw [plD]
   by_cases h:i=k
   · subst h
     rw [atKey_put_same (xxt H ws i).isMap (uuY _)]
   · rw [atKey_put_other]
     · exact qxm H ws hn z k (by omega) i (by omega)
     · intro e
       injection e with e
       rw [xxc hil,xxc hkl] at e
       exact h (uum hn hil hkl e)
theorem yym (d:Array (List UInt8)):∀ m,m<=d.size->∀ x,(x∈Lib.compactUpTo d m↔∃ i,i<m/\d[i]! = x)
 | 0,_,x=>by simp [Lib.compactUpTo]
 | m+1,hm,x=>by
   have ih:=yym d m (by omega) x
   rw [Lib.compactUpTo_succ,List.mem_append,ih]
   constructor
   · rintro (⟨i,hi,he⟩ | h)
     · exact⟨i,by omega,he⟩
     · split at h
       · exact⟨m,by omega,(List.mem_singleton.1 h).symm⟩
       · cases h
   · rintro ⟨i,hi,he⟩
     rcases Nat.lt_or_ge i m with h | h
     · exact .inl ⟨i,h,he⟩
     · obtain rfl:i=m:=by omega
       by_cases hk:Lib.keeps d i=true
       · right
         rw [if_pos hk,<-he]
         exact List.mem_singleton.2 rfl
       · left
         have hk2:¬ (i=0∨d[i]! ≠ d[i - 1]!):=by simpa [Lib.keeps] using hk
         have h0:i≠0:=fun e=>hk2 (.inl e)
         have h1:d[i]! = d[i - 1]! := Classical.byContradiction fun e=>hk2 (.inr e)
         exact⟨i - 1,by omega,by rw [<-h1,he]⟩
theorem uuZ (zs:List (List UInt8)) (x:List UInt8):x∈Lib.compact zs↔x∈zs:=by
 unfold Lib.compact
 rw [yym zs.toArray zs.length (by simp) x]
 constructor
 · rintro ⟨i,hi,rfl⟩
   simp [getElem!_pos,hi]
 · intro h
   obtain⟨i,hi,rfl⟩:=List.getElem_of_mem h
   exact⟨i,hi,by simp [getElem!_pos,hi]⟩
theorem uun (l:List ByteArray) (x:List UInt8):x∈zzy l↔x∈zzf l:=by
 unfold zzy yyQ
 rw [uuZ]
 exact (List.mergeSort_perm _ _).mem_iff
end
section
open Go Go.RowKit
def zzu (l:List ByteArray):List UInt8:=(zzf l).flatten
theorem vvO:∀ l:List (List UInt8),Lib.join l []=l.flatten
 | []=>rfl
 | [x]=>by simp [Lib.join]
 | x::y::r=>by
   have ih:=vvO (y::r)
   have e:List.intersperse ([]:List UInt8) (x::y::r)=x::[]::List.intersperse [] (y::r):=rfl
   unfold Lib.join List.intercalate at ih ⊢
   rw [e,List.flatten_cons,List.flatten_cons,ih,List.nil_append]
   rfl
theorem yy1:∀ l:List ByteArray,(∀ s∈l,s.size<=300)->(zzu l).length<=300*l.length
 | [],_=>by simp [zzu,zzf]
 | x::r,h=>by
   have ih:=yy1 r (fun s hs=>h s (List.mem_cons_of_mem _ hs))
   have hx:=h x (List.mem_cons_self ..)
   have e:(zzu (x::r)).length=x.data.toList.length+(zzu r).length:=by simp [zzu,zzf]
   have e2:x.data.toList.length=x.size:=by rw [Array.length_toList];rfl
   rw [e,List.length_cons]
   omega
theorem jjA (F:Nat->Prop) (A:Option Addr) (n c:Nat) (l:List ByteArray) (w:World) (h:Sl tStr F w A n c l) (hn:n<=4096) (hs:∀ s∈l,s.size<=300) :
 Calls Tryz.prog 100 #[.slice A n c,.string ⟨#[]⟩] w fun e w'=>e=.returned (.string (mkS (zzu l)))/\Below w.heap.size w w':=by
 have hl:=h.len
 cases A with
 | none =>
   have hl0:l=[]:=by
    cases l with
    | nil=>rfl
    | cons x r=>obtain⟨b,o,_,e,_⟩:=h.at1 (k:=0) (by simp) rfl;cases e
   subst hl0
   obtain rfl:n=0:=hl
   refine (Tryz.strings_Join_none none c ⟨#[]⟩ w).mono ?_
   rintro e w' ⟨he,hw⟩
   exact⟨by rw [he];rfl,by first | exact hw | (rw [hw];exact zR)⟩
 | some a =>
   by_cases hl0:l=[]
   · subst hl0
     obtain rfl:n=0:=hl
     refine (Tryz.strings_Join_none (some a) c ⟨#[]⟩ w).mono ?_
     rintro e w' ⟨he,hw⟩
     exact⟨by rw [he];rfl,by first | exact hw | (rw [hw];exact zR)⟩
   · have hlp:0<l.length:=List.length_pos_iff.2 hl0
     obtain⟨b,o,u0,e0,_,hbl,_,_⟩:=h.at1 (k:=0) hlp rfl
     injection e0 with e0
     subst e0
     have hcells:∀ (j:Nat) x,l[j]?=some x->w.cell? ⟨b,o+j,none⟩=some (.string x):=fun j x hx=>by
      obtain⟨hj,rfl⟩:=List.getElem?_eq_some_iff.1 hx
      obtain⟨b2,o2,u,e2,_,_,hr,hc⟩:=h.at1 hj rfl
      injection e2 with e2;injection e2 with e3 e4 _;subst e3;subst e4
      obtain⟨hr,_⟩:=hr
      injection hr with hr;subst hr
      exact hc
     have hJ:=Tryz.strings_Join b o c l ⟨#[]⟩ w hcells hbl (by omega) (by have:=h.2.1;omega) (by
      show (Lib.join (zzf l) []).length<=_
      rw [vvO]
      have:=yy1 l hs
      unfold zzu at this
      omega)
     rw [<-hl] at hJ
     refine hJ.mono ?_
     rintro e w' ⟨he,hw⟩
     refine⟨?_,hw⟩
     rw [he]
     show Ending.returned (.string ⟨(Lib.join (zzf l) []).toArray⟩)=_
     rw [vvO]
     rfl
end
section
open Go Go.RowKit
theorem qzW (F F2:Nat->Prop) (A A2:Option Addr) (n c n2 c2:Nat) (p:List Bool) (l:List VV) (w:World) (h:Sl zzU F w A n c p) (h2:Sl tVV F2 w A2 n2 c2 l) (hn:n<=4096) (hn2:n2<=4096) :
 Calls Tryz.prog 81 #[.slice A n c,.slice A2 n2 c2] w (xqu (zq0 p l) w):=by
 have HH:=zH h;have HL:=zH h.len;have HN:=zH hn;have HH2:=zH h2;have HL2:=zH h2.len;have HN2:=zH hn2
 obtain⟨o,ho⟩:∃ o,o=zq0 p l:=⟨_,rfl⟩
 have HO0:=zH (show o=if cntT p=l.length/\l.all (fun v => !v.null)=true then some (uu2 p l) else none by rw [ho];rfl)
 rw [<-ho]
 obtain⟨z,hz⟩:∃ z,z=cntT p:=⟨_,rfl⟩
 have HZ:=zH hz
 clear h h2 hn hn2 ho
 by_cases he:z=n2
 · have he1:(z:Int)=(n2:Int):=by omega
   have he2:((z:Int)==(n2:Int))=true:=by simpa using he1
   have HE:=zH (show cntT p=l.length by rw [<-hz,he,HL2.out])
   obtain⟨q,hq⟩:∃ q,q=(l.map (fun v:VV => !v.null)).all id:=⟨_,rfl⟩
   have HQ:=zH hq
   have HQA:=zH (show q=l.all (fun v => !v.null) by rw [hq,List.all_map];rfl)
   obtain rfl:=he
   clear hz hq he1
   cases q with
   | false =>
     have HD:=zH (show o=none by rw [HO0.out,if_neg (fun h=>by rw [<-HQA.out] at h;cases h.2)])
     go_enter Tryz.func81,Tryz.ntmps81
     go_wp2_with (first
      | (go_at_call 80;refine (zz4 F A n c p _ HH.out (by have:=HN.out;omega)).mono ?_;rintro e w1 ⟨rfl,hw⟩;obtain rfl:=hw.symm;rw [<-HZ.out])
      | (go_at_call 146;refine (vvN F2 A2 _ c2 l _ HH2.out HN2.out).mono ?_;rintro e w2 ⟨A3,n3,c3,rfl,ho3,hb3⟩;have HO3:=zH ho3;have HB3:=zH hb3;have HL3:Hid (n3<=4096):=zH (by rw [ho3.len,List.length_map,<-HL2.out];exact HN2.out);clear ho3 hb3)
      | (go_at_call 145;refine (jjG _ A3 n3 c3 _ _ HO3.out.sl HL3.out).mono ?_;rintro e w4 ⟨rfl,hw⟩;obtain rfl:=hw.symm;rw [<-HQ.out])
      | fail)
     go_ret2
     exact⟨none,0,0,by rw [HD.out];rfl,by rw [HD.out];exact Sl.nil_ _ _ _,HB3.out⟩
   | true =>
     have HD:=zH (show o=some (uu2 p l) by rw [HO0.out,if_pos ⟨HE.out,by rw [<-HQA.out]⟩])
     go_enter Tryz.func81,Tryz.ntmps81
     go_upto_region 4 with (first
      | (go_at_call 80;refine (zz4 F A n c p _ HH.out (by have:=HN.out;omega)).mono ?_;rintro e w1 ⟨rfl,hw⟩;obtain rfl:=hw.symm;rw [<-HZ.out])
      | (go_at_call 146;refine (vvN F2 A2 _ c2 l _ HH2.out HN2.out).mono ?_;rintro e w2 ⟨A3,n3,c3,rfl,ho3,hb3⟩;have HO3:=zH ho3;have HB3:=zH hb3;have HL3:Hid (n3<=4096):=zH (by rw [ho3.len,List.length_map,<-HL2.out];exact HN2.out);clear ho3 hb3)
      | (go_at_call 145;refine (jjG _ A3 n3 c3 _ _ HO3.out.sl HL3.out).mono ?_;rintro e w4 ⟨rfl,hw⟩;obtain rfl:=hw.symm;rw [<-HQ.out])
      | (go_at_call 148;refine (uuu F A n c p _ (HH.out.below HB3.out zN) HN.out).mono ?_;rintro e w5 ⟨A5,c5,rfl,ho5,hb5⟩;have HO5:=zH (qzz ho5);have HB5:=zH (HB3.out.trans (hb5.mono HB3.out.size));have HB35:=zH hb5;clear ho5 hb5)
      | fail)
     have HP5:=zH (HH.out.below HB5.out zN)
     have HV5:=zH (HH2.out.below HB5.out zN)
     go_wp2_with fail
     go_loopw [7,24] (fun av iv wr=>∃ (i a:Nat),i<=n/\av=.int .i64 (a:Int)/\iv=.int .i64 (i:Int)/\Hid (a=cntT (p.take i))/\a<=z/\OwnV wr w.heap.size A5 n c5 (yyn p l i)/\Below w.heap.size w wr) (fun _ iv _=>n - (intOf iv).toNat)
     case atStart=>exact⟨0,0,Nat.zero_le _,rfl,rfl,zH rfl,Nat.zero_le _,by rw [kqk];exact⟨yyS HO5.out.row HB3.out.size,HO5.out.ok⟩,HB5.out⟩
     case round =>
      obtain⟨i,a,hi,rfl,rfl,HA,haz,ho,hb⟩:=hrel
      have HO:=zH ho;have HB:=zH hb
      clear ho hb
      by_cases hlt:i<n
      · have hil:i<p.length:=by rw [<-HL.out];exact hlt
        have hiR:i<(yyn p l i).length:=by rw [xx5];exact hil
        obtain⟨g,rfl⟩:∃ g,A5=some ⟨g,0,none⟩:=by
         rcases HO.out.row.2 with ⟨_,h2⟩ | ⟨g,cap,cur,h1,_⟩
         · omega
         · injection h1 with h1;exact⟨g,h1⟩
        obtain⟨b,s,u,rfl,_,hbl,hr,hc⟩:=(HH.out.below HB.out zN).at1 hil rfl
        have HNO:=zH (fun h=>zqZ (l:=l) hil h)
        have HYES:=zH (fun h h2=>qzV (l:=l) hil h h2)
        have HCS:=zH (xx4 hil)
        have HLT:=zH (fun h=>xqt hil h)
        obtain⟨v,hv⟩:∃ v,v=p[i]:=⟨_,rfl⟩
        rw [<-hv] at hr HNO HYES HCS HLT
        injection hr with hr
        subst hr
        have i1:(0:Int)<=(i:Int):=by omega
        have i2:(i:Int)<(n:Int):=by omega
        have i3:(i:Int)<=4096:=by have:=HN.out;omega
        have HIR:=zH hiR
        clear hv
        cases v with
        | false =>
          have HA2:=zH (show a=cntT (p.take (i+1)) by rw [HCS.out,<-HA.out];rfl)
          have HJ:=zH (HNO.out rfl)
          clear hlt
          go_wp2_with fail
          go_roundw
          case rel=>exact⟨i+1,a,by omega,rfl,by go_num,HA2,haz,by rw [HJ.out];exact HO.out,HB.out⟩
          case measure=>simp [intOf];omega
        | true =>
          have HA2:=zH (show a+1=cntT (p.take (i+1)) by rw [HCS.out,<-HA.out];rfl)
          have hal:a<l.length:=by have h1:=HLT.out rfl;have h2:=HE.out;have h3:=HA.out;omega
          obtain⟨b2,s2,cs,rfl,_,hbl2,hrep,hc2⟩:=(HH2.out.below HB.out zN).at_ hal (by decide)
          obtain⟨d,hd⟩:∃ d,d=l[a]:=⟨_,rfl⟩
          obtain⟨rfl,hok⟩:=hrep
          have HJ:Hid (yyn p l (i+1)=(yyn p l i).set i d):=zH (by rw [HYES.out rfl (by rw [<-HA.out];exact hal),hd];simp only [<-HA.out])
          rw [<-hd] at hc2 hok
          have HOK:=zH hok
          obtain⟨q0,q1,q2⟩:=yyo hc2
          have q0:wr.cell? ⟨b2,s2+a*3,none⟩=some (.bool d.null):=q0
          have q1:wr.cell? ⟨b2,s2+a*3+1,none⟩=some (.int .i64 d.n):=q1
          have q2:wr.cell? ⟨b2,s2+a*3+2,none⟩=some (.string d.s):=q2
          obtain⟨e0,e1,e2⟩:=HO.out.cell hiR
          have f0:=HO.out.free (i*3);have f1:=HO.out.free (i*3+1);have f2:=HO.out.free (i*3+2)
          have a1:(0:Int)<=(a:Int):=by omega
          have a2:(a:Int)<(z:Int):=by have:=HL2.out;omega
          have a3:(a:Int)<=4096:=by have:=HN2.out;omega
          have HAZ:Hid (a+1<=z):=zH (by omega)
          have HGB:=zH HO.out.base.1
          clear hc2 hd hok
          go_wp2_with fail
          go_roundw
          case rel=>exact⟨i+1,a+1,by omega,by go_num,by go_num,HA2,HAZ.out,by rw [HJ.out];exact HO.out.set (i:=i) HIR.out d HOK.out,zzn (zzn (zzn HB.out HGB.out _) HGB.out _) HGB.out _⟩
          case measure=>simp [intOf];omega
      · obtain rfl:i=n:=by omega
        have HF:=zH (show yyn p l i=uu2 p l by rw [HL.out,qzU])
        go_wp2_with fail
        go_ret2
        exact⟨A5,i,c5,by rw [HD.out];rfl,by rw [HD.out,Option.getD_some,<-HF.out];exact HO.out.sl,HB.out⟩
 · have he1:¬ (z:Int)=(n2:Int):=by omega
   have he2:((z:Int)==(n2:Int))=false:=by simpa using he1
   have HD:=zH (show o=none by rw [HO0.out,if_neg (fun h=>he (by rw [hz,h.1,HL2.out]))])
   clear he hz
   go_enter Tryz.func81,Tryz.ntmps81
   go_wp2_with (first
    | (go_at_call 80;refine (zz4 F A n c p _ HH.out (by have:=HN.out;omega)).mono ?_;rintro e w1 ⟨rfl,hw⟩;obtain rfl:=hw.symm;rw [<-HZ.out])
    | fail)
   go_ret2
   exact⟨none,0,0,by rw [HD.out];rfl,by rw [HD.out];exact Sl.nil_ _ _ _,zR⟩
end
section
open Go Go.RowKit Go.Maps Go.Shelf
def yy3:Value->Option (DataW Value×List MemPlace):=fun v=>some (.held v,[])
theorem uu4 {D:DataW Value} (h:IsMap D):(intKeys D).length=Maps.size D:=by
 obtain⟨es,rfl⟩:=h
 simp [intKeys,Maps.size_eq]
theorem qzX (mb:Option Nat) (W:World):Calls Tryz.prog 234 #[.map mb] W fun e w'=>e=.returned (.func (.func 273) #[] #[.pointer (some ⟨W.heap.size,0,none⟩)])/\w'=W.alloc (.cells #[.map mb] 247) :=
 callsIn_wide.1 (AnyZI.keys_in Tryz.keysI Fence.wide 6 trivial rfl mb W)
theorem uuv {D0:DataW Value} {mb nn:Nat} (W0:World) (hown:W0.ownsMap Tryz.prog 3 yy3 mb nn D0) (hsz:Maps.size D0<=1000) :
 Calls Tryz.prog 233 #[.func (.func 273) #[] #[.pointer (some ⟨W0.heap.size,0,none⟩)]] (W0.alloc (.cells #[.map (some mb)] 247)) fun e w'=>∃ A c,e=.returned (.slice A (Maps.size D0) c)/\Below W0.heap.size W0 w':=by
 have hD:IsMap D0:=by obtain⟨es,clock,hb,Ft,hs,hD⟩:=hown;exact⟨_,hD⟩
 have hbl:=hown.lt
 have hseq:SeqGives Fence.wide 3 Tryz.prog 273 #[.pointer (some ⟨W0.heap.size,0,none⟩)] encZ (fun ss=>ss.Perm (intKeys D0)) (Maps.size D0) (W0.alloc (.cells #[.map (some mb)] 247)) :=
  AnyZI.keys_gives (ρ:=Tryz.keysI_ren) { Tryz.keysI with } Fence.wide _ trivial rfl (by omega) W0.heap.size mb nn D0 _ (by simp) (by simp) (by
   obtain⟨es,clock,hb,Ft,hs,hD⟩:=hown
   exact⟨es,clock,(Below.heap_alloc _ _ mb hbl).trans hb,Ft,hs,hD⟩)
 refine (callsIn_wide.1 (AnyZI.collect_in Tryz.collectI Fence.wide 5 trivial trivial rfl (by omega) 273 #[.pointer (some ⟨W0.heap.size,0,none⟩)] trivial (enters_of Tryz.func273 (by kernel_rfl) rfl) _ (Maps.size D0) (by unfold maxLen;omega) (by omega) _ hseq)).mono ?_
 rintro e w' ⟨v,ss,rfl,hS,hrow,_,hb⟩
 have hl:ss.length=Maps.size D0:=hS.length_eq.trans (uu4 hD)
 have hbb:Below W0.heap.size W0 w':=((Below.refl _ W0).alloc zN _).trans (hb.mono (by simp))
 rw [hl] at hrow
 rcases hrow.2 with ⟨h1,h2⟩ | ⟨g,cap,cur,h1,_⟩
 · exact⟨none,0,by rw [h1,h2],hbb⟩
 · exact⟨_,_,by rw [h1],hbb⟩
end
end Go.Proofs.YtpmglcachffojaaGreatDoor
