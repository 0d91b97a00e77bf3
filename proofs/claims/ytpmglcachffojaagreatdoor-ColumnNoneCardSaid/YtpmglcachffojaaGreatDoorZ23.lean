/- A part of what None leans on. -/
import Derived.Test.YtpmglcachffojaaGreatDoorZ20
import Derived.Lib.OthersKept
import Derived.Lib.ValidLaws
import Derived.Laws.RangeAny
import Derived.Laws.StructEq
import Derived.Lib.QuoteBits
set_option maxRecDepth 100000
set_option maxHeartbeats 16000000
namespace Go.Proofs.YtpmglcachffojaaGreatDoor
section
open Go Go.RowKit
theorem zzh {w w':World} (h:Lib.Utf8Tabs 0 1 w) (hb:Below w.heap.size w w'):Lib.Utf8Tabs 0 1 w' :=
 ⟨fun c hc=>zzt hb (h.1 c hc),fun i hi=>⟨zzt hb (h.2 i hi).1,zzt hb (h.2 i hi).2⟩⟩
theorem zqE (s:ByteArray) (pos:Nat):s.extract pos s.size=⟨(s.data.toList.drop pos).toArray⟩:=by
 apply ByteArray.ext
 apply Array.toList_inj.1
 rw [ByteArray.data_extract,Array.toList_extract,List.extract_eq_take_drop]
 show _=s.data.toList.drop pos
 rw [zL]
 rw [List.length_drop,Array.length_toList]
 exact Nat.le_refl _
theorem uuT (s:ByteArray) (pos:Nat) (h:pos<s.size):Lib.decodeGo (s.extract pos s.size)=Utf8.decode s pos:=by
 have hsz:(s.extract pos s.size).size=s.size - pos:=by rw [ByteArray.size_extract];omega
 unfold Lib.decodeGo
 rw [if_neg (by omega),zqE]
 exact Lib.decodeL_drop s pos
theorem qzs (s:ByteArray) (w:World) (hT:Lib.Utf8Tabs 0 1 w) :
 Calls Tryz.prog 87 #[.string s] w fun e w'=>e=.returned (.bool (Lib.validD s.data.toList))/\Below w.heap.size w w':=by
 obtain⟨l,hl⟩:∃ l,l=s.data.toList:=⟨_,rfl⟩
 rw [<-hl]
 have HL:=zH hl;have HT:=zH hT
 clear hl hT
 go_enter Tryz.func87,Tryz.ntmps87
 go_wp2_with fail
 obtain⟨k,hk⟩:∃ k,k=w.heap.size:=⟨_,rfl⟩
 have HK:=zH hk
 rw [<-hk]
 clear hk
 go_loopw [10] (fun _ wr=>∃ pos:Nat,pos<=s.size/\wr.heap[k]?=some (.stringIter s pos)/\Below w.heap.size w wr/\Lib.validD (l.drop pos)=Lib.validD l)
  (fun _ wr=>s.size - wr.iterPos k)
 case atStart=>exact⟨0,Nat.zero_le _,by rw [HK.out];exact heap_alloc_new w _,(zR).alloc zN _,by rw [List.drop_zero]⟩
 case round =>
  obtain⟨pos,hpos,hit,hb,hv⟩:=hrel
  have HIT:=zH hit;have HB:=zH hb;have HV:=zH hv
  have hip:wr.iterPos k=pos:=by unfold World.iterPos;rw [hit]
  have HIP:=zH hip
  have hls:l.length=s.size:=by rw [HL.out,Array.length_toList];rfl
  have HLS:=zH hls
  clear hb hv hip
  by_cases hlt:pos<s.size
  · have hn:=fun ty=>Lib.run_next_any_at (P:=Tryz.prog) wr k s pos ty hit hlt
    obtain⟨r,hr⟩:∃ r,r=(Utf8.decode s pos).1:=⟨_,rfl⟩
    obtain⟨d,hd⟩:∃ d,d=(Utf8.decode s pos).2:=⟨_,rfl⟩
    rw [<-hr,<-hd] at hn
    have hdl:=Lib.decodeL_drop s pos
    rw [<-HL.out] at hdl
    have hwid:=Lib.decodeL_width (l.drop pos)
    have hle:=Lib.decodeL_le (l.drop pos) (fun e=>by have:=congrArg List.length e;rw [List.length_drop] at this;simp at this;omega)
    rw [hdl,<-hd] at hwid hle
    rw [List.length_drop] at hle
    have hst:=Lib.validD_step (l.drop pos) (fun e=>by have:=congrArg List.length e;rw [List.length_drop] at this;simp at this;omega)
    rw [hdl,<-hr,<-hd,List.drop_drop] at hst
    have HST:=zH hst;have HWID:=zH hwid;have HLE:=zH hle
    obtain⟨w2,hw2⟩:∃ w2,w2=wr.iterAt k s (pos+d):=⟨_,rfl⟩
    rw [<-hw2] at hn
    have hit2:w2.heap[k]?=some (.stringIter s (pos+d)):=by rw [hw2];exact Lib.iterAt_heap wr k s pos _ hit
    have hb2:Below w.heap.size w w2:=by rw [hw2];exact Lib.below_iterAt HB.out (by rw [HK.out];exact Nat.le_refl _) s _
    have HIT2:=zH hit2;have HB2:=zH hb2
    have hip2:w2.iterPos k=pos+d:=by unfold World.iterPos;rw [hit2]
    have HIP2:=zH hip2
    have HR:=zH hr;have HD:=zH hd
    clear hr hd hdl hwid hle hst hw2 hit hit2 hb2 hip2
    by_cases hr3:r=65533
    · subst hr3
      have HDG:=zH (uuT s pos hlt)
      have i1:(pos:Int)<=(s.size:Int):=by omega
      have i2:(0:Int)<=(pos:Int):=by omega
      have HR2:=zH (show (Utf8.decode s pos).1=65533 from HR.out.symm)
      by_cases hd1:d=1
      · have hdI:(d:Int)=1:=by omega
        have HFIN:=zH (show Lib.validD l=false by rw [<-HV.out,HST.out,if_pos ⟨rfl,hd1⟩])
        clear hd1
        go_wp2_with (first
         | (go_at_call 156;refine (Tryz.utf8_DecodeRuneInString (s.extract pos s.size) _ (zzh HT.out HB2.out)).mono ?_;rintro e w3 ⟨rfl,hb3⟩;rw [HDG.out,<-HD.out,HR2.out];have HB3:=zH hb3;clear hb3)
         | fail)
        go_ret
        exact⟨by rw [HFIN.out];rfl,HB2.out.trans (HB3.out.mono HB2.out.size)⟩
      · have hdI:¬ (d:Int)=1:=by omega
        have hdb:((d:Int)==1)=false:=zzA hdI
        have HFIN:=zH (show Lib.validD (l.drop (pos+d))=Lib.validD l by rw [<-HV.out,HST.out,if_neg (fun h=>hd1 h.2)])
        clear hd1
        go_wp2_with (first
         | (go_at_call 156;refine (Tryz.utf8_DecodeRuneInString (s.extract pos s.size) _ (zzh HT.out HB2.out)).mono ?_;rintro e w3 ⟨rfl,hb3⟩;rw [HDG.out,<-HD.out,HR2.out];have HB3:=zH hb3;clear hb3)
         | fail)
        have hit3:=(HB3.out.block k (zzc HIT2.out)).trans HIT2.out
        have hip3:w3.iterPos k=pos+d:=by unfold World.iterPos;rw [hit3]
        go_roundw
        case rel=>exact⟨pos+d,by have:=HLE.out;omega,hit3,HB2.out.trans (HB3.out.mono HB2.out.size),HFIN.out⟩
        case measure=>rw [hip3,HIP.out];have:=HWID.out;omega
    · have hrI:¬ (r:Int)=65533:=by omega
      have hrb:((r:Int) != 65533)=true:=bne_iff_ne.2 hrI
      have HR3:=zH hr3
      clear hr3
      go_wp2_with fail
      go_roundw
      case rel=>exact⟨pos+d,by have:=HLE.out;omega,HIT2.out,HB2.out,by rw [<-HV.out,HST.out,if_neg (fun h=>HR3.out h.1)]⟩
      case measure=>rw [HIP2.out,HIP.out];have:=HWID.out;omega
  · have hn:=fun ty=>Lib.run_next_end_at (P:=Tryz.prog) wr k s pos ty hit hlt
    have HFIN:=zH (show Lib.validD l=true by rw [<-HV.out,List.drop_of_length_le (by omega)];exact Lib.validD_nil)
    clear hit
    go_wp2_with fail
    go_ret
    exact⟨by rw [HFIN.out];rfl,HB.out⟩
end
section
open Go Go.RowKit
theorem qzy:zzL Tryz.prog 22 74 tVV.size:=zzL.mk' (bytes:=32) (z:=.agg #[.bool false,.int .i64 0,.string ⟨#[]⟩]) (by kernel_rfl) (by kernel_rfl) rfl (by decide) (by decide)
def encV (d:VV):List Value:=[.bool d.null,.int .i64 d.n,.string d.s]
def yyh (l:List VV):List Value:=(l.map encV).flatten
theorem yyi:∀ l:List VV,(yyh l).length=l.length*3
 | []=>rfl
 | d::r=>by
   have:=yyi r
   simp only [yyh,List.map_cons,List.flatten_cons,List.length_append,encV,List.length_cons,List.length_nil] at this ⊢
   omega
theorem zzK (d:VV) (r:List VV):yyh (d::r)=encV d++yyh r:=rfl
theorem yyG:∀ (l:List VV) (k j:Nat) (h:k<l.length) (u:Value),(encV l[k])[j]?=some u->(yyh l)[k*3+j]?=some u
 | d::r,0,j,_,u,hu=>by
   have hj:j<3:=by
    rcases Nat.lt_or_ge j 3 with h | h
    · exact h
    · rw [List.getElem?_eq_none (by simpa [encV] using h)] at hu;cases hu
   rw [zzK,Nat.zero_mul,Nat.zero_add,List.getElem?_append_left (by simpa [encV] using hj)]
   exact hu
 | d::r,k+1,j,h,u,hu=>by
   have ih:=yyG r k j (by simpa using h) u (by simpa using hu)
   rw [zzK,List.getElem?_append_right (by simp [encV];omega),show (k+1)*3+j - (encV d).length=k*3+j by simp [encV];omega]
   exact ih
theorem uuU (l:List VV) (k:Nat):(yyh l).take (k*3)=yyh (l.take k):=by
 induction l generalizing k with
 | nil=>simp [yyh]
 | cons d r ih =>
   cases k with
   | zero=>simp [yyh]
   | succ k =>
     rw [zzK,List.take_succ_cons,zzK,<-ih k,List.take_append,zL (by simp [encV];omega)]
     congr 2
     simp [encV];omega
theorem vvo:∀ (l:List VV) (i:Nat) (d:VV),i<l.length->(((yyh l).set (i*3) (.bool d.null)).set (i*3+1) (.int .i64 d.n)).set (i*3+2) (.string d.s)=yyh (l.set i d)
 | e::r,0,d,_=>rfl
 | e::r,i+1,d,h=>by
   have ih:=vvo r i d (by simpa using h)
   rw [List.set_cons_succ,zzK,zzK,<-ih]
   simp only [encV,List.cons_append,List.nil_append,show (i+1)*3=i*3+1+1+1 by omega]
   rfl
theorem repsV (F:Nat->Prop) (w:World) (l:List VV) (h:∀ d∈l,d.ok):Reps tVV F w (l.map encV) l:=by
 refine⟨by simp,fun i cs x h1 h2=>?_⟩
 rw [List.getElem?_map,h2] at h1
 simp at h1
 subst h1
 exact⟨rfl,h x (List.mem_of_getElem? h2)⟩
theorem zqJ {F:Nat->Prop} {w:World} {css:List (List Value)} {l:List VV} (h:Reps tVV F w css l):css=l.map encV/\∀ d∈l,d.ok:=by
 have hk:∀ i (hi:i<l.length),css[i]?=some (encV l[i])/\(l[i]).ok:=fun i hi=>by
  have hc:i<css.length:=by rw [h.1];exact hi
  have:=h.2 i _ _ (List.getElem?_eq_getElem hc) (List.getElem?_eq_getElem hi)
  exact⟨by rw [List.getElem?_eq_getElem hc,this.1];rfl,this.2⟩
 refine⟨List.ext_getElem? fun i=>?_,fun d hd=>?_⟩
 · rcases Nat.lt_or_ge i l.length with hi | hi
   · rw [(hk i hi).1,List.getElem?_map,List.getElem?_eq_getElem hi];rfl
   · rw [List.getElem?_eq_none (by rw [h.1];exact hi),List.getElem?_eq_none (by simpa using hi)]
 · obtain⟨i,hi,rfl⟩:=List.getElem_of_mem hd
   exact (hk i hi).2
structure OwnV (w:World) (B:Nat) (A:Option Addr) (n c:Nat) (l:List VV):Prop where
 row:w.ownsRow B 74 3 (.slice A n c) n (yyh l)
 ok:∀ d∈l,d.ok
section
variable {w w':World} {B n c:Nat} {A:Option Addr} {l:List VV}
theorem OwnV.len (h:OwnV w B A n c l):n=l.length:=by
 have:=h.row.1
 rw [yyi] at this;omega
theorem OwnV.ownF (h:OwnV w B A n c l):OwnF tVV 74 (fun _=>False) w B A n c l:=⟨⟨l.map encV,h.row,repsV _ w l h.ok⟩,by simp,h.len⟩
theorem qzz {F:Nat->Prop} (h:OwnF tVV 74 F w B A n c l):OwnV w B A n c l:=by
 obtain⟨⟨css,h1,h2⟩,_,_⟩:=h
 obtain⟨rfl,h3⟩:=zqJ h2
 exact⟨h1,h3⟩
theorem OwnV.sl (h:OwnV w B A n c l):Sl tVV (fun b=>B<=b) w A n c l:=h.ownF.sl.weaken fun b hb _=>by rcases hb with hb | hb;exact hb.elim;exact hb.2
theorem OwnV.cap (h:OwnV w B A n c l):n<=c/\c<=maxLen:=yyq h.row
theorem OwnV.keepB (h:OwnV w B A n c l) (hb:Below w.heap.size w w'):OwnV w' B A n c l:=⟨zzC h.row fun b hb'=>hb.block b (h.row.lt b hb').2,h.ok⟩
theorem OwnV.front (h:OwnV w B A n c l) {k:Nat} (hk:k<=n) (hA:A≠none):OwnV w B A k c (l.take k):=by
 refine⟨⟨by rw [yyi,List.length_take,<-h.len];omega,?_⟩,fun d hd=>h.ok d (List.mem_of_mem_take hd)⟩
 rcases h.row.2 with ⟨h1,h2⟩ | ⟨g,cap,cur,h1,hb,hg,hn,hc,hs,ht⟩
 · injection h1 with h1;exact absurd h1 hA
 · injection h1 with e1 e2 e3;subst e1 e3
   refine .inr ⟨g,c,cur,rfl,hb,hg,by omega,hc,hs,?_⟩
   rw [<-uuU,<-ht,List.take_take,Nat.min_eq_left (Nat.mul_le_mul_right 3 hk)]
variable {g:Nat}
theorem OwnV.cell (h:OwnV w B (some ⟨g,0,none⟩) n c l) {i:Nat} (hi:i<l.length):w.cell? ⟨g,i*3,none⟩=some (.bool l[i].null)/\w.cell? ⟨g,i*3+1,none⟩=some (.int .i64 l[i].n)/\w.cell? ⟨g,i*3+2,none⟩=some (.string l[i].s):=by
 have hn:=h.len
 refine⟨?_,?_,?_⟩
 · rw [h.row.cellAt (i*3) (by omega)]
   exact yyG l i 0 hi _ rfl
 · rw [h.row.cellAt (i*3+1) (by omega)]
   exact yyG l i 1 hi _ rfl
 · rw [h.row.cellAt (i*3+2) (by omega)]
   exact yyG l i 2 hi _ rfl
theorem OwnV.free (h:OwnV w B (some ⟨g,0,none⟩) n c l) (j:Nat):w.frozen? ⟨g,j,none⟩=false:=h.row.frozenAt j
theorem OwnV.base (h:OwnV w B (some ⟨g,0,none⟩) n c l):B<=g/\g<w.heap.size:=h.row.lt g rfl
theorem OwnV.set (h:OwnV w B (some ⟨g,0,none⟩) n c l) {i:Nat} (hi:i<l.length) (d:VV) (hd:d.ok) :
 OwnV (((w.setCell ⟨g,i*3,none⟩ (.bool d.null)).setCell ⟨g,i*3+1,none⟩ (.int .i64 d.n)).setCell ⟨g,i*3+2,none⟩ (.string d.s)) B (some ⟨g,0,none⟩) n c (l.set i d):=by
 have h1:=(h.row.stored (i*3) (.bool d.null)).1
 have h2:=(h1.stored (i*3+1) (.int .i64 d.n)).1
 have h3:=(h2.stored (i*3+2) (.string d.s)).1
 rw [vvo l i d hi] at h3
 refine⟨h3,fun e he=>?_⟩
 rcases List.mem_or_eq_of_mem_set he with he | rfl
 · exact h.ok e he
 · exact hd
theorem OwnV.past (h:OwnV w B (some ⟨g,0,none⟩) n c l):∀ (vs:List Value) (o:Nat),n*3<=o->OwnV (w.setCells g o vs) B (some ⟨g,0,none⟩) n c l:=by
 intro vs
 induction vs generalizing w with
 | nil=>intro o _;exact h
 | cons v r ih =>
   intro o ho
   have h1:=(h.row.stored o v).1
   rw [List.set_eq_of_length_le (by rw [yyi,<-h.len];exact ho)] at h1
   exact ih (w:=w.setCell ⟨g,o,none⟩ v) ⟨h1,h.ok⟩ (o+1) (by omega)
end
theorem yyJ {B g:Nat} {a:World} (hg:B<=g):∀ (vs:List Value) (o:Nat) (w:World),Below B a w->Below B a (w.setCells g o vs)
 | [],_,_,h=>h
 | v::r,o,_,h=>yyJ hg r (o+1) _ (zzn h hg v)
theorem jj7 (w:World) (g o m c:Nat) (hm:0<m) (hc:∀ j,j<m*3->(w.cell? ⟨g,o+j,none⟩).isSome=true) (hf:∀ j,j<m*3->w.frozen? ⟨g,o+j,none⟩=false) :
 ∃ vs,∀ ty,(Builtin.clear_ #[22] ty #[.slice (some ⟨g,o,none⟩) m c]).run Tryz.prog w=.ok (.tuple #[]) (w.setCells g o vs):=by
 obtain⟨vs,hvs⟩:∃ vs,vs=(Builtin.zeroCells (Value.agg #[.bool false,.int .i64 0,.string ⟨#[]⟩]).cells m).toList:=⟨_,rfl⟩
 have hlen:vs.length=m*3:=by rw [hvs];simp [Builtin.zeroCells,Value.cells]
 have hone:∀ v∈vs,v.oneCell'=true:=by
  intro v hv
  rw [hvs] at hv
  obtain⟨i,hi,rfl⟩:=List.getElem_of_mem hv
  simp [Builtin.zeroCells,Value.cells] at hi ⊢
  have:i % 3<3:=Nat.mod_lt _ (by decide)
  match i % 3,this with
  | 0,_=>simp;rfl
  | 1,_=>simp;rfl
  | 2,_=>simp;rfl
 refine⟨vs,fun ty=>?_⟩
 have hst:=run_storeCells_cells (P:=Tryz.prog) g o vs 0 w (by simpa [hlen] using hc) (by simpa [hlen] using hf) hone
 simp only [Nat.add_zero] at hst
 have hz:∀ w,(zeroValue 74).run Tryz.prog w=.ok (.agg #[.bool false,.int .i64 0,.string ⟨#[]⟩]) w:=Tryz.zeroValue74
 obtain⟨k,rfl⟩:∃ k,m=k+1:=⟨m - 1,by omega⟩
 simp [Builtin.clear_,run_underlying (show Tryz.prog.underlying 22=some (.slice 74) by kernel_rfl),hz,<-hvs,hst]
end
end Go.Proofs.YtpmglcachffojaaGreatDoor
