/- A part of what Indexes leans on. -/
import Derived.Test.YtpmglcachffojaaGreatDoorZ34
import Derived.Test.YtpmglcachffojaaGreatDoorZ35
import Derived.Lib.AppendStr
import Derived.Laws.BytesArg
set_option maxRecDepth 100000
set_option maxHeartbeats 16000000
namespace Go.Proofs.YtpmglcachffojaaGreatDoor
section
open Go Go.RowKit
theorem zq1:∀ (f:Nat) (b:List UInt8),(byF f b).length<=2*b.length
 | 0,_=>by simp [byF]
 | f+1,[]=>by simp [byF]
 | f+1,c::r=>by
   rw [byF]
   by_cases h:3<=zzv (c::r)
   · rw [if_pos h]
     have ih:=zq1 f ((c::r).drop (zzv (c::r)))
     have:=vvf (c::r)
     rw [List.length_drop] at ih
     simp only [List.length_cons] at *
     omega
   · rw [if_neg h]
     have h1:=kq0 (b:=c::r) (by simp) (by omega)
     have h2:litN (c::r)<=(c::r).length:=(litF_le 128 (c::r)).1
     have ih:=zq1 f ((c::r).drop (litN (c::r)))
     rw [List.length_drop] at ih
     have h3:(litB (litN (c::r)) (c::r)).length<=litN (c::r)+1:=by
      unfold litB;rw [List.length_cons,List.length_take];omega
     rw [List.length_append]
     simp only [List.length_cons] at *
     omega
theorem byB_len (b:List UInt8):(byB b).length<=2*b.length:=zq1 _ _
theorem qz8 (l:List Bool):(uuN l).length<=l.length+1:=by
 unfold uuN;rw [vvU,List.length_map];unfold zz0;omega
theorem presB_len (l:List VV):(yy5 l).length<=2*l.length+2:=by
 unfold yy5
 split
 · have h1:=byB_len (uuN (l.map fun v => !v.null))
   have h2:=qz8 (l.map fun v => !v.null)
   rw [List.length_map] at h2
   omega
 · simp
theorem intsB_len (k:Int) (l:List VV):(uuO k l).length<=20*l.length+2:=by
 unfold uuO
 split
 · have h1:=byB_len (uuN (l.map fun v=>v.n==1))
   have h2:=qz8 (l.map fun v=>v.n==1)
   rw [List.length_map] at h2
   omega
 · split
   · have h1:=yyL true (l.map fun v=>v.n / 1000)
     have h2:=yyL false (l.map fun v=>v.n % 1000)
     rw [List.length_map] at h1 h2
     rw [List.length_append];omega
   · have h1:=yyL true (l.map fun v=>v.n)
     rw [List.length_map] at h1
     omega
theorem txC_bound (l:List ByteArray) (hs:∀ s∈l,s.size<=300):∀ x∈(txC l).2.2,x.2.length<=300*l.length:=by
 have hw:=qz4 l
 have h1:=xxs l hs
 have h2:=xxs (zzx l) (vvL hs)
 have h3:(uuu l).length<=10*l.length:=by have:=yyL false (l.map fun s=>(s.size:Int));rw [List.length_map] at this;exact this
 have h5:(zzx l).length=(zz2 l).length:=by unfold zzx;rw [List.length_map]
 have h4:(uuu (zzx l)).length<=10*(zzx l).length:=by have:=yyL false ((zzx l).map fun s=>(s.size:Int));rw [List.length_map] at this;exact this
 have h6:=yyL false (l.map fun s:ByteArray=>(yyx l s:Int))
 rw [List.length_map] at h6
 intro x hx
 unfold txC at hx
 split at hx
 · simp only [List.mem_cons,List.not_mem_nil,or_false] at hx
   rcases hx with rfl | rfl
   · exact h1
   · show (uuu l).length<=_;omega
 · simp only [List.mem_cons,List.not_mem_nil,or_false] at hx
   rcases hx with rfl | rfl | rfl
   · show (rleB false _).length<=_;omega
   · show (uuu _).length<=_;omega
   · show (zzT _).length<=_;omega
theorem xqU (k:Int) (l:List VV):∀ x∈(colR k l).2.2.2,x.2.length<=300*l.length+2:=by
 have hp:=presB_len l
 have hf:=List.length_filter_le zzH l
 intro x hx
 unfold colR at hx
 split at hx
 · rename_i he
   unfold colC at hx
   split at hx
   · simp only [List.mem_cons,List.not_mem_nil,or_false] at hx
     rcases hx with rfl | rfl
     · show (yy5 l).length<=_;omega
     · have:=intsB_len k (l.filter zzH)
       show (uuO k _).length<=_;omega
   · rename_i hk
     rcases List.mem_cons.1 hx with rfl | hx
     · show (yy5 l).length<=_;omega
     · have hk2:k=6∨k=7:=by
        unfold colE at he
        by_cases h7:1<=k/\k<=7
        · omega
        · rw [if_neg h7] at he;exact absurd he (by decide)
       have hall:l.all (mayV k)=true:=by
        cases hq:l.all (mayV k) with
        | true=>rfl
        | false =>
          unfold colE at he
          rw [if_pos (by omega),hq] at he
          exact absurd he (by decide)
       have:=txC_bound ((l.filter zzH).map (·.s)) (fun s hs=>by
        obtain⟨v,hv,rfl⟩:=List.mem_map.1 hs
        obtain⟨h1,h2⟩:=List.mem_filter.1 hv
        have h3:=List.all_eq_true.1 hall v h1
        have h2:v.null=false:=by simpa [zzH] using h2
        unfold mayV at h3
        rw [if_neg (by omega),if_pos hk2,h2] at h3
        simp at h3
        exact h3.2.1) x hx
       rw [List.length_map] at this
       omega
 · simp at hx
end
section
open Go Go.RowKit
def SS.fit (s:SS):Prop:=i64 s.count/\s.min.ok/\s.max.ok/\i64 s.sum
def zz4 (s:SS):List Value:=[.int .i64 s.count,.bool s.hasNull,.bool s.min.null,.int .i64 s.min.n,.string s.min.s,.bool s.max.null,.int .i64 s.max.n,.string s.max.s,.int .i64 s.sum,.bool s.over]
def tSS:Ty SS where
 size:=10
 rep _ _ cs s:=cs=zz4 s/\s.fit
 len h:=by rw [h.1];rfl
 one h:=by rw [h.1];unfold zz4;intro u hu;simp at hu;rcases hu with rfl | rfl | rfl | rfl | rfl | rfl | rfl | rfl | rfl | rfl <;> rfl
 keep h _ _:=h
 weaken h _:=h
theorem flatSS:tSS.Flat:=fun h=>h
abbrev ST:=Int×List Int×List SS
abbrev tSt:Ty ST:=tI64.prod ((tSl tI64).prod (tSl tSS))
theorem elemSS:zzP Tryz.prog 95 109 tSS.size:=zzP.mk' (bytes:=96) (z:=.agg #[.int .i64 0,.bool false,.bool false,.int .i64 0,.string ⟨#[]⟩,.bool false,.int .i64 0,.string ⟨#[]⟩,.int .i64 0,.bool false]) (by kernel_rfl) (by kernel_rfl) rfl (by decide) (by decide)
theorem qxZ:zzP Tryz.prog 42 97 tSt.size:=zzP.mk' (bytes:=56) (z:=.agg #[.int .i64 0,.slice none 0 0,.slice none 0 0]) (by kernel_rfl) (by kernel_rfl) rfl (by decide) (by decide)
theorem elemRSt:zzP Tryz.prog 46 106 tSt.size:=zzP.mk' (bytes:=56) (z:=.agg #[.int .i64 0,.slice none 0 0,.slice none 0 0]) (by kernel_rfl) (by kernel_rfl) rfl (by decide) (by decide)
def kd (cols:List CC) (j:Nat):Int:=(cols.getD j (⟨#[]⟩,0)).2
theorem kd_at {cols:List CC} {j:Nat} (hj:j<cols.length) {x:CC} (hx:x=cols[j]):kd cols j=x.2:=by
 unfold kd;rw [List.getD_eq_getElem?_getD,List.getElem?_eq_getElem hj,hx];rfl
def chB (k:Int) (l:List VV):List UInt8:=vvn (colR k l).1 (colR k l).2.1 (colR k l).2.2.1 (colR k l).2.2.2
def chJ (cols:List CC) (rows:List RR) (j:Nat):List UInt8:=chB (kd cols j) (colV rows j)
def vv7 (cols:List CC) (rows:List RR) (i:Nat):List UInt8:=((List.range i).map (chJ cols rows)).flatten
def qz9 (cols:List CC) (rows:List RR) (i:Nat):List Int:=(List.range i).map fun j=>((chJ cols rows j).length:Int)
def zqa (cols:List CC) (rows:List RR) (i:Nat):List SS:=(List.range i).map fun j=>zz3 (kd cols j) (colV rows j)
def zz8 (cols:List CC) (rows:List RR):ST:=((rows.length:Int),qz9 cols rows cols.length,zqa cols rows cols.length)
theorem kqz (cols:List CC) (rows:List RR) (i:Nat):vv7 cols rows (i+1)=vv7 cols rows i++chJ cols rows i:=by
 unfold vv7;rw [List.range_succ,List.map_append,List.flatten_append];simp
theorem xqW (cols:List CC) (rows:List RR) (i:Nat):qz9 cols rows (i+1)=qz9 cols rows i++[((chJ cols rows i).length:Int)]:=by
 unfold qz9;rw [List.range_succ,List.map_append];rfl
theorem xqX (cols:List CC) (rows:List RR) (i:Nat):zqa cols rows (i+1)=zqa cols rows i++[zz3 (kd cols i) (colV rows i)]:=by
 unfold zqa;rw [List.range_succ,List.map_append];rfl
theorem zqb (L:Nat):∀ ss:List (Int×List UInt8),(∀ x∈ss,x.2.length<=L)->wlen (ss.map strF).flatten<=ss.length*(40+L)
 | [],_=>by simp [wlen]
 | x::r,h=>by
   have ih:=zqb L r (fun y hy=>h y (by simp [hy]))
   have h1:=h x (by simp)
   rw [List.map_cons,List.flatten_cons,xxy,List.length_cons,Nat.succ_mul]
   have:wlen (strF x)=x.2.length+40:=by simp [strF,wlen,unum,fnum,ftxt];omega
   omega
theorem zq3 (m enc tx:Int) (ss:List (Int×List UInt8)) (L:Nat) (h:∀ x∈ss,x.2.length<=L):wlen (yy0 m enc tx ss)<=60+ss.length*(40+L):=by
 have:=zqb L ss h
 unfold yy0
 rw [xxy]
 have:wlen [unum 1 m,unum 2 enc,unum 3 tx]=60:=by simp [wlen,unum,fnum]
 omega
theorem qx0 (k:Int) (l:List VV):(colR k l).2.2.2.length<=4:=by
 unfold colR
 split
 · unfold colC
   split
   · simp
   · unfold txC
     split <;> simp
 · simp
theorem qx1 (k:Int) (l:List VV) (hl:l.length<=4096):wlen (yy0 (colR k l).1 (colR k l).2.1 (colR k l).2.2.1 (colR k l).2.2.2)<=5000000:=by
 have h1:=zq3 (colR k l).1 (colR k l).2.1 (colR k l).2.2.1 (colR k l).2.2.2 1228802 (fun x hx=>by have:=xqU k l x hx;omega)
 have h2:=qx0 k l
 have h3:(colR k l).2.2.2.length*(40+1228802)<=4*(40+1228802):=Nat.mul_le_mul_right _ h2
 omega
theorem chB_len (k:Int) (l:List VV) (hl:l.length<=4096):(chB k l).length<=5000004:=by
 have h1:=qx1 k l hl
 have h2:=vvS (yy0 (colR k l).1 (colR k l).2.1 (colR k l).2.2.1 (colR k l).2.2.2)
 unfold chB vvn vvF
 rw [List.length_append]
 simp only [List.length_cons,List.length_nil]
 omega
theorem vv8 (cols:List CC) (rows:List RR) (hr:rows.length<=4096):∀ i,(vv7 cols rows i).length<=i*5000004
 | 0=>by simp [vv7]
 | i+1=>by
   have ih:=vv8 cols rows hr i
   have:=chB_len (kd cols i) (colV rows i) (by rw [qxK];exact hr)
   rw [kqz,List.length_append,Nat.succ_mul]
   unfold chJ
   omega
theorem stats_fit (k:Int) (l:List VV) (h:∀ v∈l,v.ok) (hl:l.length<=4096):(zz3 k l).fit:=by
 have h1:=s0_mem l
 have h2:=qxX l
 have hn:jjR.ok:=by unfold jjR VV.ok maxLen;decide
 refine⟨?_,?_,?_,?_⟩
 · show i64 ((s0Of l).count:Int);unfold i64;omega
 · rcases h1.1 with h3 | h3
   · show (s0Of l).min.ok;rw [h3];exact hn
   · exact h _ h3
 · rcases h1.2 with h3 | h3
   · show (s0Of l).max.ok;rw [h3];exact hn
   · exact h _ h3
 · show i64 (if decide (1<=k/\k<=5)&&uux (sumV l) then sumV l else 0)
   split
   · rename_i hq
     rw [Bool.and_eq_true] at hq
     have:=hq.2
     unfold uux at this
     unfold i64
     simpa using this
   · unfold i64;omega
theorem colV_may {cols:List CC} {rows:List RR} (hs:schB cols=true) (hr:∀ r∈rows,rowB cols r=true) {j:Nat} (hj:j<cols.length):colE (kd cols j) (colV rows j)=0:=by
 have hk:1<=kd cols j/\kd cols j<=7:=by
  unfold schB at hs
  rw [Bool.and_eq_true,List.all_eq_true] at hs
  have h1:=hs.2 j (List.mem_range.2 hj)
  rw [qzf hj rfl] at h1
  unfold colB at h1
  rw [Bool.and_eq_true] at h1
  rw [kd_at hj rfl]
  simpa using h1.2
 unfold colE
 rw [if_pos hk,if_pos]
 rw [List.all_eq_true]
 intro v hv
 unfold colV at hv
 obtain⟨r,hr1,rfl⟩:=List.mem_map.1 hv
 have h2:=hr r hr1
 unfold rowB at h2
 rw [Bool.and_eq_true,decide_eq_true_eq,List.all_eq_true] at h2
 have hj2:j<r.length:=by rw [<-h2.1];exact hj
 have hz:j<(cols.zip r).length:=by rw [List.length_zip];omega
 have h3:=h2.2 _ (List.getElem_mem hz)
 rw [List.getElem_zip] at h3
 rw [kd_at hj rfl,List.getD_eq_getElem?_getD,List.getElem?_eq_getElem hj2]
 exact h3
end
section
open Go Go.RowKit
def uuQ (p:Int×SS):List Fld:=[unum 2 p.1,ftxt 3 (zz7 p.2)]
def stF (s:ST):List Fld:=unum 1 s.1::((s.2.1.zip s.2.2).map uuQ).flatten
def idxF (l:List ST):List Fld:=(l.map stF).flatten
def idxB (l:List ST):List UInt8:=vvF (dput (idxF l))
theorem zqg:∀ l:List (Int×SS),(l.map uuQ).flatten.length=2*l.length
 | []=>rfl
 | x::r=>by rw [List.map_cons,List.flatten_cons,List.length_append,zqg r,List.length_cons];show 2+_=_;omega
theorem stF_len (s:ST) (h:s.2.1.length<=20):(stF s).length<=41:=by
 unfold stF
 rw [List.length_cons,zqg,List.length_zip]
 omega
theorem zqh (l:List ST) (i:Nat) (hi:i<l.length) {s:ST} (hs:s=l[i]):idxF (l.take (i+1))=idxF (l.take i)++stF s:=by
 unfold idxF
 rw [zT hi,List.map_append,List.flatten_append,<-hs];simp
theorem uub:∀ l:List ST,(∀ s∈l,s.2.1.length<=20)->(idxF l).length<=41*l.length
 | [],_=>by simp [idxF]
 | x::r,h=>by
   have h1:=uub r (fun s hs=>h s (by simp [hs]))
   have h2:=stF_len x (h x (by simp))
   unfold idxF at *
   rw [List.map_cons,List.flatten_cons,List.length_append,List.length_cons]
   omega
theorem kqC (l:List (Int×SS)) (k:Nat) (hk:k<l.length) {p:Int×SS} (hp:p=l[k]):((l.take (k+1)).map uuQ).flatten=((l.take k).map uuQ).flatten++uuQ p:=by
 rw [zT hk,List.map_append,List.flatten_append,<-hp];simp
theorem kqD:∀ l:List (Int×SS),(∀ p∈l,p.2.ok)->wlen (l.map uuQ).flatten<=4100000*l.length
 | [],_=>by simp [wlen]
 | x::r,h=>by
   have h1:=kqD r (fun p hp=>h p (by simp [hp]))
   have h2:(zz7 x.2).length<=4000400:=Nat.le_trans (vvS (yyy x.2)) (xxe x.2 (h x (by simp)))
   rw [List.map_cons,List.flatten_cons,xxy,List.length_cons]
   have:wlen (uuQ x)=(zz7 x.2).length+40:=by simp [uuQ,wlen,unum,fnum,ftxt];omega
   omega
def stOk (s:ST):Prop:=s.2.1.length<=20/\∀ z∈s.2.2,z.ok
theorem stF_wlen (s:ST) (h:stOk s):wlen (stF s)<=82000020:=by
 have h1:=kqD (s.2.1.zip s.2.2) (fun p hp=>h.2 _ (List.of_mem_zip hp).2)
 rw [List.length_zip] at h1
 have h2:=h.1
 have h3:4100000*min s.2.1.length s.2.2.length<=4100000*20:=Nat.mul_le_mul_left _ (by omega)
 unfold stF
 simp only [wlen,unum,fnum,List.length_nil]
 omega
theorem jjU:∀ l:List ST,(∀ s∈l,stOk s)->wlen (idxF l)<=82000020*l.length
 | [],_=>by simp [idxF,wlen]
 | x::r,h=>by
   have h1:=jjU r (fun s hs=>h s (by simp [hs]))
   have h2:=stF_wlen x (h x (by simp))
   unfold idxF at *
   rw [List.map_cons,List.flatten_cons,xxy,List.length_cons]
   omega
theorem yyg {F:Nat->Prop} {w:World} {cs:List Value} {x:ST} (h:tSt.rep F w cs x):∃ A1 n1 c1 A2 n2 c2,cs=[.int .i64 x.1,.slice A1 n1 c1,.slice A2 n2 c2]/\Sl tI64 F w A1 n1 c1 x.2.1/\Sl tSS F w A2 n2 c2 x.2.2:=by
 obtain⟨d1,d2,rfl,⟨rfl,_⟩,d3,d4,rfl,⟨A1,n1,c1,rfl,h1⟩,A2,n2,c2,rfl,h2⟩:=h
 exact⟨A1,n1,c1,A2,n2,c2,rfl,h1,h2⟩
theorem uu5 {w:World} {b o k:Nat} {z:SS} (h:∀ j u,(zz4 z)[j]?=some u->w.cell? ⟨b,o+(k*10+j),none⟩=some u):∀ j u,([.int .i64 z.count,.bool z.hasNull,.bool z.min.null,.int .i64 z.min.n,.string z.min.s,.bool z.max.null,.int .i64 z.max.n,.string z.max.s,.int .i64 z.sum,.bool z.over]:List Value)[j]?=some u->w.cell? ⟨b,o+(k*10+j),none⟩=some u:=h
theorem zqi (g:Nat) (F:Nat->Prop) (A:Option Addr) (n c:Nat) (l:List ST) (w:World) (hT:TabC g w) (h:Sl tSt F w A n c l) (hn:n<=20) (hl:∀ s∈l,stOk s) :
 Calls Tryz.prog 24 #[.pointer (some ⟨g,0,none⟩),.slice A n c] w (Own1 w (idxB l)):=by
 have HL:=zH h.len;have HT:=zH hT;have HH:=zH (h.weaken (F':=fun b=>b<w.heap.size) fun b _ hl=>hl)
 have HW:=zH (show wlen (idxF l)<=4294967100 by have h1:=jjU l hl;have h2:=h.len;have h3:82000020*l.length<=82000020*20:=Nat.mul_le_mul_left _ (by omega);omega)
 have HOK:=zH hl;have HN:=zH hn
 clear h hT hl
 go_enter Tryz.func24,Tryz.ntmps24
 go_wp2_with fail
 go_loopw [5,12] (fun fv iv wr=>∃ (i m:Nat) (A2:Option Addr) (c2:Nat) (G:Nat->Prop),i<=n/\iv=.int .i64 (i:Int)/\fv=.slice A2 m c2/\OwnF tFld 114 G wr w.heap.size A2 m c2 (idxF (l.take i))/\Below w.heap.size w wr) (fun _ iv _=>n - (intOf iv).toNat)
 case atStart=>exact⟨0,0,none,0,fun _=>False,Nat.zero_le _,rfl,rfl,OwnF.nil_ _ _ _ _ _,zR⟩
 case round =>
  obtain⟨i,m,A2,c2,G2,hi,rfl,rfl,ho,hb⟩:=hrel
  have HO:=zH ho;have HB:=zH hb
  have hsz:=hb.size
  clear ho hb
  by_cases hlt:i<n
  · have hil:i<l.length:=by rw [<-HL.out];exact hlt
    obtain⟨b,o,cs,rfl,_,hbl,hrep,hc⟩:=(HH.out.below HB.out zN).at_ hil (by decide)
    obtain⟨⟨rw_,lg,st⟩,hx⟩:∃ x,x=l[i]:=⟨_,rfl⟩
    rw [<-hx] at hrep
    obtain⟨A3,n3,c3,A4,n4,c4,rfl,h3,h4⟩:=yyg hrep
    dsimp only at hc h3 h4
    have HX:=zH hx
    have hok:stOk (rw_,lg,st):=by rw [hx];exact HOK.out _ (List.getElem_mem hil)
    have HLG:=zH hok.1;have HSO:=zH hok.2
    have H3:=zH h3;have H4:=zH h4
    have HML:Hid (m<=41*i):=zH (by
     rw [HO.out.len]
     have h5:=uub (l.take i) (fun s hs=>(HOK.out s (List.mem_of_mem_take hs)).1)
     rw [List.length_take] at h5
     omega)
    obtain⟨g0,g1,g2⟩:=yyj hc
    have i0:(0:Int)<=(i:Int):=by omega
    have i1:(i:Int)<(n:Int):=by omega
    have i2:(i:Int)<=20:=by omega
    clear hc hx hrep hok h3 h4
    go_upto_region 5 with fail
    obtain⟨wq,hwq⟩:∃ wq,wq=wr.alloc (.cells #[.int .i64 rw_,.slice A3 n3 c3,.slice A4 n4 c4] 97):=⟨_,rfl⟩
    have hbq:Below wr.heap.size wr wq:=by rw [hwq];exact (zR).alloc zN _
    have HGQ:Hid (wq.heap[wr.heap.size]?=some (.cells #[.int .i64 rw_,.slice A3 n3 c3,.slice A4 n4 c4] 97 (0,0))):=zH (by rw [hwq];exact heap_alloc_new wr _)
    rw [<-hwq]
    have HBQ:=zH hbq
    have k0:wq.cell? ⟨wr.heap.size,0,none⟩=some (.int .i64 rw_):=by rw [zC HGQ.out];rfl
    have HOQ:=zH (HO.out.keepB hbq)
    have HBW:=zH (HB.out.trans (hbq.mono hsz))
    clear g0 g1 g2 hwq hbq
    have HM2:Hid (m<=34359738368):=zH (by have:=HML.out;omega)
    go_upto_region 6 with (first
     | (go_at_call 60;refine (vvo _ _ _).mono ?_;rintro e w4 ⟨rfl,hb4⟩;have HB4:=zH hb4;clear hb4)
     | (at_builtin;refine apl1 (T:=tFld) uu2 w4 w rfl (.tmp 16) (.tmp 20) rfl w.heap.size A2 m c2 _ (by rfl) G2 (fun _=>False) (HOQ.out.keepB HB4.out) (HBW.out.trans (HB4.out.mono HBW.out.size)) zN _ (by rfl) _ (unum 1 rw_) (yys (by unfold i64;omega)) 114 rfl (fun _ _ _ _ h=>h) HM2.out ?_;intro A5 c5 w5 h5)
     | fail)
    have HB5:=zH h5.below
    have HG5:Hid (w5.heap[wr.heap.size]?=some (.cells #[.int .i64 rw_,.slice A3 n3 c3,.slice A4 n4 c4] 97 (0,0))):=zH (by
     have h6:=(HB4.out.block _ (zzc HGQ.out)).trans HGQ.out
     refine (h5.grown.block _ (by rw [zS];exact Nat.lt_succ_of_lt (zzc h6)) (HO.out.offNew zN)).trans ((Below.heap_alloc _ _ _ (zzc h6)).trans h6))
    have HO5:=zH h5.own
    have HL5:=zH h5.lies
    have d1:w5.cell? ⟨wr.heap.size,1,none⟩=some (.slice A3 n3 c3):=by rw [zC HG5.out];rfl
    have d2:w5.cell? ⟨wr.heap.size,2,none⟩=some (.slice A4 n4 c4):=by rw [zC HG5.out];rfl
    obtain⟨q,hq⟩:∃ q,q=min n3 n4:=⟨_,rfl⟩
    have HQM:=zH hq
    have hmin:min (n3:Int) (n4:Int)=(q:Int):=by omega
    have hc3:=H3.out.2.1
    have q0:(0:Int)<=(q:Int):=by omega
    have q1:(q:Int)<=(c3:Int):=by omega
    clear h5 k0 hc3 hq
    go_wp2_with fail
    obtain⟨wl,hwl⟩:∃ wl,wl=wr:=⟨_,rfl⟩
    have HA5:Hid (∀ b,A5.map (·.block)=some b->b≠wr.heap.size):=zH (fun b hb e=>by
     subst e
     rcases HL5.out with h | h
     · rw [h] at hb
       exact HO.out.offNew zN hb.symm
     · rw [hb] at h;injection h with h;rw [zS] at h;have:=HB4.out.size;have:=zzc HGQ.out;omega)
    rw [<-hwl] at HG5 d1 d2 H3 H4 HB HA5
    rw [<-hwl]
    clear hwl
    obtain⟨zp,hzp⟩:∃ zp,zp=lg.zip st:=⟨_,rfl⟩
    have HZP:=zH hzp
    have HZL:Hid (zp.length=q):=zH (by rw [hzp,List.length_zip,<-H3.out.len,<-H4.out.len];exact HQM.out.symm)
    have HQ20:Hid (q<=20):=zH (by have h1:=H3.out.len;have h2:lg.length<=20:=HLG.out;have h3:=HQM.out;omega)
    clear hzp d1 d2 hmin
    go_loopw [5,33] (fun fv kv wx=>∃ (k:Nat) (A6:Option Addr) (c6:Nat) (G6:Nat->Prop),k<=q/\kv=.int .i64 (k:Int)/\fv=.slice A6 (m+1+2*k) c6/\OwnF tFld 114 G6 wx w.heap.size A6 (m+1+2*k) c6 (idxF (l.take i)++[unum 1 rw_]++((zp.take k).map uuQ).flatten)/\Below w.heap.size w wx /\
     Hid (wx.heap[wl.heap.size]?=some (.cells #[.int .i64 rw_,.slice A3 n3 c3,.slice A4 n4 c4] 97 (0,0)))/\Hid (∀ b,A6.map (·.block)=some b->b≠wl.heap.size)) (fun _ kv _=>q - (intOf kv).toNat)
    case atStart=>exact⟨0,A5,c5,_,Nat.zero_le _,rfl,rfl,by rw [List.take_zero];simpa using HO5.out,HB5.out,HG5,HA5⟩
    case round =>
     obtain⟨k,A6,c6,G6,hk,rfl,rfl,ho,hbx,HGX,HA6⟩:=hrel
     have HOX:=zH ho;have HBX:=zH hbx
     have hsx:=hbx.size
     clear ho hbx
     by_cases hkq:k<q
     · have hkz:k<zp.length:=by rw [HZL.out];exact hkq
       have hk3:k<lg.length:=by rw [<-H3.out.len];have:=HQM.out;omega
       have hk4:k<st.length:=by rw [<-H4.out.len];have:=HQM.out;omega
       have hx3:=H3.out.keep (w':=wr) (Nat.le_of_lt (zzc HGX.out)) (fun b hb _=>(HBX.out.block b hb).trans (HB.out.block b hb).symm)
       have hx4:=H4.out.keep (w':=wr) (Nat.le_of_lt (zzc HGX.out)) (fun b hb _=>(HBX.out.block b hb).trans (HB.out.block b hb).symm)
       obtain⟨b3,o3,u,rfl,_,_,hr3,y3⟩:=hx3.at1 hk3 rfl
       obtain⟨b4,o4,cs4,rfl,hb4w,_,hr4,hc4⟩:=hx4.at_ hk4 (by decide)
       obtain⟨x,hx⟩:∃ x,x=lg[k]:=⟨_,rfl⟩
       obtain⟨z,hz⟩:∃ z,z=st[k]:=⟨_,rfl⟩
       rw [<-hx] at hr3
       rw [<-hz] at hr4
       obtain⟨hu,_,_⟩:=hr3
       injection hu with hu
       subst hu
       obtain⟨rfl,_⟩:=hr4
       obtain⟨z0,z1,z2,z3,z4,z5,z6,z7,z8,z9⟩:=kqN (uu5 hc4)
       have HZX:=zH (show (x,z)=zp[k] by have:=HZP.out;subst this;rw [hx,hz,List.getElem_zip])
       have HZO:Hid z.ok:=zH (by rw [hz];exact HSO.out _ (List.getElem_mem hk4))
       have HSN:=zH (kqC zp k hkz HZX.out)
       have d2:wr.cell? ⟨wl.heap.size,2,none⟩=some (.slice (some ⟨b4,o4,none⟩) n4 c4):=by rw [zC HGX.out];rfl
       have j0:(0:Int)<=(k:Int):=by omega
       have j1:(k:Int)<(q:Int):=by omega
       have j2:(k:Int)<(n4:Int):=by have:=HQM.out;omega
       have j3:(k:Int)<=20:=by have:=HQ20.out;omega
       have HMK:Hid (m+1+2*k+2<=68719476736):=zH (by have:=HML.out;omega)
       have HN6:Hid (∀ b,A6.map (·.block)=some b->w.heap.size<=b/\b<wr.heap.size):=zH (fun b hb=>(HOX.out.lies' hb).2)
       have HB4W:=zH hb4w
       clear hx hz hc4 hx3 hx4 hb4w
       go_upto_region 9 with fail
       go_region_held3 (fun w'=>w'.cell? ⟨wl.heap.size,2,none⟩=some (.slice (some ⟨b4,o4,none⟩) n4 c4)/\w'.cell? ⟨b4,o4+k*10,none⟩=some (.int .i64 z.count)/\w'.cell? ⟨b4,o4+k*10+1,none⟩=some (.bool z.hasNull)/\w'.cell? ⟨b4,o4+k*10+2,none⟩=some (.bool z.min.null)/\w'.cell? ⟨b4,o4+k*10+3,none⟩=some (.int .i64 z.min.n)/\w'.cell? ⟨b4,o4+k*10+4,none⟩=some (.string z.min.s)/\w'.cell? ⟨b4,o4+k*10+5,none⟩=some (.bool z.max.null)/\w'.cell? ⟨b4,o4+k*10+6,none⟩=some (.int .i64 z.max.n)/\w'.cell? ⟨b4,o4+k*10+7,none⟩=some (.string z.max.s)/\w'.cell? ⟨b4,o4+k*10+8,none⟩=some (.int .i64 z.sum)/\w'.cell? ⟨b4,o4+k*10+9,none⟩=some (.bool z.over))
        (first | go_keep | (go_split_ands;refine⟨?_,?_,?_,?_,?_,?_,?_,?_,?_,?_,?_⟩ <;> exact zzh (by assumption) (by assumption)) | (go_split_ands;refine⟨?_,?_,?_,?_,?_,?_,?_,?_,?_,?_,?_⟩ <;> first | exact hgz.cell (by assumption) (fun e=>HA6.out _ e.symm rfl) | exact hgz.cell (by assumption) (fun e=>by have h1:w.heap.size<=b4:=(HN6.out _ e.symm).1;have h2:=HB4W.out;omega)))
        (first
          | (go_at_call_of 60 (Value.int .i64 2);refine (vvo _ _ _).mono ?_;rintro e w7 ⟨rfl,hb7⟩)
          | (go_at_call 62;refine (xxc z HZO.out _).mono ?_;rintro e w8 ⟨A8,n8,c8,rfl,ho8,hb8⟩)
          | (go_at_call 61;refine (kqv _ _ _ _ _).mono ?_;rintro e w9 ⟨rfl,hb9⟩)
          | (have hbw:Below wr.heap.size wr w9:=(by (repeat (first | exact zR | assumption | refine jja ?_ (by assumption) | refine xxK ?_ _ | refine jjb ?_)))
             have hb87:wr.heap.size<=w7.heap.size:=hb7.size
             have hs8:Sl tU8 (fun b=>wr.heap.size<=b) w9 A8 n8 c8 (zz7 z):=((ho8.own.sl.weaken (fun b hb _=>by (rcases hb with hb | hb;exact hb.elim;exact Nat.le_trans hb87 hb.2))).below hb9 zN)
             refine vvb (T:=tFld) uu2 (w9.alloc _) w rfl (.tmp 38) (.tmp 48) rfl w.heap.size A6 (m+1+2*k) c6 _ rfl G6 (fun b=>(wr.heap.size<=b/\b<w9.heap.size)∨b=w9.heap.size) ((HOX.out.keepB hbw).alloc _) ((HBX.out.trans (hbw.mono hsx)).alloc (by have:=hbw.size;omega) _) zN
              (some ⟨w9.heap.size,0,none⟩) 2 2 [unum 2 x,ftxt 3 (zz7 z)] rfl (Sl.news (T:=tFld) (F:=fun b=>wr.heap.size<=b) (Reps.mk2 (yys (by unfold i64;omega)) ⟨A8,n8,c8,rfl,by unfold i64;simp [ftxt],by simp [ftxt],hs8⟩) 114 2 rfl (by omega) _ rfl)
              (fun b h1 h2 _ h4=>by have h5:=(HN6.out b (by rw [h1];rfl)).2;have:=hbw.size;omega) HMK.out ?_
             intro A9 c9 wz hz9;have hgz:=hz9.grown
             have hlt9:wl.heap.size<w9.heap.size:=Nat.lt_of_lt_of_le (zzc HGX.out) hbw.size
             have HGZ:=zH ((hgz.block wl.heap.size (by rw [zS];exact Nat.lt_succ_of_lt hlt9) (fun e=>HA6.out _ e.symm rfl)).trans ((Below.heap_alloc w9 _ _ hlt9).trans ((hbw.block _ (zzc HGX.out)).trans HGX.out)))
             have HAZ:Hid (∀ b,A9.map (·.block)=some b->b≠wl.heap.size):=zH (fun b hb=>by
              rcases hz9.lies with h | h
              · rw [h] at hb;exact HA6.out b hb
              · rw [hb] at h;injection h with h;rw [zS] at h;omega)))
       all_goals
        go_wp2_with fail
        go_roundw
        case rel =>
         have e2:=hz9.own
         exact⟨k+1,A9,c9,_,by omega,by go_num,by rw [show m+1+2*(k+1)=m+1+2*k+2 by omega],by rw [show m+1+2*(k+1)=m+1+2*k+2 by omega,HSN.out,<-List.append_assoc];exact e2,hz9.below,HGZ,HAZ⟩
        case measure=>simp [intOf];omega
     · obtain rfl:k=q:=by omega
       have HFI:Hid (idxF (l.take (i+1))=idxF (l.take i)++[unum 1 rw_]++((zp.take k).map uuQ).flatten):=zH (by
        rw [zqh l i hil HX.out,List.append_assoc,show zp.take k=zp from zL (by rw [HZL.out];exact Nat.le_refl _),HZP.out];rfl)
       go_wp2_with fail
       go_roundw
       case rel=>exact⟨i+1,m+1+2*k,A6,c6,G6,by omega,by go_num,rfl,by rw [HFI.out];exact HOX.out,HBX.out⟩
       case measure=>simp [intOf];omega
  · obtain rfl:i=n:=by omega
    have e1:l.take i=l:=zL (by rw [<-HL.out];exact Nat.le_refl _)
    rw [e1] at HO
    have hm:m<=4294967296:=by
     rw [HO.out.len]
     have h5:=uub l (fun s hs=>(HOK.out s hs).1)
     have:=HL.out
     omega
    have HM:=zH hm
    clear e1 hm
    go_wp2_with (first
     | (go_at_call 63;refine (kqx g _ A2 m c2 (idxF l) _ (HT.out.keep HB.out) HO.out.sl HM.out HW.out).mono ?_;rintro e w2 ⟨A3,n3,c3,rfl,ho3,hb3⟩;have HO3:=zH ho3;have HB3:=zH hb3;clear ho3 hb3)
     | fail)
    go_ret
    exact⟨A3,n3,c3,rfl,HO3.out.down hsz,HB.out.trans (HB3.out.mono hsz)⟩
end
section
open Go Go.RowKit
def yyi (rows:List RR) (k:Nat):List RR:=(rows.drop (8*k)).take 8
def dataR (cols:List CC) (rows:List RR) (k:Nat):List UInt8:=((List.range k).map fun j=>vv7 cols (yyi rows j) cols.length).flatten
def stR (cols:List CC) (rows:List RR) (k:Nat):List ST:=(List.range k).map fun j=>zz8 cols (yyi rows j)
def nP (rows:List RR):Nat:=(rows.length+7) / 8
def putE (cols:List CC) (rows:List RR):Int:=if schB cols then (if rows.length<=32 then (if rows.all (rowB cols) then 0 else 21) else 3) else 20
def putD (cols:List CC) (rows:List RR):List UInt8:=if putE cols rows=0 then dataR cols rows (nP rows) else []
def putS (cols:List CC) (rows:List RR):List ST:=if putE cols rows=0 then stR cols rows (nP rows) else []
theorem qx4 {cols:List CC} {rows:List RR} (h:schB cols=false):putE cols rows=20:=if_neg (by rw [h];decide)
theorem qx5 {cols:List CC} {rows:List RR} (h:schB cols=true) (h2:¬ rows.length<=32):putE cols rows=3:=by unfold putE;rw [if_pos h,if_neg h2]
theorem qx6 {cols:List CC} {rows:List RR} (h:schB cols=true) (h2:rows.length<=32) (h3:rows.all (rowB cols)=false):putE cols rows=21:=by unfold putE;rw [if_pos h,if_pos h2,if_neg (by rw [h3];decide)]
theorem zq9 {cols:List CC} {rows:List RR} (h:schB cols=true) (h2:rows.length<=32) (h3:rows.all (rowB cols)=true):putE cols rows=0:=by unfold putE;rw [if_pos h,if_pos h2,if_pos h3]
theorem put_no {cols:List CC} {rows:List RR} (h:putE cols rows≠0):putD cols rows=[]/\putS cols rows=[]:=⟨if_neg h,if_neg h⟩
theorem put_yes {cols:List CC} {rows:List RR} (h:putE cols rows=0):putD cols rows=dataR cols rows (nP rows)/\putS cols rows=stR cols rows (nP rows):=⟨if_pos h,if_pos h⟩
theorem jjV (rows:List RR) (k:Nat):(yyi rows k).length=min 8 (rows.length - 8*k):=by unfold yyi;simp
theorem zqj {rows:List RR} {k:Nat} {r:RR} (h:r∈yyi rows k):r∈rows:=List.mem_of_mem_drop (List.mem_of_mem_take h)
theorem rowB_len {cols:List CC} {r:RR} (h:rowB cols r=true):r.length=cols.length:=by
 unfold rowB at h
 rw [Bool.and_eq_true,decide_eq_true_eq] at h
 exact h.1.symm
theorem qx7 {cols:List CC} (h:schB cols=true):1<=cols.length/\cols.length<=6:=by
 unfold schB at h
 rw [Bool.and_eq_true,decide_eq_true_eq] at h
 exact h.1
def qx8 (cols:List CC) (rows:List RR) (w:World) (e:Ending) (w':World):Prop :=
 ∃ A n c A1 n1 c1,e=.returned (.tuple #[.slice A n c,.slice A1 n1 c1,.int .i64 (putE cols rows)])/\Sl tU8 (fun b=>w.heap.size<=b) w' A n c (putD cols rows)/\Sl tSt (fun b=>w.heap.size<=b) w' A1 n1 c1 (putS cols rows)/\Below w.heap.size w w'
end
section
open Go Go.RowKit
theorem nP_lt (rows:List RR) (k:Nat):k<nP rows↔8*k<rows.length:=by unfold nP;omega
theorem part8_cut (rows:List RR) (k hi:Nat) (h:hi=min rows.length (8*k+8)):(rows.take hi).drop (8*k)=yyi rows k:=by
 unfold yyi
 rw [List.drop_take,List.take_eq_take_iff,List.length_drop]
 omega
end
section
open Go Go.RowKit
theorem putE_zero {cols:List CC} {rows:List RR} (h:putE cols rows=0):schB cols=true/\rows.length<=32/\rows.all (rowB cols)=true:=by
 have hs:schB cols=true:=by
  cases hq:schB cols with
  | true=>rfl
  | false=>rw [qx4 hq] at h;exact absurd h (by decide)
 have h32:rows.length<=32:=by
  by_cases h2:rows.length<=32
  · exact h2
  · rw [qx5 hs h2] at h;exact absurd h (by decide)
 refine⟨hs,h32,?_⟩
 cases hq:rows.all (rowB cols) with
 | true=>rfl
 | false=>rw [qx6 hs h32 hq] at h;exact absurd h (by decide)
end
section
open Go Go.RowKit
def mayS (k:Int) (s:SS):Bool :=
 !decide (s.count<0) && !decide (409600<s.count)&&mayV k s.min&&mayV k s.max&&(s.min.null==(s.count==0))&&(s.max.null==(s.count==0)) && !decide (vcmp s.max s.min<0) &&
  (if s.over then (s.sum==0)&&decide (1<=k/\k<=5) else (s.sum==0) || decide (1<=k/\k<=5))
structure StC (g:Nat) (ct:Int) (hn mn:Bool) (mi:Int) (ms:ByteArray) (xn:Bool) (xi:Int) (xs:ByteArray) (sm:Int) (ov:Bool) (W:World):Prop where
 c0:W.cell? ⟨g,0,none⟩=some (.int .i64 ct)
 c1:W.cell? ⟨g,1,none⟩=some (.bool hn)
 c2:W.cell? ⟨g,2,none⟩=some (.bool mn)
 c3:W.cell? ⟨g,2+1,none⟩=some (.int .i64 mi)
 c4:W.cell? ⟨g,2+2,none⟩=some (.string ms)
 c5:W.cell? ⟨g,5,none⟩=some (.bool xn)
 c6:W.cell? ⟨g,5+1,none⟩=some (.int .i64 xi)
 c7:W.cell? ⟨g,5+2,none⟩=some (.string xs)
 c8:W.cell? ⟨g,8,none⟩=some (.int .i64 sm)
 c9:W.cell? ⟨g,9,none⟩=some (.bool ov)
theorem StC.keep {g:Nat} {ct:Int} {hn mn:Bool} {mi:Int} {ms:ByteArray} {xn:Bool} {xi:Int} {xs:ByteArray} {sm:Int} {ov:Bool} {W W':World} (h:StC g ct hn mn mi ms xn xi xs sm ov W) (hb:Below W.heap.size W W'):StC g ct hn mn mi ms xn xi xs sm ov W' :=
 ⟨zzh hb h.c0,zzh hb h.c1,zzh hb h.c2,zzh hb h.c3,zzh hb h.c4,zzh hb h.c5,zzh hb h.c6,zzh hb h.c7,zzh hb h.c8,zzh hb h.c9⟩
theorem StC.of {g:Nat} {ct:Int} {hn mn:Bool} {mi:Int} {ms:ByteArray} {xn:Bool} {xi:Int} {xs:ByteArray} {sm:Int} {ov:Bool} {W:World} {t:TypeId} (h:W.heap[g]?=some (.cells #[.int .i64 ct,.bool hn,.bool mn,.int .i64 mi,.string ms,.bool xn,.int .i64 xi,.string xs,.int .i64 sm,.bool ov] t (0,0))):StC g ct hn mn mi ms xn xi xs sm ov W :=
 ⟨by rw [zC h];rfl,by rw [zC h];rfl,by rw [zC h];rfl,by rw [zC h];rfl,by rw [zC h];rfl,by rw [zC h];rfl,by rw [zC h];rfl,by rw [zC h];rfl,by rw [zC h];rfl,by rw [zC h];rfl⟩
theorem xx4 (k:Int) (s:SS) (hs:s.fit) (w:World) (hU:Lib.Utf8Tabs 0 1 w) :
 Calls Tryz.prog 189 #[.int .i64 k,.agg (zz4 s).toArray] w fun e w'=>e=.returned (.bool (mayS k s))/\Below w.heap.size w w':=by
 obtain⟨ct,hn,⟨mn,mi,ms⟩,⟨xn,xi,xs⟩,sm,ov⟩:=s
 obtain⟨-,hm,hx,-⟩:=hs
 have HM:=zH hm;have HX:=zH hx
 obtain⟨a,ha⟩:∃ a,mayV k ⟨mn,mi,ms⟩=a:=⟨_,rfl⟩
 obtain⟨b,hb⟩:∃ b,mayV k ⟨xn,xi,xs⟩=b:=⟨_,rfl⟩
 obtain⟨q,hq⟩:∃ q,vcmp ⟨xn,xi,xs⟩ ⟨mn,mi,ms⟩=q:=⟨_,rfl⟩
 obtain⟨nk,hnk⟩:∃ nk,decide (1<=k/\k<=5)=nk:=⟨_,rfl⟩
 obtain⟨R,hR⟩:∃ R,mayS k ⟨ct,hn,⟨mn,mi,ms⟩,⟨xn,xi,xs⟩,sm,ov⟩=R:=⟨_,rfl⟩
 rw [hR]
 unfold mayS at hR
 dsimp only at hR
 rw [ha,hb,hq,hnk] at hR
 have HA:=zH ha;have HB:=zH hb;have HQ:=zH hq;have HN:=zH hnk
 obtain⟨w1,hw1⟩:∃ w1,w1=w.alloc (.cells #[.int .i64 ct,.bool hn,.bool mn,.int .i64 mi,.string ms,.bool xn,.int .i64 xi,.string xs,.int .i64 sm,.bool ov] 109):=⟨_,rfl⟩
 have hc:StC w.heap.size ct hn mn mi ms xn xi xs sm ov w1:=StC.of (by rw [hw1];exact heap_alloc_new w _)
 have HBW:Hid (Below w.heap.size w w1):=zH (by rw [hw1];exact (zR).alloc zN _)
 have HW:=zH hw1;have HC:=zH hc;have HU:=zH hU
 clear ha hb hq hnk hw1 hc hU hm hx
 unfold zz4
 go_enter Tryz.func189,Tryz.ntmps189
 go_upto_region 1 with fail
 rw [<-HW.out]
 obtain⟨c0,c1,c2,c3,c4,c5,c6,c7,c8,c9⟩:=HC.out
 by_cases h1:ct<0
 · have HR:Hid (R=false):=zH (by rw [<-hR];(try simp [*]))
   clear hR
   go_wp2_with (first | (go_at_call 41;(try rw [<-HW.out]);refine (zzK _ ⟨_,_,_⟩ (by first | exact HM.out | exact HX.out | fail) _ (zzb HU.out HBW.out)).mono ?_;rintro e w2 ⟨rfl,hb2⟩;(first | rw [HA.out] | rw [HB.out] | fail);have HBW:=zH (HBW.out.trans (hb2.mono HBW.out.size));have HC:=zH (HC.out.keep hb2);obtain⟨c0,c1,c2,c3,c4,c5,c6,c7,c8,c9⟩:=HC.out;clear hb2) | (go_at_call 221;refine (zzn ⟨_,_,_⟩ ⟨_,_,_⟩ _).mono ?_;rintro e w2 ⟨rfl,hb2⟩;rw [HQ.out];have HBW:=zH (HBW.out.trans (hb2.mono HBW.out.size));have HC:=zH (HC.out.keep hb2);obtain⟨c0,c1,c2,c3,c4,c5,c6,c7,c8,c9⟩:=HC.out;clear hb2) | (go_at_call 44;refine (zzg _ _).mono ?_;rintro e w3 ⟨rfl,rfl⟩;rw [HN.out]) | fail)
   go_ret
   exact⟨by rw [HR.out];first | rfl | simp,HBW.out⟩
 by_cases h2:409600<ct
 · have HR:Hid (R=false):=zH (by rw [<-hR];(try simp [*]))
   clear hR
   go_wp2_with (first | (go_at_call 41;(try rw [<-HW.out]);refine (zzK _ ⟨_,_,_⟩ (by first | exact HM.out | exact HX.out | fail) _ (zzb HU.out HBW.out)).mono ?_;rintro e w2 ⟨rfl,hb2⟩;(first | rw [HA.out] | rw [HB.out] | fail);have HBW:=zH (HBW.out.trans (hb2.mono HBW.out.size));have HC:=zH (HC.out.keep hb2);obtain⟨c0,c1,c2,c3,c4,c5,c6,c7,c8,c9⟩:=HC.out;clear hb2) | (go_at_call 221;refine (zzn ⟨_,_,_⟩ ⟨_,_,_⟩ _).mono ?_;rintro e w2 ⟨rfl,hb2⟩;rw [HQ.out];have HBW:=zH (HBW.out.trans (hb2.mono HBW.out.size));have HC:=zH (HC.out.keep hb2);obtain⟨c0,c1,c2,c3,c4,c5,c6,c7,c8,c9⟩:=HC.out;clear hb2) | (go_at_call 44;refine (zzg _ _).mono ?_;rintro e w3 ⟨rfl,rfl⟩;rw [HN.out]) | fail)
   go_ret
   exact⟨by rw [HR.out];first | rfl | simp,HBW.out⟩
 cases a with
 | false =>
   have HR:Hid (R=false):=zH (by rw [<-hR];(try simp [*]))
   clear hR
   go_wp2_with (first | (go_at_call 41;(try rw [<-HW.out]);refine (zzK _ ⟨_,_,_⟩ (by first | exact HM.out | exact HX.out | fail) _ (zzb HU.out HBW.out)).mono ?_;rintro e w2 ⟨rfl,hb2⟩;(first | rw [HA.out] | rw [HB.out] | fail);have HBW:=zH (HBW.out.trans (hb2.mono HBW.out.size));have HC:=zH (HC.out.keep hb2);obtain⟨c0,c1,c2,c3,c4,c5,c6,c7,c8,c9⟩:=HC.out;clear hb2) | (go_at_call 221;refine (zzn ⟨_,_,_⟩ ⟨_,_,_⟩ _).mono ?_;rintro e w2 ⟨rfl,hb2⟩;rw [HQ.out];have HBW:=zH (HBW.out.trans (hb2.mono HBW.out.size));have HC:=zH (HC.out.keep hb2);obtain⟨c0,c1,c2,c3,c4,c5,c6,c7,c8,c9⟩:=HC.out;clear hb2) | (go_at_call 44;refine (zzg _ _).mono ?_;rintro e w3 ⟨rfl,rfl⟩;rw [HN.out]) | fail)
   go_ret
   exact⟨by rw [HR.out];first | rfl | simp,HBW.out⟩
 | true =>
 cases b with
 | false =>
   have HR:Hid (R=false):=zH (by rw [<-hR];(try simp [*]))
   clear hR
   go_wp2_with (first | (go_at_call 41;(try rw [<-HW.out]);refine (zzK _ ⟨_,_,_⟩ (by first | exact HM.out | exact HX.out | fail) _ (zzb HU.out HBW.out)).mono ?_;rintro e w2 ⟨rfl,hb2⟩;(first | rw [HA.out] | rw [HB.out] | fail);have HBW:=zH (HBW.out.trans (hb2.mono HBW.out.size));have HC:=zH (HC.out.keep hb2);obtain⟨c0,c1,c2,c3,c4,c5,c6,c7,c8,c9⟩:=HC.out;clear hb2) | (go_at_call 221;refine (zzn ⟨_,_,_⟩ ⟨_,_,_⟩ _).mono ?_;rintro e w2 ⟨rfl,hb2⟩;rw [HQ.out];have HBW:=zH (HBW.out.trans (hb2.mono HBW.out.size));have HC:=zH (HC.out.keep hb2);obtain⟨c0,c1,c2,c3,c4,c5,c6,c7,c8,c9⟩:=HC.out;clear hb2) | (go_at_call 44;refine (zzg _ _).mono ?_;rintro e w3 ⟨rfl,rfl⟩;rw [HN.out]) | fail)
   go_ret
   exact⟨by rw [HR.out];first | rfl | simp,HBW.out⟩
 | true =>
 cases hz:(ct==0) with
 | true =>
   cases mn with
   | false =>
     have HR:Hid (R=false):=zH (by rw [<-hR];(try simp [*]))
     clear hR
     go_wp2_with (first | (go_at_call 41;(try rw [<-HW.out]);refine (zzK _ ⟨_,_,_⟩ (by first | exact HM.out | exact HX.out | fail) _ (zzb HU.out HBW.out)).mono ?_;rintro e w2 ⟨rfl,hb2⟩;(first | rw [HA.out] | rw [HB.out] | fail);have HBW:=zH (HBW.out.trans (hb2.mono HBW.out.size));have HC:=zH (HC.out.keep hb2);obtain⟨c0,c1,c2,c3,c4,c5,c6,c7,c8,c9⟩:=HC.out;clear hb2) | (go_at_call 221;refine (zzn ⟨_,_,_⟩ ⟨_,_,_⟩ _).mono ?_;rintro e w2 ⟨rfl,hb2⟩;rw [HQ.out];have HBW:=zH (HBW.out.trans (hb2.mono HBW.out.size));have HC:=zH (HC.out.keep hb2);obtain⟨c0,c1,c2,c3,c4,c5,c6,c7,c8,c9⟩:=HC.out;clear hb2) | (go_at_call 44;refine (zzg _ _).mono ?_;rintro e w3 ⟨rfl,rfl⟩;rw [HN.out]) | fail)
     go_ret
     exact⟨by rw [HR.out];first | rfl | simp,HBW.out⟩
   | true =>
   cases xn with
   | false =>
     have HR:Hid (R=false):=zH (by rw [<-hR];(try simp [*]))
     clear hR
     go_wp2_with (first | (go_at_call 41;(try rw [<-HW.out]);refine (zzK _ ⟨_,_,_⟩ (by first | exact HM.out | exact HX.out | fail) _ (zzb HU.out HBW.out)).mono ?_;rintro e w2 ⟨rfl,hb2⟩;(first | rw [HA.out] | rw [HB.out] | fail);have HBW:=zH (HBW.out.trans (hb2.mono HBW.out.size));have HC:=zH (HC.out.keep hb2);obtain⟨c0,c1,c2,c3,c4,c5,c6,c7,c8,c9⟩:=HC.out;clear hb2) | (go_at_call 221;refine (zzn ⟨_,_,_⟩ ⟨_,_,_⟩ _).mono ?_;rintro e w2 ⟨rfl,hb2⟩;rw [HQ.out];have HBW:=zH (HBW.out.trans (hb2.mono HBW.out.size));have HC:=zH (HC.out.keep hb2);obtain⟨c0,c1,c2,c3,c4,c5,c6,c7,c8,c9⟩:=HC.out;clear hb2) | (go_at_call 44;refine (zzg _ _).mono ?_;rintro e w3 ⟨rfl,rfl⟩;rw [HN.out]) | fail)
     go_ret
     exact⟨by rw [HR.out];first | rfl | simp,HBW.out⟩
   | true =>
   by_cases h5:q<0
   · have HR:Hid (R=false):=zH (by rw [<-hR];(try simp [*]))
     clear hR
     go_wp2_with (first | (go_at_call 41;(try rw [<-HW.out]);refine (zzK _ ⟨_,_,_⟩ (by first | exact HM.out | exact HX.out | fail) _ (zzb HU.out HBW.out)).mono ?_;rintro e w2 ⟨rfl,hb2⟩;(first | rw [HA.out] | rw [HB.out] | fail);have HBW:=zH (HBW.out.trans (hb2.mono HBW.out.size));have HC:=zH (HC.out.keep hb2);obtain⟨c0,c1,c2,c3,c4,c5,c6,c7,c8,c9⟩:=HC.out;clear hb2) | (go_at_call 221;refine (zzn ⟨_,_,_⟩ ⟨_,_,_⟩ _).mono ?_;rintro e w2 ⟨rfl,hb2⟩;rw [HQ.out];have HBW:=zH (HBW.out.trans (hb2.mono HBW.out.size));have HC:=zH (HC.out.keep hb2);obtain⟨c0,c1,c2,c3,c4,c5,c6,c7,c8,c9⟩:=HC.out;clear hb2) | (go_at_call 44;refine (zzg _ _).mono ?_;rintro e w3 ⟨rfl,rfl⟩;rw [HN.out]) | fail)
     go_ret
     exact⟨by rw [HR.out];first | rfl | simp,HBW.out⟩
   cases ov with
   | true =>
     cases h6:(sm==0) with
     | true =>
       have HR:Hid (R=nk):=zH (by rw [<-hR];(try simp [*]))
       clear hR
       go_wp2_with (first | (go_at_call 41;(try rw [<-HW.out]);refine (zzK _ ⟨_,_,_⟩ (by first | exact HM.out | exact HX.out | fail) _ (zzb HU.out HBW.out)).mono ?_;rintro e w2 ⟨rfl,hb2⟩;(first | rw [HA.out] | rw [HB.out] | fail);have HBW:=zH (HBW.out.trans (hb2.mono HBW.out.size));have HC:=zH (HC.out.keep hb2);obtain⟨c0,c1,c2,c3,c4,c5,c6,c7,c8,c9⟩:=HC.out;clear hb2) | (go_at_call 221;refine (zzn ⟨_,_,_⟩ ⟨_,_,_⟩ _).mono ?_;rintro e w2 ⟨rfl,hb2⟩;rw [HQ.out];have HBW:=zH (HBW.out.trans (hb2.mono HBW.out.size));have HC:=zH (HC.out.keep hb2);obtain⟨c0,c1,c2,c3,c4,c5,c6,c7,c8,c9⟩:=HC.out;clear hb2) | (go_at_call 44;refine (zzg _ _).mono ?_;rintro e w3 ⟨rfl,rfl⟩;rw [HN.out]) | fail)
       go_ret
       exact⟨by rw [HR.out];first | rfl | simp,HBW.out⟩
     | false =>
       have HR:Hid (R=false):=zH (by rw [<-hR];(try simp [*]))
       clear hR
       go_wp2_with (first | (go_at_call 41;(try rw [<-HW.out]);refine (zzK _ ⟨_,_,_⟩ (by first | exact HM.out | exact HX.out | fail) _ (zzb HU.out HBW.out)).mono ?_;rintro e w2 ⟨rfl,hb2⟩;(first | rw [HA.out] | rw [HB.out] | fail);have HBW:=zH (HBW.out.trans (hb2.mono HBW.out.size));have HC:=zH (HC.out.keep hb2);obtain⟨c0,c1,c2,c3,c4,c5,c6,c7,c8,c9⟩:=HC.out;clear hb2) | (go_at_call 221;refine (zzn ⟨_,_,_⟩ ⟨_,_,_⟩ _).mono ?_;rintro e w2 ⟨rfl,hb2⟩;rw [HQ.out];have HBW:=zH (HBW.out.trans (hb2.mono HBW.out.size));have HC:=zH (HC.out.keep hb2);obtain⟨c0,c1,c2,c3,c4,c5,c6,c7,c8,c9⟩:=HC.out;clear hb2) | (go_at_call 44;refine (zzg _ _).mono ?_;rintro e w3 ⟨rfl,rfl⟩;rw [HN.out]) | fail)
       go_ret
       exact⟨by rw [HR.out];first | rfl | simp,HBW.out⟩
   | false =>
     cases h6:(sm==0) with
     | true =>
       have HR:Hid (R=true):=zH (by rw [<-hR];(try simp [*]))
       clear hR
       go_wp2_with (first | (go_at_call 41;(try rw [<-HW.out]);refine (zzK _ ⟨_,_,_⟩ (by first | exact HM.out | exact HX.out | fail) _ (zzb HU.out HBW.out)).mono ?_;rintro e w2 ⟨rfl,hb2⟩;(first | rw [HA.out] | rw [HB.out] | fail);have HBW:=zH (HBW.out.trans (hb2.mono HBW.out.size));have HC:=zH (HC.out.keep hb2);obtain⟨c0,c1,c2,c3,c4,c5,c6,c7,c8,c9⟩:=HC.out;clear hb2) | (go_at_call 221;refine (zzn ⟨_,_,_⟩ ⟨_,_,_⟩ _).mono ?_;rintro e w2 ⟨rfl,hb2⟩;rw [HQ.out];have HBW:=zH (HBW.out.trans (hb2.mono HBW.out.size));have HC:=zH (HC.out.keep hb2);obtain⟨c0,c1,c2,c3,c4,c5,c6,c7,c8,c9⟩:=HC.out;clear hb2) | (go_at_call 44;refine (zzg _ _).mono ?_;rintro e w3 ⟨rfl,rfl⟩;rw [HN.out]) | fail)
       go_ret
       exact⟨by rw [HR.out];first | rfl | simp,HBW.out⟩
     | false =>
       have HR:Hid (R=nk):=zH (by rw [<-hR];(try simp [*]))
       clear hR
       go_wp2_with (first | (go_at_call 41;(try rw [<-HW.out]);refine (zzK _ ⟨_,_,_⟩ (by first | exact HM.out | exact HX.out | fail) _ (zzb HU.out HBW.out)).mono ?_;rintro e w2 ⟨rfl,hb2⟩;(first | rw [HA.out] | rw [HB.out] | fail);have HBW:=zH (HBW.out.trans (hb2.mono HBW.out.size));have HC:=zH (HC.out.keep hb2);obtain⟨c0,c1,c2,c3,c4,c5,c6,c7,c8,c9⟩:=HC.out;clear hb2) | (go_at_call 221;refine (zzn ⟨_,_,_⟩ ⟨_,_,_⟩ _).mono ?_;rintro e w2 ⟨rfl,hb2⟩;rw [HQ.out];have HBW:=zH (HBW.out.trans (hb2.mono HBW.out.size));have HC:=zH (HC.out.keep hb2);obtain⟨c0,c1,c2,c3,c4,c5,c6,c7,c8,c9⟩:=HC.out;clear hb2) | (go_at_call 44;refine (zzg _ _).mono ?_;rintro e w3 ⟨rfl,rfl⟩;rw [HN.out]) | fail)
       go_ret
       exact⟨by rw [HR.out];first | rfl | simp,HBW.out⟩
 | false =>
   cases mn with
   | true =>
     have HR:Hid (R=false):=zH (by rw [<-hR];(try simp [*]))
     clear hR
     go_wp2_with (first | (go_at_call 41;(try rw [<-HW.out]);refine (zzK _ ⟨_,_,_⟩ (by first | exact HM.out | exact HX.out | fail) _ (zzb HU.out HBW.out)).mono ?_;rintro e w2 ⟨rfl,hb2⟩;(first | rw [HA.out] | rw [HB.out] | fail);have HBW:=zH (HBW.out.trans (hb2.mono HBW.out.size));have HC:=zH (HC.out.keep hb2);obtain⟨c0,c1,c2,c3,c4,c5,c6,c7,c8,c9⟩:=HC.out;clear hb2) | (go_at_call 221;refine (zzn ⟨_,_,_⟩ ⟨_,_,_⟩ _).mono ?_;rintro e w2 ⟨rfl,hb2⟩;rw [HQ.out];have HBW:=zH (HBW.out.trans (hb2.mono HBW.out.size));have HC:=zH (HC.out.keep hb2);obtain⟨c0,c1,c2,c3,c4,c5,c6,c7,c8,c9⟩:=HC.out;clear hb2) | (go_at_call 44;refine (zzg _ _).mono ?_;rintro e w3 ⟨rfl,rfl⟩;rw [HN.out]) | fail)
     go_ret
     exact⟨by rw [HR.out];first | rfl | simp,HBW.out⟩
   | false =>
   cases xn with
   | true =>
     have HR:Hid (R=false):=zH (by rw [<-hR];(try simp [*]))
     clear hR
     go_wp2_with (first | (go_at_call 41;(try rw [<-HW.out]);refine (zzK _ ⟨_,_,_⟩ (by first | exact HM.out | exact HX.out | fail) _ (zzb HU.out HBW.out)).mono ?_;rintro e w2 ⟨rfl,hb2⟩;(first | rw [HA.out] | rw [HB.out] | fail);have HBW:=zH (HBW.out.trans (hb2.mono HBW.out.size));have HC:=zH (HC.out.keep hb2);obtain⟨c0,c1,c2,c3,c4,c5,c6,c7,c8,c9⟩:=HC.out;clear hb2) | (go_at_call 221;refine (zzn ⟨_,_,_⟩ ⟨_,_,_⟩ _).mono ?_;rintro e w2 ⟨rfl,hb2⟩;rw [HQ.out];have HBW:=zH (HBW.out.trans (hb2.mono HBW.out.size));have HC:=zH (HC.out.keep hb2);obtain⟨c0,c1,c2,c3,c4,c5,c6,c7,c8,c9⟩:=HC.out;clear hb2) | (go_at_call 44;refine (zzg _ _).mono ?_;rintro e w3 ⟨rfl,rfl⟩;rw [HN.out]) | fail)
     go_ret
     exact⟨by rw [HR.out];first | rfl | simp,HBW.out⟩
   | false =>
   by_cases h5:q<0
   · have HR:Hid (R=false):=zH (by rw [<-hR];(try simp [*]))
     clear hR
     go_wp2_with (first | (go_at_call 41;(try rw [<-HW.out]);refine (zzK _ ⟨_,_,_⟩ (by first | exact HM.out | exact HX.out | fail) _ (zzb HU.out HBW.out)).mono ?_;rintro e w2 ⟨rfl,hb2⟩;(first | rw [HA.out] | rw [HB.out] | fail);have HBW:=zH (HBW.out.trans (hb2.mono HBW.out.size));have HC:=zH (HC.out.keep hb2);obtain⟨c0,c1,c2,c3,c4,c5,c6,c7,c8,c9⟩:=HC.out;clear hb2) | (go_at_call 221;refine (zzn ⟨_,_,_⟩ ⟨_,_,_⟩ _).mono ?_;rintro e w2 ⟨rfl,hb2⟩;rw [HQ.out];have HBW:=zH (HBW.out.trans (hb2.mono HBW.out.size));have HC:=zH (HC.out.keep hb2);obtain⟨c0,c1,c2,c3,c4,c5,c6,c7,c8,c9⟩:=HC.out;clear hb2) | (go_at_call 44;refine (zzg _ _).mono ?_;rintro e w3 ⟨rfl,rfl⟩;rw [HN.out]) | fail)
     go_ret
     exact⟨by rw [HR.out];first | rfl | simp,HBW.out⟩
   cases ov with
   | true =>
     cases h6:(sm==0) with
     | true =>
       have HR:Hid (R=nk):=zH (by rw [<-hR];(try simp [*]))
       clear hR
       go_wp2_with (first | (go_at_call 41;(try rw [<-HW.out]);refine (zzK _ ⟨_,_,_⟩ (by first | exact HM.out | exact HX.out | fail) _ (zzb HU.out HBW.out)).mono ?_;rintro e w2 ⟨rfl,hb2⟩;(first | rw [HA.out] | rw [HB.out] | fail);have HBW:=zH (HBW.out.trans (hb2.mono HBW.out.size));have HC:=zH (HC.out.keep hb2);obtain⟨c0,c1,c2,c3,c4,c5,c6,c7,c8,c9⟩:=HC.out;clear hb2) | (go_at_call 221;refine (zzn ⟨_,_,_⟩ ⟨_,_,_⟩ _).mono ?_;rintro e w2 ⟨rfl,hb2⟩;rw [HQ.out];have HBW:=zH (HBW.out.trans (hb2.mono HBW.out.size));have HC:=zH (HC.out.keep hb2);obtain⟨c0,c1,c2,c3,c4,c5,c6,c7,c8,c9⟩:=HC.out;clear hb2) | (go_at_call 44;refine (zzg _ _).mono ?_;rintro e w3 ⟨rfl,rfl⟩;rw [HN.out]) | fail)
       go_ret
       exact⟨by rw [HR.out];first | rfl | simp,HBW.out⟩
     | false =>
       have HR:Hid (R=false):=zH (by rw [<-hR];(try simp [*]))
       clear hR
       go_wp2_with (first | (go_at_call 41;(try rw [<-HW.out]);refine (zzK _ ⟨_,_,_⟩ (by first | exact HM.out | exact HX.out | fail) _ (zzb HU.out HBW.out)).mono ?_;rintro e w2 ⟨rfl,hb2⟩;(first | rw [HA.out] | rw [HB.out] | fail);have HBW:=zH (HBW.out.trans (hb2.mono HBW.out.size));have HC:=zH (HC.out.keep hb2);obtain⟨c0,c1,c2,c3,c4,c5,c6,c7,c8,c9⟩:=HC.out;clear hb2) | (go_at_call 221;refine (zzn ⟨_,_,_⟩ ⟨_,_,_⟩ _).mono ?_;rintro e w2 ⟨rfl,hb2⟩;rw [HQ.out];have HBW:=zH (HBW.out.trans (hb2.mono HBW.out.size));have HC:=zH (HC.out.keep hb2);obtain⟨c0,c1,c2,c3,c4,c5,c6,c7,c8,c9⟩:=HC.out;clear hb2) | (go_at_call 44;refine (zzg _ _).mono ?_;rintro e w3 ⟨rfl,rfl⟩;rw [HN.out]) | fail)
       go_ret
       exact⟨by rw [HR.out];first | rfl | simp,HBW.out⟩
   | false =>
     cases h6:(sm==0) with
     | true =>
       have HR:Hid (R=true):=zH (by rw [<-hR];(try simp [*]))
       clear hR
       go_wp2_with (first | (go_at_call 41;(try rw [<-HW.out]);refine (zzK _ ⟨_,_,_⟩ (by first | exact HM.out | exact HX.out | fail) _ (zzb HU.out HBW.out)).mono ?_;rintro e w2 ⟨rfl,hb2⟩;(first | rw [HA.out] | rw [HB.out] | fail);have HBW:=zH (HBW.out.trans (hb2.mono HBW.out.size));have HC:=zH (HC.out.keep hb2);obtain⟨c0,c1,c2,c3,c4,c5,c6,c7,c8,c9⟩:=HC.out;clear hb2) | (go_at_call 221;refine (zzn ⟨_,_,_⟩ ⟨_,_,_⟩ _).mono ?_;rintro e w2 ⟨rfl,hb2⟩;rw [HQ.out];have HBW:=zH (HBW.out.trans (hb2.mono HBW.out.size));have HC:=zH (HC.out.keep hb2);obtain⟨c0,c1,c2,c3,c4,c5,c6,c7,c8,c9⟩:=HC.out;clear hb2) | (go_at_call 44;refine (zzg _ _).mono ?_;rintro e w3 ⟨rfl,rfl⟩;rw [HN.out]) | fail)
       go_ret
       exact⟨by rw [HR.out];first | rfl | simp,HBW.out⟩
     | false =>
       have HR:Hid (R=nk):=zH (by rw [<-hR];(try simp [*]))
       clear hR
       go_wp2_with (first | (go_at_call 41;(try rw [<-HW.out]);refine (zzK _ ⟨_,_,_⟩ (by first | exact HM.out | exact HX.out | fail) _ (zzb HU.out HBW.out)).mono ?_;rintro e w2 ⟨rfl,hb2⟩;(first | rw [HA.out] | rw [HB.out] | fail);have HBW:=zH (HBW.out.trans (hb2.mono HBW.out.size));have HC:=zH (HC.out.keep hb2);obtain⟨c0,c1,c2,c3,c4,c5,c6,c7,c8,c9⟩:=HC.out;clear hb2) | (go_at_call 221;refine (zzn ⟨_,_,_⟩ ⟨_,_,_⟩ _).mono ?_;rintro e w2 ⟨rfl,hb2⟩;rw [HQ.out];have HBW:=zH (HBW.out.trans (hb2.mono HBW.out.size));have HC:=zH (HC.out.keep hb2);obtain⟨c0,c1,c2,c3,c4,c5,c6,c7,c8,c9⟩:=HC.out;clear hb2) | (go_at_call 44;refine (zzg _ _).mono ?_;rintro e w3 ⟨rfl,rfl⟩;rw [HN.out]) | fail)
       go_ret
       exact⟨by rw [HR.out];first | rfl | simp,HBW.out⟩
theorem qzg (k:Int) (s:SS) (hs:s.fit) (w:World) (hU:Lib.Utf8Tabs 0 1 w) :
 Calls Tryz.prog 138 #[.int .i64 k,.agg (zz4 s).toArray] w fun e w'=>e=.returned (.bool (mayS k s))/\Below w.heap.size w w':=by
 obtain⟨ct,hn,⟨mn,mi,ms⟩,⟨xn,xi,xs⟩,sm,ov⟩:=s
 obtain⟨-,hm,hx,-⟩:=hs
 have HM:=zH hm;have HX:=zH hx
 obtain⟨a,ha⟩:∃ a,mayV k ⟨mn,mi,ms⟩=a:=⟨_,rfl⟩
 obtain⟨b,hb⟩:∃ b,mayV k ⟨xn,xi,xs⟩=b:=⟨_,rfl⟩
 obtain⟨q,hq⟩:∃ q,vcmp ⟨xn,xi,xs⟩ ⟨mn,mi,ms⟩=q:=⟨_,rfl⟩
 obtain⟨nk,hnk⟩:∃ nk,decide (1<=k/\k<=5)=nk:=⟨_,rfl⟩
 obtain⟨R,hR⟩:∃ R,mayS k ⟨ct,hn,⟨mn,mi,ms⟩,⟨xn,xi,xs⟩,sm,ov⟩=R:=⟨_,rfl⟩
 rw [hR]
 unfold mayS at hR
 dsimp only at hR
 rw [ha,hb,hq,hnk] at hR
 have HA:=zH ha;have HB:=zH hb;have HQ:=zH hq;have HN:=zH hnk
 obtain⟨w1,hw1⟩:∃ w1,w1=w.alloc (.cells #[.int .i64 ct,.bool hn,.bool mn,.int .i64 mi,.string ms,.bool xn,.int .i64 xi,.string xs,.int .i64 sm,.bool ov] 109):=⟨_,rfl⟩
 have hc:StC w.heap.size ct hn mn mi ms xn xi xs sm ov w1:=StC.of (by rw [hw1];exact heap_alloc_new w _)
 have HBW:Hid (Below w.heap.size w w1):=zH (by rw [hw1];exact (zR).alloc zN _)
 have HW:=zH hw1;have HC:=zH hc;have HU:=zH hU
 clear ha hb hq hnk hw1 hc hU hm hx
 unfold zz4
 go_enter Tryz.func138,Tryz.ntmps138
 go_upto_region 1 with fail
 rw [<-HW.out]
 obtain⟨c0,c1,c2,c3,c4,c5,c6,c7,c8,c9⟩:=HC.out
 by_cases h1:ct<0
 · have HR:Hid (R=false):=zH (by rw [<-hR];(try simp [*]))
   clear hR
   go_wp2_with (first | (go_at_call 47;(try rw [<-HW.out]);refine (zzz _ ⟨_,_,_⟩ (by first | exact HM.out | exact HX.out | fail) _ (zzb HU.out HBW.out)).mono ?_;rintro e w2 ⟨rfl,hb2⟩;(first | rw [HA.out] | rw [HB.out] | fail);have HBW:=zH (HBW.out.trans (hb2.mono HBW.out.size));have HC:=zH (HC.out.keep hb2);obtain⟨c0,c1,c2,c3,c4,c5,c6,c7,c8,c9⟩:=HC.out;clear hb2) | (go_at_call 114;refine (zzk ⟨_,_,_⟩ ⟨_,_,_⟩ _).mono ?_;rintro e w2 ⟨rfl,hb2⟩;rw [HQ.out];have HBW:=zH (HBW.out.trans (hb2.mono HBW.out.size));have HC:=zH (HC.out.keep hb2);obtain⟨c0,c1,c2,c3,c4,c5,c6,c7,c8,c9⟩:=HC.out;clear hb2) | (go_at_call 49;refine (zzm _ _).mono ?_;rintro e w3 ⟨rfl,rfl⟩;rw [HN.out]) | fail)
   go_ret
   exact⟨by rw [HR.out];first | rfl | simp,HBW.out⟩
 by_cases h2:409600<ct
 · have HR:Hid (R=false):=zH (by rw [<-hR];(try simp [*]))
   clear hR
   go_wp2_with (first | (go_at_call 47;(try rw [<-HW.out]);refine (zzz _ ⟨_,_,_⟩ (by first | exact HM.out | exact HX.out | fail) _ (zzb HU.out HBW.out)).mono ?_;rintro e w2 ⟨rfl,hb2⟩;(first | rw [HA.out] | rw [HB.out] | fail);have HBW:=zH (HBW.out.trans (hb2.mono HBW.out.size));have HC:=zH (HC.out.keep hb2);obtain⟨c0,c1,c2,c3,c4,c5,c6,c7,c8,c9⟩:=HC.out;clear hb2) | (go_at_call 114;refine (zzk ⟨_,_,_⟩ ⟨_,_,_⟩ _).mono ?_;rintro e w2 ⟨rfl,hb2⟩;rw [HQ.out];have HBW:=zH (HBW.out.trans (hb2.mono HBW.out.size));have HC:=zH (HC.out.keep hb2);obtain⟨c0,c1,c2,c3,c4,c5,c6,c7,c8,c9⟩:=HC.out;clear hb2) | (go_at_call 49;refine (zzm _ _).mono ?_;rintro e w3 ⟨rfl,rfl⟩;rw [HN.out]) | fail)
   go_ret
   exact⟨by rw [HR.out];first | rfl | simp,HBW.out⟩
 cases a with
 | false =>
   have HR:Hid (R=false):=zH (by rw [<-hR];(try simp [*]))
   clear hR
   go_wp2_with (first | (go_at_call 47;(try rw [<-HW.out]);refine (zzz _ ⟨_,_,_⟩ (by first | exact HM.out | exact HX.out | fail) _ (zzb HU.out HBW.out)).mono ?_;rintro e w2 ⟨rfl,hb2⟩;(first | rw [HA.out] | rw [HB.out] | fail);have HBW:=zH (HBW.out.trans (hb2.mono HBW.out.size));have HC:=zH (HC.out.keep hb2);obtain⟨c0,c1,c2,c3,c4,c5,c6,c7,c8,c9⟩:=HC.out;clear hb2) | (go_at_call 114;refine (zzk ⟨_,_,_⟩ ⟨_,_,_⟩ _).mono ?_;rintro e w2 ⟨rfl,hb2⟩;rw [HQ.out];have HBW:=zH (HBW.out.trans (hb2.mono HBW.out.size));have HC:=zH (HC.out.keep hb2);obtain⟨c0,c1,c2,c3,c4,c5,c6,c7,c8,c9⟩:=HC.out;clear hb2) | (go_at_call 49;refine (zzm _ _).mono ?_;rintro e w3 ⟨rfl,rfl⟩;rw [HN.out]) | fail)
   go_ret
   exact⟨by rw [HR.out];first | rfl | simp,HBW.out⟩
 | true =>
 cases b with
 | false =>
   have HR:Hid (R=false):=zH (by rw [<-hR];(try simp [*]))
   clear hR
   go_wp2_with (first | (go_at_call 47;(try rw [<-HW.out]);refine (zzz _ ⟨_,_,_⟩ (by first | exact HM.out | exact HX.out | fail) _ (zzb HU.out HBW.out)).mono ?_;rintro e w2 ⟨rfl,hb2⟩;(first | rw [HA.out] | rw [HB.out] | fail);have HBW:=zH (HBW.out.trans (hb2.mono HBW.out.size));have HC:=zH (HC.out.keep hb2);obtain⟨c0,c1,c2,c3,c4,c5,c6,c7,c8,c9⟩:=HC.out;clear hb2) | (go_at_call 114;refine (zzk ⟨_,_,_⟩ ⟨_,_,_⟩ _).mono ?_;rintro e w2 ⟨rfl,hb2⟩;rw [HQ.out];have HBW:=zH (HBW.out.trans (hb2.mono HBW.out.size));have HC:=zH (HC.out.keep hb2);obtain⟨c0,c1,c2,c3,c4,c5,c6,c7,c8,c9⟩:=HC.out;clear hb2) | (go_at_call 49;refine (zzm _ _).mono ?_;rintro e w3 ⟨rfl,rfl⟩;rw [HN.out]) | fail)
   go_ret
   exact⟨by rw [HR.out];first | rfl | simp,HBW.out⟩
 | true =>
 cases hz:(ct==0) with
 | true =>
   cases mn with
   | false =>
     have HR:Hid (R=false):=zH (by rw [<-hR];(try simp [*]))
     clear hR
     go_wp2_with (first | (go_at_call 47;(try rw [<-HW.out]);refine (zzz _ ⟨_,_,_⟩ (by first | exact HM.out | exact HX.out | fail) _ (zzb HU.out HBW.out)).mono ?_;rintro e w2 ⟨rfl,hb2⟩;(first | rw [HA.out] | rw [HB.out] | fail);have HBW:=zH (HBW.out.trans (hb2.mono HBW.out.size));have HC:=zH (HC.out.keep hb2);obtain⟨c0,c1,c2,c3,c4,c5,c6,c7,c8,c9⟩:=HC.out;clear hb2) | (go_at_call 114;refine (zzk ⟨_,_,_⟩ ⟨_,_,_⟩ _).mono ?_;rintro e w2 ⟨rfl,hb2⟩;rw [HQ.out];have HBW:=zH (HBW.out.trans (hb2.mono HBW.out.size));have HC:=zH (HC.out.keep hb2);obtain⟨c0,c1,c2,c3,c4,c5,c6,c7,c8,c9⟩:=HC.out;clear hb2) | (go_at_call 49;refine (zzm _ _).mono ?_;rintro e w3 ⟨rfl,rfl⟩;rw [HN.out]) | fail)
     go_ret
     exact⟨by rw [HR.out];first | rfl | simp,HBW.out⟩
   | true =>
   cases xn with
   | false =>
     have HR:Hid (R=false):=zH (by rw [<-hR];(try simp [*]))
     clear hR
     go_wp2_with (first | (go_at_call 47;(try rw [<-HW.out]);refine (zzz _ ⟨_,_,_⟩ (by first | exact HM.out | exact HX.out | fail) _ (zzb HU.out HBW.out)).mono ?_;rintro e w2 ⟨rfl,hb2⟩;(first | rw [HA.out] | rw [HB.out] | fail);have HBW:=zH (HBW.out.trans (hb2.mono HBW.out.size));have HC:=zH (HC.out.keep hb2);obtain⟨c0,c1,c2,c3,c4,c5,c6,c7,c8,c9⟩:=HC.out;clear hb2) | (go_at_call 114;refine (zzk ⟨_,_,_⟩ ⟨_,_,_⟩ _).mono ?_;rintro e w2 ⟨rfl,hb2⟩;rw [HQ.out];have HBW:=zH (HBW.out.trans (hb2.mono HBW.out.size));have HC:=zH (HC.out.keep hb2);obtain⟨c0,c1,c2,c3,c4,c5,c6,c7,c8,c9⟩:=HC.out;clear hb2) | (go_at_call 49;refine (zzm _ _).mono ?_;rintro e w3 ⟨rfl,rfl⟩;rw [HN.out]) | fail)
     go_ret
     exact⟨by rw [HR.out];first | rfl | simp,HBW.out⟩
   | true =>
   by_cases h5:q<0
   · have HR:Hid (R=false):=zH (by rw [<-hR];(try simp [*]))
     clear hR
     go_wp2_with (first | (go_at_call 47;(try rw [<-HW.out]);refine (zzz _ ⟨_,_,_⟩ (by first | exact HM.out | exact HX.out | fail) _ (zzb HU.out HBW.out)).mono ?_;rintro e w2 ⟨rfl,hb2⟩;(first | rw [HA.out] | rw [HB.out] | fail);have HBW:=zH (HBW.out.trans (hb2.mono HBW.out.size));have HC:=zH (HC.out.keep hb2);obtain⟨c0,c1,c2,c3,c4,c5,c6,c7,c8,c9⟩:=HC.out;clear hb2) | (go_at_call 114;refine (zzk ⟨_,_,_⟩ ⟨_,_,_⟩ _).mono ?_;rintro e w2 ⟨rfl,hb2⟩;rw [HQ.out];have HBW:=zH (HBW.out.trans (hb2.mono HBW.out.size));have HC:=zH (HC.out.keep hb2);obtain⟨c0,c1,c2,c3,c4,c5,c6,c7,c8,c9⟩:=HC.out;clear hb2) | (go_at_call 49;refine (zzm _ _).mono ?_;rintro e w3 ⟨rfl,rfl⟩;rw [HN.out]) | fail)
     go_ret
     exact⟨by rw [HR.out];first | rfl | simp,HBW.out⟩
   cases ov with
   | true =>
     cases h6:(sm==0) with
     | true =>
       cases nk with
       | false =>
         have HR:Hid (R=false):=zH (by rw [<-hR];(try simp [*]))
         clear hR
         go_wp2_with (first | (go_at_call 47;(try rw [<-HW.out]);refine (zzz _ ⟨_,_,_⟩ (by first | exact HM.out | exact HX.out | fail) _ (zzb HU.out HBW.out)).mono ?_;rintro e w2 ⟨rfl,hb2⟩;(first | rw [HA.out] | rw [HB.out] | fail);have HBW:=zH (HBW.out.trans (hb2.mono HBW.out.size));have HC:=zH (HC.out.keep hb2);obtain⟨c0,c1,c2,c3,c4,c5,c6,c7,c8,c9⟩:=HC.out;clear hb2) | (go_at_call 114;refine (zzk ⟨_,_,_⟩ ⟨_,_,_⟩ _).mono ?_;rintro e w2 ⟨rfl,hb2⟩;rw [HQ.out];have HBW:=zH (HBW.out.trans (hb2.mono HBW.out.size));have HC:=zH (HC.out.keep hb2);obtain⟨c0,c1,c2,c3,c4,c5,c6,c7,c8,c9⟩:=HC.out;clear hb2) | (go_at_call 49;refine (zzm _ _).mono ?_;rintro e w3 ⟨rfl,rfl⟩;rw [HN.out]) | fail)
         go_ret
         exact⟨by rw [HR.out];first | rfl | simp,HBW.out⟩
       | true =>
         have HR:Hid (R=true):=zH (by rw [<-hR];(try simp [*]))
         clear hR
         go_wp2_with (first | (go_at_call 47;(try rw [<-HW.out]);refine (zzz _ ⟨_,_,_⟩ (by first | exact HM.out | exact HX.out | fail) _ (zzb HU.out HBW.out)).mono ?_;rintro e w2 ⟨rfl,hb2⟩;(first | rw [HA.out] | rw [HB.out] | fail);have HBW:=zH (HBW.out.trans (hb2.mono HBW.out.size));have HC:=zH (HC.out.keep hb2);obtain⟨c0,c1,c2,c3,c4,c5,c6,c7,c8,c9⟩:=HC.out;clear hb2) | (go_at_call 114;refine (zzk ⟨_,_,_⟩ ⟨_,_,_⟩ _).mono ?_;rintro e w2 ⟨rfl,hb2⟩;rw [HQ.out];have HBW:=zH (HBW.out.trans (hb2.mono HBW.out.size));have HC:=zH (HC.out.keep hb2);obtain⟨c0,c1,c2,c3,c4,c5,c6,c7,c8,c9⟩:=HC.out;clear hb2) | (go_at_call 49;refine (zzm _ _).mono ?_;rintro e w3 ⟨rfl,rfl⟩;rw [HN.out]) | fail)
         go_ret
         exact⟨by rw [HR.out];first | rfl | simp,HBW.out⟩
     | false =>
       have HR:Hid (R=false):=zH (by rw [<-hR];(try simp [*]))
       clear hR
       go_wp2_with (first | (go_at_call 47;(try rw [<-HW.out]);refine (zzz _ ⟨_,_,_⟩ (by first | exact HM.out | exact HX.out | fail) _ (zzb HU.out HBW.out)).mono ?_;rintro e w2 ⟨rfl,hb2⟩;(first | rw [HA.out] | rw [HB.out] | fail);have HBW:=zH (HBW.out.trans (hb2.mono HBW.out.size));have HC:=zH (HC.out.keep hb2);obtain⟨c0,c1,c2,c3,c4,c5,c6,c7,c8,c9⟩:=HC.out;clear hb2) | (go_at_call 114;refine (zzk ⟨_,_,_⟩ ⟨_,_,_⟩ _).mono ?_;rintro e w2 ⟨rfl,hb2⟩;rw [HQ.out];have HBW:=zH (HBW.out.trans (hb2.mono HBW.out.size));have HC:=zH (HC.out.keep hb2);obtain⟨c0,c1,c2,c3,c4,c5,c6,c7,c8,c9⟩:=HC.out;clear hb2) | (go_at_call 49;refine (zzm _ _).mono ?_;rintro e w3 ⟨rfl,rfl⟩;rw [HN.out]) | fail)
       go_ret
       exact⟨by rw [HR.out];first | rfl | simp,HBW.out⟩
   | false =>
     cases h6:(sm==0) with
     | true =>
       have HR:Hid (R=true):=zH (by rw [<-hR];(try simp [*]))
       clear hR
       go_wp2_with (first | (go_at_call 47;(try rw [<-HW.out]);refine (zzz _ ⟨_,_,_⟩ (by first | exact HM.out | exact HX.out | fail) _ (zzb HU.out HBW.out)).mono ?_;rintro e w2 ⟨rfl,hb2⟩;(first | rw [HA.out] | rw [HB.out] | fail);have HBW:=zH (HBW.out.trans (hb2.mono HBW.out.size));have HC:=zH (HC.out.keep hb2);obtain⟨c0,c1,c2,c3,c4,c5,c6,c7,c8,c9⟩:=HC.out;clear hb2) | (go_at_call 114;refine (zzk ⟨_,_,_⟩ ⟨_,_,_⟩ _).mono ?_;rintro e w2 ⟨rfl,hb2⟩;rw [HQ.out];have HBW:=zH (HBW.out.trans (hb2.mono HBW.out.size));have HC:=zH (HC.out.keep hb2);obtain⟨c0,c1,c2,c3,c4,c5,c6,c7,c8,c9⟩:=HC.out;clear hb2) | (go_at_call 49;refine (zzm _ _).mono ?_;rintro e w3 ⟨rfl,rfl⟩;rw [HN.out]) | fail)
       go_ret
       exact⟨by rw [HR.out];first | rfl | simp,HBW.out⟩
     | false =>
       cases nk with
       | false =>
         have HR:Hid (R=false):=zH (by rw [<-hR];(try simp [*]))
         clear hR
         go_wp2_with (first | (go_at_call 47;(try rw [<-HW.out]);refine (zzz _ ⟨_,_,_⟩ (by first | exact HM.out | exact HX.out | fail) _ (zzb HU.out HBW.out)).mono ?_;rintro e w2 ⟨rfl,hb2⟩;(first | rw [HA.out] | rw [HB.out] | fail);have HBW:=zH (HBW.out.trans (hb2.mono HBW.out.size));have HC:=zH (HC.out.keep hb2);obtain⟨c0,c1,c2,c3,c4,c5,c6,c7,c8,c9⟩:=HC.out;clear hb2) | (go_at_call 114;refine (zzk ⟨_,_,_⟩ ⟨_,_,_⟩ _).mono ?_;rintro e w2 ⟨rfl,hb2⟩;rw [HQ.out];have HBW:=zH (HBW.out.trans (hb2.mono HBW.out.size));have HC:=zH (HC.out.keep hb2);obtain⟨c0,c1,c2,c3,c4,c5,c6,c7,c8,c9⟩:=HC.out;clear hb2) | (go_at_call 49;refine (zzm _ _).mono ?_;rintro e w3 ⟨rfl,rfl⟩;rw [HN.out]) | fail)
         go_ret
         exact⟨by rw [HR.out];first | rfl | simp,HBW.out⟩
       | true =>
         have HR:Hid (R=true):=zH (by rw [<-hR];(try simp [*]))
         clear hR
         go_wp2_with (first | (go_at_call 47;(try rw [<-HW.out]);refine (zzz _ ⟨_,_,_⟩ (by first | exact HM.out | exact HX.out | fail) _ (zzb HU.out HBW.out)).mono ?_;rintro e w2 ⟨rfl,hb2⟩;(first | rw [HA.out] | rw [HB.out] | fail);have HBW:=zH (HBW.out.trans (hb2.mono HBW.out.size));have HC:=zH (HC.out.keep hb2);obtain⟨c0,c1,c2,c3,c4,c5,c6,c7,c8,c9⟩:=HC.out;clear hb2) | (go_at_call 114;refine (zzk ⟨_,_,_⟩ ⟨_,_,_⟩ _).mono ?_;rintro e w2 ⟨rfl,hb2⟩;rw [HQ.out];have HBW:=zH (HBW.out.trans (hb2.mono HBW.out.size));have HC:=zH (HC.out.keep hb2);obtain⟨c0,c1,c2,c3,c4,c5,c6,c7,c8,c9⟩:=HC.out;clear hb2) | (go_at_call 49;refine (zzm _ _).mono ?_;rintro e w3 ⟨rfl,rfl⟩;rw [HN.out]) | fail)
         go_ret
         exact⟨by rw [HR.out];first | rfl | simp,HBW.out⟩
 | false =>
   cases mn with
   | true =>
     have HR:Hid (R=false):=zH (by rw [<-hR];(try simp [*]))
     clear hR
     go_wp2_with (first | (go_at_call 47;(try rw [<-HW.out]);refine (zzz _ ⟨_,_,_⟩ (by first | exact HM.out | exact HX.out | fail) _ (zzb HU.out HBW.out)).mono ?_;rintro e w2 ⟨rfl,hb2⟩;(first | rw [HA.out] | rw [HB.out] | fail);have HBW:=zH (HBW.out.trans (hb2.mono HBW.out.size));have HC:=zH (HC.out.keep hb2);obtain⟨c0,c1,c2,c3,c4,c5,c6,c7,c8,c9⟩:=HC.out;clear hb2) | (go_at_call 114;refine (zzk ⟨_,_,_⟩ ⟨_,_,_⟩ _).mono ?_;rintro e w2 ⟨rfl,hb2⟩;rw [HQ.out];have HBW:=zH (HBW.out.trans (hb2.mono HBW.out.size));have HC:=zH (HC.out.keep hb2);obtain⟨c0,c1,c2,c3,c4,c5,c6,c7,c8,c9⟩:=HC.out;clear hb2) | (go_at_call 49;refine (zzm _ _).mono ?_;rintro e w3 ⟨rfl,rfl⟩;rw [HN.out]) | fail)
     go_ret
     exact⟨by rw [HR.out];first | rfl | simp,HBW.out⟩
   | false =>
   cases xn with
   | true =>
     have HR:Hid (R=false):=zH (by rw [<-hR];(try simp [*]))
     clear hR
     go_wp2_with (first | (go_at_call 47;(try rw [<-HW.out]);refine (zzz _ ⟨_,_,_⟩ (by first | exact HM.out | exact HX.out | fail) _ (zzb HU.out HBW.out)).mono ?_;rintro e w2 ⟨rfl,hb2⟩;(first | rw [HA.out] | rw [HB.out] | fail);have HBW:=zH (HBW.out.trans (hb2.mono HBW.out.size));have HC:=zH (HC.out.keep hb2);obtain⟨c0,c1,c2,c3,c4,c5,c6,c7,c8,c9⟩:=HC.out;clear hb2) | (go_at_call 114;refine (zzk ⟨_,_,_⟩ ⟨_,_,_⟩ _).mono ?_;rintro e w2 ⟨rfl,hb2⟩;rw [HQ.out];have HBW:=zH (HBW.out.trans (hb2.mono HBW.out.size));have HC:=zH (HC.out.keep hb2);obtain⟨c0,c1,c2,c3,c4,c5,c6,c7,c8,c9⟩:=HC.out;clear hb2) | (go_at_call 49;refine (zzm _ _).mono ?_;rintro e w3 ⟨rfl,rfl⟩;rw [HN.out]) | fail)
     go_ret
     exact⟨by rw [HR.out];first | rfl | simp,HBW.out⟩
   | false =>
   by_cases h5:q<0
   · have HR:Hid (R=false):=zH (by rw [<-hR];(try simp [*]))
     clear hR
     go_wp2_with (first | (go_at_call 47;(try rw [<-HW.out]);refine (zzz _ ⟨_,_,_⟩ (by first | exact HM.out | exact HX.out | fail) _ (zzb HU.out HBW.out)).mono ?_;rintro e w2 ⟨rfl,hb2⟩;(first | rw [HA.out] | rw [HB.out] | fail);have HBW:=zH (HBW.out.trans (hb2.mono HBW.out.size));have HC:=zH (HC.out.keep hb2);obtain⟨c0,c1,c2,c3,c4,c5,c6,c7,c8,c9⟩:=HC.out;clear hb2) | (go_at_call 114;refine (zzk ⟨_,_,_⟩ ⟨_,_,_⟩ _).mono ?_;rintro e w2 ⟨rfl,hb2⟩;rw [HQ.out];have HBW:=zH (HBW.out.trans (hb2.mono HBW.out.size));have HC:=zH (HC.out.keep hb2);obtain⟨c0,c1,c2,c3,c4,c5,c6,c7,c8,c9⟩:=HC.out;clear hb2) | (go_at_call 49;refine (zzm _ _).mono ?_;rintro e w3 ⟨rfl,rfl⟩;rw [HN.out]) | fail)
     go_ret
     exact⟨by rw [HR.out];first | rfl | simp,HBW.out⟩
   cases ov with
   | true =>
     cases h6:(sm==0) with
     | true =>
       cases nk with
       | false =>
         have HR:Hid (R=false):=zH (by rw [<-hR];(try simp [*]))
         clear hR
         go_wp2_with (first | (go_at_call 47;(try rw [<-HW.out]);refine (zzz _ ⟨_,_,_⟩ (by first | exact HM.out | exact HX.out | fail) _ (zzb HU.out HBW.out)).mono ?_;rintro e w2 ⟨rfl,hb2⟩;(first | rw [HA.out] | rw [HB.out] | fail);have HBW:=zH (HBW.out.trans (hb2.mono HBW.out.size));have HC:=zH (HC.out.keep hb2);obtain⟨c0,c1,c2,c3,c4,c5,c6,c7,c8,c9⟩:=HC.out;clear hb2) | (go_at_call 114;refine (zzk ⟨_,_,_⟩ ⟨_,_,_⟩ _).mono ?_;rintro e w2 ⟨rfl,hb2⟩;rw [HQ.out];have HBW:=zH (HBW.out.trans (hb2.mono HBW.out.size));have HC:=zH (HC.out.keep hb2);obtain⟨c0,c1,c2,c3,c4,c5,c6,c7,c8,c9⟩:=HC.out;clear hb2) | (go_at_call 49;refine (zzm _ _).mono ?_;rintro e w3 ⟨rfl,rfl⟩;rw [HN.out]) | fail)
         go_ret
         exact⟨by rw [HR.out];first | rfl | simp,HBW.out⟩
       | true =>
         have HR:Hid (R=true):=zH (by rw [<-hR];(try simp [*]))
         clear hR
         go_wp2_with (first | (go_at_call 47;(try rw [<-HW.out]);refine (zzz _ ⟨_,_,_⟩ (by first | exact HM.out | exact HX.out | fail) _ (zzb HU.out HBW.out)).mono ?_;rintro e w2 ⟨rfl,hb2⟩;(first | rw [HA.out] | rw [HB.out] | fail);have HBW:=zH (HBW.out.trans (hb2.mono HBW.out.size));have HC:=zH (HC.out.keep hb2);obtain⟨c0,c1,c2,c3,c4,c5,c6,c7,c8,c9⟩:=HC.out;clear hb2) | (go_at_call 114;refine (zzk ⟨_,_,_⟩ ⟨_,_,_⟩ _).mono ?_;rintro e w2 ⟨rfl,hb2⟩;rw [HQ.out];have HBW:=zH (HBW.out.trans (hb2.mono HBW.out.size));have HC:=zH (HC.out.keep hb2);obtain⟨c0,c1,c2,c3,c4,c5,c6,c7,c8,c9⟩:=HC.out;clear hb2) | (go_at_call 49;refine (zzm _ _).mono ?_;rintro e w3 ⟨rfl,rfl⟩;rw [HN.out]) | fail)
         go_ret
         exact⟨by rw [HR.out];first | rfl | simp,HBW.out⟩
     | false =>
       have HR:Hid (R=false):=zH (by rw [<-hR];(try simp [*]))
       clear hR
       go_wp2_with (first | (go_at_call 47;(try rw [<-HW.out]);refine (zzz _ ⟨_,_,_⟩ (by first | exact HM.out | exact HX.out | fail) _ (zzb HU.out HBW.out)).mono ?_;rintro e w2 ⟨rfl,hb2⟩;(first | rw [HA.out] | rw [HB.out] | fail);have HBW:=zH (HBW.out.trans (hb2.mono HBW.out.size));have HC:=zH (HC.out.keep hb2);obtain⟨c0,c1,c2,c3,c4,c5,c6,c7,c8,c9⟩:=HC.out;clear hb2) | (go_at_call 114;refine (zzk ⟨_,_,_⟩ ⟨_,_,_⟩ _).mono ?_;rintro e w2 ⟨rfl,hb2⟩;rw [HQ.out];have HBW:=zH (HBW.out.trans (hb2.mono HBW.out.size));have HC:=zH (HC.out.keep hb2);obtain⟨c0,c1,c2,c3,c4,c5,c6,c7,c8,c9⟩:=HC.out;clear hb2) | (go_at_call 49;refine (zzm _ _).mono ?_;rintro e w3 ⟨rfl,rfl⟩;rw [HN.out]) | fail)
       go_ret
       exact⟨by rw [HR.out];first | rfl | simp,HBW.out⟩
   | false =>
     cases h6:(sm==0) with
     | true =>
       have HR:Hid (R=true):=zH (by rw [<-hR];(try simp [*]))
       clear hR
       go_wp2_with (first | (go_at_call 47;(try rw [<-HW.out]);refine (zzz _ ⟨_,_,_⟩ (by first | exact HM.out | exact HX.out | fail) _ (zzb HU.out HBW.out)).mono ?_;rintro e w2 ⟨rfl,hb2⟩;(first | rw [HA.out] | rw [HB.out] | fail);have HBW:=zH (HBW.out.trans (hb2.mono HBW.out.size));have HC:=zH (HC.out.keep hb2);obtain⟨c0,c1,c2,c3,c4,c5,c6,c7,c8,c9⟩:=HC.out;clear hb2) | (go_at_call 114;refine (zzk ⟨_,_,_⟩ ⟨_,_,_⟩ _).mono ?_;rintro e w2 ⟨rfl,hb2⟩;rw [HQ.out];have HBW:=zH (HBW.out.trans (hb2.mono HBW.out.size));have HC:=zH (HC.out.keep hb2);obtain⟨c0,c1,c2,c3,c4,c5,c6,c7,c8,c9⟩:=HC.out;clear hb2) | (go_at_call 49;refine (zzm _ _).mono ?_;rintro e w3 ⟨rfl,rfl⟩;rw [HN.out]) | fail)
       go_ret
       exact⟨by rw [HR.out];first | rfl | simp,HBW.out⟩
     | false =>
       cases nk with
       | false =>
         have HR:Hid (R=false):=zH (by rw [<-hR];(try simp [*]))
         clear hR
         go_wp2_with (first | (go_at_call 47;(try rw [<-HW.out]);refine (zzz _ ⟨_,_,_⟩ (by first | exact HM.out | exact HX.out | fail) _ (zzb HU.out HBW.out)).mono ?_;rintro e w2 ⟨rfl,hb2⟩;(first | rw [HA.out] | rw [HB.out] | fail);have HBW:=zH (HBW.out.trans (hb2.mono HBW.out.size));have HC:=zH (HC.out.keep hb2);obtain⟨c0,c1,c2,c3,c4,c5,c6,c7,c8,c9⟩:=HC.out;clear hb2) | (go_at_call 114;refine (zzk ⟨_,_,_⟩ ⟨_,_,_⟩ _).mono ?_;rintro e w2 ⟨rfl,hb2⟩;rw [HQ.out];have HBW:=zH (HBW.out.trans (hb2.mono HBW.out.size));have HC:=zH (HC.out.keep hb2);obtain⟨c0,c1,c2,c3,c4,c5,c6,c7,c8,c9⟩:=HC.out;clear hb2) | (go_at_call 49;refine (zzm _ _).mono ?_;rintro e w3 ⟨rfl,rfl⟩;rw [HN.out]) | fail)
         go_ret
         exact⟨by rw [HR.out];first | rfl | simp,HBW.out⟩
       | true =>
         have HR:Hid (R=true):=zH (by rw [<-hR];(try simp [*]))
         clear hR
         go_wp2_with (first | (go_at_call 47;(try rw [<-HW.out]);refine (zzz _ ⟨_,_,_⟩ (by first | exact HM.out | exact HX.out | fail) _ (zzb HU.out HBW.out)).mono ?_;rintro e w2 ⟨rfl,hb2⟩;(first | rw [HA.out] | rw [HB.out] | fail);have HBW:=zH (HBW.out.trans (hb2.mono HBW.out.size));have HC:=zH (HC.out.keep hb2);obtain⟨c0,c1,c2,c3,c4,c5,c6,c7,c8,c9⟩:=HC.out;clear hb2) | (go_at_call 114;refine (zzk ⟨_,_,_⟩ ⟨_,_,_⟩ _).mono ?_;rintro e w2 ⟨rfl,hb2⟩;rw [HQ.out];have HBW:=zH (HBW.out.trans (hb2.mono HBW.out.size));have HC:=zH (HC.out.keep hb2);obtain⟨c0,c1,c2,c3,c4,c5,c6,c7,c8,c9⟩:=HC.out;clear hb2) | (go_at_call 49;refine (zzm _ _).mono ?_;rintro e w3 ⟨rfl,rfl⟩;rw [HN.out]) | fail)
         go_ret
         exact⟨by rw [HR.out];first | rfl | simp,HBW.out⟩
end
end Go.Proofs.YtpmglcachffojaaGreatDoor
