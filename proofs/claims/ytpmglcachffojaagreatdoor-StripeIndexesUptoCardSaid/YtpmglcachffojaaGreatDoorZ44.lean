/- A part of what Indexes leans on. -/
import Derived.Test.YtpmglcachffojaaGreatDoorZ39
import Derived.Test.YtpmglcachffojaaGreatDoorZ40
set_option maxRecDepth 100000
set_option maxHeartbeats 16000000
namespace Go.Proofs.YtpmglcachffojaaGreatDoor
section
open Go Go.RowKit
def s6:List Bool:=[false,false,true,true,false,false]
def stOf (f0 f1:Fld) (mn mx:VV) (f4 f5:Fld):SS:=⟨IntKind.i64.wrap (f0.n:Int),decide (f1.n=1),mn,mx,zagI f4.n,decide (f5.n=1)⟩
def SS.zero:SS:=⟨0,false,VV.zero,VV.zero,0,false⟩
def tsF (k:Int) (b:List UInt8):List Fld->Option SS
 | [f0,f1,f2,f3,f4,f5]=>(zzr f2.b).bind fun mn=>(zzr f3.b).bind fun mx=>if zz7 (stOf f0 f1 mn mx f4 f5)=b/\mayS k (stOf f0 f1 mn mx f4 f5)=true then some (stOf f0 f1 mn mx f4 f5) else none
 | _=>none
def zzj (k:Int) (b:List UInt8):Option SS:=(shq s6 b).bind (tsF k b)
def tsV (o:Option SS):SS:=o.getD SS.zero
theorem len6 {L:List Fld} (h:L.length=6):∃ a b c d e f,L=[a,b,c,d,e,f]:=by
 match L,h with
 | [a,b,c,d,e,f],_=>exact⟨a,b,c,d,e,f,rfl⟩
theorem yyb {b:List UInt8} {v:VV} (h:zzr b=some v) (hb:b.length<=1000000):v.ok/\v.s.size<=1000000:=by
 rw [xxG] at h
 cases hs:shp b with
 | none=>rw [hs] at h;cases h
 | some L =>
   obtain⟨a,c,d,rfl⟩:=len3 (shp_len hs)
   rw [hs,Option.bind_some] at h
   dsimp only at h
   split at h
   · injection h with h
     subst h
     have h2:=kqb hs d (by simp)
     have h3:=kqb hs c (by simp)
     have hz:=kqO c.n h3.2.2.1
     have hl:d.b.toArray.size<=1000000:=by rw [List.size_toArray];omega
     refine⟨⟨hz.1,hz.2,?_⟩,hl⟩
     show d.b.toArray.size<=maxLen
     unfold maxLen;omega
   · cases h
theorem qxg (f0 f1:Fld) {mn mx:VV} {f4 f5:Fld} (h1:mn.ok) (h2:mx.ok) (h4:f4.n<18446744073709551616) (z1:mn.s.size<=1000000) (z2:mx.s.size<=1000000):(stOf f0 f1 mn mx f4 f5).ok:=by
 have hz:=kqO f4.n h4
 refine⟨?_,h1,h2,⟨hz.1,hz.2⟩,Nat.le_trans z1 (by decide),Nat.le_trans z2 (by decide)⟩
 show i64 (IntKind.i64.wrap (f0.n:Int))
 rw [IntKind.wrap_i64];unfold i64;omega
theorem SS.ok.fits {s:SS} (h:s.ok):s.fit:=⟨h.1,h.2.1,h.2.2.1,h.2.2.2.1⟩
theorem zqv {k:Int} {b:List UInt8} {s:SS} (h:zzj k b=some s) (hb:b.length<=1000000):s.ok:=by
 unfold zzj at h
 cases hs:shq s6 b with
 | none=>rw [hs] at h;cases h
 | some L =>
   obtain⟨f0,f1,f2,f3,f4,f5,rfl⟩:=len6 (uug hs).2.2
   rw [hs,Option.bind_some] at h
   unfold tsF at h
   dsimp only at h
   have h2:=kqb hs f2 (by simp);have h3:=kqb hs f3 (by simp);have h4:=kqb hs f4 (by simp)
   cases hm:zzr f2.b with
   | none=>rw [hm] at h;cases h
   | some mn =>
     cases hx:zzr f3.b with
     | none=>rw [hm,hx] at h;cases h
     | some mx =>
       rw [hm,hx,Option.bind_some,Option.bind_some] at h
       split at h
       · injection h with h
         subst h
         obtain⟨k1,k2⟩:=yyb hm (by omega);obtain⟨k3,k4⟩:=yyb hx (by omega)
         exact qxg f0 f1 k1 k3 h4.2.2.1 k2 k4
       · cases h
theorem tsV_fit {k:Int} {b:List UInt8} (hb:b.length<=1000000):(tsV (zzj k b)).fit:=by
 cases h:zzj k b with
 | none=>exact⟨by unfold i64;decide,by unfold VV.ok;decide,by unfold VV.ok;decide,by unfold i64;decide⟩
 | some s=>exact (zqv h hb).fits
theorem qxh {w0 w:World} {B g:Nat} (hb:Below B w0 w) (hg:B<=g) (v0 v1 v2 v3 v4 v5 v6 v7 v8 v9:Value):Below B w0 ((((((((((w.setCell ⟨g,0,none⟩ v0).setCell ⟨g,1,none⟩ v1).setCell ⟨g,2,none⟩ v2).setCell ⟨g,3,none⟩ v3).setCell ⟨g,4,none⟩ v4).setCell ⟨g,5,none⟩ v5).setCell ⟨g,6,none⟩ v6).setCell ⟨g,7,none⟩ v7).setCell ⟨g,8,none⟩ v8).setCell ⟨g,9,none⟩ v9) :=
 zzi (zzi (zzi (zzi (zzi (zzi (zzi (zzi (zzi (zzi hb hg _) hg _) hg _) hg _) hg _) hg _) hg _) hg _) hg _) hg _
structure TsR (w:World) (u0 u1 u2 u3 u4 u5 u6 u7 u8 u9:Value) (W:World):Prop where
 r:W.heap[w.heap.size]?=some (.cells #[u0,u1,u2,u3,u4,u5,u6,u7,u8,u9] 109 (0,0))
 below:Below w.heap.size w W
structure TsC (w:World) (u0 u1 u2 u3 u4 u5 u6 u7 u8 u9:Value) (W:World):Prop where
 c0:W.cell? ⟨w.heap.size,0,none⟩=some u0/\W.frozen? ⟨w.heap.size,0,none⟩=false
 c1:W.cell? ⟨w.heap.size,1,none⟩=some u1/\W.frozen? ⟨w.heap.size,1,none⟩=false
 c2:W.cell? ⟨w.heap.size,2,none⟩=some u2/\W.frozen? ⟨w.heap.size,2,none⟩=false
 c3:W.cell? ⟨w.heap.size,3,none⟩=some u3/\W.frozen? ⟨w.heap.size,3,none⟩=false
 c4:W.cell? ⟨w.heap.size,4,none⟩=some u4/\W.frozen? ⟨w.heap.size,4,none⟩=false
 c5:W.cell? ⟨w.heap.size,5,none⟩=some u5/\W.frozen? ⟨w.heap.size,5,none⟩=false
 c6:W.cell? ⟨w.heap.size,6,none⟩=some u6/\W.frozen? ⟨w.heap.size,6,none⟩=false
 c7:W.cell? ⟨w.heap.size,7,none⟩=some u7/\W.frozen? ⟨w.heap.size,7,none⟩=false
 c8:W.cell? ⟨w.heap.size,8,none⟩=some u8/\W.frozen? ⟨w.heap.size,8,none⟩=false
 c9:W.cell? ⟨w.heap.size,9,none⟩=some u9/\W.frozen? ⟨w.heap.size,9,none⟩=false
theorem TsR.cellsOf {w W:World} {u0 u1 u2 u3 u4 u5 u6 u7 u8 u9:Value} (h:TsR w u0 u1 u2 u3 u4 u5 u6 u7 u8 u9 W):TsC w u0 u1 u2 u3 u4 u5 u6 u7 u8 u9 W :=
 ⟨⟨by rw [zC h.r];rfl,zF h.r 0⟩,⟨by rw [zC h.r];rfl,zF h.r 1⟩,⟨by rw [zC h.r];rfl,zF h.r 2⟩,⟨by rw [zC h.r];rfl,zF h.r 3⟩,⟨by rw [zC h.r];rfl,zF h.r 4⟩,⟨by rw [zC h.r];rfl,zF h.r 5⟩,⟨by rw [zC h.r];rfl,zF h.r 6⟩,⟨by rw [zC h.r];rfl,zF h.r 7⟩,⟨by rw [zC h.r];rfl,zF h.r 8⟩,⟨by rw [zC h.r];rfl,zF h.r 9⟩⟩
theorem TsR.call {w W W':World} {u0 u1 u2 u3 u4 u5 u6 u7 u8 u9:Value} (h:TsR w u0 u1 u2 u3 u4 u5 u6 u7 u8 u9 W) (hb:Below (w.heap.size+1) W W'):TsR w u0 u1 u2 u3 u4 u5 u6 u7 u8 u9 W':=⟨(hb.block _ (by omega)).trans h.r,h.below.trans (hb.mono (by omega))⟩
theorem TsR.put {w W:World} {u0 u1 u2 u3 u4 u5 u6 u7 u8 u9:Value} (h:TsR w u0 u1 u2 u3 u4 u5 u6 u7 u8 u9 W) (v0 v1 v2 v3 v4 v5 v6 v7 v8 v9:Value):TsR w v0 v1 v2 v3 v4 v5 v6 v7 v8 v9 ((((((((((W.setCell ⟨w.heap.size,0,none⟩ v0).setCell ⟨w.heap.size,1,none⟩ v1).setCell ⟨w.heap.size,2,none⟩ v2).setCell ⟨w.heap.size,3,none⟩ v3).setCell ⟨w.heap.size,4,none⟩ v4).setCell ⟨w.heap.size,5,none⟩ v5).setCell ⟨w.heap.size,6,none⟩ v6).setCell ⟨w.heap.size,7,none⟩ v7).setCell ⟨w.heap.size,8,none⟩ v8).setCell ⟨w.heap.size,9,none⟩ v9) :=
 ⟨xqZ h.r v0 v1 v2 v3 v4 v5 v6 v7 v8 v9,qxh h.below zN v0 v1 v2 v3 v4 v5 v6 v7 v8 v9⟩
theorem tsW (w:World):∃ wb,wb=w.alloc (.cells #[.int .i64 0,.bool false,.bool false,.int .i64 0,.string ⟨#[]⟩,.bool false,.int .i64 0,.string ⟨#[]⟩,.int .i64 0,.bool false] 109)/\TsR w (.int .i64 0) (.bool false) (.bool false) (.int .i64 0) (.string ⟨#[]⟩) (.bool false) (.int .i64 0) (.string ⟨#[]⟩) (.int .i64 0) (.bool false) wb/\wb.heap.size=w.heap.size+1 :=
 ⟨_,rfl,⟨heap_alloc_new w _,(Below.refl _ w).alloc zN _⟩,by simp⟩
def jj1 (k:Int) (b:List UInt8) (w:World) (e:Ending) (w':World):Prop :=
 e=.returned (.tuple #[.agg (zz4 (tsV (zzj k b))).toArray,.int .i64 (okc (zzj k b).isSome 2)])/\Below w.heap.size w w'
theorem ts_no {k:Int} {b:List UInt8} {w w':World} (h:zzj k b=none) (hb:Below w.heap.size w w'):jj1 k b w (.returned (.tuple #[.agg #[.int .i64 0,.bool false,.bool false,.int .i64 0,.string ⟨#[]⟩,.bool false,.int .i64 0,.string ⟨#[]⟩,.int .i64 0,.bool false],.int .i64 2])) w':=⟨by rw [h];rfl,hb⟩
end
section
open Go Go.RowKit
def jj2 (f:Fld):Bool:=isN 1 f&&(decide (1<=f.n)&&decide (f.n<=8))
def xx8 (f:Fld):Bool:=isN 2 f&&decide (f.n<=1048576)
def yy2 (rows:Nat) (s:SS):Bool:=decide (s.count<=(rows:Int))&&(s.hasNull==decide (s.count<(rows:Int)))
def xxH (k:Int) (rows:Nat) (a b:Fld):Option (Int×SS) :=
 if (xx8 a&&isB 3 b)=true then (zzj k b.b).bind fun s=>if yy2 rows s=true then some ((a.n:Int),s) else none else none
def uuB (rows:Nat):List CC->List Fld->Option (List (Int×SS))
 | [],_=>some []
 | c::cs,a::b::fs=>(xxH c.2 rows a b).bind fun x=>(uuB rows cs fs).map (x::·)
 | _::_,_=>none
def zzy (cols:List CC):List Fld->Option ST
 | f::fs=>if jj2 f=true then (uuB f.n cols fs).map fun xs=>((f.n:Int),xs.map Prod.fst,xs.map Prod.snd) else none
 | []=>none
theorem kqJ {rows:Nat} {cols:List CC} {f:List Fld} {i:Nat} {c:CC} {a b:Fld} (hi:i<cols.length) (hc:cols[i]=c) (ha:f[2*i+1]?=some a) (hb:f[2*i+2]?=some b) :
 uuB rows (cols.drop i) (f.drop (2*i+1))=(xxH c.2 rows a b).bind fun x=>(uuB rows (cols.drop (i+1)) (f.drop (2*(i+1)+1))).map (x::·):=by
 obtain⟨la,ea⟩:=List.getElem?_eq_some_iff.1 ha
 obtain⟨lb,eb⟩:=List.getElem?_eq_some_iff.1 hb
 rw [List.drop_eq_getElem_cons hi,List.drop_eq_getElem_cons la,List.drop_eq_getElem_cons (i:=2*i+1+1) lb,hc,ea,eb]
 rfl
def vvP (cols:List CC) (f:List Fld) (rows i:Nat) (L:List Int) (M:List SS):Prop :=
 zzy cols f=(uuB rows (cols.drop i) (f.drop (2*i+1))).map fun xs=>((rows:Int),L++xs.map Prod.fst,M++xs.map Prod.snd)
theorem kqK {cols:List CC} {f:List Fld} {x:Fld} (h:f[0]?=some x) (hok:jj2 x=true):vvP cols f x.n 0 [] []:=by
 match f,h with
 | y::fs,h =>
   injection h with h
   subst h
   unfold vvP
   rw [zzy,if_pos hok]
   rfl
theorem yyT {cols:List CC} {f:List Fld} {x:Fld} (h:f[0]?=some x) (hok:jj2 x=false):zzy cols f=none:=by
 match f,h with
 | y::fs,h =>
   injection h with h
   subst h
   rw [zzy,if_neg (by rw [hok];simp)]
theorem vvP.no {cols:List CC} {f:List Fld} {rows i:Nat} {L:List Int} {M:List SS} {c:CC} {a b:Fld} (h:vvP cols f rows i L M) (hi:i<cols.length) (hc:cols[i]=c) (ha:f[2*i+1]?=some a) (hb:f[2*i+2]?=some b) (hn:xxH c.2 rows a b=none):zzy cols f=none:=by
 unfold vvP at h
 rw [h,kqJ hi hc ha hb,hn]
 rfl
theorem vvP.yes {cols:List CC} {f:List Fld} {rows i:Nat} {L:List Int} {M:List SS} {c:CC} {a b:Fld} {n:Int} {s:SS} (h:vvP cols f rows i L M) (hi:i<cols.length) (hc:cols[i]=c) (ha:f[2*i+1]?=some a) (hb:f[2*i+2]?=some b) (hn:xxH c.2 rows a b=some (n,s)):vvP cols f rows (i+1) (L++[n]) (M++[s]):=by
 unfold vvP at h ⊢
 rw [h,kqJ hi hc ha hb,hn,Option.bind_some]
 cases uuB rows (cols.drop (i+1)) (f.drop (2*(i+1)+1)) with
 | none=>rfl
 | some xs =>
   show some _=some _
   simp only [List.map_cons,List.append_assoc,List.singleton_append]
theorem vvP.end {cols:List CC} {f:List Fld} {rows:Nat} {L:List Int} {M:List SS} (h:vvP cols f rows cols.length L M):zzy cols f=some ((rows:Int),L,M):=by
 unfold vvP at h
 rw [h,List.drop_length]
 show some _=some _
 simp
theorem qzi {k:Int} {rows:Nat} {a b:Fld} (h:xx8 a=false):xxH k rows a b=none:=by unfold xxH;rw [h];rfl
theorem cellO_b {k:Int} {rows:Nat} {a b:Fld} (h:isB 3 b=false):xxH k rows a b=none:=by unfold xxH;rw [h,Bool.and_false];rfl
theorem cellO_t {k:Int} {rows:Nat} {a b:Fld} (h:zzj k b.b=none):xxH k rows a b=none:=by unfold xxH;rw [h];split <;> rfl
theorem cellO_s {k:Int} {rows:Nat} {a b:Fld} {s:SS} (h:zzj k b.b=some s) (hs:yy2 rows s=false):xxH k rows a b=none:=by
 unfold xxH;rw [h,Option.bind_some,hs];split <;> rfl
theorem xqf {k:Int} {rows:Nat} {a b:Fld} {s:SS} (h1:xx8 a=true) (h2:isB 3 b=true) (h:zzj k b.b=some s) (hs:yy2 rows s=true):xxH k rows a b=some ((a.n:Int),s):=by
 unfold xxH;rw [h,Option.bind_some,hs,h1,h2];rfl
def zqw (l:List Fld) (m k:Nat):List Fld:=(l.drop (m*k)).take m
def okI (cols:List CC) (l:List Fld) (k:Nat):Bool:=(zzy cols (zqw l (1+2*cols.length) k)).isSome
def atI (cols:List CC) (l:List Fld) (k:Nat):ST:=(zzy cols (zqw l (1+2*cols.length) k)).getD (0,[],[])
def idxQ (cols:List CC) (l:List Fld) (q:Nat):Option (List ST):=if (List.range q).all (okI cols l)=true then some ((List.range q).map (atI cols l)) else none
def idxO (cols:List CC) (l:List Fld):Option (List ST):=if l.length % (1+2*cols.length)=0 then idxQ cols l (l.length / (1+2*cols.length)) else none
def zzC (cols:List CC) (b:List UInt8):Option (List ST):=((yyc b).bind zzo).bind (idxO cols)
def idxV (o:Option (List ST)):List ST:=o.getD []
theorem xx9 {cols:List CC} {b:List UInt8} (h:(yyc b).bind zzo=none):zzC cols b=none:=by unfold zzC;rw [h];rfl
theorem uuK {cols:List CC} {b:List UInt8} {l:List Fld} (h:(yyc b).bind zzo=some l):zzC cols b=idxO cols l:=by unfold zzC;rw [h];rfl
theorem idxO_no {cols:List CC} {l:List Fld} (h:l.length % (1+2*cols.length)≠0):idxO cols l=none:=by unfold idxO;rw [if_neg h]
theorem xqg {cols:List CC} {l:List Fld} {k:Nat} (hk:k<l.length / (1+2*cols.length)) (h:okI cols l k=false):idxO cols l=none:=by
 unfold idxO idxQ
 split
 · rw [if_neg (fun h2=>by have h3:=List.all_eq_true.1 h2 k (List.mem_range.2 hk);rw [h] at h3;cases h3)]
 · rfl
theorem xqh {cols:List CC} {l:List Fld} (h0:l.length % (1+2*cols.length)=0) (h:∀ k,k<l.length / (1+2*cols.length)->okI cols l k=true):idxO cols l=some ((List.range (l.length / (1+2*cols.length))).map (atI cols l)):=by
 unfold idxO idxQ
 rw [if_pos h0,if_pos (List.all_eq_true.2 fun k hk=>h k (List.mem_range.1 hk))]
theorem partF_at {l:List Fld} {m k j:Nat} (hj:j<m):(zqw l m k)[j]?=l[m*k+j]?:=by
 unfold zqw
 rw [List.getElem?_take_of_lt hj,List.getElem?_drop]
theorem partF_mem {l:List Fld} {m k:Nat} {f:Fld} (h:f∈zqw l m k):f∈l:=List.mem_of_mem_drop (List.mem_of_mem_take h)
def StrPost (cols:List CC) (f:List Fld) (w:World) (e:Ending) (w':World):Prop :=
 Below w.heap.size w w'/\((zzy cols f=none/\∃ q A1 n1 c1 A2 n2 c2,e=.returned (.tuple #[.agg #[.int .i64 q,.slice A1 n1 c1,.slice A2 n2 c2],.int .i64 2])) ∨
  ∃ q L M A1 n1 c1 A2 n2 c2,zzy cols f=some (q,L,M)/\e=.returned (.tuple #[.agg #[.int .i64 q,.slice A1 n1 c1,.slice A2 n2 c2],.int .i64 0])/\i64 q /\
   Sl tI64 (fun b=>w.heap.size<=b) w' A1 n1 c1 L/\Sl tSS (fun b=>w.heap.size<=b) w' A2 n2 c2 M)
def xqi (cols:List CC) (b:List UInt8) (w:World) (e:Ending) (w':World):Prop :=
 ∃ A n c,e=.returned (.tuple #[.slice A n c,.int .i64 (okc (zzC cols b).isSome 2)])/\Sl tSt (fun k=>w.heap.size<=k) w' A n c (idxV (zzC cols b))/\Below w.heap.size w w'
theorem uuR {cols:List CC} {b:List UInt8} {w w':World} (h:zzC cols b=none) (hb:Below w.heap.size w w'):xqi cols b w (.returned (.tuple #[.slice none 0 0,.int .i64 2])) w' :=
 ⟨none,0,0,by rw [h];rfl,by rw [h];exact Sl.nil_ _ _ _,hb⟩
end
section
open Go Go.RowKit
def cut8 (s:ST):ST:=(s.1,s.2.1.take 8,s.2.2.take 8)
def zqx (l:List ST):List ST:=(l.take 8).map cut8
theorem oursL_len (l:List ST):(zqx l).length<=8:=by unfold zqx;rw [List.length_map,List.length_take];omega
theorem xq8 {l:List ST} {k:Nat} (hk:k<l.length):((l.take (k+1)).map cut8)=(l.take k).map cut8++[cut8 l[k]]:=by
 rw [zT hk,List.map_append];rfl
theorem sl_fit {F:Nat->Prop} {w:World} {A:Option Addr} {n c:Nat} {l:List ST} (h:Sl tSt F w A n c l):∀ s∈l,∀ z∈s.2.2,z.fit:=by
 intro s hs z hz
 obtain⟨cs,hr⟩:=h.all s hs
 obtain⟨_,_,_,_,_,_,_,_,h4⟩:=yyg hr
 obtain⟨cs2,hr2⟩:=h4.all z hz
 exact hr2.2
theorem oursL_ok {l:List ST} (hf:∀ s∈l,∀ z∈s.2.2,z.fit) (ht:∀ s∈l,∀ z∈s.2.2,z.min.s.size<=1048576/\z.max.s.size<=1048576):∀ s∈zqx l,stOk s:=by
 intro s hs
 unfold zqx at hs
 obtain⟨x,hx,rfl⟩:=List.mem_map.1 hs
 have hxl:=List.mem_of_mem_take hx
 refine⟨by show (x.2.1.take 8).length<=20;rw [List.length_take];omega,fun z hz=>?_⟩
 have hz:z∈x.2.2:=List.mem_of_mem_take (show z∈x.2.2.take 8 from hz)
 obtain⟨h1,h2,h3,h4⟩:=hf x hxl z hz
 obtain⟨h5,h6⟩:=ht x hxl z hz
 exact⟨h1,h2,h3,h4,by omega,by omega⟩
theorem qxi {W:World} {g:Nat} {v0 v1 v2:Value} {t:TypeId} (h:W.heap[g]?=some (.cells #[v0,v1,v2] t (0,0))):(W.cell? ⟨g,0,none⟩=some v0/\W.frozen? ⟨g,0,none⟩=false)/\(W.cell? ⟨g,1,none⟩=some v1/\W.frozen? ⟨g,1,none⟩=false)/\(W.cell? ⟨g,2,none⟩=some v2/\W.frozen? ⟨g,2,none⟩=false) :=
 ⟨⟨by rw [zC h];rfl,zF h 0⟩,⟨by rw [zC h];rfl,zF h 1⟩,⟨by rw [zC h];rfl,zF h 2⟩⟩
theorem zqy {rows:Nat}:∀ {cols:List CC} {fs:List Fld} {xs:List (Int×SS)},uuB rows cols fs=some xs->xs.length=cols.length
 | [],_,xs,h=>by
   rw [uuB] at h
   injection h with h;subst h;rfl
 | c::cs,a::b::fs,xs,h=>by
   rw [uuB] at h
   cases h1:xxH c.2 rows a b with
   | none=>rw [h1] at h;cases h
   | some x =>
     rw [h1,Option.bind_some] at h
     cases h2:uuB rows cs fs with
     | none=>rw [h2] at h;cases h
     | some ys =>
       rw [h2] at h
       injection h with h;subst h
       simp [zqy h2]
 | _::_,[],xs,h=>by rw [uuB] at h;cases h;all_goals (intros;simp_all)
 | _::_,[_],xs,h=>by rw [uuB] at h;cases h;all_goals (intros;simp_all)
theorem qxj {cols:List CC} {f:List Fld} {s:ST} (h:zzy cols f=some s):s.2.1.length=cols.length/\s.2.2.length=cols.length:=by
 match f,h with
 | [],h=>cases h
 | x::fs,h =>
   rw [zzy] at h
   split at h
   · cases h2:uuB x.n cols fs with
     | none=>rw [h2] at h;cases h
     | some xs =>
       rw [h2] at h
       injection h with h;subst h
       have:=zqy h2
       simp [this]
   · cases h
theorem atI_len (cols:List CC) (l:List Fld) (k:Nat):(atI cols l k).2.1.length<=cols.length/\(atI cols l k).2.2.length<=cols.length:=by
 unfold atI
 cases h:zzy cols (zqw l (1+2*cols.length) k) with
 | none=>simp
 | some s=>have:=qxj h;simp [this]
theorem xq9 (cols:List CC) (b:List UInt8):(idxV (zzC cols b)).length<=b.length/\∀ s∈idxV (zzC cols b),s.2.1.length<=cols.length/\s.2.2.length<=cols.length:=by
 unfold zzC
 cases h:(yyc b).bind zzo with
 | none=>simp [idxV]
 | some l =>
   have hl:=(vvv h).1
   rw [Option.bind_some]
   unfold idxO idxQ
   split
   · split
     · refine⟨?_,?_⟩
       · show ((List.range _).map _).length<=_
         rw [List.length_map,List.length_range]
         exact Nat.le_trans (Nat.div_le_self _ _) hl
       · intro s hs
         have hs:s∈(List.range (l.length / (1+2*cols.length))).map (atI cols l):=hs
         obtain⟨k,_,rfl⟩:=List.mem_map.1 hs
         exact atI_len cols l k
     · simp [idxV]
   · simp [idxV]
theorem ours_any (F:Nat->Prop) (A:Option Addr) (n c:Nat) (l:List ST) (w:World) (h:Sl tSt F w A n c l) :
 Calls Tryz.prog 31 #[.slice A n c] w fun e w'=>∃ A2 n2 c2,e=.returned (.slice A2 n2 c2)/\Sl tSt (fun b=>F b∨w.heap.size<=b) w' A2 n2 c2 (zqx l)/\Below w.heap.size w w':=by
 have HL:=zH h.len
 have HH:=zH (h.weaken (F':=fun b=>F b/\b<w.heap.size) fun b hb hl=>⟨hb,hl⟩)
 clear h
 go_enter Tryz.func31,Tryz.ntmps31
 go_wp2_with fail
 go_loopw [3,4] (fun ov iv wr=>∃ (k:Nat) (A3:Option Addr) (c3:Nat),k<=n/\k<=8/\iv=.int .i64 (k:Int)/\ov=.slice A3 k c3/\OwnF tSt 97 (fun b=>F b/\b<w.heap.size) wr w.heap.size A3 k c3 ((l.take k).map cut8)/\Below w.heap.size w wr) (fun _ iv _=>8 - (intOf iv).toNat)
 case atStart=>exact⟨0,_,_,Nat.zero_le _,Nat.zero_le _,rfl,rfl,OwnF.empty _ _ _ _ _ zN (fun _ hb=>hb.2),(zR).alloc zN _⟩
 case round =>
  obtain⟨k,A3,c3,hk,hk8,rfl,rfl,ho,hb⟩:=hrel
  have HO:=zH ho;have HB:=zH hb
  have HZ:=zH hb.size
  clear ho hb
  by_cases hlt:k<n/\k<8
  · obtain⟨hkn,hk8'⟩:=hlt
    have hkl:k<l.length:=by rw [<-HL.out];exact hkn
    obtain⟨b,o,cs,rfl,hbF,hbl,hrep,hc⟩:=(HH.out.below HB.out zN).at_ hkl (by decide)
    obtain⟨x,hx⟩:∃ x,x=l[k]:=⟨_,rfl⟩
    rw [<-hx] at hrep
    have hI : -9223372036854775808<=x.1/\x.1<=9223372036854775807:=by obtain⟨_,_,_,⟨_,h9⟩,_⟩:=hrep;exact h9
    obtain⟨A5,n5,c5,A6,n6,c6,rfl,h3,h4⟩:=yyg hrep
    obtain⟨rw_,lg,st⟩:=x
    obtain⟨g0,g1,g2⟩:=yyj hc
    have g0:wr.cell? ⟨b,o+k*3,none⟩=some (.int .i64 rw_):=g0
    have HI:=zH hI;have H3:=zH h3;have H4:=zH h4
    have HS:=zH (show (l.take (k+1)).map cut8=(l.take k).map cut8++[(rw_,lg.take 8,st.take 8)] by rw [xq8 hkl,<-hx];rfl)
    have i0:(0:Int)<=(k:Int):=by omega
    have i1:(k:Int)<(n:Int):=by omega
    have i2:(k:Int)<8:=by omega
    have HKN:Hid (k+1<=n/\k+1<=8):=zH ⟨hkn,hk8'⟩
    clear hc hx hrep h3 h4 hbF hkn hk8' hkl hI
    go_upto_region 5 with fail
    refine regL [(none,fun w'=>w'.cell? ⟨b,o+k*3,none⟩=some (.int .i64 rw_)),(none,fun w'=>w'.cell? ⟨b,o+k*3+1,none⟩=some (.slice A5 n5 c5)),(none,fun w'=>w'.cell? ⟨b,o+k*3+2,none⟩=some (.slice A6 n6 c6))] (by kernel_rfl) ?_ (fun hHeld=>?_)
    · exact⟨(by first | exact g0 | exact zze g0 _ | fail),(by first | exact g1 | exact zze g1 _ | fail),(by first | exact g2 | exact zze g2 _ | fail),trivial⟩
    iterate 2
     all_goals
      repeat ((first | (refine tkP 0 (oi:=⟨_,_,_,_,_,_⟩) (v:=?_) rfl (by decide +kernel) rfl (fun _ _ _ h=>h) rfl hHeld ?_ ?_) | (refine tkP 1 (oi:=⟨_,_,_,_,_,_⟩) (v:=?_) rfl (by decide +kernel) rfl (fun _ _ _ h=>h) rfl hHeld ?_ ?_) | (refine tkP 2 (oi:=⟨_,_,_,_,_,_⟩) (v:=?_) rfl (by decide +kernel) rfl (fun _ _ _ h=>h) rfl hHeld ?_ ?_) | (refine tkP 3 (oi:=⟨_,_,_,_,_,_⟩) (v:=?_) rfl (by decide +kernel) rfl (fun _ _ _ h=>h) rfl hHeld ?_ ?_) | (refine tkL 4 0 rfl (oi:=⟨_,_,_,_,_,_⟩) (v:=?_) rfl (by decide +kernel) rfl (fun _ _ _ h=>h) rfl hHeld ?_ ?_) | (refine tkP 5 (oi:=⟨_,_,_,_,_,_⟩) (v:=?_) rfl (by decide +kernel) rfl (fun _ _ _ h=>h) rfl hHeld ?_ ?_) | (refine tkP 6 (oi:=⟨_,_,_,_,_,_⟩) (v:=?_) rfl (by decide +kernel) rfl (fun _ _ _ h=>h) rfl hHeld ?_ ?_) | (refine tkP 7 (oi:=⟨_,_,_,_,_,_⟩) (v:=?_) rfl (by decide +kernel) rfl (fun _ _ _ h=>h) rfl hHeld ?_ ?_) | (refine tkP 8 (oi:=⟨_,_,_,_,_,_⟩) (v:=?_) rfl (by decide +kernel) rfl (fun _ _ _ h=>h) rfl hHeld ?_ ?_) | (refine tkL 9 1 rfl (oi:=⟨_,_,_,_,_,_⟩) (v:=?_) rfl (by decide +kernel) rfl (fun _ _ _ h=>h) rfl hHeld ?_ ?_) | (refine tkP 10 (oi:=⟨_,_,_,_,_,_⟩) (v:=?_) rfl (by decide +kernel) rfl (fun _ _ _ h=>h) rfl hHeld ?_ ?_) | (refine tkP 11 (oi:=⟨_,_,_,_,_,_⟩) (v:=?_) rfl (by decide +kernel) rfl (fun _ _ _ h=>h) rfl hHeld ?_ ?_) | (refine tkP 12 (oi:=⟨_,_,_,_,_,_⟩) (v:=?_) rfl (by decide +kernel) rfl (fun _ _ _ h=>h) rfl hHeld ?_ ?_) | (refine tkP 13 (oi:=⟨_,_,_,_,_,_⟩) (v:=?_) rfl (by decide +kernel) rfl (fun _ _ _ h=>h) rfl hHeld ?_ ?_) | (refine tkL 14 2 rfl (oi:=⟨_,_,_,_,_,_⟩) (v:=?_) rfl (by decide +kernel) rfl (fun _ _ _ h=>h) rfl hHeld ?_ ?_) | (refine tkP 15 (oi:=⟨_,_,_,_,_,_⟩) (v:=?_) rfl (by decide +kernel) rfl (fun _ _ _ h=>h) rfl hHeld ?_ ?_));rotate_left;(focus (intro w;(try intro hSw);(try dsimp only at hSw);go_simp;try with_reducible rfl));intro hHeld;(try simp only [Act.put]);(try simp only [List.setIfInBounds_toArray]);(try simp only [List.set_cons_succ]);(try simp only [List.set_cons_zero]))
      first | (refine rd1 16 (o:=⟨_,_,_,_,_,_⟩) (by decide +kernel) rfl (fun K hK=>?_)) | (refine rd1 17 (o:=⟨_,_,_,_,_,_⟩) (by decide +kernel) rfl (fun K hK=>?_))
     all_goals
      first  | (go_simp;(fail)) | go_simp
      refine hK.out _ _ ?_ (fun hHeld=>?_)
      · (try dsimp only);exact⟨(by first | exact g0 | exact zze g0 _ | fail),(by first | exact g1 | exact zze g1 _ | fail),(by first | exact g2 | exact zze g2 _ | fail),trivial⟩
      clear hK K;(try simp only [Act.put]);(try simp only [List.setIfInBounds_toArray]);(try simp only [List.set_cons_succ]);(try simp only [List.set_cons_zero])
    all_goals
     refine xxI (by decide +kernel) ?_ _
     obtain⟨K,hK⟩:∃ q,q=wr.heap.size:=⟨_,rfl⟩
     obtain⟨wq,hwq⟩:∃ wq,wq=(wr.alloc (.cells #[.int .i64 rw_,.slice A5 n5 c5,.slice A6 n6 c6] 97)).drew:=⟨_,rfl⟩
     have HBQ:Hid (Below wr.heap.size wr wq):=zH (by rw [hwq];exact ((zR).alloc zN _).drew)
     have HGQ:Hid (wq.heap[K]?=some (.cells #[.int .i64 rw_,.slice A5 n5 c5,.slice A6 n6 c6] 97 (0,0))):=zH (by rw [hwq,hK];exact heap_alloc_new wr _)
     have HK:=zH hK
     rw [<-hwq,<-hK]
     clear hwq hK g0 g1 g2 i0 i1 i2
     obtain⟨⟨z0,z0'⟩,⟨z1,z1'⟩,⟨z2,z2'⟩⟩:=qxi HGQ.out
     go_upto_if 36 with fail
     go_cut [5] from 36 to 40 (fun pv wx=>pv=.pointer (some ⟨K,0,none⟩)/\∃ m5,Hid (Below wr.heap.size wr wx)/\Hid (wx.heap[K]?=some (.cells #[.int .i64 rw_,.slice A5 m5 c5,.slice A6 n6 c6] 97 (0,0)))/\Hid (Sl tI64 (fun b=>F b/\b<w.heap.size) wr A5 m5 c5 (lg.take 8)))
     case first =>
      by_cases h8:(n5:Int) > 8
      · have h9:(8:Int)<=(c5:Int):=by have:=H3.out.2.1;omega
        have HX:=zH (H3.out.fst (k:=8) (by omega))
        go_wp2_with fail
        go_meet
        exact⟨rfl,8,zH (zzi HBQ.out (Nat.le_of_eq HK.out.symm) _),zH (zza HGQ.out rfl),HX⟩
      · have HX:Hid (lg.take 8=lg):=zH (zL (by have h9:=H3.out.len;dsimp only at h9;omega))
        go_wp2_with fail
        go_meet
        exact⟨rfl,n5,HBQ,HGQ,zH (by rw [HX.out];exact H3.out)⟩
     obtain⟨rfl,m5,HB2,HG2,HX5⟩:=hcut
     obtain⟨w5,hw5⟩:∃ w5,w5=wc:=⟨_,rfl⟩
     rw [<-hw5] at HB2 HG2 ⊢
     clear hw5 z0 z1 z2 z0' z1' z2'
     obtain⟨⟨z0,z0'⟩,⟨z1,z1'⟩,⟨z2,z2'⟩⟩:=qxi HG2.out
     go_upto_if 44 with fail
     go_cut [5] from 44 to 48 (fun pv wx=>pv=.pointer (some ⟨K,0,none⟩)/\∃ m6,Hid (Below wr.heap.size wr wx)/\Hid (wx.heap[K]?=some (.cells #[.int .i64 rw_,.slice A5 m5 c5,.slice A6 m6 c6] 97 (0,0)))/\Hid (Sl tSS (fun b=>F b/\b<w.heap.size) wr A6 m6 c6 (st.take 8)))
     case first =>
      by_cases h8:(n6:Int) > 8
      · have h9:(8:Int)<=(c6:Int):=by have:=H4.out.2.1;omega
        have HX:=zH (H4.out.fst (k:=8) (by omega))
        go_wp2_with fail
        go_meet
        exact⟨rfl,8,zH (zzi HB2.out (Nat.le_of_eq HK.out.symm) _),zH (zza HG2.out rfl),HX⟩
      · have HX:Hid (st.take 8=st):=zH (zL (by have h9:=H4.out.len;dsimp only at h9;omega))
        go_wp2_with fail
        go_meet
        exact⟨rfl,n6,HB2,HG2,zH (by rw [HX.out];exact H4.out)⟩
     obtain⟨rfl,m6,HB3,HG3,HX6⟩:=hcut
     obtain⟨w6,hw6⟩:∃ w6,w6=wc:=⟨_,rfl⟩
     rw [<-hw6] at HB3 HG3 ⊢
     clear hw6 z0 z1 z2 z0' z1' z2'
     obtain⟨⟨z0,z0'⟩,⟨z1,z1'⟩,⟨z2,z2'⟩⟩:=qxi HG3.out
     go_wp2_with (first
      | (at_builtin;refine apl1 (T:=tSt) qxZ w6 w rfl (.tmp 49) (.tmp 51) rfl w.heap.size A3 k c3 ((l.take k).map cut8) (by rfl) (fun b=>F b/\b<w.heap.size) (fun b=>F b/\b<w.heap.size) (HO.out.keepB HB3.out) (HB.out.trans (HB3.out.mono HZ.out)) zN _ (by rfl) [.int .i64 rw_,.slice A5 m5 c5,.slice A6 m6 c6] (rw_,lg.take 8,st.take 8) ⟨[.int .i64 rw_],_,rfl,⟨rfl,HI.out⟩,_,_,rfl,⟨A5,m5,c5,rfl,HX5.out.below HB3.out zN⟩,A6,m6,c6,rfl,HX6.out.below HB3.out zN⟩ 97 rfl (fun b _ hB _ h=>by have:=h.2;omega) (by omega) ?_;intro A9 c9 w9 h9)
      | fail)
     go_roundw
     case rel=>exact⟨k+1,A9,c9,HKN.out.1,HKN.out.2,by go_num,rfl,by rw [HS.out];exact h9.own.weaken (fun b hb _=>hb.1.elim id id) (fun b _ hB _ h=>by have:=h.2;omega),h9.below⟩
     case measure=>have:=HKN.out;simp [intOf];omega
  · have HCS:Hid ((l.take k).map cut8=zqx l):=zH (by
     unfold zqx
     by_cases h6:k=8
     · rw [h6]
     · rw [zL (by rw [<-HL.out];omega),zL (by rw [<-HL.out];omega)])
    have hends:(¬ (k:Int)<(n:Int))∨((k:Int)<(n:Int)/\¬ (k:Int)<8):=by omega
    rw [HCS.out] at HO
    clear hlt
    rcases hends with h1 | ⟨h1,h1'⟩
    all_goals
     go_wp2_with fail
     go_ret
     exact⟨A3,k,c3,rfl,HO.out.sl.weaken (fun b hb _=>hb.elim (fun h=>.inl h.1) (fun h=>.inr h.2)),HB.out⟩
end
section
open Go Go.RowKit
theorem Rd.inBlk {W:World} {k:Nat} {cs:List Value} {t:TypeId} (hk:W.heap[k]?=some (.cells cs.toArray t (0,0))):Rd (fun b=>b=k) W (some ⟨k,0,none⟩) cs:=fun _ =>
 ⟨k,0,rfl,rfl,zzc hk,fun j u hj=>by rw [zC hk];simpa using hj⟩
section
variable {ops:Array Oper} {Q:Exit->Act->World->Prop} {o:Oper} {a:Act} {B B1:Nat} {D:List UInt8} {L:List Int} {M:List SS} {A0:Option Addr} {m0 c0:Nat} {A3:Option Addr} {n3 c3:Nat} {A4:Option Addr} {n4 c4:Nat} {col:Nat->Nat} {S:Nat} {w0 W:World} {K:Act->World->Prop} {E':Prop} {k:Nat}
theorem uui (h:PR B B1 D L M A0 m0 c0 A3 n3 c3 A4 n4 c4 col S w0 W) {y:Int} (hk:W.heap[k]?=some (.cells ([.int .i64 y]).toArray 3 (0,0))) (hn:i64 y) (hlim:n3<=4294967296) (hgd:o.guard=none) (s x:Operand)
 (ho:o.op=.call { callee:=.builtin .append,args:=#[s,x],argTypes:=#[94,94] }) (hs:a.eval s=.slice A3 n3 c3) (hx:a.eval x=.slice (some ⟨k,0,none⟩) 1 1)
 (hK:∀ A' c' w',PR B B1 D (L++[y]) M A0 m0 c0 A' (n3+1) c' A4 n4 c4 (zz5 col 1 S) w'.heap.size w0 w'->(∀ b,b<W.heap.size->(b<B1∨S<=b∨col b≠1)->w'.heap[b]?=W.heap[b]?)->W.heap.size<=w'.heap.size->K (a.put o.dst (.slice A' (n3+1) c')) w') :
 if Region.wanted o (yielded ops a.tmps)=true then Oper.wp Tryz.prog o a W K Q else E':=by
 obtain⟨F1,o1,f1,l1⟩:=h.q1
 have hw:Region.wanted o (yielded ops a.tmps)=true:=by simp [Region.wanted,hgd]
 rw [if_pos hw]
 refine uuk (T:=tI64) vvJ W W s x ho B1 A3 n3 c3 L hs F1 (fun b=>b=k) (fun _=>False) o1 (zR) (Nat.le_trans h.hB2 h.hS) (some ⟨k,0,none⟩) 1 1 [y] [[.int .i64 y]] hx rfl (by rw [show ([[.int .i64 y]]:List (List Value)).flatten=[.int .i64 y] by simp];exact Rd.inBlk hk) (Reps.mk1 ⟨rfl,hn⟩) (fun _ _ _ _ h=>h) (by omega) ?_
 intro A' c' w' h9
 exact hK A' c' w' (h.long f1 l1 (fun _ h=>h.elim) h9) (fun b hl hb=>yya h.q1 h9.grown hl hb) h9.grown.size
theorem uuj (h:PR B B1 D L M A0 m0 c0 A3 n3 c3 A4 n4 c4 col S w0 W) {y:SS} (hk:W.heap[k]?=some (.cells (zz4 y).toArray 109 (0,0))) (hn:y.fit) (hlim:n4<=4294967296) (hgd:o.guard=none) (s x:Operand)
 (ho:o.op=.call { callee:=.builtin .append,args:=#[s,x],argTypes:=#[95,95] }) (hs:a.eval s=.slice A4 n4 c4) (hx:a.eval x=.slice (some ⟨k,0,none⟩) 1 1)
 (hK:∀ A' c' w',PR B B1 D L (M++[y]) A0 m0 c0 A3 n3 c3 A' (n4+1) c' (zz5 col 2 S) w'.heap.size w0 w'->(∀ b,b<W.heap.size->(b<B1∨S<=b∨col b≠2)->w'.heap[b]?=W.heap[b]?)->W.heap.size<=w'.heap.size->K (a.put o.dst (.slice A' (n4+1) c')) w') :
 if Region.wanted o (yielded ops a.tmps)=true then Oper.wp Tryz.prog o a W K Q else E':=by
 obtain⟨F1,o1,f1,l1⟩:=h.q2
 have hw:Region.wanted o (yielded ops a.tmps)=true:=by simp [Region.wanted,hgd]
 rw [if_pos hw]
 refine uuk (T:=tSS) elemSS W W s x ho B1 A4 n4 c4 M hs F1 (fun b=>b=k) (fun _=>False) o1 (zR) (Nat.le_trans h.hB2 h.hS) (some ⟨k,0,none⟩) 1 1 [y] [zz4 y] hx rfl (by rw [show [zz4 y].flatten=zz4 y by simp];exact Rd.inBlk hk) (Reps.mk1 ⟨rfl,hn⟩) (fun _ _ _ _ h=>h) (by omega) ?_
 intro A' c' w' h9
 exact hK A' c' w' (h.stat f1 l1 (fun _ h=>h.elim) h9) (fun b hl hb=>yya h.q2 h9.grown hl hb) h9.grown.size
end
structure TwoF (wq:World) (K1 K2:Nat) (t1:Int) (i1:Bool) (x1:Nat) (A1:Option Addr) (n1 c1:Nat) (t2:Int) (i2:Bool) (x2:Nat) (A2:Option Addr) (n2 c2:Nat) (W:World):Prop where
 a:W.heap[K1]?=some (.cells #[.int .i64 t1,.bool i1,.int .u64 (x1:Int),.slice A1 n1 c1] 114 (0,0))
 b:W.heap[K2]?=some (.cells #[.int .i64 t2,.bool i2,.int .u64 (x2:Int),.slice A2 n2 c2] 114 (0,0))
 h1:wq.heap.size<=K1
 h2:wq.heap.size<=K2
 below:Below wq.heap.size wq W
theorem TwoF.call {wq:World} {K1 K2:Nat} {t1:Int} {i1:Bool} {x1:Nat} {A1:Option Addr} {n1 c1:Nat} {t2:Int} {i2:Bool} {x2:Nat} {A2:Option Addr} {n2 c2:Nat} {W W':World} (h:TwoF wq K1 K2 t1 i1 x1 A1 n1 c1 t2 i2 x2 A2 n2 c2 W) (hb:Below W.heap.size W W'):TwoF wq K1 K2 t1 i1 x1 A1 n1 c1 t2 i2 x2 A2 n2 c2 W' :=
 ⟨(hb.block _ (zzc h.a)).trans h.a,(hb.block _ (zzc h.b)).trans h.b,h.h1,h.h2,h.below.trans (hb.mono h.below.size)⟩
structure StI (L:List Int) (M:List SS) (A3:Option Addr) (i c3:Nat) (A4:Option Addr) (c4:Nat) (col:Nat->Nat) (S:Nat) (w wl wq:World) (y0:Int) (nm:ByteArray) (kv:Int) (K1 K2:Nat) (t1:Int) (i1:Bool) (x1:Nat) (A1:Option Addr) (n1 c1:Nat) (t2:Int) (i2:Bool) (x2:Nat) (A2:Option Addr) (n2 c2:Nat) (W:World):Prop where
 pr:PR (w.heap.size+1) (w.heap.size+1) [] L M none 0 0 A3 i c3 A4 i c4 col S w W
 g:W.heap[w.heap.size]?=some (.cells #[.int .i64 y0,.slice A3 i c3,.slice A4 i c4] 97 (0,0))
 col:W.heap[wl.heap.size]?=some (.cells #[.string nm,.int .i64 kv] 93 (0,0))
 two:TwoF wq K1 K2 t1 i1 x1 A1 n1 c1 t2 i2 x2 A2 n2 c2 W
 lb:Below wl.heap.size wl W
section
variable {L:List Int} {M:List SS} {A3:Option Addr} {i c3:Nat} {A4:Option Addr} {c4:Nat} {col:Nat->Nat} {S:Nat} {w wl wq:World} {y0:Int} {nm:ByteArray} {kv:Int} {K1 K2:Nat} {t1:Int} {i1:Bool} {x1:Nat} {A1:Option Addr} {n1 c1:Nat} {t2:Int} {i2:Bool} {x2:Nat} {A2:Option Addr} {n2 c2:Nat} {W W':World}
theorem StI.call (h:StI L M A3 i c3 A4 c4 col S w wl wq y0 nm kv K1 K2 t1 i1 x1 A1 n1 c1 t2 i2 x2 A2 n2 c2 W) (hb:Below W.heap.size W W'):StI L M A3 i c3 A4 c4 col S w wl wq y0 nm kv K1 K2 t1 i1 x1 A1 n1 c1 t2 i2 x2 A2 n2 c2 W' :=
 ⟨h.pr.call hb,(hb.block _ (zzc h.g)).trans h.g,(hb.block _ (zzc h.col)).trans h.col,h.two.call hb,h.lb.trans (hb.mono h.lb.size)⟩
theorem StI.cells (h:StI L M A3 i c3 A4 c4 col S w wl wq y0 nm kv K1 K2 t1 i1 x1 A1 n1 c1 t2 i2 x2 A2 n2 c2 W) :
 ((W.cell? ⟨w.heap.size,0,none⟩=some (.int .i64 y0)/\W.frozen? ⟨w.heap.size,0,none⟩=false)/\(W.cell? ⟨w.heap.size,1,none⟩=some (.slice A3 i c3)/\W.frozen? ⟨w.heap.size,1,none⟩=false)/\(W.cell? ⟨w.heap.size,2,none⟩=some (.slice A4 i c4)/\W.frozen? ⟨w.heap.size,2,none⟩=false)) /\
 (W.cell? ⟨K1,0,none⟩=some (.int .i64 t1)/\W.cell? ⟨K1,1,none⟩=some (.bool i1)/\W.cell? ⟨K1,2,none⟩=some (.int .u64 (x1:Int))/\W.cell? ⟨K1,3,none⟩=some (.slice A1 n1 c1)) /\
 (W.cell? ⟨K2,0,none⟩=some (.int .i64 t2)/\W.cell? ⟨K2,1,none⟩=some (.bool i2)/\W.cell? ⟨K2,2,none⟩=some (.int .u64 (x2:Int))/\W.cell? ⟨K2,3,none⟩=some (.slice A2 n2 c2)) /\
 W.cell? ⟨wl.heap.size,1,none⟩=some (.int .i64 kv):=by
 obtain⟨⟨a0,_⟩,⟨a1,_⟩,⟨a2,_⟩,⟨a3,_⟩⟩:=zzs h.two.a
 obtain⟨⟨b0,_⟩,⟨b1,_⟩,⟨b2,_⟩,⟨b3,_⟩⟩:=zzs h.two.b
 exact⟨⟨⟨by rw [zC h.g];rfl,zF h.g 0⟩,⟨by rw [zC h.g];rfl,zF h.g 1⟩,⟨by rw [zC h.g];rfl,zF h.g 2⟩⟩,⟨a0,a1,a2,a3⟩,⟨b0,b1,b2,b3⟩,by rw [zC h.col];rfl⟩
end
end
section
open Go Go.RowKit
theorem ts_res {w W:World} {u0 u1 u2 u3 u4 u5 u6 u7 u8 u9 er:Value} (h:TsR w u0 u1 u2 u3 u4 u5 u6 u7 u8 u9 W) (tm:Array Value) (h4:tm.getD 4 undef=.pointer (some ⟨w.heap.size,0,none⟩)) (h5:tm.getD 5 undef=er) :
 (results Tryz.f134 tm).run Tryz.prog W=.ok (.tuple #[.agg #[u0,u1,u2,u3,u4,u5,u6,u7,u8,u9],er]) W:=by
 rw [<-h5]
 exact zzD rfl _ _ w.heap.size _ _ (0,0) _ h4 h.r Tryz.underlying109 rfl (by kernel_rfl)
theorem qxk (F F':Nat->Prop) (A A':Option Addr) (n c n' c':Nat) (l l':List UInt8) (w:World) (h:Bs F w A n c l) (h':Bs F' w A' n' c' l') :
 Calls Tryz.prog 188 #[.slice A n c,.slice A' n' c'] w fun e w'=>e=.returned (.bool (l==l'))/\w=w':=by
 have h1:=zzq h;have h2:=zzq h'
 clear h h'
 go_enter Tryz.func188,Tryz.ntmps188
 go_wp2_with fail
 go_ret
 exact⟨by first | rfl | simp,rfl⟩
theorem qzj (k:Int) (F:Nat->Prop) (A:Option Addr) (n c:Nat) (b:List UInt8) (w:World) (h:Sl tU8 F w A n c b) (hn:n<=1000000) (hU:Lib.Utf8Tabs 0 1 w) :
 Calls Tryz.prog 134 #[.int .i64 k,.slice A n c] w (jj1 k b w):=by
 obtain⟨wb,hw,hr,hsz⟩:=tsW w
 have HW:=zH hw;have HR:=zH hr;have HSZ:=zH hsz;have HN:=zH hn;have HL:=zH h.len
 have HH:=zH (h.below hr.below zN);have HU:=zH (zzb hU hr.below)
 obtain⟨ok,hok⟩:∃ ok,ok=(shq s6 b).isSome:=⟨_,rfl⟩
 have HOK:=zH hok
 have fin0:∀ (w1:World),Below wb.heap.size wb w1->TsR w (.int .i64 0) (.bool false) (.bool false) (.int .i64 0) (.string ⟨#[]⟩) (.bool false) (.int .i64 0) (.string ⟨#[]⟩) (.int .i64 0) (.bool false) ((((((((((w1.setCell ⟨w.heap.size,0,none⟩ (.int .i64 0)).setCell ⟨w.heap.size,1,none⟩ (.bool false)).setCell ⟨w.heap.size,2,none⟩ (.bool false)).setCell ⟨w.heap.size,3,none⟩ (.int .i64 0)).setCell ⟨w.heap.size,4,none⟩ (.string ⟨#[]⟩)).setCell ⟨w.heap.size,5,none⟩ (.bool false)).setCell ⟨w.heap.size,6,none⟩ (.int .i64 0)).setCell ⟨w.heap.size,7,none⟩ (.string ⟨#[]⟩)).setCell ⟨w.heap.size,8,none⟩ (.int .i64 0)).setCell ⟨w.heap.size,9,none⟩ (.bool false)):=fun w1 hb =>
  (HR.out.call (hb.mono (by have:=HSZ.out;omega))).put (.int .i64 0) (.bool false) (.bool false) (.int .i64 0) (.string ⟨#[]⟩) (.bool false) (.int .i64 0) (.string ⟨#[]⟩) (.int .i64 0) (.bool false)
 have fin:∀ (w1:World) (tm:Array Value),Below wb.heap.size wb w1->tm.getD 4 undef=.pointer (some ⟨w.heap.size,0,none⟩)->tm.getD 5 undef=.int .i64 2 ->
  (results Tryz.f134 tm).run Tryz.prog ((((((((((w1.setCell ⟨w.heap.size,0,none⟩ (.int .i64 0)).setCell ⟨w.heap.size,1,none⟩ (.bool false)).setCell ⟨w.heap.size,2,none⟩ (.bool false)).setCell ⟨w.heap.size,3,none⟩ (.int .i64 0)).setCell ⟨w.heap.size,4,none⟩ (.string ⟨#[]⟩)).setCell ⟨w.heap.size,5,none⟩ (.bool false)).setCell ⟨w.heap.size,6,none⟩ (.int .i64 0)).setCell ⟨w.heap.size,7,none⟩ (.string ⟨#[]⟩)).setCell ⟨w.heap.size,8,none⟩ (.int .i64 0)).setCell ⟨w.heap.size,9,none⟩ (.bool false))=.ok (.tuple #[.agg #[.int .i64 0,.bool false,.bool false,.int .i64 0,.string ⟨#[]⟩,.bool false,.int .i64 0,.string ⟨#[]⟩,.int .i64 0,.bool false],.int .i64 2]) ((((((((((w1.setCell ⟨w.heap.size,0,none⟩ (.int .i64 0)).setCell ⟨w.heap.size,1,none⟩ (.bool false)).setCell ⟨w.heap.size,2,none⟩ (.bool false)).setCell ⟨w.heap.size,3,none⟩ (.int .i64 0)).setCell ⟨w.heap.size,4,none⟩ (.string ⟨#[]⟩)).setCell ⟨w.heap.size,5,none⟩ (.bool false)).setCell ⟨w.heap.size,6,none⟩ (.int .i64 0)).setCell ⟨w.heap.size,7,none⟩ (.string ⟨#[]⟩)).setCell ⟨w.heap.size,8,none⟩ (.int .i64 0)).setCell ⟨w.heap.size,9,none⟩ (.bool false)):=fun w1 tm hb e4 e5=>ts_res (fin0 w1 hb) tm e4 e5
 have finb:∀ (w1:World),zzj k b=none->Below wb.heap.size wb w1->jj1 k b w (.returned (.tuple #[.agg #[.int .i64 0,.bool false,.bool false,.int .i64 0,.string ⟨#[]⟩,.bool false,.int .i64 0,.string ⟨#[]⟩,.int .i64 0,.bool false],.int .i64 2])) ((((((((((w1.setCell ⟨w.heap.size,0,none⟩ (.int .i64 0)).setCell ⟨w.heap.size,1,none⟩ (.bool false)).setCell ⟨w.heap.size,2,none⟩ (.bool false)).setCell ⟨w.heap.size,3,none⟩ (.int .i64 0)).setCell ⟨w.heap.size,4,none⟩ (.string ⟨#[]⟩)).setCell ⟨w.heap.size,5,none⟩ (.bool false)).setCell ⟨w.heap.size,6,none⟩ (.int .i64 0)).setCell ⟨w.heap.size,7,none⟩ (.string ⟨#[]⟩)).setCell ⟨w.heap.size,8,none⟩ (.int .i64 0)).setCell ⟨w.heap.size,9,none⟩ (.bool false)):=fun w1 hN hb=>ts_no hN (fin0 w1 hb).below
 have FIN:=zH fin;have FINB:=zH finb
 clear hw hr hsz hn h hU hok fin fin0 finb
 go_enter Tryz.func134,Tryz.ntmps134
 go_upto_region 2 with (first
  | (go_at_call 185;rw [<-HW.out];refine (kqI s6 _ rfl (by decide) F A n c b wb HH.out (by have:=HN.out;omega)).mono ?_;rintro e w1 ⟨A1,n1,c1,rfl,hb1,hs1⟩;rw [<-HOK.out];have HB1:=zH hb1;have HS1:=zH hs1;clear hb1 hs1)
  | fail)
 cases hT:shq s6 b with
 | none =>
   obtain rfl:ok=false:=by rw [HOK.out,hT];rfl
   have HZ:Hid (zzj k b=none):=zH (by unfold zzj;rw [hT];rfl)
   clear hT
   obtain⟨⟨z0,z0'⟩,⟨z1,z1'⟩,⟨z2,z2'⟩,⟨z3,z3'⟩,⟨z4,z4'⟩,⟨z5,z5'⟩,⟨z6,z6'⟩,⟨z7,z7'⟩,⟨z8,z8'⟩,⟨z9,z9'⟩⟩:=(HR.out.call (HB1.out.mono (by have:=HSZ.out;omega))).cellsOf
   go_wp2_with fail
   exact bodyPost_ret (FIN.out w1 _ HB1.out rfl rfl) rfl (FINB.out w1 HZ.out HB1.out)
 | some L =>
   obtain rfl:ok=true:=by rw [HOK.out,hT];rfl
   obtain⟨f0,f1,f2,f3,f4,f5,rfl⟩:=len6 (uug hT).2.2
   have HTS:Hid (zzj k b=tsF k b [f0,f1,f2,f3,f4,f5]):=zH (by unfold zzj;rw [hT];rfl)
   have HD2:Hid (f2.b.length<=b.length):=zH (kqb hT f2 (by simp)).1
   have HD3:Hid (f3.b.length<=b.length):=zH (kqb hT f3 (by simp)).1
   rw [hT] at HS1
   have hS:Sl tFld (fun q=>wb.heap.size<=q) w1 A1 n1 c1 [f0,f1,f2,f3,f4,f5]:=HS1.out
   have hn1:n1=6:=hS.len
   subst hn1
   obtain⟨q,o,A0,n0,c0,hA1,k0,-,x0⟩:=yym hS (k:=0) (by simp)
   subst hA1
   obtain⟨q',o',A1',n1',c1',e1,k1,s1,x1⟩:=yym hS (k:=1) (by simp)
   injection e1 with e1;injection e1 with e1 e1';subst e1 e1'
   obtain⟨q',o',A2',n2',c2',e1,k2,s2,x2⟩:=yym hS (k:=2) (by simp)
   injection e1 with e1;injection e1 with e1 e1';subst e1 e1'
   obtain⟨q',o',A3',n3',c3',e1,k3,s3,x3⟩:=yym hS (k:=3) (by simp)
   injection e1 with e1;injection e1 with e1 e1';subst e1 e1'
   obtain⟨q',o',A4',n4',c4',e1,k4,s4,x4⟩:=yym hS (k:=4) (by simp)
   injection e1 with e1;injection e1 with e1 e1';subst e1 e1'
   obtain⟨q',o',A5',n5',c5',e1,k5,s5,x5⟩:=yym hS (k:=5) (by simp)
   injection e1 with e1;injection e1 with e1 e1';subst e1 e1'
   simp only [List.getElem_cons_zero,List.getElem_cons_succ,Nat.zero_mul,Nat.add_zero,Nat.one_mul,Nat.reduceMul] at k0 k1 k2 k3 k4 k5 x0 x1 x4 x5 s2 s3
   obtain⟨t0,i0,y0,d0⟩:=f0
   obtain⟨t1,i1,y1,d1⟩:=f1
   obtain⟨t2,i2,y2,d2⟩:=f2
   obtain⟨t3,i3,y3,d3⟩:=f3
   obtain⟨t4,i4,y4,d4⟩:=f4
   obtain⟨t5,i5,y5,d5⟩:=f5
   dsimp only at k0 k1 k2 k3 k4 k5 x0 x1 x4 x5 s2 s3 HD2 HD3
   have K0:=zH k0;have K1:=zH k1;have K2:=zH k2;have K3:=zH k3;have K4:=zH k4;have K5:=zH k5;have S2:=zH s2;have S3:=zH s3;have X4:=zH x4
   have q2:=k2.c3
   clear hT hS k0 k1 k2 k3 k4 k5 s1 s2 s3 s4 s5 x0 x1 x2 x3 x4 x5
   obtain⟨v2,hv2⟩:∃ v,(yyn d2).2=v:=⟨_,rfl⟩
   obtain⟨ea,he2⟩:∃ q,q=okc (zzr d2).isSome 2:=⟨_,rfl⟩
   obtain⟨m0,mi,ms⟩:=v2
   have HVA:=zH hv2;have HEA:=zH he2
   clear hv2 he2
   go_upto_region 5 with (first
    | (go_at_call 186;refine (uuh _ A2' n2' c2' d2 _ S2.out (by have h1:=S2.out.len;have h2:=HD2.out;have h3:=HL.out;have h4:=HN.out;omega)).mono ?_;rintro e w2 ⟨rfl,hb,-,-⟩;rw [HVA.out,<-HEA.out];have HBA:=zH hb;clear hb)
    | fail)
   clear q2
   obtain⟨w3,hw,hbx,hgx⟩:∃ W,W=w2.alloc (.cells #[.bool m0,.int .i64 mi,.string ms] 74)/\Below w2.heap.size w2 W/\W.heap[w2.heap.size]?=some (.cells #[.bool m0,.int .i64 mi,.string ms] 74 (0,0)):=⟨_,rfl,(zR).alloc zN _,heap_alloc_new _ _⟩
   rw [<-hw]
   have HAB:=zH (HBA.out.trans (hbx.mono HBA.out.size))
   have K0:=zH (K0.out.keep HAB.out)
   have K1:=zH (K1.out.keep HAB.out)
   have K2:=zH (K2.out.keep HAB.out)
   have K3:=zH (K3.out.keep HAB.out)
   have K4:=zH (K4.out.keep HAB.out)
   have K5:=zH (K5.out.keep HAB.out)
   have S3:=zH (S3.out.below HAB.out zN)
   have HB3:=zH (HB1.out.trans (HAB.out.mono HB1.out.size));have HG8:=zH hgx;have q3:=K3.out.c3
   clear hw hbx hgx
   obtain⟨v3,hv3⟩:∃ v,(yyn d3).2=v:=⟨_,rfl⟩
   obtain⟨eb,he3⟩:∃ q,q=okc (zzr d3).isSome 2:=⟨_,rfl⟩
   obtain⟨x0,xi,xs⟩:=v3
   have HVB:=zH hv3;have HEB:=zH he3
   clear hv3 he3
   go_upto_region 6 with (first
    | (go_at_call 186;refine (uuh _ A3' n3' c3' d3 _ S3.out (by have h1:=S3.out.len;have h2:=HD3.out;have h3:=HL.out;have h4:=HN.out;omega)).mono ?_;rintro e w4 ⟨rfl,hb,-,-⟩;rw [HVB.out,<-HEB.out];have HBA:=zH hb;clear hb)
    | fail)
   clear q3
   obtain⟨w5,hw,hbx,hgx⟩:∃ W,W=w4.alloc (.cells #[.bool x0,.int .i64 xi,.string xs] 74)/\Below w4.heap.size w4 W/\W.heap[w4.heap.size]?=some (.cells #[.bool x0,.int .i64 xi,.string xs] 74 (0,0)):=⟨_,rfl,(zR).alloc zN _,heap_alloc_new _ _⟩
   rw [<-hw]
   have HAB:=zH (HBA.out.trans (hbx.mono HBA.out.size))
   have K0:=zH (K0.out.keep HAB.out)
   have K1:=zH (K1.out.keep HAB.out)
   have K2:=zH (K2.out.keep HAB.out)
   have K3:=zH (K3.out.keep HAB.out)
   have K4:=zH (K4.out.keep HAB.out)
   have K5:=zH (K5.out.keep HAB.out)
   have HB5:=zH (HB3.out.trans (HAB.out.mono HB3.out.size));have HG10:=zH hgx;have HG8:=zH ((HAB.out.block _ (zzc HG8.out)).trans HG8.out)
   clear hw hbx hgx
   obtain⟨ct,hct⟩:∃ q,IntKind.i64.wrap (y0:Int)=q:=⟨_,rfl⟩
   obtain⟨bh,hbh⟩:∃ q,((y1:Int)==1)=q:=⟨_,rfl⟩
   obtain⟨bo,hbo⟩:∃ q,((y5:Int)==1)=q:=⟨_,rfl⟩
   have HCT:=zH hct
   have HBH:Hid (decide (y1=1)=bh):=zH (by rw [<-hbh];by_cases h:y1=1 <;> simp [h];omega)
   have HBO:Hid (decide (y5=1)=bo):=zH (by rw [<-hbo];by_cases h:y5=1 <;> simp [h];omega)
   have e0:w5.drew.cell? ⟨q,o+2,none⟩=some (.int .u64 (y0:Int)):=K0.out.c2
   have e1:w5.drew.cell? ⟨q,o+4+2,none⟩=some (.int .u64 (y1:Int)):=K1.out.c2
   have e2:w5.drew.cell? ⟨w2.heap.size,0,none⟩=some (.bool m0)/\w5.drew.cell? ⟨w2.heap.size,1,none⟩=some (.int .i64 mi)/\w5.drew.cell? ⟨w2.heap.size,2,none⟩=some (.string ms):=by
    refine⟨?_,?_,?_⟩ <;> (show w5.cell? _=_;rw [zC HG8.out];rfl)
   have e3:w5.drew.cell? ⟨w4.heap.size,0,none⟩=some (.bool x0)/\w5.drew.cell? ⟨w4.heap.size,1,none⟩=some (.int .i64 xi)/\w5.drew.cell? ⟨w4.heap.size,2,none⟩=some (.string xs):=by
    refine⟨?_,?_,?_⟩ <;> (show w5.cell? _=_;rw [zC HG10.out];rfl)
   have e4:w5.drew.cell? ⟨q,o+16+2,none⟩=some (.int .u64 (y4:Int)):=K4.out.c2
   have e5:w5.drew.cell? ⟨q,o+20+2,none⟩=some (.int .u64 (y5:Int)):=K5.out.c2
   refine regL [(none,fun w'=>w'.cell? ⟨q,o+2,none⟩=some (.int .u64 (y0:Int))),(none,fun w'=>w'.cell? ⟨q,o+4+2,none⟩=some (.int .u64 (y1:Int))),(none,fun w'=>w'.cell? ⟨w2.heap.size,0,none⟩=some (.bool m0)/\w'.cell? ⟨w2.heap.size,1,none⟩=some (.int .i64 mi)/\w'.cell? ⟨w2.heap.size,2,none⟩=some (.string ms)),(none,fun w'=>w'.cell? ⟨w4.heap.size,0,none⟩=some (.bool x0)/\w'.cell? ⟨w4.heap.size,1,none⟩=some (.int .i64 xi)/\w'.cell? ⟨w4.heap.size,2,none⟩=some (.string xs)),(none,fun w'=>w'.cell? ⟨q,o+16+2,none⟩=some (.int .u64 (y4:Int))),(none,fun w'=>w'.cell? ⟨q,o+20+2,none⟩=some (.int .u64 (y5:Int)))] (by kernel_rfl) ?_ (fun hHeld=>?_)
   · exact⟨(by first | exact e0 | exact zze e0 _ | fail),(by first | exact e1 | exact zze e1 _ | fail),(by first | exact e2 | exact⟨zze e2.1 _,zze e2.2.1 _,zze e2.2.2 _⟩ | fail),(by first | exact e3 | exact⟨zze e3.1 _,zze e3.2.1 _,zze e3.2.2 _⟩ | fail),(by first | exact e4 | exact zze e4 _ | fail),(by first | exact e5 | exact zze e5 _ | fail),trivial⟩
   iterate 3
    all_goals
     repeat ((first | (refine tkP 0 (oi:=⟨_,_,_,_,_,_⟩) (v:=?_) rfl (by decide +kernel) rfl (fun _ _ _ h=>h) rfl hHeld ?_ ?_) | (refine tkP 1 (oi:=⟨_,_,_,_,_,_⟩) (v:=?_) rfl (by decide +kernel) rfl (fun _ _ _ h=>h) rfl hHeld ?_ ?_) | (refine tkP 2 (oi:=⟨_,_,_,_,_,_⟩) (v:=?_) rfl (by decide +kernel) rfl (fun _ _ _ h=>h) rfl hHeld ?_ ?_) | (refine tkL 3 0 rfl (oi:=⟨_,_,_,_,_,_⟩) (v:=?_) rfl (by decide +kernel) rfl (fun _ _ _ h=>h) rfl hHeld ?_ ?_) | (refine tkP 4 (oi:=⟨_,_,_,_,_,_⟩) (v:=?_) rfl (by decide +kernel) rfl (fun _ _ _ h=>h) rfl hHeld ?_ ?_) | (refine tkP 5 (oi:=⟨_,_,_,_,_,_⟩) (v:=?_) rfl (by decide +kernel) rfl (fun _ _ _ h=>h) rfl hHeld ?_ ?_) | (refine tkP 6 (oi:=⟨_,_,_,_,_,_⟩) (v:=?_) rfl (by decide +kernel) rfl (fun _ _ _ h=>h) rfl hHeld ?_ ?_) | (refine tkP 7 (oi:=⟨_,_,_,_,_,_⟩) (v:=?_) rfl (by decide +kernel) rfl (fun _ _ _ h=>h) rfl hHeld ?_ ?_) | (refine tkL 8 1 rfl (oi:=⟨_,_,_,_,_,_⟩) (v:=?_) rfl (by decide +kernel) rfl (fun _ _ _ h=>h) rfl hHeld ?_ ?_) | (refine tkP 9 (oi:=⟨_,_,_,_,_,_⟩) (v:=?_) rfl (by decide +kernel) rfl (fun _ _ _ h=>h) rfl hHeld ?_ ?_) | (refine tkL 10 2 rfl (oi:=⟨_,_,_,_,_,_⟩) (v:=?_) rfl (by decide +kernel) rfl (fun _ _ _ h=>h) rfl hHeld ?_ ?_) | (refine tkL 11 3 rfl (oi:=⟨_,_,_,_,_,_⟩) (v:=?_) rfl (by decide +kernel) rfl (fun _ _ _ h=>h) rfl hHeld ?_ ?_) | (refine tkP 12 (oi:=⟨_,_,_,_,_,_⟩) (v:=?_) rfl (by decide +kernel) rfl (fun _ _ _ h=>h) rfl hHeld ?_ ?_) | (refine tkP 13 (oi:=⟨_,_,_,_,_,_⟩) (v:=?_) rfl (by decide +kernel) rfl (fun _ _ _ h=>h) rfl hHeld ?_ ?_) | (refine tkP 14 (oi:=⟨_,_,_,_,_,_⟩) (v:=?_) rfl (by decide +kernel) rfl (fun _ _ _ h=>h) rfl hHeld ?_ ?_) | (refine tkL 15 4 rfl (oi:=⟨_,_,_,_,_,_⟩) (v:=?_) rfl (by decide +kernel) rfl (fun _ _ _ h=>h) rfl hHeld ?_ ?_) | (refine tkP 17 (oi:=⟨_,_,_,_,_,_⟩) (v:=?_) rfl (by decide +kernel) rfl (fun _ _ _ h=>h) rfl hHeld ?_ ?_) | (refine tkP 18 (oi:=⟨_,_,_,_,_,_⟩) (v:=?_) rfl (by decide +kernel) rfl (fun _ _ _ h=>h) rfl hHeld ?_ ?_) | (refine tkP 19 (oi:=⟨_,_,_,_,_,_⟩) (v:=?_) rfl (by decide +kernel) rfl (fun _ _ _ h=>h) rfl hHeld ?_ ?_) | (refine tkL 20 5 rfl (oi:=⟨_,_,_,_,_,_⟩) (v:=?_) rfl (by decide +kernel) rfl (fun _ _ _ h=>h) rfl hHeld ?_ ?_) | (refine tkP 21 (oi:=⟨_,_,_,_,_,_⟩) (v:=?_) rfl (by decide +kernel) rfl (fun _ _ _ h=>h) rfl hHeld ?_ ?_) | (refine tkP 22 (oi:=⟨_,_,_,_,_,_⟩) (v:=?_) rfl (by decide +kernel) rfl (fun _ _ _ h=>h) rfl hHeld ?_ ?_));rotate_left;(focus (intro w;(try intro hSw);(try dsimp only at hSw);go_simp;try with_reducible rfl));intro hHeld;(try simp only [Act.put]);(try simp only [List.setIfInBounds_toArray]);(try simp only [List.set_cons_succ]);(try simp only [List.set_cons_zero]))
     first | (refine rd1 16 (o:=⟨_,_,_,_,_,_⟩) (by decide +kernel) rfl (fun K hK=>?_)) | (refine rd2 16 23 (o:=⟨_,_,_,_,_,_⟩) (o':=⟨_,_,_,_,_,_⟩) (by decide +kernel) rfl rfl (fun K hK=>?_) (fun K hK=>?_)) | (refine rd1 23 (o:=⟨_,_,_,_,_,_⟩) (by decide +kernel) rfl (fun K hK=>?_)) | (refine rd1 24 (o:=⟨_,_,_,_,_,_⟩) (by decide +kernel) rfl (fun K hK=>?_))
    all_goals
     first  | (go_simp;(first | (go_at_call 187;refine (zag_any y4 _ X4.out).mono ?_;rintro e w6 ⟨rfl,rfl⟩) | fail)) | go_simp
     refine hK.out _ _ ?_ (fun hHeld=>?_)
     · (try dsimp only);exact⟨(by first | exact e0 | exact zze e0 _ | fail),(by first | exact e1 | exact zze e1 _ | fail),(by first | exact e2 | exact⟨zze e2.1 _,zze e2.2.1 _,zze e2.2.2 _⟩ | fail),(by first | exact e3 | exact⟨zze e3.1 _,zze e3.2.1 _,zze e3.2.2 _⟩ | fail),(by first | exact e4 | exact zze e4 _ | fail),(by first | exact e5 | exact zze e5 _ | fail),trivial⟩
     clear hK K;(try simp only [Act.put]);(try simp only [List.setIfInBounds_toArray]);(try simp only [List.set_cons_succ]);(try simp only [List.set_cons_zero])
   all_goals
    refine xxI (by decide +kernel) ?_ _
    obtain⟨w7,hw7⟩:∃ w7,w7=(w5.alloc (.cells #[.int .i64 ct,.bool bh,.bool m0,.int .i64 mi,.string ms,.bool x0,.int .i64 xi,.string xs,.int .i64 (zagI y4),.bool bo] 109)).drew:=⟨_,rfl⟩
    have hb7:Below w5.heap.size w5 w7:=by rw [hw7];exact ((zR).alloc zN _).drew
    have HST:Hid (StC w5.heap.size ct bh m0 mi ms x0 xi xs (zagI y4) bo w7):=zH (StC.of (t:=109) (by rw [hw7];exact heap_alloc_new w5 _))
    have HB7:=zH (HB5.out.trans (hb7.mono HB5.out.size))
    rw [<-hw7]
    clear hw7 hb7 e0 e1 e2 e3 e4 e5
    obtain⟨⟨z0,z0'⟩,⟨z1,z1'⟩,⟨z2,z2'⟩,⟨z3,z3'⟩,⟨z4,z4'⟩,⟨z5,z5'⟩,⟨z6,z6'⟩,⟨z7,z7'⟩,⟨z8,z8'⟩,⟨z9,z9'⟩⟩:=(HR.out.call (HB7.out.mono (by have:=HSZ.out;omega))).cellsOf
    obtain⟨s0,s1,s2,s3,s4,s5,s6',s7,s8,s9⟩:=HST.out
    cases hm:zzr d2 with
    | none =>
      obtain rfl:ea=2:=by rw [HEA.out,hm];rfl
      have HZ:Hid (zzj k b=none):=zH (by rw [HTS.out];unfold tsF;dsimp only;rw [hm];rfl)
      clear hm
      go_wp2_with fail
      exact bodyPost_ret (FIN.out w7 _ HB7.out rfl rfl) rfl (FINB.out w7 HZ.out HB7.out)
    | some mn =>
      obtain rfl:ea=0:=by rw [HEA.out,hm];rfl
      cases hx:zzr d3 with
      | none =>
        obtain rfl:eb=2:=by rw [HEB.out,hx];rfl
        have HZ:Hid (zzj k b=none):=zH (by rw [HTS.out];unfold tsF;dsimp only;rw [hm,hx];rfl)
        clear hm hx
        go_wp2_with fail
        exact bodyPost_ret (FIN.out w7 _ HB7.out rfl rfl) rfl (FINB.out w7 HZ.out HB7.out)
      | some mx =>
        obtain rfl:eb=0:=by rw [HEB.out,hx];rfl
        have hmn:mn=⟨m0,mi,ms⟩:=by have h1:=HVA.out;rw [zzF hm] at h1;exact h1
        have hmx:mx=⟨x0,xi,xs⟩:=by have h1:=HVB.out;rw [zzF hx] at h1;exact h1
        have HSE:Hid (stOf ⟨t0,i0,y0,d0⟩ ⟨t1,i1,y1,d1⟩ mn mx ⟨t4,i4,y4,d4⟩ ⟨t5,i5,y5,d5⟩=⟨ct,bh,⟨m0,mi,ms⟩,⟨x0,xi,xs⟩,zagI y4,bo⟩):=zH (by
         unfold stOf
         dsimp only
         rw [HCT.out,hmn,hmx,HBH.out,HBO.out])
        obtain⟨k1,k2⟩:=yyb hm (by have h1:=HD2.out;have h2:=HL.out;have h3:=HN.out;omega);obtain⟨k3,k4⟩:=yyb hx (by have h1:=HD3.out;have h2:=HL.out;have h3:=HN.out;omega)
        have HSOK:Hid (SS.ok ⟨ct,bh,⟨m0,mi,ms⟩,⟨x0,xi,xs⟩,zagI y4,bo⟩):=zH (by rw [<-HSE.out];exact qxg _ _ k1 k3 X4.out k2 k4)
        obtain⟨P,hP⟩:∃ P,P=zz7 ⟨ct,bh,⟨m0,mi,ms⟩,⟨x0,xi,xs⟩,zagI y4,bo⟩:=⟨_,rfl⟩
        have HP:=zH hP
        have HTT:Hid (zzj k b=if P=b/\mayS k ⟨ct,bh,⟨m0,mi,ms⟩,⟨x0,xi,xs⟩,zagI y4,bo⟩=true then some ⟨ct,bh,⟨m0,mi,ms⟩,⟨x0,xi,xs⟩,zagI y4,bo⟩ else none):=zH (by
         rw [HTS.out];unfold tsF;dsimp only;rw [hm,hx,Option.bind_some,Option.bind_some,HSE.out,<-HP.out])
        clear hm hx hmn hmx k1 k2 k3 k4 hP
        by_cases heq:P=b
        · have HEQ:Hid ((P==b)=true):=zH (by rw [heq];exact beq_self_eq_true _)
          cases hy:mayS k ⟨ct,bh,⟨m0,mi,ms⟩,⟨x0,xi,xs⟩,zagI y4,bo⟩ with
          | true =>
            have HMY:=zH hy
            have HV:Hid (zzj k b=some ⟨ct,bh,⟨m0,mi,ms⟩,⟨x0,xi,xs⟩,zagI y4,bo⟩):=zH (by rw [HTT.out,if_pos ⟨heq,hy⟩])
            clear heq hy
            go_wp2_with (first | (go_at_call 62;refine (xxc (⟨ct,bh,⟨m0,mi,ms⟩,⟨x0,xi,xs⟩,zagI y4,bo⟩:SS) HSOK.out _).mono ?_;rintro e w8 ⟨A8,n8,c8,rfl,ho8,hb8⟩;rw [<-HP.out] at ho8;have HO8:=zH ho8;have HB7:=zH (HB7.out.trans (hb8.mono HB7.out.size));have HST:=zH (HST.out.keep hb8);obtain⟨s0,s1,s2,s3,s4,s5,s6',s7,s8,s9⟩:=HST.out;obtain⟨⟨z0,z0'⟩,⟨z1,z1'⟩,⟨z2,z2'⟩,⟨z3,z3'⟩,⟨z4,z4'⟩,⟨z5,z5'⟩,⟨z6,z6'⟩,⟨z7,z7'⟩,⟨z8,z8'⟩,⟨z9,z9'⟩⟩:=(HR.out.call (HB7.out.mono (by have:=HSZ.out;omega))).cellsOf;clear ho8 hb8) | (go_at_call 188;refine (qxk _ _ A8 A n8 c8 n c P b _ HO8.out.bs (HH.out.below HB7.out zN)).mono ?_;rintro e w9 ⟨rfl,rfl⟩;rw [HEQ.out]) | (go_at_call 189;refine (xx4 k (⟨ct,bh,⟨m0,mi,ms⟩,⟨x0,xi,xs⟩,zagI y4,bo⟩:SS) HSOK.out.fits _ (zzb HU.out HB7.out)).mono ?_;rintro e w8 ⟨rfl,hb8⟩;rw [HMY.out];have HB7:=zH (HB7.out.trans (hb8.mono HB7.out.size));have HST:=zH (HST.out.keep hb8);obtain⟨s0,s1,s2,s3,s4,s5,s6',s7,s8,s9⟩:=HST.out;obtain⟨⟨z0,z0'⟩,⟨z1,z1'⟩,⟨z2,z2'⟩,⟨z3,z3'⟩,⟨z4,z4'⟩,⟨z5,z5'⟩,⟨z6,z6'⟩,⟨z7,z7'⟩,⟨z8,z8'⟩,⟨z9,z9'⟩⟩:=(HR.out.call (HB7.out.mono (by have:=HSZ.out;omega))).cellsOf;clear hb8) | fail)
            have h2:=(HR.out.call (HB7.out.mono (by have:=HSZ.out;omega))).put (.int .i64 ct) (.bool bh) (.bool m0) (.int .i64 mi) (.string ms) (.bool x0) (.int .i64 xi) (.string xs) (.int .i64 (zagI y4)) (.bool bo)
            exact bodyPost_ret (ts_res h2 _ rfl rfl) rfl ⟨by rw [HV.out];rfl,h2.below⟩
          | false =>
            have HMY:=zH hy
            have HZ:Hid (zzj k b=none):=zH (by rw [HTT.out,if_neg (by rw [hy];simp)])
            clear heq hy
            go_wp2_with (first | (go_at_call 62;refine (xxc (⟨ct,bh,⟨m0,mi,ms⟩,⟨x0,xi,xs⟩,zagI y4,bo⟩:SS) HSOK.out _).mono ?_;rintro e w8 ⟨A8,n8,c8,rfl,ho8,hb8⟩;rw [<-HP.out] at ho8;have HO8:=zH ho8;have HB7:=zH (HB7.out.trans (hb8.mono HB7.out.size));have HST:=zH (HST.out.keep hb8);obtain⟨s0,s1,s2,s3,s4,s5,s6',s7,s8,s9⟩:=HST.out;obtain⟨⟨z0,z0'⟩,⟨z1,z1'⟩,⟨z2,z2'⟩,⟨z3,z3'⟩,⟨z4,z4'⟩,⟨z5,z5'⟩,⟨z6,z6'⟩,⟨z7,z7'⟩,⟨z8,z8'⟩,⟨z9,z9'⟩⟩:=(HR.out.call (HB7.out.mono (by have:=HSZ.out;omega))).cellsOf;clear ho8 hb8) | (go_at_call 188;refine (qxk _ _ A8 A n8 c8 n c P b _ HO8.out.bs (HH.out.below HB7.out zN)).mono ?_;rintro e w9 ⟨rfl,rfl⟩;rw [HEQ.out]) | (go_at_call 189;refine (xx4 k (⟨ct,bh,⟨m0,mi,ms⟩,⟨x0,xi,xs⟩,zagI y4,bo⟩:SS) HSOK.out.fits _ (zzb HU.out HB7.out)).mono ?_;rintro e w8 ⟨rfl,hb8⟩;rw [HMY.out];have HB7:=zH (HB7.out.trans (hb8.mono HB7.out.size));have HST:=zH (HST.out.keep hb8);obtain⟨s0,s1,s2,s3,s4,s5,s6',s7,s8,s9⟩:=HST.out;obtain⟨⟨z0,z0'⟩,⟨z1,z1'⟩,⟨z2,z2'⟩,⟨z3,z3'⟩,⟨z4,z4'⟩,⟨z5,z5'⟩,⟨z6,z6'⟩,⟨z7,z7'⟩,⟨z8,z8'⟩,⟨z9,z9'⟩⟩:=(HR.out.call (HB7.out.mono (by have:=HSZ.out;omega))).cellsOf;clear hb8) | fail)
            exact bodyPost_ret (FIN.out w8 _ HB7.out rfl rfl) rfl (FINB.out w8 HZ.out HB7.out)
        · have HEQ:Hid ((P==b)=false):=zH (beq_eq_false_iff_ne.2 heq)
          have HZ:Hid (zzj k b=none):=zH (by rw [HTT.out,if_neg (fun h=>heq h.1)])
          clear heq
          go_wp2_with (first | (go_at_call 62;refine (xxc (⟨ct,bh,⟨m0,mi,ms⟩,⟨x0,xi,xs⟩,zagI y4,bo⟩:SS) HSOK.out _).mono ?_;rintro e w8 ⟨A8,n8,c8,rfl,ho8,hb8⟩;rw [<-HP.out] at ho8;have HO8:=zH ho8;have HB7:=zH (HB7.out.trans (hb8.mono HB7.out.size));have HST:=zH (HST.out.keep hb8);obtain⟨s0,s1,s2,s3,s4,s5,s6',s7,s8,s9⟩:=HST.out;obtain⟨⟨z0,z0'⟩,⟨z1,z1'⟩,⟨z2,z2'⟩,⟨z3,z3'⟩,⟨z4,z4'⟩,⟨z5,z5'⟩,⟨z6,z6'⟩,⟨z7,z7'⟩,⟨z8,z8'⟩,⟨z9,z9'⟩⟩:=(HR.out.call (HB7.out.mono (by have:=HSZ.out;omega))).cellsOf;clear ho8 hb8) | (go_at_call 188;refine (qxk _ _ A8 A n8 c8 n c P b _ HO8.out.bs (HH.out.below HB7.out zN)).mono ?_;rintro e w9 ⟨rfl,rfl⟩;rw [HEQ.out]) | (go_at_call 189;refine (xx4 k (⟨ct,bh,⟨m0,mi,ms⟩,⟨x0,xi,xs⟩,zagI y4,bo⟩:SS) HSOK.out.fits _ (zzb HU.out HB7.out)).mono ?_;rintro e w8 ⟨rfl,hb8⟩;rw [HMY.out];have HB7:=zH (HB7.out.trans (hb8.mono HB7.out.size));have HST:=zH (HST.out.keep hb8);obtain⟨s0,s1,s2,s3,s4,s5,s6',s7,s8,s9⟩:=HST.out;obtain⟨⟨z0,z0'⟩,⟨z1,z1'⟩,⟨z2,z2'⟩,⟨z3,z3'⟩,⟨z4,z4'⟩,⟨z5,z5'⟩,⟨z6,z6'⟩,⟨z7,z7'⟩,⟨z8,z8'⟩,⟨z9,z9'⟩⟩:=(HR.out.call (HB7.out.mono (by have:=HSZ.out;omega))).cellsOf;clear hb8) | fail)
          exact bodyPost_ret (FIN.out w8 _ HB7.out rfl rfl) rfl (FINB.out w8 HZ.out HB7.out)
end
section
open Go Go.RowKit
theorem rts_res {w W:World} {u0 u1 u2 u3 u4 u5 u6 u7 u8 u9 er:Value} (h:TsR w u0 u1 u2 u3 u4 u5 u6 u7 u8 u9 W) (tm:Array Value) (h4:tm.getD 4 undef=.pointer (some ⟨w.heap.size,0,none⟩)) (h5:tm.getD 5 undef=er) :
 (results Tryz.f77 tm).run Tryz.prog W=.ok (.tuple #[.agg #[u0,u1,u2,u3,u4,u5,u6,u7,u8,u9],er]) W:=by
 rw [<-h5]
 exact zzD rfl _ _ w.heap.size _ _ (0,0) _ h4 h.r Tryz.underlying109 rfl (by kernel_rfl)
theorem kqc (k:Int) (F:Nat->Prop) (A:Option Addr) (n c:Nat) (b:List UInt8) (w:World) (h:Sl tU8 F w A n c b) (hn:n<=1000000) (hU:Lib.Utf8Tabs 0 1 w) :
 Calls Tryz.prog 77 #[.int .i64 k,.slice A n c] w (jj1 k b w):=by
 obtain⟨wb,hw,hr,hsz⟩:=tsW w
 have HW:=zH hw;have HR:=zH hr;have HSZ:=zH hsz;have HN:=zH hn;have HL:=zH h.len
 have HH:=zH (h.below hr.below zN);have HU:=zH (zzb hU hr.below)
 obtain⟨ec,hec⟩:∃ ec,ec=okc (zzo b).isSome 2:=⟨_,rfl⟩
 have HEC:=zH hec
 have fin0:∀ (w1:World),Below wb.heap.size wb w1->TsR w (.int .i64 0) (.bool false) (.bool false) (.int .i64 0) (.string ⟨#[]⟩) (.bool false) (.int .i64 0) (.string ⟨#[]⟩) (.int .i64 0) (.bool false) ((((((((((w1.setCell ⟨w.heap.size,0,none⟩ (.int .i64 0)).setCell ⟨w.heap.size,1,none⟩ (.bool false)).setCell ⟨w.heap.size,2,none⟩ (.bool false)).setCell ⟨w.heap.size,3,none⟩ (.int .i64 0)).setCell ⟨w.heap.size,4,none⟩ (.string ⟨#[]⟩)).setCell ⟨w.heap.size,5,none⟩ (.bool false)).setCell ⟨w.heap.size,6,none⟩ (.int .i64 0)).setCell ⟨w.heap.size,7,none⟩ (.string ⟨#[]⟩)).setCell ⟨w.heap.size,8,none⟩ (.int .i64 0)).setCell ⟨w.heap.size,9,none⟩ (.bool false)):=fun w1 hb =>
  (HR.out.call (hb.mono (by have:=HSZ.out;omega))).put (.int .i64 0) (.bool false) (.bool false) (.int .i64 0) (.string ⟨#[]⟩) (.bool false) (.int .i64 0) (.string ⟨#[]⟩) (.int .i64 0) (.bool false)
 have fin:∀ (w1:World) (tm:Array Value),Below wb.heap.size wb w1->tm.getD 4 undef=.pointer (some ⟨w.heap.size,0,none⟩)->tm.getD 5 undef=.int .i64 2 ->
  (results Tryz.f77 tm).run Tryz.prog ((((((((((w1.setCell ⟨w.heap.size,0,none⟩ (.int .i64 0)).setCell ⟨w.heap.size,1,none⟩ (.bool false)).setCell ⟨w.heap.size,2,none⟩ (.bool false)).setCell ⟨w.heap.size,3,none⟩ (.int .i64 0)).setCell ⟨w.heap.size,4,none⟩ (.string ⟨#[]⟩)).setCell ⟨w.heap.size,5,none⟩ (.bool false)).setCell ⟨w.heap.size,6,none⟩ (.int .i64 0)).setCell ⟨w.heap.size,7,none⟩ (.string ⟨#[]⟩)).setCell ⟨w.heap.size,8,none⟩ (.int .i64 0)).setCell ⟨w.heap.size,9,none⟩ (.bool false))=.ok (.tuple #[.agg #[.int .i64 0,.bool false,.bool false,.int .i64 0,.string ⟨#[]⟩,.bool false,.int .i64 0,.string ⟨#[]⟩,.int .i64 0,.bool false],.int .i64 2]) ((((((((((w1.setCell ⟨w.heap.size,0,none⟩ (.int .i64 0)).setCell ⟨w.heap.size,1,none⟩ (.bool false)).setCell ⟨w.heap.size,2,none⟩ (.bool false)).setCell ⟨w.heap.size,3,none⟩ (.int .i64 0)).setCell ⟨w.heap.size,4,none⟩ (.string ⟨#[]⟩)).setCell ⟨w.heap.size,5,none⟩ (.bool false)).setCell ⟨w.heap.size,6,none⟩ (.int .i64 0)).setCell ⟨w.heap.size,7,none⟩ (.string ⟨#[]⟩)).setCell ⟨w.heap.size,8,none⟩ (.int .i64 0)).setCell ⟨w.heap.size,9,none⟩ (.bool false)):=fun w1 tm hb e4 e5=>rts_res (fin0 w1 hb) tm e4 e5
 have finb:∀ (w1:World),zzj k b=none->Below wb.heap.size wb w1->jj1 k b w (.returned (.tuple #[.agg #[.int .i64 0,.bool false,.bool false,.int .i64 0,.string ⟨#[]⟩,.bool false,.int .i64 0,.string ⟨#[]⟩,.int .i64 0,.bool false],.int .i64 2])) ((((((((((w1.setCell ⟨w.heap.size,0,none⟩ (.int .i64 0)).setCell ⟨w.heap.size,1,none⟩ (.bool false)).setCell ⟨w.heap.size,2,none⟩ (.bool false)).setCell ⟨w.heap.size,3,none⟩ (.int .i64 0)).setCell ⟨w.heap.size,4,none⟩ (.string ⟨#[]⟩)).setCell ⟨w.heap.size,5,none⟩ (.bool false)).setCell ⟨w.heap.size,6,none⟩ (.int .i64 0)).setCell ⟨w.heap.size,7,none⟩ (.string ⟨#[]⟩)).setCell ⟨w.heap.size,8,none⟩ (.int .i64 0)).setCell ⟨w.heap.size,9,none⟩ (.bool false)):=fun w1 hN hb=>ts_no hN (fin0 w1 hb).below
 have FIN:=zH fin;have FINB:=zH finb
 clear hw hr hsz hn h hU hec fin fin0 finb
 go_enter Tryz.func77,Tryz.ntmps77
 go_upto_region 2 with (first
  | (go_at_call 74;rw [<-HW.out];refine (vvw F A n c b wb HH.out (by have:=HN.out;omega)).mono ?_;rintro e w0 ⟨A1,n1,c1,rfl,hb1,hs1⟩;rw [<-HEC.out];have HB0:=zH hb1;have HS0:=zH hs1;clear hb1 hs1)
  | fail)
 obtain⟨LL,hLL⟩:∃ LL,LL=(zzo b).getD []:=⟨_,rfl⟩
 obtain⟨ok,hok⟩:∃ ok,ok=zzE 0 LL s6:=⟨_,rfl⟩
 have HOK:=zH hok;have HLL:=zH hLL
 rw [<-hLL] at HS0
 have HBL:Hid (∀ W:World,Sl vvx (fun _=>True) (W.alloc (.cells #[.bool false,.bool false,.bool true,.bool true,.bool false,.bool false] 4)) (some ⟨W.heap.size,0,none⟩) 6 6 s6):=zH (fun W=>Sl.any (Sl.news (T:=vvx) (F:=fun _=>True) (Reps.mk6 (c1:=[.bool false]) (c2:=[.bool false]) (c3:=[.bool true]) (c4:=[.bool true]) (c5:=[.bool false]) (c6:=[.bool false]) rfl rfl rfl rfl rfl rfl) 4 6 rfl (by omega) _ rfl))
 clear hok hLL
 go_upto_region 3 with (first
  | (go_at_call 135;refine (vvu _ _ A1 _ n1 c1 6 6 LL s6 _ (HS0.out.alloc _) (HBL.out w0)).mono ?_;rintro e w1 ⟨rfl,hd⟩;rw [<-HOK.out];have HD1:Hid (Below w0.heap.size w0 w1):=zH (((zR).alloc zN _).trans (hd.below.mono (by simp)));clear hd)
  | fail)
 have HB1:=zH (HB0.out.trans (HD1.out.mono HB0.out.size))
 have HS1:=zH (HS0.out.below HD1.out zN)
 cases hT:shq s6 b with
 | none =>
   have HZ:Hid (zzj k b=none):=zH (by unfold zzj;rw [hT];rfl)
   obtain⟨⟨z0,z0'⟩,⟨z1,z1'⟩,⟨z2,z2'⟩,⟨z3,z3'⟩,⟨z4,z4'⟩,⟨z5,z5'⟩,⟨z6,z6'⟩,⟨z7,z7'⟩,⟨z8,z8'⟩,⟨z9,z9'⟩⟩:=(HR.out.call (HB1.out.mono (by have:=HSZ.out;omega))).cellsOf
   cases hw:zzo b with
   | none =>
     obtain rfl:ec=2:=by rw [HEC.out,hw];rfl
     clear hT hw
     go_wp2_with fail
     exact bodyPost_ret (FIN.out w1 _ HB1.out rfl rfl) rfl (FINB.out w1 HZ.out HB1.out)
   | some M =>
     obtain rfl:ec=0:=by rw [HEC.out,hw];rfl
     obtain rfl:ok=false:=by
      rw [HOK.out,HLL.out,hw]
      unfold shq at hT
      rw [hw,Option.bind_some] at hT
      cases hx:zzE 0 M s6 with
      | false=>exact hx
      | true=>rw [hx] at hT;simp at hT
     clear hT hw
     go_wp2_with fail
     exact bodyPost_ret (FIN.out w1 _ HB1.out rfl rfl) rfl (FINB.out w1 HZ.out HB1.out)
 | some L =>
   obtain⟨hw,hsh,hl6⟩:=uug hT
   obtain rfl:ec=0:=by rw [HEC.out,hw];rfl
   obtain rfl:LL=L:=by rw [HLL.out,hw];rfl
   obtain rfl:ok=true:=by rw [HOK.out];exact hsh
   obtain⟨f0,f1,f2,f3,f4,f5,rfl⟩:=len6 hl6
   have HTS:Hid (zzj k b=tsF k b [f0,f1,f2,f3,f4,f5]):=zH (by unfold zzj;rw [hT];rfl)
   have HD2:Hid (f2.b.length<=b.length):=zH (kqb hT f2 (by simp)).1
   have HD3:Hid (f3.b.length<=b.length):=zH (kqb hT f3 (by simp)).1
   have hS:Sl tFld (fun q=>wb.heap.size<=q) w1 A1 n1 c1 [f0,f1,f2,f3,f4,f5]:=HS1.out
   have hn1:n1=6:=hS.len
   subst hn1
   obtain⟨q,o,A0,n0,c0,hA1,k0,-,x0⟩:=yym hS (k:=0) (by simp)
   subst hA1
   obtain⟨q',o',A1',n1',c1',e1,k1,s1,x1⟩:=yym hS (k:=1) (by simp)
   injection e1 with e1;injection e1 with e1 e1';subst e1 e1'
   obtain⟨q',o',A2',n2',c2',e1,k2,s2,x2⟩:=yym hS (k:=2) (by simp)
   injection e1 with e1;injection e1 with e1 e1';subst e1 e1'
   obtain⟨q',o',A3',n3',c3',e1,k3,s3,x3⟩:=yym hS (k:=3) (by simp)
   injection e1 with e1;injection e1 with e1 e1';subst e1 e1'
   obtain⟨q',o',A4',n4',c4',e1,k4,s4,x4⟩:=yym hS (k:=4) (by simp)
   injection e1 with e1;injection e1 with e1 e1';subst e1 e1'
   obtain⟨q',o',A5',n5',c5',e1,k5,s5,x5⟩:=yym hS (k:=5) (by simp)
   injection e1 with e1;injection e1 with e1 e1';subst e1 e1'
   simp only [List.getElem_cons_zero,List.getElem_cons_succ,Nat.zero_mul,Nat.add_zero,Nat.one_mul,Nat.reduceMul] at k0 k1 k2 k3 k4 k5 x0 x1 x4 x5 s2 s3
   obtain⟨t0,i0,y0,d0⟩:=f0
   obtain⟨t1,i1,y1,d1⟩:=f1
   obtain⟨t2,i2,y2,d2⟩:=f2
   obtain⟨t3,i3,y3,d3⟩:=f3
   obtain⟨t4,i4,y4,d4⟩:=f4
   obtain⟨t5,i5,y5,d5⟩:=f5
   dsimp only at k0 k1 k2 k3 k4 k5 x0 x1 x4 x5 s2 s3 HD2 HD3
   have K0:=zH k0;have K1:=zH k1;have K2:=zH k2;have K3:=zH k3;have K4:=zH k4;have K5:=zH k5;have S2:=zH s2;have S3:=zH s3;have X4:=zH x4
   have q2:=k2.c3
   clear hT hw hsh hl6 hS k0 k1 k2 k3 k4 k5 s1 s2 s3 s4 s5 x0 x1 x2 x3 x4 x5
   obtain⟨v2,hv2⟩:∃ v,(yyn d2).2=v:=⟨_,rfl⟩
   obtain⟨ea,he2⟩:∃ q,q=okc (zzr d2).isSome 2:=⟨_,rfl⟩
   obtain⟨m0,mi,ms⟩:=v2
   have HVA:=zH hv2;have HEA:=zH he2
   clear hv2 he2
   go_upto_region 6 with (first
    | (go_at_call 136;refine (vvB _ A2' n2' c2' d2 _ S2.out (by have h1:=S2.out.len;have h2:=HD2.out;have h3:=HL.out;have h4:=HN.out;omega)).mono ?_;rintro e w2 ⟨rfl,hb,-,-⟩;rw [HVA.out,<-HEA.out];have HBA:=zH hb;clear hb)
    | fail)
   clear q2
   obtain⟨w3,hw,hbx,hgx⟩:∃ W,W=w2.alloc (.cells #[.bool m0,.int .i64 mi,.string ms] 74)/\Below w2.heap.size w2 W/\W.heap[w2.heap.size]?=some (.cells #[.bool m0,.int .i64 mi,.string ms] 74 (0,0)):=⟨_,rfl,(zR).alloc zN _,heap_alloc_new _ _⟩
   rw [<-hw]
   have HAB:=zH (HBA.out.trans (hbx.mono HBA.out.size))
   have K0:=zH (K0.out.keep HAB.out)
   have K1:=zH (K1.out.keep HAB.out)
   have K2:=zH (K2.out.keep HAB.out)
   have K3:=zH (K3.out.keep HAB.out)
   have K4:=zH (K4.out.keep HAB.out)
   have K5:=zH (K5.out.keep HAB.out)
   have S3:=zH (S3.out.below HAB.out zN)
   have HB3:=zH (HB1.out.trans (HAB.out.mono HB1.out.size));have HG8:=zH hgx;have q3:=K3.out.c3
   clear hw hbx hgx
   cases hm:zzr d2 with
   | none =>
     obtain rfl:ea=2:=by rw [HEA.out,hm];rfl
     have HZ:Hid (zzj k b=none):=zH (by rw [HTS.out];unfold tsF;dsimp only;rw [hm];rfl)
     clear hm
     obtain⟨⟨z0,z0'⟩,⟨z1,z1'⟩,⟨z2,z2'⟩,⟨z3,z3'⟩,⟨z4,z4'⟩,⟨z5,z5'⟩,⟨z6,z6'⟩,⟨z7,z7'⟩,⟨z8,z8'⟩,⟨z9,z9'⟩⟩:=(HR.out.call (HB3.out.mono (by have:=HSZ.out;omega))).cellsOf
     go_wp2_with fail
     exact bodyPost_ret (FIN.out w3 _ HB3.out rfl rfl) rfl (FINB.out w3 HZ.out HB3.out)
   | some mn =>
     obtain rfl:ea=0:=by rw [HEA.out,hm];rfl
     have HTM:=zH hm
     clear hm
     obtain⟨v3,hv3⟩:∃ v,(yyn d3).2=v:=⟨_,rfl⟩
     obtain⟨eb,he3⟩:∃ q,q=okc (zzr d3).isSome 2:=⟨_,rfl⟩
     obtain⟨x0,xi,xs⟩:=v3
     have HVB:=zH hv3;have HEB:=zH he3
     clear hv3 he3
     go_upto_region 9 with (first
      | (go_at_call 136;refine (vvB _ A3' n3' c3' d3 _ S3.out (by have h1:=S3.out.len;have h2:=HD3.out;have h3:=HL.out;have h4:=HN.out;omega)).mono ?_;rintro e w4 ⟨rfl,hb,-,-⟩;rw [HVB.out,<-HEB.out];have HBA:=zH hb;clear hb)
      | fail)
     clear q3
     obtain⟨w5,hw,hbx,hgx⟩:∃ W,W=w4.alloc (.cells #[.bool x0,.int .i64 xi,.string xs] 74)/\Below w4.heap.size w4 W/\W.heap[w4.heap.size]?=some (.cells #[.bool x0,.int .i64 xi,.string xs] 74 (0,0)):=⟨_,rfl,(zR).alloc zN _,heap_alloc_new _ _⟩
     rw [<-hw]
     have HAB:=zH (HBA.out.trans (hbx.mono HBA.out.size))
     have K0:=zH (K0.out.keep HAB.out)
     have K1:=zH (K1.out.keep HAB.out)
     have K2:=zH (K2.out.keep HAB.out)
     have K3:=zH (K3.out.keep HAB.out)
     have K4:=zH (K4.out.keep HAB.out)
     have K5:=zH (K5.out.keep HAB.out)
     have HB5:=zH (HB3.out.trans (HAB.out.mono HB3.out.size));have HG10:=zH hgx;have HG8:=zH ((HAB.out.block _ (zzc HG8.out)).trans HG8.out)
     clear hw hbx hgx
     cases hx:zzr d3 with
     | none =>
       obtain rfl:eb=2:=by rw [HEB.out,hx];rfl
       have HZ:Hid (zzj k b=none):=zH (by rw [HTS.out];unfold tsF;dsimp only;rw [HTM.out,hx];rfl)
       clear hx
       obtain⟨⟨z0,z0'⟩,⟨z1,z1'⟩,⟨z2,z2'⟩,⟨z3,z3'⟩,⟨z4,z4'⟩,⟨z5,z5'⟩,⟨z6,z6'⟩,⟨z7,z7'⟩,⟨z8,z8'⟩,⟨z9,z9'⟩⟩:=(HR.out.call (HB5.out.mono (by have:=HSZ.out;omega))).cellsOf
       go_wp2_with fail
       exact bodyPost_ret (FIN.out w5 _ HB5.out rfl rfl) rfl (FINB.out w5 HZ.out HB5.out)
     | some mx =>
       obtain rfl:eb=0:=by rw [HEB.out,hx];rfl
       have HTX:=zH hx
       clear hx
       obtain⟨ct,hct⟩:∃ q,IntKind.i64.wrap (y0:Int)=q:=⟨_,rfl⟩
       obtain⟨bh,hbh⟩:∃ q,((y1:Int)==1)=q:=⟨_,rfl⟩
       obtain⟨bo,hbo⟩:∃ q,((y5:Int)==1)=q:=⟨_,rfl⟩
       have HCT:=zH hct
       have HBH:Hid (decide (y1=1)=bh):=zH (by rw [<-hbh];by_cases h:y1=1 <;> simp [h];omega)
       have HBO:Hid (decide (y5=1)=bo):=zH (by rw [<-hbo];by_cases h:y5=1 <;> simp [h];omega)
       have hmn:mn=⟨m0,mi,ms⟩:=by have h1:=HVA.out;rw [zzF HTM.out] at h1;exact h1
       have hmx:mx=⟨x0,xi,xs⟩:=by have h1:=HVB.out;rw [zzF HTX.out] at h1;exact h1
       have HSE:Hid (stOf ⟨t0,i0,y0,d0⟩ ⟨t1,i1,y1,d1⟩ mn mx ⟨t4,i4,y4,d4⟩ ⟨t5,i5,y5,d5⟩=⟨ct,bh,⟨m0,mi,ms⟩,⟨x0,xi,xs⟩,zagI y4,bo⟩):=zH (by
        unfold stOf
        dsimp only
        rw [HCT.out,hmn,hmx,HBH.out,HBO.out])
       obtain⟨k1,k2⟩:=yyb HTM.out (by have h1:=HD2.out;have h2:=HL.out;have h3:=HN.out;omega);obtain⟨k3,k4⟩:=yyb HTX.out (by have h1:=HD3.out;have h2:=HL.out;have h3:=HN.out;omega)
       have HSOK:Hid (SS.ok ⟨ct,bh,⟨m0,mi,ms⟩,⟨x0,xi,xs⟩,zagI y4,bo⟩):=zH (by rw [<-HSE.out];exact qxg _ _ k1 k3 X4.out k2 k4)
       obtain⟨P,hP⟩:∃ P,P=zz7 ⟨ct,bh,⟨m0,mi,ms⟩,⟨x0,xi,xs⟩,zagI y4,bo⟩:=⟨_,rfl⟩
       obtain⟨my,hmy⟩:∃ q,mayS k ⟨ct,bh,⟨m0,mi,ms⟩,⟨x0,xi,xs⟩,zagI y4,bo⟩=q:=⟨_,rfl⟩
       have HP:=zH hP;have HMY:=zH hmy
       have HTT:Hid (zzj k b=if P=b/\my=true then some ⟨ct,bh,⟨m0,mi,ms⟩,⟨x0,xi,xs⟩,zagI y4,bo⟩ else none):=zH (by
        rw [HTS.out];unfold tsF;dsimp only;rw [HTM.out,HTX.out,Option.bind_some,Option.bind_some,HSE.out,<-HP.out,HMY.out])
       clear hmn hmx k1 k2 k3 k4 hP hmy
       go_upto_region 11 with fail
       have e0:w5.drew.cell? ⟨q,o+2,none⟩=some (.int .u64 (y0:Int)):=K0.out.c2
       have e1:w5.drew.cell? ⟨q,o+4+2,none⟩=some (.int .u64 (y1:Int)):=K1.out.c2
       have e2:w5.drew.cell? ⟨w2.heap.size,0,none⟩=some (.bool m0)/\w5.drew.cell? ⟨w2.heap.size,1,none⟩=some (.int .i64 mi)/\w5.drew.cell? ⟨w2.heap.size,2,none⟩=some (.string ms):=by
        refine⟨?_,?_,?_⟩ <;> (show w5.cell? _=_;rw [zC HG8.out];rfl)
       have e3:w5.drew.cell? ⟨w4.heap.size,0,none⟩=some (.bool x0)/\w5.drew.cell? ⟨w4.heap.size,1,none⟩=some (.int .i64 xi)/\w5.drew.cell? ⟨w4.heap.size,2,none⟩=some (.string xs):=by
        refine⟨?_,?_,?_⟩ <;> (show w5.cell? _=_;rw [zC HG10.out];rfl)
       have e4:w5.drew.cell? ⟨q,o+16+2,none⟩=some (.int .u64 (y4:Int)):=K4.out.c2
       have e5:w5.drew.cell? ⟨q,o+20+2,none⟩=some (.int .u64 (y5:Int)):=K5.out.c2
       refine regL [(none,fun w'=>w'.cell? ⟨q,o+2,none⟩=some (.int .u64 (y0:Int))),(none,fun w'=>w'.cell? ⟨q,o+4+2,none⟩=some (.int .u64 (y1:Int))),(none,fun w'=>w'.cell? ⟨w2.heap.size,0,none⟩=some (.bool m0)/\w'.cell? ⟨w2.heap.size,1,none⟩=some (.int .i64 mi)/\w'.cell? ⟨w2.heap.size,2,none⟩=some (.string ms)),(none,fun w'=>w'.cell? ⟨w4.heap.size,0,none⟩=some (.bool x0)/\w'.cell? ⟨w4.heap.size,1,none⟩=some (.int .i64 xi)/\w'.cell? ⟨w4.heap.size,2,none⟩=some (.string xs)),(none,fun w'=>w'.cell? ⟨q,o+16+2,none⟩=some (.int .u64 (y4:Int))),(none,fun w'=>w'.cell? ⟨q,o+20+2,none⟩=some (.int .u64 (y5:Int)))] (by kernel_rfl) ?_ (fun hHeld=>?_)
       · exact⟨(by first | exact e0 | exact zze e0 _ | fail),(by first | exact e1 | exact zze e1 _ | fail),(by first | exact e2 | exact⟨zze e2.1 _,zze e2.2.1 _,zze e2.2.2 _⟩ | fail),(by first | exact e3 | exact⟨zze e3.1 _,zze e3.2.1 _,zze e3.2.2 _⟩ | fail),(by first | exact e4 | exact zze e4 _ | fail),(by first | exact e5 | exact zze e5 _ | fail),trivial⟩
       iterate 3
        all_goals
         repeat ((first | (refine tkP 0 (oi:=⟨_,_,_,_,_,_⟩) (v:=?_) rfl (by decide +kernel) rfl (fun _ _ _ h=>h) rfl hHeld ?_ ?_) | (refine tkP 1 (oi:=⟨_,_,_,_,_,_⟩) (v:=?_) rfl (by decide +kernel) rfl (fun _ _ _ h=>h) rfl hHeld ?_ ?_) | (refine tkP 2 (oi:=⟨_,_,_,_,_,_⟩) (v:=?_) rfl (by decide +kernel) rfl (fun _ _ _ h=>h) rfl hHeld ?_ ?_) | (refine tkL 3 0 rfl (oi:=⟨_,_,_,_,_,_⟩) (v:=?_) rfl (by decide +kernel) rfl (fun _ _ _ h=>h) rfl hHeld ?_ ?_) | (refine tkP 4 (oi:=⟨_,_,_,_,_,_⟩) (v:=?_) rfl (by decide +kernel) rfl (fun _ _ _ h=>h) rfl hHeld ?_ ?_) | (refine tkP 5 (oi:=⟨_,_,_,_,_,_⟩) (v:=?_) rfl (by decide +kernel) rfl (fun _ _ _ h=>h) rfl hHeld ?_ ?_) | (refine tkP 6 (oi:=⟨_,_,_,_,_,_⟩) (v:=?_) rfl (by decide +kernel) rfl (fun _ _ _ h=>h) rfl hHeld ?_ ?_) | (refine tkP 7 (oi:=⟨_,_,_,_,_,_⟩) (v:=?_) rfl (by decide +kernel) rfl (fun _ _ _ h=>h) rfl hHeld ?_ ?_) | (refine tkL 8 1 rfl (oi:=⟨_,_,_,_,_,_⟩) (v:=?_) rfl (by decide +kernel) rfl (fun _ _ _ h=>h) rfl hHeld ?_ ?_) | (refine tkP 9 (oi:=⟨_,_,_,_,_,_⟩) (v:=?_) rfl (by decide +kernel) rfl (fun _ _ _ h=>h) rfl hHeld ?_ ?_) | (refine tkL 10 2 rfl (oi:=⟨_,_,_,_,_,_⟩) (v:=?_) rfl (by decide +kernel) rfl (fun _ _ _ h=>h) rfl hHeld ?_ ?_) | (refine tkL 11 3 rfl (oi:=⟨_,_,_,_,_,_⟩) (v:=?_) rfl (by decide +kernel) rfl (fun _ _ _ h=>h) rfl hHeld ?_ ?_) | (refine tkP 12 (oi:=⟨_,_,_,_,_,_⟩) (v:=?_) rfl (by decide +kernel) rfl (fun _ _ _ h=>h) rfl hHeld ?_ ?_) | (refine tkP 13 (oi:=⟨_,_,_,_,_,_⟩) (v:=?_) rfl (by decide +kernel) rfl (fun _ _ _ h=>h) rfl hHeld ?_ ?_) | (refine tkP 14 (oi:=⟨_,_,_,_,_,_⟩) (v:=?_) rfl (by decide +kernel) rfl (fun _ _ _ h=>h) rfl hHeld ?_ ?_) | (refine tkL 15 4 rfl (oi:=⟨_,_,_,_,_,_⟩) (v:=?_) rfl (by decide +kernel) rfl (fun _ _ _ h=>h) rfl hHeld ?_ ?_) | (refine tkP 17 (oi:=⟨_,_,_,_,_,_⟩) (v:=?_) rfl (by decide +kernel) rfl (fun _ _ _ h=>h) rfl hHeld ?_ ?_) | (refine tkP 18 (oi:=⟨_,_,_,_,_,_⟩) (v:=?_) rfl (by decide +kernel) rfl (fun _ _ _ h=>h) rfl hHeld ?_ ?_) | (refine tkP 19 (oi:=⟨_,_,_,_,_,_⟩) (v:=?_) rfl (by decide +kernel) rfl (fun _ _ _ h=>h) rfl hHeld ?_ ?_) | (refine tkL 20 5 rfl (oi:=⟨_,_,_,_,_,_⟩) (v:=?_) rfl (by decide +kernel) rfl (fun _ _ _ h=>h) rfl hHeld ?_ ?_) | (refine tkP 21 (oi:=⟨_,_,_,_,_,_⟩) (v:=?_) rfl (by decide +kernel) rfl (fun _ _ _ h=>h) rfl hHeld ?_ ?_) | (refine tkP 22 (oi:=⟨_,_,_,_,_,_⟩) (v:=?_) rfl (by decide +kernel) rfl (fun _ _ _ h=>h) rfl hHeld ?_ ?_));rotate_left;(focus (intro w;(try intro hSw);(try dsimp only at hSw);go_simp;try with_reducible rfl));intro hHeld;(try simp only [Act.put]);(try simp only [List.setIfInBounds_toArray]);(try simp only [List.set_cons_succ]);(try simp only [List.set_cons_zero]))
         first | (refine rd1 16 (o:=⟨_,_,_,_,_,_⟩) (by decide +kernel) rfl (fun K hK=>?_)) | (refine rd2 16 23 (o:=⟨_,_,_,_,_,_⟩) (o':=⟨_,_,_,_,_,_⟩) (by decide +kernel) rfl rfl (fun K hK=>?_) (fun K hK=>?_)) | (refine rd1 23 (o:=⟨_,_,_,_,_,_⟩) (by decide +kernel) rfl (fun K hK=>?_)) | (refine rd1 24 (o:=⟨_,_,_,_,_,_⟩) (by decide +kernel) rfl (fun K hK=>?_))
        all_goals
         first  | (go_simp;(first | (go_at_call 137;refine (xqj y4 _ X4.out).mono ?_;rintro e w6 ⟨rfl,rfl⟩) | fail)) | go_simp
         refine hK.out _ _ ?_ (fun hHeld=>?_)
         · (try dsimp only);exact⟨(by first | exact e0 | exact zze e0 _ | fail),(by first | exact e1 | exact zze e1 _ | fail),(by first | exact e2 | exact⟨zze e2.1 _,zze e2.2.1 _,zze e2.2.2 _⟩ | fail),(by first | exact e3 | exact⟨zze e3.1 _,zze e3.2.1 _,zze e3.2.2 _⟩ | fail),(by first | exact e4 | exact zze e4 _ | fail),(by first | exact e5 | exact zze e5 _ | fail),trivial⟩
         clear hK K;(try simp only [Act.put]);(try simp only [List.setIfInBounds_toArray]);(try simp only [List.set_cons_succ]);(try simp only [List.set_cons_zero])
       all_goals
        refine xxI (by decide +kernel) ?_ _
        obtain⟨w7,hw7⟩:∃ w7,w7=(w5.alloc (.cells #[.int .i64 ct,.bool bh,.bool m0,.int .i64 mi,.string ms,.bool x0,.int .i64 xi,.string xs,.int .i64 (zagI y4),.bool bo] 109)).drew:=⟨_,rfl⟩
        have hb7:Below w5.heap.size w5 w7:=by rw [hw7];exact ((zR).alloc zN _).drew
        have HST:Hid (StC w5.heap.size ct bh m0 mi ms x0 xi xs (zagI y4) bo w7):=zH (StC.of (t:=109) (by rw [hw7];exact heap_alloc_new w5 _))
        have HB7:=zH (HB5.out.trans (hb7.mono HB5.out.size))
        rw [<-hw7]
        clear hw7 hb7 e0 e1 e2 e3 e4 e5
        obtain⟨s0,s1,s2,s3,s4,s5,s6',s7,s8,s9⟩:=HST.out
        go_upto_region 13 with (first
         | (go_at_call 138;refine (qzg k (⟨ct,bh,⟨m0,mi,ms⟩,⟨x0,xi,xs⟩,zagI y4,bo⟩:SS) HSOK.out.fits _ (zzb HU.out HB7.out)).mono ?_;rintro e w8 ⟨rfl,hb8⟩;rw [HMY.out];have HB7:=zH (HB7.out.trans (hb8.mono HB7.out.size));have HST:=zH (HST.out.keep hb8);clear hb8)
         | fail)
        clear s0 s1 s2 s3 s4 s5 s6' s7 s8 s9
        have hC0:_/\_/\_/\_/\_/\_/\_/\_/\_/\_:=⟨HST.out.c0,HST.out.c1,HST.out.c2,HST.out.c3,HST.out.c4,HST.out.c5,HST.out.c6,HST.out.c7,HST.out.c8,HST.out.c9⟩
        have hD0:=zzq (HH.out.below HB7.out zN).drew
        by_cases heq:P=b
        · have hcmp:(P==b)=true:=by rw [heq];exact beq_self_eq_true _
          have HEQ:=zH heq
          clear heq
          refine regL [(none,fun w'=>w'.cell? ⟨w5.heap.size,0,none⟩=some (.int .i64 ct)/\w'.cell? ⟨w5.heap.size,1,none⟩=some (.bool bh)/\w'.cell? ⟨w5.heap.size,2,none⟩=some (.bool m0)/\w'.cell? ⟨w5.heap.size,2+1,none⟩=some (.int .i64 mi)/\w'.cell? ⟨w5.heap.size,2+2,none⟩=some (.string ms)/\w'.cell? ⟨w5.heap.size,5,none⟩=some (.bool x0)/\w'.cell? ⟨w5.heap.size,5+1,none⟩=some (.int .i64 xi)/\w'.cell? ⟨w5.heap.size,5+2,none⟩=some (.string xs)/\w'.cell? ⟨w5.heap.size,8,none⟩=some (.int .i64 (zagI y4))/\w'.cell? ⟨w5.heap.size,9,none⟩=some (.bool bo)),(none,fun w'=>(convert 41 9 (.slice A n c)).run Tryz.prog w'=.ok (.string ⟨b.toArray⟩) w')] (by kernel_rfl) ?_ (fun hHeld=>?_)
          · exact⟨(by first | exact hC0 | exact hC1 | fail),(by first | exact hD0 | exact hD1 | fail),trivial⟩
          iterate 2
           all_goals
            repeat ((first | (refine tkL 0 0 rfl (oi:=⟨_,_,_,_,_,_⟩) (v:=?_) rfl (by decide +kernel) rfl (fun _ _ _ h=>h) rfl hHeld ?_ ?_) | (refine tkP 3 (oi:=⟨_,_,_,_,_,_⟩) (v:=?_) rfl (by decide +kernel) rfl (fun _ _ _ h=>h) rfl hHeld ?_ ?_) | (refine tkL 4 1 rfl (oi:=⟨_,_,_,_,_,_⟩) (v:=?_) rfl (by decide +kernel) rfl (fun _ _ _ h=>h) rfl hHeld ?_ ?_) | (refine tkP 5 (oi:=⟨_,_,_,_,_,_⟩) (v:=?_) rfl (by decide +kernel) rfl (fun _ _ _ h=>h) rfl hHeld ?_ ?_) | (refine tkP 6 (oi:=⟨_,_,_,_,_,_⟩) (v:=?_) rfl (by decide +kernel) rfl (fun _ _ _ h=>h) rfl hHeld ?_ ?_) | (refine tkP 7 (oi:=⟨_,_,_,_,_,_⟩) (v:=?_) rfl (by decide +kernel) rfl (fun _ _ _ h=>h) rfl hHeld ?_ ?_) | (refine tkP 8 (oi:=⟨_,_,_,_,_,_⟩) (v:=?_) rfl (by decide +kernel) rfl (fun _ _ _ h=>h) rfl hHeld ?_ ?_) | (refine tkP 9 (oi:=⟨_,_,_,_,_,_⟩) (v:=?_) rfl (by decide +kernel) rfl (fun _ _ _ h=>h) rfl hHeld ?_ ?_));rotate_left;(focus (intro w;(try intro hSw);(try dsimp only at hSw);go_simp;try with_reducible rfl));intro hHeld;(try simp only [Act.put]);(try simp only [List.setIfInBounds_toArray]);(try simp only [List.set_cons_succ]);(try simp only [List.set_cons_zero]))
            first | (refine rd1 1 (o:=⟨_,_,_,_,_,_⟩) (by decide +kernel) rfl (fun K hK=>?_)) | (refine rd1 2 (o:=⟨_,_,_,_,_,_⟩) (by decide +kernel) rfl (fun K hK=>?_))
           all_goals
            first  | (go_simp;(first | (go_at_call 66;refine (xxE (⟨ct,bh,⟨m0,mi,ms⟩,⟨x0,xi,xs⟩,zagI y4,bo⟩:SS) HSOK.out _).mono ?_;rintro e w9 ⟨A9,n9,c9,rfl,ho9,hb9⟩;rw [<-HP.out] at ho9;have HB89:Hid (Below w8.heap.size w8 w9):=zH (((zR).drew).trans hb9);have HST:=zH (HST.out.keep HB89.out);have hC1:_/\_/\_/\_/\_/\_/\_/\_/\_/\_:=⟨HST.out.c0,HST.out.c1,HST.out.c2,HST.out.c3,HST.out.c4,HST.out.c5,HST.out.c6,HST.out.c7,HST.out.c8,HST.out.c9⟩;have hD1:=zzq ((HH.out.below HB7.out zN).below HB89.out zN);have hX1:=zzq ho9.bs;have HB7:=zH (HB7.out.trans (HB89.out.mono HB7.out.size));clear ho9 hb9) | fail)) | go_simp
            refine hK.out _ _ ?_ (fun hHeld=>?_)
            · (try dsimp only);exact⟨(by first | exact hC0 | exact hC1 | fail),(by first | exact hD0 | exact hD1 | fail),trivial⟩
            clear hK K;(try simp only [Act.put]);(try simp only [List.setIfInBounds_toArray]);(try simp only [List.set_cons_succ]);(try simp only [List.set_cons_zero])
          all_goals
           repeat ((first | (refine tkP 5 (oi:=⟨_,_,_,_,_,_⟩) (v:=?_) rfl (by decide +kernel) rfl (fun _ _ _ h=>h) rfl hHeld ?_ ?_) | (refine tkP 6 (oi:=⟨_,_,_,_,_,_⟩) (v:=?_) rfl (by decide +kernel) rfl (fun _ _ _ h=>h) rfl hHeld ?_ ?_) | (refine tkP 7 (oi:=⟨_,_,_,_,_,_⟩) (v:=?_) rfl (by decide +kernel) rfl (fun _ _ _ h=>h) rfl hHeld ?_ ?_) | (refine tkP 8 (oi:=⟨_,_,_,_,_,_⟩) (v:=?_) rfl (by decide +kernel) rfl (fun _ _ _ h=>h) rfl hHeld ?_ ?_) | (refine tkP 9 (oi:=⟨_,_,_,_,_,_⟩) (v:=?_) rfl (by decide +kernel) rfl (fun _ _ _ h=>h) rfl hHeld ?_ ?_));rotate_left;(focus (intro w;(try intro hSw);(try dsimp only at hSw);go_simp;try with_reducible rfl));intro hHeld;(try simp only [Act.put]);(try simp only [List.setIfInBounds_toArray]);(try simp only [List.set_cons_succ]);(try simp only [List.set_cons_zero]))
           refine xxI (by decide +kernel) ?_ _
           cases my with
           | true =>
             have HV:Hid (zzj k b=some ⟨ct,bh,⟨m0,mi,ms⟩,⟨x0,xi,xs⟩,zagI y4,bo⟩):=zH (by rw [HTT.out,if_pos ⟨HEQ.out,rfl⟩])
             obtain⟨⟨z0,z0'⟩,⟨z1,z1'⟩,⟨z2,z2'⟩,⟨z3,z3'⟩,⟨z4,z4'⟩,⟨z5,z5'⟩,⟨z6,z6'⟩,⟨z7,z7'⟩,⟨z8,z8'⟩,⟨z9,z9'⟩⟩:=(HR.out.call (HB7.out.mono (by have:=HSZ.out;omega))).cellsOf
             obtain⟨s0,s1,s2,s3,s4,s5,s6',s7,s8,s9⟩:=HST.out
             go_wp2_with fail
             have h2:=(HR.out.call (HB7.out.mono (by have:=HSZ.out;omega))).put (.int .i64 ct) (.bool bh) (.bool m0) (.int .i64 mi) (.string ms) (.bool x0) (.int .i64 xi) (.string xs) (.int .i64 (zagI y4)) (.bool bo)
             exact bodyPost_ret (rts_res h2 _ rfl rfl) rfl ⟨by rw [HV.out];rfl,h2.below⟩
           | false =>
             have HZ:Hid (zzj k b=none):=zH (by rw [HTT.out,if_neg (fun h=>by cases h.2)])
             obtain⟨⟨z0,z0'⟩,⟨z1,z1'⟩,⟨z2,z2'⟩,⟨z3,z3'⟩,⟨z4,z4'⟩,⟨z5,z5'⟩,⟨z6,z6'⟩,⟨z7,z7'⟩,⟨z8,z8'⟩,⟨z9,z9'⟩⟩:=(HR.out.call (HB7.out.mono (by have:=HSZ.out;omega))).cellsOf
             go_wp2_with fail
             exact bodyPost_ret (FIN.out w9 _ HB7.out rfl rfl) rfl (FINB.out w9 HZ.out HB7.out)
        · have hcmp:(P==b)=false:=beq_eq_false_iff_ne.2 heq
          have HEQ:=zH heq
          clear heq
          refine regL [(none,fun w'=>w'.cell? ⟨w5.heap.size,0,none⟩=some (.int .i64 ct)/\w'.cell? ⟨w5.heap.size,1,none⟩=some (.bool bh)/\w'.cell? ⟨w5.heap.size,2,none⟩=some (.bool m0)/\w'.cell? ⟨w5.heap.size,2+1,none⟩=some (.int .i64 mi)/\w'.cell? ⟨w5.heap.size,2+2,none⟩=some (.string ms)/\w'.cell? ⟨w5.heap.size,5,none⟩=some (.bool x0)/\w'.cell? ⟨w5.heap.size,5+1,none⟩=some (.int .i64 xi)/\w'.cell? ⟨w5.heap.size,5+2,none⟩=some (.string xs)/\w'.cell? ⟨w5.heap.size,8,none⟩=some (.int .i64 (zagI y4))/\w'.cell? ⟨w5.heap.size,9,none⟩=some (.bool bo)),(none,fun w'=>(convert 41 9 (.slice A n c)).run Tryz.prog w'=.ok (.string ⟨b.toArray⟩) w')] (by kernel_rfl) ?_ (fun hHeld=>?_)
          · exact⟨(by first | exact hC0 | exact hC1 | fail),(by first | exact hD0 | exact hD1 | fail),trivial⟩
          iterate 2
           all_goals
            repeat (first | ((first | (refine tkL 0 0 rfl (oi:=⟨_,_,_,_,_,_⟩) (v:=?_) rfl (by decide +kernel) rfl (fun _ _ _ h=>h) rfl hHeld ?_ ?_) | (refine tkP 3 (oi:=⟨_,_,_,_,_,_⟩) (v:=?_) rfl (by decide +kernel) rfl (fun _ _ _ h=>h) rfl hHeld ?_ ?_) | (refine tkL 4 1 rfl (oi:=⟨_,_,_,_,_,_⟩) (v:=?_) rfl (by decide +kernel) rfl (fun _ _ _ h=>h) rfl hHeld ?_ ?_) | (refine tkP 5 (oi:=⟨_,_,_,_,_,_⟩) (v:=?_) rfl (by decide +kernel) rfl (fun _ _ _ h=>h) rfl hHeld ?_ ?_) | (refine tkP 6 (oi:=⟨_,_,_,_,_,_⟩) (v:=?_) rfl (by decide +kernel) rfl (fun _ _ _ h=>h) rfl hHeld ?_ ?_) | (refine tkP 9 (oi:=⟨_,_,_,_,_,_⟩) (v:=?_) rfl (by decide +kernel) rfl (fun _ _ _ h=>h) rfl hHeld ?_ ?_));rotate_left;(focus (intro w;(try intro hSw);(try dsimp only at hSw);go_simp;try with_reducible rfl));intro hHeld;(try simp only [Act.put]);(try simp only [List.setIfInBounds_toArray]);(try simp only [List.set_cons_succ]);(try simp only [List.set_cons_zero])) | ((first | (refine tkN 7 (oi:=⟨_,_,_,_,_,_⟩) rfl (by decide +kernel) rfl (fun _ _ _ h=>h) rfl hHeld ?_) | (refine tkN 8 (oi:=⟨_,_,_,_,_,_⟩) rfl (by decide +kernel) rfl (fun _ _ _ h=>h) rfl hHeld ?_));intro hHeld;(try simp only [Act.put]);(try simp only [List.setIfInBounds_toArray]);(try simp only [List.set_cons_succ]);(try simp only [List.set_cons_zero])))
            first | (refine rd1 1 (o:=⟨_,_,_,_,_,_⟩) (by decide +kernel) rfl (fun K hK=>?_)) | (refine rd1 2 (o:=⟨_,_,_,_,_,_⟩) (by decide +kernel) rfl (fun K hK=>?_))
           all_goals
            first  | (go_simp;(first | (go_at_call 66;refine (xxE (⟨ct,bh,⟨m0,mi,ms⟩,⟨x0,xi,xs⟩,zagI y4,bo⟩:SS) HSOK.out _).mono ?_;rintro e w9 ⟨A9,n9,c9,rfl,ho9,hb9⟩;rw [<-HP.out] at ho9;have HB89:Hid (Below w8.heap.size w8 w9):=zH (((zR).drew).trans hb9);have HST:=zH (HST.out.keep HB89.out);have hC1:_/\_/\_/\_/\_/\_/\_/\_/\_/\_:=⟨HST.out.c0,HST.out.c1,HST.out.c2,HST.out.c3,HST.out.c4,HST.out.c5,HST.out.c6,HST.out.c7,HST.out.c8,HST.out.c9⟩;have hD1:=zzq ((HH.out.below HB7.out zN).below HB89.out zN);have hX1:=zzq ho9.bs;have HB7:=zH (HB7.out.trans (HB89.out.mono HB7.out.size));clear ho9 hb9) | fail)) | go_simp
            refine hK.out _ _ ?_ (fun hHeld=>?_)
            · (try dsimp only);exact⟨(by first | exact hC0 | exact hC1 | fail),(by first | exact hD0 | exact hD1 | fail),trivial⟩
            clear hK K;(try simp only [Act.put]);(try simp only [List.setIfInBounds_toArray]);(try simp only [List.set_cons_succ]);(try simp only [List.set_cons_zero])
          all_goals
           repeat (first | ((first | (refine tkL 0 0 rfl (oi:=⟨_,_,_,_,_,_⟩) (v:=?_) rfl (by decide +kernel) rfl (fun _ _ _ h=>h) rfl hHeld ?_ ?_) | (refine tkP 3 (oi:=⟨_,_,_,_,_,_⟩) (v:=?_) rfl (by decide +kernel) rfl (fun _ _ _ h=>h) rfl hHeld ?_ ?_) | (refine tkL 4 1 rfl (oi:=⟨_,_,_,_,_,_⟩) (v:=?_) rfl (by decide +kernel) rfl (fun _ _ _ h=>h) rfl hHeld ?_ ?_) | (refine tkP 5 (oi:=⟨_,_,_,_,_,_⟩) (v:=?_) rfl (by decide +kernel) rfl (fun _ _ _ h=>h) rfl hHeld ?_ ?_) | (refine tkP 6 (oi:=⟨_,_,_,_,_,_⟩) (v:=?_) rfl (by decide +kernel) rfl (fun _ _ _ h=>h) rfl hHeld ?_ ?_) | (refine tkP 9 (oi:=⟨_,_,_,_,_,_⟩) (v:=?_) rfl (by decide +kernel) rfl (fun _ _ _ h=>h) rfl hHeld ?_ ?_));rotate_left;(focus (intro w;(try intro hSw);(try dsimp only at hSw);go_simp;try with_reducible rfl));intro hHeld;(try simp only [Act.put]);(try simp only [List.setIfInBounds_toArray]);(try simp only [List.set_cons_succ]);(try simp only [List.set_cons_zero])) | ((first | (refine tkN 7 (oi:=⟨_,_,_,_,_,_⟩) rfl (by decide +kernel) rfl (fun _ _ _ h=>h) rfl hHeld ?_) | (refine tkN 8 (oi:=⟨_,_,_,_,_,_⟩) rfl (by decide +kernel) rfl (fun _ _ _ h=>h) rfl hHeld ?_));intro hHeld;(try simp only [Act.put]);(try simp only [List.setIfInBounds_toArray]);(try simp only [List.set_cons_succ]);(try simp only [List.set_cons_zero])))
           refine xxI (by decide +kernel) ?_ _
           have HZ:Hid (zzj k b=none):=zH (by rw [HTT.out,if_neg (fun h=>HEQ.out h.1)])
           obtain⟨⟨z0,z0'⟩,⟨z1,z1'⟩,⟨z2,z2'⟩,⟨z3,z3'⟩,⟨z4,z4'⟩,⟨z5,z5'⟩,⟨z6,z6'⟩,⟨z7,z7'⟩,⟨z8,z8'⟩,⟨z9,z9'⟩⟩:=(HR.out.call (HB7.out.mono (by have:=HSZ.out;omega))).cellsOf
           go_wp2_with fail
           exact bodyPost_ret (FIN.out w9 _ HB7.out rfl rfl) rfl (FINB.out w9 HZ.out HB7.out)
end
end Go.Proofs.YtpmglcachffojaaGreatDoor
