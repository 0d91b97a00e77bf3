/- A part of what Indexes leans on. -/
import Derived.Test.YtpmglcachffojaaGreatDoorZ3
import Derived.Test.YtpmglcachffojaaGreatDoorZ4
import Derived.Deep.MidRow
set_option maxRecDepth 100000
set_option maxHeartbeats 16000000
namespace Go.Proofs.YtpmglcachffojaaGreatDoor
section
open Go Go.RowKit
def xxS (r:Nat):Nat:=if r % 2=1 then (r / 2) ^^^ 2197175160 else r / 2
def yy8:Nat->Nat->Nat
 | 0,r=>r
 | k+1,r=>xxS (yy8 k r)
def yyr (i:Nat):Nat:=yy8 8 i
def jjs (r:Nat) (c:UInt8):Nat:=(r / 256) ^^^ yyr ((r ^^^ c.toNat) % 256)
def zzO (b:List UInt8):Nat:=b.foldl jjs 4294967295
def yy9 (b:List UInt8):Nat:=4294967295 - zzO b
def zzJ (s i:Nat):UInt8:=UInt8.ofNat (s / 256 ^ i)
def vvF (b:List UInt8):List UInt8:=b++[zzJ (yy9 b) 0,zzJ (yy9 b) 1,zzJ (yy9 b) 2,zzJ (yy9 b) 3]
theorem kqY {a b:Nat} (ha:a<4294967296) (hb:b<4294967296):a ^^^ b<4294967296:=Nat.xor_lt_two_pow (n:=32) ha hb
theorem xqm {r:Nat} (h:r<4294967296):xxS r<4294967296:=by
 unfold xxS
 split
 · exact kqY (by omega) (by omega)
 · omega
theorem vvW {r:Nat} (h:r<4294967296):∀ k,yy8 k r<4294967296
 | 0=>h
 | k+1=>xqm (vvW h k)
theorem vvG {i:Nat} (h:i<4294967296):yyr i<4294967296:=vvW h 8
theorem crcOne_lt {r:Nat} (c:UInt8) (h:r<4294967296):jjs r c<4294967296:=kqY (by omega) (vvG (by omega))
theorem xxT (b:List UInt8) (c:UInt8):zzO (b++[c])=jjs (zzO b) c:=by unfold zzO;rw [List.foldl_append];rfl
theorem xxg (b:List UInt8):zzO b<4294967296:=by
 suffices h:∀ r:List UInt8,zzO r.reverse<4294967296 by
  have:=h b.reverse;rwa [List.reverse_reverse] at this
 intro r
 induction r with
 | nil=>exact (by decide:4294967295<4294967296)
 | cons c r ih=>rw [List.reverse_cons,xxT];exact crcOne_lt c ih
theorem qzB (b:List UInt8):(vvF b).length=b.length+4:=by unfold vvF;simp
theorem kqk (a:Nat) (h:a<4294967296):a ^^^ 4294967295=4294967295 - a:=by
 have e:(BitVec.ofNat 32 a ^^^ BitVec.allOnes 32) = ~~~ BitVec.ofNat 32 a:=BitVec.xor_allOnes
 have e2:=congrArg BitVec.toNat e
 rw [BitVec.toNat_xor,BitVec.toNat_not,BitVec.toNat_ofNat,BitVec.toNat_allOnes,Nat.mod_eq_of_lt (by omega)] at e2
 exact e2
theorem u32_half (r:Nat) (h:r<4294967296):bits BinOp.xor IntKind.u32 ((r:Int) / 2) 2197175160=(((r / 2) ^^^ 2197175160:Nat):Int):=by
 rw [show (r:Int) / 2=((r / 2:Nat):Int) by omega]
 exact u32_xor_nat (r / 2) 2197175160 (by omega) (by omega)
theorem u32_ones (r:Nat) (h:r<4294967296):bits BinOp.xor IntKind.u32 (r:Int) 4294967295=((4294967295 - r:Nat):Int):=by
 rw [<-kqk r h]
 exact u32_xor_nat r 4294967295 h (by omega)
theorem ret_u32 {k:IntKind} {a b:Int} (h:a=b):Ending.returned (.int k a)=.returned (.int k b):=by rw [h]
theorem entry_any (i:Nat) (hi:i<256) (w:World):Calls Tryz.prog 129 #[.int .i64 (i:Int)] w fun e w'=>e=.returned (.int .u32 (yyr i:Nat))/\w=w':=by
 go_enter Tryz.func129,Tryz.ntmps129
 go_wp2_with fail
 go_loopw [3,4,5] (fun rv kv lv wr=>∃ (k:Nat),k<=8/\kv=.int .i64 (k:Int)/\rv=.int .u32 (yy8 k i:Nat)/\w=wr) (fun _ kv _ _=>8 - (intOf kv).toNat)
 case atStart=>exact⟨0,Nat.zero_le _,rfl,rfl,rfl⟩
 case round =>
  obtain⟨k,hk,rfl,rfl,rfl⟩:=hrel
  by_cases hlt:k<8
  · have hi1:(k:Int)<8:=by omega
    have hb:=vvW (r:=i) (by omega) k
    have hs:yy8 (k+1) i=xxS (yy8 k i):=rfl
    obtain⟨r,hr⟩:∃ r,r=yy8 k i:=⟨_,rfl⟩
    rw [<-hr] at hb hs ⊢
    unfold xxS at hs
    have HS:=zH hs
    clear hr hs
    by_cases h2:r % 2=1
    · have h3:((r:Int) % 2==1)=true:=by rw [beq_iff_eq];omega
      have HE:=zH (show (r / 2) ^^^ 2197175160=yy8 (k+1) i by rw [HS.out,if_pos h2])
      clear h2
      go_wp2_with fail
      go_roundw
      case rel=>exact⟨k+1,by omega,by go_num,by rw [<-HE.out,u32_half r hb],trivial⟩
      case measure=>simp [intOf];omega
    · have h3:((r:Int) % 2==1)=false:=by rw [beq_eq_false_iff_ne];omega
      have HE:=zH (show r / 2=yy8 (k+1) i by rw [HS.out,if_neg h2])
      clear h2
      go_wp2_with fail
      go_roundw
      case rel=>exact⟨k+1,by omega,by go_num,by rw [<-HE.out];rfl,trivial⟩
      case measure=>simp [intOf];omega
  · obtain rfl:k=8:=by omega
    go_wp2_with fail
    go_ret
    exact⟨rfl,rfl⟩
def tabL (i:Nat):List Value:=(List.range 256).map fun j=>Value.int .u32 (if j<i then (yyr j:Int) else 0)
def jjt:Array Value:=(tabL 256).toArray
theorem yyM (i:Nat):(tabL i).length=256:=by simp [tabL]
theorem uun (i j:Nat) (h:j<256):(tabL i)[j]?=some (Value.int .u32 (if j<i then (yyr j:Int) else 0)):=by
 simp [tabL,h]
theorem xxh:Tryz.zeroCells39=(tabL 0).toArray:=by kernel_rfl
theorem tabL_set (i:Nat) (hi:i<256):(tabL i).toArray.setIfInBounds i (.int .u32 (yyr i:Int))=(tabL (i+1)).toArray:=by
 rw [List.setIfInBounds_toArray]
 congr 1
 refine List.ext_getElem? fun j=>?_
 rw [List.getElem?_set]
 by_cases hj:j<256
 · rw [uun _ _ hj,uun _ _ hj,yyM]
   by_cases e:i=j
   · subst e;rw [if_pos rfl,if_pos hi,if_pos (by omega)]
   · rw [if_neg e]
     by_cases h2:j<i
     · rw [if_pos h2,if_pos (by omega)]
     · rw [if_neg h2,if_neg (by omega)]
 · rw [List.getElem?_eq_none (by rw [yyM];omega),if_neg (by omega),List.getElem?_eq_none (by rw [yyM];omega)]
def TabC (g:Nat) (w:World):Prop:=w.heap[g]?=some (.cells jjt 39 (0,0))
theorem TabC.keep {g:Nat} {w w':World} (h:TabC g w) (hb:Below w.heap.size w w'):TabC g w':=(hb.block _ (zzc h)).trans h
theorem xxA {g:Nat} {t:TypeId} {fr:Nat×Nat}:∀ (vs old pre:List Value) (w:World),w.heap[g]?=some (.cells (pre++old).toArray t fr)->old.length=vs.length->(w.setCells g pre.length vs).heap[g]?=some (.cells (pre++vs).toArray t fr)
 | [],old,pre,w,h,hl=>by
   obtain rfl:old=[]:=List.length_eq_zero_iff.1 hl
   exact h
 | v::r,[],pre,w,h,hl=>by simp at hl
 | v::r,u::old,pre,w,h,hl=>by
   have h1:(w.setCell ⟨g,pre.length,none⟩ v).heap[g]?=some (.cells ((pre++[v])++old).toArray t fr):=zza h (by rw [List.setIfInBounds_toArray];congr 1;rw [List.set_append_right _ _ zN];simp)
   have h2:=xxA r old (pre++[v]) _ h1 (by simpa using hl)
   rw [List.length_append,List.length_singleton] at h2
   rw [List.append_assoc,List.singleton_append] at h2
   exact h2
theorem jju {B b:Nat} {a:World} (hb:B<=b):∀ (vs:List Value) (o:Nat) (w:World),Below B a w->Below B a (w.setCells b o vs)
 | [],_,_,h=>h
 | v::r,o,_,h=>jju hb r (o+1) _ (zzi h hb v)
structure NewR (w0:World) (i:Nat) (w:World):Prop where
 tab:w.heap[w0.heap.size+1]?=some (.cells (tabL i).toArray 39 (0,0))
 res:w.heap[w0.heap.size]?=some (.cells (tabL 0).toArray 39 (0,0))
 below:Below w0.heap.size w0 w
theorem NewR.set {w0 w:World} {i:Nat} (h:NewR w0 i w) (hi:i<256):NewR w0 (i+1) (w.setCell ⟨w0.heap.size+1,i,none⟩ (.int .u32 (yyr i:Int))) :=
 ⟨zza h.tab (tabL_set i hi),(Below.heap_setCell _ _ _ _ (by simp)).trans h.res,zzi h.below (by omega) _⟩
theorem u32_step (r:Nat) (h:r<4294967296):bits BinOp.xor IntKind.u32 ((r:Int) / 2) (bits BinOp.and IntKind.u32 (r:Int) 1*2197175160 % 4294967296)=((xxS r:Nat):Int):=by
 rw [show bits BinOp.and IntKind.u32 (r:Int) 1=((r % 2:Nat):Int) by rw [show (1:Int)=((1:Nat):Int) from rfl,u32_and_nat r 1 h (by omega),nat_mask1],show (r:Int) / 2=((r / 2:Nat):Int) by omega]
 unfold xxS
 rcases Nat.mod_two_eq_zero_or_one r with h2 | h2
 · rw [h2,if_neg (by omega),show (((0:Nat):Int)*2197175160) % 4294967296=((0:Nat):Int) by decide,u32_xor_nat _ _ (by omega) (by omega),Nat.xor_zero]
 · rw [h2,if_pos rfl,show (((1:Nat):Int)*2197175160) % 4294967296=((2197175160:Nat):Int) by decide,u32_xor_nat _ _ (by omega) (by omega)]
structure NewX (w0 w:World):Prop where
 res:w.heap[w0.heap.size]?=some (.cells jjt 39 (0,0))
 below:Below w0.heap.size w0 w
theorem new_any (w:World):Calls Tryz.prog 19 #[] w fun e w'=>e=.returned (.agg jjt)/\Below w.heap.size w w':=by
 have hr0:NewR w 0 ((w.alloc (.cells Tryz.zeroCells39 39)).alloc (.cells Tryz.zeroCells39 39)):=by
  have h1:=heap_alloc_new (w.alloc (.cells Tryz.zeroCells39 39)) (.cells Tryz.zeroCells39 39)
  rw [zS,xxh] at h1
  have h2:=heap_alloc_new w (.cells Tryz.zeroCells39 39)
  rw [xxh] at h2
  rw [xxh]
  exact⟨h1,(Below.heap_alloc _ _ _ (by simp)).trans h2,((zR).alloc zN _).alloc (by simp) _⟩
 have HR0:=zH hr0
 clear hr0
 go_enter Tryz.func19,Tryz.ntmps19
 go_wp2_with fail
 go_loopw [4] (fun iv wr=>∃ (i:Nat),i<=256/\iv=.int .i64 (i:Int)/\NewR w i wr) (fun iv _=>256 - (intOf iv).toNat)
 case atStart=>exact⟨0,Nat.zero_le _,rfl,HR0.out⟩
 case round =>
  obtain⟨i,hi,rfl,hr⟩:=hrel
  have HR:=zH hr
  clear hr
  obtain⟨wo,hwo⟩:∃ wo,wo=wr:=⟨_,rfl⟩
  rw [<-hwo] at HR ⊢
  clear hwo wr
  by_cases hlt:i<256
  · have hi1:(i:Int)<256:=by omega
    have hi0:(0:Int)<=(i:Int):=by omega
    have hi2:(i:Int)<4294967296:=by omega
    go_wp2_with fail
    go_loopw [3,9] (fun rv kv wx=>∃ (k:Nat),k<=8/\kv=.int .i64 (k:Int)/\rv=.int .u32 (yy8 k i:Nat)/\wo=wx) (fun _ kv _=>8 - (intOf kv).toNat)
    case atStart=>exact⟨0,Nat.zero_le _,rfl,rfl,rfl⟩
    case round =>
     obtain⟨k,hk,rfl,rfl,rfl⟩:=hrel
     by_cases hk8:k<8
     · have hk1:(k:Int)<8:=by omega
       have hb:=vvW (r:=i) (by omega) k
       have hs:yy8 (k+1) i=xxS (yy8 k i):=rfl
       obtain⟨r,hr⟩:∃ r,r=yy8 k i:=⟨_,rfl⟩
       rw [<-hr] at hb hs ⊢
       have HS:=zH hs;have HB:=zH hb
       clear hr hs
       go_wp2_with fail
       go_roundw
       case rel=>exact⟨k+1,by omega,by go_num,by rw [HS.out,<-u32_step r HB.out],trivial⟩
       case measure=>simp [intOf];omega
     · obtain rfl:k=8:=by omega
       have HS:=zH (HR.out.set hlt)
       have hc:wo.cell? ⟨w.heap.size+1,i,none⟩=some (.int .u32 0):=by
        rw [zC HR.out.tab]
        have:=uun i i hlt
        rw [if_neg (by omega)] at this
        simpa using this
       have hf:=zF HR.out.tab i
       obtain⟨z,hz⟩:∃ z:Int,z=((yy8 8 i:Nat):Int):=⟨_,rfl⟩
       have HZ:=zH hz
       rw [<-hz]
       clear hz
       go_wp2_with fail
       go_roundw
       case rel=>exact⟨i+1,by omega,by go_num,by rw [HZ.out];exact HS.out⟩
       case measure=>simp [intOf];omega
  · obtain rfl:i=256:=by omega
    have hra:wo.rangeAt (w.heap.size+1) 0 (tabL 256):=World.rangeAt_of_block HR.out.tab 0 256
    have hth:wo.there w.heap.size 0 (tabL 256).toArray.size:=by
     intro j hj
     rw [List.size_toArray,yyM] at hj
     refine⟨?_,zF HR.out.res _⟩
     rw [zC HR.out.res]
     have:=uun 0 j hj
     simp [this]
    have h1c:(tabL 256).toArray.all (·.oneCell')=true:=by kernel_rfl
    have HX:=zH (show NewX w (wo.setCells w.heap.size 0 (tabL 256).toArray.toList) from ⟨xxA (tabL 256) (tabL 0) [] wo HR.out.res (by rw [yyM,yyM]),jju zN _ _ _ HR.out.below⟩)
    go_wp2_with (first
     | (with_reducible refine wpList_load_mid rfl _ _ rfl (w.heap.size+1) 0 rfl (tabL 256) _ hra Tryz.underlying39 rfl (by kernel_rfl) ?_)
     | (with_reducible refine wpList_store_mid rfl _ _ _ rfl w.heap.size 0 (tabL 256).toArray rfl rfl hth (by kernel_rfl) h1c ?_)
     | fail)
    refine bodyPost_ret (results_cell_row rfl _ _ w.heap.size _ _ (0,0) _ rfl HX.out.res Tryz.underlying39 rfl (by kernel_rfl)) rfl ⟨rfl,HX.out.below⟩
theorem sum_any (F:Nat->Prop) (A:Option Addr) (n c:Nat) (l:List UInt8) (w:World) (h:Sl tU8 F w A n c l) (hn:n<=4294967296):Calls Tryz.prog 68 #[.slice A n c] w fun e w'=>e=.returned (.int .u32 (yy9 l:Nat))/\w=w':=by
 have HH:=zH h;have HL:=zH h.len
 clear h
 go_enter Tryz.func68,Tryz.ntmps68
 go_wp2_with fail
 go_loopw [3,4] (fun rv kv wr=>∃ (k:Nat),k<=n/\kv=.int .i64 (k:Int)/\rv=.int .u32 (zzO (l.take k):Nat)/\w=wr) (fun _ kv _=>n - (intOf kv).toNat)
 case atStart=>exact⟨0,Nat.zero_le _,rfl,rfl,rfl⟩
 case round =>
  obtain⟨k,hk,rfl,rfl,rfl⟩:=hrel
  by_cases hlt:k<n
  · have hkl:k<l.length:=by rw [<-HL.out];exact hlt
    obtain⟨b,o,u,rfl,_,_,hr,hc⟩:=HH.out.at1 hkl rfl
    obtain⟨x,hx⟩:∃ x,x=l[k]:=⟨_,rfl⟩
    rw [<-hx] at hr
    injection hr with hr;subst hr
    have hb:=xxg (l.take k)
    have hs:zzO (l.take (k+1))=jjs (zzO (l.take k)) x:=by rw [zT hkl,xxT,hx]
    obtain⟨r,hr⟩:∃ r,r=zzO (l.take k):=⟨_,rfl⟩
    rw [<-hr] at hb hs ⊢
    unfold jjs at hs
    obtain⟨q,hq⟩:∃ q,q=r ^^^ x.toNat:=⟨_,rfl⟩
    have hx8:x.toNat<256:=x.toNat_lt
    have hq32:q<4294967296:=by rw [hq];exact kqY hb (by omega)
    have HQ:=zH (show wrap64 ((bits BinOp.xor IntKind.u32 (r:Int) ((x.toNat:Int) % 4294967296)).tmod 256)=((q % 256:Nat):Int) by
     rw [show (x.toNat:Int) % 4294967296=((x.toNat:Nat):Int) by omega,u32_xor_nat r x.toNat hb (by omega),<-hq]
     have:((q:Nat):Int).tmod 256=((q % 256:Nat):Int):=by rw [Int.tmod_eq_emod_of_nonneg (by omega)];omega
     rw [this];unfold wrap64;omega)
    rw [<-hq] at hs
    obtain⟨z,hz⟩:∃ z,z=yyr (q % 256):=⟨_,rfl⟩
    have hz32:z<4294967296:=by rw [hz];exact vvG (by omega)
    have HZ:=zH hz
    rw [<-hz] at hs
    have HS:=zH (show bits BinOp.xor IntKind.u32 ((r:Int) / 256) (z:Int)=((zzO (l.take (k+1)):Nat):Int) by
     rw [hs,show (r:Int) / 256=((r / 256:Nat):Int) by omega]
     exact u32_xor_nat _ _ (by omega) hz32)
    have hi0:(0:Int)<=(k:Int):=by omega
    have hi1:(k:Int)<(n:Int):=by omega
    have hq256:q % 256<256:=Nat.mod_lt _ (by omega)
    clear hr hs hx hq hz hq32 hx8 hz32
    go_wp2_with (first
     | (go_at_call 129;rw [HQ.out];refine (entry_any (q % 256) hq256 _).mono ?_;rintro e w' ⟨rfl,rfl⟩;rw [<-HZ.out])
     | fail)
    go_roundw
    case rel=>exact⟨k+1,by omega,by go_num,by rw [HS.out],trivial⟩
    case measure=>simp [intOf];omega
  · obtain rfl:k=n:=by omega
    have e1:l.take k=l:=zL (by rw [<-HL.out];exact Nat.le_refl _)
    have HE:=zH (show bits BinOp.xor IntKind.u32 ((zzO l:Nat):Int) 4294967295=((yy9 l:Nat):Int) from u32_ones _ (xxg l))
    rw [e1]
    go_wp2_with fail
    go_ret
    exact⟨ret_u32 HE.out,rfl⟩
end
section
open Go Go.RowKit
theorem xqs (sg:Bool) (x:Int) (h0 : -9223372036854775808<=x) (h1:x<=9223372036854775807) (hs:sg=true∨0<=x) (w:World) :
 Calls Tryz.prog 312 #[.int .i64 x,.bool sg] w fun e w'=>e=.returned (.tuple #[.int .u64 ((uOf sg x:Nat):Int),.bool true])/\w=w':=by
 cases sg with
 | true =>
   go_enter Tryz.func312,Tryz.ntmps312
   go_wp2_with (first
    | (go_at_call 179;refine (kqS x _ h0 h1).mono ?_;rintro e w1 ⟨rfl,rfl⟩)
    | fail)
   go_ret2
   exact⟨rfl,rfl⟩
 | false =>
   have hx:0<=x:=hs.resolve_left (by decide)
   obtain⟨k,rfl⟩:=Int.eq_ofNat_of_zero_le hx
   have hu:uOf false (k:Int)=k:=by unfold uOf;simp
   have HU:=zH hu
   have f1:IntKind.u64.wrap (k:Int)=(k:Int):=yyu k (by omega)
   clear hs hu
   go_enter Tryz.func312,Tryz.ntmps312
   go_wp2_with fail
   go_ret2
   exact⟨by rw [HU.out];rfl,rfl⟩
theorem rlong_any (u:Nat) (hu:U64 u) (w:World):Calls Tryz.prog 313 #[.int .u64 (u:Int)] w fun e w'=>e=.returned (.int .i64 ((long u:Nat):Int))/\w=w':=by
 have hb:=xxd hu
 obtain⟨b,hbe⟩:∃ b,b=bl u:=⟨_,rfl⟩
 have HB:=zH hbe
 rw [<-hbe] at hb
 have HL:=zH (show ((long u:Nat):Int)=max 1 (((b:Int)+7) / 8) by unfold long;rw [<-hbe];omega)
 clear hbe
 go_enter Tryz.func313,Tryz.ntmps313
 go_wp2_with (first
  | (go_at_call 315;refine (xxR u hu _).mono ?_;rintro e w1 ⟨rfl,rfl⟩;rw [<-HB.out])
  | fail)
 go_ret
 exact⟨by rw [HL.out];rfl,rfl⟩
theorem be_take (n u t:Nat) (h:t<n):(be n u).take (t+1)=(be n u).take t++[UInt8.ofNat (u / 256 ^ (n - 1 - t))]:=by
 have hl:t<(be n u).length:=by rw [yyU];exact h
 rw [zT hl]
 have:=qzt n u t h
 rw [List.getElem?_eq_getElem hl] at this
 rw [Option.some.inj this]
theorem rhigh_any (B u n:Nat) (_:U64 u) (hn:n<=8) (A:Option Addr) (m c:Nat) (L:List UInt8) (hm:m<=100) (w:World) (h:OwnB w B A m c L) (hB:B<=w.heap.size) :
 Calls Tryz.prog 314 #[.int .u64 (u:Int),.int .i64 (n:Int),.slice A m c] w fun e w'=>∃ A' m' c',e=.returned (.slice A' m' c')/\OwnB w' B A' m' c' (L++be n u)/\Below B w w':=by
 have HH:=zH h
 clear h
 go_enter Tryz.func314,Tryz.ntmps314
 go_wp2_with fail
 go_loopw [2,7] (fun av iv wr=>∃ (j:Nat) (z:Int) (A2:Option Addr) (c2:Nat),j<=n/\z=(j:Int) - 1/\iv=.int .i64 z/\av=.slice A2 (m+(n - j)) c2/\OwnB wr B A2 (m+(n - j)) c2 (L++(be n u).take (n - j))/\Below B w wr)
  (fun _ iv _=>(intOf iv+1).toNat)
 case atStart=>exact⟨n,(n:Int) - 1,A,c,Nat.le_refl _,rfl,by first | rfl | go_num,by simp,by rw [Nat.sub_self,Nat.add_zero,List.take_zero,List.append_nil];exact HH.out,zR⟩
 case round =>
  obtain⟨j,z,A2,c2,hj,hz,rfl,rfl,ho,hb⟩:=hrel
  have HO:=zH ho;have HB:=zH hb
  clear ho hb
  cases j with
  | zero =>
    have z1:¬ 0<=z:=by omega
    clear hz
    go_wp2_with fail
    go_ret
    exact⟨A2,_,c2,rfl,by have:=HO.out;rw [Nat.sub_zero,zL (by rw [yyU];exact Nat.le_refl _)] at this;exact this,HB.out⟩
  | succ i =>
    obtain rfl:z=(i:Int):=by omega
    have z0:(0:Int)<=(i:Int):=by omega
    clear hz
    obtain⟨p,hp⟩:∃ p,n - (i+1)=p:=⟨_,rfl⟩
    obtain⟨y,hy⟩:∃ y:UInt8,y=UInt8.ofNat (u / 256 ^ i):=⟨_,rfl⟩
    have hyn:((y.toNat:Nat):Int)=((u / 2 ^ (8*i) % 256:Nat):Int):=by rw [hy,UInt8.toNat_ofNat',uuV]
    have f1:IntKind.u8.wrap ((u:Int) / 2 ^ (8*i))=((y.toNat:Nat):Int):=by
     rw [hyn,IntKind.wrap_u8,show (u:Int) / 2 ^ (8*i)=((u / 2 ^ (8*i):Nat):Int) by simp]
     omega
    have f2:(u:Int) / 2 ^ (8*i) % 256=((y.toNat:Nat):Int):=by
     rw [hyn,show (u:Int) / 2 ^ (8*i)=((u / 2 ^ (8*i):Nat):Int) by simp]
     omega
    have HT:=zH (show (be n u).take (p+1)=(be n u).take p++[y] by rw [be_take n u p (by omega),hy,show n - 1 - p=i by omega])
    rw [hp] at HO
    have HP:=zH hp
    rw [hp]
    have hp8:p<=8:=by omega
    clear hp hy hyn
    go_wp2_with (first
     | (at_builtin;refine apb1 wr w rfl (.tmp 14) (.tmp 20) rfl B A2 (m+p) c2 (L++(be n u).take p) rfl HO.out HB.out hB _ rfl y rfl (by omega) ?_;intro A3 c3 w3 h3 hb3 _)
     | fail)
    go_roundw
    case rel=>exact⟨i,(i:Int) - 1,A3,c3,by omega,rfl,by first | rfl | go_num,by rw [show n - i=p+1 by have:=HP.out;omega];rfl,by rw [show n - i=p+1 by have:=HP.out;omega,HT.out,<-List.append_assoc];exact h3,hb3⟩
    case measure=>simp [intOf]
end
section
open Go Go.RowKit
theorem vvh (a b:Nat) (ha:a<1048576) (hb:b<1048576):bits .or .i64 (a:Int) (b:Int)=((a ||| b:Nat):Int):=by
 have hx:a ||| b<2 ^ 20:=Nat.or_lt_two_pow (by omega) (by omega)
 show IntKind.i64.wrap ((BitVec.ofInt 64 (a:Int) ||| BitVec.ofInt 64 (b:Int)).toNat:Int)=_
 rw [BitVec.toNat_or,ofInt_u64 a (by omega),ofInt_u64 b (by omega)]
 rw [IntKind.wrap_i64]
 omega
def zzV (o:Option (List UInt8)) (w:World) (e:Ending) (w':World):Prop:=Below w.heap.size w w'/\match o with
 | none=>e=.returned (.tuple #[.slice none 0 0,.int .i64 1])
 | some b=>∃ A n c,e=.returned (.tuple #[.slice A n c,.int .i64 0])/\OwnB w' w.heap.size A n c b
theorem qxB (sg:Bool) (x:Int) (h0 : -9223372036854775808<=x) (h1:x<=9223372036854775807) (hs:sg=true∨0<=x) (t:Nat) (ht:t<=512) (w:World) :
 Calls Tryz.prog 281 #[.int .i64 x,.int .i64 (t:Int),.bool sg] w (zzV (if 3<=t/\t<=10 then some (repB (uOf sg x) t) else none) w):=by
 have hu:=qxr (sg:=sg) h0 h1
 obtain⟨u,hue⟩:∃ u,u=uOf sg x:=⟨_,rfl⟩
 have HPL:=zH (xqs sg x h0 h1 hs)
 rw [<-hue] at hu HPL ⊢
 have HU:=zH hu
 clear hue hs hu
 by_cases hc:3<=t/\t<=10
 · rw [if_pos hc]
   have z1:¬ (t:Int)<3:=by omega
   have z2:¬ (t:Int) > 10:=by omega
   have hl:=long_le HU.out
   obtain⟨n,hn⟩:∃ n,n+1=long u:=⟨long u - 1,by omega⟩
   have HN:=zH hn
   rw [<-hn] at hl
   obtain⟨y,hy⟩:∃ y:UInt8,y=UInt8.ofNat (8*n+t - 3):=⟨_,rfl⟩
   have HY:=zH (show bits .or .i64 ((n:Int)*8) ((t:Int) - 3) % 256=((y.toNat:Nat):Int) by
    have e1:=vvh (n*8) (t - 3) (by omega) (by omega)
    rw [nat_join 3 (n*8) (t - 3) (by omega) (by omega)] at e1
    rw [show (n:Int)*8=((n*8:Nat):Int) by simp,show (t:Int) - 3=((t - 3:Nat):Int) by omega,e1,hy,UInt8.toNat_ofNat']
    omega)
   have HYB:=zH (show repB u t=[y]++be (n+1) u by rw [repB,<-HN.out,hy];simp)
   clear hn hy
   have HHI:Hid (∀ w:World,Calls Tryz.prog 314 #[.int .u64 (u:Int),.int .i64 ((n:Int)+1),.slice (some ⟨w.heap.size,0,none⟩) 1 1] (w.alloc (.cells #[.int .u8 ((y.toNat:Nat):Int)] 5)) fun e w'=>∃ A' m' c',e=.returned (.slice A' m' c')/\OwnB w' w.heap.size A' m' c' ([y]++be (n+1) u)/\Below w.heap.size w w'):=zH (fun w=>by
    have ho:OwnB (w.alloc (.cells #[.int .u8 ((y.toNat:Nat):Int)] 5)) w.heap.size (some ⟨w.heap.size,0,none⟩) 1 1 [y]:=World.ownsRow_lit w #[.int .u8 ((y.toNat:Nat):Int)] 1 zN (by simp [maxLen]) rfl
    have hb:Below w.heap.size w (w.alloc (.cells #[.int .u8 ((y.toNat:Nat):Int)] 5)):=(zR).alloc zN _
    refine (rhigh_any w.heap.size u (n+1) HU.out (by omega) _ 1 1 [y] (by omega) _ ho hb.size).mono ?_
    rintro e w1 ⟨A3,m3,c3,rfl,h3,hb3⟩
    exact⟨A3,m3,c3,rfl,h3,hb.trans hb3⟩)
   go_enter Tryz.func281,Tryz.ntmps281
   go_wp2_with (first
    | (go_at_call 312;refine (HPL.out _).mono ?_;rintro e w1 ⟨rfl,rfl⟩)
    | (go_at_call 313;refine (rlong_any u HU.out _).mono ?_;rintro e w1 ⟨rfl,rfl⟩;rw [<-HN.out])
    | (rw [HY.out];go_at_call 314;refine (HHI.out w).mono ?_;rintro e w1 ⟨A3,m3,c3,rfl,h3,hb3⟩;have HH3:=zH h3;have HB3:=zH hb3;clear h3 hb3)
    | fail)
   go_ret2
   exact⟨HB3.out,A3,m3,c3,rfl,by rw [HYB.out];exact HH3.out⟩
 · rw [if_neg hc]
   by_cases z1:(t:Int)<3
   · clear hc
     go_enter Tryz.func281,Tryz.ntmps281
     go_wp2_with (first
      | (go_at_call 312;refine (HPL.out _).mono ?_;rintro e w1 ⟨rfl,rfl⟩)
      | fail)
     go_ret2
     exact⟨zR,rfl⟩
   · have z2:(t:Int) > 10:=by omega
     clear hc
     go_enter Tryz.func281,Tryz.ntmps281
     go_wp2_with (first
      | (go_at_call 312;refine (HPL.out _).mono ?_;rintro e w1 ⟨rfl,rfl⟩)
      | fail)
     go_ret2
     exact⟨zR,rfl⟩
end
section
open Go Go.RowKit
section
variable {w0 w:World} {B g s:Nat} {L:List UInt8}
end
end
section
open Go Go.RowKit
end
end Go.Proofs.YtpmglcachffojaaGreatDoor
