/- A part of what Indexes leans on. -/
import Derived.Test.YtpmglcachffojaaGreatDoorZ11
import Derived.Test.YtpmglcachffojaaGreatDoorZ12
import Derived.Test.YtpmglcachffojaaGreatDoorZ24
import Derived.Laws.Rows
set_option maxRecDepth 100000
set_option maxHeartbeats 16000000
namespace Go.Proofs.YtpmglcachffojaaGreatDoor
section
open Go Go.RowKit
attribute [local go_sem ↓] Go.wp_at_zero Go.wp_at_succ
def u64n (x:Int):Nat:=(x % 18446744073709551616).toNat
theorem qzc (x:Int):IntKind.u64.wrap x=(u64n x:Int):=by rw [IntKind.wrap_u64];unfold u64n;omega
theorem u64n_lt (x:Int):u64n x<18446744073709551616:=by unfold u64n;omega
def unum (tag x:Int):Fld:=fnum tag (u64n x)
def strF (s:Int×List UInt8):List Fld:=[unum 4 s.1,ftxt 5 s.2]
def yy0 (m enc tx:Int) (ss:List (Int×List UInt8)):List Fld:=[unum 1 m,unum 2 enc,unum 3 tx]++(ss.map strF).flatten
def vvn (m enc tx:Int) (ss:List (Int×List UInt8)):List UInt8:=vvF (dput (yy0 m enc tx ss))
theorem zqV (m enc tx:Int) (ss:List (Int×List UInt8)) {k:Nat} (h:k<ss.length):yy0 m enc tx (ss.take (k+1))=yy0 m enc tx (ss.take k)++strF ss[k]:=by
 unfold yy0
 rw [zT h,List.map_append,List.flatten_append,List.append_assoc]
 simp
theorem uu2:zzP Tryz.prog 111 114 tFld.size:=zzP.mk' (bytes:=48) (z:=.agg #[.int .i64 0,.bool false,.int .u64 0,.slice none 0 0]) (by kernel_rfl) (by kernel_rfl) rfl (by decide) (by decide)
theorem vv6:zzP Tryz.prog 119 120 tFld.size:=zzP.mk' (bytes:=48) (z:=.agg #[.int .i64 0,.bool false,.int .u64 0,.slice none 0 0]) (by kernel_rfl) (by kernel_rfl) rfl (by decide) (by decide)
theorem yys {F:Nat->Prop} {w:World} {tag x:Int} (h:i64 tag):tFld.rep F w [.int .i64 tag,.bool false,.int .u64 (u64n x:Int),.slice none 0 0] (unum tag x):=⟨none,0,0,rfl,h,u64n_lt x,Sl.nil_ _ _ _⟩
theorem OwnF.offNew {α:Type} {T:Ty α} {e:TypeId} {F:Nat->Prop} {w:World} {B:Nat} {A:Option Addr} {n c:Nat} {xs:List α} (h:OwnF T e F w B A n c xs) {p:Nat} (hp:w.heap.size<=p):some p≠A.map (·.block):=by
 intro he
 obtain⟨a,ha,hb⟩:=Option.map_eq_some_iff.1 he.symm
 have:=(h.lies (b:=a.block) (by rw [ha];rfl)).2.2
 omega
theorem vvo (tag x:Int) (w:World) :
 Calls Tryz.prog 60 #[.int .i64 tag,.int .i64 x] w (qzY tag false (u64n x) none 0 0 w):=by
 have HU:=zH (qzc x)
 go_enter Tryz.func60,Tryz.ntmps60
 go_wp2
 exact bodyPost_ret (v:=.agg #[.int .i64 tag,.bool false,.int .u64 (IntKind.u64.wrap x),.slice none 0 0]) (by simp [results,Tryz.results60,go_sem]) rfl ⟨by rw [HU.out],(Below.refl _ w).alloc zN _⟩
theorem kqv (tag:Int) (A:Option Addr) (n c:Nat) (w:World) :
 Calls Tryz.prog 61 #[.int .i64 tag,.slice A n c] w (qzY tag true 0 A n c w):=by
 go_enter Tryz.func61,Tryz.ntmps61
 go_wp2
 exact bodyPost_ret (v:=.agg #[_,_,_,_]) (by simp [results,Tryz.results61,go_sem]) rfl ⟨rfl,(Below.refl _ w).alloc zN _⟩
theorem kqw (tag x:Int) (w:World) :
 Calls Tryz.prog 64 #[.int .i64 tag,.int .i64 x] w (qzY tag false (u64n x) none 0 0 w):=by
 have HU:=zH (qzc x)
 go_enter Tryz.func64,Tryz.ntmps64
 go_wp2
 exact bodyPost_ret (v:=.agg #[.int .i64 tag,.bool false,.int .u64 (IntKind.u64.wrap x),.slice none 0 0]) (by simp [results,Tryz.results64,go_sem]) rfl ⟨by rw [HU.out],(Below.refl _ w).alloc zN _⟩
theorem zqW (tag:Int) (A:Option Addr) (n c:Nat) (w:World) :
 Calls Tryz.prog 65 #[.int .i64 tag,.slice A n c] w (qzY tag true 0 A n c w):=by
 go_enter Tryz.func65,Tryz.ntmps65
 go_wp2
 exact bodyPost_ret (v:=.agg #[_,_,_,_]) (by simp [results,Tryz.results65,go_sem]) rfl ⟨rfl,(Below.refl _ w).alloc zN _⟩
theorem kqx (g:Nat) (F:Nat->Prop) (A:Option Addr) (n c:Nat) (l:List Fld) (w:World) (hT:TabC g w) (h:Sl tFld F w A n c l) (hn:n<=4294967296) (hl:wlen l<=4294967100) :
 Calls Tryz.prog 63 #[.pointer (some ⟨g,0,none⟩),.slice A n c] w (Own1 w (vvF (dput l))):=by
 have HT:=zH hT;have HH:=zH h;have HD:=zH (Nat.le_trans (vvS l) hl)
 have hl2:wlen l<=4294967200:=by omega
 clear hT h
 go_enter Tryz.func63,Tryz.ntmps63
 go_wp2_with (first
  | (go_at_call 122;refine (qxM F A n c l _ HH.out hn hl2).mono ?_;rintro e w1 ⟨A1,n1,c1,rfl,ho1,hb1⟩;have HO1:=zH ho1;have HB1:=zH hb1;have hn1:n1<=4294967200:=(by have h1:=ho1.len;have h2:=HD.out;omega);clear ho1 hb1)
  | (go_at_call 123;refine (kqZ g _ A1 n1 c1 (dput l) _ (HT.out.keep HB1.out) HO1.out.bs hn1).mono ?_;rintro e w2 ⟨A2,n2,c2,rfl,ho2,hb2⟩;have HO2:=zH ho2;have HB2:=zH hb2;clear ho2 hb2)
  | fail)
 go_ret
 exact⟨A2,n2,c2,rfl,HO2.out.down HB1.out.size,HB1.out.trans (HB2.out.mono HB1.out.size)⟩
end
section
open Go Go.RowKit
attribute [local go_sem ↓] Go.wp_at_zero Go.wp_at_succ
def yyy (s:SS):List Fld:=[unum 1 s.count,fnum 2 (b2n s.hasNull),ftxt 3 (zzZ s.min),ftxt 4 (zzZ s.max),inum 5 s.sum,fnum 6 (b2n s.over)]
def zz7 (s:SS):List UInt8:=dput (yyy s)
theorem uuH (v:VV):(zzZ v).length<=v.s.size+60:=by
 have h:=vvS (zzQ v)
 have e:v.s.data.toList.length=v.s.size:=Array.length_toList
 have e2:wlen (zzQ v)=v.s.size+60:=by simp only [zzQ,wlen,fnum,ftxt,e,List.length_nil];omega
 unfold zzZ
 omega
def SS.ok (s:SS):Prop:=i64 s.count/\s.min.ok/\s.max.ok/\i64 s.sum/\s.min.s.size<=2000000/\s.max.s.size<=2000000
theorem xxe (s:SS) (h:s.ok):wlen (yyy s)<=4000400:=by
 have h1:=uuH s.min
 have h2:=uuH s.max
 obtain⟨_,_,_,_,h3,h4⟩:=h
 simp only [yyy,wlen,unum,inum,fnum,ftxt,List.length_nil]
 omega
theorem Reps.mk6 {α:Type} {T:Ty α} {F:Nat->Prop} {w:World} {c1 c2 c3 c4 c5 c6:List Value} {x1 x2 x3 x4 x5 x6:α} (h1:T.rep F w c1 x1) (h2:T.rep F w c2 x2) (h3:T.rep F w c3 x3) (h4:T.rep F w c4 x4) (h5:T.rep F w c5 x5) (h6:T.rep F w c6 x6):Reps T F w [c1,c2,c3,c4,c5,c6] [x1,x2,x3,x4,x5,x6] :=
 ((((((Reps.nil_ (T:=T) (F:=F) (w:=w)).snoc h1).snoc h2).snoc h3).snoc h4).snoc h5).snoc h6
theorem vvp {F:Nat->Prop} {w:World} {tag:Int} {n:Nat} (h:i64 tag) (hn:n<18446744073709551616):tFld.rep F w [.int .i64 tag,.bool false,.int .u64 (n:Int),.slice none 0 0] (fnum tag n):=⟨none,0,0,rfl,h,hn,Sl.nil_ _ _ _⟩
theorem unum_repW {F:Nat->Prop} {w:World} {tag x:Int} (h:i64 tag):tFld.rep F w [.int .i64 tag,.bool false,.int .u64 (IntKind.u64.wrap x),.slice none 0 0] (unum tag x):=by rw [qzc];exact yys h
theorem wnum_any (tag x:Int) (w:World) :
 Calls Tryz.prog 117 #[.int .i64 tag,.int .i64 x] w (qzY tag false (u64n x) none 0 0 w):=by
 have HU:=zH (qzc x)
 go_enter Tryz.func117,Tryz.ntmps117
 go_wp2
 exact bodyPost_ret (v:=.agg #[.int .i64 tag,.bool false,.int .u64 (IntKind.u64.wrap x),.slice none 0 0]) (by simp [results,Tryz.results117,go_sem]) rfl ⟨by rw [HU.out],(Below.refl _ w).alloc zN _⟩
theorem xxc (s:SS) (h:s.ok) (w:World) :
 Calls Tryz.prog 62 #[.agg #[.int .i64 s.count,.bool s.hasNull,.bool s.min.null,.int .i64 s.min.n,.string s.min.s,.bool s.max.null,.int .i64 s.max.n,.string s.max.s,.int .i64 s.sum,.bool s.over]] w (Own1 w (zz7 s)):=by
 have HW:=zH (show wlen (yyy s)<=4294967200 by have:=xxe s h;omega)
 obtain⟨_,hmin,hmax,⟨hs0,hs1⟩,hz1,hz2⟩:=h
 have HZ:=zH (jje s.sum hs0 hs1)
 go_enter Tryz.func62,Tryz.ntmps62
 go_wp2_with fail
 go_region_held3 (fun w'=>w'.cell? ⟨w.heap.size,0,none⟩=some (.int .i64 s.count)/\w'.cell? ⟨w.heap.size,1,none⟩=some (.bool s.hasNull)/\w'.cell? ⟨w.heap.size,2,none⟩=some (.bool s.min.null)/\w'.cell? ⟨w.heap.size,3,none⟩=some (.int .i64 s.min.n)/\w'.cell? ⟨w.heap.size,4,none⟩=some (.string s.min.s)/\w'.cell? ⟨w.heap.size,5,none⟩=some (.bool s.max.null)/\w'.cell? ⟨w.heap.size,6,none⟩=some (.int .i64 s.max.n)/\w'.cell? ⟨w.heap.size,7,none⟩=some (.string s.max.s)/\w'.cell? ⟨w.heap.size,8,none⟩=some (.int .i64 s.sum)/\w'.cell? ⟨w.heap.size,9,none⟩=some (.bool s.over))
  (first | go_keep | (go_split_ands;refine⟨?_,?_,?_,?_,?_,?_,?_,?_,?_,?_⟩ <;> exact zzh (by assumption) (by assumption)))
  (first
    | (go_at_call 117;refine (wnum_any _ _ _).mono ?_;rintro e w1 ⟨rfl,hb1⟩)
    | (go_at_call_of 118 (Value.int .i64 2);refine (jjI _ _ _).mono ?_;rintro e w2 ⟨rfl,hb2⟩)
    | (go_at_call 120;have _g:=hb3;refine (uuF s.max hmax (by omega) _).mono ?_;rintro e w5 ⟨A5,n5,c5,rfl,hown5,hb5⟩;have hs5:=hown5.bs.any)
    | (go_at_call 120;refine (uuF s.min hmin (by omega) _).mono ?_;rintro e w3 ⟨A3,n3,c3,rfl,hown3,hb3⟩;have hs3:=hown3.bs.any)
    | (go_at_call_of 119 (Value.int .i64 3);refine (qzb _ _ _ _ _).mono ?_;rintro e w4 ⟨rfl,hb4⟩)
    | (go_at_call_of 119 (Value.int .i64 4);refine (qzb _ _ _ _ _).mono ?_;rintro e w6 ⟨rfl,hb6⟩)
    | (go_at_call 121;refine (qxL _ _ _ hs0 hs1).mono ?_;rintro e w7 ⟨rfl,hb7⟩)
    | (go_at_call_of 118 (Value.int .i64 6);refine (jjI _ _ _).mono ?_;rintro e w8 ⟨rfl,hb8⟩)
    | (go_at_call 116
       refine (qzZ (fun _=>True) _ 6 6 (yyy s) _ ((Sl.news (T:=tFld) (F:=fun _=>True) (Reps.mk6 (yys (by unfold i64;omega)) (vvp (by unfold i64;omega) (jjJ _)) (vvc (by unfold i64;omega) (by have hh:=hs3;(repeat (first | assumption | exact Sl.nil_ _ _ _ | exact (kqR (by assumption)).any | (refine kqg (by assumption) ?_;simp;done) | refine Sl.below ?_ (by assumption) zN | refine Sl.alloc ?_ _ | refine Sl.drew ?_)))) (vvc (by unfold i64;omega) (by have hh:=hs5;(repeat (first | assumption | exact Sl.nil_ _ _ _ | exact (kqR (by assumption)).any | (refine kqg (by assumption) ?_;simp;done) | refine Sl.below ?_ (by assumption) zN | refine Sl.alloc ?_ _ | refine Sl.drew ?_)))) (vvp (by unfold i64;omega) HZ.out) (vvp (by unfold i64;omega) (jjJ _))) 114 6 rfl (by omega) _ rfl).any) (by omega) HW.out).mono ?_
       rintro e w9 ⟨A9,n9,c9,rfl,hown9,hb9⟩))
 all_goals
  go_wp2_with fail
  go_ret
  exact⟨A9,n9,c9,rfl,hown9.down (by refine Nat.le_trans ?_ zN;refine (show Below w.heap.size w _ from ?_).size;(repeat (first | exact zR | assumption | refine jja ?_ (by assumption) | refine xxK ?_ _ | refine jjb ?_))),by (repeat (first | exact zR | assumption | refine jja ?_ (by assumption) | refine xxK ?_ _ | refine jjb ?_))⟩
theorem xxE (s:SS) (h:s.ok) (w:World) :
 Calls Tryz.prog 66 #[.agg #[.int .i64 s.count,.bool s.hasNull,.bool s.min.null,.int .i64 s.min.n,.string s.min.s,.bool s.max.null,.int .i64 s.max.n,.string s.max.s,.int .i64 s.sum,.bool s.over]] w (Own1 w (zz7 s)):=by
 have HW:=zH (show wlen (yyy s)<=4294967200 by have:=xxe s h;omega)
 obtain⟨_,hmin,hmax,⟨hs0,hs1⟩,hz1,hz2⟩:=h
 have HZ:=zH (jje s.sum hs0 hs1)
 go_enter Tryz.func66,Tryz.ntmps66
 go_wp2_with fail
 go_region_held3 (fun w'=>w'.cell? ⟨w.heap.size,0,none⟩=some (.int .i64 s.count)/\w'.cell? ⟨w.heap.size,1,none⟩=some (.bool s.hasNull)/\w'.cell? ⟨w.heap.size,2,none⟩=some (.bool s.min.null)/\w'.cell? ⟨w.heap.size,3,none⟩=some (.int .i64 s.min.n)/\w'.cell? ⟨w.heap.size,4,none⟩=some (.string s.min.s)/\w'.cell? ⟨w.heap.size,5,none⟩=some (.bool s.max.null)/\w'.cell? ⟨w.heap.size,6,none⟩=some (.int .i64 s.max.n)/\w'.cell? ⟨w.heap.size,7,none⟩=some (.string s.max.s)/\w'.cell? ⟨w.heap.size,8,none⟩=some (.int .i64 s.sum)/\w'.cell? ⟨w.heap.size,9,none⟩=some (.bool s.over))
  (first | go_keep | (go_split_ands;refine⟨?_,?_,?_,?_,?_,?_,?_,?_,?_,?_⟩ <;> exact zzh (by assumption) (by assumption)))
  (first
    | (go_at_call_of 124 (Value.int .i64 1);refine (vvm _ _ _).mono ?_;rintro e w1 ⟨rfl,hb1⟩)
    | (go_at_call_of 124 (Value.int .i64 2);refine (vvm _ _ _).mono ?_;rintro e w2 ⟨rfl,hb2⟩)
    | (go_at_call_of 124 (Value.int .i64 5);refine (vvm _ _ _).mono ?_;rintro e w4 ⟨rfl,hb4⟩)
    | (go_at_call_of 124 (Value.int .i64 6);refine (vvm _ _ _).mono ?_;rintro e w6 ⟨rfl,hb6⟩)
    | (go_at_call 125;refine (qxO _ _).mono ?_;rintro e w8 ⟨rfl,rfl⟩)
    | (go_at_call 127;refine (qxN _ _ hs0 hs1).mono ?_;rintro e w7 ⟨rfl,rfl⟩)
    | (go_at_call 126;have _g:=hb3;refine (xxC s.max hmax (by omega) _).mono ?_;rintro e w5 ⟨A5,n5,c5,rfl,hown5,hb5⟩;have hs5:=hown5.bs.any)
    | (go_at_call 126;refine (xxC s.min hmin (by omega) _).mono ?_;rintro e w3 ⟨A3,n3,c3,rfl,hown3,hb3⟩;have hs3:=hown3.bs.any)
    | (go_at_call 67
       refine (jjK (fun _=>True) _ 6 6 (yyy s) _ ((Sl.news (T:=tFld) (F:=fun _=>True) (Reps.mk6 (unum_repW (by unfold i64;omega)) (vvp (by unfold i64;omega) (jjJ _)) (vvc (by unfold i64;omega) (by have hh:=hs3;(repeat (first | assumption | exact Sl.nil_ _ _ _ | exact (kqR (by assumption)).any | (refine kqg (by assumption) ?_;simp;done) | refine Sl.below ?_ (by assumption) zN | refine Sl.alloc ?_ _ | refine Sl.drew ?_)))) (vvc (by unfold i64;omega) (by have hh:=hs5;(repeat (first | assumption | exact Sl.nil_ _ _ _ | exact (kqR (by assumption)).any | (refine kqg (by assumption) ?_;simp;done) | refine Sl.below ?_ (by assumption) zN | refine Sl.alloc ?_ _ | refine Sl.drew ?_)))) (vvp (by unfold i64;omega) HZ.out) (vvp (by unfold i64;omega) (jjJ _))) 120 6 rfl (by omega) _ rfl).any) (by omega) HW.out).mono ?_
       rintro e w9 ⟨A9,n9,c9,rfl,hown9,hb9⟩))
 all_goals
  go_wp2_with fail
  go_ret
  exact⟨A9,n9,c9,rfl,hown9.down (by refine Nat.le_trans ?_ zN;refine (show Below w.heap.size w _ from ?_).size;(repeat (first | exact zR | assumption | refine jja ?_ (by assumption) | refine xxK ?_ _ | refine jjb ?_))),by (repeat (first | exact zR | assumption | refine jja ?_ (by assumption) | refine xxK ?_ _ | refine jjb ?_))⟩
end
section
open Go Go.RowKit
theorem or_shl (x y k:Nat) (hx:x<128 ^ k) (hk:k<=9) :
 ∃ z:Nat,bits BinOp.or IntKind.u64 (x:Int) (IntKind.u64.wrap ((y:Int) % 128*2 ^ (7*k)))=(z:Int)/\z<18446744073709551616/\(k<9∨y % 128<=1->z=x+y % 128*128 ^ k):=by
 have e1:(2:Nat) ^ (7*k)=128 ^ k:=by rw [Nat.pow_mul]
 have e2:((y:Int) % 128*2 ^ (7*k))=((y % 128*128 ^ k:Nat):Int):=by
  rw [<-e1];push_cast;rfl
 rw [e2,IntKind.wrap_u64]
 have h9:(128:Nat) ^ 9<=18446744073709551616:=by decide
 have hx9:x<18446744073709551616:=Nat.lt_of_lt_of_le hx (Nat.le_trans (Nat.pow_le_pow_right (show 0<128 by decide) hk) h9)
 have e3:(((y % 128*128 ^ k:Nat):Int) % 18446744073709551616)=((y % 128*128 ^ k % 18446744073709551616:Nat):Int):=by generalize y % 128*128 ^ k=a;omega
 rw [e3,u64_or_nat _ _ hx9 (Nat.mod_lt _ (by decide))]
 refine⟨_,rfl,?_,fun h=>?_⟩
 · have e64:(2:Nat) ^ 64=18446744073709551616:=by decide
   have h1:x<2 ^ 64:=by rw [e64];exact hx9
   have h2:y % 128*128 ^ k % 18446744073709551616<2 ^ 64:=by rw [e64];exact Nat.mod_lt _ (by decide)
   have h3:=Nat.or_lt_two_pow h1 h2
   rw [e64] at h3
   exact h3
 · have hlt:y % 128*128 ^ k<18446744073709551616:=by
    rcases h with h | h
    · have:128 ^ k<=128 ^ 8:=Nat.pow_le_pow_right (by omega) (by omega)
      have h2:y % 128*128 ^ k<=127*128 ^ 8:=Nat.mul_le_mul (by omega) this
      exact Nat.lt_of_le_of_lt h2 (by decide)
    · have:128 ^ k<=128 ^ 9:=Nat.pow_le_pow_right (by omega) hk
      have h2:y % 128*128 ^ k<=1*128 ^ 9:=Nat.mul_le_mul h this
      exact Nat.lt_of_le_of_lt h2 (by decide)
   rw [Nat.mod_eq_of_lt hlt,<-e1,Nat.or_comm,<-Nat.shiftLeft_eq,Nat.add_comm]
   exact (Nat.shiftLeft_add_eq_or_of_lt (by rw [e1];exact hx) _).symm
theorem u64_or0 (x:Nat) (hx:x<18446744073709551616):bits BinOp.or IntKind.u64 (x:Int) 0=(x:Int):=by
 rw [show (0:Int)=((0:Nat):Int) from rfl,u64_or_nat _ _ hx (by decide)]
 simp
theorem vtk_more (k x:Nat) (c:UInt8) (r:List UInt8) (hk:k<10) (hc:128<=c.toNat):vtk (10 - k) k x (c::r)=vtk (10 - (k+1)) (k+1) (x+(c.toNat - 128)*128 ^ k) r:=by
 obtain⟨f,hf⟩:∃ f,10 - k=f+1:=⟨9 - k,by omega⟩
 rw [hf,show 10 - (k+1)=f by omega]
 simp [vtk,hc]
theorem vtk_out (k x:Nat) (r:List UInt8) (hk:9<=k):vtk (10 - (k+1)) (k+1) x r=none:=by
 rw [show 10 - (k+1)=0 by omega]
 simp only [vtk]
theorem vtk_bad (k x:Nat) (c:UInt8) (r:List UInt8) (hk:k<10) (hc:c.toNat<128) (hb:c.toNat=0/\0<k∨k=9/\1<c.toNat):vtk (10 - k) k x (c::r)=none:=by
 obtain⟨f,hf⟩:∃ f,10 - k=f+1:=⟨9 - k,by omega⟩
 rw [hf]
 simp only [vtk]
 rw [if_neg (by omega),if_pos hb]
theorem vtk_ok (k x:Nat) (c:UInt8) (r:List UInt8) (hk:k<10) (hc:c.toNat<128) (hb:¬ (c.toNat=0/\0<k∨k=9/\1<c.toNat)):vtk (10 - k) k x (c::r)=some (x+c.toNat*128 ^ k,r):=by
 obtain⟨f,hf⟩:∃ f,10 - k=f+1:=⟨9 - k,by omega⟩
 rw [hf]
 simp only [vtk]
 rw [if_neg (by omega),if_neg hb]
def TkPost (l:List UInt8) (w:World) (e:Ending) (w':World):Prop :=
 ∃ x A n c,e=.returned (.tuple #[.int .u64 (x:Nat),.slice A n c,.int .i64 (okc (zzN l).isSome 2)])/\Below w.heap.size w w' /\
  (∀ v r,zzN l=some (v,r)->x=v/\x<18446744073709551616/\OwnB w' w.heap.size A n c r)
theorem zqr (F:Nat->Prop) (A:Option Addr) (n c:Nat) (l:List UInt8) (w:World) (h:Bs F w A n c l) (hn:n<=4294967296) :
 Calls Tryz.prog 225 #[.slice A n c] w (TkPost l w):=by
 have HL:=zH h.len
 obtain⟨m,hm⟩:∃ m,m=min n 10:=⟨_,rfl⟩
 have hmn:m<=n:=by omega
 have hm10:m<=10:=by omega
 have HM:=zH hm;clear hm
 go_enter Tryz.func225,Tryz.ntmps225
 go_upto_region 2 with fail
 go_cut [8,10,11] from 8 to 11 (fun s8 s10 s11 wx=>s8=.slice A n c/\s10=.int .i64 m/\s11=.int .i64 0/\wx=w)
 case first =>
  go_wp2_with fail
  all_goals (go_meet;have hm:=HM.out;exact⟨rfl,by congr 1;omega,rfl,rfl⟩)
 obtain⟨rfl,rfl,rfl,rfl⟩:=hcut
 go_wp2_with fail
 go_loopw [5,11] (fun v i wr=>∃ (k x:Nat),k<=m/\i=.int .i64 k/\v=.int .u64 (x:Nat)/\wr=wc/\vtk (10 - k) k x (l.drop k)=zzN l/\(k<10->x<128 ^ k)/\x<18446744073709551616)
  (fun _ i _=>m - (intOf i).toNat)
 case atStart=>exact⟨0,0,Nat.zero_le _,rfl,rfl,rfl,rfl,by omega,by omega⟩
 case round =>
  obtain⟨k,x,hk,rfl,rfl,rfl,hv,hx,hx2⟩:=hrel
  by_cases hlt:k<m
  · have hkl:k<l.length:=by rw [<-HL.out];omega
    obtain⟨b,o,u,rfl,_,hbl,hrep,hc⟩:=h.at1 hkl (by decide)
    obtain⟨y,hf⟩:∃ v,v=l[k]:=⟨_,rfl⟩
    rw [<-hf] at hrep
    obtain rfl:u=.int .u8 (y.toNat:Int):=by simpa [tU8] using hrep
    clear hrep
    have HF:=zH hf;have HV:=zH hv;clear hf hv
    have hy:y.toNat<256:=y.toNat_lt
    have ha1:=qzp y.toNat hy
    have ha2:=u8_and128 y.toNat hy
    have hdrop:l.drop k=y::l.drop (k+1):=by rw [HF.out];exact List.drop_eq_getElem_cons hkl
    have HV':=zH (show vtk (10 - k) k x (y::l.drop (k+1))=zzN l by rw [<-hdrop];exact HV.out)
    clear hdrop
    have hxk:=hx (by omega)
    obtain⟨z,hor,hz,hzv⟩:=or_shl x y.toNat k hxk (by omega)
    have HZV:=zH hzv;clear hzv
    have HXK:=zH hxk;clear hxk hx
    by_cases hmore:128<=y.toNat
    · have hb1:((y.toNat:Int) / 128*128 != 0)=true:=by simp;omega
      go_wp2_with fail
      go_roundw
      case rel =>
       refine⟨k+1,z,by omega,by go_num,by simp,by simp,?_,fun hk9=>?_,hz⟩
       · rw [<-HV'.out,vtk_more k x y _ (by omega) hmore]
         rcases Nat.lt_or_ge k 9 with h9 | h9
         · rw [HZV.out (.inl h9),show y.toNat % 128=y.toNat - 128 by omega]
         · rw [vtk_out _ _ _ h9,vtk_out _ _ _ h9]
       · rw [HZV.out (.inl (by omega)),Nat.pow_succ]
         have h1:=HXK.out
         have h2:y.toNat % 128*128 ^ k<=127*128 ^ k:=Nat.mul_le_mul_right _ (by omega)
         omega
      case measure=>simp [intOf];omega
    · have hb1:((y.toNat:Int) / 128*128 != 0)=false:=by simp;omega
      by_cases hbad:y.toNat=0/\0<k∨k=9/\1<y.toNat
      · have hN:zzN l=none:=by rw [<-HV'.out];exact vtk_bad k x y _ (by omega) (by omega) hbad
        have HN:=zH hN;clear hN
        rcases hbad with ⟨h1,h2⟩ | ⟨h1,h2⟩
        · have hor0:=u64_or0 x hx2
          clear hor
          have h3:¬ k=0:=by omega
          have h3':(0:Int)<(k:Int):=by omega
          go_wp2_with fail
          go_ret3
          exact⟨0,none,0,0,by rw [HN.out];rfl,zR,by rw [HN.out];simp⟩
        · have h3:¬ y.toNat=0:=by omega
          have h4:¬ (y.toNat:Int)=0:=by omega
          have h1':((k:Int)==9)=true:=by simp;omega
          clear h1
          have h2':(1:Int)<(y.toNat:Int):=by omega
          go_wp2_with fail
          go_ret3
          exact⟨0,none,0,0,by rw [HN.out];rfl,zR,by rw [HN.out];simp⟩
      · have hS:=vtk_ok k x y (l.drop (k+1)) (by omega) (by omega) hbad
        rw [HV'.out] at hS
        have HS:=zH hS;clear hS
        have hzx:z=x+y.toNat*128 ^ k:=by
         rw [HZV.out (by omega),show y.toNat % 128=y.toNat by omega]
        have HZX:=zH hzx;clear hzx
        have hsl:=(h.weaken (F':=fun b=>F b/\b<wr.heap.size) (fun b h1 h2=>⟨h1,h2⟩)).cut (lo:=k+1) (hi:=n) (by omega) zN
        rw [zL (by rw [<-HL.out];exact Nat.le_refl _)] at hsl
        have hcap:=h.2.1
        have HSL:=zH hsl;clear hsl
        have hok:(y.toNat=0/\¬ 0<k)∨(¬ y.toNat=0/\((k:Int)==9)=true/\y.toNat=1)∨(¬ y.toNat=0/\((k:Int)==9)=false):=by simp;omega
        have hk1:k+1<=n:=by omega
        clear hbad hmore
        by_cases hck:c=k+1
        · have hs2:=HSL.out
          rw [if_pos hck,show c - (k+1)=0 by omega] at hs2
          have HS2:=zH hs2;clear hs2
          rcases hok with ⟨hy0,hk0⟩ | ⟨hy0,hk9,hy1⟩ | ⟨hy0,hk9⟩
          · have hzx:z=z:=rfl
            have hyb:((y.toNat:Int)==0)=true:=by simp [hy0]
            clear hy0
            go_wp2_with (go_at_call 181;refine (yyN zzA _ _ _ _ (l.drop (k+1)) _ HS2.out (by simp) (by omega)).mono ?_;rintro e w1 ⟨A1,n1,c1,rfl,hown,hb⟩)
            go_ret3
            exact⟨z,A1,n1,c1,by rw [HS.out];first | rfl | (rw [hzx];rfl),hb,fun v r hv=>by rw [HS.out] at hv;injection hv with hv;injection hv with h1 h2;subst h1 h2;exact⟨HZX.out,hz,zz9 hown⟩⟩
          · have hzx:z=z:=rfl
            have hy2:¬ 1<y.toNat:=by omega
            have hy3:¬ (1:Int)<(y.toNat:Int):=by omega
            have HY:=zH hy1;clear hy1
            go_wp2_with (go_at_call 181;refine (yyN zzA _ _ _ _ (l.drop (k+1)) _ HS2.out (by simp) (by omega)).mono ?_;rintro e w1 ⟨A1,n1,c1,rfl,hown,hb⟩)
            go_ret3
            exact⟨z,A1,n1,c1,by rw [HS.out];first | rfl | (rw [hzx];rfl),hb,fun v r hv=>by rw [HS.out] at hv;injection hv with hv;injection hv with h1 h2;subst h1 h2;exact⟨HZX.out,hz,zz9 hown⟩⟩
          · have hzx:z=z:=rfl
            go_wp2_with (go_at_call 181;refine (yyN zzA _ _ _ _ (l.drop (k+1)) _ HS2.out (by simp) (by omega)).mono ?_;rintro e w1 ⟨A1,n1,c1,rfl,hown,hb⟩)
            go_ret3
            exact⟨z,A1,n1,c1,by rw [HS.out];first | rfl | (rw [hzx];rfl),hb,fun v r hv=>by rw [HS.out] at hv;injection hv with hv;injection hv with h1 h2;subst h1 h2;exact⟨HZX.out,hz,zz9 hown⟩⟩
        · have hs2:=HSL.out
          rw [if_neg hck,Option.map_some,yyB,show (k+1)*tU8.size=k+1 from Nat.mul_one _] at hs2
          have HS2:=zH hs2;clear hs2
          rcases hok with ⟨hy0,hk0⟩ | ⟨hy0,hk9,hy1⟩ | ⟨hy0,hk9⟩
          · have hzx:z=z:=rfl
            have hyb:((y.toNat:Int)==0)=true:=by simp [hy0]
            clear hy0
            go_wp2_with (go_at_call 181;refine (yyN zzA _ _ _ _ (l.drop (k+1)) _ HS2.out (by simp) (by omega)).mono ?_;rintro e w1 ⟨A1,n1,c1,rfl,hown,hb⟩)
            go_ret3
            exact⟨z,A1,n1,c1,by rw [HS.out];first | rfl | (rw [hzx];rfl),hb,fun v r hv=>by rw [HS.out] at hv;injection hv with hv;injection hv with h1 h2;subst h1 h2;exact⟨HZX.out,hz,zz9 hown⟩⟩
          · have hzx:z=z:=rfl
            have hy2:¬ 1<y.toNat:=by omega
            have hy3:¬ (1:Int)<(y.toNat:Int):=by omega
            have HY:=zH hy1;clear hy1
            go_wp2_with (go_at_call 181;refine (yyN zzA _ _ _ _ (l.drop (k+1)) _ HS2.out (by simp) (by omega)).mono ?_;rintro e w1 ⟨A1,n1,c1,rfl,hown,hb⟩)
            go_ret3
            exact⟨z,A1,n1,c1,by rw [HS.out];first | rfl | (rw [hzx];rfl),hb,fun v r hv=>by rw [HS.out] at hv;injection hv with hv;injection hv with h1 h2;subst h1 h2;exact⟨HZX.out,hz,zz9 hown⟩⟩
          · have hzx:z=z:=rfl
            go_wp2_with (go_at_call 181;refine (yyN zzA _ _ _ _ (l.drop (k+1)) _ HS2.out (by simp) (by omega)).mono ?_;rintro e w1 ⟨A1,n1,c1,rfl,hown,hb⟩)
            go_ret3
            exact⟨z,A1,n1,c1,by rw [HS.out];first | rfl | (rw [hzx];rfl),hb,fun v r hv=>by rw [HS.out] at hv;injection hv with hv;injection hv with h1 h2;subst h1 h2;exact⟨HZX.out,hz,zz9 hown⟩⟩
  · obtain rfl:k=m:=by omega
    have hN:zzN l=none:=by
     rw [<-hv]
     have hm:=HM.out
     rcases Nat.lt_or_ge n 10 with h1 | h1
     · have:k=l.length:=by rw [<-HL.out];omega
       rw [List.drop_of_length_le (by omega)]
       obtain⟨f,hf⟩:∃ f,10 - k=f+1:=⟨9 - k,by omega⟩
       rw [hf];simp only [vtk]
     · rw [show 10 - k=0 by omega];simp only [vtk]
    have HN:=zH hN;clear hN hv
    go_wp2
    go_ret3
    exact⟨0,none,0,0,by rw [HN.out];rfl,zR,by rw [HN.out];simp⟩
end
section
open Go Go.RowKit
theorem vtk_len:∀ (f i x:Nat) (l:List UInt8) (v:Nat) (r:List UInt8),vtk f i x l=some (v,r)->r.length<l.length
 | 0,i,x,l,v,r,h=>by simp [vtk] at h
 | f+1,i,x,[],v,r,h=>by simp [vtk] at h
 | f+1,i,x,c::t,v,r,h=>by
   simp only [vtk] at h
   split at h
   · have:=vtk_len f _ _ t v r h
     simp only [List.length_cons];omega
   · split at h
     · cases h
     · injection h with h;injection h with _ h;subst h;simp
theorem yyz {l:List UInt8} {v:Nat} {r:List UInt8} (h:zzN l=some (v,r)):r.length<l.length:=vtk_len 10 0 0 l v r h
theorem zzX {P:Program} {fn:Func} {p u v:Tmp} {ty:TypeId} (h:fn.results=#[.cell p ty,.tmp u,.tmp v]) (tmps:Array Value) (w:World) (g:Nat) (t:TypeId) (cs:Array Value) (fr:Nat×Nat) (d:TypeDesc)
 (hp:tmps.getD p undef=.pointer (some ⟨g,0,none⟩)) (hg:w.heap[g]?=some (.cells cs t fr))
 (hu:P.underlying ty=some d) (hd:(match d with | .struct _ | .array _ _=>true | _=>false)=true) (hi:(P.info? ty).map (·.size)=some cs.size) :
 (results fn tmps).run P w=.ok (.tuple #[.agg cs,tmps.getD u undef,tmps.getD v undef]) w:=by
 have hp':tmps[p]?.getD undef=.pointer (some ⟨g,0,none⟩):=by simpa using hp
 simp [results,h,hp',asAddr,run_loadVar_row w g t ty cs fr d hg hu hd hi]
theorem zzD {P:Program} {fn:Func} {p u:Tmp} {ty:TypeId} (h:fn.results=#[.cell p ty,.tmp u]) (tmps:Array Value) (w:World) (g:Nat) (t:TypeId) (cs:Array Value) (fr:Nat×Nat) (d:TypeDesc)
 (hp:tmps.getD p undef=.pointer (some ⟨g,0,none⟩)) (hg:w.heap[g]?=some (.cells cs t fr))
 (hu:P.underlying ty=some d) (hd:(match d with | .struct _ | .array _ _=>true | _=>false)=true) (hi:(P.info? ty).map (·.size)=some cs.size) :
 (results fn tmps).run P w=.ok (.tuple #[.agg cs,tmps.getD u undef]) w:=by
 have hp':tmps[p]?.getD undef=.pointer (some ⟨g,0,none⟩):=by simpa using hp
 simp [results,h,hp',asAddr,run_loadVar_row w g t ty cs fr d hg hu hd hi]
theorem jjW {α:Type} {T:Ty α} {F:Nat->Prop} {w:World} {A:Option Addr} {n c b j:Nat} {xs:List α} (h:Sl T F w A n c xs) (hb:¬ F b) (v:Value):Sl T F (w.setCell ⟨b,j,none⟩ v) A n c xs:=h.setCell (p:=⟨b,j,none⟩) hb v
theorem yyh {w:World} {g:Nat} {o:Obj} (h:w.heap[g]?=some o):w.drew.heap[g]?=some o:=h
theorem uud {B:Nat} {a w:World} (h:Below B a w):Below B a w.drew:=h.drew
theorem jjX {w:World} {B:Nat} {A:Option Addr} {n c:Nat} {l:List UInt8} (h:OwnB w B A n c l):(A=none/\n=0/\c=0)∨∃ g,A=some ⟨g,0,none⟩:=by
 rcases h.2 with ⟨h1,h2⟩ | ⟨g,cap,cur,h1,_⟩
 · injection h1 with h3 _ h4;exact .inl ⟨h3,h2,h4⟩
 · injection h1 with h3;exact .inr ⟨g,h3⟩
theorem xq4 {W w1:World} {b:Nat} {o:Obj} (hb:Below W.heap.size W w1) (h:W.heap[b]?=some o):w1.heap[b]?=some o:=(hb.block b (by
 rcases Nat.lt_or_ge b W.heap.size with h' | h'
 · exact h'
 · rw [Array.getElem?_eq_none h'] at h;cases h)).trans h
def OnePost (l:List UInt8) (w:World) (e:Ending) (w':World):Prop :=
 ∃ (tag:Int) (isb:Bool) (x:Nat) (A1:Option Addr) (n1 c1:Nat) (A:Option Addr) (n c:Nat),
  e=.returned (.tuple #[.agg #[.int .i64 tag,.bool isb,.int .u64 (x:Int),.slice A1 n1 c1],.slice A n c,.int .i64 (okc (wone l).isSome 2)])/\Below w.heap.size w w' /\
  ∀ f r,wone l=some (f,r)->tFld.rep (fun b=>w.heap.size<=b) w' [.int .i64 tag,.bool isb,.int .u64 (x:Int),.slice A1 n1 c1] f/\Bs (fun b=>w.heap.size<=b) w' A n c r
theorem u64_and7 (x:Nat) (h:x<18446744073709551616):bits BinOp.and IntKind.u64 (x:Int) 7=((x % 8:Nat):Int):=by
 rw [show (7:Int)=((7:Nat):Int) from rfl,u64_and_nat _ _ h (by decide)]
 congr 1
 exact Nat.and_two_pow_sub_one_eq_mod x 3
theorem wone_any (F:Nat->Prop) (A:Option Addr) (n c:Nat) (l:List UInt8) (w:World) (h:Bs F w A n c l) (hn:n<=4294967296) :
 Calls Tryz.prog 184 #[.slice A n c] w (OnePost l w):=by
 have HL:=zH h.len
 go_enter Tryz.func184,Tryz.ntmps184
 go_wp2_with (go_at_call 225;refine (zqr F A n c l _ (h.alloc _) hn).mono ?_)
 rintro e w1 ⟨x1,A1,n1,c1,rfl,hb1,ht1⟩
 have hbk:w1.heap[w.heap.size]?=some (.cells #[.int .i64 0,.bool false,.int .u64 0,.slice none 0 0] 114 (0,0)):=(hb1.block _ (by simp)).trans (heap_alloc_new w _)
 have q0:w1.cell? ⟨w.heap.size,0,none⟩=some (.int .i64 0):=by rw [zC hbk];rfl
 have q1:w1.cell? ⟨w.heap.size,1,none⟩=some (.bool false):=by rw [zC hbk];rfl
 have q2:w1.cell? ⟨w.heap.size,2,none⟩=some (.int .u64 0):=by rw [zC hbk];rfl
 have q3:w1.cell? ⟨w.heap.size,3,none⟩=some (.slice none 0 0):=by rw [zC hbk];rfl
 have f0:=zF hbk 0
 have f1:=zF hbk 1
 have f2:=zF hbk 2
 have f3:=zF hbk 3
 have HB1:Hid (Below w.heap.size w w1):=zH (((Below.refl _ w).alloc zN _).trans (hb1.mono (by simp)))
 have HBK:=zH hbk
 clear hbk hb1
 obtain⟨ec,hec⟩:∃ ec,ec=okc (zzN l).isSome 2:=⟨_,rfl⟩
 rw [<-hec]
 cases hT:zzN l with
 | none =>
   obtain rfl:ec=2:=by rw [hec,hT];rfl
   have HO:=zH (show wone l=none by simp [wone,hT])
   clear hT hec ht1
   go_wp2_with fail
   refine bodyPost_ret (zzX rfl _ _ w.heap.size 114 #[.int .i64 0,.bool false,.int .u64 0,.slice none 0 0] (0,0) _ rfl (by have hk:=HBK.out;(repeat (first | with_reducible exact hk | with_reducible apply zza));all_goals rfl) Tryz.underlying114 rfl (by kernel_rfl)) rfl ⟨0,false,0,none,0,0,none,0,0,by rw [HO.out];rfl,?_,by rw [HO.out];simp⟩
   have hb:=HB1.out
   repeat (first | with_reducible exact hb | with_reducible refine zzi ?_ zN _)
 | some p =>
   obtain⟨key,r1⟩:=p
   obtain rfl:ec=0:=by rw [hec,hT];rfl
   obtain⟨rfl,hx1,hown1⟩:=ht1 key r1 hT
   have hlr:=yyz hT
   have HL1:=zH hown1.len
   have hn1:n1<=4294967296:=by rw [HL1.out];have:=HL.out;omega
   have HT:=zH hT
   have HO1:=zH hown1
   clear hT hec ht1 hown1
   go_wp2_with (go_at_call 225;refine (zqr _ A1 n1 c1 r1 _ HO1.out.bs hn1).mono ?_)
   rintro e w2 ⟨x2,A2,n2,c2,rfl,hb2,ht2⟩
   have hbk:=xq4 hb2 HBK.out
   have HB2:Hid (Below w.heap.size w w2):=zH (HB1.out.trans (hb2.mono HB1.out.size))
   clear q0 q1 q2 q3 f0 f1 f2 f3 hb2
   have q0:w2.cell? ⟨w.heap.size,0,none⟩=some (.int .i64 0):=by rw [zC hbk];rfl
   have q1:w2.cell? ⟨w.heap.size,1,none⟩=some (.bool false):=by rw [zC hbk];rfl
   have q2:w2.cell? ⟨w.heap.size,2,none⟩=some (.int .u64 0):=by rw [zC hbk];rfl
   have q3:w2.cell? ⟨w.heap.size,3,none⟩=some (.slice none 0 0):=by rw [zC hbk];rfl
   have f0:=zF hbk 0
   have f1:=zF hbk 1
   have f2:=zF hbk 2
   have f3:=zF hbk 3
   have HBK2:=zH hbk
   clear hbk
   obtain⟨ec,hec⟩:∃ ec,ec=okc (zzN r1).isSome 2:=⟨_,rfl⟩
   rw [<-hec]
   cases hT2:zzN r1 with
   | none =>
     obtain rfl:ec=2:=by rw [hec,hT2];rfl
     have HO:=zH (show wone l=none by simp [wone,HT.out,hT2])
     clear hT2 hec ht2
     go_wp2_with fail
     refine bodyPost_ret (zzX rfl _ _ w.heap.size 114 #[.int .i64 0,.bool false,.int .u64 0,.slice none 0 0] (0,0) _ rfl (by have hk:=HBK2.out;(repeat (first | with_reducible exact hk | with_reducible apply zza));all_goals rfl) Tryz.underlying114 rfl (by kernel_rfl)) rfl ⟨0,false,0,none,0,0,none,0,0,by rw [HO.out];rfl,?_,by rw [HO.out];simp⟩
     have hb:=HB2.out
     repeat (first | with_reducible exact hb | with_reducible refine zzi ?_ zN _)
   | some p =>
     obtain⟨nn,r2⟩:=p
     obtain rfl:ec=0:=by rw [hec,hT2];rfl
     obtain⟨rfl,hx2,hown2⟩:=ht2 nn r2 hT2
     have HT2:=zH hT2
     have HO2:=zH hown2
     have HL2:=zH hown2.len
     have hlr2:=yyz hT2
     clear hT2 hec ht2 hown2
     have hand:=u64_and7 x1 hx1
     by_cases hbad:x1 / 8<1∨100<x1 / 8∨¬ (x1 % 8=0∨x1 % 8=2)
     · have HO:=zH (show wone l=none by simp only [wone,HT.out,HT2.out];exact if_pos hbad)
       have hcs:((x1:Int) / 8<1)∨(¬ ((x1:Int) / 8<1)/\(100<(x1:Int) / 8))∨(¬ ((x1:Int) / 8<1)/\¬ (100<(x1:Int) / 8)/\(((x1:Int) % 8 != 0)=true)/\(((x1:Int) % 8 != 2)=true)):=by simp;omega
       clear hbad
       rcases hcs with h1 | ⟨h1,h2⟩ | ⟨h1,h2,h3,h4⟩
       all_goals
        go_wp2_with fail
        refine bodyPost_ret (zzX rfl _ _ w.heap.size 114 #[.int .i64 0,.bool false,.int .u64 0,.slice none 0 0] (0,0) _ rfl (by have hk:=HBK2.out;(repeat (first | with_reducible exact hk | with_reducible apply zza));all_goals rfl) Tryz.underlying114 rfl (by kernel_rfl)) rfl ⟨0,false,0,none,0,0,none,0,0,by rw [HO.out];rfl,?_,by rw [HO.out];simp⟩
        have hb:=HB2.out
        repeat (first | with_reducible exact hb | with_reducible refine zzi ?_ zN _)
     · have h1:¬ ((x1:Int) / 8<1):=by omega
       have h2:¬ (100<(x1:Int) / 8):=by omega
       have hlt1:w.heap.size<w1.heap.size:=by
        rcases Nat.lt_or_ge w.heap.size w1.heap.size with h' | h'
        · exact h'
        · have:=HBK.out;rw [Array.getElem?_eq_none h'] at this;cases this
       have hsub:Bs (fun b=>w.heap.size<b) w2 A2 n2 c2 r2:=HO2.out.bs.weaken fun b hb _=>Nat.lt_of_lt_of_le hlt1 hb.2
       have hw3:IntKind.i64.wrap ((x1:Int) / 8)=(x1:Int) / 8:=by rw [IntKind.wrap_i64];omega
       by_cases h0:x1 % 8=0
       · have h3:(((x1:Int) % 8 != 0)=false):=by simp;omega
         have h4:(((x1:Int) % 8==0)=true):=by simp;omega
         have HO:=zH (show wone l=some (⟨(x1 / 8:Nat),false,x2,[]⟩,r2) by simp only [wone,HT.out,HT2.out];rw [if_neg hbad,if_pos h0])
         clear hbad h0
         have HS:=zH hsub;clear hsub
         go_wp2_with fail
         refine bodyPost_ret (zzX rfl _ _ w.heap.size 114 #[.int .i64 ((x1:Int) / 8),.bool false,.int .u64 (x2:Int),.slice none 0 0] (0,0) _ rfl (by have hk:=HBK2.out;(repeat (first | with_reducible exact hk | with_reducible apply zza));all_goals rfl) Tryz.underlying114 rfl (by kernel_rfl)) rfl
          ⟨(x1:Int) / 8,false,x2,none,0,0,A2,n2,c2,by rw [HO.out];rfl,?_,fun f r hfr=>?_⟩
         · have hb:=HB2.out
           repeat (first | with_reducible exact hb | with_reducible refine zzi ?_ zN _)
         · rw [HO.out] at hfr
           injection hfr with hfr;injection hfr with e1 e2
           subst e1 e2
           refine⟨⟨none,0,0,by simp,by unfold i64;dsimp only;omega,hx2,Sl.nil_ _ _ _⟩,?_⟩
           refine Sl.weaken (F:=fun b=>w.heap.size<b) ?_ (fun b hb _=>by omega)
           have hs:=HS.out
           repeat (first | with_reducible exact hs | with_reducible refine jjW ?_ (Nat.lt_irrefl _) _)
       · have hk2:x1 % 8=2:=by omega
         have h3:(((x1:Int) % 8 != 0)=true):=by simp;omega
         have h4:(((x1:Int) % 8==0)=false):=by simp;omega
         have h5:(((x1:Int) % 8 != 2)=false):=by simp;omega
         have hn2:n2<=4294967296:=by rw [HL2.out];have:=HL1.out;omega
         have hw4:IntKind.u64.wrap (n2:Int)=(n2:Int):=yyu n2 (by omega)
         by_cases hlong:n2<x2
         · have hlong2:(n2:Int)<(x2:Int):=by omega
           have HO:=zH (show wone l=none by simp only [wone,HT.out,HT2.out];rw [if_neg hbad,if_neg h0,if_pos (by rw [<-HL2.out];exact hlong)])
           clear hbad h0 hsub hlong
           go_wp2_with fail
           refine bodyPost_ret (zzX rfl _ _ w.heap.size 114 #[.int .i64 ((x1:Int) / 8),.bool false,.int .u64 0,.slice none 0 0] (0,0) _ rfl (by have hk:=HBK2.out;(repeat (first | with_reducible exact hk | with_reducible apply zza));all_goals rfl) Tryz.underlying114 rfl (by kernel_rfl)) rfl ⟨(x1:Int) / 8,false,0,none,0,0,none,0,0,by rw [HO.out];rfl,?_,by rw [HO.out];simp⟩
           have hb:=HB2.out
           repeat (first | with_reducible exact hb | with_reducible refine zzi ?_ zN _)
         · have hlong2:¬ (n2:Int)<(x2:Int):=by omega
           have hcap:=HO2.out.bs.2.1
           have hs1:=hsub.cut (lo:=0) (hi:=x2) (by omega) (by omega)
           have hs2:=hsub.cut (lo:=x2) (hi:=n2) (by omega) (by omega)
           have HO:=zH (show wone l=some (⟨(x1 / 8:Nat),true,0,r2.take x2⟩,r2.drop x2) by simp only [wone,HT.out,HT2.out];rw [if_neg hbad,if_neg h0,if_neg (by rw [<-HL2.out];exact hlong)])
           have HS1:=zH hs1;have HS2:=zH hs2
           clear hbad h0 hs1 hs2 hsub
           have hfull:r2.take n2=r2:=zL (by rw [<-HL2.out];exact Nat.le_refl _)
           have hs1:=HS1.out
           have hs2:=HS2.out
           rw [hfull] at hs2
           rw [Nat.sub_zero,Nat.sub_zero,List.drop_zero] at hs1
           have hA1:(if c2=0 then A2 else Option.map (fun x=>x.add (0*tU8.size)) A2)=A2:=by
            rcases jjX HO2.out with ⟨rfl,_⟩ | ⟨g,rfl⟩
            · simp
            · rw [Option.map_some,yyB,Nat.zero_mul,Nat.add_zero];simp
           rw [hA1] at hs1
           clear HS1 HS2 hA1 hfull
           have HS1:=zH hs1;clear hs1
           by_cases hc2:c2=x2
           · rw [if_pos hc2,show c2 - x2=0 by omega,show n2 - x2=0 by omega] at hs2
             have HS2:=zH hs2;clear hs2
             obtain rfl:=hc2
             go_wp2_with fail
             go_region
             go_wp2_with fail
             go_region
             go_wp2_with fail
             refine bodyPost_ret (zzX rfl _ _ w.heap.size 114 #[.int .i64 ((x1:Int) / 8),.bool true,.int .u64 0,.slice A2 c2 c2] (0,0) _ rfl (by have hk:=HBK2.out;(repeat (first | with_reducible exact hk | with_reducible apply yyh | with_reducible apply zza));all_goals rfl) Tryz.underlying114 rfl (by kernel_rfl)) rfl
              ⟨(x1:Int) / 8,true,0,_,_,_,A2,0,0,by rw [HO.out];rfl,?_,fun f r hfr=>?_⟩
             · have hb:=HB2.out
               repeat (first | with_reducible exact hb | with_reducible refine uud ?_ | with_reducible refine zzi ?_ zN _)
             · rw [HO.out] at hfr
               injection hfr with hfr;injection hfr with e1 e2
               subst e1 e2
               have hs1:=HS1.out
               have hs2:=HS2.out
               refine⟨⟨_,_,_,rfl,by unfold i64;dsimp only;omega,by simp,?_⟩,?_⟩
               · refine Sl.weaken (F:=fun b=>w.heap.size<b) ?_ (fun b hb _=>by omega)
                 repeat (first | with_reducible exact hs1 | with_reducible refine Sl.drew ?_ | with_reducible refine jjW ?_ (Nat.lt_irrefl _) _)
               · refine Sl.weaken (F:=fun b=>w.heap.size<b) ?_ (fun b hb _=>by omega)
                 repeat (first | with_reducible exact hs2 | with_reducible refine Sl.drew ?_ | with_reducible refine jjW ?_ (Nat.lt_irrefl _) _)
           · rw [if_neg hc2] at hs2
             obtain⟨g,rfl⟩:∃ g,A2=some ⟨g,0,none⟩:=by
              rcases jjX HO2.out with ⟨_,h1,h2⟩ | h
              · omega
              · exact h
             rw [Option.map_some,yyB,Nat.zero_add,show x2*tU8.size=x2 from Nat.mul_one _] at hs2
             have HS2:=zH hs2;clear hs2
             go_wp2_with fail
             go_region
             go_wp2_with fail
             go_region
             go_wp2_with fail
             refine bodyPost_ret (zzX rfl _ _ w.heap.size 114 #[.int .i64 ((x1:Int) / 8),.bool true,.int .u64 0,.slice (some ⟨g,0,none⟩) x2 c2] (0,0) _ rfl (by have hk:=HBK2.out;(repeat (first | with_reducible exact hk | with_reducible apply yyh | with_reducible apply zza));all_goals rfl) Tryz.underlying114 rfl (by kernel_rfl)) rfl
              ⟨(x1:Int) / 8,true,0,_,_,_,some ⟨g,x2,none⟩,n2 - x2,c2 - x2,by rw [HO.out];rfl,?_,fun f r hfr=>?_⟩
             · have hb:=HB2.out
               repeat (first | with_reducible exact hb | with_reducible refine uud ?_ | with_reducible refine zzi ?_ zN _)
             · rw [HO.out] at hfr
               injection hfr with hfr;injection hfr with e1 e2
               subst e1 e2
               have hs1:=HS1.out
               have hs2:=HS2.out
               refine⟨⟨_,_,_,rfl,by unfold i64;dsimp only;omega,by simp,?_⟩,?_⟩
               · refine Sl.weaken (F:=fun b=>w.heap.size<b) ?_ (fun b hb _=>by omega)
                 repeat (first | with_reducible exact hs1 | with_reducible refine Sl.drew ?_ | with_reducible refine jjW ?_ (Nat.lt_irrefl _) _)
               · refine Sl.weaken (F:=fun b=>w.heap.size<b) ?_ (fun b hb _=>by omega)
                 repeat (first | with_reducible exact hs2 | with_reducible refine Sl.drew ?_ | with_reducible refine jjW ?_ (Nat.lt_irrefl _) _)
end
end Go.Proofs.YtpmglcachffojaaGreatDoor
