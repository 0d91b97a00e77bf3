/- A part of what None leans on. -/
import Derived.Test.YtpmglcachffojaaGreatDoorZ4
import Derived.Laws.OwnMore
set_option maxRecDepth 100000
set_option maxHeartbeats 16000000
namespace Go.Proofs.YtpmglcachffojaaGreatDoor
section
open Go Go.RowKit
theorem vvF (m k:Nat) (r:Bool) (hr:r=decide (m<=4096/\k<=64)) (w:World):Calls Tryz.prog 316 #[.int .i64 (m:Int),.int .i64 (k:Int)] w fun e w'=>e=.returned (.bool r)/\w=w':=by
 have HR:=zH (show r=(decide ((m:Int)<=4096)&&decide ((k:Int)<=64)) by rw [hr,<-Bool.decide_and];exact decide_eq_decide.2 (by omega))
 clear hr
 have z0:(0:Int)<=(m:Int):=by omega
 have z1:(0:Int)<=(k:Int):=by omega
 go_enter Tryz.func316,Tryz.ntmps316
 by_cases h1:(m:Int)<=4096
 · have e1:decide ((m:Int)<=4096)=true:=decide_eq_true h1
   by_cases h2:(k:Int)<=64
   · have e2:decide ((k:Int)<=64)=true:=decide_eq_true h2
     rw [e1,e2] at HR
     go_wp2_with fail
     go_ret
     exact⟨by rw [HR.out];rfl,rfl⟩
   · have e2:decide ((k:Int)<=64)=false:=decide_eq_false h2
     rw [e1,e2] at HR
     go_wp2_with fail
     go_ret
     exact⟨by rw [HR.out];rfl,rfl⟩
 · have e1:decide ((m:Int)<=4096)=false:=decide_eq_false h1
   rw [e1] at HR
   go_wp2_with fail
   go_ret
   exact⟨by rw [HR.out];rfl,rfl⟩
theorem zqi (m k:Nat) (hm:m<=4096) (hk:k<=64) (w:World):Calls Tryz.prog 317 #[.int .i64 (m:Int),.int .i64 (k:Int)] w fun e w'=>e=.returned (.int .i64 ((zzD m k:Nat):Int))/\w=w':=by
 have hmk:m*k<=4096*64:=Nat.mul_le_mul hm hk
 obtain⟨q,hq⟩:∃ q,q=m*k:=⟨_,rfl⟩
 have f1:(m:Int)*(k:Int)=(q:Int):=by rw [hq];simp
 have hq2:q<=262144:=by rw [hq];omega
 have HQ:=zH (show zzD m k=(q+7) / 8 by rw [hq];rfl)
 clear hmk hq
 go_enter Tryz.func317,Tryz.ntmps317
 go_wp2_with (first
  | (go_at_call 316;refine (vvF m k true (decide_eq_true ⟨hm,hk⟩).symm _).mono ?_;rintro e w1 ⟨rfl,rfl⟩)
  | fail)
 go_ret
 exact⟨by rw [HQ.out];go_num,rfl⟩
structure PkR (w0:World) (B atb ob g s cap a:Nat) (L:List UInt8) (w:World):Prop where
 at_:w.heap[atb]?=some (.cells #[.int .i64 (a:Int)] 3 (0,0))
 out:w.heap[ob]?=some (.cells #[.slice (some ⟨g,0,none⟩) s cap] 41 (0,0))
 row:OwnB w B (some ⟨g,0,none⟩) s cap L
 below:Below B w0 w
theorem zzd {w:World} {g b j:Nat} {o:Obj} {v:Value} (h:w.heap[b]?=some o) (hne:b≠g):(w.setCell ⟨g,j,none⟩ v).heap[b]?=some o:=(Below.heap_setCell w ⟨g,j,none⟩ v b hne).trans h
section
variable {w0 w:World} {B atb ob g s cap a:Nat} {L:List UInt8}
theorem PkR.own (h:PkR w0 B atb ob g s cap a L w):OwnF tU8 5 (fun _=>False) w B (some ⟨g,0,none⟩) s cap L:=h.row.ownF (by simp)
theorem PkR.store (h:PkR w0 B atb ob g s cap a L w) (h2:atb≠g) (h3:ob≠g) (j:Nat) (x:UInt8):PkR w0 B atb ob g s cap a (L.set j x) ((w.setCell ⟨g,j,none⟩ (.int .u8 (x.toNat:Int))).drew):=by
 have hr:=(h.own.set1 yyH j x trivial).drew
 exact⟨zzd h.at_ h2,zzd h.out h3,zz7 ⟨_,hr⟩,(zzn h.below (h.own.base1 yyH).1 _).drew⟩
theorem PkR.move (h:PkR w0 B atb ob g s cap a L w) (h1:atb≠ob) (h2:atb≠g) (hB:B<=atb) (a':Nat):PkR w0 B atb ob g s cap a' L (w.setCell ⟨atb,0,none⟩ (.int .i64 (a':Int))) :=
 ⟨zza h.at_ rfl,zzd h.out (Ne.symm h1),zz7 ⟨_,h.own.setCell (p:=⟨atb,0,none⟩) (by simp) (fun e=>h2 (by injection e with e;injection e with e1 _ _;exact e1.symm)) _⟩,zzn h.below hB _⟩
theorem PkR.byte (h:PkR w0 B atb ob g s cap a L w) {j:Nat} (hj:j<L.length):w.cell? ⟨g,j,none⟩=some (.int .u8 ((L[j].toNat:Nat):Int)):=h.own.cell1 yyH hj
end
theorem uuM {b d:Nat} {r:Nat} (hb:b<256) (hf:b % 2 ^ r=0) (hr:r<=8) (hd:d<2 ^ r):bits BinOp.or IntKind.u8 (b:Int) (d:Int)=(((UInt8.ofNat (b+d)).toNat:Nat):Int):=by
 have hlt:=kqz hb hf hr hd
 rw [u8_or_nat _ _ hb (by omega),qxu hf hd,UInt8.toNat_ofNat',Nat.mod_eq_of_lt hlt]
theorem qxj {c n e:Nat} (hc:c<2 ^ n) (hn:n<=8 - e):c*2 ^ (8 - e - n)<2 ^ (8 - e):=by
 have:=Nat.mul_lt_mul_of_pos_right hc (Nat.pow_pos (n:=8 - e - n) (show 0<2 by decide))
 rwa [<-Nat.pow_add,show n+(8 - e - n)=8 - e by omega] at this
theorem xxL {k:Nat} (h:k<=8):2 ^ k<=256:=by have:=Nat.pow_le_pow_right (show 0<2 by decide) h;simpa using this
theorem qxE (w0:World) (B atb ob g s cap a V:Nat) (hne1:atb≠ob) (hne2:atb≠g) (hne3:ob≠g) (hB:B<=atb) (hs:s<=65536) (c n:Nat) (hn1:1<=n) (hn8:n<=8) (hc:c<2 ^ n) (ha:a+n<=8*s) (w:World) (h:PkR w0 B atb ob g s cap a (be s (V*2 ^ (8*s - a))) w) :
 Calls Tryz.prog 318 #[.int .u8 (c:Int),.int .i64 (n:Int),.pointer (some ⟨atb,0,none⟩),.pointer (some ⟨ob,0,none⟩)] w fun e w'=>e=.returned (.tuple #[])/\PkR w0 B atb ob g s cap (a+n) (be s ((V*2 ^ n+c)*2 ^ (8*s - (a+n)))) w':=by
 have HH:=zH h
 obtain⟨L,hL⟩:∃ L,L=be s (V*2 ^ (8*s - a)):=⟨_,rfl⟩
 rw [<-hL] at h HH
 have HLE:=zH hL
 obtain⟨e,he⟩:∃ e,e=a % 8:=⟨_,rfl⟩
 obtain⟨j,hj⟩:∃ j,j=a / 8:=⟨_,rfl⟩
 have f1:(a:Int) % 8=(e:Int):=by omega
 have f2:(a:Int) / 8=(j:Int):=by omega
 have hjs:j<s:=by omega
 have a0:w.cell? ⟨atb,0,none⟩=some (.int .i64 (a:Int)):=by rw [zC h.at_];rfl
 have o0:w.cell? ⟨ob,0,none⟩=some (.slice (some ⟨g,0,none⟩) s cap):=by rw [zC h.out];rfl
 have hlen:j<L.length:=by rw [hL,zzY];exact hjs
 obtain⟨b,hb⟩:∃ b,b=V*2 ^ (8*s - a) / 256 ^ (s - 1 - j) % 256:=⟨_,rfl⟩
 have hb8:b<256:=by rw [hb];exact Nat.mod_lt _ (by decide)
 have hbf:b % 2 ^ (8 - e)=0:=by rw [hb,hj,he];exact yyr (V:=V) (by omega)
 have g0:w.cell? ⟨g,j,none⟩=some (.int .u8 (b:Int)):=by
  rw [h.byte hlen,hb]
  subst hL
  rw [vvx]
 have g1:w.frozen? ⟨g,j,none⟩=false:=h.own.free1 yyH j
 have HE:=zH he;have HJ:=zH hj;have HBB:=zH hb;have HC:=zH hc;have HA:=zH ha
 have i1:(0:Int)<=(j:Int):=by omega
 have i2:(j:Int)<(s:Int):=by omega
 have he8:e<8:=by omega
 by_cases hroom:n<=8 - e
 · have z1:(n:Int)<=8 - (e:Int):=by omega
   have hd:=qxj hc hroom
   have hd2:c*2 ^ (8 - e - n)<256:=Nat.lt_of_lt_of_le hd (xxL (by omega))
   obtain⟨x,hx⟩:∃ x,x=UInt8.ofNat (b+c*2 ^ (8 - e - n)):=⟨_,rfl⟩
   have hor:bits BinOp.or IntKind.u8 (b:Int) ((c:Int)*2 ^ (8 - e - n) % 256)=((x.toNat:Nat):Int):=by
    rw [hx,<-uuM hb8 hbf (by omega) hd]
    congr 1
    rw [show (c:Int)*2 ^ (8 - e - n)=((c*2 ^ (8 - e - n):Nat):Int) by simp]
    omega
   have HFIN:=zH (show L.set j x=be s ((V*2 ^ n+c)*2 ^ (8*s - (a+n))) by
    rw [HLE.out,hx,hb,HJ.out,HE.out]
    exact jjb (by omega) (by omega) hc)
   clear h hlen he hj hb hL hc ha hd hd2 hx hb8 hbf
   go_enter Tryz.func318,Tryz.ntmps318
   go_upto_region 2 with fail
   go_region
   obtain⟨wd,hwd⟩:∃ wd,wd=(w.setCell ⟨g,j,none⟩ (.int .u8 ((x.toNat:Nat):Int))).drew:=⟨_,rfl⟩
   have HD:=HH.out.store hne2 hne3 j x
   rw [<-hwd] at HD
   rw [HFIN.out] at HD
   have HW:=zH HD
   have a0':wd.cell? ⟨atb,0,none⟩=some (.int .i64 (a:Int)):=by rw [zC HD.at_];rfl
   have a1':=zF HD.at_ 0
   first | rw [hor] | skip
   rw [<-hwd]
   clear hwd HD g0 g1 a0 o0 HFIN HH
   go_wp2_with fail
   go_end0
   refine⟨rfl,?_⟩
   have hm:=HW.out.move hne1 hne2 hB (a+n)
   rwa [Int.natCast_add] at hm
 · have z1:¬ (n:Int)<=8 - (e:Int):=by omega
   have hn0:a % 8+n > 8:=by omega
   have hjs2:j+1<s:=by omega
   obtain⟨m,hm⟩:∃ m,n=(8 - e)+m:=⟨n - (8 - e),by omega⟩
   have hcm:c / 2 ^ (n - (8 - e))<2 ^ (8 - e):=by
    rw [Nat.div_lt_iff_lt_mul (Nat.pow_pos (by decide)),<-Nat.pow_add,show 8 - e+(n - (8 - e))=n by omega]
    exact hc
   have hd2:c / 2 ^ (n - (8 - e))<256:=Nat.lt_of_lt_of_le hcm (xxL (by omega))
   obtain⟨x,hx⟩:∃ x,x=UInt8.ofNat (b+c / 2 ^ (n - (8 - e))):=⟨_,rfl⟩
   have hor:bits BinOp.or IntKind.u8 (b:Int) ((c:Int) / 2 ^ (n - (8 - e)))=((x.toNat:Nat):Int):=by
    rw [hx,<-uuM hb8 hbf (by omega) hcm]
    congr 1
   obtain⟨y,hy⟩:∃ y,y=UInt8.ofNat (c*2 ^ (16 - e - n) % 256):=⟨_,rfl⟩
   have HFIN:=zH (show (L.set j x).set (j+1) y=be s ((V*2 ^ n+c)*2 ^ (8*s - (a+n))) by
    rw [HLE.out,hx,hb,HJ.out,hy,HE.out]
    exact qz6 (by omega) (by omega) hn8 hc)
   have HHS:=zH (HH.out.store hne2 hne3 j x)
   clear h hlen he hj hb hL hc ha hd2 hx hb8 hbf hcm hm hn0
   go_enter Tryz.func318,Tryz.ntmps318
   go_upto_region 3 with fail
   go_region
   obtain⟨wd,hwd⟩:∃ wd,wd=(w.setCell ⟨g,j,none⟩ (.int .u8 ((x.toNat:Nat):Int))).drew:=⟨_,rfl⟩
   have hw:=HHS.out
   rw [<-hwd] at hw ⊢
   have HW:=zH hw
   have hl2:j+1<(L.set j x).length:=by rw [List.length_set,HLE.out,zzY];exact hjs2
   have b0:wd.cell? ⟨g,j+1,none⟩=some (.int .u8 0):=by
    rw [hw.byte hl2]
    have h1:(L.set j x)[j+1].toNat=0:=by
     rw [List.getElem_set_ne (by omega)]
     have h2:=HLE.out
     subst h2
     rw [vvx]
     have h3:=yyr (V:=V*2 ^ (8 - e)) (s:=s) (at_:=a+(8 - e)) (by have:=HE.out;omega)
     rw [show (a+(8 - e)) / 8=j+1 by have:=HE.out;have:=HJ.out;omega,show (a+(8 - e)) % 8=0 by have:=HE.out;omega,Nat.mod_eq_of_lt (Nat.mod_lt _ (by decide)),Nat.mul_assoc,<-Nat.pow_add,show 8 - e+(8*s - (a+(8 - e)))=8*s - a by have:=HA.out;omega] at h3
     exact h3
    rw [h1];rfl
   have b1:wd.frozen? ⟨g,j+1,none⟩=false:=hw.own.free1 yyH (j+1)
   have a0':wd.cell? ⟨atb,0,none⟩=some (.int .i64 (a:Int)):=by rw [zC hw.at_];rfl
   have o0':wd.cell? ⟨ob,0,none⟩=some (.slice (some ⟨g,0,none⟩) s cap):=by rw [zC hw.out];rfl
   have i3:(0:Int)<=(j:Int)+1:=by omega
   have i4:(j:Int)+1<(s:Int):=by omega
   have HHS2:=zH (hw.store hne2 hne3 (j+1) y)
   rw [HFIN.out] at HHS2
   clear hwd hw hl2 g0 g1 a0 o0 HH HHS HFIN hor
   have hor2:bits BinOp.or IntKind.u8 0 ((c:Int)*2 ^ (8 - n+(8 - e)) % 256)=((y.toNat:Nat):Int):=by
    have h1:(c:Int)*2 ^ (8 - n+(8 - e)) % 256=((c*2 ^ (16 - e - n) % 256:Nat):Int):=by
     rw [show 8 - n+(8 - e)=16 - e - n by omega]
     simp
    rw [h1,hy,show (0:Int)=((0:Nat):Int) from rfl,u8_or_nat 0 _ (by decide) (Nat.mod_lt _ (by decide)),Nat.zero_or,UInt8.toNat_ofNat',Nat.mod_mod]
   have hor3:(c:Int)*2 ^ (16 - e - n) % 256=((y.toNat:Nat):Int):=by
    rw [hy,UInt8.toNat_ofNat',Nat.mod_mod]
    simp
   have HOR3:=zH hor3
   clear hor3
   go_upto_region 4 with fail
   go_region
   have hor3:=HOR3.out
   obtain⟨wd',hwd⟩:∃ wd',wd'=(wd.setCell ⟨g,j+1,none⟩ (.int .u8 ((y.toNat:Nat):Int))).drew:=⟨_,rfl⟩
   first | rw [hor2] | rw [hor3] | skip
   have HD:=HHS2.out
   rw [<-hwd] at HD ⊢
   have HW2:=zH HD
   have a2':wd'.cell? ⟨atb,0,none⟩=some (.int .i64 (a:Int)):=by rw [zC HD.at_];rfl
   have a3':=zF HD.at_ 0
   clear hwd HD HHS2 hor2 hy b0 b1 a0' o0' HW
   go_wp2_with fail
   go_end0
   refine⟨rfl,?_⟩
   have hm:=HW2.out.move hne1 hne2 hB (a+n)
   rwa [Int.natCast_add] at hm
theorem kqT {P:Program} {t e:TypeId} {z:Value} {by_:Nat} (ht:P.underlying t=some (.slice e)) (hi:(P.info? e).map (fun i=>(i.zero,i.size,i.bytes))=some (some z,1,by_)) (hb8:by_<=8) (s:Nat) (hs:s<=65536) (w:World) :
 (Instr.makeSlice t (.int .i64 (s:Int)) (.int .i64 (s:Int))).run P w=.ok (.slice (some ⟨w.heap.size,0,none⟩) s s) (w.alloc (.cells (madeCells z.cells s) e)):=by
 cases h:P.info? e with
 | none=>rw [h] at hi;cases hi
 | some i =>
   rw [h] at hi
   have h1:(i.zero,i.size,i.bytes)=(some z,1,by_):=by simpa using hi
   injection h1 with h2 h3
   injection h3 with h3 h4
   have hm:by_*s<=8*65536:=Nat.mul_le_mul hb8 hs
   have:=run_makeSlice (P:=P) w t e i z ht h h2 .i64 .i64 (s:Int) (s:Int) (by omega) (Int.le_refl _) (by rw [h3];omega) (by rw [h4,<-Int.natCast_mul];omega) (by omega)
   rw [h3,Int.toNat_natCast,Nat.mul_one] at this
   exact this
theorem kqU (s:Nat) (hs:s<=65536) (w:World):(Instr.makeSlice 41 (.int .i64 (s:Int)) (.int .i64 (s:Int))).run Tryz.prog w=.ok (.slice (some ⟨w.heap.size,0,none⟩) s s) (w.alloc (.cells (madeCells #[.int .u8 0] s) 5)) :=
 kqT (z:=.int .u8 0) zzG xxo (by decide) s hs w
theorem kqV (s:Nat) (hs:s<=65536) (w:World) (B:Nat) (hB:B<=w.heap.size):OwnB (w.alloc (.cells (madeCells #[.int .u8 0] s) 5)) B (some ⟨w.heap.size,0,none⟩) s s (List.replicate s 0):=by
 have h:=World.ownsRow_lit (base:=B) (e:=5) (size:=1) w (madeCells #[.int .u8 0] s) s hB (by unfold maxLen;omega) (by rw [size_madeCells,Nat.mul_one])
 rw [toList_madeCells_one] at h
 unfold OwnB
 rw [show bvs (List.replicate s 0)=List.replicate s (.int .u8 0) by unfold bvs;rw [List.map_replicate];rfl]
 exact h
end
section
open Go Go.RowKit
theorem jjR (sg:Bool) (x:Int) (h0 : -9223372036854775808<=x) (h1:x<=9223372036854775807) (hs:sg=true∨0<=x) (w:World) :
 Calls Tryz.prog 312 #[.int .i64 x,.bool sg] w fun e w'=>e=.returned (.tuple #[.int .u64 ((uOf sg x:Nat):Int),.bool true])/\w=w':=by
 cases sg with
 | true =>
   go_enter Tryz.func312,Tryz.ntmps312
   go_wp2_with (first
    | (go_at_call 179;refine (uuH x _ h0 h1).mono ?_;rintro e w1 ⟨rfl,rfl⟩)
    | fail)
   go_ret2
   exact⟨rfl,rfl⟩
 | false =>
   have hx:0<=x:=hs.resolve_left (by decide)
   obtain⟨k,rfl⟩:=Int.eq_ofNat_of_zero_le hx
   have hu:uOf false (k:Int)=k:=by unfold uOf;simp
   have HU:=zH hu
   have f1:IntKind.u64.wrap (k:Int)=(k:Int):=vvP k (by omega)
   clear hs hu
   go_enter Tryz.func312,Tryz.ntmps312
   go_wp2_with fail
   go_ret2
   exact⟨by rw [HU.out];rfl,rfl⟩
theorem kqY (u:Nat) (hu:U64 u) (w:World):Calls Tryz.prog 313 #[.int .u64 (u:Int)] w fun e w'=>e=.returned (.int .i64 ((long u:Nat):Int))/\w=w':=by
 have hb:=yyd hu
 obtain⟨b,hbe⟩:∃ b,b=bl u:=⟨_,rfl⟩
 have HB:=zH hbe
 rw [<-hbe] at hb
 have HL:=zH (show ((long u:Nat):Int)=max 1 (((b:Int)+7) / 8) by unfold long;rw [<-hbe];omega)
 clear hbe
 go_enter Tryz.func313,Tryz.ntmps313
 go_wp2_with (first
  | (go_at_call 315;refine (yyv u hu _).mono ?_;rintro e w1 ⟨rfl,rfl⟩;rw [<-HB.out])
  | fail)
 go_ret
 exact⟨by rw [HL.out];rfl,rfl⟩
theorem kqZ (n u t:Nat) (h:t<n):(be n u).take (t+1)=(be n u).take t++[UInt8.ofNat (u / 256 ^ (n - 1 - t))]:=by
 have hl:t<(be n u).length:=by rw [zzY];exact h
 rw [zT hl]
 have:=vvS n u t h
 rw [List.getElem?_eq_getElem hl] at this
 rw [Option.some.inj this]
theorem kq0 (B u n:Nat) (_:U64 u) (hn:n<=8) (A:Option Addr) (m c:Nat) (L:List UInt8) (hm:m<=100) (w:World) (h:OwnB w B A m c L) (hB:B<=w.heap.size) :
 Calls Tryz.prog 314 #[.int .u64 (u:Int),.int .i64 (n:Int),.slice A m c] w fun e w'=>∃ A' m' c',e=.returned (.slice A' m' c')/\OwnB w' B A' m' c' (L++be n u)/\Below B w w':=by
 have HH:=zH h
 clear h
 go_enter Tryz.func314,Tryz.ntmps314
 go_wp2_with fail
 go_loopw [2,7] (fun av iv wr=>∃ (j:Nat) (z:Int) (A2:Option Addr) (c2:Nat),j<=n/\z=(j:Int) - 1/\iv=.int .i64 z/\av=.slice A2 (m+(n - j)) c2/\OwnB wr B A2 (m+(n - j)) c2 (L++(be n u).take (n - j))/\Below B w wr)
  (fun _ iv _=>(intOf iv+1).toNat)
 case atStart=>exact⟨n,(n:Int) - 1,A,c,Nat.le_refl _,rfl,by first | rfl | go_num,by simp,by rw [Nat.sub_self,Nat.add_zero,List.take_zero,List.append_nil];exact HH.out,zR⟩
 case round =>
  obtain⟨j,z,A2,c2,hj,hz,rfl,rfl,ho,hb⟩:=hrel
  have HO:=zH ho;have HB:=zH hb
  clear ho hb
  cases j with
  | zero =>
    have z1:¬ 0<=z:=by omega
    clear hz
    go_wp2_with fail
    go_ret
    exact⟨A2,_,c2,rfl,by have:=HO.out;rw [Nat.sub_zero,zL (by rw [zzY];exact Nat.le_refl _)] at this;exact this,HB.out⟩
  | succ i =>
    obtain rfl:z=(i:Int):=by omega
    have z0:(0:Int)<=(i:Int):=by omega
    clear hz
    obtain⟨p,hp⟩:∃ p,n - (i+1)=p:=⟨_,rfl⟩
    obtain⟨y,hy⟩:∃ y:UInt8,y=UInt8.ofNat (u / 256 ^ i):=⟨_,rfl⟩
    have hyn:((y.toNat:Nat):Int)=((u / 2 ^ (8*i) % 256:Nat):Int):=by rw [hy,UInt8.toNat_ofNat',xxm]
    have f1:IntKind.u8.wrap ((u:Int) / 2 ^ (8*i))=((y.toNat:Nat):Int):=by
     rw [hyn,IntKind.wrap_u8,show (u:Int) / 2 ^ (8*i)=((u / 2 ^ (8*i):Nat):Int) by simp]
     omega
    have f2:(u:Int) / 2 ^ (8*i) % 256=((y.toNat:Nat):Int):=by
     rw [hyn,show (u:Int) / 2 ^ (8*i)=((u / 2 ^ (8*i):Nat):Int) by simp]
     omega
    have HT:=zH (show (be n u).take (p+1)=(be n u).take p++[y] by rw [kqZ n u p (by omega),hy,show n - 1 - p=i by omega])
    rw [hp] at HO
    have HP:=zH hp
    rw [hp]
    have hp8:p<=8:=by omega
    clear hp hy hyn
    go_wp2_with (first
     | (at_builtin;refine apb1 wr w rfl (.tmp 14) (.tmp 20) rfl B A2 (m+p) c2 (L++(be n u).take p) rfl HO.out HB.out hB _ rfl y rfl (by omega) ?_;intro A3 c3 w3 h3 hb3 _)
     | fail)
    go_roundw
    case rel=>exact⟨i,(i:Int) - 1,A3,c3,by omega,rfl,by first | rfl | go_num,by rw [show n - i=p+1 by have:=HP.out;omega];rfl,by rw [show n - i=p+1 by have:=HP.out;omega,HT.out,<-List.append_assoc];exact h3,hb3⟩
    case measure=>simp [intOf]
end
section
open Go Go.RowKit
theorem zzj {w:World} {g:Nat} {a b d e:Value} {t:TypeId} (h:w.heap[g]?=some (.cells #[a,b,d,e] t (0,0))) :
 (w.cell? ⟨g,0,none⟩=some a/\w.frozen? ⟨g,0,none⟩=false)/\(w.cell? ⟨g,1,none⟩=some b/\w.frozen? ⟨g,1,none⟩=false)/\(w.cell? ⟨g,2,none⟩=some d/\w.frozen? ⟨g,2,none⟩=false)/\(w.cell? ⟨g,3,none⟩=some e/\w.frozen? ⟨g,3,none⟩=false) :=
 ⟨⟨by rw [zC h];rfl,zF h 0⟩,⟨by rw [zC h];rfl,zF h 1⟩,⟨by rw [zC h];rfl,zF h 2⟩,⟨by rw [zC h];rfl,zF h 3⟩⟩
theorem jjH {w:World} {g:Nat} {a b d e:Value} {t:TypeId} (h:w.heap[g]?=some (.cells #[a,b,d,e] t (0,0))) (a' b' d' e':Value) :
 ((((w.setCell ⟨g,0,none⟩ a').setCell ⟨g,1,none⟩ b').setCell ⟨g,2,none⟩ d').setCell ⟨g,3,none⟩ e').heap[g]?=some (.cells #[a',b',d',e'] t (0,0)) :=
 zza (zza (zza (zza h rfl) rfl) rfl) rfl
theorem uuw {w:World} {g b:Nat} (h:b≠g) (a' b' d' e':Value) :
 ((((w.setCell ⟨g,0,none⟩ a').setCell ⟨g,1,none⟩ b').setCell ⟨g,2,none⟩ d').setCell ⟨g,3,none⟩ e').heap[b]?=w.heap[b]? :=
 (Below.heap_setCell _ _ _ _ h).trans ((Below.heap_setCell _ _ _ _ h).trans ((Below.heap_setCell _ _ _ _ h).trans (Below.heap_setCell _ _ _ _ h)))
theorem yyc {w0 w:World} {B g:Nat} (hb:Below B w0 w) (hg:B<=g) (a' b' d' e':Value) :
 Below B w0 ((((w.setCell ⟨g,0,none⟩ a').setCell ⟨g,1,none⟩ b').setCell ⟨g,2,none⟩ d').setCell ⟨g,3,none⟩ e') :=
 zzn (zzn (zzn (zzn hb hg _) hg _) hg _) hg _
end
end Go.Proofs.YtpmglcachffojaaGreatDoor
