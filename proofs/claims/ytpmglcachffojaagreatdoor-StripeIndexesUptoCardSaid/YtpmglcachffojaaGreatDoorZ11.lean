/- A part of what Indexes leans on. -/
import Derived.Test.YtpmglcachffojaaGreatDoorZ7
set_option maxRecDepth 100000
set_option maxHeartbeats 16000000
namespace Go.Proofs.YtpmglcachffojaaGreatDoor
section
open Go Go.RowKit
theorem tab_cell {g:Nat} {w:World} (h:TabC g w) (q:Nat) (hq:q<256):w.cell? ⟨g,q,none⟩=some (.int .u32 (yyr q:Int)):=by
 rw [zC h]
 have:=uun 256 q hq
 rw [if_pos hq] at this
 simpa [jjt] using this
theorem xor_mod8 (r x:Nat) (hx:x<256):(r % 256) ^^^ x=(r ^^^ x) % 256:=by
 have h:=Nat.xor_mod_two_pow (a:=r) (b:=x) (n:=8)
 rw [show (2:Nat) ^ 8=256 from rfl,Nat.mod_eq_of_lt hx] at h
 exact h.symm
theorem tsum_any (g:Nat) (F:Nat->Prop) (A:Option Addr) (n c:Nat) (l:List UInt8) (w:World) (hT:TabC g w) (h:Sl tU8 F w A n c l) (hn:n<=4294967296) :
 Calls Tryz.prog 182 #[.pointer (some ⟨g,0,none⟩),.slice A n c] w fun e w'=>e=.returned (.int .u32 (yy9 l:Nat))/\w=w':=by
 have HH:=zH h;have HL:=zH h.len;have HT:=zH hT
 clear h hT
 go_enter Tryz.func182,Tryz.ntmps182
 go_wp2_with fail
 go_loopw [5,10] (fun rv kv wr=>∃ (k:Nat),k<=n/\kv=.int .i64 (k:Int)/\rv=.int .u32 (zzO (l.take k):Nat)/\w=wr) (fun _ kv _=>n - (intOf kv).toNat)
 case atStart=>exact⟨0,Nat.zero_le _,rfl,rfl,rfl⟩
 case round =>
  obtain⟨k,hk,rfl,rfl,rfl⟩:=hrel
  by_cases hlt:k<n
  · have hkl:k<l.length:=by rw [<-HL.out];exact hlt
    obtain⟨b,o,u,rfl,_,_,hr,hc⟩:=HH.out.at1 hkl rfl
    obtain⟨x,hx⟩:∃ x,x=l[k]:=⟨_,rfl⟩
    rw [<-hx] at hr
    injection hr with hr;subst hr
    have hb:=xxg (l.take k)
    have hs:zzO (l.take (k+1))=jjs (zzO (l.take k)) x:=by rw [zT hkl,xxT,hx]
    obtain⟨r,hr⟩:∃ r,r=zzO (l.take k):=⟨_,rfl⟩
    rw [<-hr] at hb hs ⊢
    unfold jjs at hs
    obtain⟨y,hy⟩:∃ y:Nat,y=x.toNat:=⟨_,rfl⟩
    have hy8:y<256:=by rw [hy];exact x.toNat_lt
    rw [<-hy] at hs hc
    obtain⟨q,hq⟩:∃ q,q=(r ^^^ y) % 256:=⟨_,rfl⟩
    have hq8:q<256:=by rw [hq];omega
    have HQ:=zH (show bits BinOp.xor IntKind.u8 ((r:Int) % 256) (y:Int)=((q:Nat):Int) by
     rw [show (r:Int) % 256=((r % 256:Nat):Int) by omega,u8_xor_nat _ _ (by omega) hy8,xor_mod8 r y hy8,hq])
    rw [<-hq] at hs
    have ht:=tab_cell HT.out q hq8
    obtain⟨z,hz⟩:∃ z,z=yyr q:=⟨_,rfl⟩
    have hz32:z<4294967296:=by rw [hz];exact vvG (by omega)
    rw [<-hz] at hs ht
    have HS:=zH (show bits BinOp.xor IntKind.u32 ((r:Int) / 256) (z:Int)=((zzO (l.take (k+1)):Nat):Int) by
     rw [hs,show (r:Int) / 256=((r / 256:Nat):Int) by omega]
     exact u32_xor_nat _ _ (by omega) hz32)
    have hi0:(0:Int)<=(k:Int):=by omega
    have hi1:(k:Int)<(n:Int):=by omega
    have hq0:(0:Int)<=(q:Int):=by omega
    have hq1:(q:Int)<256:=by omega
    have hqq:=HQ.out
    clear hr hs hx hy hq hz
    go_wp2_with fail
    go_roundw
    case rel=>exact⟨k+1,by omega,by go_num,by rw [HS.out],trivial⟩
    case measure=>simp [intOf];omega
  · obtain rfl:k=n:=by omega
    have e1:l.take k=l:=zL (by rw [<-HL.out];exact Nat.le_refl _)
    have HE:=zH (show bits BinOp.xor IntKind.u32 IntKind.u32.max ((zzO l:Nat):Int)=((yy9 l:Nat):Int) by
     rw [show IntKind.u32.max=((4294967295:Nat):Int) by decide,u32_xor_nat 4294967295 (zzO l) (by omega) (xxg l),Nat.xor_comm,kqk _ (xxg l)]
     rfl)
    rw [e1]
    go_wp2_with fail
    go_ret
    exact⟨ret_u32 HE.out,rfl⟩
theorem kql (F:Nat->Prop) (A:Option Addr) (n c:Nat) (l:List UInt8) (w:World) (h:Sl tU8 F w A n c l) (hn:n<=34359738368):Calls Tryz.prog 181 #[.slice A n c] w (Own1 w l):=by
 cases A with
 | none =>
   have hl:l=[]:=by
    cases l with
    | nil=>rfl
    | cons x r=>obtain⟨b,o,_,e,_⟩:=h.at_ (k:=0) (by simp) (by decide);cases e
   have hn0:=h.len
   subst hl
   obtain rfl:n=0:=hn0
   have hq:(binOp .eql 41 (.slice none 0 c) (.slice none 0 0)).run Tryz.prog w=.ok (.bool true) w:=Lib.run_eql_slice_nil w _ _ none 0 c 0 0 (show Tryz.prog.underlying 41=some (.slice 5) by kernel_rfl)
   clear h hn
   go_enter Tryz.func181,Tryz.ntmps181
   go_wp2_with fail
   go_ret
   exact⟨none,0,0,rfl,OwnB.nil_ _ _,zR⟩
 | some a =>
   have hq:(binOp .eql 41 (.slice (some a) n c) (.slice none 0 0)).run Tryz.prog w=.ok (.bool false) w:=Lib.run_eql_slice_nil w _ _ (some a) n c 0 0 (show Tryz.prog.underlying 41=some (.slice 5) by kernel_rfl)
   have HS:=zH ((h.weaken (F':=fun b=>F b/\b<w.heap.size) fun b hb hl=>⟨hb,hl⟩).alloc (.cells #[] 5))
   have HE:=zH (World.ownsRow_lit w #[] 0 zN (by simp [maxLen]) rfl:OwnB (w.alloc (.cells #[] 5)) w.heap.size (some ⟨w.heap.size,0,none⟩) 0 0 [])
   clear h
   go_enter Tryz.func181,Tryz.ntmps181
   go_wp2_with (first
    | (at_builtin;refine apb (w.alloc (.cells #[] 5)) w rfl (.tmp 5) (.tmp 6) rfl w.heap.size (some ⟨w.heap.size,0,none⟩) 0 0 [] rfl HE.out ((zR).alloc zN _) zN _ (some a) n c l rfl HS.out (by omega) ?_;intro A5 c5 w5 h5 hb5 _)
    | fail)
   go_ret
   rw [Nat.zero_add,List.nil_append] at h5
   exact⟨A5,n,c5,rfl,h5,hb5⟩
def sumK (s k:Nat):List UInt8:=([zzJ s 0,zzJ s 1,zzJ s 2,zzJ s 3]:List UInt8).take k
theorem byte_u8 (s i:Nat):((zzJ s i).toNat:Int)=(s:Int) / ((256 ^ i:Nat):Int) % 256:=by
 unfold zzJ
 rw [UInt8.toNat_ofNat']
 omega
theorem bytes4 (s:Nat) (hs:s<4294967296):((zzJ s 0).toNat:Int)=(s:Int) % 256/\((zzJ s 1).toNat:Int)=(s:Int) / 256 % 256/\((zzJ s 2).toNat:Int)=(s:Int) / 65536 % 256/\((zzJ s 3).toNat:Int)=(s:Int) / 16777216:=by
 refine⟨?_,?_,?_,?_⟩ <;> rw [byte_u8] <;> simp <;> omega
theorem kqZ (g:Nat) (F:Nat->Prop) (A:Option Addr) (n c:Nat) (l:List UInt8) (w:World) (hT:TabC g w) (h:Sl tU8 F w A n c l) (hn:n<=4294967200) :
 Calls Tryz.prog 123 #[.pointer (some ⟨g,0,none⟩),.slice A n c] w (Own1 w (vvF l)):=by
 have HH:=zH h;have HL:=zH h.len;have HT:=zH hT
 have hs32:yy9 l<4294967296:=by unfold yy9;omega
 obtain⟨s,hs⟩:∃ s,s=yy9 l:=⟨_,rfl⟩
 have HS:=zH hs
 rw [<-hs] at hs32
 have HS32:=zH hs32
 clear h hT hs
 go_enter Tryz.func123,Tryz.ntmps123
 go_wp2_with (first
  | (go_at_call 181;refine (kql F A n c l _ HH.out (by omega)).mono ?_;rintro e w1 ⟨A1,n1,c1,rfl,ho1,hb1⟩;obtain rfl:n1=n:=(by have h1:=ho1.len;have h2:=HL.out;omega);have HO1:=zH ho1;have HB1:=zH hb1;clear ho1 hb1)
  | (go_at_call 182;refine (tsum_any g F A _ c l _ (HT.out.keep HB1.out) (HH.out.below HB1.out zN) (by omega)).mono ?_;rintro e w2 ⟨rfl,rfl⟩;rw [<-HS.out])
  | fail)
 go_loopw [5,13] (fun v kv wr=>∃ (k:Nat) (A2:Option Addr) (c2:Nat),k<=4/\kv=.int .i64 (k:Int)/\v=.slice A2 (n1+k) c2/\OwnB wr w.heap.size A2 (n1+k) c2 (l++sumK s k)/\Below w.heap.size w wr) (fun _ kv _=>4 - (intOf kv).toNat)
 case atStart=>exact⟨0,A1,c1,by omega,rfl,rfl,by rw [show l++sumK s 0=l by unfold sumK;simp];exact HO1.out,HB1.out⟩
 case round =>
  obtain⟨k,A2,c2,hk,rfl,rfl,ho,hb⟩:=hrel
  have HO:=zH ho;have HB:=zH hb
  clear ho hb
  obtain⟨b0,b1,b2,b3⟩:=bytes4 s HS32.out
  have HB0:=zH b0;have HB1':=zH b1;have HB2:=zH b2;have HB3:=zH b3
  clear b0 b1 b2 b3
  have hcase:k=0∨k=1∨k=2∨k=3∨k=4:=by omega
  have hn4:n1+4<=34359738368:=by omega
  clear hk
  rcases hcase with rfl | rfl | rfl | rfl | rfl
  · rw [Nat.add_zero] at HO ⊢
    go_wp2_with (first
     | (at_builtin;refine apb1 wr w rfl (.tmp 16) (.tmp 22) rfl w.heap.size A2 n1 c2 (l++sumK s 0) rfl HO.out HB.out zN _ rfl (zzJ s 0) (by rw [HB0.out]) (by omega) ?_;intro A5 c5 w5 h5 hb5 _;have HO5:=zH h5;have HB5:=zH hb5;clear h5 hb5)
     | fail)
    go_roundw
    case rel=>exact⟨1,A5,c5,by omega,rfl,rfl,by have h6:=HO5.out;rw [List.append_assoc] at h6;exact h6,HB5.out⟩
    case measure=>simp [intOf]
  · go_wp2_with (first
     | (at_builtin;refine apb1 wr w rfl (.tmp 16) (.tmp 22) rfl w.heap.size A2 (n1+1) c2 (l++sumK s 1) rfl HO.out HB.out zN _ rfl (zzJ s 1) (by rw [HB1'.out]) (by omega) ?_;intro A5 c5 w5 h5 hb5 _;have HO5:=zH h5;have HB5:=zH hb5;clear h5 hb5)
     | fail)
    go_roundw
    case rel=>exact⟨2,A5,c5,by omega,rfl,rfl,by have h6:=HO5.out;rw [List.append_assoc] at h6;exact h6,HB5.out⟩
    case measure=>simp [intOf]
  · go_wp2_with (first
     | (at_builtin;refine apb1 wr w rfl (.tmp 16) (.tmp 22) rfl w.heap.size A2 (n1+2) c2 (l++sumK s 2) rfl HO.out HB.out zN _ rfl (zzJ s 2) (by rw [HB2.out]) (by omega) ?_;intro A5 c5 w5 h5 hb5 _;have HO5:=zH h5;have HB5:=zH hb5;clear h5 hb5)
     | fail)
    go_roundw
    case rel=>exact⟨3,A5,c5,by omega,rfl,rfl,by have h6:=HO5.out;rw [List.append_assoc] at h6;exact h6,HB5.out⟩
    case measure=>simp [intOf]
  · go_wp2_with (first
     | (at_builtin;refine apb1 wr w rfl (.tmp 16) (.tmp 22) rfl w.heap.size A2 (n1+3) c2 (l++sumK s 3) rfl HO.out HB.out zN _ rfl (zzJ s 3) (by rw [HB3.out]) (by omega) ?_;intro A5 c5 w5 h5 hb5 _;have HO5:=zH h5;have HB5:=zH hb5;clear h5 hb5)
     | fail)
    go_roundw
    case rel=>exact⟨4,A5,c5,by omega,rfl,rfl,by have h6:=HO5.out;rw [List.append_assoc] at h6;exact h6,HB5.out⟩
    case measure=>simp [intOf]
  · have HX:=zH (show l++sumK s 4=vvF l by rw [HS.out];rfl)
    rw [HX.out] at HO
    go_wp2_with fail
    go_ret
    exact⟨A2,n1+4,c2,rfl,HO.out,HB.out⟩
theorem vvX (F:Nat->Prop) (A:Option Addr) (n c:Nat) (l:List UInt8) (w:World) (h:Sl tU8 F w A n c l) (hn:n<=4294967200) :
 Calls Tryz.prog 26 #[.slice A n c] w (Own1 w (vvF l)):=by
 have HH:=zH h;have HL:=zH h.len
 have hs32:yy9 l<4294967296:=by unfold yy9;omega
 obtain⟨s,hs⟩:∃ s,s=yy9 l:=⟨_,rfl⟩
 have HS:=zH hs
 rw [<-hs] at hs32
 have HS32:=zH hs32
 have HE:=zH (World.ownsRow_lit w #[] 0 zN (by simp [maxLen]) rfl:OwnB (w.alloc (.cells #[] 5)) w.heap.size (some ⟨w.heap.size,0,none⟩) 0 0 [])
 have HN:=zH ((h.weaken (F':=fun b=>F b/\b<w.heap.size) fun b hb hl=>⟨hb,hl⟩).alloc (.cells #[] 5))
 clear h hs
 go_enter Tryz.func26,Tryz.ntmps26
 go_upto_region 2 with (first
  | (go_at_call 68;refine (sum_any F A n c l _ HH.out (by omega)).mono ?_;rintro e w2 ⟨rfl,rfl⟩;rw [<-HS.out])
  | fail)
 obtain⟨b0,b1,b2,b3⟩:=bytes4 s HS32.out
 have HSRC:=zH (show ∀ w5:World,OwnB (w5.alloc (.cells #[.int .u8 ((s:Int) % 256),.int .u8 ((s:Int) / 256 % 256),.int .u8 ((s:Int) / 65536 % 256),.int .u8 ((s:Int) / 16777216)] 5)) w5.heap.size (some ⟨w5.heap.size,0,none⟩) 4 4 (sumK s 4) from fun w5=>by
  rw [<-b0,<-b1,<-b2,<-b3]
  exact World.ownsRow_lit w5 #[bv (zzJ s 0),bv (zzJ s 1),bv (zzJ s 2),bv (zzJ s 3)] 4 zN (by simp [maxLen]) rfl)
 have HX:=zH (show l++sumK s 4=vvF l by rw [HS.out];rfl)
 clear b0 b1 b2 b3
 go_wp2_with (first
  | (at_builtin;refine apb (w.alloc (.cells #[] 5)) w rfl (.tmp 6) (.tmp 7) rfl w.heap.size (some ⟨w.heap.size,0,none⟩) 0 0 [] rfl HE.out ((zR).alloc zN _) zN _ A n c l rfl HN.out (by omega) ?_;intro A5 c5 w5 h5 hb5 _;rw [Nat.zero_add,List.nil_append] at h5;rw [Nat.zero_add];have HO5:=zH h5;have HB5:=zH hb5;clear h5 hb5)
  | (at_builtin;refine apb (w5.alloc _) w rfl (.tmp 8) (.tmp 20) rfl w.heap.size A5 n c5 l rfl (HO5.out.keepB ((zR).alloc zN _)) (HB5.out.alloc HB5.out.size _) zN _ (some ⟨w5.heap.size,0,none⟩) 4 4 (sumK s 4) rfl (HSRC.out w5).bs (by omega) ?_;intro A6 c6 w6 h6 hb6 _;rw [HX.out] at h6;have HO6:=zH h6;have HB6:=zH hb6;clear h6 hb6)
  | fail)
 go_ret
 exact⟨A6,n+4,c6,rfl,HO6.out,HB6.out⟩
end
end Go.Proofs.YtpmglcachffojaaGreatDoor
