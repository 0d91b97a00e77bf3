/- A part of what None leans on. -/
import Derived.Test.YtpmglcachffojaaGreatDoorZ7
set_option maxRecDepth 100000
set_option maxHeartbeats 16000000
namespace Go.Proofs.YtpmglcachffojaaGreatDoor
section
open Go Go.RowKit
theorem kq7 (b:Int) (b0 : -9223372036854775808<b) (b1:b<=9223372036854775807) (w:World) :
 Calls Tryz.prog 292 #[.int .i64 b] w (Own1 w (vvC b)):=by
 obtain⟨u,hu⟩:∃ u,u=b.natAbs:=⟨_,rfl⟩
 have hug:gapN 0 b=u:=by rw [hu];unfold gapN;rw [Int.sub_zero]
 have hul:u<9223372036854775808:=by omega
 have hu64:U64 u:=Nat.lt_trans hul (by decide)
 obtain⟨fl,hfl⟩:∃ fl,fl=decide (b<0):=⟨_,rfl⟩
 have HV:=zH (show yyP 0 b=#[.int .u64 (u:Int),.bool fl,.bool true] by unfold yyP;rw [hug,if_pos hul,<-hfl])
 obtain⟨q,hq⟩:∃ q,q=bl u / 8:=⟨_,rfl⟩
 obtain⟨bb,hbb⟩:∃ bb,bb=bl u:=⟨_,rfl⟩
 have hbb64:bb<=64:=by rw [hbb];exact yyd hu64
 have hq8:q<=8:=by omega
 have HQ:=zH (show (bb:Int) / 8=(q:Int) by omega)
 have htop:u / 256 ^ q<128:=by
  have h1:=xx6 hu64
  rw [xxm]
  refine Nat.div_lt_of_lt_mul (Nat.lt_of_lt_of_le h1 ?_)
  rw [show (128:Nat)=2 ^ 7 from rfl,<-Nat.pow_add]
  exact Nat.pow_le_pow_right (by decide) (by omega)
 have HTOP:=zH htop
 have HB:Hid (vvC b=be (q+1) (u+if fl then 128*256 ^ q else 0)):=zH (by
  unfold vvC
  rw [<-hu,<-hq,hfl]
  by_cases h:b<0
  · rw [if_pos h,decide_eq_true h,if_pos rfl]
  · rw [if_neg h,decide_eq_false h,if_neg (by simp)])
 have HBB:=zH hbb;have HU64:=zH hu64
 have hb0' : -9223372036854775808<=b:=by omega
 clear hu hug hul hfl hq htop hbb hu64
 go_enter Tryz.func292,Tryz.ntmps292
 go_wp2_with (first
  | (go_at_call 320;refine (yyD 0 b (by decide) (by decide) hb0' b1 _).mono ?_;rintro e w1 ⟨rfl,hb1⟩;rw [HV.out];have HB1:=zH hb1;clear hb1)
  | (go_at_call 315;refine (yyv u HU64.out _).mono ?_;rintro e w2 ⟨rfl,rfl⟩;rw [<-HBB.out])
  | fail)
 go_loopw [6,7] (fun av iv wr=>∃ (j:Nat) (z:Int) (A2:Option Addr) (c2:Nat),j<=q+1/\z=(j:Int) - 1/\iv=.int .i64 z/\av=.slice A2 (q+1 - j) c2/\OwnB wr w.heap.size A2 (q+1 - j) c2 ((be (q+1) u).take (q+1 - j))/\Below w.heap.size w wr)
  (fun _ iv _=>(intOf iv+1).toNat)
 case atStart=>exact⟨q+1,(q:Int),none,0,Nat.le_refl _,by omega,by first | rfl | rw [HQ.out] | go_num,by rw [Nat.sub_self],by rw [Nat.sub_self,List.take_zero];exact OwnB.nil_ _ _,HB1.out⟩
 case round =>
  obtain⟨j,z,A2,c2,hj,hz,rfl,rfl,ho,hb⟩:=hrel
  have HO:=zH ho;have HB2:=zH hb
  clear ho hb
  cases j with
  | zero =>
    have z1:¬ 0<=z:=by omega
    clear hz
    have ho:=HO.out
    rw [Nat.sub_zero,zL (by rw [zzY];exact Nat.le_refl _)] at ho
    have HO2:=zH ho
    obtain⟨g,rfl⟩:=ho.own.some1 yyH (by intro h;have:=congrArg List.length h;rw [zzY] at this;simp at this)
    clear ho HO
    cases fl with
    | false =>
      go_wp2_with fail
      go_ret
      exact⟨_,_,c2,rfl,by rw [HB.out,if_neg (by simp),Nat.add_zero];exact HO2.out,HB2.out⟩
    | true =>
      have hl0:0<(be (q+1) u).length:=by rw [zzY];omega
      obtain⟨t,ht⟩:∃ t,t=u / 256 ^ q:=⟨_,rfl⟩
      have ht128:t<128:=by rw [ht];exact HTOP.out
      have hg:((be (q+1) u)[0]'hl0).toNat=t:=by rw [vvx,show q+1 - 1 - 0=q by omega,<-ht,Nat.mod_eq_of_lt (by omega)]
      have g0:wr.cell? ⟨g,0,none⟩=some (.int .u8 (t:Int)):=by rw [HO2.out.own.cell1 yyH hl0,hg]
      have g1:wr.frozen? ⟨g,0,none⟩=false:=HO2.out.own.free1 yyH 0
      obtain⟨y,hy⟩:∃ y:UInt8,y=UInt8.ofNat (t+128):=⟨_,rfl⟩
      have hor:bits BinOp.or IntKind.u8 (t:Int) 128=((y.toNat:Nat):Int):=by
       rw [u8_or128_right _ (by omega) (by omega),hy,UInt8.toNat_ofNat',Nat.mod_eq_of_lt (by omega)]
       omega
      have HFIN:=zH (show (be (q+1) u).set 0 y=be (q+1) (u+128*256 ^ q) by
       have:=qxe (q+1) u 0 128 (by omega) (by rw [show q+1 - 1 - 0=q by omega,<-ht];omega)
       rw [show q+1 - 1 - 0=q by omega,<-ht,Nat.mod_eq_of_lt (by omega)] at this
       rw [hy];exact this)
      have HHOR:=zH hor
      have hq0:(0:Int)<(q:Int)+1:=by omega
      clear hg ht hy hl0 hor
      go_wp2_with fail
      rw [HHOR.out]
      go_ret
      have hr:=HO2.out.own.set1 yyH 0 y trivial
      refine⟨_,_,c2,rfl,?_,zzn HB2.out (HO2.out.own.base1 yyH).1 _⟩
      rw [HB.out,if_pos (by simp),<-HFIN.out]
      exact zz7 ⟨_,hr⟩
  | succ i =>
    obtain rfl:z=(i:Int):=by omega
    have z0:(0:Int)<=(i:Int):=by omega
    clear hz
    obtain⟨p,hp⟩:∃ p,q+1 - (i+1)=p:=⟨_,rfl⟩
    obtain⟨y,hy⟩:∃ y:UInt8,y=UInt8.ofNat (u / 256 ^ i):=⟨_,rfl⟩
    have hyn:((y.toNat:Nat):Int)=((u / 2 ^ (8*i) % 256:Nat):Int):=by rw [hy,UInt8.toNat_ofNat',xxm]
    have f1:IntKind.u8.wrap ((u:Int) / 2 ^ (8*i))=((y.toNat:Nat):Int):=by
     rw [hyn,IntKind.wrap_u8,show (u:Int) / 2 ^ (8*i)=((u / 2 ^ (8*i):Nat):Int) by simp]
     omega
    have f2:(u:Int) / 2 ^ (8*i) % 256=((y.toNat:Nat):Int):=by
     rw [hyn,show (u:Int) / 2 ^ (8*i)=((u / 2 ^ (8*i):Nat):Int) by simp]
     omega
    have HT:=zH (show (be (q+1) u).take (p+1)=(be (q+1) u).take p++[y] by rw [kqZ (q+1) u p (by omega),hy,show q+1 - 1 - p=i by omega])
    rw [hp] at HO
    have HP:=zH hp
    rw [hp]
    have hp8:p<=9:=by omega
    clear hp hy hyn
    go_wp2_with (first
     | (at_builtin;refine apb1 wr w rfl (.tmp 23) (.tmp 29) rfl w.heap.size A2 p c2 ((be (q+1) u).take p) rfl HO.out HB2.out zN _ rfl y rfl (by omega) ?_;intro A3 c3 w3 h3 hb3 _)
     | fail)
    go_roundw
    case rel=>exact⟨i,(i:Int) - 1,A3,c3,by omega,rfl,by first | rfl | go_num,by rw [show q+1 - i=p+1 by have:=HP.out;omega],by rw [show q+1 - i=p+1 by have:=HP.out;omega,HT.out];exact h3,hb3⟩
    case measure=>simp [intOf]
end
end Go.Proofs.YtpmglcachffojaaGreatDoor
