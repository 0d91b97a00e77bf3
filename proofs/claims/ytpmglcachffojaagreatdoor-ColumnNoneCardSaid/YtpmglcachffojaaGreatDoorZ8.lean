/- A part of what None leans on. -/
import Derived.Test.YtpmglcachffojaaGreatDoorZ6
set_option maxRecDepth 100000
set_option maxHeartbeats 16000000
namespace Go.Proofs.YtpmglcachffojaaGreatDoor
section
open Go Go.RowKit
theorem qza (x0:Int):∀ (l:List Int) (k:Nat),((l.take k).takeWhile (·==x0)).length=min k (l.takeWhile (·==x0)).length
 | _,0=>by simp
 | [],k+1=>by simp
 | a::r,k+1=>by
   rw [List.take_succ_cons,List.takeWhile_cons,List.takeWhile_cons]
   cases h:(a==x0) with
   | true=>rw [if_pos rfl,if_pos rfl,List.length_cons,List.length_cons,qza x0 r k];omega
   | false=>rw [if_neg (by simp),if_neg (by simp)];simp
theorem jjV (l:List Int) (i m:Nat) (hm:m=min l.length (i+5)) (hi:i<l.length):zz6 ((l.take m).drop i)=min 5 (zz6 (l.drop i)):=by
 have e:(l.take m).drop i=(l.drop i).take 5:=by
  rw [List.drop_take]
  by_cases h:l.length<=i+5
  · rw [zL (by rw [List.length_drop];omega),zL (by rw [List.length_drop];omega)]
  · rw [show m - i=5 by omega]
 rw [e]
 unfold zz6
 rw [qza]
 congr 4
 match hd:l.drop i with
 | []=>rfl
 | _::_=>rfl
theorem qxI (F:Nat->Prop) (A:Option Addr) (n c:Nat) (l:List Int) (w:World) (h:Sl tI64 F w A n c l) (hl:l≠[]) (hn:n<=4294967296) :
 Calls Tryz.prog 161 #[.slice A n c] w fun e w'=>e=.returned (.int .i64 ((cutN l:Nat):Int))/\Below w.heap.size w w':=by
 have HS:=zH (vvH F A n c l w h hl)
 have HH:=zH h
 have hlen:=h.len
 have hpos:=List.length_pos_iff.2 hl
 have hc2:=h.2.1
 have hc3:=h.2.2.1
 unfold maxLen at hc3
 have hsl:=jji l
 obtain⟨s,hs⟩:∃ s,s=zz6 l:=⟨_,rfl⟩
 obtain⟨t,ht⟩:∃ t,t=cutN l:=⟨_,rfl⟩
 obtain⟨b,o,rfl,_,_⟩:=yya h hl
 have HT:=zH ht
 have hsn:s<=n:=by omega
 rw [<-hs] at HS
 rw [<-ht]
 have hn1:1<=n:=by omega
 by_cases h3:3<=s
 · have HM:=zH (show min (s:Int) 512=(t:Int) by rw [ht,cutN,<-hs,if_pos h3];omega)
   have z:(3:Int)<=(s:Int):=by omega
   clear h hlen hpos hs ht hsl h3
   go_enter Tryz.func161,Tryz.ntmps161
   go_wp2_with (first
    | (go_at_call 204;refine HS.out.mono ?_;rintro e w1 ⟨rfl,hb1⟩;have HB1:=zH hb1;clear hb1)
    | fail)
   go_ret
   exact⟨by rw [<-HM.out];rfl,HB1.out⟩
 · obtain⟨en,hen⟩:∃ en,en=min n 512:=⟨_,rfl⟩
   have hen1:1<=en/\en<=512/\en<=n:=by omega
   have HEN:=zH (show min (n:Int) 512=(en:Int) by omega)
   have HC:=zH (show t=xxj l (en - 1) 1 by
    rw [ht,cutN,<-hs,if_neg h3]
    by_cases h1:l.length<=1
    · rw [if_pos h1,show en - 1=0 by omega,xxj];omega
    · rw [if_neg h1,hen,<-hlen])
   have z:¬ (3:Int)<=(s:Int):=by omega
   have HLN:=zH hlen
   have HE1:=zH hen1
   clear h hlen hpos hs ht hsl h3 hen hen1
   go_enter Tryz.func161,Tryz.ntmps161
   go_wp2_with (first
    | (go_at_call 204;refine HS.out.mono ?_;rintro e w1 ⟨rfl,hb1⟩;have HB1:=zH hb1;clear hb1)
    | fail)
   try rw [HEN.out]
   go_loopw [5] (fun iv wr=>∃ i:Nat,1<=i/\i<=en/\iv=.int .i64 (i:Int)/\Below w.heap.size w wr/\Hid (t=xxj l (en - i) i))
    (fun iv _=>en - (intOf iv).toNat)
   case atStart=>exact⟨1,Nat.le_refl _,HE1.out.1,rfl,HB1.out,HC⟩
   case round =>
    obtain⟨i,hi1,hi,rfl,hb,HCI⟩:=hrel
    have HB:=zH hb
    clear hb
    by_cases hlt:i<en
    · have hiE:=HE1.out
      obtain⟨m,hm⟩:∃ m,m=min n (i+5):=⟨_,rfl⟩
      have HM:=zH (show min (n:Int) ((i:Int)+5)=(m:Int) by omega)
      have him:i<m/\m<=n:=by omega
      have HF5:=zH (jjV l i m (by rw [hm,HLN.out]) (by rw [<-HLN.out];omega))
      have hcut:=(HH.out.below HB.out zN).cut (lo:=i) (hi:=m) (by omega) him.2
      have hci:¬ c=i:=by omega
      rw [if_neg hci] at hcut
      have hcut2:Sl tI64 F wr (some ⟨b,o+i,none⟩) (m - i) (c - i) ((l.take m).drop i):=by
       simpa [Addr.add,show tI64.size=1 from rfl,show ¬ i=0 by omega] using hcut
      obtain⟨s5,hs5⟩:∃ s5,s5=min 5 (zz6 (l.drop i)):=⟨_,rfl⟩
      have HC5:=zH (vvH F _ _ _ _ wr hcut2 (by intro e;have:=congrArg List.length e;rw [List.length_drop,List.length_take] at this;have:=HLN.out;simp at *;omega))
      rw [HF5.out,<-hs5] at HC5
      have HS5:=zH hs5
      have i0:(0:Int)<=(i:Int):=by omega
      have i1:(i:Int)<(en:Int):=by omega
      have i2:(i:Int)<=(m:Int):=by omega
      have i3:(m:Int)<=(c:Int):=by omega
      have i4:i<=m:=by omega
      have i5:m<=c:=by omega
      clear hm him hcut hcut2 hs5 hiE
      have zm:=HM.out
      have i6:(c:Int)<=9223372036854775807:=by omega
      by_cases h5:s5=5
      · have HFIN:=zH (show t=i by
         have:=HS5.out
         rw [HCI.out,show en - i=(en - i - 1)+1 by omega,xxj,if_pos (by omega)])
        have h5I:(s5:Int)=5:=by omega
        clear h5
        go_wp2_with (first
         | (go_at_call 204;refine HC5.out.mono ?_;rintro e w2 ⟨rfl,hb2⟩;have HB2:=zH (HB.out.trans (hb2.mono HB.out.size));clear hb2)
         | fail)
        go_ret
        exact⟨by rw [HFIN.out];rfl,HB2.out⟩
      · have HFIN:=zH (show t=xxj l (en - (i+1)) (i+1) by
         have:=HS5.out
         rw [HCI.out,show en - i=(en - (i+1))+1 by omega,xxj,if_neg (by omega)])
        have h5I:¬ (s5:Int)=5:=by omega
        clear h5
        go_wp2_with (first
         | (go_at_call 204;refine HC5.out.mono ?_;rintro e w2 ⟨rfl,hb2⟩;have HB2:=zH (HB.out.trans (hb2.mono HB.out.size));clear hb2)
         | fail)
        go_roundw
        case rel=>exact⟨i+1,by omega,by omega,by go_num,HB2.out,HFIN⟩
        case measure=>simp [intOf];omega
    · obtain rfl:i=en:=by omega
      have i1:¬ (i:Int)<(i:Int):=by omega
      go_wp2_with fail
      go_ret
      exact⟨by rw [HCI.out,Nat.sub_self,xxj];rfl,HB.out⟩
end
end Go.Proofs.YtpmglcachffojaaGreatDoor
