/- A part of what None leans on. -/
import Derived.Test.YtpmglcachffojaaGreatDoorZ9
import Derived.Test.YtpmglcachffojaaGreatDoorZ20
import Derived.Lib.OthersKept
import Derived.Lib.ValidLaws
import Derived.Laws.RangeAny
import Derived.Laws.StructEq
import Derived.Lib.QuoteBits
set_option maxRecDepth 100000
set_option maxHeartbeats 16000000
namespace Go.Proofs.YtpmglcachffojaaGreatDoor
section
open Go Go.RowKit
theorem vvM:zzL Tryz.prog 139 4 zzU.size:=zzL.mk' (bytes:=1) (z:=.bool false) (by kernel_rfl) (by kernel_rfl) rfl (by decide) (by decide)
theorem xxb:zzL Tryz.prog 94 3 tI64.size:=zzL.mk' (bytes:=8) (z:=.int .i64 0) (by kernel_rfl) (by kernel_rfl) rfl (by decide) (by decide)
theorem yyF {P:Program} {f:FuncId} {args:Array Value} {w:World} {r:Ending} (h:Calls P f args w fun e w'=>e=r/\w=w'):Calls P f args w fun e w'=>e=r/\Below w.heap.size w w' :=
 h.mono fun _ _ h2=>⟨h2.1,by rw [<-h2.2];exact zR⟩
def OwnE {α:Type} (T:Ty α) (t:TypeId) (l:List α) (w:World) (e:Ending) (w':World):Prop :=
 ∃ A n c,e=.returned (.slice A n c)/\Own T t w' w.heap.size A n c l/\Below w.heap.size w w'
theorem vvN (F:Nat->Prop) (A:Option Addr) (n c:Nat) (l:List VV) (w:World) (h:Sl tVV F w A n c l) (hl:n<=4096) :
 Calls Tryz.prog 146 #[.slice A n c,.func (.func 147) #[] #[]] w (OwnE zzU 4 (l.map (fun v:VV => !v.null)) w):=by
 have HL:=zH h.len
 go_enter Tryz.func146,Tryz.ntmps146
 go_wp2
 go_loopw [5,10] (fun v i wr=>∃ (k:Nat) (A2:Option Addr) (c2:Nat) (G:Nat->Prop),k<=n/\i=.int .i64 k/\v=.slice A2 k c2/\OwnF zzU 4 G wr w.heap.size A2 k c2 ((l.take k).map (fun v:VV => !v.null))/\Below w.heap.size w wr)
  (fun _ i _=>n - (intOf i).toNat)
 case atStart=>exact⟨0,none,0,fun _=>False,Nat.zero_le _,rfl,rfl,OwnF.nil_ _ _ _ _ _,zR⟩
 case round =>
  obtain⟨k,A2,c2,G,hk,rfl,rfl,hown,hb⟩:=hrel
  by_cases hlt:k<n
  · have hkl:k<l.length:=by rw [<-HL.out];exact hlt
    obtain⟨b,o,cs,rfl,_,hbl,hrep,hc⟩:=(h.below hb zN).at_ hkl (by decide)
    obtain⟨v,hf⟩:∃ v,v=l[k]:=⟨_,rfl⟩
    obtain⟨rfl,hok⟩:=hrep
    rw [<-hf] at hc hok
    obtain⟨nu,x,s⟩:=v
    obtain⟨x0,x1,_⟩:=hok
    have x0 : -9223372036854775808<=x:=x0
    have x1:x<=9223372036854775807:=x1
    have HF:=zH hf;clear hf
    obtain⟨g0,g1,g2⟩:=yyo hc
    clear hc
    have g0:_=some (Value.bool nu):=g0
    have g1:_=some (Value.int .i64 x):=g1
    have g2:_=some (Value.string s):=g2
    have HO:=zH hown;clear hown
    have hsz:=hb.size
    go_wp2_with (first
     | (go_at_call 147;refine (xqm nu x s _).mono ?_;rintro e w1 ⟨rfl,hb3⟩;have HB3:=zH hb3;clear hb3)
     | (at_builtin;refine apl1 (T:=zzU) vvM w1 w rfl (.tmp 14) (.tmp 18) rfl w.heap.size A2 k c2 ((l.take k).map (fun v:VV => !v.null)) (by rfl) G (fun _=>False) (by first | exact (HO.out.alloc _).keepB HB3.out | exact ((HO.out.alloc _).keepB ((zR).drew)).keepB HB3.out) (by first | exact (hb.alloc hsz _).trans (HB3.out.mono (by simp;omega)) | exact (hb.alloc hsz _).drew.trans (HB3.out.mono (by simp;omega))) zN _ (by rfl) [.bool (!nu)] ((fun v:VV => !v.null) ⟨nu,x,s⟩) (by rfl) 4 rfl (fun _ _ _ _ h4=>h4) (by omega) ?_;intro A5 c5 w5 h5))
    go_roundw
    case rel =>
     have e1:(l.take (k+1)).map (fun v:VV => !v.null)=(l.take k).map (fun v:VV => !v.null)++[(fun v:VV => !v.null) ⟨nu,x,s⟩]:=by
      rw [zT hkl,List.map_append,<-HF.out];rfl
     have e2:=h5.own
     rw [<-e1] at e2
     exact⟨k+1,A5,c5,_,by omega,by go_num,rfl,e2,h5.below⟩
    case measure=>simp [intOf];omega
  · obtain rfl:k=n:=by omega
    have e1:l.take k=l:=zL (by rw [<-HL.out];exact Nat.le_refl _)
    rw [e1] at hown
    have HO:=zH hown;clear hown e1
    go_wp2
    go_ret
    exact⟨A2,k,c2,rfl,⟨G,HO.out⟩,hb⟩
theorem jj5 (F:Nat->Prop) (A:Option Addr) (n c:Nat) (l:List VV) (w:World) (h:Sl tVV F w A n c l) (hl:n<=4096) :
 Calls Tryz.prog 90 #[.slice A n c,.func (.func 91) #[] #[]] w (OwnE zzU 4 (l.map (fun v:VV=>v.n==1)) w):=by
 have HL:=zH h.len
 go_enter Tryz.func90,Tryz.ntmps90
 go_wp2
 go_loopw [5,10] (fun v i wr=>∃ (k:Nat) (A2:Option Addr) (c2:Nat) (G:Nat->Prop),k<=n/\i=.int .i64 k/\v=.slice A2 k c2/\OwnF zzU 4 G wr w.heap.size A2 k c2 ((l.take k).map (fun v:VV=>v.n==1))/\Below w.heap.size w wr)
  (fun _ i _=>n - (intOf i).toNat)
 case atStart=>exact⟨0,none,0,fun _=>False,Nat.zero_le _,rfl,rfl,OwnF.nil_ _ _ _ _ _,zR⟩
 case round =>
  obtain⟨k,A2,c2,G,hk,rfl,rfl,hown,hb⟩:=hrel
  by_cases hlt:k<n
  · have hkl:k<l.length:=by rw [<-HL.out];exact hlt
    obtain⟨b,o,cs,rfl,_,hbl,hrep,hc⟩:=(h.below hb zN).at_ hkl (by decide)
    obtain⟨v,hf⟩:∃ v,v=l[k]:=⟨_,rfl⟩
    obtain⟨rfl,hok⟩:=hrep
    rw [<-hf] at hc hok
    obtain⟨nu,x,s⟩:=v
    obtain⟨x0,x1,_⟩:=hok
    have x0 : -9223372036854775808<=x:=x0
    have x1:x<=9223372036854775807:=x1
    have HF:=zH hf;clear hf
    obtain⟨g0,g1,g2⟩:=yyo hc
    clear hc
    have g0:_=some (Value.bool nu):=g0
    have g1:_=some (Value.int .i64 x):=g1
    have g2:_=some (Value.string s):=g2
    have HO:=zH hown;clear hown
    have hsz:=hb.size
    go_wp2_with (first
     | (go_at_call 91;refine (yyF (qzc x _)).mono ?_;rintro e w1 ⟨rfl,hb3⟩;have HB3:=zH hb3;clear hb3)
     | (at_builtin;refine apl1 (T:=zzU) vvM w1 w rfl (.tmp 14) (.tmp 19) rfl w.heap.size A2 k c2 ((l.take k).map (fun v:VV=>v.n==1)) (by rfl) G (fun _=>False) (by first | exact (HO.out.alloc _).keepB HB3.out | exact ((HO.out.alloc _).keepB ((zR).drew)).keepB HB3.out) (by first | exact (hb.alloc hsz _).trans (HB3.out.mono (by simp;omega)) | exact (hb.alloc hsz _).drew.trans (HB3.out.mono (by simp;omega))) zN _ (by rfl) [.bool (x==1)] ((fun v:VV=>v.n==1) ⟨nu,x,s⟩) (by rfl) 4 rfl (fun _ _ _ _ h4=>h4) (by omega) ?_;intro A5 c5 w5 h5))
    go_roundw
    case rel =>
     have e1:(l.take (k+1)).map (fun v:VV=>v.n==1)=(l.take k).map (fun v:VV=>v.n==1)++[(fun v:VV=>v.n==1) ⟨nu,x,s⟩]:=by
      rw [zT hkl,List.map_append,<-HF.out];rfl
     have e2:=h5.own
     rw [<-e1] at e2
     exact⟨k+1,A5,c5,_,by omega,by go_num,rfl,e2,h5.below⟩
    case measure=>simp [intOf];omega
  · obtain rfl:k=n:=by omega
    have e1:l.take k=l:=zL (by rw [<-HL.out];exact Nat.le_refl _)
    rw [e1] at hown
    have HO:=zH hown;clear hown e1
    go_wp2
    go_ret
    exact⟨A2,k,c2,rfl,⟨G,HO.out⟩,hb⟩
theorem jj6 (F:Nat->Prop) (A:Option Addr) (n c:Nat) (l:List VV) (w:World) (h:Sl tVV F w A n c l) (hl:n<=4096) :
 Calls Tryz.prog 93 #[.slice A n c,.func (.func 94) #[] #[]] w (OwnE tI64 3 (l.map (fun v:VV=>v.n / 1000)) w):=by
 have HL:=zH h.len
 go_enter Tryz.func93,Tryz.ntmps93
 go_wp2
 go_loopw [5,10] (fun v i wr=>∃ (k:Nat) (A2:Option Addr) (c2:Nat) (G:Nat->Prop),k<=n/\i=.int .i64 k/\v=.slice A2 k c2/\OwnF tI64 3 G wr w.heap.size A2 k c2 ((l.take k).map (fun v:VV=>v.n / 1000))/\Below w.heap.size w wr)
  (fun _ i _=>n - (intOf i).toNat)
 case atStart=>exact⟨0,none,0,fun _=>False,Nat.zero_le _,rfl,rfl,OwnF.nil_ _ _ _ _ _,zR⟩
 case round =>
  obtain⟨k,A2,c2,G,hk,rfl,rfl,hown,hb⟩:=hrel
  by_cases hlt:k<n
  · have hkl:k<l.length:=by rw [<-HL.out];exact hlt
    obtain⟨b,o,cs,rfl,_,hbl,hrep,hc⟩:=(h.below hb zN).at_ hkl (by decide)
    obtain⟨v,hf⟩:∃ v,v=l[k]:=⟨_,rfl⟩
    obtain⟨rfl,hok⟩:=hrep
    rw [<-hf] at hc hok
    obtain⟨nu,x,s⟩:=v
    obtain⟨x0,x1,_⟩:=hok
    have x0 : -9223372036854775808<=x:=x0
    have x1:x<=9223372036854775807:=x1
    have HF:=zH hf;clear hf
    obtain⟨g0,g1,g2⟩:=yyo hc
    clear hc
    have g0:_=some (Value.bool nu):=g0
    have g1:_=some (Value.int .i64 x):=g1
    have g2:_=some (Value.string s):=g2
    have HO:=zH hown;clear hown
    have hsz:=hb.size
    have HZ:=zH (show -9223372036854775808<=((fun v:VV=>v.n / 1000) ⟨nu,x,s⟩)/\((fun v:VV=>v.n / 1000) ⟨nu,x,s⟩)<=9223372036854775807 by constructor <;> (show _<=_;dsimp only;omega))
    go_wp2_with (first
     | (go_at_call 94;refine (yyF (qzb x x0 x1 _)).mono ?_;rintro e w1 ⟨rfl,hb3⟩;have HB3:=zH hb3;clear hb3)
     | (at_builtin;refine apl1 (T:=tI64) xxb w1 w rfl (.tmp 14) (.tmp 19) rfl w.heap.size A2 k c2 ((l.take k).map (fun v:VV=>v.n / 1000)) (by rfl) G (fun _=>False) (by first | exact (HO.out.alloc _).keepB HB3.out | exact ((HO.out.alloc _).keepB ((zR).drew)).keepB HB3.out) (by first | exact (hb.alloc hsz _).trans (HB3.out.mono (by simp;omega)) | exact (hb.alloc hsz _).drew.trans (HB3.out.mono (by simp;omega))) zN _ (by rfl) [.int .i64 (x / 1000)] ((fun v:VV=>v.n / 1000) ⟨nu,x,s⟩) ⟨rfl,HZ.out⟩ 3 rfl (fun _ _ _ _ h4=>h4) (by omega) ?_;intro A5 c5 w5 h5))
    go_roundw
    case rel =>
     have e1:(l.take (k+1)).map (fun v:VV=>v.n / 1000)=(l.take k).map (fun v:VV=>v.n / 1000)++[(fun v:VV=>v.n / 1000) ⟨nu,x,s⟩]:=by
      rw [zT hkl,List.map_append,<-HF.out];rfl
     have e2:=h5.own
     rw [<-e1] at e2
     exact⟨k+1,A5,c5,_,by omega,by go_num,rfl,e2,h5.below⟩
    case measure=>simp [intOf];omega
  · obtain rfl:k=n:=by omega
    have e1:l.take k=l:=zL (by rw [<-HL.out];exact Nat.le_refl _)
    rw [e1] at hown
    have HO:=zH hown;clear hown e1
    go_wp2
    go_ret
    exact⟨A2,k,c2,rfl,⟨G,HO.out⟩,hb⟩
theorem qzx (F:Nat->Prop) (A:Option Addr) (n c:Nat) (l:List VV) (w:World) (h:Sl tVV F w A n c l) (hl:n<=4096) :
 Calls Tryz.prog 93 #[.slice A n c,.func (.func 95) #[] #[]] w (OwnE tI64 3 (l.map (fun v:VV=>v.n % 1000)) w):=by
 have HL:=zH h.len
 go_enter Tryz.func93,Tryz.ntmps93
 go_wp2
 go_loopw [5,10] (fun v i wr=>∃ (k:Nat) (A2:Option Addr) (c2:Nat) (G:Nat->Prop),k<=n/\i=.int .i64 k/\v=.slice A2 k c2/\OwnF tI64 3 G wr w.heap.size A2 k c2 ((l.take k).map (fun v:VV=>v.n % 1000))/\Below w.heap.size w wr)
  (fun _ i _=>n - (intOf i).toNat)
 case atStart=>exact⟨0,none,0,fun _=>False,Nat.zero_le _,rfl,rfl,OwnF.nil_ _ _ _ _ _,zR⟩
 case round =>
  obtain⟨k,A2,c2,G,hk,rfl,rfl,hown,hb⟩:=hrel
  by_cases hlt:k<n
  · have hkl:k<l.length:=by rw [<-HL.out];exact hlt
    obtain⟨b,o,cs,rfl,_,hbl,hrep,hc⟩:=(h.below hb zN).at_ hkl (by decide)
    obtain⟨v,hf⟩:∃ v,v=l[k]:=⟨_,rfl⟩
    obtain⟨rfl,hok⟩:=hrep
    rw [<-hf] at hc hok
    obtain⟨nu,x,s⟩:=v
    obtain⟨x0,x1,_⟩:=hok
    have x0 : -9223372036854775808<=x:=x0
    have x1:x<=9223372036854775807:=x1
    have HF:=zH hf;clear hf
    obtain⟨g0,g1,g2⟩:=yyo hc
    clear hc
    have g0:_=some (Value.bool nu):=g0
    have g1:_=some (Value.int .i64 x):=g1
    have g2:_=some (Value.string s):=g2
    have HO:=zH hown;clear hown
    have hsz:=hb.size
    have HZ:=zH (show -9223372036854775808<=((fun v:VV=>v.n % 1000) ⟨nu,x,s⟩)/\((fun v:VV=>v.n % 1000) ⟨nu,x,s⟩)<=9223372036854775807 by constructor <;> (show _<=_;dsimp only;omega))
    go_wp2_with (first
     | (go_at_call 95;refine (yyF (zqn x x0 x1 _)).mono ?_;rintro e w1 ⟨rfl,hb3⟩;have HB3:=zH hb3;clear hb3)
     | (at_builtin;refine apl1 (T:=tI64) xxb w1 w rfl (.tmp 14) (.tmp 19) rfl w.heap.size A2 k c2 ((l.take k).map (fun v:VV=>v.n % 1000)) (by rfl) G (fun _=>False) (by first | exact (HO.out.alloc _).keepB HB3.out | exact ((HO.out.alloc _).keepB ((zR).drew)).keepB HB3.out) (by first | exact (hb.alloc hsz _).trans (HB3.out.mono (by simp;omega)) | exact (hb.alloc hsz _).drew.trans (HB3.out.mono (by simp;omega))) zN _ (by rfl) [.int .i64 (x % 1000)] ((fun v:VV=>v.n % 1000) ⟨nu,x,s⟩) ⟨rfl,HZ.out⟩ 3 rfl (fun _ _ _ _ h4=>h4) (by omega) ?_;intro A5 c5 w5 h5))
    go_roundw
    case rel =>
     have e1:(l.take (k+1)).map (fun v:VV=>v.n % 1000)=(l.take k).map (fun v:VV=>v.n % 1000)++[(fun v:VV=>v.n % 1000) ⟨nu,x,s⟩]:=by
      rw [zT hkl,List.map_append,<-HF.out];rfl
     have e2:=h5.own
     rw [<-e1] at e2
     exact⟨k+1,A5,c5,_,by omega,by go_num,rfl,e2,h5.below⟩
    case measure=>simp [intOf];omega
  · obtain rfl:k=n:=by omega
    have e1:l.take k=l:=zL (by rw [<-HL.out];exact Nat.le_refl _)
    rw [e1] at hown
    have HO:=zH hown;clear hown e1
    go_wp2
    go_ret
    exact⟨A2,k,c2,rfl,⟨G,HO.out⟩,hb⟩
theorem zqI (F:Nat->Prop) (A:Option Addr) (n c:Nat) (l:List VV) (w:World) (h:Sl tVV F w A n c l) (hl:n<=4096) :
 Calls Tryz.prog 93 #[.slice A n c,.func (.func 96) #[] #[]] w (OwnE tI64 3 (l.map (fun v:VV=>v.n)) w):=by
 have HL:=zH h.len
 go_enter Tryz.func93,Tryz.ntmps93
 go_wp2
 go_loopw [5,10] (fun v i wr=>∃ (k:Nat) (A2:Option Addr) (c2:Nat) (G:Nat->Prop),k<=n/\i=.int .i64 k/\v=.slice A2 k c2/\OwnF tI64 3 G wr w.heap.size A2 k c2 ((l.take k).map (fun v:VV=>v.n))/\Below w.heap.size w wr)
  (fun _ i _=>n - (intOf i).toNat)
 case atStart=>exact⟨0,none,0,fun _=>False,Nat.zero_le _,rfl,rfl,OwnF.nil_ _ _ _ _ _,zR⟩
 case round =>
  obtain⟨k,A2,c2,G,hk,rfl,rfl,hown,hb⟩:=hrel
  by_cases hlt:k<n
  · have hkl:k<l.length:=by rw [<-HL.out];exact hlt
    obtain⟨b,o,cs,rfl,_,hbl,hrep,hc⟩:=(h.below hb zN).at_ hkl (by decide)
    obtain⟨v,hf⟩:∃ v,v=l[k]:=⟨_,rfl⟩
    obtain⟨rfl,hok⟩:=hrep
    rw [<-hf] at hc hok
    obtain⟨nu,x,s⟩:=v
    obtain⟨x0,x1,_⟩:=hok
    have x0 : -9223372036854775808<=x:=x0
    have x1:x<=9223372036854775807:=x1
    have HF:=zH hf;clear hf
    obtain⟨g0,g1,g2⟩:=yyo hc
    clear hc
    have g0:_=some (Value.bool nu):=g0
    have g1:_=some (Value.int .i64 x):=g1
    have g2:_=some (Value.string s):=g2
    have HO:=zH hown;clear hown
    have hsz:=hb.size
    have HZ:=zH (show -9223372036854775808<=((fun v:VV=>v.n) ⟨nu,x,s⟩)/\((fun v:VV=>v.n) ⟨nu,x,s⟩)<=9223372036854775807 by constructor <;> (show _<=_;dsimp only;omega))
    go_wp2_with (first
     | (go_at_call 96;refine (yyF (qzd x _)).mono ?_;rintro e w1 ⟨rfl,hb3⟩;have HB3:=zH hb3;clear hb3)
     | (at_builtin;refine apl1 (T:=tI64) xxb w1 w rfl (.tmp 14) (.tmp 19) rfl w.heap.size A2 k c2 ((l.take k).map (fun v:VV=>v.n)) (by rfl) G (fun _=>False) (by first | exact (HO.out.alloc _).keepB HB3.out | exact ((HO.out.alloc _).keepB ((zR).drew)).keepB HB3.out) (by first | exact (hb.alloc hsz _).trans (HB3.out.mono (by simp;omega)) | exact (hb.alloc hsz _).drew.trans (HB3.out.mono (by simp;omega))) zN _ (by rfl) [.int .i64 x] ((fun v:VV=>v.n) ⟨nu,x,s⟩) ⟨rfl,HZ.out⟩ 3 rfl (fun _ _ _ _ h4=>h4) (by omega) ?_;intro A5 c5 w5 h5))
    go_roundw
    case rel =>
     have e1:(l.take (k+1)).map (fun v:VV=>v.n)=(l.take k).map (fun v:VV=>v.n)++[(fun v:VV=>v.n) ⟨nu,x,s⟩]:=by
      rw [zT hkl,List.map_append,<-HF.out];rfl
     have e2:=h5.own
     rw [<-e1] at e2
     exact⟨k+1,A5,c5,_,by omega,by go_num,rfl,e2,h5.below⟩
    case measure=>simp [intOf];omega
  · obtain rfl:k=n:=by omega
    have e1:l.take k=l:=zL (by rw [<-HL.out];exact Nat.le_refl _)
    rw [e1] at hown
    have HO:=zH hown;clear hown e1
    go_wp2
    go_ret
    exact⟨A2,k,c2,rfl,⟨G,HO.out⟩,hb⟩
end
section
open Go Go.RowKit
end
end Go.Proofs.YtpmglcachffojaaGreatDoor
