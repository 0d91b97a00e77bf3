/- A part of what None leans on. -/
import Derived.Test.YtpmglcachffojaaGreatDoorZ7
set_option maxRecDepth 100000
set_option maxHeartbeats 16000000
namespace Go.Proofs.YtpmglcachffojaaGreatDoor
section
open Go Go.RowKit
theorem qzb (x:Int) (h0 : -9223372036854775808<=x) (h1:x<=9223372036854775807) (w:World):Calls Tryz.prog 94 #[.int .i64 x] w fun e w'=>e=.returned (.int .i64 (x / 1000))/\w=w':=by
 obtain⟨q,hq⟩:∃ q,q=x.tdiv 1000:=⟨_,rfl⟩
 obtain⟨r,hr⟩:∃ r,r=x.tmod 1000:=⟨_,rfl⟩
 have hqr:1000*q+r=x:=by rw [hq,hr];exact Int.mul_tdiv_add_tmod x 1000
 have hb:(0<=x->0<=r/\r<1000)/\(x<0 -> -1000<r/\r<=0):=by
  rw [hr]
  refine⟨fun h=>⟨Int.tmod_nonneg 1000 h,Int.tmod_lt_of_pos x (by decide)⟩,fun h=>?_⟩
  have e:x.tmod 1000 = -((-x).tmod 1000):=by rw [Int.neg_tmod,Int.neg_neg]
  have h1:=Int.tmod_nonneg 1000 (show 0 <= -x by omega)
  have h2:=Int.tmod_lt_of_pos (-x) (show (0:Int)<1000 by decide)
  omega
 have hq0 : -9223372036854776<=q/\q<=9223372036854775:=by omega
 by_cases hneg:r<0
 · have HD:=zH (show x / 1000=q - 1 by omega)
   obtain⟨q0,q1⟩:=hq0
   have HQ:=hq.symm;have HR:=hr.symm
   clear hb hqr hq hr
   go_enter Tryz.func94,Tryz.ntmps94
   go_wp2_with fail
   go_ret
   exact⟨by rw [HD.out];rfl,rfl⟩
 · have HD:=zH (show x / 1000=q by omega)
   obtain⟨q0,q1⟩:=hq0
   have HQ:=hq.symm;have HR:=hr.symm
   clear hb hqr hq hr
   go_enter Tryz.func94,Tryz.ntmps94
   go_wp2_with fail
   go_ret
   exact⟨by rw [HD.out];rfl,rfl⟩
theorem qxk (a b:Int):(a==b)=decide (a=b):=rfl
theorem yyw (k:Int) (w:World):Calls Tryz.prog 38 #[.int .i64 k] w fun e w'=>e=.returned (.bool (decide (1<=k/\k<=7)))/\w=w':=by
 obtain⟨p,hp⟩:∃ p,p=decide (1<=k/\k<=5):=⟨_,rfl⟩
 have HN:=zH (zze k)
 rw [<-hp] at HN
 have HP:=zH hp
 clear hp
 cases p with
 | true =>
   have hk:1<=k/\k<=5:=by have:=HP.out;simpa using this.symm
   rw [decide_eq_true (show 1<=k/\k<=7 by omega)]
   clear hk
   go_enter Tryz.func38,Tryz.ntmps38
   go_wp2_with (first
    | (go_at_call 44;refine (HN.out _).mono ?_;rintro e w1 ⟨rfl,rfl⟩)
    | fail)
   go_ret
   exact⟨rfl,rfl⟩
 | false =>
   have hk:¬ (1<=k/\k<=5):=by have:=HP.out;simpa using this.symm
   have HD:=zH (show decide (1<=k/\k<=7)=((k==6) || (k==7)) by
    rw [qxk,qxk,<-Bool.decide_or];exact decide_eq_decide.2 (by omega))
   obtain⟨rr,hrr⟩:∃ rr,rr=decide (1<=k/\k<=7):=⟨_,rfl⟩
   rw [<-hrr] at HD ⊢
   clear hk hrr
   go_enter Tryz.func38,Tryz.ntmps38
   go_wp2_with (first
    | (go_at_call 44;refine (HN.out _).mono ?_;rintro e w1 ⟨rfl,rfl⟩)
    | fail)
   all_goals go_ret
   all_goals exact⟨by rw [HD.out];simp [*],rfl⟩
end
end Go.Proofs.YtpmglcachffojaaGreatDoor
