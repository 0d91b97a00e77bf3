/- A part of what Indexes leans on. -/
import Derived.Test.YtpmglcachffojaaGreatDoorZ3
set_option maxRecDepth 100000
set_option maxHeartbeats 16000000
namespace Go.Proofs.YtpmglcachffojaaGreatDoor
section
open Go Go.RowKit Go.Shelf
attribute [local go_sem] Oper.semAt_some
def uu9 (A:Option Addr) (st N:Nat) {m:Nat} (x:Fin m):Array Value:=#[.slice (A.map fun a=>a.add (st*x.val*4)) (min st (N - st*x.val)) (min st (N - st*x.val))]
theorem chFld1_in (F:Fence) (n:Nat) (hf:F.fn 132) (hro:F.round=none) (hn:1<=n) (l b0 b1:Nat) (A:Option Addr) (st m N cap:Nat) (hst:1<=st) (hst2:st<=4096) (hN:∀ k,k<m↔st*k<N) (hN2:N<=4294967296) (hcap:N<=cap) (hcm:cap<=maxLen) (J Jx:List (Fin m)->World->Prop)
 (hJ:∀ pre W,J pre W->J pre W.drew)
 (hY:∀ pre (x:Fin m) W,J pre W->pre=xx1 m x.val->pre.length<m->YieldAt F (n - 1) Tryz.prog l (uu9 A st N x) W fun e W' =>
   (e=.returned (.bool true)/\J (pre++[x]) W'/\KpC b0 b1 W W')∨(e=.returned (.bool false)/\Jx (pre++[x]) W'))
 (W:World) (h0':W.heap[b0]?=some (.cells #[.slice A N cap] 111 (0,0))) (h1':W.heap[b1]?=some (.cells #[.int .i64 (st:Int)] 3 (0,0))) (h0:J [] W) :
 CallsIn F n Tryz.prog 132 #[.func (.yield l) #[] #[],.pointer (some ⟨b0,0,none⟩),.pointer (some ⟨b1,0,none⟩)] W fun e W'=>(∃ v,e=.returned v) /\
  ((∃ ys,ys=xx1 m m/\J ys W')∨(∃ pre,(∃ k,k<=m/\pre=xx1 m k)/\Jx pre W')):=by
 unfold maxLen at hcm
 have HN:=zH hN;clear hN
 have HA:=zH h0';have HB:=zH h1'
 have q0:W.cell? ⟨b0,0,none⟩=some (.slice A N cap):=by rw [zC h0'];rfl
 have q1:W.cell? ⟨b1,0,none⟩=some (.int .i64 (st:Int)):=by rw [zC h1'];rfl
 clear h0' h1'
 refine callsIn_of_wp Tryz.func132 rfl hf ?_ hro
 simp only [Tryz.ntmps132,List.size_toArray,List.length_cons,List.length_nil,Nat.reduceAdd,Nat.reduceSub,Array.replicate_succ,Array.replicate_zero,List.push_toArray,List.append_toArray,List.nil_append,List.cons_append]
 gi_wp2
 gi_loopw [4] (fun i wr=>∃ (k j:Nat),k<=m/\j<=N+4096/\Hid (j=st*k)/\i=.int .i64 (j:Int)/\J (xx1 m k) wr/\KpC b0 b1 W wr)
  (fun i _=>N+4096 - (intOf i).toNat)
 case atStart=>exact⟨0,0,Nat.zero_le _,Nat.zero_le _,zH (by rw [Nat.mul_zero]),rfl,h0,KpC.refl _ _ _⟩
 case round =>
  obtain⟨k,j,hk,hj,HJ,rfl,hJs,hnx⟩:=hrel
  have HNX:=zH hnx;clear q0 q1
  have c0:wr.cell? ⟨b0,0,none⟩=some (.slice A N cap):=by rw [zC (hnx.1.trans HA.out)];rfl
  have c1:wr.cell? ⟨b1,0,none⟩=some (.int .i64 (st:Int)):=by rw [zC (hnx.2.trans HB.out)];rfl
  clear hnx
  by_cases hlt:k<m
  · obtain⟨fn,tmps,assign,body,hy,hR⟩:=hY _ ⟨k,hlt⟩ wr.drew (hJ _ _ hJs) rfl (by rw [uuJ _ _ hk];exact hlt)
    dsimp only [uu9] at hy
    have hjk:=HJ.out
    rw [<-hjk] at hy
    have hjN:j<N:=by rw [hjk];exact (HN.out k).1 hlt
    obtain⟨q,hq⟩:∃ q,q=min st (N - j):=⟨_,rfl⟩
    rw [<-hq] at hy
    have HQ:=zH hq
    have hq1:1<=q:=by omega
    have hq2:j+q<=N:=by omega
    have hq3:q<=st:=by omega
    have HNXT:Hid (j+st=st*(k+1)):=zH (by rw [Nat.mul_succ];omega)
    clear hjk
    have hlt':(j:Int)<(N:Int):=by omega
    have hi0:(0:Int)<=(j:Int):=by omega
    have hi1:(j:Int)<=(N:Int):=by omega
    have hi2:(j:Int)<=(cap:Int):=by omega
    have hi3:(j:Int)+(q:Int)<=(cap:Int):=by omega
    have hi4:(0:Int)<=(j:Int)+(q:Int):=by omega
    have hi5:(j:Int)<=(j:Int)+(q:Int):=by omega
    have HMN:=zH (show min (st:Int) ((N - j:Nat):Int)=(q:Int) by have:=HQ.out;omega)
    have HIF:Hid ((if N - j<st then ((N - j:Nat):Int) else (st:Int))=(q:Int)):=zH (by have:=HQ.out;split <;> omega)
    have HIG:Hid ((if st<N - j then (st:Int) else ((N - j:Nat):Int))=(q:Int)):=zH (by have:=HQ.out;split <;> omega)
    have hw1:(j:Int)+(st:Int)<=4294971392:=by omega
    clear hq
    have hmx:Tryz.prog.follows .mixedOrders=true:=by kernel_rfl
    gi_wp2
    gi_region
    all_goals
     first | rw [HIF.out] | rw [HIG.out] | rw [HMN.out] | fail
     gi_wp2
     refine hR.mono ?_
     rintro e W3 (⟨rfl,hJ3,hk3⟩ | ⟨rfl,hJx3⟩)
     · have c1':W3.cell? ⟨b1,0,none⟩=some (.int .i64 (st:Int)):=by rw [zC (hk3.2.trans (HNX.out.2.trans HB.out))];rfl
       have HK3:=zH hk3;clear hk3
       gi_wp2
       go_roundw
       case rel=>exact⟨k+1,j+st,by omega,by omega,HNXT,by go_num,by rw [vvs _ _ hlt];exact hJ3,HNX.out.trans HK3.out⟩
       case measure=>simp [intOf];omega
     · gi_wp2
       refine bodyPost_ret (results_none rfl _ _ _) rfl ?_
       exact⟨⟨_,rfl⟩,.inr ⟨_,⟨k+1,by omega,(vvs _ _ hlt).symm⟩,hJx3⟩⟩
  · obtain rfl:k=m:=by omega
    have hge:¬ (j:Int)<(N:Int):=by have h1:=HJ.out;have h2:=HN.out k;omega
    gi_wp2
    go_end0
    first | exact⟨⟨_,rfl⟩,.inl ⟨_,rfl,hJs⟩⟩ | exact⟨⟨_,rfl⟩,.inl hJs⟩ | exact .inl hJs | exact hJs
theorem chFld_in (F:Fence) (n:Nat) (hf:F.fn 71) (hro:F.round=none) (A:Option Addr) (N cap st:Nat) (hst:1<=st) (w:World) :
 CallsIn F n Tryz.prog 71 #[.slice A N cap,.int .i64 (st:Int)] w fun e w'=>e=.returned (.func (.func 132) #[] #[.pointer (some ⟨w.heap.size,0,none⟩),.pointer (some ⟨w.heap.size+1,0,none⟩)]) /\
  w'=(w.alloc (.cells #[.slice A N cap] 111)).alloc (.cells #[.int .i64 (st:Int)] 3):=by
 refine callsIn_of_wp Tryz.func71 rfl hf ?_ hro
 simp only [Tryz.ntmps71,List.size_toArray,List.length_cons,List.length_nil,Nat.reduceAdd,Nat.reduceSub,Array.replicate_succ,Array.replicate_zero,List.push_toArray,List.append_toArray,List.nil_append,List.cons_append]
 have h1:¬ (st:Int)<1:=by omega
 gi_wp2
 go_ret
 exact⟨rfl,rfl⟩
theorem qxl (F:Fence) (n:Nat) (hf:F.fn 132) (hro:F.round=none) (hn:1<=n) (b0 b1:Nat) (A:Option Addr) (st m N cap:Nat) (hst:1<=st) (hst2:st<=4096) (hN:∀ k,k<m↔st*k<N) (hN2:N<=4294967296) (hcap:N<=cap) (hcm:cap<=maxLen) (w:World)
 (h0:w.heap[b0]?=some (.cells #[.slice A N cap] 111 (0,0))) (h1:w.heap[b1]?=some (.cells #[.int .i64 (st:Int)] 3 (0,0))) :
 SeqStopsK F n Tryz.prog 132 #[.pointer (some ⟨b0,0,none⟩),.pointer (some ⟨b1,0,none⟩)] (fun x:Fin m=>uu9 A st N x) (KpC b0 b1) (fun ys=>ys=List.finRange m) (fun pre=>∃ k,k<=m/\pre=xx1 m k) m w:=fun l J Jx W hW hJ _ hY hJ0=>by
 have l0:b0<w.heap.size:=(Array.getElem?_eq_some_iff.1 h0).1
 have l1:b1<w.heap.size:=(Array.getElem?_eq_some_iff.1 h1).1
 refine (chFld1_in F n hf hro hn l b0 b1 A st m N cap hst hst2 hN hN2 hcap hcm J Jx (fun pre W1 hs=>hJ pre W1 W1.drew none hs ⟨rfl,rfl,rfl,Nat.le_refl _,fun _ _ _=>rfl⟩ (fun r e=>by cases e)) (fun pre x W1 h _ h2=>hY pre x W1 h h2) W ((hW.block _ l0).trans h0) ((hW.block _ l1).trans h1) hJ0).mono ?_
 rintro e W' ⟨he,⟨ys,rfl,hj⟩ | ⟨pre,hp,hj⟩⟩
 · exact⟨he,.inl ⟨_,zql m,hj⟩⟩
 · exact⟨he,.inr ⟨pre,hp,hj⟩⟩
end
end Go.Proofs.YtpmglcachffojaaGreatDoor
