/- A part of what Indexes leans on. -/
import Derived.Test.YtpmglcachffojaaGreatDoorZ32
set_option maxRecDepth 100000
set_option maxHeartbeats 16000000
namespace Go.Proofs.YtpmglcachffojaaGreatDoor
section
open Go Go.RowKit
attribute [local go_sem ↓] Go.wp_at_zero Go.wp_at_succ
theorem xqj (x:Nat) (w:World) (h1:x<18446744073709551616) :
 Calls Tryz.prog 137 #[.int .u64 x] w fun e w'=>e=.returned (.int .i64 (zagI x))/\w=w':=by
 by_cases hx:x % 2=1
 · have hq:(((x:Int) % 2)==1)=true:=by simp;omega
   go_enter Tryz.func137,Tryz.ntmps137
   go_wp2
   go_ret
   exact⟨uul (by unfold zagI;rw [if_pos hx];omega),rfl⟩
 · have hq:(((x:Int) % 2)==1)=false:=by simp;omega
   go_enter Tryz.func137,Tryz.ntmps137
   go_wp2
   go_ret
   exact⟨uul (by unfold zagI;rw [if_neg hx];omega),rfl⟩
theorem rvput0 (p:List UInt8) (x:Nat) (w:World) (hx:x<18446744073709551616) (hp:p=vput x):Calls Tryz.prog 128 #[.slice none 0 0,.int .u64 (x:Int)] w (Own1 w p):=by
 have:=qz0 (fun _=>True) none 0 0 [] x w (Sl.nil_ _ _ _) (by omega) hx
 rw [List.nil_append,<-hp] at this
 exact this
theorem hz_step (H:Nat) (c:UInt8):IntKind.u64.wrap (IntKind.u64.wrap (128*((H % 18446744073709551616:Nat):Int))+(c.toNat:Int) % 128)=(((c.toNat % 128+128*H) % 18446744073709551616:Nat):Int):=by
 rw [IntKind.wrap_u64,IntKind.wrap_u64];omega
theorem kqL (F:Nat->Prop) (A:Option Addr) (n c:Nat) (l:List UInt8) (w:World) (h:Bs F w A n c l) (hn:n<=4294967296) :
 Calls Tryz.prog 133 #[.slice A n c] w (TkPost l w):=by
 have HL:=zH h.len
 have HH:=zH h
 go_enter Tryz.func133,Tryz.ntmps133
 go_wp2_with fail
 go_loop [5] (fun i=>∃ k:Nat,i=.int .i64 k/\xqc l k) (fun i=>n - (intOf i).toNat)
 case atStart=>exact⟨0,rfl,fun _ _ h=>absurd h (Nat.not_lt_zero _),Nat.zero_le _,Nat.zero_le _⟩
 case round =>
  obtain⟨k,rfl,hst⟩:=hrel
  have hk9:k<=9:=hst.2.1
  have hkn:k<=n:=by have:=hst.2.2;rw [<-HL.out] at this;exact this
  have HST:=zH hst;clear hst
  by_cases hlt:k<n
  · have hkl:k<l.length:=by rw [<-HL.out];exact hlt
    obtain⟨b,o,rfl,_,hbl,hc⟩:=qzq h hkl
    obtain⟨y,hy⟩:∃ y,y=l[k]:=⟨_,rfl⟩
    rw [<-hy] at hc
    have HY:=zH hy;clear hy
    have hi1:(0:Int)<=(k:Int):=by omega
    have hi2:(k:Int)<(n:Int):=by omega
    by_cases hgo:k<9/\128<=y.toNat
    · obtain⟨hg1,hg2⟩:=hgo
      have hg3:(k:Int)<9:=by omega
      have hg4:(128:Int)<=(y.toNat:Int):=by omega
      clear h
      go_wp2_with fail
      go_round
      case rel =>
       refine⟨k+1,by go_num,fun i hi hik=>?_,by omega,by rw [<-HL.out];omega⟩
       rcases Nat.lt_or_ge i k with h1 | h1
       · exact HST.out.1 i hi h1
       · have:i=k:=by omega
         subst this
         rw [<-HY.out];exact hg2
      case measure=>simp [intOf];omega
    · have hx9:k=9∨(l[k]'hkl).toNat<128:=by rw [<-HY.out];omega
      have HX9:=zH hx9;clear hx9
      have hsp:(k=9)∨(k<9/\y.toNat<128):=by omega
      clear hgo
      have hcap:=h.2.1
      have hk1:k+1<=n:=by omega
      have hge:¬ n<=k:=by omega
      rcases hsp with h9 | ⟨h9,hy9⟩
      all_goals
       first
        | (have hg3:¬ (k:Int)<9:=(by omega);have hd3:decide ((k:Int)<9)=false:=(by simp;omega))
        | (have hg3:(k:Int)<9:=(by omega);have hg4:¬ (128:Int)<=(y.toNat:Int):=(by omega);have hd4:decide ((128:Int)<=(y.toNat:Int))=false:=(by simp;omega))
       have H9:=zH h9;clear h9 h
       go_wp2_with fail
       obtain⟨q,hq⟩:∃ q,q=l.take (k+1):=⟨_,rfl⟩
       have HQ:=zH hq;clear hq
       have hql:q.length=k+1:=by rw [HQ.out,List.length_take];have:=HL.out;omega
       have HQL:=zH hql;clear hql
       go_loop [6,7] (fun x i=>∃ t:Nat,t<=k+1/\i=.int .i64 ((t:Int) - 1)/\x=.int .u64 ((hz (q.drop t) % 18446744073709551616:Nat):Int)) (fun _ i=>(intOf i+1).toNat)
       case atStart=>exact⟨k+1,Nat.le_refl _,by go_num,by rw [List.drop_of_length_le (by rw [HQL.out];exact Nat.le_refl _)];rfl⟩
       case round =>
        obtain⟨t,ht,rfl,rfl⟩:=hrel
        cases t with
        | succ t =>
          rw [show (((t+1:Nat):Int) - 1)=(t:Int) by omega]
          have htl:t<l.length:=by have:=HL.out;omega
          obtain⟨b',o',hA,_,hbl',hc'⟩:=qzq HH.out htl
          injection hA with hA;injection hA with hA1 hA2;subst hA1 hA2
          obtain⟨z,hz'⟩:∃ z,z=l[t]:=⟨_,rfl⟩
          rw [<-hz'] at hc'
          have hdr:q.drop t=z::q.drop (t+1):=by
           have hqt:t<q.length:=by rw [HQL.out];omega
           rw [List.drop_eq_getElem_cons hqt,hz']
           congr 1
           have e1:q[t]?=l[t]?:=by rw [HQ.out,List.getElem?_take,if_pos (by omega)]
           rw [List.getElem?_eq_getElem hqt,List.getElem?_eq_getElem htl] at e1
           exact Option.some.inj e1
          have hst:=hz_step (hz (q.drop (t+1))) z
          have HDR:=zH hdr;have HSTP:=zH hst
          have hj1:(0:Int)<=(t:Int):=by omega
          have hj2:(t:Int)<(n:Int):=by omega
          clear hdr hst hz'
          go_wp2_with fail
          go_round
          case rel=>exact⟨t,by omega,rfl,by rw [HDR.out];simp only [hz];rw [<-HSTP.out,Int.natCast_emod];rfl⟩
          case measure=>simp [intOf]
        | zero =>
          rw [show (((0:Nat):Int) - 1) = -1 by rfl,List.drop_zero]
          obtain⟨x,hx⟩:∃ x,x=hz q % 18446744073709551616:=⟨_,rfl⟩
          have hxl:x<18446744073709551616:=by rw [hx];exact Nat.mod_lt _ (by omega)
          rw [<-hx]
          have HX:=zH hx;clear hx
          have hs1:=Sl.front HH.out hk1
          rw [<-HQ.out] at hs1
          have HS1:=zH hs1
          have hcv:(convert 41 9 (.slice (some ⟨b,o,none⟩) (k+1) c)).run Tryz.prog w=.ok (.string ⟨q.toArray⟩) w:=zzq hs1
          have hkc:k+1<=c:=by omega
          have hw1:IntKind.i64.wrap ((k:Int)+1)=(k:Int)+1:=by rw [IntKind.wrap_i64];omega
          have hw2:(0:Int)<=(k:Int)+1:=by omega
          have hw3:((k:Int)+1).toNat=k+1:=by omega
          have hw4:(k:Int)+1<=(c:Int):=by omega
          clear hs1
          by_cases heq:vput x=q
          · have hv:=rtake_yes hxl (heq.trans HQ.out)
            have HV:=zH hv;have HEQ:=zH heq.symm
            clear hv heq
            go_wp2_with fail
            refine wp_region_held_drew (S:=(fun w'=>(convert 41 9 (.slice (some ⟨b,o,none⟩) (k+1) c)).run Tryz.prog w'=.ok (.string ⟨q.toArray⟩) w')) (by kernel_rfl) ?_ (fun hHeld=>?_)
            · ((try dsimp only);(first | go_keep | exact zzq (HS1.out.drew) | exact zzq ((HS1.out.drew).below hb1 zN)))
            (refine wpAnyH_take (i:=0) (oi:=⟨_,_,_,_,_,_⟩) (v:=?_) rfl (by kernel_rfl) (by kernel_rfl) (by kernel_rfl) (fun _ _ _ h=>h) (Or.inl ⟨by rfl,?_⟩) (by assumption) ?_;rotate_left;· (intro w hSw;(try dsimp only at hSw);go_simp;try with_reducible rfl));(try simp only [Act.put]);(try simp only [List.setIfInBounds_toArray]);(try simp only [List.set_cons_succ]);(try simp only [List.set_cons_zero])
            (refine wpAnyH_take (i:=3) (oi:=⟨_,_,_,_,_,_⟩) (v:=?_) rfl (by kernel_rfl) (by kernel_rfl) (by kernel_rfl) (fun _ _ _ h=>h) (Or.inl ⟨by rfl,?_⟩) (by assumption) ?_;rotate_left;· (intro w hSw;(try dsimp only at hSw);go_simp;try with_reducible rfl));(try simp only [Act.put]);(try simp only [List.setIfInBounds_toArray]);(try simp only [List.set_cons_succ]);(try simp only [List.set_cons_zero])
            (refine wpAnyH_take (i:=4) (oi:=⟨_,_,_,_,_,_⟩) (v:=?_) rfl (by kernel_rfl) (by kernel_rfl) (by kernel_rfl) (fun _ _ _ h=>h) (Or.inl ⟨by rfl,?_⟩) (by assumption) ?_;rotate_left;· (intro w hSw;(try dsimp only at hSw);go_simp;try with_reducible rfl));(try simp only [Act.put]);(try simp only [List.setIfInBounds_toArray]);(try simp only [List.set_cons_succ]);(try simp only [List.set_cons_zero])
            (refine wpAnyH_take (i:=5) (oi:=⟨_,_,_,_,_,_⟩) (v:=?_) rfl (by kernel_rfl) (by kernel_rfl) (by kernel_rfl) (fun _ _ _ h=>h) (Or.inl ⟨by rfl,?_⟩) (by assumption) ?_;rotate_left;· (intro w hSw;(try dsimp only at hSw);go_simp;try with_reducible rfl));(try simp only [Act.put]);(try simp only [List.setIfInBounds_toArray]);(try simp only [List.set_cons_succ]);(try simp only [List.set_cons_zero])
            (refine wpAnyH_take (i:=6) (oi:=⟨_,_,_,_,_,_⟩) (v:=?_) rfl (by kernel_rfl) (by kernel_rfl) (by kernel_rfl) (fun _ _ _ h=>h) (Or.inl ⟨by rfl,?_⟩) (by assumption) ?_;rotate_left;· (intro w hSw;(try dsimp only at hSw);go_simp;try with_reducible rfl));(try simp only [Act.put]);(try simp only [List.setIfInBounds_toArray]);(try simp only [List.set_cons_succ]);(try simp only [List.set_cons_zero])
            (refine wpAnyH_take (i:=7) (oi:=⟨_,_,_,_,_,_⟩) (v:=?_) rfl (by kernel_rfl) (by kernel_rfl) (by kernel_rfl) (fun _ _ _ h=>h) (Or.inl ⟨by rfl,?_⟩) (by assumption) ?_;rotate_left;· (intro w hSw;(try dsimp only at hSw);go_simp;try with_reducible rfl));(try simp only [Act.put]);(try simp only [List.setIfInBounds_toArray]);(try simp only [List.set_cons_succ]);(try simp only [List.set_cons_zero])
            refine wpAnyH_ready (rs:=[1]) (by kernel_rfl) (by simp) ?_
            refine AllReadyH.cons (o:=⟨_,_,_,_,_,_⟩) rfl (fun K hK=>?_) ?_
            · (go_simp;((go_at_call 128;refine (rvput0 q x _ hxl HEQ.out).mono ?_;rintro e w1 ⟨A1,n1,c1,rfl,hown1,hb1⟩;have hcv1:=zzq hown1.bs)))
              refine hK.out _ _ ?_ (fun hHeld=>?_)
              · ((try dsimp only);(first | go_keep | exact zzq (HS1.out.drew) | exact zzq ((HS1.out.drew).below hb1 zN)))
              clear hK K;(try simp only [Act.put]);(try simp only [List.setIfInBounds_toArray]);(try simp only [List.set_cons_succ]);(try simp only [List.set_cons_zero])
              refine wpAnyH_ready (rs:=[2]) (by kernel_rfl) (by simp) ?_
              refine AllReadyH.cons (o:=⟨_,_,_,_,_,_⟩) rfl (fun K hK=>?_) ?_
              · go_simp
                refine hK.out _ _ ?_ (fun hHeld=>?_)
                · ((try dsimp only);(first | go_keep | exact zzq (HS1.out.drew) | exact zzq ((HS1.out.drew).below hb1 zN)))
                clear hK K;(try simp only [Act.put]);(try simp only [List.setIfInBounds_toArray]);(try simp only [List.set_cons_succ]);(try simp only [List.set_cons_zero])
                (refine wpAnyH_take (i:=8) (oi:=⟨_,_,_,_,_,_⟩) (v:=?_) rfl (by kernel_rfl) (by kernel_rfl) (by kernel_rfl) (fun _ _ _ h=>h) (Or.inl ⟨by rfl,?_⟩) (by assumption) ?_;rotate_left;· (intro w hSw;(try dsimp only at hSw);go_simp;try with_reducible rfl));(try simp only [Act.put]);(try simp only [List.setIfInBounds_toArray]);(try simp only [List.set_cons_succ]);(try simp only [List.set_cons_zero])
                refine wpAnyH_done (by kernel_rfl) ?_ _
                have HB1:=zH (show Below w.heap.size w w1 from (show Below w.heap.size w w.drew from (zR).drew).trans hb1)
                have hsl:=HH.out.cut (lo:=k+1) (hi:=n) (by omega) zN
                rw [zL (by rw [<-HL.out];exact Nat.le_refl _)] at hsl
                have HSL:=zH hsl
                have HNEW:=zH (OwnB.new0 w1 w.heap.size HB1.out.size)
                clear hsl hown1 hb1 hcv1
                by_cases hck:c=k+1
                · have hs2:=HSL.out
                  rw [if_pos hck,show c - (k+1)=0 by omega] at hs2
                  have HS2:=zH ((hs2.below HB1.out zN).alloc (.cells #[] 5));clear hs2
                  go_wp2_with (first
                   | (at_builtin;refine apb (w1.alloc (.cells #[] 5)) w rfl (.tmp 53) (.tmp 57) rfl w.heap.size (some ⟨w1.heap.size,0,none⟩) 0 0 [] rfl HNEW.out (HB1.out.alloc HB1.out.size _) zN _ _ _ _ (l.drop (k+1)) rfl HS2.out (by omega) ?_;intro A6 c6 w6 h6 hb6 _)
                   | fail)
                  go_ret3
                  exact⟨x,A6,_,c6,by rw [HV.out];rfl,hb6,fun v r hv=>by rw [HV.out] at hv;injection hv with hv;injection hv with h1 h2;subst h1 h2;exact⟨rfl,hxl,by simpa using h6⟩⟩
                · have hs2:=HSL.out
                  rw [if_neg hck,Option.map_some,yyB,show (k+1)*tU8.size=k+1 from Nat.mul_one _] at hs2
                  have HS2:=zH ((hs2.below HB1.out zN).alloc (.cells #[] 5));clear hs2
                  go_wp2_with (first
                   | (at_builtin;refine apb (w1.alloc (.cells #[] 5)) w rfl (.tmp 53) (.tmp 57) rfl w.heap.size (some ⟨w1.heap.size,0,none⟩) 0 0 [] rfl HNEW.out (HB1.out.alloc HB1.out.size _) zN _ _ _ _ (l.drop (k+1)) rfl HS2.out (by omega) ?_;intro A6 c6 w6 h6 hb6 _)
                   | fail)
                  go_ret3
                  exact⟨x,A6,_,c6,by rw [HV.out];rfl,hb6,fun v r hv=>by rw [HV.out] at hv;injection hv with hv;injection hv with h1 h2;subst h1 h2;exact⟨rfl,hxl,by simpa using h6⟩⟩
              exact AllReadyH.nil
            exact AllReadyH.nil
          · have hv:=rtake_no HST.out hkl HX9.out (by rw [<-HQ.out,<-HX.out];exact heq)
            have HN:=zH hv
            obtain⟨p,hp⟩:∃ p,p=vput x:=⟨_,rfl⟩
            have HP:=zH hp
            have hpq:(p==q)=false:=beq_eq_false_iff_ne.2 (by rw [hp];exact heq)
            clear hv heq hp
            go_wp2_with fail
            refine wp_region_held_drew (S:=(fun w'=>(convert 41 9 (.slice (some ⟨b,o,none⟩) (k+1) c)).run Tryz.prog w'=.ok (.string ⟨q.toArray⟩) w')) (by kernel_rfl) ?_ (fun hHeld=>?_)
            · ((try dsimp only);(first | go_keep | exact zzq (HS1.out.drew) | exact zzq ((HS1.out.drew).below hb1 zN)))
            (refine wpAnyH_take (i:=0) (oi:=⟨_,_,_,_,_,_⟩) (v:=?_) rfl (by kernel_rfl) (by kernel_rfl) (by kernel_rfl) (fun _ _ _ h=>h) (Or.inl ⟨by rfl,?_⟩) (by assumption) ?_;rotate_left;· (intro w hSw;(try dsimp only at hSw);go_simp;try with_reducible rfl));(try simp only [Act.put]);(try simp only [List.setIfInBounds_toArray]);(try simp only [List.set_cons_succ]);(try simp only [List.set_cons_zero])
            (refine wpAnyH_take (i:=3) (oi:=⟨_,_,_,_,_,_⟩) (v:=?_) rfl (by kernel_rfl) (by kernel_rfl) (by kernel_rfl) (fun _ _ _ h=>h) (Or.inl ⟨by rfl,?_⟩) (by assumption) ?_;rotate_left;· (intro w hSw;(try dsimp only at hSw);go_simp;try with_reducible rfl));(try simp only [Act.put]);(try simp only [List.setIfInBounds_toArray]);(try simp only [List.set_cons_succ]);(try simp only [List.set_cons_zero])
            (refine wpAnyH_take (i:=4) (oi:=⟨_,_,_,_,_,_⟩) (v:=?_) rfl (by kernel_rfl) (by kernel_rfl) (by kernel_rfl) (fun _ _ _ h=>h) (Or.inl ⟨by rfl,?_⟩) (by assumption) ?_;rotate_left;· (intro w hSw;(try dsimp only at hSw);go_simp;try with_reducible rfl));(try simp only [Act.put]);(try simp only [List.setIfInBounds_toArray]);(try simp only [List.set_cons_succ]);(try simp only [List.set_cons_zero])
            (refine wpAnyH_take (i:=5) (oi:=⟨_,_,_,_,_,_⟩) (v:=?_) rfl (by kernel_rfl) (by kernel_rfl) (by kernel_rfl) (fun _ _ _ h=>h) (Or.inl ⟨by rfl,?_⟩) (by assumption) ?_;rotate_left;· (intro w hSw;(try dsimp only at hSw);go_simp;try with_reducible rfl));(try simp only [Act.put]);(try simp only [List.setIfInBounds_toArray]);(try simp only [List.set_cons_succ]);(try simp only [List.set_cons_zero])
            (refine wpAnyH_take (i:=6) (oi:=⟨_,_,_,_,_,_⟩) (v:=?_) rfl (by kernel_rfl) (by kernel_rfl) (by kernel_rfl) (fun _ _ _ h=>h) (Or.inl ⟨by rfl,?_⟩) (by assumption) ?_;rotate_left;· (intro w hSw;(try dsimp only at hSw);go_simp;try with_reducible rfl));(try simp only [Act.put]);(try simp only [List.setIfInBounds_toArray]);(try simp only [List.set_cons_succ]);(try simp only [List.set_cons_zero])
            (refine wpAnyH_take (i:=7) (oi:=⟨_,_,_,_,_,_⟩) (v:=?_) rfl (by kernel_rfl) (by kernel_rfl) (by kernel_rfl) (fun _ _ _ h=>h) (Or.inl ⟨by rfl,?_⟩) (by assumption) ?_;rotate_left;· (intro w hSw;(try dsimp only at hSw);go_simp;try with_reducible rfl));(try simp only [Act.put]);(try simp only [List.setIfInBounds_toArray]);(try simp only [List.set_cons_succ]);(try simp only [List.set_cons_zero])
            refine wpAnyH_ready (rs:=[1]) (by kernel_rfl) (by simp) ?_
            refine AllReadyH.cons (o:=⟨_,_,_,_,_,_⟩) rfl (fun K hK=>?_) ?_
            · (go_simp;((go_at_call 128;refine (rvput0 p x _ hxl HP.out).mono ?_;rintro e w1 ⟨A1,n1,c1,rfl,hown1,hb1⟩;have hcv1:=zzq hown1.bs)))
              refine hK.out _ _ ?_ (fun hHeld=>?_)
              · ((try dsimp only);(first | go_keep | exact zzq (HS1.out.drew) | exact zzq ((HS1.out.drew).below hb1 zN)))
              clear hK K;(try simp only [Act.put]);(try simp only [List.setIfInBounds_toArray]);(try simp only [List.set_cons_succ]);(try simp only [List.set_cons_zero])
              refine wpAnyH_ready (rs:=[2]) (by kernel_rfl) (by simp) ?_
              refine AllReadyH.cons (o:=⟨_,_,_,_,_,_⟩) rfl (fun K hK=>?_) ?_
              · go_simp
                refine hK.out _ _ ?_ (fun hHeld=>?_)
                · ((try dsimp only);(first | go_keep | exact zzq (HS1.out.drew) | exact zzq ((HS1.out.drew).below hb1 zN)))
                clear hK K;(try simp only [Act.put]);(try simp only [List.setIfInBounds_toArray]);(try simp only [List.set_cons_succ]);(try simp only [List.set_cons_zero])
                (refine wpAnyH_take (i:=8) (oi:=⟨_,_,_,_,_,_⟩) (v:=?_) rfl (by kernel_rfl) (by kernel_rfl) (by kernel_rfl) (fun _ _ _ h=>h) (Or.inl ⟨by rfl,?_⟩) (by assumption) ?_;rotate_left;· (intro w hSw;(try dsimp only at hSw);go_simp;try with_reducible rfl));(try simp only [Act.put]);(try simp only [List.setIfInBounds_toArray]);(try simp only [List.set_cons_succ]);(try simp only [List.set_cons_zero])
                refine wpAnyH_done (by kernel_rfl) ?_ _
                have HB1:=zH (show Below w.heap.size w w1 from (show Below w.heap.size w w.drew from (zR).drew).trans hb1)
                clear hown1 hb1 hcv1
                go_wp2_with fail
                go_ret3
                exact⟨0,none,0,0,by rw [HN.out];rfl,HB1.out,by rw [HN.out];simp⟩
              exact AllReadyH.nil
            exact AllReadyH.nil
  · obtain rfl:k=n:=by omega
    have hN:=xq6 HST.out HL.out
    have HN:=zH hN;clear hN
    go_wp2_with fail
    go_ret3
    exact⟨0,none,0,0,by rw [HN.out];rfl,zR,by rw [HN.out];simp⟩
end
section
open Go Go.RowKit
attribute [local go_sem ↓] Go.wp_at_zero Go.wp_at_succ
theorem wone_none1 {r:List UInt8} (h:zzN r=none):wone r=none:=by unfold wone;rw [h]
theorem wone_bad {r r1:List UInt8} {key:Nat} (h:zzN r=some (key,r1)) (hb:key<8∨802<key∨¬ (key % 8=0∨key % 8=2)):wone r=none:=by
 unfold wone;rw [h];dsimp only
 cases zzN r1 with
 | none=>rfl
 | some q =>
   obtain⟨n,r2⟩:=q
   dsimp only
   rw [if_pos (by omega)]
theorem wone_none2 {r r1:List UInt8} {key:Nat} (h:zzN r=some (key,r1)) (h2:zzN r1=none):wone r=none:=by unfold wone;rw [h];dsimp only;rw [h2]
theorem wone_num {r r1 r2:List UInt8} {key n:Nat} (h:zzN r=some (key,r1)) (h2:zzN r1=some (n,r2)) (h8:8<=key) (h9:key<=802) (hm:key % 8=0):wone r=some (⟨((key / 8:Nat):Int),false,n,[]⟩,r2):=by
 unfold wone;rw [h];dsimp only;rw [h2];dsimp only;rw [if_neg (by omega),if_pos hm]
theorem wone_long {r r1 r2:List UInt8} {key n:Nat} (h:zzN r=some (key,r1)) (h2:zzN r1=some (n,r2)) (hm:key % 8=2) (hl:r2.length<n):wone r=none:=by
 unfold wone;rw [h];dsimp only;rw [h2];dsimp only
 by_cases hc:key / 8<1∨100<key / 8∨¬ (key % 8=0∨key % 8=2)
 · rw [if_pos hc]
 · rw [if_neg hc,if_neg (by omega),if_pos hl]
theorem wone_txt {r r1 r2:List UInt8} {key n:Nat} (h:zzN r=some (key,r1)) (h2:zzN r1=some (n,r2)) (h8:8<=key) (h9:key<=802) (hm:key % 8=2) (hl:n<=r2.length):wone r=some (⟨((key / 8:Nat):Int),true,0,r2.take n⟩,r2.drop n):=by
 unfold wone;rw [h];dsimp only;rw [h2];dsimp only;rw [if_neg (by omega),if_neg (by omega),if_neg (by omega)]
def TkNone (w:World) (e:Ending) (w':World):Prop:=∃ x A n c,e=.returned (.tuple #[.int .u64 (x:Nat),.slice A n c,.int .i64 2])/\Below w.heap.size w w'
def TkSome (v:Nat) (r:List UInt8) (w:World) (e:Ending) (w':World):Prop:=∃ A n c,e=.returned (.tuple #[.int .u64 (v:Nat),.slice A n c,.int .i64 0])/\Below w.heap.size w w'/\OwnB w' w.heap.size A n c r
theorem jj3 (F:Nat->Prop) (A:Option Addr) (n c:Nat) (l:List UInt8) (w:World) (h:Bs F w A n c l) (hn:n<=4294967296) (hv:zzN l=none) :
 Calls Tryz.prog 133 #[.slice A n c] w (TkNone w) :=
 (kqL F A n c l w h hn).mono fun e w' ⟨x,A1,n1,c1,he,hb,_⟩=>⟨x,A1,n1,c1,by rw [he,hv];rfl,hb⟩
theorem zzY (F:Nat->Prop) (A:Option Addr) (n c:Nat) (l:List UInt8) (v:Nat) (r:List UInt8) (w:World) (h:Bs F w A n c l) (hn:n<=4294967296) (hv:zzN l=some (v,r)) :
 Calls Tryz.prog 133 #[.slice A n c] w (TkSome v r w) :=
 (kqL F A n c l w h hn).mono fun e w' ⟨x,A1,n1,c1,he,hb,hx⟩=>by
   obtain⟨e1,_,e3⟩:=hx v r hv
   subst e1
   exact⟨A1,n1,c1,by rw [he,hv];rfl,hb,e3⟩
theorem qzk {L:List Fld} {f:Fld} {r':List UInt8} {e:TypeId} {w wr wA wX w5:World} {A2 A5 A4:Option Addr} {m c2 c5 n4 c4 k:Nat} {G P:Nat->Prop} {o:Obj} (ho:OwnF tFld e G wr w.heap.size A2 m c2 L)
 (hba:Below wr.heap.size wr wA) (hbx:Below wA.heap.size wA wX) (hs:Bs (fun b=>wr.heap.size<=b) wA A4 n4 c4 r') (h5:ApdL tFld e P w (wX.alloc o) w5 w.heap.size A2 A5 k c5 (L++[f])) :
 Bs (fun b=>wr.heap.size<=b/\b<wA.heap.size) w5 A4 n4 c4 r'/\(∀ b,A5=some ⟨b,0,none⟩->w.heap.size<=b->¬ (wr.heap.size<=b/\b<wA.heap.size)):=by
 have q1:=hba.size
 have q2:=hbx.size
 refine⟨?_,?_⟩
 · refine ((((hs.weaken (F':=fun b=>wr.heap.size<=b/\b<wA.heap.size) (fun b h1 h2=>⟨h1,h2⟩)).below hbx zN).alloc _).grown h5.grown ?_)
   intro g hg
   rintro ⟨hg1,_⟩
   obtain⟨a,ha,hb⟩:=Option.map_eq_some_iff.1 hg
   have:=(ho.lies (b:=a.block) (by rw [ha];rfl)).2.2
   omega
 · rintro b hb _ ⟨hb1,hb2⟩
   rcases h5.lies with h6 | h6
   · rw [hb] at h6
     obtain⟨a,ha,hb3⟩:=Option.map_eq_some_iff.1 h6.symm
     have:=(ho.lies (b:=a.block) (by rw [ha];rfl)).2.2
     simp at hb3
     omega
   · rw [hb] at h6
     simp at h6
     omega
def TakePostO (l:List UInt8) (w:World) (e:Ending) (w':World):Prop :=
 ∃ A n c G,e=.returned (.tuple #[.slice A n c,.int .i64 (okc (zzo l).isSome 2)])/\Below w.heap.size w w'/\OwnF tFld 120 G w' w.heap.size A n c ((zzo l).getD [])/\∀ b,G b->w.heap.size<=b
theorem rwtake_own (F:Nat->Prop) (A:Option Addr) (n c:Nat) (l:List UInt8) (w:World) (h:Bs F w A n c l) (hn:n<=4294967296) :
 Calls Tryz.prog 74 #[.slice A n c] w (TakePostO l w):=by
 have HL:=zH h.len
 have hnewF:=OwnF.newL (T:=tFld) (F:=fun _=>False) (w:=w) (e:=120) (B:=w.heap.size) (n:=0) Reps.nil_ zN rfl (by omega) (.cells #[] 120) rfl
 have HNF:=zH hnewF
 have HB0:=zH (show Below w.heap.size w (w.alloc (.cells #[] 120)) from (zR).alloc zN _)
 have HNB:=zH (OwnB.new0 (w.alloc (.cells #[] 120)) (w.heap.size+1) (by simp))
 have HSRC:=zH ((Sl.alloc h (.cells #[] 120)).alloc (.cells #[] 5))
 clear hnewF h
 go_enter Tryz.func74,Tryz.ntmps74
 obtain⟨w0,hw0⟩:∃ w0,w0=w.alloc (.cells #[] 120):=⟨_,rfl⟩
 have hs0:w0.heap.size=w.heap.size+1:=by rw [hw0];simp
 rw [<-hw0] at HNF HB0 HNB HSRC
 have HW0:=zH hw0;have HS0:=zH hs0;clear hw0 hs0
 rw [<-HS0.out] at HNB
 go_wp2_with (at_builtin;rw [<-HW0.out,<-HS0.out];refine apb (w0.alloc (.cells #[] 5)) w0 rfl (.tmp 13) (.tmp 14) rfl w0.heap.size _ 0 0 [] rfl HNB.out ((Below.refl _ w0).alloc zN _) zN F A n c l rfl HSRC.out (by omega) ?_;intro A1 c1 w1 h1 hb1 _)
 have H1:=zH h1;have HB1:=zH hb1
 clear h1 hb1 HNB HSRC
 go_loopw [4,5] (fun v s wr=>∃ (r:List UInt8) (L:List Fld) (A1:Option Addr) (n1 c1:Nat) (A2:Option Addr) (m c2:Nat) (G H:Nat->Prop),s=.slice A1 n1 c1/\v=.slice A2 m c2/\Bs H wr A1 n1 c1 r /\
  OwnF tFld 120 G wr w.heap.size A2 m c2 L/\(∀ b,A2=some ⟨b,0,none⟩->w.heap.size<=b->¬ H b)/\(∀ b,G b->w.heap.size<=b)/\Below w.heap.size w wr/\zzo l=(zzo r).map (L++·)/\r.length+L.length<=l.length)
  (fun _ s _=>lenV s)
 case atStart=>exact⟨l,[],A1,n,c1,_,0,0,_,fun b=>w0.heap.size<=b,rfl,rfl,(by have h1:=H1.out;rw [Nat.zero_add,List.nil_append] at h1;exact h1.bs.weaken fun b h _=>h.2),HNF.out.keepB HB1.out,(by intro b hb _ hh;injection hb with hb;injection hb with hb;have:=HS0.out;omega),(fun b h=>h.1.elim),HB0.out.trans (HB1.out.mono HB0.out.size),by cases zzo l <;> simp,by simp⟩
 case round =>
  clear HNF HB0 H1 HB1
  obtain⟨r,L,A1,n1,c1,A2,m,c2,G,H,rfl,rfl,hs,hown,hH,hG,hb,hw,hlen⟩:=hrel
  have HR:=zH hs.len
  have hn1:n1<=4294967296:=by rw [HR.out];have:=HL.out;omega
  have hm:m<=4294967296:=by rw [hown.len];have:=HL.out;omega
  have hsz:=hb.size
  have HGG:=zH hG;have HSR:=zH hs;have HO:=zH hown;have HBR:=zH hb;clear hH hG hs hown hb
  have HW:=zH hw;have HLEN:=zH hlen;clear hw hlen
  by_cases hlt:0<n1
  · have hne:r≠[]:=by intro h0;rw [HR.out,h0] at hlt;simp at hlt
    have HNE:=zH hne;clear hne
    cases hv1:zzN r with
    | none =>
      have hN:zzo l=none:=by rw [HW.out,yyR HNE.out (wone_none1 hv1)];rfl
      have HN:=zH hN;have HV1:=zH hv1;clear hN hv1
      go_wp2_with (first
       | (go_at_call 133;refine (jj3 _ A1 n1 c1 r _ HSR.out hn1 HV1.out).mono ?_;rintro e w1 ⟨x,Ax,nx,cx,rfl,hb1⟩)
       | fail)
      go_ret2
      exact⟨none,0,0,fun _=>False,by rw [HN.out];rfl,HBR.out.trans (hb1.mono hsz),by rw [HN.out];exact OwnF.nil_ _ _ _ _ _,fun _ h=>h.elim⟩
    | some p =>
      obtain⟨key,r1⟩:=p
      have hkey:=(yyS hv1).2
      have hr1l:=yyz hv1
      have HV1:=zH hv1
      by_cases hok:8<=key/\key<=802/\(key % 8=0∨key % 8=2)
      · obtain⟨hk8,hk9,hkm⟩:=hok
        have k1:¬ (key:Int)<8:=by omega
        have k2:¬ (802:Int)<(key:Int):=by omega
        have hw3:IntKind.i64.wrap ((key:Int) / 8)=(key:Int) / 8:=by rw [IntKind.wrap_i64];omega
        have hr1n:r1.length<=4294967296:=by rw [HR.out] at hn1;omega
        cases hv2:zzN r1 with
        | none =>
          have hN:zzo l=none:=by rw [HW.out,yyR HNE.out (wone_none2 hv1 hv2)];rfl
          have HN:=zH hN;have HV2:=zH hv2;clear hN hv2 hv1
          have hcs:(((key:Int) % 8 != 0)=false)∨(((key:Int) % 8 != 0)=true/\((key:Int) % 8 != 2)=false):=by simp;omega
          clear hkm
          rcases hcs with k3 | ⟨k3,k4⟩
          all_goals
           go_wp2_with (first
            | (go_at_call_of 133 (Value.slice A1 n1 c1);refine (zzY _ A1 n1 c1 r key r1 _ HSR.out hn1 HV1.out).mono ?_;rintro e w1 ⟨Ax,nx,cx,rfl,hb1,ho1⟩;have HB1:=zH (HBR.out.trans (hb1.mono hsz));have HO1:=zH ho1;clear hb1 ho1)
            | (go_at_call 133;refine (jj3 _ Ax nx cx r1 _ HO1.out.bs (by rw [HO1.out.len];exact hr1n) HV2.out).mono ?_;rintro e w2 ⟨x2,Ay,ny,cy,rfl,hb2⟩;have HB2:=zH (HB1.out.trans (hb2.mono HB1.out.size));clear hb2)
            | fail)
           go_ret2
           exact⟨none,0,0,fun _=>False,by rw [HN.out];rfl,HB2.out,by rw [HN.out];exact OwnF.nil_ _ _ _ _ _,fun _ h=>h.elim⟩
        | some q =>
          obtain⟨nn,r2⟩:=q
          have hnn:=(yyS hv2).2
          have hr2l:=yyz hv2
          have HV2:=zH hv2
          by_cases hm0:key % 8=0
          · have hone:=wone_num hv1 hv2 hk8 hk9 hm0
            have HONE:=zH hone;clear hone hv1 hv2 hkm
            have k3:((key:Int) % 8 != 0)=false:=by simp;omega
            have k5:((key:Int) % 8==2)=false:=by simp;omega
            clear hm0
            go_wp2_with (first
             | (go_at_call_of 133 (Value.slice A1 n1 c1);refine (zzY _ A1 n1 c1 r key r1 _ HSR.out hn1 HV1.out).mono ?_;rintro e w1 ⟨Ax,nx,cx,rfl,hb1,ho1⟩;have HB1:=zH hb1;have HO1:=zH ho1;clear hb1 ho1)
             | (go_at_call 133;refine (zzY _ Ax nx cx r1 nn r2 _ HO1.out.bs (by rw [HO1.out.len];exact hr1n) HV2.out).mono ?_;rintro e w2 ⟨Ay,ny,cy,rfl,hb2,ho2⟩;have HB2:=zH (HB1.out.trans (hb2.mono HB1.out.size));have HO2:=zH (ho2.bs.weaken (F':=fun b=>wr.heap.size<=b) fun b h _=>Nat.le_trans HB1.out.size h.2);clear hb2 ho2)
             | (at_builtin;refine apl1 (T:=tFld) vv6 (w2.alloc (.cells #[.int .i64 ((key:Int) / 8),.bool false,.int .u64 (nn:Int),.slice none 0 0] 120)) w rfl (.tmp 78) (.tmp 80) rfl w.heap.size A2 m c2 L rfl G (fun b=>wr.heap.size<=b) ((HO.out.keepB HB2.out).alloc _) ((HBR.out.trans (HB2.out.mono hsz)).alloc (Nat.le_trans hsz HB2.out.size) _) zN _ (by rw [zS];rfl) _ ⟨((key / 8:Nat):Int),false,nn,[]⟩ ⟨none,0,0,rfl,by unfold i64;dsimp only;omega,hnn,Sl.nil_ _ _ _⟩ 120 rfl (fun b h1 _ _ h4=>by obtain⟨e1,_,e3⟩:=HO.out.lies (b:=b) (by simp [Value.ownBlock,h1]);omega) (by omega) ?_;intro A5 c5 w5 h5)
             | fail)
            go_roundw
            case rel =>
             have hw2:zzo l=(zzo r2).map (L++[⟨((key / 8:Nat):Int),false,nn,[]⟩]++·):=by
              rw [HW.out,xxu HNE.out HONE.out]
              cases zzo r2 <;> simp
             obtain⟨z1,z2⟩:=qzk HO.out HB2.out ((Below.refl _ w2).alloc zN _) HO2.out h5
             refine⟨r2,L++[⟨((key / 8:Nat):Int),false,nn,[]⟩],Ay,ny,cy,A5,m+1,c5,_,_,rfl,rfl,z1,h5.own,z2,?_,h5.below,hw2,?_⟩
             · rintro b ⟨hb1 | hb1,_⟩
               · exact HGG.out b hb1
               · omega
             · have:=HLEN.out
               simp only [List.length_append,List.length_cons,List.length_nil];omega
            case measure =>
             have e1:=HO2.out.len
             have e2:=HR.out
             simp only [lenV];omega
          · have hm2:key % 8=2:=by omega
            have k3:((key:Int) % 8 != 0)=true:=by simp;omega
            have k4:((key:Int) % 8 != 2)=false:=by simp;omega
            have k5:((key:Int) % 8==2)=true:=by simp;omega
            by_cases hlong:r2.length<nn
            · have hN:zzo l=none:=by rw [HW.out,yyR HNE.out (wone_long hv1 hv2 hm2 hlong)];rfl
              have HN:=zH hN;clear hN hv1 hv2 hm0 hm2 hkm
              go_wp2_with (first
               | (go_at_call_of 133 (Value.slice A1 n1 c1);refine (zzY _ A1 n1 c1 r key r1 _ HSR.out hn1 HV1.out).mono ?_;rintro e w1 ⟨Ax,nx,cx,rfl,hb1,ho1⟩;have HB1:=zH (HBR.out.trans (hb1.mono hsz));have HO1:=zH ho1;clear hb1 ho1)
               | (go_at_call 133;refine (zzY _ Ax nx cx r1 nn r2 _ HO1.out.bs (by rw [HO1.out.len];exact hr1n) HV2.out).mono ?_;rintro e w2 ⟨Ay,ny,cy,rfl,hb2,ho2⟩;have HB2:=zH (HB1.out.trans (hb2.mono HB1.out.size));have hcmp:(ny:Int)<(nn:Int):=(by have:=ho2.len;omega);have hw4:IntKind.u64.wrap (ny:Int)=(ny:Int):=yyu ny (by omega);clear hb2 ho2)
               | fail)
              go_ret2
              exact⟨none,0,0,fun _=>False,by rw [HN.out];rfl,HB2.out.alloc HB2.out.size _,by rw [HN.out];exact OwnF.nil_ _ _ _ _ _,fun _ h=>h.elim⟩
            · have hlong':nn<=r2.length:=by omega
              have hone:=wone_txt hv1 hv2 hk8 hk9 hm2 hlong'
              have HONE:=zH hone;clear hone hv1 hv2 hm0 hm2 hkm hlong
              go_upto_if 66 with (first
               | (go_at_call_of 133 (Value.slice A1 n1 c1);refine (zzY _ A1 n1 c1 r key r1 _ HSR.out hn1 HV1.out).mono ?_;rintro e w1 ⟨Ax,nx,cx,rfl,hb1,ho1⟩;have HB1:=zH hb1;have HO1:=zH ho1;clear hb1 ho1)
               | (go_at_call 133;refine (zzY _ Ax nx cx r1 nn r2 _ HO1.out.bs (by rw [HO1.out.len];exact hr1n) HV2.out).mono ?_;rintro e w2 ⟨Ay,ny,cy,rfl,hb2,ho2⟩;have HB2:=zH (HB1.out.trans (hb2.mono HB1.out.size));have HO2:=zH ho2;have hcmp:¬ (nn:Int) > (ny:Int):=(by have:=ho2.len;omega);have hw4:IntKind.u64.wrap (ny:Int)=(ny:Int):=yyu ny (by have:=ho2.len;omega);clear hb2 ho2)
               | fail)
              obtain⟨hnyl,hcap,_⟩:=id HO2.out.bs
              have hs1:=Sl.front HO2.out.bs (k:=nn) (by omega)
              have hs2:=Sl.cut HO2.out.bs (lo:=nn) (hi:=ny) (by omega) zN
              rw [show r2.take ny=r2 from zL (by omega)] at hs2
              have hny:nn<=ny:=by omega
              have hcy:nn<=cy:=by omega
              have hny4:ny<=4294967296:=by omega
              have HNYL:=zH hnyl;clear hnyl
              have HS1:=zH hs1;clear hs1
              obtain⟨wf,hwf⟩:∃ wf,wf=w2.alloc (.cells #[.int .i64 ((key:Int) / 8),.bool true,.int .u64 0,.slice none 0 0] 120):=⟨_,rfl⟩
              have hsf:wf.heap.size=w2.heap.size+1:=by rw [hwf];simp
              have hbf:Below w2.heap.size w2 wf:=by rw [hwf];exact (zR).alloc zN _
              have hbk:wf.heap[w2.heap.size]?=some (.cells #[.int .i64 ((key:Int) / 8),.bool true,.int .u64 0,.slice none 0 0] 120):=by rw [hwf];exact heap_alloc_new w2 _
              have HNB:=zH (OwnB.new0 wf wf.heap.size zN)
              have HSRC:=zH (Sl.alloc (HS1.out.below hbf zN) (.cells #[] 5))
              have HBF:=zH hbf;have HBK:=zH hbk;have HWF:=zH hwf;have HSF:=zH hsf
              clear hbf hbk hwf hsf
              by_cases hck:cy=nn
              · rw [if_pos hck,show cy - nn=0 by omega,show ny - nn=0 by omega] at hs2
                have HS2:=zH hs2;clear hs2
                obtain rfl:nn=ny:=by omega
                obtain rfl:nn=cy:=hck.symm
                have hi0:(0:Int)<=(nn:Int):=by omega
                have hi1:(nn:Int)<=(nn:Int):=by omega
                have hi2:(nn:Int)<=(nn:Int):=by omega
                go_wp2_with (first
                 | (at_builtin;rw [<-HWF.out,<-HSF.out];refine apb (wf.alloc (.cells #[] 5)) wf rfl (.tmp 67) (.tmp 70) rfl wf.heap.size _ 0 0 [] rfl HNB.out ((Below.refl _ wf).alloc zN _) zN _ _ _ _ (r2.take nn) rfl HSRC.out (by omega) ?_
                    intro A6 c6 w6 h6 hb6 _
                    have hbk6:=(hb6.block w2.heap.size (by have:=HSF.out;omega)).trans HBK.out
                    have f0:=zF hbk6 0;have f1:=zF hbk6 1;have f2:=zF hbk6 2;have f3:=zF hbk6 3
                    have d0:=cell_of_row w6 w2.heap.size 0 _ _ _ hbk6;have d1:=cell_of_row w6 w2.heap.size 1 _ _ _ hbk6;have d2:=cell_of_row w6 w2.heap.size 2 _ _ _ hbk6;have d3:=cell_of_row w6 w2.heap.size 3 _ _ _ hbk6
                    have hx2:Below w2.heap.size w2 (w6.setCell ⟨w2.heap.size,3,none⟩ (.slice A6 nn c6)):=(HBF.out.trans (hb6.mono HBF.out.size)).setCell zN _
                    have hs6:Bs (fun b=>wr.heap.size<=b) (w6.setCell ⟨w2.heap.size,3,none⟩ (.slice A6 nn c6)) A6 nn c6 (r2.take nn):=(by
                     have q:=h6.bs;rw [Nat.zero_add,List.nil_append] at q
                     exact (Sl.setCell q (p:=⟨w2.heap.size,3,none⟩) (by rintro ⟨_,h⟩;have h:wf.heap.size<=w2.heap.size:=h;have:=HSF.out;omega) _).weaken (fun b h _=>by have:=h.2;have:=HSF.out;have:=HB2.out.size;omega))
                    have HX2:=zH hx2;have HX:=zH (HB2.out.trans (hx2.mono HB2.out.size));have HS6:=zH hs6;clear h6 hb6 hbk6 hx2 hs6)
                 | (at_builtin;refine apl1 (T:=tFld) vv6 (w6.setCell ⟨w2.heap.size,3,none⟩ (.slice A6 nn c6)) w rfl (.tmp 78) (.tmp 80) rfl w.heap.size A2 m c2 L rfl G (fun b=>wr.heap.size<=b) (HO.out.keepB HX.out) (HBR.out.trans (HX.out.mono hsz)) zN _ (by first | rfl | (rw [World.size_setCell];rfl)) _ ⟨((key / 8:Nat):Int),true,0,r2.take nn⟩ ⟨A6,nn,c6,rfl,by unfold i64;dsimp only;omega,by dsimp only;omega,HS6.out⟩ 120 rfl (fun b h1 _ _ h4=>by obtain⟨e1,_,e3⟩:=HO.out.lies (b:=b) (by simp [Value.ownBlock,h1]);omega) (by omega) ?_;intro A5 c5 w5 h5)
                 | fail)
                go_roundw
                case rel =>
                 have hw2:zzo l=(zzo (r2.drop nn)).map (L++[⟨((key / 8:Nat):Int),true,0,r2.take nn⟩]++·):=by
                  rw [HW.out,xxu HNE.out HONE.out]
                  cases zzo (r2.drop nn) <;> simp
                 obtain⟨z1,z2⟩:=qzk HO.out HB2.out HX2.out (HS2.out.weaken (fun b h _=>Nat.le_trans HB1.out.size h.2)) h5
                 refine⟨r2.drop nn,L++[⟨((key / 8:Nat):Int),true,0,r2.take nn⟩],_,_,_,A5,m+1,c5,_,_,rfl,rfl,z1,h5.own,z2,?_,h5.below,hw2,?_⟩
                 · rintro b ⟨hb1 | hb1,_⟩
                   · exact HGG.out b hb1
                   · omega
                 · have:=HLEN.out
                   simp only [List.length_append,List.length_cons,List.length_nil,List.length_drop];omega
                case measure =>
                 have e1:=HNYL.out
                 have e2:=HR.out
                 simp only [lenV];omega
              · rw [if_neg hck] at hs2
                obtain⟨g,rfl⟩:∃ g,Ay=some ⟨g,0,none⟩:=by
                 rcases jjX HO2.out with ⟨_,h1,h2⟩ | h
                 · omega
                 · exact h
                rw [Option.map_some,yyB,Nat.zero_add,show nn*tU8.size=nn from Nat.mul_one _] at hs2
                have HS2:=zH hs2;clear hs2
                have hi0:(0:Int)<=(nn:Int):=by omega
                have hi1:(nn:Int)<=(ny:Int):=by omega
                have hi2:(nn:Int)<=(cy:Int):=by omega
                go_wp2_with (first
                 | (at_builtin;rw [<-HWF.out,<-HSF.out];refine apb (wf.alloc (.cells #[] 5)) wf rfl (.tmp 67) (.tmp 70) rfl wf.heap.size _ 0 0 [] rfl HNB.out ((Below.refl _ wf).alloc zN _) zN _ _ _ _ (r2.take nn) rfl HSRC.out (by omega) ?_
                    intro A6 c6 w6 h6 hb6 _
                    have hbk6:=(hb6.block w2.heap.size (by have:=HSF.out;omega)).trans HBK.out
                    have f0:=zF hbk6 0;have f1:=zF hbk6 1;have f2:=zF hbk6 2;have f3:=zF hbk6 3
                    have d0:=cell_of_row w6 w2.heap.size 0 _ _ _ hbk6;have d1:=cell_of_row w6 w2.heap.size 1 _ _ _ hbk6;have d2:=cell_of_row w6 w2.heap.size 2 _ _ _ hbk6;have d3:=cell_of_row w6 w2.heap.size 3 _ _ _ hbk6
                    have hx2:Below w2.heap.size w2 (w6.setCell ⟨w2.heap.size,3,none⟩ (.slice A6 nn c6)):=(HBF.out.trans (hb6.mono HBF.out.size)).setCell zN _
                    have hs6:Bs (fun b=>wr.heap.size<=b) (w6.setCell ⟨w2.heap.size,3,none⟩ (.slice A6 nn c6)) A6 nn c6 (r2.take nn):=(by
                     have q:=h6.bs;rw [Nat.zero_add,List.nil_append] at q
                     exact (Sl.setCell q (p:=⟨w2.heap.size,3,none⟩) (by rintro ⟨_,h⟩;have h:wf.heap.size<=w2.heap.size:=h;have:=HSF.out;omega) _).weaken (fun b h _=>by have:=h.2;have:=HSF.out;have:=HB2.out.size;omega))
                    have HX2:=zH hx2;have HX:=zH (HB2.out.trans (hx2.mono HB2.out.size));have HS6:=zH hs6;clear h6 hb6 hbk6 hx2 hs6)
                 | (at_builtin;refine apl1 (T:=tFld) vv6 (w6.setCell ⟨w2.heap.size,3,none⟩ (.slice A6 nn c6)) w rfl (.tmp 78) (.tmp 80) rfl w.heap.size A2 m c2 L rfl G (fun b=>wr.heap.size<=b) (HO.out.keepB HX.out) (HBR.out.trans (HX.out.mono hsz)) zN _ (by first | rfl | (rw [World.size_setCell];rfl)) _ ⟨((key / 8:Nat):Int),true,0,r2.take nn⟩ ⟨A6,nn,c6,rfl,by unfold i64;dsimp only;omega,by dsimp only;omega,HS6.out⟩ 120 rfl (fun b h1 _ _ h4=>by obtain⟨e1,_,e3⟩:=HO.out.lies (b:=b) (by simp [Value.ownBlock,h1]);omega) (by omega) ?_;intro A5 c5 w5 h5)
                 | fail)
                go_roundw
                case rel =>
                 have hw2:zzo l=(zzo (r2.drop nn)).map (L++[⟨((key / 8:Nat):Int),true,0,r2.take nn⟩]++·):=by
                  rw [HW.out,xxu HNE.out HONE.out]
                  cases zzo (r2.drop nn) <;> simp
                 obtain⟨z1,z2⟩:=qzk HO.out HB2.out HX2.out (HS2.out.weaken (fun b h _=>Nat.le_trans HB1.out.size h.2)) h5
                 refine⟨r2.drop nn,L++[⟨((key / 8:Nat):Int),true,0,r2.take nn⟩],_,_,_,A5,m+1,c5,_,_,rfl,rfl,z1,h5.own,z2,?_,h5.below,hw2,?_⟩
                 · rintro b ⟨hb1 | hb1,_⟩
                   · exact HGG.out b hb1
                   · omega
                 · have:=HLEN.out
                   simp only [List.length_append,List.length_cons,List.length_nil,List.length_drop];omega
                case measure =>
                 have e1:=HNYL.out
                 have e2:=HR.out
                 simp only [lenV];omega
      · have hcs:((key:Int)<8)∨(¬ ((key:Int)<8)/\(802:Int)<(key:Int))∨(¬ ((key:Int)<8)/\¬ (802:Int)<(key:Int)/\(((key:Int) % 8 != 0)=true)/\(((key:Int) % 8 != 2)=true)):=by simp;omega
        have hN:zzo l=none:=by rw [HW.out,yyR HNE.out (wone_bad hv1 (by omega))];rfl
        have HN:=zH hN;clear hN hok hv1
        rcases hcs with h1 | ⟨h1,h2⟩ | ⟨h1,h2,h3,h4⟩
        all_goals
         go_wp2_with (first
          | (go_at_call 133;refine (zzY _ A1 n1 c1 r key r1 _ HSR.out hn1 HV1.out).mono ?_;rintro e w1 ⟨Ax,nx,cx,rfl,hb1,ho1⟩;have HB1:=zH (HBR.out.trans (hb1.mono hsz));clear hb1 ho1)
          | fail)
         go_ret2
         exact⟨none,0,0,fun _=>False,by rw [HN.out];rfl,HB1.out,by rw [HN.out];exact OwnF.nil_ _ _ _ _ _,fun _ h=>h.elim⟩
  · obtain rfl:n1=0:=by omega
    have hr0:r=[]:=List.length_eq_zero_iff.1 HR.out.symm
    have hN:zzo l=some L:=by rw [HW.out,hr0,uue];simp
    have HN:=zH hN;clear hN
    go_wp2
    go_ret2
    exact⟨A2,m,c2,G,by rw [HN.out];rfl,HBR.out,by rw [HN.out];exact HO.out,HGG.out⟩
theorem vvw (F:Nat->Prop) (A:Option Addr) (n c:Nat) (l:List UInt8) (w:World) (h:Bs F w A n c l) (hn:n<=4294967296) :
 Calls Tryz.prog 74 #[.slice A n c] w (qx9 l w) :=
 (rwtake_own F A n c l w h hn).mono fun e w' ⟨A1,n1,c1,G,he,hb,ho,hG⟩=>⟨A1,n1,c1,he,hb,ho.sl.weaken (fun b hb _=>by rcases hb with hb | hb;exact hG b hb;exact hb.2)⟩
end
end Go.Proofs.YtpmglcachffojaaGreatDoor
