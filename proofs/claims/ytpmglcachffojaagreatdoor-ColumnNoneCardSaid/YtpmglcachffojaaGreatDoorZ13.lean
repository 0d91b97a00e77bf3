/- A part of what None leans on. -/
import Derived.Test.YtpmglcachffojaaGreatDoorZ12
set_option maxRecDepth 100000
set_option maxHeartbeats 16000000
namespace Go.Proofs.YtpmglcachffojaaGreatDoor
section
open Go Go.RowKit
theorem zzq {P:Program} {fn:Func} {p a:Tmp} {ty:TypeId} (h:fn.results=#[.cell p ty,.tmp a]) (tmps:Array Value) (w:World) (g:Nat) (t:TypeId) (cs:Array Value) (fr:Nat×Nat) (d:TypeDesc)
 (hp:tmps.getD p undef=.pointer (some ⟨g,0,none⟩)) (hg:w.heap[g]?=some (.cells cs t fr))
 (hu:P.underlying ty=some d) (hd:(match d with | .struct _ | .array _ _=>true | _=>false)=true) (hi:(P.info? ty).map (·.size)=some cs.size) :
 (results fn tmps).run P w=.ok (.tuple #[.agg cs,tmps.getD a undef]) w:=by
 have hp':tmps[p]?.getD undef=.pointer (some ⟨g,0,none⟩):=by simpa using hp
 simp [results,h,hp',asAddr,run_loadVar_row w g t ty cs fr d hg hu hd hi]
theorem uud {w:World} {g:Nat} {c0 c1 c2 c3 c4 u0 u1 u2 u3 u4:Value} {t:TypeId} {fr:Nat×Nat} (h:w.heap[g]?=some (.cells #[c0,c1,c2,c3,c4] t fr)) :
 (((((w.setCell ⟨g,0,none⟩ u0).setCell ⟨g,1,none⟩ u1).setCell ⟨g,2,none⟩ u2).setCell ⟨g,3,none⟩ u3).setCell ⟨g,4,none⟩ u4).heap[g]?=some (.cells #[u0,u1,u2,u3,u4] t fr) :=
 zza (zza (zza (zza (zza h rfl) rfl) rfl) rfl) rfl
theorem vvl {w0 w:World} {g:Nat} {u0 u1 u2 u3 u4:Value} (h:Below g w0 w) :
 Below g w0 (((((w.setCell ⟨g,0,none⟩ u0).setCell ⟨g,1,none⟩ u1).setCell ⟨g,2,none⟩ u2).setCell ⟨g,3,none⟩ u3).setCell ⟨g,4,none⟩ u4) :=
 zzn (zzn (zzn (zzn (zzn h zN _) zN _) zN _) zN _) zN _
theorem OwnF.all {α:Type} {T:Ty α} {e:TypeId} {F:Nat->Prop} {w:World} {B:Nat} {A:Option Addr} {n c:Nat} {xs:List α} (h:OwnF T e F w B A n c xs):∀ x∈xs,∃ cs,T.rep F w cs x:=by
 obtain⟨⟨css,_,h2⟩,_,_⟩:=h
 intro x hx
 obtain⟨i,hi,rfl⟩:=List.getElem_of_mem hx
 exact⟨_,h2.2 i _ _ (List.getElem?_eq_getElem (by rw [h2.1];exact hi)) (List.getElem?_eq_getElem hi)⟩
theorem zqs (u k:Nat) (hu:u<18446744073709551616) (hk:k<=63):bits BinOp.and IntKind.u64 (u:Int) (IntKind.u64.wrap (IntKind.u64.wrap (2 ^ k) - 1))=((u % 2 ^ k:Nat):Int):=by
 have hp:2 ^ k<=2 ^ 63:=Nat.pow_le_pow_right (by decide) hk
 have hp0:0<2 ^ k:=Nat.pow_pos (by decide)
 have e0:(2:Int) ^ k=((2 ^ k:Nat):Int):=by simp
 have e1:IntKind.u64.wrap ((2:Int) ^ k)=((2 ^ k:Nat):Int):=by rw [e0,IntKind.wrap_u64];omega
 have e2:IntKind.u64.wrap (((2 ^ k:Nat):Int) - 1)=((2 ^ k - 1:Nat):Int):=by rw [IntKind.wrap_u64];omega
 rw [e1,e2,u64_and_nat _ _ hu (by omega),Nat.and_two_pow_sub_one_eq_mod]
section
variable {P:Program} {α:Type} {T:Ty α} {t e:TypeId} (E:zzL P t e T.size) (w a0:World) {ops:Array Oper} {o:Oper} {a:Act} {Q:Exit->Act->World->Prop}
include E
theorem xxa {K:Act->World->Prop} {E':Prop} (hgd:o.guard=none) (s x:Operand) (ho:o.op=.call { callee:=.builtin .append,args:=#[s,x],argTypes:=#[t,t] }) (B:Nat) (A:Option Addr) (n c:Nat) (xs:List α) (hs:a.eval s=.slice A n c)
 (F G:Nat->Prop) (hown:OwnF T e F w.drew B A n c xs) (hb:Below B a0 w.drew) (hB:B<=a0.heap.size) (obj:Obj) (hx:a.eval x=.slice (some ⟨w.heap.size,0,none⟩) 1 1)
 (cs:List Value) (y:α) (hrep:T.rep G w.drew cs y) (t':TypeId) (hobj:obj=.cells cs.toArray t') (hF:∀ b,A=some ⟨b,0,none⟩->B<=b->b<w.heap.size->¬ G b) (hlim:n<=34359738368)
 (h:∀ A' c' w',ApdL T e (fun b=>(F b∨G b)/\b<w.heap.size) a0 (w.drew.alloc obj) w' B A A' (n+1) c' (xs++[y])->K (a.put o.dst (.slice A' (n+1) c')) w') :
 if Region.wanted o (yielded ops a.tmps)=true then Oper.wp P o a (w.alloc obj).drew K Q else E' :=
 kqv E w.drew a0 hgd s x ho B A n c xs hs F G hown hb hB obj hx cs y hrep t' hobj hF hlim h
end
theorem PcR.same5 {w0 w:World} {rb lb:Nat} {base:Int} {Al Ap:Option Addr} {nl cl np cp:Nat} {low:List Nat} {ps:List (Nat×Nat)} {g q la:Nat} (h:PcR w0 rb lb base Al nl cl low Ap np cp ps g q la w) :
 PcR w0 rb lb base Al nl cl low Ap np cp ps g q la (((((w.setCell ⟨rb,0,none⟩ (.int .i64 base)).setCell ⟨rb,1,none⟩ (.slice Al nl cl)).setCell ⟨rb,2,none⟩ (.slice Ap np cp)).setCell ⟨rb,3,none⟩ (.int .i64 (g:Int))).setCell ⟨rb,4,none⟩ (.int .i64 (q:Int))):=by
 have ho:=h.ord
 refine h.set (uud h.run) (zzd (zzd (zzd (zzd (zzd h.last (by omega)) (by omega)) (by omega)) (by omega)) (by omega)) (fun b h1 _=>?_) (by simp [World.setCell]) (vvl h.below)
 exact (Below.heap_setCell _ ⟨rb,4,none⟩ _ b h1).trans ((Below.heap_setCell _ ⟨rb,3,none⟩ _ b h1).trans ((Below.heap_setCell _ ⟨rb,2,none⟩ _ b h1).trans ((Below.heap_setCell _ ⟨rb,1,none⟩ _ b h1).trans (Below.heap_setCell _ ⟨rb,0,none⟩ _ b h1))))
theorem jjX (w0:World) (rb lb:Nat) (base:Int) (Al:Option Addr) (nl cl:Nat) (low:List Nat) (Ap:Option Addr) (np cp:Nat) (ps:List (Nat×Nat)) (g q la:Nat) (hla:la<=4096) (hnp:np<=4096) (w:World) (h:PcR w0 rb lb base Al nl cl low Ap np cp ps g q la w) :
 Calls Tryz.prog 321 #[.int .i64 255,.int .u64 0,.pointer (some ⟨rb,0,none⟩),.pointer (some ⟨lb,0,none⟩)] w fun e w'=>e=.returned (.tuple #[])/\∃ Ap' cp',PcR w0 rb lb base Al nl cl low Ap' (np+1) cp' (ps++[(255,0)]) (max g (bl 255)) (max q (bl 0)) (la+255) w' :=
 qze w0 rb lb base Al nl cl low Ap np cp ps g q la 255 0 hla (by decide) (by decide) hnp w h
theorem ps_ok {F:Nat->Prop} {w:World} {B n c:Nat} {A:Option Addr} {ps:List (Nat×Nat)} (h:OwnF vv9 332 F w B A n c ps):gapW ps<=64/\patM ps<=64 :=
 ⟨(qxJ ps fun x hx=>by obtain⟨_,_,h1,_⟩:=h.all x hx;exact Nat.lt_trans h1 (by decide)).2,(qzf ps fun x hx=>by obtain⟨_,_,_,h1⟩:=h.all x hx;exact h1).2⟩
def yyx (k:Nat) (ps:List (Nat×Nat)):Bool:=decide (ps.length<=31)&&decide (gapW ps+patW ps<=64)&&decide (k+patW ps<=64)
def jjq (l:List Int) (k n:Nat) (w:World) (e:Ending) (w':World):Prop:=Below w.heap.size w w' /\
 if (upN l).all (·<9223372036854775808) then ∃ Al cl Ap np cp,e=.returned (.tuple #[.agg #[.int .i64 (zzJ l),.slice Al n cl,.slice Ap np cp,.int .i64 (gapW (zzr k 0 0 (upN l)):Int),.int .i64 (patW (zzr k 0 0 (upN l)):Int)],.bool (yyx k (zzr k 0 0 (upN l)))]) /\
  Sl tU64 (fun _=>True) w' Al n cl ((upN l).map (· % 2 ^ k))/\Sl vv9 (fun _=>True) w' Ap np cp (zzr k 0 0 (upN l))
 else e=.returned (.tuple #[.agg #[.int .i64 0,.slice none 0 0,.slice none 0 0,.int .i64 0,.int .i64 0],.bool false])
theorem jjr (F:Nat->Prop) (A:Option Addr) (n c:Nat) (l:List Int) (w:World) (h:Sl tI64 F w A n c l) (hl:l≠[]) (hn:n<=512) (k:Nat) (hk:k<=63) :
 Calls Tryz.prog 291 #[.slice A n c,.int .i64 (k:Int)] w (jjq l k n w):=by
 have HL:=zH h.len
 have HMIN:=zH (fun o=>yy9 F A n c l (w.alloc o) (h.alloc o) hl)
 obtain⟨b,o,rfl,hblt,hcell⟩:=yya h hl
 have HCELL:=zH hcell;have HBL:=zH hblt
 have HLM:=zH (vvi hl)
 obtain⟨base,hbase⟩:∃ base,base=zzJ l:=⟨_,rfl⟩
 rw [<-hbase] at HMIN HLM
 have HBS:=zH hbase
 obtain⟨rb,hrb⟩:∃ rb,rb=w.heap.size:=⟨_,rfl⟩
 clear h hcell hblt hbase
 go_enter Tryz.func291,Tryz.ntmps291
 go_upto_region 4 with (first
  | (go_at_call 205;refine (HMIN.out _).mono ?_;rintro e w1 ⟨rfl,rfl⟩)
  | fail)
 obtain⟨lb,hlb⟩:∃ lb,lb=w.heap.size+1:=⟨_,rfl⟩
 obtain⟨w1,hw1⟩:∃ w1,w1=w.alloc (.cells #[.int .i64 base,.slice none 0 0,.slice none 0 0,.int .i64 1,.int .i64 1] 328):=⟨_,rfl⟩
 have s1:w1.heap.size=lb:=by rw [hw1,zS,hlb]
 rw [<-hw1,<-hlb,<-hrb]
 obtain⟨w2,hw2⟩:∃ w2,w2=w1.alloc (.cells #[.int .i64 0] 3):=⟨_,rfl⟩
 have hb1:Below w1.heap.size w1 w2:=by rw [hw2];exact (zR).alloc zN _
 have hb0:Below w.heap.size w w1:=by rw [hw1];exact (zR).alloc zN _
 have HP0:=zH (show PcR w rb lb base none 0 0 (((upN l).take 0).map (· % 2 ^ k)) none 0 0 [] (gapW []) (patM []) 0 w2 from
  ⟨by rw [hb1.block rb (by omega),hw1,hrb];exact heap_alloc_new _ _,by rw [hw2,<-s1];exact heap_alloc_new _ _,xxr _ _,⟨⟨[],World.ownsRow_nil _ _ _ _,Reps.nil_⟩,fun _ _ _ h=>h,rfl⟩,by simp,by rw [hrb];exact hb0.trans (hb1.mono (by omega)),by omega⟩)
 rw [<-hw2]
 have HRB:=zH hrb;have HUL:=zH (xxQ l)
 clear hw1 hw2 hb0 hb1 s1 hlb hrb
 go_wp2_with fail
 go_loopw [20] (fun iv wr=>∃ (i:Nat) (Al:Option Addr) (cl:Nat) (Ap:Option Addr) (np cp la:Nat) (ps:List (Nat×Nat)),i<=n/\iv=.int .i64 (i:Int)/\PcR w rb lb base Al i cl (((upN l).take i).map (· % 2 ^ k)) Ap np cp ps (gapW ps) (patM ps) la wr /\
  ps=zzr k 0 0 ((upN l).take i)/\la=yyp k 0 0 ((upN l).take i)/\np<=i+la / 255/\∀ j (hj:j<l.length),j<i->(l[j] - base).toNat<9223372036854775808)
  (fun iv _=>n - (intOf iv).toNat)
 case atStart=>exact⟨0,none,0,none,0,0,0,[],Nat.zero_le _,rfl,HP0.out,rfl,rfl,Nat.zero_le _,fun j _ h=>absurd h (Nat.not_lt_zero j)⟩
 case round =>
  obtain⟨i,Al,cl,Ap,np,cp,la,ps,hi,rfl,hp,hps,hla,hnp,hok⟩:=hrel
  have HP:=zH hp;have HPS:=zH hps;have HLA:=zH hla;have HOK:=zH hok
  clear hp hps hla hok
  by_cases hlt:i<n
  · have hil:i<l.length:=by rw [<-HL.out];exact hlt
    obtain⟨x,hx⟩:∃ x,x=l[i]:=⟨_,rfl⟩
    have hcx:=HCELL.out i hil
    rw [<-hx] at hcx
    obtain⟨cx,x1,x2⟩:=hcx
    have hbx:base<=x:=HLM.out.2 x (by rw [hx];exact List.getElem_mem _)
    obtain⟨jb,hjb,hjb2⟩:=List.getElem_of_mem HLM.out.1
    have hcb:=HCELL.out jb hjb
    rw [hjb2] at hcb
    obtain⟨_,b1,b2⟩:=hcb
    clear hjb2 hjb
    have cx':=zzt (by have:=HP.out.below;rw [HRB.out] at this;exact this) cx
    obtain⟨u,hu⟩:∃ u,u=(x - base).toNat:=⟨_,rfl⟩
    have hgu:gapN base x=u:=by rw [hu];unfold gapN;omega
    have hui:(upN l)[i]'(by rw [xxQ];exact hil)=u:=by rw [hu,hx,HBS.out];simp [upN]
    have htk:(upN l).take (i+1)=(upN l).take i++[u]:=by rw [zT (by rw [xxQ];exact hil),hui]
    have HTK:=zH htk
    have HU:=zH hu;have HX:=zH hx
    have i0:(0:Int)<=(i:Int):=by omega
    have i1:(i:Int)<(n:Int):=by omega
    obtain⟨m0,m1,m2,m3,m4,m5⟩:=HP.out.cells
    by_cases hz:u<9223372036854775808
    · have HV:=zH (show yyP base x=#[.int .u64 (u:Int),.bool false,.bool true] by unfold yyP;rw [hgu,if_pos hz,decide_eq_false (by omega)])
      obtain⟨lo,hlo⟩:∃ lo,lo=u % 2 ^ k:=⟨_,rfl⟩
      have HLO:=zH hlo
      clear hu hx hgu hui htk cx hbx hlo
      go_upto_region 10 with (first
       | (go_at_call 320;refine (yyD base x b1 b2 x1 x2 _).mono ?_;rintro e w3 ⟨rfl,hb3⟩;rw [HV.out];have HP1:=zH (HP.out.keep hb3);clear hb3)
       | fail)
      clear m0 m1 m2 m3 m4 m5 cx'
      obtain⟨m0,m1,m2,m3,m4,m5⟩:=HP1.out.cells
      have f1:=zF HP1.out.run 1
      have HAND:=zH (zqs u k (by omega) hk)
      rw [<-HLO.out] at HAND
      have hB:lb+1<=w3.heap.size:=zzc HP1.out.last
      have ma:∀ o:Obj,(w3.alloc o).cell? ⟨rb,1,none⟩=some (.slice Al i cl):=fun o=>zzt ((zR).alloc zN o) m1
      have hlo64:U64 lo:=by rw [HLO.out];exact Nat.lt_of_le_of_lt (Nat.mod_le _ _) (Nat.lt_trans hz (by decide))
      have HLO64:=zH hlo64
      clear hlo64
      go_cut [] from 36 to 45 (fun wx=>∃ (wd:World) (A6:Option Addr) (c6:Nat),wd=wx/\PcR w rb lb base A6 (i+1) c6 (((upN l).take (i+1)).map (· % 2 ^ k)) Ap np cp ps (gapW ps) (patM ps) la wd)
      case first =>
       go_region_law (first
        | (refine xxa (T:=tU64) uuN w3 w3.drew rfl (.tmp 37) (.tmp 43) rfl (lb+1) Al i cl _ rfl (fun _=>False) (fun _=>False) HP1.out.drew.low (zR) hB _ rfl [.int .u64 (lo:Int)] lo ⟨rfl,HLO64.out⟩ 112 (by rw [HAND.out]) (fun _ _ _ _ h=>h) (by omega) ?_;intro A6 c6 w6 h6
           obtain⟨hr,hl,hpc⟩:=HP1.out.drew.addLow h6
           have HPC:=zH hpc
           have j2:w6.cell? ⟨rb,1,none⟩=some (.slice Al i cl):=(by rw [zC (hr.trans HP1.out.run)];rfl)
           have j3:=zF (hr.trans HP1.out.run) 1
           clear h6 hr hl hpc)
        | fail)
       all_goals
        go_wp2_with fail
        go_meet
        refine⟨_,A6,c6,rfl,?_⟩
        rw [HTK.out,List.map_append,List.map_singleton,<-HLO.out]
        exact HPC.out
      case rest =>
       obtain⟨wx,A6,c6,rfl,hd⟩:=hcut
       have HD:=zH hd
       clear hd ma m0 m1 m2 m3 m4 m5 f1 HP1 HAND HLO64 hB HV
       obtain⟨p,hp⟩:∃ p,p=u / 2 ^ k:=⟨_,rfl⟩
       have zp:(u:Int) / 2 ^ k=(p:Int):=by rw [hp];simp
       have hok2:∀ j (hj:j<l.length),j<i+1->(l[j] - base).toNat<9223372036854775808:=fun j hj hji=>by
        by_cases h:j<i
        · exact HOK.out j hj h
        · obtain rfl:j=i:=by omega
          rw [<-HX.out,<-HU.out];exact hz
       have HOK2:=zH hok2
       have hlen:((upN l).take i).length=i:=by rw [List.length_take,HUL.out,<-HL.out];omega
       have hps2:=xxP k ((upN l).take i) 0 0 u
       have hla2:=vvk k ((upN l).take i) 0 0 u
       rw [hlen,<-HTK.out,<-HPS.out,<-HLA.out,Nat.zero_add] at hps2
       rw [hlen,<-HTK.out,<-HLA.out,Nat.zero_add] at hla2
       have hlai:la<=i:=by rw [HLA.out];have:=vvI k ((upN l).take i) 0 0 zN;omega
       have hlai2:i≠0->la<i:=fun h=>by
        have:=zqr k ((upN l).take i) 0 0 zN (fun e=>by rw [e] at hlen;simp at hlen;omega)
        rw [HLA.out];omega
       rw [<-hp] at hla2
       unfold uua at hps2
       rw [<-hp] at hps2
       have HLAI2:=zH hlai2
       clear hp hok2 hlen hlai2
       refine ‹∀ (a:Act) (w_1:World),Code.wp _ _ _ a w_1->_› _ _ ?_
       by_cases hp0:p=0
       · subst hp0
         rw [if_pos rfl,List.append_nil] at hps2
         rw [if_pos rfl] at hla2
         have HPS2:=zH hps2;have HLA2:=zH hla2
         clear hps2 hla2
         go_wp2_with fail
         go_roundw
         case rel=>exact⟨i+1,A6,c6,Ap,np,cp,la,ps,by omega,by go_num,HD.out,HPS2.out.symm,HLA2.out.symm,by omega,HOK2.out⟩
         case measure=>simp [intOf];omega
       · rw [if_neg hp0] at hps2 hla2
         have zp0:(0:Int)<(p:Int):=by omega
         have zp1:¬ (p:Int)=0:=by omega
         have zp2:((p:Int)==0)=false:=zzA zp1
         have HPS2:=zH hps2;have HLA2:=zH hla2
         have hpu:U64 p:=by
          have:(p:Int)<=(u:Int):=by rw [<-zp];exact Int.ediv_le_self _ (by omega)
          show p<18446744073709551616;omega
         have HPU:=zH hpu
         clear hps2 hla2 hp0 hpu
         go_wp2_with fail
         obtain⟨wo,rfl⟩:∃ wo,wo=wr:=⟨wr,rfl⟩
         go_loopw [50] (fun _ wq=>∃ (j lq nq:Nat) (Aq:Option Addr) (cq:Nat),PcR w rb lb base A6 (i+1) c6 (((upN l).take (i+1)).map (· % 2 ^ k)) Aq nq cq (ps++List.replicate j (255,0)) (gapW (ps++List.replicate j (255,0))) (patM (ps++List.replicate j (255,0))) lq wq/\lq=la+255*j/\nq=np+j/\(j=0∨lq<i))
          (fun _ wq=>i - (intOf ((wq.cell? ⟨lb,0,none⟩).getD undef)).toNat)
         case atStart=>exact⟨0,la,np,Ap,cp,by rw [List.replicate_zero,List.append_nil];exact HD.out,rfl,rfl,.inl rfl⟩
         case round =>
          obtain⟨j,lq,nq,Aq,cq,hq,hlq,hnq,hj⟩:=hrel
          have HQ:=zH hq
          clear hq
          have hlqi:lq<=i:=by omega
          obtain⟨m0,m1,m2,m3,m4,m5⟩:=HQ.out.cells
          obtain⟨qs,hqs⟩:∃ qs,qs=ps++List.replicate j (255,0):=⟨_,rfl⟩
          rw [<-hqs] at HQ
          by_cases hfar:(255:Int)<(i:Int) - (lq:Int)
          · have hj8:j<=512:=by omega
            have HLQ:=zH hlq;have HNQ:=zH hnq;have HJ:=zH hj
            have HQS:=zH (show qs++[(255,0)]=ps++List.replicate (j+1) (255,0) by rw [hqs,List.append_assoc,<-List.replicate_succ'])
            have hlq4:lq<=4096:=by omega
            have hnq4:nq<=4096:=by omega
            clear hlq hnq hj hqs
            go_wp2_with (first
             | (go_at_call 321;refine (jjX w rb lb base A6 (i+1) c6 _ Aq nq cq qs (gapW qs) (patM qs) lq hlq4 hnq4 _ HQ.out).mono ?_;rintro e w7 ⟨rfl,A7,c7,hp7⟩;have HP7:=zH hp7;clear hp7)
             | fail)
            go_roundw
            case rel =>
             have h7:=HP7.out
             rw [<-uub qs (255,0),<-uuc qs (255,0),HQS.out] at h7
             exact⟨j+1,lq+255,nq+1,A7,c7,h7,by have:=HLQ.out;omega,by have:=HNQ.out;omega,.inr (by omega)⟩
            case measure =>
             have h7:=HP7.out.cells.2.2.2.2.2
             have h6:=HQ.out.cells.2.2.2.2.2
             simp only [h7,h6,Option.getD_some,intOf]
             omega
          · obtain⟨gq,hgq⟩:∃ gq,gq=i - lq:=⟨_,rfl⟩
            have zg:(i:Int) - (lq:Int)=(gq:Int):=by omega
            have hjj:(i - la - 1) / 255=j:=by
             by_cases hi0:i=0
             · omega
             · have:=HLAI2.out hi0;omega
            have HFIN:=zH (show qs++[(gq,p)]=zzr k 0 0 ((upN l).take (i+1)) by rw [HPS2.out,hqs,hjj,hgq,hlq,List.append_assoc,Nat.sub_add_eq])
            have hlq4:lq<=4096:=by omega
            have hgq4:gq<=4096:=by omega
            have hnq4:nq<=4096:=by omega
            have hgi:lq+gq=i:=by omega
            have hnqb:nq+1<=i+1+i / 255:=by omega
            have HGI:=zH hgi
            clear hlq hnq hj hqs hgq hjj hgi hlai
            go_upto_region 14 with fail
            have HWG:=zH (show IntKind.i64.wrap (gq:Int)=(gq:Int) by rw [IntKind.wrap_i64];omega)
            go_region_with (first
             | (go_at_call 321;rw [HWG.out];refine (qze w rb lb base A6 (i+1) c6 _ Aq nq cq qs (gapW qs) (patM qs) lq gq p hlq4 hgq4 HPU.out hnq4 _ HQ.out.drew).mono ?_;rintro e w7 ⟨rfl,A7,c7,hp7⟩;have HP7:=zH hp7;clear hp7)
             | fail)
            all_goals
             go_wp2_with fail
             go_roundw
             case rel =>
              have h7:=HP7.out
              rw [<-uub qs (gq,p),<-uuc qs (gq,p),HFIN.out,HGI.out] at h7
              exact⟨i+1,A6,c6,A7,nq+1,c7,i,zzr k 0 0 ((upN l).take (i+1)),by omega,by go_num,h7,rfl,HLA2.out.symm,hnqb,HOK2.out⟩
             case measure=>simp [intOf];omega
    · have HV:=zH (show yyP base x=#[.int .u64 0,.bool false,.bool false] by unfold yyP;rw [hgu,if_neg hz])
      have hbad:(upN l).all (·<9223372036854775808)=false:=by
       refine Bool.eq_false_iff.2 fun h=>hz ?_
       have:=List.all_eq_true.1 h u (by rw [<-hui];exact List.getElem_mem _)
       simpa using this
      have HBAD:=zH hbad
      clear hu hx hgu hui htk cx hbx hbad hz
      go_upto_region 9 with (first
       | (go_at_call 320;refine (yyD base x b1 b2 x1 x2 _).mono ?_;rintro e w3 ⟨rfl,hb3⟩;rw [HV.out];have HP1:=zH (HP.out.keep hb3);clear hb3)
       | fail)
      clear m0 m1 m2 m3 m4 m5 cx'
      obtain⟨m0,m1,m2,m3,m4,m5⟩:=HP1.out.cells
      have f0:=zF HP1.out.run 0
      have f1:=zF HP1.out.run 1
      have f2:=zF HP1.out.run 2
      have f3:=zF HP1.out.run 3
      have f4:=zF HP1.out.run 4
      go_wp2_with fail
      refine bodyPost_ret (zzq rfl _ _ rb 328 #[.int .i64 0,.slice none 0 0,.slice none 0 0,.int .i64 0,.int .i64 0] (0,0) _ rfl (uud HP1.out.run) Tryz.underlying328 rfl (by kernel_rfl)) rfl ?_
      exact⟨by rw [<-HRB.out];exact vvl HP1.out.below,by rw [HBAD.out];exact rfl⟩
  · obtain rfl:n=i:=by omega
    have htn:(upN l).take n=upN l:=zL (by rw [xxQ,<-HL.out];exact Nat.le_refl _)
    have hgood:(upN l).all (·<9223372036854775808)=true:=List.all_eq_true.2 fun u hu=>by
     obtain⟨j,hj,rfl⟩:=List.getElem_of_mem hu
     have hjl:j<l.length:=by rw [xxQ] at hj;exact hj
     have:=HOK.out j hjl (by rw [HL.out];exact hjl)
     simp only [upN,List.getElem_map,decide_eq_true_eq,<-HBS.out]
     exact this
    rw [htn] at HP HPS
    obtain⟨U,hU⟩:∃ U,U=(upN l).map (· % 2 ^ k):=⟨_,rfl⟩
    obtain⟨g,hg⟩:∃ g,g=gapW ps:=⟨_,rfl⟩
    obtain⟨m,hm⟩:∃ m,m=patM ps:=⟨_,rfl⟩
    have hok:=ps_ok HP.out.ps
    rw [<-hU,<-hg,<-hm] at HP
    rw [<-hg,<-hm] at hok
    obtain⟨q,hq⟩:∃ q,q=zzm m:=⟨_,rfl⟩
    have hq64:q<=64:=by rw [hq];exact yyu _
    have hpl:=HP.out.ps.len
    have HPOST:Hid (∀ (e:Ending) (w':World) (Al Ap:Option Addr) (cl np cp:Nat),e=.returned (.tuple #[.agg #[.int .i64 base,.slice Al n cl,.slice Ap np cp,.int .i64 (g:Int),.int .i64 (q:Int)],.bool (decide (np<=31)&&decide (g+q<=64)&&decide (k+q<=64))])->np=ps.length ->
     Below w.heap.size w w'->Sl tU64 (fun _=>True) w' Al n cl U->Sl vv9 (fun _=>True) w' Ap np cp ps->jjq l k n w e w'):=zH fun e w' Al Ap cl np cp he hnp hb h1 h2=>by
     refine⟨hb,?_⟩
     rw [if_pos hgood,<-HPS.out,<-HBS.out,<-hU,vvJ,<-hm,<-hq,<-hg]
     refine⟨Al,cl,Ap,np,cp,?_,h1,h2⟩
     rw [he,yyx,<-hnp,<-hg,vvJ,<-hm,<-hq]
    have HQ:=zH hq;have HPL:=zH hpl
    clear hU hg hm hq hpl htn hgood HOK HPS HLA HP0 HL
    obtain⟨m0,m1,m2,m3,m4,m5⟩:=HP.out.cells
    go_upto_region 17 with (first
     | (go_at_call 283;refine (yyB m hok.2 _).mono ?_;rintro e w3 ⟨rfl,hb3⟩;rw [<-HQ.out];have HP1:=zH (HP.out.keep hb3);clear hb3
        have f4:=zF HP1.out.run 4
        have k4:w3.cell? ⟨rb,4,none⟩=some (.int .i64 (m:Int)):=HP1.out.cells.2.2.2.2.1)
     | fail)
    obtain⟨w4,hw4⟩:∃ w4,w4=w3.setCell ⟨rb,4,none⟩ (.int .i64 (q:Int)):=⟨_,rfl⟩
    have hp4:=HP1.out.setPat q
    rw [<-hw4] at hp4 ⊢
    have HP4:=zH hp4
    clear m0 m1 m2 m3 m4 m5 f4 k4 hw4 hp4 HP1 HP
    obtain⟨m0,m1,m2,m3,m4,m5⟩:=HP4.out.cells
    go_cut [13] from 69 to 87 (fun v wx=>v=.bool (decide (np<=31)&&decide (g+q<=64)&&decide (k+q<=64))/\wx=w4)
    case first =>
     by_cases h1:np<=31
     · have e1:decide ((np:Int)<=31)=true:=decide_eq_true (by omega)
       have d1:decide (np<=31)=true:=decide_eq_true h1
       by_cases h2:g+q<=64
       · have e2:decide ((g:Int)+(q:Int)<=64)=true:=decide_eq_true (by omega)
         have d2:decide (g+q<=64)=true:=decide_eq_true h2
         by_cases h3:k+q<=64
         · have e3:decide ((k:Int)+(q:Int)<=64)=true:=decide_eq_true (by omega)
           have d3:decide (k+q<=64)=true:=decide_eq_true h3
           clear h1 h2 h3
           go_wp2_with fail
           go_meet
           exact⟨by rw [d1,d2,d3];rfl,rfl⟩
         · have e3:decide ((k:Int)+(q:Int)<=64)=false:=decide_eq_false (by omega)
           have d3:decide (k+q<=64)=false:=decide_eq_false h3
           clear h1 h2 h3
           go_wp2_with fail
           go_meet
           exact⟨by rw [d1,d2,d3];rfl,rfl⟩
       · have e2:decide ((g:Int)+(q:Int)<=64)=false:=decide_eq_false (by omega)
         have d2:decide (g+q<=64)=false:=decide_eq_false h2
         clear h1 h2
         go_wp2_with fail
         go_meet
         exact⟨by rw [d1,d2];rfl,rfl⟩
     · have e1:decide ((np:Int)<=31)=false:=decide_eq_false (by omega)
       have d1:decide (np<=31)=false:=decide_eq_false h1
       clear h1
       go_wp2_with fail
       go_meet
       exact⟨by rw [d1];rfl,rfl⟩
    case rest =>
     obtain⟨rfl,hwc⟩:=hcut
     rw [hwc]
     clear hwc
     refine ‹∀ (a:Act) (w_1:World),Code.wp _ _ _ a w_1->_› _ _ ?_
     have f0:=zF HP4.out.run 0
     have f1:=zF HP4.out.run 1
     have f2:=zF HP4.out.run 2
     have f3:=zF HP4.out.run 3
     have f4:=zF HP4.out.run 4
     have HP5:=zH HP4.out.same5
     go_wp2_with fail
     refine bodyPost_ret (zzq rfl _ _ rb 328 #[.int .i64 base,.slice Al n cl,.slice Ap np cp,.int .i64 (g:Int),.int .i64 (q:Int)] (0,0) _ rfl HP5.out.run Tryz.underlying328 rfl (by kernel_rfl)) rfl ?_
     exact HPOST.out _ _ Al Ap cl np cp rfl HPL.out (by rw [<-HRB.out];exact HP5.out.below) HP5.out.low.sl.any HP5.out.ps.sl.any
end
end Go.Proofs.YtpmglcachffojaaGreatDoor
