/- A part of what Indexes leans on. -/
import Derived.Test.YtpmglcachffojaaGreatDoorZ44
set_option maxRecDepth 100000
set_option maxHeartbeats 16000000
namespace Go.Proofs.YtpmglcachffojaaGreatDoor
section
open Go Go.RowKit
theorem strW (w:World):∃ wb,wb=w.alloc (.cells #[.int .i64 0,.slice none 0 0,.slice none 0 0] 97)/\wb.heap[w.heap.size]?=some (.cells #[.int .i64 0,.slice none 0 0,.slice none 0 0] 97 (0,0))/\Below w.heap.size w wb/\wb.heap.size=w.heap.size+1 :=
 ⟨_,rfl,heap_alloc_new w _,(Below.refl _ w).alloc zN _,by simp⟩
theorem vva {W:World} {g:Nat} {v0 v1 v2:Value} (hg:W.heap[g]?=some (.cells #[v0,v1,v2] 97 (0,0))) (tm:Array Value) (h4:tm.getD 4 undef=.pointer (some ⟨g,0,none⟩)) :
 (results Tryz.f76 tm).run Tryz.prog (((W.setCell ⟨g,0,none⟩ v0).setCell ⟨g,1,none⟩ v1).setCell ⟨g,2,none⟩ v2)=.ok (.tuple #[.agg #[v0,v1,v2],tm.getD 5 undef]) (((W.setCell ⟨g,0,none⟩ v0).setCell ⟨g,1,none⟩ v1).setCell ⟨g,2,none⟩ v2) :=
 zzD rfl _ _ g _ _ (0,0) _ h4 (zza (cs':=#[v0,v1,v2]) (zza (cs':=#[v0,v1,v2]) (zza (cs':=#[v0,v1,v2]) hg rfl) rfl) rfl) Tryz.underlying97 rfl (by kernel_rfl)
theorem vvQ {cols:List CC} {f:List Fld} {w W:World} {q:Int} {A1:Option Addr} {n1 c1:Nat} {A2:Option Addr} {n2 c2:Nat} (h:zzy cols f=none) (hb:Below w.heap.size w W):StrPost cols f w (.returned (.tuple #[.agg #[.int .i64 q,.slice A1 n1 c1,.slice A2 n2 c2],.int .i64 2])) (((W.setCell ⟨w.heap.size,0,none⟩ (.int .i64 q)).setCell ⟨w.heap.size,1,none⟩ (.slice A1 n1 c1)).setCell ⟨w.heap.size,2,none⟩ (.slice A2 n2 c2)) :=
 ⟨zzi (zzi (zzi hb zN _) zN _) zN _,.inl ⟨h,q,A1,n1,c1,A2,n2,c2,rfl⟩⟩
theorem yyH {W:World} {g:Nat} {v0 v1 v2 v3 v4 v5 v6 v7 v8 v9:Value} {t:TypeId} (h:W.heap[g]?=some (.cells #[v0,v1,v2,v3,v4,v5,v6,v7,v8,v9] t (0,0))):W.cell? ⟨g,0,none⟩=some v0/\W.cell? ⟨g,1,none⟩=some v1/\W.cell? ⟨g,2,none⟩=some v2/\W.cell? ⟨g,3,none⟩=some v3/\W.cell? ⟨g,4,none⟩=some v4/\W.cell? ⟨g,5,none⟩=some v5/\W.cell? ⟨g,6,none⟩=some v6/\W.cell? ⟨g,7,none⟩=some v7/\W.cell? ⟨g,8,none⟩=some v8/\W.cell? ⟨g,9,none⟩=some v9 :=
 ⟨by rw [zC h];rfl,by rw [zC h];rfl,by rw [zC h];rfl,by rw [zC h];rfl,by rw [zC h];rfl,by rw [zC h];rfl,by rw [zC h];rfl,by rw [zC h];rfl,by rw [zC h];rfl,by rw [zC h];rfl⟩
theorem str3 {W:World} {g:Nat} {v0 v1 v2:Value} {t:TypeId} (h:W.heap[g]?=some (.cells #[v0,v1,v2] t (0,0))):(W.cell? ⟨g,0,none⟩=some v0/\W.frozen? ⟨g,0,none⟩=false)/\(W.cell? ⟨g,1,none⟩=some v1/\W.frozen? ⟨g,1,none⟩=false)/\(W.cell? ⟨g,2,none⟩=some v2/\W.frozen? ⟨g,2,none⟩=false) :=
 ⟨⟨by rw [zC h];rfl,zF h 0⟩,⟨by rw [zC h];rfl,zF h 1⟩,⟨by rw [zC h];rfl,zF h 2⟩⟩
theorem stride_any (F F2:Nat->Prop) (A A2:Option Addr) (n c n2 c2:Nat) (cols:List CC) (fl:List Fld) (w:World) (h:Sl tCol F w A n c cols) (h2:Sl tFld F2 w A2 n2 c2 fl) (hm:fl.length=1+2*cols.length) (hn:n<=40) (hbl:∀ f∈fl,f.b.length<=1000000) (hU:Lib.Utf8Tabs 0 1 w) :
 Calls Tryz.prog 76 #[.slice A n c,.slice A2 n2 c2] w (StrPost cols fl w):=by
 obtain⟨wb,hw,hr,hb,hsz⟩:=strW w
 have HW:=zH hw;have HSZ:=zH hsz;have HR:=zH hr;have HB:=zH hb
 have HH:=zH h;have HL:=zH h.len;have HL2:=zH h2.len;have HM:=zH hm;have HN:=zH hn;have HBL:=zH hbl;have HU:=zH hU
 obtain⟨b,o,Aa,na,ca,hA2,k0,s0,x0⟩:=yym (h2.below hb zN) (k:=0) (by omega)
 subst hA2
 have HH2:=zH h2
 obtain⟨f0,hf0⟩:∃ f,fl[0]'(by omega)=f:=⟨_,rfl⟩
 rw [hf0] at k0 x0
 have HF0:Hid (fl[0]?=some f0):=zH (by rw [List.getElem?_eq_getElem (by omega),hf0])
 obtain⟨t0,i0,y0,bb0⟩:=f0
 dsimp only at k0 x0
 simp only [Nat.zero_mul,Nat.add_zero] at k0
 have X0:=zH x0;have K0:=zH k0
 obtain⟨p0,p1,p2,p3⟩:=k0
 have hn0:(0:Int)<(n2:Int):=by have:=h2.len;omega
 obtain⟨⟨z0,z0'⟩,⟨z1,z1'⟩,⟨z2,z2'⟩⟩:=str3 hr
 clear h h2 hm hn hbl hU hw hsz hr hb hf0 x0 s0
 cases hi0:isN 1 ⟨t0,i0,y0,[]⟩ with
 | false =>
   have HI0:=zH hi0
   have HZ:Hid (zzy cols fl=none):=zH (yyT HF0.out (by unfold jj2;exact (congrArg (·&&_) HI0.out).trans rfl))
   clear hi0
   go_enter Tryz.func76,Tryz.ntmps76
   go_upto_region 1 with fail
   rw [<-HW.out]
   go_wp2_with (first | (go_at_call 70;refine (xx7 _ _ _ _ _ _ _ _ X0.out _ rfl).mono ?_;rintro e w1 ⟨rfl,hb1⟩;rw [HI0.out];have HBW:=zH hb1;have HB1:=zH (HB.out.trans (hb1.mono HB.out.size));have HR1:=zH ((hb1.block _ (zzc HR.out)).trans HR.out);have K1:=zH (K0.out.keep hb1);obtain⟨p0,p1,p2,p3⟩:=K1.out;obtain⟨⟨z0,z0'⟩,⟨z1,z1'⟩,⟨z2,z2'⟩⟩:=str3 HR1.out;clear hb1) | fail)
   exact bodyPost_ret (vva HR1.out _ rfl) rfl (vvQ HZ.out HB1.out)
 | true =>
   have HI0:=zH hi0
   clear hi0
   by_cases hlo:y0<1
   · have hlo':(y0:Int)<1:=by omega
     have HZ:Hid (zzy cols fl=none):=zH (yyT HF0.out (by unfold jj2;rw [decide_eq_false (show ¬ 1<=y0 by omega),Bool.false_and,Bool.and_false]))
     clear hlo
     go_enter Tryz.func76,Tryz.ntmps76
     go_upto_region 1 with fail
     rw [<-HW.out]
     go_wp2_with (first | (go_at_call 70;refine (xx7 _ _ _ _ _ _ _ _ X0.out _ rfl).mono ?_;rintro e w1 ⟨rfl,hb1⟩;rw [HI0.out];have HBW:=zH hb1;have HB1:=zH (HB.out.trans (hb1.mono HB.out.size));have HR1:=zH ((hb1.block _ (zzc HR.out)).trans HR.out);have K1:=zH (K0.out.keep hb1);obtain⟨p0,p1,p2,p3⟩:=K1.out;obtain⟨⟨z0,z0'⟩,⟨z1,z1'⟩,⟨z2,z2'⟩⟩:=str3 HR1.out;clear hb1) | fail)
     exact bodyPost_ret (vva HR1.out _ rfl) rfl (vvQ HZ.out HB1.out)
   · have hlo':¬ (y0:Int)<1:=by omega
     by_cases hhi:8<y0
     · have hhi':(8:Int)<(y0:Int):=by omega
       have HZ:Hid (zzy cols fl=none):=zH (yyT HF0.out (by unfold jj2;rw [decide_eq_false (show ¬ y0<=8 by omega),Bool.and_false,Bool.and_false]))
       clear hhi hlo
       go_enter Tryz.func76,Tryz.ntmps76
       go_upto_region 1 with fail
       rw [<-HW.out]
       go_wp2_with (first | (go_at_call 70;refine (xx7 _ _ _ _ _ _ _ _ X0.out _ rfl).mono ?_;rintro e w1 ⟨rfl,hb1⟩;rw [HI0.out];have HBW:=zH hb1;have HB1:=zH (HB.out.trans (hb1.mono HB.out.size));have HR1:=zH ((hb1.block _ (zzc HR.out)).trans HR.out);have K1:=zH (K0.out.keep hb1);obtain⟨p0,p1,p2,p3⟩:=K1.out;obtain⟨⟨z0,z0'⟩,⟨z1,z1'⟩,⟨z2,z2'⟩⟩:=str3 HR1.out;clear hb1) | fail)
       exact bodyPost_ret (vva HR1.out _ rfl) rfl (vvQ HZ.out HB1.out)
     · have hhi':¬ (8:Int)<(y0:Int):=by omega
       have HOK:Hid (vvP cols fl y0 0 [] []):=zH (kqK HF0.out (by unfold jj2;rw [decide_eq_true (show 1<=y0 by omega),decide_eq_true (show y0<=8 by omega)];exact (Bool.and_true _).trans HI0.out))
       have HY:Hid (1<=y0/\y0<=8):=zH (by omega)
       have hyw:IntKind.i64.wrap (y0:Int)=(y0:Int):=by rw [IntKind.wrap_i64];omega
       clear hhi hlo
       go_enter Tryz.func76,Tryz.ntmps76
       go_upto_region 1 with fail
       rw [<-HW.out]
       go_upto_region 4 with (first | (go_at_call 70;refine (xx7 _ _ _ _ _ _ _ _ X0.out _ rfl).mono ?_;rintro e w1 ⟨rfl,hb1⟩;rw [HI0.out];have HBW:=zH hb1;have HB1:=zH (HB.out.trans (hb1.mono HB.out.size));have HR1:=zH ((hb1.block _ (zzc HR.out)).trans HR.out);have K1:=zH (K0.out.keep hb1);obtain⟨p0,p1,p2,p3⟩:=K1.out;obtain⟨⟨z0,z0'⟩,⟨z1,z1'⟩,⟨z2,z2'⟩⟩:=str3 HR1.out;clear hb1) | fail)
       obtain⟨w3,hw3⟩:∃ w3,w3=w1.setCell ⟨w.heap.size,0,none⟩ (.int .i64 (y0:Int)):=⟨_,rfl⟩
       have HB3:Hid (Below w.heap.size w w3):=zH (by rw [hw3];exact zzi HB1.out zN _)
       have HR3:Hid (w3.heap[w.heap.size]?=some (.cells #[.int .i64 (y0:Int),.slice none 0 0,.slice none 0 0] 97 (0,0))):=zH (by rw [hw3];exact zza HR1.out rfl)
       have HZ3:Hid (w.heap.size+1<=w3.heap.size):=zH (zzc HR3.out)
       rw [<-hw3]
       clear hw3 p0 p1 p2 p3 z0 z1 z2 z0' z1' z2'
       go_wp2_with fail
       go_loopw [40] (fun iv wr=>∃ (i:Nat) (L:List Int) (M:List SS) (A3:Option Addr) (c3:Nat) (A4:Option Addr) (c4:Nat) (col:Nat->Nat) (S:Nat),i<=n/\iv=.int .i64 (i:Int)/\vvP cols fl y0 i L M /\
        PR (w.heap.size+1) (w.heap.size+1) [] L M none 0 0 A3 i c3 A4 i c4 col S w wr /\
        wr.heap[w.heap.size]?=some (.cells #[.int .i64 (y0:Int),.slice A3 i c3,.slice A4 i c4] 97 (0,0))) (fun iv _=>n - (intOf iv).toNat)
       case atStart=>exact⟨0,[],[],none,0,none,0,fun _=>0,w.heap.size+1,Nat.zero_le _,rfl,HOK.out,⟨Col.nil_ _ _ _ _ _ _ _,Col.nil_ _ _ _ _ _ _ _,Col.nil_ _ _ _ _ _ _ _,Nat.le_refl _,HZ3.out,HB3.out,by omega,Nat.le_refl _,Nat.le_refl _⟩,HR3.out⟩
       case round =>
        obtain⟨i,L,M,A3,c3,A4,c4,col,S,hi,rfl,hso,hq,hs⟩:=hrel
        have HSO:=zH hso;have HQ:=zH hq;have HS:=zH hs;have HBR:=zH hq.below
        have HS1:=zH hq.hB;have HS2:=zH hq.hS
        clear hso hq hs
        by_cases hlt:i<n
        · have hil:i<cols.length:=by rw [<-HL.out];exact hlt
          have h2l:2*i+2<fl.length:=by rw [HM.out];omega
          obtain⟨cb,co,cs,rfl,_,_,hrep,hc⟩:=(HH.out.below HBR.out zN).at_ hil (by decide)
          obtain⟨⟨nm,kv⟩,hx⟩:∃ x,x=cols[i]:=⟨_,rfl⟩
          rw [<-hx] at hrep
          obtain⟨rfl,-,-,-⟩:=xxo hrep
          dsimp only at hc
          obtain⟨g0,g1⟩:=uuD hc
          have hfs:=HH2.out.below HBR.out zN
          obtain⟨b',o',A7,n7,c7,e1,k1,s7,x1⟩:=yym hfs (k:=2*i+1) (by omega)
          injection e1 with e1;injection e1 with e1 e1';subst e1 e1'
          obtain⟨b',o',A8,n8,c8,e1,k2,s8,x2⟩:=yym hfs (k:=2*i+2) h2l
          injection e1 with e1;injection e1 with e1 e1';subst e1 e1'
          have hb8:=HBL.out _ (List.getElem_mem h2l)
          obtain⟨fa,hfa⟩:∃ f,fl[2*i+1]'(by omega)=f:=⟨_,rfl⟩
          obtain⟨fb,hfb⟩:∃ f,fl[2*i+2]'h2l=f:=⟨_,rfl⟩
          rw [hfa] at k1 x1;rw [hfb] at k2 s8 x2 hb8
          have HFA:Hid (fl[2*i+1]?=some fa):=zH (by rw [List.getElem?_eq_getElem (by omega),hfa])
          have HFB:Hid (fl[2*i+2]?=some fb):=zH (by rw [List.getElem?_eq_getElem h2l,hfb])
          obtain⟨ta,ia,ya,da⟩:=fa;obtain⟨tb,ib,yb,db⟩:=fb
          dsimp only at k1 k2 s8 x1 x2 hb8
          have HIL:=zH hil;have HX:Hid (cols[i]=(nm,kv)):=zH hx.symm;have K1:=zH k1;have K2:=zH k2;have S8:=zH s8;have XA:=zH x1;have HD8:=zH hb8
          have i0:(0:Int)<=(i:Int):=by omega
          have i1:(i:Int)<(n:Int):=by omega
          have i2:(i:Int)<=40:=by have:=HN.out;omega
          have j1:2*(i:Int)+1<(n2:Int):=by have:=HL2.out;omega
          have j2:2*(i:Int)+2<(n2:Int):=by have:=HL2.out;omega
          have j3:(0:Int)<=2*(i:Int)+1:=by omega
          have j4:(0:Int)<=2*(i:Int)+2:=by omega
          have q1:(2*(i:Int)+1).toNat=2*i+1:=by omega
          have q2:(2*(i:Int)+2).toNat=2*i+2:=by omega
          have m1:IntKind.i64.wrap (2*(i:Int))=2*(i:Int):=by rw [IntKind.wrap_i64];omega
          have m2:IntKind.i64.wrap (2*(i:Int)+1)=2*(i:Int)+1:=by rw [IntKind.wrap_i64];omega
          have m3:IntKind.i64.wrap (2*(i:Int)+2)=2*(i:Int)+2:=by rw [IntKind.wrap_i64];omega
          clear hc hx hrep hfs hfa hfb k1 k2 s7 s8 x1 x2 hb8 h2l hil hlt hi
          go_upto_region 7 with fail
          obtain⟨wq,hwq⟩:∃ wq,wq=wr.alloc (.cells #[.string nm,.int .i64 kv] 93):=⟨_,rfl⟩
          have hbq:Below wr.heap.size wr wq:=by rw [hwq];exact (zR).alloc zN _
          have HBQ:=zH hbq
          have HZQ:Hid (wr.heap.size<wq.heap.size):=zH (by rw [hwq];simp)
          have HKH:Hid (wq.heap[wr.heap.size]?=some (.cells #[.string nm,.int .i64 kv] 93 (0,0))):=zH (by rw [hwq];exact heap_alloc_new wr _)
          have K1q:=zH (K1.out.keep hbq);have K2q:=zH (K2.out.keep hbq)
          rw [<-hwq]
          obtain⟨wl,hwl⟩:∃ wl,wl=wr:=⟨_,rfl⟩
          rw [<-hwl] at HQ HS HBR HS2 HBQ HKH S8 HZQ
          rw [<-hwl]
          clear g0 g1 hwq hbq hwl K1 K2
          go_cut [8,9] from 45 to 56 (fun k1 k2 wx=>∃ (wd:World) (K1 K2:Nat),wd=wx/\k1=.pointer (some ⟨K1,0,none⟩)/\k2=.pointer (some ⟨K2,0,none⟩)/\Hid (TwoF wq K1 K2 ta ia ya A7 n7 c7 tb ib yb A8 n8 c8 wd))
          case first =>
           have e1:wq.cell? ⟨b,o+(2*i+1)*4,none⟩=some (.int .i64 ta)/\wq.cell? ⟨b,o+(2*i+1)*4+1,none⟩=some (.bool ia)/\wq.cell? ⟨b,o+(2*i+1)*4+2,none⟩=some (.int .u64 (ya:Int))/\wq.cell? ⟨b,o+(2*i+1)*4+3,none⟩=some (.slice A7 n7 c7):=⟨K1q.out.c0,K1q.out.c1,K1q.out.c2,K1q.out.c3⟩
           have e2:wq.cell? ⟨b,o+(2*i+2)*4,none⟩=some (.int .i64 tb)/\wq.cell? ⟨b,o+(2*i+2)*4+1,none⟩=some (.bool ib)/\wq.cell? ⟨b,o+(2*i+2)*4+2,none⟩=some (.int .u64 (yb:Int))/\wq.cell? ⟨b,o+(2*i+2)*4+3,none⟩=some (.slice A8 n8 c8):=⟨K2q.out.c0,K2q.out.c1,K2q.out.c2,K2q.out.c3⟩
           refine regL [(none,fun w'=>w'.cell? ⟨b,o+(2*i+1)*4,none⟩=some (.int .i64 ta)/\w'.cell? ⟨b,o+(2*i+1)*4+1,none⟩=some (.bool ia)/\w'.cell? ⟨b,o+(2*i+1)*4+2,none⟩=some (.int .u64 (ya:Int))/\w'.cell? ⟨b,o+(2*i+1)*4+3,none⟩=some (.slice A7 n7 c7)),(none,fun w'=>w'.cell? ⟨b,o+(2*i+2)*4,none⟩=some (.int .i64 tb)/\w'.cell? ⟨b,o+(2*i+2)*4+1,none⟩=some (.bool ib)/\w'.cell? ⟨b,o+(2*i+2)*4+2,none⟩=some (.int .u64 (yb:Int))/\w'.cell? ⟨b,o+(2*i+2)*4+3,none⟩=some (.slice A8 n8 c8))] (by kernel_rfl) ?_ (fun hHeld=>?_)
           · exact⟨(by first | exact e1 | exact⟨zze e1.1 _,zze e1.2.1 _,zze e1.2.2.1 _,zze e1.2.2.2 _⟩ | exact⟨zze (zze e1.1 _) _,zze (zze e1.2.1 _) _,zze (zze e1.2.2.1 _) _,zze (zze e1.2.2.2 _) _⟩ | fail),(by first | exact e2 | exact⟨zze e2.1 _,zze e2.2.1 _,zze e2.2.2.1 _,zze e2.2.2.2 _⟩ | exact⟨zze (zze e2.1 _) _,zze (zze e2.2.1 _) _,zze (zze e2.2.2.1 _) _,zze (zze e2.2.2.2 _) _⟩ | fail),trivial⟩
           iterate 4
            all_goals
             repeat ((first | (refine tkP 0 (oi:=⟨_,_,_,_,_,_⟩) (v:=?_) rfl (by decide +kernel) rfl (fun _ _ _ h=>h) rfl hHeld ?_ ?_) | (refine tkP 1 (oi:=⟨_,_,_,_,_,_⟩) (v:=?_) rfl (by decide +kernel) rfl (fun _ _ _ h=>h) rfl hHeld ?_ ?_) | (refine tkP 2 (oi:=⟨_,_,_,_,_,_⟩) (v:=?_) rfl (by decide +kernel) rfl (fun _ _ _ h=>h) rfl hHeld ?_ ?_) | (refine tkP 3 (oi:=⟨_,_,_,_,_,_⟩) (v:=?_) rfl (by decide +kernel) rfl (fun _ _ _ h=>h) rfl hHeld ?_ ?_) | (refine tkP 4 (oi:=⟨_,_,_,_,_,_⟩) (v:=?_) rfl (by decide +kernel) rfl (fun _ _ _ h=>h) rfl hHeld ?_ ?_) | (refine tkL 5 0 rfl (oi:=⟨_,_,_,_,_,_⟩) (v:=?_) rfl (by decide +kernel) rfl (fun _ _ _ h=>h) rfl hHeld ?_ ?_) | (refine tkP 6 (oi:=⟨_,_,_,_,_,_⟩) (v:=?_) rfl (by decide +kernel) rfl (fun _ _ _ h=>h) rfl hHeld ?_ ?_) | (refine tkP 7 (oi:=⟨_,_,_,_,_,_⟩) (v:=?_) rfl (by decide +kernel) rfl (fun _ _ _ h=>h) rfl hHeld ?_ ?_) | (refine tkP 8 (oi:=⟨_,_,_,_,_,_⟩) (v:=?_) rfl (by decide +kernel) rfl (fun _ _ _ h=>h) rfl hHeld ?_ ?_) | (refine tkP 9 (oi:=⟨_,_,_,_,_,_⟩) (v:=?_) rfl (by decide +kernel) rfl (fun _ _ _ h=>h) rfl hHeld ?_ ?_) | (refine tkP 10 (oi:=⟨_,_,_,_,_,_⟩) (v:=?_) rfl (by decide +kernel) rfl (fun _ _ _ h=>h) rfl hHeld ?_ ?_) | (refine tkL 11 1 rfl (oi:=⟨_,_,_,_,_,_⟩) (v:=?_) rfl (by decide +kernel) rfl (fun _ _ _ h=>h) rfl hHeld ?_ ?_));rotate_left;(focus (intro w;(try intro hSw);(try dsimp only at hSw);go_simp;try with_reducible rfl));intro hHeld;(try simp only [Act.put]);(try simp only [List.setIfInBounds_toArray]);(try simp only [List.set_cons_succ]);(try simp only [List.set_cons_zero]))
             first | (refine rd1 12 (o:=⟨_,_,_,_,_,_⟩) (by decide +kernel) rfl (fun K hK=>?_)) | (refine rd2 12 13 (o:=⟨_,_,_,_,_,_⟩) (o':=⟨_,_,_,_,_,_⟩) (by decide +kernel) rfl rfl (fun K hK=>?_) (fun K hK=>?_)) | (refine rd1 13 (o:=⟨_,_,_,_,_,_⟩) (by decide +kernel) rfl (fun K hK=>?_)) | (refine rd1 14 (o:=⟨_,_,_,_,_,_⟩) (by decide +kernel) rfl (fun K hK=>?_)) | (refine rd1 15 (o:=⟨_,_,_,_,_,_⟩) (by decide +kernel) rfl (fun K hK=>?_))
            all_goals
             first  | (go_simp;(fail)) | go_simp
             refine hK.out _ _ ?_ (fun hHeld=>?_)
             · (try dsimp only);exact⟨(by first | exact e1 | exact⟨zze e1.1 _,zze e1.2.1 _,zze e1.2.2.1 _,zze e1.2.2.2 _⟩ | exact⟨zze (zze e1.1 _) _,zze (zze e1.2.1 _) _,zze (zze e1.2.2.1 _) _,zze (zze e1.2.2.2 _) _⟩ | fail),(by first | exact e2 | exact⟨zze e2.1 _,zze e2.2.1 _,zze e2.2.2.1 _,zze e2.2.2.2 _⟩ | exact⟨zze (zze e2.1 _) _,zze (zze e2.2.1 _) _,zze (zze e2.2.2.1 _) _,zze (zze e2.2.2.2 _) _⟩ | fail),trivial⟩
             clear hK K;(try simp only [Act.put]);(try simp only [List.setIfInBounds_toArray]);(try simp only [List.set_cons_succ]);(try simp only [List.set_cons_zero])
           all_goals
            refine xxI (by decide +kernel) ?_ _
            go_wp2_with fail
            go_meet
            refine⟨_,_,_,rfl,rfl,rfl,zH ⟨?_,?_,by omega,by omega,?_⟩⟩
            · first | exact zzp (by simp) _ | exact zzd (zzp rfl _) _
            · first | exact zzp (by simp) _ | exact zzd (zzp rfl _) _
            · exact (((Below.refl _ wq).alloc zN _).alloc (by simp) _).drew
          case rest =>
           obtain⟨w4,K1,K2,rfl,rfl,rfl,HTF⟩:=hcut
           have hbl4:Below wl.heap.size wl w4:=HBQ.out.trans (HTF.out.below.mono HBQ.out.size)
           have HI4:Hid (StI L M A3 i c3 A4 c4 col S w wl wq (y0:Int) nm kv K1 K2 ta ia ya A7 n7 c7 tb ib yb A8 n8 c8 w4):=zH ⟨HQ.out.call hbl4,(hbl4.block _ (zzc HS.out)).trans HS.out,(HTF.out.below.block _ (zzc HKH.out)).trans HKH.out,HTF.out,hbl4⟩
           obtain⟨⟨⟨z0,z0'⟩,⟨z1,z1'⟩,⟨z2,z2'⟩⟩,⟨a0,a1,a2,a3⟩,⟨b0,b1,b2,b3⟩,kc⟩:=HI4.out.cells
           clear hbl4
           refine ‹∀ (a:Act) (w_1:World),Code.wp _ _ _ a w_1->_› _ _ ?_
           cases hia:isN 2 ⟨ta,ia,ya,[]⟩ with
           | false =>
             have HIA:=zH hia
             have HZ:Hid (zzy cols fl=none):=zH (HSO.out.no HIL.out HX.out HFA.out HFB.out (qzi (by unfold xx8;exact (congrArg (·&&_) HIA.out).trans rfl)))
             clear hia
             go_wp2_with (first | (go_at_call 70;refine (xx7 _ _ _ _ _ _ _ _ XA.out _ rfl).mono ?_;rintro e w5 ⟨rfl,hb5⟩;rw [HIA.out];have HI5:=zH (HI4.out.call hb5);obtain⟨⟨⟨z0,z0'⟩,⟨z1,z1'⟩,⟨z2,z2'⟩⟩,⟨a0,a1,a2,a3⟩,⟨b0,b1,b2,b3⟩,kc⟩:=HI5.out.cells;clear hb5) | fail)
             exact bodyPost_ret (vva HI5.out.g _ rfl) rfl (vvQ HZ.out HI5.out.pr.below)
           | true =>
             have HIA:=zH hia
             clear hia
             by_cases hya:ya<=1048576
             · have hya':¬ (1048576:Int)<(ya:Int):=by omega
               have HYA:Hid (ya<=1048576):=zH hya
               have HOA:Hid (xx8 ⟨ta,ia,ya,da⟩=true):=zH (by unfold xx8;rw [decide_eq_true hya];exact (Bool.and_true _).trans HIA.out)
               clear hya
               cases hib:isB 3 ⟨tb,ib,yb,[]⟩ with
               | false =>
                 have HIB:=zH hib
                 have HZ:Hid (zzy cols fl=none):=zH (HSO.out.no HIL.out HX.out HFA.out HFB.out (cellO_b HIB.out))
                 clear hib
                 go_wp2_with (first | (go_at_call 70;refine (xx7 _ _ _ _ _ _ _ _ XA.out _ rfl).mono ?_;rintro e w5 ⟨rfl,hb5⟩;rw [HIA.out];have HI5:=zH (HI4.out.call hb5);obtain⟨⟨⟨z0,z0'⟩,⟨z1,z1'⟩,⟨z2,z2'⟩⟩,⟨a0,a1,a2,a3⟩,⟨b0,b1,b2,b3⟩,kc⟩:=HI5.out.cells;clear hb5) | (go_at_call 72;refine (isb_any _ _ _ _ _ _ _ _ _ rfl).mono ?_;rintro e w6 ⟨rfl,hb6⟩;rw [HIB.out];have HI6:=zH (HI5.out.call hb6);obtain⟨⟨⟨z0,z0'⟩,⟨z1,z1'⟩,⟨z2,z2'⟩⟩,⟨a0,a1,a2,a3⟩,⟨b0,b1,b2,b3⟩,kc⟩:=HI6.out.cells;clear hb6) | fail)
                 exact bodyPost_ret (vva HI6.out.g _ rfl) rfl (vvQ HZ.out HI6.out.pr.below)
               | true =>
                 have HIB:=zH hib
                 clear hib
                 obtain⟨T,hT⟩:∃ T,zzj kv db=T:=⟨_,rfl⟩
                 obtain⟨z,hz⟩:∃ z,tsV T=z:=⟨_,rfl⟩
                 obtain⟨ct,bh,⟨m0,mi,ms⟩,⟨x0,xi,xs⟩,sm,bo⟩:=z
                 obtain⟨ee,hee⟩:∃ ee,ee=okc T.isSome 2:=⟨_,rfl⟩
                 have HT:=zH hT
                 have HTS:Hid (∀ W,Below wl.heap.size wl W->Calls Tryz.prog 134 #[.int .i64 kv,.slice A8 n8 c8] W fun e w'=>e=.returned (.tuple #[.agg #[.int .i64 ct,.bool bh,.bool m0,.int .i64 mi,.string ms,.bool x0,.int .i64 xi,.string xs,.int .i64 sm,.bool bo],.int .i64 ee])/\Below W.heap.size W w'):=zH (fun W hb=>by
                  have h1:=qzj kv F2 A8 n8 c8 db W (S8.out.below hb zN) (by rw [S8.out.len];exact HD8.out) (zzb HU.out (HBR.out.trans (hb.mono HBR.out.size)))
                  unfold jj1 at h1
                  rw [hT,hz,<-hee] at h1
                  exact h1)
                 have HFT:Hid (SS.fit ⟨ct,bh,⟨m0,mi,ms⟩,⟨x0,xi,xs⟩,sm,bo⟩):=zH (by rw [<-hz,<-hT];exact tsV_fit HD8.out)
                 go_upto_region 11 with (first | (go_at_call 70;refine (xx7 _ _ _ _ _ _ _ _ XA.out _ rfl).mono ?_;rintro e w5 ⟨rfl,hb5⟩;rw [HIA.out];have HI5:=zH (HI4.out.call hb5);obtain⟨⟨⟨z0,z0'⟩,⟨z1,z1'⟩,⟨z2,z2'⟩⟩,⟨a0,a1,a2,a3⟩,⟨b0,b1,b2,b3⟩,kc⟩:=HI5.out.cells;clear hb5) | (go_at_call 72;refine (isb_any _ _ _ _ _ _ _ _ _ rfl).mono ?_;rintro e w6 ⟨rfl,hb6⟩;rw [HIB.out];have HI6:=zH (HI5.out.call hb6);obtain⟨⟨⟨z0,z0'⟩,⟨z1,z1'⟩,⟨z2,z2'⟩⟩,⟨a0,a1,a2,a3⟩,⟨b0,b1,b2,b3⟩,kc⟩:=HI6.out.cells;clear hb6) | (go_at_call 134;refine (HTS.out w6 HI6.out.lb).mono ?_;rintro e w7 ⟨rfl,hb7⟩;have HI7:=zH (HI6.out.call hb7);clear hb7) | fail)
                 obtain⟨w8,hw8⟩:∃ w8,w8=w7.alloc (.cells #[.int .i64 ct,.bool bh,.bool m0,.int .i64 mi,.string ms,.bool x0,.int .i64 xi,.string xs,.int .i64 sm,.bool bo] 109):=⟨_,rfl⟩
                 have HI8:=zH (HI7.out.call (W':=w8) (by rw [hw8];exact (zR).alloc zN _))
                 have HD:Hid (w8.heap[w7.heap.size]?=some (.cells #[.int .i64 ct,.bool bh,.bool m0,.int .i64 mi,.string ms,.bool x0,.int .i64 xi,.string xs,.int .i64 sm,.bool bo] 109 (0,0))):=zH (by rw [hw8];exact heap_alloc_new w7 _)
                 have HDS:Hid (S<=w7.heap.size):=zH HI7.out.pr.hS
                 rw [<-hw8]
                 obtain⟨⟨⟨z0,z0'⟩,⟨z1,z1'⟩,⟨z2,z2'⟩⟩,⟨a0,a1,a2,a3⟩,⟨b0,b1,b2,b3⟩,kc⟩:=HI8.out.cells
                 obtain⟨s0,s1,s2,s3,s4,s5,s6',s7,s8,s9⟩:=StC.of HD.out
                 clear hw8
                 obtain⟨bad,hbad⟩:∃ q,q = !(T.isSome&&yy2 y0 ⟨ct,bh,⟨m0,mi,ms⟩,⟨x0,xi,xs⟩,sm,bo⟩):=⟨_,rfl⟩
                 have HNO:Hid (bad=true->xxH kv y0 ⟨ta,ia,ya,da⟩ ⟨tb,ib,yb,db⟩=none):=zH (fun hb=>by
                  cases T with
                  | none=>exact cellO_t HT.out
                  | some s =>
                    have hz:s=⟨ct,bh,⟨m0,mi,ms⟩,⟨x0,xi,xs⟩,sm,bo⟩:=hz
                    rw [<-hz] at hbad
                    refine cellO_s HT.out ?_
                    rw [hbad] at hb
                    cases h:yy2 y0 s with
                    | true=>rw [h] at hb;cases hb
                    | false=>rfl)
                 have HYES:Hid (bad=false->xxH kv y0 ⟨ta,ia,ya,da⟩ ⟨tb,ib,yb,db⟩=some ((ya:Int),⟨ct,bh,⟨m0,mi,ms⟩,⟨x0,xi,xs⟩,sm,bo⟩)):=zH (fun hb=>by
                  cases T with
                  | none=>rw [hbad] at hb;cases hb
                  | some s =>
                    have hz:s=⟨ct,bh,⟨m0,mi,ms⟩,⟨x0,xi,xs⟩,sm,bo⟩:=hz
                    rw [<-hz] at hbad ⊢
                    refine xqf HOA.out HIB.out HT.out ?_
                    rw [hbad] at hb
                    cases h:yy2 y0 s with
                    | true=>rfl
                    | false=>rw [h] at hb;cases hb)
                 have HBAD:=zH hbad
                 have HEE:=zH hee
                 clear hT hz hee hbad
                 go_cut [97] from 79 to 97 (fun v wx=>v=.bool bad/\wx=w8)
                 case first =>
                  cases T with
                  | none =>
                    obtain rfl:ee=2:=by rw [HEE.out];rfl
                    obtain rfl:bad=true:=by rw [HBAD.out];rfl
                    go_wp2_with fail
                    go_meet
                    exact⟨rfl,rfl⟩
                  | some s =>
                    obtain rfl:ee=0:=by rw [HEE.out];rfl
                    by_cases hct:(y0:Int)<ct
                    · obtain rfl:bad=true:=by rw [HBAD.out];unfold yy2;dsimp only;rw [decide_eq_false (show ¬ ct<=(y0:Int) by omega)];rfl
                      go_wp2_with fail
                      go_meet
                      exact⟨rfl,rfl⟩
                    · by_cases hlc:ct<(y0:Int)
                      · obtain rfl:bad = !bh:=by rw [HBAD.out];unfold yy2;dsimp only;rw [decide_eq_true (show ct<=(y0:Int) by omega),decide_eq_true hlc];cases bh <;> rfl
                        cases bh with
                        | true =>
                          go_wp2_with fail
                          go_meet
                          exact⟨rfl,rfl⟩
                        | false =>
                          go_wp2_with fail
                          go_meet
                          exact⟨rfl,rfl⟩
                      · obtain rfl:bad=bh:=by rw [HBAD.out];unfold yy2;dsimp only;rw [decide_eq_true (show ct<=(y0:Int) by omega),decide_eq_false hlc];cases bh <;> rfl
                        cases bad with
                        | true =>
                          go_wp2_with fail
                          go_meet
                          exact⟨rfl,rfl⟩
                        | false =>
                          go_wp2_with fail
                          go_meet
                          exact⟨rfl,rfl⟩
                 case rest =>
                  obtain⟨rfl,hwc⟩:=hcut
                  rw [hwc]
                  clear hwc
                  refine ‹∀ (a:Act) (w_1:World),Code.wp _ _ _ a w_1->_› _ _ ?_
                  cases bad with
                  | true =>
                    have HZ:Hid (zzy cols fl=none):=zH (HSO.out.no HIL.out HX.out HFA.out HFB.out (HNO.out rfl))
                    go_wp2_with fail
                    exact bodyPost_ret (vva HI8.out.g _ rfl) rfl (vvQ HZ.out HI8.out.pr.below)
                  | false =>
                    have HSO2:Hid (vvP cols fl y0 (i+1) (L++[(ya:Int)]) (M++[⟨ct,bh,⟨m0,mi,ms⟩,⟨x0,xi,xs⟩,sm,bo⟩])):=zH (HSO.out.yes HIL.out HX.out HFA.out HFB.out (HYES.out rfl))
                    have hwa:IntKind.i64.wrap (ya:Int)=(ya:Int):=by have:=HYA.out;rw [IntKind.wrap_i64];omega
                    have HK1S:Hid (S<=K1):=zH (by have h1:=HI8.out.two.h1;have h2:=HZQ.out;have h3:=HS2.out;omega)
                    have HG:=zH HI8.out.g;have HA:=zH HI8.out.two.a;have HS8:=zH HI8.out.pr.hS
                    go_upto_region 13 with fail
                    refine regL [(some 6,fun w'=>w'.cell? ⟨w.heap.size,1,none⟩=some (.slice A3 i c3)),(some 11,fun w'=>w'.cell? ⟨w.heap.size,2,none⟩=some (.slice A4 i c4)),(none,fun w'=>w'.cell? ⟨K1,2,none⟩=some (.int .u64 (ya:Int))),(none,fun w'=>w'.cell? ⟨w7.heap.size,0,none⟩=some (.int .i64 ct)/\w'.cell? ⟨w7.heap.size,1,none⟩=some (.bool bh)/\w'.cell? ⟨w7.heap.size,2,none⟩=some (.bool m0)/\w'.cell? ⟨w7.heap.size,3,none⟩=some (.int .i64 mi)/\w'.cell? ⟨w7.heap.size,4,none⟩=some (.string ms)/\w'.cell? ⟨w7.heap.size,5,none⟩=some (.bool x0)/\w'.cell? ⟨w7.heap.size,6,none⟩=some (.int .i64 xi)/\w'.cell? ⟨w7.heap.size,7,none⟩=some (.string xs)/\w'.cell? ⟨w7.heap.size,8,none⟩=some (.int .i64 sm)/\w'.cell? ⟨w7.heap.size,9,none⟩=some (.bool bo))] (by kernel_rfl) ?_ (fun hHeld=>?_)
                    · exact⟨fun h=>(by first | exact gone (c:=6) (by decide +kernel) h | exact (str3 HG.out).2.1.1 | exact (str3 (zzd HG.out _)).2.1.1 | exact (str3 (zzd (zzd HG.out _) _)).2.1.1 | fail),fun h=>(by first | exact gone (c:=11) (by decide +kernel) h | exact (str3 HG.out).2.2.1 | exact (str3 (zzd HG.out _)).2.2.1 | exact (str3 (zzd (zzd HG.out _) _)).2.2.1 | exact (str3 HG9.out).2.2.1 | exact (str3 (zzd HG9.out _)).2.2.1 | fail),(by first | exact (zzs HA.out).2.2.1.1 | exact (zzs (zzd HA.out _)).2.2.1.1 | exact (zzs (zzd (zzd HA.out _) _)).2.2.1.1 | exact (zzs HA9.out).2.2.1.1 | exact (zzs (zzd HA9.out _)).2.2.1.1 | exact (zzs HA11.out).2.2.1.1 | exact (zzs (zzf HA11.out (by have h1:=HK1S.out;have h2:=HI8.out.pr.hB;omega))).2.2.1.1 | exact (zzs (zzf (zzf HA11.out (by have h1:=HK1S.out;have h2:=HI8.out.pr.hB;omega)) (by have h1:=HK1S.out;have h2:=HI8.out.pr.hB;omega))).2.2.1.1 | fail),(by first | exact yyH HD.out | exact yyH (zzd HD.out _) | exact yyH (zzd (zzd HD.out _) _) | exact yyH HD9.out | exact yyH (zzd HD9.out _) | exact yyH HD11.out | exact yyH (zzf HD11.out (by have h1:=HDS.out;have h2:=HI8.out.pr.hB;omega)) | exact yyH (zzf (zzf HD11.out (by have h1:=HDS.out;have h2:=HI8.out.pr.hB;omega)) (by have h1:=HDS.out;have h2:=HI8.out.pr.hB;omega)) | fail),trivial⟩
                    iterate 6
                     all_goals
                      repeat ((first | (refine tkP 0 (oi:=⟨_,_,_,_,_,_⟩) (v:=?_) rfl (by decide +kernel) rfl (fun _ _ _ h=>h) rfl hHeld ?_ ?_) | (refine tkL 1 0 rfl (oi:=⟨_,_,_,_,_,_⟩) (v:=?_) rfl (by decide +kernel) rfl (fun _ _ _ h=>h) rfl hHeld ?_ ?_) | (refine tkP 2 (oi:=⟨_,_,_,_,_,_⟩) (v:=?_) rfl (by decide +kernel) rfl (fun _ _ _ h=>h) rfl hHeld ?_ ?_) | (refine tkL 3 2 rfl (oi:=⟨_,_,_,_,_,_⟩) (v:=?_) rfl (by decide +kernel) rfl (fun _ _ _ h=>h) rfl hHeld ?_ ?_) | (refine tkP 4 (oi:=⟨_,_,_,_,_,_⟩) (v:=?_) rfl (by decide +kernel) rfl (fun _ _ _ h=>h) rfl hHeld ?_ ?_) | (refine tkP 7 (oi:=⟨_,_,_,_,_,_⟩) (v:=?_) rfl (by decide +kernel) rfl (fun _ _ _ h=>h) rfl hHeld ?_ ?_) | (refine tkL 8 1 rfl (oi:=⟨_,_,_,_,_,_⟩) (v:=?_) rfl (by decide +kernel) rfl (fun _ _ _ h=>h) rfl hHeld ?_ ?_) | (refine tkL 9 3 rfl (oi:=⟨_,_,_,_,_,_⟩) (v:=?_) rfl (by decide +kernel) rfl (fun _ _ _ h=>h) rfl hHeld ?_ ?_) | (refine tkP 12 (oi:=⟨_,_,_,_,_,_⟩) (v:=?_) rfl (by decide +kernel) rfl (fun _ _ _ h=>h) rfl hHeld ?_ ?_) | (refine tkP 14 (oi:=⟨_,_,_,_,_,_⟩) (v:=?_) rfl (by decide +kernel) rfl (fun _ _ _ h=>h) rfl hHeld ?_ ?_));rotate_left;(focus (intro w;(try intro hSw);(try dsimp only at hSw);go_simp;try with_reducible rfl));intro hHeld;(try simp only [Act.put]);(try simp only [List.setIfInBounds_toArray]);(try simp only [List.set_cons_succ]);(try simp only [List.set_cons_zero]))
                      first | (refine rd1 5 (o:=⟨_,_,_,_,_,_⟩) (by decide +kernel) rfl (fun K hK=>?_)) | (refine rd2 5 10 (o:=⟨_,_,_,_,_,_⟩) (o':=⟨_,_,_,_,_,_⟩) (by decide +kernel) rfl rfl (fun K hK=>?_) (fun K hK=>?_)) | (refine rd1 6 (o:=⟨_,_,_,_,_,_⟩) (by decide +kernel) rfl (fun K hK=>?_)) | (refine rd2 6 10 (o:=⟨_,_,_,_,_,_⟩) (o':=⟨_,_,_,_,_,_⟩) (by decide +kernel) rfl rfl (fun K hK=>?_) (fun K hK=>?_)) | (refine rd1 10 (o:=⟨_,_,_,_,_,_⟩) (by decide +kernel) rfl (fun K hK=>?_)) | (refine rd1 11 (o:=⟨_,_,_,_,_,_⟩) (by decide +kernel) rfl (fun K hK=>?_)) | (refine rd1 13 (o:=⟨_,_,_,_,_,_⟩) (by decide +kernel) rfl (fun K hK=>?_)) | (refine rd1 15 (o:=⟨_,_,_,_,_,_⟩) (by decide +kernel) rfl (fun K hK=>?_))
                     all_goals
                      first | (refine atD 105 rfl ?_;have hbw:Below w8.heap.size w8 (w8.alloc (.cells #[.int .i64 (ya:Int)] 3)).drew:=((Below.refl _ w8).alloc zN _).drew;refine uui (W:=(w8.alloc (.cells #[.int .i64 (ya:Int)] 3)).drew) (k:=w8.heap.size) (y:=(ya:Int)) (HI8.out.pr.call hbw) (zzp rfl _) (by have:=HYA.out;unfold i64;omega) (by have:=HN.out;omega) rfl (.tmp 100) (.tmp 104) rfl (by rfl) (by rfl) ?_;intro A9 c9 w9 hq9 hp9 hs9;have hl9:∀ k o,w8.heap[k]?=some o->(k<w.heap.size+1∨S<=k)->w9.heap[k]?=some o:=(fun k o hk hr=>(hp9 k (Nat.lt_of_lt_of_le (zzc hk) hbw.size) (hr.elim .inl (fun h=>.inr (.inl h)))).trans ((hbw.block k (zzc hk)).trans hk));have HG9:=zH (hl9 _ _ HG.out (.inl (Nat.lt_succ_self _)));have HA9:=zH (hl9 _ _ HA.out (.inr HK1S.out));have HD9:=zH (hl9 _ _ HD.out (.inr HDS.out));have HQ9:=zH hq9;clear hbw hl9 hp9 hq9 hs9) | (refine atD 105 rfl ?_;have hbw:Below w8.heap.size w8 ((w8.alloc (.cells #[.int .i64 (ya:Int)] 3)).alloc (.cells #[.int .i64 ct,.bool bh,.bool m0,.int .i64 mi,.string ms,.bool x0,.int .i64 xi,.string xs,.int .i64 sm,.bool bo] 109)).drew:=(((Below.refl _ w8).alloc zN _).alloc (by simp) _).drew;refine uui (W:=((w8.alloc (.cells #[.int .i64 (ya:Int)] 3)).alloc (.cells #[.int .i64 ct,.bool bh,.bool m0,.int .i64 mi,.string ms,.bool x0,.int .i64 xi,.string xs,.int .i64 sm,.bool bo] 109)).drew) (k:=w8.heap.size) (y:=(ya:Int)) (HI8.out.pr.call hbw) (zzd (zzp rfl _) _) (by have:=HYA.out;unfold i64;omega) (by have:=HN.out;omega) rfl (.tmp 100) (.tmp 104) rfl (by rfl) (by rfl) ?_;intro A9 c9 w9 hq9 hp9 hs9;have hl9:∀ k o,w8.heap[k]?=some o->(k<w.heap.size+1∨S<=k)->w9.heap[k]?=some o:=(fun k o hk hr=>(hp9 k (Nat.lt_of_lt_of_le (zzc hk) hbw.size) (hr.elim .inl (fun h=>.inr (.inl h)))).trans ((hbw.block k (zzc hk)).trans hk));have HG9:=zH (hl9 _ _ HG.out (.inl (Nat.lt_succ_self _)));have HA9:=zH (hl9 _ _ HA.out (.inr HK1S.out));have HD9:=zH (hl9 _ _ HD.out (.inr HDS.out));have ho9:(((w8.alloc (.cells #[.int .i64 (ya:Int)] 3)).alloc (.cells #[.int .i64 ct,.bool bh,.bool m0,.int .i64 mi,.string ms,.bool x0,.int .i64 xi,.string xs,.int .i64 sm,.bool bo] 109)).drew:World).heap[w8.heap.size+1]?=some (.cells #[.int .i64 ct,.bool bh,.bool m0,.int .i64 mi,.string ms,.bool x0,.int .i64 xi,.string xs,.int .i64 sm,.bool bo] 109):=zzp (by simp) _;have HS9:=zH ((hp9 _ (zzc ho9) (.inr (.inl (by have:=HS8.out;omega)))).trans ho9);clear ho9;have HQ9:=zH hq9;clear hbw hl9 hp9 hq9 hs9) | (refine atD 105 rfl ?_;have hbw:Below w8.heap.size w8 ((w8.alloc (.cells #[.int .i64 ct,.bool bh,.bool m0,.int .i64 mi,.string ms,.bool x0,.int .i64 xi,.string xs,.int .i64 sm,.bool bo] 109)).alloc (.cells #[.int .i64 (ya:Int)] 3)).drew:=(((Below.refl _ w8).alloc zN _).alloc (by simp) _).drew;refine uui (W:=((w8.alloc (.cells #[.int .i64 ct,.bool bh,.bool m0,.int .i64 mi,.string ms,.bool x0,.int .i64 xi,.string xs,.int .i64 sm,.bool bo] 109)).alloc (.cells #[.int .i64 (ya:Int)] 3)).drew) (k:=w8.heap.size+1) (y:=(ya:Int)) (HI8.out.pr.call hbw) (zzp (by simp) _) (by have:=HYA.out;unfold i64;omega) (by have:=HN.out;omega) rfl (.tmp 100) (.tmp 104) rfl (by rfl) (by rfl) ?_;intro A9 c9 w9 hq9 hp9 hs9;have hl9:∀ k o,w8.heap[k]?=some o->(k<w.heap.size+1∨S<=k)->w9.heap[k]?=some o:=(fun k o hk hr=>(hp9 k (Nat.lt_of_lt_of_le (zzc hk) hbw.size) (hr.elim .inl (fun h=>.inr (.inl h)))).trans ((hbw.block k (zzc hk)).trans hk));have HG9:=zH (hl9 _ _ HG.out (.inl (Nat.lt_succ_self _)));have HA9:=zH (hl9 _ _ HA.out (.inr HK1S.out));have HD9:=zH (hl9 _ _ HD.out (.inr HDS.out));have ho9:(((w8.alloc (.cells #[.int .i64 ct,.bool bh,.bool m0,.int .i64 mi,.string ms,.bool x0,.int .i64 xi,.string xs,.int .i64 sm,.bool bo] 109)).alloc (.cells #[.int .i64 (ya:Int)] 3)).drew:World).heap[w8.heap.size]?=some (.cells #[.int .i64 ct,.bool bh,.bool m0,.int .i64 mi,.string ms,.bool x0,.int .i64 xi,.string xs,.int .i64 sm,.bool bo] 109):=zzd (zzp rfl _) _;have HS9:=zH ((hp9 _ (zzc ho9) (.inr (.inl (by have:=HS8.out;omega)))).trans ho9);clear ho9;have HQ9:=zH hq9;clear hbw hl9 hp9 hq9 hs9) | (refine atD 110 rfl ?_;have hbw:Below w9.heap.size w9 (w9.alloc (.cells #[.int .i64 ct,.bool bh,.bool m0,.int .i64 mi,.string ms,.bool x0,.int .i64 xi,.string xs,.int .i64 sm,.bool bo] 109)):=(Below.refl _ w9).alloc zN _;refine uuj (W:=(w9.alloc (.cells #[.int .i64 ct,.bool bh,.bool m0,.int .i64 mi,.string ms,.bool x0,.int .i64 xi,.string xs,.int .i64 sm,.bool bo] 109))) (k:=w9.heap.size) (y:=⟨ct,bh,⟨m0,mi,ms⟩,⟨x0,xi,xs⟩,sm,bo⟩) (HQ9.out.call hbw) (zzp rfl _) HFT.out (by have:=HN.out;omega) rfl (.tmp 107) (.tmp 109) rfl (by rfl) (by rfl) ?_;intro A11 c11 w11 hq11 hp11 hs11;have hl11:∀ k o,w9.heap[k]?=some o->(k<w.heap.size+1∨S<=k)->w11.heap[k]?=some o:=(fun k o hk hr=>(hp11 k (Nat.lt_of_lt_of_le (zzc hk) hbw.size) (hr.elim .inl (fun h=>.inr (.inr (by rw [yyp _ _ _ _ h];decide))))).trans ((hbw.block k (zzc hk)).trans hk));have HG11:=zH (hl11 _ _ HG9.out (.inl (Nat.lt_succ_self _)));have HA11:=zH (hl11 _ _ HA9.out (.inr HK1S.out));have HD11:=zH (hl11 _ _ HD9.out (.inr HDS.out));have HQ11:=zH hq11;obtain⟨⟨y0',y0''⟩,⟨y1',y1''⟩,⟨y2',y2''⟩⟩:=str3 HG11.out;clear hbw hl11 hp11 hq11 hs11) | (refine atD 110 rfl ?_;have hbw:Below w9.heap.size w9 w9:=zR;refine uuj (W:=w9) (k:=w8.heap.size+1) (y:=⟨ct,bh,⟨m0,mi,ms⟩,⟨x0,xi,xs⟩,sm,bo⟩) (HQ9.out.call hbw) HS9.out HFT.out (by have:=HN.out;omega) rfl (.tmp 107) (.tmp 109) rfl (by rfl) (by rfl) ?_;intro A11 c11 w11 hq11 hp11 hs11;have hl11:∀ k o,w9.heap[k]?=some o->(k<w.heap.size+1∨S<=k)->w11.heap[k]?=some o:=(fun k o hk hr=>(hp11 k (Nat.lt_of_lt_of_le (zzc hk) hbw.size) (hr.elim .inl (fun h=>.inr (.inr (by rw [yyp _ _ _ _ h];decide))))).trans ((hbw.block k (zzc hk)).trans hk));have HG11:=zH (hl11 _ _ HG9.out (.inl (Nat.lt_succ_self _)));have HA11:=zH (hl11 _ _ HA9.out (.inr HK1S.out));have HD11:=zH (hl11 _ _ HD9.out (.inr HDS.out));have HQ11:=zH hq11;obtain⟨⟨y0',y0''⟩,⟨y1',y1''⟩,⟨y2',y2''⟩⟩:=str3 HG11.out;clear hbw hl11 hp11 hq11 hs11) | (refine atD 110 rfl ?_;have hbw:Below w9.heap.size w9 w9:=zR;refine uuj (W:=w9) (k:=w8.heap.size) (y:=⟨ct,bh,⟨m0,mi,ms⟩,⟨x0,xi,xs⟩,sm,bo⟩) (HQ9.out.call hbw) HS9.out HFT.out (by have:=HN.out;omega) rfl (.tmp 107) (.tmp 109) rfl (by rfl) (by rfl) ?_;intro A11 c11 w11 hq11 hp11 hs11;have hl11:∀ k o,w9.heap[k]?=some o->(k<w.heap.size+1∨S<=k)->w11.heap[k]?=some o:=(fun k o hk hr=>(hp11 k (Nat.lt_of_lt_of_le (zzc hk) hbw.size) (hr.elim .inl (fun h=>.inr (.inr (by rw [yyp _ _ _ _ h];decide))))).trans ((hbw.block k (zzc hk)).trans hk));have HG11:=zH (hl11 _ _ HG9.out (.inl (Nat.lt_succ_self _)));have HA11:=zH (hl11 _ _ HA9.out (.inr HK1S.out));have HD11:=zH (hl11 _ _ HD9.out (.inr HDS.out));have HQ11:=zH hq11;obtain⟨⟨y0',y0''⟩,⟨y1',y1''⟩,⟨y2',y2''⟩⟩:=str3 HG11.out;clear hbw hl11 hp11 hq11 hs11) | (go_simp;(fail)) | go_simp
                      refine hK.out _ _ ?_ (fun hHeld=>?_)
                      · (try dsimp only);exact⟨fun h=>(by first | exact gone (c:=6) (by decide +kernel) h | exact (str3 HG.out).2.1.1 | exact (str3 (zzd HG.out _)).2.1.1 | exact (str3 (zzd (zzd HG.out _) _)).2.1.1 | fail),fun h=>(by first | exact gone (c:=11) (by decide +kernel) h | exact (str3 HG.out).2.2.1 | exact (str3 (zzd HG.out _)).2.2.1 | exact (str3 (zzd (zzd HG.out _) _)).2.2.1 | exact (str3 HG9.out).2.2.1 | exact (str3 (zzd HG9.out _)).2.2.1 | fail),(by first | exact (zzs HA.out).2.2.1.1 | exact (zzs (zzd HA.out _)).2.2.1.1 | exact (zzs (zzd (zzd HA.out _) _)).2.2.1.1 | exact (zzs HA9.out).2.2.1.1 | exact (zzs (zzd HA9.out _)).2.2.1.1 | exact (zzs HA11.out).2.2.1.1 | exact (zzs (zzf HA11.out (by have h1:=HK1S.out;have h2:=HI8.out.pr.hB;omega))).2.2.1.1 | exact (zzs (zzf (zzf HA11.out (by have h1:=HK1S.out;have h2:=HI8.out.pr.hB;omega)) (by have h1:=HK1S.out;have h2:=HI8.out.pr.hB;omega))).2.2.1.1 | fail),(by first | exact yyH HD.out | exact yyH (zzd HD.out _) | exact yyH (zzd (zzd HD.out _) _) | exact yyH HD9.out | exact yyH (zzd HD9.out _) | exact yyH HD11.out | exact yyH (zzf HD11.out (by have h1:=HDS.out;have h2:=HI8.out.pr.hB;omega)) | exact yyH (zzf (zzf HD11.out (by have h1:=HDS.out;have h2:=HI8.out.pr.hB;omega)) (by have h1:=HDS.out;have h2:=HI8.out.pr.hB;omega)) | fail),trivial⟩
                      clear hK K;(try simp only [Act.put]);(try simp only [List.setIfInBounds_toArray]);(try simp only [List.set_cons_succ]);(try simp only [List.set_cons_zero])
                    all_goals
                     refine xxI (by decide +kernel) ?_ _
                     go_wp2_with fail
                     go_roundw
                     case rel =>
                      exact⟨i+1,L++[(ya:Int)],M++[⟨ct,bh,⟨m0,mi,ms⟩,⟨x0,xi,xs⟩,sm,bo⟩],A9,c9,A11,c11,_,_,by omega,by go_num,HSO2.out,(HQ11.out.setP (Nat.lt_succ_self _) zN _).setP (Nat.lt_succ_self _) zN _,zza (zza HG11.out rfl) rfl⟩
                     case measure=>simp [intOf];omega
             · have hya':(1048576:Int)<(ya:Int):=by omega
               have HZ:Hid (zzy cols fl=none):=zH (HSO.out.no HIL.out HX.out HFA.out HFB.out (qzi (by unfold xx8;dsimp only;rw [decide_eq_false hya,Bool.and_false])))
               clear hya
               go_wp2_with (first | (go_at_call 70;refine (xx7 _ _ _ _ _ _ _ _ XA.out _ rfl).mono ?_;rintro e w5 ⟨rfl,hb5⟩;rw [HIA.out];have HI5:=zH (HI4.out.call hb5);obtain⟨⟨⟨z0,z0'⟩,⟨z1,z1'⟩,⟨z2,z2'⟩⟩,⟨a0,a1,a2,a3⟩,⟨b0,b1,b2,b3⟩,kc⟩:=HI5.out.cells;clear hb5) | fail)
               exact bodyPost_ret (vva HI5.out.g _ rfl) rfl (vvQ HZ.out HI5.out.pr.below)
        · obtain rfl:i=n:=by omega
          obtain⟨⟨z0,z0'⟩,⟨z1,z1'⟩,⟨z2,z2'⟩⟩:=str3 HS.out
          have HEN:Hid (zzy cols fl=some ((y0:Int),L,M)):=zH (by have h1:=HSO.out;rw [HL.out] at h1;exact h1.end)
          go_wp2_with fail
          exact bodyPost_ret (vva HS.out _ rfl) rfl ⟨zzi (zzi (zzi HBR.out zN _) zN _) zN _,.inr ⟨_,L,M,A3,_,c3,A4,_,c4,HEN.out,rfl,by have:=HY.out;unfold i64;omega,by
           have h1:=((HQ.out.setP (b:=w.heap.size) (j:=0) (by omega) zN (.int .i64 (y0:Int))).setP (b:=w.heap.size) (j:=1) (by omega) zN (.slice A3 i c3)).setP (b:=w.heap.size) (j:=2) (by omega) zN (.slice A4 i c4)
           exact⟨h1.q1.sl.weaken (fun b hb _=>by omega),h1.q2.sl.weaken (fun b hb _=>by omega)⟩⟩⟩
end
end Go.Proofs.YtpmglcachffojaaGreatDoor
