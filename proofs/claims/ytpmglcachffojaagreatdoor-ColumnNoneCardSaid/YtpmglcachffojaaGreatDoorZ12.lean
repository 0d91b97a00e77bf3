/- A part of what None leans on. -/
import Derived.Test.YtpmglcachffojaaGreatDoorZ2
import Derived.Test.YtpmglcachffojaaGreatDoorZ10
set_option maxRecDepth 100000
set_option maxHeartbeats 16000000
namespace Go.Proofs.YtpmglcachffojaaGreatDoor
section
open Go Go.RowKit
def b01 (b:Bool):Nat:=if b then 1 else 0
def xxk (l:List Bool):List UInt8:=pack 1 (l.map b01)
def zz3 (s:Nat) (l:List Bool) (i:Nat):List UInt8:=be s (catN 1 ((l.take i).map b01)*2 ^ (8*s - i))
theorem uuO (s:Nat) (l:List Bool) (i j:Nat) (h:j<(zz3 s l i).length):((zz3 s l i)[j]).toNat=catN 1 ((l.take i).map b01)*2 ^ (8*s - i) / 256 ^ (s - 1 - j) % 256:=vvx _ _ _ h
theorem vv8 (s:Nat) (l:List Bool) (i:Nat) (h:i<l.length) (hs:i<8*s) (hf:l[i]=false):zz3 s l (i+1)=zz3 s l i:=by
 unfold zz3
 rw [zT h,List.map_append,List.map_singleton,xxA,hf,show b01 false=0 from rfl,Nat.add_zero,Nat.pow_one,Nat.mul_assoc,show 8*s - i=(8*s - (i+1))+1 by omega,Nat.pow_succ,Nat.mul_comm (2 ^ _) 2]
theorem uuP (s:Nat) (l:List Bool) (i:Nat) (h:i<l.length) (hs:i<8*s) (hf:l[i]=true) :
 (zz3 s l i).set (i / 8) (UInt8.ofNat (catN 1 ((l.take i).map b01)*2 ^ (8*s - i) / 256 ^ (s - 1 - i / 8) % 256+1*2 ^ (8 - i % 8 - 1)))=zz3 s l (i+1):=by
 unfold zz3
 rw [jjb (n:=1) hs (by omega) (by omega),zT h,List.map_append,List.map_singleton,xxA,hf]
 rfl
theorem uuQ (HP:∀ (F:Nat->Prop) (A:Option Addr) (m c:Nat) (bs:List UInt8) (w:World),Bs F w A m c bs->m<=512->Calls Tryz.prog 160 #[.slice A m c] w (zzw (some (byB bs)) w))
 (F:Nat->Prop) (A:Option Addr) (n c:Nat) (l:List Bool) (w:World) (h:Sl zzU F w A n c l) (hn:n<=4096) :
 Calls Tryz.prog 89 #[.slice A n c] w (zzw (some (byB (xxk l))) w):=by
 have HH:=zH h;have HL:=zH h.len;have HPP:=zH HP
 obtain⟨s,hs⟩:∃ s,s=(n+7) / 8:=⟨_,rfl⟩
 have zs:((n:Int)+8 - 1) / 8=(s:Int):=by omega
 have hs5:s<=512:=by omega
 have hns:n<=8*s:=by omega
 have HS:=zH hs;have HNS:=zH hns
 have hmk:=kqU s (by omega)
 have HMK:=zH (kqV s (by omega) w w.heap.size zN)
 have HB0:=zH (show Below w.heap.size w (w.alloc (.cells (madeCells #[.int .u8 0] s) 5)) from (zR).alloc zN _)
 have HZ:=zH (show zz3 s l 0=List.replicate s 0 by unfold zz3;rw [List.take_zero,List.map_nil,show catN 1 []=0 from rfl,Nat.zero_mul,uuD])
 have HFIN:=zH (show zz3 s l n=xxk l by unfold zz3 xxk pack zzD;rw [zL (by rw [<-HL.out];exact Nat.le_refl _),List.length_map,<-HL.out,Nat.mul_one,<-hs])
 have z0:¬ (n:Int) > 4096:=by omega
 clear h HP hs hns
 go_enter Tryz.func89,Tryz.ntmps89
 go_wp2_with fail
 obtain⟨g,hg⟩:∃ g,g=w.heap.size:=⟨_,rfl⟩
 rw [<-hg]
 have HG:=zH hg
 clear hg
 go_loopw [18] (fun iv wr=>∃ i:Nat,i<=n/\iv=.int .i64 (i:Int)/\OwnB wr w.heap.size (some ⟨g,0,none⟩) s s (zz3 s l i)/\Below w.heap.size w wr)
  (fun iv _=>n - (intOf iv).toNat)
 case atStart=>exact⟨0,Nat.zero_le _,rfl,by rw [HZ.out,HG.out];exact HMK.out,HB0.out⟩
 case round =>
  obtain⟨i,hi,rfl,ho,hb⟩:=hrel
  have HO:=zH ho;have HB:=zH hb
  clear ho hb
  by_cases hlt:i<n
  · have hil:i<l.length:=by rw [<-HL.out];exact hlt
    have hsl:=HH.out.below HB.out zN
    obtain⟨b,o,u,rfl,_,hbl,hr,hc⟩:=hsl.at1 hil rfl
    obtain⟨v,hv⟩:∃ v,v=l[i]:=⟨_,rfl⟩
    rw [<-hv] at hr
    injection hr with hr
    subst hr
    have hi1:(0:Int)<=(i:Int):=by omega
    have hi2:(i:Int)<(n:Int):=by omega
    have h8:i<8*s:=by have:=HNS.out;omega
    cases v with
    | false =>
      have HT:=zH (vv8 s l i hil h8 hv.symm)
      clear hv hsl
      go_wp2_with fail
      go_roundw
      case rel=>exact⟨i+1,by omega,by go_num,by rw [HT.out];exact HO.out,HB.out⟩
      case measure=>simp [intOf];omega
    | true =>
      have HT:=zH (uuP s l i hil h8 hv.symm)
      obtain⟨j,hj⟩:∃ j,j=i / 8:=⟨_,rfl⟩
      obtain⟨e,he⟩:∃ e,e=i % 8:=⟨_,rfl⟩
      have zj:(i:Int) / 8=(j:Int):=by omega
      have ze:(i:Int) % 8=(e:Int):=by omega
      have hl2:j<(zz3 s l i).length:=by unfold zz3;rw [zzY];omega
      obtain⟨bb,hbb⟩:∃ bb,bb=catN 1 ((l.take i).map b01)*2 ^ (8*s - i) / 256 ^ (s - 1 - j) % 256:=⟨_,rfl⟩
      have hb8:bb<256:=by rw [hbb];exact Nat.mod_lt _ (by decide)
      have hbf:bb % 2 ^ (8 - e)=0:=by rw [hbb,hj,he];exact yyr h8
      have g0:wr.cell? ⟨g,j,none⟩=some (.int .u8 (bb:Int)):=by
       rw [HO.out.own.cell1 yyH hl2,hbb,uuO]
      have g1:wr.frozen? ⟨g,j,none⟩=false:=HO.out.own.free1 yyH j
      have he8:e<8:=by omega
      obtain⟨x,hx⟩:∃ x,x=UInt8.ofNat (bb+1*2 ^ (8 - e - 1)):=⟨_,rfl⟩
      have hor:bits BinOp.or IntKind.u8 (bb:Int) ((128:Int) / 2 ^ e)=((x.toNat:Nat):Int):=by
       rw [hx,<-uuM hb8 hbf (by omega) (qxj (n:=1) (c:=1) (by decide) (by omega))]
       congr 1
       obtain rfl | rfl | rfl | rfl | rfl | rfl | rfl | rfl:e=0∨e=1∨e=2∨e=3∨e=4∨e=5∨e=6∨e=7:=by omega
       all_goals decide
      rw [<-hj,<-he,<-hbb,<-hx] at HT
      have HR:=zH hor
      have hj1:(0:Int)<=(j:Int):=by omega
      have hj2:(j:Int)<(s:Int):=by have:=HNS.out;omega
      have hr1:=HO.out.own.set1 yyH j x trivial
      rw [HT.out] at hr1
      have HR1:=zH (zz7 ⟨_,hr1.drew⟩)
      have HB1:=zH ((zzn HB.out (HO.out.own.base1 yyH).1 (j:=j) (.int .u8 (x.toNat:Int))).drew)
      clear hv hsl hl2 hbb hb8 hbf hx hor hr1 hj he
      go_upto_region 8 with fail
      go_region
      rw [HR.out]
      go_wp2_with fail
      go_roundw
      case rel=>exact⟨i+1,by omega,by go_num,HR1.out,HB1.out⟩
      case measure=>simp [intOf];omega
  · obtain rfl:n=i:=by omega
    go_wp2_with (first
     | (go_at_call 160;refine (HPP.out _ _ s s _ _ HO.out.bs hs5).mono ?_;rintro e w2 ⟨hb2,A2,n2,c2,rfl,ho2⟩;have HB2:=zH hb2;have HO2:=zH ho2;clear hb2 ho2)
     | fail)
    go_ret2
    exact⟨HB.out.trans (HB2.out.mono HB.out.size),A2,n2,c2,rfl,by rw [<-HFIN.out];exact HO2.out.down HB.out.size⟩
end
section
open Go Go.RowKit
def vv9:Ty (Nat×Nat) where
 size:=2
 rep _ _ cs x:=cs=[.int .i64 (x.1:Int),.int .u64 (x.2:Int)]/\x.1<9223372036854775808/\U64 x.2
 len h:=by rw [h.1];rfl
 one h:=by rw [h.1];intro u hu;simp at hu;rcases hu with rfl | rfl <;> rfl
 keep h _ _:=h
 weaken h _:=h
theorem zqo:vv9.Flat:=fun h=>h
theorem zqp:(Tryz.prog.info? 332).map (fun i=>(i.zero,i.size,i.bytes))=some (some (.agg #[.int .i64 0,.int .u64 0]),2,16):=by kernel_rfl
theorem zqq:zzL Tryz.prog 326 332 2:=zzL.mk' (by kernel_rfl) zqp rfl (by decide) (by decide)
structure PcR (w0:World) (rb lb:Nat) (base:Int) (Al:Option Addr) (nl cl:Nat) (low:List Nat) (Ap:Option Addr) (np cp:Nat) (ps:List (Nat×Nat)) (g q la:Nat) (w:World):Prop where
 run:w.heap[rb]?=some (.cells #[.int .i64 base,.slice Al nl cl,.slice Ap np cp,.int .i64 (g:Int),.int .i64 (q:Int)] 328 (0,0))
 last:w.heap[lb]?=some (.cells #[.int .i64 (la:Int)] 3 (0,0))
 low:OwnU w (lb+1) Al nl cl low
 ps:OwnF vv9 332 (fun _=>False) w (lb+1) Ap np cp ps
 apart:∀ b,Al=some ⟨b,0,none⟩->Ap≠some ⟨b,0,none⟩
 below:Below rb w0 w
 ord:rb<lb
theorem zzx {α:Type} {T:Ty α} {e:TypeId} {F:Nat->Prop} {w:World} {B:Nat} {A:Option Addr} {n c:Nat} {xs:List α} (h:OwnF T e F w B A n c xs) {b:Nat} (hb:A.map (·.block)=some b):A=some ⟨b,0,none⟩/\B<=b/\b<w.heap.size:=by
 obtain⟨⟨css,h1,_⟩,_,_⟩:=h
 exact xxw h1 (by rw [zzb];exact hb)
section
variable {w0 w w':World} {rb lb:Nat} {base:Int} {Al Ap A':Option Addr} {nl cl np cp c':Nat} {low:List Nat} {ps:List (Nat×Nat)} {g q la:Nat}
theorem PcR.keep (h:PcR w0 rb lb base Al nl cl low Ap np cp ps g q la w) (hb:Below w.heap.size w w'):PcR w0 rb lb base Al nl cl low Ap np cp ps g q la w' :=
 ⟨(hb.block rb (zzc h.run)).trans h.run,(hb.block lb (zzc h.last)).trans h.last,zzR (h.low.keepB hb),h.ps.keepB hb,h.apart,h.below.trans (hb.mono (Nat.le_of_lt (zzc h.run))),h.ord⟩
theorem PcR.drew (h:PcR w0 rb lb base Al nl cl low Ap np cp ps g q la w):PcR w0 rb lb base Al nl cl low Ap np cp ps g q la w.drew :=
 ⟨h.run,h.last,zzR h.low.drew,h.ps.drew,h.apart,h.below.drew,h.ord⟩
theorem PcR.set (h:PcR w0 rb lb base Al nl cl low Ap np cp ps g q la w) {g' q' la':Nat} (h1:w'.heap[rb]?=some (.cells #[.int .i64 base,.slice Al nl cl,.slice Ap np cp,.int .i64 (g':Int),.int .i64 (q':Int)] 328 (0,0)))
 (h2:w'.heap[lb]?=some (.cells #[.int .i64 (la':Int)] 3 (0,0))) (h3:∀ b,b≠rb->b≠lb->w'.heap[b]?=w.heap[b]?) (h4:w.heap.size=w'.heap.size) (h5:Below rb w0 w'):PcR w0 rb lb base Al nl cl low Ap np cp ps g' q' la' w':=by
 have ho:=h.ord
 exact⟨h1,h2,zzR (h.low.keep (Nat.le_of_eq h4) fun b hb _=>by rcases hb with hb | ⟨_,hb⟩;exact hb.elim;exact h3 b (by omega) (by omega)),
  h.ps.keep (Nat.le_of_eq h4) fun b hb _=>by rcases hb with hb | ⟨_,hb⟩;exact hb.elim;exact h3 b (by omega) (by omega),h.apart,h5,ho⟩
theorem PcR.setGap (h:PcR w0 rb lb base Al nl cl low Ap np cp ps g q la w) (g':Nat):PcR w0 rb lb base Al nl cl low Ap np cp ps g' q la (w.setCell ⟨rb,3,none⟩ (.int .i64 (g':Int))) :=
 h.set (zza h.run rfl) (zzd h.last (by have:=h.ord;omega)) (fun b h1 _=>Below.heap_setCell _ ⟨rb,3,none⟩ _ b h1) (by simp [World.setCell]) (zzn h.below zN _)
theorem PcR.setPat (h:PcR w0 rb lb base Al nl cl low Ap np cp ps g q la w) (q':Nat):PcR w0 rb lb base Al nl cl low Ap np cp ps g q' la (w.setCell ⟨rb,4,none⟩ (.int .i64 (q':Int))) :=
 h.set (zza h.run rfl) (zzd h.last (by have:=h.ord;omega)) (fun b h1 _=>Below.heap_setCell _ ⟨rb,4,none⟩ _ b h1) (by simp [World.setCell]) (zzn h.below zN _)
theorem PcR.setLast (h:PcR w0 rb lb base Al nl cl low Ap np cp ps g q la w) (la':Nat):PcR w0 rb lb base Al nl cl low Ap np cp ps g q la' (w.setCell ⟨lb,0,none⟩ (.int .i64 (la':Int))) :=
 h.set (zzd h.run (by have:=h.ord;omega)) (zza h.last rfl) (fun b _ h1=>Below.heap_setCell _ ⟨lb,0,none⟩ _ b h1) (by simp [World.setCell]) (zzn h.below (by have:=h.ord;omega) _)
theorem PcR.addPair (h:PcR w0 rb lb base Al nl cl low Ap np cp ps g q la w) {F:Nat->Prop} {obj:Obj} {x:Nat×Nat} (ha:ApdL vv9 332 F w (w.alloc obj) w' (lb+1) Ap A' (np+1) c' (ps++[x])) :
 (w'.heap[rb]?=w.heap[rb]?)/\(w'.heap[lb]?=w.heap[lb]?)/\PcR w0 rb lb base Al nl cl low A' (np+1) c' (ps++[x]) g q la (w'.setCell ⟨rb,2,none⟩ (.slice A' (np+1) c')):=by
 have ho:=h.ord
 have hr:=ha.below.block rb (by omega)
 have hl:=ha.below.block lb (by omega)
 have hlw:OwnU w' (lb+1) Al nl cl low:=zzR ((h.low.alloc obj).grown ha.grown fun b hb=>⟨fun h=>h,fun e=>h.apart b e (zzx h.ps hb).1⟩)
 refine⟨hr,hl,zza (hr.trans h.run) rfl,zzd (hl.trans h.last) (by omega),?_,?_,?_,zzn (h.below.trans (ha.below.mono (by omega))) zN _,ho⟩
 · exact zzR (hlw.setCell (p:=⟨rb,2,none⟩) (fun h=>h) (fun e=>by have:=(zzx h.low (b:=rb) (by rw [e];rfl)).2.1;omega) _)
 · have:=ha.own.flat zqo
   exact this.setCell (p:=⟨rb,2,none⟩) (fun h=>h) (fun e=>by have:=(zzx this (b:=rb) (by rw [e];rfl)).2.1;omega) _
 · intro b e1 e2
   have h1:=(zzx h.low (b:=b) (by rw [e1];rfl)).2.2
   rcases ha.lies with h2 | h2
   · rw [e2] at h2
     exact h.apart b e1 (zzx h.ps h2.symm).1
   · rw [e2] at h2
     simp at h2
     omega
theorem PcR.addLow (h:PcR w0 rb lb base Al nl cl low Ap np cp ps g q la w) {F:Nat->Prop} {obj:Obj} {x:Nat} (ha:ApdL tU64 112 F w (w.alloc obj) w' (lb+1) Al A' (nl+1) c' (low++[x])) :
 (w'.heap[rb]?=w.heap[rb]?)/\(w'.heap[lb]?=w.heap[lb]?)/\PcR w0 rb lb base A' (nl+1) c' (low++[x]) Ap np cp ps g q la (w'.setCell ⟨rb,1,none⟩ (.slice A' (nl+1) c')):=by
 have ho:=h.ord
 have hr:=ha.below.block rb (by omega)
 have hl:=ha.below.block lb (by omega)
 have hps:=((h.ps.alloc obj).grown ha.grown fun b hb=>⟨fun h=>h,fun e=>h.apart b (zzx h.low hb).1 e⟩)
 refine⟨hr,hl,zza (hr.trans h.run) rfl,zzd (hl.trans h.last) (by omega),?_,?_,?_,zzn (h.below.trans (ha.below.mono (by omega))) zN _,ho⟩
 · have:=zzR ha.own
   exact zzR (this.setCell (p:=⟨rb,1,none⟩) (fun h=>h) (fun e=>by have:=(zzx this (b:=rb) (by rw [e];rfl)).2.1;omega) _)
 · exact hps.setCell (p:=⟨rb,1,none⟩) (fun h=>h) (fun e=>by have:=(zzx h.ps (b:=rb) (by rw [e];rfl)).2.1;omega) _
 · intro b e1 e2
   have h1:=(zzx h.ps (b:=b) (by rw [e2];rfl)).2.2
   rcases ha.lies with h2 | h2
   · rw [e1] at h2
     exact h.apart b (zzx h.low h2.symm).1 e2
   · rw [e1] at h2
     simp at h2
     omega
theorem PcR.cells (h:PcR w0 rb lb base Al nl cl low Ap np cp ps g q la w):w.cell? ⟨rb,0,none⟩=some (.int .i64 base)/\w.cell? ⟨rb,1,none⟩=some (.slice Al nl cl)/\w.cell? ⟨rb,2,none⟩=some (.slice Ap np cp)/\w.cell? ⟨rb,3,none⟩=some (.int .i64 (g:Int))/\w.cell? ⟨rb,4,none⟩=some (.int .i64 (q:Int))/\w.cell? ⟨lb,0,none⟩=some (.int .i64 (la:Int)):=by
 refine⟨?_,?_,?_,?_,?_,?_⟩
 iterate 5 (rw [zC h.run];rfl)
 rw [zC h.last];rfl
end
theorem qze (w0:World) (rb lb:Nat) (base:Int) (Al:Option Addr) (nl cl:Nat) (low:List Nat) (Ap:Option Addr) (np cp:Nat) (ps:List (Nat×Nat)) (g q la gap p:Nat) (hla:la<=4096) (hgap:gap<=4096) (hp:U64 p) (hnp:np<=4096) (w:World) (h:PcR w0 rb lb base Al nl cl low Ap np cp ps g q la w) :
 Calls Tryz.prog 321 #[.int .i64 (gap:Int),.int .u64 (p:Int),.pointer (some ⟨rb,0,none⟩),.pointer (some ⟨lb,0,none⟩)] w fun e w'=>e=.returned (.tuple #[])/\∃ Ap' cp',PcR w0 rb lb base Al nl cl low Ap' (np+1) cp' (ps++[(gap,p)]) (max g (bl gap)) (max q (bl p)) (la+gap) w':=by
 have HH:=zH h;have HP:=zH hp
 have hgap64:U64 gap:=by show gap<18446744073709551616;omega
 have HGAP:=zH hgap64
 obtain⟨k0,k1,k2,k3,k4,k5⟩:=h.cells
 have f2:=zF h.run 2
 have hB:lb+1<=w.heap.size:=zzc h.last
 obtain⟨bg,hbg⟩:∃ bg,bg=bl gap:=⟨_,rfl⟩
 obtain⟨bp,hbp⟩:∃ bp,bp=bl p:=⟨_,rfl⟩
 have hbg64:bg<=64:=by rw [hbg];exact yyd hgap64
 have hbp64:bp<=64:=by rw [hbp];exact yyd hp
 rw [<-hbg,<-hbp]
 have HBG:=zH hbg;have HBP:=zH hbp
 obtain⟨mg,hmg⟩:∃ mg,mg=max g bg:=⟨_,rfl⟩
 obtain⟨mq,hmq⟩:∃ mq,mq=max q bp:=⟨_,rfl⟩
 rw [<-hmg,<-hmq]
 have xw:IntKind.u64.wrap (gap:Int)=(gap:Int):=by rw [IntKind.wrap_u64];omega
 have x1:max (g:Int) (bg:Int)=(mg:Int):=by omega
 have x2:max (q:Int) (bp:Int)=(mq:Int):=by omega
 clear h hgap64 hbg hbp hmg hmq hp
 go_enter Tryz.func321,Tryz.ntmps321
 go_upto_region 1 with (first
  | (at_builtin;refine apl1 (T:=vv9) zqq w w rfl (.tmp 7) (.tmp 11) rfl (lb+1) Ap np cp ps rfl (fun _=>False) (fun _=>False) HH.out.ps (zR) hB _ rfl [.int .i64 (gap:Int),.int .u64 (p:Int)] (gap,p) ⟨rfl,by show gap<_;omega,HP.out⟩ 332 rfl (fun _ _ _ _ h=>h) (by omega) ?_;intro A3 c3 w3 ha
     obtain⟨hr,hl,hpc⟩:=HH.out.addPair ha
     have HPC:=zH hpc
     have j2:w3.cell? ⟨rb,2,none⟩=some (.slice Ap np cp):=by rw [zC (hr.trans HH.out.run)];rfl
     have j3:=zF (hr.trans HH.out.run) 2
     clear ha hr hl hpc)
  | fail)
 obtain⟨w1,hw1⟩:∃ w1,w1=w3.setCell ⟨rb,2,none⟩ (.slice A3 (np+1) c3):=⟨_,rfl⟩
 rw [<-hw1] at HPC ⊢
 obtain⟨m0,m1,m2,m3,m4,m5⟩:=HPC.out.cells
 have f3:=zF HPC.out.run 3
 clear hw1 k0 k1 k2 k3 k4 k5 f2 j2 j3 HH
 go_cut [] from 14 to 20 (fun wx=>∃ wd,wd=wx/\PcR w0 rb lb base Al nl cl low A3 (np+1) c3 (ps++[(gap,p)]) mg q la wd)
 case first =>
  go_region_with (first
   | (go_at_call 315;refine (yyv gap HGAP.out _).mono ?_;rintro e w2 ⟨rfl,rfl⟩;rw [<-HBG.out])
   | fail)
  all_goals
   go_wp2_with fail
   go_meet
   refine⟨_,rfl,?_⟩
   first | exact HPC.out.setGap mg | exact HPC.out.drew.setGap mg | exact (HPC.out.setGap mg).drew
 case rest =>
  obtain⟨wx,rfl,hc⟩:=hcut
  have HC:=zH hc
  clear hc m0 m1 m2 m3 m4 m5 f3 HPC
  obtain⟨m0,m1,m2,m3,m4,m5⟩:=HC.out.cells
  have f4:=zF HC.out.run 4
  refine ‹∀ (a:Act) (w_1:World),Code.wp _ _ _ a w_1->_› _ _ ?_
  go_upto_region 2 with fail
  go_cut [] from 21 to 26 (fun wx=>∃ wd,wd=wx/\PcR w0 rb lb base Al nl cl low A3 (np+1) c3 (ps++[(gap,p)]) mg mq la wd)
  case first =>
   go_region_with (first
    | (go_at_call 315;refine (yyv p HP.out _).mono ?_;rintro e w2 ⟨rfl,rfl⟩;rw [<-HBP.out])
    | fail)
   all_goals
    go_wp2_with fail
    go_meet
    refine⟨_,rfl,?_⟩
    first | exact HC.out.setPat mq | exact HC.out.drew.setPat mq | exact (HC.out.setPat mq).drew
  case rest =>
   obtain⟨wy,rfl,hd⟩:=hcut
   have HD:=zH hd
   clear hd m0 m1 m2 m3 m4 m5 f4 HC
   obtain⟨m0,m1,m2,m3,m4,m5⟩:=HD.out.cells
   have f5:=zF HD.out.last 0
   refine ‹∀ (a:Act) (w_1:World),Code.wp _ _ _ a w_1->_› _ _ ?_
   go_wp2_with fail
   go_end0
   have hm:=HD.out.setLast (la+gap)
   rw [Int.natCast_add] at hm
   exact⟨rfl,A3,c3,hm⟩
end
end Go.Proofs.YtpmglcachffojaaGreatDoor
