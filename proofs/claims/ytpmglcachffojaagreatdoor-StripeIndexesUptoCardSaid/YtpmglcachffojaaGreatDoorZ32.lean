/- A part of what Indexes leans on. -/
import Derived.Test.YtpmglcachffojaaGreatDoorZ28
import Derived.Test.YtpmglcachffojaaGreatDoorZ29
import Derived.Deep.RegionLaw
set_option maxRecDepth 100000
set_option maxHeartbeats 16000000
namespace Go.Proofs.YtpmglcachffojaaGreatDoor
section
open Go Go.RowKit
theorem icmp_ne {a b:Int} (h:¬ a=b):¬ icmp a b=0:=by
 unfold icmp
 by_cases h1:a<b
 · rw [if_pos h1];decide
 · rw [if_neg h1,if_pos (by omega)];decide
def uuP (way:Int) (a b:VV):VV:=if a.null || (!b.null&&decide (0<way*vcmp b a)) then b else a
structure Box3 (w:World) (a b:VV) (w3:World):Prop where
 eq:w3=((w.alloc (.cells #[.bool a.null,.int .i64 a.n,.string a.s] 74)).alloc (.cells #[.bool b.null,.int .i64 b.n,.string b.s] 74)).alloc (.cells #[.bool false,.int .i64 0,.string ⟨#[]⟩] 74)
 below:Below w.heap.size w w3
 ha:w3.heap[w.heap.size]?=some (.cells #[.bool a.null,.int .i64 a.n,.string a.s] 74 (0,0))
 hb:w3.heap[w.heap.size+1]?=some (.cells #[.bool b.null,.int .i64 b.n,.string b.s] 74 (0,0))
 hr:w3.heap[w.heap.size+2]?=some (.cells #[.bool false,.int .i64 0,.string ⟨#[]⟩] 74 (0,0))
theorem box3 (w:World) (a b:VV):∃ w3,Box3 w a b w3:=by
 obtain⟨w2,h⟩:=box2 w a b
 have hz:w2.heap.size=w.heap.size+2:=by rw [h.eq];simp
 have h1:w2.heap[w.heap.size]?=some (.cells #[.bool a.null,.int .i64 a.n,.string a.s] 74 (0,0)):=by rw [h.eq];exact (Below.heap_alloc _ _ _ (by simp)).trans (heap_alloc_new w _)
 have h2:=heap_alloc_new (w.alloc (.cells #[.bool a.null,.int .i64 a.n,.string a.s] 74)) (.cells #[.bool b.null,.int .i64 b.n,.string b.s] 74)
 rw [zS,<-h.eq] at h2
 refine⟨w2.alloc (.cells #[.bool false,.int .i64 0,.string ⟨#[]⟩] 74),by rw [h.eq],h.below.alloc h.below.size _,(Below.heap_alloc _ _ _ (by omega)).trans h1,(Below.heap_alloc _ _ _ (by omega)).trans h2,?_⟩
 have h3:=heap_alloc_new w2 (.cells #[.bool false,.int .i64 0,.string ⟨#[]⟩] 74)
 rwa [hz] at h3
theorem vv9 {w:World} {g:Nat} {a b d:Value} {t:TypeId} (h:w.heap[g]?=some (.cells #[a,b,d] t (0,0))) :
 (w.cell? ⟨g,0,none⟩=some a/\w.frozen? ⟨g,0,none⟩=false)/\(w.cell? ⟨g,1,none⟩=some b/\w.frozen? ⟨g,1,none⟩=false)/\(w.cell? ⟨g,2,none⟩=some d/\w.frozen? ⟨g,2,none⟩=false) :=
 ⟨⟨by rw [zC h];rfl,zF h 0⟩,⟨by rw [zC h];rfl,zF h 1⟩,⟨by rw [zC h];rfl,zF h 2⟩⟩
theorem vset {w:World} {g:Nat} {a b d:Value} {t:TypeId} (h:w.heap[g]?=some (.cells #[a,b,d] t (0,0))) (a' b' d':Value) :
 (((w.setCell ⟨g,0,none⟩ a').setCell ⟨g,1,none⟩ b').setCell ⟨g,2,none⟩ d').heap[g]?=some (.cells #[a',b',d'] t (0,0)):=zza (zza (zza h rfl) rfl) rfl
theorem vvr {w0 w:World} {B g:Nat} (hb:Below B w0 w) (hg:B<=g) (a' b' d':Value):Below B w0 (((w.setCell ⟨g,0,none⟩ a').setCell ⟨g,1,none⟩ b').setCell ⟨g,2,none⟩ d'):=zzi (zzi (zzi hb hg _) hg _) hg _
theorem qx2 (way:Int) (hway:way = -1∨way=1) (a b:VV) (w:World) :
 Calls Tryz.prog 176 #[.int .i64 way,.agg #[.bool a.null,.int .i64 a.n,.string a.s],.agg #[.bool b.null,.int .i64 b.n,.string b.s]] w fun e w'=>e=.returned (.agg #[.bool (uuP way a b).null,.int .i64 (uuP way a b).n,.string (uuP way a b).s])/\Below w.heap.size w w':=by
 obtain⟨w3,h3⟩:=box3 w a b
 have HW:=zH h3
 obtain⟨⟨a0,_⟩,⟨a1,_⟩,⟨a2,_⟩⟩:=vv9 h3.ha
 obtain⟨⟨b0,_⟩,⟨b1,_⟩,⟨b2,_⟩⟩:=vv9 h3.hb
 obtain⟨⟨z0,y0⟩,⟨z1,y1⟩,⟨z2,y2⟩⟩:=h3.hr |> vv9
 have HC:=zH (zzn b a)
 have hcs:=xqY b a
 obtain⟨q,hq⟩:∃ q,q=vcmp b a:=⟨_,rfl⟩
 obtain⟨r,hr⟩:∃ r,r=uuP way a b:=⟨_,rfl⟩
 rw [<-hr]
 unfold uuP at hr
 rw [<-hq] at HC hcs hr
 have HR:=zH hr
 obtain⟨an,ai,sa⟩:=a
 obtain⟨bn,bi,sb'⟩:=b
 dsimp only at *
 clear h3 hq hr
 cases an
 · cases bn
   · rcases hway with rfl | rfl <;> rcases hcs with rfl | rfl | rfl
     all_goals
      go_enter Tryz.func176,Tryz.ntmps176
      go_upto_region 1 with fail
      rw [<-HW.out.eq]
      go_upto_if 21 with (first
       | (go_at_call 221;refine (HC.out _).mono ?_;rintro e w5 ⟨rfl,hb5⟩;have HB5:=zH hb5;have HA5:=zH ((hb5.block _ (zzc HW.out.ha)).trans HW.out.ha);have HY5:=zH ((hb5.block _ (zzc HW.out.hb)).trans HW.out.hb);have HZ5:=zH ((hb5.block _ (zzc HW.out.hr)).trans HW.out.hr);clear hb5)
       | fail)
      clear a0 a1 a2 b0 b1 b2 z0 y0 z1 y1 z2 y2
      obtain⟨⟨a0,_⟩,⟨a1,_⟩,⟨a2,_⟩⟩:=vv9 HA5.out
      obtain⟨⟨b0,_⟩,⟨b1,_⟩,⟨b2,_⟩⟩:=vv9 HY5.out
      obtain⟨⟨z0,y0⟩,⟨z1,y1⟩,⟨z2,y2⟩⟩:=vv9 HZ5.out
      go_wp2_with fail
      first
       | exact bodyPost_ret (results_cell_row rfl _ _ (w.heap.size+2) 74 #[.bool false,.int .i64 bi,.string sb'] (0,0) _ rfl (vset HZ5.out _ _ _) Tryz.underlying74 rfl (by kernel_rfl)) rfl ⟨by rw [HR.out];rfl,vvr (HW.out.below.trans (HB5.out.mono HW.out.below.size)) (by omega) _ _ _⟩
       | exact bodyPost_ret (results_cell_row rfl _ _ (w.heap.size+2) 74 #[.bool false,.int .i64 ai,.string sa] (0,0) _ rfl (vset HZ5.out _ _ _) Tryz.underlying74 rfl (by kernel_rfl)) rfl ⟨by rw [HR.out];rfl,vvr (HW.out.below.trans (HB5.out.mono HW.out.below.size)) (by omega) _ _ _⟩
   · go_enter Tryz.func176,Tryz.ntmps176
     go_upto_region 1 with fail
     rw [<-HW.out.eq]
     go_wp2_with fail
     exact bodyPost_ret (results_cell_row rfl _ _ (w.heap.size+2) 74 #[.bool false,.int .i64 ai,.string sa] (0,0) _ rfl (vset HW.out.hr _ _ _) Tryz.underlying74 rfl (by kernel_rfl)) rfl ⟨by rw [HR.out];rfl,vvr HW.out.below (by omega) _ _ _⟩
 · go_enter Tryz.func176,Tryz.ntmps176
   go_upto_region 1 with fail
   rw [<-HW.out.eq]
   go_wp2_with fail
   exact bodyPost_ret (results_cell_row rfl _ _ (w.heap.size+2) 74 #[.bool bn,.int .i64 bi,.string sb'] (0,0) _ rfl (vset HW.out.hr _ _ _) Tryz.underlying74 rfl (by kernel_rfl)) rfl ⟨by rw [HR.out];rfl,vvr HW.out.below (by omega) _ _ _⟩
theorem zzk (a b:VV) (w:World) :
 Calls Tryz.prog 114 #[.agg #[.bool a.null,.int .i64 a.n,.string a.s],.agg #[.bool b.null,.int .i64 b.n,.string b.s]] w fun e w'=>e=.returned (.int .i64 (vcmp a b))/\Below w.heap.size w w':=by
 obtain⟨q,hq⟩:∃ q,q=vcmp a b:=⟨_,rfl⟩
 rw [<-hq]
 obtain⟨w2,hw2⟩:=box2 w a b
 have HW:=zH hw2.eq;have HB:=zH hw2.below
 obtain⟨-,-,a0,a1,a2,b0,b1,b2⟩:=hw2
 by_cases hne:a.null=b.null
 · rw [zqe a b hne] at hq
   obtain⟨an,ai,sa⟩:=a
   obtain⟨bn,bi,sb'⟩:=b
   obtain rfl:an=bn:=hne
   have A0:w2.cell? ⟨w.heap.size,0,none⟩=some (.bool an):=a0
   have A1:w2.cell? ⟨w.heap.size,1,none⟩=some (.int .i64 ai):=a1
   have A2:w2.cell? ⟨w.heap.size,2,none⟩=some (.string sa):=a2
   have B0:w2.cell? ⟨w.heap.size+1,0,none⟩=some (.bool an):=b0
   have B1:w2.cell? ⟨w.heap.size+1,1,none⟩=some (.int .i64 bi):=b1
   have B2:w2.cell? ⟨w.heap.size+1,2,none⟩=some (.string sb'):=b2
   dsimp only at hq HW
   clear a0 a1 a2 b0 b1 b2
   have hbn:(an != an)=false:=by cases an <;> rfl
   by_cases hi:ai=bi
   · subst hi
     replace hq:q=scmp sa sb':=by rw [hq,if_pos (by unfold icmp;simp)]
     have hin:(ai != ai)=false:=by simp
     unfold scmp at hq
     cases h1:ltS sa sb'
     · rw [h1] at hq
       cases h2:ltS sb' sa
       · rw [h2] at hq
         obtain rfl:q=0:=hq
         obtain rfl:=ltS_eq h1 h2
         clear h1 h2
         go_enter Tryz.func114,Tryz.ntmps114
         go_upto_region 1 with fail
         rw [<-HW.out]
         go_wp2_with fail
         go_ret
         exact⟨rfl,HB.out⟩
       · rw [h2] at hq
         obtain rfl:q=1:=hq
         have h3:(sa.toList==sb'.toList)=false:=(zqc (fun e=>zqd h2 e.symm)).1
         have h5:¬ sa.toList=sb'.toList:=(zqc (fun e=>zqd h2 e.symm)).2.1
         have h4:Op.bytesLess sa.toList sb'.toList=false:=h1
         clear h1 h2
         go_enter Tryz.func114,Tryz.ntmps114
         go_upto_region 1 with fail
         rw [<-HW.out]
         go_wp2_with fail
         go_ret
         exact⟨rfl,HB.out⟩
     · rw [h1] at hq
       obtain rfl:q = -1:=hq
       have h3:(sa.toList==sb'.toList)=false:=(zqc (zqd h1)).1
       have h5:¬ sa.toList=sb'.toList:=(zqc (zqd h1)).2.1
       have h4:Op.bytesLess sa.toList sb'.toList=true:=h1
       clear h1
       go_enter Tryz.func114,Tryz.ntmps114
       go_upto_region 1 with fail
       rw [<-HW.out]
       go_wp2_with fail
       go_ret
       exact⟨rfl,HB.out⟩
   · have hin:(ai != bi)=true:=bne_y hi
     replace hq:q=icmp ai bi:=by
      rw [hq,if_neg (icmp_ne hi)]
     unfold icmp at hq
     by_cases hlt:ai<bi
     · rw [if_pos hlt] at hq
       subst hq
       clear hi
       go_enter Tryz.func114,Tryz.ntmps114
       go_upto_region 1 with fail
       rw [<-HW.out]
       go_wp2_with fail
       go_ret
       exact⟨rfl,HB.out⟩
     · rw [if_neg hlt,if_pos (by omega)] at hq
       subst hq
       clear hi
       go_enter Tryz.func114,Tryz.ntmps114
       go_upto_region 1 with fail
       rw [<-HW.out]
       go_wp2_with fail
       go_ret
       exact⟨rfl,HB.out⟩
 · obtain⟨an,ai,sa⟩:=a
   obtain⟨bn,bi,sb'⟩:=b
   have A0:w2.cell? ⟨w.heap.size,0,none⟩=some (.bool an):=a0
   have B0:w2.cell? ⟨w.heap.size+1,0,none⟩=some (.bool bn):=b0
   unfold vcmp at hq
   dsimp only at hq HW hne
   clear a0 a1 a2 b0 b1 b2
   cases an
   · obtain rfl:bn=true:=by cases bn <;> simp_all
     obtain rfl:q=1:=hq
     clear hne
     go_enter Tryz.func114,Tryz.ntmps114
     go_upto_region 1 with fail
     rw [<-HW.out]
     go_wp2_with fail
     go_ret
     exact⟨rfl,HB.out⟩
   · obtain rfl:bn=false:=by cases bn <;> simp_all
     obtain rfl:q = -1:=hq
     clear hne
     go_enter Tryz.func114,Tryz.ntmps114
     go_upto_region 1 with fail
     rw [<-HW.out]
     go_wp2_with fail
     go_ret
     exact⟨rfl,HB.out⟩
end
section
open Go Go.RowKit
end
section
open Go Go.RowKit
theorem uu7 {l:List UInt8} {f:Fld} {r:List UInt8} (h:wone l=some (f,r)):r.length<l.length:=by
 unfold wone at h
 split at h
 · cases h
 · rename_i key r1 h1
   have q1:=yyz h1
   split at h
   · cases h
   · rename_i n r2 h2
     have q2:=yyz h2
     split at h
     · cases h
     · split at h
       · injection h with h;injection h with _ h;subst h;omega
       · split at h
         · cases h
         · injection h with h;injection h with _ h;subst h;simp only [List.length_drop];omega
theorem wone_flen {l:List UInt8} {f:Fld} {r:List UInt8} (h:wone l=some (f,r)):f.b.length+r.length+1<=l.length:=by
 unfold wone at h
 split at h
 · cases h
 · rename_i key r1 h1
   have q1:=yyz h1
   split at h
   · cases h
   · rename_i n r2 h2
     have q2:=yyz h2
     split at h
     · cases h
     · split at h
       · injection h with h;injection h with h0 h;subst h h0;simp only [List.length_nil];omega
       · split at h
         · cases h
         · injection h with h;injection h with h0 h;subst h h0;simp only [List.length_drop,List.length_take];omega
theorem qxc:∀ (k:Nat) (l:List UInt8),l.length<=k->yyk k l=zzo l:=by
 intro k
 induction k using Nat.strongRecOn with
 | ind k ih =>
   intro l hl
   unfold zzo
   match k,l with
   | _,[]=>cases k <;> simp [yyk]
   | 0,c::t=>simp at hl
   | k+1,c::t =>
     show yyk (k+1) (c::t)=yyk (t.length+1) (c::t)
     simp only [yyk]
     cases h:wone (c::t) with
     | none=>rfl
     | some p =>
       obtain⟨f,r⟩:=p
       have hr:=uu7 h
       simp only [List.length_cons] at hr hl
       dsimp only
       rw [ih k (by omega) r (by omega)]
       by_cases hk:t.length<k+1
       · rw [ih t.length hk r (by omega)]
       · have:t.length=k:=by omega
         rw [this,ih k (by omega) r (by omega)]
theorem uue:zzo []=some []:=rfl
theorem yyR {l:List UInt8} (h0:l≠[]) (h:wone l=none):zzo l=none:=by
 cases l with
 | nil=>exact absurd rfl h0
 | cons c t=>unfold zzo;simp only [List.length_cons,yyk,h]
theorem xxu {l:List UInt8} {f:Fld} {r:List UInt8} (h0:l≠[]) (h:wone l=some (f,r)):zzo l=(zzo r).map (f::·):=by
 cases l with
 | nil=>exact absurd rfl h0
 | cons c t =>
   have hr:=uu7 h
   unfold zzo
   simp only [List.length_cons,yyk,h]
   rw [qxc t.length r (by simp only [List.length_cons] at hr;omega)]
   rfl
def bsum:List Fld->Nat
 | []=>0
 | f::r=>f.b.length+bsum r
theorem uu8:∀ (L:List Fld) (f:Fld),f∈L->f.b.length<=bsum L
 | [],_,h=>by cases h
 | g::r,f,h=>by
   rcases List.mem_cons.1 h with rfl | h
   · simp only [bsum];omega
   · have:=uu8 r f h;simp only [bsum];omega
theorem yy1:∀ (n:Nat) (l:List UInt8) (L:List Fld),l.length<=n->zzo l=some L->L.length+bsum L<=l.length:=by
 intro n
 induction n with
 | zero =>
   intro l L hl h
   cases l with
   | nil=>rw [uue] at h;injection h with h;subst h;simp [bsum]
   | cons c t=>simp at hl
 | succ n ih =>
   intro l L hl h
   cases hl0:l with
   | nil=>rw [hl0,uue] at h;injection h with h;subst h;simp [bsum]
   | cons c t =>
     have hne:l≠[]:=by rw [hl0];simp
     rw [<-hl0]
     cases ho:wone l with
     | none=>rw [yyR hne ho] at h;cases h
     | some p =>
       obtain⟨f,r⟩:=p
       rw [xxu hne ho] at h
       have hf:=wone_flen ho
       cases hr:zzo r with
       | none=>rw [hr] at h;cases h
       | some L' =>
         rw [hr] at h
         injection h with h
         subst h
         have:=ih r L' (by omega) hr
         simp only [List.length_cons,bsum];omega
def qx9 (l:List UInt8) (w:World) (e:Ending) (w':World):Prop :=
 ∃ A n c,e=.returned (.tuple #[.slice A n c,.int .i64 (okc (zzo l).isSome 2)])/\Below w.heap.size w w'/\Sl tFld (fun b=>w.heap.size<=b) w' A n c ((zzo l).getD [])
theorem zqs (F:Nat->Prop) (A:Option Addr) (n c:Nat) (l:List UInt8) (w:World) (h:Bs F w A n c l) (hn:n<=4294967296) :
 Calls Tryz.prog 131 #[.slice A n c] w (qx9 l w):=by
 have HL:=zH h.len
 go_enter Tryz.func131,Tryz.ntmps131
 go_wp2
 go_loopw [0,4] (fun s v wr=>∃ (r:List UInt8) (L:List Fld) (A1:Option Addr) (n1 c1:Nat) (A2:Option Addr) (m c2:Nat) (G H:Nat->Prop),s=.slice A1 n1 c1/\v=.slice A2 m c2/\Bs H wr A1 n1 c1 r /\
  OwnF tFld 114 G wr w.heap.size A2 m c2 L/\(∀ b,A2=some ⟨b,0,none⟩->w.heap.size<=b->¬ H b)/\(∀ b,G b->w.heap.size<=b)/\Below w.heap.size w wr/\zzo l=(zzo r).map (L++·)/\r.length+L.length<=l.length)
  (fun s _ _=>lenV s)
 case atStart=>exact⟨l,[],A,n,c,none,0,0,fun _=>False,F,rfl,rfl,h,OwnF.nil_ _ _ _ _ _,by simp,by simp,zR,by cases zzo l <;> simp,by simp⟩
 case round =>
  obtain⟨r,L,A1,n1,c1,A2,m,c2,G,H,rfl,rfl,hs,hown,hH,hG,hb,hw,hlen⟩:=hrel
  have HR:=zH hs.len
  have hn1:n1<=4294967296:=by rw [HR.out];have:=HL.out;omega
  have hm:m<=4294967296:=by rw [hown.len];have:=HL.out;omega
  have hsz:=hb.size
  have HHH:=zH hH;have HGG:=zH hG;clear hH hG
  have HW:=zH hw;have HLEN:=zH hlen;clear hw hlen
  by_cases hlt:0<n1
  · have hne:r≠[]:=by intro h0;rw [HR.out,h0] at hlt;simp at hlt
    have HO:=zH hown;clear hown
    go_wp2_with (go_at_call 184;refine (wone_any H A1 n1 c1 r _ hs hn1).mono ?_)
    rintro e w1 ⟨tag,isb,x,A3,n3,c3,A4,n4,c4,rfl,hb1,ho1⟩
    obtain⟨ec,hec⟩:∃ ec,ec=okc (wone r).isSome 2:=⟨_,rfl⟩
    rw [<-hec]
    have HB1:=zH hb1;clear hb1
    cases hT:wone r with
    | none =>
      obtain rfl:ec=2:=by rw [hec,hT];rfl
      have hN:zzo l=none:=by rw [HW.out,yyR hne hT];rfl
      have HN:=zH hN;clear hN hT hec ho1
      go_wp2
      go_ret2
      exact⟨none,0,0,by rw [HN.out];rfl,(hb.trans (HB1.out.mono hsz)).alloc (Nat.le_trans hsz HB1.out.size) _,by rw [HN.out];exact Sl.nil_ _ _ _⟩
    | some p =>
      obtain⟨f,r'⟩:=p
      obtain rfl:ec=0:=by rw [hec,hT];rfl
      obtain⟨hrep,hs4⟩:=ho1 f r' hT
      have HREP:=zH hrep;have HS4:=zH hs4;have HT:=zH hT
      have hs4l:=hs4.len
      have HS4L:=zH hs4l
      clear hT hec ho1 hrep hs4 hs4l
      go_wp2_with (at_builtin;go_loud (refine apl1 (T:=tFld) uu2 (w1.alloc (.cells #[.int .i64 tag,.bool isb,.int .u64 (x:Int),.slice A3 n3 c3] 114)) w rfl (.tmp 19) (.tmp 21) rfl w.heap.size A2 m c2 L rfl G (fun b=>wr.heap.size<=b) ((HO.out.keepB HB1.out).alloc _) ((hb.trans (HB1.out.mono hsz)).alloc (Nat.le_trans hsz HB1.out.size) _) zN _ (by rw [zS];rfl) _ f (tFld.alloc HREP.out _) 114 rfl (fun b h1 _ _ h4=>by obtain⟨e1,_,e3⟩:=HO.out.lies (b:=b) (by simp [Value.ownBlock,h1]);omega) (by omega) ?_);intro A5 c5 w5 h5)
      go_roundw
      case rel =>
       have hw2:zzo l=(zzo r').map (L++[f]++·):=by
        rw [HW.out,xxu hne HT.out]
        cases zzo r' <;> simp
       have q1:=HB1.out.size
       have hl2:=uu7 HT.out
       refine⟨r',L++[f],A4,n4,c4,A5,m+1,c5,_,fun b=>wr.heap.size<=b/\b<w1.heap.size,rfl,rfl,?_,h5.own,?_,?_,h5.below,hw2,?_⟩
       · refine ((((HS4.out.weaken (F':=fun b=>wr.heap.size<=b/\b<w1.heap.size) (fun b h1 h2=>⟨h1,h2⟩)).alloc _).alloc _).grown h5.grown ?_)
         intro g hg
         rintro ⟨hg1,_⟩
         obtain⟨a,ha,hb⟩:=Option.map_eq_some_iff.1 hg
         have:=(HO.out.lies (b:=a.block) (by rw [ha];rfl)).2.2
         omega
       · rintro b hb _ ⟨hb1,hb2⟩
         rcases h5.lies with h6 | h6
         · rw [hb] at h6
           obtain⟨a,ha,hb3⟩:=Option.map_eq_some_iff.1 h6.symm
           have:=(HO.out.lies (b:=a.block) (by rw [ha];rfl)).2.2
           simp at hb3
           omega
         · rw [hb] at h6
           simp at h6
           omega
       · rintro b ⟨hb1 | hb1,_⟩
         · exact HGG.out b hb1
         · omega
       · have:=HLEN.out
         simp only [List.length_append,List.length_cons,List.length_nil];omega
      case measure =>
       simp only [lenV]
       have:=uu7 HT.out
       rw [HS4L.out,HR.out];exact this
  · obtain rfl:n1=0:=by omega
    have hr0:r=[]:=List.length_eq_zero_iff.1 HR.out.symm
    have hN:zzo l=some L:=by rw [HW.out,hr0,uue];simp
    have HN:=zH hN;clear hN
    have HO:=zH hown;clear hown
    go_wp2
    go_ret2
    exact⟨A2,m,c2,by rw [HN.out];rfl,hb,by rw [HN.out];exact HO.out.sl.weaken (fun b hb _=>by rcases hb with hb | hb;exact HGG.out b hb;exact hb.2)⟩
end
section
open Go Go.RowKit
theorem Sl.front {α:Type} {T:Ty α} {F:Nat->Prop} {w:World} {A:Option Addr} {n c:Nat} {xs:List α} (h:Sl T F w A n c xs) {k:Nat} (hk:k<=n):Sl T F w A k c (xs.take k):=by
 obtain⟨h1,h2,h3,css,h4,h5⟩:=h
 refine⟨by simp;omega,by omega,h3,css.take k,?_,h5.take k⟩
 rw [<-List.take_append_drop k css,List.flatten_append] at h4
 exact h4.front
theorem ofNat_toNat {n:Nat} (h:n<256):(UInt8.ofNat n).toNat=n:=by rw [UInt8.toNat_ofNat',Nat.mod_eq_of_lt h]
theorem pow_split (x i:Nat):x % 128*128 ^ i+x / 128*128 ^ (i+1)=x*128 ^ i:=by
 rw [Nat.pow_succ,Nat.mul_comm (128 ^ i) 128,<-Nat.mul_assoc,<-Nat.add_mul]
 congr 1;omega
theorem zqt (r:List UInt8):∀ (f i x y:Nat),i+f=9->(i=0∨1<=x)->x*128 ^ i<18446744073709551616->vtk (f+1) i y (yyI f x++r)=some (y+x*128 ^ i,r)
 | 0,i,x,y,hi,h0,hx=>by
   obtain rfl:i=9:=by omega
   have hx1:x=1:=by
    have:(128:Nat) ^ 9=9223372036854775808:=by decide
    rw [this] at hx;omega
   subst hx1
   rfl
 | f+1,i,x,y,hi,h0,hx=>by
   unfold yyI
   split
   · rename_i h
     show vtk (f+1+1) i y (UInt8.ofNat x::r)=_
     rw [vtk,ofNat_toNat (by omega),if_neg (by omega),if_neg (by omega)]
   · rename_i h
     show vtk (f+1+1) i y (UInt8.ofNat (x % 128+128)::(yyI f (x / 128)++r))=_
     have hs:=pow_split x i
     rw [vtk,ofNat_toNat (by omega),if_pos (by omega),zqt r f (i+1) (x / 128) _ (by omega) (.inr (by omega)) (by omega),show x % 128+128 - 128=x % 128 by omega]
     congr 2;omega
theorem xxv (x:Nat) (r:List UInt8) (h:x<18446744073709551616):zzN (vput x++r)=some (x,r):=by
 have:=zqt r 9 0 x 0 rfl (.inl rfl) (by omega)
 unfold zzN vput
 rw [this];simp
def Fld.ok (f:Fld):Prop:=jj7 f=true/\f.n<18446744073709551616/\f.b.length<18446744073709551616/\(if f.bytes then f.n=0 else f.b=[])
theorem wone_fld (f:Fld) (r:List UInt8) (h:f.ok):wone (fld f++r)=some (f,r):=by
 obtain⟨tag,bytes,n,b⟩:=f
 obtain⟨h1,h2,h3,h4⟩:=h
 simp only [jj7,Bool.and_eq_true,decide_eq_true_eq] at h1
 obtain⟨t,rfl⟩:∃ t:Nat,tag=(t:Int):=⟨tag.toNat,by omega⟩
 cases bytes with
 | false =>
   simp only [Bool.false_eq_true,if_false] at h4
   subst h4
   simp only [fld,Bool.false_eq_true,if_false,wone,List.append_assoc,Int.toNat_natCast,xxv (8*t) _ (by omega),xxv n _ h2]
   rw [if_neg (by omega),if_pos (by omega),show 8*t / 8=t by omega]
 | true =>
   simp only [if_true] at h4 h3
   subst h4
   simp only [fld,if_true,wone,List.append_assoc,Int.toNat_natCast,xxv (8*t+2) _ (by omega),xxv b.length _ h3]
   rw [if_neg (by omega),if_neg (by omega),if_neg (by simp),show (8*t+2) / 8=t by omega,List.take_left,List.drop_left]
theorem fld_pos (f:Fld):1<=(fld f).length:=by
 unfold fld
 have h1:=yyJ (8*f.tag.toNat+2)
 have h3:=yyJ (8*f.tag.toNat)
 split <;> simp <;> omega
theorem jjY:∀ (l:List Fld) (k:Nat),(∀ f∈l,f.ok)->((l.map fld).flatten).length<=k->yyk k (l.map fld).flatten=some l
 | [],k,_,_=>by cases k <;> rfl
 | f::r,k,h,hk=>by
   have hp:=fld_pos f
   have ho:=wone_fld f (r.map fld).flatten (h f (by simp))
   simp only [List.map_cons,List.flatten_cons,List.length_append] at hk ⊢
   obtain⟨k,rfl⟩:∃ k',k=k'+1:=⟨k - 1,by omega⟩
   have ih:=jjY r k (fun g hg=>h g (by simp [hg])) (by omega)
   cases hb:fld f++(r.map fld).flatten with
   | nil=>simp at hb;rw [hb.1] at hp;simp at hp
   | cons c t =>
     rw [hb] at ho
     rw [yyk,ho]
     · show (yyk k (r.map fld).flatten).map (f::·)=some (f::r)
       rw [ih];rfl
     · intro e;cases e
theorem oks_tag {l:List Fld} (h:∀ f∈l,f.ok):wput l=some (l.map fld).flatten:=wput_ok l fun f hf=>(h f hf).1
theorem xq5 (l:List Fld) (h:∀ f∈l,f.ok):zzo (dput l)=some l:=by
 unfold dput
 rw [oks_tag h]
 exact jjY l _ h zN
theorem tag_ok (t:Nat) (ht:1<=t/\t<=100):(decide ((1:Int)<=(t:Int))&&decide ((t:Int)<=100))=true:=by
 rw [Bool.and_eq_true,decide_eq_true_eq,decide_eq_true_eq];omega
theorem ok_num (t:Nat) (n:Nat) (ht:1<=t/\t<=100) (hn:n<18446744073709551616):(fnum t n).ok:=⟨tag_ok t ht,hn,by simp [fnum],rfl⟩
theorem ok_txt (t:Nat) (b:List UInt8) (ht:1<=t/\t<=100) (hb:b.length<18446744073709551616):(ftxt t b).ok:=⟨tag_ok t ht,by simp [ftxt],hb,rfl⟩
theorem forall3 {α:Type} {P:α->Prop} {a b c:α} (ha:P a) (hb:P b) (hc:P c):∀ x∈[a,b,c],P x:=by
 intro x hx
 rcases List.mem_cons.1 hx with rfl | hx
 · exact ha
 rcases List.mem_cons.1 hx with rfl | hx
 · exact hb
 rcases List.mem_cons.1 hx with rfl | hx
 · exact hc
 cases hx
theorem xqa:∀ (f i x0:Nat) (b:List UInt8) (v:Nat) (r:List UInt8),i+f=9->vtk (f+1) i x0 b=some (v,r)->∃ y,b=yyI f y++r/\v=x0+y*128 ^ i/\y<2*128 ^ f/\(0<i->1<=y)
 | _,_,_,[],_,_,_,h=>by simp [vtk] at h
 | f,i,x0,c::t,v,r,hi,h=>by
   have hc:=c.toNat_lt
   unfold vtk at h
   by_cases h1:128<=c.toNat
   · rw [if_pos h1] at h
     cases f with
     | zero=>simp [vtk] at h
     | succ f =>
       obtain⟨y,e1,e2,e3,e4⟩:=xqa f (i+1) _ t v r (by omega) h
       have hy:=e4 (by omega)
       refine⟨(c.toNat - 128)+128*y,?_,?_,?_,fun _=>by omega⟩
       · unfold yyI
         rw [if_neg (by omega),show ((c.toNat - 128)+128*y) % 128+128=c.toNat by omega,show ((c.toNat - 128)+128*y) / 128=y by omega,UInt8.ofNat_toNat,e1]
         rfl
       · rw [e2,Nat.pow_succ,Nat.add_mul]
         rw [show y*(128 ^ i*128)=128*y*128 ^ i by rw [Nat.mul_comm (128 ^ i) 128,<-Nat.mul_assoc,Nat.mul_comm y 128]]
         omega
       · rw [Nat.pow_succ];omega
   · rw [if_neg h1] at h
     by_cases h2:c.toNat=0/\0<i∨i=9/\1<c.toNat
     · rw [if_pos h2] at h;cases h
     · rw [if_neg h2] at h
       injection h with h
       injection h with h3 h4
       subst h3 h4
       refine⟨c.toNat,?_,rfl,?_,fun _=>by omega⟩
       · cases f with
         | zero=>simp [yyI]
         | succ f=>unfold yyI;rw [if_pos (by omega)];simp
       · cases f with
         | zero=>simp;omega
         | succ f =>
           have:0<128 ^ f:=Nat.pow_pos (by omega)
           rw [Nat.pow_succ];omega
theorem yyS {b:List UInt8} {y:Nat} {r:List UInt8} (h:zzN b=some (y,r)):b=vput y++r/\y<18446744073709551616:=by
 obtain⟨z,e1,e2,e3,_⟩:=xqa 9 0 0 b y r rfl h
 have e:y=z:=by omega
 subst e
 have e5:(2:Nat)*128 ^ 9=18446744073709551616:=by decide
 exact⟨e1,by omega⟩
theorem uuz:∀ (f y:Nat),y<128 ^ (f+1)->∃ a c,yyI f y=a++[c]/\(∀ x∈a,128<=x.toNat)/\c.toNat<128/\a.length<=f
 | 0,y,h=>⟨[],UInt8.ofNat y,rfl,by simp,by rw [ofNat_toNat (by omega)];omega,Nat.le_refl _⟩
 | f+1,y,h=>by
   unfold yyI
   by_cases h1:y<128
   · rw [if_pos h1]
     exact⟨[],UInt8.ofNat y,rfl,by simp,by rw [ofNat_toNat (by omega)];omega,by simp⟩
   · rw [if_neg h1]
     obtain⟨a,c,e1,e2,e3,e4⟩:=uuz f (y / 128) (by rw [Nat.pow_succ] at h;exact Nat.div_lt_of_lt_mul (by omega))
     refine⟨UInt8.ofNat (y % 128+128)::a,c,by rw [e1];rfl,fun x hx=>?_,e3,by simp;omega⟩
     rcases List.mem_cons.1 hx with rfl | hx
     · rw [ofNat_toNat (by omega)];omega
     · exact e2 x hx
def hz:List UInt8->Nat
 | []=>0
 | c::r=>c.toNat % 128+128*hz r
theorem xqb:∀ (f y:Nat),y<128 ^ (f+1)->hz (yyI f y)=y
 | 0,y,h=>by simp only [yyI,hz];rw [ofNat_toNat (by omega)];omega
 | f+1,y,h=>by
   unfold yyI
   by_cases h1:y<128
   · rw [if_pos h1];simp only [hz];rw [ofNat_toNat (by omega)];omega
   · rw [if_neg h1]
     have ih:=xqb f (y / 128) (by rw [Nat.pow_succ] at h;exact Nat.div_lt_of_lt_mul (by omega))
     simp only [hz];rw [ih,ofNat_toNat (by omega)];omega
theorem u64_pow:(18446744073709551616:Nat)<=128 ^ (9+1):=by decide
def xqc (b:List UInt8) (k:Nat):Prop:=(∀ i (h:i<b.length),i<k->128<=(b[i]'h).toNat)/\k<=9/\k<=b.length
theorem xq6 {b:List UInt8} {k:Nat} (h:xqc b k) (hk:k=b.length):zzN b=none:=by
 cases hv:zzN b with
 | none=>rfl
 | some p =>
   obtain⟨y,r⟩:=p
   obtain⟨e,hy⟩:=yyS hv
   obtain⟨a,c,e1,_,e3,_⟩:=uuz 9 y (Nat.lt_of_lt_of_le hy u64_pow)
   have e':b=a++(c::r):=by rw [e];unfold vput;rw [e1];simp
   have hl:a.length<b.length:=by rw [e'];simp
   have h1:=h.1 a.length hl (by omega)
   have h2:b[a.length]'hl=c:=by
    have:b[a.length]?=some c:=by rw [e',List.getElem?_append_right zN];simp
    rw [List.getElem?_eq_getElem hl] at this
    exact Option.some.inj this
   rw [h2] at h1
   omega
theorem stands_at {b:List UInt8} {k y:Nat} {r:List UInt8} (h:xqc b k) (hk:k<b.length) (hx:k=9∨(b[k]'hk).toNat<128) (hv:zzN b=some (y,r)):b.take (k+1)=vput y/\b.drop (k+1)=r/\hz (b.take (k+1))=y/\y<18446744073709551616:=by
 obtain⟨e,hy⟩:=yyS hv
 have hy2:=Nat.lt_of_lt_of_le hy u64_pow
 obtain⟨a,c,e1,e2,e3,e4⟩:=uuz 9 y hy2
 have e':b=a++(c::r):=by rw [e];unfold vput;rw [e1];simp
 have hka:k=a.length:=by
  rcases Nat.lt_trichotomy k a.length with hlt | heq | hgt
  · exfalso
    have h2:b[k]'hk=a[k]'hlt:=by
     have:b[k]?=some (a[k]'hlt):=by rw [e',List.getElem?_append_left hlt,List.getElem?_eq_getElem hlt]
     rw [List.getElem?_eq_getElem hk] at this
     exact Option.some.inj this
    have h3:=e2 _ (List.getElem_mem hlt)
    rcases hx with hx | hx
    · omega
    · rw [h2] at hx;omega
  · exact heq
  · exfalso
    have hl:a.length<b.length:=by omega
    have h1:=h.1 a.length hl hgt
    have h2:b[a.length]'hl=c:=by
     have:b[a.length]?=some c:=by rw [e',List.getElem?_append_right zN];simp
     rw [List.getElem?_eq_getElem hl] at this
     exact Option.some.inj this
    rw [h2] at h1;omega
 have e5:b.take (k+1)=vput y:=by
  unfold vput
  rw [e1,e',hka,show a++c::r=(a++[c])++r by simp,show a.length+1=(a++[c]).length by simp,List.take_left]
 have e6:b.drop (k+1)=r:=by
  rw [e',hka,show a++c::r=(a++[c])++r by simp,show a.length+1=(a++[c]).length by simp,List.drop_left]
 exact⟨e5,e6,by rw [e5];exact xqb 9 y hy2,hy⟩
theorem rtake_yes {b:List UInt8} {k x:Nat} (hx:x<18446744073709551616) (he:vput x=b.take (k+1)):zzN b=some (x,b.drop (k+1)):=by
 have:b=vput x++b.drop (k+1):=by rw [he,List.take_append_drop]
 rw [this,xxv x _ hx]
 rw [<-this]
theorem rtake_no {b:List UInt8} {k:Nat} (h:xqc b k) (hk:k<b.length) (hx:k=9∨(b[k]'hk).toNat<128) (hne:vput (hz (b.take (k+1)) % 18446744073709551616)≠b.take (k+1)):zzN b=none:=by
 cases hv:zzN b with
 | none=>rfl
 | some p =>
   obtain⟨y,r⟩:=p
   obtain⟨e1,_,e3,e4⟩:=stands_at h hk hx hv
   exfalso
   apply hne
   rw [e3,Nat.mod_eq_of_lt e4,e1]
theorem wone_some {b:List UInt8} {f:Fld} {r:List UInt8} (h:wone b=some (f,r)):b=fld f++r/\f.ok:=by
 unfold wone at h
 cases h1:zzN b with
 | none=>rw [h1] at h;cases h
 | some p =>
   obtain⟨key,r1⟩:=p
   rw [h1] at h
   dsimp only at h
   cases h2:zzN r1 with
   | none=>rw [h2] at h;cases h
   | some q =>
     obtain⟨n,r2⟩:=q
     rw [h2] at h
     dsimp only at h
     obtain⟨e1,hk⟩:=yyS h1
     obtain⟨e2,hn⟩:=yyS h2
     by_cases c1:key / 8<1∨100<key / 8∨¬ (key % 8=0∨key % 8=2)
     · rw [if_pos c1] at h;cases h
     · rw [if_neg c1] at h
       by_cases c2:key % 8=0
       · rw [if_pos c2] at h
         injection h with h;injection h with h3 h4
         subst h3 h4
         refine⟨?_,?_⟩
         · simp only [fld,Bool.false_eq_true,if_false,Int.toNat_natCast]
           rw [show 8*(key / 8)=key by omega,List.append_assoc,<-e2,<-e1]
         · exact ok_num (key / 8) n (by omega) hn
       · rw [if_neg c2] at h
         by_cases c3:r2.length<n
         · rw [if_pos c3] at h;cases h
         · rw [if_neg c3] at h
           injection h with h;injection h with h3 h4
           subst h3 h4
           have hl:(r2.take n).length=n:=by rw [List.length_take];omega
           refine⟨?_,?_⟩
           · simp only [fld,if_true,Int.toNat_natCast,hl]
             rw [show 8*(key / 8)+2=key by omega,List.append_assoc,List.append_assoc,List.take_append_drop,<-e2,<-e1]
           · exact ok_txt (key / 8) (r2.take n) (by omega) (by rw [hl];exact hn)
theorem jjZ:∀ (k:Nat) (b:List UInt8) (l:List Fld),yyk k b=some l->(l.map fld).flatten=b/\∀ f∈l,f.ok
 | 0,[],l,h=>by simp [yyk] at h;subst h;simp
 | k+1,[],l,h=>by simp [yyk] at h;subst h;simp
 | 0,c::t,l,h=>by simp [yyk] at h
 | k+1,c::t,l,h=>by
   rw [yyk] at h
   · cases h1:wone (c::t) with
     | none=>rw [h1] at h;cases h
     | some p =>
       obtain⟨f,r⟩:=p
       rw [h1] at h
       dsimp only at h
       obtain⟨e1,e2⟩:=wone_some h1
       cases h2:yyk k r with
       | none=>rw [h2] at h;cases h
       | some m =>
         rw [h2] at h
         have h3:f::m=l:=Option.some.inj h
         subst h3
         obtain⟨e3,e4⟩:=jjZ k r m h2
         refine⟨by rw [List.map_cons,List.flatten_cons,e3,<-e1],fun g hg=>?_⟩
         rcases List.mem_cons.1 hg with rfl | hg
         · exact e2
         · exact e4 g hg
   · intro e;cases e
theorem vvN {b:List UInt8} {l:List Fld} (h:zzo b=some l):dput l=b/\∀ f∈l,f.ok:=by
 obtain⟨e1,e2⟩:=jjZ _ b l h
 refine⟨?_,e2⟩
 unfold dput
 rw [oks_tag e2];exact e1
def xxw (l:List Fld):Option (Fld×Fld×Fld) :=
 match l with
 | [f1,f2,f3]=>if f1.tag=1/\f1.bytes=false/\f2.tag=2/\f2.bytes=false/\f3.tag=3/\f3.bytes=true then some (f1,f2,f3) else none
 | _=>none
def kqG (p:Fld×Fld×Fld):VV:=⟨p.1.n=1,zagI p.2.1.n,⟨p.2.2.b.toArray⟩⟩
def yyq (b:List UInt8):Option VV :=
 match (zzo b).bind xxw with
 | none=>none
 | some p=>if zzZ (kqG p)=b then some (kqG p) else none
theorem vvO {l:List Fld} {p:Fld×Fld×Fld} (h:xxw l=some p):l=[p.1,p.2.1,p.2.2]/\p.1.tag=1/\p.1.bytes=false/\p.2.1.tag=2/\p.2.1.bytes=false/\p.2.2.tag=3/\p.2.2.bytes=true:=by
 match l,h with
 | [f1,f2,f3],h =>
   unfold xxw at h
   dsimp only at h
   split at h
   · rename_i hc
     injection h with h
     subst h
     exact⟨rfl,hc⟩
   · cases h
theorem xx5 (b:List UInt8):zzr b=match (zzo b).bind xxw with | none=>none | some p=>if p.1.n<=1 then some (kqG p) else none:=by
 unfold zzr
 cases hw:zzo b with
 | none=>rfl
 | some l =>
   rw [Option.bind_some]
   unfold xxw
   match l with
   | []=>rfl
   | [_]=>rfl
   | [_,_]=>rfl
   | _::_::_::_::_=>rfl
   | [f1,f2,f3] =>
     dsimp only
     by_cases hc:f1.tag=1/\f1.bytes=false/\f2.tag=2/\f2.bytes=false/\f3.tag=3/\f3.bytes=true
     · rw [if_pos hc]
       dsimp only
       obtain⟨a1,a2,a3,a4,a5,a6⟩:=hc
       by_cases h1:f1.n<=1
       · rw [if_pos ⟨a1,a2,a3,a4,a5,a6,h1⟩,if_pos h1];rfl
       · rw [if_neg (by rintro ⟨_,_,_,_,_,_,h⟩;exact h1 h),if_neg h1]
     · rw [if_neg hc,if_neg (by rintro ⟨a1,a2,a3,a4,a5,a6,_⟩;exact hc ⟨a1,a2,a3,a4,a5,a6⟩)]
theorem qxd {f g:Fld} (h1:f.tag=g.tag) (h2:f.bytes=g.bytes) (h3:f.n=g.n) (h4:f.b=g.b):f=g:=by cases f;cases g;simp_all
theorem uuf (b:List UInt8):yyq b=zzr b:=by
 rw [xx5]
 unfold yyq
 cases hw:zzo b with
 | none=>rfl
 | some l =>
   rw [Option.bind_some]
   cases hs:xxw l with
   | none=>rfl
   | some p =>
     dsimp only
     obtain⟨f1,f2,f3⟩:=p
     obtain⟨e,a1,a2,a3,a4,a5,a6⟩:=vvO hs
     dsimp only at e a1 a2 a3 a4 a5 a6
     obtain⟨hd,hok⟩:=vvN hw
     have k1:=hok f1 (by rw [e];simp)
     have k2:=hok f2 (by rw [e];simp)
     have k3:=hok f3 (by rw [e];simp)
     have g1:f1=fnum 1 f1.n:=qxd a1 a2 rfl (by have:=k1.2.2.2;rw [a2] at this;simpa [fnum] using this)
     have g2:f2=fnum 2 f2.n:=qxd a3 a4 rfl (by have:=k2.2.2.2;rw [a4] at this;simpa [fnum] using this)
     have g3:f3=ftxt 3 f3.b:=qxd a5 a6 (by have:=k3.2.2.2;rw [a6] at this;simpa [ftxt] using this) rfl
     have hF:zzQ (kqG (f1,f2,f3))=[fnum 1 (b2n (f1.n=1:Bool)),f2,f3]:=by
      unfold zzQ kqG
      dsimp only
      rw [zig_zag,<-g2,<-g3]
     by_cases h1:f1.n<=1
     · have hn:b2n (f1.n=1:Bool)=f1.n:=by
        have:f1.n=0∨f1.n=1:=by omega
        rcases this with h | h <;> rw [h] <;> rfl
       rw [if_pos h1,if_pos]
       unfold zzZ
       rw [hF,hn,<-g1,<-e,hd]
     · rw [if_neg h1,if_neg]
       intro hp
       unfold zzZ at hp
       rw [hF] at hp
       have hok2:∀ f∈[fnum 1 (b2n (f1.n=1:Bool)),f2,f3],f.ok:=forall3 (ok_num 1 _ (by omega) (jjJ _)) k2 k3
       have:=xq5 _ hok2
       rw [hp,hw,e] at this
       injection this with this
       injection this with this
       have h5:f1.n=b2n (f1.n=1:Bool):=congrArg Fld.n this
       have:b2n (f1.n=1:Bool)<=1:=by unfold b2n;split <;> omega
       omega
end
section
open Go Go.RowKit
structure FldC (b p:Nat) (t:Int) (is:Bool) (x:Nat) (A:Option Addr) (n c:Nat) (W:World):Prop where
 c0:W.cell? ⟨b,p,none⟩=some (.int .i64 t)
 c1:W.cell? ⟨b,p+1,none⟩=some (.bool is)
 c2:W.cell? ⟨b,p+2,none⟩=some (.int .u64 (x:Int))
 c3:W.cell? ⟨b,p+3,none⟩=some (.slice A n c)
theorem FldC.keep {b p:Nat} {t:Int} {is:Bool} {x:Nat} {A:Option Addr} {n c:Nat} {W W':World} (h:FldC b p t is x A n c W) (hb:Below W.heap.size W W'):FldC b p t is x A n c W':=⟨zzh hb h.c0,zzh hb h.c1,zzh hb h.c2,zzh hb h.c3⟩
theorem fld_atF {F:Nat->Prop} {w:World} {A:Option Addr} {n c:Nat} {l:List Fld} (h:Sl tFld F w A n c l) {k:Nat} (hk:k<l.length) :
 ∃ b o A1 n1 c1,A=some ⟨b,o,none⟩/\FldC b (o+k*4) l[k].tag l[k].bytes l[k].n A1 n1 c1 w/\Sl tU8 F w A1 n1 c1 l[k].b/\l[k].n<18446744073709551616/\F b:=by
 obtain⟨b,o,cs,e,hF,_,hr,hc⟩:=h.at_ hk (by decide)
 obtain⟨A1,n1,c1,rfl,_,hx,hs⟩:=hr
 obtain⟨g0,g1,g2,g3⟩:=xxN hc
 exact⟨b,o,A1,n1,c1,e,⟨g0,g1,g2,g3⟩,hs,hx,hF⟩
theorem yym {F:Nat->Prop} {w:World} {A:Option Addr} {n c:Nat} {l:List Fld} (h:Sl tFld F w A n c l) {k:Nat} (hk:k<l.length) :
 ∃ b o A1 n1 c1,A=some ⟨b,o,none⟩/\FldC b (o+k*4) l[k].tag l[k].bytes l[k].n A1 n1 c1 w/\Sl tU8 F w A1 n1 c1 l[k].b/\l[k].n<18446744073709551616:=by
 obtain⟨b,o,A1,n1,c1,h1,h2,h3,h4,_⟩:=fld_atF h hk
 exact⟨b,o,A1,n1,c1,h1,h2,h3,h4⟩
end
end Go.Proofs.YtpmglcachffojaaGreatDoor
