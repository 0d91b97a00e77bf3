/- A part of what Indexes leans on. -/
import Derived.Test.YtpmglcachffojaaGreatDoorZ41
set_option maxRecDepth 100000
set_option maxHeartbeats 16000000
namespace Go.Proofs.YtpmglcachffojaaGreatDoor
section
open Go Go.RowKit Go.Shelf
attribute [local go_sem] Oper.semAt_some
structure SpW (g:Nat) (A:Option Addr) (n c:Nat) (w wb:World):Prop where
 eq:wb=((((w.alloc (.cells #[.pointer (some ⟨g,0,none⟩)] 45)).alloc (.cells #[.slice A n c] 34)).alloc (.cells #[.slice none 0 0] 41)).alloc (.cells #[.slice none 0 0] 42)).alloc (.cells #[.int .i64 0] 28)
 below:Below w.heap.size w wb
 size:wb.heap.size=w.heap.size+5
 t:wb.heap[w.heap.size]?=some (.cells #[.pointer (some ⟨g,0,none⟩)] 45 (0,0))
 c:wb.heap[w.heap.size+1]?=some (.cells #[.slice A n c] 34 (0,0))
 r1:wb.heap[w.heap.size+1+1]?=some (.cells #[.slice none 0 0] 41 (0,0))
 r2:wb.heap[w.heap.size+1+1+1]?=some (.cells #[.slice none 0 0] 42 (0,0))
 r3:wb.heap[w.heap.size+1+1+1+1]?=some (.cells #[.int .i64 0] 28 (0,0))
theorem spW (g:Nat) (A:Option Addr) (n c:Nat) (w:World):∃ wb,SpW g A n c w wb:=by
 refine⟨_,rfl,?_,by simp,?_,?_,?_,?_,?_⟩
 · exact (((((Below.refl _ w).alloc zN _).alloc (by simp) _).alloc (by simp;omega) _).alloc (by simp;omega) _).alloc (by simp;omega) _
 · exact zzd (zzd (zzd (zzd (zzp rfl _) _) _) _) _
 · exact zzd (zzd (zzd (zzp (by simp) _) _) _) _
 · exact zzd (zzd (zzp (by simp) _) _) _
 · exact zzd (zzp (by simp) _) _
 · exact zzp (by simp) _
theorem SpW.call {g:Nat} {A:Option Addr} {n c:Nat} {w wb w1:World} (_:SpW g A n c w wb) (hb:Below wb.heap.size wb w1) {b:Nat} {o:Obj} (hl:wb.heap[b]?=some o):w1.heap[b]?=some o:=(hb.block b (zzc hl)).trans hl
theorem kqE {P:Program} {fn:Func} {p q u:Tmp} {t1 t2 t3:TypeId} (h:fn.results=#[.cell p t1,.cell q t2,.cell u t3]) (tmps:Array Value) (w:World) (g1 g2 g3:Nat) (v1 v2 v3:Value)
 (hp:tmps.getD p undef=.pointer (some ⟨g1,0,none⟩)) (hq:tmps.getD q undef=.pointer (some ⟨g2,0,none⟩)) (hu:tmps.getD u undef=.pointer (some ⟨g3,0,none⟩))
 (h1:(loadVar t1 ⟨g1,0,none⟩).run P w=.ok v1 w) (h2:(loadVar t2 ⟨g2,0,none⟩).run P w=.ok v2 w) (h3:(loadVar t3 ⟨g3,0,none⟩).run P w=.ok v3 w) :
 (results fn tmps).run P w=.ok (.tuple #[v1,v2,v3]) w:=by
 have hp':tmps[p]?.getD undef=.pointer (some ⟨g1,0,none⟩):=by simpa using hp
 have hq':tmps[q]?.getD undef=.pointer (some ⟨g2,0,none⟩):=by simpa using hq
 have hu':tmps[u]?.getD undef=.pointer (some ⟨g3,0,none⟩):=by simpa using hu
 simp [results,h,hp',hq',hu',asAddr,h1,h2,h3]
theorem zqn {w:World} {g:Nat} {v:Value} (h:w.cell? ⟨g,0,none⟩=some v):(loadVar 41 ⟨g,0,none⟩).run Tryz.prog w=.ok v w:=by
 simp [go_sem,h]
theorem zqo {w:World} {g:Nat} {v:Value} (h:w.cell? ⟨g,0,none⟩=some v):(loadVar 42 ⟨g,0,none⟩).run Tryz.prog w=.ok v w:=by
 simp [go_sem,h]
theorem zqp {w1:World} {s:Nat} {u1 u2 u3:Value} {t1 t2 t3:TypeId} (v1 v2 v3:Value) (h1:w1.heap[s+1+1]?=some (.cells #[u1] t1 (0,0))) (h2:w1.heap[s+1+1+1]?=some (.cells #[u2] t2 (0,0))) (h3:w1.heap[s+1+1+1+1]?=some (.cells #[u3] t3 (0,0))) :
 (((w1.setCell ⟨s+1+1,0,none⟩ v1).setCell ⟨s+1+1+1,0,none⟩ v2).setCell ⟨s+1+1+1+1,0,none⟩ v3).heap[s+1+1]?=some (.cells #[v1] t1 (0,0)) /\
 (((w1.setCell ⟨s+1+1,0,none⟩ v1).setCell ⟨s+1+1+1,0,none⟩ v2).setCell ⟨s+1+1+1+1,0,none⟩ v3).heap[s+1+1+1]?=some (.cells #[v2] t2 (0,0)) /\
 (((w1.setCell ⟨s+1+1,0,none⟩ v1).setCell ⟨s+1+1+1,0,none⟩ v2).setCell ⟨s+1+1+1+1,0,none⟩ v3).heap[s+1+1+1+1]?=some (.cells #[v3] t3 (0,0)) :=
 ⟨zzf (zzf (zza h1 rfl) (by omega)) (by omega),zzf (zza (zzf h2 (by omega)) rfl) (by omega),zza (zzf (zzf h3 (by omega)) (by omega)) rfl⟩
theorem zqq {w w1:World} {s B:Nat} (hB:B<=s) (h:Below B w w1) (v1 v2 v3:Value):Below B w (((w1.setCell ⟨s+1+1,0,none⟩ v1).setCell ⟨s+1+1+1,0,none⟩ v2).setCell ⟨s+1+1+1+1,0,none⟩ v3) :=
 zzi (zzi (zzi h (by omega) _) (by omega) _) (by omega) _
theorem sput_no (g:Nat) (F F2:Nat->Prop) (A A2:Option Addr) (n c n2 c2:Nat) (cols:List CC) (rows:List RR) (w:World) (h:Sl tCol F w A n c cols) (h2:Sl tRow F2 w A2 n2 c2 rows) (hn:n<=4096) (hn2:n2<=4096) (hU:Lib.Utf8Tabs 0 1 w) (hE:putE cols rows≠0) :
 Calls Tryz.prog 20 #[.pointer (some ⟨g,0,none⟩),.slice A n c,.slice A2 n2 c2] w (qx8 cols rows w):=by
 have HL:=zH h.len;have HL2:=zH h2.len;have HN:=zH hn;have HN2:=zH hn2
 have hd:=put_no hE
 suffices hs:Calls Tryz.prog 20 #[.pointer (some ⟨g,0,none⟩),.slice A n c,.slice A2 n2 c2] w (fun e w'=>e=.returned (.tuple #[.slice none 0 0,.slice none 0 0,.int .i64 (putE cols rows)])/\Below w.heap.size w w') by
  refine hs.mono ?_
  rintro e w' ⟨rfl,hb⟩
  unfold qx8
  rw [hd.1,hd.2]
  exact⟨none,0,0,none,0,0,rfl,Sl.nil_ _ _ _,Sl.nil_ _ _ _,hb⟩
 clear hd
 obtain⟨wb,hw⟩:=spW g A n c w
 have HW:=zH hw
 have HH:=zH (h.below hw.below zN);have HH2:=zH (h2.below hw.below zN);have HU:=zH (zzb hU hw.below)
 have HSZ:=zH hw.size
 have fin:∀ (w1:World) (tm:Array Value) (er:Int),Below wb.heap.size wb w1->tm.getD 6 undef=.pointer (some ⟨w.heap.size+1+1,0,none⟩)->tm.getD 7 undef=.pointer (some ⟨w.heap.size+1+1+1,0,none⟩)->tm.getD 8 undef=.pointer (some ⟨w.heap.size+1+1+1+1,0,none⟩) ->
  (results Tryz.f20 tm).run Tryz.prog (((w1.setCell ⟨w.heap.size+1+1,0,none⟩ (.slice none 0 0)).setCell ⟨w.heap.size+1+1+1,0,none⟩ (.slice none 0 0)).setCell ⟨w.heap.size+1+1+1+1,0,none⟩ (.int .i64 er))=.ok (.tuple #[.slice none 0 0,.slice none 0 0,.int .i64 er]) (((w1.setCell ⟨w.heap.size+1+1,0,none⟩ (.slice none 0 0)).setCell ⟨w.heap.size+1+1+1,0,none⟩ (.slice none 0 0)).setCell ⟨w.heap.size+1+1+1+1,0,none⟩ (.int .i64 er)):=fun w1 tm er hb a6 a7 a8=>by
  obtain⟨k1,k2,k3⟩:=zqp (.slice none 0 0) (.slice none 0 0) (.int .i64 er) (HW.out.call hb HW.out.r1) (HW.out.call hb HW.out.r2) (HW.out.call hb HW.out.r3)
  exact kqE rfl _ _ _ _ _ _ _ _ a6 a7 a8 (zqn (by rw [zC k1];rfl)) (zqo (by rw [zC k2];rfl)) (jjQ (by rw [zC k3];rfl))
 have finb:∀ (w1:World) (er:Int),Below wb.heap.size wb w1->Below w.heap.size w (((w1.setCell ⟨w.heap.size+1+1,0,none⟩ (.slice none 0 0)).setCell ⟨w.heap.size+1+1+1,0,none⟩ (.slice none 0 0)).setCell ⟨w.heap.size+1+1+1+1,0,none⟩ (.int .i64 er)) :=
  fun w1 er hb=>zqq zN (HW.out.below.trans (hb.mono (by have:=HSZ.out;omega))) _ _ _
 have FIN:=zH fin;have FINB:=zH finb
 clear hw h h2 hn hn2 hU fin finb
 have q0:wb.cell? ⟨w.heap.size+1,0,none⟩=some (.slice A n c):=by rw [zC HW.out.c];rfl
 refine (callsIn_wide (n:=3)).1 ?_
 refine callsIn_of_wp_marks Tryz.func20 rfl trivial ?_ rfl
 simp only [Tryz.ntmps20,List.size_toArray,List.length_cons,List.length_nil,Nat.reduceAdd,Nat.reduceSub,Array.replicate_succ,Array.replicate_zero,List.push_toArray,List.append_toArray,List.nil_append,List.cons_append]
 cases hs:schB cols with
 | false =>
   have HE:=zH (qx4 (rows:=rows) hs)
   have HS:=zH (uuy hs)
   clear hs hE
   gi_wp2
   refine⟨trivial,?_⟩
   rw [<-HW.out.eq]
   refine (callsIn_wide.2 (vvq F A n c cols _ HH.out)).mono ?_
   rintro e w1 ⟨rfl,hb1⟩
   rw [HS.out]
   have HB1:=zH hb1
   have z1:=zF (HW.out.call hb1 HW.out.r1) 0
   have z2:=zF (HW.out.call hb1 HW.out.r2) 0
   have z3:=zF (HW.out.call hb1 HW.out.r3) 0
   have y1:w1.cell? ⟨w.heap.size+1+1,0,none⟩=some (.slice none 0 0):=by rw [zC (HW.out.call hb1 HW.out.r1)];rfl
   have y2:w1.cell? ⟨w.heap.size+1+1+1,0,none⟩=some (.slice none 0 0):=by rw [zC (HW.out.call hb1 HW.out.r2)];rfl
   have y3:w1.cell? ⟨w.heap.size+1+1+1+1,0,none⟩=some (.int .i64 0):=by rw [zC (HW.out.call hb1 HW.out.r3)];rfl
   clear hb1
   gi_wp2
   refine⟨_,FIN.out w1 _ 20 HB1.out ?_ ?_ ?_,?_⟩
   · rfl
   · rfl
   · rfl
   · rw [HE.out];exact⟨rfl,FINB.out w1 20 HB1.out⟩
 | true =>
   have HS:=zH (qze hs)
   by_cases h32:rows.length<=32
   · have hall:rows.all (rowB cols)=false:=by
      cases hq:rows.all (rowB cols) with
      | false=>rfl
      | true=>exact absurd (zq9 hs h32 hq) hE
     have HE:=zH (qx6 hs h32 hall)
     have HA:=zH hall
     have c1:¬ (n2:Int) > 32:=by have:=HL2.out;omega
     have HN32:=zH (show n2<=32 by have:=HL2.out;omega)
     clear hs hE h32 hall
     gi_wp2
     refine⟨trivial,?_⟩
     rw [<-HW.out.eq]
     refine (callsIn_wide.2 (vvq F A n c cols _ HH.out)).mono ?_
     rintro e w1 ⟨rfl,hb1⟩
     rw [HS.out]
     have HB1:=zH hb1
     clear hb1
     gi_wp2
     gi_loopw [29] (fun iv wr=>∃ i:Nat,i<=n2/\iv=.int .i64 (i:Int)/\Below wb.heap.size wb wr/\(rows.take i).all (rowB cols)=true) (fun iv _=>n2 - (intOf iv).toNat)
     case atStart=>exact⟨0,Nat.zero_le _,rfl,HB1.out,by rw [List.take_zero];rfl⟩
     case round =>
      obtain⟨i,hi,rfl,hb,hv⟩:=hrel
      have HB:=zH hb;have HV:=zH hv
      clear hb hv
      by_cases hlt:i<n2
      · have hil:i<rows.length:=by rw [<-HL2.out];exact hlt
        obtain⟨b,o,cs,rfl,_,_,hrep,hc⟩:=(HH2.out.below HB.out zN).at_ hil (by decide)
        obtain⟨r,hr⟩:∃ r,r=rows[i]:=⟨_,rfl⟩
        rw [<-hr] at hrep
        have HR:=zH hr
        obtain⟨A3,n3,c3,rfl,h3⟩:=hrep
        have H3:=zH h3
        have y:=hc 0 _ rfl
        have y:wr.cell? ⟨b,o+i,none⟩=some (.slice A3 n3 c3):=by
         have e:o+(i*tRow.size+0)=o+i:=by show o+(i*1+0)=o+i;omega
         rw [e] at y;exact y
        have i0:(0:Int)<=(i:Int):=by omega
        have i1:(i:Int)<(n2:Int):=by omega
        have i2:(i:Int)<=32:=by have:=HN32.out;omega
        have q1:wr.cell? ⟨w.heap.size+1,0,none⟩=some (.slice A n c):=by rw [zC (HW.out.call HB.out HW.out.c)];rfl
        clear hc hr h3
        cases hrb:rowB cols r with
        | false =>
          have HRE:=zH (zqR hrb)
          clear hrb
          gi_wp2
          refine⟨trivial,?_⟩
          refine (callsIn_wide.2 (zqS F _ A A3 n c n3 c3 cols r _ (HH.out.below HB.out zN) H3.out HN.out (zzb HU.out HB.out))).mono ?_
          rintro e w3 ⟨rfl,hb3⟩
          rw [HRE.out]
          have HB3:=zH (HB.out.trans (hb3.mono HB.out.size))
          clear hb3
          have z1:=zF (HW.out.call HB3.out HW.out.r1) 0
          have z2:=zF (HW.out.call HB3.out HW.out.r2) 0
          have z3:=zF (HW.out.call HB3.out HW.out.r3) 0
          have y1:w3.cell? ⟨w.heap.size+1+1,0,none⟩=some (.slice none 0 0):=by rw [zC (HW.out.call HB3.out HW.out.r1)];rfl
          have y2:w3.cell? ⟨w.heap.size+1+1+1,0,none⟩=some (.slice none 0 0):=by rw [zC (HW.out.call HB3.out HW.out.r2)];rfl
          have y3:w3.cell? ⟨w.heap.size+1+1+1+1,0,none⟩=some (.int .i64 0):=by rw [zC (HW.out.call HB3.out HW.out.r3)];rfl
          gi_wp2
          refine⟨_,FIN.out w3 _ 21 HB3.out ?_ ?_ ?_,?_⟩
          · rfl
          · rfl
          · rfl
          · rw [HE.out];exact⟨rfl,FINB.out w3 21 HB3.out⟩
        | true =>
          have HRE:=zH (qza hrb)
          have HV2:=zH (show (rows.take (i+1)).all (rowB cols)=true by rw [vv3 hil HR.out,HV.out];exact hrb)
          clear hrb
          gi_wp2
          refine⟨trivial,?_⟩
          refine (callsIn_wide.2 (zqS F _ A A3 n c n3 c3 cols r _ (HH.out.below HB.out zN) H3.out HN.out (zzb HU.out HB.out))).mono ?_
          rintro e w3 ⟨rfl,hb3⟩
          rw [HRE.out]
          have HB3:=zH (HB.out.trans (hb3.mono HB.out.size))
          clear hb3
          gi_wp2
          go_roundw
          case rel=>exact⟨i+1,by omega,by go_num,HB3.out,HV2.out⟩
          case measure=>simp [intOf];omega
      · obtain rfl:i=n2:=by omega
        have h1:=HV.out
        rw [zL (by rw [<-HL2.out];exact Nat.le_refl _),HA.out] at h1
        cases h1
   · have HE:=zH (qx5 hs h32)
     have c1:(n2:Int) > 32:=by have:=HL2.out;omega
     clear hs hE h32
     gi_wp2
     refine⟨trivial,?_⟩
     rw [<-HW.out.eq]
     refine (callsIn_wide.2 (vvq F A n c cols _ HH.out)).mono ?_
     rintro e w1 ⟨rfl,hb1⟩
     rw [HS.out]
     have HB1:=zH hb1
     clear hb1
     have z1:=zF (HW.out.call HB1.out HW.out.r1) 0
     have z2:=zF (HW.out.call HB1.out HW.out.r2) 0
     have z3:=zF (HW.out.call HB1.out HW.out.r3) 0
     have y1:w1.cell? ⟨w.heap.size+1+1,0,none⟩=some (.slice none 0 0):=by rw [zC (HW.out.call HB1.out HW.out.r1)];rfl
     have y2:w1.cell? ⟨w.heap.size+1+1+1,0,none⟩=some (.slice none 0 0):=by rw [zC (HW.out.call HB1.out HW.out.r2)];rfl
     have y3:w1.cell? ⟨w.heap.size+1+1+1+1,0,none⟩=some (.int .i64 0):=by rw [zC (HW.out.call HB1.out HW.out.r3)];rfl
     gi_wp2
     refine⟨_,FIN.out w1 _ 3 HB1.out ?_ ?_ ?_,?_⟩
     · rfl
     · rfl
     · rfl
     · rw [HE.out];exact⟨rfl,FINB.out w1 3 HB1.out⟩
end
section
open Go Go.RowKit Go.Shelf
attribute [local go_sem] Oper.semAt_some
structure SpZ (A2:Option Addr) (n2 c2:Nat) (wr W0:World):Prop where
 eq:W0=(((wr.alloc (.cells #[.slice none 0 0] 41)).alloc (.cells #[.slice none 0 0] 42)).alloc (.cells #[.slice A2 n2 c2] 35)).alloc (.cells #[.int .i64 8] 3)
 below:Below wr.heap.size wr W0
 size:W0.heap.size=wr.heap.size+4
 d:W0.heap[wr.heap.size]?=some (.cells #[.slice none 0 0] 41 (0,0))
 l:W0.heap[wr.heap.size+1]?=some (.cells #[.slice none 0 0] 42 (0,0))
 b0:W0.heap[wr.heap.size+1+1]?=some (.cells #[.slice A2 n2 c2] 35 (0,0))
 b1:W0.heap[wr.heap.size+1+1+1]?=some (.cells #[.int .i64 8] 3 (0,0))
theorem spZ (A2:Option Addr) (n2 c2:Nat) (wr:World):∃ W0,SpZ A2 n2 c2 wr W0:=by
 refine⟨_,rfl,?_,by simp,?_,?_,?_,?_⟩
 · exact ((((Below.refl _ wr).alloc zN _).alloc (by simp) _).alloc (by simp;omega) _).alloc (by simp;omega) _
 · exact zzd (zzd (zzd (zzp rfl _) _) _) _
 · exact zzd (zzd (zzp (by simp) _) _) _
 · exact zzd (zzp (by simp) _) _
 · exact zzp (by simp) _
structure Lk (R0 R7:Option Nat) (W4 wx:World):Prop where
 os:wx.os=W4.os
 tape:wx.tape=W4.tape
 output:wx.output=W4.output
 size:W4.heap.size<=wx.heap.size
 block:∀ b,b<W4.heap.size->R0≠some b->R7≠some b->wx.heap[b]?=W4.heap[b]?
theorem Lk.below {R0 R7:Option Nat} {W4 wx:World} (h:Below W4.heap.size W4 wx):Lk R0 R7 W4 wx:=⟨h.os,h.tape,h.output,h.size,fun b hb _ _=>h.block b hb⟩
theorem Lk.alloc {R0 R7:Option Nat} {W4 wx:World} (h:Lk R0 R7 W4 wx) (o:Obj):Lk R0 R7 W4 (wx.alloc o):=⟨h.os,h.tape,h.output,by have:=h.size;simp;omega,fun b hb h0 h7=>(Below.heap_alloc wx o b (Nat.lt_of_lt_of_le hb h.size)).trans (h.block b hb h0 h7)⟩
theorem Lk.grown {R0 R7:Option Nat} {W4 wx w':World} (h:Lk R0 R7 W4 wx) {row:Option Nat} (hg:wx.grownBy w' row) (hr:∀ b,row=some b->R0=some b∨R7=some b):Lk R0 R7 W4 w' :=
 ⟨hg.os.trans h.os,hg.tape.trans h.tape,hg.output.trans h.output,Nat.le_trans h.size hg.size,fun b hb h0 h7=>(hg.block b (Nat.lt_of_lt_of_le hb h.size) (fun e=>(hr b e.symm).elim h0 h7)).trans (h.block b hb h0 h7)⟩
theorem Lk.sl {α:Type} {T:Ty α} {F:Nat->Prop} {A:Option Addr} {n c:Nat} {xs:List α} {R0 R7:Option Nat} {W4 wx:World} (h:Lk R0 R7 W4 wx) (hs:Sl T F W4 A n c xs) (h0:∀ b,F b->R0≠some b/\R7≠some b):Sl T F wx A n c xs :=
 hs.keep h.size fun b hb hl=>h.block b hl (h0 b hb).1 (h0 b hb).2
theorem sp_fin {B K:Nat} {W W4 w10 wr:World} {R0 R7:Option Nat} {u1 u2:Value} {t1 t2:TypeId} (hB:K+4=B) (hBW:B<=W.heap.size) (hb4:Below W.heap.size W W4) (h0:∀ b,R0=some b->B<=b/\zzW W b) (h7:∀ b,R7=some b->B<=b/\zzW W b)
 (hl:Lk R0 R7 W4 w10) (hbw:Below K wr W) (v1 v2:Value) (hd:W.heap[K]?=some (.cells #[u1] t1 (0,0))) (hd2:W.heap[K+1]?=some (.cells #[u2] t2 (0,0))) :
 KeepsFrom B W ((w10.setCell ⟨K,0,none⟩ v1).setCell ⟨K+1,0,none⟩ v2)/\KpC (K+1+1) (K+1+1+1) W ((w10.setCell ⟨K,0,none⟩ v1).setCell ⟨K+1,0,none⟩ v2)/\Below K wr ((w10.setCell ⟨K,0,none⟩ v1).setCell ⟨K+1,0,none⟩ v2) /\
 ((w10.setCell ⟨K,0,none⟩ v1).setCell ⟨K+1,0,none⟩ v2).heap[K]?=some (.cells #[v1] t1 (0,0))/\((w10.setCell ⟨K,0,none⟩ v1).setCell ⟨K+1,0,none⟩ v2).heap[K+1]?=some (.cells #[v2] t2 (0,0))/\W.heap.size<=((w10.setCell ⟨K,0,none⟩ v1).setCell ⟨K+1,0,none⟩ v2).heap.size:=by
 have hs4:=hb4.size
 have hs10:=hl.size
 have blk:∀ b,b<W.heap.size->R0≠some b->R7≠some b->w10.heap[b]?=W.heap[b]?:=fun b hb n0 n7=>(hl.block b (by omega) n0 n7).trans (hb4.block b hb)
 have low:∀ b,b<B->w10.heap[b]?=W.heap[b]?:=fun b hb=>blk b (by omega) (fun e=>by have:=(h0 b e).1;omega) (fun e=>by have:=(h7 b e).1;omega)
 have far:∀ b,b≠K->b≠K+1->((w10.setCell ⟨K,0,none⟩ v1).setCell ⟨K+1,0,none⟩ v2).heap[b]?=w10.heap[b]?:=fun b n1 n2=>(Below.heap_setCell _ _ _ _ n2).trans (Below.heap_setCell _ _ _ _ n1)
 have hbk:Below K wr w10:=⟨hl.os.trans (hb4.os.trans hbw.os),hl.tape.trans (hb4.tape.trans hbw.tape),hl.output.trans (hb4.output.trans hbw.output),by have:=hbw.size;omega,fun b hb=>(low b (by omega)).trans (hbw.block b hb)⟩
 refine⟨⟨by simp;omega,fun b o hb ho hc=>?_⟩,⟨?_,?_⟩,zzi (zzi hbk zN _) (Nat.le_succ _) _,?_,?_,by simp;omega⟩
 · rw [far b (by omega) (by omega),blk b (zzc ho) (fun e=>yyQ (h0 b e).2 ⟨o,ho,hc⟩ rfl) (fun e=>yyQ (h7 b e).2 ⟨o,ho,hc⟩ rfl)]
   exact ho
 · rw [far _ (by omega) (by omega),low _ (by omega)]
 · rw [far _ (by omega) (by omega),low _ (by omega)]
 · exact zzf (zza ((low K (by omega)).trans hd) rfl) (by omega)
 · exact zza (zzf ((low (K+1) (by omega)).trans hd2) (by omega)) rfl
theorem Sl.cap {α:Type} {T:Ty α} {F:Nat->Prop} {w:World} {A:Option Addr} {n c c':Nat} {xs:List α} (h:Sl T F w A n c xs) (h1:n<=c') (h2:c'<=c):Sl T F w A n c' xs:=⟨h.1,h1,Nat.le_trans h2 h.2.2.1,h.2.2.2⟩
theorem sput_yes (g:Nat) (F F2:Nat->Prop) (A A2:Option Addr) (n c n2 c2:Nat) (cols:List CC) (rows:List RR) (w:World) (hT:TabC g w) (h:Sl tCol F w A n c cols) (h2:Sl tRow F2 w A2 n2 c2 rows) (hU:Lib.Utf8Tabs 0 1 w) (hs:schB cols=true) (h32:rows.length<=32) (hall:rows.all (rowB cols)=true) :
 Calls Tryz.prog 20 #[.pointer (some ⟨g,0,none⟩),.slice A n c,.slice A2 n2 c2] w (qx8 cols rows w):=by
 have HL:=zH h.len;have HL2:=zH h2.len
 obtain⟨wb,hw⟩:=spW g A n c w
 have HW:=zH hw
 have HH:=zH (h.below hw.below zN);have HH2:=zH (h2.below hw.below zN);have HU:=zH (zzb hU hw.below);have HTB:=zH (hT.keep hw.below)
 have HSZ:=zH hw.size
 have hE:=zq9 hs h32 hall
 have HE:=zH hE
 have HD:=zH (put_yes hE)
 have HS:=zH (qze hs)
 have HSB:=zH hs
 have HN:=zH (show n<=6 by rw [h.len];exact (qx7 hs).2)
 have HN4:=zH (show n<=4096 by rw [h.len];have:=(qx7 hs).2;omega)
 have HN32:=zH (show n2<=32 by rw [h2.len];exact h32)
 rw [List.all_eq_true] at hall
 have HRB:=zH hall
 have c1:¬ (n2:Int) > 32:=by have:=h2.len;omega
 have HC2:=zH h2.2.1;have HC3:=zH h2.2.2.1
 clear hw h h2 hT hU hs h32 hall hE
 have q0:wb.cell? ⟨w.heap.size+1,0,none⟩=some (.slice A n c):=by rw [zC HW.out.c];rfl
 refine (callsIn_wide (n:=3)).1 ?_
 refine callsIn_of_wp_marks Tryz.func20 rfl trivial ?_ rfl
 simp only [Tryz.ntmps20,List.size_toArray,List.length_cons,List.length_nil,Nat.reduceAdd,Nat.reduceSub,Array.replicate_succ,Array.replicate_zero,List.push_toArray,List.append_toArray,List.nil_append,List.cons_append]
 gi_wp2
 refine⟨trivial,?_⟩
 rw [<-HW.out.eq]
 refine (callsIn_wide.2 (vvq F A n c cols _ HH.out)).mono ?_
 rintro e w1 ⟨rfl,hb1⟩
 rw [HS.out]
 have HB1:=zH hb1
 clear hb1
 gi_wp2
 gi_loopw [29] (fun iv wr=>∃ i:Nat,i<=n2/\iv=.int .i64 (i:Int)/\Below wb.heap.size wb wr) (fun iv _=>n2 - (intOf iv).toNat)
 case atStart=>exact⟨0,Nat.zero_le _,rfl,HB1.out⟩
 case round =>
  obtain⟨i,hi,rfl,hb⟩:=hrel
  have HB:=zH hb
  clear hb
  by_cases hlt:i<n2
  · have hil:i<rows.length:=by rw [<-HL2.out];exact hlt
    obtain⟨b,o,cs,rfl,_,_,hrep,hc⟩:=(HH2.out.below HB.out zN).at_ hil (by decide)
    obtain⟨r,hr⟩:∃ r,r=rows[i]:=⟨_,rfl⟩
    rw [<-hr] at hrep
    have hrb:rowB cols r=true:=by rw [hr];exact HRB.out _ (List.getElem_mem hil)
    obtain⟨A3,n3,c3,rfl,h3⟩:=hrep
    have H3:=zH h3
    have y:=hc 0 _ rfl
    have y:wr.cell? ⟨b,o+i,none⟩=some (.slice A3 n3 c3):=by
     have e:o+(i*tRow.size+0)=o+i:=by show o+(i*1+0)=o+i;omega
     rw [e] at y;exact y
    have i0:(0:Int)<=(i:Int):=by omega
    have i1:(i:Int)<(n2:Int):=by omega
    have i2:(i:Int)<=32:=by have:=HN32.out;omega
    have q1:wr.cell? ⟨w.heap.size+1,0,none⟩=some (.slice A n c):=by rw [zC (HW.out.call HB.out HW.out.c)];rfl
    have HRE:=zH (qza hrb)
    clear hc hr h3 hrb
    gi_wp2
    refine⟨trivial,?_⟩
    refine (callsIn_wide.2 (zqS F _ A A3 n c n3 c3 cols r _ (HH.out.below HB.out zN) H3.out HN4.out (zzb HU.out HB.out))).mono ?_
    rintro e w3 ⟨rfl,hb3⟩
    rw [HRE.out]
    have HB3:=zH (HB.out.trans (hb3.mono HB.out.size))
    clear hb3
    gi_wp2
    go_roundw
    case rel=>exact⟨i+1,by omega,by go_num,HB3.out⟩
    case measure=>simp [intOf];omega
  · obtain rfl:i=n2:=by omega
    obtain⟨W0,hz⟩:=spZ A2 i c2 wr
    have HZ:=zH hz
    clear hz
    gi_wp2
    refine⟨trivial,?_⟩
    refine (chRow_in Fence.wide _ trivial rfl A2 i c2 8 (by omega) _).mono ?_
    rintro e w' ⟨rfl,rfl⟩
    simp only [zS]
    gi_wp2
    rw [show ((8:Nat):Int)=8 from rfl,<-HZ.out.eq]
    have hn0:∀ k,k<nP rows↔8*k<i:=fun k=>by rw [nP_lt,HL2.out]
    have hk4:=HZ.out.size
    refine wpIn_rangeFunc_ownG rfl (by omega) (gf:=111) (lb:=#[.pointer (some ⟨wr.heap.size+1+1,0,none⟩),.pointer (some ⟨wr.heap.size+1+1+1,0,none⟩)]) rfl trivial (enters_of Tryz.func111 (by kernel_rfl) rfl)
     (qxa Fence.wide _ trivial rfl (by omega) (wr.heap.size+1+1) (wr.heap.size+1+1+1) A2 8 (nP rows) i c2 (by omega) (by omega) hn0 (by have:=HN32.out;omega) HC2.out HC3.out W0 HZ.out.b0 HZ.out.b1) KpC.trans (KpC.put (by omega) (by omega)) (zR) (fun _=>rfl)
     (SpI cols rows W0.heap.size wr.heap.size wr) (fun _ _ _=>False) (SpI.own cols rows _ _ wr _ (by omega) rfl) (fun _ _ _ _ _ h _ _=>h)
     ⟨none,0,0,none,0,_,TwoL.nil_ _ _,HZ.out.d,HZ.out.l,HZ.out.below,Nat.le_refl _⟩
     (fun x=>{ tmps:=#[.pointer (some ⟨g,0,none⟩),.slice A n c,.slice A2 i c2,.pointer (some ⟨w.heap.size,0,none⟩),.pointer (some ⟨w.heap.size+1,0,none⟩),undef,.pointer (some ⟨w.heap.size+1+1,0,none⟩),.pointer (some ⟨w.heap.size+1+1+1,0,none⟩),.pointer (some ⟨w.heap.size+1+1+1+1,0,none⟩),.int .i64 0,undef,u11,u12,.pointer (some ⟨wr.heap.size,0,none⟩),.pointer (some ⟨wr.heap.size+1,0,none⟩),.slice (A2.map fun a=>a.add (8*x.val)) (min 8 (i - 8*x.val)) (min 8 (i - 8*x.val)),undef,undef,undef,.slice A n c,.int .i64 0,.int .i64 0,.bool false,undef,.slice A2 i c2,.int .i64 (i:Int),.bool (decide (32<(i:Int))),.slice A2 i c2,.int .i64 (i:Int),.int .i64 (i:Int),.bool false,u31,u32,u33,u34,u35,u36,u37,u38,u39,.slice A2 i c2,.func (.func 111) #[] #[.pointer (some ⟨wr.heap.size+1+1,0,none⟩),.pointer (some ⟨wr.heap.size+1+1+1,0,none⟩)],.slice (A2.map fun a=>a.add (8*x.val)) (min 8 (i - 8*x.val)) (min 8 (i - 8*x.val)),undef,undef,undef,undef,undef,undef,undef,undef,undef,undef,undef,undef,undef,undef,undef,undef,undef,undef,undef,undef],defers:=[] }) ?assign ?body ?done ?stop
    case assign =>
     intro l x W K hK
     dsimp only [uu6]
     gi_wp2
     exact hK
    case body =>
     rintro l' pre x W ⟨A0,m0,c0,A7,c7,F3,htl,hbd,hbl,hbw,hsz⟩ hpl
     have hxi:=(hn0 x.val).1 x.isLt
     have HK4:=zH hk4
     clear hk4
     obtain⟨AP,hAP⟩:∃ q,q=Option.map (fun a:Addr=>a.add (8*x.val)) A2:=⟨_,rfl⟩
     obtain⟨np,hnp⟩:∃ q,q=min 8 (i - 8*x.val):=⟨_,rfl⟩
     obtain⟨P,hP⟩:∃ q,q=yyi rows x.val:=⟨_,rfl⟩
     have hbW:Below wb.heap.size wb W:=HB.out.trans (hbw.mono HB.out.size)
     have hPS:Sl tRow F2 W AP np np P:=by
      have h1:=(HH2.out.below hbW zN).cut (lo:=8*x.val) (hi:=8*x.val+np) (by omega) (by omega)
      rw [if_neg (by have:=HC2.out;omega),show 8*x.val*tRow.size=8*x.val from Nat.mul_one _,part8_cut rows x.val _ (by rw [<-HL2.out];omega),show 8*x.val+np - 8*x.val=np by omega,<-hAP,<-hP] at h1
      exact h1.cap zN (by have:=HC2.out;omega)
     have HPS:=zH hPS
     have HPM:Hid (∀ r∈P,r.length=n):=zH (fun r hr=>by rw [HL.out];exact rowB_len (HRB.out r (zqj (by rw [<-hP];exact hr))))
     have HN8:Hid (np<=8):=zH (by omega)
     have HEK:Hid (∀ j,j<cols.length->colE (kd cols j) (colV P j)=0):=zH (fun j hj=>colV_may HSB.out (fun r hr=>HRB.out r (zqj (by rw [<-hP];exact hr))) hj)
     have HPP:=zH hP
     have HTL:=zH htl;have HBD:=zH hbd;have HBL:=zH hbl;have HBX:=zH hbw;have HSX:=zH hsz;have HBW:=zH hbW;have HPL:=zH hpl
     rw [<-hAP,<-hnp]
     have HPI:Hid (P.length=np):=zH hPS.len.symm
     clear hAP hnp hP hPS hbw htl hsz hpl hxi
     have y0:W.cell? ⟨w.heap.size,0,none⟩=some (.pointer (some ⟨g,0,none⟩)):=by rw [zC (HW.out.call hbW HW.out.t)];rfl
     have y1:W.cell? ⟨w.heap.size+1,0,none⟩=some (.slice A n c):=by rw [zC (HW.out.call hbW HW.out.c)];rfl
     clear hbd hbl hbW
     gi_wp2
     refine⟨trivial,?_⟩
     refine (CallsIn.inRound l' (callsIn_wide.2 (part_any g F F2 A AP n c np np cols P W (HTB.out.keep HBW.out) (HH.out.below HBW.out zN) HPS.out HPM.out (by have:=HN.out;omega) (by have:=HN8.out;omega) HEK.out (zzb HU.out HBW.out)))).mono ?_
     rintro e w3 ⟨A5,n5,c5,A6,n6,c6,A8,n8,c8,rfl,hs5,hs6,hs8,hb3⟩
     rw [HPI.out]
     obtain⟨q,hq⟩:∃ q,q=w3.heap.size:=⟨_,rfl⟩
     obtain⟨W4,hW4⟩:∃ W4,W4=w3.alloc (.cells #[.int .i64 (np:Int),.slice A6 n6 c6,.slice A8 n8 c8] 97):=⟨_,rfl⟩
     have HW4:=zH hW4;have HQ:=zH hq;have HB3:=zH hb3
     have hb34:Below w3.heap.size w3 W4:=by rw [hW4];exact (zR).alloc zN _
     have HB4:=zH (hb3.trans (hb34.mono hb3.size))
     have hg4:W4.heap[q]?=some (.cells #[.int .i64 (np:Int),.slice A6 n6 c6,.slice A8 n8 c8] 97 (0,0)):=by rw [hW4,hq];exact heap_alloc_new w3 _
     have HG4:=zH hg4
     have HS5:=zH ((hs5.weaken (F':=fun b=>W.heap.size<=b/\b<w3.heap.size) fun b h1 h2=>⟨h1,h2⟩).below hb34 zN)
     have HS6:=zH ((hs6.weaken (F':=fun b=>W.heap.size<=b/\b<w3.heap.size) fun b h1 h2=>⟨h1,h2⟩).below hb34 zN)
     have HS8:=zH ((hs8.weaken (F':=fun b=>W.heap.size<=b/\b<w3.heap.size) fun b h1 h2=>⟨h1,h2⟩).below hb34 zN)
     clear hb34 hs5 hs6 hs8 hb3 hW4 hq hg4 y0 y1
     gi_wp2
     rw [<-HW4.out,<-HQ.out]
     have HQ3:=zH HQ.out
     have hb4s:=HB4.out.size
     have hqW:Hid (W.heap.size<=q/\q<W4.heap.size):=zH ⟨by rw [HQ.out];exact HB3.out.size,zzc HG4.out⟩
     have H0:Hid (∀ b,A0.map (·.block)=some b->W0.heap.size<=b/\b<W.heap.size/\zzW W b):=zH fun b e=>⟨(HTL.out.d.lies' e).2.1,(HTL.out.d.lies' e).2.2,HTL.out.d.rowCells e⟩
     have H7:Hid (∀ b,A7.map (·.block)=some b->W0.heap.size<=b/\b<W.heap.size/\zzW W b):=zH fun b e=>⟨(HTL.out.s.lies' e).2.1,(HTL.out.s.lies' e).2.2,HTL.out.s.rowCells e⟩
     have hk4:=HK4.out
     have hlow:∀ wx,Lk (A0.map (·.block)) (A7.map (·.block)) W4 wx->∀ b,b<W0.heap.size->wx.heap[b]?=W.heap[b]?:=fun wx hl b hb=>by
      have h1:=HSX.out
      exact (hl.block b (by omega) (fun e=>by have:=(H0.out b e).1;omega) (fun e=>by have:=(H7.out b e).1;omega)).trans (HB4.out.block b (by omega))
     have HKH:Hid (∀ wx,Lk (A0.map (·.block)) (A7.map (·.block)) W4 wx->wx.heap[wr.heap.size]?=some (.cells #[.slice A0 m0 c0] 41 (0,0))/\wx.heap[wr.heap.size+1]?=some (.cells #[.slice A7 pre.length c7] 42 (0,0))/\wx.heap[q]?=some (.cells #[.int .i64 (np:Int),.slice A6 n6 c6,.slice A8 n8 c8] 97 (0,0))):=zH fun wx hl =>
      ⟨(hlow wx hl _ (by omega)).trans HBD.out,(hlow wx hl _ (by omega)).trans HBL.out,(hl.block q hqW.out.2 (fun e=>by have:=(H0.out q e).2.1;have:=hqW.out.1;omega) (fun e=>by have:=(H7.out q e).2.1;have:=hqW.out.1;omega)).trans HG4.out⟩
     have HT4:Hid (TwoL W0.heap.size (xx2 cols rows pre) (stF8 cols rows pre) A0 m0 c0 A7 pre.length c7 F3 W4.drew):=zH ((HTL.out.call HB4.out).call ((zR).drew))
     have HL4:Hid (Lk (A0.map (·.block)) (A7.map (·.block)) W4 W4.drew):=zH (Lk.below ((zR).drew))
     obtain⟨ea,eb,ec⟩:=HKH.out _ HL4.out
     have hs4:=ec
     have d0:W4.drew.cell? ⟨wr.heap.size,0,none⟩=some (.slice A0 m0 c0):=by rw [zC ea];rfl
     have d1:W4.drew.cell? ⟨wr.heap.size+1,0,none⟩=some (.slice A7 pre.length c7):=by rw [zC eb];rfl
     have a0:∀ o:Obj,(W4.alloc o).cell? ⟨wr.heap.size,0,none⟩=some (.slice A0 m0 c0):=fun o=>by rw [zC (zzd (w:=W4) ea o)];rfl
     have a1:∀ o:Obj,(W4.alloc o).cell? ⟨wr.heap.size+1,0,none⟩=some (.slice A7 pre.length c7):=fun o=>by rw [zC (zzd (w:=W4) eb o)];rfl
     have b0:∀ o:Obj,(W4.drew.alloc o).cell? ⟨wr.heap.size,0,none⟩=some (.slice A0 m0 c0):=a0
     have b1:∀ o:Obj,(W4.drew.alloc o).cell? ⟨wr.heap.size+1,0,none⟩=some (.slice A7 pre.length c7):=a1
     have hSQ:∀ wx:World,wx.heap[q]?=some (.cells #[.int .i64 (np:Int),.slice A6 n6 c6,.slice A8 n8 c8] 97 (0,0))->wx.cell? ⟨q,0,none⟩=some (.int .i64 (np:Int))/\wx.cell? ⟨q,1,none⟩=some (.slice A6 n6 c6)/\wx.cell? ⟨q,2,none⟩=some (.slice A8 n8 c8) :=
      fun wx hx=>⟨by rw [zC hx];rfl,by rw [zC hx];rfl,by rw [zC hx];rfl⟩
     have HSQ:=zH hSQ
     have HEA:=zH ea;have HEB:=zH eb;have HS4:=zH hs4
     have HQK:Hid (wr.heap.size+4<=q):=zH (by have h1:=hqW.out.1;have h2:=HSX.out;omega)
     clear hk4 hlow
     obtain⟨D5,hD5⟩:∃ D5,D5=vv7 cols P cols.length:=⟨_,rfl⟩
     obtain⟨ST5,hST5⟩:∃ z:ST,z=zz8 cols P:=⟨_,rfl⟩
     rw [<-hD5] at HS5
     have HRP:∀ wx:World,Lk (A0.map (·.block)) (A7.map (·.block)) W4 wx->tSt.rep (fun b=>W.heap.size<=b/\b<w3.heap.size) wx [.int .i64 (np:Int),.slice A6 n6 c6,.slice A8 n8 c8] ST5:=fun wx hl=>by
      have nr:∀ b,(W.heap.size<=b/\b<w3.heap.size)->A0.map (·.block)≠some b/\A7.map (·.block)≠some b:=fun b hb=>⟨fun e=>by have:=(H0.out b e).2.1;omega,fun e=>by have:=(H7.out b e).2.1;omega⟩
      rw [hST5]
      refine⟨[.int .i64 (np:Int)],_,rfl,⟨by show _=[Value.int .i64 (P.length:Int)];rw [HPI.out],by show -9223372036854775808<=(P.length:Int);omega,by show (P.length:Int)<=9223372036854775807;rw [HPI.out];have:=HN8.out;omega⟩,[.slice A6 n6 c6],[.slice A8 n8 c8],rfl,⟨A6,n6,c6,rfl,hl.sl HS6.out nr⟩,A8,n8,c8,rfl,hl.sl HS8.out nr⟩
     have HREP:=zH HRP
     have HD5:=zH hD5;have HST5:=zH hST5
     have HLIM:Hid (m0+n5<=68719476736):=zH (by
      have h1:=HTL.out.d.len
      have h2:=HS5.out.len
      have h3:=zqm cols rows (by rw [<-HL.out];exact HN.out) pre
      have h4:=vv8 cols P (by rw [HPI.out];have:=HN8.out;omega) cols.length
      have h5:cols.length*5000004<=6*5000004:=Nat.mul_le_mul_right 5000004 (by rw [<-HL.out];exact HN.out)
      have h6:=HPL.out
      have h7:nP rows<=5:=by unfold nP;rw [<-HL2.out];have:=HN32.out;omega
      rw [hD5] at h2
      omega)
     have HLIM2:Hid (pre.length<=34359738368):=zH (by have h6:=HPL.out;have h7:nP rows<=5:=(by unfold nP;rw [<-HL2.out];have:=HN32.out;omega);omega)
     have HBS:Hid (W0.heap.size<=W4.drew.heap.size):=zH (by have h1:=HSX.out;show W0.heap.size<=W4.heap.size;omega)
     have HNR:Hid (∀ b,A0=some ⟨b,0,none⟩->W0.heap.size<=b->¬ (W.heap.size<=b/\b<w3.heap.size)):=zH fun b e _ h=>by have:=(H0.out b (by rw [e];rfl)).2.1;omega
     have HNR7:Hid (∀ b,A7=some ⟨b,0,none⟩->¬ (W.heap.size<=b/\b<w3.heap.size)):=zH fun b e h=>by have:=(H7.out b (by rw [e];rfl)).2.1;omega
     have HSN:Hid (Sl tSt (fun b=>(W.heap.size<=b/\b<w3.heap.size)∨b=W4.heap.size) (W4.drew.alloc (.cells #[.int .i64 (np:Int),.slice A6 n6 c6,.slice A8 n8 c8] 97)) (some ⟨W4.heap.size,0,none⟩) 1 1 [ST5]):=zH ((Sl.new (HRP _ HL4.out) 97 _ rfl).weaken fun b hb _=>hb.elim (fun h=>.inl h.1) .inr)
     clear ea eb ec hs4 hSQ hD5 hST5 HRP hb4s
     refine wpIn_mono (Q:=fun e _ w'=>e=.normal/\KeepsFrom W0.heap.size W w'/\KpC (wr.heap.size+1+1) (wr.heap.size+1+1+1) W w'/\SpI cols rows W0.heap.size wr.heap.size wr (pre++[x]) w') ?_ ?_
     rotate_left
     · rintro e a' w' ⟨rfl,h⟩
       exact h
     refine regLIn [(some 2,fun w'=>w'.cell? ⟨wr.heap.size,0,none⟩=some (.slice A0 m0 c0)),(some 6,fun w'=>w'.cell? ⟨wr.heap.size+1,0,none⟩=some (.slice A7 pre.length c7)),(some 5,(fun w'=>w'.cell? ⟨q,0,none⟩=some (.int .i64 (np:Int))/\w'.cell? ⟨q,1,none⟩=some (.slice A6 n6 c6)/\w'.cell? ⟨q,2,none⟩=some (.slice A8 n8 c8)))] (by kernel_rfl) (by kernel_rfl) noLets ?_ (fun hHeld=>?_)
     · exact⟨fun h=>(by first | exact gone (c:=2) (by decide +kernel) h | (dsimp only;with_reducible exact d0) | (dsimp only;with_reducible exact b0 _) | exact b0 _ | fail),fun h=>(by first | exact gone (c:=6) (by decide +kernel) h | (dsimp only;with_reducible exact d1) | (dsimp only;with_reducible exact b1 _) | (dsimp only;with_reducible exact d19) | (dsimp only;with_reducible exact a19 _) | exact b1 _ | fail),fun h=>(by first | exact gone (c:=5) (by decide +kernel) h | (dsimp only;with_reducible exact HSQ.out _ HS4.out) | (dsimp only;with_reducible exact HSQ.out _ (zzd HS4.out _)) | (dsimp only;with_reducible exact HSQ.out _ hs9.out) | fail),trivial⟩
     iterate 5
      all_goals
       repeat ((first | (refine tkL 0 0 rfl (oi:=⟨_,_,_,_,_,_⟩) (v:=?_) rfl (by decide +kernel) rfl (fun _ _ _ h=>h) rfl hHeld ?_ ?_) | (refine tkP 1 (oi:=⟨_,_,_,_,_,_⟩) (v:=?_) rfl (by decide +kernel) rfl (fun _ _ _ h=>h) rfl hHeld ?_ ?_) | (refine tkL 3 1 rfl (oi:=⟨_,_,_,_,_,_⟩) (v:=?_) rfl (by decide +kernel) rfl (fun _ _ _ h=>h) rfl hHeld ?_ ?_) | (refine tkL 4 2 rfl (oi:=⟨_,_,_,_,_,_⟩) (v:=?_) rfl (by decide +kernel) rfl (fun _ _ _ h=>h) rfl hHeld ?_ ?_));rotate_left;(focus (intro w;(try intro hSw);(try dsimp only at hSw);go_simp;try with_reducible rfl));intro hHeld;(try simp only [Act.put]);(try simp only [List.setIfInBounds_toArray]);(try simp only [List.set_cons_succ]);(try simp only [List.set_cons_zero]))
       first | (refine rd1 2 (o:=⟨_,_,_,_,_,_⟩) (by decide +kernel) rfl (fun K hK=>?_)) | (refine rd2 2 5 (o:=⟨_,_,_,_,_,_⟩) (o':=⟨_,_,_,_,_,_⟩) (by decide +kernel) rfl rfl (fun K hK=>?_) (fun K hK=>?_)) | (refine rd1 5 (o:=⟨_,_,_,_,_,_⟩) (by decide +kernel) rfl (fun K hK=>?_)) | (refine rd1 6 (o:=⟨_,_,_,_,_,_⟩) (by decide +kernel) rfl (fun K hK=>?_)) | (refine rd1 7 (o:=⟨_,_,_,_,_,_⟩) (by decide +kernel) rfl (fun K hK=>?_)) | (refine rd1 8 (o:=⟨_,_,_,_,_,_⟩) (by decide +kernel) rfl (fun K hK=>?_))
      all_goals
       first | (refine atD 56 rfl ?_;refine vvb (T:=tU8) zzA W4.drew W4.drew rfl (.tmp 54) (.tmp 55) rfl W0.heap.size A0 m0 c0 (xx2 cols rows pre) (by rfl) (fun _=>False) (fun b=>W.heap.size<=b/\b<w3.heap.size) HT4.out.d (zR) HBS.out A5 n5 c5 D5 (by rfl) HS5.out.drew (fun b e hb _=>HNR.out b e hb) HLIM.out ?_;intro A9 c9 w9 h9;have HT9:=zH (HT4.out.data h9);have HL9:Hid (Lk (A0.map (·.block)) (A7.map (·.block)) W4 w9):=zH (HL4.out.grown h9.grown (fun b e=>.inl e));have hk9:=HKH.out _ HL9.out;have e1:=hk9.2.1;have hs9:=zH hk9.2.2;have d19:w9.cell? ⟨wr.heap.size+1,0,none⟩=some (.slice A7 pre.length c7):=(by rw [zC e1];rfl);have a19:∀ o:Obj,(w9.alloc o).cell? ⟨wr.heap.size+1,0,none⟩=some (.slice A7 pre.length c7):=(fun o=>by rw [zC (zzd e1 o)];rfl);have HB9:Hid (W0.heap.size<=w9.heap.size):=zH (Nat.le_trans HBS.out HL9.out.size);clear e1 hk9;have HN9A:Hid (∀ b,(W.heap.size<=b/\b<w3.heap.size)->A9≠some ⟨b,0,none⟩):=zH (fun b hb e=>h9.lies.elim (fun h1=>by rw [e] at h1;have:=(H0.out b h1.symm).2.1;omega) (fun h1=>by rw [e] at h1;injection h1 with h1;have h1:b=W4.heap.size:=h1;have h3:=hqW.out.2;have h4:=HQ3.out;omega));clear h9) | (refine atD 56 rfl ?_;refine vvb (T:=tU8) zzA (W4.drew.alloc (.cells #[.int .i64 (np:Int),.slice A6 n6 c6,.slice A8 n8 c8] 97)) (W4.drew.alloc (.cells #[.int .i64 (np:Int),.slice A6 n6 c6,.slice A8 n8 c8] 97)) rfl (.tmp 54) (.tmp 55) rfl W0.heap.size A0 m0 c0 (xx2 cols rows pre) (by rfl) (fun _=>False) (fun b=>W.heap.size<=b/\b<w3.heap.size) (HT4.out.d.alloc _) (zR) (by have:=HBS.out;rw [zS];omega) A5 n5 c5 D5 (by rfl) (HS5.out.drew.alloc _) (fun b e hb _=>HNR.out b e hb) HLIM.out ?_;intro A9 c9 w9 h9;have HT9:=zH ((HT4.out.call ((zR).alloc zN _)).data h9);have HL9:Hid (Lk (A0.map (·.block)) (A7.map (·.block)) W4 w9):=zH ((HL4.out.alloc _).grown h9.grown (fun b e=>.inl e));have hk9:=HKH.out _ HL9.out;have e1:=hk9.2.1;have hs9:=zH hk9.2.2;have d19:w9.cell? ⟨wr.heap.size+1,0,none⟩=some (.slice A7 pre.length c7):=(by rw [zC e1];rfl);have a19:∀ o:Obj,(w9.alloc o).cell? ⟨wr.heap.size+1,0,none⟩=some (.slice A7 pre.length c7):=(fun o=>by rw [zC (zzd e1 o)];rfl);have HB9:Hid (W0.heap.size<=w9.heap.size):=zH (Nat.le_trans HBS.out HL9.out.size);clear e1 hk9;have HSN9:=zH (HSN.out.grown h9.grown (fun g e h=>by have h1:=(H0.out g e).2.1;have h2:=HB4.out.size;rcases h with h | h <;> omega));have HN9B:Hid (∀ b,((W.heap.size<=b/\b<w3.heap.size)∨b=W4.heap.size)->A9≠some ⟨b,0,none⟩):=zH (fun b hb e=>by have h3:=hqW.out.2;have h4:=HQ3.out;have h5:=HB4.out.size;exact h9.lies.elim (fun h1=>by rw [e] at h1;have:=(H0.out b h1.symm).2.1;rcases hb with hb | hb <;> omega) (fun h1=>by rw [e] at h1;injection h1 with h1;have h1:b=(W4.drew.alloc (.cells #[.int .i64 (np:Int),.slice A6 n6 c6,.slice A8 n8 c8] 97)).heap.size:=h1;rw [zS] at h1;have h1:b=W4.heap.size+1:=h1;rcases hb with hb | hb <;> omega));clear h9) | (refine atD 60 rfl ?_;refine xxM (T:=tSt) qxZ w9 w9 rfl (.tmp 57) (.tmp 59) rfl W0.heap.size A7 pre.length c7 (stF8 cols rows pre) (by rfl) F3 (fun b=>W.heap.size<=b/\b<w3.heap.size) HT9.out.s (zR) HB9.out _ (by rfl) [.int .i64 (np:Int),.slice A6 n6 c6,.slice A8 n8 c8] ST5 (HREP.out _ HL9.out) 97 rfl (fun b e _ _=>HNR7.out b e) HLIM2.out ?_;intro A10 c10 w10 h10;obtain⟨F10,HT10⟩:∃ F10,Hid (TwoL W0.heap.size (xx2 cols rows pre++D5) (stF8 cols rows pre++[ST5]) A9 (m0+n5) c9 A10 (pre.length+1) c10 F10 w10):=⟨_,zH ((HT9.out.call ((zR).alloc zN _)).stride h10 (by rw [zS];omega) (fun b hb=>⟨by have h1:=HSX.out;omega,HN9A.out b hb⟩))⟩;have HL10:Hid (Lk (A0.map (·.block)) (A7.map (·.block)) W4 w10):=zH ((HL9.out.alloc _).grown h10.grown (fun b e=>.inr e));have hk10:=HKH.out _ HL10.out;have e0:=hk10.1;have e1:=hk10.2.1;have hs10:=zH hk10.2.2;have z0:w10.cell? ⟨wr.heap.size,0,none⟩=some (.slice A0 m0 c0):=(by rw [zC e0];rfl);have z1:w10.cell? ⟨wr.heap.size+1,0,none⟩=some (.slice A7 pre.length c7):=(by rw [zC e1];rfl);have y0:=zF e0 0;have y1:=zF e1 0;clear e0 e1 hk10 h10) | (refine atD 60 rfl ?_;refine vvb (T:=tSt) qxZ w9 w9 rfl (.tmp 57) (.tmp 59) rfl W0.heap.size A7 pre.length c7 (stF8 cols rows pre) (by rfl) F3 (fun b=>(W.heap.size<=b/\b<w3.heap.size)∨b=W4.heap.size) HT9.out.s (zR) HB9.out (some ⟨W4.heap.size,0,none⟩) 1 1 [ST5] (by rfl) HSN9.out (fun b e _ _ h=>h.elim (HNR7.out b e) (fun h=>by have h1:=(H7.out b (by rw [e];rfl)).2.1;have h2:=HB4.out.size;omega)) (by have:=HLIM2.out;omega) ?_;intro A10 c10 w10 h10;obtain⟨F10,HT10⟩:∃ F10,Hid (TwoL W0.heap.size (xx2 cols rows pre++D5) (stF8 cols rows pre++[ST5]) A9 (m0+n5) c9 A10 (pre.length+1) c10 F10 w10):=⟨_,zH (HT9.out.stride h10 zN (fun b hb=>⟨by have h1:=HSX.out;have h2:=HB4.out.size;rcases hb with hb | hb <;> omega,HN9B.out b hb⟩))⟩;have HL10:Hid (Lk (A0.map (·.block)) (A7.map (·.block)) W4 w10):=zH (HL9.out.grown h10.grown (fun b e=>.inr e));have hk10:=HKH.out _ HL10.out;have e0:=hk10.1;have e1:=hk10.2.1;have hs10:=zH hk10.2.2;have z0:w10.cell? ⟨wr.heap.size,0,none⟩=some (.slice A0 m0 c0):=(by rw [zC e0];rfl);have z1:w10.cell? ⟨wr.heap.size+1,0,none⟩=some (.slice A7 pre.length c7):=(by rw [zC e1];rfl);have y0:=zF e0 0;have y1:=zF e1 0;clear e0 e1 hk10 h10) | (go_simp;(fail)) | go_simp
       refine hK.out _ _ ?_ (fun hHeld=>?_)
       · (try dsimp only);exact⟨fun h=>(by first | exact gone (c:=2) (by decide +kernel) h | (dsimp only;with_reducible exact d0) | (dsimp only;with_reducible exact b0 _) | exact b0 _ | fail),fun h=>(by first | exact gone (c:=6) (by decide +kernel) h | (dsimp only;with_reducible exact d1) | (dsimp only;with_reducible exact b1 _) | (dsimp only;with_reducible exact d19) | (dsimp only;with_reducible exact a19 _) | exact b1 _ | fail),fun h=>(by first | exact gone (c:=5) (by decide +kernel) h | (dsimp only;with_reducible exact HSQ.out _ HS4.out) | (dsimp only;with_reducible exact HSQ.out _ (zzd HS4.out _)) | (dsimp only;with_reducible exact HSQ.out _ hs9.out) | fail),trivial⟩
       clear hK K;(try simp only [Act.put]);(try simp only [List.setIfInBounds_toArray]);(try simp only [List.set_cons_succ]);(try simp only [List.set_cons_zero])
     all_goals
      refine xxI (by decide +kernel) ?_ _
      obtain⟨f1,f2,f3,f4,f5,f6⟩:=sp_fin (B:=W0.heap.size) (K:=wr.heap.size) HK4.out.symm HSX.out HB4.out (fun b e=>⟨(H0.out b e).1,(H0.out b e).2.2⟩) (fun b e=>⟨(H7.out b e).1,(H7.out b e).2.2⟩) HL10.out HBX.out (.slice A9 (m0+n5) c9) (.slice A10 (pre.length+1) c10) HBD.out HBL.out
      have hk4:=HK4.out
      have ft:=HT10.out.keep (W':=(w10.setCell ⟨wr.heap.size,0,none⟩ (.slice A9 (m0+n5) c9)).setCell ⟨wr.heap.size+1,0,none⟩ (.slice A10 (pre.length+1) c10)) (by simp) (fun b hb _=>(Below.heap_setCell _ _ _ _ (by show b≠wr.heap.size+1;omega)).trans (Below.heap_setCell _ _ _ _ (by show b≠wr.heap.size;omega)))
      rw [HD5.out,HST5.out,HPP.out,<-xq2,<-stF8_snoc] at ft
      refine⟨rfl,f1,f2,A9,m0+n5,c9,A10,c10,F10,?_,f4,?_,f3,Nat.le_trans HSX.out f6⟩
      · rw [List.length_append,List.length_singleton];exact ft
      · rw [List.length_append,List.length_singleton];exact f5
    case done =>
     rintro D xs W hD rfl ⟨A0,m0,c0,A7,c7,F3,htl,hbd,hbl,hbw,hsz⟩ hK
     rw [List.length_finRange] at htl hbl
     rw [dataF_all,stF8_all] at htl
     have hbW:Below wb.heap.size wb W:=HB.out.trans (hbw.mono HB.out.size)
     have HTL:=zH htl;have HBW:=zH hbW;have HSX:=zH hsz;have HK:=zH hK;have HK4:=zH hk4;have HDD:=zH hD
     have k0:W.cell? ⟨wr.heap.size,0,none⟩=some (.slice A0 m0 c0):=by rw [zC hbd];rfl
     have k1:W.cell? ⟨wr.heap.size+1,0,none⟩=some (.slice A7 (nP rows) c7):=by rw [zC hbl];rfl
     have z1:=zF (HW.out.call hbW HW.out.r1) 0
     have z2:=zF (HW.out.call hbW HW.out.r2) 0
     have z3:=zF (HW.out.call hbW HW.out.r3) 0
     have y1:W.cell? ⟨w.heap.size+1+1,0,none⟩=some (.slice none 0 0):=by rw [zC (HW.out.call hbW HW.out.r1)];rfl
     have y2:W.cell? ⟨w.heap.size+1+1+1,0,none⟩=some (.slice none 0 0):=by rw [zC (HW.out.call hbW HW.out.r2)];rfl
     have y3:W.cell? ⟨w.heap.size+1+1+1+1,0,none⟩=some (.int .i64 0):=by rw [zC (HW.out.call hbW HW.out.r3)];rfl
     have hwr:=HB.out.size
     have hwb:=HW.out.size
     have hmx:Tryz.prog.follows .mixedOrders=true:=by kernel_rfl
     clear hbW htl hbd hbl hbw hsz hK hk4 hD
     gi_wp2
     gi_region
     all_goals
      gi_wp2
      obtain⟨wF,hwF⟩:∃ wF,wF=(((W.setCell ⟨w.heap.size+1+1,0,none⟩ (.slice A0 m0 c0)).setCell ⟨w.heap.size+1+1+1,0,none⟩ (.slice A7 (nP rows) c7)).setCell ⟨w.heap.size+1+1+1+1,0,none⟩ (.int .i64 0)).drew:=⟨_,rfl⟩
      rw [<-hwF]
      have hk4:=HK4.out;have hsx:=HSX.out;have hsz:=HSZ.out;have hdd:=HDD.out
      have hfar:∀ b,W0.heap.size<=b->wF.heap[b]?=W.heap[b]?:=fun b hb=>by
       rw [hwF]
       exact (Below.heap_setCell _ _ _ b (by show b≠w.heap.size+1+1+1+1;omega)).trans ((Below.heap_setCell _ _ _ b (by show b≠w.heap.size+1+1+1;omega)).trans (Below.heap_setCell _ _ _ b (by show b≠w.heap.size+1+1;omega)))
      have hszF:wF.heap.size=W.heap.size:=by rw [hwF];show ((_:World).setCell _ _).heap.size=_;simp
      obtain⟨k1,k2,k3⟩:=zqp (.slice A0 m0 c0) (.slice A7 (nP rows) c7) (.int .i64 0) (HW.out.call HBW.out HW.out.r1) (HW.out.call HBW.out HW.out.r2) (HW.out.call HBW.out HW.out.r3)
      have hbF:Below w.heap.size w wF:=by
       rw [hwF]
       exact (zqq zN (HW.out.below.trans (HBW.out.mono (by omega))) _ _ _).drew
      have hKD:wF.heap[D]?=some (.deferred (some [])):=(hfar D hdd).trans HK.out
      have hp:=grownBy_putObj' wF D (.deferred none)
      have T2:=(HTL.out.keep (W':=wF) (by omega) (fun b hb _=>hfar b hb)).quiet hp (fun r e=>by injection e with e;subst e;exact⟨_,hKD,rfl⟩)
      have m1:(wF.putObj D (.deferred none)).heap[w.heap.size+1+1]?=some (.cells #[.slice A0 m0 c0] 41 (0,0)):=by rw [World.putObj_heap_other (by omega),hwF];exact k1
      have m2:(wF.putObj D (.deferred none)).heap[w.heap.size+1+1+1]?=some (.cells #[.slice A7 (nP rows) c7] 42 (0,0)):=by rw [World.putObj_heap_other (by omega),hwF];exact k2
      have m3:(wF.putObj D (.deferred none)).heap[w.heap.size+1+1+1+1]?=some (.cells #[.int .i64 0] 28 (0,0)):=by rw [World.putObj_heap_other (by omega),hwF];exact k3
      refine⟨by simp,.inl ⟨_,_,rfl,run_takeDeferred hKD,?_⟩⟩
      refine⟨_,kqE rfl _ _ _ _ _ (.slice A0 m0 c0) (.slice A7 (nP rows) c7) (.int .i64 0) rfl rfl rfl (zqn (by rw [zC m1];rfl)) (zqo (by rw [zC m2];rfl)) (jjQ (by rw [zC m3];rfl)),?_⟩
      refine⟨A0,m0,c0,A7,nP rows,c7,by rw [HE.out],?_,?_,hbF.grown hp (by omega) (fun k e=>by injection e with e;omega)⟩
      · rw [HD.out.1];exact T2.d.sl.weaken fun b hb _=>hb.elim False.elim (fun h=>by have:=h.2;omega)
      · rw [HD.out.2];exact T2.s.sl.weaken fun b hb _=>hb.elim (fun h=>by have:=(T2.lt b h).1;omega) (fun h=>by have:=h.2;omega)
    case stop =>
     rintro D c pre W _ _ h _
     exact h.elim
theorem sput_any (g:Nat) (F F2:Nat->Prop) (A A2:Option Addr) (n c n2 c2:Nat) (cols:List CC) (rows:List RR) (w:World) (hT:TabC g w) (h:Sl tCol F w A n c cols) (h2:Sl tRow F2 w A2 n2 c2 rows) (hn:n<=4096) (hn2:n2<=4096) (hU:Lib.Utf8Tabs 0 1 w) :
 Calls Tryz.prog 20 #[.pointer (some ⟨g,0,none⟩),.slice A n c,.slice A2 n2 c2] w (qx8 cols rows w):=by
 by_cases hE:putE cols rows=0
 · obtain⟨hs,h32,hall⟩:=putE_zero hE
   exact sput_yes g F F2 A A2 n c n2 c2 cols rows w hT h h2 hU hs h32 hall
 · exact sput_no g F F2 A A2 n c n2 c2 cols rows w h h2 hn hn2 hU hE
end
end Go.Proofs.YtpmglcachffojaaGreatDoor
