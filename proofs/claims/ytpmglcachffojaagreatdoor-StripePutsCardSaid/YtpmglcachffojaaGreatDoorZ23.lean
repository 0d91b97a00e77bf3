/- A part of what Puts leans on. -/
import Derived.Test.YtpmglcachffojaaGreatDoorZ22
set_option maxRecDepth 100000
set_option maxHeartbeats 16000000
namespace Go.Proofs.YtpmglcachffojaaGreatDoor
section
open Go Go.RowKit Go.Shelf BigFrame
attribute [local go_sem] Oper.semAt_some
structure ByO (n0 ob lb fb bb B : Nat) : Prop where
 o1 : n0 = ob
 o2 : lb = ob + 1
 o3 : fb = ob + 2
 o4 : bb = ob + 3
 o5 : B = ob + 4
def qx2 (ob lb : Nat) : Obj := .cells #[.func (.func 201) #[] #[.pointer (some ⟨lb, 0, none⟩), .pointer (some ⟨ob, 0, none⟩)]] 1 (0, 0)
def ByI (w : World) (n0 ob lb fb B : Nat) (pre : List Rn) (W : World) : Prop := ∃ A1 n1 c1 A2 n2 c2, FlR w n0 ob lb B A1 n1 c1 (xxU pre).1 A2 n2 c2 (xxU pre).2 W ∧ W.heap[fb]? = some (qx2 ob lb)
theorem ByI.own {w : World} {n0 ob lb fb bb B : Nat} (h : ByO n0 ob lb fb bb B) : OwnFrom B (ByI w n0 ob lb fb B) := fun s W W' row ⟨A1, n1, c1, A2, n2, c2, h1, h2⟩ hg hr => by
 have := h.o3; have := h.o5
 exact ⟨A1, n1, c1, A2, n2, c2, h1.turn hg hr, (hg.block fb (zzb h2) (fun e => by have := (hr fb e.symm).1; omega)).trans h2⟩
theorem ByI.box {w : World} {n0 ob lb fb bb B : Nat} (h : ByO n0 ob lb fb bb B) (pre : List Rn) (W : World) (v : Value) (hi : ByI w n0 ob lb fb B pre W) : ByI w n0 ob lb fb B pre (W.setCell ⟨bb, 0, none⟩ v) := by
 obtain ⟨A1, n1, c1, A2, n2, c2, h1, h2⟩ := hi
 have := h.o1; have := h.o2; have := h.o3; have := h.o4; have := h.o5
 exact ⟨A1, n1, c1, A2, n2, c2, h1.other (by omega) (by omega) (by omega) (by omega) v, zzg h2 (by omega)⟩
theorem kp_of {n0 ob lb fb bb B : Nat} (h : ByO n0 ob lb fb bb B) {W W' : World} (hk : FlK ob lb B W W') : KpB n0 bb W W' := by
 have := h.o1; have := h.o2; have := h.o3; have := h.o4; have := h.o5
 exact ⟨hk.low bb (by omega) (by omega) (by omega), fun b hb => hk.low b (by omega) (by omega) (by omega), hk.others.size⟩
theorem below7 {W : World} {o : Obj} {w7 : World} (h : Below (W.alloc o).drew.heap.size (W.alloc o).drew w7) : Below W.heap.size W w7 :=
 (((Below.refl W.heap.size W).alloc zN o).drew).trans (h.mono (by show W.heap.size ≤ (W.alloc o).heap.size; simp))
theorem fin9 {w W w7 w9 : World} {n0 ob lb fb bb B : Nat} {pre : List Rn} {x : Rn} {A1 A2 A9 : Option Addr} {n1 c1 n2 c2 c9 : Nat} (h7 : FlR w n0 ob lb B A1 n1 c1 (xxU pre).1 A2 n2 c2 (xxU pre).2 w7) (hb : Below W.heap.size W w7) (hB : B ≤ W.heap.size) (hx : x.n < 3)
 (hm : MidB w9 B A9 (n2 + x.n) c9 ((xxU pre).2 ++ List.replicate x.n x.c)) (hg : w7.grownBy w9 (blkM A2 c2)) (hl : blkM A9 c9 = blkM A2 c2 ∨ ∀ g, blkM A9 c9 = some g → w7.heap.size ≤ g) (hf : W.heap[fb]? = some (qx2 ob lb)) (ho : ByO n0 ob lb fb bb B) :
 KeepsOthers W (w9.setCell ⟨lb, 0, none⟩ (.slice A9 (n2 + x.n) c9)) ∧ KpB n0 bb W (w9.setCell ⟨lb, 0, none⟩ (.slice A9 (n2 + x.n) c9)) ∧ ByI w n0 ob lb fb B (pre ++ [x]) (w9.setCell ⟨lb, 0, none⟩ (.slice A9 (n2 + x.n) c9)) := by
 obtain ⟨_, _, h9, k9⟩ := h7.growL hm hg hl
 have hk := (FlK.below hB hb).trans k9
 have := ho.o1; have := ho.o2; have := ho.o3; have := ho.o5
 refine ⟨hk.others, kp_of ho hk, A1, n1, c1, A9, n2 + x.n, c9, ?_, (hk.low fb (by omega) (by omega) (by omega)).trans hf⟩
 rw [kqe, yyE, if_pos hx]
 exact h9
theorem byput_any (F : Nat → Prop) (A : Option Addr) (m c : Nat) (bs : List UInt8) (w : World) (h : Bs F w A m c bs) (hm : m ≤ 512) :
 Calls Tryz.prog 160 #[.slice A m c] w (zzq (some (byB bs)) w) := by
 have HH := zH (h.weaken (F' := fun b => b < w.heap.size) fun b _ hb => hb)
 have hlen := h.len
 have z0 : ¬ (m : Int) > 4096 := by omega
 obtain ⟨n0, hn0⟩ : ∃ n0, n0 = w.heap.size := ⟨_, rfl⟩
 obtain ⟨ob, hob⟩ : ∃ ob, ob = w.heap.size := ⟨_, rfl⟩
 obtain ⟨lb, hlb⟩ : ∃ lb, lb = w.heap.size + 1 := ⟨_, rfl⟩
 obtain ⟨fb, hfb⟩ : ∃ fb, fb = w.heap.size + 1 + 1 := ⟨_, rfl⟩
 obtain ⟨bb, hbb⟩ : ∃ bb, bb = w.heap.size + 1 + 1 + 1 := ⟨_, rfl⟩
 obtain ⟨B, hB⟩ : ∃ B, B = w.heap.size + 1 + 1 + 1 + 1 := ⟨_, rfl⟩
 have ho : ByO n0 ob lb fb bb B := ⟨by omega, by omega, by omega, by omega, by omega⟩
 obtain ⟨v1, hv1⟩ : ∃ v1, v1 = w.alloc (.cells #[.slice none 0 0] 41) := ⟨_, rfl⟩
 obtain ⟨v2, hv2⟩ : ∃ v2, v2 = v1.alloc (.cells #[.slice none 0 0] 41) := ⟨_, rfl⟩
 obtain ⟨v3, hv3⟩ : ∃ v3, v3 = v2.alloc (qx2 ob lb) := ⟨_, rfl⟩
 obtain ⟨W0, hW0⟩ : ∃ W0, W0 = v3.alloc (.cells #[.slice A m c] 41) := ⟨_, rfl⟩
 have s1 : v1.heap.size = w.heap.size + 1 := by rw [hv1, zS]
 have s2 : v2.heap.size = w.heap.size + 1 + 1 := by rw [hv2, zS, s1]
 have s3 : v3.heap.size = w.heap.size + 1 + 1 + 1 := by rw [hv3, zS, s2]
 have s4 : W0.heap.size = B := by rw [hW0, zS, s3, hB]
 have b1 : Below w.heap.size w v1 := by rw [hv1]; exact (zR).alloc zN _
 have b2 : Below v1.heap.size v1 v2 := by rw [hv2]; exact (zR).alloc zN _
 have b3 : Below v2.heap.size v2 v3 := by rw [hv3]; exact (zR).alloc zN _
 have b4 : Below v3.heap.size v3 W0 := by rw [hW0]; exact (zR).alloc zN _
 have q1 : v1.heap[ob]? = some (.cells #[.slice none 0 0] 41 (0, 0)) := by rw [hv1, hob]; exact heap_alloc_new w _
 have q2 : v2.heap[lb]? = some (.cells #[.slice none 0 0] 41 (0, 0)) := by rw [hv2, hlb, ← s1]; exact heap_alloc_new v1 _
 have q3 : v3.heap[fb]? = some (qx2 ob lb) := by rw [hv3, hfb, ← s2]; exact heap_alloc_new v2 _
 have q4 : W0.heap[bb]? = some (.cells #[.slice A m c] 41 (0, 0)) := by rw [hW0, hbb, ← s3]; exact heap_alloc_new v3 _
 have b14 : Below w.heap.size w W0 := ((b1.trans (b2.mono (by omega))).trans (b3.mono (by omega))).trans (b4.mono (by omega))
 have hI0 : ByI w n0 ob lb fb B [] W0 := ⟨none, 0, 0, none, 0, 0, ⟨(b4.block ob (by omega)).trans ((b3.block ob (by omega)).trans ((b2.block ob (by omega)).trans q1)), (b4.block lb (by omega)).trans ((b3.block lb (by omega)).trans q2), OwnB.nil_ _ _, MidB.nil_ _ _, by simp, ⟨by omega, by omega, by omega, by omega, by omega, by omega⟩, by rw [hn0]; exact b14⟩, (b4.block fb (by omega)).trans q3⟩
 have HI0 := zH hI0; have HO := zH ho; have HS4 := zH s4; have HB14 := zH b14
 have HSEQ := zH (runs_st 2 (by omega) n0 bb (by omega) A m c bs W0 q4 (by rw [hn0]; exact HH.out.below b14 zN))
 have hW : W0 = ((v2.alloc (qx2 ob lb)).alloc (.cells #[.slice A m c] 41)) := by rw [hW0, hv3]
 rw [hv2, hv1] at hW
 have hN0 := hn0
 rw [hlb, hob] at hW
 have HW := zH hW
 have HN0 := zH hn0; have HOB := zH hob; have HLB := zH hlb; have HFB0 := zH hfb; have HBB := zH hbb; have HLEN := zH hlen
 clear h hlen hv1 hv2 hv3 hW0 hW s1 s2 s3 s4 b1 b2 b3 b4 q1 q2 q3 q4 b14 hI0 ho hn0 hN0 hob hlb hfb hbb hB
 refine (callsIn_wide (n := 3)).1 ?_
 refine callsIn_of_wp_marks Tryz.func160 rfl trivial ?_ rfl
 simp only [Tryz.ntmps160, List.size_toArray, List.length_cons, List.length_nil, Nat.reduceAdd, Nat.reduceSub, Array.replicate_succ, Array.replicate_zero, List.push_toArray, List.append_toArray, List.nil_append, List.cons_append]
 gi_wp2
 refine ⟨trivial, ?_⟩
 (refine (runs_in _ _ _ _ _).mono ?_; rintro e w' ⟨rfl, rfl⟩)
 gi_wp2
 have hWW := HW.out
 unfold qx2 at hWW
 rw [← hWW]
 clear hWW
 try simp only [zS]
 rw [← HBB.out, ← HFB0.out, ← HLB.out, ← HOB.out]
 refine qzx rfl (by omega) (gf := 241) (lb := #[.pointer (some ⟨bb, 0, none⟩)]) rfl trivial (enters_of Tryz.func241 (by kernel_rfl) rfl) (bb := bb) (by rw [HS4.out, HO.out.o4, HO.out.o5]; omega) HSEQ.out KpB.trans (fun W l o hl => KpB.put (w := W0) (by rw [HS4.out, HO.out.o1, HO.out.o5]; omega) (by rw [HS4.out, HO.out.o4, HO.out.o5]; omega) W l o hl) (fun _ => rfl)
  (ByI w n0 ob lb fb B) (by rw [HS4.out]; exact ByI.own HO.out) (ByI.box HO.out) HI0.out
  (fun x => { tmps := #[.slice A m c, undef, .slice none 0 0, .int .i64 0, .pointer (some ⟨ob, 0, none⟩), .pointer (some ⟨lb, 0, none⟩), .pointer (some ⟨fb, 0, none⟩), .int .u8 (x.c.toNat : Int), .int .i64 (x.n : Int), .slice A m c, .int .i64 (m : Int), .bool false, .func (.func 201) #[] #[.pointer (some ⟨lb, 0, none⟩), .pointer (some ⟨ob, 0, none⟩)], .slice A m c, .func (.func 241) #[] #[.pointer (some ⟨bb, 0, none⟩)], .int .u8 (x.c.toNat : Int), .int .i64 (x.n : Int), undef, undef, undef, undef, undef, undef, undef, undef, undef, undef, undef, undef, undef, undef, undef, undef, undef, undef, undef, undef], defers := [] }) ?assign ?body ?done
 case assign =>
  intro l x W K hK
  dsimp only [rnEnc]
  gi_wp2
  exact hK
 case body =>
  rintro l' pre x W ⟨A1, n1, c1, A2, n2, c2, hfl, hfb⟩ hpl
  have HFL := zH hfl; have HFB := zH hfb; have HORD := HO
  have hpl2 : pre.length < 512 := by have := HLEN.out; omega
  have hrl := jjq pre
  have hl1 := hfl.out.len
  have hl2 := hfl.lst.len
  have hn1x : n1 ≤ 1073741824 := by omega
  have hn2b : n2 ≤ 1073741824 := by omega
  have hxm := x.most
  have hn2x : n2 + x.n ≤ 68719476736 := by omega
  have hpx : B ≤ W.heap.size := hfl.ord.2.2.2.2.2
  obtain ⟨q1, q2, q3, q4⟩ := hfl.cells
  have hx8 : x.n ≤ 8192 := by omega
  have hd : 1 ≤ 3 - 1 - 1 := by omega
  clear hfl hfb hrl hl1 hl2 hpl
  by_cases hx3 : x.n < 3
  · have hx3I : (x.n : Int) < 3 := by omega
    have HX3 := zH hx3
    have HREP := zH (show Bs (fun _ => True) (W.alloc (.cells #[.int .u8 ((x.c.toNat : Nat) : Int)] 5)).drew (some ⟨W.heap.size, 0, none⟩) 1 1 [x.c] from (Sl.new (T := tU8) (F := fun _ => True) (w := W) (cs := [.int .u8 ((x.c.toNat : Nat) : Int)]) (x := x.c) rfl 5 _ rfl).drew.any)
    have qb : ∀ o : Obj, (W.alloc o).cell? ⟨lb, 0, none⟩ = some (.slice A2 n2 c2) := fun o => zze ((zR).alloc zN o) q2
    clear hx3
    gi_wp2
    refine regLIm [(some 5, fun w' => w'.cell? ⟨lb, 0, none⟩ = some (.slice A2 n2 c2))] (by kernel_rfl) (by kernel_rfl) ?_ (fun hHeld => ?_)
    · exact ⟨fun h => (by first | exact gone (c := 5) (by decide +kernel) h | exact q2 | (dsimp only; with_reducible exact qb _) | exact qb _ | (dsimp only; with_reducible exact r2) | fail), trivial⟩
    iterate 4
     all_goals
      repeat ((first | (refine tkL 0 0 rfl (oi := ⟨_, _, _, _, _, _⟩) (v := ?_) rfl (by decide +kernel) rfl (fun _ _ _ h => by cases h.1) rfl hHeld ?_ ?_) | (refine tkP 1 (oi := ⟨_, _, _, _, _, _⟩) (v := ?_) rfl (by decide +kernel) rfl (fun _ _ _ h => by cases h.1) rfl hHeld ?_ ?_) | (refine tkP 3 (oi := ⟨_, _, _, _, _, _⟩) (v := ?_) rfl (by decide +kernel) rfl (fun _ _ _ h => by cases h.1) rfl hHeld ?_ ?_)); rotate_left; (focus (intro w; (try intro hSw); (try dsimp only at hSw); go_simp; try with_reducible rfl)); intro hHeld; (try simp only [Act.put]); (try simp only [List.setIfInBounds_toArray]); (try simp only [List.set_cons_succ]); (try simp only [List.set_cons_zero]))
      first | (refine rd1 2 (o := ⟨_, _, _, _, _, _⟩) (by decide +kernel) rfl (fun K hK => ?_)) | (refine rd1 4 (o := ⟨_, _, _, _, _, _⟩) (by decide +kernel) rfl (fun K hK => ?_)) | (refine rd1 5 (o := ⟨_, _, _, _, _, _⟩) (by decide +kernel) rfl (fun K hK => ?_)) | (refine rd1 6 (o := ⟨_, _, _, _, _, _⟩) (by decide +kernel) rfl (fun K hK => ?_))
     all_goals
      first | (refine atD 24 rfl ?_; refine step_mid rfl (.tmp 19) (.tmp 23) rfl B A2 n2 c2 (xxU pre).2 rfl HFL7.out.lst HFL7.out.ord.2.2.2.2.2 (fun _ => True) ⟨g7, 0, none⟩ x.n x.n _ rfl hs7 x.one hn2x ?_; intro A9 c9 w9 hm9 hg9 hl9; obtain ⟨_, e2, _, _⟩ := HFL7.out.growL hm9 hg9 hl9; have s2 : w9.cell? ⟨lb, 0, none⟩ = some (.slice A2 n2 c2) := (by rw [zC (e2.trans HFL7.out.lbox)]; rfl); have s3 := zF (e2.trans HFL7.out.lbox) 0) | (go_simp; ((go_at_call 203; refine (qxY (fun _ => True) _ 1 x.c x.n x.one hx8 _ HREP.out).mono ?_; rintro e w7 ⟨g7, rfl, hs7, hb7⟩; have hb7' := below7 hb7; have HFL7 := zH (HFL.out.keep hb7'); have r2 := HFL7.out.cells.2.1))) | go_simp
      refine hK.out _ _ ?_ (fun hHeld => ?_)
      · (try dsimp only); exact ⟨fun h => (by first | exact gone (c := 5) (by decide +kernel) h | exact q2 | (dsimp only; with_reducible exact qb _) | exact qb _ | (dsimp only; with_reducible exact r2) | fail), trivial⟩
      clear hK K; (try simp only [Act.put]); (try simp only [List.setIfInBounds_toArray]); (try simp only [List.set_cons_succ]); (try simp only [List.set_cons_zero])
    all_goals
     refine qzw (by decide +kernel) ?_ _
     refine ⟨rfl, ?_⟩
     gi_wp2
     exact fin9 HFL7.out hb7' hpx HX3.out hm9 hg9 hl9 HFB.out HORD.out
  · have hx3I : ¬ (x.n : Int) < 3 := by omega
    have HX3 := zH hx3
    have qf : W.cell? ⟨fb, 0, none⟩ = some (.func (.func 201) #[] #[.pointer (some ⟨lb, 0, none⟩), .pointer (some ⟨ob, 0, none⟩)]) := by rw [zC HFB.out]; rfl
    obtain ⟨xn, hxn⟩ : ∃ xn, xn = x.n := ⟨_, rfl⟩
    rw [← hxn] at hx3I hxm hn2x
    rw [← hxn]
    obtain ⟨y1, hy1⟩ : ∃ y1 : UInt8, y1 = UInt8.ofNat (xn - 3) := ⟨_, rfl⟩
    have HY := zH (show ((xn : Int) - 3) = ((y1.toNat : Nat) : Int) by rw [hy1, UInt8.toNat_ofNat']; omega)
    have HY1 := zH hy1; have HXN := zH hxn
    have HLIT : Hid (∀ w : World, Bs (fun _ => True) (w.alloc (.cells #[.int .u8 ((xn : Int) - 3), .int .u8 ((x.c.toNat : Nat) : Int)] 5)) (some ⟨w.heap.size, 0, none⟩) 2 2 [y1, x.c]) := zH fun w =>
     Sl.new2 (T := tU8) (c1 := [.int .u8 ((y1.toNat : Nat) : Int)]) (c2 := [.int .u8 ((x.c.toNat : Nat) : Int)]) rfl rfl 5 _ (by rw [HY.out]; rfl)
    clear hx3 hy1 hxn
    gi_wp2_with (first
     | (refine ⟨trivial, ?_⟩; gi_at_call 201; refine (CallsIn.inRound l' (callsIn_wide.2 (qzL w n0 ob lb B A1 n1 c1 _ A2 n2 c2 _ hn1x hn2b W HFL.out))).mono ?_; rintro e w8 ⟨rfl, A8, n8, c8, A9, c9, hfl8, hk8⟩
        have HFL8 := zH hfl8; have HK8 := zH hk8
        obtain ⟨r1, r2, r3, r4⟩ := hfl8.cells
        have HN8 := zH (show n8 ≤ 1073741824 by rw [hfl8.out.len, List.length_append]; have h1 := jjp (xxU pre).2; have h2 := jjq pre; omega)
        clear hfl8 hk8)
     | (gi_at_builtin; refine apbInL rfl (.tmp 27) (.tmp 32) rfl B A8 n8 c8 ((xxU pre).1 ++ xxc (xxU pre).2) rfl (HFL8.out.open_.alloc _).out (HFL8.out.open_.alloc _).ord.2.2.2.2.2 (fun _ => True) (some ⟨w8.heap.size, 0, none⟩) 2 2 [y1, x.c] rfl (HLIT.out w8) (by have := HN8.out; omega) ?_; intro A10 c10 w10 ho10 hg10 hl10
        obtain ⟨hs10, hk10⟩ := (HFL8.out.open_.alloc _).grow ho10 hg10 hl10
        have HS10 := zH hs10.store; have HK10 := zH hk10
        have t1 : w10.cell? ⟨ob, 0, none⟩ = some (.slice A8 n8 c8) := (by rw [zC hs10.obox]; rfl)
        have t2 := zF hs10.obox 0
        clear ho10 hg10 hl10 hs10 hk10)
     | fail)
    have hkk := ((HK8.out.trans (FlK.below HFL8.out.ord.2.2.2.2.2 ((zR).alloc zN _))).trans HK10.out).trans (FlK.setO _ (.slice A10 (n8 + 2) c10))
    refine ⟨hkk.others, kp_of HORD.out hkk, A10, n8 + 2, c10, A9, 0, c9, ?_, (hkk.low fb (by have := HORD.out.o3; have := HORD.out.o5; omega) (by have := HORD.out.o3; omega) (by have := HORD.out.o3; have := HORD.out.o2; omega)).trans HFB.out⟩
    rw [kqe, yyE, if_neg HX3.out, ← HXN.out, ← HY1.out]
    exact HS10.out
 case done =>
  rintro D xs W hD rfl ⟨A1, n1, c1, A2, n2, c2, hfl, hfb⟩ hK
  have hrl := jjq (rnL bs)
  have hrl2 := rnL_len bs
  have hl1 := hfl.out.len
  have hl2 := hfl.lst.len
  have hbs : bs.length ≤ 512 := by rw [← HLEN.out]; exact hm
  have hn1x : n1 ≤ 1073741824 := by omega
  have hn2b : n2 ≤ 1073741824 := by omega
  have HFL := zH hfl; have HKD := zH hK
  have qf : W.cell? ⟨fb, 0, none⟩ = some (.func (.func 201) #[] #[.pointer (some ⟨lb, 0, none⟩), .pointer (some ⟨ob, 0, none⟩)]) := by rw [zC hfb]; rfl
  have HDONE := zH (rn_done bs)
  clear hfl hfb hK hrl hrl2 hl1 hl2 hbs
  gi_wp2_with (first
   | (refine ⟨trivial, ?_⟩; gi_at_call 201; refine (callsIn_wide.2 (qzL w n0 ob lb B A1 n1 c1 _ A2 n2 c2 _ hn1x hn2b W HFL.out)).mono ?_; rintro e w8 ⟨rfl, A8, n8, c8, A9, c9, hfl8, hk8⟩
      have HFL8 := zH hfl8; have HK8 := zH hk8
      obtain ⟨r1, r2, r3, r4⟩ := hfl8.cells
      clear hfl8 hk8)
   | fail)
  have hKD := HK8.out.others.same D _ HKD.out rfl
  refine ⟨by simp, .inl ⟨_, _, rfl, run_takeDeferred hKD, ?_⟩⟩
  have hB : B ≤ D := by rw [← HS4.out]; exact hD
  have hfin := HFL8.out.turn (grownBy_putObj' w8 D (.deferred none)) (fun r e => by injection e with e; subst e; exact ⟨hB, _, hKD, rfl⟩)
  refine ⟨_, results_tmp2 rfl _ _ _, ?_⟩
  have ho := hfin.out
  rw [HDONE.out] at ho
  exact ⟨by rw [← HN0.out]; exact hfin.below, A8, n8, c8, rfl, ho.down (by rw [HO.out.o5, HOB.out]; omega)⟩
theorem boolput (F : Nat → Prop) (A : Option Addr) (n c : Nat) (l : List Bool) (w : World) (h : Sl yy8 F w A n c l) (hn : n ≤ 4096) :
 Calls Tryz.prog 89 #[.slice A n c] w (zzq (some (byB (xxd l))) w) :=
 zqu (fun F A m c bs w h hm => byput_any F A m c bs w h hm) F A n c l w h hn
end
section
open Go Go.RowKit
theorem r6put_any (F : Nat → Prop) (A : Option Addr) (n c : Nat) (l : List Bool) (w : World) (h : Sl yy8 F w A n c l) (hn : n ≤ 4096) :
 Calls Tryz.prog 104 #[.slice A n c] w (zzq (some (byB (xxd l))) w) := by
 have HH := zH h; have HL := zH h.len
 obtain ⟨s, hs⟩ : ∃ s, s = (n + 7) / 8 := ⟨_, rfl⟩
 have zs : ((n : Int) + 7) / 8 = (s : Int) := by omega
 have hs5 : s ≤ 512 := by omega
 have hns : n ≤ 8 * s := by omega
 have HS := zH hs; have HNS := zH hns
 have hmk := kqQ s (by omega)
 obtain ⟨g, hg⟩ : ∃ g, g = w.heap.size := ⟨_, rfl⟩
 have hp0 : PqR w w.heap.size g s (List.replicate s 0) (w.alloc (.cells (madeCells #[.int .u8 0] s) 5)) := by
  rw [hg]
  exact ⟨kqR s (by omega) w w.heap.size zN, (zR).alloc zN _⟩
 have HZ := zH (show zz3 s l 0 = List.replicate s 0 by unfold zz3; rw [List.take_zero, List.map_nil, show catN 1 [] = 0 from rfl, Nat.zero_mul, jje])
 have HFIN := zH (show zz3 s l n = xxd l by unfold zz3 xxd pack zzD; rw [zL (by rw [← HL.out]; exact Nat.le_refl _), List.length_map, ← HL.out, Nat.mul_one, ← hs])
 have z0 : ¬ (n : Int) > 4096 := by omega
 have z0' : ¬ (4096 : Int) < n := by omega
 have HP0 := zH hp0; have HG := zH hg
 clear h hs hns hp0 hg
 go_enter Tryz.func104, Tryz.ntmps104
 go_upto_region 4 with fail
 rw [← HG.out]
 go_wp2_with fail
 go_loopw [5] (fun iv wr => ∃ i : Nat, i ≤ n ∧ iv = .int .i64 (i : Int) ∧ PqR w w.heap.size g s (zz3 s l i) wr) (fun iv _ => n - (intOf iv).toNat)
 case atStart => exact ⟨0, Nat.zero_le _, rfl, by rw [HZ.out]; exact HP0.out⟩
 case round =>
  obtain ⟨i, hi, rfl, hp⟩ := hrel
  have HP := zH hp
  clear hp
  by_cases hlt : i < n
  · have hil : i < l.length := by rw [← HL.out]; exact hlt
    obtain ⟨x, hx⟩ : ∃ x, x = l[i] := ⟨_, rfl⟩
    obtain ⟨b, o, u, rfl, _, _, hr, hc⟩ := HH.out.at1 hil rfl
    rw [← hx] at hr
    have hr : [u] = [Value.bool x] := hr
    injection hr with hr; subst hr
    have hc2 := zze HP.out.below hc
    have hi1 : (0 : Int) ≤ (i : Int) := by omega
    have hi2 : (i : Int) < (n : Int) := by omega
    have ha8 : i < 8 * s := by have := HNS.out; omega
    clear hc
    cases x with
    | false =>
      have HR := zH (uuy s l i hil ha8 hx.symm)
      clear hx
      go_wp2_with fail
      go_roundw
      case rel => exact ⟨i + 1, by omega, by go_num, by rw [HR.out]; exact HP.out⟩
      case measure => simp [intOf]; omega
    | true =>
      have hbt := jjv s l i hil ha8 hx.symm
      obtain ⟨e, he⟩ : ∃ e, e = i % 8 := ⟨_, rfl⟩
      obtain ⟨y, hy⟩ : ∃ y, y = i / 8 := ⟨_, rfl⟩
      have f1 : (i : Int) % 8 = (e : Int) := by omega
      have f2 : (i : Int) / 8 = (y : Int) := by omega
      have hys : y < s := by omega
      have he8 : e < 8 := by omega
      obtain ⟨d, hd⟩ : ∃ d, d = 2 ^ (7 - e) := ⟨_, rfl⟩
      have f3 : (128 : Int) / 2 ^ e = (d : Int) := by
       rw [hd]
       obtain rfl | rfl | rfl | rfl | rfl | rfl | rfl | rfl : e = 0 ∨ e = 1 ∨ e = 2 ∨ e = 3 ∨ e = 4 ∨ e = 5 ∨ e = 6 ∨ e = 7 := by omega
       all_goals decide
      obtain ⟨V, hV⟩ : ∃ V, V = catN 1 ((l.take i).map b01) := ⟨_, rfl⟩
      obtain ⟨b8, hb⟩ : ∃ b8, b8 = V * 2 ^ (8 * s - i) / 256 ^ (s - 1 - y) % 256 := ⟨_, rfl⟩
      have hb8 : b8 < 256 := by rw [hb]; exact Nat.mod_lt _ (by decide)
      have hbf : b8 % 2 ^ (8 - e) = 0 := by rw [hb, hy, he]; exact yyQ (V := V) (by omega)
      have hd2 : d < 2 ^ (8 - e) := by rw [hd]; exact Nat.pow_lt_pow_right (by decide) (by omega)
      have hlt8 := kqK hb8 hbf (by omega) hd2
      obtain ⟨v, hv⟩ : ∃ v, v = UInt8.ofNat (b8 + d) := ⟨_, rfl⟩
      have f4 : (b8 : Int) + (d : Int) = ((v.toNat : Nat) : Int) := by rw [hv, UInt8.toNat_ofNat']; omega
      have hlen : y < (zz3 s l i).length := by unfold zz3; rw [zz2]; exact hys
      have g0 : wr.cell? ⟨g, y, none⟩ = some (.int .u8 (b8 : Int)) := by
       rw [HP.out.byte hlen, jju, ← hV, ← hb]
      have g1 : wr.frozen? ⟨g, y, none⟩ = false := HP.out.own.free1 yyz y
      have hpn := (HP.out.store y v).drew
      rw [← hV, ← hy, ← hb, Nat.one_mul, show 8 - i % 8 - 1 = 7 - e by omega, ← hd, ← hv] at hbt
      rw [hbt] at hpn
      have HPN := zH hpn
      have i1 : (0 : Int) ≤ (y : Int) := by omega
      have i2 : (y : Int) < (s : Int) := by omega
      clear he hy hd hb hbf hd2 hv hlen ha8 hx hV hbt hpn
      go_upto_region 8 with fail
      go_region
      go_wp2_with fail
      go_roundw
      case rel => exact ⟨i + 1, by omega, by go_num, HPN.out⟩
      case measure => simp [intOf]; omega
  · obtain rfl : i = n := by omega
    have hbs := HP.out.row.bs
    rw [HFIN.out] at hbs
    have HBS := zH hbs
    clear hbs
    go_wp2_with (first
     | (go_at_call 171; refine (r5put_any _ _ s s (xxd l) _ HBS.out (by omega)).mono ?_; rintro e w5 ⟨hb5, A5, n5, c5, rfl, ho5⟩; have HB5 := zH hb5; have HO5 := zH ho5; clear hb5 ho5)
     | fail)
    go_ret2
    have hbz := HP.out.below.size
    exact ⟨HP.out.below.trans (HB5.out.mono hbz), A5, n5, c5, rfl, HO5.out.down hbz⟩
end
end Go.Proofs.YtpmglcachffojaaGreatDoor
