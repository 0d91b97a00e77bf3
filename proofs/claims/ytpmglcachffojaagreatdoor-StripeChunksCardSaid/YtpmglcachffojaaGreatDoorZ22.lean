/- A part of what Chunks leans on. -/
import Derived.Test.YtpmglcachffojaaGreatDoorZ21
import Derived.Lib.OthersKept
import Derived.Lib.ValidLaws
import Derived.Laws.RangeAny
import Derived.Laws.StructEq
import Derived.Lib.QuoteBits
set_option maxRecDepth 100000
set_option maxHeartbeats 16000000
namespace Go.Proofs.YtpmglcachffojaaGreatDoor
section
open Go Go.RowKit Go.Shelf BigFrame
attribute [local go_sem] Oper.semAt_some
structure ByO (n0 ob lb fb bb B : Nat) : Prop where
 o1 : n0 = ob
 o2 : lb = ob + 1
 o3 : fb = ob + 2
 o4 : bb = ob + 3
 o5 : B = ob + 4
def qxi (ob lb : Nat) : Obj := .cells #[.func (.func 201) #[] #[.pointer (some ⟨lb, 0, none⟩), .pointer (some ⟨ob, 0, none⟩)]] 1 (0, 0)
def ByI (w : World) (n0 ob lb fb B : Nat) (pre : List Rn) (W : World) : Prop := ∃ A1 n1 c1 A2 n2 c2, FlR w n0 ob lb B A1 n1 c1 (xxr pre).1 A2 n2 c2 (xxr pre).2 W ∧ W.heap[fb]? = some (qxi ob lb)
theorem ByI.own {w : World} {n0 ob lb fb bb B : Nat} (h : ByO n0 ob lb fb bb B) : OwnFrom B (ByI w n0 ob lb fb B) := fun s W W' row ⟨A1, n1, c1, A2, n2, c2, h1, h2⟩ hg hr => by
 have := h.o3; have := h.o5
 exact ⟨A1, n1, c1, A2, n2, c2, h1.turn hg hr, (hg.block fb (zzb h2) (fun e => by have := (hr fb e.symm).1; omega)).trans h2⟩
theorem ByI.box {w : World} {n0 ob lb fb bb B : Nat} (h : ByO n0 ob lb fb bb B) (pre : List Rn) (W : World) (v : Value) (hi : ByI w n0 ob lb fb B pre W) : ByI w n0 ob lb fb B pre (W.setCell ⟨bb, 0, none⟩ v) := by
 obtain ⟨A1, n1, c1, A2, n2, c2, h1, h2⟩ := hi
 have := h.o1; have := h.o2; have := h.o3; have := h.o4; have := h.o5
 exact ⟨A1, n1, c1, A2, n2, c2, h1.other (by omega) (by omega) (by omega) (by omega) v, zzc h2 (by omega)⟩
theorem kp_of {n0 ob lb fb bb B : Nat} (h : ByO n0 ob lb fb bb B) {W W' : World} (hk : FlK ob lb B W W') : KpB n0 bb W W' := by
 have := h.o1; have := h.o2; have := h.o3; have := h.o4; have := h.o5
 exact ⟨hk.low bb (by omega) (by omega) (by omega), fun b hb => hk.low b (by omega) (by omega) (by omega), hk.others.size⟩
theorem below7 {W : World} {o : Obj} {w7 : World} (h : Below (W.alloc o).drew.heap.size (W.alloc o).drew w7) : Below W.heap.size W w7 :=
 (((Below.refl W.heap.size W).alloc zN o).drew).trans (h.mono (by show W.heap.size ≤ (W.alloc o).heap.size; simp))
theorem fin9 {w W w7 w9 : World} {n0 ob lb fb bb B : Nat} {pre : List Rn} {x : Rn} {A1 A2 A9 : Option Addr} {n1 c1 n2 c2 c9 : Nat} (h7 : FlR w n0 ob lb B A1 n1 c1 (xxr pre).1 A2 n2 c2 (xxr pre).2 w7) (hb : Below W.heap.size W w7) (hB : B ≤ W.heap.size) (hx : x.n < 3)
 (hm : MidB w9 B A9 (n2 + x.n) c9 ((xxr pre).2 ++ List.replicate x.n x.c)) (hg : w7.grownBy w9 (blkM A2 c2)) (hl : blkM A9 c9 = blkM A2 c2 ∨ ∀ g, blkM A9 c9 = some g → w7.heap.size ≤ g) (hf : W.heap[fb]? = some (qxi ob lb)) (ho : ByO n0 ob lb fb bb B) :
 KeepsOthers W (w9.setCell ⟨lb, 0, none⟩ (.slice A9 (n2 + x.n) c9)) ∧ KpB n0 bb W (w9.setCell ⟨lb, 0, none⟩ (.slice A9 (n2 + x.n) c9)) ∧ ByI w n0 ob lb fb B (pre ++ [x]) (w9.setCell ⟨lb, 0, none⟩ (.slice A9 (n2 + x.n) c9)) := by
 obtain ⟨_, _, h9, k9⟩ := h7.growL hm hg hl
 have hk := (FlK.below hB hb).trans k9
 have := ho.o1; have := ho.o2; have := ho.o3; have := ho.o5
 refine ⟨hk.others, kp_of ho hk, A1, n1, c1, A9, n2 + x.n, c9, ?_, (hk.low fb (by omega) (by omega) (by omega)).trans hf⟩
 rw [jjm, yyp, if_pos hx]
 exact h9
theorem xqU (F : Nat → Prop) (A : Option Addr) (m c : Nat) (bs : List UInt8) (w : World) (h : Bs F w A m c bs) (hm : m ≤ 512) :
 Calls Tryz.prog 160 #[.slice A m c] w (zzF (some (byB bs)) w) := by
 have HH := zH (h.weaken (F' := fun b => b < w.heap.size) fun b _ hb => hb)
 have hlen := h.len
 have z0 : ¬ (m : Int) > 4096 := by omega
 obtain ⟨n0, hn0⟩ : ∃ n0, n0 = w.heap.size := ⟨_, rfl⟩
 obtain ⟨ob, hob⟩ : ∃ ob, ob = w.heap.size := ⟨_, rfl⟩
 obtain ⟨lb, hlb⟩ : ∃ lb, lb = w.heap.size + 1 := ⟨_, rfl⟩
 obtain ⟨fb, hfb⟩ : ∃ fb, fb = w.heap.size + 1 + 1 := ⟨_, rfl⟩
 obtain ⟨bb, hbb⟩ : ∃ bb, bb = w.heap.size + 1 + 1 + 1 := ⟨_, rfl⟩
 obtain ⟨B, hB⟩ : ∃ B, B = w.heap.size + 1 + 1 + 1 + 1 := ⟨_, rfl⟩
 have ho : ByO n0 ob lb fb bb B := ⟨by omega, by omega, by omega, by omega, by omega⟩
 obtain ⟨v1, hv1⟩ : ∃ v1, v1 = w.alloc (.cells #[.slice none 0 0] 41) := ⟨_, rfl⟩
 obtain ⟨v2, hv2⟩ : ∃ v2, v2 = v1.alloc (.cells #[.slice none 0 0] 41) := ⟨_, rfl⟩
 obtain ⟨v3, hv3⟩ : ∃ v3, v3 = v2.alloc (qxi ob lb) := ⟨_, rfl⟩
 obtain ⟨W0, hW0⟩ : ∃ W0, W0 = v3.alloc (.cells #[.slice A m c] 41) := ⟨_, rfl⟩
 have s1 : v1.heap.size = w.heap.size + 1 := by rw [hv1, zS]
 have s2 : v2.heap.size = w.heap.size + 1 + 1 := by rw [hv2, zS, s1]
 have s3 : v3.heap.size = w.heap.size + 1 + 1 + 1 := by rw [hv3, zS, s2]
 have s4 : W0.heap.size = B := by rw [hW0, zS, s3, hB]
 have b1 : Below w.heap.size w v1 := by rw [hv1]; exact (zR).alloc zN _
 have b2 : Below v1.heap.size v1 v2 := by rw [hv2]; exact (zR).alloc zN _
 have b3 : Below v2.heap.size v2 v3 := by rw [hv3]; exact (zR).alloc zN _
 have b4 : Below v3.heap.size v3 W0 := by rw [hW0]; exact (zR).alloc zN _
 have q1 : v1.heap[ob]? = some (.cells #[.slice none 0 0] 41 (0, 0)) := by rw [hv1, hob]; exact heap_alloc_new w _
 have q2 : v2.heap[lb]? = some (.cells #[.slice none 0 0] 41 (0, 0)) := by rw [hv2, hlb, ← s1]; exact heap_alloc_new v1 _
 have q3 : v3.heap[fb]? = some (qxi ob lb) := by rw [hv3, hfb, ← s2]; exact heap_alloc_new v2 _
 have q4 : W0.heap[bb]? = some (.cells #[.slice A m c] 41 (0, 0)) := by rw [hW0, hbb, ← s3]; exact heap_alloc_new v3 _
 have b14 : Below w.heap.size w W0 := ((b1.trans (b2.mono (by omega))).trans (b3.mono (by omega))).trans (b4.mono (by omega))
 have hI0 : ByI w n0 ob lb fb B [] W0 := ⟨none, 0, 0, none, 0, 0, ⟨(b4.block ob (by omega)).trans ((b3.block ob (by omega)).trans ((b2.block ob (by omega)).trans q1)), (b4.block lb (by omega)).trans ((b3.block lb (by omega)).trans q2), OwnB.nil_ _ _, MidB.nil_ _ _, by simp, ⟨by omega, by omega, by omega, by omega, by omega, by omega⟩, by rw [hn0]; exact b14⟩, (b4.block fb (by omega)).trans q3⟩
 have HI0 := zH hI0; have HO := zH ho; have HS4 := zH s4; have HB14 := zH b14
 have HSEQ := zH (runs_st 2 (by omega) n0 bb (by omega) A m c bs W0 q4 (by rw [hn0]; exact HH.out.below b14 zN))
 have hW : W0 = ((v2.alloc (qxi ob lb)).alloc (.cells #[.slice A m c] 41)) := by rw [hW0, hv3]
 rw [hv2, hv1] at hW
 have hN0 := hn0
 rw [hlb, hob] at hW
 have HW := zH hW
 have HN0 := zH hn0; have HOB := zH hob; have HLB := zH hlb; have HFB0 := zH hfb; have HBB := zH hbb; have HLEN := zH hlen
 clear h hlen hv1 hv2 hv3 hW0 hW s1 s2 s3 s4 b1 b2 b3 b4 q1 q2 q3 q4 b14 hI0 ho hn0 hN0 hob hlb hfb hbb hB
 refine (callsIn_wide (n := 3)).1 ?_
 refine callsIn_of_wp_marks Tryz.func160 rfl trivial ?_ rfl
 simp only [Tryz.ntmps160, List.size_toArray, List.length_cons, List.length_nil, Nat.reduceAdd, Nat.reduceSub, Array.replicate_succ, Array.replicate_zero, List.push_toArray, List.append_toArray, List.nil_append, List.cons_append]
 gi_wp2
 refine ⟨trivial, ?_⟩
 (refine (runs_in _ _ _ _ _).mono ?_; rintro e w' ⟨rfl, rfl⟩)
 gi_wp2
 have hWW := HW.out
 unfold qxi at hWW
 rw [← hWW]
 clear hWW
 try simp only [zS]
 rw [← HBB.out, ← HFB0.out, ← HLB.out, ← HOB.out]
 refine kqq rfl (by omega) (gf := 241) (lb := #[.pointer (some ⟨bb, 0, none⟩)]) rfl trivial (enters_of Tryz.func241 (by kernel_rfl) rfl) (bb := bb) (by rw [HS4.out, HO.out.o4, HO.out.o5]; omega) HSEQ.out KpB.trans (fun W l o hl => KpB.put (w := W0) (by rw [HS4.out, HO.out.o1, HO.out.o5]; omega) (by rw [HS4.out, HO.out.o4, HO.out.o5]; omega) W l o hl) (fun _ => rfl)
  (ByI w n0 ob lb fb B) (by rw [HS4.out]; exact ByI.own HO.out) (ByI.box HO.out) HI0.out
  (fun x => { tmps := #[.slice A m c, undef, .slice none 0 0, .int .i64 0, .pointer (some ⟨ob, 0, none⟩), .pointer (some ⟨lb, 0, none⟩), .pointer (some ⟨fb, 0, none⟩), .int .u8 (x.c.toNat : Int), .int .i64 (x.n : Int), .slice A m c, .int .i64 (m : Int), .bool false, .func (.func 201) #[] #[.pointer (some ⟨lb, 0, none⟩), .pointer (some ⟨ob, 0, none⟩)], .slice A m c, .func (.func 241) #[] #[.pointer (some ⟨bb, 0, none⟩)], .int .u8 (x.c.toNat : Int), .int .i64 (x.n : Int), undef, undef, undef, undef, undef, undef, undef, undef, undef, undef, undef, undef, undef, undef, undef, undef, undef, undef, undef, undef], defers := [] }) ?assign ?body ?done
 case assign =>
  intro l x W K hK
  dsimp only [rnEnc]
  gi_wp2
  exact hK
 case body =>
  rintro l' pre x W ⟨A1, n1, c1, A2, n2, c2, hfl, hfb⟩ hpl
  have HFL := zH hfl; have HFB := zH hfb; have HORD := HO
  have hpl2 : pre.length < 512 := by have := HLEN.out; omega
  have hrl := uuA pre
  have hl1 := hfl.out.len
  have hl2 := hfl.lst.len
  have hn1x : n1 ≤ 1073741824 := by omega
  have hn2b : n2 ≤ 1073741824 := by omega
  have hxm := x.most
  have hn2x : n2 + x.n ≤ 68719476736 := by omega
  have hpx : B ≤ W.heap.size := hfl.ord.2.2.2.2.2
  obtain ⟨q1, q2, q3, q4⟩ := hfl.cells
  have hx8 : x.n ≤ 8192 := by omega
  have hd : 1 ≤ 3 - 1 - 1 := by omega
  clear hfl hfb hrl hl1 hl2 hpl
  by_cases hx3 : x.n < 3
  · have hx3I : (x.n : Int) < 3 := by omega
    have HX3 := zH hx3
    have HREP := zH (show Bs (fun _ => True) (W.alloc (.cells #[.int .u8 ((x.c.toNat : Nat) : Int)] 5)).drew (some ⟨W.heap.size, 0, none⟩) 1 1 [x.c] from (Sl.new (T := tU8) (F := fun _ => True) (w := W) (cs := [.int .u8 ((x.c.toNat : Nat) : Int)]) (x := x.c) rfl 5 _ rfl).drew.any)
    have qb : ∀ o : Obj, (W.alloc o).cell? ⟨lb, 0, none⟩ = some (.slice A2 n2 c2) := fun o => zzh ((zR).alloc zN o) q2
    clear hx3
    gi_wp2
    refine regLIm [(some 5, fun w' => w'.cell? ⟨lb, 0, none⟩ = some (.slice A2 n2 c2))] (by kernel_rfl) (by kernel_rfl) ?_ (fun hHeld => ?_)
    · exact ⟨fun h => (by first | exact gone (c := 5) (by decide +kernel) h | exact q2 | (dsimp only; with_reducible exact qb _) | exact qb _ | (dsimp only; with_reducible exact r2) | fail), trivial⟩
    iterate 4
     all_goals
      repeat ((first | (refine tkL 0 0 rfl (oi := ⟨_, _, _, _, _, _⟩) (v := ?_) rfl (by decide +kernel) rfl (fun _ _ _ h => by cases h.1) rfl hHeld ?_ ?_) | (refine tkP 1 (oi := ⟨_, _, _, _, _, _⟩) (v := ?_) rfl (by decide +kernel) rfl (fun _ _ _ h => by cases h.1) rfl hHeld ?_ ?_) | (refine tkP 3 (oi := ⟨_, _, _, _, _, _⟩) (v := ?_) rfl (by decide +kernel) rfl (fun _ _ _ h => by cases h.1) rfl hHeld ?_ ?_)); rotate_left; (focus (intro w; (try intro hSw); (try dsimp only at hSw); go_simp; try with_reducible rfl)); intro hHeld; (try simp only [Act.put]); (try simp only [List.setIfInBounds_toArray]); (try simp only [List.set_cons_succ]); (try simp only [List.set_cons_zero]))
      first | (refine rd1 2 (o := ⟨_, _, _, _, _, _⟩) (by decide +kernel) rfl (fun K hK => ?_)) | (refine rd1 4 (o := ⟨_, _, _, _, _, _⟩) (by decide +kernel) rfl (fun K hK => ?_)) | (refine rd1 5 (o := ⟨_, _, _, _, _, _⟩) (by decide +kernel) rfl (fun K hK => ?_)) | (refine rd1 6 (o := ⟨_, _, _, _, _, _⟩) (by decide +kernel) rfl (fun K hK => ?_))
     all_goals
      first | (refine atD 24 rfl ?_; refine step_mid rfl (.tmp 19) (.tmp 23) rfl B A2 n2 c2 (xxr pre).2 rfl HFL7.out.lst HFL7.out.ord.2.2.2.2.2 (fun _ => True) ⟨g7, 0, none⟩ x.n x.n _ rfl hs7 x.one hn2x ?_; intro A9 c9 w9 hm9 hg9 hl9; obtain ⟨_, e2, _, _⟩ := HFL7.out.growL hm9 hg9 hl9; have s2 : w9.cell? ⟨lb, 0, none⟩ = some (.slice A2 n2 c2) := (by rw [zC (e2.trans HFL7.out.lbox)]; rfl); have s3 := zF (e2.trans HFL7.out.lbox) 0) | (go_simp; ((go_at_call 203; refine (qxe (fun _ => True) _ 1 x.c x.n x.one hx8 _ HREP.out).mono ?_; rintro e w7 ⟨g7, rfl, hs7, hb7⟩; have hb7' := below7 hb7; have HFL7 := zH (HFL.out.keep hb7'); have r2 := HFL7.out.cells.2.1))) | go_simp
      refine hK.out _ _ ?_ (fun hHeld => ?_)
      · (try dsimp only); exact ⟨fun h => (by first | exact gone (c := 5) (by decide +kernel) h | exact q2 | (dsimp only; with_reducible exact qb _) | exact qb _ | (dsimp only; with_reducible exact r2) | fail), trivial⟩
      clear hK K; (try simp only [Act.put]); (try simp only [List.setIfInBounds_toArray]); (try simp only [List.set_cons_succ]); (try simp only [List.set_cons_zero])
    all_goals
     refine vvW (by decide +kernel) ?_ _
     refine ⟨rfl, ?_⟩
     gi_wp2
     exact fin9 HFL7.out hb7' hpx HX3.out hm9 hg9 hl9 HFB.out HORD.out
  · have hx3I : ¬ (x.n : Int) < 3 := by omega
    have HX3 := zH hx3
    have qf : W.cell? ⟨fb, 0, none⟩ = some (.func (.func 201) #[] #[.pointer (some ⟨lb, 0, none⟩), .pointer (some ⟨ob, 0, none⟩)]) := by rw [zC HFB.out]; rfl
    obtain ⟨xn, hxn⟩ : ∃ xn, xn = x.n := ⟨_, rfl⟩
    rw [← hxn] at hx3I hxm hn2x
    rw [← hxn]
    obtain ⟨y1, hy1⟩ : ∃ y1 : UInt8, y1 = UInt8.ofNat (xn - 3) := ⟨_, rfl⟩
    have HY := zH (show ((xn : Int) - 3) = ((y1.toNat : Nat) : Int) by rw [hy1, UInt8.toNat_ofNat']; omega)
    have HY1 := zH hy1; have HXN := zH hxn
    have HLIT : Hid (∀ w : World, Bs (fun _ => True) (w.alloc (.cells #[.int .u8 ((xn : Int) - 3), .int .u8 ((x.c.toNat : Nat) : Int)] 5)) (some ⟨w.heap.size, 0, none⟩) 2 2 [y1, x.c]) := zH fun w =>
     Sl.new2 (T := tU8) (c1 := [.int .u8 ((y1.toNat : Nat) : Int)]) (c2 := [.int .u8 ((x.c.toNat : Nat) : Int)]) rfl rfl 5 _ (by rw [HY.out]; rfl)
    clear hx3 hy1 hxn
    gi_wp2_with (first
     | (refine ⟨trivial, ?_⟩; gi_at_call 201; refine (CallsIn.inRound l' (callsIn_wide.2 (kqF w n0 ob lb B A1 n1 c1 _ A2 n2 c2 _ hn1x hn2b W HFL.out))).mono ?_; rintro e w8 ⟨rfl, A8, n8, c8, A9, c9, hfl8, hk8⟩
        have HFL8 := zH hfl8; have HK8 := zH hk8
        obtain ⟨r1, r2, r3, r4⟩ := hfl8.cells
        have HN8 := zH (show n8 ≤ 1073741824 by rw [hfl8.out.len, List.length_append]; have h1 := uuz (xxr pre).2; have h2 := uuA pre; omega)
        clear hfl8 hk8)
     | (gi_at_builtin; refine apbInL rfl (.tmp 27) (.tmp 32) rfl B A8 n8 c8 ((xxr pre).1 ++ yyW (xxr pre).2) rfl (HFL8.out.open_.alloc _).out (HFL8.out.open_.alloc _).ord.2.2.2.2.2 (fun _ => True) (some ⟨w8.heap.size, 0, none⟩) 2 2 [y1, x.c] rfl (HLIT.out w8) (by have := HN8.out; omega) ?_; intro A10 c10 w10 ho10 hg10 hl10
        obtain ⟨hs10, hk10⟩ := (HFL8.out.open_.alloc _).grow ho10 hg10 hl10
        have HS10 := zH hs10.store; have HK10 := zH hk10
        have t1 : w10.cell? ⟨ob, 0, none⟩ = some (.slice A8 n8 c8) := (by rw [zC hs10.obox]; rfl)
        have t2 := zF hs10.obox 0
        clear ho10 hg10 hl10 hs10 hk10)
     | fail)
    have hkk := ((HK8.out.trans (FlK.below HFL8.out.ord.2.2.2.2.2 ((zR).alloc zN _))).trans HK10.out).trans (FlK.setO _ (.slice A10 (n8 + 2) c10))
    refine ⟨hkk.others, kp_of HORD.out hkk, A10, n8 + 2, c10, A9, 0, c9, ?_, (hkk.low fb (by have := HORD.out.o3; have := HORD.out.o5; omega) (by have := HORD.out.o3; omega) (by have := HORD.out.o3; have := HORD.out.o2; omega)).trans HFB.out⟩
    rw [jjm, yyp, if_neg HX3.out, ← HXN.out, ← HY1.out]
    exact HS10.out
 case done =>
  rintro D xs W hD rfl ⟨A1, n1, c1, A2, n2, c2, hfl, hfb⟩ hK
  have hrl := uuA (rnL bs)
  have hrl2 := xqp bs
  have hl1 := hfl.out.len
  have hl2 := hfl.lst.len
  have hbs : bs.length ≤ 512 := by rw [← HLEN.out]; exact hm
  have hn1x : n1 ≤ 1073741824 := by omega
  have hn2b : n2 ≤ 1073741824 := by omega
  have HFL := zH hfl; have HKD := zH hK
  have qf : W.cell? ⟨fb, 0, none⟩ = some (.func (.func 201) #[] #[.pointer (some ⟨lb, 0, none⟩), .pointer (some ⟨ob, 0, none⟩)]) := by rw [zC hfb]; rfl
  have HDONE := zH (rn_done bs)
  clear hfl hfb hK hrl hrl2 hl1 hl2 hbs
  gi_wp2_with (first
   | (refine ⟨trivial, ?_⟩; gi_at_call 201; refine (callsIn_wide.2 (kqF w n0 ob lb B A1 n1 c1 _ A2 n2 c2 _ hn1x hn2b W HFL.out)).mono ?_; rintro e w8 ⟨rfl, A8, n8, c8, A9, c9, hfl8, hk8⟩
      have HFL8 := zH hfl8; have HK8 := zH hk8
      obtain ⟨r1, r2, r3, r4⟩ := hfl8.cells
      clear hfl8 hk8)
   | fail)
  have hKD := HK8.out.others.same D _ HKD.out rfl
  refine ⟨by simp, .inl ⟨_, _, rfl, run_takeDeferred hKD, ?_⟩⟩
  have hB : B ≤ D := by rw [← HS4.out]; exact hD
  have hfin := HFL8.out.turn (grownBy_putObj' w8 D (.deferred none)) (fun r e => by injection e with e; subst e; exact ⟨hB, _, hKD, rfl⟩)
  refine ⟨_, results_tmp2 rfl _ _ _, ?_⟩
  have ho := hfin.out
  rw [HDONE.out] at ho
  exact ⟨by rw [← HN0.out]; exact hfin.below, A8, n8, c8, rfl, ho.down (by rw [HO.out.o5, HOB.out]; omega)⟩
theorem xqV (F : Nat → Prop) (A : Option Addr) (n c : Nat) (l : List Bool) (w : World) (h : Sl vvU F w A n c l) (hn : n ≤ 4096) :
 Calls Tryz.prog 89 #[.slice A n c] w (zzF (some (byB (vvX l))) w) :=
 qzw (fun F A m c bs w h hm => xqU F A m c bs w h hm) F A n c l w h hn
end
section
open Go Go.RowKit
theorem zze {w w' : World} (h : Lib.Utf8Tabs 0 1 w) (hb : Below w.heap.size w w') : Lib.Utf8Tabs 0 1 w' :=
 ⟨fun c hc => zzh hb (h.1 c hc), fun i hi => ⟨zzh hb (h.2 i hi).1, zzh hb (h.2 i hi).2⟩⟩
theorem ext_drop (s : ByteArray) (pos : Nat) : s.extract pos s.size = ⟨(s.data.toList.drop pos).toArray⟩ := by
 apply ByteArray.ext
 apply Array.toList_inj.1
 rw [ByteArray.data_extract, Array.toList_extract, List.extract_eq_take_drop]
 show _ = s.data.toList.drop pos
 rw [zL]
 rw [List.length_drop, Array.length_toList]
 exact Nat.le_refl _
theorem qzz (s : ByteArray) (pos : Nat) (h : pos < s.size) : Lib.decodeGo (s.extract pos s.size) = Utf8.decode s pos := by
 have hsz : (s.extract pos s.size).size = s.size - pos := by rw [ByteArray.size_extract]; omega
 unfold Lib.decodeGo
 rw [if_neg (by omega), ext_drop]
 exact Lib.decodeL_drop s pos
theorem xqW (s : ByteArray) (w : World) (hT : Lib.Utf8Tabs 0 1 w) :
 Calls Tryz.prog 87 #[.string s] w fun e w' => e = .returned (.bool (Lib.validD s.data.toList)) ∧ Below w.heap.size w w' := by
 obtain ⟨l, hl⟩ : ∃ l, l = s.data.toList := ⟨_, rfl⟩
 rw [← hl]
 have HL := zH hl; have HT := zH hT
 clear hl hT
 go_enter Tryz.func87, Tryz.ntmps87
 go_wp2_with fail
 obtain ⟨k, hk⟩ : ∃ k, k = w.heap.size := ⟨_, rfl⟩
 have HK := zH hk
 rw [← hk]
 clear hk
 go_loopw [10] (fun _ wr => ∃ pos : Nat, pos ≤ s.size ∧ wr.heap[k]? = some (.stringIter s pos) ∧ Below w.heap.size w wr ∧ Lib.validD (l.drop pos) = Lib.validD l)
  (fun _ wr => s.size - wr.iterPos k)
 case atStart => exact ⟨0, Nat.zero_le _, by rw [HK.out]; exact heap_alloc_new w _, (zR).alloc zN _, by rw [List.drop_zero]⟩
 case round =>
  obtain ⟨pos, hpos, hit, hb, hv⟩ := hrel
  have HIT := zH hit; have HB := zH hb; have HV := zH hv
  have hip : wr.iterPos k = pos := by unfold World.iterPos; rw [hit]
  have HIP := zH hip
  have hls : l.length = s.size := by rw [HL.out, Array.length_toList]; rfl
  have HLS := zH hls
  clear hb hv hip
  by_cases hlt : pos < s.size
  · have hn := fun ty => Lib.run_next_any_at (P := Tryz.prog) wr k s pos ty hit hlt
    obtain ⟨r, hr⟩ : ∃ r, r = (Utf8.decode s pos).1 := ⟨_, rfl⟩
    obtain ⟨d, hd⟩ : ∃ d, d = (Utf8.decode s pos).2 := ⟨_, rfl⟩
    rw [← hr, ← hd] at hn
    have hdl := Lib.decodeL_drop s pos
    rw [← HL.out] at hdl
    have hwid := Lib.decodeL_width (l.drop pos)
    have hle := Lib.decodeL_le (l.drop pos) (fun e => by have := congrArg List.length e; rw [List.length_drop] at this; simp at this; omega)
    rw [hdl, ← hd] at hwid hle
    rw [List.length_drop] at hle
    have hst := Lib.validD_step (l.drop pos) (fun e => by have := congrArg List.length e; rw [List.length_drop] at this; simp at this; omega)
    rw [hdl, ← hr, ← hd, List.drop_drop] at hst
    have HST := zH hst; have HWID := zH hwid; have HLE := zH hle
    obtain ⟨w2, hw2⟩ : ∃ w2, w2 = wr.iterAt k s (pos + d) := ⟨_, rfl⟩
    rw [← hw2] at hn
    have hit2 : w2.heap[k]? = some (.stringIter s (pos + d)) := by rw [hw2]; exact Lib.iterAt_heap wr k s pos _ hit
    have hb2 : Below w.heap.size w w2 := by rw [hw2]; exact Lib.below_iterAt HB.out (by rw [HK.out]; exact Nat.le_refl _) s _
    have HIT2 := zH hit2; have HB2 := zH hb2
    have hip2 : w2.iterPos k = pos + d := by unfold World.iterPos; rw [hit2]
    have HIP2 := zH hip2
    have HR := zH hr; have HD := zH hd
    clear hr hd hdl hwid hle hst hw2 hit hit2 hb2 hip2
    by_cases hr3 : r = 65533
    · subst hr3
      have HDG := zH (qzz s pos hlt)
      have i1 : (pos : Int) ≤ (s.size : Int) := by omega
      have i2 : (0 : Int) ≤ (pos : Int) := by omega
      have HR2 := zH (show (Utf8.decode s pos).1 = 65533 from HR.out.symm)
      by_cases hd1 : d = 1
      · have hdI : (d : Int) = 1 := by omega
        have HFIN := zH (show Lib.validD l = false by rw [← HV.out, HST.out, if_pos ⟨rfl, hd1⟩])
        clear hd1
        go_wp2_with (first
         | (go_at_call 156; refine (Tryz.utf8_DecodeRuneInString (s.extract pos s.size) _ (zze HT.out HB2.out)).mono ?_; rintro e w3 ⟨rfl, hb3⟩; rw [HDG.out, ← HD.out, HR2.out]; have HB3 := zH hb3; clear hb3)
         | fail)
        go_ret
        exact ⟨by rw [HFIN.out]; rfl, HB2.out.trans (HB3.out.mono HB2.out.size)⟩
      · have hdI : ¬ (d : Int) = 1 := by omega
        have hdb : ((d : Int) == 1) = false := zzH hdI
        have HFIN := zH (show Lib.validD (l.drop (pos + d)) = Lib.validD l by rw [← HV.out, HST.out, if_neg (fun h => hd1 h.2)])
        clear hd1
        go_wp2_with (first
         | (go_at_call 156; refine (Tryz.utf8_DecodeRuneInString (s.extract pos s.size) _ (zze HT.out HB2.out)).mono ?_; rintro e w3 ⟨rfl, hb3⟩; rw [HDG.out, ← HD.out, HR2.out]; have HB3 := zH hb3; clear hb3)
         | fail)
        have hit3 := (HB3.out.block k (zzb HIT2.out)).trans HIT2.out
        have hip3 : w3.iterPos k = pos + d := by unfold World.iterPos; rw [hit3]
        go_roundw
        case rel => exact ⟨pos + d, by have := HLE.out; omega, hit3, HB2.out.trans (HB3.out.mono HB2.out.size), HFIN.out⟩
        case measure => rw [hip3, HIP.out]; have := HWID.out; omega
    · have hrI : ¬ (r : Int) = 65533 := by omega
      have hrb : ((r : Int) != 65533) = true := bne_iff_ne.2 hrI
      have HR3 := zH hr3
      clear hr3
      go_wp2_with fail
      go_roundw
      case rel => exact ⟨pos + d, by have := HLE.out; omega, HIT2.out, HB2.out, by rw [← HV.out, HST.out, if_neg (fun h => HR3.out h.1)]⟩
      case measure => rw [HIP2.out, HIP.out]; have := HWID.out; omega
  · have hn := fun ty => Lib.run_next_end_at (P := Tryz.prog) wr k s pos ty hit hlt
    have HFIN := zH (show Lib.validD l = true by rw [← HV.out, List.drop_of_length_le (by omega)]; exact Lib.validD_nil)
    clear hit
    go_wp2_with fail
    go_ret
    exact ⟨by rw [HFIN.out]; rfl, HB.out⟩
end
section
open Go Go.RowKit
def mayV (k : Int) (v : VV) : Bool :=
 if 1 ≤ k ∧ k ≤ 5 then
  if v.null then decide (v.n = 0 ∧ v.s.size = 0)
  else if k = 1 then decide (v.s.size = 0 ∧ (v.n = 0 ∨ v.n = 1))
  else decide (v.s.size = 0)
 else if k = 6 ∨ k = 7 then
  if v.null then decide (v.n = 0 ∧ v.s.size = 0)
  else decide (v.n = 0 ∧ v.s.size ≤ 300 ∧ (k = 7 ∨ Lib.validD v.s.data.toList = true))
 else false
theorem xqX (m : Nat) (h : m < 18446744073709551616) : IntKind.i64.wrap (m : Int) = 0 ↔ m = 0 := by
 have e : (m : Int) % 2 ^ 64 = m := Int.emod_eq_of_lt (by omega) (by omega)
 simp only [IntKind.wrap, IntKind.bits, IntKind.signed, e]
 constructor
 · intro h1
   split at h1 <;> omega
 · rintro rfl; rfl
theorem bit_only (x : Int) (h0 : -9223372036854775808 ≤ x) (h1 : x ≤ 9223372036854775807) : (bits .andNot .i64 x 1 = 0) ↔ (x = 0 ∨ x = 1) := by
 have e : bits .andNot .i64 x 1 = IntKind.i64.wrap ((BitVec.ofInt 64 x &&& ~~~BitVec.ofInt 64 ((1 : Nat) : Int)).toNat : Int) := rfl
 have hu : (BitVec.ofInt 64 x).toNat = (x % 18446744073709551616).toNat := by rw [BitVec.toNat_ofInt]; rfl
 rw [e, BitVec.toNat_and, BitVec.toNat_not, hu, ofInt_u64 1 (by omega)]
 have e2 : 2 ^ 64 - 1 - 1 = 18446744073709551614 := by decide
 rw [e2, nat_hi64_1, xqX _ (by omega)]
 omega
theorem vvG (s : ByteArray) : s = ⟨#[]⟩ ↔ s.size = 0 := by
 constructor
 · rintro rfl; rfl
 · intro h
   apply ByteArray.ext
   apply Array.eq_empty_of_size_eq_zero
   exact h
theorem vvH {a b : ByteArray} (h : a.data.toList = b.data.toList) : a = b := by
 cases a; cases b
 congr 1
 exact Array.toList_inj.1 h
theorem xqY {s : ByteArray} (h : ¬ s.size = 0) : (s.toList == ByteArray.toList ⟨#[]⟩) = false ∧ (s.toList == []) = false ∧ s.toList.isEmpty = false ∧ ¬ s.toList = [] ∧ ¬ s = ⟨#[]⟩ := by
 have h1 : ¬ s.toList = [] := by
  rw [ByteArray.toList_eq]
  intro e
  apply h
  have := congrArg List.length e
  simpa using this
 have h2 : s.toList.isEmpty = false := by cases hq : s.toList with | nil => exact absurd hq h1 | cons _ _ => rfl
 refine ⟨?_, by simpa using h1, h2, h1, fun e => h (by rw [e]; rfl)⟩
 rw [show ByteArray.toList ⟨#[]⟩ = [] from by rw [ByteArray.toList_eq]]
 simpa using h1
theorem eqlVV (n m : Int) (s t : ByteArray) (b c : Bool) (w : World) :
 (binOp .eql 74 (.agg #[.bool b, .int .i64 n, .string s]) (.agg #[.bool c, .int .i64 m, .string t])).run Tryz.prog w = .ok (.bool (decide (b = c ∧ n = m ∧ s = t))) w := by
 have hS : Tryz.prog.underlying 74 = some (.struct (Tryz.prog.fieldsOf 74)) := by kernel_rfl
 have hp : Tryz.prog.stoodInHeld 74 = false := by kernel_rfl
 have u1 := Tryz.underlying4
 have u2 := Tryz.underlying3
 have u3 := Tryz.underlying9
 have a1 := Tryz.isAgg4
 have a2 := Tryz.isAgg3
 have a3 := Tryz.isAgg9
 have z1 := Tryz.sizeOf4
 have z2 := Tryz.sizeOf3
 have z3 := Tryz.sizeOf9
 rw [run_eql_struct, show (10000 : Nat) = 9999 + 1 from rfl, run_equalIn_agg w 9999 74 _ _ hS hp]
 simp only [Program.fieldsOf, Tryz.underlying74]
 go_simp
 by_cases h1 : b = c <;> by_cases h2 : n = m <;> by_cases h3 : s = t <;> simp [h1, h2, h3]
 intro h
 rw [ByteArray.toList_eq, ByteArray.toList_eq] at h
 exact h3 (vvH h)
theorem xqZ (k : Int) (v : VV) (w : World) (h : ¬ (1 ≤ k ∧ k ≤ 7)) :
 Calls Tryz.prog 41 #[.int .i64 k, .agg #[.bool v.null, .int .i64 v.n, .string v.s]] w fun e w' => e = .returned (.bool false) ∧ Below w.heap.size w w' := by
 have HN := zH (show decide (1 ≤ k ∧ k ≤ 5) = false by simp; omega)
 have h6 : (k != 6) = true := bne_iff_ne.2 (by omega)
 have h7 : (k != 7) = true := bne_iff_ne.2 (by omega)
 have h6' : ¬ k = 6 := by omega
 have h7' : ¬ k = 7 := by omega
 clear h
 go_enter Tryz.func41, Tryz.ntmps41
 go_wp2_with (first
  | (go_at_call 44; refine (zzf _ _).mono ?_; rintro e w1 ⟨rfl, rfl⟩; rw [HN.out])
  | fail)
 go_ret
 exact ⟨rfl, (zR).alloc zN _⟩
theorem kqG (k n : Int) (s : ByteArray) (w : World) (h : 1 ≤ k ∧ k ≤ 5) :
 Calls Tryz.prog 41 #[.int .i64 k, .agg #[.bool true, .int .i64 n, .string s]] w fun e w' => e = .returned (.bool (decide (n = 0 ∧ s.size = 0))) ∧ Below w.heap.size w w' := by
 have HN := zH (show decide (1 ≤ k ∧ k ≤ 5) = true by simpa using h)
 clear h
 have he := fun w => eqlVV n 0 s ⟨#[]⟩ true true w
 have hq : decide (true = true ∧ n = 0 ∧ s = (⟨#[]⟩ : ByteArray)) = decide (n = 0 ∧ s.size = 0) := decide_eq_decide.2 (by rw [← vvG]; simp)
 rw [hq] at he
 clear hq
 obtain ⟨q, hq⟩ : ∃ q, q = decide (n = 0 ∧ s.size = 0) := ⟨_, rfl⟩
 rw [← hq] at he ⊢
 clear hq
 go_enter Tryz.func41, Tryz.ntmps41
 go_wp2_with (first
  | (go_at_call 44; refine (zzf _ _).mono ?_; rintro e w1 ⟨rfl, rfl⟩; rw [HN.out])
  | fail)
 go_ret
 exact ⟨rfl, (zR).alloc zN _⟩
theorem jjX (n : Int) (s : ByteArray) (w : World) :
 Calls Tryz.prog 41 #[.int .i64 6, .agg #[.bool true, .int .i64 n, .string s]] w fun e w' => e = .returned (.bool (decide (n = 0 ∧ s.size = 0))) ∧ Below w.heap.size w w' := by
 have HN := zH (show decide ((1 : Int) ≤ 6 ∧ (6 : Int) ≤ 5) = false by decide)
 skip
 have he := fun w => eqlVV n 0 s ⟨#[]⟩ true true w
 have hq : decide (true = true ∧ n = 0 ∧ s = (⟨#[]⟩ : ByteArray)) = decide (n = 0 ∧ s.size = 0) := decide_eq_decide.2 (by rw [← vvG]; simp)
 rw [hq] at he
 clear hq
 obtain ⟨q, hq⟩ : ∃ q, q = decide (n = 0 ∧ s.size = 0) := ⟨_, rfl⟩
 rw [← hq] at he ⊢
 clear hq
 go_enter Tryz.func41, Tryz.ntmps41
 go_wp2_with (first
  | (go_at_call 44; refine (zzf _ _).mono ?_; rintro e w1 ⟨rfl, rfl⟩; rw [HN.out])
  | fail)
 go_ret
 exact ⟨rfl, (zR).alloc zN _⟩
theorem uu8 (n : Int) (s : ByteArray) (w : World) :
 Calls Tryz.prog 41 #[.int .i64 7, .agg #[.bool true, .int .i64 n, .string s]] w fun e w' => e = .returned (.bool (decide (n = 0 ∧ s.size = 0))) ∧ Below w.heap.size w w' := by
 have HN := zH (show decide ((1 : Int) ≤ 7 ∧ (7 : Int) ≤ 5) = false by decide)
 skip
 have he := fun w => eqlVV n 0 s ⟨#[]⟩ true true w
 have hq : decide (true = true ∧ n = 0 ∧ s = (⟨#[]⟩ : ByteArray)) = decide (n = 0 ∧ s.size = 0) := decide_eq_decide.2 (by rw [← vvG]; simp)
 rw [hq] at he
 clear hq
 obtain ⟨q, hq⟩ : ∃ q, q = decide (n = 0 ∧ s.size = 0) := ⟨_, rfl⟩
 rw [← hq] at he ⊢
 clear hq
 go_enter Tryz.func41, Tryz.ntmps41
 go_wp2_with (first
  | (go_at_call 44; refine (zzf _ _).mono ?_; rintro e w1 ⟨rfl, rfl⟩; rw [HN.out])
  | fail)
 go_ret
 exact ⟨rfl, (zR).alloc zN _⟩
theorem may_bool (n : Int) (s : ByteArray) (w : World) (h0 : -9223372036854775808 ≤ n) (h1 : n ≤ 9223372036854775807) :
 Calls Tryz.prog 41 #[.int .i64 1, .agg #[.bool false, .int .i64 n, .string s]] w fun e w' => e = .returned (.bool (decide (s.size = 0 ∧ (n = 0 ∨ n = 1)))) ∧ Below w.heap.size w w' := by
 have HN := zH (show decide ((1 : Int) ≤ 1 ∧ (1 : Int) ≤ 5) = true by decide)
 have hbit := bit_only n h0 h1
 clear h0 h1
 by_cases hs : s.size = 0
 · have HR := zH (show decide (s.size = 0 ∧ (n = 0 ∨ n = 1)) = decide (n = 0 ∨ n = 1) by simp [hs])
   obtain rfl := (vvG s).2 hs
   clear hs
   obtain ⟨y, hy⟩ : ∃ y, bits .andNot .i64 n 1 = y := ⟨_, rfl⟩
   rw [hy] at hbit
   by_cases hy0 : y = 0
   · have HQ := zH (show decide (n = 0 ∨ n = 1) = true by simpa using hbit.1 hy0)
     clear hbit
     subst hy0
     go_enter Tryz.func41, Tryz.ntmps41
     go_wp2_with (first
      | (go_at_call 44; refine (zzf _ _).mono ?_; rintro e w1 ⟨rfl, rfl⟩; rw [HN.out])
      | fail)
     go_ret
     exact ⟨by rw [HR.out, HQ.out]; rfl, (zR).alloc zN _⟩
   · have HQ := zH (show decide (n = 0 ∨ n = 1) = false by simpa using fun h => hy0 (hbit.2 h))
     have hyb := zzH hy0
     clear hbit
     go_enter Tryz.func41, Tryz.ntmps41
     go_wp2_with (first
      | (go_at_call 44; refine (zzf _ _).mono ?_; rintro e w1 ⟨rfl, rfl⟩; rw [HN.out])
      | fail)
     go_ret
     exact ⟨by rw [HR.out, HQ.out]; rfl, (zR).alloc zN _⟩
 · have HR := zH (show decide (s.size = 0 ∧ (n = 0 ∨ n = 1)) = false by simp [hs])
   obtain ⟨a1, a2, a3, a4, a5⟩ := xqY hs
   clear hs hbit
   go_enter Tryz.func41, Tryz.ntmps41
   go_wp2_with (first
    | (go_at_call 44; refine (zzf _ _).mono ?_; rintro e w1 ⟨rfl, rfl⟩; rw [HN.out])
    | fail)
   go_ret
   exact ⟨by first | (rw [HR.out]; rfl) | rfl, (zR).alloc zN _⟩
theorem may_num (k n : Int) (s : ByteArray) (w : World) (h : 1 ≤ k ∧ k ≤ 5) (hk1 : ¬ k = 1) :
 Calls Tryz.prog 41 #[.int .i64 k, .agg #[.bool false, .int .i64 n, .string s]] w fun e w' => e = .returned (.bool (decide (s.size = 0))) ∧ Below w.heap.size w w' := by
 have HN := zH (show decide (1 ≤ k ∧ k ≤ 5) = true by simpa using h)
 have hkb := zzH hk1
 clear h
 by_cases hs : s.size = 0
 · have HR := zH (show decide (s.size = 0) = true by simp [hs])
   obtain rfl := (vvG s).2 hs
   clear hs
   go_enter Tryz.func41, Tryz.ntmps41
   go_wp2_with (first
    | (go_at_call 44; refine (zzf _ _).mono ?_; rintro e w1 ⟨rfl, rfl⟩; rw [HN.out])
    | fail)
   go_ret
   exact ⟨by first | (rw [HR.out]; rfl) | rfl, (zR).alloc zN _⟩
 · have HR := zH (show decide (s.size = 0) = false by simp [hs])
   obtain ⟨a1, a2, a3, a4, a5⟩ := xqY hs
   clear hs
   go_enter Tryz.func41, Tryz.ntmps41
   go_wp2_with (first
    | (go_at_call 44; refine (zzf _ _).mono ?_; rintro e w1 ⟨rfl, rfl⟩; rw [HN.out])
    | fail)
   go_ret
   exact ⟨by first | (rw [HR.out]; rfl) | rfl, (zR).alloc zN _⟩
theorem may_text (n : Int) (s : ByteArray) (w : World) (hT : Lib.Utf8Tabs 0 1 w) :
 Calls Tryz.prog 41 #[.int .i64 6, .agg #[.bool false, .int .i64 n, .string s]] w fun e w' => e = .returned (.bool (decide (n = 0 ∧ s.size ≤ 300 ∧ Lib.validD s.data.toList = true))) ∧ Below w.heap.size w w' := by
 have HN := zH (show decide ((1 : Int) ≤ 6 ∧ (6 : Int) ≤ 5) = false by decide)
 have HT := zH hT; clear hT
 by_cases hn : n = 0
 · subst hn
   by_cases hl : s.size ≤ 300
   · have hlI : (s.size : Int) ≤ 300 := by omega
     obtain ⟨vd, hvd⟩ : ∃ vd, vd = Lib.validD s.data.toList := ⟨_, rfl⟩
     have HVD := zH (show Lib.validD s.data.toList = vd from hvd.symm)
     have HR := zH (show decide ((0 : Int) = 0 ∧ s.size ≤ 300 ∧ Lib.validD s.data.toList = true) = vd by rw [← hvd]; simp [hl])
     clear hvd
     go_enter Tryz.func41, Tryz.ntmps41
     go_wp2_with (first
      | (go_at_call 44; refine (zzf _ _).mono ?_; rintro e w1 ⟨rfl, rfl⟩; rw [HN.out])
      | (go_at_call 87; refine (xqW s _ (zze HT.out ((zR).alloc zN _))).mono ?_; rintro e w2 ⟨rfl, hb2⟩; rw [HVD.out]; have HB2 := zH hb2; clear hb2)
      | fail)
     go_ret
     exact ⟨by rw [HR.out]; rfl, (Below.alloc (zR) zN _).trans (HB2.out.mono (Below.alloc (zR) zN _).size)⟩
   · have hlI : ¬ (s.size : Int) ≤ 300 := by omega
     have HR := zH (show (decide ((0 : Int) = 0 ∧ s.size ≤ 300 ∧ Lib.validD s.data.toList = true)) = false by simp [hl])
     go_enter Tryz.func41, Tryz.ntmps41
     go_wp2_with (first
      | (go_at_call 44; refine (zzf _ _).mono ?_; rintro e w1 ⟨rfl, rfl⟩; rw [HN.out])
      | fail)
     go_ret
     exact ⟨by first | (rw [HR.out]; rfl) | rfl, (zR).alloc zN _⟩
 · have hnb := zzH hn
   have HR := zH (show (decide (n = 0 ∧ s.size ≤ 300 ∧ Lib.validD s.data.toList = true)) = false by simp [hn])
   go_enter Tryz.func41, Tryz.ntmps41
   go_wp2_with (first
    | (go_at_call 44; refine (zzf _ _).mono ?_; rintro e w1 ⟨rfl, rfl⟩; rw [HN.out])
    | fail)
   go_ret
   exact ⟨by first | (rw [HR.out]; rfl) | rfl, (zR).alloc zN _⟩
theorem xq0 (n : Int) (s : ByteArray) (w : World) :
 Calls Tryz.prog 41 #[.int .i64 7, .agg #[.bool false, .int .i64 n, .string s]] w fun e w' => e = .returned (.bool (decide (n = 0 ∧ s.size ≤ 300))) ∧ Below w.heap.size w w' := by
 have HN := zH (show decide ((1 : Int) ≤ 7 ∧ (7 : Int) ≤ 5) = false by decide)
 skip
 by_cases hn : n = 0
 · subst hn
   by_cases hl : s.size ≤ 300
   · have hlI : (s.size : Int) ≤ 300 := by omega
     have HR := zH (show decide ((0 : Int) = 0 ∧ s.size ≤ 300) = true by simp [hl])
     go_enter Tryz.func41, Tryz.ntmps41
     go_wp2_with (first
      | (go_at_call 44; refine (zzf _ _).mono ?_; rintro e w1 ⟨rfl, rfl⟩; rw [HN.out])
      | fail)
     go_ret
     exact ⟨by first | (rw [HR.out]; rfl) | rfl, (zR).alloc zN _⟩
   · have hlI : ¬ (s.size : Int) ≤ 300 := by omega
     have HR := zH (show (decide ((0 : Int) = 0 ∧ s.size ≤ 300)) = false by simp [hl])
     go_enter Tryz.func41, Tryz.ntmps41
     go_wp2_with (first
      | (go_at_call 44; refine (zzf _ _).mono ?_; rintro e w1 ⟨rfl, rfl⟩; rw [HN.out])
      | fail)
     go_ret
     exact ⟨by first | (rw [HR.out]; rfl) | rfl, (zR).alloc zN _⟩
 · have hnb := zzH hn
   have HR := zH (show (decide (n = 0 ∧ s.size ≤ 300)) = false by simp [hn])
   go_enter Tryz.func41, Tryz.ntmps41
   go_wp2_with (first
    | (go_at_call 44; refine (zzf _ _).mono ?_; rintro e w1 ⟨rfl, rfl⟩; rw [HN.out])
    | fail)
   go_ret
   exact ⟨by first | (rw [HR.out]; rfl) | rfl, (zR).alloc zN _⟩
theorem jjY (k : Int) (v : VV) (hv : v.ok) (w : World) (hT : Lib.Utf8Tabs 0 1 w) :
 Calls Tryz.prog 41 #[.int .i64 k, .agg #[.bool v.null, .int .i64 v.n, .string v.s]] w fun e w' => e = .returned (.bool (mayV k v)) ∧ Below w.heap.size w w' := by
 obtain ⟨nu, n, s⟩ := v
 obtain ⟨h0, h1, _⟩ := hv
 unfold mayV
 by_cases h : 1 ≤ k ∧ k ≤ 5
 · rw [if_pos h]
   cases nu
   · rw [if_neg Bool.false_ne_true]
     by_cases hk : k = 1
     · subst hk
       exact may_bool n s w h0 h1
     · rw [if_neg hk]
       exact may_num k n s w h hk
   · exact kqG k n s w h
 · rw [if_neg h]
   by_cases h6 : k = 6
   · subst h6
     cases nu
     · simpa using may_text n s w hT
     · exact jjX n s w
   · by_cases h7 : k = 7
     · subst h7
       cases nu
       · simpa using xq0 n s w
       · exact uu8 n s w
     · rw [if_neg (by omega)]
       exact xqZ k ⟨nu, n, s⟩ w (by omega)
end
section
open Go Go.RowKit
theorem jjZ {a b : Int} (h : ¬ a = b) : (a != b) = true := by simpa using h
end
section
open Go Go.RowKit
theorem zqt : zzL Tryz.prog 139 4 vvU.size := zzL.mk' (bytes := 1) (z := .bool false) (by kernel_rfl) (by kernel_rfl) rfl (by decide) (by decide)
theorem xxv : zzL Tryz.prog 94 3 tI64.size := zzL.mk' (bytes := 8) (z := .int .i64 0) (by kernel_rfl) (by kernel_rfl) rfl (by decide) (by decide)
theorem xxL {P : Program} {f : FuncId} {args : Array Value} {w : World} {r : Ending} (h : Calls P f args w fun e w' => e = r ∧ w = w') : Calls P f args w fun e w' => e = r ∧ Below w.heap.size w w' :=
 h.mono fun _ _ h2 => ⟨h2.1, by rw [← h2.2]; exact zR⟩
def OwnE {α : Type} (T : Ty α) (t : TypeId) (l : List α) (w : World) (e : Ending) (w' : World) : Prop :=
 ∃ A n c, e = .returned (.slice A n c) ∧ Own T t w' w.heap.size A n c l ∧ Below w.heap.size w w'
theorem each_any (F : Nat → Prop) (A : Option Addr) (n c : Nat) (l : List VV) (w : World) (h : Sl tVV F w A n c l) (hl : n ≤ 4096) :
 Calls Tryz.prog 146 #[.slice A n c, .func (.func 147) #[] #[]] w (OwnE vvU 4 (l.map (fun v : VV => !v.null)) w) := by
 have HL := zH h.len
 go_enter Tryz.func146, Tryz.ntmps146
 go_wp2
 go_loopw [5, 10] (fun v i wr => ∃ (k : Nat) (A2 : Option Addr) (c2 : Nat) (G : Nat → Prop), k ≤ n ∧ i = .int .i64 k ∧ v = .slice A2 k c2 ∧ OwnF vvU 4 G wr w.heap.size A2 k c2 ((l.take k).map (fun v : VV => !v.null)) ∧ Below w.heap.size w wr)
  (fun _ i _ => n - (intOf i).toNat)
 case atStart => exact ⟨0, none, 0, fun _ => False, Nat.zero_le _, rfl, rfl, OwnF.nil_ _ _ _ _ _, zR⟩
 case round =>
  obtain ⟨k, A2, c2, G, hk, rfl, rfl, hown, hb⟩ := hrel
  by_cases hlt : k < n
  · have hkl : k < l.length := by rw [← HL.out]; exact hlt
    obtain ⟨b, o, cs, rfl, _, hbl, hrep, hc⟩ := (h.below hb zN).at_ hkl (by decide)
    obtain ⟨v, hf⟩ : ∃ v, v = l[k] := ⟨_, rfl⟩
    obtain ⟨rfl, hok⟩ := hrep
    rw [← hf] at hc hok
    obtain ⟨nu, x, s⟩ := v
    obtain ⟨x0, x1, _⟩ := hok
    have x0 : -9223372036854775808 ≤ x := x0
    have x1 : x ≤ 9223372036854775807 := x1
    have HF := zH hf; clear hf
    obtain ⟨g0, g1, g2⟩ := xxj hc
    clear hc
    have g0 : _ = some (Value.bool nu) := g0
    have g1 : _ = some (Value.int .i64 x) := g1
    have g2 : _ = some (Value.string s) := g2
    have HO := zH hown; clear hown
    have hsz := hb.size
    go_wp2_with (first
     | (go_at_call 147; refine (is_any nu x s _).mono ?_; rintro e w1 ⟨rfl, hb3⟩; have HB3 := zH hb3; clear hb3)
     | (at_builtin; refine apl1 (T := vvU) zqt w1 w rfl (.tmp 14) (.tmp 18) rfl w.heap.size A2 k c2 ((l.take k).map (fun v : VV => !v.null)) (by rfl) G (fun _ => False) (by first | exact (HO.out.alloc _).keepB HB3.out | exact ((HO.out.alloc _).keepB ((zR).drew)).keepB HB3.out) (by first | exact (hb.alloc hsz _).trans (HB3.out.mono (by simp; omega)) | exact (hb.alloc hsz _).drew.trans (HB3.out.mono (by simp; omega))) zN _ (by rfl) [.bool (!nu)] ((fun v : VV => !v.null) ⟨nu, x, s⟩) (by rfl) 4 rfl (fun _ _ _ _ h4 => h4) (by omega) ?_; intro A5 c5 w5 h5))
    go_roundw
    case rel =>
     have e1 : (l.take (k + 1)).map (fun v : VV => !v.null) = (l.take k).map (fun v : VV => !v.null) ++ [(fun v : VV => !v.null) ⟨nu, x, s⟩] := by
      rw [zT hkl, List.map_append, ← HF.out]; rfl
     have e2 := h5.own
     rw [← e1] at e2
     exact ⟨k + 1, A5, c5, _, by omega, by go_num, rfl, e2, h5.below⟩
    case measure => simp [intOf]; omega
  · obtain rfl : k = n := by omega
    have e1 : l.take k = l := zL (by rw [← HL.out]; exact Nat.le_refl _)
    rw [e1] at hown
    have HO := zH hown; clear hown e1
    go_wp2
    go_ret
    exact ⟨A2, k, c2, rfl, ⟨G, HO.out⟩, hb⟩
theorem qxj (F : Nat → Prop) (A : Option Addr) (n c : Nat) (l : List VV) (w : World) (h : Sl tVV F w A n c l) (hl : n ≤ 4096) :
 Calls Tryz.prog 90 #[.slice A n c, .func (.func 91) #[] #[]] w (OwnE vvU 4 (l.map (fun v : VV => v.n == 1)) w) := by
 have HL := zH h.len
 go_enter Tryz.func90, Tryz.ntmps90
 go_wp2
 go_loopw [5, 10] (fun v i wr => ∃ (k : Nat) (A2 : Option Addr) (c2 : Nat) (G : Nat → Prop), k ≤ n ∧ i = .int .i64 k ∧ v = .slice A2 k c2 ∧ OwnF vvU 4 G wr w.heap.size A2 k c2 ((l.take k).map (fun v : VV => v.n == 1)) ∧ Below w.heap.size w wr)
  (fun _ i _ => n - (intOf i).toNat)
 case atStart => exact ⟨0, none, 0, fun _ => False, Nat.zero_le _, rfl, rfl, OwnF.nil_ _ _ _ _ _, zR⟩
 case round =>
  obtain ⟨k, A2, c2, G, hk, rfl, rfl, hown, hb⟩ := hrel
  by_cases hlt : k < n
  · have hkl : k < l.length := by rw [← HL.out]; exact hlt
    obtain ⟨b, o, cs, rfl, _, hbl, hrep, hc⟩ := (h.below hb zN).at_ hkl (by decide)
    obtain ⟨v, hf⟩ : ∃ v, v = l[k] := ⟨_, rfl⟩
    obtain ⟨rfl, hok⟩ := hrep
    rw [← hf] at hc hok
    obtain ⟨nu, x, s⟩ := v
    obtain ⟨x0, x1, _⟩ := hok
    have x0 : -9223372036854775808 ≤ x := x0
    have x1 : x ≤ 9223372036854775807 := x1
    have HF := zH hf; clear hf
    obtain ⟨g0, g1, g2⟩ := xxj hc
    clear hc
    have g0 : _ = some (Value.bool nu) := g0
    have g1 : _ = some (Value.int .i64 x) := g1
    have g2 : _ = some (Value.string s) := g2
    have HO := zH hown; clear hown
    have hsz := hb.size
    go_wp2_with (first
     | (go_at_call 91; refine (xxL (xqF x _)).mono ?_; rintro e w1 ⟨rfl, hb3⟩; have HB3 := zH hb3; clear hb3)
     | (at_builtin; refine apl1 (T := vvU) zqt w1 w rfl (.tmp 14) (.tmp 19) rfl w.heap.size A2 k c2 ((l.take k).map (fun v : VV => v.n == 1)) (by rfl) G (fun _ => False) (by first | exact (HO.out.alloc _).keepB HB3.out | exact ((HO.out.alloc _).keepB ((zR).drew)).keepB HB3.out) (by first | exact (hb.alloc hsz _).trans (HB3.out.mono (by simp; omega)) | exact (hb.alloc hsz _).drew.trans (HB3.out.mono (by simp; omega))) zN _ (by rfl) [.bool (x == 1)] ((fun v : VV => v.n == 1) ⟨nu, x, s⟩) (by rfl) 4 rfl (fun _ _ _ _ h4 => h4) (by omega) ?_; intro A5 c5 w5 h5))
    go_roundw
    case rel =>
     have e1 : (l.take (k + 1)).map (fun v : VV => v.n == 1) = (l.take k).map (fun v : VV => v.n == 1) ++ [(fun v : VV => v.n == 1) ⟨nu, x, s⟩] := by
      rw [zT hkl, List.map_append, ← HF.out]; rfl
     have e2 := h5.own
     rw [← e1] at e2
     exact ⟨k + 1, A5, c5, _, by omega, by go_num, rfl, e2, h5.below⟩
    case measure => simp [intOf]; omega
  · obtain rfl : k = n := by omega
    have e1 : l.take k = l := zL (by rw [← HL.out]; exact Nat.le_refl _)
    rw [e1] at hown
    have HO := zH hown; clear hown e1
    go_wp2
    go_ret
    exact ⟨A2, k, c2, rfl, ⟨G, HO.out⟩, hb⟩
theorem qxk (F : Nat → Prop) (A : Option Addr) (n c : Nat) (l : List VV) (w : World) (h : Sl tVV F w A n c l) (hl : n ≤ 4096) :
 Calls Tryz.prog 93 #[.slice A n c, .func (.func 94) #[] #[]] w (OwnE tI64 3 (l.map (fun v : VV => v.n / 1000)) w) := by
 have HL := zH h.len
 go_enter Tryz.func93, Tryz.ntmps93
 go_wp2
 go_loopw [5, 10] (fun v i wr => ∃ (k : Nat) (A2 : Option Addr) (c2 : Nat) (G : Nat → Prop), k ≤ n ∧ i = .int .i64 k ∧ v = .slice A2 k c2 ∧ OwnF tI64 3 G wr w.heap.size A2 k c2 ((l.take k).map (fun v : VV => v.n / 1000)) ∧ Below w.heap.size w wr)
  (fun _ i _ => n - (intOf i).toNat)
 case atStart => exact ⟨0, none, 0, fun _ => False, Nat.zero_le _, rfl, rfl, OwnF.nil_ _ _ _ _ _, zR⟩
 case round =>
  obtain ⟨k, A2, c2, G, hk, rfl, rfl, hown, hb⟩ := hrel
  by_cases hlt : k < n
  · have hkl : k < l.length := by rw [← HL.out]; exact hlt
    obtain ⟨b, o, cs, rfl, _, hbl, hrep, hc⟩ := (h.below hb zN).at_ hkl (by decide)
    obtain ⟨v, hf⟩ : ∃ v, v = l[k] := ⟨_, rfl⟩
    obtain ⟨rfl, hok⟩ := hrep
    rw [← hf] at hc hok
    obtain ⟨nu, x, s⟩ := v
    obtain ⟨x0, x1, _⟩ := hok
    have x0 : -9223372036854775808 ≤ x := x0
    have x1 : x ≤ 9223372036854775807 := x1
    have HF := zH hf; clear hf
    obtain ⟨g0, g1, g2⟩ := xxj hc
    clear hc
    have g0 : _ = some (Value.bool nu) := g0
    have g1 : _ = some (Value.int .i64 x) := g1
    have g2 : _ = some (Value.string s) := g2
    have HO := zH hown; clear hown
    have hsz := hb.size
    have HZ := zH (show -9223372036854775808 ≤ ((fun v : VV => v.n / 1000) ⟨nu, x, s⟩) ∧ ((fun v : VV => v.n / 1000) ⟨nu, x, s⟩) ≤ 9223372036854775807 by constructor <;> (show _ ≤ _; dsimp only; omega))
    go_wp2_with (first
     | (go_at_call 94; refine (xxL (xqE x x0 x1 _)).mono ?_; rintro e w1 ⟨rfl, hb3⟩; have HB3 := zH hb3; clear hb3)
     | (at_builtin; refine apl1 (T := tI64) xxv w1 w rfl (.tmp 14) (.tmp 19) rfl w.heap.size A2 k c2 ((l.take k).map (fun v : VV => v.n / 1000)) (by rfl) G (fun _ => False) (by first | exact (HO.out.alloc _).keepB HB3.out | exact ((HO.out.alloc _).keepB ((zR).drew)).keepB HB3.out) (by first | exact (hb.alloc hsz _).trans (HB3.out.mono (by simp; omega)) | exact (hb.alloc hsz _).drew.trans (HB3.out.mono (by simp; omega))) zN _ (by rfl) [.int .i64 (x / 1000)] ((fun v : VV => v.n / 1000) ⟨nu, x, s⟩) ⟨rfl, HZ.out⟩ 3 rfl (fun _ _ _ _ h4 => h4) (by omega) ?_; intro A5 c5 w5 h5))
    go_roundw
    case rel =>
     have e1 : (l.take (k + 1)).map (fun v : VV => v.n / 1000) = (l.take k).map (fun v : VV => v.n / 1000) ++ [(fun v : VV => v.n / 1000) ⟨nu, x, s⟩] := by
      rw [zT hkl, List.map_append, ← HF.out]; rfl
     have e2 := h5.own
     rw [← e1] at e2
     exact ⟨k + 1, A5, c5, _, by omega, by go_num, rfl, e2, h5.below⟩
    case measure => simp [intOf]; omega
  · obtain rfl : k = n := by omega
    have e1 : l.take k = l := zL (by rw [← HL.out]; exact Nat.le_refl _)
    rw [e1] at hown
    have HO := zH hown; clear hown e1
    go_wp2
    go_ret
    exact ⟨A2, k, c2, rfl, ⟨G, HO.out⟩, hb⟩
theorem xq2 (F : Nat → Prop) (A : Option Addr) (n c : Nat) (l : List VV) (w : World) (h : Sl tVV F w A n c l) (hl : n ≤ 4096) :
 Calls Tryz.prog 93 #[.slice A n c, .func (.func 95) #[] #[]] w (OwnE tI64 3 (l.map (fun v : VV => v.n % 1000)) w) := by
 have HL := zH h.len
 go_enter Tryz.func93, Tryz.ntmps93
 go_wp2
 go_loopw [5, 10] (fun v i wr => ∃ (k : Nat) (A2 : Option Addr) (c2 : Nat) (G : Nat → Prop), k ≤ n ∧ i = .int .i64 k ∧ v = .slice A2 k c2 ∧ OwnF tI64 3 G wr w.heap.size A2 k c2 ((l.take k).map (fun v : VV => v.n % 1000)) ∧ Below w.heap.size w wr)
  (fun _ i _ => n - (intOf i).toNat)
 case atStart => exact ⟨0, none, 0, fun _ => False, Nat.zero_le _, rfl, rfl, OwnF.nil_ _ _ _ _ _, zR⟩
 case round =>
  obtain ⟨k, A2, c2, G, hk, rfl, rfl, hown, hb⟩ := hrel
  by_cases hlt : k < n
  · have hkl : k < l.length := by rw [← HL.out]; exact hlt
    obtain ⟨b, o, cs, rfl, _, hbl, hrep, hc⟩ := (h.below hb zN).at_ hkl (by decide)
    obtain ⟨v, hf⟩ : ∃ v, v = l[k] := ⟨_, rfl⟩
    obtain ⟨rfl, hok⟩ := hrep
    rw [← hf] at hc hok
    obtain ⟨nu, x, s⟩ := v
    obtain ⟨x0, x1, _⟩ := hok
    have x0 : -9223372036854775808 ≤ x := x0
    have x1 : x ≤ 9223372036854775807 := x1
    have HF := zH hf; clear hf
    obtain ⟨g0, g1, g2⟩ := xxj hc
    clear hc
    have g0 : _ = some (Value.bool nu) := g0
    have g1 : _ = some (Value.int .i64 x) := g1
    have g2 : _ = some (Value.string s) := g2
    have HO := zH hown; clear hown
    have hsz := hb.size
    have HZ := zH (show -9223372036854775808 ≤ ((fun v : VV => v.n % 1000) ⟨nu, x, s⟩) ∧ ((fun v : VV => v.n % 1000) ⟨nu, x, s⟩) ≤ 9223372036854775807 by constructor <;> (show _ ≤ _; dsimp only; omega))
    go_wp2_with (first
     | (go_at_call 95; refine (xxL (left_any x x0 x1 _)).mono ?_; rintro e w1 ⟨rfl, hb3⟩; have HB3 := zH hb3; clear hb3)
     | (at_builtin; refine apl1 (T := tI64) xxv w1 w rfl (.tmp 14) (.tmp 19) rfl w.heap.size A2 k c2 ((l.take k).map (fun v : VV => v.n % 1000)) (by rfl) G (fun _ => False) (by first | exact (HO.out.alloc _).keepB HB3.out | exact ((HO.out.alloc _).keepB ((zR).drew)).keepB HB3.out) (by first | exact (hb.alloc hsz _).trans (HB3.out.mono (by simp; omega)) | exact (hb.alloc hsz _).drew.trans (HB3.out.mono (by simp; omega))) zN _ (by rfl) [.int .i64 (x % 1000)] ((fun v : VV => v.n % 1000) ⟨nu, x, s⟩) ⟨rfl, HZ.out⟩ 3 rfl (fun _ _ _ _ h4 => h4) (by omega) ?_; intro A5 c5 w5 h5))
    go_roundw
    case rel =>
     have e1 : (l.take (k + 1)).map (fun v : VV => v.n % 1000) = (l.take k).map (fun v : VV => v.n % 1000) ++ [(fun v : VV => v.n % 1000) ⟨nu, x, s⟩] := by
      rw [zT hkl, List.map_append, ← HF.out]; rfl
     have e2 := h5.own
     rw [← e1] at e2
     exact ⟨k + 1, A5, c5, _, by omega, by go_num, rfl, e2, h5.below⟩
    case measure => simp [intOf]; omega
  · obtain rfl : k = n := by omega
    have e1 : l.take k = l := zL (by rw [← HL.out]; exact Nat.le_refl _)
    rw [e1] at hown
    have HO := zH hown; clear hown e1
    go_wp2
    go_ret
    exact ⟨A2, k, c2, rfl, ⟨G, HO.out⟩, hb⟩
theorem nums_any (F : Nat → Prop) (A : Option Addr) (n c : Nat) (l : List VV) (w : World) (h : Sl tVV F w A n c l) (hl : n ≤ 4096) :
 Calls Tryz.prog 93 #[.slice A n c, .func (.func 96) #[] #[]] w (OwnE tI64 3 (l.map (fun v : VV => v.n)) w) := by
 have HL := zH h.len
 go_enter Tryz.func93, Tryz.ntmps93
 go_wp2
 go_loopw [5, 10] (fun v i wr => ∃ (k : Nat) (A2 : Option Addr) (c2 : Nat) (G : Nat → Prop), k ≤ n ∧ i = .int .i64 k ∧ v = .slice A2 k c2 ∧ OwnF tI64 3 G wr w.heap.size A2 k c2 ((l.take k).map (fun v : VV => v.n)) ∧ Below w.heap.size w wr)
  (fun _ i _ => n - (intOf i).toNat)
 case atStart => exact ⟨0, none, 0, fun _ => False, Nat.zero_le _, rfl, rfl, OwnF.nil_ _ _ _ _ _, zR⟩
 case round =>
  obtain ⟨k, A2, c2, G, hk, rfl, rfl, hown, hb⟩ := hrel
  by_cases hlt : k < n
  · have hkl : k < l.length := by rw [← HL.out]; exact hlt
    obtain ⟨b, o, cs, rfl, _, hbl, hrep, hc⟩ := (h.below hb zN).at_ hkl (by decide)
    obtain ⟨v, hf⟩ : ∃ v, v = l[k] := ⟨_, rfl⟩
    obtain ⟨rfl, hok⟩ := hrep
    rw [← hf] at hc hok
    obtain ⟨nu, x, s⟩ := v
    obtain ⟨x0, x1, _⟩ := hok
    have x0 : -9223372036854775808 ≤ x := x0
    have x1 : x ≤ 9223372036854775807 := x1
    have HF := zH hf; clear hf
    obtain ⟨g0, g1, g2⟩ := xxj hc
    clear hc
    have g0 : _ = some (Value.bool nu) := g0
    have g1 : _ = some (Value.int .i64 x) := g1
    have g2 : _ = some (Value.string s) := g2
    have HO := zH hown; clear hown
    have hsz := hb.size
    have HZ := zH (show -9223372036854775808 ≤ ((fun v : VV => v.n) ⟨nu, x, s⟩) ∧ ((fun v : VV => v.n) ⟨nu, x, s⟩) ≤ 9223372036854775807 by constructor <;> (show _ ≤ _; dsimp only; omega))
    go_wp2_with (first
     | (go_at_call 96; refine (xxL (xqG x _)).mono ?_; rintro e w1 ⟨rfl, hb3⟩; have HB3 := zH hb3; clear hb3)
     | (at_builtin; refine apl1 (T := tI64) xxv w1 w rfl (.tmp 14) (.tmp 19) rfl w.heap.size A2 k c2 ((l.take k).map (fun v : VV => v.n)) (by rfl) G (fun _ => False) (by first | exact (HO.out.alloc _).keepB HB3.out | exact ((HO.out.alloc _).keepB ((zR).drew)).keepB HB3.out) (by first | exact (hb.alloc hsz _).trans (HB3.out.mono (by simp; omega)) | exact (hb.alloc hsz _).drew.trans (HB3.out.mono (by simp; omega))) zN _ (by rfl) [.int .i64 x] ((fun v : VV => v.n) ⟨nu, x, s⟩) ⟨rfl, HZ.out⟩ 3 rfl (fun _ _ _ _ h4 => h4) (by omega) ?_; intro A5 c5 w5 h5))
    go_roundw
    case rel =>
     have e1 : (l.take (k + 1)).map (fun v : VV => v.n) = (l.take k).map (fun v : VV => v.n) ++ [(fun v : VV => v.n) ⟨nu, x, s⟩] := by
      rw [zT hkl, List.map_append, ← HF.out]; rfl
     have e2 := h5.own
     rw [← e1] at e2
     exact ⟨k + 1, A5, c5, _, by omega, by go_num, rfl, e2, h5.below⟩
    case measure => simp [intOf]; omega
  · obtain rfl : k = n := by omega
    have e1 : l.take k = l := zL (by rw [← HL.out]; exact Nat.le_refl _)
    rw [e1] at hown
    have HO := zH hown; clear hown e1
    go_wp2
    go_ret
    exact ⟨A2, k, c2, rfl, ⟨G, HO.out⟩, hb⟩
end
section
open Go Go.RowKit
theorem elemVV : zzL Tryz.prog 22 74 tVV.size := zzL.mk' (bytes := 32) (z := .agg #[.bool false, .int .i64 0, .string ⟨#[]⟩]) (by kernel_rfl) (by kernel_rfl) rfl (by decide) (by decide)
def encV (d : VV) : List Value := [.bool d.null, .int .i64 d.n, .string d.s]
def yy0 (l : List VV) : List Value := (l.map encV).flatten
theorem yy1 : ∀ l : List VV, (yy0 l).length = l.length * 3
 | [] => rfl
 | d :: r => by
   have := yy1 r
   simp only [yy0, List.map_cons, List.flatten_cons, List.length_append, encV, List.length_cons, List.length_nil] at this ⊢
   omega
theorem yyd (d : VV) (r : List VV) : yy0 (d :: r) = encV d ++ yy0 r := rfl
theorem xxM : ∀ (l : List VV) (k j : Nat) (h : k < l.length) (u : Value), (encV l[k])[j]? = some u → (yy0 l)[k * 3 + j]? = some u
 | d :: r, 0, j, _, u, hu => by
   have hj : j < 3 := by
    rcases Nat.lt_or_ge j 3 with h | h
    · exact h
    · rw [List.getElem?_eq_none (by simpa [encV] using h)] at hu; cases hu
   rw [yyd, Nat.zero_mul, Nat.zero_add, List.getElem?_append_left (by simpa [encV] using hj)]
   exact hu
 | d :: r, k + 1, j, h, u, hu => by
   have ih := xxM r k j (by simpa using h) u (by simpa using hu)
   rw [yyd, List.getElem?_append_right (by simp [encV]; omega), show (k + 1) * 3 + j - (encV d).length = k * 3 + j by simp [encV]; omega]
   exact ih
theorem qzC (l : List VV) (k : Nat) : (yy0 l).take (k * 3) = yy0 (l.take k) := by
 induction l generalizing k with
 | nil => simp [yy0]
 | cons d r ih =>
   cases k with
   | zero => simp [yy0]
   | succ k =>
     rw [yyd, List.take_succ_cons, yyd, ← ih k, List.take_append, zL (by simp [encV]; omega)]
     congr 2
     simp [encV]; omega
theorem jju : ∀ (l : List VV) (i : Nat) (d : VV), i < l.length → (((yy0 l).set (i * 3) (.bool d.null)).set (i * 3 + 1) (.int .i64 d.n)).set (i * 3 + 2) (.string d.s) = yy0 (l.set i d)
 | e :: r, 0, d, _ => rfl
 | e :: r, i + 1, d, h => by
   have ih := jju r i d (by simpa using h)
   rw [List.set_cons_succ, yyd, yyd, ← ih]
   simp only [encV, List.cons_append, List.nil_append, show (i + 1) * 3 = i * 3 + 1 + 1 + 1 by omega]
   rfl
theorem repsV (F : Nat → Prop) (w : World) (l : List VV) (h : ∀ d ∈ l, d.ok) : Reps tVV F w (l.map encV) l := by
 refine ⟨by simp, fun i cs x h1 h2 => ?_⟩
 rw [List.getElem?_map, h2] at h1
 simp at h1
 subst h1
 exact ⟨rfl, h x (List.mem_of_getElem? h2)⟩
theorem repsV_eq {F : Nat → Prop} {w : World} {css : List (List Value)} {l : List VV} (h : Reps tVV F w css l) : css = l.map encV ∧ ∀ d ∈ l, d.ok := by
 have hk : ∀ i (hi : i < l.length), css[i]? = some (encV l[i]) ∧ (l[i]).ok := fun i hi => by
  have hc : i < css.length := by rw [h.1]; exact hi
  have := h.2 i _ _ (List.getElem?_eq_getElem hc) (List.getElem?_eq_getElem hi)
  exact ⟨by rw [List.getElem?_eq_getElem hc, this.1]; rfl, this.2⟩
 refine ⟨List.ext_getElem? fun i => ?_, fun d hd => ?_⟩
 · rcases Nat.lt_or_ge i l.length with hi | hi
   · rw [(hk i hi).1, List.getElem?_map, List.getElem?_eq_getElem hi]; rfl
   · rw [List.getElem?_eq_none (by rw [h.1]; exact hi), List.getElem?_eq_none (by simpa using hi)]
 · obtain ⟨i, hi, rfl⟩ := List.getElem_of_mem hd
   exact (hk i hi).2
structure OwnV (w : World) (B : Nat) (A : Option Addr) (n c : Nat) (l : List VV) : Prop where
 row : w.ownsRow B 74 3 (.slice A n c) n (yy0 l)
 ok : ∀ d ∈ l, d.ok
section
variable {w w' : World} {B n c : Nat} {A : Option Addr} {l : List VV}
theorem OwnV.len (h : OwnV w B A n c l) : n = l.length := by
 have := h.row.1
 rw [yy1] at this; omega
theorem OwnV.ownF (h : OwnV w B A n c l) : OwnF tVV 74 (fun _ => False) w B A n c l := ⟨⟨l.map encV, h.row, repsV _ w l h.ok⟩, by simp, h.len⟩
theorem ownV_of {F : Nat → Prop} (h : OwnF tVV 74 F w B A n c l) : OwnV w B A n c l := by
 obtain ⟨⟨css, h1, h2⟩, _, _⟩ := h
 obtain ⟨rfl, h3⟩ := repsV_eq h2
 exact ⟨h1, h3⟩
theorem OwnV.sl (h : OwnV w B A n c l) : Sl tVV (fun b => B ≤ b) w A n c l := h.ownF.sl.weaken fun b hb _ => by rcases hb with hb | hb; exact hb.elim; exact hb.2
theorem OwnV.cap (h : OwnV w B A n c l) : n ≤ c ∧ c ≤ maxLen := xxk h.row
theorem OwnV.keepB (h : OwnV w B A n c l) (hb : Below w.heap.size w w') : OwnV w' B A n c l := ⟨zzW h.row fun b hb' => hb.block b (h.row.lt b hb').2, h.ok⟩
theorem OwnV.front (h : OwnV w B A n c l) {k : Nat} (hk : k ≤ n) (hA : A ≠ none) : OwnV w B A k c (l.take k) := by
 refine ⟨⟨by rw [yy1, List.length_take, ← h.len]; omega, ?_⟩, fun d hd => h.ok d (List.mem_of_mem_take hd)⟩
 rcases h.row.2 with ⟨h1, h2⟩ | ⟨g, cap, cur, h1, hb, hg, hn, hc, hs, ht⟩
 · injection h1 with h1; exact absurd h1 hA
 · injection h1 with e1 e2 e3; subst e1 e3
   refine .inr ⟨g, c, cur, rfl, hb, hg, by omega, hc, hs, ?_⟩
   rw [← qzC, ← ht, List.take_take, Nat.min_eq_left (Nat.mul_le_mul_right 3 hk)]
variable {g : Nat}
theorem OwnV.cell (h : OwnV w B (some ⟨g, 0, none⟩) n c l) {i : Nat} (hi : i < l.length) : w.cell? ⟨g, i * 3, none⟩ = some (.bool l[i].null) ∧ w.cell? ⟨g, i * 3 + 1, none⟩ = some (.int .i64 l[i].n) ∧ w.cell? ⟨g, i * 3 + 2, none⟩ = some (.string l[i].s) := by
 have hn := h.len
 refine ⟨?_, ?_, ?_⟩
 · rw [h.row.cellAt (i * 3) (by omega)]
   exact xxM l i 0 hi _ rfl
 · rw [h.row.cellAt (i * 3 + 1) (by omega)]
   exact xxM l i 1 hi _ rfl
 · rw [h.row.cellAt (i * 3 + 2) (by omega)]
   exact xxM l i 2 hi _ rfl
theorem OwnV.free (h : OwnV w B (some ⟨g, 0, none⟩) n c l) (j : Nat) : w.frozen? ⟨g, j, none⟩ = false := h.row.frozenAt j
theorem OwnV.base (h : OwnV w B (some ⟨g, 0, none⟩) n c l) : B ≤ g ∧ g < w.heap.size := h.row.lt g rfl
theorem OwnV.set (h : OwnV w B (some ⟨g, 0, none⟩) n c l) {i : Nat} (hi : i < l.length) (d : VV) (hd : d.ok) :
 OwnV (((w.setCell ⟨g, i * 3, none⟩ (.bool d.null)).setCell ⟨g, i * 3 + 1, none⟩ (.int .i64 d.n)).setCell ⟨g, i * 3 + 2, none⟩ (.string d.s)) B (some ⟨g, 0, none⟩) n c (l.set i d) := by
 have h1 := (h.row.stored (i * 3) (.bool d.null)).1
 have h2 := (h1.stored (i * 3 + 1) (.int .i64 d.n)).1
 have h3 := (h2.stored (i * 3 + 2) (.string d.s)).1
 rw [jju l i d hi] at h3
 refine ⟨h3, fun e he => ?_⟩
 rcases List.mem_or_eq_of_mem_set he with he | rfl
 · exact h.ok e he
 · exact hd
theorem OwnV.past (h : OwnV w B (some ⟨g, 0, none⟩) n c l) : ∀ (vs : List Value) (o : Nat), n * 3 ≤ o → OwnV (w.setCells g o vs) B (some ⟨g, 0, none⟩) n c l := by
 intro vs
 induction vs generalizing w with
 | nil => intro o _; exact h
 | cons v r ih =>
   intro o ho
   have h1 := (h.row.stored o v).1
   rw [List.set_eq_of_length_le (by rw [yy1, ← h.len]; exact ho)] at h1
   exact ih (w := w.setCell ⟨g, o, none⟩ v) ⟨h1, h.ok⟩ (o + 1) (by omega)
end
theorem xxT {B g : Nat} {a : World} (hg : B ≤ g) : ∀ (vs : List Value) (o : Nat) (w : World), Below B a w → Below B a (w.setCells g o vs)
 | [], _, _, h => h
 | v :: r, o, _, h => xxT hg r (o + 1) _ (zzd h hg v)
theorem qxl (w : World) (g o m c : Nat) (hm : 0 < m) (hc : ∀ j, j < m * 3 → (w.cell? ⟨g, o + j, none⟩).isSome = true) (hf : ∀ j, j < m * 3 → w.frozen? ⟨g, o + j, none⟩ = false) :
 ∃ vs, ∀ ty, (Builtin.clear_ #[22] ty #[.slice (some ⟨g, o, none⟩) m c]).run Tryz.prog w = .ok (.tuple #[]) (w.setCells g o vs) := by
 obtain ⟨vs, hvs⟩ : ∃ vs, vs = (Builtin.zeroCells (Value.agg #[.bool false, .int .i64 0, .string ⟨#[]⟩]).cells m).toList := ⟨_, rfl⟩
 have hlen : vs.length = m * 3 := by rw [hvs]; simp [Builtin.zeroCells, Value.cells]
 have hone : ∀ v ∈ vs, v.oneCell' = true := by
  intro v hv
  rw [hvs] at hv
  obtain ⟨i, hi, rfl⟩ := List.getElem_of_mem hv
  simp [Builtin.zeroCells, Value.cells] at hi ⊢
  have : i % 3 < 3 := Nat.mod_lt _ (by decide)
  match i % 3, this with
  | 0, _ => simp; rfl
  | 1, _ => simp; rfl
  | 2, _ => simp; rfl
 refine ⟨vs, fun ty => ?_⟩
 have hst := run_storeCells_cells (P := Tryz.prog) g o vs 0 w (by simpa [hlen] using hc) (by simpa [hlen] using hf) hone
 simp only [Nat.add_zero] at hst
 have hz : ∀ w, (zeroValue 74).run Tryz.prog w = .ok (.agg #[.bool false, .int .i64 0, .string ⟨#[]⟩]) w := Tryz.zeroValue74
 obtain ⟨k, rfl⟩ : ∃ k, m = k + 1 := ⟨m - 1, by omega⟩
 simp [Builtin.clear_, run_underlying (show Tryz.prog.underlying 22 = some (.slice 74) by kernel_rfl), hz, ← hvs, hst]
end
section
open Go Go.RowKit
def colV (rows : List (List VV)) (i : Nat) : List VV := rows.map fun r => r.getD i VV.zero
theorem zqu (rows : List (List VV)) (i : Nat) : (colV rows i).length = rows.length := List.length_map ..
theorem xq3 {rows : List (List VV)} {i k : Nat} (hk : k < rows.length) {r : List VV} (hr : r = rows[k]) (hi : i < r.length) {v : VV} (hv : v = r[i]) : colV (rows.take (k + 1)) i = colV (rows.take k) i ++ [v] := by
 unfold colV
 rw [zT hk, List.map_append, ← hr, List.map_cons, List.map_nil, List.getD_eq_getElem?_getD, List.getElem?_eq_getElem hi, ← hv]; rfl
abbrev RR := List VV
abbrev tRow : Ty RR := tSl tVV
end
section
open Go Go.RowKit
theorem xq4 : zzL Tryz.prog 35 91 tRow.size := zzL.mk' (bytes := 24) (z := .slice none 0 0) (by kernel_rfl) (by kernel_rfl) rfl (by decide) (by decide)
structure TabW (w w2 : World) : Prop where
 eq : w2 = (w.alloc (.cells Tryz.zeroCells39 39)).setCells w.heap.size 0 uuv.toList
 tab : TabC w.heap.size w2
 below : Below w.heap.size w w2
theorem tabW (w : World) : ∃ w2, TabW w w2 := by
 have h1 := heap_alloc_new w (.cells Tryz.zeroCells39 39)
 rw [yyU] at h1
 refine ⟨_, rfl, ?_, uuw zN _ _ _ ((zR).alloc zN _)⟩
 rw [yyU]
 exact xxc (tabL 256) (tabL 0) [] _ h1 (by rw [yys, yys])
theorem kqH (w : World) : (w.alloc (.cells Tryz.zeroCells39 39)).there w.heap.size 0 uuv.size := by
 have h1 := heap_alloc_new w (.cells Tryz.zeroCells39 39)
 rw [yyU] at h1 ⊢
 intro j hj
 unfold uuv at hj
 rw [List.size_toArray, yys] at hj
 refine ⟨?_, zF h1 _⟩
 rw [zC h1]
 have := vvA 0 j hj
 simp [this]
theorem Sl.fst {α : Type} {T : Ty α} {F : Nat → Prop} {w : World} {A : Option Addr} {n c : Nat} {xs : List α} (h : Sl T F w A n c xs) {k : Nat} (hk : k ≤ n) : Sl T F w A k c (xs.take k) := by
 obtain ⟨h1, h2, h3, css, h4, h5⟩ := h
 refine ⟨by rw [List.length_take]; omega, by omega, h3, css.take k, ?_, h5.take k⟩
 have h6 : (css.take k).flatten ++ (css.drop k).flatten = css.flatten := by rw [← List.flatten_append, List.take_append_drop]
 rw [← h6] at h4
 exact h4.front
theorem zzN {F : Nat → Prop} {w : World} {A : Option Addr} {n c : Nat} {l : List UInt8} (h : Bs F w A n c l) : (convert 41 9 (.slice A n c)).run Tryz.prog w = .ok (.string ⟨l.toArray⟩) w := by
 obtain ⟨hn, _, _, css, hrd, hr⟩ := h
 subst hn
 have hcs := vvx hr
 subst hcs
 rw [uum] at hrd
 cases A with
 | none =>
   have : l = [] := by
    cases l with
    | nil => rfl
    | cons x t => obtain ⟨_, _, h, _⟩ := hrd (by simp [bvs]); cases h
   subst this
   rw [List.length_nil, run_convert_bytes_string w _ _ _ none 0 c zz6 qzj uun]
   simp [Conv.bytesToString]
   rfl
 | some a =>
   refine run_convert_bytes_back w _ _ _ a c l zz6 qzj uun (fun j hj => ?_)
   obtain ⟨b, o, e, _, _, hc⟩ := hrd (by intro h0; cases l with | nil => simp at hj | cons x t => simp [bvs] at h0)
   injection e with e; subst e
   rw [zz4]
   exact hc j _ (by rw [xxV l j hj])
theorem xq5 : uuv.all (·.oneCell') = true := by kernel_rfl
end
section
open Go Go.RowKit
theorem OwnV.new0 (w : World) (B : Nat) (hB : B ≤ w.heap.size) : OwnV (w.alloc (.cells #[] 74)) B (some ⟨w.heap.size, 0, none⟩) 0 0 [] := by
 have := World.ownsRow_lit (base := B) (e := 74) (size := 3) w #[] 0 hB (by simp [maxLen]) (by simp)
 exact ⟨by simpa [yy0] using this, by simp⟩
def xq9 (l : List VV) (n : Nat) (w : World) (e : Ending) (w' : World) : Prop := ∃ A' c', e = .returned (.slice A' n c') ∧ OwnV w' w.heap.size A' n c' l ∧ Below w.heap.size w w'
theorem clone_any (F : Nat → Prop) (A : Option Addr) (n c : Nat) (l : List VV) (w : World) (h : Sl tVV F w A n c l) (hn : n ≤ 34359738368) : Calls Tryz.prog 158 #[.slice A n c] w (xq9 l n w) := by
 cases A with
 | none =>
   have hl : l = [] := by
    cases l with
    | nil => rfl
    | cons x r => obtain ⟨b, o, _, e, _⟩ := h.at_ (k := 0) (by simp) (by decide); cases e
   have hn0 := h.len
   subst hl
   obtain rfl : n = 0 := hn0
   have hq : (binOp .eql 22 (.slice none 0 c) (.slice none 0 0)).run Tryz.prog w = .ok (.bool true) w := Lib.run_eql_slice_nil w _ _ none 0 c 0 0 (show Tryz.prog.underlying 22 = some (.slice 74) by kernel_rfl)
   clear h hn
   go_enter Tryz.func158, Tryz.ntmps158
   go_wp2_with fail
   go_ret
   exact ⟨none, 0, rfl, ⟨World.ownsRow_nil _ _ _ _, by simp⟩, zR⟩
 | some a =>
   have hq : (binOp .eql 22 (.slice (some a) n c) (.slice none 0 0)).run Tryz.prog w = .ok (.bool false) w := Lib.run_eql_slice_nil w _ _ (some a) n c 0 0 (show Tryz.prog.underlying 22 = some (.slice 74) by kernel_rfl)
   have HS := zH ((h.weaken (F' := fun b => F b ∧ b < w.heap.size) fun b hb hl => ⟨hb, hl⟩).alloc (.cells #[] 74))
   have HE := zH (OwnV.new0 w w.heap.size zN).ownF
   clear h
   go_enter Tryz.func158, Tryz.ntmps158
   go_wp2_with (first
    | (at_builtin; refine apl (T := tVV) elemVV (w.alloc (.cells #[] 74)) w rfl (.tmp 5) (.tmp 6) rfl w.heap.size (some ⟨w.heap.size, 0, none⟩) 0 0 [] rfl (fun _ => False) (fun b => F b ∧ b < w.heap.size) HE.out ((zR).alloc zN _) zN (some a) n c l rfl HS.out (fun b _ h1 _ h3 => by omega) (by omega) ?_; intro A5 c5 w5 h5)
    | fail)
   go_ret
   have ho := ownV_of h5.own
   rw [Nat.zero_add, List.nil_append] at ho
   exact ⟨A5, c5, rfl, ho, h5.below⟩
def zzw (v : VV) : Bool := !v.null
theorem dropv (d : VV) (r : Bool) (hr : r = !zzw d) (w : World) : Calls Tryz.prog 159 #[.agg #[.bool d.null, .int .i64 d.n, .string d.s]] w fun e w' => e = .returned (.bool r) ∧ Below w.heap.size w w' := by
 have : r = d.null := by rw [hr]; unfold zzw; simp
 rw [this]
 exact qxb _ _ _ _
def xxw (p : VV → Bool) (l : List VV) (r : Int) : Prop := (r = -1 ∧ ∀ x ∈ l, p x = true) ∨ ∃ i : Nat, r = i ∧ ∃ h : i < l.length, (∀ x ∈ l.take i, p x = true) ∧ p l[i] = false
def IdxPost (p : VV → Bool) (l : List VV) (w : World) (e : Ending) (w' : World) : Prop := ∃ r, e = .returned (.int .i64 r) ∧ xxw p l r ∧ Below w.heap.size w w'
theorem idx_any (F : Nat → Prop) (A : Option Addr) (n c : Nat) (l : List VV) (w : World) (h : Sl tVV F w A n c l) :
 Calls Tryz.prog 86 #[.slice A n c, .func (.func 159) #[] #[]] w (IdxPost (zzw) l w) := by
 have HL := zH h.len
 have hmax : n ≤ 9223372036854775807 := by have h2 := h.2.1; have h3 := h.2.2.1; unfold maxLen at h3; omega
 go_enter Tryz.func86, Tryz.ntmps86
 go_wp2_with fail
 go_loopw [8] (fun i wr => ∃ j : Nat, j ≤ n ∧ i = .int .i64 j ∧ Below w.heap.size w wr ∧ Hid (∀ x ∈ l.take j, zzw x = true)) (fun i _ => n - (intOf i).toNat)
 case atStart => exact ⟨0, Nat.zero_le _, rfl, zR, zH (by simp)⟩
 case round =>
  obtain ⟨j, hj, rfl, hb, HA⟩ := hrel
  have g := h.below hb zN
  have HB := zH hb
  have hsz := hb.size
  clear hb
  by_cases hlt : j < n
  · have hjl : j < l.length := by rw [← HL.out]; exact hlt
    obtain ⟨d, hd⟩ : ∃ d, d = l[j] := ⟨_, rfl⟩
    obtain ⟨b, o, u, rfl, _, hbl, hu, hc⟩ := g.at_ hjl (by decide)
    rw [← hd] at hu
    obtain ⟨rfl, _⟩ := hu
    obtain ⟨c0, c1, c2⟩ := xxj hc
    obtain ⟨r, hr⟩ : ∃ r, r = !zzw d := ⟨_, rfl⟩
    have HD := zH hd; have HR := zH hr
    clear g hc hd hr
    have hi1 : (0 : Int) ≤ (j : Int) := by omega
    have hi2 : (j : Int) < (n : Int) := by omega
    cases r with
    | true =>
      have HF : Hid (xxw (zzw) l (j : Int)) := zH (.inr ⟨j, rfl, hjl, HA.out, by rw [← HD.out]; have := HR.out; simpa using this⟩)
      go_wp2_with (first
       | (go_at_call 159; refine (dropv d true HR.out _).mono ?_; rintro e w1 ⟨rfl, hb1⟩; have HB1 := zH (HB.out.trans (hb1.mono hsz)); clear hb1)
       | fail)
      go_ret
      exact ⟨_, rfl, HF.out, HB1.out⟩
    | false =>
      have HN : Hid (∀ x ∈ l.take (j + 1), zzw x = true) := zH (by
       intro x hx
       rw [zT hjl, List.mem_append, List.mem_singleton] at hx
       rcases hx with hx | rfl
       · exact HA.out x hx
       · rw [← HD.out]; have := HR.out; simpa using this)
      go_wp2_with (first
       | (go_at_call 159; refine (dropv d false HR.out _).mono ?_; rintro e w1 ⟨rfl, hb1⟩; have HB1 := zH (HB.out.trans (hb1.mono hsz)); clear hb1)
       | fail)
      go_roundw
      case rel => exact ⟨j + 1, by omega, by go_num, HB1.out, HN⟩
      case measure => simp [intOf]; omega
  · obtain rfl : j = n := by omega
    have HF : Hid (xxw (zzw) l (-1)) := zH (.inl ⟨rfl, by
     have := HA.out
     rwa [zL (by rw [← HL.out]; exact Nat.le_refl _)] at this⟩)
    go_wp2_with fail
    go_ret
    exact ⟨_, rfl, HF.out, HB.out⟩
end
section
open Go Go.RowKit
def zzm : Ty (Int × List UInt8) := Ty.prod tI64 (tSl tU8)
theorem yy3 : zzL Tryz.prog 25 55 zzm.size := zzL.mk' (bytes := 32) (z := .agg #[.int .i64 0, .slice none 0 0]) (by kernel_rfl) (by kernel_rfl) rfl (by decide) (by decide)
structure BuR (w0 : World) (g : Nat) (m enc tx : Int) (F : Nat → Prop) (A : Option Addr) (n c : Nat) (ss : List (Int × List UInt8)) (W : World) : Prop where
 hold : W.heap[g]? = some (.cells #[.int .i64 m, .int .i64 enc, .int .i64 tx, .slice A n c] 85 (0, 0))
 own : OwnF zzm 55 F W (g + 1) A n c ss
 below : Below g w0 W
theorem vv8 (w0 : World) (g : Nat) (m enc tx : Int) (F : Nat → Prop) (A : Option Addr) (n c : Nat) (ss : List (Int × List UInt8)) (w : World) (h : BuR w0 g m enc tx F A n c ss w) (hF : ¬ F g) (k : Int) (hk : -9223372036854775808 ≤ k ∧ k ≤ 9223372036854775807)
 (G : Nat → Prop) (Ab : Option Addr) (nb cb : Nat) (bs : List UInt8) (hb : Sl tU8 G w Ab nb cb bs) (hG : ¬ G g) (hGA : ∀ b, A = some ⟨b, 0, none⟩ → ¬ G b) (hn : n ≤ 1000) :
 Calls Tryz.prog 43 #[.pointer (some ⟨g, 0, none⟩), .int .i64 k, .slice Ab nb cb] w fun e w' => e = .returned (.tuple #[]) ∧ (∃ A' c', BuR w0 g m enc tx (fun b => (F b ∨ G b) ∧ b < w.heap.size) A' (n + 1) c' (ss ++ [(k, bs)]) w' ∧ (A'.map (·.block) = A.map (·.block) ∨ A'.map (·.block) = some (w.heap.size + 1))) ∧
  w.heap.size ≤ w'.heap.size ∧ (∀ b, b < w.heap.size → b ≠ g → A.map (·.block) ≠ some b → w'.heap[b]? = w.heap[b]?) := by
 have hgl : g < w.heap.size := (Array.getElem?_eq_some_iff.1 h.hold).1
 have HH := zH h.hold; have HO := zH h.own; have HBW := zH h.below; have HS := zH hb
 have c3 : w.cell? ⟨g, 3, none⟩ = some (.slice A n c) := by rw [zC h.hold]; rfl
 have hA : ∀ b, A.map (·.block) = some b → g + 1 ≤ b := fun b e => (h.own.lies (b := b) (by rw [zzg]; exact e)).2.1
 have HA := zH hA
 clear h hb hA
 go_enter Tryz.func43, Tryz.ntmps43
 go_wp2_with (first
  | (at_builtin; refine apl1 (T := zzm) yy3 w w rfl (.tmp 11) (.tmp 15) rfl (g + 1) A n c ss (by rfl) F G HO.out (zR) hgl _ (by rfl) [.int .i64 k, .slice Ab nb cb] (k, bs) ⟨[.int .i64 k], [.slice Ab nb cb], rfl, ⟨rfl, hk⟩, ⟨Ab, nb, cb, rfl, HS.out⟩⟩ 55 rfl (fun b h1 _ _ => hGA b h1) (by omega) ?_; intro A5 c5 w5 h5; have hg5 : w5.heap[g]? = some (.cells #[.int .i64 m, .int .i64 enc, .int .i64 tx, .slice A n c] 85 (0, 0)) := (h5.grown.block g (by simp; omega) (fun e => by have := HA.out g e.symm; omega)).trans ((Below.heap_alloc w _ g hgl).trans HH.out); have d3 : w5.cell? ⟨g, 3, none⟩ = some (.slice A n c) := (by rw [zC hg5]; rfl); have f3 := zF hg5 3; have HG5 := zH hg5; clear hg5)
  | fail)
 go_end0
 have hsz5 := h5.grown.size
 rw [zS] at hsz5
 refine ⟨rfl, ⟨A5, c5, ⟨zza HG5.out rfl, ?_, ?_⟩, (by have h6 := h5.lies; rw [zS] at h6; exact h6)⟩, by simp; omega, fun b hb1 hb2 hb3 => ?_⟩
 · refine h5.own.setCell (p := ⟨g, 3, none⟩) (fun hx => ?_) (fun e => ?_) _
   · rcases hx.1 with hx | hx
     · exact hF hx
     · exact hG hx
   · have := (h5.own.lies (b := g) (by rw [zzg, e]; rfl)).2.1
     omega
 · exact zzd (((HBW.out.alloc (Nat.le_of_lt hgl) _).grown h5.grown (by simp; omega) (fun b e => by have := HA.out b e; omega))) zN _
 · exact (Below.heap_setCell _ _ _ _ hb2).trans ((h5.grown.block b (by simp; omega) (fun e => hb3 e.symm)).trans (Below.heap_alloc w _ b hb1))
end
section
open Go Go.RowKit
end
end Go.Proofs.YtpmglcachffojaaGreatDoor
