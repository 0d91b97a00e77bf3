/- byterle.Put. (Printed by gen_byput.py.) value.right: whether a text is right UTF-8. -/
import Derived.Test.YtpmglcachffojaaGreatDoorPk15
import Derived.Lib.OthersKept
import Derived.Lib.ValidLaws
import Derived.Laws.RangeAny
namespace Go.Proofs.YtpmglcachffojaaGreatDoor
open Go Go.RowKit Go.Shelf BigFrame
attribute [local go_sem] Oper.semAt_some

/-- The blocks: what has been laid down, what waits, the function that lays it down, the box of what is left. -/
structure ByO (n0 ob lb fb bb B : Nat) : Prop where
  o1 : n0 = ob
  o2 : lb = ob + 1
  o3 : fb = ob + 2
  o4 : bb = ob + 3
  o5 : B = ob + 4
def fbObj (ob lb : Nat) : Obj := .cells #[.func (.func 201) #[] #[.pointer (some ⟨lb, 0, none⟩), .pointer (some ⟨ob, 0, none⟩)]] 1 (0, 0)
def ByI (w : World) (n0 ob lb fb B : Nat) (pre : List Rn) (W : World) : Prop := ∃ A1 n1 c1 A2 n2 c2, FlR w n0 ob lb B A1 n1 c1 (rnAll pre).1 A2 n2 c2 (rnAll pre).2 W ∧ W.heap[fb]? = some (fbObj ob lb)
theorem ByI.own {w : World} {n0 ob lb fb bb B : Nat} (h : ByO n0 ob lb fb bb B) : OwnFrom B (ByI w n0 ob lb fb B) := fun s W W' row ⟨A1, n1, c1, A2, n2, c2, h1, h2⟩ hg hr => by
  have := h.o3; have := h.o5
  exact ⟨A1, n1, c1, A2, n2, c2, h1.turn hg hr, (hg.block fb (blk_lt h2) (fun e => by have := (hr fb e.symm).1; omega)).trans h2⟩
theorem ByI.box {w : World} {n0 ob lb fb bb B : Nat} (h : ByO n0 ob lb fb bb B) (pre : List Rn) (W : World) (v : Value) (hi : ByI w n0 ob lb fb B pre W) : ByI w n0 ob lb fb B pre (W.setCell ⟨bb, 0, none⟩ v) := by
  obtain ⟨A1, n1, c1, A2, n2, c2, h1, h2⟩ := hi
  have := h.o1; have := h.o2; have := h.o3; have := h.o4; have := h.o5
  exact ⟨A1, n1, c1, A2, n2, c2, h1.other (by omega) (by omega) (by omega) (by omega) v, heap_setne h2 (by omega)⟩
theorem kp_of {n0 ob lb fb bb B : Nat} (h : ByO n0 ob lb fb bb B) {W W' : World} (hk : FlK ob lb B W W') : KpB n0 bb W W' := by
  have := h.o1; have := h.o2; have := h.o3; have := h.o4; have := h.o5
  exact ⟨hk.low bb (by omega) (by omega) (by omega), fun b hb => hk.low b (by omega) (by omega) (by omega), hk.others.size⟩
theorem below7 {W : World} {o : Obj} {w7 : World} (h : Below (W.alloc o).drew.heap.size (W.alloc o).drew w7) : Below W.heap.size W w7 :=
  (((Below.refl W.heap.size W).alloc (Nat.le_refl _) o).drew).trans (h.mono (by show W.heap.size ≤ (W.alloc o).heap.size; simp))
theorem fin9 {w W w7 w9 : World} {n0 ob lb fb bb B : Nat} {pre : List Rn} {x : Rn} {A1 A2 A9 : Option Addr} {n1 c1 n2 c2 c9 : Nat} (h7 : FlR w n0 ob lb B A1 n1 c1 (rnAll pre).1 A2 n2 c2 (rnAll pre).2 w7) (hb : Below W.heap.size W w7) (hB : B ≤ W.heap.size) (hx : x.n < 3)
    (hm : MidB w9 B A9 (n2 + x.n) c9 ((rnAll pre).2 ++ List.replicate x.n x.c)) (hg : w7.grownBy w9 (blkM A2 c2)) (hl : blkM A9 c9 = blkM A2 c2 ∨ ∀ g, blkM A9 c9 = some g → w7.heap.size ≤ g) (hf : W.heap[fb]? = some (fbObj ob lb)) (ho : ByO n0 ob lb fb bb B) :
    KeepsOthers W (w9.setCell ⟨lb, 0, none⟩ (.slice A9 (n2 + x.n) c9)) ∧ KpB n0 bb W (w9.setCell ⟨lb, 0, none⟩ (.slice A9 (n2 + x.n) c9)) ∧ ByI w n0 ob lb fb B (pre ++ [x]) (w9.setCell ⟨lb, 0, none⟩ (.slice A9 (n2 + x.n) c9)) := by
  obtain ⟨_, _, h9, k9⟩ := h7.growL hm hg hl
  have hk := (FlK.below hB hb).trans k9
  have := ho.o1; have := ho.o2; have := ho.o3; have := ho.o5
  refine ⟨hk.others, kp_of ho hk, A1, n1, c1, A9, n2 + x.n, c9, ?_, (hk.low fb (by omega) (by omega) (by omega)).trans hf⟩
  rw [rnAll_snoc, rnStep, if_pos hx]
  exact h9
set_option maxRecDepth 100000 in
set_option maxHeartbeats 8000000 in
theorem byput_any (F : Nat → Prop) (A : Option Addr) (m c : Nat) (bs : List UInt8) (w : World) (h : Bs F w A m c bs) (hm : m ≤ 512) :
    Calls Tryz.prog 160 #[.slice A m c] w (RunPost (some (byB bs)) w) := by
  have HH := Lib.hid (h.weaken (F' := fun b => b < w.heap.size) fun b _ hb => hb)
  have hlen := h.len
  have z0 : ¬ (m : Int) > 4096 := by omega
  obtain ⟨n0, hn0⟩ : ∃ n0, n0 = w.heap.size := ⟨_, rfl⟩
  obtain ⟨ob, hob⟩ : ∃ ob, ob = w.heap.size := ⟨_, rfl⟩
  obtain ⟨lb, hlb⟩ : ∃ lb, lb = w.heap.size + 1 := ⟨_, rfl⟩
  obtain ⟨fb, hfb⟩ : ∃ fb, fb = w.heap.size + 1 + 1 := ⟨_, rfl⟩
  obtain ⟨bb, hbb⟩ : ∃ bb, bb = w.heap.size + 1 + 1 + 1 := ⟨_, rfl⟩
  obtain ⟨B, hB⟩ : ∃ B, B = w.heap.size + 1 + 1 + 1 + 1 := ⟨_, rfl⟩
  have ho : ByO n0 ob lb fb bb B := ⟨by omega, by omega, by omega, by omega, by omega⟩
  obtain ⟨v1, hv1⟩ : ∃ v1, v1 = w.alloc (.cells #[.slice none 0 0] 41) := ⟨_, rfl⟩
  obtain ⟨v2, hv2⟩ : ∃ v2, v2 = v1.alloc (.cells #[.slice none 0 0] 41) := ⟨_, rfl⟩
  obtain ⟨v3, hv3⟩ : ∃ v3, v3 = v2.alloc (fbObj ob lb) := ⟨_, rfl⟩
  obtain ⟨W0, hW0⟩ : ∃ W0, W0 = v3.alloc (.cells #[.slice A m c] 41) := ⟨_, rfl⟩
  have s1 : v1.heap.size = w.heap.size + 1 := by rw [hv1, World.size_alloc]
  have s2 : v2.heap.size = w.heap.size + 1 + 1 := by rw [hv2, World.size_alloc, s1]
  have s3 : v3.heap.size = w.heap.size + 1 + 1 + 1 := by rw [hv3, World.size_alloc, s2]
  have s4 : W0.heap.size = B := by rw [hW0, World.size_alloc, s3, hB]
  have b1 : Below w.heap.size w v1 := by rw [hv1]; exact (Below.refl _ _).alloc (Nat.le_refl _) _
  have b2 : Below v1.heap.size v1 v2 := by rw [hv2]; exact (Below.refl _ _).alloc (Nat.le_refl _) _
  have b3 : Below v2.heap.size v2 v3 := by rw [hv3]; exact (Below.refl _ _).alloc (Nat.le_refl _) _
  have b4 : Below v3.heap.size v3 W0 := by rw [hW0]; exact (Below.refl _ _).alloc (Nat.le_refl _) _
  have q1 : v1.heap[ob]? = some (.cells #[.slice none 0 0] 41 (0, 0)) := by rw [hv1, hob]; exact heap_alloc_new w _
  have q2 : v2.heap[lb]? = some (.cells #[.slice none 0 0] 41 (0, 0)) := by rw [hv2, hlb, ← s1]; exact heap_alloc_new v1 _
  have q3 : v3.heap[fb]? = some (fbObj ob lb) := by rw [hv3, hfb, ← s2]; exact heap_alloc_new v2 _
  have q4 : W0.heap[bb]? = some (.cells #[.slice A m c] 41 (0, 0)) := by rw [hW0, hbb, ← s3]; exact heap_alloc_new v3 _
  have b14 : Below w.heap.size w W0 := ((b1.trans (b2.mono (by omega))).trans (b3.mono (by omega))).trans (b4.mono (by omega))
  have hI0 : ByI w n0 ob lb fb B [] W0 := ⟨none, 0, 0, none, 0, 0, ⟨(b4.block ob (by omega)).trans ((b3.block ob (by omega)).trans ((b2.block ob (by omega)).trans q1)), (b4.block lb (by omega)).trans ((b3.block lb (by omega)).trans q2), OwnB.nil_ _ _, MidB.nil_ _ _, by simp, ⟨by omega, by omega, by omega, by omega, by omega, by omega⟩, by rw [hn0]; exact b14⟩, (b4.block fb (by omega)).trans q3⟩
  have HI0 := Lib.hid hI0; have HO := Lib.hid ho; have HS4 := Lib.hid s4; have HB14 := Lib.hid b14
  have HSEQ := Lib.hid (runs_st 2 (by omega) n0 bb (by omega) A m c bs W0 q4 (by rw [hn0]; exact HH.out.below b14 (Nat.le_refl _)))
  have hW : W0 = ((v2.alloc (fbObj ob lb)).alloc (.cells #[.slice A m c] 41)) := by rw [hW0, hv3]
  rw [hv2, hv1] at hW
  have hN0 := hn0
  rw [hlb, hob] at hW
  have HW := Lib.hid hW
  have HN0 := Lib.hid hn0; have HOB := Lib.hid hob; have HLB := Lib.hid hlb; have HFB0 := Lib.hid hfb; have HBB := Lib.hid hbb; have HLEN := Lib.hid hlen
  clear h hlen hv1 hv2 hv3 hW0 hW s1 s2 s3 s4 b1 b2 b3 b4 q1 q2 q3 q4 b14 hI0 ho hn0 hN0 hob hlb hfb hbb hB
  refine (callsIn_wide (n := 3)).1 ?_
  refine callsIn_of_wp_marks Tryz.func160 rfl trivial ?_ rfl
  simp only [Tryz.ntmps160, List.size_toArray, List.length_cons, List.length_nil, Nat.reduceAdd, Nat.reduceSub, Array.replicate_succ, Array.replicate_zero, List.push_toArray, List.append_toArray, List.nil_append, List.cons_append]
  gi_wp2
  refine ⟨trivial, ?_⟩
  (refine (runs_in _ _ _ _ _).mono ?_; rintro e w' ⟨rfl, rfl⟩)
  gi_wp2
  have hWW := HW.out
  unfold fbObj at hWW
  rw [← hWW]
  clear hWW
  try simp only [World.size_alloc]
  rw [← HBB.out, ← HFB0.out, ← HLB.out, ← HOB.out]
  refine wpIn_rangeSt rfl (by omega) (gf := 241) (lb := #[.pointer (some ⟨bb, 0, none⟩)]) rfl trivial (enters_of Tryz.func241 (by kernel_rfl) rfl) (bb := bb) (by rw [HS4.out, HO.out.o4, HO.out.o5]; omega) HSEQ.out KpB.trans (fun W l o hl => KpB.put (w := W0) (by rw [HS4.out, HO.out.o1, HO.out.o5]; omega) (by rw [HS4.out, HO.out.o4, HO.out.o5]; omega) W l o hl) (fun _ => rfl)
    (ByI w n0 ob lb fb B) (by rw [HS4.out]; exact ByI.own HO.out) (ByI.box HO.out) HI0.out
    (fun x => { tmps := #[.slice A m c, undef, .slice none 0 0, .int .i64 0, .pointer (some ⟨ob, 0, none⟩), .pointer (some ⟨lb, 0, none⟩), .pointer (some ⟨fb, 0, none⟩), .int .u8 (x.c.toNat : Int), .int .i64 (x.n : Int), .slice A m c, .int .i64 (m : Int), .bool false, .func (.func 201) #[] #[.pointer (some ⟨lb, 0, none⟩), .pointer (some ⟨ob, 0, none⟩)], .slice A m c, .func (.func 241) #[] #[.pointer (some ⟨bb, 0, none⟩)], .int .u8 (x.c.toNat : Int), .int .i64 (x.n : Int), undef, undef, undef, undef, undef, undef, undef, undef, undef, undef, undef, undef, undef, undef, undef, undef, undef, undef, undef, undef], defers := [] }) ?assign ?body ?done
  case assign =>
    intro l x W K hK
    dsimp only [rnEnc]
    gi_wp2
    exact hK
  case body =>
    rintro l' pre x W ⟨A1, n1, c1, A2, n2, c2, hfl, hfb⟩ hpl
    have HFL := Lib.hid hfl; have HFB := Lib.hid hfb; have HORD := HO
    have hpl2 : pre.length < 512 := by have := HLEN.out; omega
    have hrl := rnAll_len pre
    have hl1 := hfl.out.len
    have hl2 := hfl.lst.len
    have hn1x : n1 ≤ 1073741824 := by omega
    have hn2b : n2 ≤ 1073741824 := by omega
    have hxm := x.most
    have hn2x : n2 + x.n ≤ 68719476736 := by omega
    have hpx : B ≤ W.heap.size := hfl.ord.2.2.2.2.2
    obtain ⟨q1, q2, q3, q4⟩ := hfl.cells
    have hx8 : x.n ≤ 8192 := by omega
    have hd : 1 ≤ 3 - 1 - 1 := by omega
    clear hfl hfb hrl hl1 hl2 hpl
    by_cases hx3 : x.n < 3
    · have hx3I : (x.n : Int) < 3 := by omega
      have HX3 := Lib.hid hx3
      have HREP := Lib.hid (show Bs (fun _ => True) (W.alloc (.cells #[.int .u8 ((x.c.toNat : Nat) : Int)] 5)).drew (some ⟨W.heap.size, 0, none⟩) 1 1 [x.c] from (Sl.new (T := tU8) (F := fun _ => True) (w := W) (cs := [.int .u8 ((x.c.toNat : Nat) : Int)]) (x := x.c) rfl 5 _ rfl).drew.any)
      have qb : ∀ o : Obj, (W.alloc o).cell? ⟨lb, 0, none⟩ = some (.slice A2 n2 c2) := fun o => kcell ((Below.refl _ _).alloc (Nat.le_refl _) o) q2
      clear hx3
      gi_wp2
      refine wpIn_region_any (by kernel_rfl) ?_
      try (change wpAnyIn _ _ _ _ _ _ _ _ _ (World.drew _))
      refine wpAnyIn_ready (rs := [0, 1, 3]) (by kernel_rfl) (by simp) ?_
      refine AllReadyIn.cons (o := ⟨_, _, _, _, _, _⟩) rfl (fun K hK => ?_) ?_
      · go_simp
        refine hK _ _ ?_
        clear hK K
        (try simp only [Act.put]); (try simp only [List.setIfInBounds_toArray]); (try simp only [List.set_cons_succ]); (try simp only [List.set_cons_zero])
        refine wpAnyIn_ready (rs := [1, 3]) (by kernel_rfl) (by simp) ?_
        refine AllReadyIn.cons (o := ⟨_, _, _, _, _, _⟩) rfl (fun K hK => ?_) ?_
        · go_simp
          refine hK _ _ ?_
          clear hK K
          (try simp only [Act.put]); (try simp only [List.setIfInBounds_toArray]); (try simp only [List.set_cons_succ]); (try simp only [List.set_cons_zero])
          refine wpAnyIn_ready (rs := [2, 3]) (by kernel_rfl) (by simp) ?_
          refine AllReadyIn.cons (o := ⟨_, _, _, _, _, _⟩) rfl (fun K hK => ?_) ?_
          · go_simp
            refine hK _ _ ?_
            clear hK K
            (try simp only [Act.put]); (try simp only [List.setIfInBounds_toArray]); (try simp only [List.set_cons_succ]); (try simp only [List.set_cons_zero])
            refine wpAnyIn_ready (rs := [3]) (by kernel_rfl) (by simp) ?_
            refine AllReadyIn.cons (o := ⟨_, _, _, _, _, _⟩) rfl (fun K hK => ?_) ?_
            · go_simp
              refine hK _ _ ?_
              clear hK K
              (try simp only [Act.put]); (try simp only [List.setIfInBounds_toArray]); (try simp only [List.set_cons_succ]); (try simp only [List.set_cons_zero])
              refine wpAnyIn_ready (rs := [4]) (by kernel_rfl) (by simp) ?_
              refine AllReadyIn.cons (o := ⟨_, _, _, _, _, _⟩) rfl (fun K hK => ?_) ?_
              · go_simp
                refine ⟨trivial, ?_⟩
                refine (CallsIn.inRound l' (callsIn_wide.2 (repeat_any (fun _ => True) _ 1 x.c x.n x.one hx8 _ HREP.out))).mono ?_
                rintro e w7 ⟨g7, rfl, hs7, hb7⟩
                have hb7' := below7 hb7
                have HFL7 := Lib.hid (HFL.out.keep hb7')
                have r2 := HFL7.out.cells.2.1
                refine hK _ _ ?_
                clear hK K
                (try simp only [Act.put]); (try simp only [List.setIfInBounds_toArray]); (try simp only [List.set_cons_succ]); (try simp only [List.set_cons_zero])
                refine wpAnyIn_ready (rs := [5]) (by kernel_rfl) (by simp) ?_
                refine AllReadyIn.cons (o := ⟨_, _, _, _, _, _⟩) rfl (fun K hK => ?_) ?_
                · refine stepIn_mid rfl (.tmp 19) (.tmp 23) rfl B A2 n2 c2 (rnAll pre).2 rfl HFL7.out.lst HFL7.out.ord.2.2.2.2.2 (fun _ => True) ⟨g7, 0, none⟩ x.n x.n _ rfl hs7 x.one hn2x ?_
                  intro A9 c9 w9 hm9 hg9 hl9
                  obtain ⟨_, e2, _, _⟩ := HFL7.out.growL hm9 hg9 hl9
                  have s2 : w9.cell? ⟨lb, 0, none⟩ = some (.slice A2 n2 c2) := by rw [Lib.cell_of_heap (e2.trans HFL7.out.lbox)]; rfl
                  have s3 := Lib.frozen_of_heap (e2.trans HFL7.out.lbox) 0
                  refine hK _ _ ?_
                  clear hK K
                  (try simp only [Act.put]); (try simp only [List.setIfInBounds_toArray]); (try simp only [List.set_cons_succ]); (try simp only [List.set_cons_zero])
                  refine wpAnyIn_ready (rs := [6]) (by kernel_rfl) (by simp) ?_
                  refine AllReadyIn.cons (o := ⟨_, _, _, _, _, _⟩) rfl (fun K hK => ?_) ?_
                  · go_simp
                    refine hK _ _ ?_
                    clear hK K
                    (try simp only [Act.put]); (try simp only [List.setIfInBounds_toArray]); (try simp only [List.set_cons_succ]); (try simp only [List.set_cons_zero])
                    refine wpAnyIn_done (by kernel_rfl) ?_ _
                    gi_wp2
                    exact fin9 HFL7.out hb7' hpx HX3.out hm9 hg9 hl9 HFB.out HORD.out
                  exact AllReadyIn.nil
                exact AllReadyIn.nil
              exact AllReadyIn.nil
            exact AllReadyIn.nil
          refine AllReadyIn.cons (o := ⟨_, _, _, _, _, _⟩) rfl (fun K hK => ?_) ?_
          · go_simp
            refine hK _ _ ?_
            clear hK K
            (try simp only [Act.put]); (try simp only [List.setIfInBounds_toArray]); (try simp only [List.set_cons_succ]); (try simp only [List.set_cons_zero])
            refine wpAnyIn_ready (rs := [2]) (by kernel_rfl) (by simp) ?_
            refine AllReadyIn.cons (o := ⟨_, _, _, _, _, _⟩) rfl (fun K hK => ?_) ?_
            · go_simp
              refine hK _ _ ?_
              clear hK K
              (try simp only [Act.put]); (try simp only [List.setIfInBounds_toArray]); (try simp only [List.set_cons_succ]); (try simp only [List.set_cons_zero])
              refine wpAnyIn_ready (rs := [4]) (by kernel_rfl) (by simp) ?_
              refine AllReadyIn.cons (o := ⟨_, _, _, _, _, _⟩) rfl (fun K hK => ?_) ?_
              · go_simp
                refine ⟨trivial, ?_⟩
                refine (CallsIn.inRound l' (callsIn_wide.2 (repeat_any (fun _ => True) _ 1 x.c x.n x.one hx8 _ HREP.out))).mono ?_
                rintro e w7 ⟨g7, rfl, hs7, hb7⟩
                have hb7' := below7 hb7
                have HFL7 := Lib.hid (HFL.out.keep hb7')
                have r2 := HFL7.out.cells.2.1
                refine hK _ _ ?_
                clear hK K
                (try simp only [Act.put]); (try simp only [List.setIfInBounds_toArray]); (try simp only [List.set_cons_succ]); (try simp only [List.set_cons_zero])
                refine wpAnyIn_ready (rs := [5]) (by kernel_rfl) (by simp) ?_
                refine AllReadyIn.cons (o := ⟨_, _, _, _, _, _⟩) rfl (fun K hK => ?_) ?_
                · refine stepIn_mid rfl (.tmp 19) (.tmp 23) rfl B A2 n2 c2 (rnAll pre).2 rfl HFL7.out.lst HFL7.out.ord.2.2.2.2.2 (fun _ => True) ⟨g7, 0, none⟩ x.n x.n _ rfl hs7 x.one hn2x ?_
                  intro A9 c9 w9 hm9 hg9 hl9
                  obtain ⟨_, e2, _, _⟩ := HFL7.out.growL hm9 hg9 hl9
                  have s2 : w9.cell? ⟨lb, 0, none⟩ = some (.slice A2 n2 c2) := by rw [Lib.cell_of_heap (e2.trans HFL7.out.lbox)]; rfl
                  have s3 := Lib.frozen_of_heap (e2.trans HFL7.out.lbox) 0
                  refine hK _ _ ?_
                  clear hK K
                  (try simp only [Act.put]); (try simp only [List.setIfInBounds_toArray]); (try simp only [List.set_cons_succ]); (try simp only [List.set_cons_zero])
                  refine wpAnyIn_ready (rs := [6]) (by kernel_rfl) (by simp) ?_
                  refine AllReadyIn.cons (o := ⟨_, _, _, _, _, _⟩) rfl (fun K hK => ?_) ?_
                  · go_simp
                    refine hK _ _ ?_
                    clear hK K
                    (try simp only [Act.put]); (try simp only [List.setIfInBounds_toArray]); (try simp only [List.set_cons_succ]); (try simp only [List.set_cons_zero])
                    refine wpAnyIn_done (by kernel_rfl) ?_ _
                    gi_wp2
                    exact fin9 HFL7.out hb7' hpx HX3.out hm9 hg9 hl9 HFB.out HORD.out
                  exact AllReadyIn.nil
                exact AllReadyIn.nil
              exact AllReadyIn.nil
            exact AllReadyIn.nil
          exact AllReadyIn.nil
        refine AllReadyIn.cons (o := ⟨_, _, _, _, _, _⟩) rfl (fun K hK => ?_) ?_
        · go_simp
          refine hK _ _ ?_
          clear hK K
          (try simp only [Act.put]); (try simp only [List.setIfInBounds_toArray]); (try simp only [List.set_cons_succ]); (try simp only [List.set_cons_zero])
          refine wpAnyIn_ready (rs := [1]) (by kernel_rfl) (by simp) ?_
          refine AllReadyIn.cons (o := ⟨_, _, _, _, _, _⟩) rfl (fun K hK => ?_) ?_
          · go_simp
            refine hK _ _ ?_
            clear hK K
            (try simp only [Act.put]); (try simp only [List.setIfInBounds_toArray]); (try simp only [List.set_cons_succ]); (try simp only [List.set_cons_zero])
            refine wpAnyIn_ready (rs := [2]) (by kernel_rfl) (by simp) ?_
            refine AllReadyIn.cons (o := ⟨_, _, _, _, _, _⟩) rfl (fun K hK => ?_) ?_
            · go_simp
              refine hK _ _ ?_
              clear hK K
              (try simp only [Act.put]); (try simp only [List.setIfInBounds_toArray]); (try simp only [List.set_cons_succ]); (try simp only [List.set_cons_zero])
              refine wpAnyIn_ready (rs := [4]) (by kernel_rfl) (by simp) ?_
              refine AllReadyIn.cons (o := ⟨_, _, _, _, _, _⟩) rfl (fun K hK => ?_) ?_
              · go_simp
                refine ⟨trivial, ?_⟩
                refine (CallsIn.inRound l' (callsIn_wide.2 (repeat_any (fun _ => True) _ 1 x.c x.n x.one hx8 _ HREP.out))).mono ?_
                rintro e w7 ⟨g7, rfl, hs7, hb7⟩
                have hb7' := below7 hb7
                have HFL7 := Lib.hid (HFL.out.keep hb7')
                have r2 := HFL7.out.cells.2.1
                refine hK _ _ ?_
                clear hK K
                (try simp only [Act.put]); (try simp only [List.setIfInBounds_toArray]); (try simp only [List.set_cons_succ]); (try simp only [List.set_cons_zero])
                refine wpAnyIn_ready (rs := [5]) (by kernel_rfl) (by simp) ?_
                refine AllReadyIn.cons (o := ⟨_, _, _, _, _, _⟩) rfl (fun K hK => ?_) ?_
                · refine stepIn_mid rfl (.tmp 19) (.tmp 23) rfl B A2 n2 c2 (rnAll pre).2 rfl HFL7.out.lst HFL7.out.ord.2.2.2.2.2 (fun _ => True) ⟨g7, 0, none⟩ x.n x.n _ rfl hs7 x.one hn2x ?_
                  intro A9 c9 w9 hm9 hg9 hl9
                  obtain ⟨_, e2, _, _⟩ := HFL7.out.growL hm9 hg9 hl9
                  have s2 : w9.cell? ⟨lb, 0, none⟩ = some (.slice A2 n2 c2) := by rw [Lib.cell_of_heap (e2.trans HFL7.out.lbox)]; rfl
                  have s3 := Lib.frozen_of_heap (e2.trans HFL7.out.lbox) 0
                  refine hK _ _ ?_
                  clear hK K
                  (try simp only [Act.put]); (try simp only [List.setIfInBounds_toArray]); (try simp only [List.set_cons_succ]); (try simp only [List.set_cons_zero])
                  refine wpAnyIn_ready (rs := [6]) (by kernel_rfl) (by simp) ?_
                  refine AllReadyIn.cons (o := ⟨_, _, _, _, _, _⟩) rfl (fun K hK => ?_) ?_
                  · go_simp
                    refine hK _ _ ?_
                    clear hK K
                    (try simp only [Act.put]); (try simp only [List.setIfInBounds_toArray]); (try simp only [List.set_cons_succ]); (try simp only [List.set_cons_zero])
                    refine wpAnyIn_done (by kernel_rfl) ?_ _
                    gi_wp2
                    exact fin9 HFL7.out hb7' hpx HX3.out hm9 hg9 hl9 HFB.out HORD.out
                  exact AllReadyIn.nil
                exact AllReadyIn.nil
              exact AllReadyIn.nil
            exact AllReadyIn.nil
          exact AllReadyIn.nil
        exact AllReadyIn.nil
      refine AllReadyIn.cons (o := ⟨_, _, _, _, _, _⟩) rfl (fun K hK => ?_) ?_
      · go_simp
        refine hK _ _ ?_
        clear hK K
        (try simp only [Act.put]); (try simp only [List.setIfInBounds_toArray]); (try simp only [List.set_cons_succ]); (try simp only [List.set_cons_zero])
        refine wpAnyIn_ready (rs := [0, 2, 3]) (by kernel_rfl) (by simp) ?_
        refine AllReadyIn.cons (o := ⟨_, _, _, _, _, _⟩) rfl (fun K hK => ?_) ?_
        · go_simp
          refine hK _ _ ?_
          clear hK K
          (try simp only [Act.put]); (try simp only [List.setIfInBounds_toArray]); (try simp only [List.set_cons_succ]); (try simp only [List.set_cons_zero])
          refine wpAnyIn_ready (rs := [2, 3]) (by kernel_rfl) (by simp) ?_
          refine AllReadyIn.cons (o := ⟨_, _, _, _, _, _⟩) rfl (fun K hK => ?_) ?_
          · go_simp
            refine hK _ _ ?_
            clear hK K
            (try simp only [Act.put]); (try simp only [List.setIfInBounds_toArray]); (try simp only [List.set_cons_succ]); (try simp only [List.set_cons_zero])
            refine wpAnyIn_ready (rs := [3]) (by kernel_rfl) (by simp) ?_
            refine AllReadyIn.cons (o := ⟨_, _, _, _, _, _⟩) rfl (fun K hK => ?_) ?_
            · go_simp
              refine hK _ _ ?_
              clear hK K
              (try simp only [Act.put]); (try simp only [List.setIfInBounds_toArray]); (try simp only [List.set_cons_succ]); (try simp only [List.set_cons_zero])
              refine wpAnyIn_ready (rs := [4]) (by kernel_rfl) (by simp) ?_
              refine AllReadyIn.cons (o := ⟨_, _, _, _, _, _⟩) rfl (fun K hK => ?_) ?_
              · go_simp
                refine ⟨trivial, ?_⟩
                refine (CallsIn.inRound l' (callsIn_wide.2 (repeat_any (fun _ => True) _ 1 x.c x.n x.one hx8 _ HREP.out))).mono ?_
                rintro e w7 ⟨g7, rfl, hs7, hb7⟩
                have hb7' := below7 hb7
                have HFL7 := Lib.hid (HFL.out.keep hb7')
                have r2 := HFL7.out.cells.2.1
                refine hK _ _ ?_
                clear hK K
                (try simp only [Act.put]); (try simp only [List.setIfInBounds_toArray]); (try simp only [List.set_cons_succ]); (try simp only [List.set_cons_zero])
                refine wpAnyIn_ready (rs := [5]) (by kernel_rfl) (by simp) ?_
                refine AllReadyIn.cons (o := ⟨_, _, _, _, _, _⟩) rfl (fun K hK => ?_) ?_
                · refine stepIn_mid rfl (.tmp 19) (.tmp 23) rfl B A2 n2 c2 (rnAll pre).2 rfl HFL7.out.lst HFL7.out.ord.2.2.2.2.2 (fun _ => True) ⟨g7, 0, none⟩ x.n x.n _ rfl hs7 x.one hn2x ?_
                  intro A9 c9 w9 hm9 hg9 hl9
                  obtain ⟨_, e2, _, _⟩ := HFL7.out.growL hm9 hg9 hl9
                  have s2 : w9.cell? ⟨lb, 0, none⟩ = some (.slice A2 n2 c2) := by rw [Lib.cell_of_heap (e2.trans HFL7.out.lbox)]; rfl
                  have s3 := Lib.frozen_of_heap (e2.trans HFL7.out.lbox) 0
                  refine hK _ _ ?_
                  clear hK K
                  (try simp only [Act.put]); (try simp only [List.setIfInBounds_toArray]); (try simp only [List.set_cons_succ]); (try simp only [List.set_cons_zero])
                  refine wpAnyIn_ready (rs := [6]) (by kernel_rfl) (by simp) ?_
                  refine AllReadyIn.cons (o := ⟨_, _, _, _, _, _⟩) rfl (fun K hK => ?_) ?_
                  · go_simp
                    refine hK _ _ ?_
                    clear hK K
                    (try simp only [Act.put]); (try simp only [List.setIfInBounds_toArray]); (try simp only [List.set_cons_succ]); (try simp only [List.set_cons_zero])
                    refine wpAnyIn_done (by kernel_rfl) ?_ _
                    gi_wp2
                    exact fin9 HFL7.out hb7' hpx HX3.out hm9 hg9 hl9 HFB.out HORD.out
                  exact AllReadyIn.nil
                exact AllReadyIn.nil
              exact AllReadyIn.nil
            exact AllReadyIn.nil
          refine AllReadyIn.cons (o := ⟨_, _, _, _, _, _⟩) rfl (fun K hK => ?_) ?_
          · go_simp
            refine hK _ _ ?_
            clear hK K
            (try simp only [Act.put]); (try simp only [List.setIfInBounds_toArray]); (try simp only [List.set_cons_succ]); (try simp only [List.set_cons_zero])
            refine wpAnyIn_ready (rs := [2]) (by kernel_rfl) (by simp) ?_
            refine AllReadyIn.cons (o := ⟨_, _, _, _, _, _⟩) rfl (fun K hK => ?_) ?_
            · go_simp
              refine hK _ _ ?_
              clear hK K
              (try simp only [Act.put]); (try simp only [List.setIfInBounds_toArray]); (try simp only [List.set_cons_succ]); (try simp only [List.set_cons_zero])
              refine wpAnyIn_ready (rs := [4]) (by kernel_rfl) (by simp) ?_
              refine AllReadyIn.cons (o := ⟨_, _, _, _, _, _⟩) rfl (fun K hK => ?_) ?_
              · go_simp
                refine ⟨trivial, ?_⟩
                refine (CallsIn.inRound l' (callsIn_wide.2 (repeat_any (fun _ => True) _ 1 x.c x.n x.one hx8 _ HREP.out))).mono ?_
                rintro e w7 ⟨g7, rfl, hs7, hb7⟩
                have hb7' := below7 hb7
                have HFL7 := Lib.hid (HFL.out.keep hb7')
                have r2 := HFL7.out.cells.2.1
                refine hK _ _ ?_
                clear hK K
                (try simp only [Act.put]); (try simp only [List.setIfInBounds_toArray]); (try simp only [List.set_cons_succ]); (try simp only [List.set_cons_zero])
                refine wpAnyIn_ready (rs := [5]) (by kernel_rfl) (by simp) ?_
                refine AllReadyIn.cons (o := ⟨_, _, _, _, _, _⟩) rfl (fun K hK => ?_) ?_
                · refine stepIn_mid rfl (.tmp 19) (.tmp 23) rfl B A2 n2 c2 (rnAll pre).2 rfl HFL7.out.lst HFL7.out.ord.2.2.2.2.2 (fun _ => True) ⟨g7, 0, none⟩ x.n x.n _ rfl hs7 x.one hn2x ?_
                  intro A9 c9 w9 hm9 hg9 hl9
                  obtain ⟨_, e2, _, _⟩ := HFL7.out.growL hm9 hg9 hl9
                  have s2 : w9.cell? ⟨lb, 0, none⟩ = some (.slice A2 n2 c2) := by rw [Lib.cell_of_heap (e2.trans HFL7.out.lbox)]; rfl
                  have s3 := Lib.frozen_of_heap (e2.trans HFL7.out.lbox) 0
                  refine hK _ _ ?_
                  clear hK K
                  (try simp only [Act.put]); (try simp only [List.setIfInBounds_toArray]); (try simp only [List.set_cons_succ]); (try simp only [List.set_cons_zero])
                  refine wpAnyIn_ready (rs := [6]) (by kernel_rfl) (by simp) ?_
                  refine AllReadyIn.cons (o := ⟨_, _, _, _, _, _⟩) rfl (fun K hK => ?_) ?_
                  · go_simp
                    refine hK _ _ ?_
                    clear hK K
                    (try simp only [Act.put]); (try simp only [List.setIfInBounds_toArray]); (try simp only [List.set_cons_succ]); (try simp only [List.set_cons_zero])
                    refine wpAnyIn_done (by kernel_rfl) ?_ _
                    gi_wp2
                    exact fin9 HFL7.out hb7' hpx HX3.out hm9 hg9 hl9 HFB.out HORD.out
                  exact AllReadyIn.nil
                exact AllReadyIn.nil
              exact AllReadyIn.nil
            exact AllReadyIn.nil
          exact AllReadyIn.nil
        refine AllReadyIn.cons (o := ⟨_, _, _, _, _, _⟩) rfl (fun K hK => ?_) ?_
        · go_simp
          refine hK _ _ ?_
          clear hK K
          (try simp only [Act.put]); (try simp only [List.setIfInBounds_toArray]); (try simp only [List.set_cons_succ]); (try simp only [List.set_cons_zero])
          refine wpAnyIn_ready (rs := [0, 3]) (by kernel_rfl) (by simp) ?_
          refine AllReadyIn.cons (o := ⟨_, _, _, _, _, _⟩) rfl (fun K hK => ?_) ?_
          · go_simp
            refine hK _ _ ?_
            clear hK K
            (try simp only [Act.put]); (try simp only [List.setIfInBounds_toArray]); (try simp only [List.set_cons_succ]); (try simp only [List.set_cons_zero])
            refine wpAnyIn_ready (rs := [3]) (by kernel_rfl) (by simp) ?_
            refine AllReadyIn.cons (o := ⟨_, _, _, _, _, _⟩) rfl (fun K hK => ?_) ?_
            · go_simp
              refine hK _ _ ?_
              clear hK K
              (try simp only [Act.put]); (try simp only [List.setIfInBounds_toArray]); (try simp only [List.set_cons_succ]); (try simp only [List.set_cons_zero])
              refine wpAnyIn_ready (rs := [4]) (by kernel_rfl) (by simp) ?_
              refine AllReadyIn.cons (o := ⟨_, _, _, _, _, _⟩) rfl (fun K hK => ?_) ?_
              · go_simp
                refine ⟨trivial, ?_⟩
                refine (CallsIn.inRound l' (callsIn_wide.2 (repeat_any (fun _ => True) _ 1 x.c x.n x.one hx8 _ HREP.out))).mono ?_
                rintro e w7 ⟨g7, rfl, hs7, hb7⟩
                have hb7' := below7 hb7
                have HFL7 := Lib.hid (HFL.out.keep hb7')
                have r2 := HFL7.out.cells.2.1
                refine hK _ _ ?_
                clear hK K
                (try simp only [Act.put]); (try simp only [List.setIfInBounds_toArray]); (try simp only [List.set_cons_succ]); (try simp only [List.set_cons_zero])
                refine wpAnyIn_ready (rs := [5]) (by kernel_rfl) (by simp) ?_
                refine AllReadyIn.cons (o := ⟨_, _, _, _, _, _⟩) rfl (fun K hK => ?_) ?_
                · refine stepIn_mid rfl (.tmp 19) (.tmp 23) rfl B A2 n2 c2 (rnAll pre).2 rfl HFL7.out.lst HFL7.out.ord.2.2.2.2.2 (fun _ => True) ⟨g7, 0, none⟩ x.n x.n _ rfl hs7 x.one hn2x ?_
                  intro A9 c9 w9 hm9 hg9 hl9
                  obtain ⟨_, e2, _, _⟩ := HFL7.out.growL hm9 hg9 hl9
                  have s2 : w9.cell? ⟨lb, 0, none⟩ = some (.slice A2 n2 c2) := by rw [Lib.cell_of_heap (e2.trans HFL7.out.lbox)]; rfl
                  have s3 := Lib.frozen_of_heap (e2.trans HFL7.out.lbox) 0
                  refine hK _ _ ?_
                  clear hK K
                  (try simp only [Act.put]); (try simp only [List.setIfInBounds_toArray]); (try simp only [List.set_cons_succ]); (try simp only [List.set_cons_zero])
                  refine wpAnyIn_ready (rs := [6]) (by kernel_rfl) (by simp) ?_
                  refine AllReadyIn.cons (o := ⟨_, _, _, _, _, _⟩) rfl (fun K hK => ?_) ?_
                  · go_simp
                    refine hK _ _ ?_
                    clear hK K
                    (try simp only [Act.put]); (try simp only [List.setIfInBounds_toArray]); (try simp only [List.set_cons_succ]); (try simp only [List.set_cons_zero])
                    refine wpAnyIn_done (by kernel_rfl) ?_ _
                    gi_wp2
                    exact fin9 HFL7.out hb7' hpx HX3.out hm9 hg9 hl9 HFB.out HORD.out
                  exact AllReadyIn.nil
                exact AllReadyIn.nil
              exact AllReadyIn.nil
            exact AllReadyIn.nil
          refine AllReadyIn.cons (o := ⟨_, _, _, _, _, _⟩) rfl (fun K hK => ?_) ?_
          · go_simp
            refine hK _ _ ?_
            clear hK K
            (try simp only [Act.put]); (try simp only [List.setIfInBounds_toArray]); (try simp only [List.set_cons_succ]); (try simp only [List.set_cons_zero])
            refine wpAnyIn_ready (rs := [0, 4]) (by kernel_rfl) (by simp) ?_
            refine AllReadyIn.cons (o := ⟨_, _, _, _, _, _⟩) rfl (fun K hK => ?_) ?_
            · go_simp
              refine hK _ _ ?_
              clear hK K
              (try simp only [Act.put]); (try simp only [List.setIfInBounds_toArray]); (try simp only [List.set_cons_succ]); (try simp only [List.set_cons_zero])
              refine wpAnyIn_ready (rs := [4]) (by kernel_rfl) (by simp) ?_
              refine AllReadyIn.cons (o := ⟨_, _, _, _, _, _⟩) rfl (fun K hK => ?_) ?_
              · go_simp
                refine ⟨trivial, ?_⟩
                refine (CallsIn.inRound l' (callsIn_wide.2 (repeat_any (fun _ => True) _ 1 x.c x.n x.one hx8 _ HREP.out))).mono ?_
                rintro e w7 ⟨g7, rfl, hs7, hb7⟩
                have hb7' := below7 hb7
                have HFL7 := Lib.hid (HFL.out.keep hb7')
                have r2 := HFL7.out.cells.2.1
                refine hK _ _ ?_
                clear hK K
                (try simp only [Act.put]); (try simp only [List.setIfInBounds_toArray]); (try simp only [List.set_cons_succ]); (try simp only [List.set_cons_zero])
                refine wpAnyIn_ready (rs := [5]) (by kernel_rfl) (by simp) ?_
                refine AllReadyIn.cons (o := ⟨_, _, _, _, _, _⟩) rfl (fun K hK => ?_) ?_
                · refine stepIn_mid rfl (.tmp 19) (.tmp 23) rfl B A2 n2 c2 (rnAll pre).2 rfl HFL7.out.lst HFL7.out.ord.2.2.2.2.2 (fun _ => True) ⟨g7, 0, none⟩ x.n x.n _ rfl hs7 x.one hn2x ?_
                  intro A9 c9 w9 hm9 hg9 hl9
                  obtain ⟨_, e2, _, _⟩ := HFL7.out.growL hm9 hg9 hl9
                  have s2 : w9.cell? ⟨lb, 0, none⟩ = some (.slice A2 n2 c2) := by rw [Lib.cell_of_heap (e2.trans HFL7.out.lbox)]; rfl
                  have s3 := Lib.frozen_of_heap (e2.trans HFL7.out.lbox) 0
                  refine hK _ _ ?_
                  clear hK K
                  (try simp only [Act.put]); (try simp only [List.setIfInBounds_toArray]); (try simp only [List.set_cons_succ]); (try simp only [List.set_cons_zero])
                  refine wpAnyIn_ready (rs := [6]) (by kernel_rfl) (by simp) ?_
                  refine AllReadyIn.cons (o := ⟨_, _, _, _, _, _⟩) rfl (fun K hK => ?_) ?_
                  · go_simp
                    refine hK _ _ ?_
                    clear hK K
                    (try simp only [Act.put]); (try simp only [List.setIfInBounds_toArray]); (try simp only [List.set_cons_succ]); (try simp only [List.set_cons_zero])
                    refine wpAnyIn_done (by kernel_rfl) ?_ _
                    gi_wp2
                    exact fin9 HFL7.out hb7' hpx HX3.out hm9 hg9 hl9 HFB.out HORD.out
                  exact AllReadyIn.nil
                exact AllReadyIn.nil
              exact AllReadyIn.nil
            refine AllReadyIn.cons (o := ⟨_, _, _, _, _, _⟩) rfl (fun K hK => ?_) ?_
            · go_simp
              refine ⟨trivial, ?_⟩
              refine (CallsIn.inRound l' (callsIn_wide.2 (repeat_any (fun _ => True) _ 1 x.c x.n x.one hx8 _ HREP.out))).mono ?_
              rintro e w7 ⟨g7, rfl, hs7, hb7⟩
              have hb7' := below7 hb7
              have HFL7 := Lib.hid (HFL.out.keep hb7')
              have r2 := HFL7.out.cells.2.1
              refine hK _ _ ?_
              clear hK K
              (try simp only [Act.put]); (try simp only [List.setIfInBounds_toArray]); (try simp only [List.set_cons_succ]); (try simp only [List.set_cons_zero])
              refine wpAnyIn_ready (rs := [0]) (by kernel_rfl) (by simp) ?_
              refine AllReadyIn.cons (o := ⟨_, _, _, _, _, _⟩) rfl (fun K hK => ?_) ?_
              · go_simp
                refine hK _ _ ?_
                clear hK K
                (try simp only [Act.put]); (try simp only [List.setIfInBounds_toArray]); (try simp only [List.set_cons_succ]); (try simp only [List.set_cons_zero])
                refine wpAnyIn_ready (rs := [5]) (by kernel_rfl) (by simp) ?_
                refine AllReadyIn.cons (o := ⟨_, _, _, _, _, _⟩) rfl (fun K hK => ?_) ?_
                · refine stepIn_mid rfl (.tmp 19) (.tmp 23) rfl B A2 n2 c2 (rnAll pre).2 rfl HFL7.out.lst HFL7.out.ord.2.2.2.2.2 (fun _ => True) ⟨g7, 0, none⟩ x.n x.n _ rfl hs7 x.one hn2x ?_
                  intro A9 c9 w9 hm9 hg9 hl9
                  obtain ⟨_, e2, _, _⟩ := HFL7.out.growL hm9 hg9 hl9
                  have s2 : w9.cell? ⟨lb, 0, none⟩ = some (.slice A2 n2 c2) := by rw [Lib.cell_of_heap (e2.trans HFL7.out.lbox)]; rfl
                  have s3 := Lib.frozen_of_heap (e2.trans HFL7.out.lbox) 0
                  refine hK _ _ ?_
                  clear hK K
                  (try simp only [Act.put]); (try simp only [List.setIfInBounds_toArray]); (try simp only [List.set_cons_succ]); (try simp only [List.set_cons_zero])
                  refine wpAnyIn_ready (rs := [6]) (by kernel_rfl) (by simp) ?_
                  refine AllReadyIn.cons (o := ⟨_, _, _, _, _, _⟩) rfl (fun K hK => ?_) ?_
                  · go_simp
                    refine hK _ _ ?_
                    clear hK K
                    (try simp only [Act.put]); (try simp only [List.setIfInBounds_toArray]); (try simp only [List.set_cons_succ]); (try simp only [List.set_cons_zero])
                    refine wpAnyIn_done (by kernel_rfl) ?_ _
                    gi_wp2
                    exact fin9 HFL7.out hb7' hpx HX3.out hm9 hg9 hl9 HFB.out HORD.out
                  exact AllReadyIn.nil
                exact AllReadyIn.nil
              exact AllReadyIn.nil
            exact AllReadyIn.nil
          exact AllReadyIn.nil
        refine AllReadyIn.cons (o := ⟨_, _, _, _, _, _⟩) rfl (fun K hK => ?_) ?_
        · go_simp
          refine hK _ _ ?_
          clear hK K
          (try simp only [Act.put]); (try simp only [List.setIfInBounds_toArray]); (try simp only [List.set_cons_succ]); (try simp only [List.set_cons_zero])
          refine wpAnyIn_ready (rs := [0, 2]) (by kernel_rfl) (by simp) ?_
          refine AllReadyIn.cons (o := ⟨_, _, _, _, _, _⟩) rfl (fun K hK => ?_) ?_
          · go_simp
            refine hK _ _ ?_
            clear hK K
            (try simp only [Act.put]); (try simp only [List.setIfInBounds_toArray]); (try simp only [List.set_cons_succ]); (try simp only [List.set_cons_zero])
            refine wpAnyIn_ready (rs := [2]) (by kernel_rfl) (by simp) ?_
            refine AllReadyIn.cons (o := ⟨_, _, _, _, _, _⟩) rfl (fun K hK => ?_) ?_
            · go_simp
              refine hK _ _ ?_
              clear hK K
              (try simp only [Act.put]); (try simp only [List.setIfInBounds_toArray]); (try simp only [List.set_cons_succ]); (try simp only [List.set_cons_zero])
              refine wpAnyIn_ready (rs := [4]) (by kernel_rfl) (by simp) ?_
              refine AllReadyIn.cons (o := ⟨_, _, _, _, _, _⟩) rfl (fun K hK => ?_) ?_
              · go_simp
                refine ⟨trivial, ?_⟩
                refine (CallsIn.inRound l' (callsIn_wide.2 (repeat_any (fun _ => True) _ 1 x.c x.n x.one hx8 _ HREP.out))).mono ?_
                rintro e w7 ⟨g7, rfl, hs7, hb7⟩
                have hb7' := below7 hb7
                have HFL7 := Lib.hid (HFL.out.keep hb7')
                have r2 := HFL7.out.cells.2.1
                refine hK _ _ ?_
                clear hK K
                (try simp only [Act.put]); (try simp only [List.setIfInBounds_toArray]); (try simp only [List.set_cons_succ]); (try simp only [List.set_cons_zero])
                refine wpAnyIn_ready (rs := [5]) (by kernel_rfl) (by simp) ?_
                refine AllReadyIn.cons (o := ⟨_, _, _, _, _, _⟩) rfl (fun K hK => ?_) ?_
                · refine stepIn_mid rfl (.tmp 19) (.tmp 23) rfl B A2 n2 c2 (rnAll pre).2 rfl HFL7.out.lst HFL7.out.ord.2.2.2.2.2 (fun _ => True) ⟨g7, 0, none⟩ x.n x.n _ rfl hs7 x.one hn2x ?_
                  intro A9 c9 w9 hm9 hg9 hl9
                  obtain ⟨_, e2, _, _⟩ := HFL7.out.growL hm9 hg9 hl9
                  have s2 : w9.cell? ⟨lb, 0, none⟩ = some (.slice A2 n2 c2) := by rw [Lib.cell_of_heap (e2.trans HFL7.out.lbox)]; rfl
                  have s3 := Lib.frozen_of_heap (e2.trans HFL7.out.lbox) 0
                  refine hK _ _ ?_
                  clear hK K
                  (try simp only [Act.put]); (try simp only [List.setIfInBounds_toArray]); (try simp only [List.set_cons_succ]); (try simp only [List.set_cons_zero])
                  refine wpAnyIn_ready (rs := [6]) (by kernel_rfl) (by simp) ?_
                  refine AllReadyIn.cons (o := ⟨_, _, _, _, _, _⟩) rfl (fun K hK => ?_) ?_
                  · go_simp
                    refine hK _ _ ?_
                    clear hK K
                    (try simp only [Act.put]); (try simp only [List.setIfInBounds_toArray]); (try simp only [List.set_cons_succ]); (try simp only [List.set_cons_zero])
                    refine wpAnyIn_done (by kernel_rfl) ?_ _
                    gi_wp2
                    exact fin9 HFL7.out hb7' hpx HX3.out hm9 hg9 hl9 HFB.out HORD.out
                  exact AllReadyIn.nil
                exact AllReadyIn.nil
              exact AllReadyIn.nil
            exact AllReadyIn.nil
          refine AllReadyIn.cons (o := ⟨_, _, _, _, _, _⟩) rfl (fun K hK => ?_) ?_
          · go_simp
            refine hK _ _ ?_
            clear hK K
            (try simp only [Act.put]); (try simp only [List.setIfInBounds_toArray]); (try simp only [List.set_cons_succ]); (try simp only [List.set_cons_zero])
            refine wpAnyIn_ready (rs := [0, 4]) (by kernel_rfl) (by simp) ?_
            refine AllReadyIn.cons (o := ⟨_, _, _, _, _, _⟩) rfl (fun K hK => ?_) ?_
            · go_simp
              refine hK _ _ ?_
              clear hK K
              (try simp only [Act.put]); (try simp only [List.setIfInBounds_toArray]); (try simp only [List.set_cons_succ]); (try simp only [List.set_cons_zero])
              refine wpAnyIn_ready (rs := [4]) (by kernel_rfl) (by simp) ?_
              refine AllReadyIn.cons (o := ⟨_, _, _, _, _, _⟩) rfl (fun K hK => ?_) ?_
              · go_simp
                refine ⟨trivial, ?_⟩
                refine (CallsIn.inRound l' (callsIn_wide.2 (repeat_any (fun _ => True) _ 1 x.c x.n x.one hx8 _ HREP.out))).mono ?_
                rintro e w7 ⟨g7, rfl, hs7, hb7⟩
                have hb7' := below7 hb7
                have HFL7 := Lib.hid (HFL.out.keep hb7')
                have r2 := HFL7.out.cells.2.1
                refine hK _ _ ?_
                clear hK K
                (try simp only [Act.put]); (try simp only [List.setIfInBounds_toArray]); (try simp only [List.set_cons_succ]); (try simp only [List.set_cons_zero])
                refine wpAnyIn_ready (rs := [5]) (by kernel_rfl) (by simp) ?_
                refine AllReadyIn.cons (o := ⟨_, _, _, _, _, _⟩) rfl (fun K hK => ?_) ?_
                · refine stepIn_mid rfl (.tmp 19) (.tmp 23) rfl B A2 n2 c2 (rnAll pre).2 rfl HFL7.out.lst HFL7.out.ord.2.2.2.2.2 (fun _ => True) ⟨g7, 0, none⟩ x.n x.n _ rfl hs7 x.one hn2x ?_
                  intro A9 c9 w9 hm9 hg9 hl9
                  obtain ⟨_, e2, _, _⟩ := HFL7.out.growL hm9 hg9 hl9
                  have s2 : w9.cell? ⟨lb, 0, none⟩ = some (.slice A2 n2 c2) := by rw [Lib.cell_of_heap (e2.trans HFL7.out.lbox)]; rfl
                  have s3 := Lib.frozen_of_heap (e2.trans HFL7.out.lbox) 0
                  refine hK _ _ ?_
                  clear hK K
                  (try simp only [Act.put]); (try simp only [List.setIfInBounds_toArray]); (try simp only [List.set_cons_succ]); (try simp only [List.set_cons_zero])
                  refine wpAnyIn_ready (rs := [6]) (by kernel_rfl) (by simp) ?_
                  refine AllReadyIn.cons (o := ⟨_, _, _, _, _, _⟩) rfl (fun K hK => ?_) ?_
                  · go_simp
                    refine hK _ _ ?_
                    clear hK K
                    (try simp only [Act.put]); (try simp only [List.setIfInBounds_toArray]); (try simp only [List.set_cons_succ]); (try simp only [List.set_cons_zero])
                    refine wpAnyIn_done (by kernel_rfl) ?_ _
                    gi_wp2
                    exact fin9 HFL7.out hb7' hpx HX3.out hm9 hg9 hl9 HFB.out HORD.out
                  exact AllReadyIn.nil
                exact AllReadyIn.nil
              exact AllReadyIn.nil
            refine AllReadyIn.cons (o := ⟨_, _, _, _, _, _⟩) rfl (fun K hK => ?_) ?_
            · go_simp
              refine ⟨trivial, ?_⟩
              refine (CallsIn.inRound l' (callsIn_wide.2 (repeat_any (fun _ => True) _ 1 x.c x.n x.one hx8 _ HREP.out))).mono ?_
              rintro e w7 ⟨g7, rfl, hs7, hb7⟩
              have hb7' := below7 hb7
              have HFL7 := Lib.hid (HFL.out.keep hb7')
              have r2 := HFL7.out.cells.2.1
              refine hK _ _ ?_
              clear hK K
              (try simp only [Act.put]); (try simp only [List.setIfInBounds_toArray]); (try simp only [List.set_cons_succ]); (try simp only [List.set_cons_zero])
              refine wpAnyIn_ready (rs := [0]) (by kernel_rfl) (by simp) ?_
              refine AllReadyIn.cons (o := ⟨_, _, _, _, _, _⟩) rfl (fun K hK => ?_) ?_
              · go_simp
                refine hK _ _ ?_
                clear hK K
                (try simp only [Act.put]); (try simp only [List.setIfInBounds_toArray]); (try simp only [List.set_cons_succ]); (try simp only [List.set_cons_zero])
                refine wpAnyIn_ready (rs := [5]) (by kernel_rfl) (by simp) ?_
                refine AllReadyIn.cons (o := ⟨_, _, _, _, _, _⟩) rfl (fun K hK => ?_) ?_
                · refine stepIn_mid rfl (.tmp 19) (.tmp 23) rfl B A2 n2 c2 (rnAll pre).2 rfl HFL7.out.lst HFL7.out.ord.2.2.2.2.2 (fun _ => True) ⟨g7, 0, none⟩ x.n x.n _ rfl hs7 x.one hn2x ?_
                  intro A9 c9 w9 hm9 hg9 hl9
                  obtain ⟨_, e2, _, _⟩ := HFL7.out.growL hm9 hg9 hl9
                  have s2 : w9.cell? ⟨lb, 0, none⟩ = some (.slice A2 n2 c2) := by rw [Lib.cell_of_heap (e2.trans HFL7.out.lbox)]; rfl
                  have s3 := Lib.frozen_of_heap (e2.trans HFL7.out.lbox) 0
                  refine hK _ _ ?_
                  clear hK K
                  (try simp only [Act.put]); (try simp only [List.setIfInBounds_toArray]); (try simp only [List.set_cons_succ]); (try simp only [List.set_cons_zero])
                  refine wpAnyIn_ready (rs := [6]) (by kernel_rfl) (by simp) ?_
                  refine AllReadyIn.cons (o := ⟨_, _, _, _, _, _⟩) rfl (fun K hK => ?_) ?_
                  · go_simp
                    refine hK _ _ ?_
                    clear hK K
                    (try simp only [Act.put]); (try simp only [List.setIfInBounds_toArray]); (try simp only [List.set_cons_succ]); (try simp only [List.set_cons_zero])
                    refine wpAnyIn_done (by kernel_rfl) ?_ _
                    gi_wp2
                    exact fin9 HFL7.out hb7' hpx HX3.out hm9 hg9 hl9 HFB.out HORD.out
                  exact AllReadyIn.nil
                exact AllReadyIn.nil
              exact AllReadyIn.nil
            exact AllReadyIn.nil
          exact AllReadyIn.nil
        exact AllReadyIn.nil
      refine AllReadyIn.cons (o := ⟨_, _, _, _, _, _⟩) rfl (fun K hK => ?_) ?_
      · go_simp
        refine hK _ _ ?_
        clear hK K
        (try simp only [Act.put]); (try simp only [List.setIfInBounds_toArray]); (try simp only [List.set_cons_succ]); (try simp only [List.set_cons_zero])
        refine wpAnyIn_ready (rs := [0, 1]) (by kernel_rfl) (by simp) ?_
        refine AllReadyIn.cons (o := ⟨_, _, _, _, _, _⟩) rfl (fun K hK => ?_) ?_
        · go_simp
          refine hK _ _ ?_
          clear hK K
          (try simp only [Act.put]); (try simp only [List.setIfInBounds_toArray]); (try simp only [List.set_cons_succ]); (try simp only [List.set_cons_zero])
          refine wpAnyIn_ready (rs := [1]) (by kernel_rfl) (by simp) ?_
          refine AllReadyIn.cons (o := ⟨_, _, _, _, _, _⟩) rfl (fun K hK => ?_) ?_
          · go_simp
            refine hK _ _ ?_
            clear hK K
            (try simp only [Act.put]); (try simp only [List.setIfInBounds_toArray]); (try simp only [List.set_cons_succ]); (try simp only [List.set_cons_zero])
            refine wpAnyIn_ready (rs := [2]) (by kernel_rfl) (by simp) ?_
            refine AllReadyIn.cons (o := ⟨_, _, _, _, _, _⟩) rfl (fun K hK => ?_) ?_
            · go_simp
              refine hK _ _ ?_
              clear hK K
              (try simp only [Act.put]); (try simp only [List.setIfInBounds_toArray]); (try simp only [List.set_cons_succ]); (try simp only [List.set_cons_zero])
              refine wpAnyIn_ready (rs := [4]) (by kernel_rfl) (by simp) ?_
              refine AllReadyIn.cons (o := ⟨_, _, _, _, _, _⟩) rfl (fun K hK => ?_) ?_
              · go_simp
                refine ⟨trivial, ?_⟩
                refine (CallsIn.inRound l' (callsIn_wide.2 (repeat_any (fun _ => True) _ 1 x.c x.n x.one hx8 _ HREP.out))).mono ?_
                rintro e w7 ⟨g7, rfl, hs7, hb7⟩
                have hb7' := below7 hb7
                have HFL7 := Lib.hid (HFL.out.keep hb7')
                have r2 := HFL7.out.cells.2.1
                refine hK _ _ ?_
                clear hK K
                (try simp only [Act.put]); (try simp only [List.setIfInBounds_toArray]); (try simp only [List.set_cons_succ]); (try simp only [List.set_cons_zero])
                refine wpAnyIn_ready (rs := [5]) (by kernel_rfl) (by simp) ?_
                refine AllReadyIn.cons (o := ⟨_, _, _, _, _, _⟩) rfl (fun K hK => ?_) ?_
                · refine stepIn_mid rfl (.tmp 19) (.tmp 23) rfl B A2 n2 c2 (rnAll pre).2 rfl HFL7.out.lst HFL7.out.ord.2.2.2.2.2 (fun _ => True) ⟨g7, 0, none⟩ x.n x.n _ rfl hs7 x.one hn2x ?_
                  intro A9 c9 w9 hm9 hg9 hl9
                  obtain ⟨_, e2, _, _⟩ := HFL7.out.growL hm9 hg9 hl9
                  have s2 : w9.cell? ⟨lb, 0, none⟩ = some (.slice A2 n2 c2) := by rw [Lib.cell_of_heap (e2.trans HFL7.out.lbox)]; rfl
                  have s3 := Lib.frozen_of_heap (e2.trans HFL7.out.lbox) 0
                  refine hK _ _ ?_
                  clear hK K
                  (try simp only [Act.put]); (try simp only [List.setIfInBounds_toArray]); (try simp only [List.set_cons_succ]); (try simp only [List.set_cons_zero])
                  refine wpAnyIn_ready (rs := [6]) (by kernel_rfl) (by simp) ?_
                  refine AllReadyIn.cons (o := ⟨_, _, _, _, _, _⟩) rfl (fun K hK => ?_) ?_
                  · go_simp
                    refine hK _ _ ?_
                    clear hK K
                    (try simp only [Act.put]); (try simp only [List.setIfInBounds_toArray]); (try simp only [List.set_cons_succ]); (try simp only [List.set_cons_zero])
                    refine wpAnyIn_done (by kernel_rfl) ?_ _
                    gi_wp2
                    exact fin9 HFL7.out hb7' hpx HX3.out hm9 hg9 hl9 HFB.out HORD.out
                  exact AllReadyIn.nil
                exact AllReadyIn.nil
              exact AllReadyIn.nil
            exact AllReadyIn.nil
          exact AllReadyIn.nil
        refine AllReadyIn.cons (o := ⟨_, _, _, _, _, _⟩) rfl (fun K hK => ?_) ?_
        · go_simp
          refine hK _ _ ?_
          clear hK K
          (try simp only [Act.put]); (try simp only [List.setIfInBounds_toArray]); (try simp only [List.set_cons_succ]); (try simp only [List.set_cons_zero])
          refine wpAnyIn_ready (rs := [0, 2]) (by kernel_rfl) (by simp) ?_
          refine AllReadyIn.cons (o := ⟨_, _, _, _, _, _⟩) rfl (fun K hK => ?_) ?_
          · go_simp
            refine hK _ _ ?_
            clear hK K
            (try simp only [Act.put]); (try simp only [List.setIfInBounds_toArray]); (try simp only [List.set_cons_succ]); (try simp only [List.set_cons_zero])
            refine wpAnyIn_ready (rs := [2]) (by kernel_rfl) (by simp) ?_
            refine AllReadyIn.cons (o := ⟨_, _, _, _, _, _⟩) rfl (fun K hK => ?_) ?_
            · go_simp
              refine hK _ _ ?_
              clear hK K
              (try simp only [Act.put]); (try simp only [List.setIfInBounds_toArray]); (try simp only [List.set_cons_succ]); (try simp only [List.set_cons_zero])
              refine wpAnyIn_ready (rs := [4]) (by kernel_rfl) (by simp) ?_
              refine AllReadyIn.cons (o := ⟨_, _, _, _, _, _⟩) rfl (fun K hK => ?_) ?_
              · go_simp
                refine ⟨trivial, ?_⟩
                refine (CallsIn.inRound l' (callsIn_wide.2 (repeat_any (fun _ => True) _ 1 x.c x.n x.one hx8 _ HREP.out))).mono ?_
                rintro e w7 ⟨g7, rfl, hs7, hb7⟩
                have hb7' := below7 hb7
                have HFL7 := Lib.hid (HFL.out.keep hb7')
                have r2 := HFL7.out.cells.2.1
                refine hK _ _ ?_
                clear hK K
                (try simp only [Act.put]); (try simp only [List.setIfInBounds_toArray]); (try simp only [List.set_cons_succ]); (try simp only [List.set_cons_zero])
                refine wpAnyIn_ready (rs := [5]) (by kernel_rfl) (by simp) ?_
                refine AllReadyIn.cons (o := ⟨_, _, _, _, _, _⟩) rfl (fun K hK => ?_) ?_
                · refine stepIn_mid rfl (.tmp 19) (.tmp 23) rfl B A2 n2 c2 (rnAll pre).2 rfl HFL7.out.lst HFL7.out.ord.2.2.2.2.2 (fun _ => True) ⟨g7, 0, none⟩ x.n x.n _ rfl hs7 x.one hn2x ?_
                  intro A9 c9 w9 hm9 hg9 hl9
                  obtain ⟨_, e2, _, _⟩ := HFL7.out.growL hm9 hg9 hl9
                  have s2 : w9.cell? ⟨lb, 0, none⟩ = some (.slice A2 n2 c2) := by rw [Lib.cell_of_heap (e2.trans HFL7.out.lbox)]; rfl
                  have s3 := Lib.frozen_of_heap (e2.trans HFL7.out.lbox) 0
                  refine hK _ _ ?_
                  clear hK K
                  (try simp only [Act.put]); (try simp only [List.setIfInBounds_toArray]); (try simp only [List.set_cons_succ]); (try simp only [List.set_cons_zero])
                  refine wpAnyIn_ready (rs := [6]) (by kernel_rfl) (by simp) ?_
                  refine AllReadyIn.cons (o := ⟨_, _, _, _, _, _⟩) rfl (fun K hK => ?_) ?_
                  · go_simp
                    refine hK _ _ ?_
                    clear hK K
                    (try simp only [Act.put]); (try simp only [List.setIfInBounds_toArray]); (try simp only [List.set_cons_succ]); (try simp only [List.set_cons_zero])
                    refine wpAnyIn_done (by kernel_rfl) ?_ _
                    gi_wp2
                    exact fin9 HFL7.out hb7' hpx HX3.out hm9 hg9 hl9 HFB.out HORD.out
                  exact AllReadyIn.nil
                exact AllReadyIn.nil
              exact AllReadyIn.nil
            exact AllReadyIn.nil
          refine AllReadyIn.cons (o := ⟨_, _, _, _, _, _⟩) rfl (fun K hK => ?_) ?_
          · go_simp
            refine hK _ _ ?_
            clear hK K
            (try simp only [Act.put]); (try simp only [List.setIfInBounds_toArray]); (try simp only [List.set_cons_succ]); (try simp only [List.set_cons_zero])
            refine wpAnyIn_ready (rs := [0, 4]) (by kernel_rfl) (by simp) ?_
            refine AllReadyIn.cons (o := ⟨_, _, _, _, _, _⟩) rfl (fun K hK => ?_) ?_
            · go_simp
              refine hK _ _ ?_
              clear hK K
              (try simp only [Act.put]); (try simp only [List.setIfInBounds_toArray]); (try simp only [List.set_cons_succ]); (try simp only [List.set_cons_zero])
              refine wpAnyIn_ready (rs := [4]) (by kernel_rfl) (by simp) ?_
              refine AllReadyIn.cons (o := ⟨_, _, _, _, _, _⟩) rfl (fun K hK => ?_) ?_
              · go_simp
                refine ⟨trivial, ?_⟩
                refine (CallsIn.inRound l' (callsIn_wide.2 (repeat_any (fun _ => True) _ 1 x.c x.n x.one hx8 _ HREP.out))).mono ?_
                rintro e w7 ⟨g7, rfl, hs7, hb7⟩
                have hb7' := below7 hb7
                have HFL7 := Lib.hid (HFL.out.keep hb7')
                have r2 := HFL7.out.cells.2.1
                refine hK _ _ ?_
                clear hK K
                (try simp only [Act.put]); (try simp only [List.setIfInBounds_toArray]); (try simp only [List.set_cons_succ]); (try simp only [List.set_cons_zero])
                refine wpAnyIn_ready (rs := [5]) (by kernel_rfl) (by simp) ?_
                refine AllReadyIn.cons (o := ⟨_, _, _, _, _, _⟩) rfl (fun K hK => ?_) ?_
                · refine stepIn_mid rfl (.tmp 19) (.tmp 23) rfl B A2 n2 c2 (rnAll pre).2 rfl HFL7.out.lst HFL7.out.ord.2.2.2.2.2 (fun _ => True) ⟨g7, 0, none⟩ x.n x.n _ rfl hs7 x.one hn2x ?_
                  intro A9 c9 w9 hm9 hg9 hl9
                  obtain ⟨_, e2, _, _⟩ := HFL7.out.growL hm9 hg9 hl9
                  have s2 : w9.cell? ⟨lb, 0, none⟩ = some (.slice A2 n2 c2) := by rw [Lib.cell_of_heap (e2.trans HFL7.out.lbox)]; rfl
                  have s3 := Lib.frozen_of_heap (e2.trans HFL7.out.lbox) 0
                  refine hK _ _ ?_
                  clear hK K
                  (try simp only [Act.put]); (try simp only [List.setIfInBounds_toArray]); (try simp only [List.set_cons_succ]); (try simp only [List.set_cons_zero])
                  refine wpAnyIn_ready (rs := [6]) (by kernel_rfl) (by simp) ?_
                  refine AllReadyIn.cons (o := ⟨_, _, _, _, _, _⟩) rfl (fun K hK => ?_) ?_
                  · go_simp
                    refine hK _ _ ?_
                    clear hK K
                    (try simp only [Act.put]); (try simp only [List.setIfInBounds_toArray]); (try simp only [List.set_cons_succ]); (try simp only [List.set_cons_zero])
                    refine wpAnyIn_done (by kernel_rfl) ?_ _
                    gi_wp2
                    exact fin9 HFL7.out hb7' hpx HX3.out hm9 hg9 hl9 HFB.out HORD.out
                  exact AllReadyIn.nil
                exact AllReadyIn.nil
              exact AllReadyIn.nil
            refine AllReadyIn.cons (o := ⟨_, _, _, _, _, _⟩) rfl (fun K hK => ?_) ?_
            · go_simp
              refine ⟨trivial, ?_⟩
              refine (CallsIn.inRound l' (callsIn_wide.2 (repeat_any (fun _ => True) _ 1 x.c x.n x.one hx8 _ HREP.out))).mono ?_
              rintro e w7 ⟨g7, rfl, hs7, hb7⟩
              have hb7' := below7 hb7
              have HFL7 := Lib.hid (HFL.out.keep hb7')
              have r2 := HFL7.out.cells.2.1
              refine hK _ _ ?_
              clear hK K
              (try simp only [Act.put]); (try simp only [List.setIfInBounds_toArray]); (try simp only [List.set_cons_succ]); (try simp only [List.set_cons_zero])
              refine wpAnyIn_ready (rs := [0]) (by kernel_rfl) (by simp) ?_
              refine AllReadyIn.cons (o := ⟨_, _, _, _, _, _⟩) rfl (fun K hK => ?_) ?_
              · go_simp
                refine hK _ _ ?_
                clear hK K
                (try simp only [Act.put]); (try simp only [List.setIfInBounds_toArray]); (try simp only [List.set_cons_succ]); (try simp only [List.set_cons_zero])
                refine wpAnyIn_ready (rs := [5]) (by kernel_rfl) (by simp) ?_
                refine AllReadyIn.cons (o := ⟨_, _, _, _, _, _⟩) rfl (fun K hK => ?_) ?_
                · refine stepIn_mid rfl (.tmp 19) (.tmp 23) rfl B A2 n2 c2 (rnAll pre).2 rfl HFL7.out.lst HFL7.out.ord.2.2.2.2.2 (fun _ => True) ⟨g7, 0, none⟩ x.n x.n _ rfl hs7 x.one hn2x ?_
                  intro A9 c9 w9 hm9 hg9 hl9
                  obtain ⟨_, e2, _, _⟩ := HFL7.out.growL hm9 hg9 hl9
                  have s2 : w9.cell? ⟨lb, 0, none⟩ = some (.slice A2 n2 c2) := by rw [Lib.cell_of_heap (e2.trans HFL7.out.lbox)]; rfl
                  have s3 := Lib.frozen_of_heap (e2.trans HFL7.out.lbox) 0
                  refine hK _ _ ?_
                  clear hK K
                  (try simp only [Act.put]); (try simp only [List.setIfInBounds_toArray]); (try simp only [List.set_cons_succ]); (try simp only [List.set_cons_zero])
                  refine wpAnyIn_ready (rs := [6]) (by kernel_rfl) (by simp) ?_
                  refine AllReadyIn.cons (o := ⟨_, _, _, _, _, _⟩) rfl (fun K hK => ?_) ?_
                  · go_simp
                    refine hK _ _ ?_
                    clear hK K
                    (try simp only [Act.put]); (try simp only [List.setIfInBounds_toArray]); (try simp only [List.set_cons_succ]); (try simp only [List.set_cons_zero])
                    refine wpAnyIn_done (by kernel_rfl) ?_ _
                    gi_wp2
                    exact fin9 HFL7.out hb7' hpx HX3.out hm9 hg9 hl9 HFB.out HORD.out
                  exact AllReadyIn.nil
                exact AllReadyIn.nil
              exact AllReadyIn.nil
            exact AllReadyIn.nil
          exact AllReadyIn.nil
        exact AllReadyIn.nil
      exact AllReadyIn.nil
    · have hx3I : ¬ (x.n : Int) < 3 := by omega
      have HX3 := Lib.hid hx3
      have qf : W.cell? ⟨fb, 0, none⟩ = some (.func (.func 201) #[] #[.pointer (some ⟨lb, 0, none⟩), .pointer (some ⟨ob, 0, none⟩)]) := by rw [Lib.cell_of_heap HFB.out]; rfl
      obtain ⟨xn, hxn⟩ : ∃ xn, xn = x.n := ⟨_, rfl⟩
      rw [← hxn] at hx3I hxm hn2x
      rw [← hxn]
      obtain ⟨y1, hy1⟩ : ∃ y1 : UInt8, y1 = UInt8.ofNat (xn - 3) := ⟨_, rfl⟩
      have HY := Lib.hid (show ((xn : Int) - 3) = ((y1.toNat : Nat) : Int) by rw [hy1, UInt8.toNat_ofNat']; omega)
      have HY1 := Lib.hid hy1; have HXN := Lib.hid hxn
      have HLIT : Hid (∀ w : World, Bs (fun _ => True) (w.alloc (.cells #[.int .u8 ((xn : Int) - 3), .int .u8 ((x.c.toNat : Nat) : Int)] 5)) (some ⟨w.heap.size, 0, none⟩) 2 2 [y1, x.c]) := Lib.hid fun w =>
        Sl.new2 (T := tU8) (c1 := [.int .u8 ((y1.toNat : Nat) : Int)]) (c2 := [.int .u8 ((x.c.toNat : Nat) : Int)]) rfl rfl 5 _ (by rw [HY.out]; rfl)
      clear hx3 hy1 hxn
      gi_wp2_with (first
        | (refine ⟨trivial, ?_⟩; gi_at_call 201; refine (CallsIn.inRound l' (callsIn_wide.2 (flush_any w n0 ob lb B A1 n1 c1 _ A2 n2 c2 _ hn1x hn2b W HFL.out))).mono ?_; rintro e w8 ⟨rfl, A8, n8, c8, A9, c9, hfl8, hk8⟩
           have HFL8 := Lib.hid hfl8; have HK8 := Lib.hid hk8
           obtain ⟨r1, r2, r3, r4⟩ := hfl8.cells
           have HN8 := Lib.hid (show n8 ≤ 1073741824 by rw [hfl8.out.len, List.length_append]; have h1 := flush_len (rnAll pre).2; have h2 := rnAll_len pre; omega)
           clear hfl8 hk8)
        | (gi_at_builtin; refine apbInL rfl (.tmp 27) (.tmp 32) rfl B A8 n8 c8 ((rnAll pre).1 ++ flush (rnAll pre).2) rfl (HFL8.out.open_.alloc _).out (HFL8.out.open_.alloc _).ord.2.2.2.2.2 (fun _ => True) (some ⟨w8.heap.size, 0, none⟩) 2 2 [y1, x.c] rfl (HLIT.out w8) (by have := HN8.out; omega) ?_; intro A10 c10 w10 ho10 hg10 hl10
           obtain ⟨hs10, hk10⟩ := (HFL8.out.open_.alloc _).grow ho10 hg10 hl10
           have HS10 := Lib.hid hs10.store; have HK10 := Lib.hid hk10
           have t1 : w10.cell? ⟨ob, 0, none⟩ = some (.slice A8 n8 c8) := (by rw [Lib.cell_of_heap hs10.obox]; rfl)
           have t2 := Lib.frozen_of_heap hs10.obox 0
           clear ho10 hg10 hl10 hs10 hk10)
        | fail)
      have hkk := ((HK8.out.trans (FlK.below HFL8.out.ord.2.2.2.2.2 ((Below.refl _ _).alloc (Nat.le_refl _) _))).trans HK10.out).trans (FlK.setO _ (.slice A10 (n8 + 2) c10))
      refine ⟨hkk.others, kp_of HORD.out hkk, A10, n8 + 2, c10, A9, 0, c9, ?_, (hkk.low fb (by have := HORD.out.o3; have := HORD.out.o5; omega) (by have := HORD.out.o3; omega) (by have := HORD.out.o3; have := HORD.out.o2; omega)).trans HFB.out⟩
      rw [rnAll_snoc, rnStep, if_neg HX3.out, ← HXN.out, ← HY1.out]
      exact HS10.out
  case done =>
    rintro D xs W hD rfl ⟨A1, n1, c1, A2, n2, c2, hfl, hfb⟩ hK
    have hrl := rnAll_len (rnL bs)
    have hrl2 := rnL_len bs
    have hl1 := hfl.out.len
    have hl2 := hfl.lst.len
    have hbs : bs.length ≤ 512 := by rw [← HLEN.out]; exact hm
    have hn1x : n1 ≤ 1073741824 := by omega
    have hn2b : n2 ≤ 1073741824 := by omega
    have HFL := Lib.hid hfl; have HKD := Lib.hid hK
    have qf : W.cell? ⟨fb, 0, none⟩ = some (.func (.func 201) #[] #[.pointer (some ⟨lb, 0, none⟩), .pointer (some ⟨ob, 0, none⟩)]) := by rw [Lib.cell_of_heap hfb]; rfl
    have HDONE := Lib.hid (rn_done bs)
    clear hfl hfb hK hrl hrl2 hl1 hl2 hbs
    gi_wp2_with (first
      | (refine ⟨trivial, ?_⟩; gi_at_call 201; refine (callsIn_wide.2 (flush_any w n0 ob lb B A1 n1 c1 _ A2 n2 c2 _ hn1x hn2b W HFL.out)).mono ?_; rintro e w8 ⟨rfl, A8, n8, c8, A9, c9, hfl8, hk8⟩
         have HFL8 := Lib.hid hfl8; have HK8 := Lib.hid hk8
         obtain ⟨r1, r2, r3, r4⟩ := hfl8.cells
         clear hfl8 hk8)
      | fail)
    have hKD := HK8.out.others.same D _ HKD.out rfl
    refine ⟨by simp, .inl ⟨_, _, rfl, run_takeDeferred hKD, ?_⟩⟩
    have hB : B ≤ D := by rw [← HS4.out]; exact hD
    have hfin := HFL8.out.turn (grownBy_putObj' w8 D (.deferred none)) (fun r e => by injection e with e; subst e; exact ⟨hB, _, hKD, rfl⟩)
    refine ⟨_, results_tmp2 rfl _ _ _, ?_⟩
    have ho := hfin.out
    rw [HDONE.out] at ho
    exact ⟨by rw [← HN0.out]; exact hfin.below, A8, n8, c8, rfl, ho.down (by rw [HO.out.o5, HOB.out]; omega)⟩
theorem boolput (F : Nat → Prop) (A : Option Addr) (n c : Nat) (l : List Bool) (w : World) (h : Sl tBool F w A n c l) (hn : n ≤ 4096) :
    Calls Tryz.prog 89 #[.slice A n c] w (RunPost (some (byB (boolB l))) w) :=
  boolput_any (fun F A m c bs w h hm => byput_any F A m c bs w h hm) F A n c l w h hn
end Go.Proofs.YtpmglcachffojaaGreatDoor
namespace Go.Proofs.YtpmglcachffojaaGreatDoor
open Go Go.RowKit

theorem tabs_below {w w' : World} (h : Lib.Utf8Tabs 0 1 w) (hb : Below w.heap.size w w') : Lib.Utf8Tabs 0 1 w' :=
  ⟨fun c hc => kcell hb (h.1 c hc), fun i hi => ⟨kcell hb (h.2 i hi).1, kcell hb (h.2 i hi).2⟩⟩
theorem ext_drop (s : ByteArray) (pos : Nat) : s.extract pos s.size = ⟨(s.data.toList.drop pos).toArray⟩ := by
  apply ByteArray.ext
  apply Array.toList_inj.1
  rw [ByteArray.data_extract, Array.toList_extract, List.extract_eq_take_drop]
  show _ = s.data.toList.drop pos
  rw [List.take_of_length_le]
  rw [List.length_drop, Array.length_toList]
  exact Nat.le_refl _
theorem decodeGo_at (s : ByteArray) (pos : Nat) (h : pos < s.size) : Lib.decodeGo (s.extract pos s.size) = Utf8.decode s pos := by
  have hsz : (s.extract pos s.size).size = s.size - pos := by rw [ByteArray.size_extract]; omega
  unfold Lib.decodeGo
  rw [if_neg (by omega), ext_drop]
  exact Lib.decodeL_drop s pos
set_option maxRecDepth 100000 in
set_option maxHeartbeats 2000000 in
theorem right_any (s : ByteArray) (w : World) (hT : Lib.Utf8Tabs 0 1 w) :
    Calls Tryz.prog 87 #[.string s] w fun e w' => e = .returned (.bool (Lib.validD s.data.toList)) ∧ Below w.heap.size w w' := by
  obtain ⟨l, hl⟩ : ∃ l, l = s.data.toList := ⟨_, rfl⟩
  rw [← hl]
  have HL := Lib.hid hl; have HT := Lib.hid hT
  clear hl hT
  go_enter Tryz.func87, Tryz.ntmps87
  go_wp2_with fail
  obtain ⟨k, hk⟩ : ∃ k, k = w.heap.size := ⟨_, rfl⟩
  have HK := Lib.hid hk
  rw [← hk]
  clear hk
  go_loopw [10] (fun _ wr => ∃ pos : Nat, pos ≤ s.size ∧ wr.heap[k]? = some (.stringIter s pos) ∧ Below w.heap.size w wr ∧ Lib.validD (l.drop pos) = Lib.validD l)
    (fun _ wr => s.size - wr.iterPos k)
  case atStart => exact ⟨0, Nat.zero_le _, by rw [HK.out]; exact heap_alloc_new w _, (Below.refl _ _).alloc (Nat.le_refl _) _, by rw [List.drop_zero]⟩
  case round =>
    obtain ⟨pos, hpos, hit, hb, hv⟩ := hrel
    have HIT := Lib.hid hit; have HB := Lib.hid hb; have HV := Lib.hid hv
    have hip : wr.iterPos k = pos := by unfold World.iterPos; rw [hit]
    have HIP := Lib.hid hip
    have hls : l.length = s.size := by rw [HL.out, Array.length_toList]; rfl
    have HLS := Lib.hid hls
    clear hb hv hip
    by_cases hlt : pos < s.size
    · have hn := fun ty => Lib.run_next_any_at (P := Tryz.prog) wr k s pos ty hit hlt
      obtain ⟨r, hr⟩ : ∃ r, r = (Utf8.decode s pos).1 := ⟨_, rfl⟩
      obtain ⟨d, hd⟩ : ∃ d, d = (Utf8.decode s pos).2 := ⟨_, rfl⟩
      rw [← hr, ← hd] at hn
      have hdl := Lib.decodeL_drop s pos
      rw [← HL.out] at hdl
      have hwid := Lib.decodeL_width (l.drop pos)
      have hle := Lib.decodeL_le (l.drop pos) (fun e => by have := congrArg List.length e; rw [List.length_drop] at this; simp at this; omega)
      rw [hdl, ← hd] at hwid hle
      rw [List.length_drop] at hle
      have hst := Lib.validD_step (l.drop pos) (fun e => by have := congrArg List.length e; rw [List.length_drop] at this; simp at this; omega)
      rw [hdl, ← hr, ← hd, List.drop_drop] at hst
      have HST := Lib.hid hst; have HWID := Lib.hid hwid; have HLE := Lib.hid hle
      obtain ⟨w2, hw2⟩ : ∃ w2, w2 = wr.iterAt k s (pos + d) := ⟨_, rfl⟩
      rw [← hw2] at hn
      have hit2 : w2.heap[k]? = some (.stringIter s (pos + d)) := by rw [hw2]; exact Lib.iterAt_heap wr k s pos _ hit
      have hb2 : Below w.heap.size w w2 := by rw [hw2]; exact Lib.below_iterAt HB.out (by rw [HK.out]; exact Nat.le_refl _) s _
      have HIT2 := Lib.hid hit2; have HB2 := Lib.hid hb2
      have hip2 : w2.iterPos k = pos + d := by unfold World.iterPos; rw [hit2]
      have HIP2 := Lib.hid hip2
      have HR := Lib.hid hr; have HD := Lib.hid hd
      clear hr hd hdl hwid hle hst hw2 hit hit2 hb2 hip2
      by_cases hr3 : r = 65533
      · subst hr3
        have HDG := Lib.hid (decodeGo_at s pos hlt)
        have i1 : (pos : Int) ≤ (s.size : Int) := by omega
        have i2 : (0 : Int) ≤ (pos : Int) := by omega
        have HR2 := Lib.hid (show (Utf8.decode s pos).1 = 65533 from HR.out.symm)
        by_cases hd1 : d = 1
        · have hdI : (d : Int) = 1 := by omega
          have HFIN := Lib.hid (show Lib.validD l = false by rw [← HV.out, HST.out, if_pos ⟨rfl, hd1⟩])
          clear hd1
          go_wp2_with (first
            | (go_at_call 156; refine (Tryz.utf8_DecodeRuneInString (s.extract pos s.size) _ (tabs_below HT.out HB2.out)).mono ?_; rintro e w3 ⟨rfl, hb3⟩; rw [HDG.out, ← HD.out, HR2.out]; have HB3 := Lib.hid hb3; clear hb3)
            | fail)
          go_ret
          exact ⟨by rw [HFIN.out]; rfl, HB2.out.trans (HB3.out.mono HB2.out.size)⟩
        · have hdI : ¬ (d : Int) = 1 := by omega
          have hdb : ((d : Int) == 1) = false := beq_no hdI
          have HFIN := Lib.hid (show Lib.validD (l.drop (pos + d)) = Lib.validD l by rw [← HV.out, HST.out, if_neg (fun h => hd1 h.2)])
          clear hd1
          go_wp2_with (first
            | (go_at_call 156; refine (Tryz.utf8_DecodeRuneInString (s.extract pos s.size) _ (tabs_below HT.out HB2.out)).mono ?_; rintro e w3 ⟨rfl, hb3⟩; rw [HDG.out, ← HD.out, HR2.out]; have HB3 := Lib.hid hb3; clear hb3)
            | fail)
          have hit3 := (HB3.out.block k (blk_lt HIT2.out)).trans HIT2.out
          have hip3 : w3.iterPos k = pos + d := by unfold World.iterPos; rw [hit3]
          go_roundw
          case rel => exact ⟨pos + d, by have := HLE.out; omega, hit3, HB2.out.trans (HB3.out.mono HB2.out.size), HFIN.out⟩
          case measure => rw [hip3, HIP.out]; have := HWID.out; omega
      · have hrI : ¬ (r : Int) = 65533 := by omega
        have hrb : ((r : Int) != 65533) = true := bne_iff_ne.2 hrI
        have HR3 := Lib.hid hr3
        clear hr3
        go_wp2_with fail
        go_roundw
        case rel => exact ⟨pos + d, by have := HLE.out; omega, HIT2.out, HB2.out, by rw [← HV.out, HST.out, if_neg (fun h => HR3.out h.1)]⟩
        case measure => rw [HIP2.out, HIP.out]; have := HWID.out; omega
    · have hn := fun ty => Lib.run_next_end_at (P := Tryz.prog) wr k s pos ty hit hlt
      have HFIN := Lib.hid (show Lib.validD l = true by rw [← HV.out, List.drop_of_length_le (by omega)]; exact Lib.validD_nil)
      clear hit
      go_wp2_with fail
      go_ret
      exact ⟨by rw [HFIN.out]; rfl, HB.out⟩
end Go.Proofs.YtpmglcachffojaaGreatDoor
