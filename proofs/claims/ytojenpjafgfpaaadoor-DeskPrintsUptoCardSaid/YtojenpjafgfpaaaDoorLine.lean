/- The layer desk: line. -/
import Derived.Test.YtojenpjafgfpaaaDoorLine0
namespace Go.Proofs.YtojenpjafgfpaaaDoor
open Go Go.RowKit Go.Shelf
attribute [local go_sem] Oper.semAt_some

set_option maxRecDepth 100000 in
set_option maxHeartbeats 8000000 in
theorem line_any (s : ByteArray) (w : World) (hs : s.size ≤ 2097152) : Calls Tryd.prog 28 #[.string s] w (LnPost s.data.toList w) := by
  have hsb := fun w => run_sb w s
  have hsz : s.data.toList.length = s.size := by rw [Array.length_toList]; rfl
  obtain ⟨l, hl⟩ : ∃ l, l = s.data.toList := ⟨_, rfl⟩
  rw [← hl] at hsz ⊢
  have HL := Lib.hid hl; have HSZ := Lib.hid hsz; clear hl hsz
  by_cases hodd : s.size % 2 = 0
  · obtain ⟨m, hm⟩ : ∃ m, s.size = 2 * m := ⟨s.size / 2, by omega⟩
    have HM := Lib.hid hm; clear hm
    have hrem : (((s.size : Int) % 2) != 0) = false := by rw [bne_eq_false_iff_eq]; omega
    obtain ⟨ws, hws⟩ : ∃ ws, ws = ((w.alloc (.cells #[.int .i64 0, .int .i64 0, .int .i64 0, .int .i64 0, .slice none 0 0, .slice none 0 0, .int .i64 0, .slice none 0 0, .slice none 0 0, .slice none 0 0] 44)).alloc (.cells #[.int .i64 0] 26)).alloc (.cells #[.slice none 0 0] 35) := ⟨_, rfl⟩
    refine (callsIn_wide (n := 3)).1 ?_
    refine callsIn_of_wp_marks Tryd.func28 rfl trivial ?_ rfl
    simp only [Tryd.ntmps28, List.size_toArray, List.length_cons, List.length_nil, Nat.reduceAdd, Nat.reduceSub, Array.replicate_succ, Array.replicate_zero, List.push_toArray, List.append_toArray, List.nil_append, List.cons_append]
    have HWS := Lib.hid hws; clear hws
    gi_wp2
    refine ⟨trivial, ?_⟩
    (refine (chunk_in Fence.wide _ trivial rfl _ _ _ _).mono ?_; rintro e w' ⟨rfl, rfl⟩)
    rw [← HWS.out]
    obtain ⟨cp, hcp⟩ : ∃ cp, cp = sbCap ws s := ⟨_, rfl⟩
    have hcap := sb_cap ws s (by simp [maxLen]; omega)
    rw [← hcp] at hcap ⊢
    have hwss : ws.heap.size = w.heap.size + 3 := by rw [HWS.out]; simp
    have hwz : Below w.heap.size w ws := by rw [HWS.out]; exact (((Below.refl _ w).alloc (Nat.le_refl _) _).alloc (by simp) _).alloc (by simp; omega) _
    have hw2 : ws.heap[w.heap.size]? = some (.cells #[.int .i64 0, .int .i64 0, .int .i64 0, .int .i64 0, .slice none 0 0, .slice none 0 0, .int .i64 0, .slice none 0 0, .slice none 0 0, .slice none 0 0] 44 (0, 0)) := by rw [HWS.out]; exact heap_allocd (heap_allocd (heap_alloc_new w _) _) _
    have hw3 : ws.heap[w.heap.size + 1]? = some (.cells #[.int .i64 0] 26 (0, 0)) := by
      rw [HWS.out]
      have := heap_alloc_new (w.alloc (.cells #[.int .i64 0, .int .i64 0, .int .i64 0, .int .i64 0, .slice none 0 0, .slice none 0 0, .int .i64 0, .slice none 0 0, .slice none 0 0, .slice none 0 0] 44)) (.cells #[.int .i64 0] 26 (0, 0))
      rw [World.size_alloc] at this
      exact heap_allocd this _
    have hw4 : ws.heap[w.heap.size + 2]? = some (.cells #[.slice none 0 0] 35 (0, 0)) := by
      rw [HWS.out]
      have := heap_alloc_new ((w.alloc (.cells #[.int .i64 0, .int .i64 0, .int .i64 0, .int .i64 0, .slice none 0 0, .slice none 0 0, .int .i64 0, .slice none 0 0, .slice none 0 0, .slice none 0 0] 44)).alloc (.cells #[.int .i64 0] 26)) (.cells #[.slice none 0 0] 35 (0, 0))
      rw [World.size_alloc, World.size_alloc] at this
      exact this
    obtain ⟨W0, hW0⟩ : ∃ W0, W0 = (((ws.alloc (sbObj ws s)).alloc (.cells #[.slice (some ⟨w.heap.size + 1 + 1 + 1, 0, none⟩) s.size cp] 35)).alloc (.cells #[.int .i64 2] 3)).drew := ⟨_, rfl⟩
    have hB0 : w.heap.size + 6 = W0.heap.size := by rw [hW0]; show _ = (((ws.alloc _).alloc _).alloc _).heap.size; simp; omega
    have hbz : Below ws.heap.size ws W0 := by rw [hW0]; exact bdrewB ((((Below.refl _ ws).alloc (Nat.le_refl _) _).alloc (by simp) _).alloc (by simp; omega) _)
    have hc0 : W0.heap[w.heap.size + 1 + 1 + 1 + 1]? = some (.cells #[.slice (some ⟨w.heap.size + 1 + 1 + 1, 0, none⟩) s.size cp] 35 (0, 0)) := by
      rw [hW0]
      have := heap_alloc_new (ws.alloc (sbObj ws s)) (.cells #[.slice (some ⟨w.heap.size + 1 + 1 + 1, 0, none⟩) s.size cp] 35 (0, 0))
      rw [World.size_alloc, hwss] at this
      exact heap_allocd this _
    have hc1 : W0.heap[w.heap.size + 1 + 1 + 1 + 1 + 1]? = some (.cells #[.int .i64 2] 3 (0, 0)) := by
      rw [hW0]
      have := heap_alloc_new ((ws.alloc (sbObj ws s)).alloc (.cells #[.slice (some ⟨w.heap.size + 1 + 1 + 1, 0, none⟩) s.size cp] 35)) (.cells #[.int .i64 2] 3 (0, 0))
      rw [World.size_alloc, World.size_alloc, hwss] at this
      exact this
    have hbs : Bs (fun b => b = ws.heap.size) W0 (some ⟨w.heap.size + 1 + 1 + 1, 0, none⟩) s.size cp l := by
      rw [hW0, HL.out, hcp]
      have := sb_bs (w := ws) (w0 := ws) (s := s) (by simp [maxLen]; omega)
      rw [hwss] at this ⊢
      exact ((this.alloc _).alloc _).drew
    have h0 : LnI w W0.heap.size l cp m [] W0 := ⟨⟨by rw [HSZ.out]; exact hbs.weaken (fun b hb _ => by omega), below_heap hbz hw2, below_heap hbz hw3, hwz.trans (hbz.mono (by omega)), Nat.le_refl _, hB0⟩, ⟨none, 0, 0, below_heap hbz hw4, OwnB.nil_ _ _⟩, by simp⟩
    have HW0 := Lib.hid hW0
    clear hcp hw2 hw3 hw4 hwz hbz hW0 hsb
    gi_wp2
    rw [← HW0.out]
    refine wpIn_rangeFunc_ownG rfl (by omega) (gf := 72) (lb := #[.pointer (some ⟨w.heap.size + 1 + 1 + 1 + 1, 0, none⟩), .pointer (some ⟨w.heap.size + 1 + 1 + 1 + 1 + 1, 0, none⟩)]) rfl trivial (enters_of Tryd.func72 (by kernel_rfl) rfl)
      (chunk_stops Fence.wide _ trivial rfl (by omega) (w.heap.size + 1 + 1 + 1 + 1) (w.heap.size + 1 + 1 + 1 + 1 + 1) (w.heap.size + 1 + 1 + 1) m s.size cp HM.out hcap.1 hcap.2 W0 hc0 hc1) KpC.trans (KpC.put (by omega) (by omega)) (Below.refl _ _) (fun _ => rfl)
      (LnI w W0.heap.size l cp m) (LnX w W0.heap.size l cp m) (LnI.own w _ l cp m hB0) (LnX.own w _ l cp m) h0
      (fun x => { tmps := #[.string s, undef, .pointer (some ⟨w.heap.size, 0, none⟩), .pointer (some ⟨w.heap.size + 1, 0, none⟩), .pointer (some ⟨w.heap.size + 1 + 1, 0, none⟩), .slice (some ⟨w.heap.size + 1 + 1 + 1, 2 * x.val, none⟩) 2 2, undef, undef, .string s, .int .i64 (s.size : Int), .int .i64 ((s.size : Int) % 2), .bool false, undef, .string s,
        .slice (some ⟨w.heap.size + 1 + 1 + 1, 0, none⟩) s.size cp, .func (.func 72) #[] #[.pointer (some ⟨w.heap.size + 1 + 1 + 1 + 1, 0, none⟩), .pointer (some ⟨w.heap.size + 1 + 1 + 1 + 1 + 1, 0, none⟩)], .slice (some ⟨w.heap.size + 1 + 1 + 1, 2 * x.val, none⟩) 2 2, undef, undef, undef, undef, undef, undef, undef, undef, undef, undef, undef, undef, undef, undef, undef, undef, undef, undef, undef, undef, undef, undef, undef, undef, undef, undef, undef], defers := [] }) ?assign ?body ?done ?stop
    case assign =>
      intro l x W K hK
      dsimp only [chEnc]
      gi_wp2
      exact hK
    case body =>
      rintro l' pre x W ⟨hst, hln, hok⟩ hpl
      have hxm := x.isLt
      have hi1 : 2 * x.val < l.length := by rw [HSZ.out, HM.out]; omega
      have hi2 : 2 * x.val + 1 < l.length := by rw [HSZ.out, HM.out]; omega
      obtain ⟨b', o', e1, _, _, k1⟩ := bs_at hst.src hi1
      injection e1 with e1; injection e1 with e1 e2; subst e1 e2
      obtain ⟨b', o', e1, _, _, k2⟩ := bs_at hst.src hi2
      injection e1 with e1; injection e1 with e1 e2; subst e1 e2
      rw [Nat.zero_add] at k1 k2
      obtain ⟨x1, hx1⟩ : ∃ x1, x1 = l[2 * x.val] := ⟨_, rfl⟩
      obtain ⟨x2, hx2⟩ : ∃ x2, x2 = l[2 * x.val + 1] := ⟨_, rfl⟩
      rw [← hx1] at k1; rw [← hx2] at k2
      have hg1 : l.getD (2 * x.val) 0 = x1 := by rw [hx1, List.getD_eq_getElem?_getD, List.getElem?_eq_getElem hi1]; rfl
      have hg2 : l.getD (2 * x.val + 1) 0 = x2 := by rw [hx2, List.getD_eq_getElem?_getD, List.getElem?_eq_getElem hi2]; rfl
      have hokx : okAt l x.val ↔ (0 ≤ digI x1 ∧ 0 ≤ digI x2) := by unfold okAt; rw [hg1, hg2]
      have hdec : decAt l x.val = decB x1 x2 := by unfold decAt; rw [hg1, hg2]
      have HOK := Lib.hid hokx; have HDEC := Lib.hid hdec; have HST := Lib.hid hst; have HLN := Lib.hid hln; have HPRE := Lib.hid hok
      have hs0 := hst.size
      clear hokx hdec hg1 hg2 hx1 hx2 hst hln hok
      have hd : 1 ≤ 3 - 1 - 1 := by omega
      have hmx : Tryd.prog.follows .mixedOrders = true := by kernel_rfl
      obtain ⟨hb1, hb1'⟩ := digI_bd x1
      obtain ⟨hb2, hb2'⟩ := digI_bd x2
      obtain ⟨A6, n6, c6, hbox, hown⟩ := HLN.out
      have HBOX := Lib.hid hbox; have HOWN := Lib.hid hown
      have v0 : W.cell? ⟨w.heap.size + 1 + 1, 0, none⟩ = some (.slice A6 n6 c6) := by rw [Lib.cell_of_heap hbox]; rfl
      have vf : W.frozen? ⟨w.heap.size + 1 + 1, 0, none⟩ = false := Lib.frozen_of_heap hbox 0
      have hn6 : n6 ≤ 2097152 := by rw [hown.len]; unfold decs; rw [List.length_map]; have := HM.out; omega
      clear hbox hown
      have hhs : w.heap.size + 6 ≤ W.heap.size := by omega
      have z0 : W.cell? ⟨w.heap.size, 0, none⟩ = some (.int .i64 0) := by rw [Lib.cell_of_heap HST.out.ev]; rfl
      have z1 : W.cell? ⟨w.heap.size, 1, none⟩ = some (.int .i64 0) := by rw [Lib.cell_of_heap HST.out.ev]; rfl
      have z2 : W.cell? ⟨w.heap.size, 2, none⟩ = some (.int .i64 0) := by rw [Lib.cell_of_heap HST.out.ev]; rfl
      have z3 : W.cell? ⟨w.heap.size, 3, none⟩ = some (.int .i64 0) := by rw [Lib.cell_of_heap HST.out.ev]; rfl
      have z4 : W.cell? ⟨w.heap.size, 4, none⟩ = some (.slice none 0 0) := by rw [Lib.cell_of_heap HST.out.ev]; rfl
      have z5 : W.cell? ⟨w.heap.size, 5, none⟩ = some (.slice none 0 0) := by rw [Lib.cell_of_heap HST.out.ev]; rfl
      have z6 : W.cell? ⟨w.heap.size, 6, none⟩ = some (.int .i64 0) := by rw [Lib.cell_of_heap HST.out.ev]; rfl
      have z7 : W.cell? ⟨w.heap.size, 7, none⟩ = some (.slice none 0 0) := by rw [Lib.cell_of_heap HST.out.ev]; rfl
      have z8 : W.cell? ⟨w.heap.size, 8, none⟩ = some (.slice none 0 0) := by rw [Lib.cell_of_heap HST.out.ev]; rfl
      have z9 : W.cell? ⟨w.heap.size, 9, none⟩ = some (.slice none 0 0) := by rw [Lib.cell_of_heap HST.out.ev]; rfl
      have y0 := Lib.frozen_of_heap HST.out.ev 0
      have y1 := Lib.frozen_of_heap HST.out.ev 1
      have y2 := Lib.frozen_of_heap HST.out.ev 2
      have y3 := Lib.frozen_of_heap HST.out.ev 3
      have y4 := Lib.frozen_of_heap HST.out.ev 4
      have y5 := Lib.frozen_of_heap HST.out.ev 5
      have y6 := Lib.frozen_of_heap HST.out.ev 6
      have y7 := Lib.frozen_of_heap HST.out.ev 7
      have y8 := Lib.frozen_of_heap HST.out.ev 8
      have y9 := Lib.frozen_of_heap HST.out.ev 9
      have ec : W.cell? ⟨w.heap.size + 1, 0, none⟩ = some (.int .i64 0) := by rw [Lib.cell_of_heap HST.out.er]; rfl
      have ef := Lib.frozen_of_heap HST.out.er 0
      have hbsz := hs0
      gi_wp2
      refine Code.wpIn_mono (Q := fun e a' w' => e = .normal ∧ a' = { tmps := #[.string s, undef, .pointer (some ⟨w.heap.size, 0, none⟩), .pointer (some ⟨w.heap.size + 1, 0, none⟩), .pointer (some ⟨w.heap.size + 1 + 1, 0, none⟩), .slice (some ⟨w.heap.size + 1 + 1 + 1, 2 * x.val, none⟩) 2 2, .int .i64 (digI x1), .int .i64 (digI x2), .string s, .int .i64 (s.size : Int), .int .i64 ((s.size : Int) % 2), .bool false, undef, .string s,
        .slice (some ⟨w.heap.size + 1 + 1 + 1, 0, none⟩) s.size cp, .func (.func 72) #[] #[.pointer (some ⟨w.heap.size + 1 + 1 + 1 + 1, 0, none⟩), .pointer (some ⟨w.heap.size + 1 + 1 + 1 + 1 + 1, 0, none⟩)], .slice (some ⟨w.heap.size + 1 + 1 + 1, 2 * x.val, none⟩) 2 2, .slice (some ⟨w.heap.size + 1 + 1 + 1, 2 * x.val, none⟩) 2 2, .pointer (some ⟨w.heap.size + 1 + 1 + 1, 2 * x.val, none⟩), .int .u8 (x1.toNat : Int), .int .i64 (digI x1), .slice (some ⟨w.heap.size + 1 + 1 + 1, 2 * x.val, none⟩) 2 2, .pointer (some ⟨w.heap.size + 1 + 1 + 1, 2 * x.val + 1, none⟩), .int .u8 (x2.toNat : Int), .int .i64 (digI x2), undef, undef, undef, undef, undef, undef, undef, undef, undef, undef, undef, undef, undef, undef, undef, undef, undef, undef, undef], defers := [] } ∧ w' = W.drew) ?_ ?_
      rotate_left
      · gi_region_with_o (refine ⟨trivial, ?_⟩; gi_at_call 55; refine (CallsIn.inRound l' (callsIn_wide.2 (dig_any _ _))).mono ?_; rintro e w' ⟨rfl, rfl⟩)
        all_goals exact ⟨rfl, rfl, rfl⟩
      rintro e a' w' ⟨rfl, rfl, rfl⟩
      by_cases h1 : 0 ≤ digI x1
      · by_cases h2 : 0 ≤ digI x2
        · have l1 : ¬ digI x1 < 0 := by omega
          have l2 : ¬ digI x2 < 0 := by omega
          have HDB := Lib.hid (or16I x1 x2 h1 h2)
          have HY := Lib.hid (show okAt l x.val from HOK.out.2 ⟨h1, h2⟩)
          gi_wp2_with (first
            | (gi_at_builtin; refine apbIn1 rfl (.tmp 32) (.tmp 38) rfl W.drew _ W0.heap.size A6 n6 c6 (decs l pre) rfl (own_keep HOWN.out (fun _ _ => rfl)) hs0 (.int .u8 (bits BinOp.or IntKind.i64 (digI x1 * 16) (digI x2) % 256)) (decB x1 x2) (by rw [← HDB.out, IntKind.wrap_u8]) rfl rfl (by omega) ?_; intro A7 c7 w7 hown7 hg7; have HO7 := Lib.hid hown7; have HG7 : Hid (W.grownBy w7 (A6.map (·.block))) := Lib.hid (grown_trans (grown_alloc (grown_drew (grown_of_below (Below.refl _ W))) _) hg7); have v7 : w7.cell? ⟨w.heap.size + 1 + 1, 0, none⟩ = some (.slice A6 n6 c6) := HG7.out.cell v0 (fun e => by obtain ⟨_, _, _, _, h8⟩ := own_cells HOWN.out e.symm; have h9 : W0.heap.size ≤ w.heap.size + 1 + 1 := h8; omega); have vf7 : w7.frozen? ⟨w.heap.size + 1 + 1, 0, none⟩ = false := Lib.frozen_of_heap (HG7.out.block (w.heap.size + 2) (by omega) (fun e => by obtain ⟨_, _, _, _, h8⟩ := own_cells HOWN.out e.symm; omega) |>.trans HBOX.out) 0; clear hown7 hg7)
            | fail)
          have hA6 : ∀ k, A6.map (·.block) = some k → W0.heap.size ≤ k := fun k e => by obtain ⟨_, _, _, _, h8⟩ := own_cells HOWN.out e; exact h8
          have hsz7 := HG7.out.size
          refine ⟨((KeepsOthers.of_grownBy HG7.out fun j o hj ho => by obtain ⟨cur, e1, fr, h8, _⟩ := own_cells HOWN.out hj; rw [h8] at ho; injection ho with ho; subst ho; rfl).trans (KeepsOthers.setCell _ _ _)).from _, ?_, ?_, ?_, ?_⟩
          · exact (KpC.grown HG7.out (by omega) (by omega) (fun k e => by have := hA6 k e; omega)).trans ⟨Below.heap_setCell _ _ _ _ (by simp; omega), Below.heap_setCell _ _ _ _ (by simp; omega)⟩
          · exact (HST.out.grow HG7.out (fun k e => .inr (hA6 k e))).grow (grown_set (grown_of_below (Below.refl _ w7)) 0 _) (fun k e => .inl (Option.some.inj e).symm)
          · refine ⟨A7, n6 + 1, c7, heap_set ((HG7.out.block (w.heap.size + 2) (by omega) (fun e => by have := hA6 _ e.symm; omega)).trans HBOX.out) rfl, own_keep ?_ (fun b hb => Below.heap_setCell _ _ _ _ ?_)⟩
            · have h8 := HO7.out
              rw [← HDEC.out] at h8
              rw [show decs l (pre ++ [x]) = decs l pre ++ [decAt l x.val] by simp [decs]]
              exact h8
            · have h8 := (HO7.out.lt b hb).1
              simp
              omega
          · intro y hy
            rcases List.mem_append.1 hy with hy | hy
            · exact HPRE.out y hy
            · rw [List.mem_singleton.1 hy]; exact HY.out
        · have l1 : ¬ digI x1 < 0 := by omega
          have l2 : digI x2 < 0 := by omega
          have hno : ¬ okAt l x.val := fun hh => by have := HOK.out.1 hh; omega
          have HNO := Lib.hid hno; clear hno
          gi_wp2
          refine ⟨?_, rfl, ?_, x.val, hxm, HNO.out⟩
          · exact keeps_fail.from _
          · exact LnSt.fail HST.out
      · have l1 : digI x1 < 0 := by omega
        have hno : ¬ okAt l x.val := fun hh => by have := HOK.out.1 hh; omega
        have HNO := Lib.hid hno; clear hno
        gi_wp2
        refine ⟨?_, rfl, ?_, x.val, hxm, HNO.out⟩
        · exact keeps_fail.from _
        · exact LnSt.fail HST.out
    case done =>
      rintro D xs W hD rfl ⟨hst, ⟨A6, n6, c6, hbox, hown⟩, hok⟩ hK
      have hlen : l.length = 2 * m := by rw [HSZ.out, HM.out]
      have hun : lineOf l = takeEvent (decs l (List.finRange m)) := by
        unfold lineOf
        rw [unhex_ok m l hlen (fun k hk => hok ⟨k, hk⟩ (List.mem_finRange _))]
        show takeEvent _ = takeEvent _
        congr 1
        unfold decs
        apply List.ext_getElem
        · simp
        · intro i h1 h2; simp
      have HUN := Lib.hid hun; clear hun hlen
      obtain ⟨LL, hLL⟩ : ∃ LL, LL = decs l (List.finRange m) := ⟨_, rfl⟩
      rw [← hLL] at hown
      have HLL := Lib.hid hLL; clear hLL
      have v0 : W.cell? ⟨w.heap.size + 1 + 1, 0, none⟩ = some (.slice A6 n6 c6) := by rw [Lib.cell_of_heap hbox]; rfl
      have hn6 : n6 ≤ 2097152 := by rw [hown.len, HLL.out]; unfold decs; rw [List.length_map, List.length_finRange]; have := HM.out; omega
      have HO := Lib.hid hown; have HST := Lib.hid hst; have HKD := Lib.hid hK
      have hDlt : D < W.heap.size := (Array.getElem?_eq_some_iff.1 hK).1
      clear hown hst hok hK hbox
      gi_wp2_with (refine ⟨trivial, ?_⟩; gi_at_call 56; refine (callsIn_wide.2 (takeEvent_any _ A6 n6 c6 LL W HO.out.bs hn6)).mono ?_; rintro e w5 ⟨cs, rfl, hb5, hrep⟩; have hrep2 := hrep; obtain ⟨Z0, y0, u0, Z1, y1, u1, Z2, y2, u2, Z3, y3, u3, Z4, y4, u4, hcs, _⟩ := hrep2; obtain ⟨k0, k1, k2, k3, k4, hcs2⟩ : ∃ k0 k1 k2 k3 k4, cs = #[.int .i64 k0, .int .i64 k1, .int .i64 k2, .int .i64 k3, .slice Z0 y0 u0, .slice Z1 y1 u1, .int .i64 k4, .slice Z2 y2 u2, .slice Z3 y3 u3, .slice Z4 y4 u4] := ⟨_, _, _, _, _, Array.toList_inj.1 hcs⟩; clear hcs; subst hcs2; have HREP := Lib.hid hrep; have HB5 := Lib.hid hb5; have H5 := Lib.hid (HST.out.grow (row := none) (grown_of_below hb5) (fun k e => by cases e)); clear hrep hb5; have z0 : w5.cell? ⟨w.heap.size, 0, none⟩ = some (.int .i64 0) := (by rw [Lib.cell_of_heap H5.out.ev]; rfl); have z1 : w5.cell? ⟨w.heap.size, 1, none⟩ = some (.int .i64 0) := (by rw [Lib.cell_of_heap H5.out.ev]; rfl); have z2 : w5.cell? ⟨w.heap.size, 2, none⟩ = some (.int .i64 0) := (by rw [Lib.cell_of_heap H5.out.ev]; rfl); have z3 : w5.cell? ⟨w.heap.size, 3, none⟩ = some (.int .i64 0) := (by rw [Lib.cell_of_heap H5.out.ev]; rfl); have z4 : w5.cell? ⟨w.heap.size, 4, none⟩ = some (.slice none 0 0) := (by rw [Lib.cell_of_heap H5.out.ev]; rfl); have z5 : w5.cell? ⟨w.heap.size, 5, none⟩ = some (.slice none 0 0) := (by rw [Lib.cell_of_heap H5.out.ev]; rfl); have z6 : w5.cell? ⟨w.heap.size, 6, none⟩ = some (.int .i64 0) := (by rw [Lib.cell_of_heap H5.out.ev]; rfl); have z7 : w5.cell? ⟨w.heap.size, 7, none⟩ = some (.slice none 0 0) := (by rw [Lib.cell_of_heap H5.out.ev]; rfl); have z8 : w5.cell? ⟨w.heap.size, 8, none⟩ = some (.slice none 0 0) := (by rw [Lib.cell_of_heap H5.out.ev]; rfl); have z9 : w5.cell? ⟨w.heap.size, 9, none⟩ = some (.slice none 0 0) := (by rw [Lib.cell_of_heap H5.out.ev]; rfl); have yy0 := Lib.frozen_of_heap H5.out.ev 0; have yy1 := Lib.frozen_of_heap H5.out.ev 1; have yy2 := Lib.frozen_of_heap H5.out.ev 2; have yy3 := Lib.frozen_of_heap H5.out.ev 3; have yy4 := Lib.frozen_of_heap H5.out.ev 4; have yy5 := Lib.frozen_of_heap H5.out.ev 5; have yy6 := Lib.frozen_of_heap H5.out.ev 6; have yy7 := Lib.frozen_of_heap H5.out.ev 7; have yy8 := Lib.frozen_of_heap H5.out.ev 8; have yy9 := Lib.frozen_of_heap H5.out.ev 9; have ec : w5.cell? ⟨w.heap.size + 1, 0, none⟩ = some (.int .i64 0) := (by rw [Lib.cell_of_heap H5.out.er]; rfl); have ef := Lib.frozen_of_heap H5.out.er 0)
      have hbase := H5.out.base
      obtain ⟨r1, r2, r3, r4, r5⟩ := ln_end (t2 := 26) (u := .int .i64 (okc (takeEvent LL).isSome 240)) (hcs := (rfl : (#[.int .i64 k0, .int .i64 k1, .int .i64 k2, .int .i64 k3, .slice Z0 y0 u0, .slice Z1 y1 u1, .int .i64 k4, .slice Z2 y2 u2, .slice Z3 y3 u3, .slice Z4 y4 u4] : Array Value) = #[.int .i64 k0, .int .i64 k1, .int .i64 k2, .int .i64 k3, .slice Z0 y0 u0, .slice Z1 y1 u1, .int .i64 k4, .slice Z2 y2 u2, .slice Z3 y3 u3, .slice Z4 y4 u4])) H5.out.ev H5.out.er (by omega) H5.out.below (Nat.le_refl _) (by omega) HREP.out (by omega) (by omega)
      have hKD := (r5 D (by omega) (by omega)).trans ((HB5.out.block D hDlt).trans HKD.out)
      refine ⟨by simp, .inl ⟨_, _, rfl, run_takeDeferred hKD, ?_⟩⟩
      obtain ⟨p1, p2, p3, p4⟩ := ln_put (D := D) (o := .deferred none) r1 r2 r3 r4 (by omega) (by omega) (by omega) (by have := r3.size; omega) (by omega)
      refine ⟨_, results_rowcell rfl _ _ w.heap.size (w.heap.size + 1) _ _ (0, 0) _ _ rfl rfl p1 Tryd.underlying44 rfl (by kernel_rfl) (run_errcell (by rw [Lib.cell_of_heap p2]; rfl)), ?_⟩
      unfold LnPost
      rw [HUN.out, ← HLL.out]
      exact ⟨_, rfl, p3, tEE.weaken p4 fun b hb _ => by omega⟩
    case stop =>
      rintro D c pre W hD ⟨k, hk, hpre⟩ ⟨rfl, hst, kk, hkk, hbad⟩ hK
      have hun : lineOf l = none := by
        unfold lineOf
        rw [unhex_bad kk l (by rw [HSZ.out, HM.out]; omega) hbad]; rfl
      have HUN := Lib.hid hun; clear hun hbad
      gi_wp2
      refine ⟨by simp, .inl ⟨_, _, rfl, run_takeDeferred hK, ?_⟩⟩
      have hbase := hst.base
      have hDlt : D < W.heap.size := (Array.getElem?_eq_some_iff.1 hK).1
      have hp := grownBy_putObj' W D (.deferred none)
      have hst2 := hst.grow hp (fun k e => .inr (by injection e with e; omega))
      refine ⟨_, results_rowcell rfl _ _ w.heap.size (w.heap.size + 1) _ _ (0, 0) _ _ rfl rfl hst2.ev Tryd.underlying44 rfl (by kernel_rfl) (run_errcell (by rw [Lib.cell_of_heap hst2.er]; rfl)), ?_⟩
      unfold LnPost
      rw [HUN.out]
      exact ⟨_, rfl, hst2.below, rep_zero _ _⟩
  · have hun : lineOf l = none := by
      unfold lineOf
      rw [unhex_odd (l.length / 2) l (by rw [HSZ.out]; omega)]; rfl
    have HUN := Lib.hid hun; clear hun
    have hrem : (((s.size : Int) % 2) != 0) = true := by rw [bne_iff_ne]; omega
    refine (callsIn_wide (n := 3)).1 ?_
    refine callsIn_of_wp_marks Tryd.func28 rfl trivial ?_ rfl
    simp only [Tryd.ntmps28, List.size_toArray, List.length_cons, List.length_nil, Nat.reduceAdd, Nat.reduceSub, Array.replicate_succ, Array.replicate_zero, List.push_toArray, List.append_toArray, List.nil_append, List.cons_append]
    gi_wp2
    have h3 := heap_alloc_new (w.alloc (.cells #[.int .i64 0, .int .i64 0, .int .i64 0, .int .i64 0, .slice none 0 0, .slice none 0 0, .int .i64 0, .slice none 0 0, .slice none 0 0, .slice none 0 0] 44)) (.cells #[.int .i64 240] 26 (0, 0))
    rw [World.size_alloc] at h3
    refine ⟨_, results_rowcell rfl _ _ w.heap.size (w.heap.size + 1) _ _ (0, 0) _ _ rfl rfl (heap_allocd (heap_alloc_new w _) _) Tryd.underlying44 rfl (by kernel_rfl) (run_errcell (by rw [Lib.cell_of_heap h3]; rfl)), ?_⟩
    unfold LnPost
    rw [HUN.out]
    exact ⟨_, rfl, ((Below.refl _ w).alloc (Nat.le_refl _) _).alloc (by simp) _, rep_zero _ _⟩
end Go.Proofs.YtojenpjafgfpaaaDoor
