/- The reference's Chosen: by definition: a base, then again and again the best one behind. (Printed by gen_rchosen.py.) -/
import Derived.Test.YtollmolchcnpeaaDoorNChosen
namespace Go.Proofs.YtollmolchcnpeaaDoor
open Go Go.RowKit

theorem OwnD.new1 (w : World) (B : Nat) (hB : B ≤ w.heap.size) (d : DD) (hd : d.ok) : OwnD (w.alloc (.cells #[.int .i64 d.kind, .int .i64 d.lo, .int .i64 d.hi] 28)) B (some ⟨w.heap.size, 0, none⟩) 1 1 [d] := by
  have := World.ownsRow_lit (base := B) (e := 28) (size := 3) w #[.int .i64 d.kind, .int .i64 d.lo, .int .i64 d.hi] 1 hB (by simp [maxLen]) (by simp)
  exact ⟨by simpa [cellsD, encD] using this, by simpa using hd⟩
theorem ne_b {a b : Int} (h : a ≠ b) : (a != b) = true := by simpa using h
theorem eq_nb {a b : Int} (h : a = b) : (a != b) = false := by simp [h]
theorem eq_b {a b : Int} (h : a = b) : (a == b) = true := by simp [h]

set_option maxRecDepth 100000 in
set_option maxHeartbeats 4000000 in
theorem rchosen_any (F : Nat → Prop) (A : Option Addr) (n c : Nat) (l : List DD) (most : Int) (w : World) (h : Sl tDD F w A n c l) (hn : n ≤ 34359738368) :
    Calls Tryd.prog 10 #[.slice A n c, .int .i64 most] w (ChPost l most w) := by
  have HL := Lib.hid h.len
  have HH := Lib.hid h
  have HE := Lib.hid (OwnD.new0 w w.heap.size (Nat.le_refl _))
  have HB0 := Lib.hid (show Below w.heap.size w (w.alloc (.cells #[] 28)) from (Below.refl _ _).alloc (Nat.le_refl _) _)
  clear h
  go_enter Tryd.func10, Tryd.ntmps10
  go_wp2_with fail
  go_loopw [5, 6] (fun ov iv wr => ∃ (j : Nat) (A0 : Option Addr) (m0 c0 : Nat) (b0 : List DD), j ≤ n ∧ iv = .int .i64 (j : Int) ∧ ov = .slice A0 m0 c0 ∧ BaseTo l most j b0 ∧ OwnD wr w.heap.size A0 m0 c0 b0 ∧ Below w.heap.size w wr)
    (fun _ iv _ => n - (intOf iv).toNat)
  case atStart => exact ⟨0, _, 0, 0, [], Nat.zero_le _, rfl, rfl, base_zero l most, HE.out, HB0.out⟩
  case round =>
    clear HE HB0
    obtain ⟨j, A0, m0, c0, b0, hj, rfl, rfl, hbt, ho, hb⟩ := hrel
    have HBT := Lib.hid hbt; have HO := Lib.hid ho; have HB := Lib.hid hb
    have hwr := hb.size
    have HM0 := Lib.hid ho.len
    have hsl := HH.out.below hb (Nat.le_refl _)
    clear hbt ho hb
    by_cases hlt : j < n
    · have hjl : j < l.length := by rw [← HL.out]; exact hlt
      obtain ⟨d, hd⟩ : ∃ d, d = l[j] := ⟨_, rfl⟩
      obtain ⟨q, o, u, rfl, _, hql, hu, hc⟩ := hsl.at_ hjl (by decide)
      rw [← hd] at hu
      obtain ⟨rfl, hdok⟩ := hu
      obtain ⟨x0, x1, x2⟩ := cells3 hc
      obtain ⟨m, hm⟩ : ∃ m, m = may d := ⟨_, rfl⟩
      have HM := Lib.hid hm; have HD := Lib.hid hd; have HDOK := Lib.hid hdok
      have hi1 : (0 : Int) ≤ (j : Int) := by omega
      have hi2 : (j : Int) < (n : Int) := by omega
      clear hsl hc hd hm hdok
      cases m with
      | false =>
        have HN := Lib.hid (base_pass (l := l) (most := most) hjl HBT.out (by rw [← HD.out]; rintro ⟨_, h2, _⟩; rw [← HM.out] at h2; cases h2))
        go_wp2_with (first
          | (go_at_call 12; refine (rmay_any d false HM.out _).mono ?_; rintro e w2 ⟨rfl, hb2⟩; have HB2 := Lib.hid hb2; have y0 := kcell hb2 x0; have y1 := kcell hb2 x1; have y2 := kcell hb2 x2; skip; clear hb2)
          | fail)
        go_quiet (fail)
        go_wp2_with fail
        go_roundw
        case rel => exact ⟨j + 1, A0, m0, c0, b0, by omega, by go_num, rfl, HN.out, HO.out.keepB (bdrewN HB2.out _), HB.out.trans ((bdrewN HB2.out _).mono hwr)⟩
        case measure => simp [intOf]; omega
      | true =>
        by_cases k1 : d.kind = 1
        · have s1 := eq_b k1
          by_cases k2 : d.hi ≤ most
          · have s2 : decide (d.hi ≤ most) = true := decide_eq_true k2
            rcases base_short HBT.out with hb0 | ⟨b, hb0, hbk, hbm⟩
            · obtain rfl : m0 = 0 := (by rw [HM0.out, hb0]; rfl)
              have HN := Lib.hid (show BaseTo l most (j + 1) [d] by rw [HD.out]; exact base_take hjl HBT.out (by rw [← HD.out]; exact k1) (by rw [← HD.out]; exact HM.out.symm) (by rw [← HD.out]; exact k2) (.inl hb0))
              clear k1 k2 hb0
              go_wp2_with (first
                | (go_at_call 12; refine (rmay_any d true HM.out _).mono ?_; rintro e w2 ⟨rfl, hb2⟩; have HB2 := Lib.hid hb2; have y0 := kcell hb2 x0; have y1 := kcell hb2 x1; have y2 := kcell hb2 x2; skip; clear hb2)
                | fail)
              go_quiet (fail)
              go_wp2_with fail
              go_roundw
              case rel => exact ⟨j + 1, _, 1, 1, [d], by omega, by go_num, rfl, HN.out, OwnD.new1 _ _ (by have := HB2.out.size; show w.heap.size ≤ w2.heap.size; omega) d HDOK.out, (HB.out.trans ((bdrewN HB2.out _).mono hwr)).alloc (by have := HB2.out.size; show w.heap.size ≤ w2.heap.size; omega) _⟩
              case measure => simp [intOf]; omega
            · obtain rfl : m0 = 1 := (by rw [HM0.out, hb0]; rfl)
              subst hb0
              obtain ⟨g, rfl⟩ : ∃ g, A0 = some ⟨g, 0, none⟩ := by
                rcases HO.out.row.2 with ⟨_, h2⟩ | ⟨g, cap, cur, h1, _⟩
                · omega
                · injection h1 with h1; exact ⟨g, h1⟩
              obtain ⟨_, _, z2⟩ := HO.out.cell (i := 0) (by simp)
              have v2 : wr.cell? ⟨g, 2, none⟩ = some (.int .i64 b.hi) := z2
              clear z2
              by_cases k3 : b.hi < d.hi
              · have s3 : decide (b.hi < d.hi) = true := decide_eq_true k3
                have HN := Lib.hid (show BaseTo l most (j + 1) [d] by rw [HD.out]; exact base_take hjl HBT.out (by rw [← HD.out]; exact k1) (by rw [← HD.out]; exact HM.out.symm) (by rw [← HD.out]; exact k2) (.inr ⟨b, rfl, by rw [← HD.out]; exact k3⟩))
                clear k1 k2 k3
                go_wp2_with (first
                  | (go_at_call 12; refine (rmay_any d true HM.out _).mono ?_; rintro e w2 ⟨rfl, hb2⟩; have HB2 := Lib.hid hb2; have y0 := kcell hb2 x0; have y1 := kcell hb2 x1; have y2 := kcell hb2 x2; have v3 := kcell hb2 v2; clear hb2)
                  | fail)
                go_quiet (fail)
                go_wp2_with fail
                go_roundw
                case rel => exact ⟨j + 1, _, 1, 1, [d], by omega, by go_num, rfl, HN.out, OwnD.new1 _ _ (by have := HB2.out.size; show w.heap.size ≤ w2.heap.size; omega) d HDOK.out, (HB.out.trans ((bdrewN HB2.out _).mono hwr)).alloc (by have := HB2.out.size; show w.heap.size ≤ w2.heap.size; omega) _⟩
                case measure => simp [intOf]; omega
              · have s3 : decide (b.hi < d.hi) = false := decide_eq_false k3
                have HN := Lib.hid (base_keep (most := most) hjl HBT.out (by rw [← HD.out]; exact k3))
                clear k1 k2 k3
                go_wp2_with (first
                  | (go_at_call 12; refine (rmay_any d true HM.out _).mono ?_; rintro e w2 ⟨rfl, hb2⟩; have HB2 := Lib.hid hb2; have y0 := kcell hb2 x0; have y1 := kcell hb2 x1; have y2 := kcell hb2 x2; have v3 := kcell hb2 v2; clear hb2)
                  | fail)
                go_quiet (fail)
                go_wp2_with fail
                go_roundw
                case rel => exact ⟨j + 1, some ⟨g, 0, none⟩, 1, c0, [b], by omega, by go_num, rfl, HN.out, HO.out.keepB (bdrewN HB2.out _), HB.out.trans ((bdrewN HB2.out _).mono hwr)⟩
                case measure => simp [intOf]; omega
          · have s2 : decide (d.hi ≤ most) = false := decide_eq_false k2
            have HN := Lib.hid (base_pass (l := l) (most := most) hjl HBT.out (by rw [← HD.out]; rintro ⟨_, _, h2⟩; exact k2 h2))
            clear k1 k2
            go_wp2_with (first
              | (go_at_call 12; refine (rmay_any d true HM.out _).mono ?_; rintro e w2 ⟨rfl, hb2⟩; have HB2 := Lib.hid hb2; have y0 := kcell hb2 x0; have y1 := kcell hb2 x1; have y2 := kcell hb2 x2; skip; clear hb2)
              | fail)
            go_quiet (fail)
            go_wp2_with fail
            go_roundw
            case rel => exact ⟨j + 1, A0, m0, c0, b0, by omega, by go_num, rfl, HN.out, HO.out.keepB (bdrewN HB2.out _), HB.out.trans ((bdrewN HB2.out _).mono hwr)⟩
            case measure => simp [intOf]; omega
        · have s1 := beq_no k1
          have HN := Lib.hid (base_pass (l := l) (most := most) hjl HBT.out (by rw [← HD.out]; rintro ⟨h2, _⟩; exact k1 h2))
          go_wp2_with (first
            | (go_at_call 12; refine (rmay_any d true HM.out _).mono ?_; rintro e w2 ⟨rfl, hb2⟩; have HB2 := Lib.hid hb2; have y0 := kcell hb2 x0; have y1 := kcell hb2 x1; have y2 := kcell hb2 x2; skip; clear hb2)
            | fail)
          go_quiet (fail)
          go_wp2_with fail
          go_roundw
          case rel => exact ⟨j + 1, A0, m0, c0, b0, by omega, by go_num, rfl, HN.out, HO.out.keepB (bdrewN HB2.out _), HB.out.trans ((bdrewN HB2.out _).mono hwr)⟩
          case measure => simp [intOf]; omega
    · obtain rfl : n = j := by omega
      have hbt : IsBase (El l 1 most) b0 := by
        have := HBT.out
        unfold BaseTo at this
        rwa [List.take_of_length_le (by rw [← HL.out]; exact Nat.le_refl _)] at this
      have hi0 : 0 ≤ lastOf b0 ∧ lastOf b0 ≤ 1073741824 := by
        rcases base_short HBT.out with hb0 | ⟨b, hb0, _, hbm⟩
        · subst hb0; exact ⟨Int.le_refl _, by decide⟩
        · subst hb0; have := may_b hbm; exact ⟨by show 0 ≤ b.hi; omega, by show b.hi ≤ _; omega⟩
      have hl0 : b0.length ≤ 1 := by
        rcases base_short HBT.out with hb0 | ⟨b, hb0, _, _⟩
        · subst hb0; simp
        · subst hb0; simp
      have HIB := Lib.hid hbt
      obtain ⟨n0, hn0⟩ : ∃ n0, n0 = lastOf b0 := ⟨_, rfl⟩
      rw [← hn0] at hi0
      have HN0 := Lib.hid hn0
      have hwn : ∃ A9 c9, True := ⟨A0, c0, trivial⟩
      clear hsl hbt hlt hwn hj
      go_upto_if 67 with fail
      go_cut [8] from 67 to 71 (fun nv wx => nv = .int .i64 n0 ∧ wr = wx)
      case first =>
        rcases base_short HBT.out with hb0 | ⟨b, hb0, _, _⟩
        · have hn00 : n0 = 0 := by rw [HN0.out, hb0]; rfl
          subst hn00
          obtain rfl : m0 = 0 := (by rw [HM0.out, hb0]; rfl)
          clear hb0 hn0
          go_wp2_with fail
          go_meet
          exact ⟨rfl, rfl⟩
        · obtain rfl : m0 = 1 := (by rw [HM0.out, hb0]; rfl)
          obtain ⟨g, rfl⟩ : ∃ g, A0 = some ⟨g, 0, none⟩ := by
            rcases HO.out.row.2 with ⟨_, h2⟩ | ⟨g, cap, cur, h1, _⟩
            · omega
            · injection h1 with h1; exact ⟨g, h1⟩
          have hbn : b.hi = n0 := by rw [HN0.out, hb0]; rfl
          have v2 : wr.cell? ⟨g, 2, none⟩ = some (.int .i64 n0) := by
            have ho := HO.out
            rw [hb0] at ho
            have := (ho.cell (i := 0) (by simp)).2.2
            rw [← hbn]; exact this
          clear hb0 hn0 hbn
          go_wp2_with fail
          go_meet
          exact ⟨rfl, rfl⟩
      case rest =>
        obtain ⟨rfl, rfl⟩ := hcut
        clear hn0
        go_wp2_with fail
        go_loopw [5, 8] (fun ov nv wq => ∃ (A3 : Option Addr) (m3 c3 : Nat) (N : Int) (g : List DD), ov = .slice A3 m3 c3 ∧ nv = .int .i64 N ∧ 0 ≤ N ∧ N ≤ 1073741824 ∧ Sofar (El l 2 most) n0 g N ∧ OwnD wq w.heap.size A3 m3 c3 (b0 ++ g) ∧ Below w.heap.size w wq ∧ (g.length : Int) ≤ N)
          (fun _ nv _ => (1073741824 - intOf nv).toNat)
        case atStart => exact ⟨A0, m0, c0, n0, [], rfl, rfl, hi0.1, hi0.2, sofar_nil _ _, by rw [List.append_nil]; exact HO.out, HB.out, by simpa using hi0.1⟩
        case round =>
          obtain ⟨wq, rfl⟩ : ∃ wq, wq = wr := ⟨wr, rfl⟩
          obtain ⟨A3, m3, c3, N, g, rfl, rfl, hN0, hN1, hso, hoq, hbq, hgl⟩ := hrel
          have HSO := Lib.hid hso; have HOQ := Lib.hid hoq; have HBQ := Lib.hid hbq
          have hszq := hbq.size
          have hm3 : m3 ≤ 1073741826 := by rw [hoq.len, List.length_append]; omega
          have hkq := heap_alloc_new wq (.cells #[.int .i64 0, .int .i64 0, .int .i64 0] 28)
          have HKQ := Lib.hid hkq
          clear hso hoq hbq hkq HO HB
          go_wp2_with fail
          go_loopw [10] (fun iv wi => ∃ (i : Nat) (b : DD), i ≤ n ∧ iv = .int .i64 (i : Int) ∧ Best l most N i b ∧ wi.heap[wq.heap.size]? = some (.cells #[.int .i64 b.kind, .int .i64 b.lo, .int .i64 b.hi] 28 (0, 0)) ∧ Below wq.heap.size wq wi)
            (fun iv _ => n - (intOf iv).toNat)
          case atStart => exact ⟨0, DD.zero, Nat.zero_le _, rfl, best_zero l most N, HKQ.out, (Below.refl _ _).alloc (Nat.le_refl _) _⟩
          case round =>
            clear HKQ
            obtain ⟨wi, rfl⟩ : ∃ wi, wi = wr := ⟨wr, rfl⟩
            obtain ⟨i, b, hi, rfl, hbe, hk, hbi⟩ := hrel
            have HBE := Lib.hid hbe; have HK := Lib.hid hk; have HBI := Lib.hid hbi
            have hszi := hbi.size
            have hbl : wq.heap.size < wi.heap.size := (Array.getElem?_eq_some_iff.1 hk).1
            have hsl := HH.out.below (HBQ.out.trans (hbi.mono hszq)) (Nat.le_refl _)
            clear hbe hk hbi
            by_cases hlt : i < n
            · have hil : i < l.length := by rw [← HL.out]; exact hlt
              obtain ⟨d, hd⟩ : ∃ d, d = l[i] := ⟨_, rfl⟩
              obtain ⟨q, o, u, rfl, _, hql, hu, hc⟩ := hsl.at_ hil (by decide)
              rw [← hd] at hu
              obtain ⟨rfl, hdok⟩ := hu
              obtain ⟨x0, x1, x2⟩ := cells3 hc
              obtain ⟨m, hm⟩ : ∃ m, m = may d := ⟨_, rfl⟩
              have HM := Lib.hid hm; have HD := Lib.hid hd
              have hi1 : (0 : Int) ≤ (i : Int) := by omega
              have hi2 : (i : Int) < (n : Int) := by omega
              clear hsl hc hd hm hdok
              cases m with
              | false =>
                have HN := Lib.hid (best_pass (l := l) (most := most) hil HBE.out (by rw [← HD.out]; rintro ⟨_, h2, _⟩; rw [← HM.out] at h2; cases h2))
                go_wp2_with (first
                  | (go_at_call 12; refine (rmay_any d false HM.out _).mono ?_; rintro e w2 ⟨rfl, hb2⟩; have HB2 := Lib.hid (show Below wi.heap.size wi w2 from ((Below.refl _ wi).alloc (Nat.le_refl _) _).trans (hb2.mono (by simp))); have HD2 := Lib.hid (show w2.heap[wi.heap.size]? = some (.cells #[.int .i64 d.kind, .int .i64 d.lo, .int .i64 d.hi] 28 (0, 0)) from (hb2.block _ (by simp)).trans (heap_alloc_new wi _)); have HK2 := Lib.hid ((HB2.out.block _ hbl).trans HK.out); have y0 : w2.cell? ⟨wi.heap.size, 0, none⟩ = some (.int .i64 d.kind) := (by rw [Lib.cell_of_heap HD2.out]; rfl); have y1 : w2.cell? ⟨wi.heap.size, 1, none⟩ = some (.int .i64 d.lo) := (by rw [Lib.cell_of_heap HD2.out]; rfl); have y2 : w2.cell? ⟨wi.heap.size, 2, none⟩ = some (.int .i64 d.hi) := (by rw [Lib.cell_of_heap HD2.out]; rfl); have e0 : w2.cell? ⟨wq.heap.size, 0, none⟩ = some (.int .i64 b.kind) := (by rw [Lib.cell_of_heap HK2.out]; rfl); have e1 : w2.cell? ⟨wq.heap.size, 1, none⟩ = some (.int .i64 b.lo) := (by rw [Lib.cell_of_heap HK2.out]; rfl); have e2 : w2.cell? ⟨wq.heap.size, 2, none⟩ = some (.int .i64 b.hi) := (by rw [Lib.cell_of_heap HK2.out]; rfl); have f0 := Lib.frozen_of_heap HK2.out 0; have f1 := Lib.frozen_of_heap HK2.out 1; have f2 := Lib.frozen_of_heap HK2.out 2; clear hb2)
                  | fail)
                go_roundw
                case rel => exact ⟨i + 1, b, by omega, by go_num, HN.out, HK2.out, HBI.out.trans (HB2.out.mono hszi)⟩
                case measure => simp [intOf]; omega
              | true =>
                by_cases k1 : d.kind = 2
                · have s1 := eq_b k1
                  have s1' := eq_nb k1
                  by_cases k2 : N < d.lo
                  · have s2 : decide (d.lo ≤ N) = false := decide_eq_false (by omega)
                    by_cases k3 : d.hi ≤ most
                    · have s3 : decide (most < d.hi) = false := decide_eq_false (by omega)
                      by_cases t1 : b.kind = 0
                      · have r1 := eq_b t1
                        have HN := Lib.hid (best_take (l := l) (most := most) hil HBE.out (by rw [← HD.out]; exact k1) (by rw [← HD.out]; exact HM.out.symm) (by rw [← HD.out]; exact k3) (by rw [← HD.out]; exact k2) (by rw [← HD.out]; exact .inl t1))
                        clear k1 k2 k3 t1
                        go_wp2_with (first
                          | (go_at_call 12; refine (rmay_any d true HM.out _).mono ?_; rintro e w2 ⟨rfl, hb2⟩; have HB2 := Lib.hid (show Below wi.heap.size wi w2 from ((Below.refl _ wi).alloc (Nat.le_refl _) _).trans (hb2.mono (by simp))); have HD2 := Lib.hid (show w2.heap[wi.heap.size]? = some (.cells #[.int .i64 d.kind, .int .i64 d.lo, .int .i64 d.hi] 28 (0, 0)) from (hb2.block _ (by simp)).trans (heap_alloc_new wi _)); have HK2 := Lib.hid ((HB2.out.block _ hbl).trans HK.out); have y0 : w2.cell? ⟨wi.heap.size, 0, none⟩ = some (.int .i64 d.kind) := (by rw [Lib.cell_of_heap HD2.out]; rfl); have y1 : w2.cell? ⟨wi.heap.size, 1, none⟩ = some (.int .i64 d.lo) := (by rw [Lib.cell_of_heap HD2.out]; rfl); have y2 : w2.cell? ⟨wi.heap.size, 2, none⟩ = some (.int .i64 d.hi) := (by rw [Lib.cell_of_heap HD2.out]; rfl); have e0 : w2.cell? ⟨wq.heap.size, 0, none⟩ = some (.int .i64 b.kind) := (by rw [Lib.cell_of_heap HK2.out]; rfl); have e1 : w2.cell? ⟨wq.heap.size, 1, none⟩ = some (.int .i64 b.lo) := (by rw [Lib.cell_of_heap HK2.out]; rfl); have e2 : w2.cell? ⟨wq.heap.size, 2, none⟩ = some (.int .i64 b.hi) := (by rw [Lib.cell_of_heap HK2.out]; rfl); have f0 := Lib.frozen_of_heap HK2.out 0; have f1 := Lib.frozen_of_heap HK2.out 1; have f2 := Lib.frozen_of_heap HK2.out 2; clear hb2)
                          | fail)
                        go_roundw
                        case rel => exact ⟨i + 1, d, by omega, by go_num, by rw [HD.out]; exact HN.out, heap_set (cs' := #[.int .i64 d.kind, .int .i64 d.lo, .int .i64 d.hi]) (heap_set (cs' := #[.int .i64 d.kind, .int .i64 d.lo, .int .i64 b.hi]) (heap_set (cs' := #[.int .i64 d.kind, .int .i64 b.lo, .int .i64 b.hi]) HK2.out rfl) rfl) rfl, bsetc (bsetc (bsetc (HBI.out.trans (HB2.out.mono hszi)) (Nat.le_refl _) _) (Nat.le_refl _) _) (Nat.le_refl _) _⟩
                        case measure => simp [intOf]; omega
                      · have r1 := beq_no t1
                        by_cases t2 : d.lo < b.lo
                        · have r2 : decide (d.lo < b.lo) = true := decide_eq_true t2
                          have HN := Lib.hid (best_take (l := l) (most := most) hil HBE.out (by rw [← HD.out]; exact k1) (by rw [← HD.out]; exact HM.out.symm) (by rw [← HD.out]; exact k3) (by rw [← HD.out]; exact k2) (by rw [← HD.out]; exact .inr (.inl t2)))
                          clear k1 k2 k3 t1 t2
                          go_wp2_with (first
                            | (go_at_call 12; refine (rmay_any d true HM.out _).mono ?_; rintro e w2 ⟨rfl, hb2⟩; have HB2 := Lib.hid (show Below wi.heap.size wi w2 from ((Below.refl _ wi).alloc (Nat.le_refl _) _).trans (hb2.mono (by simp))); have HD2 := Lib.hid (show w2.heap[wi.heap.size]? = some (.cells #[.int .i64 d.kind, .int .i64 d.lo, .int .i64 d.hi] 28 (0, 0)) from (hb2.block _ (by simp)).trans (heap_alloc_new wi _)); have HK2 := Lib.hid ((HB2.out.block _ hbl).trans HK.out); have y0 : w2.cell? ⟨wi.heap.size, 0, none⟩ = some (.int .i64 d.kind) := (by rw [Lib.cell_of_heap HD2.out]; rfl); have y1 : w2.cell? ⟨wi.heap.size, 1, none⟩ = some (.int .i64 d.lo) := (by rw [Lib.cell_of_heap HD2.out]; rfl); have y2 : w2.cell? ⟨wi.heap.size, 2, none⟩ = some (.int .i64 d.hi) := (by rw [Lib.cell_of_heap HD2.out]; rfl); have e0 : w2.cell? ⟨wq.heap.size, 0, none⟩ = some (.int .i64 b.kind) := (by rw [Lib.cell_of_heap HK2.out]; rfl); have e1 : w2.cell? ⟨wq.heap.size, 1, none⟩ = some (.int .i64 b.lo) := (by rw [Lib.cell_of_heap HK2.out]; rfl); have e2 : w2.cell? ⟨wq.heap.size, 2, none⟩ = some (.int .i64 b.hi) := (by rw [Lib.cell_of_heap HK2.out]; rfl); have f0 := Lib.frozen_of_heap HK2.out 0; have f1 := Lib.frozen_of_heap HK2.out 1; have f2 := Lib.frozen_of_heap HK2.out 2; clear hb2)
                            | fail)
                          go_roundw
                          case rel => exact ⟨i + 1, d, by omega, by go_num, by rw [HD.out]; exact HN.out, heap_set (cs' := #[.int .i64 d.kind, .int .i64 d.lo, .int .i64 d.hi]) (heap_set (cs' := #[.int .i64 d.kind, .int .i64 d.lo, .int .i64 b.hi]) (heap_set (cs' := #[.int .i64 d.kind, .int .i64 b.lo, .int .i64 b.hi]) HK2.out rfl) rfl) rfl, bsetc (bsetc (bsetc (HBI.out.trans (HB2.out.mono hszi)) (Nat.le_refl _) _) (Nat.le_refl _) _) (Nat.le_refl _) _⟩
                          case measure => simp [intOf]; omega
                        · have r2 : decide (d.lo < b.lo) = false := decide_eq_false t2
                          by_cases t3 : d.lo = b.lo
                          · have r3 := eq_b t3
                            by_cases t4 : b.hi < d.hi
                            · have r4 : decide (b.hi < d.hi) = true := decide_eq_true t4
                              have HN := Lib.hid (best_take (l := l) (most := most) hil HBE.out (by rw [← HD.out]; exact k1) (by rw [← HD.out]; exact HM.out.symm) (by rw [← HD.out]; exact k3) (by rw [← HD.out]; exact k2) (by rw [← HD.out]; exact .inr (.inr ⟨t3, t4⟩)))
                              clear k1 k2 k3 t1 t2 t3 t4
                              go_wp2_with (first
                                | (go_at_call 12; refine (rmay_any d true HM.out _).mono ?_; rintro e w2 ⟨rfl, hb2⟩; have HB2 := Lib.hid (show Below wi.heap.size wi w2 from ((Below.refl _ wi).alloc (Nat.le_refl _) _).trans (hb2.mono (by simp))); have HD2 := Lib.hid (show w2.heap[wi.heap.size]? = some (.cells #[.int .i64 d.kind, .int .i64 d.lo, .int .i64 d.hi] 28 (0, 0)) from (hb2.block _ (by simp)).trans (heap_alloc_new wi _)); have HK2 := Lib.hid ((HB2.out.block _ hbl).trans HK.out); have y0 : w2.cell? ⟨wi.heap.size, 0, none⟩ = some (.int .i64 d.kind) := (by rw [Lib.cell_of_heap HD2.out]; rfl); have y1 : w2.cell? ⟨wi.heap.size, 1, none⟩ = some (.int .i64 d.lo) := (by rw [Lib.cell_of_heap HD2.out]; rfl); have y2 : w2.cell? ⟨wi.heap.size, 2, none⟩ = some (.int .i64 d.hi) := (by rw [Lib.cell_of_heap HD2.out]; rfl); have e0 : w2.cell? ⟨wq.heap.size, 0, none⟩ = some (.int .i64 b.kind) := (by rw [Lib.cell_of_heap HK2.out]; rfl); have e1 : w2.cell? ⟨wq.heap.size, 1, none⟩ = some (.int .i64 b.lo) := (by rw [Lib.cell_of_heap HK2.out]; rfl); have e2 : w2.cell? ⟨wq.heap.size, 2, none⟩ = some (.int .i64 b.hi) := (by rw [Lib.cell_of_heap HK2.out]; rfl); have f0 := Lib.frozen_of_heap HK2.out 0; have f1 := Lib.frozen_of_heap HK2.out 1; have f2 := Lib.frozen_of_heap HK2.out 2; clear hb2)
                                | fail)
                              go_roundw
                              case rel => exact ⟨i + 1, d, by omega, by go_num, by rw [HD.out]; exact HN.out, heap_set (cs' := #[.int .i64 d.kind, .int .i64 d.lo, .int .i64 d.hi]) (heap_set (cs' := #[.int .i64 d.kind, .int .i64 d.lo, .int .i64 b.hi]) (heap_set (cs' := #[.int .i64 d.kind, .int .i64 b.lo, .int .i64 b.hi]) HK2.out rfl) rfl) rfl, bsetc (bsetc (bsetc (HBI.out.trans (HB2.out.mono hszi)) (Nat.le_refl _) _) (Nat.le_refl _) _) (Nat.le_refl _) _⟩
                              case measure => simp [intOf]; omega
                            · have r4 : decide (b.hi < d.hi) = false := decide_eq_false t4
                              have HN := Lib.hid (best_keep (l := l) (most := most) hil HBE.out (by rw [← HD.out]; omega))
                              clear k1 k2 k3 t1 t2 t3 t4
                              go_wp2_with (first
                                | (go_at_call 12; refine (rmay_any d true HM.out _).mono ?_; rintro e w2 ⟨rfl, hb2⟩; have HB2 := Lib.hid (show Below wi.heap.size wi w2 from ((Below.refl _ wi).alloc (Nat.le_refl _) _).trans (hb2.mono (by simp))); have HD2 := Lib.hid (show w2.heap[wi.heap.size]? = some (.cells #[.int .i64 d.kind, .int .i64 d.lo, .int .i64 d.hi] 28 (0, 0)) from (hb2.block _ (by simp)).trans (heap_alloc_new wi _)); have HK2 := Lib.hid ((HB2.out.block _ hbl).trans HK.out); have y0 : w2.cell? ⟨wi.heap.size, 0, none⟩ = some (.int .i64 d.kind) := (by rw [Lib.cell_of_heap HD2.out]; rfl); have y1 : w2.cell? ⟨wi.heap.size, 1, none⟩ = some (.int .i64 d.lo) := (by rw [Lib.cell_of_heap HD2.out]; rfl); have y2 : w2.cell? ⟨wi.heap.size, 2, none⟩ = some (.int .i64 d.hi) := (by rw [Lib.cell_of_heap HD2.out]; rfl); have e0 : w2.cell? ⟨wq.heap.size, 0, none⟩ = some (.int .i64 b.kind) := (by rw [Lib.cell_of_heap HK2.out]; rfl); have e1 : w2.cell? ⟨wq.heap.size, 1, none⟩ = some (.int .i64 b.lo) := (by rw [Lib.cell_of_heap HK2.out]; rfl); have e2 : w2.cell? ⟨wq.heap.size, 2, none⟩ = some (.int .i64 b.hi) := (by rw [Lib.cell_of_heap HK2.out]; rfl); have f0 := Lib.frozen_of_heap HK2.out 0; have f1 := Lib.frozen_of_heap HK2.out 1; have f2 := Lib.frozen_of_heap HK2.out 2; clear hb2)
                                | fail)
                              go_roundw
                              case rel => exact ⟨i + 1, b, by omega, by go_num, HN.out, HK2.out, HBI.out.trans (HB2.out.mono hszi)⟩
                              case measure => simp [intOf]; omega
                          · have r3 := beq_no t3
                            have HN := Lib.hid (best_keep (l := l) (most := most) hil HBE.out (by rw [← HD.out]; omega))
                            clear k1 k2 k3 t1 t2 t3
                            go_wp2_with (first
                              | (go_at_call 12; refine (rmay_any d true HM.out _).mono ?_; rintro e w2 ⟨rfl, hb2⟩; have HB2 := Lib.hid (show Below wi.heap.size wi w2 from ((Below.refl _ wi).alloc (Nat.le_refl _) _).trans (hb2.mono (by simp))); have HD2 := Lib.hid (show w2.heap[wi.heap.size]? = some (.cells #[.int .i64 d.kind, .int .i64 d.lo, .int .i64 d.hi] 28 (0, 0)) from (hb2.block _ (by simp)).trans (heap_alloc_new wi _)); have HK2 := Lib.hid ((HB2.out.block _ hbl).trans HK.out); have y0 : w2.cell? ⟨wi.heap.size, 0, none⟩ = some (.int .i64 d.kind) := (by rw [Lib.cell_of_heap HD2.out]; rfl); have y1 : w2.cell? ⟨wi.heap.size, 1, none⟩ = some (.int .i64 d.lo) := (by rw [Lib.cell_of_heap HD2.out]; rfl); have y2 : w2.cell? ⟨wi.heap.size, 2, none⟩ = some (.int .i64 d.hi) := (by rw [Lib.cell_of_heap HD2.out]; rfl); have e0 : w2.cell? ⟨wq.heap.size, 0, none⟩ = some (.int .i64 b.kind) := (by rw [Lib.cell_of_heap HK2.out]; rfl); have e1 : w2.cell? ⟨wq.heap.size, 1, none⟩ = some (.int .i64 b.lo) := (by rw [Lib.cell_of_heap HK2.out]; rfl); have e2 : w2.cell? ⟨wq.heap.size, 2, none⟩ = some (.int .i64 b.hi) := (by rw [Lib.cell_of_heap HK2.out]; rfl); have f0 := Lib.frozen_of_heap HK2.out 0; have f1 := Lib.frozen_of_heap HK2.out 1; have f2 := Lib.frozen_of_heap HK2.out 2; clear hb2)
                              | fail)
                            go_roundw
                            case rel => exact ⟨i + 1, b, by omega, by go_num, HN.out, HK2.out, HBI.out.trans (HB2.out.mono hszi)⟩
                            case measure => simp [intOf]; omega
                    · have s3 : decide (most < d.hi) = true := decide_eq_true (by omega)
                      have HN := Lib.hid (best_pass (l := l) (most := most) hil HBE.out (by rw [← HD.out]; rintro ⟨_, _, h2, _⟩; exact k3 h2))
                      clear k1 k2 k3
                      go_wp2_with (first
                        | (go_at_call 12; refine (rmay_any d true HM.out _).mono ?_; rintro e w2 ⟨rfl, hb2⟩; have HB2 := Lib.hid (show Below wi.heap.size wi w2 from ((Below.refl _ wi).alloc (Nat.le_refl _) _).trans (hb2.mono (by simp))); have HD2 := Lib.hid (show w2.heap[wi.heap.size]? = some (.cells #[.int .i64 d.kind, .int .i64 d.lo, .int .i64 d.hi] 28 (0, 0)) from (hb2.block _ (by simp)).trans (heap_alloc_new wi _)); have HK2 := Lib.hid ((HB2.out.block _ hbl).trans HK.out); have y0 : w2.cell? ⟨wi.heap.size, 0, none⟩ = some (.int .i64 d.kind) := (by rw [Lib.cell_of_heap HD2.out]; rfl); have y1 : w2.cell? ⟨wi.heap.size, 1, none⟩ = some (.int .i64 d.lo) := (by rw [Lib.cell_of_heap HD2.out]; rfl); have y2 : w2.cell? ⟨wi.heap.size, 2, none⟩ = some (.int .i64 d.hi) := (by rw [Lib.cell_of_heap HD2.out]; rfl); have e0 : w2.cell? ⟨wq.heap.size, 0, none⟩ = some (.int .i64 b.kind) := (by rw [Lib.cell_of_heap HK2.out]; rfl); have e1 : w2.cell? ⟨wq.heap.size, 1, none⟩ = some (.int .i64 b.lo) := (by rw [Lib.cell_of_heap HK2.out]; rfl); have e2 : w2.cell? ⟨wq.heap.size, 2, none⟩ = some (.int .i64 b.hi) := (by rw [Lib.cell_of_heap HK2.out]; rfl); have f0 := Lib.frozen_of_heap HK2.out 0; have f1 := Lib.frozen_of_heap HK2.out 1; have f2 := Lib.frozen_of_heap HK2.out 2; clear hb2)
                        | fail)
                      go_roundw
                      case rel => exact ⟨i + 1, b, by omega, by go_num, HN.out, HK2.out, HBI.out.trans (HB2.out.mono hszi)⟩
                      case measure => simp [intOf]; omega
                  · have s2 : decide (d.lo ≤ N) = true := decide_eq_true (by omega)
                    have HN := Lib.hid (best_pass (l := l) (most := most) hil HBE.out (by rw [← HD.out]; rintro ⟨_, _, _, h2⟩; exact k2 h2))
                    clear k1 k2
                    go_wp2_with (first
                      | (go_at_call 12; refine (rmay_any d true HM.out _).mono ?_; rintro e w2 ⟨rfl, hb2⟩; have HB2 := Lib.hid (show Below wi.heap.size wi w2 from ((Below.refl _ wi).alloc (Nat.le_refl _) _).trans (hb2.mono (by simp))); have HD2 := Lib.hid (show w2.heap[wi.heap.size]? = some (.cells #[.int .i64 d.kind, .int .i64 d.lo, .int .i64 d.hi] 28 (0, 0)) from (hb2.block _ (by simp)).trans (heap_alloc_new wi _)); have HK2 := Lib.hid ((HB2.out.block _ hbl).trans HK.out); have y0 : w2.cell? ⟨wi.heap.size, 0, none⟩ = some (.int .i64 d.kind) := (by rw [Lib.cell_of_heap HD2.out]; rfl); have y1 : w2.cell? ⟨wi.heap.size, 1, none⟩ = some (.int .i64 d.lo) := (by rw [Lib.cell_of_heap HD2.out]; rfl); have y2 : w2.cell? ⟨wi.heap.size, 2, none⟩ = some (.int .i64 d.hi) := (by rw [Lib.cell_of_heap HD2.out]; rfl); have e0 : w2.cell? ⟨wq.heap.size, 0, none⟩ = some (.int .i64 b.kind) := (by rw [Lib.cell_of_heap HK2.out]; rfl); have e1 : w2.cell? ⟨wq.heap.size, 1, none⟩ = some (.int .i64 b.lo) := (by rw [Lib.cell_of_heap HK2.out]; rfl); have e2 : w2.cell? ⟨wq.heap.size, 2, none⟩ = some (.int .i64 b.hi) := (by rw [Lib.cell_of_heap HK2.out]; rfl); have f0 := Lib.frozen_of_heap HK2.out 0; have f1 := Lib.frozen_of_heap HK2.out 1; have f2 := Lib.frozen_of_heap HK2.out 2; clear hb2)
                      | fail)
                    go_roundw
                    case rel => exact ⟨i + 1, b, by omega, by go_num, HN.out, HK2.out, HBI.out.trans (HB2.out.mono hszi)⟩
                    case measure => simp [intOf]; omega
                · have s1 := beq_no k1
                  have s1' := ne_b k1
                  have HN := Lib.hid (best_pass (l := l) (most := most) hil HBE.out (by rw [← HD.out]; rintro ⟨h2, _⟩; exact k1 h2))
                  clear k1
                  go_wp2_with (first
                    | (go_at_call 12; refine (rmay_any d true HM.out _).mono ?_; rintro e w2 ⟨rfl, hb2⟩; have HB2 := Lib.hid (show Below wi.heap.size wi w2 from ((Below.refl _ wi).alloc (Nat.le_refl _) _).trans (hb2.mono (by simp))); have HD2 := Lib.hid (show w2.heap[wi.heap.size]? = some (.cells #[.int .i64 d.kind, .int .i64 d.lo, .int .i64 d.hi] 28 (0, 0)) from (hb2.block _ (by simp)).trans (heap_alloc_new wi _)); have HK2 := Lib.hid ((HB2.out.block _ hbl).trans HK.out); have y0 : w2.cell? ⟨wi.heap.size, 0, none⟩ = some (.int .i64 d.kind) := (by rw [Lib.cell_of_heap HD2.out]; rfl); have y1 : w2.cell? ⟨wi.heap.size, 1, none⟩ = some (.int .i64 d.lo) := (by rw [Lib.cell_of_heap HD2.out]; rfl); have y2 : w2.cell? ⟨wi.heap.size, 2, none⟩ = some (.int .i64 d.hi) := (by rw [Lib.cell_of_heap HD2.out]; rfl); have e0 : w2.cell? ⟨wq.heap.size, 0, none⟩ = some (.int .i64 b.kind) := (by rw [Lib.cell_of_heap HK2.out]; rfl); have e1 : w2.cell? ⟨wq.heap.size, 1, none⟩ = some (.int .i64 b.lo) := (by rw [Lib.cell_of_heap HK2.out]; rfl); have e2 : w2.cell? ⟨wq.heap.size, 2, none⟩ = some (.int .i64 b.hi) := (by rw [Lib.cell_of_heap HK2.out]; rfl); have f0 := Lib.frozen_of_heap HK2.out 0; have f1 := Lib.frozen_of_heap HK2.out 1; have f2 := Lib.frozen_of_heap HK2.out 2; clear hb2)
                    | fail)
                  go_roundw
                  case rel => exact ⟨i + 1, b, by omega, by go_num, HN.out, HK2.out, HBI.out.trans (HB2.out.mono hszi)⟩
                  case measure => simp [intOf]; omega
            · obtain rfl : n = i := by omega
              have hbk := best_kind HBE.out
              rw [List.take_of_length_le (by rw [← HL.out]; exact Nat.le_refl _)] at hbk
              have e0 : wi.cell? ⟨wq.heap.size, 0, none⟩ = some (.int .i64 b.kind) := by rw [Lib.cell_of_heap HK.out]; rfl
              have e1 : wi.cell? ⟨wq.heap.size, 1, none⟩ = some (.int .i64 b.lo) := by rw [Lib.cell_of_heap HK.out]; rfl
              have e2 : wi.cell? ⟨wq.heap.size, 2, none⟩ = some (.int .i64 b.hi) := by rw [Lib.cell_of_heap HK.out]; rfl
              have HOI := Lib.hid (HOQ.out.keepB HBI.out)
              have HBF := Lib.hid (HBQ.out.trans (HBI.out.mono hszq))
              clear hsl hlt hi
              rcases hbk with ⟨hk0, _, hno⟩ | ⟨hk2, hel, hlo, hfo⟩
              · have r1 := eq_b hk0
                have HFIN : Hid (Chosen l most (b0 ++ g)) := Lib.hid ⟨b0, g, rfl, HIB.out, by rw [← HN0.out]; exact sofar_end HSO.out hno⟩
                clear hk0 hno
                go_wp2_with fail
                go_ret
                exact ⟨A3, m3, c3, _, rfl, HFIN.out, HOI.out.sl, HBF.out⟩
              · have r1 : (b.kind == 0) = false := beq_no (by omega)
                have hmb := may_b hel.2.2.1
                have HSN := Lib.hid (sofar_snoc HSO.out hel hlo hfo)
                have HBOK := Lib.hid (may_ok hel.2.2.1)
                have hbl2 : wq.heap.size < wi.heap.size := hbl
                clear hk2 hel hfo
                go_wp2_with (first
                  | (at_builtin; refine apl1 (T := tDD) elemDD wi w rfl (.tmp 133) (.tmp 135) rfl w.heap.size A3 m3 c3 _ rfl (fun _ => False) (fun _ => False) HOI.out.ownF HBF.out (Nat.le_refl _) _ rfl [.int .i64 b.kind, .int .i64 b.lo, .int .i64 b.hi] b ⟨rfl, HBOK.out⟩ 28 rfl (fun _ _ _ _ h => h) (by omega) ?_; intro A5 c5 w5 h5; have hne5 : some wq.heap.size ≠ A3.map (·.block) := (by intro e; cases A3 with | none => cases e | some a => have hl := HOQ.out.row.lt a.block rfl; simp at e; omega); have v2 := gcell h5.grown (kcell ((Below.refl _ wi).alloc (Nat.le_refl _) _) e2) hne5)
                  | fail)
                go_roundw
                case rel => exact ⟨A5, m3 + 1, c5, b.hi, g ++ [b], rfl, rfl, by omega, by omega, HSN.out, by rw [← List.append_assoc]; exact ownD_of h5.own, h5.below, by simp; omega⟩
                case measure => simp [intOf]; omega
end Go.Proofs.YtollmolchcnpeaaDoor
