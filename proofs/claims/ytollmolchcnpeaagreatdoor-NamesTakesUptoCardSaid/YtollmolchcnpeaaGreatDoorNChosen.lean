/- names.Chosen: which directories are read. -/
import Derived.Test.YtollmolchcnpeaaGreatDoorNOf
import Derived.Deep.CutRange
import Derived.Deep.RegionHeld3
namespace Go.Proofs.YtollmolchcnpeaaGreatDoor
open Go Go.RowKit

theorem at_app {P : Program} {ops : Array Oper} {o : Oper} {a : Act} {w : World} {Q : Exit → Act → World → Prop} {K : Act → World → Prop} {E' : Prop} (s x : Operand) (t : TypeId) (_ : o.op = .call { callee := .builtin .append, args := #[s, x], argTypes := #[t, t] })
    (h : if Region.wanted o (yielded ops a.tmps) = true then Oper.wp P o a w K Q else E') : if Region.wanted o (yielded ops a.tmps) = true then Oper.wp P o a w K Q else E' := h
theorem gcell {w w' : World} {row : Option Nat} {b j : Nat} {v : Value} (hg : w.grownBy w' row) (h : w.cell? ⟨b, j, none⟩ = some v) (hne : some b ≠ row) : w'.cell? ⟨b, j, none⟩ = some v :=
  (World.cell?_of_block (a := ⟨b, j, none⟩) (hg.block b (World.block_lt_of_cell? w _ h) hne)).trans h
theorem OwnD.grown {w w' : World} {B n c : Nat} {A : Option Addr} {l : List DD} {row : Option Nat} (h : OwnD w B A n c l) (hg : w.grownBy w' row) (hne : ∀ b, A = some ⟨b, 0, none⟩ → some b ≠ row) : OwnD w' B A n c l :=
  ⟨own_keep h.row fun b hb => hg.block b (h.row.lt b hb).2 (hne b (own_off h.row hb).1), h.ok⟩
def ChPost (l : List DD) (most : Int) (w : World) (e : Ending) (w' : World) : Prop := ∃ A' m c' r, e = .returned (.slice A' m c') ∧ Chosen l most r ∧ Sl tDD (fun b => w.heap.size ≤ b) w' A' m c' r ∧ Below w.heap.size w w'
/-- The last To of those that are picked. -/
def lastHi (n : Int) (g : List DD) : Int := match g.getLast? with | some d => d.hi | none => n
theorem pick_next (n : Int) (A : List DD) (d : DD) : pick n (A ++ [d]) = pick n A ++ (if lastHi n (pick n A) < d.lo then [d] else []) := by
  rw [pick_snoc]
  unfold lastHi
  rfl
theorem lastHi_snoc (n : Int) (g : List DD) (d : DD) : lastHi n (g ++ [d]) = d.hi := by unfold lastHi; simp
theorem lastHi_i64 {n : Int} {g : List DD} (hn : i64 n) (hg : ∀ d ∈ g, d.ok) : i64 (lastHi n g) := by
  unfold lastHi
  cases h : g.getLast? with
  | none => exact hn
  | some d => exact (hg d (List.mem_of_getLast? h)).2.2

set_option maxRecDepth 100000 in
set_option maxHeartbeats 4000000 in
theorem chosen_any (F : Nat → Prop) (A : Option Addr) (n c : Nat) (l : List DD) (most : Int) (w : World) (h : Sl tDD F w A n c l) (hn : n ≤ 34359738368) :
    Calls Tryz.prog 9 #[.slice A n c, .int .i64 most] w (ChPost l most w) := by
  have HN := Lib.hid h.len
  obtain ⟨wb, hwb⟩ : ∃ wb, wb = (w.alloc (.cells #[.slice A n c] 30)).alloc (.cells #[.int .i64 most] 3) := ⟨_, rfl⟩
  have hsb : wb.heap.size = w.heap.size + 2 := by rw [hwb]; simp
  have hbb : Below w.heap.size w wb := by rw [hwb]; exact balloc ((Below.refl _ _).alloc (Nat.le_refl _) _) _
  have hk1 : wb.heap[w.heap.size]? = some (.cells #[.slice A n c] 30 (0, 0)) := by
    rw [hwb]
    exact (((Below.refl _ (w.alloc (.cells #[.slice A n c] 30))).alloc (Nat.le_refl _) _).block _ (by simp)).trans (heap_alloc_new w _)
  have hk2 : wb.heap[w.heap.size + 1]? = some (.cells #[.int .i64 most] 3 (0, 0)) := by
    rw [hwb]
    have := heap_alloc_new (w.alloc (.cells #[.slice A n c] 30)) (.cells #[.int .i64 most] 3)
    rwa [World.size_alloc] at this
  have HLC := Lib.hid (show wb.cell? ⟨w.heap.size, 0, none⟩ = some (.slice A n c) by rw [Lib.cell_of_heap hk1]; rfl)
  have HMC := Lib.hid (show wb.cell? ⟨w.heap.size + 1, 0, none⟩ = some (.int .i64 most) by rw [Lib.cell_of_heap hk2]; rfl)
  have HH := Lib.hid (h.below hbb (Nat.le_refl _))
  have HBB := Lib.hid hbb
  have HSB := Lib.hid hsb
  have HWB := Lib.hid hwb
  have hltb : w.heap.size < wb.heap.size := by omega
  clear h hk1 hk2 hbb hsb hwb
  go_enter Tryz.func9, Tryz.ntmps9
  go_upto_region 4 with fail
  rw [← HWB.out]
  clear HWB
  go_upto_if 16 with (first
    | (go_at_call 19; refine (of_any 1 most w.heap.size (w.heap.size + 1) F A n c l _ HLC.out HMC.out HH.out hn).mono ?_; rintro e w2 ⟨A1, m1, c1, l1, rfl, hp1, hs1, ho1, hb1⟩; have HP1 := Lib.hid hp1; have HS1 := Lib.hid hs1; have HO1 := Lib.hid ho1; have HB1 := Lib.hid hb1; have hz2 := hb1.size; clear hp1 hs1 ho1 hb1)
    | fail)
  go_cut [6, 7] from 16 to 22 (fun out nv wx => ∃ (A0 : Option Addr) (m0 c0 : Nat) (b0 : List DD), out = .slice A0 m0 c0 ∧ nv = .int .i64 (lastOf b0) ∧ IsBase (El l 1 most) b0 ∧ OwnD wx wb.heap.size A0 m0 c0 b0 ∧ Below wb.heap.size wb wx ∧ i64 (lastOf b0) ∧ b0.length ≤ 1)
  case first =>
    cases l1 with
    | nil =>
      obtain rfl : m1 = 0 := HO1.out.len
      have HIB : Hid (IsBase (El l 1 most) []) := Lib.hid (fun x hx => by
        have := HP1.out.mem_iff.2 (keepB_iff.2 hx)
        simp at this)
      go_wp2_with fail
      go_meet
      exact ⟨none, 0, 0, [], rfl, rfl, HIB.out, ⟨World.ownsRow_nil _ _ _ _, by simp⟩, HB1.out, show i64 0 by unfold i64; omega, by simp⟩
    | cons b r =>
      have hm1 : m1 = r.length + 1 := HO1.out.len
      obtain ⟨g, rfl⟩ : ∃ g, A1 = some ⟨g, 0, none⟩ := by
        rcases HO1.out.row.2 with ⟨_, h2⟩ | ⟨g, cap, cur, h1, _⟩
        · omega
        · injection h1 with h1; exact ⟨g, h1⟩
      have hel : El l 1 most b := keepB_iff.1 (HP1.out.mem_iff.1 (by simp))
      have HIB : Hid (IsBase (El l 1 most) [b]) := Lib.hid ⟨hel, fun x hx => by
        have hx1 := HP1.out.mem_iff.2 (keepB_iff.2 hx)
        rcases List.mem_cons.1 hx1 with rfl | hx2
        · exact Int.le_refl _
        · have hf := (List.pairwise_cons.1 HS1.out).1 x hx2
          have e1 := (may_iff b).1 hel.2.2.1
          have e2 := (may_iff x).1 hx.2.2.1
          have k1 := hel.2.1
          have k2 := hx.2.1
          unfold Fore at hf
          omega⟩
      have hbok := HO1.out.ok b (by simp)
      obtain ⟨z0, z1, z2⟩ := HO1.out.cell (i := 0) (by simp)
      have hc2 : w2.cell? ⟨g, 2, none⟩ = some (.int .i64 b.hi) := z2
      have HFR := Lib.hid (show OwnD w2 wb.heap.size (some ⟨g, 0, none⟩) 1 c1 [b] from HO1.out.front (k := 1) (by omega) (by simp))
      have hcap := HO1.out.cap.1
      have q1 : (0 : Int) < (m1 : Int) := by omega
      have q2 : (1 : Int) ≤ (m1 : Int) := by omega
      have q3 : (1 : Int) ≤ (c1 : Int) := by omega
      have q4 : 0 < m1 := by omega
      have q5 : 1 ≤ c1 := by omega
      have q6 : 1 ≤ m1 := by omega
      have HOK := Lib.hid hbok
      clear z0 z1 z2 hm1 hel hbok
      go_wp2_with fail
      go_quiet (fail)
      go_wp2_with fail
      go_meet
      exact ⟨some ⟨g, 0, none⟩, 1, c1, [b], rfl, rfl, HIB.out, HFR.out.keepB (bdrewN (Below.refl _ _) _), bdrewN HB1.out _, HOK.out.2.2, by simp⟩
  case rest =>
    obtain ⟨A0, m0, c0, b0, rfl, rfl, hib, ho0, hb0, hi0, hl0⟩ := hcut
    rename World => w3
    have HIB := Lib.hid hib; have HO0 := Lib.hid ho0; have HB0 := Lib.hid hb0; have HI0 := Lib.hid hi0
    have hz3 := hb0.size
    have HL3 := Lib.hid (kcell hb0 HLC.out)
    have HM3 := Lib.hid (kcell hb0 HMC.out)
    have HH3 := Lib.hid (HH.out.below hb0 (Nat.le_refl _))
    obtain ⟨n0, hn0⟩ : ∃ n0, n0 = lastOf b0 := ⟨_, rfl⟩
    rw [← hn0]
    have HN0 := Lib.hid hn0
    clear hib ho0 hb0 hi0 hn0 HO1 HP1 HS1 HB1 hz2
    go_wp2_with (first
      | (go_at_call 19; refine (of_any 2 most w.heap.size (w.heap.size + 1) F A n c l _ HL3.out HM3.out HH3.out hn).mono ?_; rintro e w4 ⟨A2, m2, c2, L, rfl, hp2, hs2, ho2, hb4⟩; have HP2 := Lib.hid hp2; have HS2 := Lib.hid hs2; have HO2 := Lib.hid ho2; have HB4 := Lib.hid hb4; have hz4 : w3.heap.size ≤ w4.heap.size := hb4.size; have hm2 : m2 ≤ n := (by rw [ho2.len, HN.out, hp2.length_eq]; exact List.length_filter_le _ _); clear hp2 hs2 ho2 hb4)
      | fail)
    have HLm : Hid (m2 = L.length) := Lib.hid HO2.out.len
    have HMAY : Hid (∀ d ∈ L, may d = true) := Lib.hid fun d hd => (keepB_may (List.mem_filter.1 (HP2.out.mem_iff.1 hd)).2).2.1
    go_loopw [6, 7, 26] (fun ov nv iv wr => ∃ (j : Nat) (A3 : Option Addr) (m3 c3 : Nat) (N : Int), j ≤ m2 ∧ iv = .int .i64 (j : Int) ∧ ov = .slice A3 m3 c3 ∧ nv = .int .i64 N ∧ N = lastHi n0 (pick n0 (L.take j)) ∧ OwnD wr w.heap.size A3 m3 c3 (b0 ++ pick n0 (L.take j)) ∧ (∀ b, A3 = some ⟨b, 0, none⟩ → b < w3.heap.size ∨ w4.heap.size ≤ b) ∧ m3 ≤ j + 1 ∧ OwnD wr w3.heap.size A2 m2 c2 L ∧ Below w.heap.size w wr ∧ w4.heap.size ≤ wr.heap.size)
      (fun _ _ iv _ => m2 - (intOf iv).toNat)
    case atStart =>
      refine ⟨0, A0, m0, c0, n0, Nat.zero_le _, rfl, rfl, rfl, rfl, ?_, fun b hb => .inl ?_, ?_, HO2.out, HBB.out.trans ((HB0.out.trans (HB4.out.mono hz3)).mono (Nat.le_of_lt hltb)), Nat.le_refl _⟩
      · show OwnD w4 w.heap.size A0 m0 c0 (b0 ++ [])
        rw [List.append_nil]
        exact (HO0.out.keepB HB4.out).down (Nat.le_of_lt hltb)
      · subst hb; exact HO0.out.base.2
      · rw [HO0.out.len]; omega
    case round =>
      obtain ⟨j, A3, m3, c3, N, hj, rfl, rfl, rfl, hNN, ho3, hA3, hm3, hoL, hbr, hzr⟩ := hrel
      have HNN := Lib.hid hNN; have HO3 := Lib.hid ho3; have HA3 := Lib.hid hA3; have HOL := Lib.hid hoL; have HBR := Lib.hid hbr
      have hwr := hbr.size
      clear hNN ho3 hA3 hoL hbr
      by_cases hlt : j < m2
      · have hjL : j < L.length := by rw [← HLm.out]; exact hlt
        obtain ⟨g, rfl⟩ : ∃ g, A2 = some ⟨g, 0, none⟩ := by
          rcases HOL.out.row.2 with ⟨_, h2⟩ | ⟨g, cap, cur, h1, _⟩
          · omega
          · injection h1 with h1; exact ⟨g, h1⟩
        obtain ⟨x0, x1, x2⟩ := HOL.out.cell hjL
        have hg4 : w3.heap.size ≤ g ∧ g < w4.heap.size := HO2.out.base
        obtain ⟨d, hd⟩ : ∃ d, d = L[j] := ⟨_, rfl⟩
        rw [← hd] at x0 x1 x2
        have hdm : d ∈ L := by rw [hd]; exact List.getElem_mem hjL
        have HDOK := Lib.hid (HOL.out.ok d hdm)
        have hpn := pick_next n0 (L.take j) d
        have htk : L.take (j + 1) = L.take j ++ [d] := by rw [List.take_succ_eq_append_getElem hjL, ← hd]
        rw [← htk, ← HNN.out] at hpn
        have hi1 : (0 : Int) ≤ (j : Int) := by omega
        have hi2 : (j : Int) < (m2 : Int) := by omega
        clear hd hdm htk
        by_cases hgt : N < d.lo
        · rw [if_pos hgt] at hpn
          have HPN := Lib.hid hpn
          clear hpn
          obtain ⟨wd, hwd⟩ : ∃ wd, wd = wr.alloc (.cells #[.int .i64 d.kind, .int .i64 d.lo, .int .i64 d.hi] 24) := ⟨_, rfl⟩
          have hkd : wd.heap[wr.heap.size]? = some (.cells #[.int .i64 d.kind, .int .i64 d.lo, .int .i64 d.hi] 24 (0, 0)) := by rw [hwd]; exact heap_alloc_new wr _
          have y0 : wd.cell? ⟨wr.heap.size, 0, none⟩ = some (.int .i64 d.kind) := by rw [Lib.cell_of_heap hkd]; rfl
          have y1 : wd.cell? ⟨wr.heap.size, 1, none⟩ = some (.int .i64 d.lo) := by rw [Lib.cell_of_heap hkd]; rfl
          have y2 : wd.cell? ⟨wr.heap.size, 2, none⟩ = some (.int .i64 d.hi) := by rw [Lib.cell_of_heap hkd]; rfl
          have hbd : Below wr.heap.size wr wd := by rw [hwd]; exact (Below.refl _ _).alloc (Nat.le_refl _) _
          have HO3d := Lib.hid (HO3.out.keepB hbd)
          have HOLd := Lib.hid (HOL.out.keepB hbd)
          have HBD := Lib.hid (HBR.out.trans (hbd.mono hwr))
          have hzd : wd.heap.size = wr.heap.size + 1 := by rw [hwd]; simp
          have HZD := Lib.hid hzd
          have HWD := Lib.hid hwd
          have hA3r : ∀ b, A3 = some ⟨b, 0, none⟩ → b < wr.heap.size := fun b hb => by subst hb; exact HO3.out.base.2
          have HA3R := Lib.hid hA3r
          clear hwd hkd hbd hzd hA3r
          go_upto_region 11 with fail
          rw [← HWD.out]
          clear HWD x0 x1 x2
          go_region_held3 (fun w' => w'.cell? ⟨wr.heap.size, 0, none⟩ = some (.int .i64 d.kind) ∧ w'.cell? ⟨wr.heap.size, 1, none⟩ = some (.int .i64 d.lo) ∧ w'.cell? ⟨wr.heap.size, 2, none⟩ = some (.int .i64 d.hi))
            (first | exact ⟨y0, y1, y2⟩ | exact ⟨kcell ((Below.refl _ wd.drew).alloc (Nat.le_refl _) _) y0, kcell ((Below.refl _ wd.drew).alloc (Nat.le_refl _) _) y1, kcell ((Below.refl _ wd.drew).alloc (Nat.le_refl _) _) y2⟩ | exact ⟨gcell h5.grown (kcell ((Below.refl _ wd.drew).alloc (Nat.le_refl _) _) y0) hne5, gcell h5.grown (kcell ((Below.refl _ wd.drew).alloc (Nat.le_refl _) _) y1) hne5, gcell h5.grown (kcell ((Below.refl _ wd.drew).alloc (Nat.le_refl _) _) y2) hne5⟩ | go_keep)
            (first
              | ((with_reducible refine at_app (.tmp 34) (.tmp 36) _ rfl ?_); refine step_apl1 (T := tDD) elemDD wd.drew w rfl (.tmp 34) (.tmp 36) rfl w.heap.size A3 m3 c3 _ rfl (fun _ => False) (fun _ => False) (HO3d.out.keepB ((Below.refl _ _).drew)).ownF HBD.out.drew (Nat.le_refl _) _ rfl [.int .i64 d.kind, .int .i64 d.lo, .int .i64 d.hi] d ⟨rfl, HDOK.out⟩ 24 rfl (fun _ _ _ _ h => h) (by omega) ?_; intro A5 c5 w5 h5; have hne5 : some wr.heap.size ≠ A3.map (·.block) := (by intro e; cases A3 with | none => cases e | some a => have hl := HO3.out.row.lt a.block rfl; simp at e; omega))
              | fail)
          all_goals
            go_wp2_with fail
            go_roundw
            case rel =>
              refine ⟨j + 1, A5, m3 + 1, c5, d.hi, by omega, by go_num, rfl, rfl, by rw [HPN.out, lastHi_snoc], by rw [HPN.out, ← List.append_assoc]; exact ownD_of h5.own, fun b hb => ?_, by omega, ?_, h5.below, ?_⟩
              · rcases h5.lies with h6 | h6
                · rw [hb] at h6
                  cases A3 with
                  | none => cases h6
                  | some a =>
                    simp at h6
                    have := (own_off HO3.out.row (b := a.block) rfl).1
                    exact HA3.out b (by rw [this, h6])
                · rw [hb] at h6
                  simp at h6
                  have := HZD.out
                  right; rw [h6]; omega
              · refine OwnD.grown (w := (wd.drew).alloc (.cells #[.int .i64 d.kind, .int .i64 d.lo, .int .i64 d.hi] 24)) (HOLd.out.keepB (((Below.refl _ wd).drew).alloc (Nat.le_refl _) _)) h5.grown fun b hb e => ?_
                cases A3 with
                | none => cases e
                | some a =>
                  simp at e
                  have h7 := (own_off HO3.out.row (b := a.block) rfl).1
                  have h8 := HA3.out a.block h7
                  injection hb with hb; injection hb with hb _ _
                  subst hb
                  omega
              · have := h5.grown.size
                rw [World.size_alloc] at this
                have h9 := HZD.out
                show w4.heap.size ≤ w5.heap.size
                have h10 : wd.drew.heap.size = wd.heap.size := rfl
                omega
            case measure => simp [intOf]; omega
        · rw [if_neg hgt, List.append_nil] at hpn
          have HPN := Lib.hid hpn
          have hgt' : decide (N < d.lo) = false := decide_eq_false hgt
          clear hpn
          go_wp2_with fail
          go_roundw
          case rel => exact ⟨j + 1, A3, m3, c3, N, by omega, by go_num, rfl, rfl, by rw [HPN.out]; exact HNN.out, by rw [HPN.out]; exact HO3.out.keepB ((Below.refl _ _).alloc (Nat.le_refl _) _), HA3.out, by omega, HOL.out.keepB ((Below.refl _ _).alloc (Nat.le_refl _) _), HBR.out.alloc hwr _, by simp; omega⟩
          case measure => simp [intOf]; omega
      · obtain rfl : j = m2 := by omega
        have HFIN : Hid (Chosen l most (b0 ++ pick n0 (L.take j))) := Lib.hid (by
          rw [List.take_of_length_le (by rw [← HLm.out]; exact Nat.le_refl _)]
          refine ⟨b0, pick n0 L, rfl, HIB.out, ?_⟩
          rw [← HN0.out]
          exact grow_congr (fun x => by rw [← keepB_iff]; exact HP2.out.mem_iff) _ _ (pick_grow L n0 HS2.out fun x hx => (may_b (HMAY.out x hx)).2.1))
        go_wp2_with fail
        go_ret
        exact ⟨A3, m3, c3, _, rfl, HFIN.out, HO3.out.sl, HBR.out⟩
end Go.Proofs.YtollmolchcnpeaaGreatDoor
