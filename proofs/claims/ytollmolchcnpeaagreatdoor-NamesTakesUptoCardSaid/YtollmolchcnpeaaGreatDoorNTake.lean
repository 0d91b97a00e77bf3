/- names.Take: a directory by its name. -/
import Derived.Test.YtollmolchcnpeaaGreatDoorNSpl
import Derived.Deep.CutRange
namespace Go.Proofs.YtollmolchcnpeaaGreatDoor
open Go Go.RowKit

theorem results_row3 {P : Program} {fn : Func} {p u v : Tmp} {ty : TypeId} (h : fn.results = #[.cell p ty, .tmp u, .tmp v]) (tmps : Array Value) (w : World) (g : Nat) (t : TypeId) (cs : Array Value) (fr : Nat × Nat) (d : TypeDesc)
    (hp : tmps.getD p undef = .pointer (some ⟨g, 0, none⟩)) (hg : w.heap[g]? = some (.cells cs t fr))
    (hu : P.underlying ty = some d) (hd : (match d with | .struct _ | .array _ _ => true | _ => false) = true) (hi : (P.info? ty).map (·.size) = some cs.size) :
    (results fn tmps).run P w = .ok (.tuple #[.agg cs, tmps.getD u undef, tmps.getD v undef]) w := by
  have hp' : tmps[p]?.getD undef = .pointer (some ⟨g, 0, none⟩) := by simpa using hp
  simp [results, h, hp', asAddr, run_loadVar_row w g t ty cs fr d hg hu hd hi]
theorem results_row2 {P : Program} {fn : Func} {p u : Tmp} {ty : TypeId} (h : fn.results = #[.cell p ty, .tmp u]) (tmps : Array Value) (w : World) (g : Nat) (t : TypeId) (cs : Array Value) (fr : Nat × Nat) (d : TypeDesc)
    (hp : tmps.getD p undef = .pointer (some ⟨g, 0, none⟩)) (hg : w.heap[g]? = some (.cells cs t fr))
    (hu : P.underlying ty = some d) (hd : (match d with | .struct _ | .array _ _ => true | _ => false) = true) (hi : (P.info? ty).map (·.size) = some cs.size) :
    (results fn tmps).run P w = .ok (.tuple #[.agg cs, tmps.getD u undef]) w := by
  have hp' : tmps[p]?.getD undef = .pointer (some ⟨g, 0, none⟩) := by simpa using hp
  simp [results, h, hp', asAddr, run_loadVar_row w g t ty cs fr d hg hu hd hi]
def NtPost (s : List UInt8) (w : World) (e : Ending) (w' : World) : Prop := ∃ d b, e = .returned (.tuple #[.agg #[.int .i64 d.kind, .int .i64 d.lo, .int .i64 d.hi], .bool b]) ∧ ntake s = (d, b) ∧ Below w.heap.size w w'

theorem word_p (k : Int) (p : List UInt8) (hp : p = word k) (w : World) : Calls Tryz.prog 13 #[.int .i64 k] w fun e w' => e = .returned (.string ⟨p.toArray⟩) ∧ w = w' := by subst hp; exact word_any k w
theorem beq_yes {a b : Int} (h : a = b) : (a == b) = true := by simpa using h
/-- The kind in the loop's cell. -/
def kindAt (b : Nat) (w : World) : Int := match w.cell? ⟨b, 0, none⟩ with | some (.int _ k) => k | _ => 0
theorem kindAt_row {b : Nat} {w : World} {k : Int} {x y : Value} {t : TypeId} {fr : Nat × Nat} (h : w.heap[b]? = some (.cells #[.int .i64 k, x, y] t fr)) : kindAt b w = k := by
  unfold kindAt
  rw [Lib.cell_of_heap h]
  rfl
def zrow : Obj := .cells #[.int .i64 0, .int .i64 0, .int .i64 0] 24 (0, 0)
abbrev NtS (D B R : Nat) (d : DD) (p0 : List UInt8) (sp : Obj) (w1 w' : World) : Prop := w'.cell? ⟨D, 0, none⟩ = some (.int .i64 d.kind) ∧ w'.cell? ⟨D, 1, none⟩ = some (.int .i64 d.lo) ∧ w'.cell? ⟨D, 2, none⟩ = some (.int .i64 d.hi) ∧ w'.cell? ⟨B, 0, none⟩ = some (.string ⟨p0.toArray⟩) ∧
  Hid (Tab w' ∧ Below w1.heap.size w1 w' ∧ w1.heap.size ≤ w'.heap.size ∧ w'.heap[D]? = some (.cells #[.int .i64 d.kind, .int .i64 d.lo, .int .i64 d.hi] 24 (0, 0)) ∧ w'.heap[R]? = some zrow ∧ w'.heap[B]? = some sp)
theorem blk_lt {w : World} {b : Nat} {o : Obj} (h : w.heap[b]? = some o) : b < w.heap.size := (Array.getElem?_eq_some_iff.1 h).1
theorem ntS_keep {D B R : Nat} {d : DD} {p0 : List UInt8} {sp : Obj} {w0 w1 w2 : World} (h : NtS D B R d p0 sp w0 w1) (hb : Below w1.heap.size w1 w2) : NtS D B R d p0 sp w0 w2 := by
  obtain ⟨h1, h2, h3, h4, h5⟩ := h
  obtain ⟨k1, k2, k3, k4, k5, k6⟩ := h5.out
  exact ⟨kcell hb h1, kcell hb h2, kcell hb h3, kcell hb h4, Lib.hid ⟨k1.below hb, bthen k2 hb, Nat.le_trans k3 hb.size, (hb.block _ (blk_lt k4)).trans k4, (hb.block _ (blk_lt k5)).trans k5, (hb.block _ (blk_lt k6)).trans k6⟩⟩

set_option maxRecDepth 100000 in
set_option maxHeartbeats 8000000 in
theorem ntake_ok (s : List UInt8) (hs : s.length < 4294967281) (mx : Int) (w : World) (hm : w.cell? ⟨2, 0, none⟩ = some (.int .i64 mx)) (ht : Tab w) (p0 : List UInt8) (ps : List (List UInt8)) (hp : pieces s = p0 :: ps) (hne : ps ≠ []) (hpl : ps.length ≤ 4294967296) (ns : List Int) (hn : Nums ps ns) :
    Calls Tryz.prog 5 #[.string ⟨s.toArray⟩] w (NtPost s w) := by
  obtain ⟨n, hn1⟩ : ∃ n, n = (p0 :: ps).length := ⟨_, rfl⟩
  obtain ⟨B, hB⟩ : ∃ B, B = (w.alloc (.cells #[.int .i64 0, .int .i64 0, .int .i64 0] 24)).heap.size := ⟨_, rfl⟩
  have hB1 : B = w.heap.size + 1 := by rw [hB]; simp
  have hle : ∀ p ∈ ps, p.length ≤ 9223372036854775806 := fun p h => by
    have := pieces_len (s := s) (p := p) (by rw [hp]; exact List.mem_cons_of_mem _ h)
    omega
  have HLE := Lib.hid hle
  obtain ⟨N, hN⟩ : ∃ N, N = ps.length := ⟨_, rfl⟩
  have hnz : n = N + 1 := by rw [hn1, hN]; rfl
  have hN0 : N ≠ 0 := by rw [hN]; exact fun h => hne (List.length_eq_zero_iff.1 h)
  have q1 : (1 : Int) ≤ (n : Int) := by omega
  have q2 : 1 ≤ n := by omega
  have q4 : 1 < n := by omega
  have q5 : ¬ n = 1 := by omega
  have q6 : n - 1 = N := by omega
  have q7 : ¬ N = 0 := hN0
  have q8 : N ≤ 4294967296 := by omega
  have q3 : n ≤ 4294967297 := by omega
  have HB0 := Lib.hid (show Below w.heap.size w (w.alloc (.cells #[.int .i64 0, .int .i64 0, .int .i64 0] 24)) from (Below.refl _ _).alloc (Nat.le_refl _) _)
  have HM := Lib.hid hm; have HT := Lib.hid ht; have HP := Lib.hid hp; have HN := Lib.hid hn; have HN1 := Lib.hid hn1; have HBE := Lib.hid hB; have HNZ := Lib.hid hnz; have HNL := Lib.hid hN; have HB1E := Lib.hid hB1
  clear hm ht hp hn hn1 hB hle hnz hN hB1 hne hpl hN0
  go_enter Tryz.func5, Tryz.ntmps5
  go_wp2_with (first
    | (go_at_call 11; refine (split_p s hs mx _ (kcell HB0.out HM.out) _ HP.out n HN1.out B HBE.out).mono ?_; rintro e w1 ⟨rfl, hk1, hb1, hz1⟩; have HSP := Lib.hid hk1; have HB1 := Lib.hid (HB0.out.trans (hb1.mono (by simp))); have HR1 := Lib.hid (show w1.heap[w.heap.size]? = some (.cells #[.int .i64 0, .int .i64 0, .int .i64 0] 24 (0, 0)) from (hb1.block _ (by simp)).trans (heap_alloc_new w _)); clear hk1 hb1)
    | fail)
  go_loopw [5, 16] (fun nv iv wr => ∃ (t : Nat) (A : Option Addr) (c : Nat), t ≤ N ∧ iv = .int .i64 (t : Int) ∧ nv = .slice A t c ∧ OwnF tI64 3 (fun _ => False) wr w1.heap.size A t c (ns.take t) ∧ Below w1.heap.size w1 wr)
    (fun _ iv _ => N - (intOf iv).toNat)
  case atStart => exact ⟨0, none, 0, Nat.zero_le _, rfl, rfl, OwnF.nil_ _ _ _ _ _, Below.refl _ _⟩
  case round =>
    obtain ⟨t, A, c, htl, rfl, rfl, ho, hb⟩ := hrel
    have HO := Lib.hid ho; have HB := Lib.hid hb
    have hsz := hb.size
    have hsp := (hb.block B (by have := HB1E.out; omega)).trans HSP.out
    have HTL := Lib.hid htl
    clear ho hb
    by_cases hlt' : t < N
    · have hlt : t < ps.length := by rw [← HNL.out]; exact hlt'
      obtain ⟨v, hv, hv2, hv3⟩ := nums_get HN.out hlt
      obtain ⟨p, hp⟩ : ∃ p, p = ps[t] := ⟨_, rfl⟩
      have y0 : wr.cell? ⟨B, 1 + t, none⟩ = some (.string ⟨p.toArray⟩) := by
        rw [Lib.cell_of_heap hsp, hp, Nat.add_comm]
        simp [hlt]
      have hpl2 : p.length ≤ 9223372036854775806 := HLE.out p (by rw [hp]; exact List.getElem_mem _)
      rw [← hp] at hv
      have HV := Lib.hid hv; have HV2 := Lib.hid hv2; have HV3 := Lib.hid hv3
      have i1 : (0 : Int) ≤ (t : Int) := by omega
      have i2 : (t : Int) < (N : Int) := by omega
      clear hsp hp hv hv2 hv3
      go_wp2_with (first
        | (go_at_call 12; refine (atoi_p p v HV.out hpl2 _).mono ?_; rintro e w3 ⟨rfl, hb3⟩; have HB3 := Lib.hid hb3; have HO3 := Lib.hid (HO.out.keepB hb3); clear hb3)
        | (at_builtin; refine apl1 (T := tI64) elemInt w3 w1 rfl (.tmp 28) (.tmp 30) rfl w1.heap.size A t c _ rfl (fun _ => False) (fun _ => False) HO3.out (HB.out.trans (HB3.out.mono hsz)) (Nat.le_refl _) _ rfl [.int .i64 v] v ⟨rfl, HV2.out⟩ 3 rfl (fun _ _ _ _ h => h) (by omega) ?_; intro A5 c5 w5 h5)
        | fail)
      go_roundw
      case rel => exact ⟨t + 1, A5, c5, by omega, by go_num, rfl, by rw [HV3.out]; exact h5.own.weaken (fun _ h _ => h.1.elim id id) (fun _ _ _ _ h => h), h5.below⟩
      case measure => simp [intOf]; omega
    · obtain rfl : t = N := by omega
      have hnl : ns.length = t := by
        have := congrArg List.length HN.out
        simp only [List.length_map] at this
        rw [← this, ← HNL.out]
      rw [List.take_of_length_le (by omega)] at HO
      obtain ⟨lo, hi, hlh⟩ : ∃ lo hi, lohi ns = (lo, hi) := ⟨_, _, rfl⟩
      have HLH := Lib.hid hlh
      obtain ⟨wd, hwd⟩ : ∃ wd, wd = wr.alloc (.cells #[.int .i64 0, .int .i64 0, .int .i64 0] 24) := ⟨_, rfl⟩
      have hbd : Below wr.heap.size wr wd := by rw [hwd]; exact (Below.refl _ _).alloc (Nat.le_refl _) _
      have HDD := Lib.hid (show wd.heap[wr.heap.size]? = some (.cells #[.int .i64 0, .int .i64 0, .int .i64 0] 24 (0, 0)) by rw [hwd]; exact heap_alloc_new _ _)
      have HBD := Lib.hid hbd
      have HWD := Lib.hid hwd
      have HHN := Lib.hid hnl
      clear hwd hlh hbd hsp hnl
      go_upto_region 12 with fail
      rw [← HWD.out]
      clear HWD
      go_cut [34] from 33 to 33 (fun v wx => v = .int .i64 (t : Int) ∧ wx = wd)
      case first =>
        go_wp2_with fail
        go_meet
        exact ⟨rfl, rfl⟩
      obtain ⟨rfl, hwc⟩ := hcut
      rw [hwc]
      clear hwc
      refine ‹∀ (a : Act) (w_1 : World), Code.wp _ _ _ a w_1 → _› _ _ ?_
      go_cut [] from 35 to 50 (fun wx => wx.heap[wr.heap.size]? = some (.cells #[.int .i64 0, .int .i64 lo, .int .i64 hi] 24 (0, 0)) ∧ Below wr.heap.size wr wx ∧ wr.heap.size < wx.heap.size)
      case first =>
        have hsz0 := blk_lt HDD.out
        have f1 := Lib.frozen_of_heap HDD.out 1
        have f2 := Lib.frozen_of_heap HDD.out 2
        have g1 : wd.cell? ⟨wr.heap.size, 1, none⟩ = some (.int .i64 0) := by rw [Lib.cell_of_heap HDD.out]; rfl
        have g2 : wd.cell? ⟨wr.heap.size, 2, none⟩ = some (.int .i64 0) := by rw [Lib.cell_of_heap HDD.out]; rfl
        match ns, HLH, HHN, HO with
        | [x], HLH, HHN, HO =>
          obtain ⟨rfl, rfl⟩ : 0 = lo ∧ x = hi := by have := HLH.out; simpa [lohi] using this
          have ht1 : t = 1 := HHN.out.symm
          obtain ⟨g, o, u, rfl, hg, hgl, hu, hc⟩ := HO.out.sl.at1 (k := 0) (by simp) rfl
          obtain ⟨hu, _⟩ := hu
          injection hu with hu
          subst hu
          have y0 : wd.cell? ⟨g, o, none⟩ = some (.int .i64 x) := kcell HBD.out hc
          have z1 : ((t : Int) == 1) = true := beq_yes (by omega)
          have z2 : (0 : Int) < (t : Int) := by omega
          have z3 : 0 < t := by omega
          clear hc ht1
          go_wp2_with fail
          go_meet
          exact ⟨heap_set HDD.out rfl, bsetc HBD.out (Nat.le_refl _) _, by simpa using hsz0⟩
        | [x, y], HLH, HHN, HO =>
          obtain ⟨rfl, rfl⟩ : x = lo ∧ y = hi := by have := HLH.out; simpa [lohi] using this
          have ht2 : t = 2 := HHN.out.symm
          obtain ⟨g, o, u, rfl, hg, hgl, hu, hc⟩ := HO.out.sl.at1 (k := 0) (by simp) rfl
          obtain ⟨hu, _⟩ := hu
          injection hu with hu
          subst hu
          obtain ⟨g', o', u', e2, _, _, hu', hc'⟩ := HO.out.sl.at1 (k := 1) (by simp) rfl
          injection e2 with e2
          injection e2 with e2 e3
          subst e2 e3
          obtain ⟨hu', _⟩ := hu'
          injection hu' with hu'
          subst hu'
          have y0 : wd.cell? ⟨g, o, none⟩ = some (.int .i64 x) := kcell HBD.out hc
          have y1 : wd.cell? ⟨g, o + 1, none⟩ = some (.int .i64 y) := kcell HBD.out hc'
          have z1 : ((t : Int) == 1) = false := beq_no (by omega)
          have z2 : ((t : Int) == 2) = true := beq_yes (by omega)
          have z3 : (0 : Int) < (t : Int) := by omega
          have z4 : 0 < t := by omega
          have z5 : (1 : Int) < (t : Int) := by omega
          have z6 : 1 < t := by omega
          clear hc hc' ht2
          go_upto_region 16 with fail
          refine wp_region_held_drew (S := (fun w' => w'.cell? ⟨g, o, none⟩ = some (.int .i64 x) ∧ w'.cell? ⟨g, o + 1, none⟩ = some (.int .i64 y) ∧ w'.frozen? ⟨wr.heap.size, 1, none⟩ = false ∧ w'.frozen? ⟨wr.heap.size, 2, none⟩ = false)) (by kernel_rfl) ?_ (fun hHeld => ?_)
          · ((try dsimp only); (first | exact ⟨y0, y1, f1, f2⟩ | exact ⟨((bsetc (Below.refl _ wd).drew (Nat.le_refl _) _).cell hgl).trans y0, ((bsetc (Below.refl _ wd).drew (Nat.le_refl _) _).cell hgl).trans y1, Lib.frozen_of_heap (heap_set HDD.out rfl) 1, Lib.frozen_of_heap (heap_set HDD.out rfl) 2⟩ | exact ⟨((bsetc (bsetc (Below.refl _ wd).drew (Nat.le_refl _) _) (Nat.le_refl _) _).cell hgl).trans y0, ((bsetc (bsetc (Below.refl _ wd).drew (Nat.le_refl _) _) (Nat.le_refl _) _).cell hgl).trans y1, Lib.frozen_of_heap (heap_set (heap_set HDD.out rfl) rfl) 1, Lib.frozen_of_heap (heap_set (heap_set HDD.out rfl) rfl) 2⟩))
          (refine wpAnyH_take (i := 0) (oi := ⟨_, _, _, _, _, _⟩) (v := ?_) rfl (by kernel_rfl) (by kernel_rfl) (by kernel_rfl) (fun _ _ _ h => h) (Or.inl ⟨by rfl, ?_⟩) (by assumption) ?_; rotate_left; · (intro w hSw; (try dsimp only at hSw); go_simp; try with_reducible rfl)); (try simp only [Act.put]); (try simp only [List.setIfInBounds_toArray]); (try simp only [List.set_cons_succ]); (try simp only [List.set_cons_zero])
          (refine wpAnyH_take (i := 1) (oi := ⟨_, _, _, _, _, _⟩) (v := ?_) rfl (by kernel_rfl) (by kernel_rfl) (by kernel_rfl) (fun _ _ _ h => h) (Or.inl ⟨by rfl, ?_⟩) (by assumption) ?_; rotate_left; · (intro w hSw; (try dsimp only at hSw); go_simp; try with_reducible rfl)); (try simp only [Act.put]); (try simp only [List.setIfInBounds_toArray]); (try simp only [List.set_cons_succ]); (try simp only [List.set_cons_zero])
          (refine wpAnyH_take (i := 2) (oi := ⟨_, _, _, _, _, _⟩) (v := ?_) rfl (by kernel_rfl) (by kernel_rfl) (by kernel_rfl) (fun _ _ _ h => h) (Or.inl ⟨by rfl, ?_⟩) (by assumption) ?_; rotate_left; · (intro w hSw; (try dsimp only at hSw); go_simp; try with_reducible rfl)); (try simp only [Act.put]); (try simp only [List.setIfInBounds_toArray]); (try simp only [List.set_cons_succ]); (try simp only [List.set_cons_zero])
          (refine wpAnyH_take (i := 3) (oi := ⟨_, _, _, _, _, _⟩) (v := ?_) rfl (by kernel_rfl) (by kernel_rfl) (by kernel_rfl) (fun _ _ _ h => h) (Or.inl ⟨by rfl, ?_⟩) (by assumption) ?_; rotate_left; · (intro w hSw; (try dsimp only at hSw); go_simp; try with_reducible rfl)); (try simp only [Act.put]); (try simp only [List.setIfInBounds_toArray]); (try simp only [List.set_cons_succ]); (try simp only [List.set_cons_zero])
          (refine wpAnyH_take (i := 4) (oi := ⟨_, _, _, _, _, _⟩) (v := ?_) rfl (by kernel_rfl) (by kernel_rfl) (by kernel_rfl) (fun _ _ _ h => h) (Or.inl ⟨by rfl, ?_⟩) (by assumption) ?_; rotate_left; · (intro w hSw; (try dsimp only at hSw); go_simp; try with_reducible rfl)); (try simp only [Act.put]); (try simp only [List.setIfInBounds_toArray]); (try simp only [List.set_cons_succ]); (try simp only [List.set_cons_zero])
          (refine wpAnyH_take (i := 5) (oi := ⟨_, _, _, _, _, _⟩) (v := ?_) rfl (by kernel_rfl) (by kernel_rfl) (by kernel_rfl) (fun _ _ _ h => h) (Or.inl ⟨by rfl, ?_⟩) (by assumption) ?_; rotate_left; · (intro w hSw; (try dsimp only at hSw); go_simp; try with_reducible rfl)); (try simp only [Act.put]); (try simp only [List.setIfInBounds_toArray]); (try simp only [List.set_cons_succ]); (try simp only [List.set_cons_zero])
          (refine wpAnyH_take (i := 6) (oi := ⟨_, _, _, _, _, _⟩) (v := ?_) rfl (by kernel_rfl) (by kernel_rfl) (by kernel_rfl) (fun _ _ _ h => h) (Or.inl ⟨by rfl, ?_⟩) (by assumption) ?_; rotate_left; · (intro w hSw; (try dsimp only at hSw); go_simp; try with_reducible rfl)); (try simp only [Act.put]); (try simp only [List.setIfInBounds_toArray]); (try simp only [List.set_cons_succ]); (try simp only [List.set_cons_zero])
          refine wpAnyH_ready (rs := [7]) (by kernel_rfl) (by simp) ?_
          refine AllReadyH.cons (o := ⟨_, _, _, _, _, _⟩) rfl (fun K hK => ?_) ?_
          · go_simp
            refine hK.out _ _ ?_ (fun hHeld => ?_)
            · ((try dsimp only); (first | exact ⟨y0, y1, f1, f2⟩ | exact ⟨((bsetc (Below.refl _ wd).drew (Nat.le_refl _) _).cell hgl).trans y0, ((bsetc (Below.refl _ wd).drew (Nat.le_refl _) _).cell hgl).trans y1, Lib.frozen_of_heap (heap_set HDD.out rfl) 1, Lib.frozen_of_heap (heap_set HDD.out rfl) 2⟩ | exact ⟨((bsetc (bsetc (Below.refl _ wd).drew (Nat.le_refl _) _) (Nat.le_refl _) _).cell hgl).trans y0, ((bsetc (bsetc (Below.refl _ wd).drew (Nat.le_refl _) _) (Nat.le_refl _) _).cell hgl).trans y1, Lib.frozen_of_heap (heap_set (heap_set HDD.out rfl) rfl) 1, Lib.frozen_of_heap (heap_set (heap_set HDD.out rfl) rfl) 2⟩))
            clear hK K; (try simp only [Act.put]); (try simp only [List.setIfInBounds_toArray]); (try simp only [List.set_cons_succ]); (try simp only [List.set_cons_zero])
            (refine wpAnyH_take (i := 8) (oi := ⟨_, _, _, _, _, _⟩) (v := ?_) rfl (by kernel_rfl) (by kernel_rfl) (by kernel_rfl) (fun _ _ _ h => h) (Or.inl ⟨by rfl, ?_⟩) (by assumption) ?_; rotate_left; · (intro w hSw; (try dsimp only at hSw); go_simp; try with_reducible rfl)); (try simp only [Act.put]); (try simp only [List.setIfInBounds_toArray]); (try simp only [List.set_cons_succ]); (try simp only [List.set_cons_zero])
            refine wpAnyH_ready (rs := [9]) (by kernel_rfl) (by simp) ?_
            refine AllReadyH.cons (o := ⟨_, _, _, _, _, _⟩) rfl (fun K hK => ?_) ?_
            · go_simp
              refine hK.out _ _ ?_ (fun hHeld => ?_)
              · ((try dsimp only); (first | exact ⟨y0, y1, f1, f2⟩ | exact ⟨((bsetc (Below.refl _ wd).drew (Nat.le_refl _) _).cell hgl).trans y0, ((bsetc (Below.refl _ wd).drew (Nat.le_refl _) _).cell hgl).trans y1, Lib.frozen_of_heap (heap_set HDD.out rfl) 1, Lib.frozen_of_heap (heap_set HDD.out rfl) 2⟩ | exact ⟨((bsetc (bsetc (Below.refl _ wd).drew (Nat.le_refl _) _) (Nat.le_refl _) _).cell hgl).trans y0, ((bsetc (bsetc (Below.refl _ wd).drew (Nat.le_refl _) _) (Nat.le_refl _) _).cell hgl).trans y1, Lib.frozen_of_heap (heap_set (heap_set HDD.out rfl) rfl) 1, Lib.frozen_of_heap (heap_set (heap_set HDD.out rfl) rfl) 2⟩))
              clear hK K; (try simp only [Act.put]); (try simp only [List.setIfInBounds_toArray]); (try simp only [List.set_cons_succ]); (try simp only [List.set_cons_zero])
              refine wpAnyH_done (by kernel_rfl) ?_ _
              go_wp2_with fail
              go_meet
              exact ⟨heap_set (heap_set (cs' := #[.int .i64 0, .int .i64 x, .int .i64 0]) HDD.out rfl) rfl, bsetc (bsetc HBD.out.drew (Nat.le_refl _) _) (Nat.le_refl _) _, by simpa using hsz0⟩
            exact AllReadyH.nil
          exact AllReadyH.nil
        | [], HLH, HHN, HO => exact absurd HHN.out.symm q7
        | x :: y :: z :: r, HLH, HHN, HO =>
          obtain ⟨rfl, rfl⟩ : 0 = lo ∧ 0 = hi := by have := HLH.out; simpa [lohi] using this
          have ht3 : 3 ≤ t := by rw [← HHN.out]; simp
          have z1 : ((t : Int) == 1) = false := beq_no (by omega)
          have z2 : ((t : Int) == 2) = false := beq_no (by omega)
          clear ht3
          go_wp2_with fail
          go_meet
          exact ⟨HDD.out, HBD.out, hsz0⟩
      case rest =>
        obtain ⟨hkx, hbx, hzx⟩ := hcut
        rename World => wx
        have HKX := Lib.hid hkx
        have HB1X := Lib.hid (HB.out.trans (hbx.mono hsz))
        have hRl : w.heap.size < w1.heap.size := by have := HB1E.out; omega
        have hBl : B < w1.heap.size := by have := HB1E.out; omega
        have HTX := Lib.hid ((HT.out.below HB1.out).below HB1X.out)
        have u0 := Lib.frozen_of_heap hkx 0
        have v0 : wx.cell? ⟨wr.heap.size, 0, none⟩ = some (.int .i64 0) := by rw [Lib.cell_of_heap hkx]; rfl
        obtain ⟨D, hD⟩ : ∃ D, D = wr.heap.size := ⟨_, rfl⟩
        rw [← hD] at HKX u0 v0 hzx ⊢
        have hDl : w1.heap.size ≤ D := by omega
        clear hkx hbx hD HO HDD HBD HHN HB
        go_wp2_with fail
        go_loopw [] (fun wq => ∃ k : Int, 1 ≤ k ∧ k ≤ 5 ∧ (∀ j : Int, 1 ≤ j → j < k → ¬ (word j = p0 ∧ nput ⟨j, lo, hi⟩ = s)) ∧ wq.heap[D]? = some (.cells #[.int .i64 k, .int .i64 lo, .int .i64 hi] 24 (0, 0)) ∧ Below w1.heap.size w1 wq)
          (fun wq => (5 - kindAt D wq).toNat)
        case atStart => exact ⟨1, by omega, by omega, fun j h1 h2 => by omega, heap_set HKX.out rfl, bsetc HB1X.out hDl _⟩
        case round =>
          clear HKX HB1X HTX u0 v0
          rename World => wq
          obtain ⟨k, hk1, hk5, hno, hkq, hbq⟩ := hrel
          have HNO := Lib.hid hno
          have hR : wq.heap[w.heap.size]? = some zrow := (hbq.block _ hRl).trans HR1.out
          have hSp : wq.heap[B]? = some (.cells ((p0 :: ps).map fun p => Value.string ⟨p.toArray⟩).toArray 9 (0, 0)) := (hbq.block _ hBl).trans HSP.out
          have hHeld : NtS D B w.heap.size ⟨k, lo, hi⟩ p0 (.cells ((p0 :: ps).map fun p => Value.string ⟨p.toArray⟩).toArray 9 (0, 0)) w1 wq.drew :=
            ⟨by rw [World.cell?_drew, Lib.cell_of_heap hkq]; rfl, by rw [World.cell?_drew, Lib.cell_of_heap hkq]; rfl, by rw [World.cell?_drew, Lib.cell_of_heap hkq]; rfl, by rw [World.cell?_drew, Lib.cell_of_heap hSp]; rfl, Lib.hid ⟨((HT.out.below HB1.out).below hbq).below (Below.refl _ _).drew, hbq.drew, hbq.size, hkq, hR, hSp⟩⟩
          have x0 : wq.cell? ⟨D, 0, none⟩ = some (.int .i64 k) := by rw [Lib.cell_of_heap hkq]; rfl
          have HKQ := Lib.hid hkq
          have HBQ := Lib.hid hbq
          have HRQ := Lib.hid hR
          clear hno hkq hbq hR hSp
          by_cases hk4 : k ≤ 4
          · have s0 : decide (k ≤ 4) = true := decide_eq_true hk4
            have hwk : IntKind.i64.wrap (k + 1) = k + 1 := by rw [IntKind.wrap_i64]; omega
            have z1 : (0 : Int) < (n : Int) := by omega
            have z2 : 0 < n := by omega
            obtain ⟨wk, hwk2⟩ : ∃ wk, wk = word k := ⟨_, rfl⟩
            have HWK := Lib.hid hwk2
            clear hwk2
            by_cases hwe : wk = p0
            · obtain ⟨pq, hpq⟩ : ∃ pq, pq = nput ⟨k, lo, hi⟩ := ⟨_, rfl⟩
              have HPQ := Lib.hid hpq
              clear hpq
              have HWE := Lib.hid hwe
              clear HBE HSP HR1
              by_cases hps : pq = s
              · have HPS := Lib.hid hps
                have e1 : (wk == p0) = true := by simpa using hwe
                have e2 : (pq == s) = true := by simpa using hps
                clear hwe hps
                go_upto_region 20 with fail
                refine wp_region_held_drew (S := (fun w' => w'.cell? ⟨D, 0, none⟩ = some (.int .i64 k) ∧ w'.cell? ⟨D, 1, none⟩ = some (.int .i64 lo) ∧ w'.cell? ⟨D, 2, none⟩ = some (.int .i64 hi) ∧ w'.cell? ⟨B, 0, none⟩ = some (.string ⟨p0.toArray⟩) ∧ Hid (Tab w' ∧ Below w1.heap.size w1 w' ∧ w1.heap.size ≤ w'.heap.size ∧ w'.heap[D]? = some (.cells #[.int .i64 k, .int .i64 lo, .int .i64 hi] 24 (0, 0)) ∧ w'.heap[w.heap.size]? = some zrow ∧ w'.heap[B]? = some (.cells ((p0 :: ps).map fun p => Value.string ⟨p.toArray⟩).toArray 9 (0, 0))))) (by kernel_rfl) ?_ (fun hHeld => ?_)
                · ((try dsimp only); (first | exact hHeld | exact ntS_keep (d := ⟨k, lo, hi⟩) hHeld hb))
                (refine wpAnyH_take (i := 0) (oi := ⟨_, _, _, _, _, _⟩) (v := ?_) rfl (by kernel_rfl) (by kernel_rfl) (by kernel_rfl) (fun _ _ _ h => h) (Or.inl ⟨by rfl, ?_⟩) (by assumption) ?_; rotate_left; · (intro w hSw; (try dsimp only at hSw); go_simp; try with_reducible rfl)); (try simp only [Act.put]); (try simp only [List.setIfInBounds_toArray]); (try simp only [List.set_cons_succ]); (try simp only [List.set_cons_zero])
                (refine wpAnyH_take (i := 1) (oi := ⟨_, _, _, _, _, _⟩) (v := ?_) rfl (by kernel_rfl) (by kernel_rfl) (by kernel_rfl) (fun _ _ _ h => h) (Or.inl ⟨by rfl, ?_⟩) (by assumption) ?_; rotate_left; · (intro w hSw; (try dsimp only at hSw); go_simp; try with_reducible rfl)); (try simp only [Act.put]); (try simp only [List.setIfInBounds_toArray]); (try simp only [List.set_cons_succ]); (try simp only [List.set_cons_zero])
                (refine wpAnyH_take (i := 3) (oi := ⟨_, _, _, _, _, _⟩) (v := ?_) rfl (by kernel_rfl) (by kernel_rfl) (by kernel_rfl) (fun _ _ _ h => h) (Or.inl ⟨by rfl, ?_⟩) (by assumption) ?_; rotate_left; · (intro w hSw; (try dsimp only at hSw); go_simp; try with_reducible rfl)); (try simp only [Act.put]); (try simp only [List.setIfInBounds_toArray]); (try simp only [List.set_cons_succ]); (try simp only [List.set_cons_zero])
                (refine wpAnyH_take (i := 4) (oi := ⟨_, _, _, _, _, _⟩) (v := ?_) rfl (by kernel_rfl) (by kernel_rfl) (by kernel_rfl) (fun _ _ _ h => h) (Or.inl ⟨by rfl, ?_⟩) (by assumption) ?_; rotate_left; · (intro w hSw; (try dsimp only at hSw); go_simp; try with_reducible rfl)); (try simp only [Act.put]); (try simp only [List.setIfInBounds_toArray]); (try simp only [List.set_cons_succ]); (try simp only [List.set_cons_zero])
                (refine wpAnyH_take (i := 5) (oi := ⟨_, _, _, _, _, _⟩) (v := ?_) rfl (by kernel_rfl) (by kernel_rfl) (by kernel_rfl) (fun _ _ _ h => h) (Or.inl ⟨by rfl, ?_⟩) (by assumption) ?_; rotate_left; · (intro w hSw; (try dsimp only at hSw); go_simp; try with_reducible rfl)); (try simp only [Act.put]); (try simp only [List.setIfInBounds_toArray]); (try simp only [List.set_cons_succ]); (try simp only [List.set_cons_zero])
                refine wpAnyH_ready (rs := [2]) (by kernel_rfl) (by simp) ?_
                refine AllReadyH.cons (o := ⟨_, _, _, _, _, _⟩) rfl (fun K hK => ?_) ?_
                · (go_simp; (first | (go_at_call 13; refine (word_p k wk HWK.out _).mono ?_; rintro e w2 ⟨rfl, rfl⟩) | (go_at_call 10; refine (nput_any ⟨k, lo, hi⟩ pq HPQ.out _ hHeld.2.2.2.2.out.1).mono ?_; rintro e w2 ⟨rfl, hb⟩) | skip))
                  refine hK.out _ _ ?_ (fun hHeld => ?_)
                  · ((try dsimp only); (first | exact hHeld | exact ntS_keep (d := ⟨k, lo, hi⟩) hHeld hb))
                  clear hK K; (try simp only [Act.put]); (try simp only [List.setIfInBounds_toArray]); (try simp only [List.set_cons_succ]); (try simp only [List.set_cons_zero])
                  (refine wpAnyH_take (i := 6) (oi := ⟨_, _, _, _, _, _⟩) (v := ?_) rfl (by kernel_rfl) (by kernel_rfl) (by kernel_rfl) (fun _ _ _ h => h) (Or.inl ⟨by rfl, ?_⟩) (by assumption) ?_; rotate_left; · (intro w hSw; (try dsimp only at hSw); go_simp; try with_reducible rfl)); (try simp only [Act.put]); (try simp only [List.setIfInBounds_toArray]); (try simp only [List.set_cons_succ]); (try simp only [List.set_cons_zero])
                  (refine wpAnyH_take (i := 7) (oi := ⟨_, _, _, _, _, _⟩) (v := ?_) rfl (by kernel_rfl) (by kernel_rfl) (by kernel_rfl) (fun _ _ _ h => h) (Or.inl ⟨by rfl, ?_⟩) (by assumption) ?_; rotate_left; · (intro w hSw; (try dsimp only at hSw); go_simp; try with_reducible rfl)); (try simp only [Act.put]); (try simp only [List.setIfInBounds_toArray]); (try simp only [List.set_cons_succ]); (try simp only [List.set_cons_zero])
                  (refine wpAnyH_take (i := 8) (oi := ⟨_, _, _, _, _, _⟩) (v := ?_) rfl (by kernel_rfl) (by kernel_rfl) (by kernel_rfl) (fun _ _ _ h => h) (Or.inl ⟨by rfl, ?_⟩) (by assumption) ?_; rotate_left; · (intro w hSw; (try dsimp only at hSw); go_simp; try with_reducible rfl)); (try simp only [Act.put]); (try simp only [List.setIfInBounds_toArray]); (try simp only [List.set_cons_succ]); (try simp only [List.set_cons_zero])
                  (refine wpAnyH_take (i := 10) (oi := ⟨_, _, _, _, _, _⟩) (v := ?_) rfl (by kernel_rfl) (by kernel_rfl) (by kernel_rfl) (fun _ _ _ h => h) (Or.inl ⟨by rfl, ?_⟩) (by assumption) ?_; rotate_left; · (intro w hSw; (try dsimp only at hSw); go_simp; try with_reducible rfl)); (try simp only [Act.put]); (try simp only [List.setIfInBounds_toArray]); (try simp only [List.set_cons_succ]); (try simp only [List.set_cons_zero])
                  refine wpAnyH_ready (rs := [9]) (by kernel_rfl) (by simp) ?_
                  refine AllReadyH.cons (o := ⟨_, _, _, _, _, _⟩) rfl (fun K hK => ?_) ?_
                  · (go_simp; (first | (go_at_call 13; refine (word_p k wk HWK.out _).mono ?_; rintro e w2 ⟨rfl, rfl⟩) | (go_at_call 10; refine (nput_any ⟨k, lo, hi⟩ pq HPQ.out _ hHeld.2.2.2.2.out.1).mono ?_; rintro e w2 ⟨rfl, hb⟩) | skip))
                    refine hK.out _ _ ?_ (fun hHeld => ?_)
                    · ((try dsimp only); (first | exact hHeld | exact ntS_keep (d := ⟨k, lo, hi⟩) hHeld hb))
                    clear hK K; (try simp only [Act.put]); (try simp only [List.setIfInBounds_toArray]); (try simp only [List.set_cons_succ]); (try simp only [List.set_cons_zero])
                    (refine wpAnyH_take (i := 11) (oi := ⟨_, _, _, _, _, _⟩) (v := ?_) rfl (by kernel_rfl) (by kernel_rfl) (by kernel_rfl) (fun _ _ _ h => h) (Or.inl ⟨by rfl, ?_⟩) (by assumption) ?_; rotate_left; · (intro w hSw; (try dsimp only at hSw); go_simp; try with_reducible rfl)); (try simp only [Act.put]); (try simp only [List.setIfInBounds_toArray]); (try simp only [List.set_cons_succ]); (try simp only [List.set_cons_zero])
                    (refine wpAnyH_take (i := 12) (oi := ⟨_, _, _, _, _, _⟩) (v := ?_) rfl (by kernel_rfl) (by kernel_rfl) (by kernel_rfl) (fun _ _ _ h => h) (Or.inl ⟨by rfl, ?_⟩) (by assumption) ?_; rotate_left; · (intro w hSw; (try dsimp only at hSw); go_simp; try with_reducible rfl)); (try simp only [Act.put]); (try simp only [List.setIfInBounds_toArray]); (try simp only [List.set_cons_succ]); (try simp only [List.set_cons_zero])
                    refine wpAnyH_done (by kernel_rfl) ?_ _
                    obtain ⟨c0, c1, c2, _, hh⟩ := hHeld
                    obtain ⟨_, b1, b2, b3, b4, _⟩ := hh.out
                    have r0 := Lib.frozen_of_heap b4 0
                    have r1 := Lib.frozen_of_heap b4 1
                    have r2 := Lib.frozen_of_heap b4 2
                    have d0 := show _ = some (.int .i64 0) from (Lib.cell_of_heap b4 0).trans rfl
                    have d1 := show _ = some (.int .i64 0) from (Lib.cell_of_heap b4 1).trans rfl
                    have d2 := show _ = some (.int .i64 0) from (Lib.cell_of_heap b4 2).trans rfl
                    have BB := Lib.hid b1
                    have B4 := Lib.hid b4
                    go_wp2_with fail
                    refine bodyPost_ret (results_row2 rfl _ _ w.heap.size 24 #[.int .i64 k, .int .i64 lo, .int .i64 hi] (0, 0) _ rfl (heap_set (cs' := #[.int .i64 k, .int .i64 lo, .int .i64 hi]) (heap_set (cs' := #[.int .i64 k, .int .i64 lo, .int .i64 0]) (heap_set (cs' := #[.int .i64 k, .int .i64 0, .int .i64 0]) B4.out rfl) rfl) rfl) Tryz.underlying24 rfl (by kernel_rfl)) rfl ?_
                    exact ⟨⟨k, lo, hi⟩, true, rfl, take_some (d := ⟨k, lo, hi⟩) hk1 hk4 HP.out (HWK.out.symm.trans HWE.out) (HPQ.out.symm.trans HPS.out), bsetc (bsetc (bsetc (HB1.out.trans (BB.out.mono (by omega))) (Nat.le_refl _) _) (Nat.le_refl _) _) (Nat.le_refl _) _⟩
                  exact AllReadyH.nil
                exact AllReadyH.nil
              · have HPS := Lib.hid hps
                have e1 : (wk == p0) = true := by simpa using hwe
                have e2 : (pq == s) = false := by simpa using hps
                clear hwe hps
                go_upto_region 20 with fail
                refine wp_region_held_drew (S := (fun w' => w'.cell? ⟨D, 0, none⟩ = some (.int .i64 k) ∧ w'.cell? ⟨D, 1, none⟩ = some (.int .i64 lo) ∧ w'.cell? ⟨D, 2, none⟩ = some (.int .i64 hi) ∧ w'.cell? ⟨B, 0, none⟩ = some (.string ⟨p0.toArray⟩) ∧ Hid (Tab w' ∧ Below w1.heap.size w1 w' ∧ w1.heap.size ≤ w'.heap.size ∧ w'.heap[D]? = some (.cells #[.int .i64 k, .int .i64 lo, .int .i64 hi] 24 (0, 0)) ∧ w'.heap[w.heap.size]? = some zrow ∧ w'.heap[B]? = some (.cells ((p0 :: ps).map fun p => Value.string ⟨p.toArray⟩).toArray 9 (0, 0))))) (by kernel_rfl) ?_ (fun hHeld => ?_)
                · ((try dsimp only); (first | exact hHeld | exact ntS_keep (d := ⟨k, lo, hi⟩) hHeld hb))
                (refine wpAnyH_take (i := 0) (oi := ⟨_, _, _, _, _, _⟩) (v := ?_) rfl (by kernel_rfl) (by kernel_rfl) (by kernel_rfl) (fun _ _ _ h => h) (Or.inl ⟨by rfl, ?_⟩) (by assumption) ?_; rotate_left; · (intro w hSw; (try dsimp only at hSw); go_simp; try with_reducible rfl)); (try simp only [Act.put]); (try simp only [List.setIfInBounds_toArray]); (try simp only [List.set_cons_succ]); (try simp only [List.set_cons_zero])
                (refine wpAnyH_take (i := 1) (oi := ⟨_, _, _, _, _, _⟩) (v := ?_) rfl (by kernel_rfl) (by kernel_rfl) (by kernel_rfl) (fun _ _ _ h => h) (Or.inl ⟨by rfl, ?_⟩) (by assumption) ?_; rotate_left; · (intro w hSw; (try dsimp only at hSw); go_simp; try with_reducible rfl)); (try simp only [Act.put]); (try simp only [List.setIfInBounds_toArray]); (try simp only [List.set_cons_succ]); (try simp only [List.set_cons_zero])
                (refine wpAnyH_take (i := 3) (oi := ⟨_, _, _, _, _, _⟩) (v := ?_) rfl (by kernel_rfl) (by kernel_rfl) (by kernel_rfl) (fun _ _ _ h => h) (Or.inl ⟨by rfl, ?_⟩) (by assumption) ?_; rotate_left; · (intro w hSw; (try dsimp only at hSw); go_simp; try with_reducible rfl)); (try simp only [Act.put]); (try simp only [List.setIfInBounds_toArray]); (try simp only [List.set_cons_succ]); (try simp only [List.set_cons_zero])
                (refine wpAnyH_take (i := 4) (oi := ⟨_, _, _, _, _, _⟩) (v := ?_) rfl (by kernel_rfl) (by kernel_rfl) (by kernel_rfl) (fun _ _ _ h => h) (Or.inl ⟨by rfl, ?_⟩) (by assumption) ?_; rotate_left; · (intro w hSw; (try dsimp only at hSw); go_simp; try with_reducible rfl)); (try simp only [Act.put]); (try simp only [List.setIfInBounds_toArray]); (try simp only [List.set_cons_succ]); (try simp only [List.set_cons_zero])
                (refine wpAnyH_take (i := 5) (oi := ⟨_, _, _, _, _, _⟩) (v := ?_) rfl (by kernel_rfl) (by kernel_rfl) (by kernel_rfl) (fun _ _ _ h => h) (Or.inl ⟨by rfl, ?_⟩) (by assumption) ?_; rotate_left; · (intro w hSw; (try dsimp only at hSw); go_simp; try with_reducible rfl)); (try simp only [Act.put]); (try simp only [List.setIfInBounds_toArray]); (try simp only [List.set_cons_succ]); (try simp only [List.set_cons_zero])
                refine wpAnyH_ready (rs := [2]) (by kernel_rfl) (by simp) ?_
                refine AllReadyH.cons (o := ⟨_, _, _, _, _, _⟩) rfl (fun K hK => ?_) ?_
                · (go_simp; (first | (go_at_call 13; refine (word_p k wk HWK.out _).mono ?_; rintro e w2 ⟨rfl, rfl⟩) | (go_at_call 10; refine (nput_any ⟨k, lo, hi⟩ pq HPQ.out _ hHeld.2.2.2.2.out.1).mono ?_; rintro e w2 ⟨rfl, hb⟩) | skip))
                  refine hK.out _ _ ?_ (fun hHeld => ?_)
                  · ((try dsimp only); (first | exact hHeld | exact ntS_keep (d := ⟨k, lo, hi⟩) hHeld hb))
                  clear hK K; (try simp only [Act.put]); (try simp only [List.setIfInBounds_toArray]); (try simp only [List.set_cons_succ]); (try simp only [List.set_cons_zero])
                  (refine wpAnyH_take (i := 6) (oi := ⟨_, _, _, _, _, _⟩) (v := ?_) rfl (by kernel_rfl) (by kernel_rfl) (by kernel_rfl) (fun _ _ _ h => h) (Or.inl ⟨by rfl, ?_⟩) (by assumption) ?_; rotate_left; · (intro w hSw; (try dsimp only at hSw); go_simp; try with_reducible rfl)); (try simp only [Act.put]); (try simp only [List.setIfInBounds_toArray]); (try simp only [List.set_cons_succ]); (try simp only [List.set_cons_zero])
                  (refine wpAnyH_take (i := 7) (oi := ⟨_, _, _, _, _, _⟩) (v := ?_) rfl (by kernel_rfl) (by kernel_rfl) (by kernel_rfl) (fun _ _ _ h => h) (Or.inl ⟨by rfl, ?_⟩) (by assumption) ?_; rotate_left; · (intro w hSw; (try dsimp only at hSw); go_simp; try with_reducible rfl)); (try simp only [Act.put]); (try simp only [List.setIfInBounds_toArray]); (try simp only [List.set_cons_succ]); (try simp only [List.set_cons_zero])
                  (refine wpAnyH_take (i := 8) (oi := ⟨_, _, _, _, _, _⟩) (v := ?_) rfl (by kernel_rfl) (by kernel_rfl) (by kernel_rfl) (fun _ _ _ h => h) (Or.inl ⟨by rfl, ?_⟩) (by assumption) ?_; rotate_left; · (intro w hSw; (try dsimp only at hSw); go_simp; try with_reducible rfl)); (try simp only [Act.put]); (try simp only [List.setIfInBounds_toArray]); (try simp only [List.set_cons_succ]); (try simp only [List.set_cons_zero])
                  (refine wpAnyH_take (i := 10) (oi := ⟨_, _, _, _, _, _⟩) (v := ?_) rfl (by kernel_rfl) (by kernel_rfl) (by kernel_rfl) (fun _ _ _ h => h) (Or.inl ⟨by rfl, ?_⟩) (by assumption) ?_; rotate_left; · (intro w hSw; (try dsimp only at hSw); go_simp; try with_reducible rfl)); (try simp only [Act.put]); (try simp only [List.setIfInBounds_toArray]); (try simp only [List.set_cons_succ]); (try simp only [List.set_cons_zero])
                  refine wpAnyH_ready (rs := [9]) (by kernel_rfl) (by simp) ?_
                  refine AllReadyH.cons (o := ⟨_, _, _, _, _, _⟩) rfl (fun K hK => ?_) ?_
                  · (go_simp; (first | (go_at_call 13; refine (word_p k wk HWK.out _).mono ?_; rintro e w2 ⟨rfl, rfl⟩) | (go_at_call 10; refine (nput_any ⟨k, lo, hi⟩ pq HPQ.out _ hHeld.2.2.2.2.out.1).mono ?_; rintro e w2 ⟨rfl, hb⟩) | skip))
                    refine hK.out _ _ ?_ (fun hHeld => ?_)
                    · ((try dsimp only); (first | exact hHeld | exact ntS_keep (d := ⟨k, lo, hi⟩) hHeld hb))
                    clear hK K; (try simp only [Act.put]); (try simp only [List.setIfInBounds_toArray]); (try simp only [List.set_cons_succ]); (try simp only [List.set_cons_zero])
                    (refine wpAnyH_take (i := 11) (oi := ⟨_, _, _, _, _, _⟩) (v := ?_) rfl (by kernel_rfl) (by kernel_rfl) (by kernel_rfl) (fun _ _ _ h => h) (Or.inl ⟨by rfl, ?_⟩) (by assumption) ?_; rotate_left; · (intro w hSw; (try dsimp only at hSw); go_simp; try with_reducible rfl)); (try simp only [Act.put]); (try simp only [List.setIfInBounds_toArray]); (try simp only [List.set_cons_succ]); (try simp only [List.set_cons_zero])
                    (refine wpAnyH_take (i := 12) (oi := ⟨_, _, _, _, _, _⟩) (v := ?_) rfl (by kernel_rfl) (by kernel_rfl) (by kernel_rfl) (fun _ _ _ h => h) (Or.inl ⟨by rfl, ?_⟩) (by assumption) ?_; rotate_left; · (intro w hSw; (try dsimp only at hSw); go_simp; try with_reducible rfl)); (try simp only [Act.put]); (try simp only [List.setIfInBounds_toArray]); (try simp only [List.set_cons_succ]); (try simp only [List.set_cons_zero])
                    refine wpAnyH_done (by kernel_rfl) ?_ _
                    obtain ⟨c0, c1, c2, _, hh⟩ := hHeld
                    obtain ⟨_, b1, b2, b3, b4, _⟩ := hh.out
                    have r0 := Lib.frozen_of_heap b3 0
                    have BB := Lib.hid b1
                    have B3 := Lib.hid b3
                    go_wp2_with fail
                    go_roundw
                    case rel => exact ⟨k + 1, by omega, by omega, fun j h1 h2 => by
                        by_cases hj : j < k
                        · exact HNO.out j h1 hj
                        · obtain rfl : j = k := by omega
                          rintro ⟨h3, h4⟩
                          exact HPS.out (HPQ.out.trans h4), heap_set B3.out rfl, bsetc BB.out hDl _⟩
                    case measure =>
                      rw [kindAt_row HKQ.out]
                      exact Nat.lt_of_le_of_lt (Nat.le_of_eq (congrArg (fun z : Int => (5 - z).toNat) (kindAt_row (k := k + 1) (heap_set (cs' := #[.int .i64 (k + 1), .int .i64 lo, .int .i64 hi]) B3.out rfl)))) (by show (5 - (k + 1)).toNat < (5 - k).toNat; omega)
                  exact AllReadyH.nil
                exact AllReadyH.nil
            · have HWE := Lib.hid hwe
              have e1 : (wk == p0) = false := by simpa using hwe
              clear hwe
              go_upto_region 20 with fail
              refine wp_region_held_drew (S := (fun w' => w'.cell? ⟨D, 0, none⟩ = some (.int .i64 k) ∧ w'.cell? ⟨D, 1, none⟩ = some (.int .i64 lo) ∧ w'.cell? ⟨D, 2, none⟩ = some (.int .i64 hi) ∧ w'.cell? ⟨B, 0, none⟩ = some (.string ⟨p0.toArray⟩) ∧ Hid (Tab w' ∧ Below w1.heap.size w1 w' ∧ w1.heap.size ≤ w'.heap.size ∧ w'.heap[D]? = some (.cells #[.int .i64 k, .int .i64 lo, .int .i64 hi] 24 (0, 0)) ∧ w'.heap[w.heap.size]? = some zrow ∧ w'.heap[B]? = some (.cells ((p0 :: ps).map fun p => Value.string ⟨p.toArray⟩).toArray 9 (0, 0))))) (by kernel_rfl) ?_ (fun hHeld => ?_)
              · ((try dsimp only); (first | exact hHeld | exact ntS_keep (d := ⟨k, lo, hi⟩) hHeld hb))
              (refine wpAnyH_take (i := 0) (oi := ⟨_, _, _, _, _, _⟩) (v := ?_) rfl (by kernel_rfl) (by kernel_rfl) (by kernel_rfl) (fun _ _ _ h => h) (Or.inl ⟨by rfl, ?_⟩) (by assumption) ?_; rotate_left; · (intro w hSw; (try dsimp only at hSw); go_simp; try with_reducible rfl)); (try simp only [Act.put]); (try simp only [List.setIfInBounds_toArray]); (try simp only [List.set_cons_succ]); (try simp only [List.set_cons_zero])
              (refine wpAnyH_take (i := 1) (oi := ⟨_, _, _, _, _, _⟩) (v := ?_) rfl (by kernel_rfl) (by kernel_rfl) (by kernel_rfl) (fun _ _ _ h => h) (Or.inl ⟨by rfl, ?_⟩) (by assumption) ?_; rotate_left; · (intro w hSw; (try dsimp only at hSw); go_simp; try with_reducible rfl)); (try simp only [Act.put]); (try simp only [List.setIfInBounds_toArray]); (try simp only [List.set_cons_succ]); (try simp only [List.set_cons_zero])
              (refine wpAnyH_take (i := 3) (oi := ⟨_, _, _, _, _, _⟩) (v := ?_) rfl (by kernel_rfl) (by kernel_rfl) (by kernel_rfl) (fun _ _ _ h => h) (Or.inl ⟨by rfl, ?_⟩) (by assumption) ?_; rotate_left; · (intro w hSw; (try dsimp only at hSw); go_simp; try with_reducible rfl)); (try simp only [Act.put]); (try simp only [List.setIfInBounds_toArray]); (try simp only [List.set_cons_succ]); (try simp only [List.set_cons_zero])
              (refine wpAnyH_take (i := 4) (oi := ⟨_, _, _, _, _, _⟩) (v := ?_) rfl (by kernel_rfl) (by kernel_rfl) (by kernel_rfl) (fun _ _ _ h => h) (Or.inl ⟨by rfl, ?_⟩) (by assumption) ?_; rotate_left; · (intro w hSw; (try dsimp only at hSw); go_simp; try with_reducible rfl)); (try simp only [Act.put]); (try simp only [List.setIfInBounds_toArray]); (try simp only [List.set_cons_succ]); (try simp only [List.set_cons_zero])
              (refine wpAnyH_take (i := 5) (oi := ⟨_, _, _, _, _, _⟩) (v := ?_) rfl (by kernel_rfl) (by kernel_rfl) (by kernel_rfl) (fun _ _ _ h => h) (Or.inl ⟨by rfl, ?_⟩) (by assumption) ?_; rotate_left; · (intro w hSw; (try dsimp only at hSw); go_simp; try with_reducible rfl)); (try simp only [Act.put]); (try simp only [List.setIfInBounds_toArray]); (try simp only [List.set_cons_succ]); (try simp only [List.set_cons_zero])
              refine wpAnyH_ready (rs := [2]) (by kernel_rfl) (by simp) ?_
              refine AllReadyH.cons (o := ⟨_, _, _, _, _, _⟩) rfl (fun K hK => ?_) ?_
              · (go_simp; (first | (go_at_call 13; refine (word_p k wk HWK.out _).mono ?_; rintro e w2 ⟨rfl, rfl⟩) | (go_at_call 10; refine (nput_any ⟨k, lo, hi⟩ pq HPQ.out _ hHeld.2.2.2.2.out.1).mono ?_; rintro e w2 ⟨rfl, hb⟩) | skip))
                refine hK.out _ _ ?_ (fun hHeld => ?_)
                · ((try dsimp only); (first | exact hHeld | exact ntS_keep (d := ⟨k, lo, hi⟩) hHeld hb))
                clear hK K; (try simp only [Act.put]); (try simp only [List.setIfInBounds_toArray]); (try simp only [List.set_cons_succ]); (try simp only [List.set_cons_zero])
                (refine wpAnyH_take (i := 6) (oi := ⟨_, _, _, _, _, _⟩) (v := ?_) rfl (by kernel_rfl) (by kernel_rfl) (by kernel_rfl) (fun _ _ _ h => h) (Or.inl ⟨by rfl, ?_⟩) (by assumption) ?_; rotate_left; · (intro w hSw; (try dsimp only at hSw); go_simp; try with_reducible rfl)); (try simp only [Act.put]); (try simp only [List.setIfInBounds_toArray]); (try simp only [List.set_cons_succ]); (try simp only [List.set_cons_zero])
                (refine wpAnyH_take (i := 7) (oi := ⟨_, _, _, _, _, _⟩) (v := ?_) rfl (by kernel_rfl) (by kernel_rfl) (by kernel_rfl) (fun _ _ _ h => h) (Or.inl ⟨by rfl, ?_⟩) (by assumption) ?_; rotate_left; · (intro w hSw; (try dsimp only at hSw); go_simp; try with_reducible rfl)); (try simp only [Act.put]); (try simp only [List.setIfInBounds_toArray]); (try simp only [List.set_cons_succ]); (try simp only [List.set_cons_zero])
                (refine wpAnyH_take (i := 8) (oi := ⟨_, _, _, _, _, _⟩) (v := undef) rfl (by kernel_rfl) (by kernel_rfl) (by kernel_rfl) (fun _ _ _ h => h) (Or.inr ⟨by rfl, rfl⟩) (by assumption) ?_); (try simp only [Act.put]); (try simp only [List.setIfInBounds_toArray]); (try simp only [List.set_cons_succ]); (try simp only [List.set_cons_zero])
                (refine wpAnyH_take (i := 10) (oi := ⟨_, _, _, _, _, _⟩) (v := undef) rfl (by kernel_rfl) (by kernel_rfl) (by kernel_rfl) (fun _ _ _ h => h) (Or.inr ⟨by rfl, rfl⟩) (by assumption) ?_); (try simp only [Act.put]); (try simp only [List.setIfInBounds_toArray]); (try simp only [List.set_cons_succ]); (try simp only [List.set_cons_zero])
                refine wpAnyH_ready (rs := [9]) (by kernel_rfl) (by simp) ?_
                refine AllReadyH.cons (o := ⟨_, _, _, _, _, _⟩) rfl (fun K hK => ?_) ?_
                · (go_simp; (first | (go_at_call 13; refine (word_p k wk HWK.out _).mono ?_; rintro e w2 ⟨rfl, rfl⟩) | (go_at_call 10; refine (nput_any ⟨k, lo, hi⟩ pq HPQ.out _ hHeld.2.2.2.2.out.1).mono ?_; rintro e w2 ⟨rfl, hb⟩) | skip))
                  refine hK.out _ _ ?_ (fun hHeld => ?_)
                  · ((try dsimp only); (first | exact hHeld | exact ntS_keep (d := ⟨k, lo, hi⟩) hHeld hb))
                  clear hK K; (try simp only [Act.put]); (try simp only [List.setIfInBounds_toArray]); (try simp only [List.set_cons_succ]); (try simp only [List.set_cons_zero])
                  (refine wpAnyH_take (i := 11) (oi := ⟨_, _, _, _, _, _⟩) (v := undef) rfl (by kernel_rfl) (by kernel_rfl) (by kernel_rfl) (fun _ _ _ h => h) (Or.inr ⟨by rfl, rfl⟩) (by assumption) ?_); (try simp only [Act.put]); (try simp only [List.setIfInBounds_toArray]); (try simp only [List.set_cons_succ]); (try simp only [List.set_cons_zero])
                  (refine wpAnyH_take (i := 12) (oi := ⟨_, _, _, _, _, _⟩) (v := ?_) rfl (by kernel_rfl) (by kernel_rfl) (by kernel_rfl) (fun _ _ _ h => h) (Or.inl ⟨by rfl, ?_⟩) (by assumption) ?_; rotate_left; · (intro w hSw; (try dsimp only at hSw); go_simp; try with_reducible rfl)); (try simp only [Act.put]); (try simp only [List.setIfInBounds_toArray]); (try simp only [List.set_cons_succ]); (try simp only [List.set_cons_zero])
                  refine wpAnyH_done (by kernel_rfl) ?_ _
                  obtain ⟨c0, c1, c2, _, hh⟩ := hHeld
                  obtain ⟨_, b1, b2, b3, b4, _⟩ := hh.out
                  have r0 := Lib.frozen_of_heap b3 0
                  have BB := Lib.hid b1
                  have B3 := Lib.hid b3
                  go_wp2_with fail
                  go_roundw
                  case rel => exact ⟨k + 1, by omega, by omega, fun j h1 h2 => by
                      by_cases hj : j < k
                      · exact HNO.out j h1 hj
                      · obtain rfl : j = k := by omega
                        rintro ⟨h3, h4⟩
                        exact HWE.out (HWK.out.trans h3), heap_set B3.out rfl, bsetc BB.out hDl _⟩
                  case measure =>
                    rw [kindAt_row HKQ.out]
                    exact Nat.lt_of_le_of_lt (Nat.le_of_eq (congrArg (fun z : Int => (5 - z).toNat) (kindAt_row (k := k + 1) (heap_set (cs' := #[.int .i64 (k + 1), .int .i64 lo, .int .i64 hi]) B3.out rfl)))) (by show (5 - (k + 1)).toNat < (5 - k).toNat; omega)
                exact AllReadyH.nil
              exact AllReadyH.nil
          · obtain rfl : k = 5 := by omega
            have s0 : decide ((5 : Int) ≤ 4) = false := by decide
            have r0 := Lib.frozen_of_heap HRQ.out 0
            have r1 := Lib.frozen_of_heap HRQ.out 1
            have r2 := Lib.frozen_of_heap HRQ.out 2
            have c0 : wq.cell? ⟨w.heap.size, 0, none⟩ = some (.int .i64 0) := by rw [Lib.cell_of_heap HRQ.out]; rfl
            have c1 : wq.cell? ⟨w.heap.size, 1, none⟩ = some (.int .i64 0) := by rw [Lib.cell_of_heap HRQ.out]; rfl
            have c2 : wq.cell? ⟨w.heap.size, 2, none⟩ = some (.int .i64 0) := by rw [Lib.cell_of_heap HRQ.out]; rfl
            clear hHeld
            go_wp2_with fail
            refine bodyPost_ret (results_row2 rfl _ _ w.heap.size 24 #[.int .i64 0, .int .i64 0, .int .i64 0] (0, 0) _ rfl (heap_set (heap_set (heap_set HRQ.out rfl) rfl) rfl) Tryz.underlying24 rfl (by kernel_rfl)) rfl ?_
            exact ⟨DD.zero, false, rfl, take_none HP.out HN.out (fun j h1 h4 => by rw [HLH.out]; exact HNO.out j h1 (by omega)), bsetc (bsetc (bsetc (HB1.out.trans (HBQ.out.mono (by omega))) (Nat.le_refl _) _) (Nat.le_refl _) _) (Nat.le_refl _) _⟩
end Go.Proofs.YtollmolchcnpeaaGreatDoor
