/- patched.cut$1: a pair is added to the run that is being cut. -/
import Derived.Test.YtpmglcachffojaaGreatDoorPk9
namespace Go.Proofs.YtpmglcachffojaaGreatDoor
open Go Go.RowKit

/-- A gap and a patch as a word. -/
def tPair : Ty (Nat × Nat) where
  size := 2
  rep _ _ cs x := cs = [.int .i64 (x.1 : Int), .int .u64 (x.2 : Int)] ∧ x.1 < 9223372036854775808 ∧ U64 x.2
  len h := by rw [h.1]; rfl
  one h := by rw [h.1]; intro u hu; simp at hu; rcases hu with rfl | rfl <;> rfl
  keep h _ _ := h
  weaken h _ := h
theorem flatPair : tPair.Flat := fun h => h
theorem infoPair : (Tryz.prog.info? 332).map (fun i => (i.zero, i.size, i.bytes)) = some (some (.agg #[.int .i64 0, .int .u64 0]), 2, 16) := by kernel_rfl
theorem elemPair : ElemOf Tryz.prog 326 332 2 := ElemOf.mk' (by kernel_rfl) infoPair rfl (by decide) (by decide)
/-- While numbers are cut: the run, where the last patch lies, the rows of both. -/
structure PcR (w0 : World) (rb lb : Nat) (base : Int) (Al : Option Addr) (nl cl : Nat) (low : List Nat) (Ap : Option Addr) (np cp : Nat) (ps : List (Nat × Nat)) (g q la : Nat) (w : World) : Prop where
  run : w.heap[rb]? = some (.cells #[.int .i64 base, .slice Al nl cl, .slice Ap np cp, .int .i64 (g : Int), .int .i64 (q : Int)] 328 (0, 0))
  last : w.heap[lb]? = some (.cells #[.int .i64 (la : Int)] 3 (0, 0))
  low : OwnU w (lb + 1) Al nl cl low
  ps : OwnF tPair 332 (fun _ => False) w (lb + 1) Ap np cp ps
  apart : ∀ b, Al = some ⟨b, 0, none⟩ → Ap ≠ some ⟨b, 0, none⟩
  below : Below rb w0 w
  ord : rb < lb
theorem ownF_at {α : Type} {T : Ty α} {e : TypeId} {F : Nat → Prop} {w : World} {B : Nat} {A : Option Addr} {n c : Nat} {xs : List α} (h : OwnF T e F w B A n c xs) {b : Nat} (hb : A.map (·.block) = some b) : A = some ⟨b, 0, none⟩ ∧ B ≤ b ∧ b < w.heap.size := by
  obtain ⟨⟨css, h1, _⟩, _, _⟩ := h
  exact own_off h1 (by rw [ownBlock_slice]; exact hb)
section
variable {w0 w w' : World} {rb lb : Nat} {base : Int} {Al Ap A' : Option Addr} {nl cl np cp c' : Nat} {low : List Nat} {ps : List (Nat × Nat)} {g q la : Nat}
theorem PcR.keep (h : PcR w0 rb lb base Al nl cl low Ap np cp ps g q la w) (hb : Below w.heap.size w w') : PcR w0 rb lb base Al nl cl low Ap np cp ps g q la w' :=
  ⟨(hb.block rb (blk_lt h.run)).trans h.run, (hb.block lb (blk_lt h.last)).trans h.last, ownU_of (h.low.keepB hb), h.ps.keepB hb, h.apart, h.below.trans (hb.mono (Nat.le_of_lt (blk_lt h.run))), h.ord⟩
theorem PcR.drew (h : PcR w0 rb lb base Al nl cl low Ap np cp ps g q la w) : PcR w0 rb lb base Al nl cl low Ap np cp ps g q la w.drew :=
  ⟨h.run, h.last, ownU_of h.low.drew, h.ps.drew, h.apart, h.below.drew, h.ord⟩
theorem PcR.set (h : PcR w0 rb lb base Al nl cl low Ap np cp ps g q la w) {g' q' la' : Nat} (h1 : w'.heap[rb]? = some (.cells #[.int .i64 base, .slice Al nl cl, .slice Ap np cp, .int .i64 (g' : Int), .int .i64 (q' : Int)] 328 (0, 0)))
    (h2 : w'.heap[lb]? = some (.cells #[.int .i64 (la' : Int)] 3 (0, 0))) (h3 : ∀ b, b ≠ rb → b ≠ lb → w'.heap[b]? = w.heap[b]?) (h4 : w.heap.size = w'.heap.size) (h5 : Below rb w0 w') : PcR w0 rb lb base Al nl cl low Ap np cp ps g' q' la' w' := by
  have ho := h.ord
  exact ⟨h1, h2, ownU_of (h.low.keep (Nat.le_of_eq h4) fun b hb _ => by rcases hb with hb | ⟨_, hb⟩; exact hb.elim; exact h3 b (by omega) (by omega)),
    h.ps.keep (Nat.le_of_eq h4) fun b hb _ => by rcases hb with hb | ⟨_, hb⟩; exact hb.elim; exact h3 b (by omega) (by omega), h.apart, h5, ho⟩
theorem PcR.setGap (h : PcR w0 rb lb base Al nl cl low Ap np cp ps g q la w) (g' : Nat) : PcR w0 rb lb base Al nl cl low Ap np cp ps g' q la (w.setCell ⟨rb, 3, none⟩ (.int .i64 (g' : Int))) :=
  h.set (heap_set h.run rfl) (heap_setne h.last (by have := h.ord; omega)) (fun b h1 _ => Below.heap_setCell _ ⟨rb, 3, none⟩ _ b h1) (by simp [World.setCell]) (bsetc h.below (Nat.le_refl _) _)
theorem PcR.setPat (h : PcR w0 rb lb base Al nl cl low Ap np cp ps g q la w) (q' : Nat) : PcR w0 rb lb base Al nl cl low Ap np cp ps g q' la (w.setCell ⟨rb, 4, none⟩ (.int .i64 (q' : Int))) :=
  h.set (heap_set h.run rfl) (heap_setne h.last (by have := h.ord; omega)) (fun b h1 _ => Below.heap_setCell _ ⟨rb, 4, none⟩ _ b h1) (by simp [World.setCell]) (bsetc h.below (Nat.le_refl _) _)
theorem PcR.setLast (h : PcR w0 rb lb base Al nl cl low Ap np cp ps g q la w) (la' : Nat) : PcR w0 rb lb base Al nl cl low Ap np cp ps g q la' (w.setCell ⟨lb, 0, none⟩ (.int .i64 (la' : Int))) :=
  h.set (heap_setne h.run (by have := h.ord; omega)) (heap_set h.last rfl) (fun b _ h1 => Below.heap_setCell _ ⟨lb, 0, none⟩ _ b h1) (by simp [World.setCell]) (bsetc h.below (by have := h.ord; omega) _)
theorem PcR.addPair (h : PcR w0 rb lb base Al nl cl low Ap np cp ps g q la w) {F : Nat → Prop} {obj : Obj} {x : Nat × Nat} (ha : ApdL tPair 332 F w (w.alloc obj) w' (lb + 1) Ap A' (np + 1) c' (ps ++ [x])) :
    (w'.heap[rb]? = w.heap[rb]?) ∧ (w'.heap[lb]? = w.heap[lb]?) ∧ PcR w0 rb lb base Al nl cl low A' (np + 1) c' (ps ++ [x]) g q la (w'.setCell ⟨rb, 2, none⟩ (.slice A' (np + 1) c')) := by
  have ho := h.ord
  have hr := ha.below.block rb (by omega)
  have hl := ha.below.block lb (by omega)
  have hlw : OwnU w' (lb + 1) Al nl cl low := ownU_of ((h.low.alloc obj).grown ha.grown fun b hb => ⟨fun h => h, fun e => h.apart b e (ownF_at h.ps hb).1⟩)
  refine ⟨hr, hl, heap_set (hr.trans h.run) rfl, heap_setne (hl.trans h.last) (by omega), ?_, ?_, ?_, bsetc (h.below.trans (ha.below.mono (by omega))) (Nat.le_refl _) _, ho⟩
  · exact ownU_of (hlw.setCell (p := ⟨rb, 2, none⟩) (fun h => h) (fun e => by have := (ownF_at h.low (b := rb) (by rw [e]; rfl)).2.1; omega) _)
  · have := ha.own.flat flatPair
    exact this.setCell (p := ⟨rb, 2, none⟩) (fun h => h) (fun e => by have := (ownF_at this (b := rb) (by rw [e]; rfl)).2.1; omega) _
  · intro b e1 e2
    have h1 := (ownF_at h.low (b := b) (by rw [e1]; rfl)).2.2
    rcases ha.lies with h2 | h2
    · rw [e2] at h2
      exact h.apart b e1 (ownF_at h.ps h2.symm).1
    · rw [e2] at h2
      simp at h2
      omega
theorem PcR.addLow (h : PcR w0 rb lb base Al nl cl low Ap np cp ps g q la w) {F : Nat → Prop} {obj : Obj} {x : Nat} (ha : ApdL tU64 112 F w (w.alloc obj) w' (lb + 1) Al A' (nl + 1) c' (low ++ [x])) :
    (w'.heap[rb]? = w.heap[rb]?) ∧ (w'.heap[lb]? = w.heap[lb]?) ∧ PcR w0 rb lb base A' (nl + 1) c' (low ++ [x]) Ap np cp ps g q la (w'.setCell ⟨rb, 1, none⟩ (.slice A' (nl + 1) c')) := by
  have ho := h.ord
  have hr := ha.below.block rb (by omega)
  have hl := ha.below.block lb (by omega)
  have hps := ((h.ps.alloc obj).grown ha.grown fun b hb => ⟨fun h => h, fun e => h.apart b (ownF_at h.low hb).1 e⟩)
  refine ⟨hr, hl, heap_set (hr.trans h.run) rfl, heap_setne (hl.trans h.last) (by omega), ?_, ?_, ?_, bsetc (h.below.trans (ha.below.mono (by omega))) (Nat.le_refl _) _, ho⟩
  · have := ownU_of ha.own
    exact ownU_of (this.setCell (p := ⟨rb, 1, none⟩) (fun h => h) (fun e => by have := (ownF_at this (b := rb) (by rw [e]; rfl)).2.1; omega) _)
  · exact hps.setCell (p := ⟨rb, 1, none⟩) (fun h => h) (fun e => by have := (ownF_at h.ps (b := rb) (by rw [e]; rfl)).2.1; omega) _
  · intro b e1 e2
    have h1 := (ownF_at h.ps (b := b) (by rw [e2]; rfl)).2.2
    rcases ha.lies with h2 | h2
    · rw [e1] at h2
      exact h.apart b (ownF_at h.low h2.symm).1 e2
    · rw [e1] at h2
      simp at h2
      omega
theorem PcR.cells (h : PcR w0 rb lb base Al nl cl low Ap np cp ps g q la w) : w.cell? ⟨rb, 0, none⟩ = some (.int .i64 base) ∧ w.cell? ⟨rb, 1, none⟩ = some (.slice Al nl cl) ∧ w.cell? ⟨rb, 2, none⟩ = some (.slice Ap np cp) ∧ w.cell? ⟨rb, 3, none⟩ = some (.int .i64 (g : Int)) ∧ w.cell? ⟨rb, 4, none⟩ = some (.int .i64 (q : Int)) ∧ w.cell? ⟨lb, 0, none⟩ = some (.int .i64 (la : Int)) := by
  refine ⟨?_, ?_, ?_, ?_, ?_, ?_⟩
  iterate 5 (rw [Lib.cell_of_heap h.run]; rfl)
  rw [Lib.cell_of_heap h.last]; rfl
end
set_option maxRecDepth 100000 in
set_option maxHeartbeats 1000000 in
theorem add_any (w0 : World) (rb lb : Nat) (base : Int) (Al : Option Addr) (nl cl : Nat) (low : List Nat) (Ap : Option Addr) (np cp : Nat) (ps : List (Nat × Nat)) (g q la gap p : Nat) (hla : la ≤ 4096) (hgap : gap ≤ 4096) (hp : U64 p) (hnp : np ≤ 4096) (w : World) (h : PcR w0 rb lb base Al nl cl low Ap np cp ps g q la w) :
    Calls Tryz.prog 321 #[.int .i64 (gap : Int), .int .u64 (p : Int), .pointer (some ⟨rb, 0, none⟩), .pointer (some ⟨lb, 0, none⟩)] w fun e w' => e = .returned (.tuple #[]) ∧ ∃ Ap' cp', PcR w0 rb lb base Al nl cl low Ap' (np + 1) cp' (ps ++ [(gap, p)]) (max g (bl gap)) (max q (bl p)) (la + gap) w' := by
  have HH := Lib.hid h; have HP := Lib.hid hp
  have hgap64 : U64 gap := by show gap < 18446744073709551616; omega
  have HGAP := Lib.hid hgap64
  obtain ⟨k0, k1, k2, k3, k4, k5⟩ := h.cells
  have f2 := Lib.frozen_of_heap h.run 2
  have hB : lb + 1 ≤ w.heap.size := blk_lt h.last
  obtain ⟨bg, hbg⟩ : ∃ bg, bg = bl gap := ⟨_, rfl⟩
  obtain ⟨bp, hbp⟩ : ∃ bp, bp = bl p := ⟨_, rfl⟩
  have hbg64 : bg ≤ 64 := by rw [hbg]; exact bl_le64 hgap64
  have hbp64 : bp ≤ 64 := by rw [hbp]; exact bl_le64 hp
  rw [← hbg, ← hbp]
  have HBG := Lib.hid hbg; have HBP := Lib.hid hbp
  obtain ⟨mg, hmg⟩ : ∃ mg, mg = max g bg := ⟨_, rfl⟩
  obtain ⟨mq, hmq⟩ : ∃ mq, mq = max q bp := ⟨_, rfl⟩
  rw [← hmg, ← hmq]
  have xw : IntKind.u64.wrap (gap : Int) = (gap : Int) := by rw [IntKind.wrap_u64]; omega
  have x1 : max (g : Int) (bg : Int) = (mg : Int) := by omega
  have x2 : max (q : Int) (bp : Int) = (mq : Int) := by omega
  clear h hgap64 hbg hbp hmg hmq hp
  go_enter Tryz.func321, Tryz.ntmps321
  go_upto_region 1 with (first
    | (at_builtin; refine apl1 (T := tPair) elemPair w w rfl (.tmp 7) (.tmp 11) rfl (lb + 1) Ap np cp ps rfl (fun _ => False) (fun _ => False) HH.out.ps (Below.refl _ _) hB _ rfl [.int .i64 (gap : Int), .int .u64 (p : Int)] (gap, p) ⟨rfl, by show gap < _; omega, HP.out⟩ 332 rfl (fun _ _ _ _ h => h) (by omega) ?_; intro A3 c3 w3 ha
       obtain ⟨hr, hl, hpc⟩ := HH.out.addPair ha
       have HPC := Lib.hid hpc
       have j2 : w3.cell? ⟨rb, 2, none⟩ = some (.slice Ap np cp) := by rw [Lib.cell_of_heap (hr.trans HH.out.run)]; rfl
       have j3 := Lib.frozen_of_heap (hr.trans HH.out.run) 2
       clear ha hr hl hpc)
    | fail)
  obtain ⟨w1, hw1⟩ : ∃ w1, w1 = w3.setCell ⟨rb, 2, none⟩ (.slice A3 (np + 1) c3) := ⟨_, rfl⟩
  rw [← hw1] at HPC ⊢
  obtain ⟨m0, m1, m2, m3, m4, m5⟩ := HPC.out.cells
  have f3 := Lib.frozen_of_heap HPC.out.run 3
  clear hw1 k0 k1 k2 k3 k4 k5 f2 j2 j3 HH
  go_cut [] from 14 to 20 (fun wx => ∃ wd, wd = wx ∧ PcR w0 rb lb base Al nl cl low A3 (np + 1) c3 (ps ++ [(gap, p)]) mg q la wd)
  case first =>
    go_region_with (first
      | (go_at_call 315; refine (wbits_any gap HGAP.out _).mono ?_; rintro e w2 ⟨rfl, rfl⟩; rw [← HBG.out])
      | fail)
    all_goals
      go_wp2_with fail
      go_meet
      refine ⟨_, rfl, ?_⟩
      first | exact HPC.out.setGap mg | exact HPC.out.drew.setGap mg | exact (HPC.out.setGap mg).drew
  case rest =>
    obtain ⟨wx, rfl, hc⟩ := hcut
    have HC := Lib.hid hc
    clear hc m0 m1 m2 m3 m4 m5 f3 HPC
    obtain ⟨m0, m1, m2, m3, m4, m5⟩ := HC.out.cells
    have f4 := Lib.frozen_of_heap HC.out.run 4
    refine ‹∀ (a : Act) (w_1 : World), Code.wp _ _ _ a w_1 → _› _ _ ?_
    go_upto_region 2 with fail
    go_cut [] from 21 to 26 (fun wx => ∃ wd, wd = wx ∧ PcR w0 rb lb base Al nl cl low A3 (np + 1) c3 (ps ++ [(gap, p)]) mg mq la wd)
    case first =>
      go_region_with (first
        | (go_at_call 315; refine (wbits_any p HP.out _).mono ?_; rintro e w2 ⟨rfl, rfl⟩; rw [← HBP.out])
        | fail)
      all_goals
        go_wp2_with fail
        go_meet
        refine ⟨_, rfl, ?_⟩
        first | exact HC.out.setPat mq | exact HC.out.drew.setPat mq | exact (HC.out.setPat mq).drew
    case rest =>
      obtain ⟨wy, rfl, hd⟩ := hcut
      have HD := Lib.hid hd
      clear hd m0 m1 m2 m3 m4 m5 f4 HC
      obtain ⟨m0, m1, m2, m3, m4, m5⟩ := HD.out.cells
      have f5 := Lib.frozen_of_heap HD.out.last 0
      refine ‹∀ (a : Act) (w_1 : World), Code.wp _ _ _ a w_1 → _› _ _ ?_
      go_wp2_with fail
      go_end0
      have hm := HD.out.setLast (la + gap)
      rw [Int.natCast_add] at hm
      exact ⟨rfl, A3, c3, hm⟩
end Go.Proofs.YtpmglcachffojaaGreatDoor
