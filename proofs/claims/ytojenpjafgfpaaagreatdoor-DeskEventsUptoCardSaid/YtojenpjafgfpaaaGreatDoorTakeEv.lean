/- The layer desk: TakeEvent. -/
import Derived.Test.YtojenpjafgfpaaaGreatDoorRead6
import Derived.Test.YtojenpjafgfpaaaGreatDoorBound
import Derived.Test.YtojenpjafgfpaaaGreatDoorEq
namespace Go.Proofs.YtojenpjafgfpaaaGreatDoor
open Go Go.RowKit
attribute [local go_sem ↓] Go.wp_at_zero Go.wp_at_succ

/-- The event that is told: what was taken, or none. -/
def tkEv (l : List UInt8) : EE := (takeEvent l).getD EE.zero
def ecellsL (x : EE) (Z0 : Option Addr) (y0 v0 : Nat) (Z1 : Option Addr) (y1 v1 : Nat) (Z2 : Option Addr) (y2 v2 : Nat) (Z3 : Option Addr) (y3 v3 : Nat) (Z4 : Option Addr) (y4 v4 : Nat) : List Value :=
  [.int .i64 x.kind, .int .i64 x.id, .int .i64 x.n, .int .i64 x.m, .slice Z0 y0 v0, .slice Z1 y1 v1, .int .i64 x.list.high, .slice Z2 y2 v2, .slice Z3 y3 v3, .slice Z4 y4 v4]
theorem rep_zero (F : Nat → Prop) (w : World) : tEE.rep F w (#[.int .i64 0, .int .i64 0, .int .i64 0, .int .i64 0, .slice none 0 0, .slice none 0 0, .int .i64 0, .slice none 0 0, .slice none 0 0, .slice none 0 0] : Array Value).toList EE.zero :=
  ⟨none, 0, 0, none, 0, 0, none, 0, 0, none, 0, 0, none, 0, 0, rfl, by unfold i64; decide, by unfold i64; decide, by unfold i64; decide, by unfold i64; decide, by unfold i64; decide, Sl.nil_ _ _ _, Sl.nil_ _ _ _, Sl.nil_ _ _ _, Sl.nil_ _ _ _, Sl.nil_ _ _ _⟩
def TePost (l : List UInt8) (w : World) (e : Ending) (w' : World) : Prop :=
  ∃ cs, e = .returned (.tuple #[.agg cs, .int .i64 (okc (takeEvent l).isSome 240)]) ∧ Below w.heap.size w w' ∧ tEE.rep (fun b => w.heap.size ≤ b) w' cs.toList (tkEv l)

theorem takeEvent_eq (l : List UInt8) : takeEvent l = if (rdEvent (rdFields l).1 (rdFields l).2).1 = true ∨ putEvent (rdEvent (rdFields l).1 (rdFields l).2).2 ≠ l then none else some (rdEvent (rdFields l).1 (rdFields l).2).2 := by
  unfold takeEvent
  simp only [Bool.or_eq_true, bne_iff_ne, ne_eq]

theorem heap_set10 {w : World} {g : Nat} {c0 c1 c2 c3 c4 c5 c6 c7 c8 c9 : Value} {t : TypeId} {fr : Nat × Nat} {u0 u1 u2 u3 u4 u5 u6 u7 u8 u9 : Value} (h : w.heap[g]? = some (.cells #[c0, c1, c2, c3, c4, c5, c6, c7, c8, c9] t fr)) :
    ((((((((((w.setCell ⟨g, 0, none⟩ u0).setCell ⟨g, 1, none⟩ u1).setCell ⟨g, 2, none⟩ u2).setCell ⟨g, 3, none⟩ u3).setCell ⟨g, 4, none⟩ u4).setCell ⟨g, 5, none⟩ u5).setCell ⟨g, 6, none⟩ u6).setCell ⟨g, 7, none⟩ u7).setCell ⟨g, 8, none⟩ u8).setCell ⟨g, 9, none⟩ u9).heap[g]? = some (.cells #[u0, u1, u2, u3, u4, u5, u6, u7, u8, u9] t fr) :=
  (heap_set (cs' := #[u0, u1, u2, u3, u4, u5, u6, u7, u8, u9]) (heap_set (cs' := #[u0, u1, u2, u3, u4, u5, u6, u7, u8, c9]) (heap_set (cs' := #[u0, u1, u2, u3, u4, u5, u6, u7, c8, c9]) (heap_set (cs' := #[u0, u1, u2, u3, u4, u5, u6, c7, c8, c9]) (heap_set (cs' := #[u0, u1, u2, u3, u4, u5, c6, c7, c8, c9]) (heap_set (cs' := #[u0, u1, u2, u3, u4, c5, c6, c7, c8, c9]) (heap_set (cs' := #[u0, u1, u2, u3, c4, c5, c6, c7, c8, c9]) (heap_set (cs' := #[u0, u1, u2, c3, c4, c5, c6, c7, c8, c9]) (heap_set (cs' := #[u0, u1, c2, c3, c4, c5, c6, c7, c8, c9]) (heap_set (cs' := #[u0, c1, c2, c3, c4, c5, c6, c7, c8, c9]) h rfl) rfl) rfl) rfl) rfl) rfl) rfl) rfl) rfl) rfl)
theorem below_set10 {B : Nat} {a w : World} {g : Nat} {u0 u1 u2 u3 u4 u5 u6 u7 u8 u9 : Value} (h : Below B a w) (hg : B ≤ g) : Below B a ((((((((((w.setCell ⟨g, 0, none⟩ u0).setCell ⟨g, 1, none⟩ u1).setCell ⟨g, 2, none⟩ u2).setCell ⟨g, 3, none⟩ u3).setCell ⟨g, 4, none⟩ u4).setCell ⟨g, 5, none⟩ u5).setCell ⟨g, 6, none⟩ u6).setCell ⟨g, 7, none⟩ u7).setCell ⟨g, 8, none⟩ u8).setCell ⟨g, 9, none⟩ u9) :=
  bsetc (bsetc (bsetc (bsetc (bsetc (bsetc (bsetc (bsetc (bsetc (bsetc h hg _) hg _) hg _) hg _) hg _) hg _) hg _) hg _) hg _) hg _
theorem Ty.setCell {α : Type} (T : Ty α) {F : Nat → Prop} {w : World} {cs : List Value} {x : α} (h : T.rep F w cs x) {g j : Nat} (hg : ¬ F g) (v : Value) : T.rep F (w.setCell ⟨g, j, none⟩ v) cs x :=
  T.keep h (by simp) fun b hF _ => Below.heap_setCell w ⟨g, j, none⟩ v b (fun e => hg (by simp at e; exact e ▸ hF))
theorem ty_set10 {α : Type} (T : Ty α) {F : Nat → Prop} {w : World} {cs : List Value} {x : α} {g : Nat} {u0 u1 u2 u3 u4 u5 u6 u7 u8 u9 : Value} (h : T.rep F w cs x) (hg : ¬ F g) : T.rep F ((((((((((w.setCell ⟨g, 0, none⟩ u0).setCell ⟨g, 1, none⟩ u1).setCell ⟨g, 2, none⟩ u2).setCell ⟨g, 3, none⟩ u3).setCell ⟨g, 4, none⟩ u4).setCell ⟨g, 5, none⟩ u5).setCell ⟨g, 6, none⟩ u6).setCell ⟨g, 7, none⟩ u7).setCell ⟨g, 8, none⟩ u8).setCell ⟨g, 9, none⟩ u9) cs x :=
  T.setCell (T.setCell (T.setCell (T.setCell (T.setCell (T.setCell (T.setCell (T.setCell (T.setCell (T.setCell h hg _) hg _) hg _) hg _) hg _) hg _) hg _) hg _) hg _) hg _
def EvPostL (g : Nat) (re : Bool × EE) (w : World) (e : Ending) (w' : World) : Prop :=
  ∃ Z0 y0 v0 Z1 y1 v1 Z2 y2 v2 Z3 y3 v3 Z4 y4 v4, e = .returned (.agg #[.int .i64 re.2.kind, .int .i64 re.2.id, .int .i64 re.2.n, .int .i64 re.2.m, .slice Z0 y0 v0, .slice Z1 y1 v1, .int .i64 re.2.list.high, .slice Z2 y2 v2, .slice Z3 y3 v3, .slice Z4 y4 v4]) ∧ w.grownBy w' (some g) ∧ RdAt g re.1 w' ∧
    tEE.rep (fun b => w.heap.size ≤ b) w' (ecellsL re.2 Z0 y0 v0 Z1 y1 v1 Z2 y2 v2 Z3 y3 v3 Z4 y4 v4) re.2
theorem revent_rv (g : Nat) (bad : Bool) (F : Nat → Prop) (A1 : Option Addr) (n1 c1 : Nat) (L : List Fld) (w : World) (h : Sl tFld F w A1 n1 c1 L) (hF : ¬ F g) (hn1 : n1 ≤ 4294967296) (hLb : ∀ f ∈ L, f.b.length ≤ 4294967296) (hg : RdAt g bad w) {re : Bool × EE} (hre : re = rdEvent bad L) :
    Calls Tryz.prog 16 #[.pointer (some ⟨g, 0, none⟩), .slice A1 n1 c1] w (EvPostL g re w) := by
  subst hre; exact revent_any g bad F A1 n1 c1 L w h hF hn1 hLb hg

set_option maxRecDepth 100000 in
set_option maxHeartbeats 4000000 in
theorem takeEvent_any (F : Nat → Prop) (A : Option Addr) (n c : Nat) (l : List UInt8) (w : World) (h : Bs F w A n c l) (hn : n ≤ 2097152) :
    Calls Tryz.prog 7 #[.slice A n c] w (TePost l w) := by
  have HL := Lib.hid h.len
  obtain ⟨rf, hrf⟩ : ∃ rf : Bool × List Fld, rf = rdFields l := ⟨_, rfl⟩
  obtain ⟨re, hre⟩ : ∃ re : Bool × EE, re = rdEvent rf.1 rf.2 := ⟨_, rfl⟩
  have htk := takeEvent_eq l
  rw [← hrf, ← hre] at htk
  have hlen : evLen re.2 ≤ 4294967000 := by
    rw [hre, hrf]
    have := rdEvent_len l (rdFields l).1
    have := HL.out
    omega
  have hcnt : rf.2.length ≤ 4294967296 := by rw [hrf]; exact rdFields_count (by have := HL.out; omega)
  have hmem : ∀ f ∈ rf.2, f.b.length ≤ 4294967296 := fun f hf => by
    have := rdFields_mem (l := l) (f := f) (by rw [← hrf]; exact hf)
    have := HL.out
    omega
  have HTK := Lib.hid htk; have HRF := Lib.hid hrf; have HRE := Lib.hid hre; have HMEM := Lib.hid hmem
  clear htk hrf hre hmem
  go_enter Tryz.func7, Tryz.ntmps7
  go_wp2_with fail
  have hg0 : RdAt (w.heap.size + 1) false ((w.alloc (.cells #[.int .i64 0, .int .i64 0, .int .i64 0, .int .i64 0, .slice none 0 0, .slice none 0 0, .int .i64 0, .slice none 0 0, .slice none 0 0, .slice none 0 0] 29)).alloc (.cells #[.bool false] 57)) := by
    have := heap_alloc_new (w.alloc (.cells #[.int .i64 0, .int .i64 0, .int .i64 0, .int .i64 0, .slice none 0 0, .slice none 0 0, .int .i64 0, .slice none 0 0, .slice none 0 0, .slice none 0 0] 29)) (.cells #[.bool false] 57 (0, 0))
    rw [World.size_alloc] at this
    exact this
  refine (rfields_rv (w.heap.size + 1) false F A n c l _ ((h.alloc _).alloc _) (by omega) hg0 HRF.out).mono ?_
  rintro e w1 ⟨A1, n1, c1, rfl, hg1, hr1, hs1⟩
  rw [Bool.false_or] at hr1
  have hP1 : w1.heap[w.heap.size]? = some (.cells #[.int .i64 0, .int .i64 0, .int .i64 0, .int .i64 0, .slice none 0 0, .slice none 0 0, .int .i64 0, .slice none 0 0, .slice none 0 0, .slice none 0 0] 29 (0, 0)) := (hg1.block _ (by simp; omega) (by simp)).trans (heap_allocd (heap_alloc_new w _) _)
  have hb1 : Below w.heap.size w w1 := (((Below.refl _ w).alloc (Nat.le_refl _) _).alloc (by simp) _).grown hg1 (by simp; omega) (fun k hk => by injection hk; omega)
  have hsz1 : w.heap.size + 2 ≤ w1.heap.size := by have := hg1.size; simpa using this
  have HP1 := Lib.hid hP1; have HB1 := Lib.hid hb1; have HR1 := Lib.hid hr1
  have HS1 := Lib.hid (hs1.weaken (F' := fun b => w.heap.size + 2 ≤ b) fun b hb _ => by simp at hb; omega)
  clear hP1 hb1 hr1 hs1 hg1 hg0
  have hn1 : n1 ≤ 4294967296 := by rw [HS1.out.len]; exact hcnt
  go_wp2_with fail
  refine (revent_rv (w.heap.size + 1) rf.1 _ A1 n1 c1 rf.2 _ HS1.out (by omega) hn1 HMEM.out HR1.out HRE.out).mono ?_
  rintro e w2 ⟨Z0, y0, v0, Z1, y1, v1, Z2, y2, v2, Z3, y3, v3, Z4, y4, v4, rfl, hg2, hr2, hrep⟩
  have HP2 := Lib.hid ((hg2.block w.heap.size (by omega) (by simp)).trans HP1.out)
  have HB2 : Hid (Below w.heap.size w w2) := Lib.hid (HB1.out.grown hg2 (by omega) (fun k hk => by injection hk; omega))
  have hsz2 : w1.heap.size ≤ w2.heap.size := hg2.size
  obtain ⟨wb, hwb, hBb, hCb, hSb, _⟩ := boxed w2 [.int .i64 re.2.kind, .int .i64 re.2.id, .int .i64 re.2.n, .int .i64 re.2.m, .slice Z0 y0 v0, .slice Z1 y1 v1, .int .i64 re.2.list.high, .slice Z2 y2 v2, .slice Z3 y3 v3, .slice Z4 y4 v4] 29
  have HBB := Lib.hid hBb
  have HRB := Lib.hid (hr2.below hBb)
  have HREP := Lib.hid (tEE.below hrep hBb (Nat.le_refl _))
  have HPB := Lib.hid (below_heap hBb HP2.out)
  have HB3 : Hid (Below w.heap.size w wb) := Lib.hid (HB2.out.trans (hBb.mono (by omega)))
  have hszb : w2.heap.size ≤ wb.heap.size := hBb.size
  have rq := HRB.out.cell
  have rf0 := Lib.frozen_of_heap HRB.out 0
  have b0 : wb.cell? ⟨w2.heap.size, 0, none⟩ = some (.int .i64 re.2.kind) := hCb 0 _ rfl
  have b1 : wb.cell? ⟨w2.heap.size, 1, none⟩ = some (.int .i64 re.2.id) := hCb 1 _ rfl
  have b2 : wb.cell? ⟨w2.heap.size, 2, none⟩ = some (.int .i64 re.2.n) := hCb 2 _ rfl
  have b3 : wb.cell? ⟨w2.heap.size, 3, none⟩ = some (.int .i64 re.2.m) := hCb 3 _ rfl
  have b4 : wb.cell? ⟨w2.heap.size, 4, none⟩ = some (.slice Z0 y0 v0) := hCb 4 _ rfl
  have b5 : wb.cell? ⟨w2.heap.size, 5, none⟩ = some (.slice Z1 y1 v1) := hCb 5 _ rfl
  have b6 : wb.cell? ⟨w2.heap.size, 6, none⟩ = some (.int .i64 re.2.list.high) := hCb 6 _ rfl
  have b7 : wb.cell? ⟨w2.heap.size, 7, none⟩ = some (.slice Z2 y2 v2) := hCb 7 _ rfl
  have b8 : wb.cell? ⟨w2.heap.size, 8, none⟩ = some (.slice Z3 y3 v3) := hCb 8 _ rfl
  have b9 : wb.cell? ⟨w2.heap.size, 9, none⟩ = some (.slice Z4 y4 v4) := hCb 9 _ rfl
  clear hg2 hr2 hrep hBb hCb hSb
  go_upto_region 3 with fail
  rw [← hwb]
  clear hwb
  obtain ⟨bd, hbd⟩ : ∃ bd, bd = re.1 := ⟨_, rfl⟩
  rw [← hbd] at rq
  have HBD := Lib.hid hbd; clear hbd
  cases bd with
  | true =>
    have HFIN := Lib.hid (show takeEvent l = none by rw [HTK.out, if_pos (.inl HBD.out.symm)])
    have z0 : wb.cell? ⟨w.heap.size, 0, none⟩ = some (.int .i64 0) := by rw [Lib.cell_of_heap HPB.out]; rfl
    have z1 : wb.cell? ⟨w.heap.size, 1, none⟩ = some (.int .i64 0) := by rw [Lib.cell_of_heap HPB.out]; rfl
    have z2 : wb.cell? ⟨w.heap.size, 2, none⟩ = some (.int .i64 0) := by rw [Lib.cell_of_heap HPB.out]; rfl
    have z3 : wb.cell? ⟨w.heap.size, 3, none⟩ = some (.int .i64 0) := by rw [Lib.cell_of_heap HPB.out]; rfl
    have z4 : wb.cell? ⟨w.heap.size, 4, none⟩ = some (.slice none 0 0) := by rw [Lib.cell_of_heap HPB.out]; rfl
    have z5 : wb.cell? ⟨w.heap.size, 5, none⟩ = some (.slice none 0 0) := by rw [Lib.cell_of_heap HPB.out]; rfl
    have z6 : wb.cell? ⟨w.heap.size, 6, none⟩ = some (.int .i64 0) := by rw [Lib.cell_of_heap HPB.out]; rfl
    have z7 : wb.cell? ⟨w.heap.size, 7, none⟩ = some (.slice none 0 0) := by rw [Lib.cell_of_heap HPB.out]; rfl
    have z8 : wb.cell? ⟨w.heap.size, 8, none⟩ = some (.slice none 0 0) := by rw [Lib.cell_of_heap HPB.out]; rfl
    have z9 : wb.cell? ⟨w.heap.size, 9, none⟩ = some (.slice none 0 0) := by rw [Lib.cell_of_heap HPB.out]; rfl
    have zf0 := Lib.frozen_of_heap HPB.out 0
    have zf1 := Lib.frozen_of_heap HPB.out 1
    have zf2 := Lib.frozen_of_heap HPB.out 2
    have zf3 := Lib.frozen_of_heap HPB.out 3
    have zf4 := Lib.frozen_of_heap HPB.out 4
    have zf5 := Lib.frozen_of_heap HPB.out 5
    have zf6 := Lib.frozen_of_heap HPB.out 6
    have zf7 := Lib.frozen_of_heap HPB.out 7
    have zf8 := Lib.frozen_of_heap HPB.out 8
    have zf9 := Lib.frozen_of_heap HPB.out 9
    go_wp2_with fail
    refine bodyPost_ret (results_row2 rfl _ _ w.heap.size 29 #[.int .i64 0, .int .i64 0, .int .i64 0, .int .i64 0, .slice none 0 0, .slice none 0 0, .int .i64 0, .slice none 0 0, .slice none 0 0, .slice none 0 0] (0, 0) _ rfl (heap_set10 HPB.out) Tryz.underlying29 rfl (by kernel_rfl)) rfl ?_
    unfold TePost tkEv
    rw [HFIN.out]
    exact ⟨_, rfl, below_set10 HB3.out (Nat.le_refl _), rep_zero _ _⟩
  | false =>
    go_wp2_with (go_at_call 10; refine (putEvent_any re.2 _ [.int .i64 re.2.kind, .int .i64 re.2.id, .int .i64 re.2.n, .int .i64 re.2.m, .slice Z0 y0 v0, .slice Z1 y1 v1, .int .i64 re.2.list.high, .slice Z2 y2 v2, .slice Z3 y3 v3, .slice Z4 y4 v4] _ HREP.out hlen).mono ?_)
    rintro e w4 ⟨A6, n6, c6, rfl, hown, hb4⟩
    have HO := Lib.hid hown; have HB4 := Lib.hid hb4
    have hn6 : n6 ≤ 4294967296 := by rw [hown.len]; have := putEvent_len re.2; omega
    clear hown hb4
    obtain ⟨r, hr⟩ : ∃ r, r = decide (putEvent re.2 = l) := ⟨_, rfl⟩
    have HR := Lib.hid hr; clear hr
    have HBA : Hid (Bs F wb A n c l) := Lib.hid (h.below HB3.out (Nat.le_refl _))
    go_wp2_with (go_at_call 18; refine (eqB_any _ _ A6 A n6 c6 n c (putEvent re.2) l _ HO.out.bs (HBA.out.below HB4.out (Nat.le_refl _)) hn6 (by omega) r HR.out).mono ?_)
    rintro e w5 ⟨rfl, hb5⟩
    have HB5 : Hid (Below wb.heap.size wb w5) := Lib.hid (HB4.out.trans (hb5.mono HB4.out.size))
    have HP5 := Lib.hid (below_heap HB5.out HPB.out)
    have HB6 : Hid (Below w.heap.size w w5) := Lib.hid (HB3.out.trans (HB5.out.mono (by omega)))
    have HREP5 := Lib.hid (tEE.below HREP.out HB5.out (Nat.le_refl _))
    have z0 : w5.cell? ⟨w.heap.size, 0, none⟩ = some (.int .i64 0) := by rw [Lib.cell_of_heap HP5.out]; rfl
    have z1 : w5.cell? ⟨w.heap.size, 1, none⟩ = some (.int .i64 0) := by rw [Lib.cell_of_heap HP5.out]; rfl
    have z2 : w5.cell? ⟨w.heap.size, 2, none⟩ = some (.int .i64 0) := by rw [Lib.cell_of_heap HP5.out]; rfl
    have z3 : w5.cell? ⟨w.heap.size, 3, none⟩ = some (.int .i64 0) := by rw [Lib.cell_of_heap HP5.out]; rfl
    have z4 : w5.cell? ⟨w.heap.size, 4, none⟩ = some (.slice none 0 0) := by rw [Lib.cell_of_heap HP5.out]; rfl
    have z5 : w5.cell? ⟨w.heap.size, 5, none⟩ = some (.slice none 0 0) := by rw [Lib.cell_of_heap HP5.out]; rfl
    have z6 : w5.cell? ⟨w.heap.size, 6, none⟩ = some (.int .i64 0) := by rw [Lib.cell_of_heap HP5.out]; rfl
    have z7 : w5.cell? ⟨w.heap.size, 7, none⟩ = some (.slice none 0 0) := by rw [Lib.cell_of_heap HP5.out]; rfl
    have z8 : w5.cell? ⟨w.heap.size, 8, none⟩ = some (.slice none 0 0) := by rw [Lib.cell_of_heap HP5.out]; rfl
    have z9 : w5.cell? ⟨w.heap.size, 9, none⟩ = some (.slice none 0 0) := by rw [Lib.cell_of_heap HP5.out]; rfl
    have zf0 := Lib.frozen_of_heap HP5.out 0
    have zf1 := Lib.frozen_of_heap HP5.out 1
    have zf2 := Lib.frozen_of_heap HP5.out 2
    have zf3 := Lib.frozen_of_heap HP5.out 3
    have zf4 := Lib.frozen_of_heap HP5.out 4
    have zf5 := Lib.frozen_of_heap HP5.out 5
    have zf6 := Lib.frozen_of_heap HP5.out 6
    have zf7 := Lib.frozen_of_heap HP5.out 7
    have zf8 := Lib.frozen_of_heap HP5.out 8
    have zf9 := Lib.frozen_of_heap HP5.out 9
    have b0' := kcell HB5.out b0
    have b1' := kcell HB5.out b1
    have b2' := kcell HB5.out b2
    have b3' := kcell HB5.out b3
    have b4' := kcell HB5.out b4
    have b5' := kcell HB5.out b5
    have b6' := kcell HB5.out b6
    have b7' := kcell HB5.out b7
    have b8' := kcell HB5.out b8
    have b9' := kcell HB5.out b9
    clear hb5 b0 b1 b2 b3 b4 b5 b6 b7 b8 b9 rq rf0
    cases r with
    | false =>
      have HFIN := Lib.hid (show takeEvent l = none by rw [HTK.out, if_pos (.inr (of_decide_eq_false HR.out.symm))])
      go_wp2_with fail
      refine bodyPost_ret (results_row2 rfl _ _ w.heap.size 29 #[.int .i64 0, .int .i64 0, .int .i64 0, .int .i64 0, .slice none 0 0, .slice none 0 0, .int .i64 0, .slice none 0 0, .slice none 0 0, .slice none 0 0] (0, 0) _ rfl (heap_set10 HP5.out) Tryz.underlying29 rfl (by kernel_rfl)) rfl ?_
      unfold TePost tkEv
      rw [HFIN.out]
      exact ⟨_, rfl, below_set10 HB6.out (Nat.le_refl _), rep_zero _ _⟩
    | true =>
      have heq : putEvent re.2 = l := of_decide_eq_true HR.out.symm
      have HFIN := Lib.hid (show takeEvent l = some re.2 by
        rw [HTK.out, if_neg]
        rintro (h1 | h1)
        · rw [← HBD.out] at h1; cases h1
        · exact h1 heq)
      clear heq
      have q2 : ¬ w1.heap.size ≤ w.heap.size := by omega
      go_wp2_with fail
      refine bodyPost_ret (results_row2 rfl _ _ w.heap.size 29 #[.int .i64 re.2.kind, .int .i64 re.2.id, .int .i64 re.2.n, .int .i64 re.2.m, .slice Z0 y0 v0, .slice Z1 y1 v1, .int .i64 re.2.list.high, .slice Z2 y2 v2, .slice Z3 y3 v3, .slice Z4 y4 v4] (0, 0) _ rfl (heap_set10 HP5.out) Tryz.underlying29 rfl (by kernel_rfl)) rfl ?_
      unfold TePost tkEv
      rw [HFIN.out]
      exact ⟨_, rfl, below_set10 HB6.out (Nat.le_refl _), tEE.weaken (ty_set10 tEE HREP5.out q2) fun b hb _ => by omega⟩
end Go.Proofs.YtojenpjafgfpaaaGreatDoor
