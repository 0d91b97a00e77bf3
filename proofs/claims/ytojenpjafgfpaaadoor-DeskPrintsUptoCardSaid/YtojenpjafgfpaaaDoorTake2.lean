/- The layer wire: one. -/
import Derived.Test.YtojenpjafgfpaaaDoorTake
import Derived.Laws.Rows
namespace Go.Proofs.YtojenpjafgfpaaaDoor
open Go Go.RowKit

theorem vtk_len : ∀ (f i x : Nat) (l : List UInt8) (v : Nat) (r : List UInt8), vtk f i x l = some (v, r) → r.length < l.length
  | 0, i, x, l, v, r, h => by simp [vtk] at h
  | f + 1, i, x, [], v, r, h => by simp [vtk] at h
  | f + 1, i, x, c :: t, v, r, h => by
    simp only [vtk] at h
    split at h
    · have := vtk_len f _ _ t v r h
      simp only [List.length_cons]; omega
    · split at h
      · cases h
      · injection h with h; injection h with _ h; subst h; simp
theorem vtake_len {l : List UInt8} {v : Nat} {r : List UInt8} (h : vtake l = some (v, r)) : r.length < l.length := vtk_len 10 0 0 l v r h
theorem results_row3 {P : Program} {fn : Func} {p u v : Tmp} {ty : TypeId} (h : fn.results = #[.cell p ty, .tmp u, .tmp v]) (tmps : Array Value) (w : World) (g : Nat) (t : TypeId) (cs : Array Value) (fr : Nat × Nat) (d : TypeDesc)
    (hp : tmps.getD p undef = .pointer (some ⟨g, 0, none⟩)) (hg : w.heap[g]? = some (.cells cs t fr))
    (hu : P.underlying ty = some d) (hd : (match d with | .struct _ | .array _ _ => true | _ => false) = true) (hi : (P.info? ty).map (·.size) = some cs.size) :
    (results fn tmps).run P w = .ok (.tuple #[.agg cs, tmps.getD u undef, tmps.getD v undef]) w := by
  have hp' : tmps[p]?.getD undef = .pointer (some ⟨g, 0, none⟩) := by simpa using hp
  simp [results, h, hp', asAddr, run_loadVar_row w g t ty cs fr d hg hu hd hi]
theorem results_row2 {P : Program} {fn : Func} {p u : Tmp} {ty : TypeId} (h : fn.results = #[.cell p ty, .tmp u]) (tmps : Array Value) (w : World) (g : Nat) (t : TypeId) (cs : Array Value) (fr : Nat × Nat) (d : TypeDesc)
    (hp : tmps.getD p undef = .pointer (some ⟨g, 0, none⟩)) (hg : w.heap[g]? = some (.cells cs t fr))
    (hu : P.underlying ty = some d) (hd : (match d with | .struct _ | .array _ _ => true | _ => false) = true) (hi : (P.info? ty).map (·.size) = some cs.size) :
    (results fn tmps).run P w = .ok (.tuple #[.agg cs, tmps.getD u undef]) w := by
  have hp' : tmps[p]?.getD undef = .pointer (some ⟨g, 0, none⟩) := by simpa using hp
  simp [results, h, hp', asAddr, run_loadVar_row w g t ty cs fr d hg hu hd hi]
/-- A store into a row. -/
theorem heap_set {w : World} {g j : Nat} {cs cs' : Array Value} {t : TypeId} {fr : Nat × Nat} {v : Value} (h : w.heap[g]? = some (.cells cs t fr)) (hc : cs.setIfInBounds j v = cs') : (w.setCell ⟨g, j, none⟩ v).heap[g]? = some (.cells cs' t fr) := by
  subst hc
  simp [World.setCell, Array.getElem?_modify, h]
theorem bsetc {B b j : Nat} {a w : World} (h : Below B a w) (hb : B ≤ b) (v : Value) : Below B a (w.setCell ⟨b, j, none⟩ v) := h.setCell (p := ⟨b, j, none⟩) hb v
theorem slsetc {α : Type} {T : Ty α} {F : Nat → Prop} {w : World} {A : Option Addr} {n c b j : Nat} {xs : List α} (h : Sl T F w A n c xs) (hb : ¬ F b) (v : Value) : Sl T F (w.setCell ⟨b, j, none⟩ v) A n c xs := h.setCell (p := ⟨b, j, none⟩) hb v
theorem heap_drew {w : World} {g : Nat} {o : Obj} (h : w.heap[g]? = some o) : w.drew.heap[g]? = some o := h
theorem bdrewB {B : Nat} {a w : World} (h : Below B a w) : Below B a w.drew := h.drew
theorem own_shape {w : World} {B : Nat} {A : Option Addr} {n c : Nat} {l : List UInt8} (h : OwnB w B A n c l) : (A = none ∧ n = 0 ∧ c = 0) ∨ ∃ g, A = some ⟨g, 0, none⟩ := by
  rcases h.2 with ⟨h1, h2⟩ | ⟨g, cap, cur, h1, _⟩
  · injection h1 with h3 _ h4; exact .inl ⟨h3, h2, h4⟩
  · injection h1 with h3; exact .inr ⟨g, h3⟩
theorem below_heap {W w1 : World} {b : Nat} {o : Obj} (hb : Below W.heap.size W w1) (h : W.heap[b]? = some o) : w1.heap[b]? = some o := (hb.block b (by
  rcases Nat.lt_or_ge b W.heap.size with h' | h'
  · exact h'
  · rw [Array.getElem?_eq_none h'] at h; cases h)).trans h

/-- What 'one' leaves: the field, what is behind it, the error's number. -/
def OnePost (l : List UInt8) (w : World) (e : Ending) (w' : World) : Prop :=
  ∃ (tag : Int) (isb : Bool) (x : Nat) (A1 : Option Addr) (n1 c1 : Nat) (A : Option Addr) (n c : Nat),
    e = .returned (.tuple #[.agg #[.int .i64 tag, .bool isb, .int .u64 (x : Int), .slice A1 n1 c1], .slice A n c, .int .i64 (okc (wone l).isSome 2)]) ∧ Below w.heap.size w w' ∧
    ∀ f r, wone l = some (f, r) → tFld.rep (fun b => w.heap.size ≤ b) w' [.int .i64 tag, .bool isb, .int .u64 (x : Int), .slice A1 n1 c1] f ∧ Bs (fun b => w.heap.size ≤ b) w' A n c r

theorem u64_and7 (x : Nat) (h : x < 18446744073709551616) : bits BinOp.and IntKind.u64 (x : Int) 7 = ((x % 8 : Nat) : Int) := by
  rw [show (7 : Int) = ((7 : Nat) : Int) from rfl, u64_and_nat _ _ h (by decide)]
  congr 1
  exact Nat.and_two_pow_sub_one_eq_mod x 3

set_option maxRecDepth 100000 in
set_option maxHeartbeats 3000000 in
theorem wone_any (F : Nat → Prop) (A : Option Addr) (n c : Nat) (l : List UInt8) (w : World) (h : Bs F w A n c l) (hn : n ≤ 4294967296) :
    Calls Tryd.prog 100 #[.slice A n c] w (OnePost l w) := by
  have HL := Lib.hid h.len
  go_enter Tryd.func100, Tryd.ntmps100
  go_wp2_with (go_at_call 105; refine (vtake_any F A n c l _ (h.alloc _) hn).mono ?_)
  rintro e w1 ⟨x1, A1, n1, c1, rfl, hb1, ht1⟩
  have hbk : w1.heap[w.heap.size]? = some (.cells #[.int .i64 0, .bool false, .int .u64 0, .slice none 0 0] 80 (0, 0)) := (hb1.block _ (by simp)).trans (heap_alloc_new w _)
  have q0 : w1.cell? ⟨w.heap.size, 0, none⟩ = some (.int .i64 0) := by rw [Lib.cell_of_heap hbk]; rfl
  have q1 : w1.cell? ⟨w.heap.size, 1, none⟩ = some (.bool false) := by rw [Lib.cell_of_heap hbk]; rfl
  have q2 : w1.cell? ⟨w.heap.size, 2, none⟩ = some (.int .u64 0) := by rw [Lib.cell_of_heap hbk]; rfl
  have q3 : w1.cell? ⟨w.heap.size, 3, none⟩ = some (.slice none 0 0) := by rw [Lib.cell_of_heap hbk]; rfl
  have f0 := Lib.frozen_of_heap hbk 0
  have f1 := Lib.frozen_of_heap hbk 1
  have f2 := Lib.frozen_of_heap hbk 2
  have f3 := Lib.frozen_of_heap hbk 3
  have HB1 : Hid (Below w.heap.size w w1) := Lib.hid (((Below.refl _ w).alloc (Nat.le_refl _) _).trans (hb1.mono (by simp)))
  have HBK := Lib.hid hbk
  clear hbk hb1
  obtain ⟨ec, hec⟩ : ∃ ec, ec = okc (vtake l).isSome 2 := ⟨_, rfl⟩
  rw [← hec]
  cases hT : vtake l with
  | none =>
    obtain rfl : ec = 2 := by rw [hec, hT]; rfl
    have HO := Lib.hid (show wone l = none by simp [wone, hT])
    clear hT hec ht1
    go_wp2_with fail
    refine bodyPost_ret (results_row3 rfl _ _ w.heap.size 80 #[.int .i64 0, .bool false, .int .u64 0, .slice none 0 0] (0, 0) _ rfl (by have hk := HBK.out; (repeat (first | with_reducible exact hk | with_reducible apply heap_set)); all_goals rfl) Tryd.underlying80 rfl (by kernel_rfl)) rfl ⟨0, false, 0, none, 0, 0, none, 0, 0, by rw [HO.out]; rfl, ?_, by rw [HO.out]; simp⟩
    have hb := HB1.out
    repeat (first | with_reducible exact hb | with_reducible refine bsetc ?_ (Nat.le_refl _) _)
  | some p =>
    obtain ⟨key, r1⟩ := p
    obtain rfl : ec = 0 := by rw [hec, hT]; rfl
    obtain ⟨rfl, hx1, hown1⟩ := ht1 key r1 hT
    have hlr := vtake_len hT
    have HL1 := Lib.hid hown1.len
    have hn1 : n1 ≤ 4294967296 := by rw [HL1.out]; have := HL.out; omega
    have HT := Lib.hid hT
    have HO1 := Lib.hid hown1
    clear hT hec ht1 hown1
    go_wp2_with (go_at_call 105; refine (vtake_any _ A1 n1 c1 r1 _ HO1.out.bs hn1).mono ?_)
    rintro e w2 ⟨x2, A2, n2, c2, rfl, hb2, ht2⟩
    have hbk := below_heap hb2 HBK.out
    have HB2 : Hid (Below w.heap.size w w2) := Lib.hid (HB1.out.trans (hb2.mono HB1.out.size))
    clear q0 q1 q2 q3 f0 f1 f2 f3 hb2
    have q0 : w2.cell? ⟨w.heap.size, 0, none⟩ = some (.int .i64 0) := by rw [Lib.cell_of_heap hbk]; rfl
    have q1 : w2.cell? ⟨w.heap.size, 1, none⟩ = some (.bool false) := by rw [Lib.cell_of_heap hbk]; rfl
    have q2 : w2.cell? ⟨w.heap.size, 2, none⟩ = some (.int .u64 0) := by rw [Lib.cell_of_heap hbk]; rfl
    have q3 : w2.cell? ⟨w.heap.size, 3, none⟩ = some (.slice none 0 0) := by rw [Lib.cell_of_heap hbk]; rfl
    have f0 := Lib.frozen_of_heap hbk 0
    have f1 := Lib.frozen_of_heap hbk 1
    have f2 := Lib.frozen_of_heap hbk 2
    have f3 := Lib.frozen_of_heap hbk 3
    have HBK2 := Lib.hid hbk
    clear hbk
    obtain ⟨ec, hec⟩ : ∃ ec, ec = okc (vtake r1).isSome 2 := ⟨_, rfl⟩
    rw [← hec]
    cases hT2 : vtake r1 with
    | none =>
      obtain rfl : ec = 2 := by rw [hec, hT2]; rfl
      have HO := Lib.hid (show wone l = none by simp [wone, HT.out, hT2])
      clear hT2 hec ht2
      go_wp2_with fail
      refine bodyPost_ret (results_row3 rfl _ _ w.heap.size 80 #[.int .i64 0, .bool false, .int .u64 0, .slice none 0 0] (0, 0) _ rfl (by have hk := HBK2.out; (repeat (first | with_reducible exact hk | with_reducible apply heap_set)); all_goals rfl) Tryd.underlying80 rfl (by kernel_rfl)) rfl ⟨0, false, 0, none, 0, 0, none, 0, 0, by rw [HO.out]; rfl, ?_, by rw [HO.out]; simp⟩
      have hb := HB2.out
      repeat (first | with_reducible exact hb | with_reducible refine bsetc ?_ (Nat.le_refl _) _)
    | some p =>
      obtain ⟨nn, r2⟩ := p
      obtain rfl : ec = 0 := by rw [hec, hT2]; rfl
      obtain ⟨rfl, hx2, hown2⟩ := ht2 nn r2 hT2
      have HT2 := Lib.hid hT2
      have HO2 := Lib.hid hown2
      have HL2 := Lib.hid hown2.len
      have hlr2 := vtake_len hT2
      clear hT2 hec ht2 hown2
      have hand := u64_and7 x1 hx1
      by_cases hbad : x1 / 8 < 1 ∨ 100 < x1 / 8 ∨ ¬ (x1 % 8 = 0 ∨ x1 % 8 = 2)
      · have HO := Lib.hid (show wone l = none by simp only [wone, HT.out, HT2.out]; exact if_pos hbad)
        have hcs : ((x1 : Int) / 8 < 1) ∨ (¬ ((x1 : Int) / 8 < 1) ∧ (100 < (x1 : Int) / 8)) ∨ (¬ ((x1 : Int) / 8 < 1) ∧ ¬ (100 < (x1 : Int) / 8) ∧ (((x1 : Int) % 8 != 0) = true) ∧ (((x1 : Int) % 8 != 2) = true)) := by simp; omega
        clear hbad
        rcases hcs with h1 | ⟨h1, h2⟩ | ⟨h1, h2, h3, h4⟩
        all_goals
          go_wp2_with fail
          refine bodyPost_ret (results_row3 rfl _ _ w.heap.size 80 #[.int .i64 0, .bool false, .int .u64 0, .slice none 0 0] (0, 0) _ rfl (by have hk := HBK2.out; (repeat (first | with_reducible exact hk | with_reducible apply heap_set)); all_goals rfl) Tryd.underlying80 rfl (by kernel_rfl)) rfl ⟨0, false, 0, none, 0, 0, none, 0, 0, by rw [HO.out]; rfl, ?_, by rw [HO.out]; simp⟩
          have hb := HB2.out
          repeat (first | with_reducible exact hb | with_reducible refine bsetc ?_ (Nat.le_refl _) _)
      · have h1 : ¬ ((x1 : Int) / 8 < 1) := by omega
        have h2 : ¬ (100 < (x1 : Int) / 8) := by omega
        have hlt1 : w.heap.size < w1.heap.size := by
          rcases Nat.lt_or_ge w.heap.size w1.heap.size with h' | h'
          · exact h'
          · have := HBK.out; rw [Array.getElem?_eq_none h'] at this; cases this
        have hsub : Bs (fun b => w.heap.size < b) w2 A2 n2 c2 r2 := HO2.out.bs.weaken fun b hb _ => Nat.lt_of_lt_of_le hlt1 hb.2
        have hw3 : IntKind.i64.wrap ((x1 : Int) / 8) = (x1 : Int) / 8 := by rw [IntKind.wrap_i64]; omega
        by_cases h0 : x1 % 8 = 0
        · have h3 : (((x1 : Int) % 8 != 0) = false) := by simp; omega
          have h4 : (((x1 : Int) % 8 == 0) = true) := by simp; omega
          have HO := Lib.hid (show wone l = some (⟨(x1 / 8 : Nat), false, x2, []⟩, r2) by simp only [wone, HT.out, HT2.out]; rw [if_neg hbad, if_pos h0])
          clear hbad h0
          have HS := Lib.hid hsub; clear hsub
          go_wp2_with fail
          refine bodyPost_ret (results_row3 rfl _ _ w.heap.size 80 #[.int .i64 ((x1 : Int) / 8), .bool false, .int .u64 (x2 : Int), .slice none 0 0] (0, 0) _ rfl (by have hk := HBK2.out; (repeat (first | with_reducible exact hk | with_reducible apply heap_set)); all_goals rfl) Tryd.underlying80 rfl (by kernel_rfl)) rfl
            ⟨(x1 : Int) / 8, false, x2, none, 0, 0, A2, n2, c2, by rw [HO.out]; rfl, ?_, fun f r hfr => ?_⟩
          · have hb := HB2.out
            repeat (first | with_reducible exact hb | with_reducible refine bsetc ?_ (Nat.le_refl _) _)
          · rw [HO.out] at hfr
            injection hfr with hfr; injection hfr with e1 e2
            subst e1 e2
            refine ⟨⟨none, 0, 0, by simp, by unfold i64; dsimp only; omega, hx2, Sl.nil_ _ _ _⟩, ?_⟩
            refine Sl.weaken (F := fun b => w.heap.size < b) ?_ (fun b hb _ => by omega)
            have hs := HS.out
            repeat (first | with_reducible exact hs | with_reducible refine slsetc ?_ (Nat.lt_irrefl _) _)
        · have hk2 : x1 % 8 = 2 := by omega
          have h3 : (((x1 : Int) % 8 != 0) = true) := by simp; omega
          have h4 : (((x1 : Int) % 8 == 0) = false) := by simp; omega
          have h5 : (((x1 : Int) % 8 != 2) = false) := by simp; omega
          have hn2 : n2 ≤ 4294967296 := by rw [HL2.out]; have := HL1.out; omega
          have hw4 : IntKind.u64.wrap (n2 : Int) = (n2 : Int) := u64_wrap_nat n2 (by omega)
          by_cases hlong : n2 < x2
          · have hlong2 : (n2 : Int) < (x2 : Int) := by omega
            have HO := Lib.hid (show wone l = none by simp only [wone, HT.out, HT2.out]; rw [if_neg hbad, if_neg h0, if_pos (by rw [← HL2.out]; exact hlong)])
            clear hbad h0 hsub hlong
            go_wp2_with fail
            refine bodyPost_ret (results_row3 rfl _ _ w.heap.size 80 #[.int .i64 ((x1 : Int) / 8), .bool false, .int .u64 0, .slice none 0 0] (0, 0) _ rfl (by have hk := HBK2.out; (repeat (first | with_reducible exact hk | with_reducible apply heap_set)); all_goals rfl) Tryd.underlying80 rfl (by kernel_rfl)) rfl ⟨(x1 : Int) / 8, false, 0, none, 0, 0, none, 0, 0, by rw [HO.out]; rfl, ?_, by rw [HO.out]; simp⟩
            have hb := HB2.out
            repeat (first | with_reducible exact hb | with_reducible refine bsetc ?_ (Nat.le_refl _) _)
          · have hlong2 : ¬ (n2 : Int) < (x2 : Int) := by omega
            have hcap := HO2.out.bs.2.1
            have hs1 := hsub.cut (lo := 0) (hi := x2) (by omega) (by omega)
            have hs2 := hsub.cut (lo := x2) (hi := n2) (by omega) (by omega)
            have HO := Lib.hid (show wone l = some (⟨(x1 / 8 : Nat), true, 0, r2.take x2⟩, r2.drop x2) by simp only [wone, HT.out, HT2.out]; rw [if_neg hbad, if_neg h0, if_neg (by rw [← HL2.out]; exact hlong)])
            have HS1 := Lib.hid hs1; have HS2 := Lib.hid hs2
            clear hbad h0 hs1 hs2 hsub
            have hfull : r2.take n2 = r2 := List.take_of_length_le (by rw [← HL2.out]; exact Nat.le_refl _)
            have hs1 := HS1.out
            have hs2 := HS2.out
            rw [hfull] at hs2
            rw [Nat.sub_zero, Nat.sub_zero, List.drop_zero] at hs1
            have hA1 : (if c2 = 0 then A2 else Option.map (fun x => x.add (0 * tU8.size)) A2) = A2 := by
              rcases own_shape HO2.out with ⟨rfl, _⟩ | ⟨g, rfl⟩
              · simp
              · rw [Option.map_some, add_lit, Nat.zero_mul, Nat.add_zero]; simp
            rw [hA1] at hs1
            clear HS1 HS2 hA1 hfull
            have HS1 := Lib.hid hs1; clear hs1
            by_cases hc2 : c2 = x2
            · rw [if_pos hc2, show c2 - x2 = 0 by omega, show n2 - x2 = 0 by omega] at hs2
              have HS2 := Lib.hid hs2; clear hs2
              obtain rfl := hc2
              go_wp2_with fail
              go_region
              go_wp2_with fail
              go_region
              go_wp2_with fail
              refine bodyPost_ret (results_row3 rfl _ _ w.heap.size 80 #[.int .i64 ((x1 : Int) / 8), .bool true, .int .u64 0, .slice A2 c2 c2] (0, 0) _ rfl (by have hk := HBK2.out; (repeat (first | with_reducible exact hk | with_reducible apply heap_drew | with_reducible apply heap_set)); all_goals rfl) Tryd.underlying80 rfl (by kernel_rfl)) rfl
                ⟨(x1 : Int) / 8, true, 0, _, _, _, A2, 0, 0, by rw [HO.out]; rfl, ?_, fun f r hfr => ?_⟩
              · have hb := HB2.out
                repeat (first | with_reducible exact hb | with_reducible refine bdrewB ?_ | with_reducible refine bsetc ?_ (Nat.le_refl _) _)
              · rw [HO.out] at hfr
                injection hfr with hfr; injection hfr with e1 e2
                subst e1 e2
                have hs1 := HS1.out
                have hs2 := HS2.out
                refine ⟨⟨_, _, _, rfl, by unfold i64; dsimp only; omega, by simp, ?_⟩, ?_⟩
                · refine Sl.weaken (F := fun b => w.heap.size < b) ?_ (fun b hb _ => by omega)
                  repeat (first | with_reducible exact hs1 | with_reducible refine Sl.drew ?_ | with_reducible refine slsetc ?_ (Nat.lt_irrefl _) _)
                · refine Sl.weaken (F := fun b => w.heap.size < b) ?_ (fun b hb _ => by omega)
                  repeat (first | with_reducible exact hs2 | with_reducible refine Sl.drew ?_ | with_reducible refine slsetc ?_ (Nat.lt_irrefl _) _)
            · rw [if_neg hc2] at hs2
              obtain ⟨g, rfl⟩ : ∃ g, A2 = some ⟨g, 0, none⟩ := by
                rcases own_shape HO2.out with ⟨_, h1, h2⟩ | h
                · omega
                · exact h
              rw [Option.map_some, add_lit, Nat.zero_add, show x2 * tU8.size = x2 from Nat.mul_one _] at hs2
              have HS2 := Lib.hid hs2; clear hs2
              go_wp2_with fail
              go_region
              go_wp2_with fail
              go_region
              go_wp2_with fail
              refine bodyPost_ret (results_row3 rfl _ _ w.heap.size 80 #[.int .i64 ((x1 : Int) / 8), .bool true, .int .u64 0, .slice (some ⟨g, 0, none⟩) x2 c2] (0, 0) _ rfl (by have hk := HBK2.out; (repeat (first | with_reducible exact hk | with_reducible apply heap_drew | with_reducible apply heap_set)); all_goals rfl) Tryd.underlying80 rfl (by kernel_rfl)) rfl
                ⟨(x1 : Int) / 8, true, 0, _, _, _, some ⟨g, x2, none⟩, n2 - x2, c2 - x2, by rw [HO.out]; rfl, ?_, fun f r hfr => ?_⟩
              · have hb := HB2.out
                repeat (first | with_reducible exact hb | with_reducible refine bdrewB ?_ | with_reducible refine bsetc ?_ (Nat.le_refl _) _)
              · rw [HO.out] at hfr
                injection hfr with hfr; injection hfr with e1 e2
                subst e1 e2
                have hs1 := HS1.out
                have hs2 := HS2.out
                refine ⟨⟨_, _, _, rfl, by unfold i64; dsimp only; omega, by simp, ?_⟩, ?_⟩
                · refine Sl.weaken (F := fun b => w.heap.size < b) ?_ (fun b hb _ => by omega)
                  repeat (first | with_reducible exact hs1 | with_reducible refine Sl.drew ?_ | with_reducible refine slsetc ?_ (Nat.lt_irrefl _) _)
                · refine Sl.weaken (F := fun b => w.heap.size < b) ?_ (fun b hb _ => by omega)
                  repeat (first | with_reducible exact hs2 | with_reducible refine Sl.drew ?_ | with_reducible refine slsetc ?_ (Nat.lt_irrefl _) _)
end Go.Proofs.YtojenpjafgfpaaaDoor
