/- A part of what Puts leans on. -/
import Derived.Test.YtpmglcachffojaaGreatDoorZ4
import Derived.Test.YtpmglcachffojaaGreatDoorZS1
import Derived.Deep.CutRange
import Derived.Laws.OwnMore
set_option maxRecDepth 100000
set_option maxHeartbeats 16000000
namespace Go.Proofs.YtpmglcachffojaaGreatDoor
section
open Go Go.RowKit
theorem zze {W w1 : World} {a : Addr} {v : Value} (hb : Below W.heap.size W w1) (h : W.cell? a = some v) : w1.cell? a = some v := (hb.cell (World.block_lt_of_cell? W a h)).trans h
theorem zzb {w : World} {b : Nat} {o : Obj} (h : w.heap[b]? = some o) : b < w.heap.size := (Array.getElem?_eq_some_iff.1 h).1
theorem xxQ {a b : Int} (h : a = b) : (a == b) = true := by simpa using h
theorem zzv {a b : Int} (h : ¬ a = b) : (a == b) = false := by simpa using h
theorem zza {w : World} {g j : Nat} {cs cs' : Array Value} {t : TypeId} {fr : Nat × Nat} {v : Value} (h : w.heap[g]? = some (.cells cs t fr)) (hc : cs.setIfInBounds j v = cs') : (w.setCell ⟨g, j, none⟩ v).heap[g]? = some (.cells cs' t fr) := by
 subst hc
 simp [World.setCell, Array.getElem?_modify, h]
theorem zzf {B b j : Nat} {a w : World} (h : Below B a w) (hb : B ≤ b) (v : Value) : Below B a (w.setCell ⟨b, j, none⟩ v) := h.setCell (p := ⟨b, j, none⟩) hb v
theorem qzr {P : Program} {fn : Func} {p : Tmp} {ty : TypeId} (h : fn.results = #[.cell p ty]) (tmps : Array Value) (w : World) (g : Nat) (t : TypeId) (cs : Array Value) (fr : Nat × Nat) (d : TypeDesc)
 (hp : tmps.getD p undef = .pointer (some ⟨g, 0, none⟩)) (hg : w.heap[g]? = some (.cells cs t fr))
 (hu : P.underlying ty = some d) (hd : (match d with | .struct _ | .array _ _ => true | _ => false) = true) (hi : (P.info? ty).map (·.size) = some cs.size) :
 (results fn tmps).run P w = .ok (.agg cs) w := by
 have hp' : tmps[p]?.getD undef = .pointer (some ⟨g, 0, none⟩) := by simpa using hp
 simp [results, h, hp', asAddr, run_loadVar_row w g t ty cs fr d hg hu hd hi]
theorem yyT (w : World) : Calls Tryz.prog 293 #[] w fun e w' => e = .returned (.agg #[.int .i64 26, .int .i64 28, .int .i64 30, .int .i64 32, .int .i64 40, .int .i64 48, .int .i64 56, .int .i64 64]) ∧ Below w.heap.size w w' := by
 go_enter Tryz.func293, Tryz.ntmps293
 go_wp2_with fail
 refine bodyPost_ret (qzr rfl _ _ w.heap.size 334 #[.int .i64 26, .int .i64 28, .int .i64 30, .int .i64 32, .int .i64 40, .int .i64 48, .int .i64 56, .int .i64 64] (0, 0) _ rfl (heap_alloc_new w _) Tryz.underlying334 rfl (by kernel_rfl)) rfl ?_
 exact ⟨rfl, (zR).alloc zN _⟩
theorem xq0 (c : Int) (h0 : 0 ≤ c) (h1 : c ≤ 31) (w : World) : Calls Tryz.prog 250 #[.int .i64 c] w fun e w' => e = .returned (.int .i64 (wOf c)) ∧ Below w.heap.size w w' := by
 by_cases h : c < 24
 · have e1 := zH (show wOf c = c + 1 by unfold wOf; rw [if_neg (by omega), if_pos h])
   go_enter Tryz.func250, Tryz.ntmps250
   go_wp2_with (first
    | (go_at_call 293; refine (yyT _).mono ?_; rintro e w1 ⟨rfl, hb1⟩; have HB1 := zH (hb1.alloc hb1.size (.cells #[.int .i64 26, .int .i64 28, .int .i64 30, .int .i64 32, .int .i64 40, .int .i64 48, .int .i64 56, .int .i64 64] 334)); clear hb1)
    | fail)
   go_ret
   exact ⟨by rw [e1.out]; rfl, HB1.out⟩
 · obtain rfl | rfl | rfl | rfl | rfl | rfl | rfl | rfl : c = 24 ∨ c = 25 ∨ c = 26 ∨ c = 27 ∨ c = 28 ∨ c = 29 ∨ c = 30 ∨ c = 31 := by omega
   all_goals
    clear h0 h1 h
    go_enter Tryz.func250, Tryz.ntmps250
    go_wp2_with (first
     | (go_at_call 293; refine (yyT _).mono ?_; rintro e w1 ⟨rfl, hb1⟩; have HB1 := zH (hb1.alloc hb1.size (.cells #[.int .i64 26, .int .i64 28, .int .i64 30, .int .i64 32, .int .i64 40, .int .i64 48, .int .i64 56, .int .i64 64] 334)); clear hb1)
     | fail)
    go_ret
    exact ⟨rfl, HB1.out⟩
theorem idx_lt (zs : List Int) (x : Int) : ∀ i, Lib.idxFrom zs x i = -1 ∨ (0 ≤ Lib.idxFrom zs x i) := by
 induction zs with
 | nil => intro i; exact .inl rfl
 | cons z r ih =>
   intro i
   unfold Lib.idxFrom
   split
   · exact .inr (by omega)
   · exact ih (i + 1)
def jjj : List Int := [26, 28, 30, 32, 40, 48, 56, 64]
theorem zq4 (x : Int) : Lib.idxOf jjj x = if x = 26 then 0 else if x = 28 then 1 else if x = 30 then 2 else if x = 32 then 3 else if x = 40 then 4 else if x = 48 then 5 else if x = 56 then 6 else if x = 64 then 7 else -1 := by
 unfold Lib.idxOf jjj
 simp only [Lib.idxFrom, eq_comm (b := x)]
 rfl
theorem xq1 {x : Int} (h : ¬ (1 ≤ x ∧ x ≤ 24)) : zz6 x = if Lib.idxOf jjj x < 0 then -1 else 24 + Lib.idxOf jjj x := by
 rw [zq4]
 unfold zz6
 rw [if_neg h]
 (repeat' split) <;> first | rfl | omega
theorem xx5 (w : World) : ∀ j, j < jjj.length → (w.alloc (.cells #[.int .i64 26, .int .i64 28, .int .i64 30, .int .i64 32, .int .i64 40, .int .i64 48, .int .i64 56, .int .i64 64] 334)).cell? ⟨w.heap.size, 0 + j, none⟩ = some (.int .i64 (jjj.getD j 0)) := fun j hj => by
 rw [zC (heap_alloc_new w _)]
 have hj8 : j < 8 := hj
 obtain rfl | rfl | rfl | rfl | rfl | rfl | rfl | rfl : j = 0 ∨ j = 1 ∨ j = 2 ∨ j = 3 ∨ j = 4 ∨ j = 5 ∨ j = 6 ∨ j = 7 := by omega
 all_goals rfl
theorem yyA (x : Int) (w : World) : Calls Tryz.prog 287 #[.int .i64 x] w fun e w' => e = .returned (.int .i64 (zz6 x)) ∧ Below w.heap.size w w' := by
 by_cases h : 1 ≤ x ∧ x ≤ 24
 · have e1 := zH (show zz6 x = x - 1 by unfold zz6; rw [if_pos h])
   obtain ⟨h1, h2⟩ := h
   go_enter Tryz.func287, Tryz.ntmps287
   go_wp2_with fail
   go_ret
   exact ⟨by rw [e1.out]; rfl, zR⟩
 · obtain ⟨i, hi⟩ : ∃ i, Lib.idxOf jjj x = i := ⟨_, rfl⟩
   have e1 := xq1 h
   have hb := idx_lt jjj x 0
   have hb2 : i ≤ 7 := by rw [← hi, zq4]; (repeat' split) <;> omega
   rw [show Lib.idxFrom jjj x 0 = i from hi] at hb
   rw [hi] at e1
   have HI := zH hi
   have HE := zH e1
   clear e1 hi
   rcases hb with hb | hb
   · subst hb
     have e2 := zH (show zz6 x = -1 by rw [HE.out]; rfl)
     by_cases hx1 : 1 ≤ x
     · have hx2 : ¬ x ≤ 24 := by omega
       clear h
       go_enter Tryz.func287, Tryz.ntmps287
       go_wp2_with (first
        | (go_at_call 293; refine (yyT _).mono ?_; rintro e w1 ⟨rfl, hb1⟩; have HB1 := zH (hb1.alloc hb1.size (.cells #[.int .i64 26, .int .i64 28, .int .i64 30, .int .i64 32, .int .i64 40, .int .i64 48, .int .i64 56, .int .i64 64] 334)); have HC1 := zH (xx5 w1); clear hb1)
        | (go_at_call 319; refine (Tryz.slices_Index_int w1.heap.size 0 8 8 jjj x _ (by decide) (by decide) HC1.out).mono ?_; rintro e w2 ⟨rfl, rfl⟩; rw [show Lib.idxOf (jjj.take 8) x = _ from HI.out])
        | fail)
       go_ret
       exact ⟨by rw [e2.out]; rfl, HB1.out⟩
     · clear h
       go_enter Tryz.func287, Tryz.ntmps287
       go_wp2_with (first
        | (go_at_call 293; refine (yyT _).mono ?_; rintro e w1 ⟨rfl, hb1⟩; have HB1 := zH (hb1.alloc hb1.size (.cells #[.int .i64 26, .int .i64 28, .int .i64 30, .int .i64 32, .int .i64 40, .int .i64 48, .int .i64 56, .int .i64 64] 334)); have HC1 := zH (xx5 w1); clear hb1)
        | (go_at_call 319; refine (Tryz.slices_Index_int w1.heap.size 0 8 8 jjj x _ (by decide) (by decide) HC1.out).mono ?_; rintro e w2 ⟨rfl, rfl⟩; rw [show Lib.idxOf (jjj.take 8) x = _ from HI.out])
        | fail)
       go_ret
       exact ⟨by rw [e2.out]; rfl, HB1.out⟩
   · have e2 := zH (show zz6 x = 24 + i by rw [HE.out, if_neg (by omega)])
     by_cases hx1 : 1 ≤ x
     · have hx2 : ¬ x ≤ 24 := by omega
       clear h
       go_enter Tryz.func287, Tryz.ntmps287
       go_wp2_with (first
        | (go_at_call 293; refine (yyT _).mono ?_; rintro e w1 ⟨rfl, hb1⟩; have HB1 := zH (hb1.alloc hb1.size (.cells #[.int .i64 26, .int .i64 28, .int .i64 30, .int .i64 32, .int .i64 40, .int .i64 48, .int .i64 56, .int .i64 64] 334)); have HC1 := zH (xx5 w1); clear hb1)
        | (go_at_call 319; refine (Tryz.slices_Index_int w1.heap.size 0 8 8 jjj x _ (by decide) (by decide) HC1.out).mono ?_; rintro e w2 ⟨rfl, rfl⟩; rw [show Lib.idxOf (jjj.take 8) x = _ from HI.out])
        | fail)
       go_ret
       exact ⟨by rw [e2.out]; rfl, HB1.out⟩
     · clear h
       go_enter Tryz.func287, Tryz.ntmps287
       go_wp2_with (first
        | (go_at_call 293; refine (yyT _).mono ?_; rintro e w1 ⟨rfl, hb1⟩; have HB1 := zH (hb1.alloc hb1.size (.cells #[.int .i64 26, .int .i64 28, .int .i64 30, .int .i64 32, .int .i64 40, .int .i64 48, .int .i64 56, .int .i64 64] 334)); have HC1 := zH (xx5 w1); clear hb1)
        | (go_at_call 319; refine (Tryz.slices_Index_int w1.heap.size 0 8 8 jjj x _ (by decide) (by decide) HC1.out).mono ?_; rintro e w2 ⟨rfl, rfl⟩; rw [show Lib.idxOf (jjj.take 8) x = _ from HI.out])
        | fail)
       go_ret
       exact ⟨by rw [e2.out]; rfl, HB1.out⟩
theorem run_w0 (w : World) : (Instr.index 334 (.agg #[.int .i64 26, .int .i64 28, .int .i64 30, .int .i64 32, .int .i64 40, .int .i64 48, .int .i64 56, .int .i64 64]) (.int .i64 0)).run Tryz.prog w = .ok (.int .i64 26) w := by first | kernel_rfl | rfl
theorem run_w1 (w : World) : (Instr.index 334 (.agg #[.int .i64 26, .int .i64 28, .int .i64 30, .int .i64 32, .int .i64 40, .int .i64 48, .int .i64 56, .int .i64 64]) (.int .i64 1)).run Tryz.prog w = .ok (.int .i64 28) w := by first | kernel_rfl | rfl
theorem run_w2 (w : World) : (Instr.index 334 (.agg #[.int .i64 26, .int .i64 28, .int .i64 30, .int .i64 32, .int .i64 40, .int .i64 48, .int .i64 56, .int .i64 64]) (.int .i64 2)).run Tryz.prog w = .ok (.int .i64 30) w := by first | kernel_rfl | rfl
theorem run_w3 (w : World) : (Instr.index 334 (.agg #[.int .i64 26, .int .i64 28, .int .i64 30, .int .i64 32, .int .i64 40, .int .i64 48, .int .i64 56, .int .i64 64]) (.int .i64 3)).run Tryz.prog w = .ok (.int .i64 32) w := by first | kernel_rfl | rfl
theorem run_w4 (w : World) : (Instr.index 334 (.agg #[.int .i64 26, .int .i64 28, .int .i64 30, .int .i64 32, .int .i64 40, .int .i64 48, .int .i64 56, .int .i64 64]) (.int .i64 4)).run Tryz.prog w = .ok (.int .i64 40) w := by first | kernel_rfl | rfl
theorem run_w5 (w : World) : (Instr.index 334 (.agg #[.int .i64 26, .int .i64 28, .int .i64 30, .int .i64 32, .int .i64 40, .int .i64 48, .int .i64 56, .int .i64 64]) (.int .i64 5)).run Tryz.prog w = .ok (.int .i64 48) w := by first | kernel_rfl | rfl
theorem run_w6 (w : World) : (Instr.index 334 (.agg #[.int .i64 26, .int .i64 28, .int .i64 30, .int .i64 32, .int .i64 40, .int .i64 48, .int .i64 56, .int .i64 64]) (.int .i64 6)).run Tryz.prog w = .ok (.int .i64 56) w := by first | kernel_rfl | rfl
theorem run_w7 (w : World) : (Instr.index 334 (.agg #[.int .i64 26, .int .i64 28, .int .i64 30, .int .i64 32, .int .i64 40, .int .i64 48, .int .i64 56, .int .i64 64]) (.int .i64 7)).run Tryz.prog w = .ok (.int .i64 64) w := by first | kernel_rfl | rfl
theorem xx6 (b : Nat) (hb : b ≤ 64) (w : World) : Calls Tryz.prog 283 #[.int .i64 (b : Int)] w fun e w' => e = .returned (.int .i64 ((zzz b : Nat) : Int)) ∧ Below w.heap.size w w' := by
 have HC := zH (qzm b)
 by_cases h : b ≤ 24
 · have e1 := zH (show zzt (b : Int) = max 1 (b : Int) by unfold zzt; rw [if_pos (by omega)])
   go_enter Tryz.func283, Tryz.ntmps283
   go_wp2_with fail
   go_ret
   exact ⟨by rw [HC.out, e1.out]; rfl, zR⟩
 · have s0 : ¬ (b : Int) ≤ 24 := by omega
   go_enter Tryz.func283, Tryz.ntmps283
   go_wp2_with (first
    | (go_at_call 293; refine (yyT _).mono ?_; rintro e w1 ⟨rfl, hb1⟩; have HB1 := zH hb1; clear hb1)
    | fail)
   go_loopw [10] (fun kv wr => ∃ k : Nat, k ≤ 8 ∧ kv = .int .i64 (k : Int) ∧ (∀ j, j < k → jjj.getD j 0 < (b : Int)) ∧ wr = w1)
    (fun kv _ => 8 - (intOf kv).toNat)
   case atStart => exact ⟨0, by omega, rfl, fun j hj => by omega, rfl⟩
   case round =>
    obtain ⟨k, hk, rfl, hj, rfl⟩ := hrel
    have HJ := zH hj
    clear hj
    obtain rfl | rfl | rfl | rfl | rfl | rfl | rfl | rfl | rfl : k = 0 ∨ k = 1 ∨ k = 2 ∨ k = 3 ∨ k = 4 ∨ k = 5 ∨ k = 6 ∨ k = 7 ∨ k = 8 := by omega
    · have hix := run_w0
      by_cases hc : (b : Int) ≤ 26
      · have e1 := zH (show ((zzz b : Nat) : Int) = 26 by
         rw [HC.out]
         skip
         unfold zzt
         (repeat' split) <;> omega)
        go_wp2_with fail
        go_ret
        exact ⟨by rw [e1.out]; rfl, HB1.out⟩
      · go_wp2_with fail
        go_roundw
        case rel => exact ⟨1, by omega, by first | rfl | go_num, fun j hj => by
         by_cases hjj : j < 0
         · exact HJ.out j hjj
         · obtain rfl : j = 0 := by omega
           show (26 : Int) < (b : Int)
           omega, trivial⟩
        case measure => simp [intOf]
    · have hix := run_w1
      by_cases hc : (b : Int) ≤ 28
      · have e1 := zH (show ((zzz b : Nat) : Int) = 28 by
         rw [HC.out]
         have h0 : (26 : Int) < (b : Int) := HJ.out 0 (by decide)
         unfold zzt
         (repeat' split) <;> omega)
        go_wp2_with fail
        go_ret
        exact ⟨by rw [e1.out]; rfl, HB1.out⟩
      · go_wp2_with fail
        go_roundw
        case rel => exact ⟨2, by omega, by first | rfl | go_num, fun j hj => by
         by_cases hjj : j < 1
         · exact HJ.out j hjj
         · obtain rfl : j = 1 := by omega
           show (28 : Int) < (b : Int)
           omega, trivial⟩
        case measure => simp [intOf]
    · have hix := run_w2
      by_cases hc : (b : Int) ≤ 30
      · have e1 := zH (show ((zzz b : Nat) : Int) = 30 by
         rw [HC.out]
         have h0 : (28 : Int) < (b : Int) := HJ.out 1 (by decide)
         unfold zzt
         (repeat' split) <;> omega)
        go_wp2_with fail
        go_ret
        exact ⟨by rw [e1.out]; rfl, HB1.out⟩
      · go_wp2_with fail
        go_roundw
        case rel => exact ⟨3, by omega, by first | rfl | go_num, fun j hj => by
         by_cases hjj : j < 2
         · exact HJ.out j hjj
         · obtain rfl : j = 2 := by omega
           show (30 : Int) < (b : Int)
           omega, trivial⟩
        case measure => simp [intOf]
    · have hix := run_w3
      by_cases hc : (b : Int) ≤ 32
      · have e1 := zH (show ((zzz b : Nat) : Int) = 32 by
         rw [HC.out]
         have h0 : (30 : Int) < (b : Int) := HJ.out 2 (by decide)
         unfold zzt
         (repeat' split) <;> omega)
        go_wp2_with fail
        go_ret
        exact ⟨by rw [e1.out]; rfl, HB1.out⟩
      · go_wp2_with fail
        go_roundw
        case rel => exact ⟨4, by omega, by first | rfl | go_num, fun j hj => by
         by_cases hjj : j < 3
         · exact HJ.out j hjj
         · obtain rfl : j = 3 := by omega
           show (32 : Int) < (b : Int)
           omega, trivial⟩
        case measure => simp [intOf]
    · have hix := run_w4
      by_cases hc : (b : Int) ≤ 40
      · have e1 := zH (show ((zzz b : Nat) : Int) = 40 by
         rw [HC.out]
         have h0 : (32 : Int) < (b : Int) := HJ.out 3 (by decide)
         unfold zzt
         (repeat' split) <;> omega)
        go_wp2_with fail
        go_ret
        exact ⟨by rw [e1.out]; rfl, HB1.out⟩
      · go_wp2_with fail
        go_roundw
        case rel => exact ⟨5, by omega, by first | rfl | go_num, fun j hj => by
         by_cases hjj : j < 4
         · exact HJ.out j hjj
         · obtain rfl : j = 4 := by omega
           show (40 : Int) < (b : Int)
           omega, trivial⟩
        case measure => simp [intOf]
    · have hix := run_w5
      by_cases hc : (b : Int) ≤ 48
      · have e1 := zH (show ((zzz b : Nat) : Int) = 48 by
         rw [HC.out]
         have h0 : (40 : Int) < (b : Int) := HJ.out 4 (by decide)
         unfold zzt
         (repeat' split) <;> omega)
        go_wp2_with fail
        go_ret
        exact ⟨by rw [e1.out]; rfl, HB1.out⟩
      · go_wp2_with fail
        go_roundw
        case rel => exact ⟨6, by omega, by first | rfl | go_num, fun j hj => by
         by_cases hjj : j < 5
         · exact HJ.out j hjj
         · obtain rfl : j = 5 := by omega
           show (48 : Int) < (b : Int)
           omega, trivial⟩
        case measure => simp [intOf]
    · have hix := run_w6
      by_cases hc : (b : Int) ≤ 56
      · have e1 := zH (show ((zzz b : Nat) : Int) = 56 by
         rw [HC.out]
         have h0 : (48 : Int) < (b : Int) := HJ.out 5 (by decide)
         unfold zzt
         (repeat' split) <;> omega)
        go_wp2_with fail
        go_ret
        exact ⟨by rw [e1.out]; rfl, HB1.out⟩
      · go_wp2_with fail
        go_roundw
        case rel => exact ⟨7, by omega, by first | rfl | go_num, fun j hj => by
         by_cases hjj : j < 6
         · exact HJ.out j hjj
         · obtain rfl : j = 6 := by omega
           show (56 : Int) < (b : Int)
           omega, trivial⟩
        case measure => simp [intOf]
    · have hix := run_w7
      by_cases hc : (b : Int) ≤ 64
      · have e1 := zH (show ((zzz b : Nat) : Int) = 64 by
         rw [HC.out]
         have h0 : (56 : Int) < (b : Int) := HJ.out 6 (by decide)
         unfold zzt
         (repeat' split) <;> omega)
        go_wp2_with fail
        go_ret
        exact ⟨by rw [e1.out]; rfl, HB1.out⟩
      · exact absurd (by omega) hc
    · have h0 : (64 : Int) < (b : Int) := HJ.out 7 (by decide)
      omega
theorem xxR (x : Nat) (hx : U64 x) (w : World) : Calls Tryz.prog 315 #[.int .u64 (x : Int)] w fun e w' => e = .returned (.int .i64 ((bl x : Nat) : Int)) ∧ w = w' := by
 have hx' : (x : Int) ≤ 18446744073709551615 := by have : x < 18446744073709551616 := hx; omega
 go_enter Tryz.func315, Tryz.ntmps315
 go_wp2_with (first
  | (go_at_call 303; refine (Tryz.bits_Len64 (x : Int) _ (by omega) hx').mono ?_; rintro e w1 ⟨rfl, rfl⟩)
  | fail)
 go_ret
 exact ⟨rfl, rfl⟩
theorem qzs (F : Nat → Prop) (A : Option Addr) (n c : Nat) (l : List Nat) (w : World) (h : Sl tU64 F w A n c l) : Calls Tryz.prog 284 #[.slice A n c] w fun e w' => e = .returned (.int .i64 ((most l : Nat) : Int)) ∧ w = w' := by
 have HH := zH h
 have hu : ∀ x ∈ l, U64 x := by
  intro x hx
  obtain ⟨k, hk, rfl⟩ := List.getElem_of_mem hx
  obtain ⟨_, _, _, _, _, _, hr, _⟩ := h.at1 hk rfl
  exact hr.2
 have HU := zH hu
 have hn := h.len
 have HL := zH hn
 have hmax : n ≤ 9223372036854775807 := by have h2 := h.2.1; have h3 := h.2.2.1; unfold maxLen at h3; omega
 clear h hu hn
 go_enter Tryz.func284, Tryz.ntmps284
 go_wp2_with fail
 go_loopw [3, 8] (fun av kv wr => ∃ (k a : Nat), k ≤ n ∧ kv = .int .i64 (k : Int) ∧ av = .int .u64 (a : Int) ∧ a = (l.take k).foldl (· ||| ·) 0 ∧ wr = w)
  (fun _ kv _ => n - (intOf kv).toNat)
 case atStart => exact ⟨0, 0, Nat.zero_le _, rfl, rfl, rfl, rfl⟩
 case round =>
  obtain ⟨k, a, hk, rfl, rfl, ha, rfl⟩ := hrel
  have HA := zH ha
  clear ha
  have hat := (xqU (l.take k) fun x hx => HU.out x (List.mem_of_mem_take hx)).1
  rw [← HA.out] at hat
  by_cases hlt : k < n
  · have hkl : k < l.length := by rw [← HL.out]; exact hlt
    obtain ⟨v, hv⟩ : ∃ v, v = l[k] := ⟨_, rfl⟩
    have hvu : v < 18446744073709551616 := by rw [hv]; exact HU.out _ (List.getElem_mem _)
    obtain ⟨b, o, u, rfl, _, hbl, hr, hc⟩ := HH.out.at1 hkl rfl
    rw [← hv] at hr
    obtain ⟨hr, _⟩ := hr
    injection hr with hr
    subst hr
    have hor : bits .or .u64 (a : Int) (v : Int) = ((a ||| v : Nat) : Int) := u64_or_nat a v hat hvu
    have HS := zH (show (a ||| v) = (l.take (k + 1)).foldl (· ||| ·) 0 by rw [zT hkl, List.foldl_append, ← HA.out, ← hv]; rfl)
    have hi1 : (0 : Int) ≤ (k : Int) := by omega
    have hi2 : (k : Int) < (n : Int) := by omega
    clear hv hvu hat
    go_wp2_with fail
    go_roundw
    case rel => exact ⟨k + 1, a ||| v, by omega, by go_num, by first | rfl | rw [hor], HS.out, trivial⟩
    case measure => simp [intOf]; omega
  · obtain rfl : n = k := by omega
    have hm := (xqU l HU.out).2
    have hall : l.take n = l := zL (by rw [← HL.out]; exact Nat.le_refl _)
    rw [hall] at HA
    rw [← HA.out] at hm
    have HM := zH hm
    clear hm hall
    go_wp2_with (first
     | (go_at_call 315; refine (xxR a hat _).mono ?_; rintro e w1 ⟨rfl, rfl⟩)
     | fail)
    go_ret
    exact ⟨by rw [HM.out]; rfl, rfl⟩
end
section
open Go Go.RowKit
theorem foldmin (l : List Int) : ∀ a : Int, l.foldl min a ≤ a ∧ (∀ x ∈ l, l.foldl min a ≤ x) ∧ (l.foldl min a = a ∨ l.foldl min a ∈ l) := by
 induction l with
 | nil => intro a; exact ⟨Int.le_refl _, by simp, .inl rfl⟩
 | cons b r ih =>
   intro a
   obtain ⟨h1, h2, h3⟩ := ih (min a b)
   rw [List.foldl_cons]
   refine ⟨by omega, fun x hx => ?_, ?_⟩
   · rcases List.mem_cons.1 hx with rfl | hx
     · omega
     · exact h2 x hx
   · rcases h3 with h3 | h3
     · rw [h3]
       by_cases hab : a ≤ b
       · exact .inl (by omega)
       · exact .inr (List.mem_cons.2 (.inl (by omega)))
     · exact .inr (List.mem_cons.2 (.inr h3))
theorem uum {l : List Int} (h : l ≠ []) : zzM l ∈ l ∧ ∀ x ∈ l, zzM l ≤ x := by
 match l, h with
 | a :: r, _ =>
   obtain ⟨h1, h2, h3⟩ := foldmin (a :: r) a
   refine ⟨?_, h2⟩
   show (a :: r).foldl min a ∈ a :: r
   rcases h3 with h3 | h3
   · rw [h3]; exact List.mem_cons_self
   · exact h3
theorem zzV {F : Nat → Prop} {w : World} {A : Option Addr} {n c : Nat} {l : List Int} (h : Sl tI64 F w A n c l) (hl : l ≠ []) : ∃ b o, A = some ⟨b, o, none⟩ ∧ b < w.heap.size ∧ ∀ i (hi : i < l.length), w.cell? ⟨b, o + i, none⟩ = some (.int .i64 l[i]) ∧ -9223372036854775808 ≤ l[i] ∧ l[i] ≤ 9223372036854775807 := by
 obtain ⟨b, o, _, rfl, _, hb, _, _⟩ := h.at1 (k := 0) (List.length_pos_iff.2 hl) rfl
 refine ⟨b, o, rfl, hb, fun i hi => ?_⟩
 obtain ⟨b', o', u, he, _, _, hr, hc⟩ := h.at1 hi rfl
 injection he with he; injection he with e1 e2 _
 subst e1; subst e2
 obtain ⟨hr, h1, h2⟩ := hr
 injection hr with hr
 subst hr
 exact ⟨hc, h1, h2⟩
theorem uun (F : Nat → Prop) (A : Option Addr) (n c : Nat) (l : List Int) (w : World) (h : Sl tI64 F w A n c l) (hl : l ≠ []) :
 Calls Tryz.prog 205 #[.slice A n c] w fun e w' => e = .returned (.int .i64 (zzM l)) ∧ w = w' := by
 obtain ⟨b, o, rfl, _, hc⟩ := zzV h hl
 have hlen := h.len
 have h2 := h.2.1
 have h3 := h.2.2.1
 unfold maxLen at h3
 refine (Tryz.slices_Min_int b o n c l w (by have := List.length_pos_iff.2 hl; omega) (by omega) (by omega) fun j hj => ?_).mono ?_
 · rw [(hc j hj).1, List.getD_eq_getElem?_getD, List.getElem?_eq_getElem hj]; rfl
 · rintro e w1 ⟨rfl, rfl⟩
   refine ⟨?_, rfl⟩
   rw [zL (by omega)]
   rfl
end
section
open Go Go.RowKit
attribute [local go_sem ↓] Go.wp_at_zero Go.wp_at_succ
theorem zqC (x : Nat) : (x : Int) % 128 + 128 = ((UInt8.ofNat (x % 128 + 128)).toNat : Int) := by
 rw [UInt8.toNat_ofNat']; omega
theorem OwnB.new0 (w : World) (B : Nat) (hB : B ≤ w.heap.size) : OwnB (w.alloc (.cells #[] 5)) B (some ⟨w.heap.size, 0, none⟩) 0 0 [] := by
 have := World.ownsRow_lit (base := B) (e := 5) (size := 1) w #[] 0 hB (by simp [maxLen]) (by simp)
 simpa [OwnB, bvs] using this
theorem jjC (F : Nat → Prop) (A : Option Addr) (n c : Nat) (bs : List UInt8) (x : Nat) (w : World) (h : Bs F w A n c bs) (hn : n ≤ 4294967200) (hx : x < 18446744073709551616) :
 Calls Tryz.prog 128 #[.slice A n c, .int .u64 (x : Int)] w (Own1 w (bs ++ vput x)) := by
 have HN := zH h.len
 have HNEW := zH (OwnB.new0 w w.heap.size zN)
 have HB0 := zH (show Below w.heap.size w (w.alloc (.cells #[] 5)) from (zR).alloc zN _)
 have HSRC := zH (Sl.alloc h (.cells #[] 5))
 clear h
 go_enter Tryz.func128, Tryz.ntmps128
 go_wp2_with (at_builtin; refine apb (w.alloc (.cells #[] 5)) w rfl (.tmp 6) (.tmp 7) rfl w.heap.size (some ⟨w.heap.size, 0, none⟩) 0 0 [] rfl HNEW.out HB0.out zN F A n c bs rfl HSRC.out (by omega) ?_; intro A1 c1 w1 h1 hb1 _)
 have H1 := zH h1; have HB1 := zH hb1
 clear h1 hb1 HNEW HB0 HSRC
 go_loopw [5, 1] (fun v xv wr => ∃ (f x' : Nat) (L : List UInt8) (A2 : Option Addr) (m c2 : Nat), m + f ≤ n + 9 ∧ xv = .int .u64 (x' : Int) ∧ v = .slice A2 m c2 ∧ OwnB wr w.heap.size A2 m c2 L ∧ L ++ uuH f x' = bs ++ vput x ∧ x' < 128 ^ (f + 1) ∧ x' < 18446744073709551616 ∧ Below w.heap.size w wr)
  (fun _ xv _ => (intOf xv).toNat)
 case atStart => exact ⟨9, x, bs, A1, n, c1, by omega, rfl, rfl, by have := H1.out; simpa using this, rfl, by omega, hx, HB1.out⟩
 case round =>
  obtain ⟨f, x', L, A2, m, c2, hm, rfl, rfl, hown, heq, hlt, hlt2, hb⟩ := hrel
  have HE := zH heq; have HO := zH hown; have HL := zH hlt
  clear heq hown hlt
  have hsz := hb.size
  by_cases hx' : x' < 128
  · have HLAST := zH (qzh x')
    go_wp2_with (at_builtin; refine apb1 wr w rfl (.tmp 20) (.tmp 23) rfl w.heap.size A2 m c2 L rfl HO.out hb zN _ rfl (UInt8.ofNat x') (by rw [← HLAST.out, IntKind.wrap_u8, show (x' : Int) % 256 = (x' : Int) by omega]) (by omega) ?_; intro A3 c3 w3 h3 hb3 _)
    go_ret
    refine ⟨A3, m + 1, c3, rfl, ?_, hb3⟩
    have hfin : L ++ [UInt8.ofNat x'] = bs ++ vput x := by
     rw [← HE.out]
     cases f <;> simp [uuH, hx']
    rw [← hfin]; exact h3
  · have HM := zH (zqC x')
    go_wp2_with (at_builtin; refine apb1 wr w rfl (.tmp 11) (.tmp 16) rfl w.heap.size A2 m c2 L rfl HO.out hb zN _ rfl (UInt8.ofNat (x' % 128 + 128)) (by rw [← HM.out]) (by omega) ?_; intro A3 c3 w3 h3 hb3 _)
    go_roundw
    case rel =>
     obtain ⟨f, rfl⟩ : ∃ f', f = f' + 1 := by
      cases f with
      | zero => have := HL.out; omega
      | succ f => exact ⟨f, rfl⟩
     have hlt := HL.out
     refine ⟨f, x' / 128, L ++ [UInt8.ofNat (x' % 128 + 128)], A3, m + 1, c3, by omega, by go_num, rfl, h3, ?_, ?_, by omega, hb3⟩
     · rw [← HE.out]
       simp [uuH, hx']
     · rw [Nat.pow_succ] at hlt; exact Nat.div_lt_of_lt_mul (by omega)
    case measure => simp [intOf]; omega
theorem uuW (x : Int) (w : World) (h0 : -9223372036854775808 ≤ x) (h1 : x ≤ 9223372036854775807) :
 Calls Tryz.prog 127 #[.int .i64 x] w fun e w' => e = .returned (.int .u64 (zigN x : Nat)) ∧ w = w' := by
 by_cases hx : x < 0
 · go_enter Tryz.func127, Tryz.ntmps127
   go_wp2
   go_ret
   refine ⟨zql ?_, rfl⟩
   unfold zigN; split <;> omega
 · go_enter Tryz.func127, Tryz.ntmps127
   go_wp2
   go_ret
   refine ⟨zql ?_, rfl⟩
   unfold zigN; split <;> omega
theorem vv0 (F : Nat → Prop) (A : Option Addr) (n c : Nat) (bs : List UInt8) (x : Int) (w : World) (h : Bs F w A n c bs) (hn : n ≤ 4294967200) (h0 : 0 ≤ x) (hx : x < 18446744073709551616) :
 Calls Tryz.prog 128 #[.slice A n c, .int .u64 x] w (Own1 w (bs ++ vput x.toNat)) := by
 obtain ⟨k, rfl⟩ := Int.eq_ofNat_of_zero_le h0
 rw [Int.toNat_natCast]
 exact jjC F A n c bs k w h hn (by omega)
theorem rpi_any (F : Nat → Prop) (A : Option Addr) (n c : Nat) (bs : List UInt8) (x : Int) (sg : Bool) (w : World) (h : Bs F w A n c bs) (hn : n ≤ 4294967200) (h0 : -9223372036854775808 ≤ x) (h1 : x ≤ 9223372036854775807) (hs : sg = true ∨ 0 ≤ x) :
 Calls Tryz.prog 263 #[.slice A n c, .int .i64 x, .bool sg] w (Own1 w (bs ++ vput (uOf sg x))) := by
 have HH := zH h
 have hu := jjh (sg := sg) h0 h1
 have HU := zH hu
 clear h hu
 cases sg with
 | true =>
   have HZ := zH (show zigN x = uOf true x from rfl)
   obtain ⟨v, hv⟩ : ∃ v, v = uOf true x := ⟨_, rfl⟩
   rw [← hv] at HZ HU ⊢
   clear hv hs
   go_enter Tryz.func263, Tryz.ntmps263
   go_wp2_with (first
    | (go_at_call 127; refine (uuW x _ h0 h1).mono ?_; rintro e w1 ⟨rfl, rfl⟩; rw [HZ.out])
    | (go_at_call 128; refine (jjC F A n c bs v _ HH.out hn HU.out).mono ?_; rintro e w1 ⟨A1, n1, c1, rfl, ho1, hb1⟩; have HO1 := zH ho1; have HB1 := zH hb1; clear ho1 hb1)
    | fail)
   go_ret
   exact ⟨A1, n1, c1, rfl, HO1.out, HB1.out⟩
 | false =>
   have hx : 0 ≤ x := hs.resolve_left (by decide)
   obtain ⟨k, rfl⟩ := Int.eq_ofNat_of_zero_le hx
   have hk : uOf false (k : Int) = k := by unfold uOf; simp
   rw [hk] at HU ⊢
   clear hk hs
   go_enter Tryz.func263, Tryz.ntmps263
   go_wp2_with (first
    | (go_at_call 128; refine (jjC F A n c bs k _ HH.out hn HU.out).mono ?_; rintro e w1 ⟨A1, n1, c1, rfl, ho1, hb1⟩; have HO1 := zH ho1; have HB1 := zH hb1; clear ho1 hb1)
    | fail)
   go_ret
   exact ⟨A1, n1, c1, rfl, HO1.out, HB1.out⟩
theorem jjD (c : Int) (h0 : 0 ≤ c) (h1 : c ≤ 31) (w : World) : Calls Tryz.prog 220 #[.int .i64 c] w fun e w' => e = .returned (.int .i64 (wOf c)) ∧ w = w' := by
 have k1 : ¬ c < 0 := by omega
 have k2 : ¬ c > 31 := by omega
 have k3 : ¬ 31 < c := by omega
 by_cases h : c < 24
 · have e1 := zH (show wOf c = c + 1 by unfold wOf; rw [if_neg (by omega), if_pos h])
   go_enter Tryz.func220, Tryz.ntmps220
   go_wp2_with fail
   go_ret
   exact ⟨by rw [e1.out]; rfl, rfl⟩
 · by_cases h2 : c < 28
   · have e1 := zH (show wOf c = 24 + 2 * (c - 23) by unfold wOf; rw [if_neg (by omega), if_neg h, if_pos h2])
     go_enter Tryz.func220, Tryz.ntmps220
     go_wp2_with fail
     go_ret
     exact ⟨by rw [e1.out]; rfl, rfl⟩
   · have e1 := zH (show wOf c = 32 + 8 * (c - 27) by unfold wOf; rw [if_neg (by omega), if_neg h, if_neg h2])
     go_enter Tryz.func220, Tryz.ntmps220
     go_wp2_with fail
     go_ret
     exact ⟨by rw [e1.out]; rfl, rfl⟩
theorem vv1 (b : Int) (w : World) : Calls Tryz.prog 261 #[.int .i64 b] w fun e w' => e = .returned (.int .i64 (zz6 b)) ∧ w = w' := by
 go_enter Tryz.func261, Tryz.ntmps261
 go_wp2_with fail
 go_loopw [3] (fun cv wr => ∃ c : Nat, c ≤ 32 ∧ cv = .int .i64 (c : Int) ∧ Hid (∀ d : Int, 0 ≤ d → d < c → wOf d ≠ b) ∧ w = wr) (fun cv _ => 32 - (intOf cv).toNat)
 case atStart => exact ⟨0, by omega, rfl, zH (fun d h0 h1 => by omega), rfl⟩
 case round =>
  obtain ⟨c, hc, rfl, HJ, rfl⟩ := hrel
  by_cases hlt : c < 32
  · have q1 : (c : Int) < 32 := by omega
    have q0 : (0 : Int) ≤ (c : Int) := by omega
    obtain ⟨v, hv⟩ : ∃ v, v = wOf (c : Int) := ⟨_, rfl⟩
    have HV := zH hv
    clear hv
    by_cases he : v = b
    · have HE := zH (show zz6 b = (c : Int) from xqT q0 (by omega) (by rw [← HV.out]; exact he))
      go_wp2_with (first
       | (go_at_call 220; refine (jjD (c : Int) q0 (by omega) _).mono ?_; rintro e w1 ⟨rfl, rfl⟩; rw [← HV.out])
       | fail)
      go_ret
      exact ⟨by rw [HE.out]; rfl, rfl⟩
    · have HJ2 : Hid (∀ d : Int, 0 ≤ d → d < ((c + 1 : Nat) : Int) → wOf d ≠ b) := zH (fun d h0 h1 => by
       by_cases hd : d = c
       · subst hd; rw [← HV.out]; exact he
       · exact HJ.out d h0 (by omega))
      go_wp2_with (first
       | (go_at_call 220; refine (jjD (c : Int) q0 (by omega) _).mono ?_; rintro e w1 ⟨rfl, rfl⟩; rw [← HV.out])
       | fail)
      go_roundw
      case rel => exact ⟨c + 1, by omega, by go_num, HJ2, trivial⟩
      case measure => simp [intOf]; omega
  · obtain rfl : c = 32 := by omega
    have HE := zH (show zz6 b = -1 from qxJ fun d h0 h1 => HJ.out d h0 (by omega))
    go_wp2_with fail
    go_ret
    exact ⟨by rw [HE.out]; rfl, rfl⟩
theorem vvf (b : Int) (hb : b ≤ 64) (w : World) : Calls Tryz.prog 257 #[.int .i64 b] w fun e w' => e = .returned (.int .i64 (zzt b)) ∧ w = w' := by
 go_enter Tryz.func257, Tryz.ntmps257
 go_wp2_with fail
 go_loopw [3] (fun cv wr => ∃ c : Nat, c ≤ 31 ∧ cv = .int .i64 (c : Int) ∧ Hid (∀ d : Int, 0 ≤ d → d < c → wOf d < b) ∧ w = wr) (fun cv _ => 32 - (intOf cv).toNat)
 case atStart => exact ⟨0, by omega, rfl, zH (fun d h0 h1 => by omega), rfl⟩
 case round =>
  obtain ⟨c, hc, rfl, HJ, rfl⟩ := hrel
  have q1 : (c : Int) < 32 := by omega
  have q0 : (0 : Int) ≤ (c : Int) := by omega
  obtain ⟨v, hv⟩ : ∃ v, v = wOf (c : Int) := ⟨_, rfl⟩
  have HV := zH hv
  clear hv
  by_cases he : v ≥ b
  · have he2 : b ≤ v := he
    have HE := zH (show zzt b = v from by rw [HV.out]; exact qzl q0 (by omega) (by rw [← HV.out]; exact he) HJ.out)
    go_wp2_with (first
     | (go_at_call 220; refine (jjD (c : Int) q0 (by omega) _).mono ?_; rintro e w1 ⟨rfl, rfl⟩; rw [← HV.out])
     | fail)
    go_ret
    exact ⟨by rw [HE.out]; rfl, rfl⟩
  · have he2 : ¬ b ≤ v := he
    have hc31 : c < 31 := by
     rcases Nat.lt_or_ge c 31 with h | h
     · exact h
     · exfalso
       have : c = 31 := by omega
       subst this
       have h64 := HV.out
       rw [show wOf ((31 : Nat) : Int) = 64 by decide] at h64
       omega
    have HJ2 : Hid (∀ d : Int, 0 ≤ d → d < ((c + 1 : Nat) : Int) → wOf d < b) := zH (fun d h0 h1 => by
     by_cases hd : d = c
     · subst hd; rw [← HV.out]; omega
     · exact HJ.out d h0 (by omega))
    go_wp2_with (first
     | (go_at_call 220; refine (jjD (c : Int) q0 (by omega) _).mono ?_; rintro e w1 ⟨rfl, rfl⟩; rw [← HV.out])
     | fail)
    go_roundw
    case rel => exact ⟨c + 1, by omega, by go_num, HJ2, trivial⟩
    case measure => simp [intOf]; omega
theorem vv2 (x : Nat) (hx : U64 x) (w : World) : Calls Tryz.prog 256 #[.int .u64 (x : Int)] w fun e w' => e = .returned (.int .i64 ((bl x : Nat) : Int)) ∧ w = w' := by
 have HX := zH hx
 go_enter Tryz.func256, Tryz.ntmps256
 go_wp2_with fail
 go_loopw [0, 3] (fun xv nv wr => ∃ (y k : Nat), xv = .int .u64 (y : Int) ∧ nv = .int .i64 (k : Int) ∧ k + bl y = bl x ∧ y ≤ x ∧ w = wr) (fun xv _ _ => (intOf xv).toNat)
 case atStart => exact ⟨x, 0, rfl, rfl, by omega, Nat.le_refl _, rfl⟩
 case round =>
  obtain ⟨y, k, rfl, rfl, hk, hy, rfl⟩ := hrel
  have hxx := HX.out
  have h64 := yyk hxx
  by_cases h0 : y = 0
  · subst h0
    have hk2 : k = bl x := by rw [bl_zero] at hk; omega
    have HK := zH hk2
    clear hk hk2 h64 hxx
    go_wp2_with fail
    go_ret
    exact ⟨by rw [HK.out]; rfl, rfl⟩
  · have hU : U64 y := Nat.lt_of_le_of_lt hy hxx
    have hh := bl_half hU h0
    have HK := zH (show (k + 1) + bl (y / 2) = bl x by omega)
    have q0 : (0 : Int) < (y : Int) := by omega
    have q1 : (y : Int) > 0 := by omega
    have q2 : (y : Int) ≤ 18446744073709551615 := by have : y < 18446744073709551616 := hU; omega
    have q3 : (k : Int) ≤ 64 := by omega
    clear hk hh h64 hxx
    go_wp2_with fail
    go_roundw
    case rel => exact ⟨y / 2, k + 1, by go_num, by go_num, HK.out, by omega, trivial⟩
    case measure => simp [intOf]; omega
theorem jjE (F : Nat → Prop) (A : Option Addr) (n c : Nat) (l : List Nat) (w : World) (h : Sl tU64 F w A n c l) : Calls Tryz.prog 258 #[.slice A n c] w fun e w' => e = .returned (.int .i64 ((most l : Nat) : Int)) ∧ w = w' := by
 have HH := zH h
 have hu : ∀ x ∈ l, U64 x := by
  intro x hx
  obtain ⟨k, hk, rfl⟩ := List.getElem_of_mem hx
  obtain ⟨_, _, _, _, _, _, hr, _⟩ := h.at1 hk rfl
  exact hr.2
 have HU := zH hu
 have hn := h.len
 have HL := zH hn
 have hmax : n ≤ 9223372036854775807 := by have h2 := h.2.1; have h3 := h.2.2.1; unfold maxLen at h3; omega
 clear h hu hn
 go_enter Tryz.func258, Tryz.ntmps258
 go_wp2_with fail
 go_loopw [3, 4] (fun av kv wr => ∃ k : Nat, k ≤ n ∧ kv = .int .i64 (k : Int) ∧ av = .int .i64 ((most (l.take k) : Nat) : Int) ∧ w = wr)
  (fun _ kv _ => n - (intOf kv).toNat)
 case atStart => exact ⟨0, Nat.zero_le _, rfl, rfl, rfl⟩
 case round =>
  obtain ⟨k, hk, rfl, rfl, rfl⟩ := hrel
  by_cases hlt : k < n
  · have hkl : k < l.length := by rw [← HL.out]; exact hlt
    obtain ⟨v, hv⟩ : ∃ v, v = l[k] := ⟨_, rfl⟩
    obtain ⟨b, o, u, rfl, _, hbl, hr, hc⟩ := HH.out.at1 hkl rfl
    have hvu := HU.out _ (List.getElem_mem hkl)
    rw [← hv] at hvu
    have hr : [u] = [Value.int .u64 ((l[k] : Nat) : Int)] := hr.1
    injection hr with hr; subst hr
    rw [← hv] at hc
    obtain ⟨m, hm⟩ : ∃ m, m = most (l.take k) := ⟨_, rfl⟩
    obtain ⟨m2, hm2⟩ : ∃ m2, m2 = bl v := ⟨_, rfl⟩
    have HE := zH (show most (l.take (k + 1)) = max m m2 by rw [zT hkl, jjg, ← hv, hm, hm2])
    have HM2 := zH hm2; have HVU := zH hvu
    rw [← hm]
    have q0 : (0 : Int) ≤ (k : Int) := by omega
    have q1 : (k : Int) < (n : Int) := by omega
    clear hv hm hm2 hvu
    go_wp2_with (first
     | (go_at_call 256; refine (vv2 v HVU.out _).mono ?_; rintro e w1 ⟨rfl, rfl⟩; rw [← HM2.out])
     | fail)
    go_roundw
    case rel => exact ⟨k + 1, by omega, by go_num, by rw [HE.out]; go_num, trivial⟩
    case measure => simp [intOf]; omega
  · obtain rfl : k = n := by omega
    have HE := zH (show l.take k = l from zL (by rw [← HL.out]; exact Nat.le_refl _))
    go_wp2_with fail
    go_ret
    exact ⟨by rw [HE.out]; rfl, rfl⟩
end
end Go.Proofs.YtpmglcachffojaaGreatDoor
