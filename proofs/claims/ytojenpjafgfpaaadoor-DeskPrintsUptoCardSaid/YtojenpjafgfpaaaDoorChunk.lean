/- slices.Chunk at bytes, two at a time, of a row that begins a block: what it hands back runs over its pairs. -/
import Derived.RangeFuncNested
import Derived.RangeFuncBound
import Derived.RangeFuncCalls
import Derived.RangeFuncLeaves
import Derived.RangeFuncBox
import Derived.Shelf.Abstract
import Derived.Shelf.RegionOpen
import Derived.WalkKit
import Derived.OwnWalkIn
import Derived.TacticsInMore
import Derived.LoopNIn
import Derived.LoopIn
import Derived.RegionIn
import Derived.Test.YtojenpjafgfpaaaDoorBase
namespace Go.Proofs.YtojenpjafgfpaaaDoor
open Go Go.RowKit Go.Shelf
attribute [local go_sem] Oper.semAt_some

/-- What has come when k rounds are over. -/
def uptoF (m k : Nat) : List (Fin m) := (List.finRange m).take k
theorem uptoF_length (m k : Nat) (hk : k ≤ m) : (uptoF m k).length = k := by simp [uptoF]; omega
theorem uptoF_succ (m k : Nat) (hk : k < m) : uptoF m (k + 1) = uptoF m k ++ [⟨k, hk⟩] := by
  unfold uptoF
  rw [List.take_succ_eq_append_getElem (by simpa using hk)]
  simp

def chEnc (b : Nat) {m : Nat} (x : Fin m) : Array Value := #[.slice (some ⟨b, 2 * x.val, none⟩) 2 2]

/-- What a round keeps: the two boxes of the iterator's. -/
def KpC (b0 b1 : Nat) (W W' : World) : Prop := W'.heap[b0]? = W.heap[b0]? ∧ W'.heap[b1]? = W.heap[b1]?
theorem KpC.refl (b0 b1 : Nat) (W : World) : KpC b0 b1 W W := ⟨rfl, rfl⟩
theorem KpC.trans {b0 b1 : Nat} {A B C : World} (h : KpC b0 b1 A B) (k : KpC b0 b1 B C) : KpC b0 b1 A C := ⟨k.1.trans h.1, k.2.trans h.2⟩
theorem KpC.put {b0 b1 : Nat} {w : World} (h0 : b0 < w.heap.size) (h1 : b1 < w.heap.size) (W : World) (l : Nat) (o o' : Obj) (hl : w.heap.size ≤ l) (_ : W.heap[l]? = some o) (_ : o.isCells = false) (_ : o.isWalk = false) : KpC b0 b1 W (W.putObj l o') :=
  ⟨World.putObj_heap_other (by omega), World.putObj_heap_other (by omega)⟩
theorem KpC.grown {b0 b1 : Nat} {W W' : World} {row : Option Nat} (h : W.grownBy W' row) (h0 : b0 < W.heap.size) (h1 : b1 < W.heap.size) (hr : ∀ k, row = some k → k ≠ b0 ∧ k ≠ b1) : KpC b0 b1 W W' :=
  ⟨h.block b0 h0 (fun e => (hr b0 e.symm).1 rfl), h.block b1 h1 (fun e => (hr b1 e.symm).2 rfl)⟩

set_option maxRecDepth 100000 in
set_option maxHeartbeats 2000000 in
theorem chunk1_in (F : Fence) (n : Nat) (hf : F.fn 72) (hro : F.round = none) (hn : 1 ≤ n) (l b0 b1 b m N cap : Nat) (hN : N = 2 * m) (hcap : N ≤ cap) (hcm : cap ≤ maxLen) (J Jx : List (Fin m) → World → Prop)
    (hJ : ∀ pre W, J pre W → J pre W.drew)
    (hY : ∀ pre (x : Fin m) W, J pre W → pre.length < m → YieldAt F (n - 1) Tryd.prog l (chEnc b x) W fun e W' =>
      (e = .returned (.bool true) ∧ J (pre ++ [x]) W' ∧ KpC b0 b1 W W') ∨ (e = .returned (.bool false) ∧ Jx (pre ++ [x]) W'))
    (W : World) (h0' : W.heap[b0]? = some (.cells #[.slice (some ⟨b, 0, none⟩) N cap] 35 (0, 0))) (h1' : W.heap[b1]? = some (.cells #[.int .i64 2] 3 (0, 0))) (h0 : J [] W) :
    CallsIn F n Tryd.prog 72 #[.func (.yield l) #[] #[], .pointer (some ⟨b0, 0, none⟩), .pointer (some ⟨b1, 0, none⟩)] W fun e W' => (∃ v, e = .returned v) ∧
      ((∃ ys, ys = uptoF m m ∧ J ys W') ∨ (∃ pre, (∃ k, k ≤ m ∧ pre = uptoF m k) ∧ Jx pre W')) := by
  unfold maxLen at hcm
  have HN := Lib.hid hN; clear hN
  have HA := Lib.hid h0'; have HB := Lib.hid h1'
  have q0 : W.cell? ⟨b0, 0, none⟩ = some (.slice (some ⟨b, 0, none⟩) N cap) := by rw [Lib.cell_of_heap h0']; rfl
  have q1 : W.cell? ⟨b1, 0, none⟩ = some (.int .i64 2) := by rw [Lib.cell_of_heap h1']; rfl
  clear h0' h1'
  refine callsIn_of_wp Tryd.func72 rfl hf ?_ hro
  simp only [Tryd.ntmps72, List.size_toArray, List.length_cons, List.length_nil, Nat.reduceAdd, Nat.reduceSub, Array.replicate_succ, Array.replicate_zero, List.push_toArray, List.append_toArray, List.nil_append, List.cons_append]
  gi_wp2
  gi_loopw [4] (fun i wr => ∃ (k j : Nat), k ≤ m ∧ j ≤ N ∧ Hid (j = 2 * k) ∧ i = .int .i64 (j : Int) ∧ J (uptoF m k) wr ∧ KpC b0 b1 W wr)
    (fun i _ => N - (intOf i).toNat)
  case atStart => exact ⟨0, 0, Nat.zero_le _, Nat.zero_le _, Lib.hid rfl, rfl, h0, KpC.refl _ _ _⟩
  case round =>
    obtain ⟨k, j, hk, hj, HJ, rfl, hJs, hnx⟩ := hrel
    have HNX := Lib.hid hnx; clear q0 q1
    have c0 : wr.cell? ⟨b0, 0, none⟩ = some (.slice (some ⟨b, 0, none⟩) N cap) := by rw [Lib.cell_of_heap (hnx.1.trans HA.out)]; rfl
    have c1 : wr.cell? ⟨b1, 0, none⟩ = some (.int .i64 2) := by rw [Lib.cell_of_heap (hnx.2.trans HB.out)]; rfl
    clear hnx
    by_cases hlt : k < m
    · obtain ⟨fn, tmps, assign, body, hy, hR⟩ := hY _ ⟨k, hlt⟩ wr.drew (hJ _ _ hJs) (by rw [uptoF_length _ _ hk]; exact hlt)
      dsimp only [chEnc] at hy
      rw [← HJ.out] at hy
      have hj2 : j + 2 ≤ N := by have := HJ.out; have := HN.out; omega
      have hlt' : (j : Int) < (N : Int) := by omega
      have hi0 : (0 : Int) ≤ (j : Int) := by omega
      have hi1 : (j : Int) ≤ (N : Int) := by omega
      have hi2 : (j : Int) ≤ (cap : Int) := by omega
      have hi3 : (j : Int) + 2 ≤ (cap : Int) := by omega
      have hif : (if ((N - j : Nat) : Int) < 2 then ((N - j : Nat) : Int) else 2) = 2 := if_neg (by omega)
      have HIF := Lib.hid hif; clear hif
      have hmx : Tryd.prog.follows .mixedOrders = true := by kernel_rfl
      gi_wp2
      gi_region
      all_goals
        rw [HIF.out]
        gi_wp2
        refine hR.mono ?_
        rintro e W3 (⟨rfl, hJ3, hk3⟩ | ⟨rfl, hJx3⟩)
        · have c1' : W3.cell? ⟨b1, 0, none⟩ = some (.int .i64 2) := by rw [Lib.cell_of_heap (hk3.2.trans (HNX.out.2.trans HB.out))]; rfl
          have HK3 := Lib.hid hk3; clear hk3
          gi_wp2
          go_roundw
          case rel => exact ⟨k + 1, j + 2, by omega, by omega, Lib.hid (by have := HJ.out; omega), by go_num, by rw [uptoF_succ _ _ hlt]; exact hJ3, HNX.out.trans HK3.out⟩
          case measure => simp [intOf]; omega
        · gi_wp2
          refine bodyPost_ret (results_none rfl _ _ _) rfl ?_
          exact ⟨⟨_, rfl⟩, .inr ⟨_, ⟨k + 1, by omega, (uptoF_succ _ _ hlt).symm⟩, hJx3⟩⟩
    · obtain rfl : k = m := by omega
      have hge : ¬ (j : Int) < (N : Int) := by have := HJ.out; have := HN.out; omega
      gi_wp2
      go_end0
      first | exact ⟨⟨_, rfl⟩, .inl ⟨_, rfl, hJs⟩⟩ | exact ⟨⟨_, rfl⟩, .inl hJs⟩ | exact .inl hJs | exact hJs
theorem uptoF_all (m : Nat) : uptoF m m = List.finRange m := by unfold uptoF; rw [List.take_of_length_le (by simp)]
set_option maxHeartbeats 1000000 in
/-- slices.Chunk(s, 2): both are boxed. -/
theorem chunk_in (F : Fence) (n : Nat) (hf : F.fn 54) (hro : F.round = none) (A : Option Addr) (N cap : Nat) (w : World) :
    CallsIn F n Tryd.prog 54 #[.slice A N cap, .int .i64 2] w fun e w' => e = .returned (.func (.func 72) #[] #[.pointer (some ⟨w.heap.size, 0, none⟩), .pointer (some ⟨w.heap.size + 1, 0, none⟩)]) ∧
      w' = (w.alloc (.cells #[.slice A N cap] 35)).alloc (.cells #[.int .i64 2] 3) := by
  refine callsIn_of_wp Tryd.func54 rfl hf ?_ hro
  simp only [Tryd.ntmps54, List.size_toArray, List.length_cons, List.length_nil, Nat.reduceAdd, Nat.reduceSub, Array.replicate_succ, Array.replicate_zero, List.push_toArray, List.append_toArray, List.nil_append, List.cons_append]
  gi_wp2
  go_ret
  exact ⟨rfl, rfl⟩
theorem chunk_stops (F : Fence) (n : Nat) (hf : F.fn 72) (hro : F.round = none) (hn : 1 ≤ n) (b0 b1 b m N cap : Nat) (hN : N = 2 * m) (hcap : N ≤ cap) (hcm : cap ≤ maxLen) (w : World)
    (h0 : w.heap[b0]? = some (.cells #[.slice (some ⟨b, 0, none⟩) N cap] 35 (0, 0))) (h1 : w.heap[b1]? = some (.cells #[.int .i64 2] 3 (0, 0))) :
    SeqStopsK F n Tryd.prog 72 #[.pointer (some ⟨b0, 0, none⟩), .pointer (some ⟨b1, 0, none⟩)] (fun x : Fin m => chEnc b x) (KpC b0 b1) (fun ys => ys = List.finRange m) (fun pre => ∃ k, k ≤ m ∧ pre = uptoF m k) m w := fun l J Jx W hW hJ _ hY hJ0 => by
  have l0 : b0 < w.heap.size := (Array.getElem?_eq_some_iff.1 h0).1
  have l1 : b1 < w.heap.size := (Array.getElem?_eq_some_iff.1 h1).1
  refine (chunk1_in F n hf hro hn l b0 b1 b m N cap hN hcap hcm J Jx (fun pre W1 hs => hJ pre W1 W1.drew none hs ⟨rfl, rfl, rfl, Nat.le_refl _, fun _ _ _ => rfl⟩ (fun r e => by cases e)) hY W ((hW.block _ l0).trans h0) ((hW.block _ l1).trans h1) hJ0).mono ?_
  rintro e W' ⟨he, ⟨ys, rfl, hj⟩ | ⟨pre, hp, hj⟩⟩
  · exact ⟨he, .inl ⟨_, uptoF_all m, hj⟩⟩
  · exact ⟨he, .inr ⟨pre, hp, hj⟩⟩
end Go.Proofs.YtojenpjafgfpaaaDoor
