/- slices.Chunk at bytes, two at a time, of a row that begins a block: what it hands back runs over its pairs. -/
import Derived.RangeFuncNested
import Derived.RangeFuncBound
import Derived.RangeFuncCalls
import Derived.RangeFuncLeaves
import Derived.RangeFuncBox
import Derived.Shelf.Abstract
import Derived.Shelf.RegionOpen
import Derived.WalkKit
import Derived.OwnWalkIn
import Derived.TacticsInMore
import Derived.LoopNIn
import Derived.LoopIn
import Derived.RegionIn
import Derived.Test.YtojenpjafgfpaaaGreatDoorBase
import Derived.Maps.OwnIn
import Derived.Test.YtojenpjafgfpaaaGreatDoorTakeEv
import Derived.Test.YtojenpjafgfpaaaGreatDoorShelf
import Derived.Test.YtojenpjafgfpaaaGreatDoorHex
import Derived.Maps.AppendAt
namespace Go.Proofs.YtojenpjafgfpaaaGreatDoor
open Go Go.RowKit Go.Shelf
attribute [local go_sem] Oper.semAt_some

/-- What has come when k rounds are over. -/
def uptoF (m k : Nat) : List (Fin m) := (List.finRange m).take k
theorem uptoF_length (m k : Nat) (hk : k ≤ m) : (uptoF m k).length = k := by simp [uptoF]; omega
theorem uptoF_succ (m k : Nat) (hk : k < m) : uptoF m (k + 1) = uptoF m k ++ [⟨k, hk⟩] := by
  unfold uptoF
  rw [List.take_succ_eq_append_getElem (by simpa using hk)]
  simp

def chEnc (b : Nat) {m : Nat} (x : Fin m) : Array Value := #[.slice (some ⟨b, 2 * x.val, none⟩) 2 2]

/-- What a round keeps: the two boxes of the iterator's. -/
def KpC (b0 b1 : Nat) (W W' : World) : Prop := W'.heap[b0]? = W.heap[b0]? ∧ W'.heap[b1]? = W.heap[b1]?
theorem KpC.refl (b0 b1 : Nat) (W : World) : KpC b0 b1 W W := ⟨rfl, rfl⟩
theorem KpC.trans {b0 b1 : Nat} {A B C : World} (h : KpC b0 b1 A B) (k : KpC b0 b1 B C) : KpC b0 b1 A C := ⟨k.1.trans h.1, k.2.trans h.2⟩
theorem KpC.put {b0 b1 : Nat} {w : World} (h0 : b0 < w.heap.size) (h1 : b1 < w.heap.size) (W : World) (l : Nat) (o o' : Obj) (hl : w.heap.size ≤ l) (_ : W.heap[l]? = some o) (_ : o.isCells = false) (_ : o.isWalk = false) : KpC b0 b1 W (W.putObj l o') :=
  ⟨World.putObj_heap_other (by omega), World.putObj_heap_other (by omega)⟩
theorem KpC.grown {b0 b1 : Nat} {W W' : World} {row : Option Nat} (h : W.grownBy W' row) (h0 : b0 < W.heap.size) (h1 : b1 < W.heap.size) (hr : ∀ k, row = some k → k ≠ b0 ∧ k ≠ b1) : KpC b0 b1 W W' :=
  ⟨h.block b0 h0 (fun e => (hr b0 e.symm).1 rfl), h.block b1 h1 (fun e => (hr b1 e.symm).2 rfl)⟩

set_option maxRecDepth 100000 in
set_option maxHeartbeats 2000000 in
theorem chunk1_in (F : Fence) (n : Nat) (hf : F.fn 87) (hro : F.round = none) (hn : 1 ≤ n) (l b0 b1 b m N cap : Nat) (hN : N = 2 * m) (hcap : N ≤ cap) (hcm : cap ≤ maxLen) (J Jx : List (Fin m) → World → Prop)
    (hJ : ∀ pre W, J pre W → J pre W.drew)
    (hY : ∀ pre (x : Fin m) W, J pre W → pre.length < m → YieldAt F (n - 1) Tryz.prog l (chEnc b x) W fun e W' =>
      (e = .returned (.bool true) ∧ J (pre ++ [x]) W' ∧ KpC b0 b1 W W') ∨ (e = .returned (.bool false) ∧ Jx (pre ++ [x]) W'))
    (W : World) (h0' : W.heap[b0]? = some (.cells #[.slice (some ⟨b, 0, none⟩) N cap] 30 (0, 0))) (h1' : W.heap[b1]? = some (.cells #[.int .i64 2] 3 (0, 0))) (h0 : J [] W) :
    CallsIn F n Tryz.prog 87 #[.func (.yield l) #[] #[], .pointer (some ⟨b0, 0, none⟩), .pointer (some ⟨b1, 0, none⟩)] W fun e W' => (∃ v, e = .returned v) ∧
      ((∃ ys, ys = uptoF m m ∧ J ys W') ∨ (∃ pre, (∃ k, k ≤ m ∧ pre = uptoF m k) ∧ Jx pre W')) := by
  unfold maxLen at hcm
  have HN := Lib.hid hN; clear hN
  have HA := Lib.hid h0'; have HB := Lib.hid h1'
  have q0 : W.cell? ⟨b0, 0, none⟩ = some (.slice (some ⟨b, 0, none⟩) N cap) := by rw [Lib.cell_of_heap h0']; rfl
  have q1 : W.cell? ⟨b1, 0, none⟩ = some (.int .i64 2) := by rw [Lib.cell_of_heap h1']; rfl
  clear h0' h1'
  refine callsIn_of_wp Tryz.func87 rfl hf ?_ hro
  simp only [Tryz.ntmps87, List.size_toArray, List.length_cons, List.length_nil, Nat.reduceAdd, Nat.reduceSub, Array.replicate_succ, Array.replicate_zero, List.push_toArray, List.append_toArray, List.nil_append, List.cons_append]
  gi_wp2
  gi_loopw [4] (fun i wr => ∃ (k j : Nat), k ≤ m ∧ j ≤ N ∧ Hid (j = 2 * k) ∧ i = .int .i64 (j : Int) ∧ J (uptoF m k) wr ∧ KpC b0 b1 W wr)
    (fun i _ => N - (intOf i).toNat)
  case atStart => exact ⟨0, 0, Nat.zero_le _, Nat.zero_le _, Lib.hid rfl, rfl, h0, KpC.refl _ _ _⟩
  case round =>
    obtain ⟨k, j, hk, hj, HJ, rfl, hJs, hnx⟩ := hrel
    have HNX := Lib.hid hnx; clear q0 q1
    have c0 : wr.cell? ⟨b0, 0, none⟩ = some (.slice (some ⟨b, 0, none⟩) N cap) := by rw [Lib.cell_of_heap (hnx.1.trans HA.out)]; rfl
    have c1 : wr.cell? ⟨b1, 0, none⟩ = some (.int .i64 2) := by rw [Lib.cell_of_heap (hnx.2.trans HB.out)]; rfl
    clear hnx
    by_cases hlt : k < m
    · obtain ⟨fn, tmps, assign, body, hy, hR⟩ := hY _ ⟨k, hlt⟩ wr.drew (hJ _ _ hJs) (by rw [uptoF_length _ _ hk]; exact hlt)
      dsimp only [chEnc] at hy
      rw [← HJ.out] at hy
      have hj2 : j + 2 ≤ N := by have := HJ.out; have := HN.out; omega
      have hlt' : (j : Int) < (N : Int) := by omega
      have hi0 : (0 : Int) ≤ (j : Int) := by omega
      have hi1 : (j : Int) ≤ (N : Int) := by omega
      have hi2 : (j : Int) ≤ (cap : Int) := by omega
      have hi3 : (j : Int) + 2 ≤ (cap : Int) := by omega
      have hif : (if ((N - j : Nat) : Int) < 2 then ((N - j : Nat) : Int) else 2) = 2 := if_neg (by omega)
      have HIF := Lib.hid hif; clear hif
      have HMN := Lib.hid (show min (2 : Int) ((N - j : Nat) : Int) = 2 by omega)
      have hmx : Tryz.prog.follows .mixedOrders = true := by kernel_rfl
      gi_wp2
      gi_region
      all_goals
        first | rw [HIF.out] | rw [HMN.out] | fail
        gi_wp2
        refine hR.mono ?_
        rintro e W3 (⟨rfl, hJ3, hk3⟩ | ⟨rfl, hJx3⟩)
        · have c1' : W3.cell? ⟨b1, 0, none⟩ = some (.int .i64 2) := by rw [Lib.cell_of_heap (hk3.2.trans (HNX.out.2.trans HB.out))]; rfl
          have HK3 := Lib.hid hk3; clear hk3
          gi_wp2
          go_roundw
          case rel => exact ⟨k + 1, j + 2, by omega, by omega, Lib.hid (by have := HJ.out; omega), by go_num, by rw [uptoF_succ _ _ hlt]; exact hJ3, HNX.out.trans HK3.out⟩
          case measure => simp [intOf]; omega
        · gi_wp2
          refine bodyPost_ret (results_none rfl _ _ _) rfl ?_
          exact ⟨⟨_, rfl⟩, .inr ⟨_, ⟨k + 1, by omega, (uptoF_succ _ _ hlt).symm⟩, hJx3⟩⟩
    · obtain rfl : k = m := by omega
      have hge : ¬ (j : Int) < (N : Int) := by have := HJ.out; have := HN.out; omega
      gi_wp2
      go_end0
      first | exact ⟨⟨_, rfl⟩, .inl ⟨_, rfl, hJs⟩⟩ | exact ⟨⟨_, rfl⟩, .inl hJs⟩ | exact .inl hJs | exact hJs
theorem uptoF_all (m : Nat) : uptoF m m = List.finRange m := by unfold uptoF; rw [List.take_of_length_le (by simp)]
set_option maxHeartbeats 1000000 in
/-- slices.Chunk(s, 2): both are boxed. -/
theorem chunk_in (F : Fence) (n : Nat) (hf : F.fn 69) (hro : F.round = none) (A : Option Addr) (N cap : Nat) (w : World) :
    CallsIn F n Tryz.prog 69 #[.slice A N cap, .int .i64 2] w fun e w' => e = .returned (.func (.func 87) #[] #[.pointer (some ⟨w.heap.size, 0, none⟩), .pointer (some ⟨w.heap.size + 1, 0, none⟩)]) ∧
      w' = (w.alloc (.cells #[.slice A N cap] 30)).alloc (.cells #[.int .i64 2] 3) := by
  refine callsIn_of_wp Tryz.func69 rfl hf ?_ hro
  simp only [Tryz.ntmps69, List.size_toArray, List.length_cons, List.length_nil, Nat.reduceAdd, Nat.reduceSub, Array.replicate_succ, Array.replicate_zero, List.push_toArray, List.append_toArray, List.nil_append, List.cons_append]
  gi_wp2
  go_ret
  exact ⟨rfl, rfl⟩
theorem chunk_stops (F : Fence) (n : Nat) (hf : F.fn 87) (hro : F.round = none) (hn : 1 ≤ n) (b0 b1 b m N cap : Nat) (hN : N = 2 * m) (hcap : N ≤ cap) (hcm : cap ≤ maxLen) (w : World)
    (h0 : w.heap[b0]? = some (.cells #[.slice (some ⟨b, 0, none⟩) N cap] 30 (0, 0))) (h1 : w.heap[b1]? = some (.cells #[.int .i64 2] 3 (0, 0))) :
    SeqStopsK F n Tryz.prog 87 #[.pointer (some ⟨b0, 0, none⟩), .pointer (some ⟨b1, 0, none⟩)] (fun x : Fin m => chEnc b x) (KpC b0 b1) (fun ys => ys = List.finRange m) (fun pre => ∃ k, k ≤ m ∧ pre = uptoF m k) m w := fun l J Jx W hW hJ _ hY hJ0 => by
  have l0 : b0 < w.heap.size := (Array.getElem?_eq_some_iff.1 h0).1
  have l1 : b1 < w.heap.size := (Array.getElem?_eq_some_iff.1 h1).1
  refine (chunk1_in F n hf hro hn l b0 b1 b m N cap hN hcap hcm J Jx (fun pre W1 hs => hJ pre W1 W1.drew none hs ⟨rfl, rfl, rfl, Nat.le_refl _, fun _ _ _ => rfl⟩ (fun r e => by cases e)) hY W ((hW.block _ l0).trans h0) ((hW.block _ l1).trans h1) hJ0).mono ?_
  rintro e W' ⟨he, ⟨ys, rfl, hj⟩ | ⟨pre, hp, hj⟩⟩
  · exact ⟨he, .inl ⟨_, uptoF_all m, hj⟩⟩
  · exact ⟨he, .inr ⟨pre, hp, hj⟩⟩
end Go.Proofs.YtojenpjafgfpaaaGreatDoor
/- append(b, c) at bytes, inside a fence. No condition. -/
namespace Go.Proofs.YtojenpjafgfpaaaGreatDoor
open Go Go.RowKit

theorem apbIn1 {F : Fence} {nF : Nat} {ops : Array Oper} {rest : List Oper} {o : Oper} {a : Act} {Q : Exit → Act → World → Prop} (hgd : o.guard = none) (s x : Operand) (ho : o.op = .call { callee := .builtin .append, args := #[s, x], argTypes := #[30, 30] })
    (w wx : World) (B : Nat) (A : Option Addr) (n c : Nat) (xs : List UInt8) (hs : a.eval s = .slice A n c) (hown : OwnB w B A n c xs) (hB : B ≤ w.heap.size) (v : Value) (y : UInt8) (hv : v = .int .u8 (y.toNat : Int)) (hwx : wx = w.alloc (.cells #[v] 5)) (hx : a.eval x = .slice (some ⟨w.heap.size, 0, none⟩) 1 1) (hlim : n ≤ 34359738368)
    (h : ∀ A' c' w', OwnB w' B A' (n + 1) c' (xs ++ [y]) → wx.grownBy w' (A.map (·.block)) → wpListIn F nF Tryz.prog ops Q rest (a.put o.dst (.slice A' (n + 1) c')) w') : wpListIn F nF Tryz.prog ops Q (o :: rest) a wx := by
  subst hwx hv
  refine wpListIn_plain hgd fun K hK => ?_
  obtain ⟨A', c', w', hrun, h2, h3, _⟩ := run_append_rd elemBytes o.type (w.alloc (.cells #[.int .u8 (y.toNat : Int)] 5)) B (.slice A n c) n (bvs xs) (World.ownsRow.alloc hown _) (fun b => b = w.heap.size) (some ⟨w.heap.size, 0, none⟩) 1 1 (bvs [y]) rfl (Rd.new w _ _) (bvs_one _) (by omega) (by rw [World.size_alloc]; omega)
  unfold Oper.wpIn
  refine ⟨by simp [Oper.about, ho, resolve, Target.leads, Sem.run_pure], ?_⟩
  rw [Oper.semAt_plain F _ _ (by rw [ho]; intro c hc'; cases hc')]
  simp [execOp, ho, resolve, invoke, builtin, hs, hx, hrun, Result.andThen]
  rw [ownBlock_slice] at h3
  exact hK _ _ (h A' c' w' (by unfold OwnB; rw [bvs_append]; exact h2) h3)
end Go.Proofs.YtojenpjafgfpaaaGreatDoor
/- The layer desk: line: its state. -/
namespace Go.Proofs.YtojenpjafgfpaaaGreatDoor
open Go Go.RowKit Go.Shelf
attribute [local go_sem] Oper.semAt_some

theorem digI_eq (c : UInt8) : Lib.indexByte [48, 49, 50, 51, 52, 53, 54, 55, 56, 57, 97, 98, 99, 100, 101, 102] c = digI c := by
  have h : ∀ n : Fin 256, Lib.indexByte [48, 49, 50, 51, 52, 53, 54, 55, 56, 57, 97, 98, 99, 100, 101, 102] (UInt8.ofNat n.val) = digI (UInt8.ofNat n.val) := by decide +kernel
  have := h ⟨c.toNat, c.toNat_lt⟩
  simpa using this
theorem dig_any (c : UInt8) (w : World) : Calls Tryz.prog 70 #[.string ⟨#[48, 49, 50, 51, 52, 53, 54, 55, 56, 57, 97, 98, 99, 100, 101, 102]⟩, .int .u8 (c.toNat : Int)] w fun e w' => e = .returned (.int .i64 (digI c)) ∧ w = w' :=
  (Tryz.strings_IndexByte ⟨#[48, 49, 50, 51, 52, 53, 54, 55, 56, 57, 97, 98, 99, 100, 101, 102]⟩ (c.toNat : Int) w).mono fun e w' ⟨he, hw⟩ => ⟨by
    rw [he, ← digI_eq]
    simp, hw.symm⟩

def LnPost (l : List UInt8) (w : World) (e : Ending) (w' : World) : Prop :=
  ∃ cs, e = .returned (.tuple #[.agg cs, .int .i64 (okc (lineOf l).isSome 240)]) ∧ Below w.heap.size w w' ∧ tEE.rep (fun b => w.heap.size ≤ b) w' cs.toList ((lineOf l).getD EE.zero)

theorem results_rowcell {P : Program} {fn : Func} {p q : Tmp} {ty ty2 : TypeId} (h : fn.results = #[.cell p ty, .cell q ty2]) (tmps : Array Value) (w : World) (g g2 : Nat) (t : TypeId) (cs : Array Value) (fr : Nat × Nat) (d : TypeDesc) (v : Value)
    (hp : tmps.getD p undef = .pointer (some ⟨g, 0, none⟩)) (hq : tmps.getD q undef = .pointer (some ⟨g2, 0, none⟩)) (hg : w.heap[g]? = some (.cells cs t fr))
    (hu : P.underlying ty = some d) (hd : (match d with | .struct _ | .array _ _ => true | _ => false) = true) (hi : (P.info? ty).map (·.size) = some cs.size) (hv : (loadVar ty2 ⟨g2, 0, none⟩).run P w = .ok v w) :
    (results fn tmps).run P w = .ok (.tuple #[.agg cs, v]) w := by
  have hp' : tmps[p]?.getD undef = .pointer (some ⟨g, 0, none⟩) := by simpa using hp
  have hq' : tmps[q]?.getD undef = .pointer (some ⟨g2, 0, none⟩) := by simpa using hq
  simp [results, h, hp', hq', asAddr, run_loadVar_row w g t ty cs fr d hg hu hd hi, hv]

/-- What lies beside the loop: the results' cells, the box of the bytes that were read, the line's own bytes. -/
structure LnSt (w : World) (B0 : Nat) (l : List UInt8) (cp : Nat) (en : Int) (W : World) : Prop where
  src : Bs (fun b => b = w.heap.size + 3) W (some ⟨w.heap.size + 1 + 1 + 1, 0, none⟩) l.length cp l
  ev : W.heap[w.heap.size]? = some (.cells #[.int .i64 0, .int .i64 0, .int .i64 0, .int .i64 0, .slice none 0 0, .slice none 0 0, .int .i64 0, .slice none 0 0, .slice none 0 0, .slice none 0 0] 29 (0, 0))
  er : W.heap[w.heap.size + 1]? = some (.cells #[.int .i64 en] 33 (0, 0))
  below : Below w.heap.size w W
  size : B0 ≤ W.heap.size
  base : w.heap.size + 6 = B0
theorem LnSt.grow {w : World} {B0 : Nat} {l : List UInt8} {cp : Nat} {en : Int} {W W2 : World} (h : LnSt w B0 l cp en W) {row : Option Nat} (hg : W.grownBy W2 row) (hr : ∀ k, row = some k → k = w.heap.size + 2 ∨ B0 ≤ k) : LnSt w B0 l cp en W2 := by
  have h1 := h.size; have h2 := h.base
  exact ⟨h.src.grown hg (fun k hk e => by have := hr k hk; omega), (hg.block _ (by omega) (fun e => by have := hr _ e.symm; omega)).trans h.ev, (hg.block _ (by omega) (fun e => by have := hr _ e.symm; omega)).trans h.er, h.below.grown hg h.below.size (fun k e => by have := hr k e; omega), Nat.le_trans h1 hg.size, h2⟩
theorem LnSt.setEv {w : World} {B0 : Nat} {l : List UInt8} {cp : Nat} {en : Int} {W : World} (h : LnSt w B0 l cp en W) {j : Nat} {u : Value} (hc : (#[.int .i64 0, .int .i64 0, .int .i64 0, .int .i64 0, .slice none 0 0, .slice none 0 0, .int .i64 0, .slice none 0 0, .slice none 0 0, .slice none 0 0] : Array Value).setIfInBounds j u = #[.int .i64 0, .int .i64 0, .int .i64 0, .int .i64 0, .slice none 0 0, .slice none 0 0, .int .i64 0, .slice none 0 0, .slice none 0 0, .slice none 0 0]) : LnSt w B0 l cp en (W.setCell ⟨w.heap.size, j, none⟩ u) := by
  have h2 := h.base
  exact ⟨slsetc h.src (by omega) _, heap_set h.ev hc, heap_setne h.er (by omega), bsetc h.below (by omega) _, by simpa using h.size, h2⟩
theorem LnSt.setEr {w : World} {B0 : Nat} {l : List UInt8} {cp : Nat} {en en2 : Int} {W : World} (h : LnSt w B0 l cp en W) : LnSt w B0 l cp en2 (W.setCell ⟨w.heap.size + 1, 0, none⟩ (.int .i64 en2)) := by
  have h2 := h.base
  exact ⟨slsetc h.src (by omega) _, heap_setne h.ev (by omega), heap_set h.er rfl, bsetc h.below (by omega) _, by simpa using h.size, h2⟩
theorem LnSt.drew {w : World} {B0 : Nat} {l : List UInt8} {cp : Nat} {en : Int} {W : World} (h : LnSt w B0 l cp en W) : LnSt w B0 l cp en W.drew := ⟨h.src.drew, h.ev, h.er, h.below.drew, h.size, h.base⟩
theorem LnSt.fail {w : World} {B0 : Nat} {l : List UInt8} {cp : Nat} {en : Int} {W : World} (h : LnSt w B0 l cp en W) : LnSt w B0 l cp 240 (((((((((((W.setCell ⟨w.heap.size, 0, none⟩ (.int .i64 0)).setCell ⟨w.heap.size, 1, none⟩ (.int .i64 0)).setCell ⟨w.heap.size, 2, none⟩ (.int .i64 0)).setCell ⟨w.heap.size, 3, none⟩ (.int .i64 0)).setCell ⟨w.heap.size, 4, none⟩ (.slice none 0 0)).setCell ⟨w.heap.size, 5, none⟩ (.slice none 0 0)).setCell ⟨w.heap.size, 6, none⟩ (.int .i64 0)).setCell ⟨w.heap.size, 7, none⟩ (.slice none 0 0)).setCell ⟨w.heap.size, 8, none⟩ (.slice none 0 0)).setCell ⟨w.heap.size, 9, none⟩ (.slice none 0 0)).setCell ⟨w.heap.size + 1, 0, none⟩ (.int .i64 240)).drew :=
  (((((((((((h.setEv (j := 0) (u := .int .i64 0) rfl).setEv (j := 1) (u := .int .i64 0) rfl).setEv (j := 2) (u := .int .i64 0) rfl).setEv (j := 3) (u := .int .i64 0) rfl).setEv (j := 4) (u := .slice none 0 0) rfl).setEv (j := 5) (u := .slice none 0 0) rfl).setEv (j := 6) (u := .int .i64 0) rfl).setEv (j := 7) (u := .slice none 0 0) rfl).setEv (j := 8) (u := .slice none 0 0) rfl).setEv (j := 9) (u := .slice none 0 0) rfl).setEr).drew
/-- The bytes that have been read, in the box of block w.heap.size + 2. -/
def LnB (w : World) (B0 : Nat) (L : List UInt8) (W : World) : Prop := ∃ A n c, W.heap[w.heap.size + 2]? = some (.cells #[.slice A n c] 30 (0, 0)) ∧ OwnB W B0 A n c L
theorem own_cells {w : World} {B : Nat} {A : Option Addr} {n c : Nat} {l : List UInt8} (h : OwnB w B A n c l) {b : Nat} (hb : A.map (·.block) = some b) : ∃ cur e fr, w.heap[b]? = some (.cells cur e fr) ∧ B ≤ b := by
  rcases h.2 with ⟨h1, _⟩ | ⟨g, cap, cur, h1, hB, hg, _⟩
  · injection h1 with h1; subst h1; cases hb
  · injection h1 with h1; subst h1; injection hb with hb; subst hb; exact ⟨cur, _, _, hg, hB⟩
theorem LnB.grow {w : World} {B0 : Nat} {L : List UInt8} {W W2 : World} (h : LnB w B0 L W) (hB : w.heap.size + 6 = B0) (hs : B0 ≤ W.heap.size) {row : Option Nat} (hg : W.grownBy W2 row) (hr : ∀ k, row = some k → B0 ≤ k ∧ ∃ o : Obj, W.heap[k]? = some o ∧ o.isCells = false) : LnB w B0 L W2 := by
  obtain ⟨A, n, c, h1, h2⟩ := h
  refine ⟨A, n, c, (hg.block _ (by omega) (fun e => by have := (hr _ e.symm).1; omega)).trans h1, own_keep h2 fun b hb => ?_⟩
  obtain ⟨cur, e, fr, h3, _⟩ := own_cells h2 (b := b) (by rw [← ownBlock_slice A n c]; exact hb)
  refine hg.block b (by rcases Nat.lt_or_ge b W.heap.size with h | h; exact h; rw [Array.getElem?_eq_none h] at h3; cases h3) fun e2 => ?_
  obtain ⟨_, o, ho, hc⟩ := hr b e2.symm
  rw [h3] at ho; injection ho with ho; subst ho; cases hc
def decs {m : Nat} (l : List UInt8) (pre : List (Fin m)) : List UInt8 := pre.map fun x => decAt l x.val
/-- The invariant between two rounds. -/
def LnI (w : World) (B0 : Nat) (l : List UInt8) (cp m : Nat) (pre : List (Fin m)) (W : World) : Prop := LnSt w B0 l cp 0 W ∧ LnB w B0 (decs l pre) W ∧ ∀ x ∈ pre, okAt l x.val
def LnX (w : World) (B0 : Nat) (l : List UInt8) (cp m : Nat) (c : Code) (_ : List (Fin m)) (W : World) : Prop := c = .ret ∧ LnSt w B0 l cp 240 W ∧ ∃ k, k < m ∧ ¬ okAt l k
theorem LnI.own (w : World) (B0 : Nat) (l : List UInt8) (cp m : Nat) (hB : w.heap.size + 6 = B0) : OwnFrom B0 (LnI w B0 l cp m) := fun _ _ _ _ hs hg hr =>
  ⟨hs.1.grow hg fun k e => .inr (hr k e).1, hs.2.1.grow hB hs.1.size hg hr, hs.2.2⟩
theorem LnX.own (w : World) (B0 : Nat) (l : List UInt8) (cp m : Nat) (c : Code) : OwnFrom B0 (LnX w B0 l cp m c) := fun _ _ _ _ hs hg hr =>
  ⟨hs.1, hs.2.1.grow hg fun k e => .inr (hr k e).1, hs.2.2⟩

theorem keeps_fail {W : World} {g g2 : Nat} : KeepsOthers W (((((((((((W.setCell ⟨g, 0, none⟩ (.int .i64 0)).setCell ⟨g, 1, none⟩ (.int .i64 0)).setCell ⟨g, 2, none⟩ (.int .i64 0)).setCell ⟨g, 3, none⟩ (.int .i64 0)).setCell ⟨g, 4, none⟩ (.slice none 0 0)).setCell ⟨g, 5, none⟩ (.slice none 0 0)).setCell ⟨g, 6, none⟩ (.int .i64 0)).setCell ⟨g, 7, none⟩ (.slice none 0 0)).setCell ⟨g, 8, none⟩ (.slice none 0 0)).setCell ⟨g, 9, none⟩ (.slice none 0 0)).setCell ⟨g2, 0, none⟩ (.int .i64 240)).drew :=
  (((((((((((KeepsOthers.setCell W _ _).trans (KeepsOthers.setCell _ _ _)).trans (KeepsOthers.setCell _ _ _)).trans (KeepsOthers.setCell _ _ _)).trans (KeepsOthers.setCell _ _ _)).trans (KeepsOthers.setCell _ _ _)).trans (KeepsOthers.setCell _ _ _)).trans (KeepsOthers.setCell _ _ _)).trans (KeepsOthers.setCell _ _ _)).trans (KeepsOthers.setCell _ _ _)).trans (KeepsOthers.setCell _ _ _)).trans (KeepsOthers.drew _)
/-- Behind the stores into the results' cells, and the mark's taking. -/
theorem ln_end {w W : World} {g g2 B : Nat} {cs : Array Value} {t t2 : TypeId} {u u0 u1 u2 u3 u4 u5 u6 u7 u8 u9 v : Value} {F : Nat → Prop} {c10 : List Value} {x : EE} (hcs : cs = #[u0, u1, u2, u3, u4, u5, u6, u7, u8, u9]) {c0 c1 c2 c3 c4 c5 c6 c7 c8 c9 : Value}
    (h : W.heap[g]? = some (.cells #[c0, c1, c2, c3, c4, c5, c6, c7, c8, c9] t (0, 0))) (h2 : W.heap[g2]? = some (.cells #[v] t2 (0, 0))) (hne : g ≠ g2) (hb : Below B w W) (hg : B ≤ g) (hg2 : B ≤ g2) (hr : tEE.rep F W c10 x) (hF : ¬ F g) (hF2 : ¬ F g2) :
    (((((((((((W.setCell ⟨g, 0, none⟩ u0).setCell ⟨g, 1, none⟩ u1).setCell ⟨g, 2, none⟩ u2).setCell ⟨g, 3, none⟩ u3).setCell ⟨g, 4, none⟩ u4).setCell ⟨g, 5, none⟩ u5).setCell ⟨g, 6, none⟩ u6).setCell ⟨g, 7, none⟩ u7).setCell ⟨g, 8, none⟩ u8).setCell ⟨g, 9, none⟩ u9).setCell ⟨g2, 0, none⟩ u).heap[g]? = some (.cells cs t (0, 0)) ∧ (((((((((((W.setCell ⟨g, 0, none⟩ u0).setCell ⟨g, 1, none⟩ u1).setCell ⟨g, 2, none⟩ u2).setCell ⟨g, 3, none⟩ u3).setCell ⟨g, 4, none⟩ u4).setCell ⟨g, 5, none⟩ u5).setCell ⟨g, 6, none⟩ u6).setCell ⟨g, 7, none⟩ u7).setCell ⟨g, 8, none⟩ u8).setCell ⟨g, 9, none⟩ u9).setCell ⟨g2, 0, none⟩ u).heap[g2]? = some (.cells #[u] t2 (0, 0)) ∧ Below B w (((((((((((W.setCell ⟨g, 0, none⟩ u0).setCell ⟨g, 1, none⟩ u1).setCell ⟨g, 2, none⟩ u2).setCell ⟨g, 3, none⟩ u3).setCell ⟨g, 4, none⟩ u4).setCell ⟨g, 5, none⟩ u5).setCell ⟨g, 6, none⟩ u6).setCell ⟨g, 7, none⟩ u7).setCell ⟨g, 8, none⟩ u8).setCell ⟨g, 9, none⟩ u9).setCell ⟨g2, 0, none⟩ u) ∧ tEE.rep F (((((((((((W.setCell ⟨g, 0, none⟩ u0).setCell ⟨g, 1, none⟩ u1).setCell ⟨g, 2, none⟩ u2).setCell ⟨g, 3, none⟩ u3).setCell ⟨g, 4, none⟩ u4).setCell ⟨g, 5, none⟩ u5).setCell ⟨g, 6, none⟩ u6).setCell ⟨g, 7, none⟩ u7).setCell ⟨g, 8, none⟩ u8).setCell ⟨g, 9, none⟩ u9).setCell ⟨g2, 0, none⟩ u) c10 x ∧ (∀ D, D ≠ g → D ≠ g2 → (((((((((((W.setCell ⟨g, 0, none⟩ u0).setCell ⟨g, 1, none⟩ u1).setCell ⟨g, 2, none⟩ u2).setCell ⟨g, 3, none⟩ u3).setCell ⟨g, 4, none⟩ u4).setCell ⟨g, 5, none⟩ u5).setCell ⟨g, 6, none⟩ u6).setCell ⟨g, 7, none⟩ u7).setCell ⟨g, 8, none⟩ u8).setCell ⟨g, 9, none⟩ u9).setCell ⟨g2, 0, none⟩ u).heap[D]? = W.heap[D]?) := by
  subst hcs
  refine ⟨heap_setne (heap_set10 h) hne, heap_set (heap_setne (heap_setne (heap_setne (heap_setne (heap_setne (heap_setne (heap_setne (heap_setne (heap_setne (heap_setne (h2) (Ne.symm hne)) (Ne.symm hne)) (Ne.symm hne)) (Ne.symm hne)) (Ne.symm hne)) (Ne.symm hne)) (Ne.symm hne)) (Ne.symm hne)) (Ne.symm hne)) (Ne.symm hne)) rfl, bsetc (below_set10 hb hg) hg2 _, tEE.setCell (ty_set10 tEE hr hF) hF2 _, fun D h3 h4 => ?_⟩
  exact (Below.heap_setCell _ ⟨g2, 0, none⟩ _ D h4).trans ((Below.heap_setCell _ ⟨g, 9, none⟩ _ D h3).trans ((Below.heap_setCell _ ⟨g, 8, none⟩ _ D h3).trans ((Below.heap_setCell _ ⟨g, 7, none⟩ _ D h3).trans ((Below.heap_setCell _ ⟨g, 6, none⟩ _ D h3).trans ((Below.heap_setCell _ ⟨g, 5, none⟩ _ D h3).trans ((Below.heap_setCell _ ⟨g, 4, none⟩ _ D h3).trans ((Below.heap_setCell _ ⟨g, 3, none⟩ _ D h3).trans ((Below.heap_setCell _ ⟨g, 2, none⟩ _ D h3).trans ((Below.heap_setCell _ ⟨g, 1, none⟩ _ D h3).trans ((Below.heap_setCell _ ⟨g, 0, none⟩ _ D h3)))))))))))
theorem ln_put {w Wf : World} {g g2 D B : Nat} {o X Y : Obj} {F : Nat → Prop} {c10 : List Value} {x : EE} (h1 : Wf.heap[g]? = some X) (h2 : Wf.heap[g2]? = some Y) (h3 : Below B w Wf) (h4 : tEE.rep F Wf c10 x) (hD : D ≠ g) (hD2 : D ≠ g2) (hB : B ≤ D) (hBs : B ≤ Wf.heap.size) (hF : ¬ F D) :
    (Wf.putObj D o).heap[g]? = some X ∧ (Wf.putObj D o).heap[g2]? = some Y ∧ Below B w (Wf.putObj D o) ∧ tEE.rep F (Wf.putObj D o) c10 x := by
  have hp := grownBy_putObj' Wf D o
  refine ⟨(World.putObj_heap_other (Ne.symm hD)).trans h1, (World.putObj_heap_other (Ne.symm hD2)).trans h2, h3.grown hp hBs (fun k e => by injection e with e; omega), tEE.grown h4 hp (fun k e => by injection e with e; subst e; exact hF)⟩
theorem run_errcell {w : World} {g : Nat} {v : Int} (h : w.cell? ⟨g, 0, none⟩ = some (.int .i64 v)) : (loadVar 33 ⟨g, 0, none⟩).run Tryz.prog w = .ok (.int .i64 v) w := by
  simp [go_sem, h]
end Go.Proofs.YtojenpjafgfpaaaGreatDoor
/- The layer desk: line. -/
namespace Go.Proofs.YtojenpjafgfpaaaGreatDoor
open Go Go.RowKit Go.Shelf
attribute [local go_sem] Oper.semAt_some

set_option maxRecDepth 100000 in
set_option maxHeartbeats 8000000 in
theorem line_any (s : ByteArray) (w : World) (hs : s.size ≤ 2097152) : Calls Tryz.prog 39 #[.string s] w (LnPost s.data.toList w) := by
  have hsb := fun w => run_sb w s
  have hsz : s.data.toList.length = s.size := by rw [Array.length_toList]; rfl
  obtain ⟨l, hl⟩ : ∃ l, l = s.data.toList := ⟨_, rfl⟩
  rw [← hl] at hsz ⊢
  have HL := Lib.hid hl; have HSZ := Lib.hid hsz; clear hl hsz
  by_cases hodd : s.size % 2 = 0
  · obtain ⟨m, hm⟩ : ∃ m, s.size = 2 * m := ⟨s.size / 2, by omega⟩
    have HM := Lib.hid hm; clear hm
    have hrem : (((s.size : Int) % 2) != 0) = false := by rw [bne_eq_false_iff_eq]; omega
    obtain ⟨ws, hws⟩ : ∃ ws, ws = ((w.alloc (.cells #[.int .i64 0, .int .i64 0, .int .i64 0, .int .i64 0, .slice none 0 0, .slice none 0 0, .int .i64 0, .slice none 0 0, .slice none 0 0, .slice none 0 0] 29)).alloc (.cells #[.int .i64 0] 33)).alloc (.cells #[.slice none 0 0] 30) := ⟨_, rfl⟩
    refine (callsIn_wide (n := 3)).1 ?_
    refine callsIn_of_wp_marks Tryz.func39 rfl trivial ?_ rfl
    simp only [Tryz.ntmps39, List.size_toArray, List.length_cons, List.length_nil, Nat.reduceAdd, Nat.reduceSub, Array.replicate_succ, Array.replicate_zero, List.push_toArray, List.append_toArray, List.nil_append, List.cons_append]
    have HWS := Lib.hid hws; clear hws
    gi_wp2
    refine ⟨trivial, ?_⟩
    (refine (chunk_in Fence.wide _ trivial rfl _ _ _ _).mono ?_; rintro e w' ⟨rfl, rfl⟩)
    rw [← HWS.out]
    obtain ⟨cp, hcp⟩ : ∃ cp, cp = sbCap ws s := ⟨_, rfl⟩
    have hcap := sb_cap ws s (by simp [maxLen]; omega)
    rw [← hcp] at hcap ⊢
    have hwss : ws.heap.size = w.heap.size + 3 := by rw [HWS.out]; simp
    have hwz : Below w.heap.size w ws := by rw [HWS.out]; exact (((Below.refl _ w).alloc (Nat.le_refl _) _).alloc (by simp) _).alloc (by simp; omega) _
    have hw2 : ws.heap[w.heap.size]? = some (.cells #[.int .i64 0, .int .i64 0, .int .i64 0, .int .i64 0, .slice none 0 0, .slice none 0 0, .int .i64 0, .slice none 0 0, .slice none 0 0, .slice none 0 0] 29 (0, 0)) := by rw [HWS.out]; exact heap_allocd (heap_allocd (heap_alloc_new w _) _) _
    have hw3 : ws.heap[w.heap.size + 1]? = some (.cells #[.int .i64 0] 33 (0, 0)) := by
      rw [HWS.out]
      have := heap_alloc_new (w.alloc (.cells #[.int .i64 0, .int .i64 0, .int .i64 0, .int .i64 0, .slice none 0 0, .slice none 0 0, .int .i64 0, .slice none 0 0, .slice none 0 0, .slice none 0 0] 29)) (.cells #[.int .i64 0] 33 (0, 0))
      rw [World.size_alloc] at this
      exact heap_allocd this _
    have hw4 : ws.heap[w.heap.size + 2]? = some (.cells #[.slice none 0 0] 30 (0, 0)) := by
      rw [HWS.out]
      have := heap_alloc_new ((w.alloc (.cells #[.int .i64 0, .int .i64 0, .int .i64 0, .int .i64 0, .slice none 0 0, .slice none 0 0, .int .i64 0, .slice none 0 0, .slice none 0 0, .slice none 0 0] 29)).alloc (.cells #[.int .i64 0] 33)) (.cells #[.slice none 0 0] 30 (0, 0))
      rw [World.size_alloc, World.size_alloc] at this
      exact this
    obtain ⟨W0, hW0⟩ : ∃ W0, W0 = (((ws.alloc (sbObj ws s)).alloc (.cells #[.slice (some ⟨w.heap.size + 1 + 1 + 1, 0, none⟩) s.size cp] 30)).alloc (.cells #[.int .i64 2] 3)).drew := ⟨_, rfl⟩
    have hB0 : w.heap.size + 6 = W0.heap.size := by rw [hW0]; show _ = (((ws.alloc _).alloc _).alloc _).heap.size; simp; omega
    have hbz : Below ws.heap.size ws W0 := by rw [hW0]; exact bdrewB ((((Below.refl _ ws).alloc (Nat.le_refl _) _).alloc (by simp) _).alloc (by simp; omega) _)
    have hc0 : W0.heap[w.heap.size + 1 + 1 + 1 + 1]? = some (.cells #[.slice (some ⟨w.heap.size + 1 + 1 + 1, 0, none⟩) s.size cp] 30 (0, 0)) := by
      rw [hW0]
      have := heap_alloc_new (ws.alloc (sbObj ws s)) (.cells #[.slice (some ⟨w.heap.size + 1 + 1 + 1, 0, none⟩) s.size cp] 30 (0, 0))
      rw [World.size_alloc, hwss] at this
      exact heap_allocd this _
    have hc1 : W0.heap[w.heap.size + 1 + 1 + 1 + 1 + 1]? = some (.cells #[.int .i64 2] 3 (0, 0)) := by
      rw [hW0]
      have := heap_alloc_new ((ws.alloc (sbObj ws s)).alloc (.cells #[.slice (some ⟨w.heap.size + 1 + 1 + 1, 0, none⟩) s.size cp] 30)) (.cells #[.int .i64 2] 3 (0, 0))
      rw [World.size_alloc, World.size_alloc, hwss] at this
      exact this
    have hbs : Bs (fun b => b = ws.heap.size) W0 (some ⟨w.heap.size + 1 + 1 + 1, 0, none⟩) s.size cp l := by
      rw [hW0, HL.out, hcp]
      have := sb_bs (w := ws) (w0 := ws) (s := s) (by simp [maxLen]; omega)
      rw [hwss] at this ⊢
      exact ((this.alloc _).alloc _).drew
    have h0 : LnI w W0.heap.size l cp m [] W0 := ⟨⟨by rw [HSZ.out]; exact hbs.weaken (fun b hb _ => by omega), below_heap hbz hw2, below_heap hbz hw3, hwz.trans (hbz.mono (by omega)), Nat.le_refl _, hB0⟩, ⟨none, 0, 0, below_heap hbz hw4, OwnB.nil_ _ _⟩, by simp⟩
    have HW0 := Lib.hid hW0
    clear hcp hw2 hw3 hw4 hwz hbz hW0 hsb
    gi_wp2
    rw [← HW0.out]
    refine wpIn_rangeFunc_ownG rfl (by omega) (gf := 87) (lb := #[.pointer (some ⟨w.heap.size + 1 + 1 + 1 + 1, 0, none⟩), .pointer (some ⟨w.heap.size + 1 + 1 + 1 + 1 + 1, 0, none⟩)]) rfl trivial (enters_of Tryz.func87 (by kernel_rfl) rfl)
      (chunk_stops Fence.wide _ trivial rfl (by omega) (w.heap.size + 1 + 1 + 1 + 1) (w.heap.size + 1 + 1 + 1 + 1 + 1) (w.heap.size + 1 + 1 + 1) m s.size cp HM.out hcap.1 hcap.2 W0 hc0 hc1) KpC.trans (KpC.put (by omega) (by omega)) (Below.refl _ _) (fun _ => rfl)
      (LnI w W0.heap.size l cp m) (LnX w W0.heap.size l cp m) (LnI.own w _ l cp m hB0) (LnX.own w _ l cp m) h0
      (fun x => { tmps := #[.string s, undef, .pointer (some ⟨w.heap.size, 0, none⟩), .pointer (some ⟨w.heap.size + 1, 0, none⟩), .pointer (some ⟨w.heap.size + 1 + 1, 0, none⟩), .slice (some ⟨w.heap.size + 1 + 1 + 1, 2 * x.val, none⟩) 2 2, undef, undef, .string s, .int .i64 (s.size : Int), .int .i64 ((s.size : Int) % 2), .bool false, undef, .string s,
        .slice (some ⟨w.heap.size + 1 + 1 + 1, 0, none⟩) s.size cp, .func (.func 87) #[] #[.pointer (some ⟨w.heap.size + 1 + 1 + 1 + 1, 0, none⟩), .pointer (some ⟨w.heap.size + 1 + 1 + 1 + 1 + 1, 0, none⟩)], .slice (some ⟨w.heap.size + 1 + 1 + 1, 2 * x.val, none⟩) 2 2, undef, undef, undef, undef, undef, undef, undef, undef, undef, undef, undef, undef, undef, undef, undef, undef, undef, undef, undef, undef, undef, undef, undef, undef, undef, undef, undef], defers := [] }) ?assign ?body ?done ?stop
    case assign =>
      intro l x W K hK
      dsimp only [chEnc]
      gi_wp2
      exact hK
    case body =>
      rintro l' pre x W ⟨hst, hln, hok⟩ hpl
      have hxm := x.isLt
      have hi1 : 2 * x.val < l.length := by rw [HSZ.out, HM.out]; omega
      have hi2 : 2 * x.val + 1 < l.length := by rw [HSZ.out, HM.out]; omega
      obtain ⟨b', o', e1, _, _, k1⟩ := bs_at hst.src hi1
      injection e1 with e1; injection e1 with e1 e2; subst e1 e2
      obtain ⟨b', o', e1, _, _, k2⟩ := bs_at hst.src hi2
      injection e1 with e1; injection e1 with e1 e2; subst e1 e2
      rw [Nat.zero_add] at k1 k2
      obtain ⟨x1, hx1⟩ : ∃ x1, x1 = l[2 * x.val] := ⟨_, rfl⟩
      obtain ⟨x2, hx2⟩ : ∃ x2, x2 = l[2 * x.val + 1] := ⟨_, rfl⟩
      rw [← hx1] at k1; rw [← hx2] at k2
      have hg1 : l.getD (2 * x.val) 0 = x1 := by rw [hx1, List.getD_eq_getElem?_getD, List.getElem?_eq_getElem hi1]; rfl
      have hg2 : l.getD (2 * x.val + 1) 0 = x2 := by rw [hx2, List.getD_eq_getElem?_getD, List.getElem?_eq_getElem hi2]; rfl
      have hokx : okAt l x.val ↔ (0 ≤ digI x1 ∧ 0 ≤ digI x2) := by unfold okAt; rw [hg1, hg2]
      have hdec : decAt l x.val = decB x1 x2 := by unfold decAt; rw [hg1, hg2]
      have HOK := Lib.hid hokx; have HDEC := Lib.hid hdec; have HST := Lib.hid hst; have HLN := Lib.hid hln; have HPRE := Lib.hid hok
      have hs0 := hst.size
      clear hokx hdec hg1 hg2 hx1 hx2 hst hln hok
      have hd : 1 ≤ 3 - 1 - 1 := by omega
      have hmx : Tryz.prog.follows .mixedOrders = true := by kernel_rfl
      obtain ⟨hb1, hb1'⟩ := digI_bd x1
      obtain ⟨hb2, hb2'⟩ := digI_bd x2
      obtain ⟨A6, n6, c6, hbox, hown⟩ := HLN.out
      have HBOX := Lib.hid hbox; have HOWN := Lib.hid hown
      have v0 : W.cell? ⟨w.heap.size + 1 + 1, 0, none⟩ = some (.slice A6 n6 c6) := by rw [Lib.cell_of_heap hbox]; rfl
      have vf : W.frozen? ⟨w.heap.size + 1 + 1, 0, none⟩ = false := Lib.frozen_of_heap hbox 0
      have hn6 : n6 ≤ 2097152 := by rw [hown.len]; unfold decs; rw [List.length_map]; have := HM.out; omega
      clear hbox hown
      have hhs : w.heap.size + 6 ≤ W.heap.size := by omega
      have z0 : W.cell? ⟨w.heap.size, 0, none⟩ = some (.int .i64 0) := by rw [Lib.cell_of_heap HST.out.ev]; rfl
      have z1 : W.cell? ⟨w.heap.size, 1, none⟩ = some (.int .i64 0) := by rw [Lib.cell_of_heap HST.out.ev]; rfl
      have z2 : W.cell? ⟨w.heap.size, 2, none⟩ = some (.int .i64 0) := by rw [Lib.cell_of_heap HST.out.ev]; rfl
      have z3 : W.cell? ⟨w.heap.size, 3, none⟩ = some (.int .i64 0) := by rw [Lib.cell_of_heap HST.out.ev]; rfl
      have z4 : W.cell? ⟨w.heap.size, 4, none⟩ = some (.slice none 0 0) := by rw [Lib.cell_of_heap HST.out.ev]; rfl
      have z5 : W.cell? ⟨w.heap.size, 5, none⟩ = some (.slice none 0 0) := by rw [Lib.cell_of_heap HST.out.ev]; rfl
      have z6 : W.cell? ⟨w.heap.size, 6, none⟩ = some (.int .i64 0) := by rw [Lib.cell_of_heap HST.out.ev]; rfl
      have z7 : W.cell? ⟨w.heap.size, 7, none⟩ = some (.slice none 0 0) := by rw [Lib.cell_of_heap HST.out.ev]; rfl
      have z8 : W.cell? ⟨w.heap.size, 8, none⟩ = some (.slice none 0 0) := by rw [Lib.cell_of_heap HST.out.ev]; rfl
      have z9 : W.cell? ⟨w.heap.size, 9, none⟩ = some (.slice none 0 0) := by rw [Lib.cell_of_heap HST.out.ev]; rfl
      have y0 := Lib.frozen_of_heap HST.out.ev 0
      have y1 := Lib.frozen_of_heap HST.out.ev 1
      have y2 := Lib.frozen_of_heap HST.out.ev 2
      have y3 := Lib.frozen_of_heap HST.out.ev 3
      have y4 := Lib.frozen_of_heap HST.out.ev 4
      have y5 := Lib.frozen_of_heap HST.out.ev 5
      have y6 := Lib.frozen_of_heap HST.out.ev 6
      have y7 := Lib.frozen_of_heap HST.out.ev 7
      have y8 := Lib.frozen_of_heap HST.out.ev 8
      have y9 := Lib.frozen_of_heap HST.out.ev 9
      have ec : W.cell? ⟨w.heap.size + 1, 0, none⟩ = some (.int .i64 0) := by rw [Lib.cell_of_heap HST.out.er]; rfl
      have ef := Lib.frozen_of_heap HST.out.er 0
      have hbsz := hs0
      gi_wp2
      refine Code.wpIn_mono (Q := fun e a' w' => e = .normal ∧ a' = { tmps := #[.string s, undef, .pointer (some ⟨w.heap.size, 0, none⟩), .pointer (some ⟨w.heap.size + 1, 0, none⟩), .pointer (some ⟨w.heap.size + 1 + 1, 0, none⟩), .slice (some ⟨w.heap.size + 1 + 1 + 1, 2 * x.val, none⟩) 2 2, .int .i64 (digI x1), .int .i64 (digI x2), .string s, .int .i64 (s.size : Int), .int .i64 ((s.size : Int) % 2), .bool false, undef, .string s,
        .slice (some ⟨w.heap.size + 1 + 1 + 1, 0, none⟩) s.size cp, .func (.func 87) #[] #[.pointer (some ⟨w.heap.size + 1 + 1 + 1 + 1, 0, none⟩), .pointer (some ⟨w.heap.size + 1 + 1 + 1 + 1 + 1, 0, none⟩)], .slice (some ⟨w.heap.size + 1 + 1 + 1, 2 * x.val, none⟩) 2 2, .slice (some ⟨w.heap.size + 1 + 1 + 1, 2 * x.val, none⟩) 2 2, .pointer (some ⟨w.heap.size + 1 + 1 + 1, 2 * x.val, none⟩), .int .u8 (x1.toNat : Int), .int .i64 (digI x1), .slice (some ⟨w.heap.size + 1 + 1 + 1, 2 * x.val, none⟩) 2 2, .pointer (some ⟨w.heap.size + 1 + 1 + 1, 2 * x.val + 1, none⟩), .int .u8 (x2.toNat : Int), .int .i64 (digI x2), undef, undef, undef, undef, undef, undef, undef, undef, undef, undef, undef, undef, undef, undef, undef, undef, undef, undef, undef], defers := [] } ∧ w' = W.drew) ?_ ?_
      rotate_left
      · gi_region_with_o (refine ⟨trivial, ?_⟩; gi_at_call 70; refine (CallsIn.inRound l' (callsIn_wide.2 (dig_any _ _))).mono ?_; rintro e w' ⟨rfl, rfl⟩)
        all_goals exact ⟨rfl, rfl, rfl⟩
      rintro e a' w' ⟨rfl, rfl, rfl⟩
      by_cases h1 : 0 ≤ digI x1
      · by_cases h2 : 0 ≤ digI x2
        · have l1 : ¬ digI x1 < 0 := by omega
          have l2 : ¬ digI x2 < 0 := by omega
          have HDB := Lib.hid (or16I x1 x2 h1 h2)
          have HY := Lib.hid (show okAt l x.val from HOK.out.2 ⟨h1, h2⟩)
          gi_wp2_with (first
            | (gi_at_builtin; refine apbIn1 rfl (.tmp 32) (.tmp 38) rfl W.drew _ W0.heap.size A6 n6 c6 (decs l pre) rfl (own_keep HOWN.out (fun _ _ => rfl)) hs0 (.int .u8 (bits BinOp.or IntKind.i64 (digI x1 * 16) (digI x2) % 256)) (decB x1 x2) (by rw [← HDB.out, IntKind.wrap_u8]) rfl rfl (by omega) ?_; intro A7 c7 w7 hown7 hg7; have HO7 := Lib.hid hown7; have HG7 : Hid (W.grownBy w7 (A6.map (·.block))) := Lib.hid (grown_trans (grown_alloc (grown_drew (grown_of_below (Below.refl _ W))) _) hg7); have v7 : w7.cell? ⟨w.heap.size + 1 + 1, 0, none⟩ = some (.slice A6 n6 c6) := HG7.out.cell v0 (fun e => by obtain ⟨_, _, _, _, h8⟩ := own_cells HOWN.out e.symm; have h9 : W0.heap.size ≤ w.heap.size + 1 + 1 := h8; omega); have vf7 : w7.frozen? ⟨w.heap.size + 1 + 1, 0, none⟩ = false := Lib.frozen_of_heap (HG7.out.block (w.heap.size + 2) (by omega) (fun e => by obtain ⟨_, _, _, _, h8⟩ := own_cells HOWN.out e.symm; omega) |>.trans HBOX.out) 0; clear hown7 hg7)
            | fail)
          have hA6 : ∀ k, A6.map (·.block) = some k → W0.heap.size ≤ k := fun k e => by obtain ⟨_, _, _, _, h8⟩ := own_cells HOWN.out e; exact h8
          have hsz7 := HG7.out.size
          refine ⟨((KeepsOthers.of_grownBy HG7.out fun j o hj ho => by obtain ⟨cur, e1, fr, h8, _⟩ := own_cells HOWN.out hj; rw [h8] at ho; injection ho with ho; subst ho; rfl).trans (KeepsOthers.setCell _ _ _)).from _, ?_, ?_, ?_, ?_⟩
          · exact (KpC.grown HG7.out (by omega) (by omega) (fun k e => by have := hA6 k e; omega)).trans ⟨Below.heap_setCell _ _ _ _ (by simp; omega), Below.heap_setCell _ _ _ _ (by simp; omega)⟩
          · exact (HST.out.grow HG7.out (fun k e => .inr (hA6 k e))).grow (grown_set (grown_of_below (Below.refl _ w7)) 0 _) (fun k e => .inl (Option.some.inj e).symm)
          · refine ⟨A7, n6 + 1, c7, heap_set ((HG7.out.block (w.heap.size + 2) (by omega) (fun e => by have := hA6 _ e.symm; omega)).trans HBOX.out) rfl, own_keep ?_ (fun b hb => Below.heap_setCell _ _ _ _ ?_)⟩
            · have h8 := HO7.out
              rw [← HDEC.out] at h8
              rw [show decs l (pre ++ [x]) = decs l pre ++ [decAt l x.val] by simp [decs]]
              exact h8
            · have h8 := (HO7.out.lt b hb).1
              simp
              omega
          · intro y hy
            rcases List.mem_append.1 hy with hy | hy
            · exact HPRE.out y hy
            · rw [List.mem_singleton.1 hy]; exact HY.out
        · have l1 : ¬ digI x1 < 0 := by omega
          have l2 : digI x2 < 0 := by omega
          have hno : ¬ okAt l x.val := fun hh => by have := HOK.out.1 hh; omega
          have HNO := Lib.hid hno; clear hno
          gi_wp2
          refine ⟨?_, rfl, ?_, x.val, hxm, HNO.out⟩
          · exact keeps_fail.from _
          · exact LnSt.fail HST.out
      · have l1 : digI x1 < 0 := by omega
        have hno : ¬ okAt l x.val := fun hh => by have := HOK.out.1 hh; omega
        have HNO := Lib.hid hno; clear hno
        gi_wp2
        refine ⟨?_, rfl, ?_, x.val, hxm, HNO.out⟩
        · exact keeps_fail.from _
        · exact LnSt.fail HST.out
    case done =>
      rintro D xs W hD rfl ⟨hst, ⟨A6, n6, c6, hbox, hown⟩, hok⟩ hK
      have hlen : l.length = 2 * m := by rw [HSZ.out, HM.out]
      have hun : lineOf l = takeEvent (decs l (List.finRange m)) := by
        unfold lineOf
        rw [unhex_ok m l hlen (fun k hk => hok ⟨k, hk⟩ (List.mem_finRange _))]
        show takeEvent _ = takeEvent _
        congr 1
        unfold decs
        apply List.ext_getElem
        · simp
        · intro i h1 h2; simp
      have HUN := Lib.hid hun; clear hun hlen
      obtain ⟨LL, hLL⟩ : ∃ LL, LL = decs l (List.finRange m) := ⟨_, rfl⟩
      rw [← hLL] at hown
      have HLL := Lib.hid hLL; clear hLL
      have v0 : W.cell? ⟨w.heap.size + 1 + 1, 0, none⟩ = some (.slice A6 n6 c6) := by rw [Lib.cell_of_heap hbox]; rfl
      have hn6 : n6 ≤ 2097152 := by rw [hown.len, HLL.out]; unfold decs; rw [List.length_map, List.length_finRange]; have := HM.out; omega
      have HO := Lib.hid hown; have HST := Lib.hid hst; have HKD := Lib.hid hK
      have hDlt : D < W.heap.size := (Array.getElem?_eq_some_iff.1 hK).1
      clear hown hst hok hK hbox
      gi_wp2_with (refine ⟨trivial, ?_⟩; gi_at_call 7; refine (callsIn_wide.2 (takeEvent_any _ A6 n6 c6 LL W HO.out.bs hn6)).mono ?_; rintro e w5 ⟨cs, rfl, hb5, hrep⟩; have hrep2 := hrep; obtain ⟨Z0, y0, u0, Z1, y1, u1, Z2, y2, u2, Z3, y3, u3, Z4, y4, u4, hcs, _⟩ := hrep2; obtain ⟨k0, k1, k2, k3, k4, hcs2⟩ : ∃ k0 k1 k2 k3 k4, cs = #[.int .i64 k0, .int .i64 k1, .int .i64 k2, .int .i64 k3, .slice Z0 y0 u0, .slice Z1 y1 u1, .int .i64 k4, .slice Z2 y2 u2, .slice Z3 y3 u3, .slice Z4 y4 u4] := ⟨_, _, _, _, _, Array.toList_inj.1 hcs⟩; clear hcs; subst hcs2; have HREP := Lib.hid hrep; have HB5 := Lib.hid hb5; have H5 := Lib.hid (HST.out.grow (row := none) (grown_of_below hb5) (fun k e => by cases e)); clear hrep hb5; have z0 : w5.cell? ⟨w.heap.size, 0, none⟩ = some (.int .i64 0) := (by rw [Lib.cell_of_heap H5.out.ev]; rfl); have z1 : w5.cell? ⟨w.heap.size, 1, none⟩ = some (.int .i64 0) := (by rw [Lib.cell_of_heap H5.out.ev]; rfl); have z2 : w5.cell? ⟨w.heap.size, 2, none⟩ = some (.int .i64 0) := (by rw [Lib.cell_of_heap H5.out.ev]; rfl); have z3 : w5.cell? ⟨w.heap.size, 3, none⟩ = some (.int .i64 0) := (by rw [Lib.cell_of_heap H5.out.ev]; rfl); have z4 : w5.cell? ⟨w.heap.size, 4, none⟩ = some (.slice none 0 0) := (by rw [Lib.cell_of_heap H5.out.ev]; rfl); have z5 : w5.cell? ⟨w.heap.size, 5, none⟩ = some (.slice none 0 0) := (by rw [Lib.cell_of_heap H5.out.ev]; rfl); have z6 : w5.cell? ⟨w.heap.size, 6, none⟩ = some (.int .i64 0) := (by rw [Lib.cell_of_heap H5.out.ev]; rfl); have z7 : w5.cell? ⟨w.heap.size, 7, none⟩ = some (.slice none 0 0) := (by rw [Lib.cell_of_heap H5.out.ev]; rfl); have z8 : w5.cell? ⟨w.heap.size, 8, none⟩ = some (.slice none 0 0) := (by rw [Lib.cell_of_heap H5.out.ev]; rfl); have z9 : w5.cell? ⟨w.heap.size, 9, none⟩ = some (.slice none 0 0) := (by rw [Lib.cell_of_heap H5.out.ev]; rfl); have yy0 := Lib.frozen_of_heap H5.out.ev 0; have yy1 := Lib.frozen_of_heap H5.out.ev 1; have yy2 := Lib.frozen_of_heap H5.out.ev 2; have yy3 := Lib.frozen_of_heap H5.out.ev 3; have yy4 := Lib.frozen_of_heap H5.out.ev 4; have yy5 := Lib.frozen_of_heap H5.out.ev 5; have yy6 := Lib.frozen_of_heap H5.out.ev 6; have yy7 := Lib.frozen_of_heap H5.out.ev 7; have yy8 := Lib.frozen_of_heap H5.out.ev 8; have yy9 := Lib.frozen_of_heap H5.out.ev 9; have ec : w5.cell? ⟨w.heap.size + 1, 0, none⟩ = some (.int .i64 0) := (by rw [Lib.cell_of_heap H5.out.er]; rfl); have ef := Lib.frozen_of_heap H5.out.er 0)
      have hbase := H5.out.base
      obtain ⟨r1, r2, r3, r4, r5⟩ := ln_end (t2 := 33) (u := .int .i64 (okc (takeEvent LL).isSome 240)) (hcs := (rfl : (#[.int .i64 k0, .int .i64 k1, .int .i64 k2, .int .i64 k3, .slice Z0 y0 u0, .slice Z1 y1 u1, .int .i64 k4, .slice Z2 y2 u2, .slice Z3 y3 u3, .slice Z4 y4 u4] : Array Value) = #[.int .i64 k0, .int .i64 k1, .int .i64 k2, .int .i64 k3, .slice Z0 y0 u0, .slice Z1 y1 u1, .int .i64 k4, .slice Z2 y2 u2, .slice Z3 y3 u3, .slice Z4 y4 u4])) H5.out.ev H5.out.er (by omega) H5.out.below (Nat.le_refl _) (by omega) HREP.out (by omega) (by omega)
      have hKD := (r5 D (by omega) (by omega)).trans ((HB5.out.block D hDlt).trans HKD.out)
      refine ⟨by simp, .inl ⟨_, _, rfl, run_takeDeferred hKD, ?_⟩⟩
      obtain ⟨p1, p2, p3, p4⟩ := ln_put (D := D) (o := .deferred none) r1 r2 r3 r4 (by omega) (by omega) (by omega) (by have := r3.size; omega) (by omega)
      refine ⟨_, results_rowcell rfl _ _ w.heap.size (w.heap.size + 1) _ _ (0, 0) _ _ rfl rfl p1 Tryz.underlying29 rfl (by kernel_rfl) (run_errcell (by rw [Lib.cell_of_heap p2]; rfl)), ?_⟩
      unfold LnPost
      rw [HUN.out, ← HLL.out]
      exact ⟨_, rfl, p3, tEE.weaken p4 fun b hb _ => by omega⟩
    case stop =>
      rintro D c pre W hD ⟨k, hk, hpre⟩ ⟨rfl, hst, kk, hkk, hbad⟩ hK
      have hun : lineOf l = none := by
        unfold lineOf
        rw [unhex_bad kk l (by rw [HSZ.out, HM.out]; omega) hbad]; rfl
      have HUN := Lib.hid hun; clear hun hbad
      gi_wp2
      refine ⟨by simp, .inl ⟨_, _, rfl, run_takeDeferred hK, ?_⟩⟩
      have hbase := hst.base
      have hDlt : D < W.heap.size := (Array.getElem?_eq_some_iff.1 hK).1
      have hp := grownBy_putObj' W D (.deferred none)
      have hst2 := hst.grow hp (fun k e => .inr (by injection e with e; omega))
      refine ⟨_, results_rowcell rfl _ _ w.heap.size (w.heap.size + 1) _ _ (0, 0) _ _ rfl rfl hst2.ev Tryz.underlying29 rfl (by kernel_rfl) (run_errcell (by rw [Lib.cell_of_heap hst2.er]; rfl)), ?_⟩
      unfold LnPost
      rw [HUN.out]
      exact ⟨_, rfl, hst2.below, rep_zero _ _⟩
  · have hun : lineOf l = none := by
      unfold lineOf
      rw [unhex_odd (l.length / 2) l (by rw [HSZ.out]; omega)]; rfl
    have HUN := Lib.hid hun; clear hun
    have hrem : (((s.size : Int) % 2) != 0) = true := by rw [bne_iff_ne]; omega
    refine (callsIn_wide (n := 3)).1 ?_
    refine callsIn_of_wp_marks Tryz.func39 rfl trivial ?_ rfl
    simp only [Tryz.ntmps39, List.size_toArray, List.length_cons, List.length_nil, Nat.reduceAdd, Nat.reduceSub, Array.replicate_succ, Array.replicate_zero, List.push_toArray, List.append_toArray, List.nil_append, List.cons_append]
    gi_wp2
    have h3 := heap_alloc_new (w.alloc (.cells #[.int .i64 0, .int .i64 0, .int .i64 0, .int .i64 0, .slice none 0 0, .slice none 0 0, .int .i64 0, .slice none 0 0, .slice none 0 0, .slice none 0 0] 29)) (.cells #[.int .i64 240] 33 (0, 0))
    rw [World.size_alloc] at h3
    refine ⟨_, results_rowcell rfl _ _ w.heap.size (w.heap.size + 1) _ _ (0, 0) _ _ rfl rfl (heap_allocd (heap_alloc_new w _) _) Tryz.underlying29 rfl (by kernel_rfl) (run_errcell (by rw [Lib.cell_of_heap h3]; rfl)), ?_⟩
    unfold LnPost
    rw [HUN.out]
    exact ⟨_, rfl, ((Below.refl _ w).alloc (Nat.le_refl _) _).alloc (by simp) _, rep_zero _ _⟩
end Go.Proofs.YtojenpjafgfpaaaGreatDoor
