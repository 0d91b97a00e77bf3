/- slices.IndexFunc, ContainsFunc of texts by the closure of texts.Put, where none is long. slices.Values of texts: the iterator, inside a fence. slices.AppendSeq of texts, at slices.Values of texts. texts.Words: slices.Values, Collect, Sort, Compact of texts. -/
import Derived.Test.YticfmphbhdkhoaaGreatDoorPk24
import Derived.RangeFuncWrites
import Derived.Sort.OwnSorted
import Derived.Test.YticfmphbhdkhoaaGreatDoorShelf
namespace Go.Proofs.YticfmphbhdkhoaaGreatDoor
open Go Go.RowKit

set_option maxRecDepth 100000 in
set_option maxHeartbeats 1000000 in
theorem idxs_any (F : Nat → Prop) (A : Option Addr) (n c : Nat) (l : List ByteArray) (w : World) (h : Sl tStr F w A n c l) (hs : ∀ s ∈ l, s.size ≤ 300) (hn : n ≤ 4611686018427387904) :
    Calls Tryz.prog 60 #[.slice A n c, .func (.func 39) #[] #[]] w fun e w' => e = .returned (.int .i64 (-1)) ∧ Below w.heap.size w w' := by
  have HL := Lib.hid h.len; have HS := Lib.hid hs
  clear hs
  go_enter Tryz.func60, Tryz.ntmps60
  go_wp2_with fail
  go_loopw [8] (fun i wr => ∃ j : Nat, j ≤ n ∧ i = .int .i64 j ∧ Below w.heap.size w wr) (fun i _ => n - (intOf i).toNat)
  case atStart => exact ⟨0, Nat.zero_le _, rfl, Below.refl _ _⟩
  case round =>
    obtain ⟨j, hj, rfl, hb⟩ := hrel
    have HB := Lib.hid hb
    have hsz := hb.size
    by_cases hlt : j < n
    · have hjl : j < l.length := by rw [← HL.out]; exact hlt
      obtain ⟨b, o, u, rfl, _, hbl, hr, hc⟩ := (h.below hb (Nat.le_refl _)).at1 hjl rfl
      have hsm := HS.out _ (List.getElem_mem hjl)
      obtain ⟨s, hs⟩ : ∃ s, s = l[j] := ⟨_, rfl⟩
      obtain ⟨hr, _⟩ := hr
      injection hr with hr; subst hr
      rw [← hs] at hc hsm
      have HD := Lib.hid (show decide (300 < s.size) = false from decide_eq_false (by omega))
      have hi1 : (0 : Int) ≤ (j : Int) := by omega
      have hi2 : (j : Int) < (n : Int) := by omega
      clear hb hs hsm
      go_wp2_with (first
        | (go_at_call 39; refine (long1_any s _).mono ?_; rintro e w1 ⟨rfl, hb1⟩; rw [HD.out]; have HB1 := Lib.hid (HB.out.trans (hb1.mono hsz)); clear hb1)
        | fail)
      go_roundw
      case rel => exact ⟨j + 1, by omega, by go_num, HB1.out⟩
      case measure => simp [intOf]; omega
    · obtain rfl : j = n := by omega
      go_wp2_with fail
      go_ret
      exact ⟨rfl, HB.out⟩
set_option maxRecDepth 100000 in
theorem long_any (F : Nat → Prop) (A : Option Addr) (n c : Nat) (l : List ByteArray) (w : World) (h : Sl tStr F w A n c l) (hs : ∀ s ∈ l, s.size ≤ 300) (hn : n ≤ 4611686018427387904) :
    Calls Tryz.prog 38 #[.slice A n c, .func (.func 39) #[] #[]] w fun e w' => e = .returned (.bool false) ∧ Below w.heap.size w w' := by
  have H := Lib.hid h; have HS := Lib.hid hs; have HN := Lib.hid hn
  clear h hs hn
  go_enter Tryz.func38, Tryz.ntmps38
  go_wp2_with (first
    | (go_at_call 60; refine (idxs_any F A n c l _ H.out HS.out HN.out).mono ?_; rintro e w1 ⟨rfl, hb1⟩; have HB1 := Lib.hid hb1; clear hb1)
    | fail)
  go_ret
  exact ⟨rfl, HB1.out⟩
end Go.Proofs.YticfmphbhdkhoaaGreatDoor
namespace Go.Proofs.YticfmphbhdkhoaaGreatDoor
open Go Go.RowKit

/-- The blocks below K are kept. -/
def KpV (K : Nat) (W W' : World) : Prop := W.heap.size ≤ W'.heap.size ∧ ∀ b, b < K → W'.heap[b]? = W.heap[b]?
theorem KpV.refl (K : Nat) (W : World) : KpV K W W := ⟨Nat.le_refl _, fun _ _ => rfl⟩
theorem KpV.trans {K : Nat} {A B C : World} (h : KpV K A B) (k : KpV K B C) : KpV K A C := ⟨Nat.le_trans h.1 k.1, fun b hb => (k.2 b hb).trans (h.2 b hb)⟩
set_option maxRecDepth 100000 in
set_option maxHeartbeats 2000000 in
theorem vals1_in (F : Fence) (n : Nat) (hf : F.fn 79) (hro : F.round = none) (hn : 1 ≤ n) (l bb K : Nat) (A : Option Addr) (m c : Nat) (xs : List ByteArray) (J Jx : List ByteArray → World → Prop)
    (hY : ∀ pre x W1, J pre W1 → pre.length < m → YieldAt F (n - 1) Tryz.prog l #[.string x] W1 fun e W' => (e = .returned (.bool true) ∧ J (pre ++ [x]) W' ∧ KpV K W1 W') ∨ (e = .returned (.bool false) ∧ Jx (pre ++ [x]) W'))
    (W : World) (h0 : W.cell? ⟨bb, 0, none⟩ = some (.slice A m c)) (hs : Sl tStr (fun b => b < K) W A m c xs) (hJ0 : J [] W) :
    CallsIn F n Tryz.prog 79 #[.func (.yield l) #[] #[], .pointer (some ⟨bb, 0, none⟩)] W fun e W' => (∃ v, e = .returned v) ∧ ((∃ ys, ys = xs ∧ J ys W') ∨ (∃ pre, (∃ k, k ≤ m ∧ pre = xs.take k) ∧ Jx pre W')) := by
  have HL := Lib.hid hs.len; have HS := Lib.hid hs
  have hmax : m ≤ 9223372036854775807 := by have h2 := hs.2.1; have h3 := hs.2.2.1; unfold maxLen at h3; omega
  clear hs
  refine callsIn_of_wp Tryz.func79 rfl hf ?_ hro
  simp only [Tryz.ntmps79, List.size_toArray, List.length_cons, List.length_nil, Nat.reduceAdd, Nat.reduceSub, Array.replicate_succ, Array.replicate_zero, List.push_toArray, List.append_toArray, List.nil_append, List.cons_append]
  gi_wp2
  gi_loopw [7] (fun i wr => ∃ (k : Nat), k ≤ m ∧ i = .int .i64 (k : Int) ∧ J (xs.take k) wr ∧ KpV K W wr)
    (fun i _ => m - (intOf i).toNat)
  case atStart => exact ⟨0, Nat.zero_le _, rfl, hJ0, KpV.refl _ _⟩
  case round =>
    clear h0 hJ0
    obtain ⟨k, hk, rfl, hJs, hkp⟩ := hrel
    by_cases hlt : k < m
    · have hkl : k < xs.length := by rw [← HL.out]; exact hlt
      obtain ⟨b, o, u, rfl, _, hbl, hr, hc⟩ := (HS.out.keep hkp.1 (fun b hb _ => hkp.2 b hb)).at1 hkl rfl
      obtain ⟨x, hx⟩ : ∃ x, x = xs[k] := ⟨_, rfl⟩
      obtain ⟨hr, _⟩ := hr
      injection hr with hr; subst hr
      rw [← hx] at hc
      have HX := Lib.hid hx
      have hi0 : (0 : Int) ≤ (k : Int) := by omega
      have hi1 : (k : Int) < (m : Int) := by omega
      obtain ⟨fn, tmps, assign, body, hy, hR⟩ := hY _ x wr hJs (by rw [List.length_take]; omega)
      have HKP := Lib.hid hkp; clear hkp hx
      gi_wp2
      refine hR.mono ?_
      rintro e W3 (⟨rfl, hJ3, hk3⟩ | ⟨rfl, hJx3⟩)
      · have HK3 := Lib.hid hk3; clear hk3
        gi_wp2
        go_roundw
        case rel => exact ⟨k + 1, by omega, by go_num, by rw [List.take_succ_eq_append_getElem hkl, ← HX.out]; exact hJ3, HKP.out.trans HK3.out⟩
        case measure => simp [intOf]; omega
      · gi_wp2
        refine bodyPost_ret (results_none rfl _ _ _) rfl ?_
        exact ⟨⟨_, rfl⟩, .inr ⟨_, ⟨k + 1, by omega, by rw [List.take_succ_eq_append_getElem hkl, ← HX.out]⟩, hJx3⟩⟩
    · obtain rfl : k = m := by omega
      have e1 : xs.take k = xs := List.take_of_length_le (by rw [← HL.out]; exact Nat.le_refl _)
      rw [e1] at hJs
      gi_wp2
      go_end0
      first | exact ⟨⟨_, rfl⟩, .inl ⟨_, rfl, hJs⟩⟩ | exact ⟨⟨_, rfl⟩, .inl hJs⟩ | exact .inl hJs | exact hJs
end Go.Proofs.YticfmphbhdkhoaaGreatDoor
namespace Go.Proofs.YticfmphbhdkhoaaGreatDoor
open Go Go.RowKit Go.Shelf
attribute [local go_sem] Oper.semAt_some

theorem grown_of_below {w w' : World} {row : Option Nat} (h : Below w.heap.size w w') : w.grownBy w' row := ⟨h.os, h.tape, h.output, h.size, fun k hk _ => h.block k hk⟩
theorem grown_set {w w1 : World} {g : Nat} (h : w.grownBy w1 (some g)) (j : Nat) (v : Value) : w.grownBy (w1.setCell ⟨g, j, none⟩ v) (some g) :=
  ⟨h.os, h.tape, h.output, by simpa using h.size, fun k hk hr => (Below.heap_setCell w1 ⟨g, j, none⟩ v k (fun e => hr (by rw [e]))).trans (h.block k hk hr)⟩
theorem grown_trans {w w1 w2 : World} {row : Option Nat} (h : w.grownBy w1 row) (k : w1.grownBy w2 row) : w.grownBy w2 row :=
  ⟨k.os.trans h.os, k.tape.trans h.tape, k.output.trans h.output, Nat.le_trans h.size k.size, fun i hi hr => (k.block i (Nat.lt_of_lt_of_le hi h.size) hr).trans (h.block i hi hr)⟩
theorem grown_alloc {w w1 : World} {row : Option Nat} (h : w.grownBy w1 row) (o : Obj) : w.grownBy (w1.alloc o) row :=
  ⟨h.os, h.tape, h.output, by have := h.size; simp; omega, fun k hk hr => (Below.heap_alloc w1 o k (Nat.lt_of_lt_of_le hk h.size)).trans (h.block k hk hr)⟩
theorem grown_drew {w w1 : World} {row : Option Nat} (h : w.grownBy w1 row) : w.grownBy w1.drew row := ⟨h.os, h.tape, h.output, h.size, h.block⟩
def svs (l : List ByteArray) : List Value := l.map Value.string
/-- A row of texts of the call's own. -/
def OwnS (w : World) (B : Nat) (A : Option Addr) (n c : Nat) (l : List ByteArray) : Prop := w.ownsRow B 9 1 (.slice A n c) n (svs l)
theorem OwnS.nil_ (w : World) (B : Nat) : OwnS w B none 0 0 [] := World.ownsRow_nil w B _ _
theorem ownS_cells {w : World} {B : Nat} {A : Option Addr} {n c : Nat} {l : List ByteArray} (h : OwnS w B A n c l) {b : Nat} (hb : A.map (·.block) = some b) : ∃ cur e fr, w.heap[b]? = some (.cells cur e fr) ∧ B ≤ b := by
  rcases h.2 with ⟨h1, _⟩ | ⟨g, cap, cur, h1, hB, hg, _⟩
  · injection h1 with h1; subst h1; cases hb
  · injection h1 with h1; subst h1; injection hb with hb; subst hb; exact ⟨cur, _, _, hg, hB⟩
theorem apsIn1 {F : Fence} {nF : Nat} {ops : Array Oper} {rest : List Oper} {o : Oper} {a : Act} {Q : Exit → Act → World → Prop} (hgd : o.guard = none) (s x : Operand) (ho : o.op = .call { callee := .builtin .append, args := #[s, x], argTypes := #[50, 50] })
    (w wx : World) (B : Nat) (A : Option Addr) (n c : Nat) (xs : List ByteArray) (hs : a.eval s = .slice A n c) (hown : OwnS w B A n c xs) (hB : B ≤ w.heap.size) (y : ByteArray) (hwx : wx = w.alloc (.cells #[.string y] 9)) (hx : a.eval x = .slice (some ⟨w.heap.size, 0, none⟩) 1 1) (hlim : n ≤ 34359738368)
    (h : ∀ A' c' w', OwnS w' B A' (n + 1) c' (xs ++ [y]) → wx.grownBy w' (A.map (·.block)) → wpListIn F nF Tryz.prog ops Q rest (a.put o.dst (.slice A' (n + 1) c')) w') : wpListIn F nF Tryz.prog ops Q (o :: rest) a wx := by
  subst hwx
  refine wpListIn_plain hgd fun K hK => ?_
  obtain ⟨A', c', w', hrun, h2, h3, _⟩ := run_append_rd elemStr o.type (w.alloc (.cells #[.string y] 9)) B (.slice A n c) n (svs xs) (World.ownsRow.alloc hown _) (fun b => b = w.heap.size) (some ⟨w.heap.size, 0, none⟩) 1 1 [.string y] rfl (Rd.new w _ _) (by intro u hu; simp at hu; subst hu; rfl) (by omega) (by rw [World.size_alloc]; omega)
  unfold Oper.wpIn
  refine ⟨by simp [Oper.about, ho, resolve, Target.leads, Sem.run_pure], ?_⟩
  rw [Oper.semAt_plain F _ _ (by rw [ho]; intro c hc'; cases hc')]
  simp [execOp, ho, resolve, invoke, builtin, hs, hx, hrun, Result.andThen]
  rw [ownBlock_slice] at h3
  exact hK _ _ (h A' c' w' (by unfold OwnS svs; rw [List.map_append]; exact h2) h3)
/-- Between two rounds. -/
structure ApS (w : World) (k2 : Nat) (pre : List ByteArray) (W : World) : Prop where
  st : ∃ A c, W.heap[k2]? = some (.cells #[.slice A pre.length c] 50 (0, 0)) ∧ OwnS W (k2 + 1) A pre.length c pre
  below : Below k2 w W
  size : k2 + 1 ≤ W.heap.size
theorem ApS.own (w : World) (k2 : Nat) (hk : k2 = w.heap.size) : OwnFrom (k2 + 1) (ApS w k2) := fun pre W W' row hs hg hr => by
  obtain ⟨⟨A, c, h1, h2⟩, h3, h4⟩ := hs
  refine ⟨⟨A, c, (hg.block k2 (by omega) (fun e => by have := (hr _ e.symm).1; omega)).trans h1, own_keep h2 fun b hb => hg.block b (h2.lt b hb).2 (fun e => ?_)⟩, h3.grown hg (by omega) (fun k e => by have := (hr k e).1; omega), Nat.le_trans h4 hg.size⟩
  obtain ⟨_, o, ho, hc⟩ := hr b e.symm
  rw [ownBlock_slice] at hb
  obtain ⟨cur, ty, fr, h8, _⟩ := ownS_cells h2 hb
  rw [h8] at ho
  injection ho with ho
  subst ho
  cases hc
theorem KpV.put {K : Nat} (W : World) (l : Nat) (o o' : Obj) (hl : K ≤ l) (_ : W.heap[l]? = some o) (_ : o.isCells = false) (_ : o.isWalk = false) : KpV K W (W.putObj l o') :=
  ⟨by have := (grownBy_putObj' W l o').size; exact this, fun b hb => World.putObj_heap_other (by omega)⟩
theorem vals_stops (F : Fence) (n : Nat) (hf : F.fn 79) (hro : F.round = none) (hn : 1 ≤ n) (bb K : Nat) (A : Option Addr) (m c : Nat) (xs : List ByteArray) (w : World) (h0 : w.cell? ⟨bb, 0, none⟩ = some (.slice A m c)) (hs : Sl tStr (fun b => b < K) w A m c xs) :
    SeqStopsK F n Tryz.prog 79 #[.pointer (some ⟨bb, 0, none⟩)] (fun x : ByteArray => #[.string x]) (KpV K) (fun ys => ys = xs) (fun pre => ∃ k, k ≤ m ∧ pre = xs.take k) m w := fun l J Jx W hW _ _ hY hJ0 =>
  vals1_in F n hf hro hn l bb K A m c xs J Jx hY W ((hW.cell (p := ⟨bb, 0, none⟩) (World.block_lt_of_cell? w _ h0)).trans h0) (hs.below hW (Nat.le_refl _)) hJ0
set_option maxRecDepth 100000 in
set_option maxHeartbeats 4000000 in
theorem appseq_any (bb : Nat) (F : Nat → Prop) (A : Option Addr) (m c : Nat) (xs : List ByteArray) (w : World) (h0 : w.cell? ⟨bb, 0, none⟩ = some (.slice A m c)) (hs : Sl tStr F w A m c xs) (hm : m ≤ 4096) :
    Calls Tryz.prog 102 #[.slice none 0 0, .func (.func 79) #[] #[.pointer (some ⟨bb, 0, none⟩)]] w fun e W => ∃ A' c', e = .returned (.slice A' m c') ∧ OwnS W w.heap.size A' m c' xs ∧ Below w.heap.size w W := by
  have hbb := World.block_lt_of_cell? w _ h0
  have hlen := hs.len
  obtain ⟨W0, hW0⟩ : ∃ W0, W0 = w.alloc (.cells #[.slice none 0 0] 50) := ⟨_, rfl⟩
  have hsz : W0.heap.size = w.heap.size + 1 := by rw [hW0]; simp
  have hb0 : Below w.heap.size w W0 := by rw [hW0]; exact (Below.refl _ _).alloc (Nat.le_refl _) _
  have hv0 : W0.heap[w.heap.size]? = some (.cells #[.slice none 0 0] 50 (0, 0)) := by rw [hW0]; exact heap_alloc_new w _
  have hc0 : W0.cell? ⟨bb, 0, none⟩ = some (.slice A m c) := kcell hb0 h0
  have hs0 : Sl tStr (fun b => b < w.heap.size) W0 A m c xs := (hs.weaken (F' := fun b => b < w.heap.size) fun b _ hb => hb).below hb0 (Nat.le_refl _)
  have hI0 : ApS w w.heap.size [] W0 := ⟨⟨none, 0, hv0, OwnS.nil_ _ _⟩, hb0, by omega⟩
  have HW0 := Lib.hid hW0; have HB0 := Lib.hid hb0; have HSZ := Lib.hid hsz; have HLEN := Lib.hid hlen
  clear hs h0 hb0 hv0 hW0
  refine (callsIn_wide (n := 3)).1 ?_
  refine callsIn_of_wp_marks Tryz.func102 rfl trivial ?_ rfl
  simp only [Tryz.ntmps102, List.size_toArray, List.length_cons, List.length_nil, Nat.reduceAdd, Nat.reduceSub, Array.replicate_succ, Array.replicate_zero, List.push_toArray, List.append_toArray, List.nil_append, List.cons_append]
  gi_wp2
  rw [← HW0.out]
  refine wpIn_rangeFunc_ownG rfl (by omega) (gf := 79) (lb := #[.pointer (some ⟨bb, 0, none⟩)]) rfl trivial (enters_of Tryz.func79 (by kernel_rfl) rfl)
    (vals_stops Fence.wide _ trivial rfl (by omega) bb w.heap.size A m c xs W0 hc0 hs0) KpV.trans (fun W l o o' h1 => KpV.put W l o o' (by omega)) (Below.refl _ _) (fun _ => rfl)
    (ApS w w.heap.size) (fun _ _ _ => False) (by rw [HSZ.out]; exact ApS.own w _ rfl) (fun _ _ _ _ _ h _ _ => h) hI0
    (fun x => { tmps := #[.slice none 0 0, .func (.func 79) #[] #[.pointer (some ⟨bb, 0, none⟩)], .pointer (some ⟨w.heap.size, 0, none⟩), undef, .slice none 0 0, .string x, .func (.func 79) #[] #[.pointer (some ⟨bb, 0, none⟩)], .string x, undef, undef, undef, undef, undef], defers := [] }) ?assign ?body ?done ?stop
  case assign =>
    intro l x W K hK
    gi_wp2
    exact hK
  case body =>
    rintro l' pre x W ⟨⟨A6, c6, hbox, hown⟩, hbl, hsw⟩ hpl
    have HBOX := Lib.hid hbox; have HOWN := Lib.hid hown; have HBL := Lib.hid hbl
    have v0 : W.cell? ⟨w.heap.size, 0, none⟩ = some (.slice A6 pre.length c6) := by rw [Lib.cell_of_heap hbox]; rfl
    have vf : W.frozen? ⟨w.heap.size, 0, none⟩ = false := Lib.frozen_of_heap hbox 0
    clear hbox hown hbl
    gi_wp2_with (first
      | (gi_at_builtin; refine apsIn1 rfl (.tmp 8) (.tmp 10) rfl W _ (w.heap.size + 1) A6 pre.length c6 pre (by rfl) HOWN.out hsw x (by rfl) (by rfl) (by omega) ?_; intro A7 c7 w7 hown7 hg7; have HO7 := Lib.hid hown7; have HG7 : Hid (W.grownBy w7 (A6.map (·.block))) := Lib.hid (grown_trans (grown_alloc (grown_of_below (Below.refl _ W)) _) hg7); have v7 : w7.cell? ⟨w.heap.size, 0, none⟩ = some (.slice A6 pre.length c6) := HG7.out.cell v0 (fun e => by obtain ⟨_, _, _, _, h8⟩ := ownS_cells HOWN.out e.symm; have h9 : w.heap.size + 1 ≤ w.heap.size := h8; omega); have vf7 : w7.frozen? ⟨w.heap.size, 0, none⟩ = false := Lib.frozen_of_heap (HG7.out.block (w.heap.size) (by omega) (fun e => by obtain ⟨_, _, _, _, h8⟩ := ownS_cells HOWN.out e.symm; omega) |>.trans HBOX.out) 0; clear hown7 hg7)
      | fail)
    have hA6 : ∀ k, A6.map (·.block) = some k → w.heap.size + 1 ≤ k := fun k e => by obtain ⟨_, _, _, _, h8⟩ := ownS_cells HOWN.out e; exact h8
    have hsz7 := HG7.out.size
    have e7 : (pre ++ [x]).length = pre.length + 1 := by simp
    refine ⟨((KeepsOthers.of_grownBy HG7.out fun j o hj ho => by obtain ⟨cur, e1, fr, h8, _⟩ := ownS_cells HOWN.out hj; rw [h8] at ho; injection ho with ho; subst ho; rfl).trans (KeepsOthers.setCell _ _ _)).from _, ⟨by simpa using hsz7, fun b hb => (Below.heap_setCell _ _ _ _ (by simp; omega)).trans (HG7.out.block b (by omega) (fun e => by have := hA6 _ e.symm; omega))⟩, ?_⟩
    refine ⟨⟨A7, c7, ?_, ?_⟩, ?_, by simp; omega⟩
    · rw [e7]
      exact heap_set ((HG7.out.block (w.heap.size) (by omega) (fun e => by have := hA6 _ e.symm; omega)).trans HBOX.out) rfl
    · rw [e7]
      refine own_keep HO7.out (fun b hb => Below.heap_setCell _ _ _ _ ?_)
      have h8 := (HO7.out.lt b hb).1
      simp
      omega
    · exact bsetc (HBL.out.grown HG7.out (by omega) (fun k e => by have := hA6 k e; omega)) (Nat.le_refl _) _
  case done =>
    rintro D ys W hD rfl ⟨⟨A6, c6, hbox, hown⟩, hbl, hsw⟩ hK
    have v0 : W.cell? ⟨w.heap.size, 0, none⟩ = some (.slice A6 ys.length c6) := by rw [Lib.cell_of_heap hbox]; rfl
    have HOWN := Lib.hid hown; have HBL := Lib.hid hbl; have HKD := Lib.hid hK
    clear hbox hown hbl hK
    gi_wp2
    refine ⟨by simp, .inl ⟨_, _, rfl, run_takeDeferred HKD.out, ?_⟩⟩
    have hp := grownBy_putObj' W D (.deferred none)
    refine ⟨_, results_tmp rfl _ _ _, A6, c6, by rw [HLEN.out]; rfl, ?_, HBL.out.grown hp (by omega) (fun k e => by injection e with e; omega)⟩
    rw [HLEN.out]
    refine own_down (own_keep HOWN.out fun b hb => World.putObj_heap_other (fun e => ?_)) (Nat.le_succ _)
    rw [ownBlock_slice] at hb
    obtain ⟨cur, ty, fr, h8, _⟩ := ownS_cells HOWN.out hb
    rw [e, HKD.out] at h8
    cases h8
  case stop =>
    rintro D c pre W hD _ h
    exact h.elim
end Go.Proofs.YticfmphbhdkhoaaGreatDoor
namespace Go.Proofs.YticfmphbhdkhoaaGreatDoor
open Go Go.RowKit Go.Sort

def mkS (b : List UInt8) : ByteArray := ⟨b.toArray⟩
def bytesS (l : List ByteArray) : List (List UInt8) := l.map (·.data.toList)
theorem mk_bytes (l : List ByteArray) : (bytesS l).map mkS = l := by
  unfold bytesS
  rw [List.map_map]
  conv => rhs; rw [← List.map_id l]
  rfl
theorem bytes_mk (l : List (List UInt8)) : bytesS (l.map mkS) = l := by
  unfold bytesS
  rw [List.map_map]
  conv => rhs; rw [← List.map_id l]
  apply List.map_congr_left
  intro b _
  simp [mkS]
theorem svs_mk (l : List (List UInt8)) : svs (l.map mkS) = l.map encStr := by
  unfold svs
  rw [List.map_map]
  rfl
theorem svs_bytes (l : List ByteArray) : svs l = (bytesS l).map encStr := by rw [← svs_mk, mk_bytes]
def sortL (l : List (List UInt8)) : List (List UInt8) := l.mergeSort fun x y => decide (x ≤ y)
/-- What texts.Words tells. -/
def wordsL (l : List ByteArray) : List (List UInt8) := Lib.compact (sortL (bytesS l))
theorem OwnS.len {w : World} {B : Nat} {A : Option Addr} {n c : Nat} {l : List ByteArray} (h : OwnS w B A n c l) : n = l.length := by
  have := h.1
  unfold svs at this
  simp at this
  omega
theorem ownS_front {w : World} {B : Nat} {A : Option Addr} {n c : Nat} {l : List ByteArray} (h : OwnS w B A n c l) {k : Nat} (hk : k ≤ n) (hA : A ≠ none) : OwnS w B A k c (l.take k) := by
  have hl := h.len
  refine ⟨by unfold svs; simp; omega, ?_⟩
  rcases h.2 with ⟨h1, h2⟩ | ⟨g, cap, cur, h1, hb, hg, hn, hc, hs, ht⟩
  · injection h1 with h1; exact absurd h1 hA
  · injection h1 with e1 e2 e3; subst e1 e3
    refine .inr ⟨g, c, cur, rfl, hb, hg, by omega, hc, hs, ?_⟩
    have e4 : svs (l.take k) = (svs l).take (k * 1) := by unfold svs; rw [List.map_take, Nat.mul_one]
    rw [e4, ← ht, List.take_take, Nat.min_eq_left (Nat.mul_le_mul_right 1 hk)]
theorem sort_any (B : Nat) (A : Option Addr) (n c : Nat) (l : List ByteArray) (w : World) (h : OwnS w B A n c l) (hB : B ≤ w.heap.size) (hn : n ≤ 4096) :
    Calls Tryz.prog 78 #[.slice A n c] w fun e w' => e = .returned (.tuple #[]) ∧ OwnS w' B A n c ((sortL (bytesS l)).map mkS) ∧ Below B w w' := by
  have hl := h.len
  have hlen : (bytesS l).length = n := by unfold bytesS; simp; omega
  rcases h.2 with ⟨h1, h2⟩ | ⟨g, cap, cur, h1, hb, hg, hnc, hc, hs, ht⟩
  · injection h1 with e1 e2 e3
    subst e1 e3 h2
    have : l = [] := List.length_eq_zero_iff.1 hl.symm
    subst this
    refine (Tryz.slices_Sort_string_none none 0 w).mono ?_
    rintro e w' ⟨rfl, rfl⟩
    exact ⟨rfl, by simpa [bytesS, sortL] using h, Below.refl _ _⟩
  · injection h1 with e1 e2 e3
    subst e1 e3
    have hH : Holds encStr w g 0 (bytesS l).toArray := holds_of_block hg (by rw [hlen, ← svs_bytes, ← ht, Nat.mul_one])
    have hgl : g < w.heap.size := (Array.getElem?_eq_some_iff.1 hg).1
    have hC := Tryz.slices_Sort_string g 0 c (bytesS l) w hH hgl (by omega)
    rw [hlen] at hC
    refine hC.mono ?_
    rintro e w' ⟨rfl, q, os, rfl⟩
    have hr := ownsRow_sorted (n := q) (os := os) (ss := bytesS l) (ts := sortL (bytesS l)) (by simp [sortL]) hb hg (by omega) hc hs
    rw [hlen, ← svs_mk] at hr
    exact ⟨rfl, hr, (Below.refl B w).grown (grownBy_sorted _) hB (fun j hj => by cases hj; exact hb)⟩
theorem compact_len (zs : List (List UInt8)) : (Lib.compact zs).length ≤ zs.length := by
  unfold Lib.compact Lib.compactUpTo
  rw [List.length_map]
  exact Nat.le_trans (List.length_filter_le _ _) (by simp)
theorem compact_any (B : Nat) (A : Option Addr) (n c : Nat) (l : List ByteArray) (w : World) (h : OwnS w B A n c l) (hB : B ≤ w.heap.size) (hn : n ≤ 4096) :
    Calls Tryz.prog 61 #[.slice A n c] w fun e w' => e = .returned (.slice A (Lib.compact (bytesS l)).length c) ∧ OwnS w' B A (Lib.compact (bytesS l)).length c ((Lib.compact (bytesS l)).map mkS) ∧ Below B w w' := by
  have hl := h.len
  have hlen : (bytesS l).length = n := by unfold bytesS; simp; omega
  rcases h.2 with ⟨h1, h2⟩ | ⟨g, cap, cur, h1, hb, hg, hnc, hc, hs, ht⟩
  · injection h1 with e1 e2 e3
    subst e1 e3 h2
    have : l = [] := List.length_eq_zero_iff.1 hl.symm
    subst this
    refine (Tryz.slices_Compact_string_empty none 0 w).mono ?_
    rintro e w' ⟨rfl, rfl⟩
    exact ⟨rfl, h, Below.refl _ _⟩
  · injection h1 with e1 e2 e3
    subst e1 e3
    have hH : Holds encStr w g 0 (bytesS l).toArray := holds_of_block hg (by rw [hlen, ← svs_bytes, ← ht, Nat.mul_one])
    have hC := Tryz.slices_Compact_string g 0 c (bytesS l) w hH (by omega) (by omega)
    rw [hlen] at hC
    refine hC.mono ?_
    rintro e w' ⟨rfl, q, hw⟩
    have hcl := compact_len (bytesS l)
    have hw2 : w' = grow (Go.Sort.putRow encStr (Sort.ahead w q) g 0 (Lib.compact (bytesS l) ++ List.replicate (n - (Lib.compact (bytesS l)).length) []).toArray) #[] := by rw [hw]; simp [grow]; rfl
    have hr := ownsRow_sorted (n := q) (os := #[]) (ss := bytesS l) (ts := Lib.compact (bytesS l) ++ List.replicate (n - (Lib.compact (bytesS l)).length) []) (by simp; omega) hb hg (by omega) hc hs
    rw [← hw2, hlen, ← svs_mk] at hr
    have hf := ownS_front (A := some ⟨g, 0, none⟩) hr (k := (Lib.compact (bytesS l)).length) (by omega) (by simp)
    rw [← List.map_take, List.take_left' rfl] at hf
    exact ⟨rfl, hf, by rw [hw2]; exact (Below.refl B w).grown (grownBy_sorted _) hB (fun j hj => by cases hj; exact hb)⟩
theorem values_any (A : Option Addr) (n c : Nat) (w : World) :
    Calls Tryz.prog 63 #[.slice A n c] w fun e w' => e = .returned (.func (.func 79) #[] #[.pointer (some ⟨w.heap.size, 0, none⟩)]) ∧ w' = w.alloc (.cells #[.slice A n c] 50) := by
  go_enter Tryz.func63, Tryz.ntmps63
  go_wp2_with fail
  go_ret
  exact ⟨rfl, rfl⟩
theorem collect_any (bb : Nat) (F : Nat → Prop) (A : Option Addr) (m c : Nat) (xs : List ByteArray) (w : World) (h0 : w.cell? ⟨bb, 0, none⟩ = some (.slice A m c)) (hs : Sl tStr F w A m c xs) (hm : m ≤ 4096) :
    Calls Tryz.prog 77 #[.func (.func 79) #[] #[.pointer (some ⟨bb, 0, none⟩)]] w fun e W => ∃ A' c', e = .returned (.slice A' m c') ∧ OwnS W w.heap.size A' m c' xs ∧ Below w.heap.size w W := by
  have H := Lib.hid (appseq_any bb F A m c xs w h0 hs hm)
  clear h0 hs
  go_enter Tryz.func77, Tryz.ntmps77
  go_wp2_with (first
    | (go_at_call 102; refine H.out.mono ?_; rintro e w1 ⟨A1, c1, rfl, ho1, hb1⟩; have HO1 := Lib.hid ho1; have HB1 := Lib.hid hb1; clear ho1 hb1)
    | fail)
  go_ret
  exact ⟨A1, c1, rfl, HO1.out, HB1.out⟩
theorem sorted_any (bb : Nat) (F : Nat → Prop) (A : Option Addr) (m c : Nat) (xs : List ByteArray) (w : World) (h0 : w.cell? ⟨bb, 0, none⟩ = some (.slice A m c)) (hs : Sl tStr F w A m c xs) (hm : m ≤ 4096) :
    Calls Tryz.prog 62 #[.func (.func 79) #[] #[.pointer (some ⟨bb, 0, none⟩)]] w fun e W => ∃ A' c', e = .returned (.slice A' m c') ∧ OwnS W w.heap.size A' m c' ((sortL (bytesS xs)).map mkS) ∧ Below w.heap.size w W := by
  have H := Lib.hid (collect_any bb F A m c xs w h0 hs hm)
  clear h0 hs
  go_enter Tryz.func62, Tryz.ntmps62
  go_wp2_with (first
    | (go_at_call 77; refine H.out.mono ?_; rintro e w1 ⟨A1, c1, rfl, ho1, hb1⟩; have HO1 := Lib.hid ho1; have HB1 := Lib.hid hb1; clear ho1 hb1)
    | (go_at_call 78; refine (sort_any w.heap.size A1 m c1 xs w1 HO1.out HB1.out.size hm).mono ?_; rintro e w2 ⟨rfl, ho2, hb2⟩; have HO2 := Lib.hid ho2; have HB2 := Lib.hid (HB1.out.trans hb2); clear ho2 hb2)
    | fail)
  go_ret
  exact ⟨A1, c1, rfl, HO2.out, HB2.out⟩
def wordsS (l : List ByteArray) : List ByteArray := (wordsL l).map mkS
theorem words_any (F : Nat → Prop) (A : Option Addr) (n c : Nat) (l : List ByteArray) (w : World) (h : Sl tStr F w A n c l) (hn : n ≤ 4096) :
    Calls Tryz.prog 40 #[.slice A n c] w fun e W => ∃ A' c', e = .returned (.slice A' (wordsL l).length c') ∧ OwnS W w.heap.size A' (wordsL l).length c' (wordsS l) ∧ Below w.heap.size w W := by
  obtain ⟨w0, hw0⟩ : ∃ w0, w0 = w.alloc (.cells #[.slice A n c] 50) := ⟨_, rfl⟩
  have hb0 : Below w.heap.size w w0 := by rw [hw0]; exact (Below.refl _ _).alloc (Nat.le_refl _) _
  have hc0 : w0.cell? ⟨w.heap.size, 0, none⟩ = some (.slice A n c) := by rw [hw0, World.cell?_alloc_new]; rfl
  have HS := Lib.hid (sorted_any w.heap.size F A n c l w0 hc0 (h.below hb0 (Nat.le_refl _)) hn)
  have HB0 := Lib.hid hb0; have HW0 := Lib.hid hw0
  clear h hb0 hc0 hw0
  go_enter Tryz.func40, Tryz.ntmps40
  go_wp2_with (first
    | (go_at_call 63; refine (values_any A n c w).mono ?_; rintro e w1 ⟨rfl, hw1⟩; obtain rfl : w1 = w0 := hw1.trans HW0.out.symm; clear hw1)
    | (go_at_call 62; refine HS.out.mono ?_; rintro e w2 ⟨A2, c2, rfl, ho2, hb2⟩; have HO2 := Lib.hid (show OwnS w2 w.heap.size A2 n c2 _ from own_down ho2 HB0.out.size); have HB2 := Lib.hid (HB0.out.trans (hb2.mono HB0.out.size)); clear ho2 hb2)
    | (go_at_call 61; refine (compact_any w.heap.size A2 n c2 _ w2 HO2.out HB2.out.size hn).mono ?_; rintro e w3 ⟨rfl, ho3, hb3⟩; rw [bytes_mk] at ho3 ⊢; have HO3 := Lib.hid ho3; have HB3 := Lib.hid (HB2.out.trans hb3); clear ho3 hb3)
    | fail)
  go_ret
  exact ⟨A2, c2, rfl, HO3.out, HB3.out⟩
end Go.Proofs.YticfmphbhdkhoaaGreatDoor
