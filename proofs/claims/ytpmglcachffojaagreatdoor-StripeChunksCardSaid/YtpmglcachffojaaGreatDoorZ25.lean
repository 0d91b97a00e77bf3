/- A part of what Chunks leans on. -/
import Derived.Test.YtpmglcachffojaaGreatDoorZ7
import Derived.Test.YtpmglcachffojaaGreatDoorZ23
import Derived.Test.YtpmglcachffojaaGreatDoorZ24
import Derived.Sort.OwnSorted
import Derived.Test.YtpmglcachffojaaGreatDoorZS2
import Derived.Maps.OwnOps
import Derived.Maps.OwnSet
import Derived.Maps.Views
import Derived.StringKeys
import Derived.StillTailTactics
import Derived.Laws.Externs
import Derived.Lib.AppendStr
import Derived.Laws.IdiomStrings
import Derived.Laws.BytesArg
set_option maxRecDepth 100000
set_option maxHeartbeats 16000000
namespace Go.Proofs.YtpmglcachffojaaGreatDoor
section
open Go Go.RowKit Go.Shelf
attribute [local go_sem] Oper.semAt_some
theorem zzj {w w' : World} {row : Option Nat} (h : Below w.heap.size w w') : w.grownBy w' row := ⟨h.os, h.tape, h.output, h.size, fun k hk _ => h.block k hk⟩
theorem uuN {w w1 w2 : World} {row : Option Nat} (h : w.grownBy w1 row) (k : w1.grownBy w2 row) : w.grownBy w2 row :=
 ⟨k.os.trans h.os, k.tape.trans h.tape, k.output.trans h.output, Nat.le_trans h.size k.size, fun i hi hr => (k.block i (Nat.lt_of_lt_of_le hi h.size) hr).trans (h.block i hi hr)⟩
theorem qzF {w w1 : World} {row : Option Nat} (h : w.grownBy w1 row) (o : Obj) : w.grownBy (w1.alloc o) row :=
 ⟨h.os, h.tape, h.output, by have := h.size; simp; omega, fun k hk hr => (Below.heap_alloc w1 o k (Nat.lt_of_lt_of_le hk h.size)).trans (h.block k hk hr)⟩
def svs (l : List ByteArray) : List Value := l.map Value.string
def OwnS (w : World) (B : Nat) (A : Option Addr) (n c : Nat) (l : List ByteArray) : Prop := w.ownsRow B 9 1 (.slice A n c) n (svs l)
theorem OwnS.nil_ (w : World) (B : Nat) : OwnS w B none 0 0 [] := World.ownsRow_nil w B _ _
theorem yyw {w : World} {B : Nat} {A : Option Addr} {n c : Nat} {l : List ByteArray} (h : OwnS w B A n c l) {b : Nat} (hb : A.map (·.block) = some b) : ∃ cur e fr, w.heap[b]? = some (.cells cur e fr) ∧ B ≤ b := by
 rcases h.2 with ⟨h1, _⟩ | ⟨g, cap, cur, h1, hB, hg, _⟩
 · injection h1 with h1; subst h1; cases hb
 · injection h1 with h1; subst h1; injection hb with hb; subst hb; exact ⟨cur, _, _, hg, hB⟩
theorem apsIn1 {F : Fence} {nF : Nat} {ops : Array Oper} {rest : List Oper} {o : Oper} {a : Act} {Q : Exit → Act → World → Prop} (hgd : o.guard = none) (s x : Operand) (ho : o.op = .call { callee := .builtin .append, args := #[s, x], argTypes := #[89, 89] })
 (w wx : World) (B : Nat) (A : Option Addr) (n c : Nat) (xs : List ByteArray) (hs : a.eval s = .slice A n c) (hown : OwnS w B A n c xs) (hB : B ≤ w.heap.size) (y : ByteArray) (hwx : wx = w.alloc (.cells #[.string y] 9)) (hx : a.eval x = .slice (some ⟨w.heap.size, 0, none⟩) 1 1) (hlim : n ≤ 34359738368)
 (h : ∀ A' c' w', OwnS w' B A' (n + 1) c' (xs ++ [y]) → wx.grownBy w' (A.map (·.block)) → wpListIn F nF Tryz.prog ops Q rest (a.put o.dst (.slice A' (n + 1) c')) w') : wpListIn F nF Tryz.prog ops Q (o :: rest) a wx := by
 subst hwx
 refine wpListIn_plain hgd fun K hK => ?_
 obtain ⟨A', c', w', hrun, h2, h3, _⟩ := yy8 elemStr o.type (w.alloc (.cells #[.string y] 9)) B (.slice A n c) n (svs xs) (World.ownsRow.alloc hown _) (fun b => b = w.heap.size) (some ⟨w.heap.size, 0, none⟩) 1 1 [.string y] rfl (Rd.new w _ _) (by intro u hu; simp at hu; subst hu; rfl) (by omega) (by rw [zS]; omega)
 unfold Oper.wpIn
 refine ⟨by simp [Oper.about, ho, resolve, Target.leads, Sem.run_pure], ?_⟩
 rw [Oper.semAt_plain F _ _ (by rw [ho]; intro c hc'; cases hc')]
 simp [execOp, ho, resolve, invoke, builtin, hs, hx, hrun, Result.andThen]
 rw [zzg] at h3
 exact hK _ _ (h A' c' w' (by unfold OwnS svs; rw [List.map_append]; exact h2) h3)
structure ApS (w : World) (k2 : Nat) (pre : List ByteArray) (W : World) : Prop where
 st : ∃ A c, W.heap[k2]? = some (.cells #[.slice A pre.length c] 89 (0, 0)) ∧ OwnS W (k2 + 1) A pre.length c pre
 below : Below k2 w W
 size : k2 + 1 ≤ W.heap.size
theorem ApS.own (w : World) (k2 : Nat) (hk : k2 = w.heap.size) : OwnFrom (k2 + 1) (ApS w k2) := fun pre W W' row hs hg hr => by
 obtain ⟨⟨A, c, h1, h2⟩, h3, h4⟩ := hs
 refine ⟨⟨A, c, (hg.block k2 (by omega) (fun e => by have := (hr _ e.symm).1; omega)).trans h1, zzW h2 fun b hb => hg.block b (h2.lt b hb).2 (fun e => ?_)⟩, h3.grown hg (by omega) (fun k e => by have := (hr k e).1; omega), Nat.le_trans h4 hg.size⟩
 obtain ⟨_, o, ho, hc⟩ := hr b e.symm
 rw [zzg] at hb
 obtain ⟨cur, ty, fr, h8, _⟩ := yyw h2 hb
 rw [h8] at ho
 injection ho with ho
 subst ho
 cases hc
theorem KpV.put {K : Nat} (W : World) (l : Nat) (o o' : Obj) (hl : K ≤ l) (_ : W.heap[l]? = some o) (_ : o.isCells = false) (_ : o.isWalk = false) : KpV K W (W.putObj l o') :=
 ⟨by have := (grownBy_putObj' W l o').size; exact this, fun b hb => World.putObj_heap_other (by omega)⟩
theorem qxp (F : Fence) (n : Nat) (hf : F.fn 209) (hro : F.round = none) (hn : 1 ≤ n) (bb K : Nat) (A : Option Addr) (m c : Nat) (xs : List ByteArray) (w : World) (h0 : w.cell? ⟨bb, 0, none⟩ = some (.slice A m c)) (hs : Sl tStr (fun b => b < K) w A m c xs) :
 SeqStopsK F n Tryz.prog 209 #[.pointer (some ⟨bb, 0, none⟩)] (fun x : ByteArray => #[.string x]) (KpV K) (fun ys => ys = xs) (fun pre => ∃ k, k ≤ m ∧ pre = xs.take k) m w := fun l J Jx W hW _ _ hY hJ0 =>
 vals1_in F n hf hro hn l bb K A m c xs J Jx hY W ((hW.cell (p := ⟨bb, 0, none⟩) (World.block_lt_of_cell? w _ h0)).trans h0) (hs.below hW zN) hJ0
theorem qxq (bb : Nat) (F : Nat → Prop) (A : Option Addr) (m c : Nat) (xs : List ByteArray) (w : World) (h0 : w.cell? ⟨bb, 0, none⟩ = some (.slice A m c)) (hs : Sl tStr F w A m c xs) (hm : m ≤ 4096) :
 Calls Tryz.prog 251 #[.slice none 0 0, .func (.func 209) #[] #[.pointer (some ⟨bb, 0, none⟩)]] w fun e W => ∃ A' c', e = .returned (.slice A' m c') ∧ OwnS W w.heap.size A' m c' xs ∧ Below w.heap.size w W := by
 have hbb := World.block_lt_of_cell? w _ h0
 have hlen := hs.len
 obtain ⟨W0, hW0⟩ : ∃ W0, W0 = w.alloc (.cells #[.slice none 0 0] 89) := ⟨_, rfl⟩
 have hsz : W0.heap.size = w.heap.size + 1 := by rw [hW0]; simp
 have hb0 : Below w.heap.size w W0 := by rw [hW0]; exact (zR).alloc zN _
 have hv0 : W0.heap[w.heap.size]? = some (.cells #[.slice none 0 0] 89 (0, 0)) := by rw [hW0]; exact heap_alloc_new w _
 have hc0 : W0.cell? ⟨bb, 0, none⟩ = some (.slice A m c) := zzh hb0 h0
 have hs0 : Sl tStr (fun b => b < w.heap.size) W0 A m c xs := (hs.weaken (F' := fun b => b < w.heap.size) fun b _ hb => hb).below hb0 zN
 have hI0 : ApS w w.heap.size [] W0 := ⟨⟨none, 0, hv0, OwnS.nil_ _ _⟩, hb0, by omega⟩
 have HW0 := zH hW0; have HB0 := zH hb0; have HSZ := zH hsz; have HLEN := zH hlen
 clear hs h0 hb0 hv0 hW0
 refine (callsIn_wide (n := 3)).1 ?_
 refine callsIn_of_wp_marks Tryz.func251 rfl trivial ?_ rfl
 simp only [Tryz.ntmps251, List.size_toArray, List.length_cons, List.length_nil, Nat.reduceAdd, Nat.reduceSub, Array.replicate_succ, Array.replicate_zero, List.push_toArray, List.append_toArray, List.nil_append, List.cons_append]
 gi_wp2
 rw [← HW0.out]
 refine wpIn_rangeFunc_ownG rfl (by omega) (gf := 209) (lb := #[.pointer (some ⟨bb, 0, none⟩)]) rfl trivial (enters_of Tryz.func209 (by kernel_rfl) rfl)
  (qxp Fence.wide _ trivial rfl (by omega) bb w.heap.size A m c xs W0 hc0 hs0) KpV.trans (fun W l o o' h1 => KpV.put W l o o' (by omega)) (zR) (fun _ => rfl)
  (ApS w w.heap.size) (fun _ _ _ => False) (by rw [HSZ.out]; exact ApS.own w _ rfl) (fun _ _ _ _ _ h _ _ => h) hI0
  (fun x => { tmps := #[.slice none 0 0, .func (.func 209) #[] #[.pointer (some ⟨bb, 0, none⟩)], .pointer (some ⟨w.heap.size, 0, none⟩), undef, .slice none 0 0, .string x, .func (.func 209) #[] #[.pointer (some ⟨bb, 0, none⟩)], .string x, undef, undef, undef, undef, undef], defers := [] }) ?assign ?body ?done ?stop
 case assign =>
  intro l x W K hK
  gi_wp2
  exact hK
 case body =>
  rintro l' pre x W ⟨⟨A6, c6, hbox, hown⟩, hbl, hsw⟩ hpl
  have HBOX := zH hbox; have HOWN := zH hown; have HBL := zH hbl
  have v0 : W.cell? ⟨w.heap.size, 0, none⟩ = some (.slice A6 pre.length c6) := by rw [zC hbox]; rfl
  have vf : W.frozen? ⟨w.heap.size, 0, none⟩ = false := zF hbox 0
  clear hbox hown hbl
  gi_wp2_with (first
   | (gi_at_builtin; refine apsIn1 rfl (.tmp 8) (.tmp 10) rfl W _ (w.heap.size + 1) A6 pre.length c6 pre (by rfl) HOWN.out hsw x (by rfl) (by rfl) (by omega) ?_; intro A7 c7 w7 hown7 hg7; have HO7 := zH hown7; have HG7 : Hid (W.grownBy w7 (A6.map (·.block))) := zH (uuN (qzF (zzj (Below.refl _ W)) _) hg7); have v7 : w7.cell? ⟨w.heap.size, 0, none⟩ = some (.slice A6 pre.length c6) := HG7.out.cell v0 (fun e => by obtain ⟨_, _, _, _, h8⟩ := yyw HOWN.out e.symm; have h9 : w.heap.size + 1 ≤ w.heap.size := h8; omega); have vf7 : w7.frozen? ⟨w.heap.size, 0, none⟩ = false := zF (HG7.out.block (w.heap.size) (by omega) (fun e => by obtain ⟨_, _, _, _, h8⟩ := yyw HOWN.out e.symm; omega) |>.trans HBOX.out) 0; clear hown7 hg7)
   | fail)
  have hA6 : ∀ k, A6.map (·.block) = some k → w.heap.size + 1 ≤ k := fun k e => by obtain ⟨_, _, _, _, h8⟩ := yyw HOWN.out e; exact h8
  have hsz7 := HG7.out.size
  have e7 : (pre ++ [x]).length = pre.length + 1 := by simp
  refine ⟨((KeepsOthers.of_grownBy HG7.out fun j o hj ho => by obtain ⟨cur, e1, fr, h8, _⟩ := yyw HOWN.out hj; rw [h8] at ho; injection ho with ho; subst ho; rfl).trans (KeepsOthers.setCell _ _ _)).from _, ⟨by simpa using hsz7, fun b hb => (Below.heap_setCell _ _ _ _ (by simp; omega)).trans (HG7.out.block b (by omega) (fun e => by have := hA6 _ e.symm; omega))⟩, ?_⟩
  refine ⟨⟨A7, c7, ?_, ?_⟩, ?_, by simp; omega⟩
  · rw [e7]
    exact zza ((HG7.out.block (w.heap.size) (by omega) (fun e => by have := hA6 _ e.symm; omega)).trans HBOX.out) rfl
  · rw [e7]
    refine zzW HO7.out (fun b hb => Below.heap_setCell _ _ _ _ ?_)
    have h8 := (HO7.out.lt b hb).1
    simp
    omega
  · exact zzd (HBL.out.grown HG7.out (by omega) (fun k e => by have := hA6 k e; omega)) zN _
 case done =>
  rintro D ys W hD rfl ⟨⟨A6, c6, hbox, hown⟩, hbl, hsw⟩ hK
  have v0 : W.cell? ⟨w.heap.size, 0, none⟩ = some (.slice A6 ys.length c6) := by rw [zC hbox]; rfl
  have HOWN := zH hown; have HBL := zH hbl; have HKD := zH hK
  clear hbox hown hbl hK
  gi_wp2
  refine ⟨by simp, .inl ⟨_, _, rfl, run_takeDeferred HKD.out, ?_⟩⟩
  have hp := grownBy_putObj' W D (.deferred none)
  refine ⟨_, results_tmp rfl _ _ _, A6, c6, by rw [HLEN.out]; rfl, ?_, HBL.out.grown hp (by omega) (fun k e => by injection e with e; omega)⟩
  rw [HLEN.out]
  refine vva (zzW HOWN.out fun b hb => World.putObj_heap_other (fun e => ?_)) (Nat.le_succ _)
  rw [zzg] at hb
  obtain ⟨cur, ty, fr, h8, _⟩ := yyw HOWN.out hb
  rw [e, HKD.out] at h8
  cases h8
 case stop =>
  rintro D c pre W hD _ h
  exact h.elim
end
section
open Go Go.RowKit Go.Sort
def mkS (b : List UInt8) : ByteArray := ⟨b.toArray⟩
def zzl (l : List ByteArray) : List (List UInt8) := l.map (·.data.toList)
theorem mk_bytes (l : List ByteArray) : (zzl l).map mkS = l := by
 unfold zzl
 rw [List.map_map]
 conv => rhs; rw [← List.map_id l]
 rfl
theorem bytes_mk (l : List (List UInt8)) : zzl (l.map mkS) = l := by
 unfold zzl
 rw [List.map_map]
 conv => rhs; rw [← List.map_id l]
 apply List.map_congr_left
 intro b _
 simp [mkS]
theorem svs_mk (l : List (List UInt8)) : svs (l.map mkS) = l.map encStr := by
 unfold svs
 rw [List.map_map]
 rfl
theorem kqK (l : List ByteArray) : svs l = (zzl l).map encStr := by rw [← svs_mk, mk_bytes]
def xx2 (l : List (List UInt8)) : List (List UInt8) := l.mergeSort fun x y => decide (x ≤ y)
def zzR (l : List ByteArray) : List (List UInt8) := Lib.compact (xx2 (zzl l))
theorem OwnS.len {w : World} {B : Nat} {A : Option Addr} {n c : Nat} {l : List ByteArray} (h : OwnS w B A n c l) : n = l.length := by
 have := h.1
 unfold svs at this
 simp at this
 omega
theorem qxr {w : World} {B : Nat} {A : Option Addr} {n c : Nat} {l : List ByteArray} (h : OwnS w B A n c l) {k : Nat} (hk : k ≤ n) (hA : A ≠ none) : OwnS w B A k c (l.take k) := by
 have hl := h.len
 refine ⟨by unfold svs; simp; omega, ?_⟩
 rcases h.2 with ⟨h1, h2⟩ | ⟨g, cap, cur, h1, hb, hg, hn, hc, hs, ht⟩
 · injection h1 with h1; exact absurd h1 hA
 · injection h1 with e1 e2 e3; subst e1 e3
   refine .inr ⟨g, c, cur, rfl, hb, hg, by omega, hc, hs, ?_⟩
   have e4 : svs (l.take k) = (svs l).take (k * 1) := by unfold svs; rw [List.map_take, Nat.mul_one]
   rw [e4, ← ht, List.take_take, Nat.min_eq_left (Nat.mul_le_mul_right 1 hk)]
theorem sort_any (B : Nat) (A : Option Addr) (n c : Nat) (l : List ByteArray) (w : World) (h : OwnS w B A n c l) (hB : B ≤ w.heap.size) (hn : n ≤ 4096) :
 Calls Tryz.prog 208 #[.slice A n c] w fun e w' => e = .returned (.tuple #[]) ∧ OwnS w' B A n c ((xx2 (zzl l)).map mkS) ∧ Below B w w' := by
 have hl := h.len
 have hlen : (zzl l).length = n := by unfold zzl; simp; omega
 rcases h.2 with ⟨h1, h2⟩ | ⟨g, cap, cur, h1, hb, hg, hnc, hc, hs, ht⟩
 · injection h1 with e1 e2 e3
   subst e1 e3 h2
   have : l = [] := List.length_eq_zero_iff.1 hl.symm
   subst this
   refine (Tryz.slices_Sort_string_none none 0 w).mono ?_
   rintro e w' ⟨rfl, rfl⟩
   exact ⟨rfl, by simpa [zzl, xx2] using h, zR⟩
 · injection h1 with e1 e2 e3
   subst e1 e3
   have hH : Holds encStr w g 0 (zzl l).toArray := holds_of_block hg (by rw [hlen, ← kqK, ← ht, Nat.mul_one])
   have hgl : g < w.heap.size := (Array.getElem?_eq_some_iff.1 hg).1
   have hC := Tryz.slices_Sort_string g 0 c (zzl l) w hH hgl (by omega)
   rw [hlen] at hC
   refine hC.mono ?_
   rintro e w' ⟨rfl, q, os, rfl⟩
   have hr := ownsRow_sorted (n := q) (os := os) (ss := zzl l) (ts := xx2 (zzl l)) (by simp [xx2]) hb hg (by omega) hc hs
   rw [hlen, ← svs_mk] at hr
   exact ⟨rfl, hr, (Below.refl B w).grown (grownBy_sorted _) hB (fun j hj => by cases hj; exact hb)⟩
theorem uuO (zs : List (List UInt8)) : (Lib.compact zs).length ≤ zs.length := by
 unfold Lib.compact Lib.compactUpTo
 rw [List.length_map]
 exact Nat.le_trans (List.length_filter_le _ _) (by simp)
theorem qzG (B : Nat) (A : Option Addr) (n c : Nat) (l : List ByteArray) (w : World) (h : OwnS w B A n c l) (hB : B ≤ w.heap.size) (hn : n ≤ 4096) :
 Calls Tryz.prog 164 #[.slice A n c] w fun e w' => e = .returned (.slice A (Lib.compact (zzl l)).length c) ∧ OwnS w' B A (Lib.compact (zzl l)).length c ((Lib.compact (zzl l)).map mkS) ∧ Below B w w' := by
 have hl := h.len
 have hlen : (zzl l).length = n := by unfold zzl; simp; omega
 rcases h.2 with ⟨h1, h2⟩ | ⟨g, cap, cur, h1, hb, hg, hnc, hc, hs, ht⟩
 · injection h1 with e1 e2 e3
   subst e1 e3 h2
   have : l = [] := List.length_eq_zero_iff.1 hl.symm
   subst this
   refine (Tryz.slices_Compact_string_empty none 0 w).mono ?_
   rintro e w' ⟨rfl, rfl⟩
   exact ⟨rfl, h, zR⟩
 · injection h1 with e1 e2 e3
   subst e1 e3
   have hH : Holds encStr w g 0 (zzl l).toArray := holds_of_block hg (by rw [hlen, ← kqK, ← ht, Nat.mul_one])
   have hC := Tryz.slices_Compact_string g 0 c (zzl l) w hH (by omega) (by omega)
   rw [hlen] at hC
   refine hC.mono ?_
   rintro e w' ⟨rfl, q, hw⟩
   have hcl := uuO (zzl l)
   have hw2 : w' = grow (Go.Sort.putRow encStr (Sort.ahead w q) g 0 (Lib.compact (zzl l) ++ List.replicate (n - (Lib.compact (zzl l)).length) []).toArray) #[] := by rw [hw]; simp [grow]; rfl
   have hr := ownsRow_sorted (n := q) (os := #[]) (ss := zzl l) (ts := Lib.compact (zzl l) ++ List.replicate (n - (Lib.compact (zzl l)).length) []) (by simp; omega) hb hg (by omega) hc hs
   rw [← hw2, hlen, ← svs_mk] at hr
   have hf := qxr (A := some ⟨g, 0, none⟩) hr (k := (Lib.compact (zzl l)).length) (by omega) (by simp)
   rw [← List.map_take, List.take_left' rfl] at hf
   exact ⟨rfl, hf, by rw [hw2]; exact (Below.refl B w).grown (grownBy_sorted _) hB (fun j hj => by cases hj; exact hb)⟩
theorem qxs (A : Option Addr) (n c : Nat) (w : World) :
 Calls Tryz.prog 166 #[.slice A n c] w fun e w' => e = .returned (.func (.func 209) #[] #[.pointer (some ⟨w.heap.size, 0, none⟩)]) ∧ w' = w.alloc (.cells #[.slice A n c] 89) := by
 go_enter Tryz.func166, Tryz.ntmps166
 go_wp2_with fail
 go_ret
 exact ⟨rfl, rfl⟩
theorem qzH (bb : Nat) (F : Nat → Prop) (A : Option Addr) (m c : Nat) (xs : List ByteArray) (w : World) (h0 : w.cell? ⟨bb, 0, none⟩ = some (.slice A m c)) (hs : Sl tStr F w A m c xs) (hm : m ≤ 4096) :
 Calls Tryz.prog 207 #[.func (.func 209) #[] #[.pointer (some ⟨bb, 0, none⟩)]] w fun e W => ∃ A' c', e = .returned (.slice A' m c') ∧ OwnS W w.heap.size A' m c' xs ∧ Below w.heap.size w W := by
 have H := zH (qxq bb F A m c xs w h0 hs hm)
 clear h0 hs
 go_enter Tryz.func207, Tryz.ntmps207
 go_wp2_with (first
  | (go_at_call 251; refine H.out.mono ?_; rintro e w1 ⟨A1, c1, rfl, ho1, hb1⟩; have HO1 := zH ho1; have HB1 := zH hb1; clear ho1 hb1)
  | fail)
 go_ret
 exact ⟨A1, c1, rfl, HO1.out, HB1.out⟩
theorem qxt (bb : Nat) (F : Nat → Prop) (A : Option Addr) (m c : Nat) (xs : List ByteArray) (w : World) (h0 : w.cell? ⟨bb, 0, none⟩ = some (.slice A m c)) (hs : Sl tStr F w A m c xs) (hm : m ≤ 4096) :
 Calls Tryz.prog 165 #[.func (.func 209) #[] #[.pointer (some ⟨bb, 0, none⟩)]] w fun e W => ∃ A' c', e = .returned (.slice A' m c') ∧ OwnS W w.heap.size A' m c' ((xx2 (zzl xs)).map mkS) ∧ Below w.heap.size w W := by
 have H := zH (qzH bb F A m c xs w h0 hs hm)
 clear h0 hs
 go_enter Tryz.func165, Tryz.ntmps165
 go_wp2_with (first
  | (go_at_call 207; refine H.out.mono ?_; rintro e w1 ⟨A1, c1, rfl, ho1, hb1⟩; have HO1 := zH ho1; have HB1 := zH hb1; clear ho1 hb1)
  | (go_at_call 208; refine (sort_any w.heap.size A1 m c1 xs w1 HO1.out HB1.out.size hm).mono ?_; rintro e w2 ⟨rfl, ho2, hb2⟩; have HO2 := zH ho2; have HB2 := zH (HB1.out.trans hb2); clear ho2 hb2)
  | fail)
 go_ret
 exact ⟨A1, c1, rfl, HO2.out, HB2.out⟩
def zzp (l : List ByteArray) : List ByteArray := (zzR l).map mkS
theorem words_any (F : Nat → Prop) (A : Option Addr) (n c : Nat) (l : List ByteArray) (w : World) (h : Sl tStr F w A n c l) (hn : n ≤ 4096) :
 Calls Tryz.prog 99 #[.slice A n c] w fun e W => ∃ A' c', e = .returned (.slice A' (zzR l).length c') ∧ OwnS W w.heap.size A' (zzR l).length c' (zzp l) ∧ Below w.heap.size w W := by
 obtain ⟨w0, hw0⟩ : ∃ w0, w0 = w.alloc (.cells #[.slice A n c] 89) := ⟨_, rfl⟩
 have hb0 : Below w.heap.size w w0 := by rw [hw0]; exact (zR).alloc zN _
 have hc0 : w0.cell? ⟨w.heap.size, 0, none⟩ = some (.slice A n c) := by rw [hw0, World.cell?_alloc_new]; rfl
 have HS := zH (qxt w.heap.size F A n c l w0 hc0 (h.below hb0 zN) hn)
 have HB0 := zH hb0; have HW0 := zH hw0
 clear h hb0 hc0 hw0
 go_enter Tryz.func99, Tryz.ntmps99
 go_wp2_with (first
  | (go_at_call 166; refine (qxs A n c w).mono ?_; rintro e w1 ⟨rfl, hw1⟩; obtain rfl : w1 = w0 := hw1.trans HW0.out.symm; clear hw1)
  | (go_at_call 165; refine HS.out.mono ?_; rintro e w2 ⟨A2, c2, rfl, ho2, hb2⟩; have HO2 := zH (show OwnS w2 w.heap.size A2 n c2 _ from vva ho2 HB0.out.size); have HB2 := zH (HB0.out.trans (hb2.mono HB0.out.size)); clear ho2 hb2)
  | (go_at_call 164; refine (qzG w.heap.size A2 n c2 _ w2 HO2.out HB2.out.size hn).mono ?_; rintro e w3 ⟨rfl, ho3, hb3⟩; rw [bytes_mk] at ho3 ⊢; have HO3 := zH ho3; have HB3 := zH (HB2.out.trans hb3); clear ho3 hb3)
  | fail)
 go_ret
 exact ⟨A2, c2, rfl, HO3.out, HB3.out⟩
end
section
open Go Go.RowKit Go.Maps
def plD (H : Type) (ws : List (List UInt8)) : Nat → DataW H
 | 0 => .map []
 | k + 1 => (plD H ws k).put (.string (ws.getD k [])) (.lit (.int .i64 (k : Int)))
theorem uuP (s : List UInt8) : WideAt.IsKeyLit (.string s) := trivial
theorem kqL {ws : List (List UInt8)} (hn : ws.Nodup) {i j : Nat} (hi : i < ws.length) (hj : j < ws.length) (e : ws[i] = ws[j]) : i = j := by
 rcases Nat.lt_trichotomy i j with h | h | h
 · exact absurd e (List.pairwise_iff_getElem.1 hn i j hi hj h)
 · exact h
 · exact absurd e.symm (List.pairwise_iff_getElem.1 hn j i hj hi h)
theorem uub (H : Type) (ws : List (List UInt8)) : ∀ k, Tidy (plD H ws k)
 | 0 => tidy_empty
 | k + 1 => (uub H ws k).put (uuP _) _
theorem vvK {ws : List (List UInt8)} {k : Nat} (h : k < ws.length) : ws.getD k [] = ws[k] := by
 rw [List.getD_eq_getElem?_getD, List.getElem?_eq_getElem h]; rfl
theorem plD_has (H : Type) (ws : List (List UInt8)) (s : List UInt8) : ∀ k, k ≤ ws.length → (has (plD H ws k) (.string s) = decide (s ∈ ws.take k))
 | 0, _ => by simp [plD, has]
 | k + 1, hk => by
   have ih := plD_has H ws s k (by omega)
   have hkl : k < ws.length := by omega
   rw [plD, vvK hkl, zT hkl]
   by_cases h : s = ws[k]
   · subst h
     rw [has_put_same (uub H ws k).isMap (uuP _)]
     symm
     rw [decide_eq_true_eq, List.mem_append, List.mem_singleton]
     exact .inr rfl
   · rw [has_put_other (by intro e; injection e with e; exact h e), ih, decide_eq_decide, List.mem_append, List.mem_singleton]
     exact ⟨.inl, fun h' => h'.resolve_right h⟩
theorem zqz (H : Type) (ws : List (List UInt8)) (hn : ws.Nodup) : ∀ k, k ≤ ws.length → Maps.size (plD H ws k) = k
 | 0, _ => rfl
 | k + 1, hk => by
   have ih := zqz H ws hn k (by omega)
   have hkl : k < ws.length := by omega
   have hno : has (plD H ws k) (.string ws[k]) = false := by
    rw [plD_has H ws _ k (by omega)]
    simp only [decide_eq_false_iff_not]
    intro hm
    obtain ⟨i, hi, he⟩ := List.getElem_of_mem hm
    rw [List.getElem_take] at he
    rw [List.length_take] at hi
    have := kqL hn (by omega) hkl he
    omega
   rw [plD, vvK hkl, size_put (uub H ws k), hno, ih]
   rfl
theorem plD_at (H : Type) (ws : List (List UInt8)) (hn : ws.Nodup) (z : DataW H) : ∀ k, k ≤ ws.length → ∀ i, i < k → (plD H ws k).atKey (.string (ws.getD i [])) z = .lit (.int .i64 (i : Int))
 | k + 1, hk, i, hi => by
   have hkl : k < ws.length := by omega
   have hil : i < ws.length := by omega
   rw [plD]
   by_cases h : i = k
   · subst h
     rw [atKey_put_same (uub H ws i).isMap (uuP _)]
   · rw [atKey_put_other]
     · exact plD_at H ws hn z k (by omega) i (by omega)
     · intro e
       injection e with e
       rw [vvK hil, vvK hkl] at e
       exact h (kqL hn hil hkl e)
theorem xxg (d : Array (List UInt8)) : ∀ m, m ≤ d.size → ∀ x, (x ∈ Lib.compactUpTo d m ↔ ∃ i, i < m ∧ d[i]! = x)
 | 0, _, x => by simp [Lib.compactUpTo]
 | m + 1, hm, x => by
   have ih := xxg d m (by omega) x
   rw [Lib.compactUpTo_succ, List.mem_append, ih]
   constructor
   · rintro (⟨i, hi, he⟩ | h)
     · exact ⟨i, by omega, he⟩
     · split at h
       · exact ⟨m, by omega, (List.mem_singleton.1 h).symm⟩
       · cases h
   · rintro ⟨i, hi, he⟩
     rcases Nat.lt_or_ge i m with h | h
     · exact .inl ⟨i, h, he⟩
     · obtain rfl : i = m := by omega
       by_cases hk : Lib.keeps d i = true
       · right
         rw [if_pos hk, ← he]
         exact List.mem_singleton.2 rfl
       · left
         have hk2 : ¬ (i = 0 ∨ d[i]! ≠ d[i - 1]!) := by simpa [Lib.keeps] using hk
         have h0 : i ≠ 0 := fun e => hk2 (.inl e)
         have h1 : d[i]! = d[i - 1]! := Classical.byContradiction fun e => hk2 (.inr e)
         exact ⟨i - 1, by omega, by rw [← h1, he]⟩
theorem qzI (zs : List (List UInt8)) (x : List UInt8) : x ∈ Lib.compact zs ↔ x ∈ zs := by
 unfold Lib.compact
 rw [xxg zs.toArray zs.length (by simp) x]
 constructor
 · rintro ⟨i, hi, rfl⟩
   simp [getElem!_pos, hi]
 · intro h
   obtain ⟨i, hi, rfl⟩ := List.getElem_of_mem h
   exact ⟨i, hi, by simp [getElem!_pos, hi]⟩
theorem kqM (l : List ByteArray) (x : List UInt8) : x ∈ zzR l ↔ x ∈ zzl l := by
 unfold zzR xx2
 rw [qzI]
 exact (List.mergeSort_perm _ _).mem_iff
end
section
open Go Go.RowKit
theorem qxu (l : List (List UInt8)) : (xx2 l).Pairwise (fun a b => a ≤ b) := by
 have tr : ∀ a b c : List UInt8, decide (a ≤ b) = true → decide (b ≤ c) = true → decide (a ≤ c) = true := fun a b c h1 h2 => by
  simp only [decide_eq_true_eq] at h1 h2 ⊢; exact List.le_trans h1 h2
 have tot : ∀ a b : List UInt8, (decide (a ≤ b) || decide (b ≤ a)) = true := fun a b => by simp only [Bool.or_eq_true, decide_eq_true_eq]; exact List.le_total a b
 exact (List.pairwise_mergeSort tr tot l).imp fun {a b} h => by simpa using h
theorem xxU (d : Array (List UInt8)) (hs : ∀ i j, i ≤ j → j < d.size → d[i]! ≤ d[j]!) : ∀ m, m ≤ d.size → (Lib.compactUpTo d m).Pairwise (fun a b => a ≤ b ∧ a ≠ b)
 | 0, _ => by simp [Lib.compactUpTo]
 | m + 1, hm => by
   have ih := xxU d hs m (by omega)
   rw [Lib.compactUpTo_succ, List.pairwise_append]
   refine ⟨ih, by split <;> simp, fun x hx y hy => ?_⟩
   split at hy
   · rename_i hk
     obtain rfl := List.mem_singleton.1 hy
     obtain ⟨i, hi, rfl⟩ := (xxg d m (by omega) x).1 hx
     refine ⟨hs i m (by omega) (by omega), fun e => ?_⟩
     have hk2 : m = 0 ∨ d[m]! ≠ d[m - 1]! := by simpa [Lib.keeps] using hk
     rcases hk2 with h | h
     · omega
     · have h1 := hs i (m - 1) (by omega) (by omega)
       have h2 := hs (m - 1) m (by omega) (by omega)
       rw [e] at h1
       exact h (List.le_antisymm h1 h2)
   · cases hy
theorem qxv (l : List ByteArray) : (zzR l).Pairwise (fun a b => a ≤ b ∧ a ≠ b) := by
 unfold zzR Lib.compact
 refine xxU _ (fun i j hij hj => ?_) _ (by simp)
 have hj' : j < (xx2 (zzl l)).length := by simpa using hj
 have hi' : i < (xx2 (zzl l)).length := by omega
 have e1 : (xx2 (zzl l)).toArray[i]! = (xx2 (zzl l))[i] := by simp [getElem!_pos, hi']
 have e2 : (xx2 (zzl l)).toArray[j]! = (xx2 (zzl l))[j] := by simp [getElem!_pos, hj']
 rw [e1, e2]
 rcases Nat.eq_or_lt_of_le hij with h | h
 · subst h; exact List.le_refl _
 · exact List.pairwise_iff_getElem.1 (qxu _) i j hi' hj' h
theorem uuQ (l : List ByteArray) : (zzR l).Nodup := (qxv l).imp fun h => h.2
def yyk (l : List ByteArray) (s : ByteArray) : Nat := (zzR l).idxOf s.data.toList
theorem uuc (l : List ByteArray) {s : ByteArray} (h : s ∈ l) : yyk l s < (zzR l).length :=
 List.idxOf_lt_length_of_mem ((kqM l _).2 (List.mem_map.2 ⟨s, h, rfl⟩))
theorem place_get (l : List ByteArray) {s : ByteArray} (h : s ∈ l) : (zzR l).getD (yyk l s) [] = s.data.toList := by
 rw [vvK (uuc l h)]
 exact List.getElem_idxOf (uuc l h)
theorem kqN (l : List ByteArray) : (zzR l).length ≤ l.length := by
 refine Nat.le_trans (uuO _) ?_
 unfold xx2 zzl
 simp
end
section
open Go Go.RowKit
def zzK (l : List ByteArray) : List UInt8 := (zzl l).flatten
theorem jj2 : ∀ l : List (List UInt8), Lib.join l [] = l.flatten
 | [] => rfl
 | [x] => by simp [Lib.join]
 | x :: y :: r => by
   have ih := jj2 (y :: r)
   have e : List.intersperse ([] : List UInt8) (x :: y :: r) = x :: [] :: List.intersperse [] (y :: r) := rfl
   unfold Lib.join List.intercalate at ih ⊢
   rw [e, List.flatten_cons, List.flatten_cons, ih, List.nil_append]
   rfl
theorem yy4 : ∀ l : List ByteArray, (∀ s ∈ l, s.size ≤ 300) → (zzK l).length ≤ 300 * l.length
 | [], _ => by simp [zzK, zzl]
 | x :: r, h => by
   have ih := yy4 r (fun s hs => h s (List.mem_cons_of_mem _ hs))
   have hx := h x (List.mem_cons_self ..)
   have e : (zzK (x :: r)).length = x.data.toList.length + (zzK r).length := by simp [zzK, zzl]
   have e2 : x.data.toList.length = x.size := by rw [Array.length_toList]; rfl
   rw [e, List.length_cons]
   omega
theorem zqA (F : Nat → Prop) (A : Option Addr) (n c : Nat) (l : List ByteArray) (w : World) (h : Sl tStr F w A n c l) (hn : n ≤ 4096) (hs : ∀ s ∈ l, s.size ≤ 300) :
 Calls Tryz.prog 100 #[.slice A n c, .string ⟨#[]⟩] w fun e w' => e = .returned (.string (mkS (zzK l))) ∧ Below w.heap.size w w' := by
 have hl := h.len
 cases A with
 | none =>
   have hl0 : l = [] := by
    cases l with
    | nil => rfl
    | cons x r => obtain ⟨b, o, _, e, _⟩ := h.at1 (k := 0) (by simp) rfl; cases e
   subst hl0
   obtain rfl : n = 0 := hl
   refine (Tryz.strings_Join_none none c ⟨#[]⟩ w).mono ?_
   rintro e w' ⟨he, hw⟩
   exact ⟨by rw [he]; rfl, by first | exact hw | (rw [hw]; exact zR)⟩
 | some a =>
   by_cases hl0 : l = []
   · subst hl0
     obtain rfl : n = 0 := hl
     refine (Tryz.strings_Join_none (some a) c ⟨#[]⟩ w).mono ?_
     rintro e w' ⟨he, hw⟩
     exact ⟨by rw [he]; rfl, by first | exact hw | (rw [hw]; exact zR)⟩
   · have hlp : 0 < l.length := List.length_pos_iff.2 hl0
     obtain ⟨b, o, u0, e0, _, hbl, _, _⟩ := h.at1 (k := 0) hlp rfl
     injection e0 with e0
     subst e0
     have hcells : ∀ (j : Nat) x, l[j]? = some x → w.cell? ⟨b, o + j, none⟩ = some (.string x) := fun j x hx => by
      obtain ⟨hj, rfl⟩ := List.getElem?_eq_some_iff.1 hx
      obtain ⟨b2, o2, u, e2, _, _, hr, hc⟩ := h.at1 hj rfl
      injection e2 with e2; injection e2 with e3 e4 _; subst e3; subst e4
      obtain ⟨hr, _⟩ := hr
      injection hr with hr; subst hr
      exact hc
     have hJ := Tryz.strings_Join b o c l ⟨#[]⟩ w hcells hbl (by omega) (by have := h.2.1; omega) (by
      show (Lib.join (zzl l) []).length ≤ _
      rw [jj2]
      have := yy4 l hs
      unfold zzK at this
      omega)
     rw [← hl] at hJ
     refine hJ.mono ?_
     rintro e w' ⟨he, hw⟩
     refine ⟨?_, hw⟩
     rw [he]
     show Ending.returned (.string ⟨(Lib.join (zzl l) []).toArray⟩) = _
     rw [jj2]
     rfl
end
section
open Go Go.RowKit
attribute [local go_sem ↓] Go.wp_at_zero Go.wp_at_succ
theorem vvO (g : Nat) (m enc tx : Int) (F : Nat → Prop) (A : Option Addr) (n c : Nat) (ss : List (Int × List UInt8)) (w : World) (hT : TabC g w) (h : Sl zzm F w A n c ss) (hn : n ≤ 1000) (hl : wlen (zzI m enc tx ss) ≤ 4294967000) :
 Calls Tryz.prog 29 #[.pointer (some ⟨g, 0, none⟩), .agg #[.int .i64 m, .int .i64 enc, .int .i64 tx, .slice A n c]] w (Own1 w (yyN m enc tx ss)) := by
 have HL := zH h.len; have HT := zH hT; have HH := zH (h.weaken (F' := fun b => b < w.heap.size) fun b _ hl => hl)
 have HW := zH (show wlen (zzI m enc tx ss) ≤ 4294967100 by omega)
 have HN := zH hn
 clear h hT hl
 go_enter Tryz.func29, Tryz.ntmps29
 go_wp2_with fail
 go_cut [5] from 8 to 17 (fun x wx => ∃ b G, x = .slice (some ⟨b, 0, none⟩) 3 3 ∧ OwnF tFld 114 G wx w.heap.size (some ⟨b, 0, none⟩) 3 3 [unum 1 m, unum 2 enc, unum 3 tx] ∧ Below w.heap.size w wx ∧ wx.cell? ⟨w.heap.size, 3, none⟩ = some (.slice A n c))
 case first =>
  go_region_held3 (fun w' => w'.cell? ⟨w.heap.size, 0, none⟩ = some (.int .i64 m) ∧ w'.cell? ⟨w.heap.size, 1, none⟩ = some (.int .i64 enc) ∧ w'.cell? ⟨w.heap.size, 2, none⟩ = some (.int .i64 tx) ∧ w'.cell? ⟨w.heap.size, 3, none⟩ = some (.slice A n c))
   (first | go_keep | (go_split_ands; refine ⟨?_, ?_, ?_, ?_⟩ <;> exact zzh (by assumption) (by assumption)))
   (first
     | (go_at_call_of 60 (Value.int .i64 1); refine (uua _ _ _).mono ?_; rintro e w1 ⟨rfl, hb1⟩)
     | (go_at_call_of 60 (Value.int .i64 2); refine (uua _ _ _).mono ?_; rintro e w2 ⟨rfl, hb2⟩)
     | (go_at_call_of 60 (Value.int .i64 3); refine (uua _ _ _).mono ?_; rintro e w3 ⟨rfl, hb3⟩)
     | fail)
  all_goals
   go_wp2_with fail
   go_split_ands
   go_meet
   have hbw : Below w.heap.size w w3 := by (repeat (first | exact zR | assumption | refine zqX ?_ (by assumption) | refine jjb ?_ _ | refine zqY ?_))
   exact ⟨_, _, rfl, OwnF.newL (T := tFld) (n := 3) (F := fun _ => False) (Reps.mk3 (yyO (by unfold i64; omega)) (yyO (by unfold i64; omega)) (yyO (by unfold i64; omega))) hbw.size rfl (by omega) _ rfl, (by (repeat (first | exact zR | assumption | refine zqX ?_ (by assumption) | refine jjb ?_ _ | refine zqY ?_))), (by assumption)⟩
 case rest =>
  obtain ⟨b, G, rfl, ho, hb0, hc3⟩ := hcut
  have HO0 := zH ho; have HB0 := zH hb0
  clear ho hb0
  go_wp2_with fail
  go_loopw [5, 21] (fun v iv wr => ∃ (k : Nat) (A2 : Option Addr) (c2 : Nat) (G : Nat → Prop), k ≤ n ∧ iv = .int .i64 (k : Int) ∧ v = .slice A2 (3 + 2 * k) c2 ∧ OwnF tFld 114 G wr w.heap.size A2 (3 + 2 * k) c2 (zzI m enc tx (ss.take k)) ∧ Below w.heap.size w wr) (fun _ iv _ => n - (intOf iv).toNat)
  case atStart => exact ⟨0, _, _, _, Nat.zero_le _, rfl, rfl, HO0.out, HB0.out⟩
  case round =>
   clear hc3
   obtain ⟨k, A2, c2, G2, hk, rfl, rfl, ho, hb⟩ := hrel
   have HO := zH ho; have HB := zH hb
   have hsz := hb.size
   clear ho hb
   by_cases hlt : k < n
   · have hkl : k < ss.length := by rw [← HL.out]; exact hlt
     obtain ⟨b8, o8, cs, rfl, _, hbl, hrep, hc⟩ := (HH.out.below HB.out zN).at_ hkl (by decide)
     obtain ⟨x, hf⟩ : ∃ x, x = ss[k] := ⟨_, rfl⟩
     obtain ⟨kk, bs⟩ := x
     rw [← hf] at hrep
     have HS := zH (show zzI m enc tx (ss.take (k + 1)) = zzI m enc tx (ss.take k) ++ [unum 4 kk, ftxt 5 bs] by rw [uuM m enc tx ss hkl, ← hf]; rfl)
     obtain ⟨d1, d2, rfl, ⟨h1, h1'⟩, A8, n8, c8, h2, hsl⟩ := hrep
     subst h1 h2
     obtain ⟨g0, g1⟩ := xxS hc
     have g0 : _ = some (Value.int .i64 kk) := g0
     have g1 : _ = some (Value.slice A8 n8 c8) := g1
     have HSL := zH hsl
     have hi0 : (0 : Int) ≤ (k : Int) := by omega
     have hi1 : (k : Int) < (n : Int) := by omega
     have hk4 : 3 + 2 * k ≤ 4000 := by have := HN.out; omega
     clear hc hf hsl h1'
     go_upto_region 5 with fail
     go_region_held3 (fun w' => w'.cell? ⟨wr.heap.size, 0, none⟩ = some (.int .i64 kk) ∧ w'.cell? ⟨wr.heap.size, 1, none⟩ = some (.slice A8 n8 c8))
      (first | go_keep | (go_split_ands; refine ⟨?_, ?_⟩ <;> exact zzh (by assumption) (by assumption)) | (go_split_ands; refine ⟨?_, ?_⟩ <;> exact hg9.cell (by assumption) (HO.out.offNew zN)))
      (first
        | (go_at_call 60; refine (uua _ _ _).mono ?_; rintro e w4 ⟨rfl, hb4⟩)
        | (go_at_call 61; refine (qxn _ _ _ _ _).mono ?_; rintro e w5 ⟨rfl, hb5⟩)
        | (have hbw : Below wr.heap.size wr w5 := (by (repeat (first | exact zR | assumption | refine zqX ?_ (by assumption) | refine jjb ?_ _ | refine zqY ?_)))
           refine vvb (T := tFld) zqy (w5.alloc _) w rfl (.tmp 25) (.tmp 32) rfl w.heap.size A2 (3 + 2 * k) c2 (zzI m enc tx (ss.take k)) rfl G2 (fun b => (b < w.heap.size ∧ b < w5.heap.size) ∨ b = w5.heap.size) ((HO.out.keepB hbw).alloc _) ((HB.out.trans (hbw.mono hsz)).alloc (by have := hbw.size; omega) _) zN
            (some ⟨w5.heap.size, 0, none⟩) 2 2 [unum 4 kk, ftxt 5 bs] rfl (Sl.news (T := tFld) (F := fun b => b < w.heap.size) (Reps.mk2 (yyO (by unfold i64; omega)) ⟨A8, n8, c8, rfl, by unfold i64; simp [ftxt], by simp [ftxt], HSL.out.below hbw zN⟩) 114 2 rfl (by omega) _ rfl)
            (fun b h1 h2 _ h4 => by obtain ⟨_, _, e3⟩ := HO.out.lies (b := b) (by simp [Value.ownBlock, h1]); have := hbw.size; omega) (by omega) ?_
           intro A9 c9 w9 h9; have hg9 := h9.grown))
     all_goals
      go_wp2_with fail
      go_roundw
      case rel =>
       have e2 := h9.own
       rw [← HS.out] at e2
       exact ⟨k + 1, A9, c9, _, by omega, by go_num, by rw [show 3 + 2 * (k + 1) = 3 + 2 * k + 2 by omega], by rw [show 3 + 2 * (k + 1) = 3 + 2 * k + 2 by omega]; exact e2, h9.below⟩
      case measure => simp [intOf]; omega
   · obtain rfl : k = n := by omega
     have e1 : ss.take k = ss := zL (by rw [← HL.out]; exact Nat.le_refl _)
     rw [e1] at HO
     have hk4 : 3 + 2 * k ≤ 4294967296 := by have := HN.out; omega
     clear e1
     go_wp2_with (first
      | (go_at_call 63; refine (qxo g _ A2 (3 + 2 * k) c2 (zzI m enc tx ss) _ (HT.out.keep HB.out) HO.out.sl hk4 HW.out).mono ?_; rintro e w2 ⟨A3, n3, c3, rfl, ho3, hb3⟩; have HO3 := zH ho3; have HB3 := zH hb3; clear ho3 hb3)
      | fail)
     go_ret
     exact ⟨A3, n3, c3, rfl, HO3.out.down hsz, HB.out.trans (HB3.out.mono hsz)⟩
theorem jj3 (m enc tx : Int) (F : Nat → Prop) (A : Option Addr) (n c : Nat) (ss : List (Int × List UInt8)) (w : World) (h : Sl zzm F w A n c ss) (hn : n ≤ 1000) (hl : wlen (zzI m enc tx ss) ≤ 4294967000) :
 Calls Tryz.prog 30 #[.agg #[.int .i64 m, .int .i64 enc, .int .i64 tx, .slice A n c]] w (Own1 w (yyN m enc tx ss)) := by
 have HL := zH h.len; have HH := zH (h.weaken (F' := fun b => b < w.heap.size) fun b _ hl => hl)
 have HW := zH (show wlen (zzI m enc tx ss) ≤ 4294967200 by omega)
 have HWL := zH (Nat.le_trans (jjJ (zzI m enc tx ss)) hl)
 have HN := zH hn
 clear h hl
 go_enter Tryz.func30, Tryz.ntmps30
 go_wp2_with fail
 go_cut [3] from 7 to 16 (fun x wx => ∃ b G, x = .slice (some ⟨b, 0, none⟩) 3 3 ∧ OwnF tFld 120 G wx (w.heap.size + 1) (some ⟨b, 0, none⟩) 3 3 [unum 1 m, unum 2 enc, unum 3 tx] ∧ Below w.heap.size w wx ∧ wx.cell? ⟨w.heap.size, 3, none⟩ = some (.slice A n c))
 case first =>
  go_region_held3 (fun w' => w'.cell? ⟨w.heap.size, 0, none⟩ = some (.int .i64 m) ∧ w'.cell? ⟨w.heap.size, 1, none⟩ = some (.int .i64 enc) ∧ w'.cell? ⟨w.heap.size, 2, none⟩ = some (.int .i64 tx) ∧ w'.cell? ⟨w.heap.size, 3, none⟩ = some (.slice A n c))
   (first | go_keep | (go_split_ands; refine ⟨?_, ?_, ?_, ?_⟩ <;> exact zzh (by assumption) (by assumption)))
   (first
     | (go_at_call_of 64 (Value.int .i64 1); refine (xxN _ _ _).mono ?_; rintro e w1 ⟨rfl, hb1⟩)
     | (go_at_call_of 64 (Value.int .i64 2); refine (xxN _ _ _).mono ?_; rintro e w2 ⟨rfl, hb2⟩)
     | (go_at_call_of 64 (Value.int .i64 3); refine (xxN _ _ _).mono ?_; rintro e w3 ⟨rfl, hb3⟩)
     | fail)
  all_goals
   go_wp2_with fail
   go_split_ands
   go_meet
   have hbw : Below w.heap.size w w3 := by (repeat (first | exact zR | assumption | refine zqX ?_ (by assumption) | refine jjb ?_ _ | refine zqY ?_))
   exact ⟨_, _, rfl, OwnF.newL (T := tFld) (n := 3) (F := fun _ => False) (Reps.mk3 (yyO (by unfold i64; omega)) (yyO (by unfold i64; omega)) (yyO (by unfold i64; omega))) (by have := hb1.size; have := hb2.size; have := hb3.size; simp at *; omega) rfl (by omega) _ rfl, (by (repeat (first | exact zR | assumption | refine zqX ?_ (by assumption) | refine jjb ?_ _ | refine zqY ?_))), (by assumption)⟩
 case rest =>
  obtain ⟨b, G, rfl, ho, hb0, hc3⟩ := hcut
  obtain ⟨wb, hwb⟩ : ∃ wb, wb = wc := ⟨_, rfl⟩
  rw [← hwb] at ho hb0 hc3 ⊢
  have HO0 := zH ho; have HB0 := zH hb0; have HC3 := zH hc3
  clear ho hb0 hc3 hwb
  have HZB := zH (show w.heap.size + 1 ≤ wb.heap.size by have := World.block_lt_of_cell? wb _ HC3.out; exact this)
  go_wp2_with fail
  go_loopw [3, 4] (fun v iv wr => ∃ (k : Nat) (A2 : Option Addr) (c2 : Nat) (G : Nat → Prop), k ≤ n ∧ iv = .int .i64 (k : Int) ∧ v = .slice A2 (3 + 2 * k) c2 ∧ OwnF tFld 120 G wr (w.heap.size + 1) A2 (3 + 2 * k) c2 (zzI m enc tx (ss.take k)) ∧ Below (w.heap.size + 1) wb wr) (fun _ iv _ => n - (intOf iv).toNat)
  case atStart => exact ⟨0, _, _, _, Nat.zero_le _, rfl, rfl, HO0.out, zR⟩
  case round =>
   obtain ⟨k, A2, c2, G2, hk, rfl, rfl, ho, hb⟩ := hrel
   have HO := zH ho; have HBW := zH hb
   have HB := zH (HB0.out.trans (hb.mono (Nat.le_succ _)))
   have hsz := hb.size
   have hq3 : wr.cell? ⟨w.heap.size, 3, none⟩ = some (.slice A n c) := (hb.cell (p := ⟨w.heap.size, 3, none⟩) (Nat.lt_succ_self _)).trans HC3.out
   have HQ3 := zH hq3
   clear ho hb
   by_cases hlt : k < n
   · have hkl : k < ss.length := by rw [← HL.out]; exact hlt
     obtain ⟨b8, o8, cs, rfl, _, hbl, hrep, hc⟩ := (HH.out.below HB.out zN).at_ hkl (by decide)
     obtain ⟨x, hf⟩ : ∃ x, x = ss[k] := ⟨_, rfl⟩
     obtain ⟨kk, bs⟩ := x
     rw [← hf] at hrep
     have HS := zH (show zzI m enc tx (ss.take (k + 1)) = zzI m enc tx (ss.take k) ++ [unum 4 kk, ftxt 5 bs] by rw [uuM m enc tx ss hkl, ← hf]; rfl)
     obtain ⟨d1, d2, rfl, ⟨h1, h1'⟩, A8, n8, c8, h2, hsl⟩ := hrep
     subst h1 h2
     obtain ⟨g0, g1⟩ := xxS hc
     have g0 : _ = some (Value.int .i64 kk) := g0
     have g1 : _ = some (Value.slice A8 n8 c8) := g1
     have HSL := zH hsl
     have hi0 : (0 : Int) ≤ (k : Int) := by omega
     have hi1 : (k : Int) < (n : Int) := by omega
     have hk4 : 3 + 2 * k ≤ 4000 := by have := HN.out; omega
     clear hc hf hsl h1'
     go_upto_region 5 with fail
     go_region_held3 (fun w' => w'.cell? ⟨w.heap.size, 3, none⟩ = some (.slice (some ⟨b8, o8, none⟩) n c) ∧ w'.cell? ⟨b8, o8 + k * 2, none⟩ = some (.int .i64 kk) ∧ w'.cell? ⟨b8, o8 + k * 2 + 1, none⟩ = some (.slice A8 n8 c8))
      (first | go_keep | (go_split_ands; refine ⟨?_, ?_, ?_⟩ <;> exact zzh (by assumption) (by assumption)) | (go_split_ands; refine ⟨?_, ?_, ?_⟩ <;> exact hg9.cell (by assumption) (by intro e; obtain ⟨a9, ha9, hb9⟩ := Option.map_eq_some_iff.1 e.symm; have h9l := HO.out.lies (b := a9.block) (by rw [ha9]; rfl); simp at hb9; omega)))
      (first
        | (go_at_call 64; refine (xxN _ _ _).mono ?_; rintro e w4 ⟨rfl, hb4⟩)
        | (go_at_call 65; refine (qzE _ _ _ _ _).mono ?_; rintro e w5 ⟨rfl, hb5⟩)
        | (have hbw : Below wr.heap.size wr w5 := (by (repeat (first | exact zR | assumption | refine zqX ?_ (by assumption) | refine jjb ?_ _ | refine zqY ?_)))
           refine vvb (T := tFld) vv9 (w5.alloc _) wb rfl (.tmp 24) (.tmp 39) rfl (w.heap.size + 1) A2 (3 + 2 * k) c2 (zzI m enc tx (ss.take k)) rfl G2 (fun b => (b < w.heap.size ∧ b < w5.heap.size) ∨ b = w5.heap.size) ((HO.out.keepB hbw).alloc _) ((HBW.out.trans (hbw.mono (Nat.le_trans HZB.out hsz))).alloc (by have := hbw.size; have := HZB.out; omega) _) HZB.out
            (some ⟨w5.heap.size, 0, none⟩) 2 2 [unum 4 kk, ftxt 5 bs] rfl (Sl.news (T := tFld) (F := fun b => b < w.heap.size) (Reps.mk2 (yyO (by unfold i64; omega)) ⟨A8, n8, c8, rfl, by unfold i64; simp [ftxt], by simp [ftxt], HSL.out.below hbw zN⟩) 120 2 rfl (by omega) _ rfl)
            (fun b h1 h2 _ h4 => by obtain ⟨_, _, e3⟩ := HO.out.lies (b := b) (by simp [Value.ownBlock, h1]); have := hbw.size; omega) (by omega) ?_
           intro A9 c9 w9 h9; have hg9 := h9.grown))
     all_goals
      go_wp2_with fail
      go_roundw
      case rel =>
       have e2 := h9.own
       rw [← HS.out] at e2
       exact ⟨k + 1, A9, c9, _, by omega, by go_num, by rw [show 3 + 2 * (k + 1) = 3 + 2 * k + 2 by omega], by rw [show 3 + 2 * (k + 1) = 3 + 2 * k + 2 by omega]; exact e2, h9.below⟩
      case measure => simp [intOf]; omega
   · obtain rfl : k = n := by omega
     have e1 : ss.take k = ss := zL (by rw [← HL.out]; exact Nat.le_refl _)
     rw [e1] at HO
     have hk4 : 3 + 2 * k ≤ 4294967296 := by have := HN.out; omega
     have hsw := HB.out.size
     clear e1
     go_wp2_with (first
      | (go_at_call 67; refine (xq8 _ A2 (3 + 2 * k) c2 (zzI m enc tx ss) _ HO.out.sl hk4 HW.out).mono ?_; rintro e w2 ⟨A3, n3, c3, rfl, ho3, hb3⟩; have HO3 := zH ho3; have HB3 := zH hb3; have hn3 : n3 ≤ 4294967200 := (by have h1 := ho3.len; have h2 := HWL.out; omega); clear ho3 hb3)
      | (go_at_call 26; refine (vvh _ A3 n3 c3 (dput (zzI m enc tx ss)) _ HO3.out.bs hn3).mono ?_; rintro e w4 ⟨A4, n4, c4, rfl, ho4, hb4⟩; have HO4 := zH ho4; have HB4 := zH hb4; clear ho4 hb4)
      | fail)
     go_ret
     exact ⟨A4, n4, c4, rfl, HO4.out.down (Nat.le_trans hsw HB3.out.size), (HB.out.trans (HB3.out.mono hsw)).trans (HB4.out.mono (Nat.le_trans hsw HB3.out.size))⟩
end
section
open Go Go.RowKit
end
section
open Go Go.RowKit
structure L4 (w0 : World) (l : List VV) (i : Nat) (col : Nat → Nat) (S : Nat) (A1 : Option Addr) (c1 : Nat) (A2 : Option Addr) (c2 : Nat) (A3 : Option Addr) (c3 : Nat) (A4 : Option Addr) (c4 : Nat) (n1 n2 n3 n4 : Nat) (w : World) : Prop where
 on : Col vvU 4 col 0 w0.heap.size S w A1 n1 c1 ((l.take n1).map fun v => v.n == 1)
 whole : Col tI64 3 col 1 w0.heap.size S w A2 n2 c2 ((l.take n2).map fun v => v.n)
 first : Col tI64 3 col 2 w0.heap.size S w A3 n3 c3 ((l.take n3).map fun v => v.n / 1000)
 second : Col tI64 3 col 3 w0.heap.size S w A4 n4 c4 ((l.take n4).map fun v => v.n % 1000)
 below : Below w0.heap.size w0 w
 low : w0.heap.size ≤ S
 high : S ≤ w.heap.size
 at_ : i ≤ 4096
section
variable {w0 w w' : World} {l : List VV} {i : Nat} {col : Nat → Nat} {S : Nat} {A1 A2 A3 A4 A' : Option Addr} {c1 c2 c3 c4 c' n1 n2 n3 n4 : Nat}
theorem L4.keepB (h : L4 w0 l i col S A1 c1 A2 c2 A3 c3 A4 c4 n1 n2 n3 n4 w) (hb : Below w.heap.size w w') : L4 w0 l i col S A1 c1 A2 c2 A3 c3 A4 c4 n1 n2 n3 n4 w' :=
 ⟨h.on.keepB hb, h.whole.keepB hb, h.first.keepB hb, h.second.keepB hb, h.below.trans (hb.mono h.below.size), h.low, Nat.le_trans h.high hb.size, h.at_⟩
theorem L4.push1 {F : Nat → Prop} (h : L4 w0 l i col S A1 c1 A2 c2 A3 c3 A4 c4 n1 n2 n3 n4 w) (f2 : ∀ b, F b → b < S ∧ w0.heap.size ≤ b ∧ col b = 0) (f3 : ∀ b, A1.map (·.block) = some b → b < S ∧ col b = 0) (o : Obj) (hl : n1 < l.length) (d : VV) (hd : d = l[n1])
 (ha : ApdL vvU 4 (fun b => (F b ∨ (fun _ => False) b) ∧ b < w.heap.size) w0 (w.alloc o) w' w0.heap.size A1 A' (n1 + 1) c' (((l.take n1).map fun v => v.n == 1) ++ [d.n == 1])) :
 L4 w0 l i (zzZ col 0 S) w'.heap.size A' c' A2 c2 A3 c3 A4 c4 (n1 + 1) n2 n3 n4 w' := by
 have hg := ha.grown.size
 rw [zS] at hg
 have hh := h.high
 have hlo := h.low
 have h1 := Col.apd f2 f3 (fun _ hh => hh.elim) h.low (by rw [zS]; omega) ha
 have e1 : (l.take (n1 + 1)).map (fun v => v.n == 1) = ((l.take n1).map fun v => v.n == 1) ++ [d.n == 1] := by rw [zT hl, List.map_append, hd]; rfl
 rw [← e1] at h1
 exact ⟨h1, Col.past (h.whole.allocs o) (by decide) f3 ha.grown (by omega), Col.past (h.first.allocs o) (by decide) f3 ha.grown (by omega), Col.past (h.second.allocs o) (by decide) f3 ha.grown (by omega), ha.below, by omega, Nat.le_refl _, h.at_⟩
theorem L4.push2 {F : Nat → Prop} (h : L4 w0 l i col S A1 c1 A2 c2 A3 c3 A4 c4 n1 n2 n3 n4 w) (f2 : ∀ b, F b → b < S ∧ w0.heap.size ≤ b ∧ col b = 1) (f3 : ∀ b, A2.map (·.block) = some b → b < S ∧ col b = 1) (o : Obj) (hl : n2 < l.length) (d : VV) (hd : d = l[n2])
 (ha : ApdL tI64 3 (fun b => (F b ∨ (fun _ => False) b) ∧ b < w.heap.size) w0 (w.alloc o) w' w0.heap.size A2 A' (n2 + 1) c' (((l.take n2).map fun v => v.n) ++ [d.n])) :
 L4 w0 l i (zzZ col 1 S) w'.heap.size A1 c1 A' c' A3 c3 A4 c4 n1 (n2 + 1) n3 n4 w' := by
 have hg := ha.grown.size
 rw [zS] at hg
 have hh := h.high
 have hlo := h.low
 have h1 := Col.apd f2 f3 (fun _ hh => hh.elim) h.low (by rw [zS]; omega) ha
 have e1 : (l.take (n2 + 1)).map (fun v => v.n) = ((l.take n2).map fun v => v.n) ++ [d.n] := by rw [zT hl, List.map_append, hd]; rfl
 rw [← e1] at h1
 exact ⟨Col.past (h.on.allocs o) (by decide) f3 ha.grown (by omega), h1, Col.past (h.first.allocs o) (by decide) f3 ha.grown (by omega), Col.past (h.second.allocs o) (by decide) f3 ha.grown (by omega), ha.below, by omega, Nat.le_refl _, h.at_⟩
end
end
section
open Go Go.RowKit
def sb (s : ByteArray) : List UInt8 := s.data.toList
theorem sb_inj {a b : ByteArray} (h : sb a = sb b) : a = b := vvH h
theorem lt_irr (a : List UInt8) : ¬ a < a := List.lt_irrefl a
theorem lt_of {a b : List UInt8} (h : a ≤ b) (hne : a ≠ b) : a < b := Classical.byContradiction fun hn => hne (List.le_antisymm h hn)
theorem lt_tri (a b : List UInt8) (h : a ≠ b) : a < b ∨ b < a := by
 rcases List.le_total a b with h1 | h1
 · exact .inl (lt_of h1 h)
 · exact .inr (lt_of h1 (Ne.symm h))
theorem set2 {α : Type} (x s : α) (d : List α) : ∀ a : List α, ((a ++ x :: s :: d).set (a.length + 1) x).set a.length s = a ++ s :: x :: d
 | [] => rfl
 | y :: a => by
   simp
end
section
open Go Go.RowKit
theorem qzL (a b : ByteArray) : ltS a b = true ↔ sb a < sb b := by
 unfold ltS
 rw [bytesLess_eq, ByteArray.toList_eq, ByteArray.toList_eq]
 exact decide_eq_true_iff
theorem ltS_eq {a b : ByteArray} (h1 : ltS a b = false) (h2 : ltS b a = false) : a = b := by
 by_cases h : sb a = sb b
 · exact sb_inj h
 · rcases lt_tri _ _ h with h | h
   · rw [(qzL a b).2 h] at h1; cases h1
   · rw [(qzL b a).2 h] at h2; cases h2
theorem ltS_ne {a b : ByteArray} (h : ltS a b = true) : ¬ a = b := fun e => by
 subst e; exact lt_irr _ ((qzL a a).1 h)
theorem nan_i (x : Int) (w : World) : Calls Tryz.prog 305 #[.int .i64 x] w fun e w' => e = .returned (.bool false) ∧ w = w' := by
 have hx : (x != x) = false := by simp
 go_enter Tryz.func305, Tryz.ntmps305
 go_wp2_with fail
 go_ret
 exact ⟨by simp, rfl⟩
theorem nan_s (x : ByteArray) (w : World) : Calls Tryz.prog 306 #[.string x] w fun e w' => e = .returned (.bool false) ∧ w = w' := by
 go_enter Tryz.func306, Tryz.ntmps306
 go_wp2_with fail
 go_ret
 exact ⟨by simp, rfl⟩
theorem cmpI_any (x y : Int) (w : World) : Calls Tryz.prog 268 #[.int .i64 x, .int .i64 y] w fun e w' => e = .returned (.int .i64 (icmp x y)) ∧ w = w' := by
 obtain ⟨q, hq⟩ : ∃ q, q = icmp x y := ⟨_, rfl⟩
 rw [← hq]
 unfold icmp at hq
 by_cases h1 : x < y
 · obtain rfl : q = -1 := by rw [hq, if_pos h1]
   clear hq
   go_enter Tryz.func268, Tryz.ntmps268
   go_wp2_with (first
    | (go_at_call 305; refine (nan_i _ _).mono ?_; rintro e w' ⟨rfl, rfl⟩)
    | fail)
   go_ret
   exact ⟨rfl, rfl⟩
 · by_cases h2 : y < x
   · obtain rfl : q = 1 := by rw [hq, if_neg h1, if_pos h2]
     have h3 : x > y := h2
     clear hq
     go_enter Tryz.func268, Tryz.ntmps268
     go_wp2_with (first
      | (go_at_call 305; refine (nan_i _ _).mono ?_; rintro e w' ⟨rfl, rfl⟩)
      | fail)
     go_ret
     exact ⟨rfl, rfl⟩
   · obtain rfl : q = 0 := by rw [hq, if_neg h1, if_neg h2]
     have h3 : ¬ x > y := h2
     clear hq
     go_enter Tryz.func268, Tryz.ntmps268
     go_wp2_with (first
      | (go_at_call 305; refine (nan_i _ _).mono ?_; rintro e w' ⟨rfl, rfl⟩)
      | fail)
     go_ret
     exact ⟨rfl, rfl⟩
theorem cmpS_any (x y : ByteArray) (w : World) : Calls Tryz.prog 269 #[.string x, .string y] w fun e w' => e = .returned (.int .i64 (scmp x y)) ∧ w = w' := by
 obtain ⟨q, hq⟩ : ∃ q, q = scmp x y := ⟨_, rfl⟩
 rw [← hq]
 unfold scmp at hq
 cases h1 : ltS x y
 · rw [h1] at hq
   cases h2 : ltS y x
   · rw [h2] at hq
     obtain rfl : q = 0 := hq
     obtain rfl := ltS_eq h1 h2
     have h3 : Op.bytesLess x.toList x.toList = false := h1
     clear h1 h2
     go_enter Tryz.func269, Tryz.ntmps269
     go_wp2_with (first
      | (go_at_call 306; refine (nan_s _ _).mono ?_; rintro e w' ⟨rfl, rfl⟩)
      | fail)
     go_ret
     exact ⟨rfl, rfl⟩
   · rw [h2] at hq
     obtain rfl : q = 1 := hq
     have h3 : Op.bytesLess x.toList y.toList = false := h1
     have h4 : (x.toList == y.toList) = false := (str_no (fun e => ltS_ne h2 e.symm)).1
     clear h1 h2
     go_enter Tryz.func269, Tryz.ntmps269
     go_wp2_with (first
      | (go_at_call 306; refine (nan_s _ _).mono ?_; rintro e w' ⟨rfl, rfl⟩)
      | fail)
     go_ret
     exact ⟨rfl, rfl⟩
 · rw [h1] at hq
   obtain rfl : q = -1 := hq
   have h3 : Op.bytesLess x.toList y.toList = true := h1
   clear h1
   go_enter Tryz.func269, Tryz.ntmps269
   go_wp2_with (first
    | (go_at_call 306; refine (nan_s _ _).mono ?_; rintro e w' ⟨rfl, rfl⟩)
    | fail)
   go_ret
   exact ⟨rfl, rfl⟩
theorem or2_any (F : Nat → Prop) (A : Option Addr) (c : Nat) (x y : Int) (w : World) (h : Sl tI64 F w A 2 c [x, y]) :
 Calls Tryz.prog 267 #[.slice A 2 c] w fun e w' => e = .returned (.int .i64 (if x = 0 then y else x)) ∧ w = w' := by
 obtain ⟨b, o, u, rfl, _, _, hr, hc0⟩ := h.at1 (k := 0) (by simp) rfl
 obtain ⟨b', o', u', e1, _, _, hr', hc1⟩ := h.at1 (k := 1) (by simp) rfl
 cases e1
 obtain ⟨hr, _⟩ := hr
 injection hr with hr; subst hr
 obtain ⟨hr', _⟩ := hr'
 injection hr' with hr'; subst hr'
 have hc0 : w.cell? ⟨b, o, none⟩ = some (.int .i64 x) := hc0
 have hc1 : w.cell? ⟨b, o + 1, none⟩ = some (.int .i64 y) := hc1
 have H0 := zH hc0; have H1 := zH hc1
 clear h hc0 hc1
 go_enter Tryz.func267, Tryz.ntmps267
 go_wp2_with fail
 go_loopw [5, 8] (fun v iv wr => ∃ i : Nat, i ≤ 2 ∧ iv = .int .i64 (i : Int) ∧ (1 ≤ i → x = 0) ∧ (2 ≤ i → y = 0) ∧ w = wr) (fun _ iv _ => 2 - (intOf iv).toNat)
 case atStart => exact ⟨0, by omega, rfl, by omega, by omega, rfl⟩
 case round =>
  obtain ⟨i, hi, rfl, hx, hy, rfl⟩ := hrel
  have hc0 := H0.out; have hc1 := H1.out
  rcases Nat.lt_or_ge i 1 with h0 | h0
  · obtain rfl : i = 0 := by omega
    by_cases hx0 : x = 0
    · subst hx0
      clear hx hy
      go_wp2_with fail
      go_roundw
      case rel => exact ⟨1, by omega, by rfl, by simp, by omega, trivial⟩
      case measure => simp [intOf]
    · have hb := bne_y hx0
      clear hx hy
      go_wp2_with fail
      go_ret
      exact ⟨rfl, rfl⟩
  · obtain rfl : x = 0 := hx h0
    rcases Nat.lt_or_ge i 2 with h1 | h1
    · obtain rfl : i = 1 := by omega
      by_cases hy0 : y = 0
      · subst hy0
        clear hx hy
        go_wp2_with fail
        go_roundw
        case rel => exact ⟨2, by omega, by rfl, by simp, by simp, trivial⟩
        case measure => simp [intOf]
      · have hb := bne_y hy0
        clear hx hy
        go_wp2_with fail
        go_ret
        exact ⟨rfl, rfl⟩
    · obtain rfl : i = 2 := by omega
      obtain rfl : y = 0 := hy h1
      clear hx hy
      go_wp2_with fail
      go_ret
      exact ⟨rfl, rfl⟩
theorem vcmp_both (a b : VV) (h : a.null = b.null) : vcmp a b = if icmp a.n b.n = 0 then scmp a.s b.s else icmp a.n b.n := by
 unfold vcmp
 rw [h, if_neg (by cases b.null <;> decide), if_neg (by cases b.null <;> decide)]
theorem jjz (a b : ByteArray) : scmp a b = -1 ∨ scmp a b = 0 ∨ scmp a b = 1 := by
 unfold scmp; split
 · exact .inl rfl
 · split
   · exact .inr (.inr rfl)
   · exact .inr (.inl rfl)
theorem jjA (a b : Int) : icmp a b = -1 ∨ icmp a b = 0 ∨ icmp a b = 1 := by
 unfold icmp; split
 · exact .inl rfl
 · split
   · exact .inr (.inr rfl)
   · exact .inr (.inl rfl)
theorem qxB (a b : VV) : vcmp a b = -1 ∨ vcmp a b = 0 ∨ vcmp a b = 1 := by
 unfold vcmp; split
 · exact .inl rfl
 · split
   · exact .inr (.inr rfl)
   · split
     · exact jjz _ _
     · exact jjA _ _
structure Box2 (w : World) (a b : VV) (w2 : World) : Prop where
 eq : w2 = (w.alloc (.cells #[.bool a.null, .int .i64 a.n, .string a.s] 74)).alloc (.cells #[.bool b.null, .int .i64 b.n, .string b.s] 74)
 below : Below w.heap.size w w2
 a0 : w2.cell? ⟨w.heap.size, 0, none⟩ = some (.bool a.null)
 a1 : w2.cell? ⟨w.heap.size, 1, none⟩ = some (.int .i64 a.n)
 a2 : w2.cell? ⟨w.heap.size, 2, none⟩ = some (.string a.s)
 b0 : w2.cell? ⟨w.heap.size + 1, 0, none⟩ = some (.bool b.null)
 b1 : w2.cell? ⟨w.heap.size + 1, 1, none⟩ = some (.int .i64 b.n)
 b2 : w2.cell? ⟨w.heap.size + 1, 2, none⟩ = some (.string b.s)
theorem box2 (w : World) (a b : VV) : ∃ w2, Box2 w a b w2 := by
 have h1 : ((w.alloc (.cells #[.bool a.null, .int .i64 a.n, .string a.s] 74)).alloc (.cells #[.bool b.null, .int .i64 b.n, .string b.s] 74)).heap[w.heap.size]? = some (.cells #[.bool a.null, .int .i64 a.n, .string a.s] 74 (0, 0)) := (Below.heap_alloc _ _ _ (by simp)).trans (heap_alloc_new w _)
 have h2 := heap_alloc_new (w.alloc (.cells #[.bool a.null, .int .i64 a.n, .string a.s] 74)) (.cells #[.bool b.null, .int .i64 b.n, .string b.s] 74)
 rw [zS] at h2
 refine ⟨_, rfl, ((zR).alloc zN _).alloc (by simp) _, ?_, ?_, ?_, ?_, ?_, ?_⟩
 · rw [zC h1]; rfl
 · rw [zC h1]; rfl
 · rw [zC h1]; rfl
 · rw [zC h2]; rfl
 · rw [zC h2]; rfl
 · rw [zC h2]; rfl
theorem qzM (a b : VV) (w : World) :
 Calls Tryz.prog 221 #[.agg #[.bool a.null, .int .i64 a.n, .string a.s], .agg #[.bool b.null, .int .i64 b.n, .string b.s]] w fun e w' => e = .returned (.int .i64 (vcmp a b)) ∧ Below w.heap.size w w' := by
 obtain ⟨q, hq⟩ : ∃ q, q = vcmp a b := ⟨_, rfl⟩
 rw [← hq]
 obtain ⟨w2, hw2⟩ := box2 w a b
 have HW := zH hw2.eq; have HB := zH hw2.below
 obtain ⟨-, -, a0, a1, a2, b0, b1, b2⟩ := hw2
 by_cases hne : a.null = b.null
 · rw [vcmp_both a b hne] at hq
   obtain ⟨an, ai, sa⟩ := a
   obtain ⟨bn, bi, sb'⟩ := b
   obtain rfl : an = bn := hne
   have A0 : w2.cell? ⟨w.heap.size, 0, none⟩ = some (.bool an) := a0
   have A1 : w2.cell? ⟨w.heap.size, 1, none⟩ = some (.int .i64 ai) := a1
   have A2 : w2.cell? ⟨w.heap.size, 2, none⟩ = some (.string sa) := a2
   have B0 : w2.cell? ⟨w.heap.size + 1, 0, none⟩ = some (.bool an) := b0
   have B1 : w2.cell? ⟨w.heap.size + 1, 1, none⟩ = some (.int .i64 bi) := b1
   have B2 : w2.cell? ⟨w.heap.size + 1, 2, none⟩ = some (.string sb') := b2
   dsimp only at hq HW
   have HQ := zH hq
   clear hq a0 a1 a2 b0 b1 b2
   cases an
   all_goals
    go_enter Tryz.func221, Tryz.ntmps221
    go_upto_region 1 with fail
    rw [← HW.out]
    go_wp2_with fail
    refine wp_region_still_tail 10 (by kernel_rfl) (by kernel_rfl) ?_
    simp only [List.take_succ_cons, List.take_zero, List.drop_succ_cons, List.drop_zero]
    repeat (first | still_call ((cmpI_any ai bi _).mono fun _ _ h => ⟨h.1, h.2.symm⟩) | still_call ((cmpS_any sa sb' _).mono fun _ _ h => ⟨h.1, h.2.symm⟩) | still_step)
    refine wpStill_nil ?_
    change wpList _ _ _ _ _ w2.drew
    obtain ⟨wd, hwd⟩ : ∃ wd : World, wd = w2.drew := ⟨_, rfl⟩
    have hdr : Below w2.heap.size w2 wd := by rw [hwd]; exact (zR).drew
    have HDR := zH hdr
    rw [← hwd]
    clear hwd hdr
    obtain ⟨x, hx⟩ : ∃ x, x = icmp ai bi := ⟨_, rfl⟩
    obtain ⟨y, hy⟩ : ∃ y, y = scmp sa sb' := ⟨_, rfl⟩
    have hx1 : i64 x := by rw [hx]; unfold i64; rcases jjA ai bi with h | h | h <;> omega
    have hy1 : i64 y := by rw [hy]; unfold i64; rcases jjz sa sb' with h | h | h <;> omega
    have HS := zH (Sl.news (T := tI64) (F := fun _ => True) (w := wd) (Reps.mk2 (T := tI64) (x1 := x) (x2 := y) ⟨rfl, hx1⟩ ⟨rfl, hy1⟩) 3 2 rfl (by omega) _ rfl)
    rw [← hx, ← hy] at HQ
    rw [← hx, ← hy]
    clear hx hy hx1 hy1
    go_wp2_with (first
     | (go_at_call 267; refine (or2_any _ _ _ x y _ HS.out).mono ?_; rintro e w5 ⟨rfl, rfl⟩; rw [← HQ.out])
     | fail)
    go_ret
    exact ⟨rfl, HB.out.trans ((HDR.out.alloc HDR.out.size _).mono HB.out.size)⟩
 · obtain ⟨an, ai, sa⟩ := a
   obtain ⟨bn, bi, sb'⟩ := b
   have A0 : w2.cell? ⟨w.heap.size, 0, none⟩ = some (.bool an) := a0
   have B0 : w2.cell? ⟨w.heap.size + 1, 0, none⟩ = some (.bool bn) := b0
   unfold vcmp at hq
   dsimp only at hq HW hne
   clear a0 a1 a2 b0 b1 b2
   cases an
   · obtain rfl : bn = true := by cases bn <;> simp_all
     obtain rfl : q = 1 := hq
     clear hne
     go_enter Tryz.func221, Tryz.ntmps221
     go_upto_region 1 with fail
     rw [← HW.out]
     go_wp2_with fail
     go_ret
     exact ⟨rfl, HB.out⟩
   · obtain rfl : bn = false := by cases bn <;> simp_all
     obtain rfl : q = -1 := hq
     clear hne
     go_enter Tryz.func221, Tryz.ntmps221
     go_upto_region 1 with fail
     rw [← HW.out]
     go_wp2_with fail
     go_ret
     exact ⟨rfl, HB.out⟩
end
section
open Go Go.RowKit
def tHi (S : Int) : Int := S / 18446744073709551616
def tLo (S : Int) : Nat := (S % 18446744073709551616).toNat
theorem tLo_lt (S : Int) : tLo S < 18446744073709551616 := by unfold tLo; omega
theorem t_eq (S : Int) : S = tHi S * 18446744073709551616 + (tLo S : Int) := by unfold tHi tLo; omega
theorem tadd_any (S n : Int) (h0 : -9223372036854775808 ≤ n) (h1 : n ≤ 9223372036854775807) (hS : -4096 ≤ tHi S ∧ tHi S ≤ 4096) (w : World) :
 Calls Tryz.prog 177 #[.agg #[.int .i64 (tHi S), .int .u64 (tLo S : Nat)], .int .i64 n] w fun e w' => e = .returned (.agg #[.int .i64 (tHi (S + n)), .int .u64 (tLo (S + n) : Nat)]) ∧ Below w.heap.size w w' := by
 obtain ⟨hi, hhi⟩ : ∃ hi, hi = tHi S := ⟨_, rfl⟩
 obtain ⟨lo, hlo⟩ : ∃ lo, lo = tLo S := ⟨_, rfl⟩
 have hlt := tLo_lt S
 rw [← hlo] at hlt
 rw [← hhi] at hS
 rw [← hhi, ← hlo]
 obtain ⟨l2, hl2⟩ : ∃ l2 : Nat, l2 = tLo (S + n) := ⟨_, rfl⟩
 obtain ⟨c2, hc2⟩ : ∃ c2 : Nat, (c2 : Int) = ((lo : Int) + n % 18446744073709551616) / 18446744073709551616 := ⟨(((lo : Int) + n % 18446744073709551616) / 18446744073709551616).toNat, by omega⟩
 have hS2 := t_eq S
 rw [← hhi, ← hlo] at hS2
 have hl2' : (l2 : Int) = ((lo : Int) + n % 18446744073709551616) % 18446744073709551616 := by rw [hl2]; unfold tLo; omega
 have hc1 : c2 ≤ 1 := by omega
 have HH := zH (show tHi (S + n) = hi + n / 9223372036854775808 + (c2 : Int) by unfold tHi; omega)
 have hadd : ∀ W : World, (callFunc 222 #[.int .u64 (lo : Int), .int .u64 (IntKind.u64.wrap n), .int .u64 0]).run Tryz.prog W = .ok (.value (.tuple #[.int .u64 (l2 : Int), .int .u64 (c2 : Int)])) W := fun W => by
  have hw : IntKind.u64.wrap n = n % 18446744073709551616 := IntKind.wrap_u64 n
  rw [run_callFunc_extern Tryz.func222 (by kernel_rfl) (by kernel_rfl) (by kernel_rfl) (e := add64Entry) (by kernel_rfl), hw, run_add64 (lo : Int) (n % 18446744073709551616) 0 (by omega) (by omega) (by omega) (by omega), Int.add_zero, ← hl2', ← hc2]
  rfl
 have HL2 := zH hl2
 have hb0 : -1 ≤ n / 9223372036854775808 ∧ n / 9223372036854775808 ≤ 0 := by omega
 obtain ⟨s, hs⟩ : ∃ s, s = n / 9223372036854775808 := ⟨_, rfl⟩
 have HSS := zH hs.symm
 rw [← hs] at HH hb0
 have HN0 := zH h0
 clear hhi hlo hl2 hc2 hS2 hl2' hs
 obtain ⟨ws, hws⟩ : ∃ ws, ws = (w.alloc (.cells #[.int .i64 hi, .int .u64 (lo : Int)] 230)).alloc (.cells #[.int .i64 0, .int .u64 0] 230) := ⟨_, rfl⟩
 have hb : Below w.heap.size w ws := by rw [hws]; exact ((zR).alloc zN _).alloc (by simp) _
 have hz : ws.heap.size = w.heap.size + 2 := by rw [hws]; simp
 have hg0 : ws.heap[w.heap.size]? = some (.cells #[.int .i64 hi, .int .u64 (lo : Int)] 230 (0, 0)) := by rw [hws]; exact (Below.heap_alloc _ _ _ (by simp)).trans (heap_alloc_new w _)
 have hg1 : ws.heap[w.heap.size + 1]? = some (.cells #[.int .i64 0, .int .u64 0] 230 (0, 0)) := by
  have := heap_alloc_new (w.alloc (.cells #[.int .i64 hi, .int .u64 (lo : Int)] 230)) (.cells #[.int .i64 0, .int .u64 0] 230)
  rw [zS] at this
  rw [hws]; exact this
 have HW := zH hws; have HB := zH hb; have HG1 := zH hg1
 have q0 : ws.cell? ⟨w.heap.size, 0, none⟩ = some (.int .i64 hi) := by rw [zC hg0]; rfl
 have q1 : ws.cell? ⟨w.heap.size, 1, none⟩ = some (.int .u64 (lo : Int)) := by rw [zC hg0]; rfl
 have r0 : ws.cell? ⟨w.heap.size + 1, 0, none⟩ = some (.int .i64 0) := by rw [zC hg1]; rfl
 have r1 : ws.cell? ⟨w.heap.size + 1, 1, none⟩ = some (.int .u64 0) := by rw [zC hg1]; rfl
 have s0 := zF hg1 0
 have s1 := zF hg1 1
 clear hws hb hz hg0 hg1
 go_enter Tryz.func177, Tryz.ntmps177
 go_upto_region 1 with fail
 rw [← HW.out]
 go_upto_region 2 with fail
 clear hadd
 go_wp2_with fail
 refine bodyPost_ret (results_cell_row rfl _ _ (w.heap.size + 1) 230 #[.int .i64 (hi + n / 9223372036854775808 + (c2 : Int)), .int .u64 (l2 : Int)] (0, 0) _ rfl (zza (zza HG1.out rfl) rfl) Tryz.underlying230 rfl (by kernel_rfl)) rfl ⟨by rw [HSS.out, ← HH.out, ← HL2.out], zzd (zzd HB.out (by omega) _) (by omega) _⟩
theorem tnum_any (S : Int) (w : World) :
 Calls Tryz.prog 223 #[.agg #[.int .i64 (tHi S), .int .u64 (tLo S : Nat)]] w fun e w' => e = .returned (.tuple #[.int .i64 (if vvL S then S else 0), .bool (vvL S)]) ∧ Below w.heap.size w w' := by
 obtain ⟨hi, hhi⟩ : ∃ hi, hi = tHi S := ⟨_, rfl⟩
 obtain ⟨lo, hlo⟩ : ∃ lo, lo = tLo S := ⟨_, rfl⟩
 have hlt := tLo_lt S
 rw [← hlo] at hlt
 rw [← hhi, ← hlo]
 have hS2 := t_eq S
 rw [← hhi, ← hlo] at hS2
 obtain ⟨x, hx⟩ : ∃ x, x = wrap64 (lo : Int) := ⟨_, rfl⟩
 obtain ⟨ok, hok⟩ : ∃ ok, ok = vvL S := ⟨_, rfl⟩
 rw [← hok]
 have hwx : x = if lo < 9223372036854775808 then (lo : Int) else (lo : Int) - 18446744073709551616 := by rw [hx]; unfold wrap64; split <;> omega
 have hfit : ok = decide (hi = x / 9223372036854775808) := by
  rw [hok]; unfold vvL
  rw [decide_eq_decide, hwx]
  split <;> omega
 have hfx : ok = true → x = S := fun h => by
  rw [h] at hfit
  have h2 := of_decide_eq_true hfit.symm
  rw [hwx] at h2 ⊢
  split <;> rename_i h3 <;> simp only [h3, if_true, if_false] at h2 <;> omega
 have HFX := zH hfx
 have HXW := zH hx.symm
 have hx0 : -9223372036854775808 ≤ x ∧ x ≤ 9223372036854775807 := by rw [hwx]; split <;> omega
 clear hok hwx hfx hx hhi hlo hS2
 obtain ⟨ws, hws⟩ : ∃ ws, ws = w.alloc (.cells #[.int .i64 hi, .int .u64 (lo : Int)] 230) := ⟨_, rfl⟩
 have hb : Below w.heap.size w ws := by rw [hws]; exact (zR).alloc zN _
 have hg0 : ws.heap[w.heap.size]? = some (.cells #[.int .i64 hi, .int .u64 (lo : Int)] 230 (0, 0)) := by rw [hws]; exact heap_alloc_new w _
 have q0 : ws.cell? ⟨w.heap.size, 0, none⟩ = some (.int .i64 hi) := by rw [zC hg0]; rfl
 have q1 : ws.cell? ⟨w.heap.size, 1, none⟩ = some (.int .u64 (lo : Int)) := by rw [zC hg0]; rfl
 have HW := zH hws; have HB := zH hb
 clear hws hb hg0
 go_enter Tryz.func223, Tryz.ntmps223
 go_upto_region 1 with fail
 rw [← HW.out]
 go_upto_region 2 with fail
 rw [HXW.out]
 obtain ⟨y, hy⟩ : ∃ y, y = x / 9223372036854775808 := ⟨_, rfl⟩
 rw [← hy] at hfit
 have HY := zH hy.symm
 by_cases he : hi = y
 · obtain rfl : ok = true := by rw [hfit]; exact decide_eq_true he
   have hq : (hi != x / 9223372036854775808) = false := by rw [HY.out]; simpa using he
   have HX := zH (HFX.out rfl)
   clear he hfit hy
   go_wp2_with fail
   go_ret2
   exact ⟨by rw [HX.out]; rfl, HB.out⟩
 · obtain rfl : ok = false := by rw [hfit]; exact decide_eq_false he
   have hq : (hi != x / 9223372036854775808) = true := by rw [HY.out]; simpa using he
   clear he hfit hy
   go_wp2_with fail
   go_ret2
   exact ⟨rfl, HB.out⟩
end
section
open Go Go.RowKit
section
variable {w w0 : World} {g B : Nat} {c0 c1 c2 c3 c4 c5 c6 c7 c8 c9 : Value} {t : TypeId}
theorem yyg (h : w.heap[g]? = some (.cells #[c0, c1, c2, c3, c4, c5, c6, c7, c8, c9] t (0, 0))) : (w.cell? ⟨g, 0, none⟩ = some c0 ∧ w.frozen? ⟨g, 0, none⟩ = false) ∧ (w.cell? ⟨g, 1, none⟩ = some c1 ∧ w.frozen? ⟨g, 1, none⟩ = false) ∧ (w.cell? ⟨g, 2, none⟩ = some c2 ∧ w.frozen? ⟨g, 2, none⟩ = false) ∧ (w.cell? ⟨g, 3, none⟩ = some c3 ∧ w.frozen? ⟨g, 3, none⟩ = false) ∧ (w.cell? ⟨g, 4, none⟩ = some c4 ∧ w.frozen? ⟨g, 4, none⟩ = false) ∧ (w.cell? ⟨g, 5, none⟩ = some c5 ∧ w.frozen? ⟨g, 5, none⟩ = false) ∧ (w.cell? ⟨g, 6, none⟩ = some c6 ∧ w.frozen? ⟨g, 6, none⟩ = false) ∧ (w.cell? ⟨g, 7, none⟩ = some c7 ∧ w.frozen? ⟨g, 7, none⟩ = false) ∧ (w.cell? ⟨g, 8, none⟩ = some c8 ∧ w.frozen? ⟨g, 8, none⟩ = false) ∧ (w.cell? ⟨g, 9, none⟩ = some c9 ∧ w.frozen? ⟨g, 9, none⟩ = false) :=
 ⟨⟨by rw [zC h]; rfl, zF h 0⟩, ⟨by rw [zC h]; rfl, zF h 1⟩, ⟨by rw [zC h]; rfl, zF h 2⟩, ⟨by rw [zC h]; rfl, zF h 3⟩, ⟨by rw [zC h]; rfl, zF h 4⟩, ⟨by rw [zC h]; rfl, zF h 5⟩, ⟨by rw [zC h]; rfl, zF h 6⟩, ⟨by rw [zC h]; rfl, zF h 7⟩, ⟨by rw [zC h]; rfl, zF h 8⟩, ⟨by rw [zC h]; rfl, zF h 9⟩⟩
theorem set10 (h : w.heap[g]? = some (.cells #[c0, c1, c2, c3, c4, c5, c6, c7, c8, c9] t (0, 0))) (u0 u1 u2 u3 u4 u5 u6 u7 u8 u9 : Value) : ((((((((((w.setCell ⟨g, 0, none⟩ u0).setCell ⟨g, 1, none⟩ u1).setCell ⟨g, 2, none⟩ u2).setCell ⟨g, 3, none⟩ u3).setCell ⟨g, 4, none⟩ u4).setCell ⟨g, 5, none⟩ u5).setCell ⟨g, 6, none⟩ u6).setCell ⟨g, 7, none⟩ u7).setCell ⟨g, 8, none⟩ u8).setCell ⟨g, 9, none⟩ u9).heap[g]? = some (.cells #[u0, u1, u2, u3, u4, u5, u6, u7, u8, u9] t (0, 0)) := (zza (cs' := #[u0, u1, u2, u3, u4, u5, u6, u7, u8, u9]) (zza (cs' := #[u0, u1, u2, u3, u4, u5, u6, u7, u8, c9]) (zza (cs' := #[u0, u1, u2, u3, u4, u5, u6, u7, c8, c9]) (zza (cs' := #[u0, u1, u2, u3, u4, u5, u6, c7, c8, c9]) (zza (cs' := #[u0, u1, u2, u3, u4, u5, c6, c7, c8, c9]) (zza (cs' := #[u0, u1, u2, u3, u4, c5, c6, c7, c8, c9]) (zza (cs' := #[u0, u1, u2, u3, c4, c5, c6, c7, c8, c9]) (zza (cs' := #[u0, u1, u2, c3, c4, c5, c6, c7, c8, c9]) (zza (cs' := #[u0, u1, c2, c3, c4, c5, c6, c7, c8, c9]) (zza (cs' := #[u0, c1, c2, c3, c4, c5, c6, c7, c8, c9]) h rfl) rfl) rfl) rfl) rfl) rfl) rfl) rfl) rfl) rfl)
theorem qzN (hb : Below B w0 w) (hg : B ≤ g) (u0 u1 u2 u3 u4 u5 u6 u7 u8 u9 : Value) : Below B w0 ((((((((((w.setCell ⟨g, 0, none⟩ u0).setCell ⟨g, 1, none⟩ u1).setCell ⟨g, 2, none⟩ u2).setCell ⟨g, 3, none⟩ u3).setCell ⟨g, 4, none⟩ u4).setCell ⟨g, 5, none⟩ u5).setCell ⟨g, 6, none⟩ u6).setCell ⟨g, 7, none⟩ u7).setCell ⟨g, 8, none⟩ u8).setCell ⟨g, 9, none⟩ u9) := (zzd (zzd (zzd (zzd (zzd (zzd (zzd (zzd (zzd (zzd hb hg _) hg _) hg _) hg _) hg _) hg _) hg _) hg _) hg _) hg _)
end
structure SumW (w : World) (c : Int) (hn : Bool) (mn mx : VV) (S : Int) (ws : World) : Prop where
 eq : ws = ((w.alloc (.cells #[.int .i64 c, .bool hn, .bool mn.null, .int .i64 mn.n, .string mn.s, .bool mx.null, .int .i64 mx.n, .string mx.s, .int .i64 0, .bool false] 109)).alloc (.cells #[.int .i64 (tHi S), .int .u64 (tLo S : Nat)] 230)).alloc (.cells #[.int .i64 0, .bool false, .bool false, .int .i64 0, .string ⟨#[]⟩, .bool false, .int .i64 0, .string ⟨#[]⟩, .int .i64 0, .bool false] 109)
 below : Below w.heap.size w ws
 s : ws.heap[w.heap.size]? = some (.cells #[.int .i64 c, .bool hn, .bool mn.null, .int .i64 mn.n, .string mn.s, .bool mx.null, .int .i64 mx.n, .string mx.s, .int .i64 0, .bool false] 109 (0, 0))
 t : ws.heap[w.heap.size + 1]? = some (.cells #[.int .i64 (tHi S), .int .u64 (tLo S : Nat)] 230 (0, 0))
 r : ws.heap[w.heap.size + 2]? = some (.cells #[.int .i64 0, .bool false, .bool false, .int .i64 0, .string ⟨#[]⟩, .bool false, .int .i64 0, .string ⟨#[]⟩, .int .i64 0, .bool false] 109 (0, 0))
theorem sumW (w : World) (c : Int) (hn : Bool) (mn mx : VV) (S : Int) : ∃ ws, SumW w c hn mn mx S ws := by
 refine ⟨_, rfl, (((zR).alloc zN _).alloc (by simp) _).alloc (by simp; omega) _, ?_, ?_, ?_⟩
 · exact (Below.heap_alloc _ _ _ (by simp; omega)).trans ((Below.heap_alloc _ _ _ (by simp)).trans (heap_alloc_new w _))
 · refine (Below.heap_alloc _ _ _ (by simp)).trans ?_
   have := heap_alloc_new (w.alloc (.cells #[.int .i64 c, .bool hn, .bool mn.null, .int .i64 mn.n, .string mn.s, .bool mx.null, .int .i64 mx.n, .string mx.s, .int .i64 0, .bool false] 109)) (.cells #[.int .i64 (tHi S), .int .u64 (tLo S : Nat)] 230)
   rwa [zS] at this
 · have := heap_alloc_new ((w.alloc (.cells #[.int .i64 c, .bool hn, .bool mn.null, .int .i64 mn.n, .string mn.s, .bool mx.null, .int .i64 mx.n, .string mx.s, .int .i64 0, .bool false] 109)).alloc (.cells #[.int .i64 (tHi S), .int .u64 (tLo S : Nat)] 230)) (.cells #[.int .i64 0, .bool false, .bool false, .int .i64 0, .string ⟨#[]⟩, .bool false, .int .i64 0, .string ⟨#[]⟩, .int .i64 0, .bool false] 109)
   rwa [zS, zS] at this
theorem qxC (k c : Int) (hn : Bool) (mn mx : VV) (S : Int) (w : World) :
 Calls Tryz.prog 178 #[.int .i64 k, .agg #[.int .i64 c, .bool hn, .bool mn.null, .int .i64 mn.n, .string mn.s, .bool mx.null, .int .i64 mx.n, .string mx.s, .int .i64 0, .bool false], .agg #[.int .i64 (tHi S), .int .u64 (tLo S : Nat)]] w fun e w' =>
  e = .returned (.agg #[.int .i64 c, .bool hn, .bool mn.null, .int .i64 mn.n, .string mn.s, .bool mx.null, .int .i64 mx.n, .string mx.s, .int .i64 (if decide (1 ≤ k ∧ k ≤ 5) && vvL S then S else 0), .bool (decide (1 ≤ k ∧ k ≤ 5) && !vvL S)]) ∧ Below w.heap.size w w' := by
 obtain ⟨ws, h⟩ := sumW w c hn mn mx S
 have HW := zH h
 have hs := h.s; have ht := h.t; have hr := h.r
 obtain ⟨⟨s0, a0⟩, ⟨s1, a1⟩, ⟨s2, a2⟩, ⟨s3, a3⟩, ⟨s4, a4⟩, ⟨s5, a5⟩, ⟨s6, a6⟩, ⟨s7, a7⟩, ⟨s8, a8⟩, ⟨s9, a9⟩⟩ := yyg hs
 have t0 : ws.cell? ⟨w.heap.size + 1, 0, none⟩ = some (.int .i64 (tHi S)) := by rw [zC ht]; rfl
 have t1 : ws.cell? ⟨w.heap.size + 1, 1, none⟩ = some (.int .u64 (tLo S : Nat)) := by rw [zC ht]; rfl
 obtain ⟨⟨r0, y0⟩, ⟨r1, y1⟩, ⟨r2, y2⟩, ⟨r3, y3⟩, ⟨r4, y4⟩, ⟨r5, y5⟩, ⟨r6, y6⟩, ⟨r7, y7⟩, ⟨r8, y8⟩, ⟨r9, y9⟩⟩ := yyg hr
 obtain ⟨mnn, mni, mns⟩ := mn
 obtain ⟨mxn, mxi, mxs⟩ := mx
 obtain ⟨q, hq⟩ : ∃ q, q = decide (1 ≤ k ∧ k ≤ 5) := ⟨_, rfl⟩
 rw [← hq]
 have HQ := zH hq
 dsimp only at *
 clear h hs ht hr hq
 cases q
 · go_enter Tryz.func178, Tryz.ntmps178
   go_upto_region 1 with fail
   rw [← HW.out.eq]
   go_wp2_with (first
    | (go_at_call 44; refine (zzf _ _).mono ?_; rintro e w5 ⟨rfl, rfl⟩; rw [← HQ.out])
    | fail)
   exact bodyPost_ret (results_cell_row rfl _ _ (w.heap.size + 2) 109 _ (0, 0) _ rfl (set10 HW.out.r _ _ _ _ _ _ _ _ _ _) Tryz.underlying109 rfl (by kernel_rfl)) rfl ⟨rfl, qzN HW.out.below (by omega) _ _ _ _ _ _ _ _ _ _⟩
 · obtain ⟨ok, hok⟩ : ∃ ok, ok = vvL S := ⟨_, rfl⟩
   have HT := zH (tnum_any S)
   obtain ⟨x, hx⟩ : ∃ x, x = if ok then S else 0 := ⟨_, rfl⟩
   rw [← hok] at HT ⊢
   rw [← hx] at HT
   cases ok
   all_goals
    (first | (replace hx := (show x = S from hx); subst hx) | (replace hx := (show x = 0 from hx); subst hx))
    clear hok
    go_enter Tryz.func178, Tryz.ntmps178
    go_upto_region 1 with fail
    rw [← HW.out.eq]
    go_upto_region 4 with (first
     | (go_at_call 44; refine (zzf _ _).mono ?_; rintro e w5 ⟨rfl, rfl⟩; rw [← HQ.out])
     | (go_at_call 223; refine (HT.out _).mono ?_; rintro e w6 ⟨rfl, hb6⟩; have HB6 := zH hb6; clear hb6)
     | fail)
    have hs6 := (HB6.out.block _ (zzb HW.out.s)).trans HW.out.s
    have HR6 := zH ((HB6.out.block _ (zzb HW.out.r)).trans HW.out.r)
    have HB := zH (HW.out.below.trans (HB6.out.mono HW.out.below.size))
    clear s0 a0 r0 y0 s1 a1 r1 y1 s2 a2 r2 y2 s3 a3 r3 y3 s4 a4 r4 y4 s5 a5 r5 y5 s6 a6 r6 y6 s7 a7 r7 y7 s8 a8 r8 y8 s9 a9 r9 y9 t0 t1
    obtain ⟨⟨s0, a0⟩, ⟨s1, a1⟩, ⟨s2, a2⟩, ⟨s3, a3⟩, ⟨s4, a4⟩, ⟨s5, a5⟩, ⟨s6, a6⟩, ⟨s7, a7⟩, ⟨s8, a8⟩, ⟨s9, a9⟩⟩ := yyg hs6
    obtain ⟨⟨r0, y0⟩, ⟨r1, y1⟩, ⟨r2, y2⟩, ⟨r3, y3⟩, ⟨r4, y4⟩, ⟨r5, y5⟩, ⟨r6, y6⟩, ⟨r7, y7⟩, ⟨r8, y8⟩, ⟨r9, y9⟩⟩ := yyg HR6.out
    clear hs6
    go_wp2_with fail
    exact bodyPost_ret (results_cell_row rfl _ _ (w.heap.size + 2) 109 _ (0, 0) _ rfl (set10 ((Below.heap_setCell _ _ _ _ (by simp)).trans ((Below.heap_setCell _ _ _ _ (by simp)).trans HR6.out)) _ _ _ _ _ _ _ _ _ _) Tryz.underlying109 rfl (by kernel_rfl)) rfl ⟨rfl, qzN (zzd (zzd HB.out zN _) zN _) (by omega) _ _ _ _ _ _ _ _ _ _⟩
end
section
open Go Go.RowKit
end
section
open Go Go.RowKit
end
section
open Go Go.RowKit
structure P2 (w0 : World) (col : Nat → Nat) (S : Nat) (A1 : Option Addr) (n1 c1 : Nat) (gs : List Int) (A2 : Option Addr) (n2 c2 : Nat) (ps : List Nat) (w : World) : Prop where
 a : Col tI64 3 col 0 w0.heap.size S w A1 n1 c1 gs
 b : Col tU64 112 col 1 w0.heap.size S w A2 n2 c2 ps
 below : Below w0.heap.size w0 w
 low : w0.heap.size ≤ S
 high : S ≤ w.heap.size
section
variable {w0 w w' : World} {col : Nat → Nat} {S : Nat} {A1 A2 A' : Option Addr} {n1 c1 n2 c2 c' : Nat} {gs : List Int} {ps : List Nat}
theorem P2.push1 {F : Nat → Prop} (h : P2 w0 col S A1 n1 c1 gs A2 n2 c2 ps w) (f2 : ∀ b, F b → b < S ∧ w0.heap.size ≤ b ∧ col b = 0) (f3 : ∀ b, A1.map (·.block) = some b → b < S ∧ col b = 0) (o : Obj) (x : Int)
 (ha : ApdL tI64 3 (fun b => (F b ∨ (fun _ => False) b) ∧ b < w.heap.size) w0 (w.alloc o) w' w0.heap.size A1 A' (n1 + 1) c' (gs ++ [x])) :
 P2 w0 (zzZ col 0 S) w'.heap.size A' (n1 + 1) c' (gs ++ [x]) A2 n2 c2 ps w' := by
 have hg := ha.grown.size
 rw [zS] at hg
 have hh := h.high
 have hlo := h.low
 exact ⟨Col.apd f2 f3 (fun _ hh => hh.elim) h.low (by rw [zS]; omega) ha, Col.past (h.b.allocs o) (by decide) f3 ha.grown (by omega), ha.below, by omega, Nat.le_refl _⟩
theorem P2.push2 {F : Nat → Prop} (h : P2 w0 col S A1 n1 c1 gs A2 n2 c2 ps w) (f2 : ∀ b, F b → b < S ∧ w0.heap.size ≤ b ∧ col b = 1) (f3 : ∀ b, A2.map (·.block) = some b → b < S ∧ col b = 1) (o : Obj) (x : Nat)
 (ha : ApdL tU64 112 (fun b => (F b ∨ (fun _ => False) b) ∧ b < w.heap.size) w0 (w.alloc o) w' w0.heap.size A2 A' (n2 + 1) c' (ps ++ [x])) :
 P2 w0 (zzZ col 1 S) w'.heap.size A1 n1 c1 gs A' (n2 + 1) c' (ps ++ [x]) w' := by
 have hg := ha.grown.size
 rw [zS] at hg
 have hh := h.high
 have hlo := h.low
 exact ⟨Col.past (h.a.allocs o) (by decide) f3 ha.grown (by omega), Col.apd f2 f3 (fun _ hh => hh.elim) h.low (by rw [zS]; omega) ha, ha.below, by omega, Nat.le_refl _⟩
end
def zzV (q : List (Nat × Nat)) : List Int := q.map fun x => (x.1 : Int)
def zz9 (q : List (Nat × Nat)) : List Nat := q.map (·.2)
theorem uuX (q : List (Nat × Nat)) (x : Nat × Nat) : zzV (q ++ [x]) = zzV q ++ [(x.1 : Int)] := by simp [zzV]
theorem uuY (q : List (Nat × Nat)) (x : Nat × Nat) : zz9 (q ++ [x]) = zz9 q ++ [x.2] := by simp [zz9]
theorem qxI (F : Nat → Prop) (A : Option Addr) (n c : Nat) (us : List Nat) (w : World) (h : Sl tU64 F w A n c us) (hn : n ≤ 512) (k : Nat) (hk : k ≤ 63) :
 Calls Tryz.prog 265 #[.slice A n c, .int .i64 (k : Int)] w fun e w' => ∃ A1 c1 A2 c2 m, m = (zzu k 0 0 us).length ∧ m ≤ 1024 ∧ e = .returned (.tuple #[.slice A1 m c1, .slice A2 m c2]) ∧
  Sl tI64 (fun b => w.heap.size ≤ b) w' A1 m c1 (zzV (zzu k 0 0 us)) ∧ Sl tU64 (fun b => w.heap.size ≤ b) w' A2 m c2 (zz9 (zzu k 0 0 us)) ∧ Below w.heap.size w w' := by
 have HL := zH h.len; have HH := zH h
 have hc1 := Col.empty tI64 3 (fun b => if b = w.heap.size then 0 else 1) 0 w.heap.size w zN (if_pos rfl)
 have hc2 := Col.empty tU64 112 (fun b => if b = w.heap.size then 0 else 1) 1 w.heap.size (w.alloc (.cells #[] 3)) (by simp) (by rw [zS]; exact if_neg (by omega))
 rw [zS] at hc2
 have HP0 : Hid (P2 w _ (w.heap.size + 1 + 1) _ _ _ [] _ _ _ [] ((w.alloc (.cells #[] 3)).alloc (.cells #[] 112))) := zH ⟨(hc1.allocs (.cells #[] 112)).recol (S' := w.heap.size + 1 + 1) (fun _ _ => rfl) (by omega), hc2, ((zR).alloc zN _).alloc (by simp) _, by omega, by simp⟩
 clear h hc1 hc2
 go_enter Tryz.func265, Tryz.ntmps265
 go_wp2_with fail
 go_loopw [6, 7, 8, 9] (fun av bv lv iv wr => ∃ (i : Nat) (A1 : Option Addr) (c1 : Nat) (A2 : Option Addr) (c2 m la : Nat) (ps : List (Nat × Nat)) (col : Nat → Nat) (S : Nat), i ≤ n ∧ iv = .int .i64 (i : Int) ∧ lv = .int .i64 (la : Int) ∧ av = .slice A1 m c1 ∧ bv = .slice A2 m c2 ∧
  P2 w col S A1 m c1 (zzV ps) A2 m c2 (zz9 ps) wr ∧ ps = zzu k 0 0 (us.take i) ∧ la = xxe k 0 0 (us.take i) ∧ m ≤ i + la / 255) (fun _ _ _ iv _ => n - (intOf iv).toNat)
 case atStart => exact ⟨0, _, _, _, _, 0, 0, [], _, _, Nat.zero_le _, rfl, rfl, rfl, rfl, HP0.out, rfl, rfl, Nat.zero_le _⟩
 case round =>
  obtain ⟨i, A1, c1, A2, c2, m, la, ps, col, S, hi, rfl, rfl, rfl, rfl, hp, hps, hla, hm⟩ := hrel
  have HP := zH hp; have HPS := zH hps; have HLA := zH hla
  have HUL := HL
  clear hp hps hla
  by_cases hlt : i < n
  · have hil : i < us.length := by rw [← HL.out]; exact hlt
    obtain ⟨u, hu⟩ : ∃ u, u = us[i] := ⟨_, rfl⟩
    obtain ⟨b, o, uv, rfl, _, _, hrep, hcu⟩ := HH.out.at1 hil rfl
    have hu64 := hrep.2
    have hr : [uv] = [Value.int .u64 ((us[i] : Nat) : Int)] := hrep.1
    injection hr with hr; subst hr
    rw [← hu] at hu64 hcu
    clear hrep
    have cu := zzh HP.out.below hcu
    have HTK := zH (show us.take (i + 1) = us.take i ++ [u] by rw [zT hil, hu])
    have i0 : (0 : Int) ≤ (i : Int) := by omega
    have i1 : (i : Int) < (n : Int) := by omega
    obtain ⟨p, hp⟩ : ∃ p, p = u / 2 ^ k := ⟨_, rfl⟩
    have zp : (u : Int) / 2 ^ k = (p : Int) := by rw [hp]; simp
    have hlen : (us.take i).length = i := by rw [List.length_take]; omega
    have hps2 := xx0 k (us.take i) 0 0 u
    have hla2 := vvE k (us.take i) 0 0 u
    rw [hlen, ← HTK.out, ← HPS.out, ← HLA.out, Nat.zero_add] at hps2
    rw [hlen, ← HTK.out, ← HLA.out, Nat.zero_add] at hla2
    have hlai : la ≤ i := by rw [HLA.out]; have := vvn k (us.take i) 0 0 zN; omega
    have hlai2 : i ≠ 0 → la < i := fun h => by
     have := zql k (us.take i) 0 0 zN (fun e => by rw [e] at hlen; simp at hlen; omega)
     rw [HLA.out]; omega
    rw [← hp] at hla2
    unfold jjq at hps2
    rw [← hp] at hps2
    have HLAI2 := zH hlai2
    have hpu : U64 p := by
     have : (p : Int) ≤ (u : Int) := by rw [← zp]; exact Int.ediv_le_self _ (by omega)
     show p < 18446744073709551616; omega
    have HPU := zH hpu
    clear hp hlen hlai2 hcu hu hu64 hpu
    by_cases hp0 : p = 0
    · subst hp0
      rw [if_pos rfl, List.append_nil] at hps2
      rw [if_pos rfl] at hla2
      have HPS2 := zH hps2; have HLA2 := zH hla2
      clear hps2 hla2
      go_wp2_with fail
      go_roundw
      case rel => exact ⟨i + 1, A1, c1, A2, c2, m, la, ps, col, S, by omega, by go_num, rfl, rfl, rfl, HP.out, HPS2.out.symm, HLA2.out.symm, by omega⟩
      case measure => simp [intOf]; omega
    · rw [if_neg hp0] at hps2 hla2
      have zp0 : (0 : Int) < (p : Int) := by omega
      have zp1 : ¬ (p : Int) = 0 := by omega
      have zp2 : ((p : Int) == 0) = false := zzH zp1
      have HPS2 := zH hps2; have HLA2 := zH hla2
      clear hps2 hla2 hp0
      go_wp2_with fail
      go_loopw [6, 7, 8] (fun av bv lv wq => ∃ (j lq nq : Nat) (B1 : Option Addr) (d1 : Nat) (B2 : Option Addr) (d2 : Nat) (qs : List (Nat × Nat)) (col : Nat → Nat) (S : Nat), lv = .int .i64 (lq : Int) ∧ av = .slice B1 nq d1 ∧ bv = .slice B2 nq d2 ∧
       P2 w col S B1 nq d1 (zzV qs) B2 nq d2 (zz9 qs) wq ∧ qs = ps ++ List.replicate j (255, 0) ∧ lq = la + 255 * j ∧ nq = m + j ∧ (j = 0 ∨ lq < i)) (fun _ _ lv _ => i - (intOf lv).toNat)
      case atStart => exact ⟨0, la, m, _, _, _, _, ps, _, _, rfl, rfl, rfl, HP.out, by rw [List.replicate_zero, List.append_nil], rfl, rfl, .inl rfl⟩
      case round =>
       obtain ⟨j, lq, nq, B1, d1, B2, d2, qs, col, S, rfl, rfl, rfl, hq, hqs, hlq, hnq, hj⟩ := hrel
       have HQ := zH hq
       clear hq
       have hlqi : lq ≤ i := by omega
       obtain ⟨F1, o1, f12, f13⟩ := HQ.out.a
       have O1 := zH o1; have F12 := zH f12; have F13 := zH f13
       clear o1 f12 f13
       by_cases hfar : (255 : Int) < (i : Int) - (lq : Int)
       · have hj8 : j ≤ 512 := by omega
         have HLQ := zH hlq; have HNQ := zH hnq
         have HQS := zH (show qs ++ [(255, 0)] = ps ++ List.replicate (j + 1) (255, 0) by rw [hqs, List.append_assoc, ← List.replicate_succ'])
         have hnq4 : nq ≤ 4096 := by omega
         have hlq4 : lq ≤ 4096 := by omega
         have hfar2 : (i : Int) - (lq : Int) > 255 := hfar
         clear hlq hnq hj hqs
         go_upto_region 11 with (first
          | (at_builtin; refine apl1 (T := tI64) xxv wr w rfl (.tmp 31) (.tmp 32) rfl w.heap.size B1 nq d1 (zzV qs) (by rfl) F1 (fun _ => False) O1.out HQ.out.below zN _ (by rfl) [.int .i64 255] 255 ⟨rfl, by decide, by decide⟩ 3 rfl (fun _ _ _ _ h4 => h4) (by omega) ?_; intro A5 c5 w5 h5)
          | fail)
         have HQ5 := zH (P2.push1 HQ.out F12.out F13.out _ _ h5)
         obtain ⟨F2, o2, f22, f23⟩ := HQ5.out.b
         have O2 := zH o2; have F22 := zH f22; have F23 := zH f23
         clear o2 f22 f23 h5
         go_wp2_with (first
          | (at_builtin; refine apl1 (T := tU64) xxZ w5 w rfl (.tmp 34) (.tmp 35) rfl w.heap.size B2 nq d2 (zz9 qs) (by rfl) F2 (fun _ => False) O2.out HQ5.out.below zN _ (by rfl) [.int .u64 0] 0 ⟨rfl, by decide⟩ 112 rfl (fun _ _ _ _ h4 => h4) (by omega) ?_; intro A6 c6 w6 h6)
          | fail)
         have HQ6 := zH (P2.push2 HQ5.out F22.out F23.out _ _ h6)
         go_roundw
         case rel => exact ⟨j + 1, lq + 255, nq + 1, A5, c5, A6, c6, qs ++ [(255, 0)], _, _, by go_num, rfl, rfl, by rw [uuX, uuY]; exact HQ6.out, HQS.out, by have := HLQ.out; omega, by have := HNQ.out; omega, .inr (by omega)⟩
         case measure => simp [intOf]; omega
       · obtain ⟨gq, hgq⟩ : ∃ gq, gq = i - lq := ⟨_, rfl⟩
         have zg : (i : Int) - (lq : Int) = (gq : Int) := by omega
         have hfar2 : ¬ (gq : Int) > 255 := by omega
         have hfar3 : ¬ (255 : Int) < (gq : Int) := by omega
         have hjj : (i - la - 1) / 255 = j := by
          by_cases hi0 : i = 0
          · omega
          · have := HLAI2.out hi0; omega
         have HFIN := zH (show qs ++ [(gq, p)] = zzu k 0 0 (us.take (i + 1)) by rw [HPS2.out, hqs, hjj, hgq, hlq, List.append_assoc, Nat.sub_add_eq])
         have hgq4 : gq ≤ 4096 := by omega
         have hnq4 : nq ≤ 4096 := by omega
         have hnqb : nq + 1 ≤ i + 1 + i / 255 := by omega
         have HNQB := zH hnqb
         have HZG := zH zg
         clear hlq hnq hj hqs hgq hjj hlai hnqb hm hfar
         go_upto_region 14 with (first
          | (at_builtin; refine apl1 (T := tI64) xxv wr w rfl (.tmp 39) (.tmp 43) rfl w.heap.size B1 nq d1 (zzV qs) (by rfl) F1 (fun _ => False) O1.out HQ.out.below zN _ (by rfl) [.int .i64 (gq : Int)] (gq : Int) ⟨rfl, by omega, by omega⟩ 3 (by first | rfl | rw [HZG.out]) (fun _ _ _ _ h4 => h4) (by omega) ?_; intro A5 c5 w5 h5)
          | fail)
         have HQ5 := zH (P2.push1 HQ.out F12.out F13.out _ _ h5)
         obtain ⟨F2, o2, f22, f23⟩ := HQ5.out.b
         have O2 := zH o2; have F22 := zH f22; have F23 := zH f23
         clear o2 f22 f23 h5
         go_wp2_with (first
          | (at_builtin; refine apl1 (T := tU64) xxZ w5 w rfl (.tmp 45) (.tmp 47) rfl w.heap.size B2 nq d2 (zz9 qs) (by rfl) F2 (fun _ => False) O2.out HQ5.out.below zN _ (by rfl) [.int .u64 (p : Int)] p ⟨rfl, HPU.out⟩ 112 rfl (fun _ _ _ _ h4 => h4) (by omega) ?_; intro A6 c6 w6 h6)
          | fail)
         have HQ6 := zH (P2.push2 HQ5.out F22.out F23.out _ _ h6)
         go_roundw
         case rel => exact ⟨i + 1, A5, c5, A6, c6, nq + 1, i, qs ++ [(gq, p)], _, _, by omega, by go_num, rfl, rfl, rfl, by rw [uuX, uuY]; exact HQ6.out, HFIN.out, HLA2.out.symm, HNQB.out⟩
         case measure => simp [intOf]; omega
  · obtain rfl : i = n := by omega
    have e1 : us.take i = us := zL (by rw [← HL.out]; exact Nat.le_refl _)
    have hps := HPS.out
    have hla := HLA.out
    rw [e1] at hps hla
    have hln := HP.out.b.len
    rw [zz9, List.length_map] at hln
    have hla4 : la ≤ i := by have := vvn k us 0 0 zN; rw [hla, HL.out]; omega
    have HPSX := zH hps; have HLN := zH hln
    clear e1 hps hla hln
    go_wp2_with fail
    go_ret2
    exact ⟨A1, c1, A2, c2, m, by rw [← HPSX.out]; exact HLN.out, by omega, rfl, by rw [← HPSX.out]; exact HP.out.a.sl, by rw [← HPSX.out]; exact HP.out.b.sl, HP.out.below⟩
end
section
open Go Go.RowKit
structure P10 (w0 : World) (Ao : Option Addr) (so co : Nat) (out : List UInt8) (Au : Option Addr) (nu cu : Nat) (up : List Nat) (Ag : Option Addr) (np cg : Nat) (gs : List Int) (Ap : Option Addr) (cp : Nat) (ps : List Nat) (w : World) : Prop where
 below : Below w0.heap.size w0 w
 out : OwnB w w0.heap.size Ao so co out
 up : Sl tU64 (fun _ => True) w Au nu cu up
 gaps : Sl tI64 (fun _ => True) w Ag np cg gs
 pats : Sl tU64 (fun _ => True) w Ap np cp ps
theorem P10.keep {w0 w w' : World} {Ao : Option Addr} {so co : Nat} {out : List UInt8} {Au : Option Addr} {nu cu : Nat} {up : List Nat} {Ag : Option Addr} {np cg : Nat} {gs : List Int} {Ap : Option Addr} {cp : Nat} {ps : List Nat}
 (h : P10 w0 Ao so co out Au nu cu up Ag np cg gs Ap cp ps w) (hb : Below w.heap.size w w') : P10 w0 Ao so co out Au nu cu up Ag np cg gs Ap cp ps w' :=
 ⟨h.below.trans (hb.mono h.below.size), h.out.keepB hb, h.up.below hb zN, h.gaps.below hb zN, h.pats.below hb zN⟩
theorem P10.lay {w0 w : World} {Ao Ao' : Option Addr} {so co so' co' : Nat} {out out' : List UInt8} {Au : Option Addr} {nu cu : Nat} {up : List Nat} {Ag : Option Addr} {np cg : Nat} {gs : List Int} {Ap : Option Addr} {cp : Nat} {ps : List Nat}
 (h : P10 w0 Ao so co out Au nu cu up Ag np cg gs Ap cp ps w) (ho : OwnB w w0.heap.size Ao' so' co' out') : P10 w0 Ao' so' co' out' Au nu cu up Ag np cg gs Ap cp ps w :=
 ⟨h.below, ho, h.up, h.gaps, h.pats⟩
theorem gapW_take {ps : List (Nat × Nat)} {i : Nat} (h : i < ps.length) : gapW (ps.take (i + 1)) = max (gapW (ps.take i)) (bl (ps[i]).1) := by
 rw [zT h, uuF]
theorem qxJ (F : Nat → Prop) (A : Option Addr) (n c : Nat) (l : List Int) (w : World) (h : Sl tI64 F w A n c l) (hn1 : 1 ≤ n) (hn : n ≤ 512) (sg : Bool) (hl : yyb sg l) (k : Nat) (hk : k ≤ 63) (hkc : zzU (k : Int) = ((zz3 k : Nat) : Int)) :
 Calls Tryz.prog 219 #[.slice A n c, .int .i64 (k : Int), .bool sg] w (zzF (patB k l) w) := by
 have hlen := h.len
 have hne : l ≠ [] := by intro e; rw [e] at hlen; simp at hlen; omega
 have hmlr := (hl.least hne)
 have HH := zH h; have HNE := zH hne; have HK := zH hl; have HLEN := zH hlen
 obtain ⟨up, hup⟩ : ∃ up, up = upN l := ⟨_, rfl⟩
 obtain ⟨ps, hps⟩ : ∃ ps, ps = zzu k 0 0 up := ⟨_, rfl⟩
 obtain ⟨mn, hmn⟩ : ∃ mn, mn = zzA l := ⟨_, rfl⟩
 rw [← hmn] at hmlr
 obtain ⟨m0, m1, _⟩ := hmlr
 obtain ⟨ck, hck⟩ : ∃ ck, ck = zz3 k := ⟨_, rfl⟩
 have HKC := zH (show zzU (k : Int) = (ck : Int) by rw [hck]; exact hkc)
 have hck31 : ck ≤ 31 := by rw [hck]; have := xxW (k : Int); omega
 have HAB : Hid (∀ w1, Below w.heap.size w w1 → Calls Tryz.prog 264 #[.slice A n c] w1 fun e w2 => Below w1.heap.size w1 w2 ∧ ∃ (b' : Int) (A2 : Option Addr) (n2 c2 : Nat) (ok : Bool), e = .returned (.tuple #[.int .i64 b', .slice A2 n2 c2, .bool ok]) ∧ (ok = false → patB k l = none) ∧
  (ok = true → b' = mn ∧ n2 = n ∧ Sl tU64 (fun _ => True) w2 A2 n2 c2 up ∧ up.all (· < 9223372036854775808) = true ∧ -9223372036854775808 < mn)) := zH fun w1 hb1 => by
  refine (qxG F A n c l w1 (HH.out.below hb1 zN) HNE.out (by omega)).mono ?_
  rintro e w2 ⟨hb2, he⟩
  refine ⟨hb2, ?_⟩
  by_cases hg : (upN l).all (· < 9223372036854775808) = true
  · rw [if_pos hg] at he
    obtain ⟨A2, c2, rfl, ho⟩ := he
    refine ⟨_, A2, _, c2, _, rfl, fun h1 => ?_, fun h1 => ⟨hmn.symm, HLEN.out.symm, ?_, by rw [hup]; exact hg, ?_⟩⟩
    · have h2 : zzA l = -9223372036854775808 := by simpa using h1
      unfold patB
      dsimp only
      rw [yyF, h2, hg]; simp
    · rw [hup]; exact ho.sl.any
    · have h2 : ¬ zzA l = -9223372036854775808 := by simpa using h1
      rw [← hmn] at h2; omega
  · rw [if_neg hg] at he
    refine ⟨_, none, 0, 0, _, he, fun _ => ?_, fun h => by cases h⟩
    have hg2 : (upN l).all (· < 9223372036854775808) = false := by simpa using hg
    unfold patB
    dsimp only
    rw [yyF, hg2]; simp
 have hn5 : ¬ (n : Int) > 512 := by omega
 have hn6 : ¬ (n : Int) < 1 := by omega
 have hk6 : ¬ (k : Int) ≥ 64 := by omega
 have hck0 : ¬ (ck : Int) < 0 := by omega
 have HUP := zH hup; have HPS := zH hps; have HMN := zH hmn; have HCK := zH hck
 clear h hl hlen hne hup hps hmn hck hkc
 go_enter Tryz.func219, Tryz.ntmps219
 go_upto_region 5 with (first
  | (go_at_call 214; refine (qzU F _ n c l _ HH.out (by omega) sg HK.out).mono ?_; rintro e w1 ⟨A1, q1, c1, rfl, _, hb1⟩; have HB1 := zH hb1; clear hb1)
  | (go_at_call 261; refine (kqJ (k : Int) _).mono ?_; rintro e w4 ⟨rfl, rfl⟩; rw [HKC.out])
  | (go_at_call 264; refine (HAB.out _ HB1.out).mono ?_; rintro e w2 ⟨hb2, b', A2, n2, c2, ok, rfl, h1, h2⟩; have HB2 := zH hb2; have H1 := zH h1; have H2 := zH h2; clear hb2 h1 h2)
  | fail)
 have HBW := zH (HB1.out.trans (HB2.out.mono HB1.out.size))
 cases ok with
 | false =>
   go_wp2_with fail
   go_ret2
   rw [H1.out (by first | rfl | trivial)]
   exact ⟨HBW.out, rfl⟩
 | true =>
   obtain ⟨rfl, rfl, hup, hall, hmn0⟩ := H2.out (by first | rfl | trivial)
   have HUS := zH hup
   have HALL := zH hall
   clear hup hall H1 H2 HAB
   go_upto_region 8 with (first
    | (go_at_call 265; refine (qxI _ A2 n2 c2 up _ HUS.out hn k hk).mono ?_; rw [← HPS.out]; rintro e w3 ⟨Ag, cg, Ap, cp, np, hnp, hnp4, rfl, hg3, hp3, hb3⟩; have HNP := zH hnp; have HG3 := zH hg3.any; have HP3 := zH hp3.any; have HB3 := zH hb3; clear hnp hg3 hp3 hb3)
    | fail)
   have HP := zH (show P10 w none 0 0 [] A2 n2 c2 up Ag np cg (zzV ps) Ap cp (zz9 ps) w3 from ⟨HBW.out.trans (HB3.out.mono HBW.out.size), OwnB.nil_ _ _, HUS.out.below HB3.out zN, HG3.out, HP3.out⟩)
   clear HB1 HB2 HBW HUS HG3 HP3 HB3
   go_wp2_with fail
   go_loopw [15, 16] (fun gv iv wr => ∃ i : Nat, i ≤ np ∧ iv = .int .i64 (i : Int) ∧ gv = .int .i64 ((gapW (ps.take i) : Nat) : Int) ∧ wr = w3) (fun _ iv _ => np - (intOf iv).toNat)
   case atStart => exact ⟨0, Nat.zero_le _, rfl, rfl, rfl⟩
   case round =>
    obtain ⟨i, hi, rfl, rfl, rfl⟩ := hrel
    by_cases hlt : i < np
    · have hik : i < ps.length := by rw [← HNP.out]; exact hlt
      obtain ⟨x, hx⟩ : ∃ x, x = (ps[i]).1 := ⟨_, rfl⟩
      obtain ⟨b, o, uv, rfl, _, _, hrep, hcu⟩ := HP.out.gaps.at1 (k := i) (by unfold zzV; rw [List.length_map]; exact hik) rfl
      have hxe : (zzV ps)[i]'(by unfold zzV; rw [List.length_map]; exact hik) = (x : Int) := by simp [zzV, hx]
      have hx63 := hrep.2.2
      have hr : [uv] = [Value.int .i64 ((zzV ps)[i]'(by unfold zzV; rw [List.length_map]; exact hik))] := hrep.1
      rw [hxe] at hr hx63
      injection hr with hr; subst hr
      obtain ⟨g1, hg1⟩ : ∃ g1, g1 = gapW (ps.take i) := ⟨_, rfl⟩
      obtain ⟨g2, hg2⟩ : ∃ g2, g2 = bl x := ⟨_, rfl⟩
      have HE := zH (show gapW (ps.take (i + 1)) = max g1 g2 by rw [gapW_take hik, hg1, hg2, hx])
      have HG2 := zH hg2
      have HXU := zH (show U64 x by show x < 18446744073709551616; omega)
      have xw : IntKind.u64.wrap (x : Int) = (x : Int) := by rw [IntKind.wrap_u64]; omega
      rw [← hg1]
      have q0 : (0 : Int) ≤ (i : Int) := by omega
      have q1 : (i : Int) < (np : Int) := by omega
      clear hrep hxe hg1 hg2 hx
      go_wp2_with (first
       | (go_at_call 256; refine (uuK x HXU.out _).mono ?_; rintro e w1 ⟨rfl, rfl⟩; rw [← HG2.out])
       | fail)
      go_roundw
      case rel => exact ⟨i + 1, by omega, by go_num, by rw [HE.out]; go_num, trivial⟩
      case measure => simp [intOf]; omega
    · obtain rfl : i = np := by omega
      have e1 : ps.take i = ps := zL (by rw [HNP.out]; exact Nat.le_refl _)
      rw [e1]
      obtain ⟨g, hg⟩ : ∃ g, g = gapW ps := ⟨_, rfl⟩
      obtain ⟨mo, hmo⟩ : ∃ mo, mo = most (zz9 ps) := ⟨_, rfl⟩
      obtain ⟨q, hq⟩ : ∃ q, q = patW ps := ⟨_, rfl⟩
      have hpm : patM ps = max 1 mo := by rw [hmo]; rfl
      have hupl : ∀ x ∈ up, x < 9223372036854775808 := fun x hx => by simpa using List.all_eq_true.1 HALL.out x hx
      have hpm64 : patM ps ≤ 64 := (qzx ps fun x hx => by
       rw [HPS.out] at hx
       exact vvF k up 0 0 (fun y hy => Nat.lt_trans (hupl y hy) (by decide)) x hx).2
      have HQW := zH (show zzo (max (1 : Int) (mo : Int)) = (q : Int) by
       rw [show max (1 : Int) (mo : Int) = ((patM ps : Nat) : Int) by rw [hpm]; omega, hq, xxs]; exact kq1)
      have hmx64 : max (1 : Int) (mo : Int) ≤ 64 := by rw [hpm] at hpm64; omega
      have HMX := zH hmx64
      have hgb : 1 ≤ g := by rw [hg]; unfold gapW; omega
      have hg64 : g ≤ 64 := by
       rw [hg]
       refine (xqI ps fun x hx => ?_).2
       obtain ⟨_, hcs⟩ := HP.out.gaps.all (x.1 : Int) (List.mem_map.2 ⟨x, hx, rfl⟩)
       have := hcs.2.2
       show x.1 < 18446744073709551616; omega
      have HGB := zH hgb
      have hqr : q ≤ 64 := by rw [hq, xxs]; exact yyB _
      have HFIT := zH (show yyP k l = (decide (ps.length ≤ 31) && decide (g + q ≤ 64) && decide (k + q ≤ 64)) by
       rw [yyF, ← HUP.out, ← HPS.out, HALL.out, ← HMN.out, show (b' != -9223372036854775808) = true by simp; omega, hg, hq]; rfl)
      have HG := zH hg; have HMO := zH hmo; have HQ := zH hq; have HPM := zH hpm64; have HUPL := zH hupl
      rw [← hg]
      clear e1 hmo hq hpm hpm64 hmx64 hupl hgb hg
      go_upto_region 14 with (first
       | (go_at_call 258; refine (xq7 _ Ap i cp (zz9 ps) _ HP.out.pats).mono ?_; rintro e w5 ⟨rfl, rfl⟩; rw [← HMO.out])
       | (go_at_call 257; refine (jjv _ HMX.out _).mono ?_; rintro e w5 ⟨rfl, rfl⟩; rw [HQW.out])
       | fail)
      have HNONE : Hid (yyP k l = false → patB k l = none) := zH fun hf => by unfold patB; dsimp only; rw [hf, if_neg (by simp)]
      by_cases h1 : i ≤ 31
      · have e1 : ¬ (i : Int) > 31 := by omega
        have e1' : ¬ (31 : Int) < (i : Int) := by omega
        by_cases h2 : g + q ≤ 64
        · have e2 : ¬ (g : Int) + (q : Int) > 64 := by omega
          by_cases h3 : k + q ≤ 64
          · have e3 : ¬ (k : Int) + (q : Int) > 64 := by omega
            have hfit : yyP k l = true := by rw [HFIT.out, decide_eq_true h2, decide_eq_true h3, decide_eq_true (by rw [← HNP.out]; exact h1)]; rfl
            obtain ⟨bs, hbs⟩ : ∃ bs, bs = vve b' := ⟨_, rfl⟩
            have hbl : bs.length = bl b'.natAbs / 8 + 1 := by rw [hbs]; unfold vve; rw [zz1]
            have hbl2 : bl b'.natAbs ≤ 64 := yya (show b'.natAbs < 18446744073709551616 by omega)
            have hb9 : 1 ≤ bs.length ∧ bs.length ≤ 9 := by omega
            obtain ⟨z, hz⟩ : ∃ z, z = zzt (g + q) := ⟨_, rfl⟩
            have hz1 := yyS h2
            have hz2 := yyB (g + q)
            rw [← hz] at hz1 hz2
            obtain ⟨low, hlow⟩ : ∃ low, low = up.map (· % 2 ^ k) := ⟨_, rfl⟩
            obtain ⟨both, hboth⟩ : ∃ both, both = ps.map fun x => x.1 * 2 ^ q + x.2 := ⟨_, rfl⟩
            obtain ⟨cq, hcq⟩ : ∃ cq, cq = zz3 q := ⟨_, rfl⟩
            have hqc : zzU (q : Int) = ((zz3 q : Nat) : Int) ∧ zz3 q ≤ 31 := by rw [HQ.out, xxs]; exact vv4 HPM.out
            rw [← hcq] at hqc
            obtain ⟨y1, hy1⟩ : ∃ y1 : UInt8, y1 = UInt8.ofNat (32 * (bs.length - 1) + cq) := ⟨_, rfl⟩
            obtain ⟨y2, hy2⟩ : ∃ y2 : UInt8, y2 = UInt8.ofNat (32 * (g - 1) + i) := ⟨_, rfl⟩
            have HDEL : Hid (patB k l = some (yyc 2 ck n2 ++ [y1, y2] ++ bs ++ pack k low ++ pack z both)) := zH (by
             unfold patB
             dsimp only
             rw [hfit, if_pos rfl, ← HUP.out, ← HPS.out, ← HMN.out, ← hbs, ← HQ.out, ← HG.out, ← hlow, ← hz, ← hboth, ← hcq, ← HCK.out, ← HLEN.out, ← HNP.out, ← hy1, ← hy2])
            have hlows : ∀ x ∈ low, x < 2 ^ k := fun x hx => by
             rw [hlow] at hx
             obtain ⟨y, _, rfl⟩ := List.mem_map.1 hx
             exact Nat.mod_lt _ (Nat.pow_pos (by decide))
            have HPQ : Hid (∀ x ∈ ps, x.1 < 9223372036854775808 → U64 x.2 → x.1 < 2 ^ g ∧ x.2 < 2 ^ q) := zH fun x hx h1 h2 => by
             have h3 := jjs hx h1 h2
             rw [← HG.out] at h3
             refine ⟨h3.1, Nat.lt_of_lt_of_le h3.2 (Nat.pow_le_pow_right (by decide) ?_)⟩
             rw [HQ.out, xxs]
             exact (yyS HPM.out).1
            have HLOWS := zH hlows; have HBOTH := zH hboth; have HLOW := zH hlow; have HB9 := zH hb9; have HZ := zH hz; have HZ1 := zH hz1; have HBS := zH hbs; have HCQ := zH hqc.1; have HY1 := zH hy1; have HY2 := zH hy2
            have hcq31 := hqc.2
            clear hlt hfit hbs hbl hbl2 hb9 hz hz1 hlow hboth hcq hqc hy1 hy2 hlows
            go_upto_region 17 with (first
             | (go_at_call 266; refine (qxH b' hmn0 m1 _).mono ?_; rw [← HBS.out]; rintro e w4 ⟨A4, s4, c4, rfl, ho4, hb4⟩; have HP4 := zH (HP.out.keep hb4); have HS4 := zH ho4.len; have HB4 := zH ho4.bs.any; clear ho4 hb4)
             | fail)
            clear HP
            obtain ⟨hs40, hs49⟩ : 1 ≤ s4 ∧ s4 ≤ 9 := by rw [HS4.out]; exact HB9.out
            have HE1 := zH (show (32 * ((s4 : Int) - 1) + (cq : Int)) % 256 = ((y1.toNat : Nat) : Int) by rw [HY1.out, UInt8.toNat_ofNat', ← HS4.out]; omega)
            have HE2 := zH (show (32 * ((g : Int) - 1) + (i : Int)) % 256 = ((y2.toNat : Nat) : Int) by have := HGB.out; rw [HY2.out, UInt8.toNat_ofNat']; omega)
            have HR := zH hg64
            go_upto_region 18 with (first
             | (go_at_call 261; refine (kqJ _ _).mono ?_; rintro e w5 ⟨rfl, rfl⟩; (first | rw [HKC.out] | rw [HCQ.out]))
             | (go_at_call 260; refine (rhead_any 2 ck n2 (by omega) hck31 hn1 hn _).mono ?_; rintro e w5 ⟨A5, n5, c5, rfl, ho5, hb5⟩; obtain rfl : n5 = 2 := ho5.len; have HO5 := zH ho5; have HB5 := zH hb5; clear ho5 hb5)
             | (at_builtin; rw [HE1.out, HE2.out]; have HA : Hid (Below w5.heap.size w5 (w5.alloc (.cells #[.int .u8 ((y1.toNat : Nat) : Int), .int .u8 ((y2.toNat : Nat) : Int)] 5))) := zH ((zR).alloc zN _); refine apb _ w4 rfl (.tmp 108) (.tmp 124) rfl w4.heap.size A5 2 c5 _ rfl (HO5.out.keepB HA.out) (HB5.out.trans (HA.out.mono HB5.out.size)) zN _ _ 2 2 [y1, y2] rfl (bs_new2 w5 y1 y2) (by omega) ?_; intro A6 c6 w6 h6 hb6 _; have HO6 := zH h6; have HB6 := zH hb6; clear h6 hb6)
             | fail)
            go_upto_region 19 with (first
             | (at_builtin; refine apb _ w4 rfl (.tmp 126) (.tmp 127) rfl w4.heap.size A6 4 c6 _ rfl HO6.out HB6.out zN _ A4 s4 c4 bs rfl (HB4.out.below HB6.out zN) (by omega) ?_; intro A7 c7 w7 h7 hb7 _; have HO7 := zH h7; have HB7 := zH hb7; clear h7 hb7)
             | fail)
            obtain ⟨out, hout⟩ : ∃ out, out = yyc 2 ck n2 ++ [y1, y2] ++ bs := ⟨_, rfl⟩
            rw [← hout] at HO7 HDEL
            have HP7 := zH ((HP4.out.keep HB7.out).lay (HO7.out.down HP4.out.below.size))
            have hso : 4 + s4 ≤ 13 := by omega
            obtain ⟨so, hsoe⟩ : ∃ so, so = 4 + s4 := ⟨_, rfl⟩
            rw [← hsoe] at HP7 hso ⊢
            obtain ⟨w8, hw8⟩ : ∃ w8, w8 = w7.alloc (.cells #[] 112) := ⟨_, rfl⟩
            have ho8 : OwnU (w7.alloc (.cells #[] 112)) w7.heap.size (some ⟨w7.heap.size, 0, none⟩) 0 0 [] := OwnF.empty _ _ _ w7 _ zN (fun _ hb => hb.elim)
            have hb8 : Below w7.heap.size w7 (w7.alloc (.cells #[] 112)) := (zR).alloc zN _
            have HO8 := zH ho8; have HB8 := zH hb8
            have HUL := zH (show up.length = n2 by rw [HUP.out, xx1, HLEN.out])
            clear hout hsoe hw8 ho8 hb8 HP4 HB4 HO5 HB5 HO6 HB6 HO7 HB7 HFIT HNONE HE1 HE2 hs40 hs49 HS4
            go_wp2_with fail
            go_loopw [20, 21] (fun sv iv wr => ∃ (j : Nat) (A9 : Option Addr) (c9 : Nat), j ≤ n2 ∧ iv = .int .i64 (j : Int) ∧ sv = .slice A9 j c9 ∧ OwnU wr w7.heap.size A9 j c9 (low.take j) ∧ Below w7.heap.size w7 wr) (fun _ iv _ => n2 - (intOf iv).toNat)
            case atStart => exact ⟨0, _, 0, Nat.zero_le _, rfl, rfl, HO8.out, HB8.out⟩
            case round =>
             obtain ⟨j, A9, c9, hj, rfl, rfl, ho, hb⟩ := hrel
             have HO := zH ho; have HB := zH hb
             clear ho hb
             by_cases hlt : j < n2
             · have hju : j < up.length := by rw [HUL.out]; exact hlt
               obtain ⟨u, hu⟩ : ∃ u, u = up[j] := ⟨_, rfl⟩
               obtain ⟨b, o, uv, rfl, _, _, hrep, hcu⟩ := (HP7.out.keep HB.out).up.at1 hju rfl
               have hr : [uv] = [Value.int .u64 ((up[j] : Nat) : Int)] := hrep.1
               have hu64 := hrep.2
               injection hr with hr; subst hr
               rw [← hu] at hcu hu64
               obtain ⟨lo, hlo⟩ : ∃ lo, lo = u % 2 ^ k := ⟨_, rfl⟩
               have HAND := zH (zqm u k hu64 hk)
               rw [← hlo] at HAND
               have HLO64 := zH (show U64 lo by rw [hlo]; exact Nat.lt_of_le_of_lt (Nat.mod_le _ _) hu64)
               have HTK := zH (show low.take (j + 1) = low.take j ++ [lo] by
                have h1 : j < low.length := by rw [HLOW.out, List.length_map]; exact hju
                have h2 : low[j] = lo := by simp only [HLOW.out, List.getElem_map]; rw [hlo, hu]
                rw [zT h1, h2])
               have j0 : (0 : Int) ≤ (j : Int) := by omega
               have j1 : (j : Int) < (n2 : Int) := by omega
               have HOD := zH (zzS HO.out.drew); have HBD := zH HB.out.drew
               clear hrep hu hlo hu64
               go_upto_region 23 with fail
               go_region_law (first
                | (refine yyY (T := tU64) xxZ wr w7 rfl (.tmp 136) (.tmp 145) rfl w7.heap.size A9 j c9 _ rfl (fun _ => False) (fun _ => False) HOD.out HBD.out zN _ rfl [.int .u64 (lo : Int)] lo ⟨rfl, HLO64.out⟩ 112 (by rw [HAND.out]) (fun _ _ _ _ h => h) (by omega) ?_; intro A6 c6 w6 h6
                   have HA6 := zH (zzS h6.own); have HB6 := zH h6.below
                   clear h6)
                | fail)
               all_goals
                go_wp2_with fail
                go_roundw
                case rel => exact ⟨j + 1, A6, c6, by omega, by go_num, rfl, by rw [HTK.out]; exact HA6.out, HB6.out⟩
                case measure => simp [intOf]; omega
             · obtain rfl : j = n2 := by omega
               have hlw : low.take j = low := zL (by rw [HLOW.out, List.length_map, HUL.out]; exact Nat.le_refl _)
               rw [hlw] at HO
               have HP8 := zH (HP7.out.keep HB.out)
               have HLS := zH (OwnF.sl HO.out).any
               clear hlw HO HB HP7 HO8 HB8
               go_upto_region 25 with (first
                | (go_at_call 259; refine (kq0 _ A9 j c9 low _ HLS.out (by omega) k (by omega) HLOWS.out).mono ?_; rintro e w9 ⟨Ax, sx, cx, rfl, hox, hbx⟩; have HX := zH hox.bs.any; have HSX := zH hox.len; have HP9 := zH (HP8.out.keep hbx); clear hox hbx)
                | fail)
               have ho8 : OwnU (w9.alloc (.cells #[] 112)) w9.heap.size (some ⟨w9.heap.size, 0, none⟩) 0 0 [] := OwnF.empty _ _ _ w9 _ zN (fun _ hb => hb.elim)
               have hb8 : Below w9.heap.size w9 (w9.alloc (.cells #[] 112)) := (zR).alloc zN _
               have HO8 := zH ho8; have HB8 := zH hb8
               clear ho8 hb8 HP8 HLS
               go_wp2_with fail
               go_loopw [24, 25] (fun sv iv wr => ∃ (p : Nat) (A8 : Option Addr) (c8 : Nat), p ≤ i ∧ iv = .int .i64 (p : Int) ∧ sv = .slice A8 p c8 ∧ OwnU wr w9.heap.size A8 p c8 (both.take p) ∧ Below w9.heap.size w9 wr) (fun _ iv _ => i - (intOf iv).toNat)
               case atStart => exact ⟨0, _, 0, Nat.zero_le _, rfl, rfl, HO8.out, HB8.out⟩
               case round =>
                obtain ⟨p, A8, c8, hp, rfl, rfl, ho, hb⟩ := hrel
                have HO := zH ho; have HB := zH hb
                clear ho hb
                by_cases hlt2 : p < i
                · have hik : p < ps.length := by rw [← HNP.out]; exact hlt2
                  have hpk := HP9.out.keep HB.out
                  obtain ⟨x, hx⟩ : ∃ x, x = (ps[p]).1 := ⟨_, rfl⟩
                  obtain ⟨y, hy⟩ : ∃ y, y = (ps[p]).2 := ⟨_, rfl⟩
                  obtain ⟨b, o, uv, rfl, _, _, hrep, hcu⟩ := hpk.gaps.at1 (k := p) (by unfold zzV; rw [List.length_map]; exact hik) rfl
                  have hxe : (zzV ps)[p]'(by unfold zzV; rw [List.length_map]; exact hik) = (x : Int) := by simp [zzV, hx]
                  have hx63 := hrep.2.2
                  have hr : [uv] = [Value.int .i64 ((zzV ps)[p]'(by unfold zzV; rw [List.length_map]; exact hik))] := hrep.1
                  rw [hxe] at hr hx63
                  injection hr with hr; subst hr
                  obtain ⟨b2, o2, uv, rfl, _, _, hrep2, hcv⟩ := hpk.pats.at1 (k := p) (by unfold zz9; rw [List.length_map]; exact hik) rfl
                  have hye : (zz9 ps)[p]'(by unfold zz9; rw [List.length_map]; exact hik) = y := by simp [zz9, hy]
                  have hy64 := hrep2.2
                  have hr : [uv] = [Value.int .u64 (((zz9 ps)[p]'(by unfold zz9; rw [List.length_map]; exact hik) : Nat) : Int)] := hrep2.1
                  rw [hye] at hr hy64
                  injection hr with hr; subst hr
                  have hab := HPQ.out _ (List.getElem_mem hik) (by rw [← hx]; omega) (by rw [← hy]; exact hy64)
                  rw [← hx, ← hy] at hab
                  obtain ⟨v, hv⟩ : ∃ v, v = x * 2 ^ q + y := ⟨_, rfl⟩
                  have hplt := uuG hab.1 hab.2
                  have hpw : 2 ^ (g + q) ≤ 2 ^ 64 := Nat.pow_le_pow_right (by decide) h2
                  have hv64 : v < 18446744073709551616 := by omega
                  have hxq : x * 2 ^ q ≤ v := by omega
                  have HSH := zH (show IntKind.u64.wrap ((x : Int) * 2 ^ q) = ((x * 2 ^ q : Nat) : Int) by
                   rw [show (x : Int) * 2 ^ q = ((x * 2 ^ q : Nat) : Int) by simp, IntKind.wrap_u64]; omega)
                  have HAD := zH (show IntKind.u64.wrap (((x * 2 ^ q : Nat) : Int) + (y : Int)) = (v : Int) by rw [IntKind.wrap_u64]; omega)
                  have HTK := zH (show both.take (p + 1) = both.take p ++ [v] by
                   have h1 : p < both.length := by rw [HBOTH.out, List.length_map]; exact hik
                   have h2 : both[p] = v := by simp only [HBOTH.out, List.getElem_map]; rw [hv, hx, hy]
                   rw [zT h1, h2])
                  have HV64 := zH (show U64 v from hv64)
                  have xw : IntKind.u64.wrap (x : Int) = (x : Int) := by rw [IntKind.wrap_u64]; omega
                  have j0 : (0 : Int) ≤ (p : Int) := by omega
                  have j1 : (p : Int) < (i : Int) := by omega
                  have HOD := zH (zzS HO.out.drew); have HBD := zH HB.out.drew
                  clear hrep hrep2 hx hy hxe hye hab hv hplt hpw hv64 hxq hpk hx63 hy64
                  go_upto_region 29 with fail
                  go_region_law (first
                   | (refine yyY (T := tU64) xxZ wr w9 rfl (.tmp 160) (.tmp 173) rfl w9.heap.size A8 p c8 _ rfl (fun _ => False) (fun _ => False) HOD.out HBD.out zN _ rfl [.int .u64 (v : Int)] v ⟨rfl, HV64.out⟩ 112 (by rw [HSH.out, HAD.out]) (fun _ _ _ _ h => h) (by omega) ?_; intro A6 c6 w6 h6
                      have HA6 := zH (zzS h6.own); have HB6 := zH h6.below
                      clear h6)
                   | fail)
                  all_goals
                   go_wp2_with fail
                   go_roundw
                   case rel => exact ⟨p + 1, A6, c6, by omega, by go_num, rfl, by rw [HTK.out]; exact HA6.out, HB6.out⟩
                   case measure => simp [intOf]; omega
                · obtain rfl : p = i := by omega
                  have hlw : both.take p = both := zL (by rw [HBOTH.out, List.length_map, ← HNP.out]; exact Nat.le_refl _)
                  rw [hlw] at HO
                  have HP10 := zH (HP9.out.keep HB.out)
                  have HLS := zH (OwnF.sl HO.out).any
                  have HX10 := zH (HX.out.below HB.out zN)
                  have hbz : ∀ x ∈ both, x < 2 ^ z := fun x hx => by
                   rw [HBOTH.out] at hx
                   obtain ⟨y, hy, rfl⟩ := List.mem_map.1 hx
                   obtain ⟨_, hcs⟩ := HP9.out.gaps.all (y.1 : Int) (List.mem_map.2 ⟨y, hy, rfl⟩)
                   obtain ⟨_, hcs2⟩ := HP9.out.pats.all y.2 (List.mem_map.2 ⟨y, hy, rfl⟩)
                   have h3 := HPQ.out y hy (by have := hcs.2.2; omega) hcs2.2
                   exact Nat.lt_of_lt_of_le (uuG h3.1 h3.2) (Nat.pow_le_pow_right (by decide) HZ1.out.1)
                  have HBZ := zH hbz
                  have HBL := zH (show both.length = p by rw [HBOTH.out, List.length_map, ← HNP.out])
                  have HSUM := zH (show (g : Int) + (q : Int) = ((g + q : Nat) : Int) by omega)
                  have HZC := zH (show zzo ((g + q : Nat) : Int) = (z : Int) by rw [HZ.out]; exact kq1)
                  have hsx : sx ≤ 4096 := by
                   rw [HSX.out, xxb, HLOW.out, List.length_map, HUL.out]
                   have := zzX j k (by omega); omega
                  have hgqz : ((g + q : Nat) : Int) ≤ 64 := by omega
                  clear hlw hbz HO HB HP9 HX HO8 HB8 hlt hlt2
                  go_upto_region 31 with (first
                   | (go_at_call 257; rw [HSUM.out]; refine (jjv _ hgqz _).mono ?_; rintro e w11 ⟨rfl, rfl⟩; rw [HZC.out])
                   | (go_at_call 259; refine (kq0 _ A8 p c8 both _ HLS.out (by omega) z hz2 HBZ.out).mono ?_; rintro e w12 ⟨Ay, sy, cy, rfl, hoy, hby⟩
                      have hsy : sy ≤ 4096 := (by rw [hoy.len, xxb, HBL.out]; have := zzX p z hz2; omega)
                      have HY12 := zH hoy.bs; have HX12 := zH (HX10.out.below hby zN); have HP12 := zH (HP10.out.keep hby)
                      have HAP := zH (fun b hb => (OwnF.lies' HP10.out.out.own (b := b) hb).2.2)
                      clear hoy hby)
                   | fail)
                  go_upto_region 32 with (first
                   | (at_builtin; refine apb _ w rfl (.tmp 184) (.tmp 185) rfl w.heap.size A7 so c7 _ rfl HP12.out.out HP12.out.below zN _ Ax sx cx (pack k low) rfl HX12.out (by omega) ?_; intro A13 c13 w13 h13 hb13 hg13; have HO13 := zH h13; have HB13 := zH hb13; have HY13 := zH (HY12.out.grown hg13 fun g1 e1 hf => by have := HAP.out g1 e1; have := hf.2; omega); clear h13 hb13 hg13)
                   | fail)
                  go_wp2_with (first
                   | (at_builtin; refine apb _ w rfl (.tmp 187) (.tmp 188) rfl w.heap.size A13 (so + sx) c13 _ rfl HO13.out HB13.out zN _ Ay sy cy (pack z both) rfl HY13.out (by omega) ?_; intro A14 c14 w14 h14 hb14 _)
                   | fail)
                  go_ret2
                  rw [HDEL.out]
                  exact ⟨hb14, A14, _, c14, rfl, h14⟩
          · have e3 : (k : Int) + (q : Int) > 64 := by omega
            go_wp2_with fail
            go_ret2
            rw [HNONE.out (by rw [HFIT.out, decide_eq_false h3]; simp)]
            exact ⟨HP.out.below, rfl⟩
        · have e2 : (g : Int) + (q : Int) > 64 := by omega
          go_wp2_with fail
          go_ret2
          rw [HNONE.out (by rw [HFIT.out, decide_eq_false h2]; simp)]
          exact ⟨HP.out.below, rfl⟩
      · have e1 : (i : Int) > 31 := by omega
        have e1' : (31 : Int) < (i : Int) := by omega
        go_wp2_with fail
        go_ret2
        rw [HNONE.out (by rw [HFIT.out, decide_eq_false (by rw [← HNP.out]; exact h1)]; rfl)]
        exact ⟨HP.out.below, rfl⟩
end
section
open Go Go.RowKit
theorem uuZ {w : World} {B1 B2 n1 n2 c1 c2 z1 z2 : Nat} {A1 A2 : Option Addr} {e1 e2 : TypeId} {xs ys : List Value} (h1 : w.ownsRow B1 e1 z1 (.slice A1 n1 c1) n1 xs) (h2 : w.ownsRow B2 e2 z2 (.slice A2 n2 c2) n2 ys) (he : e1 ≠ e2) {g : Nat} (hA : A1.map (·.block) = some g) : A2 ≠ some ⟨g, 0, none⟩ := by
 intro hA2
 rcases h1.2 with ⟨q, _⟩ | ⟨g1, _, _, q, _, hg1, _⟩
 · injection q with q; rw [q] at hA; simp at hA
 rcases h2.2 with ⟨q2, _⟩ | ⟨g2, _, _, q2, _, hg2, _⟩
 · injection q2 with q2; rw [q2] at hA2; simp at hA2
 injection q with q; injection q2 with q2
 rw [q] at hA; injection hA with hA
 have hA : g1 = g := hA
 rw [q2] at hA2; injection hA2 with hA2; injection hA2 with hA2 _ _
 subst hA; subst hA2
 rw [hg1] at hg2
 injection hg2 with hg2
 injection hg2 with _ h3 _
 exact he h3
section
variable (w a0 : World) {ops : Array Oper} {rest : List Oper} {o : Oper} {a : Act} {Q : Exit → Act → World → Prop}
end
structure AllR (w0 : World) (A1 : Option Addr) (n1 c1 : Nat) (bs : List UInt8) (A2 : Option Addr) (n2 c2 : Nat) (ls : List Int) (w : World) : Prop where
 b : OwnB w w0.heap.size A1 n1 c1 bs
 n : OwnF tI64 3 (fun _ => False) w w0.heap.size A2 n2 c2 ls
 below : Below w0.heap.size w0 w
theorem AllR.push1 {w0 w w' : World} {A1 A2 A' : Option Addr} {n1 c1 n2 c2 n' c' : Nat} {bs bs' : List UInt8} {ls : List Int} (h : AllR w0 A1 n1 c1 bs A2 n2 c2 ls w) (h1 : OwnB w' w0.heap.size A' n' c' bs') (h2 : Below w0.heap.size w0 w') (h3 : w.grownBy w' (A1.map (·.block))) : AllR w0 A' n' c' bs' A2 n2 c2 ls w' :=
 ⟨h1, h.n.grown h3 fun _ hg => ⟨fun h => h, uuZ h.b (OwnF.row1 oneI64 h.n).1 (by decide) hg⟩, h2⟩
theorem AllR.push2 {F : Nat → Prop} {w0 w w' : World} {o : Obj} {A1 A2 A' : Option Addr} {n1 c1 n2 c2 n' c' : Nat} {bs : List UInt8} {ls ls' : List Int} (h : AllR w0 A1 n1 c1 bs A2 n2 c2 ls w) (ha : ApdL tI64 3 F w0 (w.alloc o) w' w0.heap.size A2 A' n' c' ls') : AllR w0 A1 n1 c1 bs A' n' c' ls' w' :=
 ⟨zzG ⟨_, (h.b.own.alloc o).grown ha.grown fun _ hg => ⟨fun h => h, uuZ (OwnF.row1 oneI64 h.n).1 h.b (by decide) hg⟩⟩, ha.own.flat jjF, ha.below⟩
end
section
open Go Go.RowKit
theorem sl_text {F : Nat → Prop} {w : World} {A : Option Addr} {n c : Nat} {bs : List UInt8} (h : Sl tU8 F w A n c bs) (hne : 0 < bs.length) :
 (convert 41 9 (.slice A n c)).run Tryz.prog w = .ok (.string ⟨bs.toArray⟩) w := by
 obtain ⟨b, o, _, rfl, _⟩ := h.at1 hne rfl
 obtain rfl := h.len
 refine run_convert_bytes_back w _ _ 5 ⟨b, o, none⟩ c bs Tryz.underlying41 Tryz.underlying5 Tryz.underlying9 fun j hj => ?_
 obtain ⟨b', o', u, e, _, _, hr, hc⟩ := h.at1 hj rfl
 cases e
 have hr : [u] = [Value.int .u8 (bs[j].toNat : Int)] := hr
 injection hr with hr
 subst hr
 unfold Addr.add
 split
 · rename_i h0; subst h0; exact hc
 · exact hc
end
section
open Go Go.RowKit
end
end Go.Proofs.YtpmglcachffojaaGreatDoor
