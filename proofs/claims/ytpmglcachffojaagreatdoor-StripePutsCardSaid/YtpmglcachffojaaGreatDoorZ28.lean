/- A part of what Puts leans on. -/
import Derived.Test.YtpmglcachffojaaGreatDoorZ26
import Derived.Test.YtpmglcachffojaaGreatDoorZ27
import Derived.Sort.OwnSorted
import Derived.Test.YtpmglcachffojaaGreatDoorZS2
import Derived.Maps.OwnOps
import Derived.Maps.OwnSet
import Derived.Maps.Views
import Derived.StringKeys
import Derived.StillTailTactics
import Derived.Laws.Externs
import Derived.Laws.IdiomStrings
import Derived.Laws.BytesArg
set_option maxRecDepth 100000
set_option maxHeartbeats 16000000
namespace Go.Proofs.YtpmglcachffojaaGreatDoor
section
open Go Go.RowKit Go.Shelf
attribute [local go_sem] Oper.semAt_some
theorem zzr {w w' : World} {row : Option Nat} (h : Below w.heap.size w w') : w.grownBy w' row := ⟨h.os, h.tape, h.output, h.size, fun k hk _ => h.block k hk⟩
theorem jjG {w w1 w2 : World} {row : Option Nat} (h : w.grownBy w1 row) (k : w1.grownBy w2 row) : w.grownBy w2 row :=
 ⟨k.os.trans h.os, k.tape.trans h.tape, k.output.trans h.output, Nat.le_trans h.size k.size, fun i hi hr => (k.block i (Nat.lt_of_lt_of_le hi h.size) hr).trans (h.block i hi hr)⟩
theorem zqE {w w1 : World} {row : Option Nat} (h : w.grownBy w1 row) (o : Obj) : w.grownBy (w1.alloc o) row :=
 ⟨h.os, h.tape, h.output, by have := h.size; simp; omega, fun k hk hr => (Below.heap_alloc w1 o k (Nat.lt_of_lt_of_le hk h.size)).trans (h.block k hk hr)⟩
def svs (l : List ByteArray) : List Value := l.map Value.string
def OwnS (w : World) (B : Nat) (A : Option Addr) (n c : Nat) (l : List ByteArray) : Prop := w.ownsRow B 9 1 (.slice A n c) n (svs l)
theorem OwnS.nil_ (w : World) (B : Nat) : OwnS w B none 0 0 [] := World.ownsRow_nil w B _ _
theorem yyO {w : World} {B : Nat} {A : Option Addr} {n c : Nat} {l : List ByteArray} (h : OwnS w B A n c l) {b : Nat} (hb : A.map (·.block) = some b) : ∃ cur e fr, w.heap[b]? = some (.cells cur e fr) ∧ B ≤ b := by
 rcases h.2 with ⟨h1, _⟩ | ⟨g, cap, cur, h1, hB, hg, _⟩
 · injection h1 with h1; subst h1; cases hb
 · injection h1 with h1; subst h1; injection hb with hb; subst hb; exact ⟨cur, _, _, hg, hB⟩
theorem apsIn1 {F : Fence} {nF : Nat} {ops : Array Oper} {rest : List Oper} {o : Oper} {a : Act} {Q : Exit → Act → World → Prop} (hgd : o.guard = none) (s x : Operand) (ho : o.op = .call { callee := .builtin .append, args := #[s, x], argTypes := #[89, 89] })
 (w wx : World) (B : Nat) (A : Option Addr) (n c : Nat) (xs : List ByteArray) (hs : a.eval s = .slice A n c) (hown : OwnS w B A n c xs) (hB : B ≤ w.heap.size) (y : ByteArray) (hwx : wx = w.alloc (.cells #[.string y] 9)) (hx : a.eval x = .slice (some ⟨w.heap.size, 0, none⟩) 1 1) (hlim : n ≤ 34359738368)
 (h : ∀ A' c' w', OwnS w' B A' (n + 1) c' (xs ++ [y]) → wx.grownBy w' (A.map (·.block)) → wpListIn F nF Tryz.prog ops Q rest (a.put o.dst (.slice A' (n + 1) c')) w') : wpListIn F nF Tryz.prog ops Q (o :: rest) a wx := by
 subst hwx
 refine wpListIn_plain hgd fun K hK => ?_
 obtain ⟨A', c', w', hrun, h2, h3, _⟩ := xxr kq0 o.type (w.alloc (.cells #[.string y] 9)) B (.slice A n c) n (svs xs) (World.ownsRow.alloc hown _) (fun b => b = w.heap.size) (some ⟨w.heap.size, 0, none⟩) 1 1 [.string y] rfl (Rd.new w _ _) (by intro u hu; simp at hu; subst hu; rfl) (by omega) (by rw [zS]; omega)
 unfold Oper.wpIn
 refine ⟨by simp [Oper.about, ho, resolve, Target.leads, Sem.run_pure], ?_⟩
 rw [Oper.semAt_plain F _ _ (by rw [ho]; intro c hc'; cases hc')]
 simp [execOp, ho, resolve, invoke, builtin, hs, hx, hrun, Result.andThen]
 rw [zzd] at h3
 exact hK _ _ (h A' c' w' (by unfold OwnS svs; rw [List.map_append]; exact h2) h3)
structure ApS (w : World) (k2 : Nat) (pre : List ByteArray) (W : World) : Prop where
 st : ∃ A c, W.heap[k2]? = some (.cells #[.slice A pre.length c] 89 (0, 0)) ∧ OwnS W (k2 + 1) A pre.length c pre
 below : Below k2 w W
 size : k2 + 1 ≤ W.heap.size
theorem ApS.own (w : World) (k2 : Nat) (hk : k2 = w.heap.size) : OwnFrom (k2 + 1) (ApS w k2) := fun pre W W' row hs hg hr => by
 obtain ⟨⟨A, c, h1, h2⟩, h3, h4⟩ := hs
 refine ⟨⟨A, c, (hg.block k2 (by omega) (fun e => by have := (hr _ e.symm).1; omega)).trans h1, zz9 h2 fun b hb => hg.block b (h2.lt b hb).2 (fun e => ?_)⟩, h3.grown hg (by omega) (fun k e => by have := (hr k e).1; omega), Nat.le_trans h4 hg.size⟩
 obtain ⟨_, o, ho, hc⟩ := hr b e.symm
 rw [zzd] at hb
 obtain ⟨cur, ty, fr, h8, _⟩ := yyO h2 hb
 rw [h8] at ho
 injection ho with ho
 subst ho
 cases hc
theorem KpV.put {K : Nat} (W : World) (l : Nat) (o o' : Obj) (hl : K ≤ l) (_ : W.heap[l]? = some o) (_ : o.isCells = false) (_ : o.isWalk = false) : KpV K W (W.putObj l o') :=
 ⟨by have := (grownBy_putObj' W l o').size; exact this, fun b hb => World.putObj_heap_other (by omega)⟩
theorem qx8 (F : Fence) (n : Nat) (hf : F.fn 209) (hro : F.round = none) (hn : 1 ≤ n) (bb K : Nat) (A : Option Addr) (m c : Nat) (xs : List ByteArray) (w : World) (h0 : w.cell? ⟨bb, 0, none⟩ = some (.slice A m c)) (hs : Sl tStr (fun b => b < K) w A m c xs) :
 SeqStopsK F n Tryz.prog 209 #[.pointer (some ⟨bb, 0, none⟩)] (fun x : ByteArray => #[.string x]) (KpV K) (fun ys => ys = xs) (fun pre => ∃ k, k ≤ m ∧ pre = xs.take k) m w := fun l J Jx W hW _ _ hY hJ0 =>
 vals1_in F n hf hro hn l bb K A m c xs J Jx hY W ((hW.cell (p := ⟨bb, 0, none⟩) (World.block_lt_of_cell? w _ h0)).trans h0) (hs.below hW zN) hJ0
theorem qx9 (bb : Nat) (F : Nat → Prop) (A : Option Addr) (m c : Nat) (xs : List ByteArray) (w : World) (h0 : w.cell? ⟨bb, 0, none⟩ = some (.slice A m c)) (hs : Sl tStr F w A m c xs) (hm : m ≤ 4096) :
 Calls Tryz.prog 251 #[.slice none 0 0, .func (.func 209) #[] #[.pointer (some ⟨bb, 0, none⟩)]] w fun e W => ∃ A' c', e = .returned (.slice A' m c') ∧ OwnS W w.heap.size A' m c' xs ∧ Below w.heap.size w W := by
 have hbb := World.block_lt_of_cell? w _ h0
 have hlen := hs.len
 obtain ⟨W0, hW0⟩ : ∃ W0, W0 = w.alloc (.cells #[.slice none 0 0] 89) := ⟨_, rfl⟩
 have hsz : W0.heap.size = w.heap.size + 1 := by rw [hW0]; simp
 have hb0 : Below w.heap.size w W0 := by rw [hW0]; exact (zR).alloc zN _
 have hv0 : W0.heap[w.heap.size]? = some (.cells #[.slice none 0 0] 89 (0, 0)) := by rw [hW0]; exact heap_alloc_new w _
 have hc0 : W0.cell? ⟨bb, 0, none⟩ = some (.slice A m c) := zze hb0 h0
 have hs0 : Sl tStr (fun b => b < w.heap.size) W0 A m c xs := (hs.weaken (F' := fun b => b < w.heap.size) fun b _ hb => hb).below hb0 zN
 have hI0 : ApS w w.heap.size [] W0 := ⟨⟨none, 0, hv0, OwnS.nil_ _ _⟩, hb0, by omega⟩
 have HW0 := zH hW0; have HB0 := zH hb0; have HSZ := zH hsz; have HLEN := zH hlen
 clear hs h0 hb0 hv0 hW0
 refine (callsIn_wide (n := 3)).1 ?_
 refine callsIn_of_wp_marks Tryz.func251 rfl trivial ?_ rfl
 simp only [Tryz.ntmps251, List.size_toArray, List.length_cons, List.length_nil, Nat.reduceAdd, Nat.reduceSub, Array.replicate_succ, Array.replicate_zero, List.push_toArray, List.append_toArray, List.nil_append, List.cons_append]
 gi_wp2
 rw [← HW0.out]
 refine wpIn_rangeFunc_ownG rfl (by omega) (gf := 209) (lb := #[.pointer (some ⟨bb, 0, none⟩)]) rfl trivial (enters_of Tryz.func209 (by kernel_rfl) rfl)
  (qx8 Fence.wide _ trivial rfl (by omega) bb w.heap.size A m c xs W0 hc0 hs0) KpV.trans (fun W l o o' h1 => KpV.put W l o o' (by omega)) (zR) (fun _ => rfl)
  (ApS w w.heap.size) (fun _ _ _ => False) (by rw [HSZ.out]; exact ApS.own w _ rfl) (fun _ _ _ _ _ h _ _ => h) hI0
  (fun x => { tmps := #[.slice none 0 0, .func (.func 209) #[] #[.pointer (some ⟨bb, 0, none⟩)], .pointer (some ⟨w.heap.size, 0, none⟩), undef, .slice none 0 0, .string x, .func (.func 209) #[] #[.pointer (some ⟨bb, 0, none⟩)], .string x, undef, undef, undef, undef, undef], defers := [] }) ?assign ?body ?done ?stop
 case assign =>
  intro l x W K hK
  gi_wp2
  exact hK
 case body =>
  rintro l' pre x W ⟨⟨A6, c6, hbox, hown⟩, hbl, hsw⟩ hpl
  have HBOX := zH hbox; have HOWN := zH hown; have HBL := zH hbl
  have v0 : W.cell? ⟨w.heap.size, 0, none⟩ = some (.slice A6 pre.length c6) := by rw [zC hbox]; rfl
  have vf : W.frozen? ⟨w.heap.size, 0, none⟩ = false := zF hbox 0
  clear hbox hown hbl
  gi_wp2_with (first
   | (gi_at_builtin; refine apsIn1 rfl (.tmp 8) (.tmp 10) rfl W _ (w.heap.size + 1) A6 pre.length c6 pre (by rfl) HOWN.out hsw x (by rfl) (by rfl) (by omega) ?_; intro A7 c7 w7 hown7 hg7; have HO7 := zH hown7; have HG7 : Hid (W.grownBy w7 (A6.map (·.block))) := zH (jjG (zqE (zzr (Below.refl _ W)) _) hg7); have v7 : w7.cell? ⟨w.heap.size, 0, none⟩ = some (.slice A6 pre.length c6) := HG7.out.cell v0 (fun e => by obtain ⟨_, _, _, _, h8⟩ := yyO HOWN.out e.symm; have h9 : w.heap.size + 1 ≤ w.heap.size := h8; omega); have vf7 : w7.frozen? ⟨w.heap.size, 0, none⟩ = false := zF (HG7.out.block (w.heap.size) (by omega) (fun e => by obtain ⟨_, _, _, _, h8⟩ := yyO HOWN.out e.symm; omega) |>.trans HBOX.out) 0; clear hown7 hg7)
   | fail)
  have hA6 : ∀ k, A6.map (·.block) = some k → w.heap.size + 1 ≤ k := fun k e => by obtain ⟨_, _, _, _, h8⟩ := yyO HOWN.out e; exact h8
  have hsz7 := HG7.out.size
  have e7 : (pre ++ [x]).length = pre.length + 1 := by simp
  refine ⟨((KeepsOthers.of_grownBy HG7.out fun j o hj ho => by obtain ⟨cur, e1, fr, h8, _⟩ := yyO HOWN.out hj; rw [h8] at ho; injection ho with ho; subst ho; rfl).trans (KeepsOthers.setCell _ _ _)).from _, ⟨by simpa using hsz7, fun b hb => (Below.heap_setCell _ _ _ _ (by simp; omega)).trans (HG7.out.block b (by omega) (fun e => by have := hA6 _ e.symm; omega))⟩, ?_⟩
  refine ⟨⟨A7, c7, ?_, ?_⟩, ?_, by simp; omega⟩
  · rw [e7]
    exact zza ((HG7.out.block (w.heap.size) (by omega) (fun e => by have := hA6 _ e.symm; omega)).trans HBOX.out) rfl
  · rw [e7]
    refine zz9 HO7.out (fun b hb => Below.heap_setCell _ _ _ _ ?_)
    have h8 := (HO7.out.lt b hb).1
    simp
    omega
  · exact zzf (HBL.out.grown HG7.out (by omega) (fun k e => by have := hA6 k e; omega)) zN _
 case done =>
  rintro D ys W hD rfl ⟨⟨A6, c6, hbox, hown⟩, hbl, hsw⟩ hK
  have v0 : W.cell? ⟨w.heap.size, 0, none⟩ = some (.slice A6 ys.length c6) := by rw [zC hbox]; rfl
  have HOWN := zH hown; have HBL := zH hbl; have HKD := zH hK
  clear hbox hown hbl hK
  gi_wp2
  refine ⟨by simp, .inl ⟨_, _, rfl, run_takeDeferred HKD.out, ?_⟩⟩
  have hp := grownBy_putObj' W D (.deferred none)
  refine ⟨_, results_tmp rfl _ _ _, A6, c6, by rw [HLEN.out]; rfl, ?_, HBL.out.grown hp (by omega) (fun k e => by injection e with e; omega)⟩
  rw [HLEN.out]
  refine uuM (zz9 HOWN.out fun b hb => World.putObj_heap_other (fun e => ?_)) (Nat.le_succ _)
  rw [zzd] at hb
  obtain ⟨cur, ty, fr, h8, _⟩ := yyO HOWN.out hb
  rw [e, HKD.out] at h8
  cases h8
 case stop =>
  rintro D c pre W hD _ h
  exact h.elim
end
section
open Go Go.RowKit Go.Sort
def mkS (b : List UInt8) : ByteArray := ⟨b.toArray⟩
def zzp (l : List ByteArray) : List (List UInt8) := l.map (·.data.toList)
theorem mk_bytes (l : List ByteArray) : (zzp l).map mkS = l := by
 unfold zzp
 rw [List.map_map]
 conv => rhs; rw [← List.map_id l]
 rfl
theorem bytes_mk (l : List (List UInt8)) : zzp (l.map mkS) = l := by
 unfold zzp
 rw [List.map_map]
 conv => rhs; rw [← List.map_id l]
 apply List.map_congr_left
 intro b _
 simp [mkS]
theorem svs_mk (l : List (List UInt8)) : svs (l.map mkS) = l.map encStr := by
 unfold svs
 rw [List.map_map]
 rfl
theorem qzS (l : List ByteArray) : svs l = (zzp l).map encStr := by rw [← svs_mk, mk_bytes]
def vvB (l : List (List UInt8)) : List (List UInt8) := l.mergeSort fun x y => decide (x ≤ y)
def zzF (l : List ByteArray) : List (List UInt8) := Lib.compact (vvB (zzp l))
theorem OwnS.len {w : World} {B : Nat} {A : Option Addr} {n c : Nat} {l : List ByteArray} (h : OwnS w B A n c l) : n = l.length := by
 have := h.1
 unfold svs at this
 simp at this
 omega
theorem xqa {w : World} {B : Nat} {A : Option Addr} {n c : Nat} {l : List ByteArray} (h : OwnS w B A n c l) {k : Nat} (hk : k ≤ n) (hA : A ≠ none) : OwnS w B A k c (l.take k) := by
 have hl := h.len
 refine ⟨by unfold svs; simp; omega, ?_⟩
 rcases h.2 with ⟨h1, h2⟩ | ⟨g, cap, cur, h1, hb, hg, hn, hc, hs, ht⟩
 · injection h1 with h1; exact absurd h1 hA
 · injection h1 with e1 e2 e3; subst e1 e3
   refine .inr ⟨g, c, cur, rfl, hb, hg, by omega, hc, hs, ?_⟩
   have e4 : svs (l.take k) = (svs l).take (k * 1) := by unfold svs; rw [List.map_take, Nat.mul_one]
   rw [e4, ← ht, List.take_take, Nat.min_eq_left (Nat.mul_le_mul_right 1 hk)]
theorem sort_any (B : Nat) (A : Option Addr) (n c : Nat) (l : List ByteArray) (w : World) (h : OwnS w B A n c l) (hB : B ≤ w.heap.size) (hn : n ≤ 4096) :
 Calls Tryz.prog 208 #[.slice A n c] w fun e w' => e = .returned (.tuple #[]) ∧ OwnS w' B A n c ((vvB (zzp l)).map mkS) ∧ Below B w w' := by
 have hl := h.len
 have hlen : (zzp l).length = n := by unfold zzp; simp; omega
 rcases h.2 with ⟨h1, h2⟩ | ⟨g, cap, cur, h1, hb, hg, hnc, hc, hs, ht⟩
 · injection h1 with e1 e2 e3
   subst e1 e3 h2
   have : l = [] := List.length_eq_zero_iff.1 hl.symm
   subst this
   refine (Tryz.slices_Sort_string_none none 0 w).mono ?_
   rintro e w' ⟨rfl, rfl⟩
   exact ⟨rfl, by simpa [zzp, vvB] using h, zR⟩
 · injection h1 with e1 e2 e3
   subst e1 e3
   have hH : Holds encStr w g 0 (zzp l).toArray := holds_of_block hg (by rw [hlen, ← qzS, ← ht, Nat.mul_one])
   have hgl : g < w.heap.size := (Array.getElem?_eq_some_iff.1 hg).1
   have hC := Tryz.slices_Sort_string g 0 c (zzp l) w hH hgl (by omega)
   rw [hlen] at hC
   refine hC.mono ?_
   rintro e w' ⟨rfl, q, os, rfl⟩
   have hr := ownsRow_sorted (n := q) (os := os) (ss := zzp l) (ts := vvB (zzp l)) (by simp [vvB]) hb hg (by omega) hc hs
   rw [hlen, ← svs_mk] at hr
   exact ⟨rfl, hr, (Below.refl B w).grown (grownBy_sorted _) hB (fun j hj => by cases hj; exact hb)⟩
theorem jjH (zs : List (List UInt8)) : (Lib.compact zs).length ≤ zs.length := by
 unfold Lib.compact Lib.compactUpTo
 rw [List.length_map]
 exact Nat.le_trans (List.length_filter_le _ _) (by simp)
theorem zqF (B : Nat) (A : Option Addr) (n c : Nat) (l : List ByteArray) (w : World) (h : OwnS w B A n c l) (hB : B ≤ w.heap.size) (hn : n ≤ 4096) :
 Calls Tryz.prog 164 #[.slice A n c] w fun e w' => e = .returned (.slice A (Lib.compact (zzp l)).length c) ∧ OwnS w' B A (Lib.compact (zzp l)).length c ((Lib.compact (zzp l)).map mkS) ∧ Below B w w' := by
 have hl := h.len
 have hlen : (zzp l).length = n := by unfold zzp; simp; omega
 rcases h.2 with ⟨h1, h2⟩ | ⟨g, cap, cur, h1, hb, hg, hnc, hc, hs, ht⟩
 · injection h1 with e1 e2 e3
   subst e1 e3 h2
   have : l = [] := List.length_eq_zero_iff.1 hl.symm
   subst this
   refine (Tryz.slices_Compact_string_empty none 0 w).mono ?_
   rintro e w' ⟨rfl, rfl⟩
   exact ⟨rfl, h, zR⟩
 · injection h1 with e1 e2 e3
   subst e1 e3
   have hH : Holds encStr w g 0 (zzp l).toArray := holds_of_block hg (by rw [hlen, ← qzS, ← ht, Nat.mul_one])
   have hC := Tryz.slices_Compact_string g 0 c (zzp l) w hH (by omega) (by omega)
   rw [hlen] at hC
   refine hC.mono ?_
   rintro e w' ⟨rfl, q, hw⟩
   have hcl := jjH (zzp l)
   have hw2 : w' = grow (Go.Sort.putRow encStr (Sort.ahead w q) g 0 (Lib.compact (zzp l) ++ List.replicate (n - (Lib.compact (zzp l)).length) []).toArray) #[] := by rw [hw]; simp [grow]; rfl
   have hr := ownsRow_sorted (n := q) (os := #[]) (ss := zzp l) (ts := Lib.compact (zzp l) ++ List.replicate (n - (Lib.compact (zzp l)).length) []) (by simp; omega) hb hg (by omega) hc hs
   rw [← hw2, hlen, ← svs_mk] at hr
   have hf := xqa (A := some ⟨g, 0, none⟩) hr (k := (Lib.compact (zzp l)).length) (by omega) (by simp)
   rw [← List.map_take, List.take_left' rfl] at hf
   exact ⟨rfl, hf, by rw [hw2]; exact (Below.refl B w).grown (grownBy_sorted _) hB (fun j hj => by cases hj; exact hb)⟩
theorem xqb (A : Option Addr) (n c : Nat) (w : World) :
 Calls Tryz.prog 166 #[.slice A n c] w fun e w' => e = .returned (.func (.func 209) #[] #[.pointer (some ⟨w.heap.size, 0, none⟩)]) ∧ w' = w.alloc (.cells #[.slice A n c] 89) := by
 go_enter Tryz.func166, Tryz.ntmps166
 go_wp2_with fail
 go_ret
 exact ⟨rfl, rfl⟩
theorem zqG (bb : Nat) (F : Nat → Prop) (A : Option Addr) (m c : Nat) (xs : List ByteArray) (w : World) (h0 : w.cell? ⟨bb, 0, none⟩ = some (.slice A m c)) (hs : Sl tStr F w A m c xs) (hm : m ≤ 4096) :
 Calls Tryz.prog 207 #[.func (.func 209) #[] #[.pointer (some ⟨bb, 0, none⟩)]] w fun e W => ∃ A' c', e = .returned (.slice A' m c') ∧ OwnS W w.heap.size A' m c' xs ∧ Below w.heap.size w W := by
 have H := zH (qx9 bb F A m c xs w h0 hs hm)
 clear h0 hs
 go_enter Tryz.func207, Tryz.ntmps207
 go_wp2_with (first
  | (go_at_call 251; refine H.out.mono ?_; rintro e w1 ⟨A1, c1, rfl, ho1, hb1⟩; have HO1 := zH ho1; have HB1 := zH hb1; clear ho1 hb1)
  | fail)
 go_ret
 exact ⟨A1, c1, rfl, HO1.out, HB1.out⟩
theorem xqc (bb : Nat) (F : Nat → Prop) (A : Option Addr) (m c : Nat) (xs : List ByteArray) (w : World) (h0 : w.cell? ⟨bb, 0, none⟩ = some (.slice A m c)) (hs : Sl tStr F w A m c xs) (hm : m ≤ 4096) :
 Calls Tryz.prog 165 #[.func (.func 209) #[] #[.pointer (some ⟨bb, 0, none⟩)]] w fun e W => ∃ A' c', e = .returned (.slice A' m c') ∧ OwnS W w.heap.size A' m c' ((vvB (zzp xs)).map mkS) ∧ Below w.heap.size w W := by
 have H := zH (zqG bb F A m c xs w h0 hs hm)
 clear h0 hs
 go_enter Tryz.func165, Tryz.ntmps165
 go_wp2_with (first
  | (go_at_call 207; refine H.out.mono ?_; rintro e w1 ⟨A1, c1, rfl, ho1, hb1⟩; have HO1 := zH ho1; have HB1 := zH hb1; clear ho1 hb1)
  | (go_at_call 208; refine (sort_any w.heap.size A1 m c1 xs w1 HO1.out HB1.out.size hm).mono ?_; rintro e w2 ⟨rfl, ho2, hb2⟩; have HO2 := zH ho2; have HB2 := zH (HB1.out.trans hb2); clear ho2 hb2)
  | fail)
 go_ret
 exact ⟨A1, c1, rfl, HO2.out, HB2.out⟩
def zzi (l : List ByteArray) : List ByteArray := (zzF l).map mkS
theorem words_any (F : Nat → Prop) (A : Option Addr) (n c : Nat) (l : List ByteArray) (w : World) (h : Sl tStr F w A n c l) (hn : n ≤ 4096) :
 Calls Tryz.prog 99 #[.slice A n c] w fun e W => ∃ A' c', e = .returned (.slice A' (zzF l).length c') ∧ OwnS W w.heap.size A' (zzF l).length c' (zzi l) ∧ Below w.heap.size w W := by
 obtain ⟨w0, hw0⟩ : ∃ w0, w0 = w.alloc (.cells #[.slice A n c] 89) := ⟨_, rfl⟩
 have hb0 : Below w.heap.size w w0 := by rw [hw0]; exact (zR).alloc zN _
 have hc0 : w0.cell? ⟨w.heap.size, 0, none⟩ = some (.slice A n c) := by rw [hw0, World.cell?_alloc_new]; rfl
 have HS := zH (xqc w.heap.size F A n c l w0 hc0 (h.below hb0 zN) hn)
 have HB0 := zH hb0; have HW0 := zH hw0
 clear h hb0 hc0 hw0
 go_enter Tryz.func99, Tryz.ntmps99
 go_wp2_with (first
  | (go_at_call 166; refine (xqb A n c w).mono ?_; rintro e w1 ⟨rfl, hw1⟩; obtain rfl : w1 = w0 := hw1.trans HW0.out.symm; clear hw1)
  | (go_at_call 165; refine HS.out.mono ?_; rintro e w2 ⟨A2, c2, rfl, ho2, hb2⟩; have HO2 := zH (show OwnS w2 w.heap.size A2 n c2 _ from uuM ho2 HB0.out.size); have HB2 := zH (HB0.out.trans (hb2.mono HB0.out.size)); clear ho2 hb2)
  | (go_at_call 164; refine (zqF w.heap.size A2 n c2 _ w2 HO2.out HB2.out.size hn).mono ?_; rintro e w3 ⟨rfl, ho3, hb3⟩; rw [bytes_mk] at ho3 ⊢; have HO3 := zH ho3; have HB3 := zH (HB2.out.trans hb3); clear ho3 hb3)
  | fail)
 go_ret
 exact ⟨A2, c2, rfl, HO3.out, HB3.out⟩
end
section
open Go Go.RowKit
def zzw : Ty (Int × List UInt8) := Ty.prod tI64 (tSl tU8)
theorem uus : zzZ Tryz.prog 25 55 zzw.size := zzZ.mk' (bytes := 32) (z := .agg #[.int .i64 0, .slice none 0 0]) (by kernel_rfl) (by kernel_rfl) rfl (by decide) (by decide)
structure BuR (w0 : World) (g : Nat) (m enc tx : Int) (F : Nat → Prop) (A : Option Addr) (n c : Nat) (ss : List (Int × List UInt8)) (W : World) : Prop where
 hold : W.heap[g]? = some (.cells #[.int .i64 m, .int .i64 enc, .int .i64 tx, .slice A n c] 85 (0, 0))
 own : OwnF zzw 55 F W (g + 1) A n c ss
 below : Below g w0 W
theorem uuY (w0 : World) (g : Nat) (m enc tx : Int) (F : Nat → Prop) (A : Option Addr) (n c : Nat) (ss : List (Int × List UInt8)) (w : World) (h : BuR w0 g m enc tx F A n c ss w) (hF : ¬ F g) (k : Int) (hk : -9223372036854775808 ≤ k ∧ k ≤ 9223372036854775807)
 (G : Nat → Prop) (Ab : Option Addr) (nb cb : Nat) (bs : List UInt8) (hb : Sl tU8 G w Ab nb cb bs) (hG : ¬ G g) (hGA : ∀ b, A = some ⟨b, 0, none⟩ → ¬ G b) (hn : n ≤ 1000) :
 Calls Tryz.prog 43 #[.pointer (some ⟨g, 0, none⟩), .int .i64 k, .slice Ab nb cb] w fun e w' => e = .returned (.tuple #[]) ∧ (∃ A' c', BuR w0 g m enc tx (fun b => (F b ∨ G b) ∧ b < w.heap.size) A' (n + 1) c' (ss ++ [(k, bs)]) w' ∧ (A'.map (·.block) = A.map (·.block) ∨ A'.map (·.block) = some (w.heap.size + 1))) ∧
  w.heap.size ≤ w'.heap.size ∧ (∀ b, b < w.heap.size → b ≠ g → A.map (·.block) ≠ some b → w'.heap[b]? = w.heap[b]?) := by
 have hgl : g < w.heap.size := (Array.getElem?_eq_some_iff.1 h.hold).1
 have HH := zH h.hold; have HO := zH h.own; have HBW := zH h.below; have HS := zH hb
 have c3 : w.cell? ⟨g, 3, none⟩ = some (.slice A n c) := by rw [zC h.hold]; rfl
 have hA : ∀ b, A.map (·.block) = some b → g + 1 ≤ b := fun b e => (h.own.lies (b := b) (by rw [zzd]; exact e)).2.1
 have HA := zH hA
 clear h hb hA
 go_enter Tryz.func43, Tryz.ntmps43
 go_wp2_with (first
  | (at_builtin; refine apl1 (T := zzw) uus w w rfl (.tmp 11) (.tmp 15) rfl (g + 1) A n c ss (by rfl) F G HO.out (zR) hgl _ (by rfl) [.int .i64 k, .slice Ab nb cb] (k, bs) ⟨[.int .i64 k], [.slice Ab nb cb], rfl, ⟨rfl, hk⟩, ⟨Ab, nb, cb, rfl, HS.out⟩⟩ 55 rfl (fun b h1 _ _ => hGA b h1) (by omega) ?_; intro A5 c5 w5 h5; have hg5 : w5.heap[g]? = some (.cells #[.int .i64 m, .int .i64 enc, .int .i64 tx, .slice A n c] 85 (0, 0)) := (h5.grown.block g (by simp; omega) (fun e => by have := HA.out g e.symm; omega)).trans ((Below.heap_alloc w _ g hgl).trans HH.out); have d3 : w5.cell? ⟨g, 3, none⟩ = some (.slice A n c) := (by rw [zC hg5]; rfl); have f3 := zF hg5 3; have HG5 := zH hg5; clear hg5)
  | fail)
 go_end0
 have hsz5 := h5.grown.size
 rw [zS] at hsz5
 refine ⟨rfl, ⟨A5, c5, ⟨zza HG5.out rfl, ?_, ?_⟩, (by have h6 := h5.lies; rw [zS] at h6; exact h6)⟩, by simp; omega, fun b hb1 hb2 hb3 => ?_⟩
 · refine h5.own.setCell (p := ⟨g, 3, none⟩) (fun hx => ?_) (fun e => ?_) _
   · rcases hx.1 with hx | hx
     · exact hF hx
     · exact hG hx
   · have := (h5.own.lies (b := g) (by rw [zzd, e]; rfl)).2.1
     omega
 · exact zzf (((HBW.out.alloc (Nat.le_of_lt hgl) _).grown h5.grown (by simp; omega) (fun b e => by have := HA.out b e; omega))) zN _
 · exact (Below.heap_setCell _ _ _ _ hb2).trans ((h5.grown.block b (by simp; omega) (fun e => hb3 e.symm)).trans (Below.heap_alloc w _ b hb1))
end
section
open Go Go.RowKit
def tHi (S : Int) : Int := S / 18446744073709551616
def tLo (S : Int) : Nat := (S % 18446744073709551616).toNat
theorem tLo_lt (S : Int) : tLo S < 18446744073709551616 := by unfold tLo; omega
theorem t_eq (S : Int) : S = tHi S * 18446744073709551616 + (tLo S : Int) := by unfold tHi tLo; omega
theorem tadd_any (S n : Int) (h0 : -9223372036854775808 ≤ n) (h1 : n ≤ 9223372036854775807) (hS : -4096 ≤ tHi S ∧ tHi S ≤ 4096) (w : World) :
 Calls Tryz.prog 177 #[.agg #[.int .i64 (tHi S), .int .u64 (tLo S : Nat)], .int .i64 n] w fun e w' => e = .returned (.agg #[.int .i64 (tHi (S + n)), .int .u64 (tLo (S + n) : Nat)]) ∧ Below w.heap.size w w' := by
 obtain ⟨hi, hhi⟩ : ∃ hi, hi = tHi S := ⟨_, rfl⟩
 obtain ⟨lo, hlo⟩ : ∃ lo, lo = tLo S := ⟨_, rfl⟩
 have hlt := tLo_lt S
 rw [← hlo] at hlt
 rw [← hhi] at hS
 rw [← hhi, ← hlo]
 obtain ⟨l2, hl2⟩ : ∃ l2 : Nat, l2 = tLo (S + n) := ⟨_, rfl⟩
 obtain ⟨c2, hc2⟩ : ∃ c2 : Nat, (c2 : Int) = ((lo : Int) + n % 18446744073709551616) / 18446744073709551616 := ⟨(((lo : Int) + n % 18446744073709551616) / 18446744073709551616).toNat, by omega⟩
 have hS2 := t_eq S
 rw [← hhi, ← hlo] at hS2
 have hl2' : (l2 : Int) = ((lo : Int) + n % 18446744073709551616) % 18446744073709551616 := by rw [hl2]; unfold tLo; omega
 have hc1 : c2 ≤ 1 := by omega
 have HH := zH (show tHi (S + n) = hi + n / 9223372036854775808 + (c2 : Int) by unfold tHi; omega)
 have hadd : ∀ W : World, (callFunc 222 #[.int .u64 (lo : Int), .int .u64 (IntKind.u64.wrap n), .int .u64 0]).run Tryz.prog W = .ok (.value (.tuple #[.int .u64 (l2 : Int), .int .u64 (c2 : Int)])) W := fun W => by
  have hw : IntKind.u64.wrap n = n % 18446744073709551616 := IntKind.wrap_u64 n
  rw [run_callFunc_extern Tryz.func222 (by kernel_rfl) (by kernel_rfl) (by kernel_rfl) (e := add64Entry) (by kernel_rfl), hw, run_add64 (lo : Int) (n % 18446744073709551616) 0 (by omega) (by omega) (by omega) (by omega), Int.add_zero, ← hl2', ← hc2]
  rfl
 have HL2 := zH hl2
 have hb0 : -1 ≤ n / 9223372036854775808 ∧ n / 9223372036854775808 ≤ 0 := by omega
 obtain ⟨s, hs⟩ : ∃ s, s = n / 9223372036854775808 := ⟨_, rfl⟩
 have HSS := zH hs.symm
 rw [← hs] at HH hb0
 have HN0 := zH h0
 clear hhi hlo hl2 hc2 hS2 hl2' hs
 obtain ⟨ws, hws⟩ : ∃ ws, ws = (w.alloc (.cells #[.int .i64 hi, .int .u64 (lo : Int)] 230)).alloc (.cells #[.int .i64 0, .int .u64 0] 230) := ⟨_, rfl⟩
 have hb : Below w.heap.size w ws := by rw [hws]; exact ((zR).alloc zN _).alloc (by simp) _
 have hz : ws.heap.size = w.heap.size + 2 := by rw [hws]; simp
 have hg0 : ws.heap[w.heap.size]? = some (.cells #[.int .i64 hi, .int .u64 (lo : Int)] 230 (0, 0)) := by rw [hws]; exact (Below.heap_alloc _ _ _ (by simp)).trans (heap_alloc_new w _)
 have hg1 : ws.heap[w.heap.size + 1]? = some (.cells #[.int .i64 0, .int .u64 0] 230 (0, 0)) := by
  have := heap_alloc_new (w.alloc (.cells #[.int .i64 hi, .int .u64 (lo : Int)] 230)) (.cells #[.int .i64 0, .int .u64 0] 230)
  rw [zS] at this
  rw [hws]; exact this
 have HW := zH hws; have HB := zH hb; have HG1 := zH hg1
 have q0 : ws.cell? ⟨w.heap.size, 0, none⟩ = some (.int .i64 hi) := by rw [zC hg0]; rfl
 have q1 : ws.cell? ⟨w.heap.size, 1, none⟩ = some (.int .u64 (lo : Int)) := by rw [zC hg0]; rfl
 have r0 : ws.cell? ⟨w.heap.size + 1, 0, none⟩ = some (.int .i64 0) := by rw [zC hg1]; rfl
 have r1 : ws.cell? ⟨w.heap.size + 1, 1, none⟩ = some (.int .u64 0) := by rw [zC hg1]; rfl
 have s0 := zF hg1 0
 have s1 := zF hg1 1
 clear hws hb hz hg0 hg1
 go_enter Tryz.func177, Tryz.ntmps177
 go_upto_region 1 with fail
 rw [← HW.out]
 go_upto_region 2 with fail
 clear hadd
 go_wp2_with fail
 refine bodyPost_ret (results_cell_row rfl _ _ (w.heap.size + 1) 230 #[.int .i64 (hi + n / 9223372036854775808 + (c2 : Int)), .int .u64 (l2 : Int)] (0, 0) _ rfl (zza (zza HG1.out rfl) rfl) Tryz.underlying230 rfl (by kernel_rfl)) rfl ⟨by rw [HSS.out, ← HH.out, ← HL2.out], zzf (zzf HB.out (by omega) _) (by omega) _⟩
theorem tnum_any (S : Int) (w : World) :
 Calls Tryz.prog 223 #[.agg #[.int .i64 (tHi S), .int .u64 (tLo S : Nat)]] w fun e w' => e = .returned (.tuple #[.int .i64 (if yy6 S then S else 0), .bool (yy6 S)]) ∧ Below w.heap.size w w' := by
 obtain ⟨hi, hhi⟩ : ∃ hi, hi = tHi S := ⟨_, rfl⟩
 obtain ⟨lo, hlo⟩ : ∃ lo, lo = tLo S := ⟨_, rfl⟩
 have hlt := tLo_lt S
 rw [← hlo] at hlt
 rw [← hhi, ← hlo]
 have hS2 := t_eq S
 rw [← hhi, ← hlo] at hS2
 obtain ⟨x, hx⟩ : ∃ x, x = wrap64 (lo : Int) := ⟨_, rfl⟩
 obtain ⟨ok, hok⟩ : ∃ ok, ok = yy6 S := ⟨_, rfl⟩
 rw [← hok]
 have hwx : x = if lo < 9223372036854775808 then (lo : Int) else (lo : Int) - 18446744073709551616 := by rw [hx]; unfold wrap64; split <;> omega
 have hfit : ok = decide (hi = x / 9223372036854775808) := by
  rw [hok]; unfold yy6
  rw [decide_eq_decide, hwx]
  split <;> omega
 have hfx : ok = true → x = S := fun h => by
  rw [h] at hfit
  have h2 := of_decide_eq_true hfit.symm
  rw [hwx] at h2 ⊢
  split <;> rename_i h3 <;> simp only [h3, if_true, if_false] at h2 <;> omega
 have HFX := zH hfx
 have HXW := zH hx.symm
 have hx0 : -9223372036854775808 ≤ x ∧ x ≤ 9223372036854775807 := by rw [hwx]; split <;> omega
 clear hok hwx hfx hx hhi hlo hS2
 obtain ⟨ws, hws⟩ : ∃ ws, ws = w.alloc (.cells #[.int .i64 hi, .int .u64 (lo : Int)] 230) := ⟨_, rfl⟩
 have hb : Below w.heap.size w ws := by rw [hws]; exact (zR).alloc zN _
 have hg0 : ws.heap[w.heap.size]? = some (.cells #[.int .i64 hi, .int .u64 (lo : Int)] 230 (0, 0)) := by rw [hws]; exact heap_alloc_new w _
 have q0 : ws.cell? ⟨w.heap.size, 0, none⟩ = some (.int .i64 hi) := by rw [zC hg0]; rfl
 have q1 : ws.cell? ⟨w.heap.size, 1, none⟩ = some (.int .u64 (lo : Int)) := by rw [zC hg0]; rfl
 have HW := zH hws; have HB := zH hb
 clear hws hb hg0
 go_enter Tryz.func223, Tryz.ntmps223
 go_upto_region 1 with fail
 rw [← HW.out]
 go_upto_region 2 with fail
 rw [HXW.out]
 obtain ⟨y, hy⟩ : ∃ y, y = x / 9223372036854775808 := ⟨_, rfl⟩
 rw [← hy] at hfit
 have HY := zH hy.symm
 by_cases he : hi = y
 · obtain rfl : ok = true := by rw [hfit]; exact decide_eq_true he
   have hq : (hi != x / 9223372036854775808) = false := by rw [HY.out]; simpa using he
   have HX := zH (HFX.out rfl)
   clear he hfit hy
   go_wp2_with fail
   go_ret2
   exact ⟨by rw [HX.out]; rfl, HB.out⟩
 · obtain rfl : ok = false := by rw [hfit]; exact decide_eq_false he
   have hq : (hi != x / 9223372036854775808) = true := by rw [HY.out]; simpa using he
   clear he hfit hy
   go_wp2_with fail
   go_ret2
   exact ⟨rfl, HB.out⟩
end
section
open Go Go.RowKit
end
section
open Go Go.RowKit
end
section
open Go Go.RowKit
end
end Go.Proofs.YtpmglcachffojaaGreatDoor
