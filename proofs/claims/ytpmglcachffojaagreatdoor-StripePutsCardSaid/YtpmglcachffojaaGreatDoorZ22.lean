/- A part of what Puts leans on. -/
import Derived.Test.YtpmglcachffojaaGreatDoorZ21
import Derived.Deep.CutBlock
set_option maxRecDepth 100000
set_option maxHeartbeats 16000000
namespace Go.Proofs.YtpmglcachffojaaGreatDoor
section
open Go Go.RowKit
theorem step_apbL {ops : Array Oper} {o : Oper} {a : Act} {w : World} {Q : Exit → Act → World → Prop} {K : Act → World → Prop} {E' : Prop} (hgd : o.guard = none) (s x : Operand) (ho : o.op = .call { callee := .builtin .append, args := #[s, x], argTypes := #[41, 41] }) (B : Nat) (A : Option Addr) (n c : Nat) (xs : List UInt8) (hs : a.eval s = .slice A n c)
 (hown : OwnB w B A n c xs) (hB : B ≤ w.heap.size) (F : Nat → Prop) (A2 : Option Addr) (m c2 : Nat) (ys : List UInt8) (hx : a.eval x = .slice A2 m c2) (hsl : Bs F w A2 m c2 ys) (hlim : n + m ≤ 68719476736)
 (h : ∀ A' c' w', OwnB w' B A' (n + m) c' (xs ++ ys) → w.grownBy w' (A.map (·.block)) → (A'.map (·.block) = A.map (·.block) ∨ A'.map (·.block) = some w.heap.size) → K (a.put o.dst (.slice A' (n + m) c')) w') :
 if Region.wanted o (yielded ops a.tmps) = true then Oper.wp Tryz.prog o a w K Q else E' := by
 have hw : Region.wanted o (yielded ops a.tmps) = true := by simp [Region.wanted, hgd]
 rw [if_pos hw]
 obtain ⟨h5, h6, h7, dss, h8, h9⟩ := hsl
 exact kqC (T := tU8) zzK w w s x ho B A n c xs hs (fun _ => False) F (fun _ => False) hown.own (zR) hB A2 m c2 ys dss hx h5 h8 (h9.flat' qzf) (fun _ _ _ _ h => h) hlim fun A' c' w' ha => h A' c' w' (yye ⟨_, ha.own⟩) ha.grown ha.lies
theorem qx1 {ops : Array Oper} {o : Oper} {a : Act} {w : World} {Q : Exit → Act → World → Prop} {K : Act → World → Prop} {E' : Prop} (hgd : o.guard = none) (s x : Operand) (ho : o.op = .call { callee := .builtin .append, args := #[s, x], argTypes := #[41, 41] }) (B : Nat) (A : Option Addr) (n c : Nat) (xs : List UInt8) (hs : a.eval s = .slice A n c)
 (hown : OwnB w B A n c xs) (hB : B ≤ w.heap.size) (obj : Obj) (hx : a.eval x = .slice (some ⟨w.heap.size, 0, none⟩) 1 1) (y : UInt8) (hobj : obj = .cells #[.int .u8 (y.toNat : Int)] 5) (hlim : n ≤ 34359738368)
 (h : ∀ A' c' w', OwnB w' B A' (n + 1) c' (xs ++ [y]) → (w.drew.alloc obj).grownBy w' (A.map (·.block)) → (A'.map (·.block) = A.map (·.block) ∨ A'.map (·.block) = some (w.drew.alloc obj).heap.size) → K (a.put o.dst (.slice A' (n + 1) c')) w') :
 if Region.wanted o (yielded ops a.tmps) = true then Oper.wp Tryz.prog o a (w.alloc obj).drew K Q else E' :=
 xxe (T := tU8) zzK w w.drew hgd s x ho B A n c xs hs (fun _ => False) (fun _ => False) hown.own.drew (zR) hB obj hx [.int .u8 (y.toNat : Int)] y rfl 5 hobj (fun _ _ _ _ h => h) hlim fun A' c' w' ha => h A' c' w' (yye ⟨_, ha.own⟩) ha.grown ha.lies
structure FlR (w0 : World) (n0 ob lb B : Nat) (Ao : Option Addr) (no co : Nat) (out : List UInt8) (Al : Option Addr) (nl cl : Nat) (lst : List UInt8) (w : World) : Prop where
 obox : w.heap[ob]? = some (.cells #[.slice Ao no co] 41 (0, 0))
 lbox : w.heap[lb]? = some (.cells #[.slice Al nl cl] 41 (0, 0))
 out : OwnB w B Ao no co out
 lst : MidB w B Al nl cl lst
 apart : ∀ g, blkM Al cl = some g → Ao.map (·.block) ≠ some g
 ord : n0 ≤ ob ∧ n0 ≤ lb ∧ ob < B ∧ lb < B ∧ ob ≠ lb ∧ B ≤ w.heap.size
 below : Below n0 w0 w
structure FlK (ob lb B : Nat) (w w' : World) : Prop where
 others : KeepsOthers w w'
 low : ∀ b, b < B → b ≠ ob → b ≠ lb → w'.heap[b]? = w.heap[b]?
theorem FlK.refl (ob lb B : Nat) (w : World) : FlK ob lb B w w := ⟨KeepsOthers.refl w, fun _ _ _ _ => rfl⟩
theorem FlK.trans {ob lb B : Nat} {a b c : World} (h : FlK ob lb B a b) (k : FlK ob lb B b c) : FlK ob lb B a c := ⟨h.others.trans k.others, fun x h1 h2 h3 => (k.low x h1 h2 h3).trans (h.low x h1 h2 h3)⟩
theorem FlK.setO {ob lb B : Nat} (w : World) (v : Value) : FlK ob lb B w (w.setCell ⟨ob, 0, none⟩ v) := ⟨KeepsOthers.setCell _ _ _, fun b _ h _ => Below.heap_setCell w ⟨ob, 0, none⟩ v b h⟩
theorem FlK.setL {ob lb B : Nat} (w : World) (v : Value) : FlK ob lb B w (w.setCell ⟨lb, 0, none⟩ v) := ⟨KeepsOthers.setCell _ _ _, fun b _ _ h => Below.heap_setCell w ⟨lb, 0, none⟩ v b h⟩
theorem FlK.drewAlloc {ob lb B : Nat} (w : World) (o : Obj) (hB : B ≤ w.heap.size) : FlK ob lb B w (w.drew.alloc o) := ⟨(KeepsOthers.drew w).trans (KeepsOthers.alloc _ o), fun b hb _ _ => Below.heap_alloc w.drew o b (by show b < w.heap.size; omega)⟩
theorem bs_front {F : Nat → Prop} {w : World} {b o n c : Nat} {l : List UInt8} (h : Bs F w (some ⟨b, o, none⟩) n c l) {k : Nat} (hk : k ≤ n) (h1 : 1 ≤ k) : Bs F w (some ⟨b, o, none⟩) k c (l.take k) := by
 have h2 := h.cut (lo := 0) (hi := k) (by omega) hk
 have h3 := h.2.1
 rw [if_neg (by omega)] at h2
 simpa [Addr.add] using h2
section
variable {w0 w w' W : World} {n0 ob lb B : Nat} {Ao A' Al : Option Addr} {no co n' c' nl cl : Nat} {out out' lst lst' : List UInt8}
theorem FlR.keep (h : FlR w0 n0 ob lb B Ao no co out Al nl cl lst w) (hb : Below w.heap.size w w') : FlR w0 n0 ob lb B Ao no co out Al nl cl lst w' := by
 have ho := h.ord
 exact ⟨(hb.block ob (by omega)).trans h.obox, (hb.block lb (by omega)).trans h.lbox, h.out.keepB hb, h.lst.keep fun g hg => hb.block g (h.lst.blk hg).2.1, h.apart, ⟨ho.1, ho.2.1, ho.2.2.1, ho.2.2.2.1, ho.2.2.2.2.1, Nat.le_trans ho.2.2.2.2.2 hb.size⟩, h.below.trans (hb.mono (by omega))⟩
theorem FlR.cells (h : FlR w0 n0 ob lb B Ao no co out Al nl cl lst w) : w.cell? ⟨ob, 0, none⟩ = some (.slice Ao no co) ∧ w.cell? ⟨lb, 0, none⟩ = some (.slice Al nl cl) ∧ w.frozen? ⟨ob, 0, none⟩ = false ∧ w.frozen? ⟨lb, 0, none⟩ = false := by
 refine ⟨?_, ?_, zF h.obox 0, zF h.lbox 0⟩
 · rw [zC h.obox]; rfl
 · rw [zC h.lbox]; rfl
structure FlO (w0 : World) (n0 ob lb B : Nat) (Ao : Option Addr) (no co : Nat) (Ar : Option Addr) (nr cr : Nat) (out : List UInt8) (Al : Option Addr) (nl cl : Nat) (lst : List UInt8) (w : World) : Prop where
 obox : w.heap[ob]? = some (.cells #[.slice Ao no co] 41 (0, 0))
 lbox : w.heap[lb]? = some (.cells #[.slice Al nl cl] 41 (0, 0))
 out : OwnB w B Ar nr cr out
 lst : MidB w B Al nl cl lst
 apart : ∀ g, blkM Al cl = some g → Ar.map (·.block) ≠ some g
 ord : n0 ≤ ob ∧ n0 ≤ lb ∧ ob < B ∧ lb < B ∧ ob ≠ lb ∧ B ≤ w.heap.size
 below : Below n0 w0 w
theorem FlR.open_ (h : FlR w0 n0 ob lb B Ao no co out Al nl cl lst w) : FlO w0 n0 ob lb B Ao no co Ao no co out Al nl cl lst w := ⟨h.obox, h.lbox, h.out, h.lst, h.apart, h.ord, h.below⟩
theorem FlO.drew {Ar : Option Addr} {nr cr : Nat} (h : FlO w0 n0 ob lb B Ao no co Ar nr cr out Al nl cl lst w) : FlO w0 n0 ob lb B Ao no co Ar nr cr out Al nl cl lst w.drew :=
 ⟨h.obox, h.lbox, jjs h.out, h.lst.keep fun _ _ => rfl, h.apart, h.ord, h.below.drew⟩
theorem FlO.alloc {Ar : Option Addr} {nr cr : Nat} (h : FlO w0 n0 ob lb B Ao no co Ar nr cr out Al nl cl lst w) (o : Obj) : FlO w0 n0 ob lb B Ao no co Ar nr cr out Al nl cl lst (w.alloc o) := by
 have ho := h.ord
 have hb : Below w.heap.size w (w.alloc o) := (zR).alloc zN o
 exact ⟨(hb.block ob (by omega)).trans h.obox, (hb.block lb (by omega)).trans h.lbox, h.out.keepB hb, h.lst.keep fun g hg => hb.block g (h.lst.blk hg).2.1, h.apart, ⟨ho.1, ho.2.1, ho.2.2.1, ho.2.2.2.1, ho.2.2.2.2.1, Nat.le_trans ho.2.2.2.2.2 hb.size⟩, h.below.trans (hb.mono (by omega))⟩
theorem FlO.grow {Ar : Option Addr} {nr cr : Nat} (h : FlO w0 n0 ob lb B Ao no co Ar nr cr out Al nl cl lst w) (ho2 : OwnB w' B A' n' c' out') (hg : w.grownBy w' (Ar.map (·.block))) (hl : A'.map (·.block) = Ar.map (·.block) ∨ A'.map (·.block) = some w.heap.size) :
 FlO w0 n0 ob lb B Ao no co A' n' c' out' Al nl cl lst w' ∧ FlK ob lb B w w' := by
 have ho := h.ord
 have hrow : ∀ k, Ar.map (·.block) = some k → B ≤ k := fun k hk => (yyc h.out.own hk).2.1
 have hne : ∀ b, b < B → some b ≠ Ar.map (·.block) := fun b hb e => by have := hrow b e.symm; omega
 refine ⟨⟨(hg.block ob (by omega) (hne ob (by omega))).trans h.obox, (hg.block lb (by omega) (hne lb (by omega))).trans h.lbox, ho2, h.lst.keep fun g hg' => hg.block g (h.lst.blk hg').2.1 (fun e => h.apart g hg' e.symm), fun g hg' e => ?_, ?_, ?_⟩, ?_, fun b hb _ _ => hg.block b (by omega) (hne b hb)⟩
 · rcases hl with h1 | h1
   · exact h.apart g hg' (by rw [← h1]; exact e)
   · rw [h1] at e
     have := (h.lst.blk hg').2.1
     injection e with e
     omega
 · exact ⟨ho.1, ho.2.1, ho.2.2.1, ho.2.2.2.1, ho.2.2.2.2.1, Nat.le_trans ho.2.2.2.2.2 hg.size⟩
 · exact h.below.grown hg (by omega) (fun k e => by have := hrow k e; omega)
 · refine KeepsOthers.of_grownBy hg fun j o hj hjo => ?_
   obtain ⟨css, h1, _⟩ := h.out.own.row
   rcases h1.2 with ⟨e1, _⟩ | ⟨g, cap, cur, e1, _, hgc, _⟩
   · injection e1 with e1; rw [e1] at hj; cases hj
   · injection e1 with e1
     rw [e1] at hj
     injection hj with hj
     subst hj
     rw [hgc] at hjo
     injection hjo with hjo
     subst hjo
     rfl
theorem FlO.store {Ar : Option Addr} {nr cr : Nat} (h : FlO w0 n0 ob lb B Ao no co Ar nr cr out Al nl cl lst w) : FlR w0 n0 ob lb B Ar nr cr out Al nl cl lst (w.setCell ⟨ob, 0, none⟩ (.slice Ar nr cr)) := by
 have ho := h.ord
 refine ⟨zza h.obox rfl, zzg h.lbox (by omega), zz9 h.out fun b hb => Below.heap_setCell w ⟨ob, 0, none⟩ _ b (fun e => by have := (h.out.lt b hb).1; simp at e; omega), h.lst.keep fun g hg => Below.heap_setCell w ⟨ob, 0, none⟩ _ g (fun e => by have := (h.lst.blk hg).1; simp at e; omega), h.apart, by simpa using h.ord, zzf h.below ho.1 _⟩
theorem FlR.storeL (h : FlR w0 n0 ob lb B Ao no co out Al nl cl lst w) (hm : MidB w B A' n' c' lst') (ha : ∀ g, blkM A' c' = some g → Ao.map (·.block) ≠ some g) : FlR w0 n0 ob lb B Ao no co out A' n' c' lst' (w.setCell ⟨lb, 0, none⟩ (.slice A' n' c')) := by
 have ho := h.ord
 refine ⟨zzg h.obox (by omega), zza h.lbox rfl, zz9 h.out fun b hb => Below.heap_setCell w ⟨lb, 0, none⟩ _ b (fun e => by have := (h.out.lt b hb).1; simp at e; omega), hm.keep fun g hg => Below.heap_setCell w ⟨lb, 0, none⟩ _ g (fun e => by have := (hm.blk hg).1; simp at e; omega), ha, by simpa using h.ord, zzf h.below ho.2.1 _⟩
end
theorem MidB.drop {w : World} {B g o n c : Nat} {l : List UInt8} (h : MidB w B (some ⟨g, o, none⟩) n c l) {k : Nat} (hk : k ≤ n) : MidB w B (if c = k then some ⟨g, o, none⟩ else some ⟨g, o + k, none⟩) (n - k) (c - k) (l.drop k) := by
 have h1 := h.len
 have h2 := h.cap
 refine ⟨by rw [List.length_drop, ← h1], by omega, Nat.le_trans (Nat.sub_le _ _) h.max, ?_⟩
 by_cases hc : c = k
 · exact .inl (by omega)
 · rcases h.row with h0 | ⟨g', o', cur, e, k2, k3, k4, k5⟩
   · exact .inl (by omega)
   · injection e with e
     injection e with e1 e2 _
     subst e1 e2
     rw [if_neg hc]
     refine .inr ⟨g, o + k, cur, rfl, k2, k3, by omega, fun j hj => ?_⟩
     rw [List.length_drop] at hj
     rw [List.getElem_drop, Nat.add_assoc]
     exact k5 (k + j) (by omega)
theorem blkM_drop {g o c k : Nat} {b : Nat} (h : blkM (if c = k then some ⟨g, o, none⟩ else some ⟨g, o + k, none⟩) (c - k) = some b) : blkM (some ⟨g, o, none⟩) c = some b := by
 unfold blkM at *
 by_cases hc : c - k = 0
 · rw [if_pos hc] at h; cases h
 · rw [if_neg hc, if_neg (by omega)] at h
   rw [if_neg (by omega)]
   exact h
theorem qzL (w0 : World) (n0 ob lb B : Nat) (Ao : Option Addr) (no co : Nat) (out : List UInt8) (Al : Option Addr) (nl cl : Nat) (lst : List UInt8) (hno : no ≤ 1073741824) (hnl : nl ≤ 1073741824) (w : World) (h : FlR w0 n0 ob lb B Ao no co out Al nl cl lst w) :
 Calls Tryz.prog 201 #[.pointer (some ⟨lb, 0, none⟩), .pointer (some ⟨ob, 0, none⟩)] w fun e w' => e = .returned (.tuple #[]) ∧ ∃ Ao' no' co' Al' cl', FlR w0 n0 ob lb B Ao' no' co' (out ++ xxc lst) Al' 0 cl' [] w' ∧ FlK ob lb B w w' := by
 have HH := zH h
 have HNL := zH (show lst.length ≤ 1073741824 by rw [← h.lst.len]; exact hnl)
 have HNO := zH (show out.length ≤ 1073741824 by rw [← h.out.len]; exact hno)
 clear h hno hnl
 go_enter Tryz.func201, Tryz.ntmps201
 go_wp2_with fail
 go_loopw [3] (fun _ wr => ∃ (o1 l1 : List UInt8) (A1 : Option Addr) (n1 c1 : Nat) (A2 : Option Addr) (n2 c2 : Nat), FlR w0 n0 ob lb B A1 n1 c1 o1 A2 n2 c2 l1 wr ∧ FlK ob lb B w wr ∧ o1 ++ xxc l1 = out ++ xxc lst ∧ l1.length ≤ lst.length)
  (fun _ wr => lenV ((wr.cell? ⟨lb, 0, none⟩).getD undef))
 case atStart => exact ⟨out, lst, Ao, no, co, Al, nl, cl, HH.out, FlK.refl _ _ _ _, rfl, Nat.le_refl _⟩
 case round =>
  obtain ⟨o1, l1, A1, n1, c1, A2, n2, c2, hr, hk, he, hll⟩ := hrel
  have HR := zH hr; have HK := zH hk; have HE := zH he; have HLL := zH hll
  obtain ⟨q1, q2, q3, q4⟩ := hr.cells
  have hl1 := hr.lst.len
  clear hr hk he hll
  by_cases hz : n2 = 0
  · subst hz
    obtain rfl : l1 = [] := List.length_eq_zero_iff.1 hl1.symm
    clear hl1
    go_wp2_with fail
    go_end0
    exact ⟨rfl, A1, n1, c1, A2, c2, by have := HR.out; rw [← HE.out, qzy, List.append_nil]; exact this, HK.out⟩
  · have hne : l1 ≠ [] := fun e => by rw [e] at hl1; simp at hl1; omega
    obtain ⟨k, hk⟩ : ∃ k, k = min n2 128 := ⟨_, rfl⟩
    have hk1 : 1 ≤ k ∧ k ≤ n2 ∧ k ≤ 128 := by omega
    obtain ⟨y, hy⟩ : ∃ y : UInt8, y = UInt8.ofNat (256 - k) := ⟨_, rfl⟩
    have HY := zH (show IntKind.u8.wrap (IntKind.i64.wrap (-(k : Int))) = ((y.toNat : Nat) : Int) by rw [hy, UInt8.toNat_ofNat', IntKind.wrap_i64, IntKind.wrap_u8]; omega)
    have HFS := zH (show xxc l1 = ([y] ++ l1.take k) ++ xxc (l1.drop k) by
     rw [uul hne, litB, hy]
     have e1 : min 128 l1.length = k := by omega
     rw [e1]
     by_cases h128 : 128 ≤ l1.length
     · rw [show k = 128 by omega]; rfl
     · rw [show l1.drop 128 = l1.drop k by rw [List.drop_of_length_le (by omega), List.drop_of_length_le (by omega)]]; rfl)
    obtain ⟨g, o, hA2, hx1, hx2, hx3⟩ := bs_at HR.out.lst.bs (k := 0) (by omega)
    clear hx1 hx2 hx3
    subst hA2
    have z1 : (0 : Int) < (n2 : Int) := by omega
    have z2 : 0 < n2 := by omega
    have z3 : decide (0 < n2) = true := decide_eq_true z2
    have zm : min (n2 : Int) 128 = (k : Int) := by omega
    have i0 : (0 : Int) ≤ (k : Int) := by omega
    have hcap := HR.out.lst.cap
    have hmax := HR.out.lst.max
    unfold maxLen at hmax
    have i1 : (k : Int) ≤ (c2 : Int) := by omega
    have i2 : (k : Int) ≤ (n2 : Int) := by omega
    have i3 : (n2 : Int) ≤ (c2 : Int) := by omega
    have hfl := congrArg List.length HE.out
    rw [List.length_append, List.length_append] at hfl
    have hfo := jjp lst
    have ho1 := HR.out.out.len
    have hlim : n1 ≤ 8589934592 := by have := HNO.out; have := HNL.out; omega
    have HLIM := zH hlim; have HL1 := zH hl1; have HK1 := zH hk1
    have hB := HR.out.ord.2.2.2.2.2
    have HB := zH hB
    have qa : ∀ o : Obj, (wr.alloc o).cell? ⟨ob, 0, none⟩ = some (.slice A1 n1 c1) := fun o => zze ((zR).alloc zN o) q1
    have qb : ∀ ob : Obj, (wr.alloc ob).cell? ⟨lb, 0, none⟩ = some (.slice (some ⟨g, o, none⟩) n2 c2) := fun ob => zze ((zR).alloc zN ob) q2
    clear hfl hfo hlim ho1 hy hl1 hk1 hk
    go_upto_region 2 with fail
    go_cut [] from 9 to 18 (fun wx => ∃ (wd : World) (A5 : Option Addr) (c5 : Nat), wd = wx ∧ FlR w0 n0 ob lb B A5 (n1 + 1 + k) c5 (o1 ++ [y] ++ l1.take k) (some ⟨g, o, none⟩) n2 c2 l1 wd ∧ FlK ob lb B wr wd)
    case first =>
     go_region_law (first
      | (refine qx1 (w := wr) rfl (.tmp 9) (.tmp 13) rfl B A1 n1 c1 o1 rfl HR.out.out HB.out _ rfl y (by rw [HY.out]) (by have := HLIM.out; omega) ?_; intro A4 c4 w4 ho4 hg4 hl4
         obtain ⟨hs4, hk4⟩ := (HR.out.open_.drew.alloc _).grow ho4 hg4 hl4
         have HS4 := zH hs4; have HK4 := zH hk4
         have r1 : w4.cell? ⟨ob, 0, none⟩ = some (.slice A1 n1 c1) := (by rw [zC hs4.obox]; rfl)
         have r2 : w4.cell? ⟨lb, 0, none⟩ = some (.slice (some ⟨g, o, none⟩) n2 c2) := (by rw [zC hs4.lbox]; rfl)
         clear ho4 hg4 hl4 hs4 hk4)
      | (refine step_apbL (w := w4) rfl (.tmp 14) (.tmp 17) rfl B A4 (n1 + 1) c4 (o1 ++ [y]) rfl HS4.out.out HS4.out.ord.2.2.2.2.2 (fun _ => True) (some ⟨g, o, none⟩) k c2 (l1.take k) rfl (bs_front HS4.out.lst.bs HK1.out.2.1 HK1.out.1).any (by have := HLIM.out; have := HK1.out; omega) ?_; intro A5 c5 w5 ho5 hg5 hl5
         obtain ⟨hs5, hk5⟩ := HS4.out.grow ho5 hg5 hl5
         have HS5 := zH hs5.store; have HK5 := zH hk5
         have s1 : w5.cell? ⟨ob, 0, none⟩ = some (.slice A1 n1 c1) := (by rw [zC hs5.obox]; rfl)
         have s2 := zF hs5.obox 0
         clear ho5 hg5 hl5 hs5 hk5)
      | fail)
     all_goals
      go_wp2_with fail
      go_meet
      exact ⟨_, A5, c5, rfl, HS5.out, ((FlK.drewAlloc wr _ HB.out).trans (HK4.out.trans HK5.out)).trans (FlK.setO _ _)⟩
    case rest =>
     obtain ⟨wx, A5, c5, rfl, hs5, hk5⟩ := hcut
     have HS5 := zH hs5; have HK5 := zH hk5
     clear q1 q2 q3 q4 qa qb hs5 hk5
     obtain ⟨q1, q2, q3, q4⟩ := HS5.out.cells
     refine ‹∀ (a : Act) (w_1 : World), Code.wp _ _ _ a w_1 → _› _ _ ?_
     have hdr := HS5.out.lst.drop (k := k) HK1.out.2.1
     have hda : ∀ b, blkM (if c2 = k then some ⟨g, o, none⟩ else some ⟨g, o + k, none⟩) (c2 - k) = some b → A5.map (·.block) ≠ some b := fun b hb => HS5.out.apart b (blkM_drop hb)
     have HFIN := zH (HS5.out.storeL hdr hda)
     have HEE := zH (show o1 ++ [y] ++ l1.take k ++ xxc (l1.drop k) = out ++ xxc lst by rw [← HE.out, HFS.out]; simp)
     have HLD := zH (show (l1.drop k).length ≤ lst.length by rw [List.length_drop]; have := HLL.out; omega)
     clear hdr hda
     by_cases hck : c2 = k
     · rw [if_pos hck, show c2 - k = 0 by omega] at HFIN
       go_wp2_with fail
       go_roundw
       case rel => exact ⟨_, _, A5, _, c5, _, _, _, HFIN.out, HK.out.trans (HK5.out.trans (FlK.setL _ _)), HEE.out, HLD.out⟩
       case measure =>
        have e1 := HFIN.out.cells.2.1
        have e2 := HR.out.cells.2.1
        simp only [e1, e2, Option.getD_some, lenV]
        have := HK1.out; omega
     · rw [if_neg hck] at HFIN
       go_wp2_with fail
       go_roundw
       case rel => exact ⟨_, _, A5, _, c5, _, _, _, HFIN.out, HK.out.trans (HK5.out.trans (FlK.setL _ _)), HEE.out, HLD.out⟩
       case measure =>
        have e1 := HFIN.out.cells.2.1
        have e2 := HR.out.cells.2.1
        simp only [e1, e2, Option.getD_some, lenV]
        have := HK1.out; omega
end
section
open Go Go.RowKit Go.Shelf BigFrame
attribute [local go_sem] Oper.semAt_some
section
variable {w0 w w' W : World} {n0 ob lb B : Nat} {Ao A' Al : Option Addr} {no co n' c' nl cl : Nat} {out out' lst lst' : List UInt8}
theorem FlR.turn (h : FlR w0 n0 ob lb B Ao no co out Al nl cl lst w) {row : Option Nat} (hg : w.grownBy w' row) (hr : ∀ r, row = some r → B ≤ r ∧ ∃ o : Obj, w.heap[r]? = some o ∧ o.isCells = false) : FlR w0 n0 ob lb B Ao no co out Al nl cl lst w' := by
 have ho := h.ord
 have hne : ∀ b, b < B → some b ≠ row := fun b hb e => by have := (hr b e.symm).1; omega
 have hcell : ∀ b, (∃ cur e fr, w.heap[b]? = some (.cells cur e fr)) → some b ≠ row := fun b ⟨cur, e, fr, hb⟩ e2 => by
  obtain ⟨_, o, h1, h2⟩ := hr b e2.symm
  rw [hb] at h1
  injection h1 with h1
  subst h1
  cases h2
 refine ⟨(hg.block ob (by omega) (hne ob (by omega))).trans h.obox, (hg.block lb (by omega) (hne lb (by omega))).trans h.lbox, zz9 h.out fun b hb => hg.block b (h.out.lt b hb).2 (hcell b ?_), h.lst.keep fun g hg' => hg.block g (h.lst.blk hg').2.1 (hcell g ?_), h.apart, ?_, ?_⟩
 · rcases h.out.2 with ⟨e1, _⟩ | ⟨g, cap, cur, e1, _, hgc, _⟩
   · rw [e1] at hb; cases hb
   · rw [e1] at hb; injection hb with hb; subst hb; exact ⟨_, _, _, hgc⟩
 · obtain ⟨_, _, cur, hc⟩ := h.lst.blk hg'
   exact ⟨_, _, _, hc⟩
 · exact ⟨ho.1, ho.2.1, ho.2.2.1, ho.2.2.2.1, ho.2.2.2.2.1, Nat.le_trans ho.2.2.2.2.2 hg.size⟩
 · exact h.below.grown hg (by omega) (fun k e => by have := (hr k e).1; omega)
theorem FlR.other (h : FlR w0 n0 ob lb B Ao no co out Al nl cl lst w) {b : Nat} (hb : b < B) (h1 : b ≠ ob) (h2 : b ≠ lb) (h3 : n0 ≤ b) (v : Value) : FlR w0 n0 ob lb B Ao no co out Al nl cl lst (w.setCell ⟨b, 0, none⟩ v) := by
 have ho := h.ord
 exact ⟨zzg h.obox (Ne.symm h1), zzg h.lbox (Ne.symm h2), zz9 h.out fun k hk => Below.heap_setCell w ⟨b, 0, none⟩ _ k (fun e => by have := (h.out.lt k hk).1; simp at e; omega), h.lst.keep fun g hg => Below.heap_setCell w ⟨b, 0, none⟩ _ g (fun e => by have := (h.lst.blk hg).1; simp at e; omega), h.apart, by simpa using ho, zzf h.below h3 _⟩
theorem FlR.growL (h : FlR w0 n0 ob lb B Ao no co out Al nl cl lst w) (hm : MidB w' B A' n' c' lst') (hg : w.grownBy w' (blkM Al cl)) (hl : blkM A' c' = blkM Al cl ∨ ∀ g, blkM A' c' = some g → w.heap.size ≤ g) :
 (w'.heap[ob]? = w.heap[ob]?) ∧ (w'.heap[lb]? = w.heap[lb]?) ∧ FlR w0 n0 ob lb B Ao no co out A' n' c' lst' (w'.setCell ⟨lb, 0, none⟩ (.slice A' n' c')) ∧ FlK ob lb B w (w'.setCell ⟨lb, 0, none⟩ (.slice A' n' c')) := by
 have ho := h.ord
 have hrow : ∀ k, blkM Al cl = some k → B ≤ k := fun k hk => (h.lst.blk hk).1
 have hne : ∀ b, b < B → some b ≠ blkM Al cl := fun b hb e => by have := hrow b e.symm; omega
 have e1 := hg.block ob (by omega) (hne ob (by omega))
 have e2 := hg.block lb (by omega) (hne lb (by omega))
 have hlb := e2.trans h.lbox
 have hout : OwnB w' B Ao no co out := zz9 h.out fun b hb => hg.block b (h.out.lt b hb).2 (fun e => h.apart b e.symm (by rw [← zzd Ao no co]; exact hb))
 have hap : ∀ g, blkM A' c' = some g → Ao.map (·.block) ≠ some g := fun g hg' e => by
  rcases hl with h1 | h1
  · exact h.apart g (by rw [← h1]; exact hg') e
  · have := h1 g hg'
    have := (yyc h.out.own e).2.2
    omega
 refine ⟨e1, e2, ⟨zzg (e1.trans h.obox) (by omega), zza hlb rfl, zz9 hout fun b hb => Below.heap_setCell w' ⟨lb, 0, none⟩ _ b (fun e => by have := (hout.lt b hb).1; simp at e; omega), hm.keep fun g hg => Below.heap_setCell w' ⟨lb, 0, none⟩ _ g (fun e => by have := (hm.blk hg).1; simp at e; omega), hap, ?_, ?_⟩, ?_⟩
 · have := hg.size
   have h6 : B ≤ (w'.setCell ⟨lb, 0, none⟩ (.slice A' n' c')).heap.size := by simp; omega
   exact ⟨ho.1, ho.2.1, ho.2.2.1, ho.2.2.2.1, ho.2.2.2.2.1, h6⟩
 · exact zzf (h.below.grown hg (by omega) (fun k e => by have := hrow k e; omega)) ho.2.1 _
 · refine FlK.trans ⟨KeepsOthers.of_grownBy hg fun j o hj hjo => ?_, fun b hb _ _ => hg.block b (by omega) (hne b hb)⟩ (FlK.setL _ _)
   obtain ⟨_, _, cur, hc⟩ := h.lst.blk hj
   rw [hc] at hjo
   injection hjo with hjo
   subst hjo
   rfl
end
theorem FlK.below {ob lb B : Nat} {w w' : World} (hB : B ≤ w.heap.size) (h : Below w.heap.size w w') : FlK ob lb B w w' :=
 ⟨⟨h.size, fun k o hk _ => (h.block k (zzb hk)).trans hk⟩, fun b hb _ _ => h.block b (by omega)⟩
section
variable {F : Fence} {nF : Nat} {ops : Array Oper} {rest : List Oper} {o : Oper} {a : Act} {Q : Exit → Act → World → Prop} {w : World}
theorem step_mid {K : Act → World → Prop} {E' : Prop} (hgd : o.guard = none) (s x : Operand) (ho : o.op = .call { callee := .builtin .append, args := #[s, x], argTypes := #[41, 41] }) (B : Nat) (A : Option Addr) (n c : Nat) (l : List UInt8) (hs : a.eval s = .slice A n c)
 (hown : MidB w B A n c l) (hB : B ≤ w.heap.size) (G : Nat → Prop) (ad : Addr) (m c2 : Nat) (ys : List UInt8) (hx : a.eval x = .slice (some ad) m c2) (hsl : Bs G w (some ad) m c2 ys) (hm : 1 ≤ m) (hlim : n + m ≤ 68719476736)
 (h : ∀ A' c' w', MidB w' B A' (n + m) c' (l ++ ys) → w.grownBy w' (blkM A c) → (blkM A' c' = blkM A c ∨ ∀ g, blkM A' c' = some g → w.heap.size ≤ g) → K (a.put o.dst (.slice A' (n + m) c')) w') :
 if Region.wanted o (yielded ops a.tmps) = true then Oper.wp Tryz.prog o a w K Q else E' := by
 have hw : Region.wanted o (yielded ops a.tmps) = true := by simp [Region.wanted, hgd]
 rw [if_pos hw]
 obtain ⟨A', c', w', hrun, h2, h3, h4⟩ := qx0 w B A n c l hown hB o.type G ad m c2 ys hsl hm hlim
 unfold Oper.wp execOp
 simp only [ho, resolve, invoke, builtin, Sem.run_bind, Sem.run_pure, Result.andThen_ok, List.map_toArray, List.map_cons, List.map_nil, hs, hx, hrun]
 exact h A' c' w' h2 h3 h4
theorem apbInL (hgd : o.guard = none) (s x : Operand) (ho : o.op = .call { callee := .builtin .append, args := #[s, x], argTypes := #[41, 41] }) (B : Nat) (A : Option Addr) (n c : Nat) (xs : List UInt8) (hs : a.eval s = .slice A n c)
 (hown : OwnB w B A n c xs) (hB : B ≤ w.heap.size) (G : Nat → Prop) (A2 : Option Addr) (m c2 : Nat) (ys : List UInt8) (hx : a.eval x = .slice A2 m c2) (hsl : Bs G w A2 m c2 ys) (hlim : n + m ≤ 68719476736)
 (h : ∀ A' c' w', OwnB w' B A' (n + m) c' (xs ++ ys) → w.grownBy w' (A.map (·.block)) → (A'.map (·.block) = A.map (·.block) ∨ A'.map (·.block) = some w.heap.size) → wpListIn F nF Tryz.prog ops Q rest (a.put o.dst (.slice A' (n + m) c')) w') : wpListIn F nF Tryz.prog ops Q (o :: rest) a w := by
 refine wpListIn_plain hgd fun K hK => ?_
 obtain ⟨A', c', w', hrun, h2, h3, h4⟩ := xxr zzK o.type w B (.slice A n c) n (bvs xs) hown G A2 m c2 (bvs ys) (by rw [zzS, Nat.mul_one]; exact hsl.len.symm) (xqN hsl) (zqn _) hlim hB
 unfold Oper.wpIn
 refine ⟨by simp [Oper.about, ho, resolve, Target.leads, Sem.run_pure], ?_⟩
 rw [Oper.semAt_plain F _ _ (by rw [ho]; intro c hc'; cases hc')]
 simp [execOp, ho, resolve, invoke, builtin, hs, hx, hrun, Result.andThen]
 rw [zzd] at h3 h4
 exact hK _ _ (h A' c' w' (by unfold OwnB; rw [jj9]; exact h2) h3 h4)
end
end
section
open Go Go.RowKit
theorem tw_ge {p : UInt8 → Bool} : ∀ (l : List UInt8) (k : Nat), k ≤ l.length → (∀ j (_ : j < l.length), j < k → p l[j] = true) → k ≤ (l.takeWhile p).length
 | [], k, h, _ => by simpa using h
 | x :: r, 0, _, _ => Nat.zero_le _
 | x :: r, k + 1, h, hp => by
   have h0 : p x = true := hp 0 (by simp) (by omega)
   have h1 := tw_ge r k (by simpa using h) (fun j hj hk => hp (j + 1) (by simpa using hj) (by omega))
   rw [List.takeWhile_cons, if_pos h0, List.length_cons]
   omega
theorem tw_stop {p : UInt8 → Bool} : ∀ (l : List UInt8) (k : Nat) (h : k < l.length), p l[k] = false → (l.takeWhile p).length ≤ k
 | x :: r, 0, _, hp => by
   have hp : p x = false := hp
   rw [List.takeWhile_cons, if_neg (by rw [hp]; decide)]; simp
 | x :: r, k + 1, h, hp => by
   have h1 := tw_stop r k (by simpa using h) hp
   rw [List.takeWhile_cons]
   split
   · rw [List.length_cons]; omega
   · simp
theorem qzd (b : List UInt8) (a k : Nat) (ha : a < b.length) (h1 : 1 ≤ k) (hk : k ≤ 130) (hl : a + k ≤ b.length) (he : ∀ j (_ : a + j < b.length), j < k → b[a + j] = b[a])
 (hx : k = 130 ∨ a + k = b.length ∨ ∃ h : a + k < b.length, b[a + k] ≠ b[a]) : zzl (b.drop a) = k := by
 have hd : (b.drop a).headD 0 = b[a] := by rw [List.drop_eq_getElem_cons ha]; rfl
 have hlen : (b.drop a).length = b.length - a := List.length_drop
 have hge : k ≤ ((b.drop a).takeWhile (· == b[a])).length := tw_ge _ k (by omega) fun j hj hjk => by
  rw [List.getElem_drop, he j (by omega) hjk]; simp
 have hle := (List.takeWhile_prefix (l := b.drop a) (· == b[a])).length_le
 unfold zzl
 rw [hd]
 rcases hx with h | h | ⟨h, hne⟩
 · omega
 · omega
 · have h2 := tw_stop (p := (· == b[a])) (b.drop a) k (by omega) (by rw [List.getElem_drop]; simpa using hne)
   omega
theorem u8_no {x y : UInt8} (h : x ≠ y) : ((x.toNat : Int) == (y.toNat : Int)) = false := by
 simp only [beq_eq_false_iff_ne, ne_eq]
 intro e; exact h (UInt8.toNat_inj.1 (by omega))
theorem vvn (F : Nat → Prop) (A : Option Addr) (n c : Nat) (bs : List UInt8) (w : World) (h : Bs F w A n c bs) (a : Nat) (ha : a < n) (hn : n ≤ 4096) :
 Calls Tryz.prog 212 #[.slice A n c, .int .i64 (a : Int)] w fun e w' => e = .returned (.int .i64 ((zzl (bs.drop a) : Nat) : Int)) ∧ Below w.heap.size w w' := by
 have HH := zH h; have HL := zH h.len
 have hab : a < bs.length := by rw [← HL.out]; exact ha
 clear h
 obtain ⟨b, o, u0, rfl, _, hbl, hr0, hc0⟩ := HH.out.at1 hab rfl
 have hr0 : [u0] = [Value.int .u8 (bs[a].toNat : Int)] := hr0
 injection hr0 with hr0; subst hr0
 obtain ⟨y, hy⟩ : ∃ y, y = bs[a] := ⟨_, rfl⟩
 rw [← hy] at hc0
 have HY := zH hy; have HC0 := zH hc0
 clear hy hc0
 go_enter Tryz.func212, Tryz.ntmps212
 go_wp2_with fail
 go_loopw [5] (fun kv wr => ∃ k : Nat, 1 ≤ k ∧ k ≤ 130 ∧ a + k ≤ n ∧ kv = .int .i64 (k : Int) ∧ Hid (∀ j (_ : a + j < bs.length), j < k → bs[a + j] = bs[a]) ∧ Below w.heap.size w wr) (fun kv _ => 130 - (intOf kv).toNat)
 case atStart => exact ⟨1, Nat.le_refl _, by omega, by omega, rfl, zH (fun j _ hj => by obtain rfl : j = 0 := (by omega); simp), zR⟩
 case round =>
  obtain ⟨k, hk1, hk2, hk3, rfl, HE, hb⟩ := hrel
  have HB := zH hb
  obtain ⟨p, hp⟩ : ∃ p, p = a + k := ⟨_, rfl⟩
  have hpi : (a : Int) + (k : Int) = (p : Int) := by omega
  have hac : (a : Int) < (n : Int) := by omega
  have ha0 : (0 : Int) ≤ (a : Int) := by omega
  have hp0 : (0 : Int) ≤ (p : Int) := by omega
  have HPP := zH hp
  have hk4 : a + k ≤ bs.length := by rw [← HL.out]; exact hk3
  have c0 := zze hb HC0.out
  clear hb
  by_cases hlt : p < n
  · have q1 : (p : Int) < (n : Int) := by omega
    by_cases h130 : k < 130
    · have q2 : (k : Int) < 130 := by omega
      have hpl : p < bs.length := by rw [← HL.out]; exact hlt
      obtain ⟨b', o', u, e, _, _, hr, hc⟩ := HH.out.at1 hpl rfl
      cases e
      have hr : [u] = [Value.int .u8 (bs[p].toNat : Int)] := hr
      injection hr with hr; subst hr
      obtain ⟨x, hx⟩ : ∃ x, x = bs[p] := ⟨_, rfl⟩
      rw [← hx] at hc
      have HXX := zH hx
      have c1 := zze HB.out hc
      clear hc hx
      by_cases hxy : x = y
      · subst hxy
        have HE2 : Hid (∀ j (_ : a + j < bs.length), j < k + 1 → bs[a + j] = bs[a]) := zH (fun j hj hjk => by
         by_cases hjk2 : j = k
         · subst hjk2
           have h1 := HXX.out; have h2 := HY.out; have h3 := HPP.out
           subst h3
           rw [← h1, ← h2]
         · exact HE.out j hj (by omega))
        clear hp
        go_wp2_with fail
        go_quiet (fail)
        go_wp2_with fail
        go_roundw
        case rel => exact ⟨k + 1, by omega, by omega, by have := HPP.out; omega, by go_num, HE2, zzA HB.out _⟩
        case measure => simp [intOf]; omega
      · have hno := u8_no hxy
        have HR := zH (show zzl (bs.drop a) = k from qzd bs a k hab hk1 hk2 (by omega) HE.out (.inr (.inr ⟨by omega, by
         have h1 := HXX.out; have h2 := HY.out; have h3 := HPP.out
         subst h3
         rw [← h1, ← h2]; exact hxy⟩)))
        clear hp
        go_wp2_with fail
        go_quiet (fail)
        go_wp2_with fail
        go_ret
        exact ⟨by rw [HR.out]; rfl, zzA HB.out _⟩
    · obtain rfl : k = 130 := by omega
      have hpi2 : (a : Int) + 130 = (p : Int) := by omega
      have HR := zH (show zzl (bs.drop a) = 130 from qzd bs a 130 hab hk1 hk2 (by omega) HE.out (.inl rfl))
      clear hp
      go_wp2_with fail
      go_quiet (fail)
      go_wp2_with fail
      go_ret
      exact ⟨by rw [HR.out]; rfl, zzA HB.out _⟩
  · have q1 : ¬ (p : Int) < (n : Int) := by omega
    have HR := zH (show zzl (bs.drop a) = k from qzd bs a k hab hk1 hk2 (by omega) HE.out (.inr (.inl (by have := HL.out; omega))))
    clear hp
    go_wp2_with fail
    go_quiet (fail)
    go_wp2_with fail
    go_ret
    exact ⟨by rw [HR.out]; rfl, zzA HB.out _⟩
theorem litF_zero {f : Nat} {b : List UInt8} (h : f = 0 ∨ b = [] ∨ 3 ≤ zzl b) : litF f b = 0 := by
 match f, b, h with
 | 0, _, _ => rfl
 | _ + 1, [], _ => rfl
 | f + 1, c :: r, h =>
   have h3 : 3 ≤ zzl (c :: r) := by
    rcases h with h | h | h
    · omega
    · cases h
    · exact h
   unfold litF
   rw [if_neg (by omega)]
theorem litF_succ {f a : Nat} {b : List UInt8} (ha : a < b.length) (h : zzl (b.drop a) < 3) : litF (f + 1) (b.drop a) = 1 + litF f (b.drop (a + 1)) := by
 rw [List.drop_eq_getElem_cons ha] at h ⊢
 conv => lhs; unfold litF
 rw [if_pos h]
theorem bs_new2 (w : World) (y x : UInt8) : Bs (fun _ => True) (w.alloc (.cells #[.int .u8 ((y.toNat : Nat) : Int), .int .u8 ((x.toNat : Nat) : Int)] 5)) (some ⟨w.heap.size, 0, none⟩) 2 2 [y, x] :=
 (Sl.news (T := tU8) (F := fun _ => False) (w := w) (Reps.mk2 (T := tU8) (x1 := y) (x2 := x) rfl rfl) 5 2 rfl (by omega) _ rfl).any
theorem r5put_any (F : Nat → Prop) (A : Option Addr) (n c : Nat) (bs : List UInt8) (w : World) (h : Bs F w A n c bs) (hn : n ≤ 4096) :
 Calls Tryz.prog 171 #[.slice A n c] w (zzq (some (byB bs)) w) := by
 have HH := zH h; have HL := zH h.len; have HN := zH hn
 have HNEW := zH (OwnB.new0 w w.heap.size zN)
 have HB0 := zH (show Below w.heap.size w (w.alloc (.cells #[] 5)) from (zR).alloc zN _)
 have hnc : n ≤ c := h.2.1
 have hcm : c ≤ 9223372036854775807 := by have := h.2.2.1; unfold maxLen at this; omega
 have hn1 : ¬ (n : Int) > 4096 := by omega
 have hn2 : ¬ (4096 : Int) < n := by omega
 clear h
 go_enter Tryz.func171, Tryz.ntmps171
 go_wp2_with fail
 go_loopw [4, 5] (fun ov av wr => ∃ (a : Nat) (Ao : Option Addr) (no co : Nat) (p : List UInt8), a ≤ n ∧ av = .int .i64 (a : Int) ∧ ov = .slice Ao no co ∧ OwnB wr w.heap.size Ao no co p ∧ Below w.heap.size w wr ∧ p ++ byB (bs.drop a) = byB bs ∧ no ≤ 2 * a) (fun _ av _ => n - (intOf av).toNat)
 case atStart => exact ⟨0, _, 0, 0, [], Nat.zero_le _, rfl, rfl, HNEW.out, HB0.out, by rw [List.drop_zero]; rfl, by omega⟩
 case round =>
  obtain ⟨a, Ao, no, co, p, ha, rfl, rfl, ho, hb, hp, hno⟩ := hrel
  have HO := zH ho; have HB := zH hb; have HP := zH hp
  clear ho hb hp
  by_cases hlt : a < n
  · have hal : a < bs.length := by rw [← HL.out]; exact hlt
    have hne : bs.drop a ≠ [] := fun e => by have := congrArg List.length e; rw [List.length_drop] at this; simp at this; omega
    obtain ⟨b, o, u0, rfl, _, hbl, hr0, hc0⟩ := HH.out.at1 hal rfl
    have hr0 : [u0] = [Value.int .u8 (bs[a].toNat : Int)] := hr0
    injection hr0 with hr0; subst hr0
    obtain ⟨x, hx⟩ : ∃ x, x = bs[a] := ⟨_, rfl⟩
    rw [← hx] at hc0
    have HC0 := zH hc0
    have hhd : (bs.drop a).headD 0 = x := by rw [List.drop_eq_getElem_cons hal, hx]; rfl
    have HHD := zH hhd; have HNE := zH hne
    obtain ⟨s, hs⟩ : ∃ s, s = zzl (bs.drop a) := ⟨_, rfl⟩
    have HS := zH hs
    have hsle := xxz (bs.drop a)
    rw [← hs, List.length_drop] at hsle
    have hs130 : s ≤ 130 := by rw [hs]; unfold zzl; omega
    have hs1 : 1 ≤ s := by rw [hs]; exact yyU hne
    have hac : (a : Int) < (n : Int) := by omega
    have ha0 : (0 : Int) ≤ (a : Int) := by omega
    have hsn : a + s ≤ n := by have := HL.out; omega
    have hno2 : no ≤ 8192 := by omega
    clear hx hc0 hhd hs hne
    by_cases h3 : 3 ≤ s
    · have q3 : (s : Int) ≥ 3 := by omega
      have q3' : (3 : Int) ≤ (s : Int) := by omega
      obtain ⟨y, hy⟩ : ∃ y, y = UInt8.ofNat (s - 3) := ⟨_, rfl⟩
      have hyv : (s : Int) - 3 = ((y.toNat : Nat) : Int) := by rw [hy, UInt8.toNat_ofNat']; omega
      have HR := zH (show ∀ q, q = p ++ [y, x] → q ++ byB (bs.drop (a + s)) = byB bs by
       rintro q rfl
       rw [← HP.out, xq8 (b := bs.drop a) (by rw [← HS.out]; exact h3), ← HS.out, HHD.out, ← hy, List.drop_drop, List.append_assoc])
      clear hy
      go_wp2_with (first
       | (go_at_call 212; refine (vvn F _ n c bs _ (HH.out.below HB.out zN) a hlt HN.out).mono ?_; rintro e w2 ⟨rfl, hb2⟩; rw [← HS.out]; have HO2 := zH (HO.out.keepB hb2); have HB2 := zH (HB.out.trans (hb2.mono HB.out.size)); have c0 := zze HB2.out HC0.out; clear hb2)
       | (at_builtin; refine apb (w2.alloc (.cells #[.int .u8 ((y.toNat : Nat) : Int), .int .u8 ((x.toNat : Nat) : Int)] 5)) w rfl (.tmp 21) (.tmp 29) rfl w.heap.size Ao no co p rfl (yye ⟨_, HO2.out.own.alloc _⟩) (HB2.out.alloc HB2.out.size _) zN (fun _ => True) (some ⟨w2.heap.size, 0, none⟩) 2 2 [y, x] rfl (bs_new2 w2 y x) (by omega) ?_; intro A5 c5 w5 ho5 hb5 _)
       | fail)
      go_roundw
      case rel => exact ⟨a + s, A5, no + 2, c5, _, by omega, by go_num, rfl, ho5, hb5, HR.out _ rfl, by omega⟩
      case measure => simp [intOf]; omega
    · have q3 : ¬ (s : Int) ≥ 3 := by omega
      have q3' : ¬ (3 : Int) ≤ (s : Int) := by omega
      have hlp : 1 ≤ litN (bs.drop a) := uuQ HNE.out (by rw [← HS.out]; omega)
      have HLP := zH hlp
      clear hlp
      go_upto_region 10 with (first
       | (go_at_call 212; refine (vvn F _ n c bs _ (HH.out.below HB.out zN) a hlt HN.out).mono ?_; rintro e w2 ⟨rfl, hb2⟩; rw [← HS.out]; have HO2 := zH (HO.out.keepB hb2); have HB2 := zH (HB.out.trans (hb2.mono HB.out.size)); clear hb2)
       | fail)
      go_upto_block 2 with fail
      go_cut [7] from 12 to 67 (fun ev wx => ∃ k : Nat, 1 ≤ k ∧ k ≤ 128 ∧ a + k ≤ n ∧ ev = .int .i64 ((a + k : Nat) : Int) ∧ litN (bs.drop a) = k ∧ Below w2.heap.size w2 wx)
      case first =>
       go_wp2_with fail
       go_loopw [7] (fun ev wx => ∃ k : Nat, a + k ≤ n ∧ k ≤ 128 ∧ ev = .int .i64 ((a + k : Nat) : Int) ∧ litN (bs.drop a) = k + litF (128 - k) (bs.drop (a + k)) ∧ Below w2.heap.size w2 wx) (fun ev _ => n - (intOf ev).toNat)
       case atStart => exact ⟨0, by omega, by omega, rfl, by rw [Nat.zero_add]; rfl, zR⟩
       case round =>
        obtain ⟨k, hk1, hk2, rfl, hlit, hbx⟩ := hrel
        obtain ⟨wx, rfl⟩ : ∃ wx, wx = wr := ⟨wr, rfl⟩
        have HLI := zH hlit; have HBX := zH hbx
        obtain ⟨e, he⟩ : ∃ e, e = a + k := ⟨_, rfl⟩
        rw [← he]
        have HEE := zH he
        have hek : (e : Int) - (a : Int) = (k : Int) := by omega
        have he0 : (0 : Int) ≤ (e : Int) := by omega
        have hen : e ≤ n := by omega
        have HZERO := zH (show e = n ∨ k = 128 ∨ 3 ≤ zzl (bs.drop e) → litN (bs.drop a) = k ∧ 1 ≤ k from fun hstop => by
         have hk : litN (bs.drop a) = k := by
          rw [hlit, litF_zero]
          · rfl
          · rw [← he]
            rcases hstop with h | h | h
            · exact .inr (.inl (List.drop_eq_nil_of_le (by rw [← HL.out]; omega)))
            · exact .inl (by omega)
            · exact .inr (.inr h)
         exact ⟨hk, by rw [← hk]; exact HLP.out⟩)
        clear hlit hbx he
        by_cases h1 : e < n
        · have g1 : (e : Int) < (n : Int) := by omega
          by_cases h2 : k < 128
          · have g2 : (k : Int) < 128 := by omega
            obtain ⟨s2, hs2⟩ : ∃ s2, s2 = zzl (bs.drop e) := ⟨_, rfl⟩
            have HS2 := zH hs2
            by_cases h4 : s2 < 3
            · have g4 : (s2 : Int) < 3 := by omega
              have HNX := zH (show litN (bs.drop a) = (k + 1) + litF (128 - (k + 1)) (bs.drop (a + (k + 1))) by
               rw [HLI.out, show 128 - k = 128 - (k + 1) + 1 by omega, ← HEE.out, litF_succ (by rw [← HL.out]; exact h1) (by rw [← hs2]; exact h4), HEE.out, ← Nat.add_assoc k, show a + k + 1 = a + (k + 1) by omega])
              clear hs2
              go_wp2_with (first
               | (go_at_call 212; refine (vvn F _ n c bs _ (HH.out.below (HB2.out.trans (HBX.out.mono HB2.out.size)) zN) e h1 HN.out).mono ?_; rintro q w4 ⟨rfl, hb4⟩; rw [← HS2.out]; have HB4 := zH (HBX.out.trans (hb4.mono HBX.out.size)); clear hb4)
               | fail)
              go_roundw
              case rel => exact ⟨k + 1, by have := HEE.out; omega, by omega, by rw [show a + (k + 1) = e + 1 by have := HEE.out; omega]; go_num, HNX.out, HB4.out⟩
              case measure => simp [intOf]; omega
            · have g4 : ¬ (s2 : Int) < 3 := by omega
              have hz := HZERO.out (.inr (.inr (by rw [← hs2]; omega)))
              clear hs2
              go_wp2_with (first
               | (go_at_call 212; refine (vvn F _ n c bs _ (HH.out.below (HB2.out.trans (HBX.out.mono HB2.out.size)) zN) e h1 HN.out).mono ?_; rintro q w4 ⟨rfl, hb4⟩; rw [← HS2.out]; have HB4 := zH (HBX.out.trans (hb4.mono HBX.out.size)); clear hb4)
               | fail)
              go_meet
              exact ⟨k, hz.2, hk2, by have := HEE.out; omega, by rw [← HEE.out], hz.1, HB4.out⟩
          · have g2 : ¬ (k : Int) < 128 := by omega
            have hz := HZERO.out (.inr (.inl (by omega)))
            go_wp2_with fail
            go_meet
            exact ⟨k, hz.2, hk2, by have := HEE.out; omega, by rw [← HEE.out], hz.1, HBX.out⟩
        · have g1 : ¬ (e : Int) < (n : Int) := by omega
          have hz := HZERO.out (.inl (by omega))
          go_wp2_with fail
          go_meet
          exact ⟨k, hz.2, hk2, by have := HEE.out; omega, by rw [← HEE.out], hz.1, HBX.out⟩
      case rest =>
       obtain ⟨k, hk1, hk2, hk3, rfl, hlit, hbx⟩ := hcut
       rename World => w4
       have HB4 := zH (HB2.out.trans (hbx.mono HB2.out.size)); have HO4 := zH (HO2.out.keepB hbx)
       obtain ⟨e, he⟩ : ∃ e, e = a + k := ⟨_, rfl⟩
       rw [← he]
       have hek : (e : Int) - (a : Int) = (k : Int) := by omega
       have HEE := zH he
       obtain ⟨y, hy⟩ : ∃ y, y = UInt8.ofNat (256 - k) := ⟨_, rfl⟩
       have hyv : 256 - (k : Int) = ((y.toNat : Nat) : Int) := by rw [hy, UInt8.toNat_ofNat']; omega
       have HR := zH (show ∀ q, q = p ++ [y] ++ (bs.drop a).take k → q ++ byB (bs.drop e) = byB bs by
        rintro q rfl
        rw [← HP.out, xq9 (b := bs.drop a) HNE.out (by rw [← HS.out]; omega), hlit, List.drop_drop, ← he, litB, ← hy]
        simp)
       have hct := HH.out.cut (lo := a) (hi := e) (by omega) (by omega)
       rw [if_neg (by omega), show (bs.take e).drop a = (bs.drop a).take k by rw [he, List.drop_take, Nat.add_sub_cancel_left], show e - a = k by omega] at hct
       have hct2 : Bs F w (some ⟨b, o + a, none⟩) k (c - a) ((bs.drop a).take k) := by
        have e1 : (⟨b, o, none⟩ : Addr).add (a * 1) = ⟨b, o + a, none⟩ := by rw [Nat.mul_one]; exact yy4 b o a
        rw [← e1]; exact hct
       have HCT := zH hct2
       have j0 : (0 : Int) ≤ (e : Int) := by omega
       have j1 : (a : Int) ≤ (e : Int) := by omega
       have j2 : (e : Int) ≤ (c : Int) := by omega
       have j3 : e ≤ c := by omega
       have j4 : a ≤ e := by omega
       have j5 : ¬ c = a := by omega
       have j6 : ¬ a = c := by omega
       have j7 : e - a = k := by omega
       have j8 : (c : Int) ≤ 9223372036854775807 := by omega
       have j9 : (a : Int) ≤ (c : Int) := by omega
       clear hlit hbx hy hct hct2 he
       refine ‹∀ (a : Act) (w_1 : World), Code.wp _ _ _ a w_1 → _› _ _ ?_
       go_upto_region 14 with (first
        | (at_builtin; refine apb1 w4 w rfl (.tmp 53) (.tmp 59) rfl w.heap.size Ao no co p rfl HO4.out HB4.out zN _ rfl y rfl (by omega) ?_; intro A5 c5 w5 h5 hb5 _; have HO5 := zH h5; have HB5 := zH hb5; clear h5 hb5)
        | fail)
       go_wp2_with (first
        | (at_builtin; refine apb w5 w rfl (.tmp 61) (.tmp 65) rfl w.heap.size A5 (no + 1) c5 (p ++ [y]) rfl HO5.out HB5.out zN F (some ⟨b, o + a, none⟩) k (c - a) ((bs.drop a).take k) rfl (HCT.out.below HB5.out zN) (by omega) ?_; intro A6 c6 w6 h6 hb6 _; have HO6 := zH h6; have HB6 := zH hb6; clear h6 hb6)
        | fail)
       go_roundw
       case rel => exact ⟨e, A6, no + 1 + k, c6, _, by omega, rfl, rfl, HO6.out, HB6.out, HR.out _ rfl, by have := HEE.out; omega⟩
       case measure => simp [intOf]; have := HEE.out; omega
  · obtain rfl : a = n := by omega
    have HFIN := zH (show p = byB bs by
     have h1 := HP.out
     rw [List.drop_eq_nil_of_le (by rw [← HL.out]; exact Nat.le_refl _), xq7, List.append_nil] at h1
     exact h1)
    go_wp2_with fail
    go_ret2
    exact ⟨HB.out, Ao, no, co, rfl, by rw [← HFIN.out]; exact HO.out⟩
end
end Go.Proofs.YtpmglcachffojaaGreatDoor
