/- copy, as one step of a walk; bytes.Repeat of one byte. byterle.runs: the rows of bytes that are the same, as a function over which one ranges. Bytes that lie in the midst of a row of the call's own, with room behind them: appended to. -/
import Derived.Test.YticfmphbhdkhoaaGreatDoorPk17
import Derived.Lib.MakeNoZero
import Derived.Laws.IdiomCopy
import Derived.Test.YticfmphbhdkhoaaGreatDoorPk3
import Derived.Test.YticfmphbhdkhoaaGreatDoorPk1
import Derived.Sort.BigQuietIn
import Derived.Sort.CutIn
import Derived.ArgAppend
namespace Go.Proofs.YticfmphbhdkhoaaGreatDoor
open Go Go.RowKit

section
variable {P : Program} (w : World) {ops : Array Oper} {rest : List Oper} {o : Oper} {a : Act} {Q : Exit → Act → World → Prop}
/-- copy(d, s) at elements of one cell. -/
theorem wp_cp {K : Act → World → Prop} {t1 t2 e : TypeId} (d s : Operand) (ho : o.op = .call { callee := .builtin .copy, args := #[d, s], argTypes := #[t1, t2] }) (hu : P.underlying t1 = some (.slice e)) (he : (P.info? e).map (·.size) = some 1)
    (g q dl dc : Nat) (ad : Addr) (sl sc : Nat) (cs : List Value) (hd : a.eval d = .slice (some ⟨g, q, none⟩) dl dc) (hs : a.eval s = .slice (some ad) sl sc) (hn : cs.length = Nat.min sl dl)
    (hsrc : ∀ j v, cs[j]? = some v → w.cell? (ad.add j) = some v) (hc : ∀ j, j < cs.length → (w.cell? ⟨g, q + j, none⟩).isSome = true) (hf : ∀ j, j < cs.length → w.frozen? ⟨g, q + j, none⟩ = false) (h1 : ∀ v ∈ cs, v.oneCell' = true)
    (h : K (a.put o.dst (.int .i64 (cs.length : Int))) (w.setCells g q cs)) : o.wp P a w K Q := by
  have hrun := run_copy_cells (P := P) w t1 t2 o.type e g q dl dc ad sl sc cs hu he hn hsrc hc hf h1
  unfold Oper.wp execOp
  simp only [ho, resolve, invoke, builtin, Sem.run_bind, Sem.run_pure, Result.andThen_ok, List.map_toArray, List.map_cons, List.map_nil, hd, hs, hrun]
  exact h
theorem cpl {t1 t2 e : TypeId} (hgd : o.guard = none) (d s : Operand) (ho : o.op = .call { callee := .builtin .copy, args := #[d, s], argTypes := #[t1, t2] }) (hu : P.underlying t1 = some (.slice e)) (he : (P.info? e).map (·.size) = some 1)
    (g q dl dc : Nat) (ad : Addr) (sl sc : Nat) (cs : List Value) (hd : a.eval d = .slice (some ⟨g, q, none⟩) dl dc) (hs : a.eval s = .slice (some ad) sl sc) (hn : cs.length = Nat.min sl dl)
    (hsrc : ∀ j v, cs[j]? = some v → w.cell? (ad.add j) = some v) (hc : ∀ j, j < cs.length → (w.cell? ⟨g, q + j, none⟩).isSome = true) (hf : ∀ j, j < cs.length → w.frozen? ⟨g, q + j, none⟩ = false) (h1 : ∀ v ∈ cs, v.oneCell' = true)
    (h : wpList P ops Q rest (a.put o.dst (.int .i64 (cs.length : Int))) (w.setCells g q cs)) : wpList P ops Q (o :: rest) a w :=
  wpList_plain hgd fun _ hK => wp_cp w d s ho hu he g q dl dc ad sl sc cs hd hs hn hsrc hc hf h1 (hK _ _ h)
theorem step_cp {K : Act → World → Prop} {E' : Prop} {t1 t2 e : TypeId} (hgd : o.guard = none) (d s : Operand) (ho : o.op = .call { callee := .builtin .copy, args := #[d, s], argTypes := #[t1, t2] }) (hu : P.underlying t1 = some (.slice e)) (he : (P.info? e).map (·.size) = some 1)
    (g q dl dc : Nat) (ad : Addr) (sl sc : Nat) (cs : List Value) (hd : a.eval d = .slice (some ⟨g, q, none⟩) dl dc) (hs : a.eval s = .slice (some ad) sl sc) (hn : cs.length = Nat.min sl dl)
    (hsrc : ∀ j v, cs[j]? = some v → w.cell? (ad.add j) = some v) (hc : ∀ j, j < cs.length → (w.cell? ⟨g, q + j, none⟩).isSome = true) (hf : ∀ j, j < cs.length → w.frozen? ⟨g, q + j, none⟩ = false) (h1 : ∀ v ∈ cs, v.oneCell' = true)
    (h : K (a.put o.dst (.int .i64 (cs.length : Int))) (w.setCells g q cs)) : if Region.wanted o (yielded ops a.tmps) = true then Oper.wp P o a w K Q else E' := by
  have hw : Region.wanted o (yielded ops a.tmps) = true := by simp [Region.wanted, hgd]
  rw [if_pos hw]
  exact wp_cp w d s ho hu he g q dl dc ad sl sc cs hd hs hn hsrc hc hf h1 h
end
/-- A buffer that is being filled: room for n, the first p of them the byte x. -/
structure RpR (w0 : World) (g n p : Nat) (x : UInt8) (w : World) : Prop where
  below : Below w0.heap.size w0 w
  base : w0.heap.size ≤ g
  lt : g < w.heap.size
  there : ∀ j, j < n → (w.cell? ⟨g, j, none⟩).isSome = true
  free : ∀ j, w.frozen? ⟨g, j, none⟩ = false
  have_ : ∀ j, j < p → w.cell? ⟨g, j, none⟩ = some (.int .u8 (x.toNat : Int))
theorem below_scs {B g : Nat} {a : World} (hb : B ≤ g) : ∀ (vs : List Value) (o : Nat) {w : World}, Below B a w → Below B a (w.setCells g o vs)
  | [], _, _, h => h
  | v :: r, o, _, h => below_scs hb r (o + 1) (h.setCell (p := ⟨g, o, none⟩) hb v)
theorem RpR.fill {w0 w : World} {g n p k : Nat} {x : UInt8} (h : RpR w0 g n p x w) (hk : p + k ≤ n) : RpR w0 g n (p + k) x (w.setCells g p (List.replicate k (.int .u8 (x.toNat : Int)))) := by
  have hin : ∀ j, j < (List.replicate k (Value.int .u8 (x.toNat : Int))).length → (w.cell? ⟨g, p + j, none⟩).isSome = true := fun j hj => h.there _ (by rw [List.length_replicate] at hj; omega)
  have hs : w.heap.size ≤ (w.setCells g p (List.replicate k (.int .u8 (x.toNat : Int)))).heap.size := (below_scs (B := 0) (a := w) (g := g) (Nat.zero_le _) _ p (Below.refl 0 w)).size
  refine ⟨below_scs h.base _ _ h.below, h.base, Nat.lt_of_lt_of_le h.lt hs, fun j hj => ?_, fun j => by rw [World.frozen?_setCells]; exact h.free j, fun j hj => ?_⟩
  · by_cases hjp : p ≤ j ∧ j < p + k
    · obtain ⟨i, rfl⟩ : ∃ i, j = p + i := ⟨j - p, by omega⟩
      rw [World.cell?_setCells_in g _ p w hin i (by rw [List.length_replicate]; omega)]
      simp
    · rw [World.cell?_setCells_out g _ p w ⟨g, j, none⟩ (fun _ _ => by rw [List.length_replicate]; simp only; omega)]
      exact h.there j hj
  · by_cases hjp : j < p
    · rw [World.cell?_setCells_out g _ p w ⟨g, j, none⟩ (fun _ _ => .inl hjp)]
      exact h.have_ j hjp
    · obtain ⟨i, rfl⟩ : ∃ i, j = p + i := ⟨j - p, by omega⟩
      rw [World.cell?_setCells_in g _ p w hin i (by rw [List.length_replicate]; omega)]
      simp
theorem size1U8 : (Tryz.prog.info? 5).map (·.size) = some 1 := by kernel_rfl
set_option maxRecDepth 100000 in
set_option maxHeartbeats 2000000 in
theorem repeat_any (F : Nat → Prop) (A : Option Addr) (c : Nat) (x : UInt8) (n : Nat) (hn1 : 1 ≤ n) (hn : n ≤ 8192) (w : World) (h : Bs F w A 1 c [x]) :
    Calls Tryz.prog 73 #[.slice A 1 c, .int .i64 (n : Int)] w fun e w' => ∃ g, e = .returned (.slice (some ⟨g, 0, none⟩) n n) ∧ Bs (fun _ => True) w' (some ⟨g, 0, none⟩) n n (List.replicate n x) ∧ Below w.heap.size w w' := by
  obtain ⟨b, o, rfl, _, hbl, hx0⟩ := bs_at h (k := 0) (by simp)
  rw [Nat.add_zero] at hx0
  have hx0' : w.cell? ⟨b, o, none⟩ = some (.int .u8 (x.toNat : Int)) := hx0
  have hcap := h.2.1
  obtain ⟨cs, hrun, hle, hmax⟩ := Lib.run_makeNoZero (P := Tryz.prog) w #[3] 37 5 undBytes n (by omega)
  have hcall : (callFunc 93 #[.int .i64 (n : Int)]).run Tryz.prog w = .ok (.value (.slice (some ⟨w.heap.size, 0, none⟩) n cs.size)) (w.drew.drew.alloc (.cells cs 5)) := by
    rw [run_callFunc_extern Tryz.func93 (by kernel_rfl) (by kernel_rfl) (by kernel_rfl) (e := Extern.BytealgMakeNoZero.makeNoZero #[3] #[37]) (by kernel_rfl), hrun]
    rfl
  obtain ⟨g, hg⟩ : ∃ g, g = w.heap.size := ⟨_, rfl⟩
  obtain ⟨w1, hw1⟩ : ∃ w1, w1 = w.drew.drew.alloc (.cells cs 5) := ⟨_, rfl⟩
  have hb1 : Below w.heap.size w w1 := by rw [hw1]; exact ((Below.refl w.heap.size w).drew.drew).alloc (Nat.le_refl _) _
  have hgc : w1.heap[g]? = some (.cells cs 5 (0, 0)) := by rw [hw1, hg]; exact heap_alloc_new w.drew.drew _
  have HR0 := Lib.hid (show RpR w g n 0 x w1 from ⟨hb1, by omega, blk_lt hgc, fun j hj => by rw [Lib.cell_of_heap hgc]; simp; omega, fun j => Lib.frozen_of_heap hgc j, fun j hj => absurd hj (Nat.not_lt_zero j)⟩)
  rw [← hg, ← hw1] at hcall
  have HX := Lib.hid (kcell hb1 hx0')
  have i0 : (0 : Int) < (n : Int) := by omega
  have i1 : (n : Int) ≤ (cs.size : Int) := by omega
  have q0 : ((n : Int) == 0) = false := beq_no (by omega)
  have i2 : n < 18446744073709551616 := by omega
  have i3 : ¬ (8192 : Int) < (n : Int) := by omega
  have e1 : 1 * n / 18446744073709551616 = 0 := by omega
  have e2 : 1 * n % 18446744073709551616 = n := by omega
  have HG := Lib.hid hg; have HBL := Lib.hid hbl
  have HE1 := Lib.hid e1; have HE2 := Lib.hid e2
  have i4 : (0 : Int) ≤ (n : Int) := by omega
  clear h hx0 hx0' hw1 hb1 hgc hrun hmax e1 e2 hg hbl
  go_enter Tryz.func73, Tryz.ntmps73
  go_upto_region 17 with (first
    | (go_at_call 92; refine ((Tryz.bits_Mul 1 n (by decide) i2 _).mono (R' := fun e w' => e = _ ∧ w = w') fun e w' h => ⟨h.1, h.2.symm⟩).mono ?_; rintro e w2 ⟨rfl, rfl⟩; rw [HE1.out, HE2.out])
    | fail)
  have HR1 := Lib.hid (HR0.out.fill (k := 1) (by omega))
  have hmin : ([Value.int .u8 (x.toNat : Int)]).length = Nat.min 1 n := (Nat.min_eq_left hn1).symm
  have hsrc : ∀ j v, ([Value.int .u8 (x.toNat : Int)])[j]? = some v → w1.cell? ((⟨b, o, none⟩ : Addr).add j) = some v := fun j v hj => by
    match j, hj with
    | 0, hj => rw [add_lit]; simp at hj; rw [← hj]; exact HX.out
  have hthere : ∀ j, j < ([Value.int .u8 (x.toNat : Int)]).length → (w1.cell? ⟨g, 0 + j, none⟩).isSome = true := fun j hj => HR0.out.there _ (by simp at hj; omega)
  have hfree : ∀ j, j < ([Value.int .u8 (x.toNat : Int)]).length → w1.frozen? ⟨g, 0 + j, none⟩ = false := fun j _ => HR0.out.free _
  have hcp : (Builtin.copy_ #[37, 37] 3 #[.slice (some ⟨g, 0, none⟩) n n, .slice (some ⟨b, o, none⟩) 1 c]).run Tryz.prog w1 = .ok (.int .i64 1) (w1.setCells g 0 [.int .u8 (x.toNat : Int)]) :=
    run_copy_cells (P := Tryz.prog) w1 37 37 3 5 g 0 n n ⟨b, o, none⟩ 1 c [.int .u8 (x.toNat : Int)] undBytes size1U8 hmin hsrc hthere hfree (by simp [Value.oneCell'])
  go_wp2_with fail
  obtain ⟨w3, hw3⟩ : ∃ w3, w3 = w1.setCells g 0 [.int .u8 (x.toNat : Int)] := ⟨_, rfl⟩
  have hr3 : RpR w g n 1 x w3 := by rw [hw3]; have := HR1.out; simpa using this
  have HR3 := Lib.hid hr3
  try rw [← hw3]
  clear hw3 hr3 HR0 HR1 hmin hsrc hthere hfree hcall hle hcap hcp
  go_loopw [10] (fun pv wr => ∃ p : Nat, 1 ≤ p ∧ p ≤ n ∧ pv = .int .i64 (p : Int) ∧ RpR w g n p x wr) (fun pv _ => n - (intOf pv).toNat)
  case atStart => exact ⟨1, Nat.le_refl _, hn1, rfl, HR3.out⟩
  case round =>
    obtain ⟨p, hp1, hpn, rfl, hr⟩ := hrel
    have HR := Lib.hid hr
    clear hr
    by_cases hlt : p < n
    · obtain ⟨k, hk⟩ : ∃ k, k = min p (n - p) := ⟨_, rfl⟩
      have hk1 : 1 ≤ k ∧ k ≤ p ∧ p + k ≤ n := by omega
      have z0 : (0 : Int) ≤ (p : Int) := by omega
      have z1 : (p : Int) < (n : Int) := by omega
      have z2 : (p : Int) ≤ (n : Int) := by omega
      have zne : ¬ n = p := by omega
      have zm : min (p : Int) (n : Int) = (p : Int) := by omega
      have hlen : (List.replicate k (Value.int .u8 (x.toNat : Int))).length = Nat.min p (n - p) := by rw [List.length_replicate, hk]
      have hsrc : ∀ j v, (List.replicate k (Value.int .u8 (x.toNat : Int)))[j]? = some v → wr.drew.cell? ((⟨g, 0, none⟩ : Addr).add j) = some v := fun j v hj => by
        rw [add_lit, Nat.zero_add]
        have hjk : j < k := by
          rcases Nat.lt_or_ge j k with h | h
          · exact h
          · rw [List.getElem?_eq_none (by rw [List.length_replicate]; exact h)] at hj; cases hj
        rw [List.getElem?_replicate, if_pos hjk] at hj
        rw [← Option.some.inj hj]
        exact HR.out.have_ j (by omega)
      have hthere : ∀ j, j < (List.replicate k (Value.int .u8 (x.toNat : Int))).length → (wr.drew.cell? ⟨g, p + j, none⟩).isSome = true := fun j hj => HR.out.there _ (by rw [List.length_replicate] at hj; omega)
      have hfree : ∀ j, j < (List.replicate k (Value.int .u8 (x.toNat : Int))).length → wr.drew.frozen? ⟨g, p + j, none⟩ = false := fun j _ => HR.out.free _
      have hone : ∀ v ∈ List.replicate k (Value.int .u8 (x.toNat : Int)), v.oneCell' = true := fun v hv => by rw [(List.mem_replicate.1 hv).2]; rfl
      have HF := Lib.hid ((show RpR w g n p x wr.drew from ⟨HR.out.below.drew, HR.out.base, HR.out.lt, HR.out.there, HR.out.free, HR.out.have_⟩).fill (k := k) hk1.2.2)
      have HK1 := Lib.hid hk1
      have HLR := Lib.hid (show ((List.replicate k (Value.int .u8 (x.toNat : Int))).length : Int) = (k : Int) by rw [List.length_replicate])
      have HWR := Lib.hid (show IntKind.i64.wrap ((p : Int) + (k : Int)) = (p : Int) + (k : Int) by rw [IntKind.wrap_i64]; omega)
      clear hk hk1
      go_upto_region 20 with fail
      go_region_law (first
        | (refine step_cp wr.drew rfl (.tmp 70) (.tmp 73) rfl undBytes size1U8 g p (n - p) (n - p) ⟨g, 0, none⟩ p n (List.replicate k (.int .u8 (x.toNat : Int))) (by simp only [Act.put, List.getElem_toArray, List.getElem_cons_succ, List.getElem_cons_zero, List.setIfInBounds_toArray, List.set_cons_succ, List.set_cons_zero]; rfl) (by simp only [Act.put, List.getElem_toArray, List.getElem_cons_succ, List.getElem_cons_zero, List.setIfInBounds_toArray, List.set_cons_succ, List.set_cons_zero]; rfl) hlen hsrc hthere hfree hone ?_; rw [HLR.out])
        | fail)
      (try simp only [Act.put, List.getElem_toArray, List.getElem_cons_succ, List.getElem_cons_zero, List.setIfInBounds_toArray, List.set_cons_succ, List.set_cons_zero])
      rw [HWR.out]
      go_wp2_with fail
      go_roundw
      case rel => exact ⟨p + k, by omega, by have := HK1.out; omega, by go_num, HF.out⟩
      case measure => have := HK1.out; simp [intOf]; omega
    · obtain rfl : p = n := by omega
      go_wp2_with fail
      go_ret
      refine ⟨g, rfl, bs_mk (fun _ => ⟨g, 0, rfl, trivial, HR.out.lt, fun j u hu => ?_⟩) (by rw [List.length_replicate]) (Nat.le_refl _) (by unfold maxLen; omega), HR.out.below⟩
      rw [Nat.zero_add]
      have hj : j < p := by
        rcases Nat.lt_or_ge j p with h | h
        · exact h
        · rw [List.getElem?_eq_none (by rw [bvs_length, List.length_replicate]; exact h)] at hu; cases hu
      rw [bvs_get _ _ (by rw [List.length_replicate]; exact hj), List.getElem_replicate] at hu
      rw [← Option.some.inj hu]
      exact HR.out.have_ j hj
end Go.Proofs.YticfmphbhdkhoaaGreatDoor
namespace Go.Proofs.YticfmphbhdkhoaaGreatDoor
open Go Go.RowKit Go.Shelf BigFrame
attribute [local go_sem] Oper.semAt_some

def rnEnc (x : Rn) : Array Value := #[.int .u8 (x.c.toNat : Int), .int .i64 (x.n : Int)]
/-- What a round keeps: the box of what is left; what lay there at first. -/
def KpB (b0 bb : Nat) (W W' : World) : Prop := W'.heap[bb]? = W.heap[bb]? ∧ (∀ b, b < b0 → W'.heap[b]? = W.heap[b]?) ∧ W.heap.size ≤ W'.heap.size
theorem KpB.trans {b0 bb : Nat} {A B C : World} (h : KpB b0 bb A B) (k : KpB b0 bb B C) : KpB b0 bb A C := ⟨k.1.trans h.1, fun b hb => (k.2.1 b hb).trans (h.2.1 b hb), Nat.le_trans h.2.2 k.2.2⟩
theorem KpB.put {b0 bb : Nat} {w : World} (h0 : b0 ≤ w.heap.size) (h1 : bb < w.heap.size) (W : World) (l : Nat) (o : Obj) (hl : w.heap.size ≤ l) : KpB b0 bb W (W.putObj l o) :=
  ⟨World.putObj_heap_other (by omega), fun b hb => World.putObj_heap_other (by omega), by simp⟩
theorem bs_keepB {b0 bb : Nat} {W W' : World} {A : Option Addr} {n c : Nat} {l : List UInt8} (h : Bs (fun b => b < b0) W A n c l) (k : KpB b0 bb W W') : Bs (fun b => b < b0) W' A n c l := h.keep k.2.2 fun b hb _ => k.2.1 b hb
theorem drewNN (w : World) (a b : Nat) : (w.drewN a).drewN b = w.drewN (a + b) := by unfold World.drewN; simp [Nat.add_assoc]
theorem headD_get (l : List UInt8) (h : 0 < l.length) : l.headD 0 = l[0] := by
  cases l with
  | nil => simp at h
  | cons a r => rfl
set_option maxRecDepth 100000 in
set_option maxHeartbeats 4000000 in
theorem runs1_in (n : Nat) (hn : 1 ≤ n) (l b0 bb : Nat) (hbb : b0 ≤ bb) (A : Option Addr) (m c : Nat) (bs : List UInt8) (J : List Rn → World → Prop) (hJd : ∀ pre W1 k, J pre W1 → J pre (W1.drewN k)) (hJs : ∀ pre W1 v, J pre W1 → J pre (W1.setCell ⟨bb, 0, none⟩ v))
    (hY : ∀ pre x W1, J pre W1 → pre.length < bs.length → YieldAt Fence.wide (n - 1) Tryz.prog l (rnEnc x) W1 fun e W' => e = .returned (.bool true) ∧ J (pre ++ [x]) W' ∧ KpB b0 bb W1 W')
    (W : World) (hA : W.heap[bb]? = some (.cells #[.slice A m c] 37 (0, 0))) (hs : Bs (fun b => b < b0) W A m c bs) (h0 : J [] W) :
    CallsIn Fence.wide n Tryz.prog 91 #[.func (.yield l) #[] #[], .pointer (some ⟨bb, 0, none⟩)] W fun e W' => (∃ v, e = .returned v) ∧ ∃ xs, xs = rnL bs ∧ J xs W' := by
  have HRL := Lib.hid (rnL_len bs)
  have HA := Lib.hid hA; have HS := Lib.hid hs
  clear hA hs
  refine callsIn_of_wp Tryz.func91 rfl trivial ?_ rfl
  simp only [Tryz.ntmps91, List.size_toArray, List.length_cons, List.length_nil, Nat.reduceAdd, Nat.reduceSub, Array.replicate_succ, Array.replicate_zero, List.push_toArray, List.append_toArray, List.nil_append, List.cons_append]
  gi_wp2
  gi_loopw [3] (fun _ wr => ∃ (pre : List Rn) (rest : List UInt8) (A2 : Option Addr) (m2 c2 : Nat), pre ++ rnL rest = rnL bs ∧ m2 ≤ m ∧ wr.heap[bb]? = some (.cells #[.slice A2 m2 c2] 37 (0, 0)) ∧ Bs (fun b => b < b0) wr A2 m2 c2 rest ∧ J pre wr)
    (fun _ wr => lenV ((wr.cell? ⟨bb, 0, none⟩).getD undef))
  case atStart => exact ⟨[], bs, A, m, c, rfl, Nat.le_refl _, HA.out, HS.out, h0⟩
  case round =>
    obtain ⟨pre, rest, A2, m2, c2, hpr, hm2, hbox, hbs, hJp⟩ := hrel
    have HPR := Lib.hid hpr; have HBOX := Lib.hid hbox; have HBS := Lib.hid hbs; have HJP := Lib.hid hJp
    have q0 : wr.cell? ⟨bb, 0, none⟩ = some (.slice A2 m2 c2) := by rw [Lib.cell_of_heap hbox]; rfl
    have HQ0 := Lib.hid q0
    have hlen := hbs.len
    clear hpr hbox hbs hJp
    by_cases hz : m2 = 0
    · obtain rfl : rest = [] := List.length_eq_zero_iff.1 (by omega)
      subst hz
      clear hlen
      gi_wp2
      go_end0
      exact ⟨⟨_, rfl⟩, _, by rw [← HPR.out, rnL_nil, List.append_nil], HJP.out⟩
    · have hne : rest ≠ [] := fun e => by rw [e] at hlen; simp at hlen; omega
      have hmp : (0 : Int) < (m2 : Int) := by omega
      have hmn : 0 < m2 := by omega
      have hmd : decide (0 < m2) = true := decide_eq_true hmn
      have HNE := Lib.hid hne
      have HLEN := Lib.hid hlen
      have hc2 := HBS.out.2.1
      have hc3 := HBS.out.2.2.1
      unfold maxLen at hc3
      clear hlen hne
      obtain ⟨ch, hch⟩ : ∃ ch, ch = rest.headD 0 := ⟨_, rfl⟩
      obtain ⟨b, o, hA2, hbb0, hbl, _⟩ := bs_at HBS.out (k := 0) (by have := HLEN.out; omega)
      subst hA2
      have HCELL : Hid (∀ W' : World, (∀ b, b < b0 → W'.heap[b]? = wr.heap[b]?) → ∀ j (hj : j < rest.length), W'.cell? ⟨b, o + j, none⟩ = some (.int .u8 ((rest[j].toNat : Nat) : Int))) := Lib.hid (fun (W' : World) (hW' : ∀ b, b < b0 → W'.heap[b]? = wr.heap[b]?) (j : Nat) (hj : j < rest.length) => by
        obtain ⟨b', o', he, _, _, hc⟩ := bs_at HBS.out hj
        injection he with he; injection he with e1 e2 _
        subst e1 e2
        exact (World.cell?_of_block (a := ⟨b, o + j, none⟩) (hW' b hbb0)).trans hc)
      have hch0 : rest[0]'(by have := HLEN.out; omega) = ch := by rw [hch]; exact (headD_get _ _).symm
      have HCH0 := Lib.hid hch0
      have HCH := Lib.hid hch
      clear hch hch0
      gi_wp2
      obtain ⟨wo, rfl⟩ : ∃ wo, wo = wr := ⟨wr, rfl⟩
      gi_loopw [3] (fun nv wq => ∃ (j k : Nat), 1 ≤ j ∧ j ≤ m2 ∧ j ≤ 130 ∧ nv = .int .i64 (j : Int) ∧ wq = wo.drewN k ∧ ∀ i, i < j → rest[i]? = some ch)
        (fun nv _ => m2 - (intOf nv).toNat)
      case atStart => exact ⟨1, 0, Nat.le_refl _, by omega, by omega, rfl, rfl, fun i hi => by rw [show i = 0 by omega, List.getElem?_eq_getElem (by have := HLEN.out; omega), HCH0.out]⟩
      case round =>
        obtain ⟨j, k, hj1, hjm, hj130, rfl, hwq, hall⟩ := hrel
        have HALL := Lib.hid hall
        clear hall
        subst hwq
        have hq : wo.cell? ⟨bb, 0, none⟩ = some (.slice (some ⟨b, o, none⟩) m2 c2) := HQ0.out
        have k0 : wo.cell? ⟨b, o, none⟩ = some (.int .u8 ((ch.toNat : Nat) : Int)) := by
          have := HCELL.out wo (fun _ _ => rfl) 0 (by have := HLEN.out; omega)
          rw [HCH0.out, Nat.add_zero] at this
          exact this
        have i0 : (0 : Int) ≤ (j : Int) := by omega
        obtain ⟨bq, hbq⟩ : ∃ bq : Bool, bq = (decide (j < m2) && decide (j < 130) && (rest.getD j 0 == ch)) := ⟨_, rfl⟩
        have HBQ := Lib.hid hbq
        clear hbq
        gi_upto_region 2 with fail
        gi_cut [24, 27, 28, 29, 30, 31, 32, 33, 34, 35, 36] from 7 (fun v v27 v28 v29 v30 v31 v32 v33 v34 v35 v36 wx => v = .bool bq ∧ (v27 = u27 ∧ v28 = u28 ∧ v29 = u29 ∧ v30 = u30 ∧ v31 = u31 ∧ v32 = u32 ∧ v33 = u33 ∧ v34 = u34 ∧ v35 = u35 ∧ v36 = u36) ∧ ∃ k', wx = wo.drewN k')
        case first =>
          by_cases h1 : j < m2
          · have z1 : (j : Int) < (m2 : Int) := by omega
            have d1 : decide ((j : Int) < (m2 : Int)) = true := decide_eq_true z1
            by_cases h2 : j < 130
            · have z2 : (j : Int) < 130 := by omega
              have d2 : decide ((j : Int) < 130) = true := decide_eq_true z2
              have hjl : j < rest.length := by rw [← HLEN.out]; exact h1
              obtain ⟨x, hx⟩ : ∃ x, x = rest[j] := ⟨_, rfl⟩
              have kj := HCELL.out wo (fun _ _ => rfl) j hjl
              rw [← hx] at kj
              have HBQ2 := Lib.hid (show bq = (x == ch) by rw [HBQ.out, decide_eq_true h1, decide_eq_true h2, List.getD_eq_getElem?_getD, List.getElem?_eq_getElem hjl, hx]; rfl)
              by_cases hxc : x = ch
              · have z3 : (((x.toNat : Nat) : Int) == ((ch.toNat : Nat) : Int)) = true := beq_yes (by rw [hxc])
                have HB3 := Lib.hid (show bq = true by rw [HBQ2.out, hxc]; exact beq_self_eq_true ch)
                clear hx hxc h1 h2
                gi_big_quiet_th (fail)
                gi_wp2
                gi_meet
                case rel => exact ⟨by rw [HB3.out], ⟨rfl, rfl, rfl, rfl, rfl, rfl, rfl, rfl, rfl, rfl⟩, k + nq, by first | rfl | exact drewNN _ _ _⟩
              · have z3 : (((x.toNat : Nat) : Int) == ((ch.toNat : Nat) : Int)) = false := beq_no (fun e => hxc (UInt8.toNat_inj.1 (by omega)))
                have HB3 := Lib.hid (show bq = false by rw [HBQ2.out]; simpa using hxc)
                clear hx hxc h1 h2
                gi_big_quiet_th (fail)
                gi_wp2
                gi_meet
                case rel => exact ⟨by rw [HB3.out], ⟨rfl, rfl, rfl, rfl, rfl, rfl, rfl, rfl, rfl, rfl⟩, k + nq, by first | rfl | exact drewNN _ _ _⟩
            · have z2 : ¬ (j : Int) < 130 := by omega
              have d2 : decide ((j : Int) < 130) = false := decide_eq_false z2
              have HB3 := Lib.hid (show bq = false by rw [HBQ.out, decide_eq_false h2, Bool.and_false, Bool.false_and])
              clear h1 h2
              gi_big_quiet_th (fail)
              gi_wp2
              gi_meet
              case rel => exact ⟨by rw [HB3.out], ⟨rfl, rfl, rfl, rfl, rfl, rfl, rfl, rfl, rfl, rfl⟩, k + nq, by first | rfl | exact drewNN _ _ _⟩
          · have z1 : ¬ (j : Int) < (m2 : Int) := by omega
            have d1 : decide ((j : Int) < (m2 : Int)) = false := decide_eq_false z1
            have HB3 := Lib.hid (show bq = false by rw [HBQ.out, decide_eq_false h1, Bool.false_and, Bool.false_and])
            clear h1
            gi_big_quiet_th (fail)
            gi_wp2
            gi_meet
            case rel => exact ⟨by rw [HB3.out], ⟨rfl, rfl, rfl, rfl, rfl, rfl, rfl, rfl, rfl, rfl⟩, k + nq, by first | rfl | exact drewNN _ _ _⟩
        case rest =>
          obtain ⟨rfl, ⟨rfl, rfl, rfl, rfl, rfl, rfl, rfl, rfl, rfl, rfl⟩, k', hwc⟩ := hcut
          subst hwc
          cases bq with
          | true =>
            have hb := HBQ.out.symm
            simp only [Bool.and_eq_true, decide_eq_true_eq, beq_iff_eq] at hb
            obtain ⟨⟨h1, h2⟩, h3⟩ := hb
            have hjl : j < rest.length := by rw [← HLEN.out]; exact h1
            have HALL2 := Lib.hid (show ∀ i, i < j + 1 → rest[i]? = some ch from fun i hi => by
              by_cases h : i < j
              · exact HALL.out i h
              · obtain rfl : i = j := by omega
                rw [List.getD_eq_getElem?_getD, List.getElem?_eq_getElem hjl] at h3
                rw [List.getElem?_eq_getElem hjl, ← h3]; rfl)
            clear h3
            gi_wp2
            go_roundw
            case rel => exact ⟨j + 1, k', by omega, by omega, by omega, by go_num, rfl, HALL2.out⟩
            case measure => simp [intOf]; omega
          | false =>
            have HSTOP := Lib.hid (show bsame rest = j from bsame_stop hj1 (by rw [← HLEN.out]; exact hjm) hj130 (fun i hi => by rw [HALL.out i hi, HCH.out]) (by
              rcases Nat.lt_or_ge j rest.length with h | h
              · rcases Nat.lt_or_ge j 130 with h' | h'
                · right; right
                  refine ⟨h, fun e => ?_⟩
                  have := HBQ.out
                  rw [decide_eq_true (by rw [HLEN.out]; exact h), decide_eq_true h', List.getD_eq_getElem?_getD, List.getElem?_eq_getElem h] at this
                  simp only [Bool.and_self, Bool.true_and, Option.getD_some] at this
                  rw [e, ← HCH.out, beq_self_eq_true] at this
                  cases this
                · left; omega
              · right; left; have := HLEN.out; omega))
            obtain ⟨x, hx⟩ : ∃ x : Rn, x = ⟨ch, j, hj1, hj130⟩ := ⟨_, rfl⟩
            have hpl : pre.length < bs.length := by
              have h1 := congrArg List.length HPR.out
              have h2 := HRL.out
              rw [rnL_cons HNE.out, List.length_append, List.length_cons] at h1
              omega
            obtain ⟨fn, tmps, assign, body, hy, hR⟩ := hY pre x (wo.drewN k') (hJd _ _ _ HJP.out) hpl
            have hxe : rnEnc x = #[.int .u8 ((ch.toNat : Nat) : Int), .int .i64 (j : Int)] := by rw [hx]; rfl
            rw [hxe] at hy
            have HXR := Lib.hid (show pre ++ [x] ++ rnL (rest.drop j) = rnL bs by
              rw [← HPR.out, rnL_cons HNE.out, List.append_assoc, List.singleton_append, HSTOP.out]
              congr 2
              rw [hx]
              unfold rnOf
              simp only [Rn.mk.injEq]
              exact ⟨HCH.out, HSTOP.out.symm⟩)
            clear hx hxe hpl
            gi_wp2
            refine hR.mono ?_
            rintro e W3 ⟨rfl, hJ3, hk3⟩
            have hbox3 : W3.heap[bb]? = some (.cells #[.slice (some ⟨b, o, none⟩) m2 c2] 37 (0, 0)) := hk3.1.trans HBOX.out
            have hbs3 : Bs (fun b => b < b0) W3 (some ⟨b, o, none⟩) m2 c2 rest := bs_keepB (HBS.out.drewN k') hk3
            have q3 : W3.cell? ⟨bb, 0, none⟩ = some (.slice (some ⟨b, o, none⟩) m2 c2) := by rw [Lib.cell_of_heap hbox3]; rfl
            have f3 := Lib.frozen_of_heap hbox3 0
            have HJ3 := Lib.hid hJ3; have HBOX3 := Lib.hid hbox3
            have hc := hbs3.cut (lo := j) (hi := m2) hjm (Nat.le_refl _)
            rw [List.take_of_length_le (by rw [← HLEN.out]; exact Nat.le_refl _)] at hc
            have hc2' : Bs (fun b => b < b0) W3 (if c2 = j then some ⟨b, o, none⟩ else some ⟨b, o + j, none⟩) (m2 - j) (c2 - j) (rest.drop j) := by
              simpa [Addr.add, show tU8.size = 1 from rfl, show ¬ j = 0 by omega] using hc
            have HC2 := Lib.hid hc2'
            have i1 : (j : Int) ≤ (m2 : Int) := by omega
            have i2 : (j : Int) ≤ (c2 : Int) := by omega
            have i3 : (m2 : Int) ≤ (c2 : Int) := by omega
            clear hJ3 hbox3 hbs3 hc hc2' hk3
            by_cases hcj : c2 = j
            · rw [if_pos hcj, show c2 - j = 0 by omega] at HC2
              gi_wp2
              go_roundw
              case rel =>
                exact ⟨pre ++ [x], rest.drop j, (some ⟨b, o, none⟩), m2 - j, 0, HXR.out, by omega, heap_set HBOX3.out rfl, Sl.setCell HC2.out (p := ⟨bb, 0, none⟩) (fun h => Nat.lt_irrefl _ (Nat.lt_of_lt_of_le h hbb)) _, hJs _ _ _ HJ3.out⟩
              case measure =>
                have e1 : (W3.setCell ⟨bb, 0, none⟩ (.slice (some ⟨b, o, none⟩) (m2 - j) 0)).cell? ⟨bb, 0, none⟩ = some (.slice (some ⟨b, o, none⟩) (m2 - j) 0) := by rw [Lib.cell_of_heap (heap_set HBOX3.out rfl)]; rfl
                simp only [e1, HQ0.out, Option.getD_some, lenV]
                omega
            · rw [if_neg hcj] at HC2
              gi_wp2
              go_roundw
              case rel =>
                exact ⟨pre ++ [x], rest.drop j, (some ⟨b, o + j, none⟩), m2 - j, (c2 - j), HXR.out, by omega, heap_set HBOX3.out rfl, Sl.setCell HC2.out (p := ⟨bb, 0, none⟩) (fun h => Nat.lt_irrefl _ (Nat.lt_of_lt_of_le h hbb)) _, hJs _ _ _ HJ3.out⟩
              case measure =>
                have e1 : (W3.setCell ⟨bb, 0, none⟩ (.slice (some ⟨b, o + j, none⟩) (m2 - j) (c2 - j))).cell? ⟨bb, 0, none⟩ = some (.slice (some ⟨b, o + j, none⟩) (m2 - j) (c2 - j)) := by rw [Lib.cell_of_heap (heap_set HBOX3.out rfl)]; rfl
                simp only [e1, HQ0.out, Option.getD_some, lenV]
                omega
theorem runs_in (n : Nat) (A : Option Addr) (m c : Nat) (w : World) :
    CallsIn Fence.wide n Tryz.prog 72 #[.slice A m c] w fun e w' => e = .returned (.func (.func 91) #[] #[.pointer (some ⟨w.heap.size, 0, none⟩)]) ∧ w' = w.alloc (.cells #[.slice A m c] 37) := by
  refine callsIn_of_wp Tryz.func72 rfl trivial ?_ rfl
  simp only [Tryz.ntmps72, List.size_toArray, List.length_cons, List.length_nil, Nat.reduceAdd, Nat.reduceSub, Array.replicate_succ, Array.replicate_zero, List.push_toArray, List.append_toArray, List.nil_append, List.cons_append]
  gi_wp2
  go_ret
  exact ⟨rfl, rfl⟩
theorem runs_st (n : Nat) (hn : 1 ≤ n) (b0 bb : Nat) (hbb : b0 ≤ bb) (A : Option Addr) (m c : Nat) (bs : List UInt8) (w : World) (hA : w.heap[bb]? = some (.cells #[.slice A m c] 37 (0, 0))) (hs : Bs (fun b => b < b0) w A m c bs) :
    SeqSt Fence.wide n Tryz.prog 91 #[.pointer (some ⟨bb, 0, none⟩)] rnEnc bb (KpB b0 bb) (fun xs => xs = rnL bs) bs.length w := fun l J W hW hJd hJs hY h0 =>
  runs1_in n hn l b0 bb hbb A m c bs J hJd hJs hY W ((hW.block bb (blk_lt hA)).trans hA) (hs.below hW (Nat.le_refl _)) h0
end Go.Proofs.YticfmphbhdkhoaaGreatDoor
namespace Go.Proofs.YticfmphbhdkhoaaGreatDoor
open Go Go.RowKit

/-- The bytes l, somewhere in a row of the call's own; behind them room up to c. -/
structure MidB (w : World) (B : Nat) (A : Option Addr) (n c : Nat) (l : List UInt8) : Prop where
  len : n = l.length
  cap : n ≤ c
  max : c ≤ maxLen
  row : c = 0 ∨ ∃ g o cur, A = some ⟨g, o, none⟩ ∧ B ≤ g ∧ w.heap[g]? = some (.cells cur 5 (0, 0)) ∧ o + c ≤ cur.size ∧ ∀ j (h : j < l.length), cur[o + j]? = some (.int .u8 ((l[j].toNat : Nat) : Int))
/-- The block that an append may write. -/
def blkM (A : Option Addr) (c : Nat) : Option Nat := if c = 0 then none else A.map (·.block)
theorem MidB.nil_ (w : World) (B : Nat) : MidB w B none 0 0 [] := ⟨rfl, Nat.le_refl _, by simp [maxLen], .inl rfl⟩
theorem MidB.blk {w : World} {B : Nat} {A : Option Addr} {n c : Nat} {l : List UInt8} (h : MidB w B A n c l) {g : Nat} (hg : blkM A c = some g) : B ≤ g ∧ g < w.heap.size ∧ ∃ cur, w.heap[g]? = some (.cells cur 5 (0, 0)) := by
  unfold blkM at hg
  split at hg
  · cases hg
  · rename_i hc
    rcases h.row with h0 | ⟨g', o, cur, rfl, h2, h3, _⟩
    · exact absurd h0 hc
    · injection hg with hg
      subst hg
      exact ⟨h2, blk_lt h3, cur, h3⟩
theorem MidB.keep {w w' : World} {B : Nat} {A : Option Addr} {n c : Nat} {l : List UInt8} (h : MidB w B A n c l) (hk : ∀ g, blkM A c = some g → w'.heap[g]? = w.heap[g]?) : MidB w' B A n c l := by
  refine ⟨h.len, h.cap, h.max, ?_⟩
  rcases h.row with h0 | ⟨g, o, cur, rfl, h2, h3, h4, h5⟩
  · exact .inl h0
  · by_cases hc : c = 0
    · exact .inl hc
    · exact .inr ⟨g, o, cur, rfl, h2, (hk g (by unfold blkM; rw [if_neg hc]; rfl)).trans h3, h4, h5⟩
theorem MidB.bs {w : World} {B : Nat} {A : Option Addr} {n c : Nat} {l : List UInt8} (h : MidB w B A n c l) : Bs (fun b => blkM A c = some b) w A n c l := by
  refine bs_mk (fun hne => ?_) h.len h.cap h.max
  rcases h.row with h0 | ⟨g, o, cur, rfl, h2, h3, h4, h5⟩
  · have := h.len
    have h1 := h.cap
    exact absurd (List.length_eq_zero_iff.1 (by rw [bvs_length]; omega)) hne
  · have hc : c ≠ 0 := fun h0 => by
      have := h.len
      have h1 := h.cap
      exact absurd (List.length_eq_zero_iff.1 (by rw [bvs_length]; omega)) hne
    refine ⟨g, o, rfl, by unfold blkM; rw [if_neg hc]; rfl, blk_lt h3, fun j u hu => ?_⟩
    have hj : j < l.length := by
      rcases Nat.lt_or_ge j l.length with h | h
      · exact h
      · rw [List.getElem?_eq_none (by rw [bvs_length]; exact h)] at hu; cases hu
    rw [bvs_get l j hj] at hu
    rw [Lib.cell_of_heap h3, h5 j hj, hu]
theorem MidB.of_own {w : World} {B : Nat} {A : Option Addr} {n c : Nat} {l : List UInt8} (h : OwnB w B A n c l) : MidB w B A n c l := by
  refine ⟨h.len, (own_cap h).1, (own_cap h).2, ?_⟩
  rcases h.2 with ⟨h1, _⟩ | ⟨g, cap, cur, h1, hb, hg, hn, hcm, hsz, ht⟩
  · injection h1 with _ _ h3
    exact .inl h3
  · injection h1 with e1 _ e3
    subst e1 e3
    refine .inr ⟨g, 0, cur, rfl, hb, hg, by omega, fun j hj => ?_⟩
    have h4 := h.cells (g := g) rfl j _ (bvs_get l j hj)
    rw [add_lit, Lib.cell_of_heap hg] at h4
    exact h4
theorem heap_scs_ne {g b : Nat} (hne : b ≠ g) : ∀ (vs : List Value) (q : Nat) (w : World), (w.setCells g q vs).heap[b]? = w.heap[b]?
  | [], _, _ => rfl
  | v :: r, q, w => (heap_scs_ne hne r (q + 1) _).trans (Below.heap_setCell w ⟨g, q, none⟩ v b hne)
theorem heap_scs {g : Nat} {t : TypeId} {fr : Nat × Nat} : ∀ (vs : List Value) (q : Nat) (w : World) (cur : Array Value), w.heap[g]? = some (.cells cur t fr) → ∃ cur', (w.setCells g q vs).heap[g]? = some (.cells cur' t fr) ∧ cur'.size = cur.size ∧
    (∀ j, j < q ∨ q + vs.length ≤ j → cur'[j]? = cur[j]?) ∧ ∀ j (h : j < vs.length), q + j < cur.size → cur'[q + j]? = some vs[j]
  | [], q, w, cur, h => ⟨cur, h, rfl, fun _ _ => rfl, fun j hj => by simp at hj⟩
  | v :: r, q, w, cur, h => by
    obtain ⟨cur', h1, h2, h3, h4⟩ := heap_scs r (q + 1) (w.setCell ⟨g, q, none⟩ v) (cur.setIfInBounds q v) (heap_set h rfl)
    refine ⟨cur', h1, by rw [h2, Array.size_setIfInBounds], fun j hj => ?_, fun j hj hjs => ?_⟩
    · rw [List.length_cons] at hj
      rw [h3 j (by omega), Array.getElem?_setIfInBounds_ne (by omega)]
    · cases j with
      | zero =>
        rw [h3 (q + 0) (by omega), Nat.add_zero, Array.getElem?_setIfInBounds_self_of_lt (by simpa using hjs)]
        rfl
      | succ i =>
        have := h4 i (by simpa using hj) (by rw [Array.size_setIfInBounds]; omega)
        rw [show q + (i + 1) = q + 1 + i by omega, this]
        rfl
theorem grown_scs (w : World) (g q : Nat) (vs : List Value) : w.grownBy (w.setCells g q vs) (some g) := by
  have hb := below_scs (B := 0) (g := g) (a := w) (Nat.zero_le _) vs q (Below.refl 0 w)
  exact ⟨hb.os, hb.tape, hb.output, hb.size, fun k _ hk => heap_scs_ne (fun e => hk (by rw [e])) vs q w⟩
theorem grown_weak {w w' : World} (h : w.grownBy w' none) (row : Option Nat) : w.grownBy w' row := ⟨h.os, h.tape, h.output, h.size, fun k hk _ => h.block k hk (by simp)⟩
theorem bytes_fit {k : Nat} (h : k ≤ 68719476736) : k ≤ maxLen ∧ k * 1 ≤ 140737488355328 := by unfold maxLen; omega
/-- append(l, ys...) where l lies in the midst of a row. -/
theorem mid_append (w : World) (B : Nat) (A : Option Addr) (n c : Nat) (l : List UInt8) (h : MidB w B A n c l) (hB : B ≤ w.heap.size) (ty : TypeId) (F : Nat → Prop) (ad : Addr) (m c2 : Nat) (ys : List UInt8) (hs : Bs F w (some ad) m c2 ys) (hm : 1 ≤ m) (hlim : n + m ≤ 68719476736) :
    ∃ A' c' w', (Builtin.append_ #[37, 37] ty #[.slice A n c, .slice (some ad) m c2]).run Tryz.prog w = .ok (.slice A' (n + m) c') w' ∧ MidB w' B A' (n + m) c' (l ++ ys) ∧ w.grownBy w' (blkM A c) ∧ (blkM A' c' = blkM A c ∨ ∀ g, blkM A' c' = some g → w.heap.size ≤ g) := by
  obtain ⟨i, hi, h0, h1, h2⟩ := info_parts infoByte
  have hne : ys ≠ [] := fun e => by have := hs.len; rw [e] at this; simp at this; omega
  have hnews : ∀ j u, (bvs ys)[j]? = some u → w.cell? (ad.add j) = some u := (bs_rd hs).news rfl
  have hl : (bvs ys).length = m * 1 := by rw [bvs_length, Nat.mul_one]; exact hs.len.symm
  have hfit := bytes_fit hlim
  -- a row of its own
  have grow : ∀ v' w', w'.ownsRow w.heap.size 5 1 v' (n + m) (bvs l ++ bvs ys) → w.grownBy w' none → ∃ A' c', v' = .slice A' (n + m) c' ∧ MidB w' B A' (n + m) c' (l ++ ys) ∧ (blkM A' c' = blkM A c ∨ ∀ g, blkM A' c' = some g → w.heap.size ≤ g) := fun v' w' ho hg => by
    rw [← bvs_append] at ho
    rcases ho.2 with ⟨_, hz⟩ | ⟨g, cap, cur, rfl, hb, hgc, hn, hcm, hsz, ht⟩
    · omega
    · have hm2 : MidB w' w.heap.size (some ⟨g, 0, none⟩) (n + m) cap (l ++ ys) := MidB.of_own (show OwnB w' w.heap.size (some ⟨g, 0, none⟩) (n + m) cap (l ++ ys) from ho)
      refine ⟨_, cap, rfl, ⟨hm2.len, hm2.cap, hm2.max, ?_⟩, ?_⟩
      · rcases hm2.row with hc | ⟨g', o, cur', e, k2, k3⟩
        · exact .inl hc
        · exact .inr ⟨g', o, cur', e, by omega, k3⟩
      · refine .inr fun g' hg' => ?_
        have := hm2.blk hg'
        omega
  by_cases hroom : n + m ≤ c
  · rcases h.row with hc | ⟨g, o, cur, rfl, k2, k3, k4, k5⟩
    · omega
    · have hcell : ∀ j, j < c → (w.cell? ⟨g, o + j, none⟩).isSome = true := fun j hj => by
        rw [Lib.cell_of_heap k3, Array.getElem?_eq_getElem (by omega)]; rfl
      have hln := h.len
      obtain ⟨cur', q1, q2, q3, q4⟩ := heap_scs (bvs ys) (o + n * i.size) w cur k3
      rw [h1, Nat.mul_one] at q1 q3 q4
      refine ⟨some ⟨g, o, none⟩, c, w.setCells g (o + n) (bvs ys), ?_, ⟨?_, hroom, h.max, .inr ⟨g, o, cur', rfl, k2, q1, by omega, fun j hj => ?_⟩⟩, ?_, .inl rfl⟩
      · have := run_append_room_cells (P := Tryz.prog) w 37 ty 5 i undBytes hi g o n c ad m c2 (bvs ys) (by rw [hl, h1]) hnews (bvs_one ys) hroom
          (fun j hj => by rw [h1, Nat.mul_one, Nat.add_assoc]; exact hcell _ (by rw [hl] at hj; omega)) (fun j _ => Lib.frozen_of_heap k3 _)
        rw [h1, Nat.mul_one] at this
        exact this
      · rw [List.length_append, ← hln, ← hs.len]
      · by_cases hjl : j < l.length
        · rw [q3 (o + j) (by omega), k5 j hjl, List.getElem_append_left hjl]
        · obtain ⟨p, rfl⟩ : ∃ p, j = l.length + p := ⟨j - l.length, by omega⟩
          have hp : p < ys.length := by rw [List.length_append] at hj; omega
          have e1 := q4 p (by rw [bvs_length]; exact hp) (by rw [List.length_append, ← hs.len] at hj; omega)
          have e2 := bvs_get ys p hp
          rw [List.getElem?_eq_getElem (by rw [bvs_length]; exact hp)] at e2
          have e3 : (l ++ ys)[l.length + p]'hj = ys[p] := by rw [List.getElem_append_right (Nat.le_add_right _ _)]; simp only [Nat.add_sub_cancel_left]
          rw [show o + (l.length + p) = o + n + p by omega, e1, Option.some.inj e2, e3]
      · rw [show blkM (some ⟨g, o, none⟩) c = some g by unfold blkM; rw [if_neg (by omega)]; rfl]
        exact grown_scs w g (o + n) (bvs ys)
  · cases A with
    | none =>
      have hz : n = 0 ∧ c = 0 := by
        rcases h.row with hc | ⟨g, o, cur, e, _⟩
        · have := h.cap; omega
        · cases e
      obtain ⟨rfl, rfl⟩ := hz
      obtain rfl : l = [] := List.length_eq_zero_iff.1 h.len.symm
      obtain ⟨v', w', hrun, r1, r2, _⟩ := run_append_own (P := Tryz.prog) w w.heap.size 37 ty 5 i (.int .u8 0) 1 1 undBytes hi h0 h1 h2 rfl (by decide) (.slice none 0 0) 0 [] (World.ownsRow_nil w _ _ 1) ad m c2 (bvs ys) hl hnews (bvs_one ys) hfit.1 hfit.2 (Nat.le_refl _)
      obtain ⟨A', c', rfl, hm2, hlies⟩ := grow v' w' r1 r2
      exact ⟨A', c', w', hrun, hm2, r2, hlies⟩
    | some b =>
      have holds : ∀ j u, (bvs l)[j]? = some u → w.cell? (b.add j) = some u := by
        by_cases hl0 : l = []
        · subst hl0; intro j u hu; simp [bvs] at hu
        · obtain ⟨g, o, e, _, _, _⟩ := bs_rd h.bs (by rw [Ne, ← List.length_eq_zero_iff, bvs_length, List.length_eq_zero_iff]; exact hl0)
          exact (bs_rd h.bs).news rfl
      obtain ⟨v', w', hrun, r1, r2⟩ := run_append_arg_grows (P := Tryz.prog) w 37 ty 5 i (.int .u8 0) 1 1 undBytes hi h0 h1 h2 rfl (by decide) b n c (bvs l) (by rw [bvs_length, Nat.mul_one]; exact h.len.symm) holds ad m c2 (bvs ys) hl hnews (by omega) hfit.1 hfit.2
      obtain ⟨A', c', rfl, hm2, hlies⟩ := grow v' w' r1 r2
      exact ⟨A', c', w', hrun, hm2, grown_weak r2 _, hlies⟩
end Go.Proofs.YticfmphbhdkhoaaGreatDoor
