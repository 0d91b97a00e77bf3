/- rle.Put: numbers as runs. copy, as one step of a walk; bytes.Repeat of one byte. -/
import Derived.Test.YtpmglcachffojaaGreatDoorPk13
import Derived.Lib.MakeNoZero
import Derived.Laws.IdiomCopy
namespace Go.Proofs.YtpmglcachffojaaGreatDoor
open Go Go.RowKit

theorem step_apb {ops : Array Oper} {o : Oper} {a : Act} {w a0 : World} {Q : Exit → Act → World → Prop} {K : Act → World → Prop} {E' : Prop} (hgd : o.guard = none) (s x : Operand) (ho : o.op = .call { callee := .builtin .append, args := #[s, x], argTypes := #[41, 41] }) (B : Nat) (A : Option Addr) (n c : Nat) (xs : List UInt8) (hs : a.eval s = .slice A n c)
    (hown : OwnB w B A n c xs) (hb : Below B a0 w) (hB : B ≤ a0.heap.size) (F : Nat → Prop) (A2 : Option Addr) (m c2 : Nat) (ys : List UInt8) (hx : a.eval x = .slice A2 m c2) (hsl : Bs F w A2 m c2 ys) (hlim : n + m ≤ 68719476736)
    (h : ∀ A' c' w', OwnB w' B A' (n + m) c' (xs ++ ys) → Below B a0 w' → w.grownBy w' (A.map (·.block)) → K (a.put o.dst (.slice A' (n + m) c')) w') :
    if Region.wanted o (yielded ops a.tmps) = true then Oper.wp Tryz.prog o a w K Q else E' := by
  have hw : Region.wanted o (yielded ops a.tmps) = true := by simp [Region.wanted, hgd]
  rw [if_pos hw]
  exact wp_apb w a0 s x ho B A n c xs hs hown hb hB F A2 m c2 ys hx hsl hlim h
def lenV : Value → Nat
  | .slice _ n _ => n
  | _ => 0
/-- The parts of a list of numbers. -/
theorem sl_front {F : Nat → Prop} {w : World} {b o n c : Nat} {l : List Int} (h : Sl tI64 F w (some ⟨b, o, none⟩) n c l) {k : Nat} (hk : k ≤ n) (h1 : 1 ≤ k) : Sl tI64 F w (some ⟨b, o, none⟩) k c (l.take k) := by
  have h2 := h.cut (lo := 0) (hi := k) (by omega) hk
  have h3 := h.2.1
  rw [if_neg (by omega)] at h2
  simpa [Addr.add] using h2
theorem sl_back {F : Nat → Prop} {w : World} {b o n c : Nat} {l : List Int} (h : Sl tI64 F w (some ⟨b, o, none⟩) n c l) {k : Nat} (hk : k ≤ n) (h1 : 1 ≤ k) : Sl tI64 F w (if c = k then some ⟨b, o, none⟩ else some ⟨b, o + k, none⟩) (n - k) (c - k) (l.drop k) := by
  have h2 := h.cut (lo := k) (hi := n) hk (Nat.le_refl _)
  rw [List.take_of_length_le (by rw [← h.len]; exact Nat.le_refl _)] at h2
  simpa [Addr.add, show tI64.size = 1 from rfl, show ¬ k = 0 by omega] using h2
set_option maxRecDepth 100000 in
set_option maxHeartbeats 2000000 in
theorem rle_any (F : Nat → Prop) (A : Option Addr) (n c : Nat) (l : List Int) (w : World) (h : Sl tI64 F w A n c l) (hn : n ≤ 4096) (sg : Bool) (hl : NumOk sg l) :
    Calls Tryz.prog 92 #[.slice A n c, .bool sg] w (RunPost (some (rleB sg l)) w) := by
  have HH := Lib.hid (h.weaken (F' := fun b => b < w.heap.size) fun b _ hb => hb); have HK := Lib.hid hl; have HL := Lib.hid h.len
  have HRL := Lib.hid (rleB_len sg l)
  have z0 : ¬ (n : Int) > 4096 := by omega
  clear h hl
  go_enter Tryz.func92, Tryz.ntmps92
  go_wp2_with fail
  go_loopw [0, 6] (fun lv ov wr => ∃ (k m : Nat) (A2 : Option Addr) (c2 : Nat) (Ao : Option Addr) (no co : Nat) (p : List UInt8), lv = .slice A2 m c2 ∧ ov = .slice Ao no co ∧ k + m = n ∧ Sl tI64 (fun b => b < w.heap.size) wr A2 m c2 (l.drop k) ∧ OwnB wr w.heap.size Ao no co p ∧ Below w.heap.size w wr ∧ p ++ rleB sg (l.drop k) = rleB sg l)
    (fun lv _ _ => lenV lv)
  case atStart => exact ⟨0, n, A, c, none, 0, 0, [], rfl, rfl, by omega, by rw [List.drop_zero]; exact HH.out, OwnB.nil_ _ _, Below.refl _ _, by rw [List.drop_zero]; rfl⟩
  case round =>
    obtain ⟨k, m, A2, c2, Ao, no, co, p, rfl, rfl, hkm, hs, ho, hb, hp⟩ := hrel
    have HS := Lib.hid hs; have HO := Lib.hid ho; have HB := Lib.hid hb; have HP := Lib.hid hp
    clear hs ho hb hp
    by_cases hm0 : m = 0
    · subst hm0
      have HFIN := Lib.hid (show p = rleB sg l by
        have h1 := HP.out
        rw [List.length_eq_zero_iff.1 HS.out.len.symm, rleB_nil, List.append_nil] at h1
        exact h1)
      go_wp2_with fail
      go_ret2
      exact ⟨HB.out, Ao, no, co, rfl, by rw [← HFIN.out]; exact HO.out⟩
    · have hne : l.drop k ≠ [] := fun e => by have := HS.out.len; rw [e] at this; simp at this; omega
      obtain ⟨r, hr⟩ : ∃ r, r = l.drop k := ⟨_, rfl⟩
      have hrm : m = r.length := by rw [hr]; exact HS.out.len
      rw [← hr] at HS HP hne
      have HR := Lib.hid hr
      obtain ⟨b, o, rfl, _, _⟩ := sl_cells HS.out hne
      have hcn := cutN_le r hne
      obtain ⟨x, hx⟩ : ∃ x, x = cutN r := ⟨_, rfl⟩
      rw [← hx] at hcn
      have HX := Lib.hid hx
      have hxm : x ≤ m := by omega
      have hc2 := HS.out.2.1
      have hc3 := HS.out.2.2.1
      unfold maxLen at hc3
      have HST := Lib.hid (rleB_step sg r hne)
      rw [← hx] at HST
      have HNE := Lib.hid hne
      have hpl := congrArg List.length HP.out
      rw [HST.out, List.length_append, List.length_append] at hpl
      have hol := HO.out.len
      have hlim : no + (runB sg (r.take x)).length ≤ 68719476736 := by have := HRL.out; have := HL.out; omega
      have HLIM := Lib.hid hlim
      have hm1 : (0 : Int) < (m : Int) := by omega
      have hx1 : 1 ≤ x := hcn.1
      have hx5 : x ≤ 512 := hcn.2.2
      have i0 : (0 : Int) ≤ (x : Int) := by omega
      have i1 : (x : Int) ≤ (c2 : Int) := by omega
      have i2 : (x : Int) ≤ (m : Int) := by omega
      have i3 : x ≤ c2 := by omega
      have i4 : m ≤ c2 := hc2
      have i5 : (m : Int) ≤ (c2 : Int) := by omega
      have i6 : (c2 : Int) ≤ 9223372036854775807 := by omega
      have HNO := Lib.hid (show NumOk sg (r.take x) by rw [hr]; exact (HK.out.drop k).take x)
      clear hr hrm hx hcn hpl hol hlim hne
      go_upto_region 9 with (first
        | (go_at_call 161; refine (cut_any _ _ m c2 r _ HS.out HNE.out (by omega)).mono ?_; rintro e w1 ⟨rfl, hb1⟩; rw [← HX.out]; have HS1 := Lib.hid (HS.out.below hb1 (Nat.le_refl _)); have HO1 := Lib.hid (HO.out.keepB hb1); have HB1 := Lib.hid (HB.out.trans (hb1.mono HB.out.size)); clear hb1)
        | (go_at_call 162; refine (run_any _ _ x c2 (r.take x) _ (sl_front HS1.out hxm hx1) hx1 hx5 sg HNO.out).mono ?_; rintro e w2 ⟨hb2, A3, n3, c3, rfl, ho3⟩; have HS2 := Lib.hid (HS1.out.below hb2 (Nat.le_refl _)); have HO2 := Lib.hid (HO1.out.keepB hb2); have HB2 := Lib.hid (HB1.out.trans (hb2.mono HB1.out.size)); have HR3 := Lib.hid ho3.bs.any; have HL3 := Lib.hid ho3.len; clear hb2 ho3)
        | fail)
      have hn3 : no + n3 ≤ 68719476736 := by have := HL3.out; have := HLIM.out; omega
      have HO2d := Lib.hid (ownB_drew HO2.out); have HB2d := Lib.hid HB2.out.drew; have HR3d := Lib.hid HR3.out.drew
      have HFIN := Lib.hid (show ∀ q, q = p ++ runB sg (r.take x) → q ++ rleB sg (r.drop x) = rleB sg l by
        rintro q rfl
        rw [← HP.out, HST.out, List.append_assoc])
      have HRD := Lib.hid (show r.drop x = l.drop (k + x) by rw [HR.out, List.drop_drop])
      have HGR := Lib.hid (show ∀ g, Ao.map (·.block) = some g → ¬ g < w.heap.size from fun g hg h => by have := (ownF_at HO2.out.own hg).2.1; omega)
      have hbk := sl_back HS2.out hxm hx1
      by_cases hcx : c2 = x
      · rw [if_pos hcx, show c2 - x = 0 by omega] at hbk
        have HBK := Lib.hid hbk
        clear hbk
        go_region_law (first
          | (refine step_apb (w := w2.drew) (a0 := w) rfl (.tmp 29) (.tmp 30) rfl w.heap.size Ao no co p rfl HO2d.out HB2d.out (Nat.le_refl _) (fun _ => True) A3 n3 c3 _ rfl HR3d.out hn3 ?_; intro A5 c5 w5 ho5 hb5 hg5; have HO5 := Lib.hid ho5; have HB5 := Lib.hid hb5; have HG5 := Lib.hid hg5; clear ho5 hb5 hg5)
          | fail)
        (try simp only [Act.put, List.getElem_toArray, List.getElem_cons_succ, List.getElem_cons_zero, List.setIfInBounds_toArray, List.set_cons_succ, List.set_cons_zero])
        go_wp2_with fail
        go_roundw
        case rel => exact ⟨k + x, m - x, _, _, A5, no + n3, c5, _, rfl, rfl, by omega, by rw [← HRD.out]; exact HBK.out.drew.grown HG5.out HGR.out, HO5.out, HB5.out, by rw [← HRD.out]; exact HFIN.out _ rfl⟩
        case measure => simp [lenV]; omega
      · rw [if_neg hcx] at hbk
        have HBK := Lib.hid hbk
        clear hbk
        go_region_law (first
          | (refine step_apb (w := w2.drew) (a0 := w) rfl (.tmp 29) (.tmp 30) rfl w.heap.size Ao no co p rfl HO2d.out HB2d.out (Nat.le_refl _) (fun _ => True) A3 n3 c3 _ rfl HR3d.out hn3 ?_; intro A5 c5 w5 ho5 hb5 hg5; have HO5 := Lib.hid ho5; have HB5 := Lib.hid hb5; have HG5 := Lib.hid hg5; clear ho5 hb5 hg5)
          | fail)
        (try simp only [Act.put, List.getElem_toArray, List.getElem_cons_succ, List.getElem_cons_zero, List.setIfInBounds_toArray, List.set_cons_succ, List.set_cons_zero])
        go_wp2_with fail
        go_roundw
        case rel => exact ⟨k + x, m - x, _, _, A5, no + n3, c5, _, rfl, rfl, by omega, by rw [← HRD.out]; exact HBK.out.drew.grown HG5.out HGR.out, HO5.out, HB5.out, by rw [← HRD.out]; exact HFIN.out _ rfl⟩
        case measure => simp [lenV]; omega
end Go.Proofs.YtpmglcachffojaaGreatDoor
namespace Go.Proofs.YtpmglcachffojaaGreatDoor
open Go Go.RowKit

section
variable {P : Program} (w : World) {ops : Array Oper} {rest : List Oper} {o : Oper} {a : Act} {Q : Exit → Act → World → Prop}
/-- copy(d, s) at elements of one cell. -/
theorem wp_cp {K : Act → World → Prop} {t1 t2 e : TypeId} (d s : Operand) (ho : o.op = .call { callee := .builtin .copy, args := #[d, s], argTypes := #[t1, t2] }) (hu : P.underlying t1 = some (.slice e)) (he : (P.info? e).map (·.size) = some 1)
    (g q dl dc : Nat) (ad : Addr) (sl sc : Nat) (cs : List Value) (hd : a.eval d = .slice (some ⟨g, q, none⟩) dl dc) (hs : a.eval s = .slice (some ad) sl sc) (hn : cs.length = Nat.min sl dl)
    (hsrc : ∀ j v, cs[j]? = some v → w.cell? (ad.add j) = some v) (hc : ∀ j, j < cs.length → (w.cell? ⟨g, q + j, none⟩).isSome = true) (hf : ∀ j, j < cs.length → w.frozen? ⟨g, q + j, none⟩ = false) (h1 : ∀ v ∈ cs, v.oneCell' = true)
    (h : K (a.put o.dst (.int .i64 (cs.length : Int))) (w.setCells g q cs)) : o.wp P a w K Q := by
  have hrun := run_copy_cells (P := P) w t1 t2 o.type e g q dl dc ad sl sc cs hu he hn hsrc hc hf h1
  unfold Oper.wp execOp
  simp only [ho, resolve, invoke, builtin, Sem.run_bind, Sem.run_pure, Result.andThen_ok, List.map_toArray, List.map_cons, List.map_nil, hd, hs, hrun]
  exact h
theorem cpl {t1 t2 e : TypeId} (hgd : o.guard = none) (d s : Operand) (ho : o.op = .call { callee := .builtin .copy, args := #[d, s], argTypes := #[t1, t2] }) (hu : P.underlying t1 = some (.slice e)) (he : (P.info? e).map (·.size) = some 1)
    (g q dl dc : Nat) (ad : Addr) (sl sc : Nat) (cs : List Value) (hd : a.eval d = .slice (some ⟨g, q, none⟩) dl dc) (hs : a.eval s = .slice (some ad) sl sc) (hn : cs.length = Nat.min sl dl)
    (hsrc : ∀ j v, cs[j]? = some v → w.cell? (ad.add j) = some v) (hc : ∀ j, j < cs.length → (w.cell? ⟨g, q + j, none⟩).isSome = true) (hf : ∀ j, j < cs.length → w.frozen? ⟨g, q + j, none⟩ = false) (h1 : ∀ v ∈ cs, v.oneCell' = true)
    (h : wpList P ops Q rest (a.put o.dst (.int .i64 (cs.length : Int))) (w.setCells g q cs)) : wpList P ops Q (o :: rest) a w :=
  wpList_plain hgd fun _ hK => wp_cp w d s ho hu he g q dl dc ad sl sc cs hd hs hn hsrc hc hf h1 (hK _ _ h)
theorem step_cp {K : Act → World → Prop} {E' : Prop} {t1 t2 e : TypeId} (hgd : o.guard = none) (d s : Operand) (ho : o.op = .call { callee := .builtin .copy, args := #[d, s], argTypes := #[t1, t2] }) (hu : P.underlying t1 = some (.slice e)) (he : (P.info? e).map (·.size) = some 1)
    (g q dl dc : Nat) (ad : Addr) (sl sc : Nat) (cs : List Value) (hd : a.eval d = .slice (some ⟨g, q, none⟩) dl dc) (hs : a.eval s = .slice (some ad) sl sc) (hn : cs.length = Nat.min sl dl)
    (hsrc : ∀ j v, cs[j]? = some v → w.cell? (ad.add j) = some v) (hc : ∀ j, j < cs.length → (w.cell? ⟨g, q + j, none⟩).isSome = true) (hf : ∀ j, j < cs.length → w.frozen? ⟨g, q + j, none⟩ = false) (h1 : ∀ v ∈ cs, v.oneCell' = true)
    (h : K (a.put o.dst (.int .i64 (cs.length : Int))) (w.setCells g q cs)) : if Region.wanted o (yielded ops a.tmps) = true then Oper.wp P o a w K Q else E' := by
  have hw : Region.wanted o (yielded ops a.tmps) = true := by simp [Region.wanted, hgd]
  rw [if_pos hw]
  exact wp_cp w d s ho hu he g q dl dc ad sl sc cs hd hs hn hsrc hc hf h1 h
end
/-- A buffer that is being filled: room for n, the first p of them the byte x. -/
structure RpR (w0 : World) (g n p : Nat) (x : UInt8) (w : World) : Prop where
  below : Below w0.heap.size w0 w
  base : w0.heap.size ≤ g
  lt : g < w.heap.size
  there : ∀ j, j < n → (w.cell? ⟨g, j, none⟩).isSome = true
  free : ∀ j, w.frozen? ⟨g, j, none⟩ = false
  have_ : ∀ j, j < p → w.cell? ⟨g, j, none⟩ = some (.int .u8 (x.toNat : Int))
theorem below_scs {B g : Nat} {a : World} (hb : B ≤ g) : ∀ (vs : List Value) (o : Nat) {w : World}, Below B a w → Below B a (w.setCells g o vs)
  | [], _, _, h => h
  | v :: r, o, _, h => below_scs hb r (o + 1) (h.setCell (p := ⟨g, o, none⟩) hb v)
theorem RpR.fill {w0 w : World} {g n p k : Nat} {x : UInt8} (h : RpR w0 g n p x w) (hk : p + k ≤ n) : RpR w0 g n (p + k) x (w.setCells g p (List.replicate k (.int .u8 (x.toNat : Int)))) := by
  have hin : ∀ j, j < (List.replicate k (Value.int .u8 (x.toNat : Int))).length → (w.cell? ⟨g, p + j, none⟩).isSome = true := fun j hj => h.there _ (by rw [List.length_replicate] at hj; omega)
  have hs : w.heap.size ≤ (w.setCells g p (List.replicate k (.int .u8 (x.toNat : Int)))).heap.size := (below_scs (B := 0) (a := w) (g := g) (Nat.zero_le _) _ p (Below.refl 0 w)).size
  refine ⟨below_scs h.base _ _ h.below, h.base, Nat.lt_of_lt_of_le h.lt hs, fun j hj => ?_, fun j => by rw [World.frozen?_setCells]; exact h.free j, fun j hj => ?_⟩
  · by_cases hjp : p ≤ j ∧ j < p + k
    · obtain ⟨i, rfl⟩ : ∃ i, j = p + i := ⟨j - p, by omega⟩
      rw [World.cell?_setCells_in g _ p w hin i (by rw [List.length_replicate]; omega)]
      simp
    · rw [World.cell?_setCells_out g _ p w ⟨g, j, none⟩ (fun _ _ => by rw [List.length_replicate]; simp only; omega)]
      exact h.there j hj
  · by_cases hjp : j < p
    · rw [World.cell?_setCells_out g _ p w ⟨g, j, none⟩ (fun _ _ => .inl hjp)]
      exact h.have_ j hjp
    · obtain ⟨i, rfl⟩ : ∃ i, j = p + i := ⟨j - p, by omega⟩
      rw [World.cell?_setCells_in g _ p w hin i (by rw [List.length_replicate]; omega)]
      simp
theorem size1U8 : (Tryz.prog.info? 5).map (·.size) = some 1 := by kernel_rfl
set_option maxRecDepth 100000 in
set_option maxHeartbeats 2000000 in
theorem repeat_any (F : Nat → Prop) (A : Option Addr) (c : Nat) (x : UInt8) (n : Nat) (hn1 : 1 ≤ n) (hn : n ≤ 8192) (w : World) (h : Bs F w A 1 c [x]) :
    Calls Tryz.prog 203 #[.slice A 1 c, .int .i64 (n : Int)] w fun e w' => ∃ g, e = .returned (.slice (some ⟨g, 0, none⟩) n n) ∧ Bs (fun _ => True) w' (some ⟨g, 0, none⟩) n n (List.replicate n x) ∧ Below w.heap.size w w' := by
  obtain ⟨b, o, rfl, _, hbl, hx0⟩ := bs_at h (k := 0) (by simp)
  rw [Nat.add_zero] at hx0
  have hx0' : w.cell? ⟨b, o, none⟩ = some (.int .u8 (x.toNat : Int)) := hx0
  have hcap := h.2.1
  obtain ⟨cs, hrun, hle, hmax⟩ := Lib.run_makeNoZero (P := Tryz.prog) w #[3] 41 5 undBytes n (by omega)
  have hcall : (callFunc 242 #[.int .i64 (n : Int)]).run Tryz.prog w = .ok (.value (.slice (some ⟨w.heap.size, 0, none⟩) n cs.size)) (w.drew.drew.alloc (.cells cs 5)) := by
    rw [run_callFunc_extern Tryz.func242 (by kernel_rfl) (by kernel_rfl) (by kernel_rfl) (e := Extern.BytealgMakeNoZero.makeNoZero #[3] #[41]) (by kernel_rfl), hrun]
    rfl
  obtain ⟨g, hg⟩ : ∃ g, g = w.heap.size := ⟨_, rfl⟩
  obtain ⟨w1, hw1⟩ : ∃ w1, w1 = w.drew.drew.alloc (.cells cs 5) := ⟨_, rfl⟩
  have hb1 : Below w.heap.size w w1 := by rw [hw1]; exact ((Below.refl w.heap.size w).drew.drew).alloc (Nat.le_refl _) _
  have hgc : w1.heap[g]? = some (.cells cs 5 (0, 0)) := by rw [hw1, hg]; exact heap_alloc_new w.drew.drew _
  have HR0 := Lib.hid (show RpR w g n 0 x w1 from ⟨hb1, by omega, blk_lt hgc, fun j hj => by rw [Lib.cell_of_heap hgc]; simp; omega, fun j => Lib.frozen_of_heap hgc j, fun j hj => absurd hj (Nat.not_lt_zero j)⟩)
  rw [← hg, ← hw1] at hcall
  have HX := Lib.hid (kcell hb1 hx0')
  have i0 : (0 : Int) < (n : Int) := by omega
  have i1 : (n : Int) ≤ (cs.size : Int) := by omega
  have q0 : ((n : Int) == 0) = false := beq_no (by omega)
  have i2 : n < 18446744073709551616 := by omega
  have i3 : ¬ (8192 : Int) < (n : Int) := by omega
  have e1 : 1 * n / 18446744073709551616 = 0 := by omega
  have e2 : 1 * n % 18446744073709551616 = n := by omega
  have HG := Lib.hid hg; have HBL := Lib.hid hbl
  have HE1 := Lib.hid e1; have HE2 := Lib.hid e2
  have i4 : (0 : Int) ≤ (n : Int) := by omega
  clear h hx0 hx0' hw1 hb1 hgc hrun hmax e1 e2 hg hbl
  go_enter Tryz.func203, Tryz.ntmps203
  go_upto_region 17 with (first
    | (go_at_call 190; refine ((Tryz.bits_Mul 1 n (by decide) i2 _).mono (R' := fun e w' => e = _ ∧ w = w') fun e w' h => ⟨h.1, h.2.symm⟩).mono ?_; rintro e w2 ⟨rfl, rfl⟩; rw [HE1.out, HE2.out])
    | fail)
  have HR1 := Lib.hid (HR0.out.fill (k := 1) (by omega))
  have hmin : ([Value.int .u8 (x.toNat : Int)]).length = Nat.min 1 n := (Nat.min_eq_left hn1).symm
  have hsrc : ∀ j v, ([Value.int .u8 (x.toNat : Int)])[j]? = some v → w1.cell? ((⟨b, o, none⟩ : Addr).add j) = some v := fun j v hj => by
    match j, hj with
    | 0, hj => rw [add_lit]; simp at hj; rw [← hj]; exact HX.out
  have hthere : ∀ j, j < ([Value.int .u8 (x.toNat : Int)]).length → (w1.cell? ⟨g, 0 + j, none⟩).isSome = true := fun j hj => HR0.out.there _ (by simp at hj; omega)
  have hfree : ∀ j, j < ([Value.int .u8 (x.toNat : Int)]).length → w1.frozen? ⟨g, 0 + j, none⟩ = false := fun j _ => HR0.out.free _
  have hcp : (Builtin.copy_ #[41, 41] 3 #[.slice (some ⟨g, 0, none⟩) n n, .slice (some ⟨b, o, none⟩) 1 c]).run Tryz.prog w1 = .ok (.int .i64 1) (w1.setCells g 0 [.int .u8 (x.toNat : Int)]) :=
    run_copy_cells (P := Tryz.prog) w1 41 41 3 5 g 0 n n ⟨b, o, none⟩ 1 c [.int .u8 (x.toNat : Int)] undBytes size1U8 hmin hsrc hthere hfree (by simp [Value.oneCell'])
  go_wp2_with fail
  obtain ⟨w3, hw3⟩ : ∃ w3, w3 = w1.setCells g 0 [.int .u8 (x.toNat : Int)] := ⟨_, rfl⟩
  have hr3 : RpR w g n 1 x w3 := by rw [hw3]; have := HR1.out; simpa using this
  have HR3 := Lib.hid hr3
  try rw [← hw3]
  clear hw3 hr3 HR0 HR1 hmin hsrc hthere hfree hcall hle hcap hcp
  go_loopw [10] (fun pv wr => ∃ p : Nat, 1 ≤ p ∧ p ≤ n ∧ pv = .int .i64 (p : Int) ∧ RpR w g n p x wr) (fun pv _ => n - (intOf pv).toNat)
  case atStart => exact ⟨1, Nat.le_refl _, hn1, rfl, HR3.out⟩
  case round =>
    obtain ⟨p, hp1, hpn, rfl, hr⟩ := hrel
    have HR := Lib.hid hr
    clear hr
    by_cases hlt : p < n
    · obtain ⟨k, hk⟩ : ∃ k, k = min p (n - p) := ⟨_, rfl⟩
      have hk1 : 1 ≤ k ∧ k ≤ p ∧ p + k ≤ n := by omega
      have z0 : (0 : Int) ≤ (p : Int) := by omega
      have z1 : (p : Int) < (n : Int) := by omega
      have z2 : (p : Int) ≤ (n : Int) := by omega
      have zne : ¬ n = p := by omega
      have zm : min (p : Int) (n : Int) = (p : Int) := by omega
      have hlen : (List.replicate k (Value.int .u8 (x.toNat : Int))).length = Nat.min p (n - p) := by rw [List.length_replicate, hk]
      have hsrc : ∀ j v, (List.replicate k (Value.int .u8 (x.toNat : Int)))[j]? = some v → wr.drew.cell? ((⟨g, 0, none⟩ : Addr).add j) = some v := fun j v hj => by
        rw [add_lit, Nat.zero_add]
        have hjk : j < k := by
          rcases Nat.lt_or_ge j k with h | h
          · exact h
          · rw [List.getElem?_eq_none (by rw [List.length_replicate]; exact h)] at hj; cases hj
        rw [List.getElem?_replicate, if_pos hjk] at hj
        rw [← Option.some.inj hj]
        exact HR.out.have_ j (by omega)
      have hthere : ∀ j, j < (List.replicate k (Value.int .u8 (x.toNat : Int))).length → (wr.drew.cell? ⟨g, p + j, none⟩).isSome = true := fun j hj => HR.out.there _ (by rw [List.length_replicate] at hj; omega)
      have hfree : ∀ j, j < (List.replicate k (Value.int .u8 (x.toNat : Int))).length → wr.drew.frozen? ⟨g, p + j, none⟩ = false := fun j _ => HR.out.free _
      have hone : ∀ v ∈ List.replicate k (Value.int .u8 (x.toNat : Int)), v.oneCell' = true := fun v hv => by rw [(List.mem_replicate.1 hv).2]; rfl
      have HF := Lib.hid ((show RpR w g n p x wr.drew from ⟨HR.out.below.drew, HR.out.base, HR.out.lt, HR.out.there, HR.out.free, HR.out.have_⟩).fill (k := k) hk1.2.2)
      have HK1 := Lib.hid hk1
      have HLR := Lib.hid (show ((List.replicate k (Value.int .u8 (x.toNat : Int))).length : Int) = (k : Int) by rw [List.length_replicate])
      have HWR := Lib.hid (show IntKind.i64.wrap ((p : Int) + (k : Int)) = (p : Int) + (k : Int) by rw [IntKind.wrap_i64]; omega)
      clear hk hk1
      go_upto_region 20 with fail
      go_region_law (first
        | (refine step_cp wr.drew rfl (.tmp 70) (.tmp 73) rfl undBytes size1U8 g p (n - p) (n - p) ⟨g, 0, none⟩ p n (List.replicate k (.int .u8 (x.toNat : Int))) (by simp only [Act.put, List.getElem_toArray, List.getElem_cons_succ, List.getElem_cons_zero, List.setIfInBounds_toArray, List.set_cons_succ, List.set_cons_zero]; rfl) (by simp only [Act.put, List.getElem_toArray, List.getElem_cons_succ, List.getElem_cons_zero, List.setIfInBounds_toArray, List.set_cons_succ, List.set_cons_zero]; rfl) hlen hsrc hthere hfree hone ?_; rw [HLR.out])
        | fail)
      (try simp only [Act.put, List.getElem_toArray, List.getElem_cons_succ, List.getElem_cons_zero, List.setIfInBounds_toArray, List.set_cons_succ, List.set_cons_zero])
      rw [HWR.out]
      go_wp2_with fail
      go_roundw
      case rel => exact ⟨p + k, by omega, by have := HK1.out; omega, by go_num, HF.out⟩
      case measure => have := HK1.out; simp [intOf]; omega
    · obtain rfl : p = n := by omega
      go_wp2_with fail
      go_ret
      refine ⟨g, rfl, bs_mk (fun _ => ⟨g, 0, rfl, trivial, HR.out.lt, fun j u hu => ?_⟩) (by rw [List.length_replicate]) (Nat.le_refl _) (by unfold maxLen; omega), HR.out.below⟩
      rw [Nat.zero_add]
      have hj : j < p := by
        rcases Nat.lt_or_ge j p with h | h
        · exact h
        · rw [List.getElem?_eq_none (by rw [bvs_length, List.length_replicate]; exact h)] at hu; cases hu
      rw [bvs_get _ _ (by rw [List.length_replicate]; exact hj), List.getElem_replicate] at hu
      rw [← Option.some.inj hu]
      exact HR.out.have_ j hj
end Go.Proofs.YtpmglcachffojaaGreatDoor
