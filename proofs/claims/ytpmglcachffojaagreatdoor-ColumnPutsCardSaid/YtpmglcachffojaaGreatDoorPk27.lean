/- The reference 06: truths as bytes. The references 10, 11, 14: their contracts joined. (*builder).add: a stream more. strings.Join of texts with nothing between them. The reference 15: all texts one behind the other, and how long each is. -/
import Derived.Test.YtpmglcachffojaaGreatDoorPk26
import Derived.Test.YtpmglcachffojaaGreatDoorPk22
import Derived.Test.YtpmglcachffojaaGreatDoorPk25
import Derived.Test.YtpmglcachffojaaGreatDoorPk9
import Derived.Test.YtpmglcachffojaaGreatDoorPk20
import Derived.Test.YtpmglcachffojaaGreatDoorShelf2
import Derived.Test.YtpmglcachffojaaGreatDoorPk21
import Derived.Lib.AppendStr
namespace Go.Proofs.YtpmglcachffojaaGreatDoor
open Go Go.RowKit

set_option maxRecDepth 100000 in
set_option maxHeartbeats 2000000 in
theorem r6put_any (F : Nat → Prop) (A : Option Addr) (n c : Nat) (l : List Bool) (w : World) (h : Sl tBool F w A n c l) (hn : n ≤ 4096) :
    Calls Tryz.prog 104 #[.slice A n c] w (RunPost (some (byB (boolB l))) w) := by
  have HH := Lib.hid h; have HL := Lib.hid h.len
  obtain ⟨s, hs⟩ : ∃ s, s = (n + 7) / 8 := ⟨_, rfl⟩
  have zs : ((n : Int) + 7) / 8 = (s : Int) := by omega
  have hs5 : s ≤ 512 := by omega
  have hns : n ≤ 8 * s := by omega
  have HS := Lib.hid hs; have HNS := Lib.hid hns
  have hmk := run_mkB s (by omega)
  obtain ⟨g, hg⟩ : ∃ g, g = w.heap.size := ⟨_, rfl⟩
  have hp0 : PqR w w.heap.size g s (List.replicate s 0) (w.alloc (.cells (madeCells #[.int .u8 0] s) 5)) := by
    rw [hg]
    exact ⟨own_mkB s (by omega) w w.heap.size (Nat.le_refl _), (Below.refl _ _).alloc (Nat.le_refl _) _⟩
  have HZ := Lib.hid (show boolAt s l 0 = List.replicate s 0 by unfold boolAt; rw [List.take_zero, List.map_nil, show catN 1 [] = 0 from rfl, Nat.zero_mul, be_zero])
  have HFIN := Lib.hid (show boolAt s l n = boolB l by unfold boolAt boolB pack packSize; rw [List.take_of_length_le (by rw [← HL.out]; exact Nat.le_refl _), List.length_map, ← HL.out, Nat.mul_one, ← hs])
  have z0 : ¬ (n : Int) > 4096 := by omega
  have z0' : ¬ (4096 : Int) < n := by omega
  have HP0 := Lib.hid hp0; have HG := Lib.hid hg
  clear h hs hns hp0 hg
  go_enter Tryz.func104, Tryz.ntmps104
  go_upto_region 4 with fail
  rw [← HG.out]
  go_wp2_with fail
  go_loopw [5] (fun iv wr => ∃ i : Nat, i ≤ n ∧ iv = .int .i64 (i : Int) ∧ PqR w w.heap.size g s (boolAt s l i) wr) (fun iv _ => n - (intOf iv).toNat)
  case atStart => exact ⟨0, Nat.zero_le _, rfl, by rw [HZ.out]; exact HP0.out⟩
  case round =>
    obtain ⟨i, hi, rfl, hp⟩ := hrel
    have HP := Lib.hid hp
    clear hp
    by_cases hlt : i < n
    · have hil : i < l.length := by rw [← HL.out]; exact hlt
      obtain ⟨x, hx⟩ : ∃ x, x = l[i] := ⟨_, rfl⟩
      obtain ⟨b, o, u, rfl, _, _, hr, hc⟩ := HH.out.at1 hil rfl
      rw [← hx] at hr
      have hr : [u] = [Value.bool x] := hr
      injection hr with hr; subst hr
      have hc2 := kcell HP.out.below hc
      have hi1 : (0 : Int) ≤ (i : Int) := by omega
      have hi2 : (i : Int) < (n : Int) := by omega
      have ha8 : i < 8 * s := by have := HNS.out; omega
      clear hc
      cases x with
      | false =>
        have HR := Lib.hid (boolAt_false s l i hil ha8 hx.symm)
        clear hx
        go_wp2_with fail
        go_roundw
        case rel => exact ⟨i + 1, by omega, by go_num, by rw [HR.out]; exact HP.out⟩
        case measure => simp [intOf]; omega
      | true =>
        have hbt := boolAt_true s l i hil ha8 hx.symm
        obtain ⟨e, he⟩ : ∃ e, e = i % 8 := ⟨_, rfl⟩
        obtain ⟨y, hy⟩ : ∃ y, y = i / 8 := ⟨_, rfl⟩
        have f1 : (i : Int) % 8 = (e : Int) := by omega
        have f2 : (i : Int) / 8 = (y : Int) := by omega
        have hys : y < s := by omega
        have he8 : e < 8 := by omega
        obtain ⟨d, hd⟩ : ∃ d, d = 2 ^ (7 - e) := ⟨_, rfl⟩
        have f3 : (128 : Int) / 2 ^ e = (d : Int) := by
          rw [hd]
          obtain rfl | rfl | rfl | rfl | rfl | rfl | rfl | rfl : e = 0 ∨ e = 1 ∨ e = 2 ∨ e = 3 ∨ e = 4 ∨ e = 5 ∨ e = 6 ∨ e = 7 := by omega
          all_goals decide
        obtain ⟨V, hV⟩ : ∃ V, V = catN 1 ((l.take i).map b01) := ⟨_, rfl⟩
        obtain ⟨b8, hb⟩ : ∃ b8, b8 = V * 2 ^ (8 * s - i) / 256 ^ (s - 1 - y) % 256 := ⟨_, rfl⟩
        have hb8 : b8 < 256 := by rw [hb]; exact Nat.mod_lt _ (by decide)
        have hbf : b8 % 2 ^ (8 - e) = 0 := by rw [hb, hy, he]; exact byte_free (V := V) (by omega)
        have hd2 : d < 2 ^ (8 - e) := by rw [hd]; exact Nat.pow_lt_pow_right (by decide) (by omega)
        have hlt8 := room_lt hb8 hbf (by omega) hd2
        obtain ⟨v, hv⟩ : ∃ v, v = UInt8.ofNat (b8 + d) := ⟨_, rfl⟩
        have f4 : (b8 : Int) + (d : Int) = ((v.toNat : Nat) : Int) := by rw [hv, UInt8.toNat_ofNat']; omega
        have hlen : y < (boolAt s l i).length := by unfold boolAt; rw [be_len]; exact hys
        have g0 : wr.cell? ⟨g, y, none⟩ = some (.int .u8 (b8 : Int)) := by
          rw [HP.out.byte hlen, boolAt_byte, ← hV, ← hb]
        have g1 : wr.frozen? ⟨g, y, none⟩ = false := HP.out.own.free1 oneU8 y
        have hpn := (HP.out.store y v).drew
        rw [← hV, ← hy, ← hb, Nat.one_mul, show 8 - i % 8 - 1 = 7 - e by omega, ← hd, ← hv] at hbt
        rw [hbt] at hpn
        have HPN := Lib.hid hpn
        have i1 : (0 : Int) ≤ (y : Int) := by omega
        have i2 : (y : Int) < (s : Int) := by omega
        clear he hy hd hb hbf hd2 hv hlen ha8 hx hV hbt hpn
        go_upto_region 8 with fail
        go_region
        go_wp2_with fail
        go_roundw
        case rel => exact ⟨i + 1, by omega, by go_num, HPN.out⟩
        case measure => simp [intOf]; omega
    · obtain rfl : i = n := by omega
      have hbs := HP.out.row.bs
      rw [HFIN.out] at hbs
      have HBS := Lib.hid hbs
      clear hbs
      go_wp2_with (first
        | (go_at_call 171; refine (r5put_any _ _ s s (boolB l) _ HBS.out (by omega)).mono ?_; rintro e w5 ⟨hb5, A5, n5, c5, rfl, ho5⟩; have HB5 := Lib.hid hb5; have HO5 := Lib.hid ho5; clear hb5 ho5)
        | fail)
      go_ret2
      have hbz := HP.out.below.size
      exact ⟨HP.out.below.trans (HB5.out.mono hbz), A5, n5, c5, rfl, HO5.out.down hbz⟩
end Go.Proofs.YtpmglcachffojaaGreatDoor
namespace Go.Proofs.YtpmglcachffojaaGreatDoor
open Go Go.RowKit

theorem c06 : C06 := fun F A n c l w h hn => r6put_any F A n c l w h hn
theorem c09 : C09 := fun F A n c l w h h1 h2 sg hs => r9put_any F A n c l w h h1 h2 sg hs
theorem c10 : C10 := fun F A n c l w h h1 h2 sg hs k hk => by
  obtain ⟨e1, e2, e3⟩ := wN_ok k (by omega)
  rw [e1]
  exact r10put_any F A n c l w h h1 h2 sg hs (wN k) e2 e3
theorem c11 : C11 := fun F A n c l w h hn sg hl => r11put_any c09 c10 F A n c l w h hn sg hl
end Go.Proofs.YtpmglcachffojaaGreatDoor
namespace Go.Proofs.YtpmglcachffojaaGreatDoor
open Go Go.RowKit

def tStream : Ty (Int × List UInt8) := Ty.prod tI64 (tSl tU8)
theorem elemStream : ElemOf Tryz.prog 25 55 tStream.size := ElemOf.mk' (bytes := 32) (z := .agg #[.int .i64 0, .slice none 0 0]) (by kernel_rfl) (by kernel_rfl) rfl (by decide) (by decide)
/-- A column that is being built, in block g. -/
structure BuR (w0 : World) (g : Nat) (m enc tx : Int) (F : Nat → Prop) (A : Option Addr) (n c : Nat) (ss : List (Int × List UInt8)) (W : World) : Prop where
  hold : W.heap[g]? = some (.cells #[.int .i64 m, .int .i64 enc, .int .i64 tx, .slice A n c] 85 (0, 0))
  own : OwnF tStream 55 F W (g + 1) A n c ss
  below : Below g w0 W
set_option maxRecDepth 100000 in
set_option maxHeartbeats 1000000 in
theorem badd_any (w0 : World) (g : Nat) (m enc tx : Int) (F : Nat → Prop) (A : Option Addr) (n c : Nat) (ss : List (Int × List UInt8)) (w : World) (h : BuR w0 g m enc tx F A n c ss w) (hF : ¬ F g) (k : Int) (hk : -9223372036854775808 ≤ k ∧ k ≤ 9223372036854775807)
    (G : Nat → Prop) (Ab : Option Addr) (nb cb : Nat) (bs : List UInt8) (hb : Sl tU8 G w Ab nb cb bs) (hG : ¬ G g) (hGA : ∀ b, A = some ⟨b, 0, none⟩ → ¬ G b) (hn : n ≤ 1000) :
    Calls Tryz.prog 43 #[.pointer (some ⟨g, 0, none⟩), .int .i64 k, .slice Ab nb cb] w fun e w' => e = .returned (.tuple #[]) ∧ (∃ A' c', BuR w0 g m enc tx (fun b => (F b ∨ G b) ∧ b < w.heap.size) A' (n + 1) c' (ss ++ [(k, bs)]) w' ∧ (A'.map (·.block) = A.map (·.block) ∨ A'.map (·.block) = some (w.heap.size + 1))) ∧
      w.heap.size ≤ w'.heap.size ∧ (∀ b, b < w.heap.size → b ≠ g → A.map (·.block) ≠ some b → w'.heap[b]? = w.heap[b]?) := by
  have hgl : g < w.heap.size := (Array.getElem?_eq_some_iff.1 h.hold).1
  have HH := Lib.hid h.hold; have HO := Lib.hid h.own; have HBW := Lib.hid h.below; have HS := Lib.hid hb
  have c3 : w.cell? ⟨g, 3, none⟩ = some (.slice A n c) := by rw [Lib.cell_of_heap h.hold]; rfl
  have hA : ∀ b, A.map (·.block) = some b → g + 1 ≤ b := fun b e => (h.own.lies (b := b) (by rw [ownBlock_slice]; exact e)).2.1
  have HA := Lib.hid hA
  clear h hb hA
  go_enter Tryz.func43, Tryz.ntmps43
  go_wp2_with (first
    | (at_builtin; refine apl1 (T := tStream) elemStream w w rfl (.tmp 11) (.tmp 15) rfl (g + 1) A n c ss (by rfl) F G HO.out (Below.refl _ _) hgl _ (by rfl) [.int .i64 k, .slice Ab nb cb] (k, bs) ⟨[.int .i64 k], [.slice Ab nb cb], rfl, ⟨rfl, hk⟩, ⟨Ab, nb, cb, rfl, HS.out⟩⟩ 55 rfl (fun b h1 _ _ => hGA b h1) (by omega) ?_; intro A5 c5 w5 h5; have hg5 : w5.heap[g]? = some (.cells #[.int .i64 m, .int .i64 enc, .int .i64 tx, .slice A n c] 85 (0, 0)) := (h5.grown.block g (by simp; omega) (fun e => by have := HA.out g e.symm; omega)).trans ((Below.heap_alloc w _ g hgl).trans HH.out); have d3 : w5.cell? ⟨g, 3, none⟩ = some (.slice A n c) := (by rw [Lib.cell_of_heap hg5]; rfl); have f3 := Lib.frozen_of_heap hg5 3; have HG5 := Lib.hid hg5; clear hg5)
    | fail)
  go_end0
  have hsz5 := h5.grown.size
  rw [World.size_alloc] at hsz5
  refine ⟨rfl, ⟨A5, c5, ⟨heap_set HG5.out rfl, ?_, ?_⟩, (by have h6 := h5.lies; rw [World.size_alloc] at h6; exact h6)⟩, by simp; omega, fun b hb1 hb2 hb3 => ?_⟩
  · refine h5.own.setCell (p := ⟨g, 3, none⟩) (fun hx => ?_) (fun e => ?_) _
    · rcases hx.1 with hx | hx
      · exact hF hx
      · exact hG hx
    · have := (h5.own.lies (b := g) (by rw [ownBlock_slice, e]; rfl)).2.1
      omega
  · exact bsetc (((HBW.out.alloc (Nat.le_of_lt hgl) _).grown h5.grown (by simp; omega) (fun b e => by have := HA.out b e; omega))) (Nat.le_refl _) _
  · exact (Below.heap_setCell _ _ _ _ hb2).trans ((h5.grown.block b (by simp; omega) (fun e => hb3 e.symm)).trans (Below.heap_alloc w _ b hb1))
end Go.Proofs.YtpmglcachffojaaGreatDoor
namespace Go.Proofs.YtpmglcachffojaaGreatDoor
open Go Go.RowKit

def joinL (l : List ByteArray) : List UInt8 := (bytesS l).flatten
theorem join_nil : ∀ l : List (List UInt8), Lib.join l [] = l.flatten
  | [] => rfl
  | [x] => by simp [Lib.join]
  | x :: y :: r => by
    have ih := join_nil (y :: r)
    have e : List.intersperse ([] : List UInt8) (x :: y :: r) = x :: [] :: List.intersperse [] (y :: r) := rfl
    unfold Lib.join List.intercalate at ih ⊢
    rw [e, List.flatten_cons, List.flatten_cons, ih, List.nil_append]
    rfl
theorem joinL_len : ∀ l : List ByteArray, (∀ s ∈ l, s.size ≤ 300) → (joinL l).length ≤ 300 * l.length
  | [], _ => by simp [joinL, bytesS]
  | x :: r, h => by
    have ih := joinL_len r (fun s hs => h s (List.mem_cons_of_mem _ hs))
    have hx := h x (List.mem_cons_self ..)
    have e : (joinL (x :: r)).length = x.data.toList.length + (joinL r).length := by simp [joinL, bytesS]
    have e2 : x.data.toList.length = x.size := by rw [Array.length_toList]; rfl
    rw [e, List.length_cons]
    omega
theorem join_any (F : Nat → Prop) (A : Option Addr) (n c : Nat) (l : List ByteArray) (w : World) (h : Sl tStr F w A n c l) (hn : n ≤ 4096) (hs : ∀ s ∈ l, s.size ≤ 300) :
    Calls Tryz.prog 100 #[.slice A n c, .string ⟨#[]⟩] w fun e w' => e = .returned (.string (mkS (joinL l))) ∧ Below w.heap.size w w' := by
  have hl := h.len
  cases A with
  | none =>
    have hl0 : l = [] := by
      cases l with
      | nil => rfl
      | cons x r => obtain ⟨b, o, _, e, _⟩ := h.at1 (k := 0) (by simp) rfl; cases e
    subst hl0
    obtain rfl : n = 0 := hl
    refine (Tryz.strings_Join_none none c ⟨#[]⟩ w).mono ?_
    rintro e w' ⟨he, hw⟩
    exact ⟨by rw [he]; rfl, by first | exact hw | (rw [hw]; exact Below.refl _ _)⟩
  | some a =>
    by_cases hl0 : l = []
    · subst hl0
      obtain rfl : n = 0 := hl
      refine (Tryz.strings_Join_none (some a) c ⟨#[]⟩ w).mono ?_
      rintro e w' ⟨he, hw⟩
      exact ⟨by rw [he]; rfl, by first | exact hw | (rw [hw]; exact Below.refl _ _)⟩
    · have hlp : 0 < l.length := List.length_pos_iff.2 hl0
      obtain ⟨b, o, u0, e0, _, hbl, _, _⟩ := h.at1 (k := 0) hlp rfl
      injection e0 with e0
      subst e0
      have hcells : ∀ (j : Nat) x, l[j]? = some x → w.cell? ⟨b, o + j, none⟩ = some (.string x) := fun j x hx => by
        obtain ⟨hj, rfl⟩ := List.getElem?_eq_some_iff.1 hx
        obtain ⟨b2, o2, u, e2, _, _, hr, hc⟩ := h.at1 hj rfl
        injection e2 with e2; injection e2 with e3 e4 _; subst e3; subst e4
        obtain ⟨hr, _⟩ := hr
        injection hr with hr; subst hr
        exact hc
      have hJ := Tryz.strings_Join b o c l ⟨#[]⟩ w hcells hbl (by omega) (by have := h.2.1; omega) (by
        show (Lib.join (bytesS l) []).length ≤ _
        rw [join_nil]
        have := joinL_len l hs
        unfold joinL at this
        omega)
      rw [← hl] at hJ
      refine hJ.mono ?_
      rintro e w' ⟨he, hw⟩
      refine ⟨?_, hw⟩
      rw [he]
      show Ending.returned (.string ⟨(Lib.join (bytesS l) []).toArray⟩) = _
      rw [join_nil]
      rfl
end Go.Proofs.YtpmglcachffojaaGreatDoor
namespace Go.Proofs.YtpmglcachffojaaGreatDoor
open Go Go.RowKit

/-- Two rows of different types do not share a block. -/
theorem types_apart {w : World} {B1 B2 n1 n2 c1 c2 z1 z2 : Nat} {A1 A2 : Option Addr} {e1 e2 : TypeId} {xs ys : List Value} (h1 : w.ownsRow B1 e1 z1 (.slice A1 n1 c1) n1 xs) (h2 : w.ownsRow B2 e2 z2 (.slice A2 n2 c2) n2 ys) (he : e1 ≠ e2) {g : Nat} (hA : A1.map (·.block) = some g) : A2 ≠ some ⟨g, 0, none⟩ := by
  intro hA2
  rcases h1.2 with ⟨q, _⟩ | ⟨g1, _, _, q, _, hg1, _⟩
  · injection q with q; rw [q] at hA; simp at hA
  rcases h2.2 with ⟨q2, _⟩ | ⟨g2, _, _, q2, _, hg2, _⟩
  · injection q2 with q2; rw [q2] at hA2; simp at hA2
  injection q with q; injection q2 with q2
  rw [q] at hA; injection hA with hA
  have hA : g1 = g := hA
  rw [q2] at hA2; injection hA2 with hA2; injection hA2 with hA2 _ _
  subst hA; subst hA2
  rw [hg1] at hg2
  injection hg2 with hg2
  injection hg2 with _ h3 _
  exact he h3
section
variable (w a0 : World) {ops : Array Oper} {rest : List Oper} {o : Oper} {a : Act} {Q : Exit → Act → World → Prop}
/-- append(b, s...), s a text. -/
theorem aps (hgd : o.guard = none) (s x : Operand) (ho : o.op = .call { callee := .builtin .append, args := #[s, x], argTypes := #[41, 9] }) (B : Nat) (A : Option Addr) (n c : Nat) (xs : List UInt8) (hs : a.eval s = .slice A n c)
    (hown : OwnB w B A n c xs) (hb : Below B a0 w) (hB : B ≤ a0.heap.size) (t : ByteArray) (hx : a.eval x = .string t) (hlim : n + t.size ≤ 140737488355328)
    (h : ∀ A' c' w', OwnB w' B A' (n + t.size) c' (xs ++ t.data.toList) → Below B a0 w' → w.grownBy w' (A.map (·.block)) → wpList Tryz.prog ops Q rest (a.put o.dst (.slice A' (n + t.size) c')) w') : wpList Tryz.prog ops Q (o :: rest) a w := by
  obtain ⟨i, hi, hz, hs1, hby⟩ : ∃ i, Tryz.prog.info? 5 = some i ∧ i.zero = some (.int .u8 0) ∧ i.size = 1 ∧ i.bytes = 1 := by
    have := infoByte
    cases hq : Tryz.prog.info? 5 with
    | none => rw [hq] at this; cases this
    | some i =>
      rw [hq] at this
      simp at this
      exact ⟨i, rfl, this.1, this.2.1, this.2.2⟩
  refine Lib.wpList_append_own_string w hgd s x 41 9 ho B 5 i undBytes undString hi hz hs1 hby (.slice A n c) n (bvs xs) hs hown t hx (by unfold maxLen; omega) hlim (by have := hb.size; omega) ?_
  intro v' w' hown' hgr _
  rw [ownBlock_slice] at hgr
  have hbw : Below B a0 w' := hb.grown hgr (Nat.le_trans hB hb.size) (fun g hg => (OwnF.lies' hown.own hg).2.1)
  have hv : ∃ A' c', v' = .slice A' (n + t.size) c' := by
    rcases hown'.2 with ⟨rfl, hn⟩ | ⟨g, cap, cur, rfl, _⟩
    · exact ⟨none, 0, by rw [hn]⟩
    · exact ⟨_, _, rfl⟩
  obtain ⟨A', c', rfl⟩ := hv
  refine h A' c' w' ?_ hbw hgr
  have e : bvs (xs ++ t.data.toList) = bvs xs ++ Lib.strCells t := by unfold bvs Lib.strCells; rw [List.map_append]; rfl
  unfold OwnB
  rw [e]
  exact hown'
end
theorem joinL_take {l : List ByteArray} {i : Nat} (h : i < l.length) : joinL (l.take (i + 1)) = joinL (l.take i) ++ l[i].data.toList := by
  unfold joinL bytesS
  rw [List.take_succ_eq_append_getElem h, List.map_append, List.flatten_append, List.map_singleton, List.flatten_singleton]
/-- The two rows that are built. -/
structure AllR (w0 : World) (A1 : Option Addr) (n1 c1 : Nat) (bs : List UInt8) (A2 : Option Addr) (n2 c2 : Nat) (ls : List Int) (w : World) : Prop where
  b : OwnB w w0.heap.size A1 n1 c1 bs
  n : OwnF tI64 3 (fun _ => False) w w0.heap.size A2 n2 c2 ls
  below : Below w0.heap.size w0 w
theorem AllR.push1 {w0 w w' : World} {A1 A2 A' : Option Addr} {n1 c1 n2 c2 n' c' : Nat} {bs bs' : List UInt8} {ls : List Int} (h : AllR w0 A1 n1 c1 bs A2 n2 c2 ls w) (h1 : OwnB w' w0.heap.size A' n' c' bs') (h2 : Below w0.heap.size w0 w') (h3 : w.grownBy w' (A1.map (·.block))) : AllR w0 A' n' c' bs' A2 n2 c2 ls w' :=
  ⟨h1, h.n.grown h3 fun _ hg => ⟨fun h => h, types_apart h.b (OwnF.row1 oneI64 h.n).1 (by decide) hg⟩, h2⟩
theorem AllR.push2 {F : Nat → Prop} {w0 w w' : World} {o : Obj} {A1 A2 A' : Option Addr} {n1 c1 n2 c2 n' c' : Nat} {bs : List UInt8} {ls ls' : List Int} (h : AllR w0 A1 n1 c1 bs A2 n2 c2 ls w) (ha : ApdL tI64 3 F w0 (w.alloc o) w' w0.heap.size A2 A' n' c' ls') : AllR w0 A1 n1 c1 bs A' n' c' ls' w' :=
  ⟨own_u8 ⟨_, (h.b.own.alloc o).grown ha.grown fun _ hg => ⟨fun h => h, types_apart (OwnF.row1 oneI64 h.n).1 h.b (by decide) hg⟩⟩, ha.own.flat flatI64, ha.below⟩
set_option maxRecDepth 100000 in
set_option maxHeartbeats 4000000 in
theorem rall_any (F : Nat → Prop) (A : Option Addr) (n c : Nat) (l : List ByteArray) (w : World) (h : Sl tStr F w A n c l) (hn : n ≤ 4096) (hs : ∀ s ∈ l, s.size ≤ 300) :
    Calls Tryz.prog 108 #[.slice A n c] w fun e w' => ∃ A1 n1 c1 A2 n2 c2, e = .returned (.tuple #[.slice A1 n1 c1, .slice A2 n2 c2]) ∧ OwnB w' w.heap.size A1 n1 c1 (joinL l) ∧ OwnB w' w.heap.size A2 n2 c2 (lensB l) ∧ Below w.heap.size w w' := by
  have HH := Lib.hid h; have HL := Lib.hid h.len; have HS := Lib.hid hs
  have hr0 : AllR w _ 0 0 [] _ 0 0 [] ((w.alloc (.cells #[] 5)).alloc (.cells #[] 3)) :=
    ⟨(OwnB.new0 w w.heap.size (Nat.le_refl _)).keepB ((Below.refl _ _).alloc (Nat.le_refl _) _), OwnF.empty tI64 3 _ (w.alloc (.cells #[] 5)) w.heap.size (by simp) (fun _ hb => hb.elim), ((Below.refl _ _).alloc (Nat.le_refl _) _).alloc (by simp) _⟩
  have HR0 := Lib.hid hr0
  clear h hs hr0
  go_enter Tryz.func108, Tryz.ntmps108
  go_wp2_with fail
  go_loopw [4, 5, 6] (fun bv nv iv wr => ∃ (i : Nat) (A1 : Option Addr) (m c1 : Nat) (A2 : Option Addr) (c2 : Nat), i ≤ n ∧ m ≤ 300 * i ∧ iv = .int .i64 (i : Int) ∧ bv = .slice A1 m c1 ∧ nv = .slice A2 i c2 ∧ AllR w A1 m c1 (joinL (l.take i)) A2 i c2 ((l.take i).map fun s => (s.size : Int)) wr) (fun _ _ iv _ => n - (intOf iv).toNat)
  case atStart => exact ⟨0, _, 0, 0, _, 0, Nat.zero_le _, Nat.zero_le _, rfl, rfl, rfl, by simpa [joinL, bytesS] using HR0.out⟩
  case round =>
    obtain ⟨i, A1, m, c1, A2, c2, hi, hm, rfl, rfl, rfl, hr⟩ := hrel
    have HR := Lib.hid hr
    clear hr
    by_cases hlt : i < n
    · have hil : i < l.length := by rw [← HL.out]; exact hlt
      obtain ⟨b, o, u, rfl, _, hbl, hr, hc0⟩ := HH.out.at1 hil rfl
      obtain ⟨s, hs⟩ : ∃ s, s = l[i] := ⟨_, rfl⟩
      obtain ⟨hr, _⟩ := hr
      injection hr with hr; subst hr
      rw [← hs] at hc0
      have hsz : s.size ≤ 300 := by rw [hs]; exact HS.out _ (List.getElem_mem _)
      have HC0 := Lib.hid hc0
      have cl := kcell HR.out.below hc0
      have HT1 := Lib.hid (show joinL (l.take (i + 1)) = joinL (l.take i) ++ s.data.toList by rw [joinL_take hil, hs])
      have HT2 := Lib.hid (show (l.take (i + 1)).map (fun s => (s.size : Int)) = (l.take i).map (fun s => (s.size : Int)) ++ [(s.size : Int)] by rw [List.take_succ_eq_append_getElem hil, List.map_append, hs]; rfl)
      have hi0 : (0 : Int) ≤ (i : Int) := by omega
      have hi1 : (i : Int) < (n : Int) := by omega
      obtain ⟨z, hz⟩ : ∃ z, z = s.size := ⟨_, rfl⟩
      have HZ := Lib.hid hz
      clear hs hc0
      go_upto_region 7 with (first
        | (at_builtin; refine aps _ w rfl (.tmp 17) (.tmp 21) rfl w.heap.size A1 m c1 (joinL (l.take i)) rfl HR.out.b HR.out.below (Nat.le_refl _) s rfl (by omega) ?_; intro A3 c3 w3 h3 hb3 hg3; have HR3 := Lib.hid (HR.out.push1 h3 hb3 hg3); clear h3 hb3 hg3)
        | fail)
      clear cl
      have cl := kcell HR3.out.below HC0.out
      go_wp2_with (first
        | (at_builtin; refine apl1 (T := tI64) elemI64 w3 w rfl (.tmp 23) (.tmp 29) rfl w.heap.size A2 i c2 _ (by rfl) (fun _ => False) (fun _ => False) HR3.out.n HR3.out.below (Nat.le_refl _) _ (by rfl) [.int .i64 (s.size : Int)] (s.size : Int) ⟨rfl, by omega, by omega⟩ 3 rfl (fun _ _ _ _ h4 => h4) (by omega) ?_; intro A5 c5 w5 h5; have HR5 := Lib.hid (HR3.out.push2 h5); clear h5)
        | fail)
      go_roundw
      case rel => exact ⟨i + 1, A3, m + s.size, c3, A5, c5, by omega, by omega, by go_num, rfl, rfl, by rw [HT1.out, HT2.out]; exact HR5.out⟩
      case measure => simp [intOf]; omega
    · obtain rfl : i = n := by omega
      have e1 : l.take i = l := List.take_of_length_le (by rw [← HL.out]; exact Nat.le_refl _)
      rw [e1] at HR
      have HOK : Hid (NumOk false (l.map fun s => (s.size : Int))) := Lib.hid (by
        intro x hx
        obtain ⟨s, hs, rfl⟩ := List.mem_map.1 hx
        have := HS.out s hs
        exact ⟨by omega, by omega, .inr (by omega)⟩)
      have HLB := Lib.hid (show lensB l = rleB false (l.map fun s => (s.size : Int)) from rfl)
      clear e1
      go_wp2_with (first
        | (go_at_call 106; refine (c11 _ A2 i c2 _ wr (OwnF.sl HR.out.n) hn false HOK.out).mono ?_; rintro e w5 ⟨hb5, A5, n5, c5, rfl, ho5⟩; have HO5 := Lib.hid ho5; have HB5 := Lib.hid hb5; clear ho5 hb5)
        | fail)
      go_ret2
      exact ⟨A1, m, c1, A5, n5, c5, rfl, HR.out.b.keepB HB5.out, by rw [HLB.out]; exact HO5.out.down HR.out.below.size, HR.out.below.trans (HB5.out.mono HR.out.below.size)⟩
end Go.Proofs.YtpmglcachffojaaGreatDoor
