/- A part of what Puts leans on. -/
import Derived.Test.YtpmglcachffojaaGreatDoorZ38
import Derived.Test.YtpmglcachffojaaGreatDoorZ40
import Derived.Test.YtpmglcachffojaaGreatDoorZ42
set_option maxRecDepth 100000
set_option maxHeartbeats 16000000
namespace Go.Proofs.YtpmglcachffojaaGreatDoor
section
open Go Go.RowKit
theorem cellsSt : tSt.OnCells := Ty.OnCells.prod (Ty.Flat.cells xxO) (Ty.OnCells.prod (Ty.OnCells.sl (Ty.Flat.cells xxO)) (Ty.OnCells.sl (Ty.Flat.cells flatSS)))
structure TwoL (B : Nat) (D : List UInt8) (L : List ST) (A0 : Option Addr) (m0 c0 : Nat) (A7 : Option Addr) (k c7 : Nat) (F3 : Nat → Prop) (W : World) : Prop where
 d : OwnF tU8 5 (fun _ => False) W B A0 m0 c0 D
 s : OwnF tSt 97 F3 W B A7 k c7 L
 ap : ∀ b, A0 = some ⟨b, 0, none⟩ → B ≤ b → A7 ≠ some ⟨b, 0, none⟩ ∧ ¬ F3 b
 lt : ∀ b, F3 b → B ≤ b ∧ b < W.heap.size
section
variable {B : Nat} {D D' : List UInt8} {L L' : List ST} {A0 : Option Addr} {m0 c0 : Nat} {A7 : Option Addr} {k c7 : Nat} {F3 G : Nat → Prop} {W W' wa wb : World} {A' : Option Addr} {n' c' : Nat}
theorem TwoL.keep (h : TwoL B D L A0 m0 c0 A7 k c7 F3 W) (hs : W.heap.size ≤ W'.heap.size) (hk : ∀ b, B ≤ b → b < W.heap.size → W'.heap[b]? = W.heap[b]?) : TwoL B D L A0 m0 c0 A7 k c7 F3 W' :=
 ⟨h.d.keep hs (fun b hb hl => hk b (hb.elim False.elim (fun x => x.2)) hl), h.s.keep hs (fun b hb hl => hk b (hb.elim (fun x => (h.lt b x).1) (fun x => x.2)) hl), h.ap, fun b hb => ⟨(h.lt b hb).1, by have := (h.lt b hb).2; omega⟩⟩
theorem TwoL.call (h : TwoL B D L A0 m0 c0 A7 k c7 F3 W) (hb : Below W.heap.size W W') : TwoL B D L A0 m0 c0 A7 k c7 F3 W' := h.keep hb.size fun b _ hl => hb.block b hl
theorem TwoL.data (h : TwoL B D L A0 m0 c0 A7 k c7 F3 W) (ha : ApdL tU8 5 G wa W W' B A0 A' n' c' D') : TwoL B D' L A' n' c' A7 k c7 F3 W' := by
 have hs := ha.grown.size
 refine ⟨ha.own.flat qzf, h.s.grown ha.grown fun g e => ?_, fun b e hb => ?_, fun b hb => ⟨(h.lt b hb).1, by have := (h.lt b hb).2; omega⟩⟩
 · obtain ⟨e1, e2, _⟩ := h.d.lies' e
   exact ⟨(h.ap g e1 e2).2, (h.ap g e1 e2).1⟩
 · rcases ha.lies with h1 | h1
   · rw [e] at h1
     obtain ⟨e1, e2, _⟩ := h.d.lies' h1.symm
     exact h.ap b e1 e2
   · rw [e] at h1
     injection h1 with h1
     have h1 : b = W.heap.size := h1
     exact ⟨fun e7 => by have := (h.s.lies' (b := b) (by rw [e7]; rfl)).2.2; omega, fun hb => by have := (h.lt b hb).2; omega⟩
theorem TwoL.stride (h : TwoL B D L A0 m0 c0 A7 k c7 F3 W) (ha : ApdL tSt 97 (fun b => (F3 b ∨ G b) ∧ b < wb.heap.size) wa W W' B A7 A' n' c' L') (hw : wb.heap.size ≤ W.heap.size) (hG : ∀ b, G b → B ≤ b ∧ A0 ≠ some ⟨b, 0, none⟩) : TwoL B D L' A0 m0 c0 A' n' c' (fun b => (F3 b ∨ G b) ∧ b < wb.heap.size) W' := by
 have hs := ha.grown.size
 refine ⟨h.d.grown ha.grown fun g e => ⟨id, fun e0 => ?_⟩, ha.own, fun b e hb => ⟨fun e' => ?_, fun hb' => ?_⟩, fun b hb => ⟨?_, by have := hb.2; omega⟩⟩
 · obtain ⟨e1, e2, _⟩ := h.s.lies' e
   exact (h.ap g e0 e2).1 e1
 · rcases ha.lies with h1 | h1
   · rw [e'] at h1
     exact (h.ap b e hb).1 (h.s.lies' h1.symm).1
   · rw [e'] at h1
     injection h1 with h1
     have h1 : b = W.heap.size := h1
     have := (h.d.lies' (b := b) (by rw [e]; rfl)).2.2
     omega
 · rcases hb'.1 with h1 | h1
   · exact (h.ap b e hb).2 h1
   · exact (hG b h1).2 e
 · rcases hb.1 with h1 | h1
   · exact (h.lt b h1).1
   · exact (hG b h1).1
theorem TwoL.quiet (h : TwoL B D L A0 m0 c0 A7 k c7 F3 W) {row : Option Nat} (hg : W.grownBy W' row) (hr : ∀ r, row = some r → ∃ o : Obj, W.heap[r]? = some o ∧ o.isCells = false) : TwoL B D L A0 m0 c0 A7 k c7 (fun b => F3 b ∧ yyd W b) W' :=
 ⟨(h.d.quiet (Ty.Flat.cells qzf) hg hr).flat qzf, h.s.quiet cellsSt hg hr, fun b e hb => ⟨(h.ap b e hb).1, fun h1 => (h.ap b e hb).2 h1.1⟩, fun b hb => ⟨(h.lt b hb.1).1, by have := (h.lt b hb.1).2; have := hg.size; omega⟩⟩
end
theorem TwoL.nil_ (B : Nat) (W : World) : TwoL B [] [] none 0 0 none 0 0 (fun _ => False) W := ⟨OwnF.nil_ _ _ _ _ _, OwnF.nil_ _ _ _ _ _, fun b e _ => (by cases e), fun b h => h.elim⟩
def xx0 (cols : List CC) (rows : List RR) {m : Nat} (pre : List (Fin m)) : List UInt8 := (pre.map fun x => xxH cols (zz0 rows x.val) cols.length).flatten
def stF8 (cols : List CC) (rows : List RR) {m : Nat} (pre : List (Fin m)) : List ST := pre.map fun x => zzL cols (zz0 rows x.val)
theorem uuE {α : Type} (m : Nat) (f : Nat → α) : (List.finRange m).map (fun x => f x.val) = (List.range m).map f := by
 apply List.ext_getElem
 · simp
 · intro i h1 h2; simp
theorem dataF_all (cols : List CC) (rows : List RR) (m : Nat) : xx0 cols rows (List.finRange m) = vvG cols rows m := by unfold xx0 vvG; rw [uuE m fun j => xxH cols (zz0 rows j) cols.length]
theorem stF8_all (cols : List CC) (rows : List RR) (m : Nat) : stF8 cols rows (List.finRange m) = stR cols rows m := by unfold stF8 stR; rw [uuE m fun j => zzL cols (zz0 rows j)]
theorem xqp (cols : List CC) (rows : List RR) {m : Nat} (pre : List (Fin m)) (x : Fin m) : xx0 cols rows (pre ++ [x]) = xx0 cols rows pre ++ xxH cols (zz0 rows x.val) cols.length := by unfold xx0; simp
theorem stF8_snoc (cols : List CC) (rows : List RR) {m : Nat} (pre : List (Fin m)) (x : Fin m) : stF8 cols rows (pre ++ [x]) = stF8 cols rows pre ++ [zzL cols (zz0 rows x.val)] := by unfold stF8; simp
theorem zqc (cols : List CC) (rows : List RR) {m : Nat} (hc : cols.length ≤ 6) : ∀ pre : List (Fin m), (xx0 cols rows pre).length ≤ pre.length * 30000024
 | [] => by simp [xx0]
 | x :: r => by
   have ih := zqc cols rows hc r
   have h1 := xxm cols (zz0 rows x.val) (by rw [xxo]; omega) cols.length
   have h2 : cols.length * 5000004 ≤ 6 * 5000004 := Nat.mul_le_mul_right 5000004 hc
   show (xx0 cols rows ([x] ++ r)).length ≤ _
   rw [show xx0 cols rows ([x] ++ r) = xxH cols (zz0 rows x.val) cols.length ++ xx0 cols rows r by unfold xx0; simp, List.length_append, List.length_cons, Nat.succ_mul]
   omega
def SpI (cols : List CC) (rows : List RR) (B K : Nat) (wd : World) {m : Nat} (pre : List (Fin m)) (W : World) : Prop :=
 ∃ A0 m0 c0 A7 c7 F3, TwoL B (xx0 cols rows pre) (stF8 cols rows pre) A0 m0 c0 A7 pre.length c7 F3 W ∧ W.heap[K]? = some (.cells #[.slice A0 m0 c0] 41 (0, 0)) ∧ W.heap[K + 1]? = some (.cells #[.slice A7 pre.length c7] 42 (0, 0)) ∧ Below K wd W ∧ B ≤ W.heap.size
theorem SpI.own (cols : List CC) (rows : List RR) (B K : Nat) (wd : World) (m : Nat) (hK : K + 2 ≤ B) (hw : wd.heap.size = K) : OwnFrom B (SpI cols rows B K wd (m := m)) := fun pre W W' row hs hg hr => by
 obtain ⟨A0, m0, c0, A7, c7, F3, h1, h2, h3, h4, h5⟩ := hs
 have hr1 : ∀ r, row = some r → B ≤ r := fun r e => (hr r e).1
 exact ⟨A0, m0, c0, A7, c7, _, h1.quiet hg (fun r e => (hr r e).2), (hg.block K (by omega) (fun e => by have := hr1 _ e.symm; omega)).trans h2, (hg.block (K + 1) (by omega) (fun e => by have := hr1 _ e.symm; omega)).trans h3, h4.grown hg (by omega) (fun r e => by have := hr1 r e; omega), Nat.le_trans h5 hg.size⟩
end
section
open Go Go.RowKit
theorem nP_lt (rows : List RR) (k : Nat) : k < nP rows ↔ 8 * k < rows.length := by unfold nP; omega
theorem PR.setQ {B B1 : Nat} {D : List UInt8} {L : List Int} {M : List SS} {A0 : Option Addr} {m0 c0 : Nat} {A3 : Option Addr} {n3 c3 : Nat} {A4 : Option Addr} {n4 c4 : Nat} {col : Nat → Nat} {S : Nat} {w0 w : World} (h : PR B B1 D L M A0 m0 c0 A3 n3 c3 A4 n4 c4 col S w0 w) {b j : Nat} (hb : b < B1) (hc : col b ≠ 0) (h0 : w0.heap.size ≤ b) (v : Value) : PR B B1 D L M A0 m0 c0 A3 n3 c3 A4 n4 c4 col S w0 (w.setCell ⟨b, j, none⟩ v) :=
 ⟨h.q0.keep (by simp) (fun k _ _ _ hk => Below.heap_setCell w ⟨b, j, none⟩ v k (fun e => hc (by rw [show b = k from e.symm]; exact hk))), h.q1.setP hb v, h.q2.setP hb v, h.hB, by simpa using h.hS, zzf h.below h0 v, h.hB0, h.hB1, h.hB2⟩
theorem Col.slC {α : Type} {T : Ty α} {e : TypeId} {col : Nat → Nat} {i B S : Nat} {w : World} {A : Option Addr} {n c : Nat} {xs : List α} (h : Col T e col i B S w A n c xs) : Sl T (fun b => B ≤ b ∧ b < S ∧ col b = i) w A n c xs := by
 obtain ⟨F, h1, h2, h3⟩ := h
 refine h1.sl.weaken fun b hb _ => ?_
 rcases hb with hb | ⟨rfl, hb⟩
 · exact ⟨(h2 b hb).2.1, (h2 b hb).1, (h2 b hb).2.2⟩
 · exact ⟨hb, (h3 b rfl).1, (h3 b rfl).2⟩
def xxJ (col cl : Nat → Nat) (S T : Nat) (b : Nat) : Nat := if b < S then col b else if b < T ∧ cl b = 0 then 0 else 3
theorem uuF {col cl : Nat → Nat} {S T b : Nat} (h : b < S) : xxJ col cl S T b = col b := if_pos h
theorem uuG {col cl : Nat → Nat} {S T b : Nat} (h : ¬ b < S) (h2 : ¬ (b < T ∧ cl b = 0)) : xxJ col cl S T b = 3 := by unfold xxJ; rw [if_neg h, if_neg h2]
theorem uud {col cl : Nat → Nat} {S T b : Nat} (h : ∀ b, b < S → cl b = col b) (h1 : b < T) (h2 : cl b = 0) : xxJ col cl S T b = 0 := by
 unfold xxJ
 split
 · rename_i h3; rw [← h b h3]; exact h2
 · rw [if_pos ⟨h1, h2⟩]
theorem xqD {B S T : Nat} {col cl : Nat → Nat} {wr w' : World} {D : List UInt8} {A0 : Option Addr} {m0 c0 : Nat} {A7 A' : Option Addr} {n' c' : Nat} {L' : List ST} {G F3 : Nat → Prop} {obj : Obj}
 (hd : Col tU8 5 cl 0 B T wr A0 m0 c0 D) (f3 : ∀ b, F3 b → b < S ∧ B ≤ b ∧ col b = 3) (l3 : ∀ b, A7.map (·.block) = some b → b < S ∧ col b = 3) (hag : ∀ b, b < S → cl b = col b) (hST : S ≤ T) (hT : T ≤ wr.heap.size) (hBS : B ≤ S)
 (hG : ∀ b, G b → S ≤ b ∧ cl b ≠ 0) (ha : ApdL tSt 106 (fun b => (F3 b ∨ G b) ∧ b < wr.heap.size) wr (wr.alloc obj) w' B A7 A' n' c' L') :
 Col tU8 5 (xxJ col cl S T) 0 B w'.heap.size w' A0 m0 c0 D ∧ Col tSt 106 (xxJ col cl S T) 3 B w'.heap.size w' A' n' c' L' := by
 have hs := ha.grown.size
 rw [zS] at hs
 constructor
 · have h1 := hd.keep (w' := w') (by omega) (fun b hB hb hl hc => (ha.grown.block b (by rw [zS]; omega) (fun e => by
    have h2 := l3 b e.symm
    rw [← hag b h2.1, hc] at h2
    exact absurd h2.2 (by decide))).trans (Below.heap_alloc wr obj b hl))
   obtain ⟨F, o, f, l⟩ := h1
   exact ⟨F, o, fun b hb => ⟨by have := (f b hb).1; omega, (f b hb).2.1, uud hag (f b hb).1 (f b hb).2.2⟩, fun b hb => ⟨by have := (l b hb).1; omega, uud hag (l b hb).1 (l b hb).2⟩⟩
 · refine ⟨_, ha.own, fun b hb => ?_, fun b hb => ?_⟩
   · rcases hb.1 with h | h
     · exact ⟨by have := (f3 b h).1; omega, (f3 b h).2.1, (uuF (f3 b h).1).trans (f3 b h).2.2⟩
     · have h1 := hG b h
       exact ⟨by have := hb.2; omega, by omega, uuG (by omega) (fun h2 => h1.2 h2.2)⟩
   · have hl := (ha.own.lies' hb).2.2
     refine ⟨hl, ?_⟩
     rcases ha.lies with h | h
     · rw [h] at hb
       exact (uuF (l3 b hb).1).trans (l3 b hb).2
     · rw [hb] at h; injection h with h
       rw [zS] at h
       exact uuG (by omega) (fun h2 => by omega)
theorem zqe (rows : List RR) (k hi : Nat) (h : hi = min rows.length (8 * k + 8)) : (rows.take hi).drop (8 * k) = zz0 rows k := by
 unfold zz0
 rw [List.drop_take, List.take_eq_take_iff, List.length_drop]
 omega
theorem xqE (F F2 : Nat → Prop) (A A2 : Option Addr) (n c n2 c2 : Nat) (cols : List CC) (rows : List RR) (w : World) (h : Sl tCol F w A n c cols) (h2 : Sl tRow F2 w A2 n2 c2 rows) (hU : Lib.Utf8Tabs 0 1 w) (hs : schB cols = true) (h32 : rows.length ≤ 32) (hall : rows.all (rowB cols) = true) :
 Calls Tryz.prog 21 #[.slice A n c, .slice A2 n2 c2] w (uuD cols rows w) := by
 have HH := zH h; have HH2 := zH h2; have HL := zH h.len; have HL2 := zH h2.len; have HU := zH hU
 have hE := jjW hs h32 hall
 have HE := zH hE
 have HD := zH (jjX hE)
 have HS := zH (vvj hs)
 have HSB := zH hs
 have HN := zH (show n ≤ 6 by rw [h.len]; exact (uua hs).2)
 have HN32 := zH (show n2 ≤ 32 by rw [h2.len]; exact h32)
 rw [List.all_eq_true] at hall
 have HRB := zH hall
 have c1 : ¬ (n2 : Int) > 32 := by have := h2.len; omega
 have HC2 := zH (show n2 ≤ c2 from h2.2.1)
 clear h h2 hU hs h32 hall hE
 go_enter Tryz.func21, Tryz.ntmps21
 go_wp2_with (first
  | (go_at_call 56; refine (xxG F A n c cols _ HH.out).mono ?_; rintro e w1 ⟨rfl, hb1⟩; rw [HS.out]; have HB1 := zH hb1; clear hb1)
  | fail)
 clear c1
 go_loopw [8] (fun iv wr => ∃ i : Nat, i ≤ n2 ∧ iv = .int .i64 (i : Int) ∧ Below w.heap.size w wr) (fun iv _ => n2 - (intOf iv).toNat)
 case atStart => exact ⟨0, Nat.zero_le _, rfl, HB1.out⟩
 case round =>
  obtain ⟨i, hi, rfl, hb⟩ := hrel
  have HB := zH hb
  clear hb
  by_cases hlt : i < n2
  · have hil : i < rows.length := by rw [← HL2.out]; exact hlt
    obtain ⟨b, o, cs, rfl, _, _, hrep, hc⟩ := (HH2.out.below HB.out zN).at_ hil (by decide)
    obtain ⟨r, hr⟩ : ∃ r, r = rows[i] := ⟨_, rfl⟩
    rw [← hr] at hrep
    have hrb : rowB cols r = true := by rw [hr]; exact HRB.out _ (List.getElem_mem hil)
    obtain ⟨A3, n3, c3, rfl, h3⟩ := hrep
    have H3 := zH h3
    have y := hc 0 _ rfl
    have y : wr.cell? ⟨b, o + i, none⟩ = some (.slice A3 n3 c3) := by
     have e : o + (i * tRow.size + 0) = o + i := by show o + (i * 1 + 0) = o + i; omega
     rw [e] at y; exact y
    have i0 : (0 : Int) ≤ (i : Int) := by omega
    have i1 : (i : Int) < (n2 : Int) := by omega
    have i2 : (i : Int) ≤ 32 := by have := HN32.out; omega
    have HRE := zH (vvc hrb)
    have HN4 := zH (show n ≤ 4096 by have := HN.out; omega)
    clear hc hr h3 hrb
    go_wp2_with (first
     | (go_at_call 57; refine (kqY F _ A A3 n c n3 c3 cols r _ (HH.out.below HB.out zN) H3.out HN4.out (zzc HU.out HB.out)).mono ?_; rintro e w3 ⟨rfl, hb3⟩; rw [HRE.out]; have HB3 := zH (HB.out.trans (hb3.mono HB.out.size)); clear hb3)
     | fail)
    go_roundw
    case rel => exact ⟨i + 1, by omega, by go_num, HB3.out⟩
    case measure => simp [intOf]; omega
  · obtain rfl : i = n2 := by omega
    have q0 : ¬ (i : Int) < (i : Int) := by omega
    obtain ⟨w0, hw0⟩ : ∃ w0, w0 = wr := ⟨_, rfl⟩
    rw [← hw0] at HB ⊢
    have HZ0 := zH (show w.heap.size ≤ w0.heap.size from HB.out.size)
    have hc1 := Col.empty tU8 5 (fun b => if b = w0.heap.size then 0 else 3) 0 w.heap.size w0 HZ0.out (if_pos rfl)
    have hc2 := Col.empty tSt 106 (fun b => if b = w0.heap.size then 0 else 3) 3 w.heap.size (w0.alloc (.cells #[] 5)) (by rw [zS]; have := HZ0.out; omega) (by rw [zS]; exact if_neg (by omega))
    rw [zS] at hc2
    have HC1 := zH ((hc1.allocs (.cells #[] 106)).recol (S' := w0.heap.size + 1 + 1) (fun _ _ => rfl) (by omega))
    have HC2' := zH hc2
    have HB0 := zH (show Below w.heap.size w ((w0.alloc (.cells #[] 5)).alloc (.cells #[] 106)) from (HB.out.alloc HB.out.size _).alloc (by rw [zS]; have := HZ0.out; omega) _)
    clear hc1 hc2 hw0
    go_wp2_with fail
    go_loopw [9, 10, 11] (fun dv lv av wr => ∃ (k : Nat) (A0 : Option Addr) (m0 c0 : Nat) (A7 : Option Addr) (c7 : Nat) (col : Nat → Nat) (S : Nat), k ≤ nP rows ∧ av = .int .i64 ((8 * k : Nat) : Int) ∧ dv = .slice A0 m0 c0 ∧ lv = .slice A7 k c7 ∧
     Col tU8 5 col 0 w.heap.size S wr A0 m0 c0 (vvG cols rows k) ∧ Col tSt 106 col 3 w.heap.size S wr A7 k c7 (stR cols rows k) ∧ Below w.heap.size w wr ∧ w.heap.size ≤ S ∧ S ≤ wr.heap.size) (fun _ _ av _ => 100 - (intOf av).toNat)
    case atStart => exact ⟨0, _, _, _, _, _, _, w0.heap.size + 1 + 1, Nat.zero_le _, rfl, rfl, rfl, HC1.out, HC2'.out, HB0.out, by have := HZ0.out; omega, by simp⟩
    case round =>
     obtain ⟨k, A0, m0, c0, A7, c7, col, S, hk, rfl, rfl, rfl, hq0, hq3, hb, hS0, hS⟩ := hrel
     have HQ0 := zH hq0; have HQ3 := zH hq3; have HBR := zH hb; have HS0 := zH hS0; have HS1 := zH hS
     clear hq0 hq3 hb hS0 hS
     by_cases hlk : 8 * k < i
     · obtain ⟨hi', hhi⟩ : ∃ q, q = min i (8 * k + 8) := ⟨_, rfl⟩
       have HHI := zH hhi
       obtain ⟨lo, hlo⟩ : ∃ q, q = 8 * k := ⟨_, rfl⟩
       have HLO := zH hlo
       rw [← hlo] at hlk hhi ⊢
       have HPT := zH (HH2.out.cut (lo := lo) (hi := hi') (by omega) (by omega))
       have l0 : (0 : Int) ≤ (lo : Int) := by omega
       have l1 : (lo : Int) < (i : Int) := by omega
       have l2 : (lo : Int) ≤ 32 := by have := HN32.out; omega
       have hmin : min (i : Int) ((lo : Int) + 8) = (hi' : Int) := by omega
       have l3 : (lo : Int) ≤ (hi' : Int) := by omega
       have l4 : (hi' : Int) ≤ (c2 : Int) := by have := HC2.out; omega
       have l5 : ¬ (c2 = lo) := by have := HC2.out; omega
       have l6 : (0 : Int) ≤ (hi' : Int) := by omega
       have hpt := HPT.out
       rw [if_neg l5, show lo * tRow.size = lo from Nat.mul_one lo] at hpt
       have hP : (rows.take hi').drop lo = zz0 rows k := by rw [HLO.out]; exact zqe rows k hi' (by rw [HHI.out, HL2.out])
       rw [hP] at hpt
       obtain ⟨P, hPP⟩ : ∃ P, P = zz0 rows k := ⟨_, rfl⟩
       obtain ⟨AP, hAP⟩ : ∃ q, q = Option.map (fun x : Addr => x.add lo) A2 := ⟨_, rfl⟩
       obtain ⟨np, hnp⟩ : ∃ q, q = hi' - lo := ⟨_, rfl⟩
       obtain ⟨cp, hcp⟩ : ∃ q, q = c2 - lo := ⟨_, rfl⟩
       rw [← hPP, ← hAP, ← hnp, ← hcp] at hpt
       have HPS := zH hpt
       have HPP := zH hPP
       have HPM : Hid (∀ r ∈ P, r.length = n) := zH (fun r hr => by rw [HL.out]; exact uu3 (HRB.out r (xxp (by rw [← HPP.out]; exact hr))))
       have HN8 : Hid (np ≤ 8) := zH (by have h1 := hpt.len; rw [hPP, xxo] at h1; omega)
       have HHK : Hid (k < nP rows) := zH ((nP_lt rows k).2 (by rw [← HL2.out, ← HLO.out]; exact hlk))
       have HEK : Hid (∀ j, j < cols.length → colE (kd cols j) (colV P j) = 0) := zH (fun j hj => qxy HSB.out (fun r hr => HRB.out r (xxp (by rw [← HPP.out]; exact hr))) hj)
       clear hhi hlo hpt hP hPP
       go_upto_region 17 with fail
       rw [← hAP, ← hnp, ← hcp]
       clear hmin l3 l4 l5 l6 hAP hnp hcp
       obtain ⟨q, hq⟩ : ∃ q, q = wr.heap.size := ⟨_, rfl⟩
       have HQQ := zH hq
       obtain ⟨wl, hwl⟩ : ∃ wl, wl = wr.alloc (.cells #[.int .i64 (np : Int), .slice none 0 0, .slice none 0 0] 106) := ⟨_, rfl⟩
       have HGL : Hid (wl.heap[q]? = some (.cells #[.int .i64 (np : Int), .slice none 0 0, .slice none 0 0] 106 (0, 0))) := zH (by rw [hwl, hq]; exact heap_alloc_new wr _)
       have HZL : Hid (wl.heap.size = q + 1) := zH (by rw [hwl, zS, hq])
       have HBL : Hid (Below w.heap.size w wl) := zH (by rw [hwl]; exact HBR.out.alloc HBR.out.size _)
       have HQL0 : Hid (Col tU8 5 col 0 w.heap.size S wl A0 m0 c0 (vvG cols rows k)) := zH (by rw [hwl]; exact HQ0.out.allocs _)
       have HQL3 : Hid (Col tSt 106 col 3 w.heap.size S wl A7 k c7 (stR cols rows k)) := zH (by rw [hwl]; exact HQ3.out.allocs _)
       have HSQ : Hid (S ≤ q) := zH (by rw [hq]; exact HS1.out)
       go_upto_region 18 with fail
       rw [← hwl, ← hq]
       clear hwl hq
       go_wp2_with fail
       go_loopw [9, 14] (fun dv jv wx => ∃ (j : Nat) (A0 : Option Addr) (m0 c0 : Nat) (A3 : Option Addr) (c3 : Nat) (A4 : Option Addr) (c4 : Nat) (cl : Nat → Nat) (T : Nat), j ≤ n ∧ jv = .int .i64 (j : Int) ∧ dv = .slice A0 m0 c0 ∧
        PR w.heap.size (q + 1) (vvG cols rows k ++ xxH cols P j) (xxL cols P j) (xxI cols P j) A0 m0 c0 A3 j c3 A4 j c4 cl T w wx ∧
        wx.heap[q]? = some (.cells #[.int .i64 (np : Int), .slice A3 j c3, .slice A4 j c4] 106 (0, 0)) ∧ Col tSt 106 col 3 w.heap.size S wx A7 k c7 (stR cols rows k) ∧ Hid (∀ b, b < S → cl b = col b) ∧ Hid (cl q = 4)) (fun _ jv _ => n - (intOf jv).toNat)
       case atStart =>
        have h1 := HSQ.out
        have h2 := HS0.out
        exact ⟨0, A0, m0, c0, none, 0, none, 0, zzx col 4 S, q + 1, Nat.zero_le _, rfl, rfl, ⟨by rw [show xxH cols P 0 = [] from rfl, List.append_nil]; exact HQL0.out.recol (fun b hb => zzy _ _ _ _ hb) (by omega), Col.nil_ _ _ _ _ _ _ _, Col.nil_ _ _ _ _ _ _ _, by omega, by rw [HZL.out]; exact Nat.le_refl _, HBL.out, Nat.le_refl _, by omega, Nat.le_refl _⟩, HGL.out, HQL3.out, zH fun b hb => zzy _ _ _ _ hb, zH (yyW _ _ _ _ h1)⟩
       case round =>
        obtain ⟨j, A0, m0, c0, A3, c3, A4, c4, cl, T, hj, rfl, rfl, hpr, hgq, hq3, HAG, HCQ⟩ := hrel
        have HPR := zH hpr; have HGQ := zH hgq; have HQ3' := zH hq3; have HBX := zH hpr.below
        clear hpr hgq hq3
        by_cases hjn : j < n
        · have hjl : j < cols.length := by rw [← HL.out]; exact hjn
          have j0 : (0 : Int) ≤ (j : Int) := by omega
          have j1 : (j : Int) < (n : Int) := by omega
          have j2 : (j : Int) ≤ 6 := by have := HN.out; omega
          have HNP : Hid (np ≤ 4096) := zH (by have := HN8.out; omega)
          go_upto_region 22 with (first
           | (go_at_call 58; refine (zqB F2 AP np cp P n j _ (HPS.out.below HBX.out zN) HPM.out hjn HNP.out).mono ?_; rintro e w2 ⟨A5, c5, rfl, ho5, hb5⟩; have HO5 := zH ho5; have HB5 := zH hb5; clear ho5 hb5)
           | fail)
          have HBX2 := zH (HBX.out.trans (HB5.out.mono HBX.out.size))
          obtain ⟨b, o, cs, rfl, _, _, hrep, hc⟩ := HH.out.at_ hjl (by decide)
          obtain ⟨⟨nm, kv⟩, hx⟩ : ∃ x, x = cols[j] := ⟨_, rfl⟩
          rw [← hx] at hrep
          obtain ⟨rfl, -, -, -⟩ := yys hrep
          dsimp only at hc
          have HKV := zH (show kv = kd cols j from (kd_at hjl hx).symm)
          obtain ⟨g0w, g1w⟩ := xxN hc
          have G1 := zH g1w
          have g1 := zze HBX2.out g1w
          clear g0w g1w
          obtain ⟨V, hV⟩ : ∃ V, V = colV P j := ⟨_, rfl⟩
          obtain ⟨⟨q1, q2, q3, ss⟩, hcr⟩ : ∃ cr, cr = colR kv V := ⟨_, rfl⟩
          have hVl : V.length = np := by rw [hV, uuV, ← HPS.out.len]
          have hO : OwnF tVV 74 (fun _ => False) w2 wr.heap.size A5 np c5 V := by rw [hV]; exact HO5.out
          have HOV := zH hO
          have hcp := xqC kv _ A5 np c5 V w2 hO.sl HNP.out (zzc HU.out HBX2.out)
          have hE0 : colE kv V = 0 := by rw [hV, HKV.out]; exact HEK.out j hjl
          unfold yyu at hcp
          rw [← hcr, hE0] at hcp
          dsimp only at hcp
          have HCP := zH hcp
          have hwl := qza kv V (by rw [hVl]; exact HNP.out)
          have hfew := kq9 kv V
          rw [← hcr] at hwl hfew
          dsimp only at hwl hfew
          have hch : yyx q1 q2 q3 ss = chJ cols P j := by unfold chJ chB; rw [← HKV.out, ← hV, ← hcr]
          have hchl := zqK kv V (by rw [hVl]; exact HNP.out)
          have hchl : (yyx q1 q2 q3 ss).length ≤ 5000004 := by rw [hch]; unfold chJ; rw [← HKV.out, ← hV]; exact hchl
          have HST := zH (show zzs kv V = zzs (kd cols j) (colV P j) by rw [HKV.out, hV])
          have HFIT := zH (jjP kv V (zqD hO.sl) (by rw [hVl]; exact HNP.out))
          have HWL := zH hwl; have HFEW := zH hfew; have HCH := zH hch; have HCHL := zH hchl
          clear hc hx hrep hcr hcp hwl hfew hch hchl hE0 hV hO hVl
          go_upto_region 23 with (first
           | (go_at_call 13; refine HCP.out.mono ?_; rintro e w5 ⟨A6, n6, c6, rfl, hs6, hb5⟩; have HS6 := zH hs6; have HB55 := zH hb5; clear hs6 hb5)
           | fail)
          obtain ⟨w6, hw6⟩ : ∃ w6, w6 = w5.alloc (.cells #[.int .i64 q1, .int .i64 q2, .int .i64 q3, .slice A6 n6 c6] 27) := ⟨_, rfl⟩
          rw [← hw6]
          have hg6 : w6.heap[w5.heap.size]? = some (.cells #[.int .i64 q1, .int .i64 q2, .int .i64 q3, .slice A6 n6 c6] 27 (0, 0)) := by rw [hw6]; exact heap_alloc_new w5 _
          have k0 : w6.cell? ⟨w5.heap.size, 0, none⟩ = some (.int .i64 q1) := by rw [zC hg6]; rfl
          have k1 : w6.cell? ⟨w5.heap.size, 1, none⟩ = some (.int .i64 q2) := by rw [zC hg6]; rfl
          have k2 : w6.cell? ⟨w5.heap.size, 2, none⟩ = some (.int .i64 q3) := by rw [zC hg6]; rfl
          have k3 : w6.cell? ⟨w5.heap.size, 3, none⟩ = some (.slice A6 n6 c6) := by rw [zC hg6]; rfl
          have HB6 := zH (show Below w2.heap.size w2 w6 by rw [hw6]; exact HB55.out.alloc HB55.out.size _)
          have HS66 : Hid (Sl zzw (fun b => w2.heap.size ≤ b) w6 A6 n6 c6 ss) := zH (by rw [hw6]; exact HS6.out.alloc _)
          have HN6 : Hid (n6 ≤ 1000) := zH (by rw [HS6.out.len]; have := HFEW.out; omega)
          clear hw6 hg6 g1
          go_upto_region 24 with (first
           | (go_at_call 30; refine (kq5 q1 q2 q3 _ A6 n6 c6 ss _ HS66.out HN6.out (by have := HWL.out; omega)).mono ?_; rintro e w7 ⟨A8, n7, c8, rfl, ho7, hb7⟩; have HO7 := zH ho7; have HB7 := zH hb7; clear ho7 hb7)
           | fail)
          clear k0 k1 k2 k3
          have HBR7 : Hid (Below wr.heap.size wr w7) := zH ((HB5.out.trans (HB6.out.mono HB5.out.size)).trans (HB7.out.mono (Nat.le_trans HB5.out.size HB6.out.size)))
          have HP7 := zH (HPR.out.call HBR7.out)
          have HQ37 := zH (HQ3'.out.keepB HBR7.out)
          have HG7 := zH ((HBR7.out.block _ (zzb HGQ.out)).trans HGQ.out)
          have hm0 : m0 ≤ 4 * 30000024 + 6 * 5000004 := by
           have h0 := HP7.out.q0.len
           rw [List.length_append] at h0
           have h1 := qz9 cols rows (by rw [← HL.out]; exact HN.out) k
           have h2 := xxm cols P (by rw [← HPS.out.len]; exact HNP.out) j
           have h3 : k * 30000024 ≤ 4 * 30000024 := Nat.mul_le_mul_right 30000024 (by have h4 := HHK.out; have h5 := HN32.out; have h6 := HL2.out; unfold nP at h4; omega)
           have h7 : j * 5000004 ≤ 6 * 5000004 := Nat.mul_le_mul_right 5000004 (by omega)
           rw [h0]
           exact Nat.add_le_add (Nat.le_trans h1 h3) (Nat.le_trans h2 h7)
          have hn7 : n7 ≤ 5000004 := by rw [HO7.out.len]; exact HCHL.out
          have HLIM : Hid (m0 + n7 ≤ 68719476736) := zH (by omega)
          have HN7 := zH hn7
          obtain ⟨F0, o0, f0, l0'⟩ := HP7.out.q0
          have HT7 : Hid (T ≤ w6.heap.size) := zH (Nat.le_trans HPR.out.hS (Nat.le_trans HB5.out.size HB6.out.size))
          have HSL7 : Hid (Sl tU8 (fun b => T ≤ b) w7 A8 n7 c8 (yyx q1 q2 q3 ss)) := zH (HO7.out.own.sl.weaken (fun b hb _ => by
           rcases hb with hb | hb
           · exact hb.elim
           · exact Nat.le_trans HT7.out hb.2))
          have O0 := zH o0; have F0' := zH f0; have L0 := zH l0'
          have HBS : Hid (w.heap.size ≤ w7.heap.size) := zH HP7.out.below.size
          clear o0 f0 l0' hm0 hn7
          go_upto_region 25 with (first
           | (at_builtin; refine apl (T := tU8) zzK w7 w7 rfl (.tmp 80) (.tmp 81) rfl w.heap.size A0 m0 c0 _ (by rfl) F0 (fun b => T ≤ b) O0.out (zR) HBS.out A8 n7 c8 _ (by rfl) HSL7.out (fun b hb _ _ hg => by have := (L0.out b (by rw [hb]; rfl)).1; omega) HLIM.out ?_; intro A9 c9 w8 h8)
           | fail)
          have hq8 := HP7.out.data F0'.out L0.out (fun _ h => h) h8
          rw [HCH.out, List.append_assoc, ← uut] at hq8
          have HP8 := zH hq8
          have HB78 : Hid (∀ b, b < w7.heap.size → cl b ≠ 0 → w8.heap[b]? = w7.heap[b]?) := zH (fun b hl hc => zzU HP7.out.q0 h8.grown hl (.inr (.inr hc)))
          have HG8 := zH ((HB78.out q (zzb HG7.out) (by rw [HCQ.out]; decide)).trans HG7.out)
          have HQ38 := zH (HQ37.out.keep h8.grown.size (fun b _ hb hl hc => HB78.out b hl (by rw [HAG.out b hb, hc]; decide)))
          have HTW : Hid (q + 1 ≤ T ∧ S ≤ q) := zH ⟨HPR.out.hB2, HSQ.out⟩
          have HV8 : Hid (Sl tVV (fun b => T ≤ b ∧ b < w8.heap.size) w8 A5 np c5 V) := zH (by
           have h1 := (HOV.out.keepB (HB6.out.trans (HB7.out.mono HB6.out.size))).sl.weaken (F' := fun b => T ≤ b) (fun b hb _ => by
            rcases hb with hb | hb
            · exact hb.elim
            · exact Nat.le_trans HPR.out.hS hb.2)
           exact (h1.keep h8.grown.size (fun b hb hl => zzU HP7.out.q0 h8.grown hl (.inr (.inl hb)))).weaken (fun b hb hl => ⟨hb, hl⟩))
          clear hq8 h8
          have d1 : w8.cell? ⟨q, 1, none⟩ = some (.slice A3 j c3) := by rw [zC HG8.out]; rfl
          obtain ⟨F1, o1, f1, l1'⟩ := HP8.out.q1
          have O1 := zH o1; have F1' := zH f1; have L1 := zH l1'
          have HBS8 : Hid (q + 1 ≤ w8.heap.size) := zH (Nat.le_trans HP8.out.hB2 HP8.out.hS)
          clear o1 f1 l1'
          have HLJ : Hid (j ≤ 34359738368) := zH (by omega)
          go_upto_region 26 with (first
           | (at_builtin; refine apl1 (T := tI64) zzQ w8 w8 rfl (.tmp 84) (.tmp 87) rfl (q + 1) A3 j c3 (xxL cols P j) (by rfl) F1 (fun _ => False) O1.out (zR) HBS8.out _ (by rfl) [.int .i64 (n7 : Int)] (n7 : Int) ⟨rfl, by have := HN7.out; omega⟩ 3 rfl (fun _ _ _ _ h => h) HLJ.out ?_; intro A10 c10 w9 h9; have hqa := HP8.out.call (w' := w8.alloc (.cells #[.int .i64 (n7 : Int)] 3)) ((zR).alloc zN _); have HP9 := zH (hqa.long F1'.out L1.out (fun _ h => h.elim) h9); have HB89 : Hid (∀ b, b < w8.heap.size → (b < q + 1 ∨ zzx cl 0 T b ≠ 1) → w9.heap[b]? = w8.heap[b]?) := zH (fun b hl hb => (zzU hqa.q1 h9.grown (by rw [zS]; exact Nat.lt_succ_of_lt hl) (hb.elim .inl (fun h => .inr (.inr h)))).trans (Below.heap_alloc w8 _ b hl)); have hg9 := (HB89.out q (zzb HG8.out) (.inl (Nat.lt_succ_self q))).trans HG8.out; have HG9 := zH hg9; have HS89 : Hid (w8.heap.size ≤ w9.heap.size) := zH (by have h1 := h9.grown.size; rw [zS] at h1; omega); have z1 : w9.cell? ⟨q, 1, none⟩ = some (.slice A3 j c3) := (by rw [zC hg9]; rfl); have y1 := zF hg9 1; clear hqa hg9 h9)
           | fail)
          clear d1 z1 y1
          have hcq : zzx (zzx cl 0 T) 1 w8.heap.size q = 4 := by
           rw [zzy _ _ _ _ (zzb HG8.out), zzy _ _ _ _ (by have := HTW.out.1; omega)]; exact HCQ.out
          have HCQ9 := zH hcq
          have HAG9 : Hid (∀ b, b < S → zzx (zzx cl 0 T) 1 w8.heap.size b = col b) := zH (fun b hb => by
           have h1 := HTW.out; have h2 := zzb HG8.out
           rw [zzy _ _ _ _ (by omega), zzy _ _ _ _ (by omega)]; exact HAG.out b hb)
          obtain ⟨w10, hw10⟩ : ∃ w10, w10 = w9.setCell ⟨q, 1, none⟩ (.slice A10 (j + 1) c10) := ⟨_, rfl⟩
          have hp10 : PR w.heap.size (q + 1) (vvG cols rows k ++ xxH cols P (j + 1)) (xxL cols P j ++ [(n7 : Int)]) (xxI cols P j) A9 (m0 + n7) c9 A10 (j + 1) c10 A4 j c4 (zzx (zzx cl 0 T) 1 w8.heap.size) w9.heap.size w w10 := by rw [hw10]; exact HP9.out.setQ (Nat.lt_succ_self q) (by rw [hcq]; decide) (by have := HTW.out.2; have := HS0.out; omega) _
          have hg10 : w10.heap[q]? = some (.cells #[.int .i64 (np : Int), .slice A10 (j + 1) c10, .slice A4 j c4] 106 (0, 0)) := by rw [hw10]; exact zza HG9.out rfl
          have hq310 : Col tSt 106 col 3 w.heap.size S w10 A7 k c7 (stR cols rows k) := by
           rw [hw10]
           exact (HQ38.out.keep HS89.out (fun b _ hb hl _ => HB89.out b hl (.inl (by have := HTW.out.2; omega)))).keep (by simp) (fun b _ hb _ _ => Below.heap_setCell w9 ⟨q, 1, none⟩ _ b (by have := HTW.out.2; show b ≠ q; omega))
          have hv10 : Sl tVV (fun b => T ≤ b ∧ b < w8.heap.size) w10 A5 np c5 V := by
           rw [hw10]
           exact (HV8.out.keep HS89.out (fun b hb hl => HB89.out b hl (.inr (by rw [yyW _ _ _ _ hb.1]; decide)))).setCell (fun h => by have h1 : T ≤ q := h.1; have := HTW.out.1; omega) _
          have d2 : w10.cell? ⟨q, 2, none⟩ = some (.slice A4 j c4) := by rw [zC hg10]; rfl
          have kk := zze hp10.below G1.out
          have kk : w10.drew.cell? ⟨b, o + j * 2 + 1, none⟩ = some (.int .i64 kv) := kk
          have d20 : w10.drew.cell? ⟨q, 2, none⟩ = some (.slice A4 j c4) := d2
          have HP10 := zH hp10; have HG10 := zH hg10; have HQ310 := zH hq310; have HV10 := zH hv10
          obtain ⟨z, hz⟩ : ∃ z, z = zzs kv V := ⟨_, rfl⟩
          have HZ := zH (hz.trans HST.out)
          have HFZ : Hid z.fit := zH (by rw [hz]; exact HFIT.out)
          have HSO : Hid (∀ (F : Nat → Prop) (w : World), Sl tVV F w A5 np c5 V → Calls Tryz.prog 59 #[.int .i64 kv, .slice A5 np c5] w fun e w' => e = .returned (.agg #[.int .i64 z.count, .bool z.hasNull, .bool z.min.null, .int .i64 z.min.n, .string z.min.s, .bool z.max.null, .int .i64 z.max.n, .string z.max.s, .int .i64 z.sum, .bool z.over]) ∧ Below w.heap.size w w') := zH (by rw [hz]; exact fun F w h => r17of_any kv F A5 np c5 V w h HNP.out)
          have HM8 : Hid ((n7 : Int) = ((chJ cols P j).length : Int)) := zH (by rw [← HCH.out, ← HO7.out.len])
          rw [← hw10]
          clear hw10 hp10 hg10 hq310 hv10 hz hcq
          obtain ⟨cl9, hcl9⟩ : ∃ f, f = zzx (zzx cl 0 T) 1 w8.heap.size := ⟨_, rfl⟩
          rw [← hcl9] at HP10 HCQ9 HAG9
          clear hcl9
          refine regL [(some 10, fun w' => w'.cell? ⟨q, 2, none⟩ = some (.slice A4 j c4)), (some 8, (fun w' => w'.cell? ⟨b, o + j * 2 + 1, none⟩ = some (.int .i64 kv)))] (by kernel_rfl) ?_ (fun hHeld => ?_)
          · exact ⟨fun h => (by first | exact gone (c := 10) (by decide +kernel) h | (dsimp only; with_reducible exact d20) | (dsimp only; with_reducible exact d211) | (dsimp only; with_reducible exact da11 _) | exact da11 _ | fail), fun h => (by first | exact gone (c := 8) (by decide +kernel) h | (dsimp only; with_reducible exact kk) | fail), trivial⟩
          iterate 4
           all_goals
            repeat ((first | (refine tkP 0 (oi := ⟨_, _, _, _, _, _⟩) (v := ?_) rfl (by decide +kernel) rfl (fun _ _ _ h => h) rfl hHeld ?_ ?_) | (refine tkL 1 0 rfl (oi := ⟨_, _, _, _, _, _⟩) (v := ?_) rfl (by decide +kernel) rfl (fun _ _ _ h => h) rfl hHeld ?_ ?_) | (refine tkP 2 (oi := ⟨_, _, _, _, _, _⟩) (v := ?_) rfl (by decide +kernel) rfl (fun _ _ _ h => h) rfl hHeld ?_ ?_) | (refine tkP 3 (oi := ⟨_, _, _, _, _, _⟩) (v := ?_) rfl (by decide +kernel) rfl (fun _ _ _ h => h) rfl hHeld ?_ ?_) | (refine tkP 4 (oi := ⟨_, _, _, _, _, _⟩) (v := ?_) rfl (by decide +kernel) rfl (fun _ _ _ h => h) rfl hHeld ?_ ?_) | (refine tkP 5 (oi := ⟨_, _, _, _, _, _⟩) (v := ?_) rfl (by decide +kernel) rfl (fun _ _ _ h => h) rfl hHeld ?_ ?_) | (refine tkL 6 1 rfl (oi := ⟨_, _, _, _, _, _⟩) (v := ?_) rfl (by decide +kernel) rfl (fun _ _ _ h => h) rfl hHeld ?_ ?_) | (refine tkP 7 (oi := ⟨_, _, _, _, _, _⟩) (v := ?_) rfl (by decide +kernel) rfl (fun _ _ _ h => h) rfl hHeld ?_ ?_) | (refine tkP 11 (oi := ⟨_, _, _, _, _, _⟩) (v := ?_) rfl (by decide +kernel) rfl (fun _ _ _ h => h) rfl hHeld ?_ ?_)); rotate_left; (focus (intro w; (try intro hSw); (try dsimp only at hSw); go_simp; try with_reducible rfl)); intro hHeld; (try simp only [Act.put]); (try simp only [List.setIfInBounds_toArray]); (try simp only [List.set_cons_succ]); (try simp only [List.set_cons_zero]))
            first | (refine rd1 8 (o := ⟨_, _, _, _, _, _⟩) (by decide +kernel) rfl (fun K hK => ?_)) | (refine rd1 9 (o := ⟨_, _, _, _, _, _⟩) (by decide +kernel) rfl (fun K hK => ?_)) | (refine rd1 10 (o := ⟨_, _, _, _, _, _⟩) (by decide +kernel) rfl (fun K hK => ?_)) | (refine rd1 12 (o := ⟨_, _, _, _, _, _⟩) (by decide +kernel) rfl (fun K hK => ?_))
           all_goals
            first | (refine atD 98 rfl ?_; refine uuC rfl 59 Tryz.func59 (by kernel_rfl) (by kernel_rfl) (.tmp 96) (.tmp 97) _ rfl (.int .i64 kv) (.slice A5 np c5) rfl rfl (HSO.out _ _ (HV10.out.drew)) ?_; rintro e w11 ⟨rfl, hb11'⟩; have hb11 : Below w10.heap.size w10 w11 := ((zR).drew).trans hb11'; have HP11 := zH (HP10.out.call hb11); have hg11 := (hb11.block _ (zzb HG10.out)).trans HG10.out; have HG11 := zH hg11; have HQ311 := zH (HQ310.out.keepB hb11); have kk11 := zze HP11.out.below G1.out; have ka11 : ∀ ob : Obj, (w11.alloc ob).cell? ⟨b, o + j * 2 + 1, none⟩ = some (.int .i64 kv) := (fun ob => zze (HP11.out.below.alloc HP11.out.below.size ob) G1.out); have d211 : w11.cell? ⟨q, 2, none⟩ = some (.slice A4 j c4) := (by rw [zC hg11]; rfl); have da11 : ∀ ob : Obj, (w11.alloc ob).cell? ⟨q, 2, none⟩ = some (.slice A4 j c4) := (fun ob => by rw [zC ((Below.heap_alloc w11 ob _ (zzb hg11)).trans hg11)]; rfl); obtain ⟨F2', o2, f2, l2'⟩ := HP11.out.q2; have O2 := zH o2; have F2'' := zH f2; have L2 := zH l2'; have HBS11 : Hid (q + 1 ≤ w11.heap.size) := zH (Nat.le_trans HP11.out.hB2 HP11.out.hS); clear hg11 hb11 hb11' o2 f2 l2'; refine ⟨_, rfl, ?_⟩) | (refine atD 100 rfl ?_; refine yy9 (T := tSS) elemSS w11 w11 rfl (.tmp 91) (.tmp 99) rfl (q + 1) A4 j c4 (xxI cols P j) (by rfl) F2' (fun _ => False) O2.out (zR) HBS11.out _ (by rfl) (vvF z) z ⟨rfl, HFZ.out⟩ 109 rfl (fun _ _ _ _ h => h) HLJ.out ?_; intro A12 c12 w12 h12; have hqa := HP11.out.call (w' := w11.alloc (.cells (vvF z).toArray 109)) ((zR).alloc zN _); have HP12 := zH (hqa.stat F2''.out L2.out (fun _ h => h.elim) h12); have HB1112 : Hid (∀ b, b < w11.heap.size → b < q + 1 → w12.heap[b]? = w11.heap[b]?) := zH (fun b hl hb => (zzU hqa.q2 h12.grown (by rw [zS]; exact Nat.lt_succ_of_lt hl) (.inl hb)).trans (Below.heap_alloc w11 _ b hl)); have hg12 := (HB1112.out q (zzb HG11.out) (Nat.lt_succ_self q)).trans HG11.out; have HG12 := zH hg12; have HS1112 : Hid (w11.heap.size ≤ w12.heap.size) := zH (by have h1 := h12.grown.size; rw [zS] at h1; omega); have kk12 := zze HP12.out.below G1.out; have z2 : w12.cell? ⟨q, 2, none⟩ = some (.slice A4 j c4) := (by rw [zC hg12]; rfl); have y2 := zF hg12 2; have kt12 : (w12.setCell ⟨q, 2, none⟩ (.slice A12 (j + 1) c12)).cell? ⟨b, o + j * 2 + 1, none⟩ = some (.int .i64 kv) := zze (zzf HP12.out.below (by have := HTW.out.2; have := HS0.out; show w.heap.size ≤ q; omega) _) G1.out; clear hqa hg12 h12) | (go_simp; (fail)) | go_simp
            refine hK.out _ _ ?_ (fun hHeld => ?_)
            · (try dsimp only); exact ⟨fun h => (by first | exact gone (c := 10) (by decide +kernel) h | (dsimp only; with_reducible exact d20) | (dsimp only; with_reducible exact d211) | (dsimp only; with_reducible exact da11 _) | exact da11 _ | fail), fun h => (by first | exact gone (c := 8) (by decide +kernel) h | (dsimp only; with_reducible exact kk) | fail), trivial⟩
            clear hK K; (try simp only [Act.put]); (try simp only [List.setIfInBounds_toArray]); (try simp only [List.set_cons_succ]); (try simp only [List.set_cons_zero])
          all_goals
           refine qzw (by decide +kernel) ?_ _
           go_wp2_with fail
           go_roundw
           case rel =>
            have hsq := HTW.out.2
            have hws := HS0.out
            exact ⟨j + 1, A9, m0 + n7, c9, A10, c10, A12, c12, _, _, by omega, by go_num, rfl, by rw [kqr, kqs, ← HM8.out, ← HZ.out]; exact HP12.out.setQ (Nat.lt_succ_self q) (by rw [zzy _ _ _ _ (zzb HG9.out), HCQ9.out]; decide) (by omega) _, zza HG12.out rfl, (HQ311.out.keep HS1112.out (fun b _ hb hl _ => HB1112.out b hl (by omega))).keep (by simp) (fun b _ hb _ _ => Below.heap_setCell w12 ⟨q, 2, none⟩ _ b (by show b ≠ q; omega)), zH (fun b hb => by rw [zzy _ _ _ _ (by have := zzb HG9.out; omega)]; exact HAG9.out b hb), zH (by rw [zzy _ _ _ _ (zzb HG9.out)]; exact HCQ9.out)⟩
           case measure => simp [intOf]; omega
        · obtain rfl : j = n := by omega
          have hg := HGQ.out
          have d0 : wr.cell? ⟨q, 0, none⟩ = some (.int .i64 (np : Int)) := by rw [zC hg]; rfl
          have d1 : wr.cell? ⟨q, 1, none⟩ = some (.slice A3 j c3) := by rw [zC hg]; rfl
          have d2 : wr.cell? ⟨q, 2, none⟩ = some (.slice A4 j c4) := by rw [zC hg]; rfl
          have HSTR : Hid ((((np : Int), xxL cols P j, xxI cols P j) : ST) = zzL cols P) := zH (by unfold zzL; rw [← HPS.out.len, ← HL.out])
          have HGR : Hid (tSt.rep (fun b => (q + 1 ≤ b ∧ b < T) ∧ cl b ≠ 0) wr [.int .i64 (np : Int), .slice A3 j c3, .slice A4 j c4] ((np : Int), xxL cols P j, xxI cols P j)) := zH
           ⟨[.int .i64 (np : Int)], _, rfl, ⟨rfl, by have := HN8.out; omega, by have := HN8.out; omega⟩, _, _, rfl, ⟨A3, j, c3, rfl, HPR.out.q1.slC.weaken fun b hb _ => ⟨⟨hb.1, hb.2.1⟩, by rw [hb.2.2]; decide⟩⟩, A4, j, c4, rfl, HPR.out.q2.slC.weaken fun b hb _ => ⟨⟨hb.1, hb.2.1⟩, by rw [hb.2.2]; decide⟩⟩
          obtain ⟨F3, o3, f3, l3'⟩ := HQ3'.out
          have O3 := zH o3; have F3' := zH f3; have L3 := zH l3'
          have HBW : Hid (w.heap.size ≤ wr.heap.size) := zH HBX.out.size
          have HK5 : Hid (k ≤ 34359738368) := zH (by have h1 := HHK.out; have h2 := HN32.out; have h3 := HL2.out; unfold nP at h1; omega)
          clear hg o3 f3 l3'
          go_wp2_with (first
           | (at_builtin; refine apl1 (T := tSt) elemRSt wr wr rfl (.tmp 102) (.tmp 104) rfl w.heap.size A7 k c7 (stR cols rows k) (by rfl) F3 (fun b => (q + 1 ≤ b ∧ b < T) ∧ cl b ≠ 0) O3.out (zR) HBW.out _ (by rfl) [.int .i64 (np : Int), .slice A3 j c3, .slice A4 j c4] ((np : Int), xxL cols P j, xxI cols P j) HGR.out 106 rfl (fun b h1 _ _ h4 => by have h5 := (L3.out b (by rw [h1]; rfl)).1; have h6 := HSQ.out; omega) HK5.out ?_; intro A13 c13 w13 h13)
           | fail)
          have hres := xqD HPR.out.q0 F3'.out L3.out HAG.out (by have h1 := HSQ.out; have h2 := HPR.out.hB2; omega) HPR.out.hS HS0.out (fun b hb => ⟨by have h1 := HSQ.out; omega, hb.2⟩) h13
          have hbb : Below w.heap.size w w13 := (HBX.out.alloc HBW.out _).grown h13.grown (by rw [zS]; have := HBW.out; omega) (fun g e => by
           have h1 := (HQ3'.out.lies e).1; exact h1)
          have hs13 := h13.grown.size
          rw [zS] at hs13
          rw [HSTR.out, show stR cols rows k ++ [zzL cols P] = stR cols rows (k + 1) by rw [stR_succ, ← HPP.out]] at hres
          have hfd : vvG cols rows k ++ xxH cols P j = vvG cols rows (k + 1) := by rw [kqz, ← HPP.out, HL.out]
          rw [hfd] at hres
          have HRES := zH hres; have HBB := zH hbb
          have HS13 : Hid (w.heap.size ≤ w13.heap.size) := zH (by have := HBW.out; omega)
          go_roundw
          case rel => exact ⟨k + 1, A0, m0, c0, A13, c13, _, w13.heap.size, HHK.out, by rw [HLO.out]; congr 1, rfl, rfl, HRES.out.1, HRES.out.2, HBB.out, HS13.out, Nat.le_refl _⟩
          case measure => simp [intOf]; omega
     · have HFIN := zH (show k = nP rows by have h1 := nP_lt rows k; have h2 := HL2.out; omega)
       have q1 : ¬ (((8 * k : Nat) : Int)) < (i : Int) := by omega
       go_wp2_with fail
       go_ret3
       refine ⟨A0, m0, c0, A7, k, c7, by rw [HE.out]; rfl, ?_, ?_, HBR.out⟩
       · rw [HD.out.1, ← HFIN.out]; exact HQ0.out.sl
       · rw [HD.out.2, ← HFIN.out]; exact HQ3.out.sl
end
section
open Go Go.RowKit Go.Shelf
attribute [local go_sem] Oper.semAt_some
structure SpW (g : Nat) (A : Option Addr) (n c : Nat) (w wb : World) : Prop where
 eq : wb = ((((w.alloc (.cells #[.pointer (some ⟨g, 0, none⟩)] 45)).alloc (.cells #[.slice A n c] 34)).alloc (.cells #[.slice none 0 0] 41)).alloc (.cells #[.slice none 0 0] 42)).alloc (.cells #[.int .i64 0] 28)
 below : Below w.heap.size w wb
 size : wb.heap.size = w.heap.size + 5
 t : wb.heap[w.heap.size]? = some (.cells #[.pointer (some ⟨g, 0, none⟩)] 45 (0, 0))
 c : wb.heap[w.heap.size + 1]? = some (.cells #[.slice A n c] 34 (0, 0))
 r1 : wb.heap[w.heap.size + 1 + 1]? = some (.cells #[.slice none 0 0] 41 (0, 0))
 r2 : wb.heap[w.heap.size + 1 + 1 + 1]? = some (.cells #[.slice none 0 0] 42 (0, 0))
 r3 : wb.heap[w.heap.size + 1 + 1 + 1 + 1]? = some (.cells #[.int .i64 0] 28 (0, 0))
theorem zzo {w : World} {b : Nat} {o : Obj} (h : w.heap[b]? = some o) (x : Obj) : (w.alloc x).heap[b]? = some o := (Below.heap_alloc w x b (zzb h)).trans h
theorem yyM {w : World} {b : Nat} (h : b = w.heap.size) (x : Obj) : (w.alloc x).heap[b]? = some x := by rw [h]; exact heap_alloc_new w x
theorem spW (g : Nat) (A : Option Addr) (n c : Nat) (w : World) : ∃ wb, SpW g A n c w wb := by
 refine ⟨_, rfl, ?_, by simp, ?_, ?_, ?_, ?_, ?_⟩
 · exact (((((Below.refl _ w).alloc zN _).alloc (by simp) _).alloc (by simp; omega) _).alloc (by simp; omega) _).alloc (by simp; omega) _
 · exact zzo (zzo (zzo (zzo (yyM rfl _) _) _) _) _
 · exact zzo (zzo (zzo (yyM (by simp) _) _) _) _
 · exact zzo (zzo (yyM (by simp) _) _) _
 · exact zzo (yyM (by simp) _) _
 · exact yyM (by simp) _
theorem SpW.call {g : Nat} {A : Option Addr} {n c : Nat} {w wb w1 : World} (_ : SpW g A n c w wb) (hb : Below wb.heap.size wb w1) {b : Nat} {o : Obj} (hl : wb.heap[b]? = some o) : w1.heap[b]? = some o := (hb.block b (zzb hl)).trans hl
theorem kqB {P : Program} {fn : Func} {p q u : Tmp} {t1 t2 t3 : TypeId} (h : fn.results = #[.cell p t1, .cell q t2, .cell u t3]) (tmps : Array Value) (w : World) (g1 g2 g3 : Nat) (v1 v2 v3 : Value)
 (hp : tmps.getD p undef = .pointer (some ⟨g1, 0, none⟩)) (hq : tmps.getD q undef = .pointer (some ⟨g2, 0, none⟩)) (hu : tmps.getD u undef = .pointer (some ⟨g3, 0, none⟩))
 (h1 : (loadVar t1 ⟨g1, 0, none⟩).run P w = .ok v1 w) (h2 : (loadVar t2 ⟨g2, 0, none⟩).run P w = .ok v2 w) (h3 : (loadVar t3 ⟨g3, 0, none⟩).run P w = .ok v3 w) :
 (results fn tmps).run P w = .ok (.tuple #[v1, v2, v3]) w := by
 have hp' : tmps[p]?.getD undef = .pointer (some ⟨g1, 0, none⟩) := by simpa using hp
 have hq' : tmps[q]?.getD undef = .pointer (some ⟨g2, 0, none⟩) := by simpa using hq
 have hu' : tmps[u]?.getD undef = .pointer (some ⟨g3, 0, none⟩) := by simpa using hu
 simp [results, h, hp', hq', hu', asAddr, h1, h2, h3]
theorem zqf {w : World} {g : Nat} {v : Value} (h : w.cell? ⟨g, 0, none⟩ = some v) : (loadVar 41 ⟨g, 0, none⟩).run Tryz.prog w = .ok v w := by
 simp [go_sem, h]
theorem zqg {w : World} {g : Nat} {v : Value} (h : w.cell? ⟨g, 0, none⟩ = some v) : (loadVar 42 ⟨g, 0, none⟩).run Tryz.prog w = .ok v w := by
 simp [go_sem, h]
theorem zqh {w : World} {g : Nat} {v : Value} (h : w.cell? ⟨g, 0, none⟩ = some v) : (loadVar 28 ⟨g, 0, none⟩).run Tryz.prog w = .ok v w := by
 simp [go_sem, h]
theorem zqi {w1 : World} {s : Nat} {u1 u2 u3 : Value} {t1 t2 t3 : TypeId} (v1 v2 v3 : Value) (h1 : w1.heap[s + 1 + 1]? = some (.cells #[u1] t1 (0, 0))) (h2 : w1.heap[s + 1 + 1 + 1]? = some (.cells #[u2] t2 (0, 0))) (h3 : w1.heap[s + 1 + 1 + 1 + 1]? = some (.cells #[u3] t3 (0, 0))) :
 (((w1.setCell ⟨s + 1 + 1, 0, none⟩ v1).setCell ⟨s + 1 + 1 + 1, 0, none⟩ v2).setCell ⟨s + 1 + 1 + 1 + 1, 0, none⟩ v3).heap[s + 1 + 1]? = some (.cells #[v1] t1 (0, 0)) ∧
 (((w1.setCell ⟨s + 1 + 1, 0, none⟩ v1).setCell ⟨s + 1 + 1 + 1, 0, none⟩ v2).setCell ⟨s + 1 + 1 + 1 + 1, 0, none⟩ v3).heap[s + 1 + 1 + 1]? = some (.cells #[v2] t2 (0, 0)) ∧
 (((w1.setCell ⟨s + 1 + 1, 0, none⟩ v1).setCell ⟨s + 1 + 1 + 1, 0, none⟩ v2).setCell ⟨s + 1 + 1 + 1 + 1, 0, none⟩ v3).heap[s + 1 + 1 + 1 + 1]? = some (.cells #[v3] t3 (0, 0)) :=
 ⟨zzg (zzg (zza h1 rfl) (by omega)) (by omega), zzg (zza (zzg h2 (by omega)) rfl) (by omega), zza (zzg (zzg h3 (by omega)) (by omega)) rfl⟩
theorem zqj {w w1 : World} {s B : Nat} (hB : B ≤ s) (h : Below B w w1) (v1 v2 v3 : Value) : Below B w (((w1.setCell ⟨s + 1 + 1, 0, none⟩ v1).setCell ⟨s + 1 + 1 + 1, 0, none⟩ v2).setCell ⟨s + 1 + 1 + 1 + 1, 0, none⟩ v3) :=
 zzf (zzf (zzf h (by omega) _) (by omega) _) (by omega) _
theorem sput_no (g : Nat) (F F2 : Nat → Prop) (A A2 : Option Addr) (n c n2 c2 : Nat) (cols : List CC) (rows : List RR) (w : World) (h : Sl tCol F w A n c cols) (h2 : Sl tRow F2 w A2 n2 c2 rows) (hn : n ≤ 4096) (hn2 : n2 ≤ 4096) (hU : Lib.Utf8Tabs 0 1 w) (hE : putE cols rows ≠ 0) :
 Calls Tryz.prog 20 #[.pointer (some ⟨g, 0, none⟩), .slice A n c, .slice A2 n2 c2] w (uuD cols rows w) := by
 have HL := zH h.len; have HL2 := zH h2.len; have HN := zH hn; have HN2 := zH hn2
 have hd := qxD hE
 suffices hs : Calls Tryz.prog 20 #[.pointer (some ⟨g, 0, none⟩), .slice A n c, .slice A2 n2 c2] w (fun e w' => e = .returned (.tuple #[.slice none 0 0, .slice none 0 0, .int .i64 (putE cols rows)]) ∧ Below w.heap.size w w') by
  refine hs.mono ?_
  rintro e w' ⟨rfl, hb⟩
  unfold uuD
  rw [hd.1, hd.2]
  exact ⟨none, 0, 0, none, 0, 0, rfl, Sl.nil_ _ _ _, Sl.nil_ _ _ _, hb⟩
 clear hd
 obtain ⟨wb, hw⟩ := spW g A n c w
 have HW := zH hw
 have HH := zH (h.below hw.below zN); have HH2 := zH (h2.below hw.below zN); have HU := zH (zzc hU hw.below)
 have HSZ := zH hw.size
 have fin : ∀ (w1 : World) (tm : Array Value) (er : Int), Below wb.heap.size wb w1 → tm.getD 6 undef = .pointer (some ⟨w.heap.size + 1 + 1, 0, none⟩) → tm.getD 7 undef = .pointer (some ⟨w.heap.size + 1 + 1 + 1, 0, none⟩) → tm.getD 8 undef = .pointer (some ⟨w.heap.size + 1 + 1 + 1 + 1, 0, none⟩) →
  (results Tryz.f20 tm).run Tryz.prog (((w1.setCell ⟨w.heap.size + 1 + 1, 0, none⟩ (.slice none 0 0)).setCell ⟨w.heap.size + 1 + 1 + 1, 0, none⟩ (.slice none 0 0)).setCell ⟨w.heap.size + 1 + 1 + 1 + 1, 0, none⟩ (.int .i64 er)) = .ok (.tuple #[.slice none 0 0, .slice none 0 0, .int .i64 er]) (((w1.setCell ⟨w.heap.size + 1 + 1, 0, none⟩ (.slice none 0 0)).setCell ⟨w.heap.size + 1 + 1 + 1, 0, none⟩ (.slice none 0 0)).setCell ⟨w.heap.size + 1 + 1 + 1 + 1, 0, none⟩ (.int .i64 er)) := fun w1 tm er hb a6 a7 a8 => by
  obtain ⟨k1, k2, k3⟩ := zqi (.slice none 0 0) (.slice none 0 0) (.int .i64 er) (HW.out.call hb HW.out.r1) (HW.out.call hb HW.out.r2) (HW.out.call hb HW.out.r3)
  exact kqB rfl _ _ _ _ _ _ _ _ a6 a7 a8 (zqf (by rw [zC k1]; rfl)) (zqg (by rw [zC k2]; rfl)) (zqh (by rw [zC k3]; rfl))
 have finb : ∀ (w1 : World) (er : Int), Below wb.heap.size wb w1 → Below w.heap.size w (((w1.setCell ⟨w.heap.size + 1 + 1, 0, none⟩ (.slice none 0 0)).setCell ⟨w.heap.size + 1 + 1 + 1, 0, none⟩ (.slice none 0 0)).setCell ⟨w.heap.size + 1 + 1 + 1 + 1, 0, none⟩ (.int .i64 er)) :=
  fun w1 er hb => zqj zN (HW.out.below.trans (hb.mono (by have := HSZ.out; omega))) _ _ _
 have FIN := zH fin; have FINB := zH finb
 clear hw h h2 hn hn2 hU fin finb
 have q0 : wb.cell? ⟨w.heap.size + 1, 0, none⟩ = some (.slice A n c) := by rw [zC HW.out.c]; rfl
 refine (callsIn_wide (n := 3)).1 ?_
 refine callsIn_of_wp_marks Tryz.func20 rfl trivial ?_ rfl
 simp only [Tryz.ntmps20, List.size_toArray, List.length_cons, List.length_nil, Nat.reduceAdd, Nat.reduceSub, Array.replicate_succ, Array.replicate_zero, List.push_toArray, List.append_toArray, List.nil_append, List.cons_append]
 cases hs : schB cols with
 | false =>
   have HE := zH (uu0 (rows := rows) hs)
   have HS := zH (yyv hs)
   clear hs hE
   gi_wp2
   refine ⟨trivial, ?_⟩
   rw [← HW.out.eq]
   refine (callsIn_wide.2 (vvl F A n c cols _ HH.out)).mono ?_
   rintro e w1 ⟨rfl, hb1⟩
   rw [HS.out]
   have HB1 := zH hb1
   have z1 := zF (HW.out.call hb1 HW.out.r1) 0
   have z2 := zF (HW.out.call hb1 HW.out.r2) 0
   have z3 := zF (HW.out.call hb1 HW.out.r3) 0
   have y1 : w1.cell? ⟨w.heap.size + 1 + 1, 0, none⟩ = some (.slice none 0 0) := by rw [zC (HW.out.call hb1 HW.out.r1)]; rfl
   have y2 : w1.cell? ⟨w.heap.size + 1 + 1 + 1, 0, none⟩ = some (.slice none 0 0) := by rw [zC (HW.out.call hb1 HW.out.r2)]; rfl
   have y3 : w1.cell? ⟨w.heap.size + 1 + 1 + 1 + 1, 0, none⟩ = some (.int .i64 0) := by rw [zC (HW.out.call hb1 HW.out.r3)]; rfl
   clear hb1
   gi_wp2
   refine ⟨_, FIN.out w1 _ 20 HB1.out ?_ ?_ ?_, ?_⟩
   · rfl
   · rfl
   · rfl
   · rw [HE.out]; exact ⟨rfl, FINB.out w1 20 HB1.out⟩
 | true =>
   have HS := zH (vvj hs)
   by_cases h32 : rows.length ≤ 32
   · have hall : rows.all (rowB cols) = false := by
      cases hq : rows.all (rowB cols) with
      | false => rfl
      | true => exact absurd (jjW hs h32 hq) hE
     have HE := zH (uu2 hs h32 hall)
     have HA := zH hall
     have c1 : ¬ (n2 : Int) > 32 := by have := HL2.out; omega
     have HN32 := zH (show n2 ≤ 32 by have := HL2.out; omega)
     clear hs hE h32 hall
     gi_wp2
     refine ⟨trivial, ?_⟩
     rw [← HW.out.eq]
     refine (callsIn_wide.2 (vvl F A n c cols _ HH.out)).mono ?_
     rintro e w1 ⟨rfl, hb1⟩
     rw [HS.out]
     have HB1 := zH hb1
     clear hb1
     gi_wp2
     gi_loopw [29] (fun iv wr => ∃ i : Nat, i ≤ n2 ∧ iv = .int .i64 (i : Int) ∧ Below wb.heap.size wb wr ∧ (rows.take i).all (rowB cols) = true) (fun iv _ => n2 - (intOf iv).toNat)
     case atStart => exact ⟨0, Nat.zero_le _, rfl, HB1.out, by rw [List.take_zero]; rfl⟩
     case round =>
      obtain ⟨i, hi, rfl, hb, hv⟩ := hrel
      have HB := zH hb; have HV := zH hv
      clear hb hv
      by_cases hlt : i < n2
      · have hil : i < rows.length := by rw [← HL2.out]; exact hlt
        obtain ⟨b, o, cs, rfl, _, _, hrep, hc⟩ := (HH2.out.below HB.out zN).at_ hil (by decide)
        obtain ⟨r, hr⟩ : ∃ r, r = rows[i] := ⟨_, rfl⟩
        rw [← hr] at hrep
        have HR := zH hr
        obtain ⟨A3, n3, c3, rfl, h3⟩ := hrep
        have H3 := zH h3
        have y := hc 0 _ rfl
        have y : wr.cell? ⟨b, o + i, none⟩ = some (.slice A3 n3 c3) := by
         have e : o + (i * tRow.size + 0) = o + i := by show o + (i * 1 + 0) = o + i; omega
         rw [e] at y; exact y
        have i0 : (0 : Int) ≤ (i : Int) := by omega
        have i1 : (i : Int) < (n2 : Int) := by omega
        have i2 : (i : Int) ≤ 32 := by have := HN32.out; omega
        have q1 : wr.cell? ⟨w.heap.size + 1, 0, none⟩ = some (.slice A n c) := by rw [zC (HW.out.call HB.out HW.out.c)]; rfl
        clear hc hr h3
        cases hrb : rowB cols r with
        | false =>
          have HRE := zH (uur hrb)
          clear hrb
          gi_wp2
          refine ⟨trivial, ?_⟩
          refine (callsIn_wide.2 (zqz F _ A A3 n c n3 c3 cols r _ (HH.out.below HB.out zN) H3.out HN.out (zzc HU.out HB.out))).mono ?_
          rintro e w3 ⟨rfl, hb3⟩
          rw [HRE.out]
          have HB3 := zH (HB.out.trans (hb3.mono HB.out.size))
          clear hb3
          have z1 := zF (HW.out.call HB3.out HW.out.r1) 0
          have z2 := zF (HW.out.call HB3.out HW.out.r2) 0
          have z3 := zF (HW.out.call HB3.out HW.out.r3) 0
          have y1 : w3.cell? ⟨w.heap.size + 1 + 1, 0, none⟩ = some (.slice none 0 0) := by rw [zC (HW.out.call HB3.out HW.out.r1)]; rfl
          have y2 : w3.cell? ⟨w.heap.size + 1 + 1 + 1, 0, none⟩ = some (.slice none 0 0) := by rw [zC (HW.out.call HB3.out HW.out.r2)]; rfl
          have y3 : w3.cell? ⟨w.heap.size + 1 + 1 + 1 + 1, 0, none⟩ = some (.int .i64 0) := by rw [zC (HW.out.call HB3.out HW.out.r3)]; rfl
          gi_wp2
          refine ⟨_, FIN.out w3 _ 21 HB3.out ?_ ?_ ?_, ?_⟩
          · rfl
          · rfl
          · rfl
          · rw [HE.out]; exact ⟨rfl, FINB.out w3 21 HB3.out⟩
        | true =>
          have HRE := zH (vvc hrb)
          have HV2 := zH (show (rows.take (i + 1)).all (rowB cols) = true by rw [yyJ hil HR.out, HV.out]; exact hrb)
          clear hrb
          gi_wp2
          refine ⟨trivial, ?_⟩
          refine (callsIn_wide.2 (zqz F _ A A3 n c n3 c3 cols r _ (HH.out.below HB.out zN) H3.out HN.out (zzc HU.out HB.out))).mono ?_
          rintro e w3 ⟨rfl, hb3⟩
          rw [HRE.out]
          have HB3 := zH (HB.out.trans (hb3.mono HB.out.size))
          clear hb3
          gi_wp2
          go_roundw
          case rel => exact ⟨i + 1, by omega, by go_num, HB3.out, HV2.out⟩
          case measure => simp [intOf]; omega
      · obtain rfl : i = n2 := by omega
        have h1 := HV.out
        rw [zL (by rw [← HL2.out]; exact Nat.le_refl _), HA.out] at h1
        cases h1
   · have HE := zH (uu1 hs h32)
     have c1 : (n2 : Int) > 32 := by have := HL2.out; omega
     clear hs hE h32
     gi_wp2
     refine ⟨trivial, ?_⟩
     rw [← HW.out.eq]
     refine (callsIn_wide.2 (vvl F A n c cols _ HH.out)).mono ?_
     rintro e w1 ⟨rfl, hb1⟩
     rw [HS.out]
     have HB1 := zH hb1
     clear hb1
     have z1 := zF (HW.out.call HB1.out HW.out.r1) 0
     have z2 := zF (HW.out.call HB1.out HW.out.r2) 0
     have z3 := zF (HW.out.call HB1.out HW.out.r3) 0
     have y1 : w1.cell? ⟨w.heap.size + 1 + 1, 0, none⟩ = some (.slice none 0 0) := by rw [zC (HW.out.call HB1.out HW.out.r1)]; rfl
     have y2 : w1.cell? ⟨w.heap.size + 1 + 1 + 1, 0, none⟩ = some (.slice none 0 0) := by rw [zC (HW.out.call HB1.out HW.out.r2)]; rfl
     have y3 : w1.cell? ⟨w.heap.size + 1 + 1 + 1 + 1, 0, none⟩ = some (.int .i64 0) := by rw [zC (HW.out.call HB1.out HW.out.r3)]; rfl
     gi_wp2
     refine ⟨_, FIN.out w1 _ 3 HB1.out ?_ ?_ ?_, ?_⟩
     · rfl
     · rfl
     · rfl
     · rw [HE.out]; exact ⟨rfl, FINB.out w1 3 HB1.out⟩
end
end Go.Proofs.YtpmglcachffojaaGreatDoor
