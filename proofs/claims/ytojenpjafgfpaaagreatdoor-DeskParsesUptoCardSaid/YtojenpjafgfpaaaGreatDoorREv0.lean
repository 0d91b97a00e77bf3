/- The reference 32: row. -/
import Derived.Test.YtojenpjafgfpaaaGreatDoorRTake4
import Derived.Test.YtojenpjafgfpaaaGreatDoorRead5
import Derived.Test.YtojenpjafgfpaaaGreatDoorTakeEv
import Derived.Test.YtojenpjafgfpaaaGreatDoorRef4
import Derived.Test.YtojenpjafgfpaaaGreatDoorShow2
namespace Go.Proofs.YtojenpjafgfpaaaGreatDoor
open Go Go.RowKit
attribute [local go_sem ↓] Go.wp_at_zero Go.wp_at_succ

theorem rdFields_get (l : List UInt8) : (rdFields l).2 = (wtake l).getD [] := by unfold rdFields; cases wtake l <;> rfl
/-- 'TakeValue', what it takes as a letter. -/
def TvPostL (v : VV) (w : World) (e : Ending) (w' : World) : Prop :=
  ∃ ec : Int, e = .returned (.tuple #[.agg #[.bool v.null, .int .i64 v.n, .string v.s], .int .i64 ec]) ∧ Below w.heap.size w w' ∧ v.ok ∧ v.s.size ≤ 4294967296
theorem rtakeValue_v (F : Nat → Prop) (A : Option Addr) (n c : Nat) (l : List UInt8) (w : World) (h : Bs F w A n c l) (hn : n ≤ 4294967000) {v : VV} (hv : v = (rdValue l).2) :
    Calls Tryz.prog 53 #[.slice A n c] w (TvPostL v w) :=
  (rtakeValue_any F A n c l w h hn).mono fun e w' ⟨he, hb, hok, hs⟩ => by subst hv; exact ⟨_, he, hb, hok, hs⟩
/-- 'Take', its list as a letter. -/
def TkPostL (L : List Fld) (w : World) (e : Ending) (w' : World) : Prop :=
  ∃ A n c, ∃ ec : Int, e = .returned (.tuple #[.slice A n c, .int .i64 ec]) ∧ Below w.heap.size w w' ∧ Sl tFld (fun b => w.heap.size ≤ b) w' A n c L
theorem rwtake_L (F : Nat → Prop) (A : Option Addr) (n c : Nat) (l : List UInt8) (w : World) (h : Bs F w A n c l) (hn : n ≤ 4294967296) {L : List Fld} (hL : L = (rdFields l).2) :
    Calls Tryz.prog 19 #[.slice A n c] w (TkPostL L w) :=
  (rwtake_any F A n c l w h hn).mono fun e w' ⟨A1, n1, c1, he, hb, hs⟩ => by rw [rdFields_get] at hL; subst hL; exact ⟨A1, n1, c1, _, he, hb, hs⟩
/-- What 'row' leaves. -/
def RowPost (r : List VV) (w : World) (e : Ending) (w' : World) : Prop :=
  ∃ A n c, e = .returned (.slice A n c) ∧ Below w.heap.size w w' ∧ Sl tVV (fun b => w.heap.size ≤ b) w' A n c r

set_option maxRecDepth 100000 in
set_option maxHeartbeats 4000000 in
theorem rrow_any (F : Nat → Prop) (A : Option Addr) (n c : Nat) (l : List UInt8) (w : World) (h : Bs F w A n c l) (hn : n ≤ 4294967000) {r : List VV} (hr : r = (rdRow l).2) :
    Calls Tryz.prog 21 #[.slice A n c] w (RowPost r w) := by
  obtain ⟨L, hL⟩ : ∃ L, L = (rdFields l).2 := ⟨_, rfl⟩
  have hcount : L.length ≤ 4294967296 := by rw [hL]; exact rdFields_count (by rw [← h.len]; omega)
  have hmem : ∀ f ∈ L, f.b.length ≤ 4294967000 := fun f hf => Nat.le_trans (rdFields_mem (l := l) (by rw [← hL]; exact hf)) (by rw [← h.len]; exact hn)
  have HLL := Lib.hid hL; have HR := Lib.hid hr; have HM := Lib.hid hmem
  clear hL hr hmem
  go_enter Tryz.func21, Tryz.ntmps21
  go_wp2_with (first
    | (go_at_call 19; refine (rwtake_L F A n c l _ h (by omega) HLL.out).mono ?_; rintro e w1 ⟨A1, n1, c1, ec, rfl, hb1, hs1⟩; have HB1 := Lib.hid hb1; have HS1 := Lib.hid hs1; clear hb1 hs1)
    | fail)
  have HN := Lib.hid HS1.out.len
  have hn1 : n1 ≤ 4294967296 := by rw [HN.out]; exact hcount
  have HO1 := Lib.hid (OwnF.newL (T := tVV) (F := fun _ => False) (w := w1) (e := 53) (B := w1.heap.size) (n := 0) Reps.nil_ (Nat.le_refl _) rfl (by omega) (.cells #[] 53) rfl)
  go_loopw [5, 6] (fun v i wr => ∃ (k : Nat) (A2 : Option Addr) (m c2 : Nat), k ≤ n1 ∧ i = .int .i64 k ∧ v = .slice A2 m c2 ∧ OwnF tVV 53 (fun _ => False) wr w1.heap.size A2 m c2 ((L.take k).map fun fx => (rdValue fx.b).2) ∧ Below w1.heap.size w1 wr)
    (fun _ i _ => n1 - (intOf i).toNat)
  case atStart => exact ⟨0, _, 0, 0, Nat.zero_le _, rfl, rfl, HO1.out.flat flatVV, (Below.refl _ _).alloc (Nat.le_refl _) _⟩
  case round =>
    clear HO1
    obtain ⟨k, A2, m, c2, hk, rfl, rfl, hown, hbr⟩ := hrel
    have hm : m ≤ n1 := by rw [hown.len, HN.out]; simp; omega
    have HOWN := Lib.hid hown; have HBR := Lib.hid hbr
    have hsz := hbr.size
    have HSR := Lib.hid (HS1.out.below hbr (Nat.le_refl _))
    clear hown hbr
    by_cases hk2 : k < n1
    · have hkl : k < L.length := by rw [← HN.out]; exact hk2
      obtain ⟨b, o, cs, rfl, hb, hbl, hrep, hc⟩ := HSR.out.at_ hkl (by decide)
      obtain ⟨f, hf⟩ : ∃ f, f = L[k] := ⟨_, rfl⟩
      have hfm : f ∈ L := by rw [hf]; exact List.getElem_mem hkl
      rw [← hf] at hrep
      have HF := Lib.hid hf
      obtain ⟨A4, n4, c4, rfl, _, _, hfb⟩ := hrep
      obtain ⟨g0, g1, g2, g3⟩ := cells4 hc
      clear hc hf g0 g1 g2
      have hn4 : n4 ≤ 4294967000 := by rw [hfb.len]; exact HM.out f hfm
      have HFB := Lib.hid hfb; clear hfb
      obtain ⟨v, hv⟩ : ∃ v, v = (rdValue f.b).2 := ⟨_, rfl⟩
      have HV := Lib.hid hv; clear hv
      go_wp2_with (first
        | (go_at_call 53; refine (rtakeValue_v _ A4 n4 c4 f.b _ HFB.out hn4 HV.out).mono ?_; rintro e w5 ⟨ec5, rfl, hb5, hvok, _⟩; have HB5 := Lib.hid (HBR.out.trans (hb5.mono hsz)); have HO5 := Lib.hid (HOWN.out.keepB hb5); have HOK := Lib.hid hvok; have hs5 : w1.heap.size ≤ w5.heap.size := Nat.le_trans hsz hb5.size; clear hb5 hvok)
        | (at_builtin; refine apl1 (T := tVV) elemRow (w5.alloc (.cells #[.bool v.null, .int .i64 v.n, .string v.s] 53)) w1 rfl (.tmp 30) (.tmp 32) rfl w1.heap.size A2 m c2 _ rfl (fun _ => False) (fun _ => False) (HO5.out.alloc _) (HB5.out.alloc hs5 _) (Nat.le_refl _) _ (by rw [World.size_alloc]; rfl) [.bool v.null, .int .i64 v.n, .string v.s] v ⟨rfl, HOK.out⟩ 53 rfl (fun _ _ _ _ h => h) (by omega) ?_; intro A8 c8 w8 h8)
        | fail)
      go_roundw
      case rel =>
        have e1 : ((L.take (k + 1)).map fun fx => (rdValue fx.b).2) = ((L.take k).map fun fx => (rdValue fx.b).2) ++ [v] := by
          rw [List.take_succ_eq_append_getElem hkl, List.map_append, ← HF.out, HV.out]; rfl
        exact ⟨k + 1, A8, m + 1, c8, by omega, by go_num, rfl, by rw [e1]; exact h8.own.flat flatVV, h8.below⟩
      case measure => simp [intOf]; omega
    · obtain rfl : k = n1 := by omega
      have htk : L.take k = L := List.take_of_length_le (by rw [← HN.out]; exact Nat.le_refl _)
      have hrow : Sl tVV (fun b => w.heap.size ≤ b) wr A2 m c2 r := by
        have h0 := HOWN.out.sl
        rw [htk] at h0
        rw [HR.out, show (rdRow l).2 = L.map (fun fx => (rdValue fx.b).2) by rw [HLL.out]; rfl]
        refine h0.weaken fun b hb _ => ?_
        rcases hb with hb | hb
        · exact hb.elim
        · exact Nat.le_trans HB1.out.size hb.2
      have HROW := Lib.hid hrow
      clear hrow htk
      go_wp2
      go_ret
      exact ⟨A2, m, c2, rfl, HB1.out.trans (HBR.out.mono HB1.out.size), HROW.out⟩
end Go.Proofs.YtojenpjafgfpaaaGreatDoor
/- The reference 32: key. -/
namespace Go.Proofs.YtojenpjafgfpaaaGreatDoor
open Go Go.RowKit
attribute [local go_sem ↓] Go.wp_at_zero Go.wp_at_succ

def zFld : Fld := ⟨0, false, 0, []⟩
/-- The number of a field, by its place; 0 beyond the end. -/
def gn (L : List Fld) (i : Nat) : Nat := (L[i]?.getD zFld).n
theorem gn_pad (L : List Fld) (i : Nat) : gn (L ++ [zFld]) i = gn L i := by
  unfold gn
  rcases Nat.lt_trichotomy i L.length with h | h | h
  · rw [List.getElem?_append_left h]
  · subst h; rw [List.getElem?_append_right (Nat.le_refl _), List.getElem?_eq_none (Nat.le_refl _)]; simp
  · rw [List.getElem?_append_right (by omega), List.getElem?_eq_none (l := [zFld]) (by simp only [List.length_cons, List.length_nil]; omega), List.getElem?_eq_none (by omega)]
theorem heap_lt {w : World} {b : Nat} {o : Obj} (h : w.heap[b]? = some o) : b < w.heap.size := by
  rcases Nat.lt_or_ge b w.heap.size with h' | h'
  · exact h'
  · rw [Array.getElem?_eq_none h'] at h; cases h
theorem gn_at {L : List Fld} {i : Nat} (h : i < L.length) : gn L i = L[i].n := by unfold gn; rw [List.getElem?_eq_getElem h]; rfl
theorem zagI_zero : zagI 0 = 0 := by decide
theorem keyOf_gn : ∀ (L : List Fld), (keyOf 0 KK.zero L).2 = ⟨zagI (gn L 0), zagI (gn L 1), zagI (gn L 2)⟩
  | [] => by simp [keyOf, gn, zFld, KK.zero, zagI_zero]
  | [a] => by simp [keyOf, gn, zFld, KK.zero, zagI_zero, KK.put]
  | [a, b] => by simp [keyOf, gn, zFld, KK.zero, zagI_zero, KK.put]
  | [a, b, c] => by simp [keyOf, gn, KK.put]
  | a :: b :: c :: d :: r => by simp [keyOf, gn, KK.put]
/-- What 'key' leaves. -/
def KeyPost (k : KK) (w : World) (e : Ending) (w' : World) : Prop :=
  e = .returned (.agg #[.int .i64 k.id, .int .i64 k.bucket, .int .i64 k.row]) ∧ Below w.heap.size w w' ∧ k.ok

set_option maxRecDepth 100000 in
set_option maxHeartbeats 4000000 in
theorem rkeyR_any (F : Nat → Prop) (A : Option Addr) (n c : Nat) (l : List UInt8) (w : World) (h : Bs F w A n c l) (hn : n ≤ 4294967000) {kk : KK} (hk : kk = (rdKey l).2) :
    Calls Tryz.prog 22 #[.slice A n c] w (KeyPost kk w) := by
  obtain ⟨L, hL⟩ : ∃ L, L = (wtake l).getD [] := ⟨_, rfl⟩
  have hcount : L.length ≤ 4294967296 := by rw [hL, ← rdFields_get]; exact rdFields_count (by rw [← h.len]; omega)
  have hk2 : kk = ⟨zagI (gn L 0), zagI (gn L 1), zagI (gn L 2)⟩ := by rw [hk, ← keyOf_gn, hL, ← rdFields_get]; rfl
  have HK := Lib.hid hk2; have HLL := Lib.hid hL
  clear hL hk hk2
  go_enter Tryz.func22, Tryz.ntmps22
  go_wp2_with (first
    | (go_at_call 19; refine (rwtake_own F A n c l _ (h.alloc _) (by omega)).mono ?_; rintro e w1 ⟨A1, n1, c1, G1, rfl, hb1, ho1, hG1⟩; rw [← HLL.out] at ho1; have HB1 := Lib.hid hb1; have HO1 := Lib.hid ho1; have HG1 := Lib.hid hG1; clear hb1 ho1 hG1)
    | fail)
  have hkc : w1.heap[w.heap.size]? = some (.cells #[.int .i64 0, .int .i64 0, .int .i64 0] 71 (0, 0)) := (HB1.out.block _ (by simp)).trans (heap_alloc_new w _)
  have hb0 : Below w.heap.size w w1 := ((Below.refl _ w).alloc (Nat.le_refl _) _).trans (HB1.out.mono (by simp))
  have HKC := Lib.hid hkc; have HB0 := Lib.hid hb0
  have hn1 : n1 ≤ 4294967296 := by rw [HO1.out.len]; exact hcount
  clear hkc hb0
  go_loopw [3] (fun v wr => ∃ (A2 : Option Addr) (m c2 : Nat) (G : Nat → Prop) (L2 : List Fld), v = .slice A2 m c2 ∧ m ≤ 4294967296 ∧ OwnF tFld 68 G wr (w.heap.size + 1) A2 m c2 L2 ∧ (∀ i, gn L2 i = gn L i) ∧
      wr.heap[w.heap.size]? = some (.cells #[.int .i64 0, .int .i64 0, .int .i64 0] 71 (0, 0)) ∧ Below w.heap.size w wr)
    (fun v _ => 3 - lenV v)
  case atStart => exact ⟨A1, n1, c1, G1, L, rfl, hn1, (by have := HO1.out; simpa using this), fun _ => rfl, HKC.out, HB0.out⟩
  case round =>
    clear HO1 HG1 HKC HB0 HB1
    obtain ⟨A2, m, c2, G, L2, rfl, hm, hown, hgn, hkc, hb⟩ := hrel
    have HOWN := Lib.hid hown; have HGN := Lib.hid hgn; have HKC := Lib.hid hkc; have HB := Lib.hid hb
    have hsz := hb.size
    have hlt : w.heap.size < wr.heap.size := heap_lt hkc
    clear hown hgn hkc hb
    by_cases h3 : m < 3
    · go_wp2_with (first
        | (at_builtin; refine apl1 (T := tFld) elemRFld wr wr rfl (.tmp 13) (.tmp 15) rfl (w.heap.size + 1) A2 m c2 L2 rfl G (fun _ => False) HOWN.out (Below.refl _ _) (by omega) _ rfl _ zFld ⟨none, 0, 0, rfl, by unfold i64; decide, by decide, Sl.nil_ _ _ _⟩ 68 rfl (fun _ _ _ _ h => h) (by omega) ?_; intro A8 c8 w8 h8)
        | fail)
      go_roundw
      case rel =>
        have hbx := h8.below
        refine ⟨A8, m + 1, c8, _, L2 ++ [zFld], rfl, by omega, h8.own, fun i => by rw [gn_pad]; exact HGN.out i, ?_, ?_⟩
        · exact (h8.below.block _ (by omega)).trans HKC.out
        · exact HB.out.trans (h8.below.mono (by omega))
      case measure => simp only [lenV]; omega
    · have hl2 := HOWN.out.len
      have hS := HOWN.out.sl
      obtain ⟨b, o, cs1, rfl, hb, hbl, hr1, hc1⟩ := hS.at_ (k := 0) (by omega) (by decide)
      obtain ⟨b', o', cs2, e2, _, _, hr2, hc2⟩ := hS.at_ (k := 1) (by omega) (by decide)
      injection e2 with e2; injection e2 with e2 e2'; subst e2 e2'
      obtain ⟨b', o', cs3, e3, _, _, hr3, hc3⟩ := hS.at_ (k := 2) (by omega) (by decide)
      injection e3 with e3; injection e3 with e3 e3'; subst e3 e3'
      obtain ⟨f1, hf1⟩ : ∃ f, f = L2[0] := ⟨_, rfl⟩
      obtain ⟨f2, hf2⟩ : ∃ f, f = L2[1] := ⟨_, rfl⟩
      obtain ⟨f3, hf3⟩ : ∃ f, f = L2[2] := ⟨_, rfl⟩
      rw [← hf1] at hr1; rw [← hf2] at hr2; rw [← hf3] at hr3
      obtain ⟨A3, n3, c3, rfl, _, hx1, _⟩ := hr1
      obtain ⟨A4, n4, c4, rfl, _, hx2, _⟩ := hr2
      obtain ⟨A5, n5, c5, rfl, _, hx3, _⟩ := hr3
      have k1 := (cells4 hc1).2.2.1
      have k2 := (cells4 hc2).2.2.1
      have k3 := (cells4 hc3).2.2.1
      simp only [Nat.zero_mul, Nat.add_zero, Nat.reduceMul] at k1 k2 k3
      have hkk : kk = ⟨zagI f1.n, zagI f2.n, zagI f3.n⟩ := by rw [HK.out, ← HGN.out, ← HGN.out, ← HGN.out, gn_at (by omega), gn_at (by omega), gn_at (by omega), hf1, hf2, hf3]
      have HKK := Lib.hid hkk
      have hz1 := zagI_bd f1.n hx1
      have hz2 := zagI_bd f2.n hx2
      have hz3 := zagI_bd f3.n hx3
      have r0 : wr.cell? ⟨w.heap.size, 0, none⟩ = some (.int .i64 0) := by rw [Lib.cell_of_heap HKC.out]; rfl
      have r1 : wr.cell? ⟨w.heap.size, 1, none⟩ = some (.int .i64 0) := by rw [Lib.cell_of_heap HKC.out]; rfl
      have r2 : wr.cell? ⟨w.heap.size, 2, none⟩ = some (.int .i64 0) := by rw [Lib.cell_of_heap HKC.out]; rfl
      have p0 := Lib.frozen_of_heap HKC.out 0
      have p1 := Lib.frozen_of_heap HKC.out 1
      have p2 := Lib.frozen_of_heap HKC.out 2
      have m3 : (3 : Int) ≤ (m : Int) := by omega
      have i0 : 0 < m := by omega
      have i1 : (1 : Int) < (m : Int) := by omega
      have i2 : (2 : Int) < (m : Int) := by omega
      have hlies := HOWN.out.lies' (b := b) rfl
      have hne1 : ¬ b = w.heap.size := by have := hlies.2.1; omega
      have hne2 : ¬ w.heap.size = b := by omega
      clear hlies
      clear hS hc1 hc2 hc3 hf1 hf2 hf3 hkk hl2
      go_wp2_with fail
      go_region_held3 (fun w' => w'.cell? ⟨b, o + 2, none⟩ = some (.int .u64 (f1.n : Int)) ∧ w'.cell? ⟨b, o + 4 + 2, none⟩ = some (.int .u64 (f2.n : Int)) ∧ w'.cell? ⟨b, o + 8 + 2, none⟩ = some (.int .u64 (f3.n : Int)))
        (first | exact ⟨k1, k2, k3⟩ | assumption | go_keep)
        (first
          | (go_at_call_of 20 (Value.int .u64 (f1.n : Int)); refine (rzag_any f1.n _ hx1).mono ?_; rintro e w' ⟨rfl, rfl⟩)
          | (go_at_call_of 20 (Value.int .u64 (f2.n : Int)); refine (rzag_any f2.n _ hx2).mono ?_; rintro e w' ⟨rfl, rfl⟩)
          | (go_at_call 20; refine (rzag_any f3.n _ hx3).mono ?_; rintro e w' ⟨rfl, rfl⟩)
          | fail)
      all_goals
        go_wp2_with fail
        refine bodyPost_ret (results_cell_row rfl _ _ w.heap.size 71 #[.int .i64 (zagI f1.n), .int .i64 (zagI f2.n), .int .i64 (zagI f3.n)] (0, 0) _ rfl (by have hk := HKC.out; (repeat (first | with_reducible exact hk | with_reducible apply heap_drew | with_reducible apply heap_set)); all_goals rfl) Tryz.underlying71 rfl (by kernel_rfl)) rfl
          ⟨by rw [HKK.out], ?_, by rw [HKK.out]; exact ⟨⟨hz1.1, hz1.2⟩, ⟨hz2.1, hz2.2⟩, ⟨hz3.1, hz3.2⟩⟩⟩
        have hb := HB.out
        repeat (first | with_reducible exact hb | with_reducible refine bdrewB ?_ | with_reducible refine bsetc ?_ (Nat.le_refl _) _)
end Go.Proofs.YtojenpjafgfpaaaGreatDoor
/- The reference 32: asked: the state of its loop. -/
namespace Go.Proofs.YtojenpjafgfpaaaGreatDoor
open Go Go.RowKit

/-- The node that is read so far, in block P; the result's cell in w's next block; fields L between them. -/
structure NdR (w : World) (P S : Nat) (p : PP) (col : Nat → Nat) (A2 : Option Addr) (m2 c2 : Nat) (A3 : Option Addr) (m3 c3 : Nat) (A1 : Option Addr) (n1 c1 : Nat) (L : List Fld) (wr : World) : Prop where
  heap : wr.heap[P]? = some (.cells (pcells p A2 m2 c2 A3 m3 c3) 55 (0, 0))
  res : wr.heap[w.heap.size]? = some (.cells (pcells PP.zero none 0 0 none 0 0) 55 (0, 0))
  vals : Col tVV 53 col 0 (P + 1) S wr A2 m2 c2 p.vals
  nums : Col tI64 3 col 1 (P + 1) S wr A3 m3 c3 p.l
  gr : Below w.heap.size w wr
  fl : Sl tFld (fun b => w.heap.size < b ∧ b < P) wr A1 n1 c1 L
  op : i64 p.op
  clm : i64 p.col
  vok : p.v.ok
  hg : w.heap.size < P
  hP : P < S
  hS : S ≤ wr.heap.size

section
variable {w : World} {P S : Nat} {p p2 : PP} {col : Nat → Nat} {A2 : Option Addr} {m2 c2 : Nat} {A3 : Option Addr} {m3 c3 : Nat} {A1 : Option Addr} {n1 c1 : Nat} {L : List Fld} {wr w2 : World}
/-- A step that touches no block below S. -/
theorem NdR.stepN (h : NdR w P S p col A2 m2 c2 A3 m3 c3 A1 n1 c1 L wr) {row : Option Nat} (hgr : wr.grownBy w2 row) (hr : ∀ k, row = some k → S ≤ k) : NdR w P S p col A2 m2 c2 A3 m3 c3 A1 n1 c1 L w2 := by
  have h1 := h.hg; have h2 := h.hP; have h5 := h.hS
  have hsz := hgr.size
  have hk : ∀ k, k < S → w2.heap[k]? = wr.heap[k]? := fun k hk => hgr.block k (by omega) fun e => by have := hr k e.symm; omega
  exact ⟨(hk P h2).trans h.heap, (hk _ (by omega)).trans h.res, h.vals.keep hsz fun b _ q2 _ _ => hk b q2, h.nums.keep hsz fun b _ q2 _ _ => hk b q2,
    ⟨hgr.os.trans h.gr.os, hgr.tape.trans h.gr.tape, hgr.output.trans h.gr.output, by have := h.gr.size; omega, fun k hk2 => (hk k (by omega)).trans (h.gr.block k hk2)⟩,
    h.fl.keep hsz fun b hb _ => hk b (by omega), h.op, h.clm, h.vok, h1, h2, by omega⟩
theorem NdR.below (h : NdR w P S p col A2 m2 c2 A3 m3 c3 A1 n1 c1 L wr) (hb : Below wr.heap.size wr w2) : NdR w P S p col A2 m2 c2 A3 m3 c3 A1 n1 c1 L w2 :=
  h.stepN (row := none) (grown_of_below hb) fun k hk => by cases hk
theorem NdR.drew (h : NdR w P S p col A2 m2 c2 A3 m3 c3 A1 n1 c1 L wr) : NdR w P S p col A2 m2 c2 A3 m3 c3 A1 n1 c1 L wr.drew := h.below (Below.refl _ wr).drew
/-- A store into the node: no list of it. -/
theorem NdR.put (h : NdR w P S p col A2 m2 c2 A3 m3 c3 A1 n1 c1 L wr) {j : Nat} {u : Value} (hc : (pcells p A2 m2 c2 A3 m3 c3).setIfInBounds j u = pcells p2 A2 m2 c2 A3 m3 c3) (hv : p2.vals = p.vals) (hl : p2.l = p.l) (hop : i64 p2.op) (hcol : i64 p2.col) (hok : p2.v.ok) :
    NdR w P S p2 col A2 m2 c2 A3 m3 c3 A1 n1 c1 L (wr.setCell ⟨P, j, none⟩ u) := by
  have h1 := h.hg; have h2 := h.hP
  exact ⟨heap_set h.heap hc, heap_setne h.res (by omega), by rw [hv]; exact h.vals.setP (by omega) _, by rw [hl]; exact h.nums.setP (by omega) _, bsetc h.gr (by omega) _, slsetc h.fl (by omega) _, hop, hcol, hok, h1, h2, by simpa using h.hS⟩
/-- What an append onto one of its lists leaves as it was. -/
theorem NdR.rest (h : NdR w P S p col A2 m2 c2 A3 m3 c3 A1 n1 c1 L wr) {row : Option Nat} (hgr : wr.grownBy w2 row) (hA : ∀ b, row = some b → P + 1 ≤ b) :
    w2.heap[P]? = some (.cells (pcells p A2 m2 c2 A3 m3 c3) 55 (0, 0)) ∧ w2.heap[w.heap.size]? = some (.cells (pcells PP.zero none 0 0 none 0 0) 55 (0, 0)) ∧ Below w.heap.size w w2 ∧ Sl tFld (fun b => w.heap.size < b ∧ b < P) w2 A1 n1 c1 L := by
  have q1 := h.hg; have q2 := h.hP; have q5 := h.hS
  have hsz := hgr.size
  have hk : ∀ k, k ≤ P → w2.heap[k]? = wr.heap[k]? := fun k hkB => hgr.block k (by omega) (fun e => by have := hA k e.symm; omega)
  refine ⟨(hk P (Nat.le_refl _)).trans h.heap, (hk _ (by omega)).trans h.res, ?_, h.fl.keep hsz fun b hb _ => hk b (by omega)⟩
  exact ⟨hgr.os.trans h.gr.os, hgr.tape.trans h.gr.tape, hgr.output.trans h.gr.output, by have := h.gr.size; omega, fun k hk2 => (hk k (by omega)).trans (h.gr.block k hk2)⟩
/-- Behind an append onto its values. -/
theorem NdR.addV (h : NdR w P S p col A2 m2 c2 A3 m3 c3 A1 n1 c1 L wr) {F G : Nat → Prop} {w3 a0 w4 : World} {v : VV} {A' : Option Addr} {c' : Nat} (h2 : ∀ b, F b → b < S ∧ P + 1 ≤ b ∧ col b = 0) (h3 : ∀ b, A2.map (·.block) = some b → b < S ∧ col b = 0)
    (hG : ∀ b, G b → S ≤ b) (ha : ApdL tVV 53 (fun b => (F b ∨ G b) ∧ b < w4.heap.size) a0 w3 w2 (P + 1) A2 A' (m2 + 1) c' (p.vals ++ [v])) (hw3 : Below wr.heap.size wr w3) :
    NdR w P w2.heap.size { p with vals := p.vals ++ [v] } (recolor col 0 S) A' (m2 + 1) c' A3 m3 c3 A1 n1 c1 L (w2.setCell ⟨P, 5, none⟩ (.slice A' (m2 + 1) c')) := by
  have q1 := h.hg; have q2 := h.hP; have q5 := h.hS
  have hgr : wr.grownBy w2 (A2.map (·.block)) := grown_trans (grown_of_below hw3) ha.grown
  have hsz := hgr.size
  obtain ⟨r1, r2, r3, r4⟩ := h.rest hgr fun b hb => (h.vals.lies hb).1
  have h5 := h.nums.past (by decide) h3 hgr (by omega)
  have h6 := Col.apd h2 h3 hG q2 (by have := hw3.size; omega) ha
  exact ⟨heap_set r1 rfl, heap_setne r2 (by omega), h6.setP (by omega) _, h5.setP (by omega) _, bsetc r3 (by omega) _, slsetc r4 (by omega) _, h.op, h.clm, h.vok, q1, by omega, by simp⟩
/-- Behind an append onto its numbers. -/
theorem NdR.addN (h : NdR w P S p col A2 m2 c2 A3 m3 c3 A1 n1 c1 L wr) {F G : Nat → Prop} {w3 a0 w4 : World} {v : Int} {A' : Option Addr} {c' : Nat} (h2 : ∀ b, F b → b < S ∧ P + 1 ≤ b ∧ col b = 1) (h3 : ∀ b, A3.map (·.block) = some b → b < S ∧ col b = 1)
    (hG : ∀ b, G b → S ≤ b) (ha : ApdL tI64 3 (fun b => (F b ∨ G b) ∧ b < w4.heap.size) a0 w3 w2 (P + 1) A3 A' (m3 + 1) c' (p.l ++ [v])) (hw3 : Below wr.heap.size wr w3) :
    NdR w P w2.heap.size { p with l := p.l ++ [v] } (recolor col 1 S) A2 m2 c2 A' (m3 + 1) c' A1 n1 c1 L (w2.setCell ⟨P, 6, none⟩ (.slice A' (m3 + 1) c')) := by
  have q1 := h.hg; have q2 := h.hP; have q5 := h.hS
  have hgr : wr.grownBy w2 (A3.map (·.block)) := grown_trans (grown_of_below hw3) ha.grown
  have hsz := hgr.size
  obtain ⟨r1, r2, r3, r4⟩ := h.rest hgr fun b hb => (h.nums.lies hb).1
  have h5 := h.vals.past (by decide) h3 hgr (by omega)
  have h6 := Col.apd h2 h3 hG q2 (by have := hw3.size; omega) ha
  exact ⟨heap_set r1 rfl, heap_setne r2 (by omega), h5.setP (by omega) _, h6.setP (by omega) _, bsetc r3 (by omega) _, slsetc r4 (by omega) _, h.op, h.clm, h.vok, q1, by omega, by simp⟩
/-- The cells of the node. -/
theorem NdR.cells (h : NdR w P S p col A2 m2 c2 A3 m3 c3 A1 n1 c1 L wr) : wr.cell? ⟨P, 0, none⟩ = some (.int .i64 p.op) ∧ wr.cell? ⟨P, 1, none⟩ = some (.int .i64 p.col) ∧ wr.cell? ⟨P, 2, none⟩ = some (.bool p.v.null) ∧ wr.cell? ⟨P, 3, none⟩ = some (.int .i64 p.v.n) ∧
    wr.cell? ⟨P, 4, none⟩ = some (.string p.v.s) ∧ wr.cell? ⟨P, 5, none⟩ = some (.slice A2 m2 c2) ∧ wr.cell? ⟨P, 6, none⟩ = some (.slice A3 m3 c3) := by
  refine ⟨?_, ?_, ?_, ?_, ?_, ?_, ?_⟩ <;> (rw [Lib.cell_of_heap h.heap]; rfl)
theorem NdR.free (h : NdR w P S p col A2 m2 c2 A3 m3 c3 A1 n1 c1 L wr) (j : Nat) : wr.frozen? ⟨P, j, none⟩ = false := Lib.frozen_of_heap h.heap j
end
/-- What 'asked' leaves. -/
def AskPost (p : PP) (w : World) (e : Ending) (w' : World) : Prop :=
  ∃ A2 m2 c2 A3 m3 c3, e = .returned (.agg #[.int .i64 p.op, .int .i64 p.col, .bool p.v.null, .int .i64 p.v.n, .string p.v.s, .slice A2 m2 c2, .slice A3 m3 c3]) ∧ Below w.heap.size w w' ∧
    tPP.rep (fun b => w.heap.size ≤ b) w' [.int .i64 p.op, .int .i64 p.col, .bool p.v.null, .int .i64 p.v.n, .string p.v.s, .slice A2 m2 c2, .slice A3 m3 c3] p
theorem rdNode_fold (l : List UInt8) : (rdNode l).2 = ((rdFields l).2.foldl nodeStep (false, PP.zero)).2 := by
  unfold rdNode
  dsimp only
  rw [show (rdFields l).1 = ((rdFields l).1 || false) by simp, nodeFold_or]
end Go.Proofs.YtojenpjafgfpaaaGreatDoor
/- The reference 32: asked. -/
namespace Go.Proofs.YtojenpjafgfpaaaGreatDoor
open Go Go.RowKit
attribute [local go_sem ↓] Go.wp_at_zero Go.wp_at_succ

set_option maxRecDepth 100000 in
set_option maxHeartbeats 8000000 in
theorem rasked_any (F : Nat → Prop) (A : Option Addr) (n c : Nat) (l : List UInt8) (w : World) (h : Bs F w A n c l) (hn : n ≤ 4294967000) {q : PP} (hq : q = (rdNode l).2) :
    Calls Tryz.prog 23 #[.slice A n c] w (AskPost q w) := by
  obtain ⟨L, hL⟩ : ∃ L, L = (rdFields l).2 := ⟨_, rfl⟩
  have hcount : L.length ≤ 4294967296 := by rw [hL]; exact rdFields_count (by rw [← h.len]; omega)
  have hmem : ∀ f ∈ L, f.b.length ≤ 4294967000 := fun f hf => Nat.le_trans (rdFields_mem (l := l) (by rw [← hL]; exact hf)) (by rw [← h.len]; exact hn)
  have hq2 : q = (L.foldl nodeStep (false, PP.zero)).2 := by rw [hq, hL, rdNode_fold]
  have HLL := Lib.hid hL; have HQ := Lib.hid hq2; have HM := Lib.hid hmem
  clear hL hq hq2 hmem
  go_enter Tryz.func23, Tryz.ntmps23
  go_wp2_with (first
    | (go_at_call 19; refine (rwtake_L F A n c l _ (h.alloc _) (by omega) HLL.out).mono ?_; rintro e w1 ⟨A1, n1, c1, ec, rfl, hb1, hs1⟩; have HB1 := Lib.hid hb1; have HS1 := Lib.hid hs1; clear hb1 hs1)
    | fail)
  have hsz1 : w.heap.size + 1 ≤ w1.heap.size := by have := HB1.out.size; simpa using this
  have hb0 : Below w.heap.size w w1 := ((Below.refl _ w).alloc (Nat.le_refl _) _).trans (HB1.out.mono (by simp))
  have hst : NdR w w1.heap.size (w1.heap.size + 1) PP.zero (fun _ => 0) none 0 0 none 0 0 A1 n1 c1 L (w1.alloc (.cells #[.int .i64 0, .int .i64 0, .bool false, .int .i64 0, .string ⟨#[]⟩, .slice none 0 0, .slice none 0 0] 55)) :=
    ⟨heap_alloc_new w1 _, heap_allocd ((HB1.out.block _ (by simp)).trans (heap_alloc_new w _)) _, Col.nil_ _ _ _ _ _ _ _, Col.nil_ _ _ _ _ _ _ _, hb0.alloc (by omega) _,
      (HS1.out.weaken (F' := fun b => w.heap.size < b ∧ b < w1.heap.size) fun b hb hl => ⟨by simp at hb; omega, hl⟩).alloc _, by unfold i64; decide, by unfold i64; decide, ⟨by decide, by decide, by decide⟩, by omega, by omega, by simp⟩
  have HST := Lib.hid hst; clear hst hb0
  have HN := Lib.hid HS1.out.len
  have hn1 : n1 ≤ 4294967296 := by rw [HN.out]; exact hcount
  go_loopw [6] (fun i wr => ∃ (j : Nat) (b2 : Bool) (p : PP) (S : Nat) (col : Nat → Nat) (A2 : Option Addr) (m2 c2 : Nat) (A3 : Option Addr) (m3 c3 : Nat), j ≤ n1 ∧ i = .int .i64 j ∧ m2 ≤ j ∧ m3 ≤ j ∧ NdR w w1.heap.size S p col A2 m2 c2 A3 m3 c3 A1 n1 c1 L wr ∧ (L.take j).foldl nodeStep (false, PP.zero) = (b2, p))
    (fun i _ => n1 - (intOf i).toNat)
  case atStart => exact ⟨0, false, PP.zero, w1.heap.size + 1, _, none, 0, 0, none, 0, 0, Nat.zero_le _, rfl, Nat.le_refl _, Nat.le_refl _, HST.out, rfl⟩
  case round =>
    clear HST HS1 HB1
    obtain ⟨j, b2, p, S, col, A2, m2, c2, A3, m3, c3, hj, rfl, hm2, hm3, hst, hfold⟩ := hrel
    have HFO := Lib.hid hfold; clear hfold
    have HST := Lib.hid hst; clear hst
    have q2 := HST.out.hP; have q4 := HST.out.hS
    by_cases hlt2 : j < n1
    · have hjl : j < L.length := by rw [← HN.out]; exact hlt2
      obtain ⟨b, o, cs, rfl, hb, hbl, hrep, hc⟩ := HST.out.fl.at_ hjl (by decide)
      obtain ⟨f, hf⟩ : ∃ f, f = L[j] := ⟨_, rfl⟩
      have hnext := foldl_take nodeStep (false, PP.zero) L j hjl
      rw [HFO.out, ← hf] at hnext
      rw [← hf] at hrep
      obtain ⟨A4, n4, c4, rfl, hftag, hfn, hfb⟩ := hrep
      obtain ⟨g0, g1, g2, g3⟩ := cells4 hc
      have hfm : f ∈ L := by rw [hf]; exact List.getElem_mem hjl
      clear hc hf g1
      have hn4 : n4 ≤ 4294967000 := by rw [hfb.len]; exact HM.out f hfm
      have HFB := Lib.hid hfb; clear hfb
      have hz := zagI_bd f.n hfn
      obtain ⟨t, ht⟩ : ∃ t, t = f.tag := ⟨_, rfl⟩
      rw [← ht] at g0 hftag
      have HT := Lib.hid ht; clear ht
      have HNX := Lib.hid hnext; clear hnext
      obtain ⟨rv, hrv⟩ : ∃ rv, rv = rdValue f.b := ⟨_, rfl⟩
      have HRV := Lib.hid hrv; clear hrv
      go_upto_region 7 with (first
        | (go_at_call 53; refine (rtakeValue_v _ A4 n4 c4 f.b _ HFB.out hn4 (congrArg Prod.snd HRV.out)).mono ?_; rintro e w5 ⟨ec5, rfl, hb5, hvok, _⟩; have HB5 := Lib.hid hb5; have HOK := Lib.hid hvok; clear hb5 hvok)
        | fail)
      obtain ⟨wb, hwb, hBb, hCb, hSb, _⟩ := boxed w5 [.bool rv.2.null, .int .i64 rv.2.n, .string rv.2.s] 53
      rw [← hwb]
      have hB2 := HB5.out.trans (hBb.mono HB5.out.size)
      have HSB := Lib.hid (HST.out.below hB2)
      have v0 : wb.cell? ⟨w5.heap.size, 0, none⟩ = some (.bool rv.2.null) := hCb 0 _ rfl
      have v1 : wb.cell? ⟨w5.heap.size, 1, none⟩ = some (.int .i64 rv.2.n) := hCb 1 _ rfl
      have v2 : wb.cell? ⟨w5.heap.size, 2, none⟩ = some (.string rv.2.s) := hCb 2 _ rfl
      have k0 := kcell hB2 g0
      have k2 := kcell hB2 g2
      have q5 := HSB.out.hS
      have q6 : S ≤ w5.heap.size := Nat.le_trans q4 HB5.out.size
      clear hwb g0 g2 g3 hb hbl HST HFB hCb hBb hSb hB2
      obtain ⟨d0, d1, d2, d3, d4, d5, d6⟩ := HSB.out.cells
      have e0 := HSB.out.free 0
      have e1 := HSB.out.free 1
      have e2 := HSB.out.free 2
      have e3 := HSB.out.free 3
      have e4 := HSB.out.free 4
      have e5 := HSB.out.free 5
      have e6 := HSB.out.free 6
      by_cases h1 : t = 1
      · subst h1
        have HS := Lib.hid (show nodeStep (b2, p) f = (b2, { p with op := zagI f.n }) by simp [nodeStep, ← HT.out])
        go_wp2_with (go_at_call 20; refine (rzag_any f.n _ hfn).mono ?_; rintro e w' ⟨rfl, rfl⟩)
        go_roundw
        case rel => exact ⟨j + 1, b2, { p with op := zagI f.n }, S, col, A2, m2, c2, A3, m3, c3, by omega, by go_num, by omega, by omega, HSB.out.put rfl rfl rfl ⟨hz.1, hz.2⟩ HSB.out.clm HSB.out.vok, by rw [HNX.out, HS.out]⟩
        case measure => simp [intOf]; omega
      by_cases h2 : t = 2
      · subst h2
        clear h1
        have HS := Lib.hid (show nodeStep (b2, p) f = (b2, { p with col := zagI f.n }) by simp [nodeStep, ← HT.out])
        go_wp2_with (go_at_call 20; refine (rzag_any f.n _ hfn).mono ?_; rintro e w' ⟨rfl, rfl⟩)
        go_roundw
        case rel => exact ⟨j + 1, b2, { p with col := zagI f.n }, S, col, A2, m2, c2, A3, m3, c3, by omega, by go_num, by omega, by omega, HSB.out.put rfl rfl rfl HSB.out.op ⟨hz.1, hz.2⟩ HSB.out.vok, by rw [HNX.out, HS.out]⟩
        case measure => simp [intOf]; omega
      by_cases h3 : t = 3
      · subst h3
        clear h1 h2
        have HS := Lib.hid (show nodeStep (b2, p) f = (b2 || rv.1, { p with v := rv.2 }) by simp [nodeStep, ← HT.out, ← HRV.out])
        go_wp2_with fail
        go_roundw
        case rel =>
          exact ⟨j + 1, b2 || rv.1, { p with v := rv.2 }, S, col, A2, m2, c2, A3, m3, c3, by omega, by go_num, by omega, by omega,
            ((HSB.out.put (p2 := { p with v := ⟨rv.2.null, p.v.n, p.v.s⟩ }) rfl rfl rfl HSB.out.op HSB.out.clm HSB.out.vok).put (p2 := { p with v := ⟨rv.2.null, rv.2.n, p.v.s⟩ }) rfl rfl rfl HSB.out.op HSB.out.clm ⟨HOK.out.1, HOK.out.2.1, HSB.out.vok.2.2⟩).put rfl rfl rfl HSB.out.op HSB.out.clm HOK.out, by rw [HNX.out, HS.out]⟩
        case measure => simp [intOf]; omega
      by_cases h4 : t = 4
      · subst h4
        clear h1 h2 h3
        have HS := Lib.hid (show nodeStep (b2, p) f = (b2 || rv.1, { p with vals := p.vals ++ [rv.2] }) by simp [nodeStep, ← HT.out, ← HRV.out])
        obtain ⟨Fv, hvo, hvc, hva⟩ := HSB.out.vals
        have HVO := Lib.hid hvo; have HVC := Lib.hid hvc; have HVA := Lib.hid hva; clear hvo hvc hva
        go_wp2_with (first
          | (at_builtin; refine apl1 (T := tVV) elemVV wb wb rfl (.tmp 60) (.tmp 62) rfl (w1.heap.size + 1) A2 m2 c2 p.vals rfl Fv (fun _ => False) HVO.out (Below.refl _ _) (by omega) _ rfl [.bool rv.2.null, .int .i64 rv.2.n, .string rv.2.s] rv.2 ⟨rfl, HOK.out⟩ 53 rfl (fun _ _ _ _ h => h) (by omega) ?_; intro A6 c6 w6 h6; obtain ⟨r1, _, _, _⟩ := HSB.out.rest (grown_trans (grown_alloc (grown_of_below (Below.refl _ _)) _) h6.grown) (fun b hb => (HSB.out.vals.lies hb).1); have d5' : w6.cell? ⟨w1.heap.size, 5, none⟩ = some (.slice A2 m2 c2) := (by rw [Lib.cell_of_heap r1]; rfl); have e5' := Lib.frozen_of_heap r1 5; clear r1)
          | fail)
        go_roundw
        case rel =>
          exact ⟨j + 1, b2 || rv.1, { p with vals := p.vals ++ [rv.2] }, w6.heap.size, _, A6, m2 + 1, c6, A3, m3, c3, by omega, by go_num, by omega, by omega, HSB.out.addV HVC.out HVA.out (fun _ h => h.elim) h6 ((Below.refl _ _).alloc (Nat.le_refl _) _), by rw [HNX.out, HS.out]⟩
        case measure => simp [intOf]; omega
      by_cases h5 : t = 5
      · subst h5
        clear h1 h2 h3 h4
        have HS := Lib.hid (show nodeStep (b2, p) f = (b2, { p with l := p.l ++ [zagI f.n] }) by simp [nodeStep, ← HT.out])
        obtain ⟨Fv, hvo, hvc, hva⟩ := HSB.out.drew.nums
        have HVO := Lib.hid hvo; have HVC := Lib.hid hvc; have HVA := Lib.hid hva; clear hvo hvc hva
        have HDR := Lib.hid HSB.out.drew
        have d6x := kcell ((Below.refl _ wb).alloc (Nat.le_refl _) (.cells #[.int .i64 (zagI f.n)] 3)) d6
        go_wp2_with fail
        go_region_law (first
            | (refine step_callee1 rfl 20 Tryz.func20 (by kernel_rfl) (by kernel_rfl) (.tmp 73) _ rfl (.int .u64 (f.n : Int)) rfl (rzag_any f.n _ hfn) ?_; rintro e w' ⟨rfl, rfl⟩; refine ⟨_, rfl, ?_⟩)
            | (have _hq := q5; refine step_apl1 (T := tI64) elemI64 wb.drew wb.drew rfl (.tmp 68) (.tmp 75) rfl (w1.heap.size + 1) A3 m3 c3 p.l rfl Fv (fun _ => False) HVO.out (Below.refl _ _) (by simp; omega) _ rfl [.int .i64 (zagI f.n)] (zagI f.n) ⟨rfl, hz⟩ 3 rfl (fun _ _ _ _ h => h) (by omega) ?_; intro A6 c6 w6 h6; have hgr6 := grown_trans (grown_alloc (grown_of_below (Below.refl _ wb.drew)) _) h6.grown; obtain ⟨r1, _, _, r4⟩ := HDR.out.rest hgr6 (fun b hb => (HDR.out.nums.lies hb).1); have d6' : w6.cell? ⟨w1.heap.size, 6, none⟩ = some (.slice A3 m3 c3) := (by rw [Lib.cell_of_heap r1]; rfl); have e6' := Lib.frozen_of_heap r1 6; clear r1 r4 hgr6)
            | fail)
        all_goals
          go_wp2_with fail
          go_roundw
          case rel => exact ⟨j + 1, b2, { p with l := p.l ++ [zagI f.n] }, w6.heap.size, _, A2, m2, c2, A6, m3 + 1, c6, by omega, by go_num, by omega, by omega, HDR.out.addN HVC.out HVA.out (fun _ h => h.elim) h6 ((Below.refl _ _).alloc (Nat.le_refl _) _), by rw [HNX.out, HS.out]⟩
          case measure => simp [intOf]; omega
      · have HS := Lib.hid (show nodeStep (b2, p) f = (b2, p) by simp [nodeStep, ← HT.out, h1, h2, h3, h4, h5])
        have m1 : (t == 1) = false := by simpa using h1
        have m2' : (t == 2) = false := by simpa using h2
        have m3' : (t == 3) = false := by simpa using h3
        have m4 : (t == 4) = false := by simpa using h4
        have m5 : (t == 5) = false := by simpa using h5
        clear h1 h2 h3 h4 h5
        go_wp2_with fail
        go_roundw
        case rel => exact ⟨j + 1, b2, p, S, col, A2, m2, c2, A3, m3, c3, by omega, by go_num, by omega, by omega, HSB.out, by rw [HNX.out, HS.out]⟩
        case measure => simp [intOf]; omega
    · obtain rfl : j = n1 := by omega
      have hre : q = p := by
        rw [HQ.out]
        have := HFO.out
        rw [List.take_of_length_le (by rw [← HN.out]; exact Nat.le_refl _)] at this
        rw [this]
      have HRE := Lib.hid hre; clear hre
      obtain ⟨d0, d1, d2, d3, d4, d5, d6⟩ := HST.out.cells
      have r0 : wr.cell? ⟨w.heap.size, 0, none⟩ = some (.int .i64 0) := by rw [Lib.cell_of_heap HST.out.res]; rfl
      have r1 : wr.cell? ⟨w.heap.size, 1, none⟩ = some (.int .i64 0) := by rw [Lib.cell_of_heap HST.out.res]; rfl
      have r2 : wr.cell? ⟨w.heap.size, 2, none⟩ = some (.bool false) := by rw [Lib.cell_of_heap HST.out.res]; rfl
      have r3 : wr.cell? ⟨w.heap.size, 3, none⟩ = some (.int .i64 0) := by rw [Lib.cell_of_heap HST.out.res]; rfl
      have r4 : wr.cell? ⟨w.heap.size, 4, none⟩ = some (.string ⟨#[]⟩) := by rw [Lib.cell_of_heap HST.out.res]; rfl
      have r5 : wr.cell? ⟨w.heap.size, 5, none⟩ = some (.slice none 0 0) := by rw [Lib.cell_of_heap HST.out.res]; rfl
      have r6 : wr.cell? ⟨w.heap.size, 6, none⟩ = some (.slice none 0 0) := by rw [Lib.cell_of_heap HST.out.res]; rfl
      have e0 := Lib.frozen_of_heap HST.out.res 0
      have e1 := Lib.frozen_of_heap HST.out.res 1
      have e2 := Lib.frozen_of_heap HST.out.res 2
      have e3 := Lib.frozen_of_heap HST.out.res 3
      have e4 := Lib.frozen_of_heap HST.out.res 4
      have e5 := Lib.frozen_of_heap HST.out.res 5
      have e6 := Lib.frozen_of_heap HST.out.res 6
      have HRS := Lib.hid HST.out.res
      go_wp2_with fail
      refine bodyPost_ret (results_cell_row rfl _ _ w.heap.size 55 (pcells p A2 m2 c2 A3 m3 c3) (0, 0) _ rfl (by have hk := HRS.out; (repeat (first | with_reducible exact hk | with_reducible apply heap_drew | with_reducible apply heap_set)); all_goals rfl) Tryz.underlying55 rfl (by kernel_rfl)) rfl ?_
      rw [HRE.out]
      refine ⟨A2, m2, c2, A3, m3, c3, rfl, ?_, A2, m2, c2, A3, m3, c3, rfl, HST.out.op, HST.out.clm, HST.out.vok, ?_, ?_⟩
      · have hb := HST.out.gr
        repeat (first | with_reducible exact hb | with_reducible refine bdrewB ?_ | with_reducible refine bsetc ?_ (Nat.le_refl _) _)
      · have hs : Sl tVV (fun b => w.heap.size < b) wr A2 m2 c2 p.vals := HST.out.vals.sl.weaken fun b hb _ => by have := HST.out.hg; omega
        refine Sl.weaken (F := fun b => w.heap.size < b) ?_ (fun b hb _ => Nat.le_of_lt hb)
        repeat (first | with_reducible exact hs | with_reducible refine Sl.drew ?_ | with_reducible refine slsetc ?_ (Nat.lt_irrefl _) _)
      · have hs : Sl tI64 (fun b => w.heap.size < b) wr A3 m3 c3 p.l := HST.out.nums.sl.weaken fun b hb _ => by have := HST.out.hg; omega
        refine Sl.weaken (F := fun b => w.heap.size < b) ?_ (fun b hb _ => Nat.le_of_lt hb)
        repeat (first | with_reducible exact hs | with_reducible refine Sl.drew ?_ | with_reducible refine slsetc ?_ (Nat.lt_irrefl _) _)
end Go.Proofs.YtojenpjafgfpaaaGreatDoor
/- The reference 32: TakeEvent: the state of its loop. (Printed by gen_rev.py.) -/
namespace Go.Proofs.YtojenpjafgfpaaaGreatDoor
open Go Go.RowKit

theorem pp_oks {F : Nat → Prop} {w : World} {cs : List Value} {p : PP} (h : tPP.rep F w cs p) : p.oks := by
  obtain ⟨A1, n1, c1, A2, n2, c2, _, h1, h2, h3, h4, h5⟩ := h
  refine ⟨h1, h2, h3, fun x hx => ?_, fun x hx => ?_⟩
  · obtain ⟨_, hr⟩ := sl_mem h4 (by decide) hx; exact hr.2
  · obtain ⟨_, hr⟩ := sl_mem h5 (by decide) hx; exact hr.2
theorem ee_oks {F : Nat → Prop} {w : World} {cs : List Value} {e : EE} (h : tEE.rep F w cs e) : e.oks := by
  obtain ⟨A1, n1, c1, A2, n2, c2, A3, n3, c3, A4, n4, c4, A5, n5, c5, _, h1, h2, h3, h4, h5, k1, k2, k3, k4, k5⟩ := h
  refine ⟨h1, h2, h3, h4, h5, fun x hx v hv => ?_, fun x hx => ?_, fun x hx => ?_, fun x hx => ?_, fun x hx => ?_⟩
  · obtain ⟨_, _, _, _, _, hr⟩ := sl_mem k1 (by decide) hx
    obtain ⟨_, hr2⟩ := sl_mem hr (by decide) hv
    exact hr2.2
  · obtain ⟨_, hr⟩ := sl_mem k2 (by decide) hx; exact hr.2
  · obtain ⟨_, hr⟩ := sl_mem k3 (by decide) hx; exact hr.2
  · obtain ⟨_, hr⟩ := sl_mem k4 (by decide) hx; exact hr.2
  · obtain ⟨_, hr⟩ := sl_mem k5 (by decide) hx; exact pp_oks hr

/-- The event that is read so far, in block P; the result's cell in w's next block; fields L between them. -/
structure EvQ (w : World) (P S : Nat) (x : EE) (col : Nat → Nat) (Z0 : Option Addr) (y0 v0 : Nat) (Z1 : Option Addr) (y1 v1 : Nat) (Z2 : Option Addr) (y2 v2 : Nat) (Z3 : Option Addr) (y3 v3 : Nat) (Z4 : Option Addr) (y4 v4 : Nat) (A1 : Option Addr) (n1 c1 : Nat) (L : List Fld) (wr : World) : Prop where
  heap : wr.heap[P]? = some (.cells (ecells x Z0 y0 v0 Z1 y1 v1 Z2 y2 v2 Z3 y3 v3 Z4 y4 v4) 29 (0, 0))
  res : wr.heap[w.heap.size]? = some (.cells (ecells EE.zero none 0 0 none 0 0 none 0 0 none 0 0 none 0 0) 29 (0, 0))
  rows : Col (tSl tVV) 51 col 0 (P + 1) S wr Z0 y0 v0 x.rows
  keys : Col tKK 71 col 1 (P + 1) S wr Z1 y1 v1 x.keys
  exc : Col tI64 3 col 2 (P + 1) S wr Z2 y2 v2 x.list.except
  cols : Col tI64 3 col 3 (P + 1) S wr Z3 y3 v3 x.cols
  pred : Col tPP 55 col 4 (P + 1) S wr Z4 y4 v4 x.pred
  gr : Below w.heap.size w wr
  fl : Sl tFld (fun b => w.heap.size < b ∧ b < P) wr A1 n1 c1 L
  nums : x.nums
  hg : w.heap.size < P
  hP : P < S
  hS : S ≤ wr.heap.size

section
variable {w : World} {P S : Nat} {x x2 : EE} {col : Nat → Nat} {Z0 : Option Addr} {y0 v0 : Nat} {Z1 : Option Addr} {y1 v1 : Nat} {Z2 : Option Addr} {y2 v2 : Nat} {Z3 : Option Addr} {y3 v3 : Nat} {Z4 : Option Addr} {y4 v4 : Nat} {A1 : Option Addr} {n1 c1 : Nat} {L : List Fld} {wr w2 : World}
/-- A step that touches no block below S. -/
theorem EvQ.stepN (h : EvQ w P S x col Z0 y0 v0 Z1 y1 v1 Z2 y2 v2 Z3 y3 v3 Z4 y4 v4 A1 n1 c1 L wr) {row : Option Nat} (hgr : wr.grownBy w2 row) (hr : ∀ k, row = some k → S ≤ k) : EvQ w P S x col Z0 y0 v0 Z1 y1 v1 Z2 y2 v2 Z3 y3 v3 Z4 y4 v4 A1 n1 c1 L w2 := by
  have h1 := h.hg; have h2 := h.hP; have h5 := h.hS
  have hsz := hgr.size
  have hk : ∀ k, k < S → w2.heap[k]? = wr.heap[k]? := fun k hk => hgr.block k (by omega) fun e => by have := hr k e.symm; omega
  exact ⟨(hk P h2).trans h.heap, (hk _ (by omega)).trans h.res, h.rows.keep hsz fun b _ q2 _ _ => hk b q2, h.keys.keep hsz fun b _ q2 _ _ => hk b q2, h.exc.keep hsz fun b _ q2 _ _ => hk b q2, h.cols.keep hsz fun b _ q2 _ _ => hk b q2, h.pred.keep hsz fun b _ q2 _ _ => hk b q2,
    ⟨hgr.os.trans h.gr.os, hgr.tape.trans h.gr.tape, hgr.output.trans h.gr.output, by have := h.gr.size; omega, fun k hk2 => (hk k (by omega)).trans (h.gr.block k hk2)⟩,
    h.fl.keep hsz fun b hb _ => hk b (by omega), h.nums, h1, h2, by omega⟩
theorem EvQ.below (h : EvQ w P S x col Z0 y0 v0 Z1 y1 v1 Z2 y2 v2 Z3 y3 v3 Z4 y4 v4 A1 n1 c1 L wr) (hb : Below wr.heap.size wr w2) : EvQ w P S x col Z0 y0 v0 Z1 y1 v1 Z2 y2 v2 Z3 y3 v3 Z4 y4 v4 A1 n1 c1 L w2 := h.stepN (row := none) (grown_of_below hb) fun k hk => by cases hk
theorem EvQ.drew (h : EvQ w P S x col Z0 y0 v0 Z1 y1 v1 Z2 y2 v2 Z3 y3 v3 Z4 y4 v4 A1 n1 c1 L wr) : EvQ w P S x col Z0 y0 v0 Z1 y1 v1 Z2 y2 v2 Z3 y3 v3 Z4 y4 v4 A1 n1 c1 L wr.drew := h.below (Below.refl _ wr).drew
theorem EvQ.put (h : EvQ w P S x col Z0 y0 v0 Z1 y1 v1 Z2 y2 v2 Z3 y3 v3 Z4 y4 v4 A1 n1 c1 L wr) {j : Nat} {u : Value} (hc : (ecells x Z0 y0 v0 Z1 y1 v1 Z2 y2 v2 Z3 y3 v3 Z4 y4 v4).setIfInBounds j u = ecells x2 Z0 y0 v0 Z1 y1 v1 Z2 y2 v2 Z3 y3 v3 Z4 y4 v4) (e0 : x2.rows = x.rows) (e1 : x2.keys = x.keys) (e2 : x2.list.except = x.list.except) (e3 : x2.cols = x.cols) (e4 : x2.pred = x.pred) (hn : x2.nums) :
    EvQ w P S x2 col Z0 y0 v0 Z1 y1 v1 Z2 y2 v2 Z3 y3 v3 Z4 y4 v4 A1 n1 c1 L (wr.setCell ⟨P, j, none⟩ u) := by
  have h1 := h.hg; have h2 := h.hP
  exact ⟨heap_set h.heap hc, heap_setne h.res (by omega), by rw [e0]; exact h.rows.setP (by omega) _, by rw [e1]; exact h.keys.setP (by omega) _, by rw [e2]; exact h.exc.setP (by omega) _, by rw [e3]; exact h.cols.setP (by omega) _, by rw [e4]; exact h.pred.setP (by omega) _, bsetc h.gr (by omega) _, slsetc h.fl (by omega) _, hn, h1, h2, by simpa using h.hS⟩
/-- What an append onto one of its lists leaves as it was. -/
theorem EvQ.rest (h : EvQ w P S x col Z0 y0 v0 Z1 y1 v1 Z2 y2 v2 Z3 y3 v3 Z4 y4 v4 A1 n1 c1 L wr) {row : Option Nat} (hgr : wr.grownBy w2 row) (hA : ∀ b, row = some b → P + 1 ≤ b) :
    w2.heap[P]? = some (.cells (ecells x Z0 y0 v0 Z1 y1 v1 Z2 y2 v2 Z3 y3 v3 Z4 y4 v4) 29 (0, 0)) ∧ w2.heap[w.heap.size]? = some (.cells (ecells EE.zero none 0 0 none 0 0 none 0 0 none 0 0 none 0 0) 29 (0, 0)) ∧ Below w.heap.size w w2 ∧ Sl tFld (fun b => w.heap.size < b ∧ b < P) w2 A1 n1 c1 L := by
  have q1 := h.hg; have q2 := h.hP; have q5 := h.hS
  have hsz := hgr.size
  have hk : ∀ k, k ≤ P → w2.heap[k]? = wr.heap[k]? := fun k hkB => hgr.block k (by omega) (fun e => by have := hA k e.symm; omega)
  refine ⟨(hk P (Nat.le_refl _)).trans h.heap, (hk _ (by omega)).trans h.res, ?_, h.fl.keep hsz fun b hb _ => hk b (by omega)⟩
  exact ⟨hgr.os.trans h.gr.os, hgr.tape.trans h.gr.tape, hgr.output.trans h.gr.output, by have := h.gr.size; omega, fun k hk2 => (hk k (by omega)).trans (h.gr.block k hk2)⟩
theorem EvQ.addRw (h : EvQ w P S x col Z0 y0 v0 Z1 y1 v1 Z2 y2 v2 Z3 y3 v3 Z4 y4 v4 A1 n1 c1 L wr) {F G : Nat → Prop} {w3 a0 w4 : World} {v : List VV} {A' : Option Addr} {c' : Nat} (h2 : ∀ b, F b → b < S ∧ P + 1 ≤ b ∧ col b = 0) (h3 : ∀ b, Z0.map (·.block) = some b → b < S ∧ col b = 0)
    (hG : ∀ b, G b → S ≤ b) (ha : ApdL (tSl tVV) 51 (fun b => (F b ∨ G b) ∧ b < w4.heap.size) a0 w3 w2 (P + 1) Z0 A' (y0 + 1) c' (x.rows ++ [v])) (hw3 : Below wr.heap.size wr w3) :
    EvQ w P w2.heap.size { x with rows := x.rows ++ [v] } (recolor col 0 S) A' (y0 + 1) c' Z1 y1 v1 Z2 y2 v2 Z3 y3 v3 Z4 y4 v4 A1 n1 c1 L (w2.setCell ⟨P, 4, none⟩ (.slice A' (y0 + 1) c')) := by
  have q1 := h.hg; have q2 := h.hP; have q5 := h.hS
  have hgr : wr.grownBy w2 (Z0.map (·.block)) := grown_trans (grown_of_below hw3) ha.grown
  have hsz := hgr.size
  obtain ⟨r1, r2, r3, r4⟩ := h.rest hgr fun b hb => (h.rows.lies hb).1
  have h6 := Col.apd h2 h3 hG q2 (by have := hw3.size; omega) ha
  have t1 := h.keys.past (by decide) h3 hgr (by omega)
  have t2 := h.exc.past (by decide) h3 hgr (by omega)
  have t3 := h.cols.past (by decide) h3 hgr (by omega)
  have t4 := h.pred.past (by decide) h3 hgr (by omega)
  exact ⟨heap_set r1 rfl, heap_setne r2 (by omega), h6.setP (by omega) _, t1.setP (by omega) _, t2.setP (by omega) _, t3.setP (by omega) _, t4.setP (by omega) _, bsetc r3 (by omega) _, slsetc r4 (by omega) _, h.nums, q1, by omega, by simp⟩
theorem EvQ.addKy (h : EvQ w P S x col Z0 y0 v0 Z1 y1 v1 Z2 y2 v2 Z3 y3 v3 Z4 y4 v4 A1 n1 c1 L wr) {F G : Nat → Prop} {w3 a0 w4 : World} {v : KK} {A' : Option Addr} {c' : Nat} (h2 : ∀ b, F b → b < S ∧ P + 1 ≤ b ∧ col b = 1) (h3 : ∀ b, Z1.map (·.block) = some b → b < S ∧ col b = 1)
    (hG : ∀ b, G b → S ≤ b) (ha : ApdL tKK 71 (fun b => (F b ∨ G b) ∧ b < w4.heap.size) a0 w3 w2 (P + 1) Z1 A' (y1 + 1) c' (x.keys ++ [v])) (hw3 : Below wr.heap.size wr w3) :
    EvQ w P w2.heap.size { x with keys := x.keys ++ [v] } (recolor col 1 S) Z0 y0 v0 A' (y1 + 1) c' Z2 y2 v2 Z3 y3 v3 Z4 y4 v4 A1 n1 c1 L (w2.setCell ⟨P, 5, none⟩ (.slice A' (y1 + 1) c')) := by
  have q1 := h.hg; have q2 := h.hP; have q5 := h.hS
  have hgr : wr.grownBy w2 (Z1.map (·.block)) := grown_trans (grown_of_below hw3) ha.grown
  have hsz := hgr.size
  obtain ⟨r1, r2, r3, r4⟩ := h.rest hgr fun b hb => (h.keys.lies hb).1
  have h6 := Col.apd h2 h3 hG q2 (by have := hw3.size; omega) ha
  have t0 := h.rows.past (by decide) h3 hgr (by omega)
  have t2 := h.exc.past (by decide) h3 hgr (by omega)
  have t3 := h.cols.past (by decide) h3 hgr (by omega)
  have t4 := h.pred.past (by decide) h3 hgr (by omega)
  exact ⟨heap_set r1 rfl, heap_setne r2 (by omega), t0.setP (by omega) _, h6.setP (by omega) _, t2.setP (by omega) _, t3.setP (by omega) _, t4.setP (by omega) _, bsetc r3 (by omega) _, slsetc r4 (by omega) _, h.nums, q1, by omega, by simp⟩
theorem EvQ.addEx (h : EvQ w P S x col Z0 y0 v0 Z1 y1 v1 Z2 y2 v2 Z3 y3 v3 Z4 y4 v4 A1 n1 c1 L wr) {F G : Nat → Prop} {w3 a0 w4 : World} {v : Int} {A' : Option Addr} {c' : Nat} (h2 : ∀ b, F b → b < S ∧ P + 1 ≤ b ∧ col b = 2) (h3 : ∀ b, Z2.map (·.block) = some b → b < S ∧ col b = 2)
    (hG : ∀ b, G b → S ≤ b) (ha : ApdL tI64 3 (fun b => (F b ∨ G b) ∧ b < w4.heap.size) a0 w3 w2 (P + 1) Z2 A' (y2 + 1) c' (x.list.except ++ [v])) (hw3 : Below wr.heap.size wr w3) :
    EvQ w P w2.heap.size { x with list := { x.list with except := x.list.except ++ [v] } } (recolor col 2 S) Z0 y0 v0 Z1 y1 v1 A' (y2 + 1) c' Z3 y3 v3 Z4 y4 v4 A1 n1 c1 L (w2.setCell ⟨P, 7, none⟩ (.slice A' (y2 + 1) c')) := by
  have q1 := h.hg; have q2 := h.hP; have q5 := h.hS
  have hgr : wr.grownBy w2 (Z2.map (·.block)) := grown_trans (grown_of_below hw3) ha.grown
  have hsz := hgr.size
  obtain ⟨r1, r2, r3, r4⟩ := h.rest hgr fun b hb => (h.exc.lies hb).1
  have h6 := Col.apd h2 h3 hG q2 (by have := hw3.size; omega) ha
  have t0 := h.rows.past (by decide) h3 hgr (by omega)
  have t1 := h.keys.past (by decide) h3 hgr (by omega)
  have t3 := h.cols.past (by decide) h3 hgr (by omega)
  have t4 := h.pred.past (by decide) h3 hgr (by omega)
  exact ⟨heap_set r1 rfl, heap_setne r2 (by omega), t0.setP (by omega) _, t1.setP (by omega) _, h6.setP (by omega) _, t3.setP (by omega) _, t4.setP (by omega) _, bsetc r3 (by omega) _, slsetc r4 (by omega) _, h.nums, q1, by omega, by simp⟩
theorem EvQ.addCl (h : EvQ w P S x col Z0 y0 v0 Z1 y1 v1 Z2 y2 v2 Z3 y3 v3 Z4 y4 v4 A1 n1 c1 L wr) {F G : Nat → Prop} {w3 a0 w4 : World} {v : Int} {A' : Option Addr} {c' : Nat} (h2 : ∀ b, F b → b < S ∧ P + 1 ≤ b ∧ col b = 3) (h3 : ∀ b, Z3.map (·.block) = some b → b < S ∧ col b = 3)
    (hG : ∀ b, G b → S ≤ b) (ha : ApdL tI64 3 (fun b => (F b ∨ G b) ∧ b < w4.heap.size) a0 w3 w2 (P + 1) Z3 A' (y3 + 1) c' (x.cols ++ [v])) (hw3 : Below wr.heap.size wr w3) :
    EvQ w P w2.heap.size { x with cols := x.cols ++ [v] } (recolor col 3 S) Z0 y0 v0 Z1 y1 v1 Z2 y2 v2 A' (y3 + 1) c' Z4 y4 v4 A1 n1 c1 L (w2.setCell ⟨P, 8, none⟩ (.slice A' (y3 + 1) c')) := by
  have q1 := h.hg; have q2 := h.hP; have q5 := h.hS
  have hgr : wr.grownBy w2 (Z3.map (·.block)) := grown_trans (grown_of_below hw3) ha.grown
  have hsz := hgr.size
  obtain ⟨r1, r2, r3, r4⟩ := h.rest hgr fun b hb => (h.cols.lies hb).1
  have h6 := Col.apd h2 h3 hG q2 (by have := hw3.size; omega) ha
  have t0 := h.rows.past (by decide) h3 hgr (by omega)
  have t1 := h.keys.past (by decide) h3 hgr (by omega)
  have t2 := h.exc.past (by decide) h3 hgr (by omega)
  have t4 := h.pred.past (by decide) h3 hgr (by omega)
  exact ⟨heap_set r1 rfl, heap_setne r2 (by omega), t0.setP (by omega) _, t1.setP (by omega) _, t2.setP (by omega) _, h6.setP (by omega) _, t4.setP (by omega) _, bsetc r3 (by omega) _, slsetc r4 (by omega) _, h.nums, q1, by omega, by simp⟩
theorem EvQ.addPr (h : EvQ w P S x col Z0 y0 v0 Z1 y1 v1 Z2 y2 v2 Z3 y3 v3 Z4 y4 v4 A1 n1 c1 L wr) {F G : Nat → Prop} {w3 a0 w4 : World} {v : PP} {A' : Option Addr} {c' : Nat} (h2 : ∀ b, F b → b < S ∧ P + 1 ≤ b ∧ col b = 4) (h3 : ∀ b, Z4.map (·.block) = some b → b < S ∧ col b = 4)
    (hG : ∀ b, G b → S ≤ b) (ha : ApdL tPP 55 (fun b => (F b ∨ G b) ∧ b < w4.heap.size) a0 w3 w2 (P + 1) Z4 A' (y4 + 1) c' (x.pred ++ [v])) (hw3 : Below wr.heap.size wr w3) :
    EvQ w P w2.heap.size { x with pred := x.pred ++ [v] } (recolor col 4 S) Z0 y0 v0 Z1 y1 v1 Z2 y2 v2 Z3 y3 v3 A' (y4 + 1) c' A1 n1 c1 L (w2.setCell ⟨P, 9, none⟩ (.slice A' (y4 + 1) c')) := by
  have q1 := h.hg; have q2 := h.hP; have q5 := h.hS
  have hgr : wr.grownBy w2 (Z4.map (·.block)) := grown_trans (grown_of_below hw3) ha.grown
  have hsz := hgr.size
  obtain ⟨r1, r2, r3, r4⟩ := h.rest hgr fun b hb => (h.pred.lies hb).1
  have h6 := Col.apd h2 h3 hG q2 (by have := hw3.size; omega) ha
  have t0 := h.rows.past (by decide) h3 hgr (by omega)
  have t1 := h.keys.past (by decide) h3 hgr (by omega)
  have t2 := h.exc.past (by decide) h3 hgr (by omega)
  have t3 := h.cols.past (by decide) h3 hgr (by omega)
  exact ⟨heap_set r1 rfl, heap_setne r2 (by omega), t0.setP (by omega) _, t1.setP (by omega) _, t2.setP (by omega) _, t3.setP (by omega) _, h6.setP (by omega) _, bsetc r3 (by omega) _, slsetc r4 (by omega) _, h.nums, q1, by omega, by simp⟩
theorem EvQ.cell (h : EvQ w P S x col Z0 y0 v0 Z1 y1 v1 Z2 y2 v2 Z3 y3 v3 Z4 y4 v4 A1 n1 c1 L wr) {j : Nat} {u : Value} (hj : (ecells x Z0 y0 v0 Z1 y1 v1 Z2 y2 v2 Z3 y3 v3 Z4 y4 v4)[j]? = some u) : wr.cell? ⟨P, j, none⟩ = some u := by rw [Lib.cell_of_heap h.heap]; exact hj
theorem EvQ.free (h : EvQ w P S x col Z0 y0 v0 Z1 y1 v1 Z2 y2 v2 Z3 y3 v3 Z4 y4 v4 A1 n1 c1 L wr) (j : Nat) : wr.frozen? ⟨P, j, none⟩ = false := Lib.frozen_of_heap h.heap j
theorem EvQ.rep (h : EvQ w P S x col Z0 y0 v0 Z1 y1 v1 Z2 y2 v2 Z3 y3 v3 Z4 y4 v4 A1 n1 c1 L wr) : tEE.rep (fun b => P + 1 ≤ b) wr (ecellsL x Z0 y0 v0 Z1 y1 v1 Z2 y2 v2 Z3 y3 v3 Z4 y4 v4) x := by
  obtain ⟨u1, u2, u3, u4, u5⟩ := h.nums
  exact ⟨Z0, y0, v0, Z1, y1, v1, Z2, y2, v2, Z3, y3, v3, Z4, y4, v4, rfl, u1, u2, u3, u4, u5, h.rows.sl, h.keys.sl, h.exc.sl, h.cols.sl, h.pred.sl⟩
end
end Go.Proofs.YtojenpjafgfpaaaGreatDoor
