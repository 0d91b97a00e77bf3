/- names.Put and the reference's Put: a directory's name. -/
import Derived.Test.YtollmolchcnpeaaGreatDoorNDig
import Derived.Laws.IdiomCopy
import Derived.Deep.RegionHeld3
namespace Go.Proofs.YtollmolchcnpeaaGreatDoor
open Go Go.RowKit Go.Lib Go.Sort

theorem heap_set {w : World} {g j : Nat} {cs cs' : Array Value} {t : TypeId} {fr : Nat × Nat} {v : Value} (h : w.heap[g]? = some (.cells cs t fr)) (hc : cs.setIfInBounds j v = cs') : (w.setCell ⟨g, j, none⟩ v).heap[g]? = some (.cells cs' t fr) := by
  subst hc
  simp [World.setCell, Array.getElem?_modify, h]
theorem bsetc {B b j : Nat} {a w : World} (h : Below B a w) (hb : B ≤ b) (v : Value) : Below B a (w.setCell ⟨b, j, none⟩ v) := h.setCell (p := ⟨b, j, none⟩) hb v
theorem bdrewN {B : Nat} {a w : World} (h : Below B a w) (n : Nat) : Below B a (w.drewN n) := ⟨h.os, h.tape, h.output, h.size, h.block⟩
theorem kcell {W w1 : World} {a : Addr} {v : Value} (hb : Below W.heap.size W w1) (h : W.cell? a = some v) : w1.cell? a = some v := (hb.cell (World.block_lt_of_cell? W a h)).trans h
def StrPost (p : List UInt8) (w : World) (e : Ending) (w' : World) : Prop := e = .returned (.string ⟨p.toArray⟩) ∧ Below w.heap.size w w'
theorem join2 (a b s : List UInt8) : Lib.join [a, b] s = a ++ s ++ b := by simp [Lib.join_cons, Lib.joinTail]
theorem join3 (a b c s : List UInt8) : Lib.join [a, b, c] s = a ++ s ++ b ++ s ++ c := by simp [Lib.join_cons, Lib.joinTail]
theorem join_p (A : Option Addr) (n c : Nat) (l : List (List UInt8)) (w : World) (h : Sl tStr (fun _ => True) w A n c (strs l)) (p : List UInt8) (hp : p = Lib.join l [95]) (hlen : p.length ≤ 1000) (hn : n ≤ 1000) :
    Calls Tryz.prog 28 #[.slice A n c, .string ⟨#[95]⟩] w (StrPost p w) := by
  subst hp
  exact join_any _ A n c l ⟨#[95]⟩ w h (by show (Lib.join l [95]).length ≤ _; omega) (by omega)
theorem tstr_rep {F : Nat → Prop} {w : World} (l : List UInt8) (h : l.length ≤ 1000) : tStr.rep F w [.string ⟨l.toArray⟩] ⟨l.toArray⟩ := ⟨rfl, by show l.toArray.size ≤ maxLen; rw [List.size_toArray]; simp only [maxLen]; omega⟩
/-- slices.Delete(parts, 1, 2) of three. -/
theorem del3_any (b c : Nat) (x y z : List UInt8) (t : TypeId) (w : World) (h : w.heap[b]? = some (.cells #[.string ⟨x.toArray⟩, .string ⟨y.toArray⟩, .string ⟨z.toArray⟩] t (0, 0))) (hc3 : 3 ≤ c) (hc : c ≤ 1000) (hx : x.length ≤ 1000) (hz : z.length ≤ 1000) (B : Nat) (hB : B ≤ b) :
    Calls Tryz.prog 27 #[.slice (some ⟨b, 0, none⟩) 3 c, .int .i64 1, .int .i64 2] w fun e w' => e = .returned (.slice (some ⟨b, 0, none⟩) 2 c) ∧ Sl tStr (fun _ => True) w' (some ⟨b, 0, none⟩) 2 c (strs [x, z]) ∧ Below B w w' := by
  have hbl : b < w.heap.size := (Array.getElem?_eq_some_iff.1 h).1
  refine (Tryz.slices_Delete_string_cells b 0 3 c 1 2 (fun i => match i with | 0 => ⟨x.toArray⟩ | 1 => ⟨y.toArray⟩ | _ => ⟨z.toArray⟩) w hc3 (by omega) (by omega) (by omega) (fun i hi => ?_) (fun j hj => ?_)).mono ?_
  · rw [Nat.zero_add]
    match i, hi with
    | 0, _ => rw [Lib.cell_of_heap h]; rfl
    | 1, _ => rw [Lib.cell_of_heap h]; rfl
    | 2, _ => rw [Lib.cell_of_heap h]; rfl
  · rw [Nat.zero_add]
    exact Lib.frozen_of_heap h j
  · rintro e w' ⟨rfl, q, rfl⟩
    have e1 : (w.drewN q).setCells b 0 (((Lib.strsOf (fun i => match i with | 0 => (⟨x.toArray⟩ : ByteArray) | 1 => ⟨y.toArray⟩ | _ => ⟨z.toArray⟩) 3).take 1 ++ (Lib.strsOf (fun i => match i with | 0 => (⟨x.toArray⟩ : ByteArray) | 1 => ⟨y.toArray⟩ | _ => ⟨z.toArray⟩) 3).drop 2 ++ List.replicate (2 - 1) []).map encStr) = (((w.drewN q).setCell ⟨b, 0, none⟩ (.string ⟨x.toArray⟩)).setCell ⟨b, 1, none⟩ (.string ⟨z.toArray⟩)).setCell ⟨b, 2, none⟩ (.string ⟨#[]⟩) := by
      rfl
    rw [e1]
    have hh : ((((w.drewN q).setCell ⟨b, 0, none⟩ (.string ⟨x.toArray⟩)).setCell ⟨b, 1, none⟩ (.string ⟨z.toArray⟩)).setCell ⟨b, 2, none⟩ (.string ⟨#[]⟩)).heap[b]? = some (.cells #[.string ⟨x.toArray⟩, .string ⟨z.toArray⟩, .string ⟨#[]⟩] t (0, 0)) :=
      heap_set (cs' := #[.string ⟨x.toArray⟩, .string ⟨z.toArray⟩, .string ⟨#[]⟩]) (heap_set (cs' := #[.string ⟨x.toArray⟩, .string ⟨z.toArray⟩, .string ⟨z.toArray⟩]) (heap_set (cs' := #[.string ⟨x.toArray⟩, .string ⟨y.toArray⟩, .string ⟨z.toArray⟩]) (show (w.drewN q).heap[b]? = _ from h) rfl) rfl) rfl
    refine ⟨rfl, ⟨rfl, by omega, by simp only [maxLen]; omega, [[.string ⟨x.toArray⟩], [.string ⟨z.toArray⟩]], fun _ => ⟨b, 0, rfl, trivial, (Array.getElem?_eq_some_iff.1 hh).1, fun j u hu => ?_⟩, ?_⟩, bsetc (bsetc (bsetc (bdrewN (Below.refl _ _) q) hB _) hB _) hB _⟩
    · rw [Nat.zero_add, Lib.cell_of_heap hh]
      match j, hu with
      | 0, hu => exact hu
      | 1, hu => exact hu
    · exact Reps.mk2 (tstr_rep x hx) (tstr_rep z hz)

set_option maxRecDepth 100000 in
set_option maxHeartbeats 4000000 in
theorem nput_any (d : DD) (p : List UInt8) (hp : p = nput d) (w : World) (ht : Tab w) : Calls Tryz.prog 10 #[.agg #[.int .i64 d.kind, .int .i64 d.lo, .int .i64 d.hi]] w (StrPost p w) := by
  have HP := Lib.hid hp; have HT := Lib.hid ht
  obtain ⟨m, hm⟩ : ∃ m, m = may d := ⟨_, rfl⟩
  have HM := Lib.hid hm
  clear hp ht hm
  have HB0 := Lib.hid (show Below w.heap.size w (w.alloc (.cells #[.int .i64 d.kind, .int .i64 d.lo, .int .i64 d.hi] 24)) from (Below.refl _ _).alloc (Nat.le_refl _) _)
  cases m with
  | false =>
    have HF := Lib.hid (show p = [] by rw [HP.out]; exact nput_no HM.out.symm)
    go_enter Tryz.func10, Tryz.ntmps10
    go_wp2_with (first
      | (go_at_call 23; refine (may_any d false HM.out _).mono ?_; rintro e w1 ⟨rfl, hb1⟩; have HB1 := Lib.hid (HB0.out.trans (hb1.mono (by simp))); clear hb1)
      | fail)
    go_ret
    exact ⟨by rw [HF.out]; rfl, HB1.out⟩
  | true =>
    have hmi := (may_iff d).1 HM.out.symm
    have hq := nput_eq HM.out.symm
    obtain ⟨k, lo, hi⟩ := d
    dsimp only at hmi hq HB0
    obtain ⟨a, ha⟩ : ∃ a, a = word k := ⟨_, rfl⟩
    obtain ⟨x, hx⟩ : ∃ x, x = digs lo := ⟨_, rfl⟩
    obtain ⟨y, hy⟩ : ∃ y, y = digs hi := ⟨_, rfl⟩
    rw [← ha, ← hx, ← hy] at hq
    have hal : a.length ≤ 5 := by rw [ha]; exact word_len k
    have hxl : x.length ≤ 10 := by rw [hx]; exact digs_len (by omega)
    have hyl : y.length ≤ 10 := by rw [hy]; exact digs_len (by omega)
    have HA := Lib.hid ha; have HX := Lib.hid hx; have HY := Lib.hid hy
    have HPE := Lib.hid (HP.out.trans hq)
    have HLO : Hid (0 ≤ lo ∧ lo ≤ 1073741824) := Lib.hid (by omega)
    have HHI : Hid (0 ≤ hi ∧ hi ≤ 1073741824) := Lib.hid (by omega)
    clear ha hx hy hq hmi
    go_enter Tryz.func10, Tryz.ntmps10
    go_upto_region 3 with (first
      | (go_at_call 23; refine (may_any ⟨k, lo, hi⟩ true HM.out _).mono ?_; rintro e w1 ⟨rfl, hb1⟩; have HB1 := Lib.hid (HB0.out.trans (hb1.mono (by simp))); have hs1 : w.heap.size < w1.heap.size := (by have := hb1.size; simp at this; omega); have HK1 := Lib.hid (show w1.heap[w.heap.size]? = some (.cells #[.int .i64 k, .int .i64 lo, .int .i64 hi] 24 (0, 0)) from (hb1.block _ (by simp)).trans (heap_alloc_new w _)); clear hb1)
      | fail)
    have c0 : w1.cell? ⟨w.heap.size, 0, none⟩ = some (.int .i64 k) := by rw [Lib.cell_of_heap HK1.out]; rfl
    have c1 : w1.cell? ⟨w.heap.size, 1, none⟩ = some (.int .i64 lo) := by rw [Lib.cell_of_heap HK1.out]; rfl
    have c2 : w1.cell? ⟨w.heap.size, 2, none⟩ = some (.int .i64 hi) := by rw [Lib.cell_of_heap HK1.out]; rfl
    have HT1 := Lib.hid (HT.out.below HB1.out)
    clear HB0
    go_region_held3 (fun w' => w'.cell? ⟨w.heap.size, 0, none⟩ = some (.int .i64 k) ∧ w'.cell? ⟨w.heap.size, 1, none⟩ = some (.int .i64 lo) ∧ w'.cell? ⟨w.heap.size, 2, none⟩ = some (.int .i64 hi))
      (first | exact ⟨c0, c1, c2⟩ | exact ⟨kcell (W := w2) hb3 (kcell (W := w1.drew) hb2 c0), kcell (W := w2) hb3 (kcell (W := w1.drew) hb2 c1), kcell (W := w2) hb3 (kcell (W := w1.drew) hb2 c2)⟩ | exact ⟨kcell (W := w1.drew) hb2 c0, kcell (W := w1.drew) hb2 c1, kcell (W := w1.drew) hb2 c2⟩ | go_keep)
      (first
        | (go_at_call 13; refine (word_any k _).mono ?_; rintro e w' ⟨rfl, rfl⟩; rw [← HA.out])
        | (go_at_call_of 26 (Value.int .i64 lo); refine (digits_any lo HLO.out.1 HLO.out.2 x HX.out _ (HT1.out.below (bdrew (Below.refl _ _)))).mono ?_; rintro e w2 ⟨rfl, hb2⟩)
        | (go_at_call 26; refine (digits_any hi HHI.out.1 HHI.out.2 y HY.out _ (HT1.out.below (bthen (bdrew (Below.refl _ w1)) hb2))).mono ?_; rintro e w3 ⟨rfl, hb3⟩)
        | fail)
    all_goals
      have HB3 := Lib.hid (HB1.out.trans ((bthen (bthen (bdrew (Below.refl _ w1)) hb2) hb3).mono (Nat.le_of_lt hs1)))
      have hs3 : w.heap.size < w3.heap.size := by have h2 : w1.heap.size ≤ w2.heap.size := hb2.size; have := hb3.size; omega
      have HK3 := Lib.hid (heap_alloc_new w3 (.cells #[.string ⟨a.toArray⟩, .string ⟨x.toArray⟩, .string ⟨y.toArray⟩] 9))
      have HSL := Lib.hid (show Sl tStr (fun _ => True) (w3.alloc (.cells #[.string ⟨a.toArray⟩, .string ⟨x.toArray⟩, .string ⟨y.toArray⟩] 9)) (some ⟨w3.heap.size, 0, none⟩) 3 3 (strs [a, x, y]) from Sl.new3 (T := tStr) (tstr_rep a (by omega)) (tstr_rep x (by omega)) (tstr_rep y (by omega)) 9 _ rfl)
      have d0 : (w3.alloc (.cells #[.string ⟨a.toArray⟩, .string ⟨x.toArray⟩, .string ⟨y.toArray⟩] 9)).cell? ⟨w.heap.size, 0, none⟩ = some (.int .i64 k) := kcell ((Below.refl _ w3).alloc (Nat.le_refl _) _) (kcell hb3 (kcell (W := w1.drew) hb2 c0))
      clear hb2 hb3 c0 c1 c2
      by_cases hk : k = 1
      · have q1 : (k == 1) = true := by simpa using hk
        have HPE2 := Lib.hid (show p = Lib.join [a, y] [95] by rw [HPE.out, if_pos hk, join2]; simp)
        have hpl : p.length ≤ 1000 := by rw [HPE2.out, join2]; simp; omega
        clear hk
        go_wp2_with (first
          | (go_at_call 27; refine (del3_any w3.heap.size 3 a x y 9 _ HK3.out (Nat.le_refl _) (by omega) (by omega) (by omega) w.heap.size (Nat.le_of_lt hs3)).mono ?_; rintro e w5 ⟨rfl, hsl5, hb5⟩; have HS5 := Lib.hid hsl5; have HB5 := Lib.hid ((HB3.out.alloc (Nat.le_of_lt hs3) _).trans hb5); clear hsl5 hb5)
          | (go_at_call 28; refine (join_p _ 2 3 [a, y] _ HS5.out p HPE2.out hpl (by omega)).mono ?_; rintro e w6 ⟨rfl, hb6⟩; have HB6 := Lib.hid (HB5.out.trans (hb6.mono HB5.out.size)); clear hb6)
          | fail)
        go_ret
        exact ⟨rfl, HB6.out⟩
      · have q1 : (k == 1) = false := by simpa using hk
        have HPE2 := Lib.hid (show p = Lib.join [a, x, y] [95] by rw [HPE.out, if_neg hk, join3]; simp)
        have hpl : p.length ≤ 1000 := by rw [HPE2.out, join3]; simp; omega
        clear hk
        go_wp2_with (first
          | (go_at_call 28; refine (join_p _ 3 3 [a, x, y] _ HSL.out p HPE2.out hpl (by omega)).mono ?_; rintro e w6 ⟨rfl, hb6⟩; have HB6 := Lib.hid ((HB3.out.alloc (Nat.le_of_lt hs3) _).trans (hb6.mono (by simp; omega))); clear hb6)
          | fail)
        go_ret
        exact ⟨rfl, HB6.out⟩
theorem ret_s {a b : ByteArray} (h : a = b) : Ending.returned (.string a) = .returned (.string b) := by rw [h]
set_option maxRecDepth 100000 in
set_option maxHeartbeats 4000000 in
theorem rnput_any (d : DD) (p : List UInt8) (hp : p = nput d) (w : World) : Calls Tryz.prog 15 #[.agg #[.int .i64 d.kind, .int .i64 d.lo, .int .i64 d.hi]] w (StrPost p w) := by
  have HP := Lib.hid hp
  obtain ⟨m, hm⟩ : ∃ m, m = may d := ⟨_, rfl⟩
  have HM := Lib.hid hm
  clear hp hm
  have HB0 := Lib.hid (show Below w.heap.size w (w.alloc (.cells #[.int .i64 d.kind, .int .i64 d.lo, .int .i64 d.hi] 24)) from (Below.refl _ _).alloc (Nat.le_refl _) _)
  cases m with
  | false =>
    have HF := Lib.hid (show p = [] by rw [HP.out]; exact nput_no HM.out.symm)
    go_enter Tryz.func15, Tryz.ntmps15
    go_wp2_with (first
      | (go_at_call 32; refine (rmay_any d false HM.out _).mono ?_; rintro e w1 ⟨rfl, hb1⟩; have HB1 := Lib.hid (HB0.out.trans (hb1.mono (by simp))); clear hb1)
      | fail)
    go_ret
    exact ⟨by rw [HF.out]; rfl, HB1.out⟩
  | true =>
    have hmi := (may_iff d).1 HM.out.symm
    have hq := nput_eq HM.out.symm
    obtain ⟨k, lo, hi⟩ := d
    dsimp only at hmi hq HB0
    obtain ⟨x, hx⟩ : ∃ x, x = digs lo := ⟨_, rfl⟩
    obtain ⟨y, hy⟩ : ∃ y, y = digs hi := ⟨_, rfl⟩
    rw [← hx, ← hy] at hq
    have hxl : x.length ≤ 10 := by rw [hx]; exact digs_len (by omega)
    have hyl : y.length ≤ 10 := by rw [hy]; exact digs_len (by omega)
    have HX := Lib.hid hx; have HY := Lib.hid hy
    have HPE := Lib.hid (HP.out.trans hq)
    have HLO : Hid (0 ≤ lo ∧ lo ≤ 1073741824) := Lib.hid (by omega)
    have HHI : Hid (0 ≤ hi ∧ hi ≤ 1073741824) := Lib.hid (by omega)
    have hkk : k = 1 ∨ k = 2 ∨ k = 3 ∨ k = 4 := by omega
    clear hx hy hq hmi
    go_enter Tryz.func15, Tryz.ntmps15
    go_upto_region 4 with (first
      | (go_at_call 32; refine (rmay_any ⟨k, lo, hi⟩ true HM.out _).mono ?_; rintro e w1 ⟨rfl, hb1⟩; have HB1 := Lib.hid (HB0.out.trans (hb1.mono (by simp))); have hs1 : w.heap.size < w1.heap.size := (by have := hb1.size; simp at this; omega); have HK1 := Lib.hid (show w1.heap[w.heap.size]? = some (.cells #[.int .i64 k, .int .i64 lo, .int .i64 hi] 24 (0, 0)) from (hb1.block _ (by simp)).trans (heap_alloc_new w _)); clear hb1)
      | fail)
    have c0 : w1.cell? ⟨w.heap.size, 0, none⟩ = some (.int .i64 k) := by rw [Lib.cell_of_heap HK1.out]; rfl
    have c1 : w1.cell? ⟨w.heap.size, 1, none⟩ = some (.int .i64 lo) := by rw [Lib.cell_of_heap HK1.out]; rfl
    have c2 : w1.cell? ⟨w.heap.size, 2, none⟩ = some (.int .i64 hi) := by rw [Lib.cell_of_heap HK1.out]; rfl
    clear HB0
    rcases hkk with rfl | rfl | rfl | rfl
    · have b3 : ¬ (9223372036854775807 : Int) < 5 + (y.length : Int) := by omega
      have HPX := Lib.hid (show p = [98, 97, 115, 101, 95] ++ y by rw [HPE.out]; rfl)
      go_wp2_with (first
        | (go_at_call 33; refine (rdigits_any hi HHI.out.1 HHI.out.2 y HY.out _).mono ?_; rintro e w3 ⟨rfl, hb3⟩)
        | fail)
      go_ret
      exact ⟨ret_s (by rw [HPX.out, ← ba_append]), HB1.out.trans (hb3.mono (Nat.le_of_lt hs1))⟩
    · have b1 : ¬ 9223372036854775807 < 6 + x.length := by omega
      have b2 : ¬ 9223372036854775807 < 6 + x.length + 1 := by omega
      have b3 : ¬ 9223372036854775807 < 6 + x.length + 1 + y.length := by omega
      have HPX := Lib.hid (show p = [100, 101, 108, 116, 97, 95] ++ x ++ [95] ++ y by rw [HPE.out]; rfl)
      go_upto_region 8 with fail
      go_region_held3 (fun w' => w'.cell? ⟨w.heap.size, 0, none⟩ = some (.int .i64 2) ∧ w'.cell? ⟨w.heap.size, 1, none⟩ = some (.int .i64 lo) ∧ w'.cell? ⟨w.heap.size, 2, none⟩ = some (.int .i64 hi))
        (first | exact ⟨c0, c1, c2⟩ | exact ⟨kcell (W := w2) hb3 (kcell (W := w1.drew) hb2 c0), kcell (W := w2) hb3 (kcell (W := w1.drew) hb2 c1), kcell (W := w2) hb3 (kcell (W := w1.drew) hb2 c2)⟩ | exact ⟨kcell (W := w1.drew) hb2 c0, kcell (W := w1.drew) hb2 c1, kcell (W := w1.drew) hb2 c2⟩ | go_keep)
        (first
          | (go_at_call_of 33 (Value.int .i64 lo); refine (rdigits_any lo HLO.out.1 HLO.out.2 x HX.out _).mono ?_; rintro e w2 ⟨rfl, hb2⟩)
          | (go_at_call 33; refine (rdigits_any hi HHI.out.1 HHI.out.2 y HY.out _).mono ?_; rintro e w3 ⟨rfl, hb3⟩)
          | fail)
      all_goals
        go_wp2_with fail
        go_ret
        exact ⟨ret_s (by rw [HPX.out, ← ba_append, ← ba_append, ← ba_append]), HB1.out.trans ((bthen (bthen (bdrew (Below.refl _ w1)) hb2) hb3).mono (Nat.le_of_lt hs1))⟩
    · have b1 : ¬ 9223372036854775807 < 5 + x.length := by omega
      have b2 : ¬ 9223372036854775807 < 5 + x.length + 1 := by omega
      have b3 : ¬ 9223372036854775807 < 5 + x.length + 1 + y.length := by omega
      have HPX := Lib.hid (show p = [100, 101, 108, 115, 95] ++ x ++ [95] ++ y by rw [HPE.out]; rfl)
      go_upto_region 10 with fail
      go_region_held3 (fun w' => w'.cell? ⟨w.heap.size, 0, none⟩ = some (.int .i64 3) ∧ w'.cell? ⟨w.heap.size, 1, none⟩ = some (.int .i64 lo) ∧ w'.cell? ⟨w.heap.size, 2, none⟩ = some (.int .i64 hi))
        (first | exact ⟨c0, c1, c2⟩ | exact ⟨kcell (W := w2) hb3 (kcell (W := w1.drew) hb2 c0), kcell (W := w2) hb3 (kcell (W := w1.drew) hb2 c1), kcell (W := w2) hb3 (kcell (W := w1.drew) hb2 c2)⟩ | exact ⟨kcell (W := w1.drew) hb2 c0, kcell (W := w1.drew) hb2 c1, kcell (W := w1.drew) hb2 c2⟩ | go_keep)
        (first
          | (go_at_call_of 33 (Value.int .i64 lo); refine (rdigits_any lo HLO.out.1 HLO.out.2 x HX.out _).mono ?_; rintro e w2 ⟨rfl, hb2⟩)
          | (go_at_call 33; refine (rdigits_any hi HHI.out.1 HHI.out.2 y HY.out _).mono ?_; rintro e w3 ⟨rfl, hb3⟩)
          | fail)
      all_goals
        go_wp2_with fail
        go_ret
        exact ⟨ret_s (by rw [HPX.out, ← ba_append, ← ba_append, ← ba_append]), HB1.out.trans ((bthen (bthen (bdrew (Below.refl _ w1)) hb2) hb3).mono (Nat.le_of_lt hs1))⟩
    · have b1 : ¬ 9223372036854775807 < 4 + x.length := by omega
      have b2 : ¬ 9223372036854775807 < 4 + x.length + 1 := by omega
      have b3 : ¬ 9223372036854775807 < 4 + x.length + 1 + y.length := by omega
      have HPX := Lib.hid (show p = [116, 109, 112, 95] ++ x ++ [95] ++ y by rw [HPE.out]; rfl)
      go_upto_region 11 with fail
      go_region_held3 (fun w' => w'.cell? ⟨w.heap.size, 0, none⟩ = some (.int .i64 4) ∧ w'.cell? ⟨w.heap.size, 1, none⟩ = some (.int .i64 lo) ∧ w'.cell? ⟨w.heap.size, 2, none⟩ = some (.int .i64 hi))
        (first | exact ⟨c0, c1, c2⟩ | exact ⟨kcell (W := w2) hb3 (kcell (W := w1.drew) hb2 c0), kcell (W := w2) hb3 (kcell (W := w1.drew) hb2 c1), kcell (W := w2) hb3 (kcell (W := w1.drew) hb2 c2)⟩ | exact ⟨kcell (W := w1.drew) hb2 c0, kcell (W := w1.drew) hb2 c1, kcell (W := w1.drew) hb2 c2⟩ | go_keep)
        (first
          | (go_at_call_of 33 (Value.int .i64 lo); refine (rdigits_any lo HLO.out.1 HLO.out.2 x HX.out _).mono ?_; rintro e w2 ⟨rfl, hb2⟩)
          | (go_at_call 33; refine (rdigits_any hi HHI.out.1 HHI.out.2 y HY.out _).mono ?_; rintro e w3 ⟨rfl, hb3⟩)
          | fail)
      all_goals
        go_wp2_with fail
        go_ret
        exact ⟨ret_s (by rw [HPX.out, ← ba_append, ← ba_append, ← ba_append]), HB1.out.trans ((bthen (bthen (bdrew (Below.refl _ w1)) hb2) hb3).mono (Nat.le_of_lt hs1))⟩
end Go.Proofs.YtollmolchcnpeaaGreatDoor
