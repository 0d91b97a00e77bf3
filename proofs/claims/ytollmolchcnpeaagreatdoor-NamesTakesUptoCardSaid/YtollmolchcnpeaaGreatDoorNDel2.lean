/- slices.DeleteFunc of directories, by the closure of names.Chosen. -/
import Derived.Test.YtollmolchcnpeaaGreatDoorNDel
namespace Go.Proofs.YtollmolchcnpeaaGreatDoor
open Go Go.RowKit

/-- While it goes: the first i of the row are those that are kept of the first j; from j on all is as it was. -/
structure Part (p : DD → Bool) (l R : List DD) (i j : Nat) : Prop where
  len : R.length = l.length
  kept : R.take i = (l.take j).filter p
  rest : R.drop j = l.drop j
  lt : i < j
  le : j ≤ l.length
theorem Part.get {p : DD → Bool} {l R : List DD} {i j : Nat} (h : Part p l R i j) (hj : j < l.length) : R[j]'(by rw [h.len]; exact hj) = l[j] := by
  have e := h.rest
  have e1 : (R.drop j)[0]? = (l.drop j)[0]? := by rw [e]
  rw [List.getElem?_drop, List.getElem?_drop, Nat.add_zero, List.getElem?_eq_getElem (by rw [h.len]; exact hj), List.getElem?_eq_getElem hj] at e1
  exact Option.some.inj e1
theorem Part.skip {p : DD → Bool} {l R : List DD} {i j : Nat} (h : Part p l R i j) (hj : j < l.length) (hp : p l[j] = false) : Part p l R i (j + 1) := by
  refine ⟨h.len, ?_, ?_, by have := h.lt; omega, hj⟩
  · rw [List.take_succ_eq_append_getElem hj, List.filter_append]
    simp [hp, h.kept]
  · rw [← List.drop_drop, ← List.drop_drop, h.rest]
theorem Part.keep {p : DD → Bool} {l R : List DD} {i j : Nat} (h : Part p l R i j) (hj : j < l.length) (hp : p l[j] = true) : Part p l (R.set i l[j]) (i + 1) (j + 1) := by
  have hlt := h.lt
  have hl := h.len
  refine ⟨by rw [List.length_set]; exact hl, ?_, ?_, by omega, hj⟩
  · rw [List.take_succ_eq_append_getElem hj, List.filter_append, ← h.kept]
    rw [List.take_succ_eq_append_getElem (by rw [List.length_set]; omega), List.take_set_of_le (Nat.le_refl _), List.getElem_set_self]
    simp [hp]
  · rw [List.drop_set_of_lt (by omega), ← List.drop_drop, ← List.drop_drop, h.rest]
theorem part_start {p : DD → Bool} {l : List DD} {i : Nat} (hi : i < l.length) (h1 : ∀ x ∈ l.take i, p x = true) (h2 : p l[i] = false) : Part p l l i (i + 1) := by
  refine ⟨rfl, ?_, rfl, by omega, hi⟩
  rw [List.take_succ_eq_append_getElem hi, List.filter_append, List.filter_eq_self.2 h1]
  simp [h2]
theorem part_end {p : DD → Bool} {l R : List DD} {i j : Nat} (h : Part p l R i j) (hj : j = l.length) : R.take i = l.filter p := by
  rw [h.kept, hj, List.take_length]

def DelPost (p : DD → Bool) (l : List DD) (B : Nat) (A : Option Addr) (c : Nat) (w : World) (e : Ending) (w' : World) : Prop := ∃ m, e = .returned (.slice A m c) ∧ OwnD w' B A m c (l.filter p) ∧ Below B w w'

set_option maxRecDepth 100000 in
set_option maxHeartbeats 4000000 in
theorem del_any (k most : Int) (kb mb B : Nat) (A : Option Addr) (n c : Nat) (l : List DD) (w : World) (h : OwnD w B A n c l) (hcl : Clos kb mb k most w) (hkb : kb < B) (hmb : mb < B) (hB : B ≤ w.heap.size) :
    Calls Tryz.prog 20 #[.slice A n c, .func (.func 22) #[] #[.pointer (some ⟨kb, 0, none⟩), .pointer (some ⟨mb, 0, none⟩)]] w (DelPost (keepB k most) l B A c w) := by
  have H := Lib.hid h
  have HC := Lib.hid hcl
  have HL := Lib.hid h.len
  have hcap := h.cap
  have hmax : n ≤ 9223372036854775807 := by have h3 := hcap.2; unfold maxLen at h3; omega
  have hncap := hcap.1
  clear h hcl hcap
  by_cases hall : ∀ x ∈ l, keepB k most x = true
  · have HF : Hid (l.filter (keepB k most) = l) := Lib.hid (List.filter_eq_self.2 hall)
    have HALL := Lib.hid hall
    clear hall
    go_enter Tryz.func20, Tryz.ntmps20
    go_wp2_with (first
      | (go_at_call 36; refine (idx_any k most kb mb _ A n c l _ H.out.sl HC.out).mono ?_; rintro e w1 ⟨r, rfl, hr, hb1⟩; obtain rfl : r = -1 := (by rcases hr with ⟨h1, _⟩ | ⟨i, h1, h2, h3, h4⟩; exact h1; have := HALL.out _ (List.getElem_mem h2); rw [h4] at this; cases this); have HB1 := Lib.hid hb1; clear hr hb1)
      | fail)
    go_ret
    exact ⟨n, rfl, by rw [HF.out]; exact H.out.keepB HB1.out, HB1.out.mono hB⟩
  · have hpos : 0 < n := by
      rw [HL.out]
      cases l with
      | nil => exact absurd (fun x hx => by simp at hx) hall
      | cons _ _ => simp
    obtain ⟨g, rfl⟩ : ∃ g, A = some ⟨g, 0, none⟩ := by
      rcases H.out.row.2 with ⟨_, h2⟩ | ⟨g, cap, cur, h1, _⟩
      · omega
      · injection h1 with h1; exact ⟨g, h1⟩
    have HALL := Lib.hid hall
    clear hall
    have hgB := H.out.base.1
    go_enter Tryz.func20, Tryz.ntmps20
    go_wp2_with (first
      | (go_at_call 36; refine (idx_any k most kb mb _ _ n c l _ H.out.sl HC.out).mono ?_; rintro e w1 ⟨r, rfl, hr, hb1⟩; obtain ⟨i0, rfl, hi0, hk0, hd0⟩ : ∃ i : Nat, r = i ∧ ∃ h : i < l.length, (∀ x ∈ l.take i, keepB k most x = true) ∧ keepB k most l[i] = false := (by rcases hr with ⟨_, h1⟩ | h1; exact absurd h1 HALL.out; exact h1); have HP0 := Lib.hid (part_start hi0 hk0 hd0); have HB1 := Lib.hid hb1; have hi0n : i0 < n := (by rw [HL.out]; exact hi0); have hq0 : ((i0 : Int) == -1) = false := beq_no (by omega); clear hr hb1 hk0 hd0 hi0)
      | fail)
    go_loopw [5, 6] (fun iv jv wr => ∃ (i j : Nat) (R : List DD), iv = .int .i64 (i : Int) ∧ jv = .int .i64 (j : Int) ∧ Hid (Part (keepB k most) l R i j) ∧ OwnD wr B (some ⟨g, 0, none⟩) n c R ∧ Below B w wr)
      (fun _ jv _ => n - (intOf jv).toNat)
    case atStart => exact ⟨i0, i0 + 1, l, rfl, by go_num, HP0, H.out.keepB HB1.out, HB1.out.mono hB⟩
    case round =>
      obtain ⟨i, j, R, rfl, rfl, HP, hown, hb⟩ := hrel
      have HO := Lib.hid hown
      have HB := Lib.hid hb
      have HCR := Lib.hid (HC.out.below hb hkb hmb)
      have hij : i < j := HP.out.lt
      have hjn : j ≤ n := by have := HP.out.le; rw [← HL.out] at this; exact this
      have hsz := hb.size
      have hBr : B ≤ wr.heap.size := by omega
      clear hown hb HP0 HB1 hq0
      by_cases hlt : j < n
      · have hjl : j < l.length := by rw [← HL.out]; exact hlt
        have hjR : j < R.length := by rw [HP.out.len]; exact hjl
        have hget := HP.out.get hjl
        obtain ⟨d, hd⟩ : ∃ d, d = l[j] := ⟨_, rfl⟩
        obtain ⟨c0, c1, c2⟩ := HO.out.cell hjR
        rw [hget, ← hd] at c0 c1 c2
        have hdok : d.ok := by rw [hd, ← hget]; exact HO.out.ok _ (List.getElem_mem hjR)
        have HDOK := Lib.hid hdok
        obtain ⟨r, hr⟩ : ∃ r, r = !keepB k most d := ⟨_, rfl⟩
        have HD := Lib.hid hd; have HR := Lib.hid hr
        clear hd hr hget hdok
        have hi1 : (0 : Int) ≤ (j : Int) := by omega
        have hi2 : (j : Int) < (n : Int) := by omega
        cases r with
        | true =>
          have HP2 := Lib.hid (HP.out.skip hjl (by rw [← HD.out]; have := HR.out; simpa using this))
          go_wp2_with (first
            | (go_at_call 22; refine (drop_any d k most kb mb true HR.out _ (HCR.out.below ((Below.refl _ wr).alloc (Nat.le_refl _) _) HCR.out.lt.1 HCR.out.lt.2).1 (HCR.out.below ((Below.refl _ wr).alloc (Nat.le_refl _) _) HCR.out.lt.1 HCR.out.lt.2).2).mono ?_; rintro e w1 ⟨rfl, hb1⟩; have HB2 := Lib.hid (((Below.refl _ wr).alloc (Nat.le_refl _) _).trans (hb1.mono (by simp))); clear hb1)
            | fail)
          go_roundw
          case rel => exact ⟨i, j + 1, R, rfl, by go_num, HP2, HO.out.keepB HB2.out, HB.out.trans (HB2.out.mono hBr)⟩
          case measure => simp [intOf]; omega
        | false =>
          have HP2 := Lib.hid (HP.out.keep hjl (by rw [← HD.out]; have := HR.out; simpa using this))
          have hiR : i < R.length := by omega
          have hi3 : (0 : Int) ≤ (i : Int) := by omega
          have hi4 : (i : Int) < (n : Int) := by omega
          obtain ⟨e0, e1, e2⟩ := HO.out.cell hiR
          go_wp2_with (first
            | (go_at_call 22; refine (drop_any d k most kb mb false HR.out _ (HCR.out.below ((Below.refl _ wr).alloc (Nat.le_refl _) _) HCR.out.lt.1 HCR.out.lt.2).1 (HCR.out.below ((Below.refl _ wr).alloc (Nat.le_refl _) _) HCR.out.lt.1 HCR.out.lt.2).2).mono ?_; rintro e w1 ⟨rfl, hb1⟩; have HB2 := Lib.hid (show Below wr.heap.size wr w1 from ((Below.refl _ wr).alloc (Nat.le_refl _) _).trans (hb1.mono (by simp))); have HK2 := Lib.hid (show w1.heap[wr.heap.size]? = some (.cells #[.int .i64 d.kind, .int .i64 d.lo, .int .i64 d.hi] 24 (0, 0)) from (hb1.block _ (by simp)).trans (heap_alloc_new wr _)); have HO2 := Lib.hid (HO.out.keepB HB2.out); have z0 : w1.cell? ⟨wr.heap.size, 0, none⟩ = some (.int .i64 d.kind) := (by rw [Lib.cell_of_heap HK2.out]; rfl); have z1 : w1.cell? ⟨wr.heap.size, 1, none⟩ = some (.int .i64 d.lo) := (by rw [Lib.cell_of_heap HK2.out]; rfl); have z2 : w1.cell? ⟨wr.heap.size, 2, none⟩ = some (.int .i64 d.hi) := (by rw [Lib.cell_of_heap HK2.out]; rfl); have y0 := kcell HB2.out e0; have y1 := kcell HB2.out e1; have y2 := kcell HB2.out e2; have f0 := HO2.out.free (i * 3); have f1 := HO2.out.free (i * 3 + 1); have f2 := HO2.out.free (i * 3 + 2); clear hb1)
            | fail)
          go_roundw
          case rel =>
            have ho := HO2.out.set (i := i) hiR d HDOK.out
            exact ⟨i + 1, j + 1, R.set i d, by go_num, by go_num, by rw [HD.out]; exact HP2, ho, bsetc (bsetc (bsetc (HB.out.trans (HB2.out.mono hBr)) hgB _) hgB _) hgB _⟩
          case measure => simp [intOf]; omega
      · obtain rfl : j = n := by omega
        have hRl : R.length = j := HP.out.len.trans HL.out.symm
        obtain ⟨vs, hcl⟩ := run_clearD wr g (i * 3) (j - i) (c - i) (by omega) (fun q hq => by
          rw [HO.out.row.cellAt (i * 3 + q) (by omega), List.getElem?_eq_getElem (by rw [cellsD_len, hRl]; omega)]; rfl) (fun q _ => HO.out.free _)
        have hcl0 := hcl 0
        have HFR := Lib.hid (((HO.out.front (k := i) (by omega) (by simp)).past vs (i * 3) (Nat.le_refl _)))
        have HFE := Lib.hid (part_end HP.out HL.out)
        clear hcl hRl
        go_wp2_with fail
        go_ret
        exact ⟨i, rfl, by rw [← HFE.out]; exact HFR.out, below_setCells hgB _ _ _ HB.out⟩
end Go.Proofs.YtollmolchcnpeaaGreatDoor
