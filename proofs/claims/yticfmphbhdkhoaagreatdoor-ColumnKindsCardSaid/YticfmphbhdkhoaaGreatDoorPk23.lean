/- Printed by gen_cdel.py. Printed by gen_cdel.py. nulls.Split. -/
import Derived.Test.YticfmphbhdkhoaaGreatDoorPk22
/- slices.Clone, IndexFunc and DeleteFunc of values. -/
namespace Go.Proofs.YticfmphbhdkhoaaGreatDoor
open Go Go.RowKit

/-- []api.Value{}: a row of its own, empty. -/
theorem OwnV.new0 (w : World) (B : Nat) (hB : B ≤ w.heap.size) : OwnV (w.alloc (.cells #[] 36)) B (some ⟨w.heap.size, 0, none⟩) 0 0 [] := by
  have := World.ownsRow_lit (base := B) (e := 36) (size := 3) w #[] 0 hB (by simp [maxLen]) (by simp)
  exact ⟨by simpa [cellsV] using this, by simp⟩
def ClonePost (l : List VV) (n : Nat) (w : World) (e : Ending) (w' : World) : Prop := ∃ A' c', e = .returned (.slice A' n c') ∧ OwnV w' w.heap.size A' n c' l ∧ Below w.heap.size w w'
set_option maxRecDepth 100000 in
set_option maxHeartbeats 1000000 in
theorem clone_any (F : Nat → Prop) (A : Option Addr) (n c : Nat) (l : List VV) (w : World) (h : Sl tVV F w A n c l) (hn : n ≤ 34359738368) : Calls Tryz.prog 53 #[.slice A n c] w (ClonePost l n w) := by
  cases A with
  | none =>
    have hl : l = [] := by
      cases l with
      | nil => rfl
      | cons x r => obtain ⟨b, o, _, e, _⟩ := h.at_ (k := 0) (by simp) (by decide); cases e
    have hn0 := h.len
    subst hl
    obtain rfl : n = 0 := hn0
    have hq : (binOp .eql 22 (.slice none 0 c) (.slice none 0 0)).run Tryz.prog w = .ok (.bool true) w := Lib.run_eql_slice_nil w _ _ none 0 c 0 0 (show Tryz.prog.underlying 22 = some (.slice 36) by kernel_rfl)
    clear h hn
    go_enter Tryz.func53, Tryz.ntmps53
    go_wp2_with fail
    go_ret
    exact ⟨none, 0, rfl, ⟨World.ownsRow_nil _ _ _ _, by simp⟩, Below.refl _ _⟩
  | some a =>
    have hq : (binOp .eql 22 (.slice (some a) n c) (.slice none 0 0)).run Tryz.prog w = .ok (.bool false) w := Lib.run_eql_slice_nil w _ _ (some a) n c 0 0 (show Tryz.prog.underlying 22 = some (.slice 36) by kernel_rfl)
    have HS := Lib.hid ((h.weaken (F' := fun b => F b ∧ b < w.heap.size) fun b hb hl => ⟨hb, hl⟩).alloc (.cells #[] 36))
    have HE := Lib.hid (OwnV.new0 w w.heap.size (Nat.le_refl _)).ownF
    clear h
    go_enter Tryz.func53, Tryz.ntmps53
    go_wp2_with (first
      | (at_builtin; refine apl (T := tVV) elemVV (w.alloc (.cells #[] 36)) w rfl (.tmp 5) (.tmp 6) rfl w.heap.size (some ⟨w.heap.size, 0, none⟩) 0 0 [] rfl (fun _ => False) (fun b => F b ∧ b < w.heap.size) HE.out ((Below.refl _ _).alloc (Nat.le_refl _) _) (Nat.le_refl _) (some a) n c l rfl HS.out (fun b _ h1 _ h3 => by omega) (by omega) ?_; intro A5 c5 w5 h5)
      | fail)
    go_ret
    have ho := ownV_of h5.own
    rw [Nat.zero_add, List.nil_append] at ho
    exact ⟨A5, c5, rfl, ho, h5.below⟩

def keepV (v : VV) : Bool := !v.null
theorem dropv (d : VV) (r : Bool) (hr : r = !keepV d) (w : World) : Calls Tryz.prog 54 #[.agg #[.bool d.null, .int .i64 d.n, .string d.s]] w fun e w' => e = .returned (.bool r) ∧ Below w.heap.size w w' := by
  have : r = d.null := by rw [hr]; unfold keepV; simp
  rw [this]
  exact isnull_any _ _ _ _
def FirstDrop (p : VV → Bool) (l : List VV) (r : Int) : Prop := (r = -1 ∧ ∀ x ∈ l, p x = true) ∨ ∃ i : Nat, r = i ∧ ∃ h : i < l.length, (∀ x ∈ l.take i, p x = true) ∧ p l[i] = false
def IdxPost (p : VV → Bool) (l : List VV) (w : World) (e : Ending) (w' : World) : Prop := ∃ r, e = .returned (.int .i64 r) ∧ FirstDrop p l r ∧ Below w.heap.size w w'

set_option maxRecDepth 100000 in
set_option maxHeartbeats 1000000 in
theorem idx_any (F : Nat → Prop) (A : Option Addr) (n c : Nat) (l : List VV) (w : World) (h : Sl tVV F w A n c l) :
    Calls Tryz.prog 27 #[.slice A n c, .func (.func 54) #[] #[]] w (IdxPost (keepV) l w) := by
  have HL := Lib.hid h.len
  have hmax : n ≤ 9223372036854775807 := by have h2 := h.2.1; have h3 := h.2.2.1; unfold maxLen at h3; omega
  go_enter Tryz.func27, Tryz.ntmps27
  go_wp2_with fail
  go_loopw [8] (fun i wr => ∃ j : Nat, j ≤ n ∧ i = .int .i64 j ∧ Below w.heap.size w wr ∧ Hid (∀ x ∈ l.take j, keepV x = true)) (fun i _ => n - (intOf i).toNat)
  case atStart => exact ⟨0, Nat.zero_le _, rfl, Below.refl _ _, Lib.hid (by simp)⟩
  case round =>
    obtain ⟨j, hj, rfl, hb, HA⟩ := hrel
    have g := h.below hb (Nat.le_refl _)
    have HB := Lib.hid hb
    have hsz := hb.size
    clear hb
    by_cases hlt : j < n
    · have hjl : j < l.length := by rw [← HL.out]; exact hlt
      obtain ⟨d, hd⟩ : ∃ d, d = l[j] := ⟨_, rfl⟩
      obtain ⟨b, o, u, rfl, _, hbl, hu, hc⟩ := g.at_ hjl (by decide)
      rw [← hd] at hu
      obtain ⟨rfl, _⟩ := hu
      obtain ⟨c0, c1, c2⟩ := cells3 hc
      obtain ⟨r, hr⟩ : ∃ r, r = !keepV d := ⟨_, rfl⟩
      have HD := Lib.hid hd; have HR := Lib.hid hr
      clear g hc hd hr
      have hi1 : (0 : Int) ≤ (j : Int) := by omega
      have hi2 : (j : Int) < (n : Int) := by omega
      cases r with
      | true =>
        have HF : Hid (FirstDrop (keepV) l (j : Int)) := Lib.hid (.inr ⟨j, rfl, hjl, HA.out, by rw [← HD.out]; have := HR.out; simpa using this⟩)
        go_wp2_with (first
          | (go_at_call 54; refine (dropv d true HR.out _).mono ?_; rintro e w1 ⟨rfl, hb1⟩; have HB1 := Lib.hid (HB.out.trans (hb1.mono hsz)); clear hb1)
          | fail)
        go_ret
        exact ⟨_, rfl, HF.out, HB1.out⟩
      | false =>
        have HN : Hid (∀ x ∈ l.take (j + 1), keepV x = true) := Lib.hid (by
          intro x hx
          rw [List.take_succ_eq_append_getElem hjl, List.mem_append, List.mem_singleton] at hx
          rcases hx with hx | rfl
          · exact HA.out x hx
          · rw [← HD.out]; have := HR.out; simpa using this)
        go_wp2_with (first
          | (go_at_call 54; refine (dropv d false HR.out _).mono ?_; rintro e w1 ⟨rfl, hb1⟩; have HB1 := Lib.hid (HB.out.trans (hb1.mono hsz)); clear hb1)
          | fail)
        go_roundw
        case rel => exact ⟨j + 1, by omega, by go_num, HB1.out, HN⟩
        case measure => simp [intOf]; omega
    · obtain rfl : j = n := by omega
      have HF : Hid (FirstDrop (keepV) l (-1)) := Lib.hid (.inl ⟨rfl, by
        have := HA.out
        rwa [List.take_of_length_le (by rw [← HL.out]; exact Nat.le_refl _)] at this⟩)
      go_wp2_with fail
      go_ret
      exact ⟨_, rfl, HF.out, HB.out⟩
end Go.Proofs.YticfmphbhdkhoaaGreatDoor
/- slices.DeleteFunc of values, by the closure of names.Chosen. -/
namespace Go.Proofs.YticfmphbhdkhoaaGreatDoor
open Go Go.RowKit

/-- While it goes: the first i of the row are those that are kept of the first j; from j on all is as it was. -/
structure Part (p : VV → Bool) (l R : List VV) (i j : Nat) : Prop where
  len : R.length = l.length
  kept : R.take i = (l.take j).filter p
  rest : R.drop j = l.drop j
  lt : i < j
  le : j ≤ l.length
theorem Part.get {p : VV → Bool} {l R : List VV} {i j : Nat} (h : Part p l R i j) (hj : j < l.length) : R[j]'(by rw [h.len]; exact hj) = l[j] := by
  have e := h.rest
  have e1 : (R.drop j)[0]? = (l.drop j)[0]? := by rw [e]
  rw [List.getElem?_drop, List.getElem?_drop, Nat.add_zero, List.getElem?_eq_getElem (by rw [h.len]; exact hj), List.getElem?_eq_getElem hj] at e1
  exact Option.some.inj e1
theorem Part.skip {p : VV → Bool} {l R : List VV} {i j : Nat} (h : Part p l R i j) (hj : j < l.length) (hp : p l[j] = false) : Part p l R i (j + 1) := by
  refine ⟨h.len, ?_, ?_, by have := h.lt; omega, hj⟩
  · rw [List.take_succ_eq_append_getElem hj, List.filter_append]
    simp [hp, h.kept]
  · rw [← List.drop_drop, ← List.drop_drop, h.rest]
theorem Part.keep {p : VV → Bool} {l R : List VV} {i j : Nat} (h : Part p l R i j) (hj : j < l.length) (hp : p l[j] = true) : Part p l (R.set i l[j]) (i + 1) (j + 1) := by
  have hlt := h.lt
  have hl := h.len
  refine ⟨by rw [List.length_set]; exact hl, ?_, ?_, by omega, hj⟩
  · rw [List.take_succ_eq_append_getElem hj, List.filter_append, ← h.kept]
    rw [List.take_succ_eq_append_getElem (by rw [List.length_set]; omega), List.take_set_of_le (Nat.le_refl _), List.getElem_set_self]
    simp [hp]
  · rw [List.drop_set_of_lt (by omega), ← List.drop_drop, ← List.drop_drop, h.rest]
theorem part_start {p : VV → Bool} {l : List VV} {i : Nat} (hi : i < l.length) (h1 : ∀ x ∈ l.take i, p x = true) (h2 : p l[i] = false) : Part p l l i (i + 1) := by
  refine ⟨rfl, ?_, rfl, by omega, hi⟩
  rw [List.take_succ_eq_append_getElem hi, List.filter_append, List.filter_eq_self.2 h1]
  simp [h2]
theorem part_end {p : VV → Bool} {l R : List VV} {i j : Nat} (h : Part p l R i j) (hj : j = l.length) : R.take i = l.filter p := by
  rw [h.kept, hj, List.take_length]

def DelPost (p : VV → Bool) (l : List VV) (B : Nat) (A : Option Addr) (c : Nat) (w : World) (e : Ending) (w' : World) : Prop := ∃ m, e = .returned (.slice A m c) ∧ OwnV w' B A m c (l.filter p) ∧ Below B w w'

set_option maxRecDepth 100000 in
set_option maxHeartbeats 4000000 in
theorem del_any (B : Nat) (A : Option Addr) (n c : Nat) (l : List VV) (w : World) (h : OwnV w B A n c l) (hB : B ≤ w.heap.size) :
    Calls Tryz.prog 52 #[.slice A n c, .func (.func 54) #[] #[]] w (DelPost (keepV) l B A c w) := by
  have H := Lib.hid h
  have HL := Lib.hid h.len
  have hcap := h.cap
  have hmax : n ≤ 9223372036854775807 := by have h3 := hcap.2; unfold maxLen at h3; omega
  have hncap := hcap.1
  clear h hcap
  by_cases hall : ∀ x ∈ l, keepV x = true
  · have HF : Hid (l.filter (keepV) = l) := Lib.hid (List.filter_eq_self.2 hall)
    have HALL := Lib.hid hall
    clear hall
    go_enter Tryz.func52, Tryz.ntmps52
    go_wp2_with (first
      | (go_at_call 27; refine (idx_any _ A n c l _ H.out.sl).mono ?_; rintro e w1 ⟨r, rfl, hr, hb1⟩; obtain rfl : r = -1 := (by rcases hr with ⟨h1, _⟩ | ⟨i, h1, h2, h3, h4⟩; exact h1; have := HALL.out _ (List.getElem_mem h2); rw [h4] at this; cases this); have HB1 := Lib.hid hb1; clear hr hb1)
      | fail)
    go_ret
    exact ⟨n, rfl, by rw [HF.out]; exact H.out.keepB HB1.out, HB1.out.mono hB⟩
  · have hpos : 0 < n := by
      rw [HL.out]
      cases l with
      | nil => exact absurd (fun x hx => by simp at hx) hall
      | cons _ _ => simp
    obtain ⟨g, rfl⟩ : ∃ g, A = some ⟨g, 0, none⟩ := by
      rcases H.out.row.2 with ⟨_, h2⟩ | ⟨g, cap, cur, h1, _⟩
      · omega
      · injection h1 with h1; exact ⟨g, h1⟩
    have HALL := Lib.hid hall
    clear hall
    have hgB := H.out.base.1
    go_enter Tryz.func52, Tryz.ntmps52
    go_wp2_with (first
      | (go_at_call 27; refine (idx_any _ _ n c l _ H.out.sl).mono ?_; rintro e w1 ⟨r, rfl, hr, hb1⟩; obtain ⟨i0, rfl, hi0, hk0, hd0⟩ : ∃ i : Nat, r = i ∧ ∃ h : i < l.length, (∀ x ∈ l.take i, keepV x = true) ∧ keepV l[i] = false := (by rcases hr with ⟨_, h1⟩ | h1; exact absurd h1 HALL.out; exact h1); have HP0 := Lib.hid (part_start hi0 hk0 hd0); have HB1 := Lib.hid hb1; have hi0n : i0 < n := (by rw [HL.out]; exact hi0); have hq0 : ((i0 : Int) == -1) = false := beq_no (by omega); clear hr hb1 hk0 hd0 hi0)
      | fail)
    go_loopw [5, 6] (fun iv jv wr => ∃ (i j : Nat) (R : List VV), iv = .int .i64 (i : Int) ∧ jv = .int .i64 (j : Int) ∧ Hid (Part (keepV) l R i j) ∧ OwnV wr B (some ⟨g, 0, none⟩) n c R ∧ Below B w wr)
      (fun _ jv _ => n - (intOf jv).toNat)
    case atStart => exact ⟨i0, i0 + 1, l, rfl, by go_num, HP0, H.out.keepB HB1.out, HB1.out.mono hB⟩
    case round =>
      obtain ⟨i, j, R, rfl, rfl, HP, hown, hb⟩ := hrel
      have HO := Lib.hid hown
      have HB := Lib.hid hb
      have hij : i < j := HP.out.lt
      have hjn : j ≤ n := by have := HP.out.le; rw [← HL.out] at this; exact this
      have hsz := hb.size
      have hBr : B ≤ wr.heap.size := by omega
      clear hown hb HP0 HB1 hq0
      by_cases hlt : j < n
      · have hjl : j < l.length := by rw [← HL.out]; exact hlt
        have hjR : j < R.length := by rw [HP.out.len]; exact hjl
        have hget := HP.out.get hjl
        obtain ⟨d, hd⟩ : ∃ d, d = l[j] := ⟨_, rfl⟩
        obtain ⟨c0, c1, c2⟩ := HO.out.cell hjR
        rw [hget, ← hd] at c0 c1 c2
        have hdok : d.ok := by rw [hd, ← hget]; exact HO.out.ok _ (List.getElem_mem hjR)
        have HDOK := Lib.hid hdok
        obtain ⟨r, hr⟩ : ∃ r, r = !keepV d := ⟨_, rfl⟩
        have HD := Lib.hid hd; have HR := Lib.hid hr
        clear hd hr hget hdok
        have hi1 : (0 : Int) ≤ (j : Int) := by omega
        have hi2 : (j : Int) < (n : Int) := by omega
        cases r with
        | true =>
          have HP2 := Lib.hid (HP.out.skip hjl (by rw [← HD.out]; have := HR.out; simpa using this))
          go_wp2_with (first
            | (go_at_call 54; refine (dropv d true HR.out _).mono ?_; rintro e w1 ⟨rfl, hb1⟩; have HB2 := Lib.hid (((Below.refl _ wr).alloc (Nat.le_refl _) _).trans (hb1.mono (by simp))); clear hb1)
            | fail)
          go_roundw
          case rel => exact ⟨i, j + 1, R, rfl, by go_num, HP2, HO.out.keepB HB2.out, HB.out.trans (HB2.out.mono hBr)⟩
          case measure => simp [intOf]; omega
        | false =>
          have HP2 := Lib.hid (HP.out.keep hjl (by rw [← HD.out]; have := HR.out; simpa using this))
          have hiR : i < R.length := by omega
          have hi3 : (0 : Int) ≤ (i : Int) := by omega
          have hi4 : (i : Int) < (n : Int) := by omega
          obtain ⟨e0, e1, e2⟩ := HO.out.cell hiR
          go_wp2_with (first
            | (go_at_call 54; refine (dropv d false HR.out _).mono ?_; rintro e w1 ⟨rfl, hb1⟩; have HB2 := Lib.hid (show Below wr.heap.size wr w1 from ((Below.refl _ wr).alloc (Nat.le_refl _) _).trans (hb1.mono (by simp))); have HK2 := Lib.hid (show w1.heap[wr.heap.size]? = some (.cells #[.bool d.null, .int .i64 d.n, .string d.s] 36 (0, 0)) from (hb1.block _ (by simp)).trans (heap_alloc_new wr _)); have HO2 := Lib.hid (HO.out.keepB HB2.out); have z0 : w1.cell? ⟨wr.heap.size, 0, none⟩ = some (.bool d.null) := (by rw [Lib.cell_of_heap HK2.out]; rfl); have z1 : w1.cell? ⟨wr.heap.size, 1, none⟩ = some (.int .i64 d.n) := (by rw [Lib.cell_of_heap HK2.out]; rfl); have z2 : w1.cell? ⟨wr.heap.size, 2, none⟩ = some (.string d.s) := (by rw [Lib.cell_of_heap HK2.out]; rfl); have y0 := kcell HB2.out e0; have y1 := kcell HB2.out e1; have y2 := kcell HB2.out e2; have f0 := HO2.out.free (i * 3); have f1 := HO2.out.free (i * 3 + 1); have f2 := HO2.out.free (i * 3 + 2); clear hb1)
            | fail)
          go_roundw
          case rel =>
            have ho := HO2.out.set (i := i) hiR d HDOK.out
            exact ⟨i + 1, j + 1, R.set i d, by go_num, by go_num, by rw [HD.out]; exact HP2, ho, bsetc (bsetc (bsetc (HB.out.trans (HB2.out.mono hBr)) hgB _) hgB _) hgB _⟩
          case measure => simp [intOf]; omega
      · obtain rfl : j = n := by omega
        have hRl : R.length = j := HP.out.len.trans HL.out.symm
        obtain ⟨vs, hcl⟩ := run_clearV wr g (i * 3) (j - i) (c - i) (by omega) (fun q hq => by
          rw [HO.out.row.cellAt (i * 3 + q) (by omega), List.getElem?_eq_getElem (by rw [cellsV_len, hRl]; omega)]; rfl) (fun q _ => HO.out.free _)
        have hcl0 := hcl 0
        have HFR := Lib.hid (((HO.out.front (k := i) (by omega) (by simp)).past vs (i * 3) (Nat.le_refl _)))
        have HFE := Lib.hid (part_end HP.out HL.out)
        clear hcl hRl
        go_wp2_with fail
        go_ret
        exact ⟨i, rfl, by rw [← HFE.out]; exact HFR.out, below_setCells hgB _ _ _ HB.out⟩
end Go.Proofs.YticfmphbhdkhoaaGreatDoor
namespace Go.Proofs.YticfmphbhdkhoaaGreatDoor
open Go Go.RowKit

def SplitPost (l : List VV) (w : World) (e : Ending) (w' : World) : Prop :=
  ∃ A1 c1 A2 n2 c2, e = .returned (.tuple #[.slice A1 l.length c1, .slice A2 n2 c2]) ∧ Sl tBool (fun b => w.heap.size ≤ b) w' A1 l.length c1 (l.map fun v => !v.null) ∧ Sl tVV (fun b => w.heap.size ≤ b) w' A2 n2 c2 (l.filter keepV) ∧ Below w.heap.size w w'
set_option maxRecDepth 100000 in
set_option maxHeartbeats 1000000 in
theorem split_any (F : Nat → Prop) (A : Option Addr) (n c : Nat) (l : List VV) (w : World) (h : Sl tVV F w A n c l) (hn : n ≤ 4096) :
    Calls Tryz.prog 29 #[.slice A n c] w (SplitPost l w) := by
  have H := Lib.hid h; have HN := Lib.hid hn
  clear h hn
  go_enter Tryz.func29, Tryz.ntmps29
  go_wp2_with (first
    | (go_at_call 53; refine (clone_any F A n c l _ H.out (by have := HN.out; omega)).mono ?_; rintro e w1 ⟨A1, c1, rfl, ho1, hb1⟩; have HO1 := Lib.hid ho1; have HB1 := Lib.hid hb1; clear ho1 hb1)
    | (go_at_call 52; refine (del_any w.heap.size A1 n c1 l _ HO1.out HB1.out.size).mono ?_; rintro e w2 ⟨m, rfl, ho2, hb2⟩; have HO2 := Lib.hid ho2; have HB2 := Lib.hid (HB1.out.trans hb2); clear ho2 hb2)
    | (go_at_call 55; refine (each_any F A n c l _ (H.out.below HB2.out (Nat.le_refl _)) HN.out).mono ?_; rintro e w3 ⟨A3, n3, c3, rfl, ⟨G, ho3⟩, hb3⟩; have HO3 := Lib.hid ho3; have HB3 := Lib.hid hb3; clear ho3 hb3)
    | fail)
  go_ret2
  have e3 : n3 = l.length := by have := HO3.out.len; simpa using this
  subst e3
  exact ⟨A3, c3, A1, m, c1, rfl, (HO3.out.flat (T := tBool) (fun h => h)).sl.weaken (fun b hb _ => by
    rcases hb with hb | hb
    · exact hb.elim
    · have := HB2.out.size; exact Nat.le_trans this hb.2), (HO2.out.keepB HB3.out).sl, HB2.out.trans (HB3.out.mono HB2.out.size)⟩
/-- What nulls.Put lays down: nothing if no value is nothing. -/
def presB (l : List VV) : List UInt8 := if (l.filter keepV).length < l.length then byB (boolB (l.map fun v => !v.null)) else []
def NPutPost (l : List VV) (w : World) (e : Ending) (w' : World) : Prop :=
  ∃ A1 n1 c1 A2 n2 c2, e = .returned (.tuple #[.slice A1 n1 c1, .slice A2 n2 c2, .int .i64 0]) ∧ Sl tU8 (fun b => w.heap.size ≤ b) w' A1 n1 c1 (presB l) ∧ Sl tVV (fun b => w.heap.size ≤ b) w' A2 n2 c2 (l.filter keepV) ∧ Below w.heap.size w w'
set_option maxRecDepth 100000 in
set_option maxHeartbeats 1000000 in
theorem nput_any (F : Nat → Prop) (A : Option Addr) (n c : Nat) (l : List VV) (w : World) (h : Sl tVV F w A n c l) (hn : n ≤ 4096) :
    Calls Tryz.prog 17 #[.slice A n c] w (NPutPost l w) := by
  have H := Lib.hid h; have HN := Lib.hid hn; have HL := Lib.hid h.len
  have hn1 : ¬ (n : Int) > 4096 := by omega
  have hn2 : ¬ (4096 : Int) < n := by omega
  clear h hn
  go_enter Tryz.func17, Tryz.ntmps17
  go_upto_if 18 with (first
    | (go_at_call 29; refine (split_any F A n c l _ H.out HN.out).mono ?_; rintro e w1 ⟨A1, c1, A2, n2, c2, rfl, hs1, hs2, hb1⟩; have HS1 := Lib.hid hs1; have HS2 := Lib.hid hs2; have HB1 := Lib.hid hb1; clear hs1 hs2 hb1)
    | fail)
  have HL2 := Lib.hid HS2.out.len
  by_cases hlt : n2 < n
  · have hI : (n2 : Int) < (n : Int) := by omega
    have HP := Lib.hid (show presB l = byB (boolB (l.map fun v => !v.null)) from if_pos (by rw [← HL2.out, ← HL.out]; exact hlt))
    go_wp2_with (first
      | (go_at_call 30; refine (boolput _ A1 l.length c1 _ _ HS1.out (by rw [← HL.out]; exact HN.out)).mono ?_; rintro e w2 ⟨hb2, A3, n3, c3, rfl, ho3⟩; have HO3 := Lib.hid ho3; have HB2 := Lib.hid hb2; clear ho3 hb2)
      | fail)
    go_ret3
    refine ⟨A3, n3, c3, A2, n2, c2, rfl, ?_, HS2.out.below HB2.out (Nat.le_refl _), HB1.out.trans (HB2.out.mono HB1.out.size)⟩
    rw [HP.out]
    exact HO3.out.own.sl.weaken fun b hb _ => by
      have := HB1.out.size
      rcases hb with hb | hb
      · exact hb.elim
      · exact Nat.le_trans this hb.2
  · have hI : ¬ (n2 : Int) < (n : Int) := by omega
    have HP := Lib.hid (show presB l = [] from if_neg (by rw [← HL2.out, ← HL.out]; exact hlt))
    go_wp2_with fail
    go_ret3
    exact ⟨none, 0, 0, A2, n2, c2, rfl, by rw [HP.out]; exact Sl.nil_ _ _ _, HS2.out, HB1.out⟩
end Go.Proofs.YticfmphbhdkhoaaGreatDoor
