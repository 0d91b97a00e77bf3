/- slices.Clone, IndexFunc and DeleteFunc of directories. -/
import Derived.Test.YtollmolchcnpeaaGreatDoorNSrt2
namespace Go.Proofs.YtollmolchcnpeaaGreatDoor
open Go Go.RowKit

/-- []api.Dir{}: a row of its own, empty. -/
theorem OwnD.new0 (w : World) (B : Nat) (hB : B ≤ w.heap.size) : OwnD (w.alloc (.cells #[] 24)) B (some ⟨w.heap.size, 0, none⟩) 0 0 [] := by
  have := World.ownsRow_lit (base := B) (e := 24) (size := 3) w #[] 0 hB (by simp [maxLen]) (by simp)
  exact ⟨by simpa [cellsD] using this, by simp⟩
def ClonePost (l : List DD) (n : Nat) (w : World) (e : Ending) (w' : World) : Prop := ∃ A' c', e = .returned (.slice A' n c') ∧ OwnD w' w.heap.size A' n c' l ∧ Below w.heap.size w w'
set_option maxRecDepth 100000 in
set_option maxHeartbeats 1000000 in
theorem clone_any (F : Nat → Prop) (A : Option Addr) (n c : Nat) (l : List DD) (w : World) (h : Sl tDD F w A n c l) (hn : n ≤ 34359738368) : Calls Tryz.prog 21 #[.slice A n c] w (ClonePost l n w) := by
  cases A with
  | none =>
    have hl : l = [] := by
      cases l with
      | nil => rfl
      | cons x r => obtain ⟨b, o, _, e, _⟩ := h.at_ (k := 0) (by simp) (by decide); cases e
    have hn0 := h.len
    subst hl
    obtain rfl : n = 0 := hn0
    have hq : (binOp .eql 30 (.slice none 0 c) (.slice none 0 0)).run Tryz.prog w = .ok (.bool true) w := Lib.run_eql_slice_nil w _ _ none 0 c 0 0 (show Tryz.prog.underlying 30 = some (.slice 24) by kernel_rfl)
    clear h hn
    go_enter Tryz.func21, Tryz.ntmps21
    go_wp2_with fail
    go_ret
    exact ⟨none, 0, rfl, ⟨World.ownsRow_nil _ _ _ _, by simp⟩, Below.refl _ _⟩
  | some a =>
    have hq : (binOp .eql 30 (.slice (some a) n c) (.slice none 0 0)).run Tryz.prog w = .ok (.bool false) w := Lib.run_eql_slice_nil w _ _ (some a) n c 0 0 (show Tryz.prog.underlying 30 = some (.slice 24) by kernel_rfl)
    have HS := Lib.hid ((h.weaken (F' := fun b => F b ∧ b < w.heap.size) fun b hb hl => ⟨hb, hl⟩).alloc (.cells #[] 24))
    have HE := Lib.hid (OwnD.new0 w w.heap.size (Nat.le_refl _)).ownF
    clear h
    go_enter Tryz.func21, Tryz.ntmps21
    go_wp2_with (first
      | (at_builtin; refine apl (T := tDD) elemDD (w.alloc (.cells #[] 24)) w rfl (.tmp 5) (.tmp 6) rfl w.heap.size (some ⟨w.heap.size, 0, none⟩) 0 0 [] rfl (fun _ => False) (fun b => F b ∧ b < w.heap.size) HE.out ((Below.refl _ _).alloc (Nat.le_refl _) _) (Nat.le_refl _) (some a) n c l rfl HS.out (fun b _ h1 _ h3 => by omega) (by omega) ?_; intro A5 c5 w5 h5)
      | fail)
    go_ret
    have ho := ownD_of h5.own
    rw [Nat.zero_add, List.nil_append] at ho
    exact ⟨A5, c5, rfl, ho, h5.below⟩

/-- The two boxes of the closure. -/
def Clos (kb mb : Nat) (k most : Int) (w : World) : Prop := w.cell? ⟨kb, 0, none⟩ = some (.int .i64 k) ∧ w.cell? ⟨mb, 0, none⟩ = some (.int .i64 most)
theorem Clos.below {kb mb B : Nat} {k most : Int} {w w' : World} (h : Clos kb mb k most w) (hb : Below B w w') (h1 : kb < B) (h2 : mb < B) : Clos kb mb k most w' := ⟨(hb.cell (p := ⟨kb, 0, none⟩) h1).trans h.1, (hb.cell (p := ⟨mb, 0, none⟩) h2).trans h.2⟩
theorem Clos.lt {kb mb : Nat} {k most : Int} {w : World} (h : Clos kb mb k most w) : kb < w.heap.size ∧ mb < w.heap.size := ⟨World.block_lt_of_cell? w _ h.1, World.block_lt_of_cell? w _ h.2⟩
def FirstDrop (p : DD → Bool) (l : List DD) (r : Int) : Prop := (r = -1 ∧ ∀ x ∈ l, p x = true) ∨ ∃ i : Nat, r = i ∧ ∃ h : i < l.length, (∀ x ∈ l.take i, p x = true) ∧ p l[i] = false
def IdxPost (p : DD → Bool) (l : List DD) (w : World) (e : Ending) (w' : World) : Prop := ∃ r, e = .returned (.int .i64 r) ∧ FirstDrop p l r ∧ Below w.heap.size w w'

set_option maxRecDepth 100000 in
set_option maxHeartbeats 1000000 in
theorem idx_any (k most : Int) (kb mb : Nat) (F : Nat → Prop) (A : Option Addr) (n c : Nat) (l : List DD) (w : World) (h : Sl tDD F w A n c l) (hcl : Clos kb mb k most w) :
    Calls Tryz.prog 36 #[.slice A n c, .func (.func 22) #[] #[.pointer (some ⟨kb, 0, none⟩), .pointer (some ⟨mb, 0, none⟩)]] w (IdxPost (keepB k most) l w) := by
  have HL := Lib.hid h.len
  have HC := Lib.hid hcl
  have hmax : n ≤ 9223372036854775807 := by have h2 := h.2.1; have h3 := h.2.2.1; unfold maxLen at h3; omega
  clear hcl
  go_enter Tryz.func36, Tryz.ntmps36
  go_wp2_with fail
  go_loopw [8] (fun i wr => ∃ j : Nat, j ≤ n ∧ i = .int .i64 j ∧ Below w.heap.size w wr ∧ Hid (∀ x ∈ l.take j, keepB k most x = true)) (fun i _ => n - (intOf i).toNat)
  case atStart => exact ⟨0, Nat.zero_le _, rfl, Below.refl _ _, Lib.hid (by simp)⟩
  case round =>
    obtain ⟨j, hj, rfl, hb, HA⟩ := hrel
    have g := h.below hb (Nat.le_refl _)
    have HB := Lib.hid hb
    have HCR := Lib.hid (HC.out.below hb HC.out.lt.1 HC.out.lt.2)
    have hsz := hb.size
    clear hb
    by_cases hlt : j < n
    · have hjl : j < l.length := by rw [← HL.out]; exact hlt
      obtain ⟨d, hd⟩ : ∃ d, d = l[j] := ⟨_, rfl⟩
      obtain ⟨b, o, u, rfl, _, hbl, hu, hc⟩ := g.at_ hjl (by decide)
      rw [← hd] at hu
      obtain ⟨rfl, _⟩ := hu
      obtain ⟨c0, c1, c2⟩ := cells3 hc
      obtain ⟨r, hr⟩ : ∃ r, r = !keepB k most d := ⟨_, rfl⟩
      have HD := Lib.hid hd; have HR := Lib.hid hr
      clear g hc hd hr
      have hi1 : (0 : Int) ≤ (j : Int) := by omega
      have hi2 : (j : Int) < (n : Int) := by omega
      cases r with
      | true =>
        have HF : Hid (FirstDrop (keepB k most) l (j : Int)) := Lib.hid (.inr ⟨j, rfl, hjl, HA.out, by rw [← HD.out]; have := HR.out; simpa using this⟩)
        go_wp2_with (first
          | (go_at_call 22; refine (drop_any d k most kb mb true HR.out _ HCR.out.1 HCR.out.2).mono ?_; rintro e w1 ⟨rfl, hb1⟩; have HB1 := Lib.hid (HB.out.trans (hb1.mono hsz)); clear hb1)
          | fail)
        go_ret
        exact ⟨_, rfl, HF.out, HB1.out⟩
      | false =>
        have HN : Hid (∀ x ∈ l.take (j + 1), keepB k most x = true) := Lib.hid (by
          intro x hx
          rw [List.take_succ_eq_append_getElem hjl, List.mem_append, List.mem_singleton] at hx
          rcases hx with hx | rfl
          · exact HA.out x hx
          · rw [← HD.out]; have := HR.out; simpa using this)
        go_wp2_with (first
          | (go_at_call 22; refine (drop_any d k most kb mb false HR.out _ HCR.out.1 HCR.out.2).mono ?_; rintro e w1 ⟨rfl, hb1⟩; have HB1 := Lib.hid (HB.out.trans (hb1.mono hsz)); clear hb1)
          | fail)
        go_roundw
        case rel => exact ⟨j + 1, by omega, by go_num, HB1.out, HN⟩
        case measure => simp [intOf]; omega
    · obtain rfl : j = n := by omega
      have HF : Hid (FirstDrop (keepB k most) l (-1)) := Lib.hid (.inl ⟨rfl, by
        have := HA.out
        rwa [List.take_of_length_le (by rw [← HL.out]; exact Nat.le_refl _)] at this⟩)
      go_wp2_with fail
      go_ret
      exact ⟨_, rfl, HF.out, HB.out⟩
end Go.Proofs.YtollmolchcnpeaaGreatDoor
