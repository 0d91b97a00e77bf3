/- The law NamesChosen: which directories are read, as the reference says: its walk. -/
import Derived.Test.YtollmolchcnpeaaDoorNShown
import Derived.Test.YtollmolchcnpeaaDoorNRChosen
import Derived.Deep.CutRange
namespace Go.Proofs.YtollmolchcnpeaaDoor
open Go Go.RowKit

/-- x[:k]. -/
theorem Sl.front {α : Type} {T : Ty α} {F : Nat → Prop} {w : World} {A : Option Addr} {n c : Nat} {xs : List α} (h : Sl T F w A n c xs) {k : Nat} (hk : k ≤ n) : Sl T F w A k c (xs.take k) := by
  obtain ⟨h1, h2, h3, css, h4, h5⟩ := h
  refine ⟨by simp; omega, by omega, h3, css.take k, ?_, h5.take k⟩
  rw [← List.take_append_drop k css, List.flatten_append] at h4
  exact h4.front
theorem Sl.short {α : Type} {T : Ty α} {F : Nat → Prop} {w : World} {A : Option Addr} {n c : Nat} {xs : List α} (h : Sl T F w A n c xs) {k : Nat} (hk : n ≤ k) : xs.take k = xs := List.take_of_length_le (by rw [← h.len]; exact hk)

set_option maxRecDepth 100000 in
set_option maxHeartbeats 4000000 in
theorem nchosen_any (F : Nat → Prop) (A : Option Addr) (n c : Nat) (l : List DD) (most : Int) (w : World) (h : Sl tDD F w A n c l) (ht : Tab w) :
    Calls Tryd.prog 3 #[.slice A n c, .int .i64 most] w fun e w' => e = .returned (.bool true) ∧ Below w.heap.size w w' := by
  have H1 := Lib.hid h; have HT := Lib.hid ht
  have hn' := h.2.1
  have hn2' := h.2.2.1
  unfold maxLen at hn2'
  clear h ht
  go_enter Tryd.func3, Tryd.ntmps3
  go_upto_if 10 with (first
    | (go_at_call 7; refine (nshown_any _ HT.out).mono ?_; rintro e w1 ⟨rfl, hb1⟩; have HB1 := Lib.hid hb1; have hs1 := hb1.size; clear hb1)
    | fail)
  go_cut [0] from 10 to 12 (fun v wx => ∃ (y yc : Nat), y ≤ 60 ∧ v = .slice A y yc ∧ Sl tDD F wx A y yc (l.take 60) ∧ wx = w1)
  case first =>
    by_cases h9 : 60 < n
    · have hq : decide ((60 : Int) < (n : Int)) = true := by simp; omega
      have hq' : ¬ (n : Int) < 60 := by omega
      go_wp2_with fail
      go_meet
      exact ⟨60, c, Nat.le_refl _, rfl, (H1.out.front (by omega)).below HB1.out (Nat.le_refl _), rfl⟩
    · have hq : decide ((60 : Int) < (n : Int)) = false := by simp; omega
      have hq' : ¬ (60 : Int) < (n : Int) := by omega
      go_wp2_with fail
      go_meet
      exact ⟨n, c, by omega, rfl, by rw [H1.out.short (by omega)]; exact H1.out.below HB1.out (Nat.le_refl _), rfl⟩
  case rest =>
    obtain ⟨y, yc, hy60, rfl, hy, rfl⟩ := hcut
    have HY := Lib.hid hy
    obtain ⟨f, hf⟩ : ∃ f, f = l.take 60 := ⟨_, rfl⟩
    rw [← hf] at HY
    clear hy hf
    go_wp2_with (first
      | (go_at_call 9; refine (chosen_any _ A y yc f most _ HY.out (by omega)).mono ?_; rintro e w3 ⟨A1, m1, c1, r1, rfl, hc1, hs3, hb3⟩; have HB3 := Lib.hid (HB1.out.trans (hb3.mono hs1)); have HY3 := Lib.hid (HY.out.below hb3 (Nat.le_refl _)); have HC1 := Lib.hid hc1; have HS3 := Lib.hid hs3; have hz3 := HB3.out.size; clear hb3 hc1 hs3)
      | (go_at_call 10; refine (rchosen_any _ A y yc f most _ HY3.out (by omega)).mono ?_; rintro e w4 ⟨A2, m2, c2, r2, rfl, hc2, hs4, hb4⟩; obtain rfl := chosen_one HC1.out hc2; have HB4 := Lib.hid (HB3.out.trans (hb4.mono hz3)); have HS34 := Lib.hid (HS3.out.below hb4 (Nat.le_refl _)); have HS4 := Lib.hid hs4; have hz4 := HB4.out.size; clear hb4 hc2 hs4)
      | (go_at_call 8; refine (same24_any _ _ _ _ _ _ _ _ _ _ HS34.out HS4.out).mono ?_; rintro e w5 ⟨rfl, hb5⟩; have HB5 := Lib.hid (HB4.out.trans (hb5.mono hz4)); clear hb5)
      | fail)
    go_ret
    exact ⟨rfl, HB5.out⟩
end Go.Proofs.YtollmolchcnpeaaDoor
