/- column.Put at any kind and any values (4096 at most). column.Size, and the law's own 'few'. -/
import Derived.Test.YticfmphbhdkhoaaGreatDoorPk28
import Derived.Test.YticfmphbhdkhoaaGreatDoorPk26
namespace Go.Proofs.YticfmphbhdkhoaaGreatDoor
open Go Go.RowKit

theorem cput_any (k : Int) (F : Nat → Prop) (A : Option Addr) (n c : Nat) (l : List VV) (w : World) (h : Sl tVV F w A n c l) (hn : n ≤ 4096) (hT : Lib.Utf8Tabs 0 1 w) :
    Calls Tryz.prog 7 #[.int .i64 k, .slice A n c] w (ColPost k l w) := by
  by_cases hE : colE k l = 0
  · have hk : 1 ≤ k ∧ k ≤ 7 := by
      by_cases hk : 1 ≤ k ∧ k ≤ 7
      · exact hk
      · unfold colE at hE
        rw [if_neg hk] at hE
        exact absurd hE (by decide)
    have hall : l.all (mayV k) = true := by
      cases hq : l.all (mayV k) with
      | true => rfl
      | false =>
        unfold colE at hE
        rw [if_pos hk, hq] at hE
        exact absurd hE (by decide)
    by_cases h5 : k ≤ 5
    · exact cput_num k F A n c l w h hn hT ⟨hk.1, h5⟩ hall
    · exact cput_txt k F A n c l w h hn hT (by omega) hall
  · exact cput_no k F A n c l w h hn hT hE
end Go.Proofs.YticfmphbhdkhoaaGreatDoor
namespace Go.Proofs.YticfmphbhdkhoaaGreatDoor
open Go Go.RowKit

theorem sl_frontK {α : Type} {T : Ty α} {F : Nat → Prop} {w : World} {A : Option Addr} {n c : Nat} {xs : List α} (h : Sl T F w A n c xs) {k : Nat} (hk : k ≤ n) : Sl T F w A k c (xs.take k) := by
  obtain ⟨h1, h2, h3, css, h4, h5⟩ := h
  refine ⟨by simp; omega, by omega, h3, css.take k, ?_, h5.take k⟩
  rw [← List.take_append_drop k css, List.flatten_append] at h4
  exact h4.front
/-- The law's few: at most 300 values. -/
theorem fewv_any (F : Nat → Prop) (A : Option Addr) (n c : Nat) (l : List VV) (w : World) (h : Sl tVV F w A n c l) :
    Calls Tryz.prog 6 #[.slice A n c] w fun e w' => w = w' ∧ ∃ A' n' c', e = .returned (.slice A' n' c') ∧ n' ≤ 300 ∧ Sl tVV F w A' n' c' (l.take 300) := by
  have HL := Lib.hid h.len; have HH := Lib.hid h
  have hcap : n ≤ c := h.2.1
  clear h
  by_cases hn : n > 300
  · have q1 : (n : Int) > 300 := by omega
    have q2 : (300 : Int) < n := by omega
    have q3 : (300 : Int) ≤ (c : Int) := by omega
    have q4 : (300 : Int) ≤ (n : Int) := by omega
    have q5 : 300 ≤ c := by omega
    have q6 : ¬ c < 300 := by omega
    cases A with
    | none =>
      exfalso
      have h0 : 0 < l.length := by rw [← HL.out]; omega
      obtain ⟨b, o, cs, e, _⟩ := HH.out.at_ h0 (by decide)
      cases e
    | some a =>
      go_enter Tryz.func6, Tryz.ntmps6
      go_wp2_with fail
      go_ret
      exact ⟨rfl, _, 300, c, rfl, Nat.le_refl _, sl_frontK HH.out (by omega)⟩
  · have q1 : ¬ (n : Int) > 300 := by omega
    have q2 : ¬ (300 : Int) < n := by omega
    have HT := Lib.hid (show l.take 300 = l from List.take_of_length_le (by rw [← HL.out]; omega))
    go_enter Tryz.func6, Tryz.ntmps6
    go_wp2_with fail
    go_ret
    exact ⟨rfl, A, n, c, rfl, by omega, by rw [HT.out]; exact HH.out⟩
def sizeS : List (Int × List UInt8) → Nat
  | [] => 0
  | x :: r => x.2.length + sizeS r
theorem sizeS_snoc : ∀ (l : List (Int × List UInt8)) (x : Int × List UInt8), sizeS (l ++ [x]) = sizeS l + x.2.length
  | [], x => by simp [sizeS]
  | y :: r, x => by simp only [List.cons_append, sizeS, sizeS_snoc r x]; omega
theorem sizeS_take : ∀ (l : List (Int × List UInt8)) (k : Nat), sizeS (l.take k) ≤ sizeS l
  | [], k => by simp
  | x :: r, 0 => by simp [sizeS]
  | x :: r, k + 1 => by have := sizeS_take r k; simp only [List.take_succ_cons, sizeS]; omega
set_option maxRecDepth 100000 in
set_option maxHeartbeats 1000000 in
theorem csize_any (m enc tx : Int) (F : Nat → Prop) (A : Option Addr) (n c : Nat) (ss : List (Int × List UInt8)) (w : World) (h : Sl tStream F w A n c ss) (hn : n ≤ 1000) (hs : sizeS ss ≤ 4611686018427387904) :
    Calls Tryz.prog 10 #[.agg #[.int .i64 m, .int .i64 enc, .int .i64 tx, .slice A n c]] w fun e w' => e = .returned (.int .i64 (sizeS ss : Int)) ∧ Below w.heap.size w w' := by
  have HL := Lib.hid h.len; have HH := Lib.hid h; have HS := Lib.hid hs
  clear h hs
  go_enter Tryz.func10, Tryz.ntmps10
  go_wp2_with fail
  go_loopw [3, 9] (fun s iv wr => ∃ k : Nat, k ≤ n ∧ iv = .int .i64 (k : Int) ∧ s = .int .i64 ((sizeS (ss.take k) : Nat) : Int) ∧ Below w.heap.size w wr) (fun _ iv _ => n - (intOf iv).toNat)
  case atStart => exact ⟨0, Nat.zero_le _, rfl, rfl, (Below.refl _ _).alloc (Nat.le_refl _) _⟩
  case round =>
    obtain ⟨k, hk, rfl, rfl, hb⟩ := hrel
    have HB := Lib.hid hb
    have hsz := hb.size
    by_cases hlt : k < n
    · have hkl : k < ss.length := by rw [← HL.out]; exact hlt
      obtain ⟨b, o, cs, rfl, _, hbl, hrep, hc⟩ := (HH.out.below hb (Nat.le_refl _)).at_ hkl (by decide)
      obtain ⟨x, hf⟩ : ∃ x, x = ss[k] := ⟨_, rfl⟩
      obtain ⟨kk, bs⟩ := x
      rw [← hf] at hrep
      obtain ⟨c1, c2, rfl, ⟨h1, h1'⟩, A2, n2, cc2, h2, hsl⟩ := hrep
      subst h1 h2
      obtain ⟨g0, g1⟩ := cells2 hc
      have e1 : sizeS (ss.take (k + 1)) = sizeS (ss.take k) + n2 := by
        rw [List.take_succ_eq_append_getElem hkl, ← hf, sizeS_snoc, hsl.len]
      obtain ⟨q, hq⟩ : ∃ q, q = sizeS (ss.take k) := ⟨_, rfl⟩
      have hle := sizeS_take ss (k + 1)
      rw [e1] at hle
      have hq4 := HS.out
      rw [← hq] at e1 hle ⊢
      have hsum : (q : Int) + (n2 : Int) ≤ 4611686018427387904 := by omega
      have HE1 := Lib.hid e1
      have g0 : _ = some (Value.int .i64 kk) := g0
      have g1 : _ = some (Value.slice A2 n2 cc2) := g1
      clear hc hf hb hq hle hq4 e1 h1'
      go_wp2_with fail
      go_roundw
      case rel => exact ⟨k + 1, by omega, by go_num, by rw [HE1.out]; go_num, HB.out.alloc hsz _⟩
      case measure => simp [intOf]; omega
    · obtain rfl : k = n := by omega
      have e1 : ss.take k = ss := List.take_of_length_le (by rw [← HL.out]; exact Nat.le_refl _)
      have HE := Lib.hid e1
      clear hb e1
      go_wp2_with fail
      go_ret
      exact ⟨by rw [HE.out]; rfl, HB.out⟩
end Go.Proofs.YticfmphbhdkhoaaGreatDoor
