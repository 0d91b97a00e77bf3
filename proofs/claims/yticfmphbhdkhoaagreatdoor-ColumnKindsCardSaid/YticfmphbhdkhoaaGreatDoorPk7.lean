/- delta.Put. -/
import Derived.Test.YticfmphbhdkhoaaGreatDoorPk6
namespace Go.Proofs.YticfmphbhdkhoaaGreatDoor
open Go Go.RowKit

theorem NumOk.least {sg : Bool} {l : List Int} (h : NumOk sg l) (hl : l ≠ []) : -9223372036854775808 ≤ leastI l ∧ leastI l ≤ 9223372036854775807 ∧ (sg = true ∨ 0 ≤ leastI l) := h _ (leastI_mem hl).1
theorem oneWay_u64 {f : Bool} {l : List Int} (h : oneWay f l = true) : ∀ x ∈ sizesN l, x < 9223372036854775808 := fun x hx => by
  obtain ⟨j, hj, rfl⟩ := List.getElem_of_mem hx
  have hj2 : j + 1 < l.length := by rw [sizesN_len] at hj; omega
  rw [sizesN_get l j hj2]
  exact ((oneWay_iff f l).1 h j hj2).1
set_option maxRecDepth 100000 in
set_option maxHeartbeats 1000000 in
/-- What delta.Put answers at rows that do not go one way, or of one. -/
theorem delp_none (F : Nat → Prop) (A : Option Addr) (n c : Nat) (l : List Int) (w : World) (h : Sl tI64 F w A n c l) (hn1 : 1 ≤ n) (hn : n ≤ 512) (sg : Bool) (hl : NumOk sg l) (hd : delB sg l = none) :
    Calls Tryz.prog 98 #[.slice A n c, .bool sg] w (RunPost none w) := by
  have hlen := h.len
  have hne : l ≠ [] := by intro e; rw [e] at hlen; simp at hlen; omega
  have hml := hl.least hne
  have HMIN := Lib.hid (min_any F A n c l w h hne)
  obtain ⟨mn, hmn⟩ : ∃ mn, mn = leastI l := ⟨_, rfl⟩
  rw [← hmn] at hml HMIN
  obtain ⟨m0, m1, m2⟩ := hml
  have HM2 := Lib.hid m2
  have HH := Lib.hid h
  clear hmn m2
  by_cases hn2 : n < 2
  · have z : (n : Int) < 2 := by omega
    clear hn2 hlen
    go_enter Tryz.func98, Tryz.ntmps98
    go_wp2_with fail
    go_ret2
    exact ⟨Below.refl _ _, rfl⟩
  · have z : ¬ (n : Int) < 2 := by omega
    have hw : oneWay (fallsB l) l = false := by
      unfold delB at hd
      by_cases hc : l.length < 2 ∨ oneWay (fallsB l) l = false
      · exact hc.resolve_left (by omega)
      · rw [if_neg hc] at hd; cases hd
    have HDF : Hid (Calls Tryz.prog 128 #[.slice A n c] w fun e w' => e = .returned (.tuple #[.agg #[.int .u64 0, .bool false], .slice none 0 0, .bool false, .bool false]) ∧ Below w.heap.size w w') := Lib.hid ((diffs_any F A n c l w h (by omega) hn).mono fun e w1 hp => by
      obtain ⟨hb1, he⟩ := hp
      rw [hw, if_neg (by simp)] at he
      exact ⟨he, hb1⟩)
    clear hd hw h hlen
    cases sg with
    | true =>
      go_enter Tryz.func98, Tryz.ntmps98
      go_upto_region 3 with (first
        | (go_at_call 75; refine HMIN.out.mono ?_; rintro e w1 ⟨rfl, rfl⟩)
        | fail)
      go_wp2_with (first
        | (go_at_call 128; refine HDF.out.mono ?_; rintro e w1 ⟨rfl, hb1⟩; have HB1 := Lib.hid hb1; clear hb1)
        | fail)
      go_ret2
      exact ⟨HB1.out.alloc HB1.out.size _, rfl⟩
    | false =>
      have m3 : ¬ mn < 0 := by rcases HM2.out with h | h; cases h; exact Int.not_lt.2 h
      go_enter Tryz.func98, Tryz.ntmps98
      go_upto_region 3 with (first
        | (go_at_call 75; refine HMIN.out.mono ?_; rintro e w1 ⟨rfl, rfl⟩)
        | fail)
      go_wp2_with (first
        | (go_at_call 128; refine HDF.out.mono ?_; rintro e w1 ⟨rfl, hb1⟩; have HB1 := Lib.hid hb1; clear hb1)
        | fail)
      go_ret2
      exact ⟨HB1.out.alloc HB1.out.size _, rfl⟩
end Go.Proofs.YticfmphbhdkhoaaGreatDoor
