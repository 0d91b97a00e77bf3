/- The law's own 'few': the first events, each cut short. -/
import Derived.Test.YtojenpjafgfpaaaDoorOne
import Derived.Test.YtojenpjafgfpaaaDoorParse
namespace Go.Proofs.YtojenpjafgfpaaaDoor
open Go Go.RowKit
attribute [local go_sem ↓] Go.wp_at_zero Go.wp_at_succ

theorem one_rep (e : EE) (F : Nat → Prop) (cs : List Value) (w : World) (h : tEE.rep F w cs e) : Calls Tryd.prog 15 #[.agg cs.toArray] w (OnPost F e w) := by
  obtain ⟨Z0, y0, v0, Z1, y1, v1, Z2, y2, v2, Z3, y3, v3, Z4, y4, v4, rfl, q1, q2, q3, q4, q5, r0, r1, r2, r3, r4⟩ := h
  exact one_any e F Z0 y0 v0 Z1 y1 v1 Z2 y2 v2 Z3 y3 v3 Z4 y4 v4 w ⟨q1, q2, q3, q4, q5⟩ r0 r1 r2 r3 r4

set_option maxRecDepth 100000 in
set_option maxHeartbeats 4000000 in
theorem few_any (l : List EE) (F : Nat → Prop) (A : Option Addr) (n c : Nat) (w : World) (h : Sl tEE F w A n c l) :
    Calls Tryd.prog 7 #[.slice A n c] w fun e w' => ∃ A' n' c', e = .returned (.slice A' n' c') ∧ Below w.heap.size w w' ∧ Sl tEE (fun b => (F b ∧ b < w.heap.size) ∨ w.heap.size ≤ b) w' A' n' c' (fewE l) := by
  have HL := Lib.hid h.len
  have H0 : Hid (Sl tEE (fun b => F b ∧ b < w.heap.size) w A n c l) := Lib.hid (h.weaken fun b hb hl => ⟨hb, hl⟩)
  clear h
  go_enter Tryd.func7, Tryd.ntmps7
  go_wp2_with fail
  go_loopw [3, 4] (fun v i wr => ∃ (k : Nat) (Z : Option Addr) (y : Nat) (G : Nat → Prop), k ≤ n ∧ k ≤ 30 ∧ i = .int .i64 k ∧ v = .slice Z k y ∧ OwnF tEE 44 G wr w.heap.size Z k y ((l.take k).map oneE) ∧ (∀ b, G b → (F b ∧ b < w.heap.size) ∨ w.heap.size ≤ b) ∧ Below w.heap.size w wr)
    (fun _ i _ => 30 - (intOf i).toNat)
  case atStart =>
    refine ⟨0, _, _, fun b => F b ∧ b < w.heap.size, Nat.zero_le _, by omega, rfl, rfl, ?_, fun b hb => .inl hb, (Below.refl _ _).alloc (Nat.le_refl _) _⟩
    exact OwnF.empty _ _ _ w _ (Nat.le_refl _) (fun b hb => hb.2)
  case round =>
    obtain ⟨k, Z, y, G, hk, hk30, rfl, rfl, hown, hG, hb⟩ := hrel
    have HO := Lib.hid hown; have HB := Lib.hid hb; have HGB := Lib.hid hG
    have hsz := hb.size
    by_cases hlt : k < n ∧ k < 30
    · obtain ⟨hlt1, hlt2⟩ := hlt
      have hkl : k < l.length := by rw [← HL.out]; exact hlt1
      obtain ⟨b, o, cs, rfl, hbF, hbl, hrep, hc⟩ := (H0.out.below hb (Nat.le_refl _)).at_ hkl (by decide)
      obtain ⟨x, hf⟩ : ∃ v, v = l[k] := ⟨_, rfl⟩
      rw [← hf] at hrep
      have e1 : (l.take (k + 1)).map oneE = (l.take k).map oneE ++ [oneE x] := by
        rw [List.take_succ_eq_append_getElem hkl, ← hf]; simp
      have HE1 := Lib.hid e1
      have hrep0 := hrep
      obtain ⟨A1, n1, c1, A2, n2, c2, A3, n3, c3, A4, n4, c4, A5, n5, c5, rfl, hrep⟩ := hrep
      clear hrep
      have HREP := Lib.hid hrep0; clear hrep0
      obtain ⟨g0, g1, g2, g3, g4, g5, g6, g7, g8, g9⟩ := cells10 hc
      clear hc hf hown hG hb e1
      go_wp2_with (first
        | (go_at_call 15; refine (one_rep x _ _ _ HREP.out).mono ?_; rintro e w2 ⟨Z0, y0, v0, Z1, y1, v1, Z2, y2, v2, Z3, y3, v3, Z4, y4, v4, rfl, hb2, hr2⟩; have HB2 := Lib.hid hb2; have HR2 := Lib.hid hr2; have hs2 := hb2.size; clear hb2 hr2)
        | (at_builtin; refine apl1 (T := tEE) elemEE w2 w rfl (.tmp 16) (.tmp 22) rfl w.heap.size Z k y _ rfl G (fun b => ((F b ∧ b < w.heap.size) ∧ b < wr.heap.size) ∨ wr.heap.size ≤ b) (HO.out.keepB HB2.out) (HB.out.trans (HB2.out.mono hsz)) (Nat.le_refl _) _ rfl (ecellsL x Z0 y0 v0 Z1 y1 v1 Z2 y2 v2 Z3 y3 v3 Z4 y4 v4) (oneE x) HR2.out 44 rfl (fun b h1 h2 _ h4 => by have h6 : w.heap.size ≤ b := h2; have h5 : b < wr.heap.size := (HO.out.lies (b := b) (by simp [Value.ownBlock, h1])).2.2; rcases h4 with h4 | h4 <;> omega) (by omega) ?_; intro A5 c5 w5 h5)
        | fail)
      go_roundw
      case rel =>
        have ho := h5.own
        rw [← HE1.out] at ho
        refine ⟨k + 1, A5, c5, _, by omega, by omega, by go_num, rfl, ho, fun b hb => ?_, h5.below⟩
        · rcases hb.1 with h | h | h
          · exact HGB.out b h
          · exact .inl h.1
          · exact .inr (by omega)
      case measure => simp [intOf]; omega
    · have hrk : (l.take k).map oneE = fewE l := by
        show _ = (l.take 30).map oneE
        rcases Nat.lt_or_ge k n with h | h
        · rw [show k = 30 by omega]
        · rw [List.take_of_length_le (by rw [← HL.out]; exact h), List.take_of_length_le (l := l) (i := 30) (by rw [← HL.out]; omega)]
      rw [hrk] at hown
      have HSR := Lib.hid (hown.sl.weaken (F' := fun b => (F b ∧ b < w.heap.size) ∨ w.heap.size ≤ b) fun b hb _ => by
        rcases hb with hb | hb
        · exact hG b hb
        · exact .inr hb.2)
      clear hrk hown hb HO hG HGB
      have hex : (¬ k < n) ∨ (k < n ∧ ¬ k < 30) := by omega
      clear hlt
      rcases hex with hx | ⟨hx, hx2⟩
      all_goals
        go_wp2_with fail
        go_ret
        exact ⟨Z, k, y, rfl, HB.out, HSR.out⟩
end Go.Proofs.YtojenpjafgfpaaaDoor
