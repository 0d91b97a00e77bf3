/- ColumnKinds: a column is of one kind: the law's walk. -/
import Derived.Test.YticfmphbhdkhoaaGreatDoorPk30
namespace Go.Proofs.YticfmphbhdkhoaaGreatDoor
open Go Go.RowKit

set_option maxRecDepth 100000 in
set_option maxHeartbeats 4000000 in
theorem kinds_law (k : Int) (F : Nat → Prop) (A : Option Addr) (n c : Nat) (l : List VV) (w : World) (h : Sl tVV F w A n c l) (hT : Lib.Utf8Tabs 0 1 w) :
    Calls Tryz.prog 4 #[.int .i64 k, .slice A n c] w fun e w' => e = .returned (.bool true) ∧ Below w.heap.size w w' := by
  have HT := Lib.hid hT; have HH := Lib.hid h
  obtain ⟨lf, hlf⟩ : ∃ lf, lf = l.take 300 := ⟨_, rfl⟩
  obtain ⟨e0, he0⟩ : ∃ e0, e0 = colE k lf := ⟨_, rfl⟩
  obtain ⟨m, enc, tx, ss, hR⟩ : ∃ m enc tx ss, colR k lf = (m, enc, tx, ss) := ⟨_, _, _, _, rfl⟩
  have HE := Lib.hid he0; have HLF := Lib.hid hlf; have HR := Lib.hid hR
  clear h hT hlf he0 hR
  go_enter Tryz.func4, Tryz.ntmps4
  go_upto_region 4 with (first
    | (go_at_call 5; refine (kshown_any _ HT.out).mono ?_; rintro e w1 ⟨rfl, hb1⟩; have HB1 := Lib.hid hb1; clear hb1)
    | (go_at_call 6; refine (fewv_any F A n c l _ (HH.out.below HB1.out (Nat.le_refl _))).mono ?_; rintro e w2 ⟨rfl, A2, n2, c2, rfl, hn2, hs2⟩; rw [← HLF.out] at hs2; have HS2 := Lib.hid hs2; clear hs2)
    | (go_at_call 7; refine (cput_any k F A2 n2 c2 _ _ HS2.out (by omega) (tabs_below HT.out HB1.out)).mono ?_; rintro e w3 ⟨A3, n3, c3, rfl, _, hb3⟩; rw [HR.out, ← HE.out]; have HB3 := Lib.hid hb3; clear hb3)
    | fail)
  obtain ⟨w4, hw4⟩ : ∃ w4, w4 = w3.alloc (.cells #[.int .i64 m, .int .i64 enc, .int .i64 tx, .slice A3 n3 c3] 27) := ⟨_, rfl⟩
  rw [← hw4]
  have hb13 : Below w.heap.size w w3 := HB1.out.trans (HB3.out.mono HB1.out.size)
  have hb4 : Below w.heap.size w w4 := by rw [hw4]; exact hb13.alloc hb13.size _
  have HB4 := Lib.hid hb4
  have hb14 : Below w1.heap.size w1 w4 := by rw [hw4]; exact HB3.out.alloc HB3.out.size _
  have HS4 := Lib.hid (HS2.out.below hb14 (Nat.le_refl _))
  have HL := Lib.hid HS4.out.len
  clear hb4 hw4 hb13 hb14
  by_cases hk : 1 ≤ k ∧ k ≤ 7
  · have k1 : ¬ k < 1 := by omega
    have k2 : ¬ k > 7 := by omega
    have k3 : ¬ 7 < k := by omega
    have HE2 := Lib.hid (show e0 = if lf.all (mayV k) then 0 else 21 by rw [HE.out]; exact if_pos hk)
    go_wp2_with fail
    go_loopw [8, 9] (fun mv iv wr => ∃ j : Nat, j ≤ n2 ∧ iv = .int .i64 (j : Int) ∧ mv = .bool ((lf.take j).all (mayV k)) ∧ Below w4.heap.size w4 wr) (fun _ iv _ => n2 - (intOf iv).toNat)
    case atStart => exact ⟨0, Nat.zero_le _, rfl, rfl, Below.refl _ _⟩
    case round =>
      obtain ⟨j, hj, rfl, rfl, hb⟩ := hrel
      have HB := Lib.hid hb
      have hsz := hb.size
      by_cases hlt : j < n2
      · have hkl : j < lf.length := by rw [← HL.out]; exact hlt
        obtain ⟨b, o, cs, rfl, _, hbl, hrep, hc⟩ := (HS4.out.below hb (Nat.le_refl _)).at_ hkl (by decide)
        obtain ⟨v, hf⟩ : ∃ v, v = lf[j] := ⟨_, rfl⟩
        obtain ⟨rfl, hok⟩ := hrep
        rw [← hf] at hc hok
        have e1 : (lf.take (j + 1)).all (mayV k) = ((lf.take j).all (mayV k) && mayV k v) := by
          rw [List.take_succ_eq_append_getElem hkl, ← hf]; simp
        obtain ⟨q, hq⟩ : ∃ q, q = (lf.take j).all (mayV k) := ⟨_, rfl⟩
        obtain ⟨q2, hq2⟩ : ∃ q2, q2 = mayV k v := ⟨_, rfl⟩
        have HM := Lib.hid (rmay_any k v hok)
        rw [← hq, ← hq2] at e1
        rw [← hq]
        rw [← hq2] at HM
        have HE1 := Lib.hid e1
        obtain ⟨nu, x, s⟩ := v
        obtain ⟨g0, g1, g2⟩ := cells3 hc
        have g0 : _ = some (Value.bool nu) := g0
        have g1 : _ = some (Value.int .i64 x) := g1
        have g2 : _ = some (Value.string s) := g2
        have HT4 := Lib.hid (tabs_below (tabs_below HT.out HB4.out) hb)
        have hi0 : (0 : Int) ≤ (j : Int) := by omega
        have hi1 : (j : Int) < (n2 : Int) := by omega
        clear hc hf hq hq2 e1 hok hb
        cases q
        all_goals
          go_wp2_with (first
            | (go_at_call 12; refine (HM.out _ HT4.out).mono ?_; rintro e w5 ⟨rfl, hb5⟩; have HB5 := Lib.hid hb5; clear hb5)
            | fail)
          go_roundw
          case rel => exact ⟨j + 1, by omega, by go_num, by rw [HE1.out]; rfl, HB.out.trans (HB5.out.mono hsz)⟩
          case measure => simp [intOf]; omega
      · obtain rfl : j = n2 := by omega
        have e1 : lf.take j = lf := List.take_of_length_le (by rw [← HL.out]; exact Nat.le_refl _)
        rw [e1]
        obtain ⟨q, hq⟩ : ∃ q, q = lf.all (mayV k) := ⟨_, rfl⟩
        have he := HE2.out
        rw [← hq] at he ⊢
        have HBX := Lib.hid (HB4.out.trans (hb.mono HB4.out.size))
        clear hq e1 hb
        cases q
        · obtain rfl : e0 = 21 := he
          go_wp2_with fail
          go_ret
          exact ⟨rfl, HBX.out⟩
        · obtain rfl : e0 = 0 := he
          go_wp2_with fail
          go_ret
          exact ⟨rfl, HBX.out⟩
  · obtain rfl : e0 = 1 := by rw [HE.out]; exact if_neg hk
    by_cases h1 : k < 1
    · clear hk
      go_wp2_with fail
      go_ret
      exact ⟨rfl, HB4.out⟩
    · have h2 : k > 7 := by omega
      have h3 : 7 < k := h2
      clear hk
      go_wp2_with fail
      go_ret
      exact ⟨rfl, HB4.out⟩
end Go.Proofs.YticfmphbhdkhoaaGreatDoor
