/- patched.Put, where it refuses. -/
import Derived.Test.YticfmphbhdkhoaaGreatDoorPk12
import Derived.Lib.SliceRun
namespace Go.Proofs.YticfmphbhdkhoaaGreatDoor
open Go Go.RowKit

theorem patFits_iff (k : Nat) (l : List Int) : patFits k l = ((upN l).all (· < 9223372036854775808) && leastI l != -9223372036854775808 && cutFits k (pairsN k 0 0 (upN l))) := by
  unfold patFits cutFits
  simp only [Bool.and_assoc]
theorem eqlNil (w : World) (a : Option Addr) (n c n' c' : Nat) : (binOp .eql 37 (.slice a n c) (.slice none n' c')).run Tryz.prog w = .ok (.bool a.isNone) w := Lib.run_eql_slice_nil w _ _ a n c n' c' undBytes
theorem based_own (b : Int) (b0 : -9223372036854775808 < b) (b1 : b ≤ 9223372036854775807) (w : World) :
    Calls Tryz.prog 132 #[.int .i64 b] w fun e w' => ∃ g n c, e = .returned (.slice (some ⟨g, 0, none⟩) n c) ∧ Bs (fun _ => True) w' (some ⟨g, 0, none⟩) n c (baseB b) ∧ Below w.heap.size w w' := by
  refine (based_any b b0 b1 w).mono ?_
  rintro e w' ⟨A, n, c, rfl, ho, hb⟩
  obtain ⟨g, rfl⟩ := ho.own.some1 oneU8 (by unfold baseB; rw [be]; simp)
  exact ⟨g, n, c, rfl, ho.bs.any, hb⟩
set_option maxRecDepth 100000 in
set_option maxHeartbeats 2000000 in
theorem pput_none (F : Nat → Prop) (A : Option Addr) (n c : Nat) (l : List Int) (w : World) (h : Sl tI64 F w A n c l) (hn1 : 1 ≤ n) (hn : n ≤ 512) (sg : Bool) (hl : NumOk sg l) (k : Nat) (hk : k ≤ 63) (hkc : wCode (k : Int) = ((codeN k : Nat) : Int)) (hf : patFits k l = false) :
    Calls Tryz.prog 100 #[.slice A n c, .int .i64 (k : Int), .bool sg] w (RunPost none w) := by
  have hlen := h.len
  have hne : l ≠ [] := by intro e; rw [e] at hlen; simp at hlen; omega
  have hml := hl.least hne
  have HMIN := Lib.hid (min_any F A n c l w h hne)
  have HH := Lib.hid h; have HNE := Lib.hid hne
  obtain ⟨mn, hmn⟩ : ∃ mn, mn = leastI l := ⟨_, rfl⟩
  rw [← hmn] at hml HMIN
  obtain ⟨m0, m1, m2⟩ := hml
  have m3 : sg = false → ¬ mn < 0 := fun e => by rcases m2 with h | h; rw [e] at h; cases h; exact Int.not_lt.2 h
  have HM3 := Lib.hid m3
  have HKC := Lib.hid hkc
  rw [patFits_iff, ← hmn] at hf
  obtain ⟨cf, hcf⟩ : ∃ cf, cf = cutFits k (pairsN k 0 0 (upN l)) := ⟨_, rfl⟩
  obtain ⟨ga, hga⟩ : ∃ ga, ga = (upN l).all (· < 9223372036854775808) := ⟨_, rfl⟩
  rw [← hcf, ← hga] at hf
  have HCUT : Hid (∀ w1, Below w.heap.size w w1 → Calls Tryz.prog 131 #[.slice A n c, .int .i64 (k : Int)] w1 fun e w2 => ∃ (b0 : Int) (A1 A2 : Option Addr) (n1 n2 c1 c2 : Nat) (v3 v4 : Int) (ok : Bool), e = .returned (.tuple #[.agg #[.int .i64 b0, .slice A1 n1 c1, .slice A2 n2 c2, .int .i64 v3, .int .i64 v4], .bool ok]) ∧ Below w1.heap.size w1 w2 ∧ -9223372036854775808 ≤ b0 ∧ b0 ≤ 9223372036854775807 ∧ (b0 = -9223372036854775808 ∨ ok = false)) := Lib.hid fun w1 hb1 => by
    refine (pcut_any F A n c l w1 (HH.out.below hb1 (Nat.le_refl _)) HNE.out hn k hk).mono ?_
    rintro e w2 ⟨hb2, he⟩
    rw [← hga, ← hcf, ← hmn] at he
    cases ga with
    | false =>
      rw [if_neg (by simp)] at he
      exact ⟨_, _, _, _, _, _, _, _, _, _, he, hb2, by decide, by decide, .inr rfl⟩
    | true =>
      rw [if_pos rfl] at he
      obtain ⟨Al, cl, Ap, np, cp, he, _, _⟩ := he
      refine ⟨_, _, _, _, _, _, _, _, _, _, he, hb2, m0, m1, ?_⟩
      rw [Bool.true_and] at hf
      rcases Bool.and_eq_false_iff.1 hf with h | h
      · exact .inl (by simpa using h)
      · exact .inr h
  have qT := eqlNil
  have hn5 : ¬ (n : Int) > 512 := by omega
  have hn6 : ¬ (n : Int) < 1 := by omega
  have hk6 : ¬ (k : Int) ≥ 64 := by omega
  clear h hl hlen hne hmn m2 m3 hkc hf hcf hga m0 m1
  go_enter Tryz.func100, Tryz.ntmps100
  go_upto_region 1 with fail
  go_cut [44] from 19 to 44 (fun v wx => ∃ wd, wd = wx ∧ v = .bool false ∧ Below w.heap.size w wd)
  case first =>
    cases sg with
    | true =>
      go_wp2_with (first
        | (go_at_call 127; refine (wcode_any (k : Int) _).mono ?_; rintro e w4 ⟨rfl, hb4⟩; rw [HKC.out]; have HB4 := Lib.hid hb4; clear hb4)
        | fail)
      go_meet
      exact ⟨_, rfl, by congr 1; simp; omega, HB4.out⟩
    | false =>
      have m3 := HM3.out rfl
      go_wp2_with (first
        | (go_at_call 75; refine HMIN.out.mono ?_; rintro e w1 ⟨rfl, rfl⟩)
        | (go_at_call 127; refine (wcode_any (k : Int) _).mono ?_; rintro e w4 ⟨rfl, hb4⟩; rw [HKC.out]; have HB4 := Lib.hid hb4; clear hb4)
        | fail)
      go_meet
      exact ⟨_, rfl, by congr 1; simp; omega, HB4.out⟩
  case rest =>
    obtain ⟨wx, rfl, rfl, hb⟩ := hcut
    have HB := Lib.hid hb
    clear hb HMIN HM3 HKC
    refine ‹∀ (a : Act) (w_1 : World), Code.wp _ _ _ a w_1 → _› _ _ ?_
    go_upto_region 4 with (first
      | (go_at_call 131; refine (HCUT.out _ HB.out).mono ?_; rintro e w2 ⟨b0, A1, A2, n1, n2, c1, c2, v3, v4, ok, rfl, hb2, x0, x1, hor⟩; have HB2 := Lib.hid hb2; have HOR := Lib.hid hor; clear hb2 hor)
      | fail)
    have k0 : (w2.alloc (.cells #[.int .i64 b0, .slice A1 n1 c1, .slice A2 n2 c2, .int .i64 v3, .int .i64 v4] 154)).cell? ⟨w2.heap.size, 0, none⟩ = some (.int .i64 b0) := by rw [Lib.cell_of_heap (heap_alloc_new _ _)]; rfl
    obtain ⟨w3, hw3⟩ : ∃ w3, w3 = w2.alloc (.cells #[.int .i64 b0, .slice A1 n1 c1, .slice A2 n2 c2, .int .i64 v3, .int .i64 v4] 154) := ⟨_, rfl⟩
    have hb3 : Below w.heap.size w w3 := by
      have h2 := HB.out.trans (HB2.out.mono HB.out.size)
      rw [hw3]; exact h2.alloc h2.size _
    rw [← hw3] at k0 ⊢
    have HB3 := Lib.hid hb3
    clear hw3 hb3 HB HB2
    by_cases hz : b0 = -9223372036854775808
    · subst hz
      cases ok with
      | true =>
        go_wp2_with (first
          | (go_at_call 132; refine (based_least _).mono ?_; rintro e w4 ⟨rfl, hb4⟩; have HB4 := Lib.hid hb4; clear hb4)
          | fail)
        go_ret2
        exact ⟨HB3.out.trans (HB4.out.mono HB3.out.size), rfl⟩
      | false =>
        go_wp2_with (first
          | (go_at_call 132; refine (based_least _).mono ?_; rintro e w4 ⟨rfl, hb4⟩; have HB4 := Lib.hid hb4; clear hb4)
          | fail)
        go_ret2
        exact ⟨HB3.out.trans (HB4.out.mono HB3.out.size), rfl⟩
    · obtain rfl : ok = false := HOR.out.resolve_left hz
      have hb0 : -9223372036854775808 < b0 := by omega
      clear hz HOR
      go_wp2_with (first
        | (go_at_call 132; refine (based_own b0 hb0 x1 _).mono ?_; rintro e w4 ⟨g4, n4, c4, rfl, _, hb4⟩; have HB4 := Lib.hid hb4; clear hb4)
        | fail)
      go_ret2
      exact ⟨HB3.out.trans (HB4.out.mono HB3.out.size), rfl⟩
end Go.Proofs.YticfmphbhdkhoaaGreatDoor
