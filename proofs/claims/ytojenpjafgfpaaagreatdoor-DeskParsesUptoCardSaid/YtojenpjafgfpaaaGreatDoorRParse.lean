/- A script by the reference: newline by newline. Plain Lean; no program in sight. -/
import Derived.Test.YtojenpjafgfpaaaGreatDoorRLineP
import Derived.Test.YtojenpjafgfpaaaGreatDoorParse
import Derived.Test.YtojenpjafgfpaaaGreatDoorBackP
import Derived.Test.YtojenpjafgfpaaaGreatDoorRLine
namespace Go.Proofs.YtojenpjafgfpaaaGreatDoor
open Go Go.RowKit

theorem indexByte_no : ∀ (s : List UInt8), no10 s → Lib.indexByte s 10 = -1
  | [], _ => by simp [Lib.indexByte]
  | c :: r, h => by
    have hc : (c == 10) = false := by
      rw [beq_eq_false_iff_ne]
      rintro rfl
      unfold no10 at h
      simp at h
    have ha : no10 r := by
      unfold no10 at h ⊢
      rw [List.count_cons, hc] at h
      simpa using h
    have ih := indexByte_no r ha
    rw [Lib.indexByte, hc, ih]
    simp
theorem cutNl_no {s : List UInt8} (h : no10 s) : (cutNl s).2.2 = false := by
  unfold cutNl Lib.cut
  rw [Lib.index_one, indexByte_no s h, if_neg (by decide)]

/-- Where the reading stands: from position k on all is still to be read; what was read is acc. -/
def PR (s : List UInt8) (k : Nat) (acc : List EE) : Prop := ∃ m, s.length - k < m ∧ parseL m acc (s.drop k) = parseOf s
theorem pr_start {s : List UInt8} (h1 : s.length ≤ 65536) (h2 : s.count 10 ≤ 2048) : PR s 0 [] :=
  ⟨s.length + 1, by omega, by rw [parseOf, if_neg (by rintro (h | h) <;> omega)]; rfl⟩
theorem drop_split {s : List UInt8} {k i : Nat} (hk : k ≤ i) (hi : i < s.length) (h : s[i] = 10) : s.drop k = (s.drop k).take (i - k) ++ 10 :: s.drop (i + 1) := by
  have e := List.take_append_drop (i - k) (s.drop k)
  rw [List.drop_drop, show k + (i - k) = i by omega, List.drop_eq_getElem_cons hi, h] at e
  exact e.symm
theorem no10_piece {s : List UInt8} {k i : Nat} (hk : k ≤ i) (hi : i < s.length) (h : s[i] ≠ 10) (hn : no10 ((s.drop k).take (i - k))) : no10 ((s.drop k).take (i + 1 - k)) := by
  have e : i - k < (s.drop k).length := by rw [List.length_drop]; omega
  have e2 : (s.drop k)[i - k] = s[i] := by rw [List.getElem_drop]; congr 1; omega
  rw [show i + 1 - k = i - k + 1 by omega, List.take_succ_eq_append_getElem e, e2]
  unfold no10 at hn ⊢
  rw [List.count_append, hn]
  simp [h]
section
variable {s : List UInt8} {k i : Nat} {acc : List EE} (hp : PR s k acc) (hk : k ≤ i) (hi : i < s.length) (h : s[i] = 10) (hn : no10 ((s.drop k).take (i - k)))
include hp hk hi h hn
theorem pr_cut : ∃ m, s.length - (i + 1) < m ∧ parseOf s = (match lineOf ((s.drop k).take (i - k)) with
    | some e => parseL m (acc ++ [e]) (s.drop (i + 1))
    | none => ([], acc.length + 1, 240)) := by
  obtain ⟨m, hm, e⟩ := hp
  obtain ⟨m, rfl⟩ : ∃ m', m = m' + 1 := ⟨m - 1, by omega⟩
  refine ⟨m, by omega, ?_⟩
  have hne : s.drop k ≠ [] := by
    intro h0
    have := congrArg List.length h0
    simp at this; omega
  have hc : cutNl (s.drop k) = ((s.drop k).take (i - k), s.drop (i + 1), true) := by
    have := cutNl_app ((s.drop k).take (i - k)) (s.drop (i + 1)) hn
    rwa [← drop_split hk hi h] at this
  rw [← e, parseL, if_neg hne, hc]
  cases lineOf ((s.drop k).take (i - k)) <;> rfl
theorem pr_step {x : EE} (hl : lineOf ((s.drop k).take (i - k)) = some x) : PR s (i + 1) (acc ++ [x]) := by
  obtain ⟨m, h1, h2⟩ := pr_cut hp hk hi h hn
  exact ⟨m, h1, by rw [h2, hl]⟩
theorem pr_bad (hl : lineOf ((s.drop k).take (i - k)) = none) : parseOf s = ([], acc.length + 1, 240) := by
  obtain ⟨m, h1, h2⟩ := pr_cut hp hk hi h hn
  rw [h2, hl]
end
theorem pr_end {s : List UInt8} {acc : List EE} (hp : PR s s.length acc) : parseOf s = (acc, 0, 0) := by
  obtain ⟨m, hm, e⟩ := hp
  obtain ⟨m, rfl⟩ : ∃ m', m = m' + 1 := ⟨m - 1, by omega⟩
  rw [← e, parseL, if_pos (by simp)]
theorem pr_open {s : List UInt8} {k : Nat} {acc : List EE} (hp : PR s k acc) (hk : k < s.length) (hn : no10 ((s.drop k).take (s.length - k))) : parseOf s = ([], acc.length + 1, 240) := by
  obtain ⟨m, hm, e⟩ := hp
  obtain ⟨m, rfl⟩ : ∃ m', m = m' + 1 := ⟨m - 1, by omega⟩
  have hne : s.drop k ≠ [] := by
    intro h0
    have := congrArg List.length h0
    simp at this; omega
  rw [List.take_of_length_le (by simp)] at hn
  rw [← e, parseL, if_neg hne, cutNl_no hn]
theorem count_step {s : List UInt8} {i : Nat} (hi : i < s.length) : (s.take (i + 1)).count 10 = (s.take i).count 10 + (if s[i] = 10 then 1 else 0) := by
  rw [List.take_succ_eq_append_getElem hi, List.count_append]
  simp [List.count_cons]
theorem count_take_le (s : List UInt8) (i : Nat) : (s.take i).count 10 ≤ i := by
  have h1 := List.count_le_length (a := (10 : UInt8)) (l := s.take i)
  have h2 : (s.take i).length ≤ i := by rw [List.length_take]; omega
  omega
end Go.Proofs.YtojenpjafgfpaaaGreatDoor
/- The reference 32: Parse: a script is read by definition. -/
namespace Go.Proofs.YtojenpjafgfpaaaGreatDoor
open Go Go.RowKit
attribute [local go_sem ↓] Go.wp_at_zero Go.wp_at_succ

theorem run_piece (s : List UInt8) (k i : Nat) (h1 : k ≤ i) (h2 : i ≤ s.length) (f : List UInt8) (hf : f = (s.drop k).take (i - k)) (w : World) :
    (Instr.slice 9 (.string ⟨s.toArray⟩) (some (.int .i64 (k : Int))) (some (.int .i64 (i : Int))) none).run Tryz.prog w = .ok (.string ⟨f.toArray⟩) w := by
  subst hf
  rw [run_slice_string (P := Tryz.prog) w 9 ⟨s.toArray⟩ .i64 .i64 (k : Int) (i : Int) (by kernel_rfl) (by omega) (by omega) (by show (i : Int) ≤ (s.toArray.size : Nat); rw [List.size_toArray]; omega)]
  have e : (⟨s.toArray⟩ : ByteArray).extract (k : Int).toNat (i : Int).toNat = ⟨((s.drop k).take (i - k)).toArray⟩ := by
    apply ByteArray.ext
    rw [ByteArray.data_extract]
    apply Array.toList_inj.1
    simp
  rw [e]

set_option maxRecDepth 100000 in
set_option maxHeartbeats 4000000 in
theorem rparse_any (s : List UInt8) (w : World) (hs : s.length ≤ 9223372036854775807) : Calls Tryz.prog 13 #[.string ⟨s.toArray⟩] w (PaPost s w) := by
  have HSZ := Lib.hid (show (⟨s.toArray⟩ : ByteArray).size = s.length by show s.toArray.size = _; rw [List.size_toArray])
  have HNEW := Lib.hid (OwnF.empty tEE 29 (fun _ => False) w _ (Nat.le_refl _) (fun b hb => hb.elim))
  have HB0 := Lib.hid (show Below w.heap.size w (w.alloc (.cells #[] 29)) from (Below.refl _ _).alloc (Nat.le_refl _) _)
  go_enter Tryz.func13, Tryz.ntmps13
  go_wp2_with fail
  go_loopw [5, 6] (fun c i wr => ∃ (k m : Nat), k ≤ s.length ∧ i = .int .i64 k ∧ c = .int .i64 m ∧ m = (s.take k).count 10 ∧ w = wr)
    (fun _ i _ => s.length - (intOf i).toNat)
  case atStart => exact ⟨0, 0, Nat.zero_le _, rfl, rfl, by simp, rfl⟩
  case round =>
    obtain ⟨k, m, hk, rfl, rfl, hm, rfl⟩ := hrel
    have hml : m ≤ k := by rw [hm]; exact count_take_le s k
    have HM := Lib.hid hm
    clear hm
    by_cases hlt : k < s.length
    · obtain ⟨x, hx⟩ : ∃ x, x = s[k] := ⟨_, rfl⟩
      have i1 := run_strix s k hlt (k : Int) rfl
      rw [← hx] at i1
      have hcs := count_step hlt
      rw [← hx, ← HM.out] at hcs
      clear hx
      by_cases h10 : x = 10
      · have hq : ((x.toNat : Int) == 10) = true := by rw [h10]; rfl
        rw [if_pos h10] at hcs
        have HCS := Lib.hid hcs
        clear hcs h10 HNEW HB0
        go_wp2_with fail
        go_roundw
        case rel => exact ⟨k + 1, m + 1, by omega, by go_num, by go_num, HCS.out.symm, by first | rfl | trivial | fail⟩
        case measure => simp [intOf]; omega
      · have hq : ((x.toNat : Int) == 10) = false := by
          simp only [beq_eq_false_iff_ne, ne_eq]
          intro h
          exact h10 (UInt8.toNat_inj.1 (by rw [show (10 : UInt8).toNat = 10 from rfl]; omega))
        rw [if_neg h10, Nat.add_zero] at hcs
        have HCS := Lib.hid hcs
        clear hcs h10 HNEW HB0
        go_wp2_with fail
        go_roundw
        case rel => exact ⟨k + 1, m, by omega, by go_num, rfl, HCS.out.symm, by first | rfl | trivial | fail⟩
        case measure => simp [intOf]; omega
    · obtain rfl : k = s.length := by omega
      have hmc : m = s.count 10 := by rw [HM.out, List.take_of_length_le (Nat.le_refl _)]
      clear hlt HM
      by_cases hbig : 65536 < s.length
      · have hb' : (65536 : Int) < (s.length : Int) := by omega
        have HP := Lib.hid (show parseOf s = ([], 0, 3) by unfold parseOf; rw [if_pos (.inl hbig)])
        clear hbig hmc HNEW HB0
        go_wp2_with fail
        go_ret3
        unfold PaPost
        rw [HP.out]
        exact ⟨none, 0, 0, rfl, Below.refl _ _, Sl.nil_ _ _ _⟩
      · have hb' : ¬ (65536 : Int) < (s.length : Int) := by omega
        by_cases hcnt : 2048 < m
        · have HP := Lib.hid (show parseOf s = ([], 0, 3) by unfold parseOf; rw [if_pos (.inr (by omega))])
          have hc' : (2048 : Int) < (m : Int) := by omega
          clear hbig hmc hcnt HNEW HB0
          go_wp2_with fail
          go_ret3
          unfold PaPost
          rw [HP.out]
          exact ⟨none, 0, 0, rfl, Below.refl _ _, Sl.nil_ _ _ _⟩
        · have HPR := Lib.hid (pr_start (s := s) (by omega) (by omega))
          have hc' : ¬ (2048 : Int) < (m : Int) := by omega
          have hlen : s.length ≤ 65536 := by omega
          clear hbig hmc hcnt
          go_wp2_with fail
          go_loopw [7, 8, 9] (fun v a i wr => ∃ (k j : Nat) (acc : List EE) (A : Option Addr) (n c : Nat) (G : Nat → Prop), k ≤ j ∧ j ≤ s.length ∧ v = .slice A n c ∧ a = .int .i64 k ∧ i = .int .i64 j ∧ acc.length ≤ k ∧ OwnF tEE 29 G wr w.heap.size A n c acc ∧ (∀ b, G b → w.heap.size ≤ b) ∧ Below w.heap.size w wr ∧ PR s k acc ∧ no10 ((s.drop k).take (j - k)))
            (fun _ _ i _ => s.length - (intOf i).toNat)
          case atStart => exact ⟨0, 0, [], _, 0, 0, _, Nat.le_refl _, Nat.zero_le _, rfl, rfl, rfl, Nat.le_refl _, HNEW.out, fun _ h => h.elim, HB0.out, HPR.out, by simp [no10]⟩
          case round =>
            clear HNEW HB0 HPR
            obtain ⟨k, j, acc, A, n, c, G, hkj, hj, rfl, rfl, rfl, hak, hown, hG, hb, hpr, hno⟩ := hrel
            have HO := Lib.hid hown; have HGB := Lib.hid hG; have HB := Lib.hid hb; have HP := Lib.hid hpr; have HN := Lib.hid hno
            have hsz := hb.size
            have hn : n ≤ k := by rw [hown.len]; exact hak
            clear hown hG hb hpr hno
            by_cases hlt : j < s.length
            · obtain ⟨x, hx⟩ : ∃ x, x = s[j] := ⟨_, rfl⟩
              have i1 := run_strix s j hlt (j : Int) rfl
              rw [← hx] at i1
              by_cases h10 : x = 10
              · have hq : ((x.toNat : Int) == 10) = true := by rw [h10]; rfl
                have HX := Lib.hid (show s[j] = 10 by rw [← hx]; exact h10)
                obtain ⟨f, hf⟩ : ∃ f, f = (s.drop k).take (j - k) := ⟨_, rfl⟩
                have hfl : f.length ≤ 2097152 := by rw [hf, List.length_take, List.length_drop]; omega
                have i2 := run_piece s k j hkj (by omega) f hf
                obtain ⟨lo, hlo⟩ : ∃ lo, lo = lineOf f := ⟨_, rfl⟩
                have HLO := Lib.hid hlo; have HF := Lib.hid hf
                clear hx h10 hf hlo
                cases lo with
                | none =>
                  have HFIN := Lib.hid (show parseOf s = ([], acc.length + 1, 240) from pr_bad HP.out hkj hlt HX.out HN.out (by rw [← HF.out]; exact HLO.out.symm))
                  go_wp2_with (first
                    | (go_at_call 40; refine (rline_l f _ hfl none HLO.out).mono ?_; rintro e w3 ⟨k0, k1, k2, k3, k4, Z0, y0, u0, Z1, y1, u1, Z2, y2, u2, Z3, y3, u3, Z4, y4, u4, rfl, hb3, hrep⟩; have HB3 := Lib.hid (HB.out.trans (hb3.mono hsz)); have hs3 := hb3.size; clear hb3 hrep)
                    | fail)
                  go_ret3
                  unfold PaPost
                  rw [HFIN.out]
                  exact ⟨none, 0, 0, by simp [HO.out.len], HB3.out.alloc (by omega) _, Sl.nil_ _ _ _⟩
                | some x2 =>
                  have HST := Lib.hid (show PR s (j + 1) (acc ++ [x2]) from pr_step HP.out hkj hlt HX.out HN.out (by rw [← HF.out]; exact HLO.out.symm))
                  go_wp2_with (first
                    | (go_at_call 40; refine (rline_l f _ hfl (some x2) HLO.out).mono ?_; rintro e w3 ⟨k0, k1, k2, k3, k4, Z0, y0, u0, Z1, y1, u1, Z2, y2, u2, Z3, y3, u3, Z4, y4, u4, rfl, hb3, hrep⟩; have HB3 := Lib.hid hb3; have HREP := Lib.hid hrep; have hs3 := hb3.size; clear hb3 hrep)
                    | (at_builtin; refine apl1 (T := tEE) elemEE (w3.alloc (.cells #[.int .i64 k0, .int .i64 k1, .int .i64 k2, .int .i64 k3, .slice Z0 y0 u0, .slice Z1 y1 u1, .int .i64 k4, .slice Z2 y2 u2, .slice Z3 y3 u3, .slice Z4 y4 u4] 29)) w rfl (.tmp 55) (.tmp 57) rfl w.heap.size A n c acc rfl G (fun b => wr.heap.size ≤ b) (HO.out.keepB (HB3.out.alloc (by omega) _)) ((HB.out.trans (HB3.out.mono hsz)).alloc (by omega) _) (Nat.le_refl _) _ (by rw [World.size_alloc]; rfl) (#[.int .i64 k0, .int .i64 k1, .int .i64 k2, .int .i64 k3, .slice Z0 y0 u0, .slice Z1 y1 u1, .int .i64 k4, .slice Z2 y2 u2, .slice Z3 y3 u3, .slice Z4 y4 u4] : Array Value).toList x2 (tEE.alloc HREP.out _) 29 rfl (fun b h1 _ _ h4 => by have := (HO.out.lies (b := b) (by simp [Value.ownBlock, h1])).2.2; omega) (by omega) ?_; intro A5 c5 w5 h5)
                    | fail)
                  go_roundw
                  case rel =>
                    refine ⟨j + 1, j + 1, acc ++ [x2], A5, n + 1, c5, _, Nat.le_refl _, by omega, rfl, by go_num, by go_num, by simp; omega, h5.own, fun b hb => ?_, h5.below, HST.out, by simp [no10]⟩
                    rcases hb.1 with h | h
                    · exact HGB.out b h
                    · omega
                  case measure => simp [intOf]; omega
              · have hq : ((x.toNat : Int) == 10) = false := by
                  simp only [beq_eq_false_iff_ne, ne_eq]
                  intro h
                  exact h10 (UInt8.toNat_inj.1 (by rw [show (10 : UInt8).toNat = 10 from rfl]; omega))
                have HNN := Lib.hid (no10_piece hkj hlt (by rw [← hx]; exact h10) HN.out)
                clear hx h10
                go_wp2_with fail
                go_roundw
                case rel => exact ⟨k, j + 1, acc, A, n, c, G, by omega, by omega, rfl, rfl, by go_num, hak, HO.out, HGB.out, HB.out, HP.out, HNN.out⟩
                case measure => simp [intOf]; omega
            · obtain rfl : j = s.length := by omega
              by_cases hkl : k = s.length
              · have hpe : PR s s.length acc := by have := HP.out; rwa [hkl] at this
                have HF := Lib.hid (pr_end hpe)
                have hq : ((k : Int) == (s.length : Int)) = true := by simp [hkl]
                have hq2 : k = s.length := hkl
                clear hpe hkl
                go_wp2_with fail
                go_ret3
                unfold PaPost
                rw [HF.out]
                exact ⟨A, n, c, rfl, HB.out, HO.out.sl.weaken fun b hb _ => by rcases hb with hb | hb; exact HGB.out b hb; exact hb.2⟩
              · have HF := Lib.hid (pr_open HP.out (by omega) HN.out)
                have hq : ((k : Int) == (s.length : Int)) = false := by rw [beq_eq_false_iff_ne]; intro h; exact hkl (by omega)
                go_wp2_with fail
                go_ret3
                unfold PaPost
                rw [HF.out]
                exact ⟨none, 0, 0, by simp [HO.out.len], HB.out, Sl.nil_ _ _ _⟩
end Go.Proofs.YtojenpjafgfpaaaGreatDoor
