/- The law DeskLines: a line for each event, a line for each answer: its walk. -/
import Derived.Test.YtojenpjafgfpaaaDoorShown
import Derived.Test.YtojenpjafgfpaaaDoorFew
import Derived.Test.YtojenpjafgfpaaaDoorNl
import Derived.Deep.CutRange
namespace Go.Proofs.YtojenpjafgfpaaaDoor
open Go Go.RowKit
attribute [local go_sem ↓] Go.wp_at_zero Go.wp_at_succ

theorem fewE_len (l : List EE) : (fewE l).length ≤ 30 := by simp [fewE]; omega
theorem run_ix (s : List UInt8) (j : Nat) (hj : j < s.length) (x : UInt8) (hx : x = s[j]) (w : World) : (Instr.index 9 (.string ⟨s.toArray⟩) (.int .i64 (j : Int))).run Tryd.prog w = .ok (.int .u8 (x.toNat : Int)) w := by
  rw [run_index_string w 9 ⟨s.toArray⟩ .i64 j (by kernel_rfl)]
  have h : 0 ≤ (j : Int) ∧ (j : Int) < ((⟨s.toArray⟩ : ByteArray).size : Nat) := ⟨by omega, by rw [show (⟨s.toArray⟩ : ByteArray).size = s.length from List.size_toArray ..]; omega⟩
  rw [dif_pos h]
  subst hx
  rfl

set_option maxRecDepth 100000 in
set_option maxHeartbeats 8000000 in
theorem lines_any (l : List EE) (al : List AA) (F : Nat → Prop) (A : Option Addr) (n c : Nat) (F' : Nat → Prop) (A' : Option Addr) (n' c' : Nat) (mx : Int) (w : World) (h : Sl tEE F w A n c l) (h' : Sl tAA F' w A' n' c' al)
    (hm : w.cell? ⟨0, 0, none⟩ = some (.int .i64 mx)) (ht : Tab w) (he : evsLen (fewE l) ≤ 2147483000) (ha : answersW (al.take 30) ≤ 268435456) :
    Calls Tryd.prog 5 #[.slice A n c, .slice A' n' c'] w fun e w' => e = .returned (.bool true) ∧ Below w.heap.size w w' := by
  have H1 := Lib.hid h; have H2 := Lib.hid h'; have HT := Lib.hid ht; have HE := Lib.hid he; have HA := Lib.hid ha
  have hn' := h'.2.1
  have hn2' := h'.2.2.1
  unfold maxLen at hn2'
  clear h h' ht he ha
  go_enter Tryd.func5, Tryd.ntmps5
  go_upto_if 18 with (first
    | (go_at_call 6; refine (shown_any mx _ hm HT.out).mono ?_; rintro e w1 ⟨rfl, hb1⟩; have HB1 := Lib.hid hb1; have hs1 := hb1.size; clear hb1)
    | (go_at_call 7; refine (few_any l F A n c _ (H1.out.below HB1.out (Nat.le_refl _))).mono ?_; rintro e w2 ⟨Z, z, zc, rfl, hb2, hz⟩; have HB2 := Lib.hid (HB1.out.trans (hb2.mono hs1)); have HZ := Lib.hid hz; have hs2 := hb2.size; have HZL := Lib.hid hz.len; clear hb2 hz)
    | fail)
  have hz30 : z ≤ 30 := by rw [HZL.out]; exact fewE_len l
  go_cut [1] from 18 to 20 (fun v wx => ∃ (y yc : Nat), y ≤ 30 ∧ v = .slice A' y yc ∧ Sl tAA F' wx A' y yc (al.take 30) ∧ wx = w2)
  case first =>
    by_cases h9 : 30 < n'
    · have hq : decide ((30 : Int) < (n' : Int)) = true := by simp; omega
      have hq' : ¬ (n' : Int) < 30 := by omega
      go_wp2_with fail
      go_meet
      exact ⟨30, c', Nat.le_refl _, rfl, (H2.out.front (by omega)).below HB2.out (Nat.le_refl _), rfl⟩
    · have hq : decide ((30 : Int) < (n' : Int)) = false := by simp; omega
      have hq' : ¬ (30 : Int) < (n' : Int) := by omega
      go_wp2_with fail
      go_meet
      exact ⟨n', c', by omega, rfl, by rw [H2.out.short (by omega)]; exact H2.out.below HB2.out (Nat.le_refl _), rfl⟩
  case rest =>
    obtain ⟨y, yc, hy30, rfl, hy, rfl⟩ := hcut
    have HY := Lib.hid hy; have HYL := Lib.hid hy.len
    obtain ⟨f, hf⟩ : ∃ f, f = fewE l := ⟨_, rfl⟩
    obtain ⟨a, haa⟩ : ∃ a, a = al.take 30 := ⟨_, rfl⟩
    rw [← hf] at HZ HZL HE
    rw [← haa] at HY HYL HA
    clear hy hf haa
    have hez := HE.out
    have hTW := HT.out.below HB2.out
    have HTW := Lib.hid hTW; clear hTW hez
    have hs22 := HB2.out.size
    have hz2 : z ≤ 2048 := by omega
    have hy2 : y ≤ 1048576 := by omega
    go_wp2_with (first
      | (go_at_call 8; refine (print_any _ Z z zc f _ HZ.out hz2 HE.out).mono ?_; rintro e w3 ⟨rfl, hb3⟩; have HB3 := Lib.hid (HB2.out.trans (hb3.mono hs22)); have HZ3 := Lib.hid (HZ.out.below hb3 (Nat.le_refl _)); have HY3 := Lib.hid (HY.out.below hb3 (Nat.le_refl _)); have HT3 := Lib.hid (HTW.out.below hb3); have hs3 := hb3.size; clear hb3)
      | (go_at_call 10; refine (show_any _ A' y yc a _ HY3.out hy2 HA.out HT3.out).mono ?_; rintro e w4 ⟨rfl, hb4⟩; have HB4 := Lib.hid (HB3.out.trans (hb4.mono (Nat.le_trans hs22 hs3))); have HZ4 := Lib.hid (HZ3.out.below hb4 (Nat.le_refl _)); have hs4 := hb4.size; clear hb4)
      | fail)
    have hpl := printOf_len f
    have hsl := count_showOf a
    obtain ⟨s, hs⟩ : ∃ s, s = showOf a := ⟨_, rfl⟩
    have hslen : s.length ≤ 268435456 := by
      rw [hs]; exact Nat.le_trans (showOf_len a (fun x hx => by obtain ⟨cs, hr⟩ := sl_mem HY.out (by decide) hx; exact aa_oks hr)) HA.out
    rw [← hs] at hsl
    rw [← hs]
    have HSL := Lib.hid hsl; clear hsl hs
    have hpb : (printOf f).length ≤ 4294966000 := by have := HE.out; omega
    clear hpl
    go_loopw [9, 10] (fun u v wr => ∃ (k : Nat), k ≤ z ∧ u = .int .i64 ((printOf (f.take k)).length : Nat) ∧ v = .int .i64 k ∧ Below w4.heap.size w4 wr)
      (fun _ v _ => z - (intOf v).toNat)
    case atStart => exact ⟨0, Nat.zero_le _, rfl, rfl, Below.refl _ _⟩
    case round =>
      obtain ⟨k, hk, rfl, rfl, hb⟩ := hrel
      have HB := Lib.hid hb
      have hsz := hb.size
      by_cases hlt : k < z
      · have hkl : k < f.length := by rw [← HZL.out]; exact hlt
        obtain ⟨b, o, cs, rfl, hbF, hbl, hrep, hc⟩ := (HZ4.out.below hb (Nat.le_refl _)).at_ hkl (by decide)
        obtain ⟨x, hx⟩ : ∃ v, v = f[k] := ⟨_, rfl⟩
        have hev := evsLen_get f k hkl
        have hpr := printOf_len_succ hkl
        have hpt := printOf_take f (k + 1)
        rw [← hx] at hrep hev hpr
        have hev2 : evLen x ≤ 4294967000 := by have := HE.out; omega
        clear hev
        have hrep0 := hrep
        obtain ⟨A1, n1, c1, A2, n2, c2, A3, n3, c3, A4, n4, c4, A5, n5, c5, rfl, hrep⟩ := hrep
        clear hrep
        have HREP := Lib.hid hrep0; clear hrep0
        obtain ⟨g0, g1, g2, g3, g4, g5, g6, g7, g8, g9⟩ := cells10 hc
        obtain ⟨p0, hp0⟩ : ∃ p0, p0 = (printOf (f.take k)).length := ⟨_, rfl⟩
        obtain ⟨p1, hp1⟩ : ∃ p1, p1 = (printOf (f.take (k + 1))).length := ⟨_, rfl⟩
        rw [← hp0] at hpr ⊢
        rw [← hp1] at hpr hpt
        have HP1 := Lib.hid hp1
        clear hc hx hb hp0 hp1
        obtain ⟨pe, hpe⟩ : ∃ pe, pe = (putEvent x).length := ⟨_, rfl⟩
        rw [← hpe] at hpr
        have HPE := Lib.hid hpe; clear hpe
        go_wp2_with (first
          | (go_at_call 14; refine (putEvent_any x _ _ _ HREP.out hev2).mono ?_; rintro e w5 ⟨A6, n6, c6, rfl, h5, hb5⟩; obtain rfl : n6 = pe := (by rw [HPE.out]; exact h5.len); have HB5 := Lib.hid (HB.out.trans (hb5.mono hsz)); clear h5 hb5)
          | fail)
        go_roundw
        case rel => exact ⟨k + 1, by omega, by rw [← HP1.out, hpr]; go_num, by go_num, HB5.out⟩
        case measure => simp [intOf]; omega
      · obtain rfl : k = z := by omega
        have hfin : f.take k = f := List.take_of_length_le (by rw [← HZL.out]; exact Nat.le_refl _)
        rw [hfin]
        have HB6 := Lib.hid (HB4.out.trans (hb.mono HB4.out.size))
        clear hfin hb HB
        go_wp2_with fail
        go_loopw [11, 12] (fun u v wx => ∃ (j : Nat), j ≤ s.length ∧ u = .int .i64 ((s.take j).count 10 : Nat) ∧ v = .int .i64 j ∧ wx = wr)
          (fun _ v _ => s.length - (intOf v).toNat)
        case atStart => exact ⟨0, Nat.zero_le _, rfl, rfl, rfl⟩
        case round =>
          obtain ⟨j, hj, rfl, rfl, rfl⟩ := hrel
          by_cases hlt2 : j < s.length
          · obtain ⟨x, hx⟩ : ∃ x, x = s[j] := ⟨_, rfl⟩
            have hix := run_ix s j hlt2 x hx
            have hct := count_take_succ hlt2
            rw [← hx] at hct
            obtain ⟨p0, hp0⟩ : ∃ p0, p0 = (s.take j).count 10 := ⟨_, rfl⟩
            obtain ⟨p1, hp1⟩ : ∃ p1, p1 = (s.take (j + 1)).count 10 := ⟨_, rfl⟩
            have hle : p0 ≤ s.length := by
              have h1 : (s.take j).count 10 ≤ (s.take j).length := List.count_le_length
              rw [List.length_take, ← hp0] at h1; omega
            rw [← hp0] at hct ⊢
            rw [← hp1] at hct
            have HP1 := Lib.hid hp1
            clear hp0 hp1 hx
            by_cases h10 : x = 10
            · subst h10
              rw [if_pos rfl] at hct
              have HCT := Lib.hid hct; clear hct
              go_wp2_with fail
              go_roundw
              case rel => exact ⟨j + 1, by omega, by rw [← HP1.out, HCT.out]; go_num, by go_num, trivial⟩
              case measure => simp [intOf]; omega
            · rw [if_neg h10] at hct
              have HCT := Lib.hid hct; clear hct
              have hxn : ¬ (x.toNat : Int) = 10 := by
                intro e
                apply h10
                apply UInt8.toNat_inj.1
                have : x.toNat = 10 := by omega
                rw [this]; rfl
              clear h10
              go_wp2_with fail
              go_roundw
              case rel => exact ⟨j + 1, by omega, by rw [← HP1.out, HCT.out]; rfl, by go_num, trivial⟩
              case measure => simp [intOf]; omega
          · have hjs : (s.take j).count 10 = y := by rw [List.take_of_length_le (by omega), HSL.out, ← HYL.out]
            rw [hjs]
            clear hjs
            go_wp2_with fail
            go_ret
            exact ⟨rfl, HB6.out⟩
end Go.Proofs.YtojenpjafgfpaaaDoor
