/- The law DeskBack: what was written is read as it was, what was read is written as it was: its walk. -/
import Derived.Test.YtojenpjafgfpaaaDoorShown
import Derived.Test.YtojenpjafgfpaaaDoorFew
import Derived.Test.YtojenpjafgfpaaaDoorBackP
import Derived.Test.YtojenpjafgfpaaaDoorSame2
import Derived.Deep.CutRange
namespace Go.Proofs.YtojenpjafgfpaaaDoor
open Go Go.RowKit
attribute [local go_sem ↓] Go.wp_at_zero Go.wp_at_succ

theorem pp_oks {F : Nat → Prop} {w : World} {cs : List Value} {p : PP} (h : tPP.rep F w cs p) : p.oks := by
  obtain ⟨A1, n1, c1, A2, n2, c2, _, h1, h2, h3, h4, h5⟩ := h
  refine ⟨h1, h2, h3, fun x hx => ?_, fun x hx => ?_⟩
  · obtain ⟨_, hr⟩ := sl_mem h4 (by decide) hx; exact hr.2
  · obtain ⟨_, hr⟩ := sl_mem h5 (by decide) hx; exact hr.2
theorem ee_oks {F : Nat → Prop} {w : World} {cs : List Value} {e : EE} (h : tEE.rep F w cs e) : e.oks := by
  obtain ⟨A1, n1, c1, A2, n2, c2, A3, n3, c3, A4, n4, c4, A5, n5, c5, _, h1, h2, h3, h4, h5, k1, k2, k3, k4, k5⟩ := h
  refine ⟨h1, h2, h3, h4, h5, fun x hx v hv => ?_, fun x hx => ?_, fun x hx => ?_, fun x hx => ?_, fun x hx => ?_⟩
  · obtain ⟨_, _, _, _, _, hr⟩ := sl_mem k1 (by decide) hx
    obtain ⟨_, hr2⟩ := sl_mem hr (by decide) hv
    exact hr2.2
  · obtain ⟨_, hr⟩ := sl_mem k2 (by decide) hx; exact hr.2
  · obtain ⟨_, hr⟩ := sl_mem k3 (by decide) hx; exact hr.2
  · obtain ⟨_, hr⟩ := sl_mem k4 (by decide) hx; exact hr.2
  · obtain ⟨_, hr⟩ := sl_mem k5 (by decide) hx; exact pp_oks hr

theorem print_p (F : Nat → Prop) (A : Option Addr) (n c : Nat) (l : List EE) (w : World) (h : Sl tEE F w A n c l) (hn : n ≤ 2048) (hl : evsLen l ≤ 2147483000) (p : List UInt8) (hp : p = printOf l) :
    Calls Tryd.prog 8 #[.slice A n c] w fun e w' => e = .returned (.tuple #[.string ⟨p.toArray⟩, .int .i64 0]) ∧ Below w.heap.size w w' := by
  subst hp; exact print_any F A n c l w h hn hl
def PaPostR (r : List EE × Nat × Int) (w : World) (e : Ending) (w' : World) : Prop :=
  ∃ A n c, e = .returned (.tuple #[.slice A n c, .int .i64 (r.2.1 : Nat), .int .i64 r.2.2]) ∧ Below w.heap.size w w' ∧ Sl tEE (fun b => w.heap.size ≤ b) w' A n c r.1
theorem parse_r (s : List UInt8) (mx : Int) (w : World) (hm : w.cell? ⟨0, 0, none⟩ = some (.int .i64 mx)) (hs : s.length ≤ 9223372036854775807) (r : List EE × Nat × Int) (hr : r = parseOf s) :
    Calls Tryd.prog 12 #[.string ⟨s.toArray⟩] w (PaPostR r w) := by
  subst hr; exact parse_any s mx w hm hs

theorem few30 (l : List EE) : (fewE l).length ≤ 30 := by simp [fewE]; omega

set_option maxRecDepth 100000 in
set_option maxHeartbeats 8000000 in
theorem back_any (l : List EE) (s : ByteArray) (F : Nat → Prop) (A : Option Addr) (n c : Nat) (mx : Int) (w : World) (h : Sl tEE F w A n c l)
    (hm : w.cell? ⟨0, 0, none⟩ = some (.int .i64 mx)) (ht : Tab w) (he : evsLen (fewE l) ≤ 2147483000) (hs : s.size ≤ 9223372036854775807) :
    Calls Tryd.prog 4 #[.slice A n c, .string s] w fun e w' => e = .returned (.bool true) ∧ Below w.heap.size w w' := by
  have H1 := Lib.hid h; have HT := Lib.hid ht; have HE := Lib.hid he
  clear h ht he
  go_enter Tryd.func4, Tryd.ntmps4
  go_upto_if 20 with (first
    | (go_at_call 6; refine (shown_any mx _ hm HT.out).mono ?_; rintro e w1 ⟨rfl, hb1⟩; have HB1 := Lib.hid hb1; have hs1 := hb1.size; clear hb1)
    | (go_at_call 7; refine (few_any l F A n c _ (H1.out.below HB1.out (Nat.le_refl _))).mono ?_; rintro e w2 ⟨Z, z, zc, rfl, hb2, hz⟩; have HB2 := Lib.hid (HB1.out.trans (hb2.mono hs1)); have HZ := Lib.hid hz; have hs2 := hb2.size; have HZL := Lib.hid hz.len; clear hb2 hz)
    | fail)
  have hz30 : z ≤ 30 := by rw [HZL.out]; exact few30 l
  go_cut [1] from 20 to 22 (fun v wx => ∃ t : List UInt8, t.length ≤ 3000 ∧ v = .string ⟨t.toArray⟩ ∧ wx = w2)
  case first =>
    by_cases h9 : 3000 < s.size
    · have hq : decide ((3000 : Int) < (s.size : Int)) = true := by simp; omega
      have hq' : ¬ (s.size : Int) < 3000 := by omega
      go_wp2_with fail
      go_meet
      refine ⟨(s.extract 0 3000).data.toList, ?_, by rw [byteArray_toList], rfl⟩
      rw [Array.length_toList]; show (s.extract 0 3000).size ≤ 3000
      rw [ByteArray.size_extract]; omega
    · have hq : decide ((3000 : Int) < (s.size : Int)) = false := by simp; omega
      have hq' : ¬ (3000 : Int) < (s.size : Int) := by omega
      go_wp2_with fail
      go_meet
      exact ⟨s.data.toList, by rw [Array.length_toList]; show s.size ≤ 3000; omega, by rw [byteArray_toList], rfl⟩
  case rest =>
    obtain ⟨t, ht30, rfl, rfl⟩ := hcut
    obtain ⟨f, hf⟩ : ∃ f, f = fewE l := ⟨_, rfl⟩
    rw [← hf] at HZ HZL HE
    clear hf
    have hs22 := HB2.out.size
    obtain ⟨p, hp⟩ : ∃ p, p = printOf f := ⟨_, rfl⟩
    have hpl : p.length ≤ 4294966000 := by rw [hp]; have := printOf_len f; have := HE.out; omega
    have HP := Lib.hid hp; clear hp
    have HTW := Lib.hid (HT.out.below HB2.out)
    have hm2 := kcell HB2.out hm
    go_upto_if 32 with (first
      | (go_at_call 8; refine (print_p _ Z z zc f _ HZ.out (by omega) HE.out p HP.out).mono ?_; rintro e w3 ⟨rfl, hb3⟩; have HB3 := Lib.hid (HB2.out.trans (hb3.mono hs22)); have HZ3 := Lib.hid (HZ.out.below hb3 (Nat.le_refl _)); have hm3 := kcell hb3 hm2; have hs3 := hb3.size; clear hb3)
      | fail)
    go_cut [] from 32 to 51 (fun wx => Below w3.heap.size w3 wx)
    case first =>
      by_cases h6 : p.length ≤ 65536
      · have hq : decide ((p.length : Int) ≤ 65536) = true := by simp; omega
        have hpar : (f, 0, 0) = parseOf p := by
          rw [HP.out]
          refine (parseOf_print f (fun e he => ⟨?_, ?_⟩) (by rw [← HP.out]; exact h6) (by rw [← HZL.out]; omega)).symm
          · obtain ⟨_, hr⟩ := sl_mem HZ.out (by decide) he; exact ee_oks hr
          · obtain ⟨i, hi, rfl⟩ := List.getElem_of_mem he
            have := evsLen_get f i hi
            have := HE.out
            omega
        have HPAR := Lib.hid hpar; clear hpar
        go_wp2_with (first
          | (go_at_call 12; refine (parse_r p mx _ hm3 (by omega) (f, 0, 0) HPAR.out).mono ?_; rintro e w4 ⟨A4, n4, c4, rfl, hb4, hk4⟩; have HB4 := Lib.hid hb4; have HK4 := Lib.hid hk4; clear hb4 hk4)
          | (go_at_call 13; refine (sameEvents_any _ _ A4 Z n4 c4 z zc f _ HK4.out (HZ3.out.below HB4.out (Nat.le_refl _))).mono ?_; rintro e w5 ⟨rfl, hb5⟩; have HB5 := Lib.hid (HB4.out.trans (hb5.mono HB4.out.size)); clear hb5)
          | fail)
        go_meet
        exact HB5.out
      · have hq : decide ((p.length : Int) ≤ 65536) = false := by simp; omega
        go_wp2_with fail
        go_meet
        exact Below.refl _ _
    case rest =>
      have HB5 := Lib.hid (HB3.out.trans (hcut.mono HB3.out.size))
      have hm5 := kcell hcut hm3
      have hs5 := HB5.out.size
      clear hcut
      obtain ⟨r, hr⟩ : ∃ r, r = parseOf t := ⟨_, rfl⟩
      have HR := Lib.hid hr
      have hgood := parseOf_good t
      have hbad := parseOf_bad t
      rw [← hr] at hgood hbad
      clear hr
      obtain ⟨rl, rn, re⟩ := r
      dsimp only at hgood hbad
      by_cases h0 : re = 0
      · subst h0
        obtain ⟨hg1, hg2, hg3⟩ := hgood rfl
        have HG1 := Lib.hid hg1.symm
        clear hgood hbad hg1
        go_wp2_with (first
          | (go_at_call 12; refine (parse_r t mx _ hm5 (by omega) (rl, rn, 0) HR.out).mono ?_; rintro e w6 ⟨A6, n6, c6, rfl, hb6, hk6⟩; have HB6 := Lib.hid (HB5.out.trans (hb6.mono hs5)); have HK6 := Lib.hid hk6; have hs6 := HB6.out.size; clear hb6 hk6)
          | (go_at_call 8; refine (print_p _ A6 n6 c6 rl _ HK6.out (by rw [HK6.out.len]; exact hg2) (by omega) t HG1.out).mono ?_; rintro e w7 ⟨rfl, hb7⟩; have HB7 := Lib.hid (HB6.out.trans (hb7.mono hs6)); clear hb7)
          | fail)
        go_ret
        exact ⟨rfl, HB7.out⟩
      · have hb := hbad h0
        subst hb
        clear hgood hbad
        go_wp2_with (first
          | (go_at_call 12; refine (parse_r t mx _ hm5 (by omega) ([], rn, re) HR.out).mono ?_; rintro e w6 ⟨A6, n6, c6, rfl, hb6, hk6⟩; obtain rfl : n6 = 0 := hk6.len; have HB6 := Lib.hid (HB5.out.trans (hb6.mono hs5)); clear hb6 hk6)
          | fail)
        go_ret
        exact ⟨rfl, HB6.out⟩
end Go.Proofs.YtojenpjafgfpaaaDoor
