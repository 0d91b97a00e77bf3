/- The law DeskPrints: events are written, and answers shown, as the reference does: its walk. -/
import Derived.Test.YtojenpjafgfpaaaDoorShown
import Derived.Test.YtojenpjafgfpaaaDoorFew
import Derived.Test.YtojenpjafgfpaaaDoorRef6
import Derived.Deep.CutRange
namespace Go.Proofs.YtojenpjafgfpaaaDoor
open Go Go.RowKit
attribute [local go_sem ↓] Go.wp_at_zero Go.wp_at_succ

set_option maxRecDepth 100000 in
set_option maxHeartbeats 8000000 in
theorem prints_any (l : List EE) (al : List AA) (F : Nat → Prop) (A : Option Addr) (n c : Nat) (F' : Nat → Prop) (A' : Option Addr) (n' c' : Nat) (mx : Int) (w : World) (h : Sl tEE F w A n c l) (h' : Sl tAA F' w A' n' c' al)
    (hm : w.cell? ⟨0, 0, none⟩ = some (.int .i64 mx)) (ht : Tab w) (he : evsLen (fewE l) ≤ 2147483000) (ha : answersW (al.take 30) ≤ 268435456) :
    Calls Tryd.prog 3 #[.slice A n c, .slice A' n' c'] w fun e w' => e = .returned (.bool true) ∧ Below w.heap.size w w' := by
  have H1 := Lib.hid h; have H2 := Lib.hid h'; have HT := Lib.hid ht; have HE := Lib.hid he; have HA := Lib.hid ha
  have hn' := h'.2.1
  have hn2' := h'.2.2.1
  unfold maxLen at hn2'
  clear h h' ht he ha
  go_enter Tryd.func3, Tryd.ntmps3
  go_upto_if 15 with (first
    | (go_at_call 6; refine (shown_any mx _ hm HT.out).mono ?_; rintro e w1 ⟨rfl, hb1⟩; have HB1 := Lib.hid hb1; have hs1 := hb1.size; clear hb1)
    | (go_at_call 7; refine (few_any l F A n c _ (H1.out.below HB1.out (Nat.le_refl _))).mono ?_; rintro e w2 ⟨Z, z, zc, rfl, hb2, hz⟩; have HB2 := Lib.hid (HB1.out.trans (hb2.mono hs1)); have HZ := Lib.hid hz; have hs2 := hb2.size; have HZL := Lib.hid hz.len; clear hb2 hz)
    | fail)
  have hz30 : z ≤ 30 := by rw [HZL.out]; simp [fewE]; omega
  go_cut [1] from 15 to 17 (fun v wx => ∃ (y yc : Nat), y ≤ 30 ∧ v = .slice A' y yc ∧ Sl tAA F' wx A' y yc (al.take 30) ∧ wx = w2)
  case first =>
    by_cases h9 : 30 < n'
    · have hq : decide ((30 : Int) < (n' : Int)) = true := by simp; omega
      have hq' : ¬ (n' : Int) < 30 := by omega
      go_wp2_with fail
      go_meet
      exact ⟨30, c', Nat.le_refl _, rfl, (H2.out.front (by omega)).below HB2.out (Nat.le_refl _), rfl⟩
    · have hq : decide ((30 : Int) < (n' : Int)) = false := by simp; omega
      have hq' : ¬ (30 : Int) < (n' : Int) := by omega
      go_wp2_with fail
      go_meet
      exact ⟨n', c', by omega, rfl, by rw [H2.out.short (by omega)]; exact H2.out.below HB2.out (Nat.le_refl _), rfl⟩
  case rest =>
    obtain ⟨y, yc, hy30, rfl, hy, rfl⟩ := hcut
    have HY := Lib.hid hy
    obtain ⟨f, hf⟩ : ∃ f, f = fewE l := ⟨_, rfl⟩
    obtain ⟨a, haa⟩ : ∃ a, a = al.take 30 := ⟨_, rfl⟩
    rw [← hf] at HZ HZL HE
    rw [← haa] at HY HA
    clear hy hf haa
    have HTW := Lib.hid (HT.out.below HB2.out)
    have hs22 := HB2.out.size
    have hz2 : z ≤ 2048 := by omega
    have hy2 : y ≤ 1048576 := by omega
    go_wp2_with (first
      | (go_at_call 8; refine (print_any _ Z z zc f _ HZ.out hz2 HE.out).mono ?_; rintro e w3 ⟨rfl, hb3⟩; have HB3 := Lib.hid (HB2.out.trans (hb3.mono hs22)); have HZ3 := Lib.hid (HZ.out.below hb3 (Nat.le_refl _)); have HY3 := Lib.hid (HY.out.below hb3 (Nat.le_refl _)); have HT3 := Lib.hid (HTW.out.below hb3); have hs3 := HB3.out.size; clear hb3)
      | (go_at_call 9; refine (rprint_any _ Z z zc f _ HZ3.out hz2 HE.out).mono ?_; rintro e w4 ⟨rfl, hb4⟩; have HB4 := Lib.hid (HB3.out.trans (hb4.mono hs3)); have HY4 := Lib.hid (HY3.out.below hb4 (Nat.le_refl _)); have HT4 := Lib.hid (HT3.out.below hb4); have hs4 := HB4.out.size; clear hb4)
      | (go_at_call 10; refine (show_any _ A' y yc a _ HY4.out hy2 HA.out HT4.out).mono ?_; rintro e w5 ⟨rfl, hb5⟩; have HB5 := Lib.hid (HB4.out.trans (hb5.mono hs4)); have HY5 := Lib.hid (HY4.out.below hb5 (Nat.le_refl _)); have HT5 := Lib.hid (HT4.out.below hb5); have hs5 := HB5.out.size; clear hb5)
      | (go_at_call 11; refine (rshow_any _ A' y yc a _ HY5.out hy2 HA.out HT5.out).mono ?_; rintro e w6 ⟨rfl, hb6⟩; have HB6 := Lib.hid (HB5.out.trans (hb6.mono hs5)); clear hb6)
      | fail)
    go_ret
    exact ⟨rfl, HB6.out⟩
end Go.Proofs.YtojenpjafgfpaaaDoor
