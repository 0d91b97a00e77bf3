/- rle.kinds: all kinds of runs; what each of them answers. -/
import Derived.Test.YticfmphbhdkhoaaGreatDoorPk14
namespace Go.Proofs.YticfmphbhdkhoaaGreatDoor
open Go Go.RowKit

/-- A kind of runs as a word: the function that lays it down. -/
def kindRep (F : Nat → Prop) (w : World) (cs : List Value) : Nat → Prop
  | 0 => cs = [.func (.func 96) #[] #[]]
  | 1 => cs = [.func (.func 97) #[] #[]]
  | 2 => cs = [.func (.func 98) #[] #[]]
  | c + 3 => ∃ b, cs = [.func (.func 99) #[] #[.pointer (some ⟨b, 0, none⟩)]] ∧ F b ∧ b < w.heap.size ∧ w.cell? ⟨b, 0, none⟩ = some (.int .i64 (c : Int))
theorem kindRep_one {F : Nat → Prop} {w : World} {cs : List Value} {j : Nat} (h : kindRep F w cs j) : ∃ u : Value, cs = [u] ∧ u.oneCell' = true := by
  match j, h with
  | 0, h => exact ⟨_, h, rfl⟩
  | 1, h => exact ⟨_, h, rfl⟩
  | 2, h => exact ⟨_, h, rfl⟩
  | _ + 3, ⟨_, h, _⟩ => exact ⟨_, h, rfl⟩
def tKind : Ty Nat where
  size := 1
  rep F w cs j := kindRep F w cs j
  len h := by obtain ⟨_, rfl, _⟩ := kindRep_one h; rfl
  one h := by obtain ⟨_, rfl, h1⟩ := kindRep_one h; intro u hu; simp at hu; subst hu; exact h1
  keep {F w w' cs x} h hs hk := by
    match x, h with
    | 0, h => exact h
    | 1, h => exact h
    | 2, h => exact h
    | _ + 3, ⟨b, h1, h2, h3, h4⟩ => exact ⟨b, h1, h2, by omega, (World.cell?_of_block (a := ⟨b, 0, none⟩) (hk b h2 h3)).trans h4⟩
  weaken {F F' w cs x} h hF := by
    match x, h with
    | 0, h => exact h
    | 1, h => exact h
    | 2, h => exact h
    | _ + 3, ⟨b, h1, h2, h3, h4⟩ => exact ⟨b, h1, hF b h2 h3, h3, h4⟩
theorem infoKind : (Tryz.prog.info? 108).map (fun i => (i.zero, i.size, i.bytes)) = some (some (.agg #[.nilFunc]), 1, 8) := by kernel_rfl
theorem elemKind : ElemOf Tryz.prog 105 108 1 := ElemOf.mk' (by kernel_rfl) infoKind rfl (by decide) (by decide)
set_option maxRecDepth 100000 in
set_option maxHeartbeats 1000000 in
theorem kinds_any (w : World) : Calls Tryz.prog 76 #[] w fun e w' => ∃ A c, e = .returned (.slice A 34 c) ∧ Sl tKind (fun _ => True) w' A 34 c (List.range 34) ∧ Below w.heap.size w w' := by
  obtain ⟨w1, hw1⟩ : ∃ w1, w1 = w.alloc (.cells #[.func (.func 96) #[] #[], .func (.func 97) #[] #[], .func (.func 98) #[] #[]] 108) := ⟨_, rfl⟩
  have ho : Own tKind 108 w1 w.heap.size (some ⟨w.heap.size, 0, none⟩) 3 3 (List.range 3) := by
    refine ⟨fun _ => False, ⟨[[.func (.func 96) #[] #[]], [.func (.func 97) #[] #[]], [.func (.func 98) #[] #[]]], ?_, ?_⟩, fun _ _ _ h => h, rfl⟩
    · rw [hw1]
      exact World.ownsRow_lit w #[.func (.func 96) #[] #[], .func (.func 97) #[] #[], .func (.func 98) #[] #[]] 3 (Nat.le_refl _) (by simp [maxLen]) rfl
    · exact Reps.mk3 (T := tKind) (F := fun _ => False) (w := w1) (x1 := 0) (x2 := 1) (x3 := 2) rfl rfl rfl
  have HO := Lib.hid ho
  have HB := Lib.hid (show Below w.heap.size w w1 by rw [hw1]; exact (Below.refl _ _).alloc (Nat.le_refl _) _)
  have HW1 := Lib.hid hw1
  clear ho hw1
  go_enter Tryz.func76, Tryz.ntmps76
  go_wp2_with fail
  rw [← HW1.out]
  go_loopw [1, 7] (fun lv iv wr => ∃ (i m : Nat) (A2 : Option Addr) (c2 : Nat), i ≤ 31 ∧ m = 3 + i ∧ iv = .int .i64 (i : Int) ∧ lv = .slice A2 m c2 ∧ Own tKind 108 wr w.heap.size A2 m c2 (List.range m) ∧ Below w.heap.size w wr)
    (fun _ iv _ => 31 - (intOf iv).toNat)
  case atStart => exact ⟨0, 3, _, 3, by omega, rfl, rfl, rfl, HO.out, HB.out⟩
  case round =>
    obtain ⟨i, m, A2, c2, hi, hm, rfl, rfl, ⟨F2, ho2⟩, hb2⟩ := hrel
    have HO2 := Lib.hid ho2; have HB2 := Lib.hid hb2; have HM := Lib.hid hm
    have hm34 : m ≤ 34 := by omega
    clear ho2 hb2 hm
    by_cases hlt : i < 31
    · have i1 : (i : Int) < 31 := by omega
      obtain ⟨p, hp⟩ : ∃ p, p = wr.heap.size := ⟨_, rfl⟩
      obtain ⟨w4, hw4⟩ : ∃ w4, w4 = wr.alloc (.cells #[.int .i64 (i : Int)] 3) := ⟨_, rfl⟩
      have hb4 : Below wr.heap.size wr w4 := by rw [hw4]; exact (Below.refl _ _).alloc (Nat.le_refl _) _
      have HO4 := Lib.hid (HO2.out.keepB hb4)
      have HB4 := Lib.hid (HB2.out.trans (hb4.mono HB2.out.size))
      have HC4 := Lib.hid (show w4.cell? ⟨p, 0, none⟩ = some (.int .i64 (i : Int)) by rw [hw4, hp, Lib.cell_of_heap (heap_alloc_new _ _)]; rfl)
      have HP4 := Lib.hid (show p < w4.heap.size by rw [hw4, hp, World.size_alloc]; omega)
      have hG : ∀ b, A2 = some ⟨b, 0, none⟩ → w.heap.size ≤ b → b < w4.heap.size → ¬ b = p := fun b e _ _ h => by
        have := (ownF_at HO2.out (b := b) (by rw [e]; rfl)).2.2
        omega
      have HGG := Lib.hid hG
      have HW4 := Lib.hid hw4; have HP := Lib.hid hp
      clear hw4 hb4 hG hp
      go_upto_region 5 with fail
      rw [← HW4.out, ← HP.out]
      go_wp2_with (first
        | (at_builtin; refine apl1 (T := tKind) elemKind w4 w rfl (.tmp 10) (.tmp 13) rfl w.heap.size A2 m c2 _ rfl F2 (fun b => b = p) HO4.out HB4.out (Nat.le_refl _) _ rfl [.func (.func 99) #[] #[.pointer (some ⟨p, 0, none⟩)]] (i + 3) ⟨p, rfl, rfl, HP4.out, HC4.out⟩ 108 rfl HGG.out (by omega) ?_; intro A5 c5 w5 h5; have HA5 := Lib.hid h5.own; have HB5 := Lib.hid h5.below; clear h5)
        | fail)
      go_roundw
      case rel => exact ⟨i + 1, m + 1, A5, c5, by omega, by have := HM.out; omega, by go_num, rfl, ⟨_, by rw [List.range_succ, show List.range m ++ [m] = List.range m ++ [i + 3] by rw [HM.out, Nat.add_comm]]; exact HA5.out⟩, HB5.out⟩
      case measure => simp [intOf]; omega
    · obtain rfl : i = 31 := by omega
      have hm34 : m = 34 := by have := HM.out; omega
      subst hm34
      go_wp2_with fail
      go_ret
      exact ⟨A2, c2, rfl, HO2.out.sl.any, HB2.out⟩
theorem wN_ok (c : Nat) (h : c ≤ 30) : wOf (c : Int) = ((wN c : Nat) : Int) ∧ wN c ≤ 63 ∧ wCode ((wN c : Nat) : Int) = ((codeN (wN c) : Nat) : Int) := by
  have h1 := wOf_range (c : Int)
  have e : wOf (c : Int) = ((wN c : Nat) : Int) := by unfold wN; omega
  have h2 := wOf_code (c := (c : Int)) (by omega) (by omega)
  have h3 := wOf_mono (c := (c : Int)) (d := 31) (by omega) (by omega) (by omega)
  have h4 := wOf_range 31
  rw [e] at h2 h3
  refine ⟨e, by omega, ?_⟩
  unfold codeN
  rw [h2]; omega
set_option maxRecDepth 100000 in
theorem kinds1_any (F : Nat → Prop) (A : Option Addr) (n c : Nat) (l : List Int) (w : World) (h : Sl tI64 F w A n c l) (hn1 : 1 ≤ n) (hn : n ≤ 512) (sg : Bool) (hl : NumOk sg l) (d p : Nat) (hd : d ≤ 30) (hp : w.cell? ⟨p, 0, none⟩ = some (.int .i64 (d : Int))) :
    Calls Tryz.prog 99 #[.slice A n c, .bool sg, .pointer (some ⟨p, 0, none⟩)] w (RunPost (patB (wN d) l) w) := by
  obtain ⟨e1, e2, e3⟩ := wN_ok d hd
  have HE1 := Lib.hid e1; have HE2 := Lib.hid e2; have HE3 := Lib.hid e3; have HH := Lib.hid h; have HK := Lib.hid hl
  obtain ⟨o, ho⟩ : ∃ o, o = patB (wN d) l := ⟨_, rfl⟩
  have HO := Lib.hid ho
  clear e1 e2 e3 h hl
  rw [← ho]
  clear ho
  go_enter Tryz.func99, Tryz.ntmps99
  cases o with
  | none =>
    go_wp2_with (first
      | (go_at_call 101; refine (wof_any (d : Int) (by omega) (by omega) _).mono ?_; rintro e w1 ⟨rfl, hb1⟩; rw [HE1.out]; have HB1 := Lib.hid hb1; clear hb1)
      | (go_at_call 100; refine (pput_any F A n c l _ (HH.out.below HB1.out (Nat.le_refl _)) hn1 hn sg HK.out (wN d) HE2.out HE3.out).mono ?_; rw [← HO.out]; rintro e w2 ⟨hb2, rfl⟩; have HB2 := Lib.hid hb2; clear hb2)
      | fail)
    go_ret2
    exact ⟨HB1.out.trans (HB2.out.mono HB1.out.size), rfl⟩
  | some b =>
    go_wp2_with (first
      | (go_at_call 101; refine (wof_any (d : Int) (by omega) (by omega) _).mono ?_; rintro e w1 ⟨rfl, hb1⟩; rw [HE1.out]; have HB1 := Lib.hid hb1; clear hb1)
      | (go_at_call 100; refine (pput_any F A n c l _ (HH.out.below HB1.out (Nat.le_refl _)) hn1 hn sg HK.out (wN d) HE2.out HE3.out).mono ?_; rw [← HO.out]; rintro e w2 ⟨hb2, A2, n2, c2, rfl, ho2⟩; have HB2 := Lib.hid hb2; have HO2 := Lib.hid ho2; clear hb2 ho2)
      | fail)
    go_ret2
    exact ⟨HB1.out.trans (HB2.out.mono HB1.out.size), A2, n2, c2, rfl, HO2.out.down HB1.out.size⟩
end Go.Proofs.YticfmphbhdkhoaaGreatDoor
