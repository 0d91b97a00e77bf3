/- rle.kinds: all kinds of runs; what each of them answers. rle.Run: the shortest run; rle.Put: numbers as runs. -/
import Derived.Test.YtpmglcachffojaaGreatDoorPk12
import Derived.Laws.EntriesVeiled
namespace Go.Proofs.YtpmglcachffojaaGreatDoor
open Go Go.RowKit

/-- A kind of runs as a word: the function that lays it down. -/
def kindRep (F : Nat → Prop) (w : World) (cs : List Value) : Nat → Prop
  | 0 => cs = [.func (.func 245) #[] #[]]
  | 1 => cs = [.func (.func 246) #[] #[]]
  | 2 => cs = [.func (.func 247) #[] #[]]
  | c + 3 => ∃ b, cs = [.func (.func 248) #[] #[.pointer (some ⟨b, 0, none⟩)]] ∧ F b ∧ b < w.heap.size ∧ w.cell? ⟨b, 0, none⟩ = some (.int .i64 (c : Int))
theorem kindRep_one {F : Nat → Prop} {w : World} {cs : List Value} {j : Nat} (h : kindRep F w cs j) : ∃ u : Value, cs = [u] ∧ u.oneCell' = true := by
  match j, h with
  | 0, h => exact ⟨_, h, rfl⟩
  | 1, h => exact ⟨_, h, rfl⟩
  | 2, h => exact ⟨_, h, rfl⟩
  | _ + 3, ⟨_, h, _⟩ => exact ⟨_, h, rfl⟩
def tKind : Ty Nat where
  size := 1
  rep F w cs j := kindRep F w cs j
  len h := by obtain ⟨_, rfl, _⟩ := kindRep_one h; rfl
  one h := by obtain ⟨_, rfl, h1⟩ := kindRep_one h; intro u hu; simp at hu; subst hu; exact h1
  keep {F w w' cs x} h hs hk := by
    match x, h with
    | 0, h => exact h
    | 1, h => exact h
    | 2, h => exact h
    | _ + 3, ⟨b, h1, h2, h3, h4⟩ => exact ⟨b, h1, h2, by omega, (World.cell?_of_block (a := ⟨b, 0, none⟩) (hk b h2 h3)).trans h4⟩
  weaken {F F' w cs x} h hF := by
    match x, h with
    | 0, h => exact h
    | 1, h => exact h
    | 2, h => exact h
    | _ + 3, ⟨b, h1, h2, h3, h4⟩ => exact ⟨b, h1, hF b h2 h3, h3, h4⟩
theorem infoKind : (Tryz.prog.info? 260).map (fun i => (i.zero, i.size, i.bytes)) = some (some (.agg #[.nilFunc]), 1, 8) := by kernel_rfl
theorem elemKind : ElemOf Tryz.prog 257 260 1 := ElemOf.mk' (by kernel_rfl) infoKind rfl (by decide) (by decide)
set_option maxRecDepth 100000 in
set_option maxHeartbeats 1000000 in
theorem kinds_any (w : World) : Calls Tryz.prog 206 #[] w fun e w' => ∃ A c, e = .returned (.slice A 34 c) ∧ Sl tKind (fun _ => True) w' A 34 c (List.range 34) ∧ Below w.heap.size w w' := by
  obtain ⟨w1, hw1⟩ : ∃ w1, w1 = w.alloc (.cells #[.func (.func 245) #[] #[], .func (.func 246) #[] #[], .func (.func 247) #[] #[]] 260) := ⟨_, rfl⟩
  have ho : Own tKind 260 w1 w.heap.size (some ⟨w.heap.size, 0, none⟩) 3 3 (List.range 3) := by
    refine ⟨fun _ => False, ⟨[[.func (.func 245) #[] #[]], [.func (.func 246) #[] #[]], [.func (.func 247) #[] #[]]], ?_, ?_⟩, fun _ _ _ h => h, rfl⟩
    · rw [hw1]
      exact World.ownsRow_lit w #[.func (.func 245) #[] #[], .func (.func 246) #[] #[], .func (.func 247) #[] #[]] 3 (Nat.le_refl _) (by simp [maxLen]) rfl
    · exact Reps.mk3 (T := tKind) (F := fun _ => False) (w := w1) (x1 := 0) (x2 := 1) (x3 := 2) rfl rfl rfl
  have HO := Lib.hid ho
  have HB := Lib.hid (show Below w.heap.size w w1 by rw [hw1]; exact (Below.refl _ _).alloc (Nat.le_refl _) _)
  have HW1 := Lib.hid hw1
  clear ho hw1
  go_enter Tryz.func206, Tryz.ntmps206
  go_wp2_with fail
  rw [← HW1.out]
  go_loopw [1, 7] (fun lv iv wr => ∃ (i m : Nat) (A2 : Option Addr) (c2 : Nat), i ≤ 31 ∧ m = 3 + i ∧ iv = .int .i64 (i : Int) ∧ lv = .slice A2 m c2 ∧ Own tKind 260 wr w.heap.size A2 m c2 (List.range m) ∧ Below w.heap.size w wr)
    (fun _ iv _ => 31 - (intOf iv).toNat)
  case atStart => exact ⟨0, 3, _, 3, by omega, rfl, rfl, rfl, HO.out, HB.out⟩
  case round =>
    obtain ⟨i, m, A2, c2, hi, hm, rfl, rfl, ⟨F2, ho2⟩, hb2⟩ := hrel
    have HO2 := Lib.hid ho2; have HB2 := Lib.hid hb2; have HM := Lib.hid hm
    have hm34 : m ≤ 34 := by omega
    clear ho2 hb2 hm
    by_cases hlt : i < 31
    · have i1 : (i : Int) < 31 := by omega
      obtain ⟨p, hp⟩ : ∃ p, p = wr.heap.size := ⟨_, rfl⟩
      obtain ⟨w4, hw4⟩ : ∃ w4, w4 = wr.alloc (.cells #[.int .i64 (i : Int)] 3) := ⟨_, rfl⟩
      have hb4 : Below wr.heap.size wr w4 := by rw [hw4]; exact (Below.refl _ _).alloc (Nat.le_refl _) _
      have HO4 := Lib.hid (HO2.out.keepB hb4)
      have HB4 := Lib.hid (HB2.out.trans (hb4.mono HB2.out.size))
      have HC4 := Lib.hid (show w4.cell? ⟨p, 0, none⟩ = some (.int .i64 (i : Int)) by rw [hw4, hp, Lib.cell_of_heap (heap_alloc_new _ _)]; rfl)
      have HP4 := Lib.hid (show p < w4.heap.size by rw [hw4, hp, World.size_alloc]; omega)
      have hG : ∀ b, A2 = some ⟨b, 0, none⟩ → w.heap.size ≤ b → b < w4.heap.size → ¬ b = p := fun b e _ _ h => by
        have := (ownF_at HO2.out (b := b) (by rw [e]; rfl)).2.2
        omega
      have HGG := Lib.hid hG
      have HW4 := Lib.hid hw4; have HP := Lib.hid hp
      clear hw4 hb4 hG hp
      go_upto_region 5 with fail
      rw [← HW4.out, ← HP.out]
      go_wp2_with (first
        | (at_builtin; refine apl1 (T := tKind) elemKind w4 w rfl (.tmp 10) (.tmp 13) rfl w.heap.size A2 m c2 _ rfl F2 (fun b => b = p) HO4.out HB4.out (Nat.le_refl _) _ rfl [.func (.func 248) #[] #[.pointer (some ⟨p, 0, none⟩)]] (i + 3) ⟨p, rfl, rfl, HP4.out, HC4.out⟩ 260 rfl HGG.out (by omega) ?_; intro A5 c5 w5 h5; have HA5 := Lib.hid h5.own; have HB5 := Lib.hid h5.below; clear h5)
        | fail)
      go_roundw
      case rel => exact ⟨i + 1, m + 1, A5, c5, by omega, by have := HM.out; omega, by go_num, rfl, ⟨_, by rw [List.range_succ, show List.range m ++ [m] = List.range m ++ [i + 3] by rw [HM.out, Nat.add_comm]]; exact HA5.out⟩, HB5.out⟩
      case measure => simp [intOf]; omega
    · obtain rfl : i = 31 := by omega
      have hm34 : m = 34 := by have := HM.out; omega
      subst hm34
      go_wp2_with fail
      go_ret
      exact ⟨A2, c2, rfl, HO2.out.sl.any, HB2.out⟩
theorem wN_ok (c : Nat) (h : c ≤ 30) : wOf (c : Int) = ((wN c : Nat) : Int) ∧ wN c ≤ 63 ∧ wCode ((wN c : Nat) : Int) = ((codeN (wN c) : Nat) : Int) := by
  have h1 := wOf_range (c : Int)
  have e : wOf (c : Int) = ((wN c : Nat) : Int) := by unfold wN; omega
  have h2 := wOf_code (c := (c : Int)) (by omega) (by omega)
  have h3 := wOf_mono (c := (c : Int)) (d := 31) (by omega) (by omega) (by omega)
  have h4 := wOf_range 31
  rw [e] at h2 h3
  refine ⟨e, by omega, ?_⟩
  unfold codeN
  rw [h2]; omega
set_option maxRecDepth 100000 in
theorem kinds1_any (F : Nat → Prop) (A : Option Addr) (n c : Nat) (l : List Int) (w : World) (h : Sl tI64 F w A n c l) (hn1 : 1 ≤ n) (hn : n ≤ 512) (sg : Bool) (hl : NumOk sg l) (d p : Nat) (hd : d ≤ 30) (hp : w.cell? ⟨p, 0, none⟩ = some (.int .i64 (d : Int))) :
    Calls Tryz.prog 248 #[.slice A n c, .bool sg, .pointer (some ⟨p, 0, none⟩)] w (RunPost (patB (wN d) l) w) := by
  obtain ⟨e1, e2, e3⟩ := wN_ok d hd
  have HE1 := Lib.hid e1; have HE2 := Lib.hid e2; have HE3 := Lib.hid e3; have HH := Lib.hid h; have HK := Lib.hid hl
  obtain ⟨o, ho⟩ : ∃ o, o = patB (wN d) l := ⟨_, rfl⟩
  have HO := Lib.hid ho
  clear e1 e2 e3 h hl
  rw [← ho]
  clear ho
  go_enter Tryz.func248, Tryz.ntmps248
  cases o with
  | none =>
    go_wp2_with (first
      | (go_at_call 250; refine (wof_any (d : Int) (by omega) (by omega) _).mono ?_; rintro e w1 ⟨rfl, hb1⟩; rw [HE1.out]; have HB1 := Lib.hid hb1; clear hb1)
      | (go_at_call 249; refine (pput_any F A n c l _ (HH.out.below HB1.out (Nat.le_refl _)) hn1 hn sg HK.out (wN d) HE2.out HE3.out).mono ?_; rw [← HO.out]; rintro e w2 ⟨hb2, rfl⟩; have HB2 := Lib.hid hb2; clear hb2)
      | fail)
    go_ret2
    exact ⟨HB1.out.trans (HB2.out.mono HB1.out.size), rfl⟩
  | some b =>
    go_wp2_with (first
      | (go_at_call 250; refine (wof_any (d : Int) (by omega) (by omega) _).mono ?_; rintro e w1 ⟨rfl, hb1⟩; rw [HE1.out]; have HB1 := Lib.hid hb1; clear hb1)
      | (go_at_call 249; refine (pput_any F A n c l _ (HH.out.below HB1.out (Nat.le_refl _)) hn1 hn sg HK.out (wN d) HE2.out HE3.out).mono ?_; rw [← HO.out]; rintro e w2 ⟨hb2, A2, n2, c2, rfl, ho2⟩; have HB2 := Lib.hid hb2; have HO2 := Lib.hid ho2; clear hb2 ho2)
      | fail)
    go_ret2
    exact ⟨HB1.out.trans (HB2.out.mono HB1.out.size), A2, n2, c2, rfl, HO2.out.down HB1.out.size⟩
end Go.Proofs.YtpmglcachffojaaGreatDoor
namespace Go.Proofs.YtpmglcachffojaaGreatDoor
open Go Go.RowKit

/-- What the kind j answers. -/
def kindB (sg : Bool) (l : List Int) : Nat → Option (List UInt8)
  | 0 => timesB sg l
  | 1 => some (dirB sg l)
  | 2 => delB sg l
  | c + 3 => patB (wN c) l
def outK (sg : Bool) (l : List Int) (j : Nat) : List UInt8 := (List.range j).foldl (fun a j => shorter a (kindB sg l j)) []
theorem outK_succ (sg : Bool) (l : List Int) (j : Nat) : outK sg l (j + 1) = shorter (outK sg l j) (kindB sg l j) := by unfold outK; rw [List.range_succ, List.foldl_append]; rfl
theorem outK_run (sg : Bool) (l : List Int) (c : Nat) : outK sg l (c + 3) = runTo sg l c := by
  induction c with
  | zero => rfl
  | succ c ih => rw [show c + 1 + 3 = (c + 3) + 1 by omega, outK_succ, ih, runTo_succ]; rfl
theorem kindRep_cases {F : Nat → Prop} {w : World} {u : Value} {j : Nat} (h : kindRep F w [u] j) : ∃ f caps, u = .func f #[] caps ∧
    ((f = .func 245 ∧ caps = #[] ∧ j = 0) ∨ (f = .func 246 ∧ caps = #[] ∧ j = 1) ∨ (f = .func 247 ∧ caps = #[] ∧ j = 2) ∨
      ∃ d p, f = .func 248 ∧ caps = #[.pointer (some ⟨p, 0, none⟩)] ∧ j = d + 3 ∧ w.cell? ⟨p, 0, none⟩ = some (.int .i64 (d : Int))) := by
  match j, h with
  | 0, h => exact ⟨_, _, by injection h, .inl ⟨rfl, rfl, rfl⟩⟩
  | 1, h => exact ⟨_, _, by injection h, .inr (.inl ⟨rfl, rfl, rfl⟩)⟩
  | 2, h => exact ⟨_, _, by injection h, .inr (.inr (.inl ⟨rfl, rfl, rfl⟩))⟩
  | d + 3, ⟨p, h1, _, _, h4⟩ => exact ⟨_, _, by injection h1, .inr (.inr (.inr ⟨d, p, rfl, rfl, rfl, h4⟩))⟩
/-- What a kind has answered: into two variables. -/
def KPost (o : Option (List UInt8)) (w0 : World) (bv ev : Value) (w : World) : Prop := Below w0.heap.size w0 w ∧ match o with
  | none => bv = .slice none 0 0 ∧ ev = .int .i64 1
  | some b => ∃ A n c, bv = .slice A n c ∧ ev = .int .i64 0 ∧ OwnB w w0.heap.size A n c b
/-- The shortest so far. -/
def OutP (w0 : World) (ov : Value) (p : List UInt8) (w : World) : Prop := (p = [] ∧ ov = .slice none 0 0) ∨ (∃ g m c, p ≠ [] ∧ ov = .slice (some ⟨g, 0, none⟩) m c ∧ OwnB w w0.heap.size (some ⟨g, 0, none⟩) m c p)
theorem OutP.keep {w0 w w' : World} {ov : Value} {p : List UInt8} (h : OutP w0 ov p w) (hb : Below w.heap.size w w') : OutP w0 ov p w' := by
  rcases h with h | ⟨g, m, c, h1, h2, h3⟩
  · exact .inl h
  · exact .inr ⟨g, m, c, h1, h2, h3.keepB hb⟩
theorem kindB_ne (sg : Bool) (l : List Int) : ∀ j x, kindB sg l j = some x → x ≠ []
  | 0, x, h => timesB_ne sg l x h
  | 1, x, h => by cases h; exact dirB_ne sg l
  | 2, x, h => delB_ne sg l x h
  | _ + 3, x, h => patB_ne _ l x h
set_option maxRecDepth 100000 in
set_option maxHeartbeats 2000000 in
theorem run_any (F : Nat → Prop) (A : Option Addr) (n c : Nat) (l : List Int) (w : World) (h : Sl tI64 F w A n c l) (hn1 : 1 ≤ n) (hn : n ≤ 512) (sg : Bool) (hl : NumOk sg l) :
    Calls Tryz.prog 162 #[.slice A n c, .bool sg] w (RunPost (some (runB sg l)) w) := by
  have hlen := h.len
  have hne : l ≠ [] := by intro e; rw [e] at hlen; simp at hlen; omega
  have hml := hl.least hne
  have HMIN := Lib.hid (min_any F A n c l w h hne)
  have HH := Lib.hid h; have HNE := Lib.hid hne; have HK := Lib.hid hl
  obtain ⟨mn, hmn⟩ : ∃ mn, mn = leastI l := ⟨_, rfl⟩
  rw [← hmn] at hml HMIN
  obtain ⟨m0, m1, m2⟩ := hml
  have m3 : sg = false → ¬ mn < 0 := fun e => by rcases m2 with h | h; rw [e] at h; cases h; exact Int.not_lt.2 h
  have HM3 := Lib.hid m3
  have qT := eqlNil
  have hn5 : ¬ (n : Int) > 512 := by omega
  have hn6 : ¬ (n : Int) < 1 := by omega
  clear h hl hlen hne hmn m2 m3
  go_enter Tryz.func162, Tryz.ntmps162
  go_upto_region 1 with fail
  go_cut [27] from 11 to 27 (fun v wx => v = .bool false ∧ wx = w)
  case first =>
    cases sg with
    | true =>
      go_wp2_with fail
      go_meet
      exact ⟨rfl, rfl⟩
    | false =>
      have m3 := HM3.out rfl
      go_wp2_with (first
        | (go_at_call 205; refine HMIN.out.mono ?_; rintro e w1 ⟨rfl, rfl⟩)
        | fail)
      go_meet
      exact ⟨by congr 1; simp; omega, rfl⟩
  case rest =>
    obtain ⟨rfl, hwc⟩ := hcut
    rw [hwc]
    clear hwc HMIN HM3 m0 m1
    refine ‹∀ (a : Act) (w_1 : World), Code.wp _ _ _ a w_1 → _› _ _ ?_
    go_wp2_with (first
      | (go_at_call 206; refine (kinds_any _).mono ?_; rintro e w1 ⟨A1, c1, rfl, hs1, hb1⟩; have HS1 := Lib.hid hs1; have HB1 := Lib.hid hb1; clear hs1 hb1)
      | fail)
    go_loopw [6, 30] (fun ov iv wr => ∃ (j : Nat), j ≤ 34 ∧ iv = .int .i64 (j : Int) ∧ OutP w ov (outK sg l j) wr ∧ Below w1.heap.size w1 wr)
      (fun _ iv _ => 34 - (intOf iv).toNat)
    case atStart => exact ⟨0, by omega, rfl, .inl ⟨rfl, rfl⟩, Below.refl _ _⟩
    case round =>
      rename_i ov _ _
      obtain ⟨j, hj, rfl, ho, hb⟩ := hrel
      have HO := Lib.hid ho; have HB := Lib.hid hb
      have HBW := Lib.hid (HB1.out.trans (hb.mono HB1.out.size))
      clear ho hb
      by_cases hlt : j < 34
      · have hj1 : (j : Int) < 34 := by omega
        have hj0 : (0 : Int) ≤ (j : Int) := by omega
        have hsl := HS1.out.below HB.out (Nat.le_refl _)
        obtain ⟨b, o, u, hA, _, hbl, hr, hc⟩ := hsl.at1 (by rw [List.length_range]; exact hlt) rfl
        rw [List.getElem_range] at hr
        obtain ⟨f, caps, rfl, hu⟩ := kindRep_cases hr
        have HU := Lib.hid hu
        clear hr hsl hu
        subst hA
        obtain ⟨w5, hw5⟩ : ∃ w5, w5 = wr.alloc (.cells #[.func f #[] caps] 260) := ⟨_, rfl⟩
        obtain ⟨k8, hk8⟩ : ∃ k8, k8 = wr.heap.size := ⟨_, rfl⟩
        have hb5 : Below wr.heap.size wr w5 := by rw [hw5]; exact (Below.refl _ _).alloc (Nat.le_refl _) _
        have hd0 : w5.cell? ⟨k8, 0, none⟩ = some (.func f #[] caps) := by rw [hw5, hk8, Lib.cell_of_heap (heap_alloc_new _ _)]; rfl
        have HB5 := Lib.hid hb5; have HW5 := Lib.hid hw5; have HK8 := Lib.hid hk8
        have HSL5 := Lib.hid (HH.out.below (HBW.out.trans (hb5.mono HBW.out.size)) (Nat.le_refl _))
        clear hw5 hk8 hb5
        go_upto_region 7 with fail
        rw [← HW5.out, ← HK8.out]
        obtain ⟨kb, hkb⟩ : ∃ kb, kb = kindB sg l j := ⟨_, rfl⟩
        have HKB := Lib.hid hkb
        clear hkb
        go_cut [9, 10] from 34 to 41 (fun bv ev wx => ∃ wd, wd = wx ∧ KPost kb w5 bv ev wd)
        case first =>
          have HHK := HKB.out
          rcases HU.out with ⟨rfl, rfl, hj⟩ | ⟨rfl, rfl, hj⟩ | ⟨rfl, rfl, hj⟩ | ⟨d, p, rfl, rfl, hj, hp⟩
          · have HC := Lib.hid (times_any F A n c l w5 HSL5.out HNE.out hn sg HK.out)
            rw [show timesB sg l = kb by rw [HHK, hj]; rfl] at HC
            clear hj HHK
            cases kb with
            | none =>
              go_wp2_with (first | (go_at_call 245; refine HC.out.mono ?_; rintro e w6 ⟨hb6, rfl⟩; have HB6 := Lib.hid hb6; clear hb6) | fail)
              go_meet
              exact ⟨_, rfl, HB6.out, rfl, rfl⟩
            | some kb =>
              go_wp2_with (first | (go_at_call 245; refine HC.out.mono ?_; rintro e w6 ⟨hb6, A6, n6, c6, rfl, ho6⟩; have HB6 := Lib.hid hb6; have HO6 := Lib.hid ho6; clear hb6 ho6) | fail)
              go_meet
              exact ⟨_, rfl, HB6.out, A6, n6, c6, rfl, rfl, HO6.out⟩
          · have HC := Lib.hid (dput_any F A n c l w5 HSL5.out hn1 hn sg HK.out)
            rw [show some (dirB sg l) = kb by rw [HHK, hj]; rfl] at HC
            clear hj HHK
            cases kb with
            | none =>
              go_wp2_with (first | (go_at_call 246; refine HC.out.mono ?_; rintro e w6 ⟨hb6, rfl⟩; have HB6 := Lib.hid hb6; clear hb6) | fail)
              go_meet
              exact ⟨_, rfl, HB6.out, rfl, rfl⟩
            | some kb =>
              go_wp2_with (first | (go_at_call 246; refine HC.out.mono ?_; rintro e w6 ⟨hb6, A6, n6, c6, rfl, ho6⟩; have HB6 := Lib.hid hb6; have HO6 := Lib.hid ho6; clear hb6 ho6) | fail)
              go_meet
              exact ⟨_, rfl, HB6.out, A6, n6, c6, rfl, rfl, HO6.out⟩
          · have HC := Lib.hid (delput_any F A n c l w5 HSL5.out hn1 hn sg HK.out)
            rw [show delB sg l = kb by rw [HHK, hj]; rfl] at HC
            clear hj HHK
            cases kb with
            | none =>
              go_wp2_with (first | (go_at_call 247; refine HC.out.mono ?_; rintro e w6 ⟨hb6, rfl⟩; have HB6 := Lib.hid hb6; clear hb6) | fail)
              go_meet
              exact ⟨_, rfl, HB6.out, rfl, rfl⟩
            | some kb =>
              go_wp2_with (first | (go_at_call 247; refine HC.out.mono ?_; rintro e w6 ⟨hb6, A6, n6, c6, rfl, ho6⟩; have HB6 := Lib.hid hb6; have HO6 := Lib.hid ho6; clear hb6 ho6) | fail)
              go_meet
              exact ⟨_, rfl, HB6.out, A6, n6, c6, rfl, rfl, HO6.out⟩
          · have HC := Lib.hid (kinds1_any F A n c l w5 HSL5.out hn1 hn sg HK.out d p (by omega) (kcell HB5.out hp))
            rw [show patB (wN d) l = kb by rw [HHK, hj]; rfl] at HC
            clear hj HHK
            cases kb with
            | none =>
              go_wp2_with (first | (go_at_call 248; refine HC.out.mono ?_; rintro e w6 ⟨hb6, rfl⟩; have HB6 := Lib.hid hb6; clear hb6) | fail)
              go_meet
              exact ⟨_, rfl, HB6.out, rfl, rfl⟩
            | some kb =>
              go_wp2_with (first | (go_at_call 248; refine HC.out.mono ?_; rintro e w6 ⟨hb6, A6, n6, c6, rfl, ho6⟩; have HB6 := Lib.hid hb6; have HO6 := Lib.hid ho6; clear hb6 ho6) | fail)
              go_meet
              exact ⟨_, rfl, HB6.out, A6, n6, c6, rfl, rfl, HO6.out⟩
        case rest =>
          rename_i bv ev _ _
          obtain ⟨wx, rfl, hb6, hkp⟩ := hcut
          refine ‹∀ (a : Act) (w_1 : World), Code.wp _ _ _ a w_1 → _› _ _ ?_
          have hbw : Below wr.heap.size wr wx := HB5.out.trans (hb6.mono HB5.out.size)
          have HO6 := Lib.hid (HO.out.keep hbw)
          have HB6 := Lib.hid (HB.out.trans (hbw.mono HB.out.size))
          have HS6 := Lib.hid (HBW.out.size)
          have hs5 : w.heap.size ≤ w5.heap.size := Nat.le_trans HBW.out.size HB5.out.size
          have HS5 := Lib.hid hs5
          have HST := Lib.hid (outK_succ sg l j)
          rw [← HKB.out] at HST
          clear hb6 hbw hd0 HU hs5 HSL5 HB5 HW5 HK8 HO HB HBW HS6
          cases kb with
          | none =>
            obtain ⟨rfl, rfl⟩ := hkp
            go_wp2_with fail
            go_roundw
            case rel => exact ⟨j + 1, by omega, by go_num, by rw [HST.out]; exact HO6.out, HB6.out⟩
            case measure => simp [intOf]; omega
          | some kb =>
            obtain ⟨A6, n6, c6, rfl, rfl, hk6⟩ := hkp
            have hkne := kindB_ne sg l j kb HKB.out.symm
            obtain ⟨g6, rfl⟩ := hk6.own.some1 oneU8 hkne
            have HK6 := Lib.hid (hk6.down HS5.out)
            have HKNE := Lib.hid hkne
            have hl6 := hk6.len
            have HL6 := Lib.hid hl6
            clear hk6 hkne hl6
            rcases HO6.out with ⟨hp0, rfl⟩ | ⟨g7, m7, c7, hp0, rfl, ho7⟩
            · have HFIN := Lib.hid (show outK sg l (j + 1) = kb by rw [HST.out, hp0]; unfold shorter; simp)
              clear hp0
              go_wp2_with fail
              go_roundw
              case rel => exact ⟨j + 1, by omega, by go_num, .inr ⟨g6, n6, c6, by rw [HFIN.out]; exact HKNE.out, rfl, by rw [HFIN.out]; exact HK6.out⟩, HB6.out⟩
              case measure => simp [intOf]; omega
            · have hl7 := ho7.len
              by_cases hsh : n6 < m7
              · have HFIN := Lib.hid (show outK sg l (j + 1) = kb by rw [HST.out]; unfold shorter; simp only; rw [if_pos (.inr (by have := HL6.out; omega))])
                have hsI : (n6 : Int) < (m7 : Int) := by omega
                clear hp0 hl7 ho7 hsh
                go_wp2_with fail
                go_roundw
                case rel => exact ⟨j + 1, by omega, by go_num, .inr ⟨g6, n6, c6, by rw [HFIN.out]; exact HKNE.out, rfl, by rw [HFIN.out]; exact HK6.out⟩, HB6.out⟩
                case measure => simp [intOf]; omega
              · have HFIN := Lib.hid (show outK sg l (j + 1) = outK sg l j by rw [HST.out]; unfold shorter; simp only; rw [if_neg (by rintro (h | h); exact hp0 h; have := HL6.out; omega)])
                have hsI : ¬ (n6 : Int) < (m7 : Int) := by omega
                clear hp0 hl7 ho7 hsh
                go_wp2_with fail
                go_roundw
                case rel => exact ⟨j + 1, by omega, by go_num, by rw [HFIN.out]; exact HO6.out, HB6.out⟩
                case measure => simp [intOf]; omega
      · obtain rfl : j = 34 := by omega
        have hrun : outK sg l 34 = runB sg l := outK_run sg l 31
        rcases HO.out with ⟨hp0, rfl⟩ | ⟨g7, m7, c7, hp0, rfl, ho7⟩
        · exact absurd hp0 (by rw [hrun]; exact (runTo_ne sg l 31).1)
        · have HO7 := Lib.hid ho7
          rw [hrun] at HO7
          clear hp0 ho7 hrun
          go_wp2_with fail
          go_ret2
          exact ⟨HBW.out, _, m7, c7, rfl, HO7.out⟩
end Go.Proofs.YtpmglcachffojaaGreatDoor
