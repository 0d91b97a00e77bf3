/- column.Put at any kind and any values (4096 at most). column.Size, and the law's own 'few'. The law's own example: column.Put at two values of kind 2. The reference 15: two columns that read the same are the same. -/
import Derived.Test.YtpmglcachffojaaGreatDoorPk29
import Derived.Test.YtpmglcachffojaaGreatDoorPk27
import Derived.Laws.IdiomStrings
import Derived.Laws.BytesArg
import Derived.Deep.QuietTactic
import Derived.BigQuiet
namespace Go.Proofs.YtpmglcachffojaaGreatDoor
open Go Go.RowKit

theorem cput_any (k : Int) (F : Nat → Prop) (A : Option Addr) (n c : Nat) (l : List VV) (w : World) (h : Sl tVV F w A n c l) (hn : n ≤ 4096) (hT : Lib.Utf8Tabs 0 1 w) :
    Calls Tryz.prog 12 #[.int .i64 k, .slice A n c] w (ColPost k l w) := by
  by_cases hE : colE k l = 0
  · have hk : 1 ≤ k ∧ k ≤ 7 := by
      by_cases hk : 1 ≤ k ∧ k ≤ 7
      · exact hk
      · unfold colE at hE
        rw [if_neg hk] at hE
        exact absurd hE (by decide)
    have hall : l.all (mayV k) = true := by
      cases hq : l.all (mayV k) with
      | true => rfl
      | false =>
        unfold colE at hE
        rw [if_pos hk, hq] at hE
        exact absurd hE (by decide)
    by_cases h5 : k ≤ 5
    · exact cput_num k F A n c l w h hn hT ⟨hk.1, h5⟩ hall
    · exact cput_txt k F A n c l w h hn hT (by omega) hall
  · exact cput_no k F A n c l w h hn hT hE
end Go.Proofs.YtpmglcachffojaaGreatDoor
namespace Go.Proofs.YtpmglcachffojaaGreatDoor
open Go Go.RowKit

theorem sl_frontK {α : Type} {T : Ty α} {F : Nat → Prop} {w : World} {A : Option Addr} {n c : Nat} {xs : List α} (h : Sl T F w A n c xs) {k : Nat} (hk : k ≤ n) : Sl T F w A k c (xs.take k) := by
  obtain ⟨h1, h2, h3, css, h4, h5⟩ := h
  refine ⟨by simp; omega, by omega, h3, css.take k, ?_, h5.take k⟩
  rw [← List.take_append_drop k css, List.flatten_append] at h4
  exact h4.front
/-- The law's few: at most 300 values. -/
theorem fewv_any (F : Nat → Prop) (A : Option Addr) (n c : Nat) (l : List VV) (w : World) (h : Sl tVV F w A n c l) :
    Calls Tryz.prog 11 #[.slice A n c] w fun e w' => w = w' ∧ ∃ A' n' c', e = .returned (.slice A' n' c') ∧ n' ≤ 300 ∧ Sl tVV F w A' n' c' (l.take 300) := by
  have HL := Lib.hid h.len; have HH := Lib.hid h
  have hcap : n ≤ c := h.2.1
  clear h
  by_cases hn : n > 300
  · have q1 : (n : Int) > 300 := by omega
    have q2 : (300 : Int) < n := by omega
    have q3 : (300 : Int) ≤ (c : Int) := by omega
    have q4 : (300 : Int) ≤ (n : Int) := by omega
    have q5 : 300 ≤ c := by omega
    have q6 : ¬ c < 300 := by omega
    cases A with
    | none =>
      exfalso
      have h0 : 0 < l.length := by rw [← HL.out]; omega
      obtain ⟨b, o, cs, e, _⟩ := HH.out.at_ h0 (by decide)
      cases e
    | some a =>
      go_enter Tryz.func11, Tryz.ntmps11
      go_wp2_with fail
      go_ret
      exact ⟨rfl, _, 300, c, rfl, Nat.le_refl _, sl_frontK HH.out (by omega)⟩
  · have q1 : ¬ (n : Int) > 300 := by omega
    have q2 : ¬ (300 : Int) < n := by omega
    have HT := Lib.hid (show l.take 300 = l from List.take_of_length_le (by rw [← HL.out]; omega))
    go_enter Tryz.func11, Tryz.ntmps11
    go_wp2_with fail
    go_ret
    exact ⟨rfl, A, n, c, rfl, by omega, by rw [HT.out]; exact HH.out⟩
def sizeS : List (Int × List UInt8) → Nat
  | [] => 0
  | x :: r => x.2.length + sizeS r
theorem sizeS_snoc : ∀ (l : List (Int × List UInt8)) (x : Int × List UInt8), sizeS (l ++ [x]) = sizeS l + x.2.length
  | [], x => by simp [sizeS]
  | y :: r, x => by simp only [List.cons_append, sizeS, sizeS_snoc r x]; omega
theorem sizeS_take : ∀ (l : List (Int × List UInt8)) (k : Nat), sizeS (l.take k) ≤ sizeS l
  | [], k => by simp
  | x :: r, 0 => by simp [sizeS]
  | x :: r, k + 1 => by have := sizeS_take r k; simp only [List.take_succ_cons, sizeS]; omega
set_option maxRecDepth 100000 in
set_option maxHeartbeats 1000000 in
theorem csize_any (m enc tx : Int) (F : Nat → Prop) (A : Option Addr) (n c : Nat) (ss : List (Int × List UInt8)) (w : World) (h : Sl tStream F w A n c ss) (hn : n ≤ 1000) (hs : sizeS ss ≤ 4611686018427387904) :
    Calls Tryz.prog 15 #[.agg #[.int .i64 m, .int .i64 enc, .int .i64 tx, .slice A n c]] w fun e w' => e = .returned (.int .i64 (sizeS ss : Int)) ∧ Below w.heap.size w w' := by
  have HL := Lib.hid h.len; have HH := Lib.hid h; have HS := Lib.hid hs
  clear h hs
  go_enter Tryz.func15, Tryz.ntmps15
  go_wp2_with fail
  go_loopw [3, 9] (fun s iv wr => ∃ k : Nat, k ≤ n ∧ iv = .int .i64 (k : Int) ∧ s = .int .i64 ((sizeS (ss.take k) : Nat) : Int) ∧ Below w.heap.size w wr) (fun _ iv _ => n - (intOf iv).toNat)
  case atStart => exact ⟨0, Nat.zero_le _, rfl, rfl, (Below.refl _ _).alloc (Nat.le_refl _) _⟩
  case round =>
    obtain ⟨k, hk, rfl, rfl, hb⟩ := hrel
    have HB := Lib.hid hb
    have hsz := hb.size
    by_cases hlt : k < n
    · have hkl : k < ss.length := by rw [← HL.out]; exact hlt
      obtain ⟨b, o, cs, rfl, _, hbl, hrep, hc⟩ := (HH.out.below hb (Nat.le_refl _)).at_ hkl (by decide)
      obtain ⟨x, hf⟩ : ∃ x, x = ss[k] := ⟨_, rfl⟩
      obtain ⟨kk, bs⟩ := x
      rw [← hf] at hrep
      obtain ⟨c1, c2, rfl, ⟨h1, h1'⟩, A2, n2, cc2, h2, hsl⟩ := hrep
      subst h1 h2
      obtain ⟨g0, g1⟩ := cells2 hc
      have e1 : sizeS (ss.take (k + 1)) = sizeS (ss.take k) + n2 := by
        rw [List.take_succ_eq_append_getElem hkl, ← hf, sizeS_snoc, hsl.len]
      obtain ⟨q, hq⟩ : ∃ q, q = sizeS (ss.take k) := ⟨_, rfl⟩
      have hle := sizeS_take ss (k + 1)
      rw [e1] at hle
      have hq4 := HS.out
      rw [← hq] at e1 hle ⊢
      have hsum : (q : Int) + (n2 : Int) ≤ 4611686018427387904 := by omega
      have HE1 := Lib.hid e1
      have g0 : _ = some (Value.int .i64 kk) := g0
      have g1 : _ = some (Value.slice A2 n2 cc2) := g1
      clear hc hf hb hq hle hq4 e1 h1'
      go_wp2_with fail
      go_roundw
      case rel => exact ⟨k + 1, by omega, by go_num, by rw [HE1.out]; go_num, HB.out.alloc hsz _⟩
      case measure => simp [intOf]; omega
    · obtain rfl : k = n := by omega
      have e1 : ss.take k = ss := List.take_of_length_le (by rw [← HL.out]; exact Nat.le_refl _)
      have HE := Lib.hid e1
      clear hb e1
      go_wp2_with fail
      go_ret
      exact ⟨by rw [HE.out]; rfl, HB.out⟩
end Go.Proofs.YtpmglcachffojaaGreatDoor
namespace Go.Proofs.YtpmglcachffojaaGreatDoor
open Go Go.RowKit

def exV : List VV := [⟨true, 0, ⟨#[]⟩⟩, ⟨false, 1, ⟨#[]⟩⟩]
def exS : List (Int × List UInt8) := [(1, [255, 64]), (2, [66, 0, 128])]
set_option maxRecDepth 100000 in
theorem exV_E : colE 2 exV = 0 := by decide +kernel
set_option maxRecDepth 100000 in
theorem exV_R : colR 2 exV = (2, 1, 0, exS) := by decide +kernel
theorem exV_sl (X : World) : Sl tVV (fun _ => True) (X.alloc (.cells #[.bool true, .int .i64 0, .string ⟨#[]⟩, .bool false, .int .i64 1, .string ⟨#[]⟩] 74)) (some ⟨X.heap.size, 0, none⟩) 2 2 exV :=
  (Sl.news (T := tVV) (F := fun _ => False) (w := X) (Reps.mk2 (T := tVV) (x1 := (⟨true, 0, ⟨#[]⟩⟩ : VV)) (x2 := (⟨false, 1, ⟨#[]⟩⟩ : VV)) ⟨rfl, by unfold VV.ok; decide⟩ ⟨rfl, by unfold VV.ok; decide⟩) 74 2 rfl (by omega) _ rfl).any
/-- Bytes that are made a text. -/
theorem sl_text {F : Nat → Prop} {w : World} {A : Option Addr} {n c : Nat} {bs : List UInt8} (h : Sl tU8 F w A n c bs) (hne : 0 < bs.length) :
    (convert 41 9 (.slice A n c)).run Tryz.prog w = .ok (.string ⟨bs.toArray⟩) w := by
  obtain ⟨b, o, _, rfl, _⟩ := h.at1 hne rfl
  obtain rfl := h.len
  refine run_convert_bytes_back w _ _ 5 ⟨b, o, none⟩ c bs Tryz.underlying41 Tryz.underlying5 Tryz.underlying9 fun j hj => ?_
  obtain ⟨b', o', u, e, _, _, hr, hc⟩ := h.at1 hj rfl
  cases e
  have hr : [u] = [Value.int .u8 (bs[j].toNat : Int)] := hr
  injection hr with hr
  subst hr
  unfold Addr.add
  split
  · rename_i h0; subst h0; exact hc
  · exact hc
theorem cput_ex (F : Nat → Prop) (A : Option Addr) (w : World) (h : Sl tVV F w A 2 2 exV) (hT : Lib.Utf8Tabs 0 1 w) :
    Calls Tryz.prog 12 #[.int .i64 2, .slice A 2 2] w fun e w' => ∃ b o c A1 n1 c1 A2 n2 c2, e = .returned (.tuple #[.agg #[.int .i64 2, .int .i64 1, .int .i64 0, .slice (some ⟨b, o, none⟩) 2 c], .int .i64 0]) ∧ Below w.heap.size w w' ∧
      b < w'.heap.size ∧ w'.cell? ⟨b, o + 1, none⟩ = some (.slice A1 n1 c1) ∧ w'.cell? ⟨b, o + 3, none⟩ = some (.slice A2 n2 c2) ∧ Sl tU8 (fun _ => True) w' A1 n1 c1 [255, 64] ∧ Sl tU8 (fun _ => True) w' A2 n2 c2 [66, 0, 128] ∧ Sl tStream (fun _ => True) w' (some ⟨b, o, none⟩) 2 c exS := by
  refine (cput_any 2 F A 2 2 exV w h (by omega) hT).mono ?_
  rintro e w' ⟨A', n, c, rfl, hs, hb⟩
  rw [exV_R] at hs ⊢
  rw [exV_E]
  have hs := hs.weaken (F' := fun _ => True) fun _ _ _ => trivial
  have hs : Sl tStream (fun _ => True) w' A' n c exS := hs
  have hn := hs.len
  obtain rfl : n = 2 := hn
  obtain ⟨b, o, cs, rfl, _, hbl, hr, hg⟩ := hs.at_ (k := 0) (by decide) (by decide)
  obtain ⟨b', o', cs', e2, _, _, hr', hg'⟩ := hs.at_ (k := 1) (by decide) (by decide)
  cases e2
  obtain ⟨c1, c2, rfl, ⟨h1, _⟩, A1, n1, cc1, h2, hsl1⟩ := hr
  obtain ⟨d1, d2, rfl, ⟨k1, _⟩, A2, n2, cc2, k2, hsl2⟩ := hr'
  subst h1 h2 k1 k2
  exact ⟨b, o, c, A1, n1, cc1, A2, n2, cc2, rfl, hb, hbl, hg 1 _ rfl, hg' 1 _ rfl, hsl1, hsl2, hs⟩
set_option maxRecDepth 100000 in
set_option maxHeartbeats 4000000 in
theorem kshown_any (w : World) (hT : Lib.Utf8Tabs 0 1 w) :
    Calls Tryz.prog 10 #[] w fun e w' => e = .returned (.bool true) ∧ Below w.heap.size w w' := by
  have HT := Lib.hid hT; clear hT
  have HB0 := Lib.hid (show Below w.heap.size w (w.alloc (.cells #[.bool true, .int .i64 0, .string ⟨#[]⟩, .bool false, .int .i64 1, .string ⟨#[]⟩] 74)) from (Below.refl _ _).alloc (Nat.le_refl _) _)
  go_enter Tryz.func10, Tryz.ntmps10
  go_upto_region 2 with (first
    | (go_at_call 12; refine (cput_ex _ _ _ (exV_sl w) (tabs_below HT.out HB0.out)).mono ?_; rintro e w1 ⟨b, o, c, A1, n1, c1, A2, n2, c2, rfl, hb1, hbl, g1, g2, hs1, hs2, hss⟩; have HB1 := Lib.hid (HB0.out.trans (hb1.mono HB0.out.size)); have HS1 := Lib.hid hs1; have HS2 := Lib.hid hs2; have HSS := Lib.hid hss; have HG1 := Lib.hid g1; have HG2 := Lib.hid g2; clear hb1 hs1 hs2 hss g1 g2)
    | fail)
  obtain ⟨w2, hw2⟩ : ∃ w2, w2 = w1.alloc (.cells #[.int .i64 2, .int .i64 1, .int .i64 0, .slice (some ⟨b, o, none⟩) 2 c] 27) := ⟨_, rfl⟩
  rw [← hw2]
  have hb12 : Below w1.heap.size w1 w2 := by rw [hw2]; exact (Below.refl _ _).alloc (Nat.le_refl _) _
  have hg2 : w2.heap[w1.heap.size]? = some (.cells #[.int .i64 2, .int .i64 1, .int .i64 0, .slice (some ⟨b, o, none⟩) 2 c] 27 (0, 0)) := by rw [hw2]; exact heap_alloc_new _ _
  obtain ⟨⟨q0, _⟩, ⟨q1, _⟩, ⟨q2, _⟩, ⟨q3, _⟩⟩ := colcells hg2
  have g1 := kcell hb12 HG1.out
  have g2 := kcell hb12 HG2.out
  have k1 : (convert 41 9 (.slice A1 n1 c1)).run Tryz.prog w2 = .ok (.string ⟨#[255, 64]⟩) w2 := sl_text (HS1.out.below hb12 (Nat.le_refl _)) (by decide)
  have k2 : (convert 41 9 (.slice A2 n2 c2)).run Tryz.prog w2 = .ok (.string ⟨#[66, 0, 128]⟩) w2 := sl_text (HS2.out.below hb12 (Nat.le_refl _)) (by decide)
  have HSS2 := Lib.hid (HSS.out.below hb12 (Nat.le_refl _))
  have HB2 := Lib.hid (HB1.out.trans (hb12.mono HB1.out.size))
  have e5 : ((sizeS exS : Nat) : Int) = 5 := by decide
  have HE5 := Lib.hid e5
  clear hw2 hb12 hg2 e5
  go_wp2_with (first
    | (go_at_call 15; refine (csize_any 2 1 0 _ (some ⟨b, o, none⟩) 2 c exS _ HSS2.out (by omega) (by decide)).mono ?_; rintro e w3 ⟨rfl, hb3⟩; rw [HE5.out]; have HB3 := Lib.hid hb3; clear hb3)
    | fail)
  go_ret
  exact ⟨rfl, HB2.out.trans (HB3.out.mono HB2.out.size)⟩
end Go.Proofs.YtpmglcachffojaaGreatDoor
namespace Go.Proofs.YtpmglcachffojaaGreatDoor
open Go Go.RowKit

/-- Bytes that are made a text, or none. -/
theorem sl_text0 {F : Nat → Prop} {w : World} {A : Option Addr} {n c : Nat} {bs : List UInt8} (h : Sl tU8 F w A n c bs) :
    (convert 41 9 (.slice A n c)).run Tryz.prog w = .ok (.string ⟨bs.toArray⟩) w := by
  by_cases hne : 0 < bs.length
  · exact sl_text h hne
  · obtain rfl : bs = [] := List.length_eq_zero_iff.1 (by omega)
    obtain rfl : n = 0 := h.len
    cases A with
    | some a => exact run_convert_bytes_back w _ _ 5 a c [] Tryz.underlying41 Tryz.underlying5 Tryz.underlying9 (fun j hj => by simp at hj)
    | none =>
      rw [run_convert_bytes_string w _ _ 5 none 0 c Tryz.underlying41 Tryz.underlying5 Tryz.underlying9]
      rfl
set_option maxRecDepth 100000 in
set_option maxHeartbeats 4000000 in
theorem rsameC_any (m enc tx : Int) (F F' : Nat → Prop) (A A' : Option Addr) (n c c' : Nat) (ss : List (Int × List UInt8)) (w : World) (h : Sl tStream F w A n c ss) (h' : Sl tStream F' w A' n c' ss) (hn : n ≤ 1000) :
    Calls Tryz.prog 14 #[.agg #[.int .i64 m, .int .i64 enc, .int .i64 tx, .slice A n c], .agg #[.int .i64 m, .int .i64 enc, .int .i64 tx, .slice A' n c']] w fun e w' => e = .returned (.bool true) ∧ Below w.heap.size w w' := by
  have HL := Lib.hid h.len
  obtain ⟨w2, hw2⟩ : ∃ w2, w2 = (w.alloc (.cells #[.int .i64 m, .int .i64 enc, .int .i64 tx, .slice A n c] 27)).alloc (.cells #[.int .i64 m, .int .i64 enc, .int .i64 tx, .slice A' n c'] 27) := ⟨_, rfl⟩
  have hb1 : Below w.heap.size w (w.alloc (.cells #[.int .i64 m, .int .i64 enc, .int .i64 tx, .slice A n c] 27)) := (Below.refl _ _).alloc (Nat.le_refl _) _
  have hb2 : Below w.heap.size w w2 := by rw [hw2]; exact hb1.alloc hb1.size _
  have hg0 : w2.heap[w.heap.size]? = some (.cells #[.int .i64 m, .int .i64 enc, .int .i64 tx, .slice A n c] 27 (0, 0)) := by rw [hw2]; exact (Below.heap_alloc _ _ _ (by simp)).trans (heap_alloc_new w _)
  have hg1 : w2.heap[w.heap.size + 1]? = some (.cells #[.int .i64 m, .int .i64 enc, .int .i64 tx, .slice A' n c'] 27 (0, 0)) := by
    have := heap_alloc_new (w.alloc (.cells #[.int .i64 m, .int .i64 enc, .int .i64 tx, .slice A n c] 27)) (.cells #[.int .i64 m, .int .i64 enc, .int .i64 tx, .slice A' n c'] 27)
    rw [World.size_alloc] at this
    rw [hw2]; exact this
  have HW := Lib.hid hw2; have HB2 := Lib.hid hb2
  have HS := Lib.hid (h.below hb2 (Nat.le_refl _)); have HS' := Lib.hid (h'.below hb2 (Nat.le_refl _))
  obtain ⟨⟨a0, _⟩, ⟨a1, _⟩, ⟨a2, _⟩, ⟨a3, _⟩⟩ := colcells hg0
  obtain ⟨⟨b0, _⟩, ⟨b1, _⟩, ⟨b2, _⟩, ⟨b3, _⟩⟩ := colcells hg1
  have HA3 := Lib.hid a3; have HB3 := Lib.hid b3
  clear h h' hw2 hb1 hb2 hg0 hg1
  go_enter Tryz.func14, Tryz.ntmps14
  go_upto_region 1 with fail
  rw [← HW.out]
  go_wp2_with fail
  clear a0 a1 a2 a3 b0 b1 b2 b3
  go_loopw [5] (fun iv wr => ∃ i : Nat, i ≤ n ∧ iv = .int .i64 (i : Int) ∧ Below w2.heap.size w2 wr) (fun iv _ => n - (intOf iv).toNat)
  case atStart => exact ⟨0, Nat.zero_le _, rfl, Below.refl _ _⟩
  case round =>
    obtain ⟨i, hi, rfl, hb⟩ := hrel
    have HB := Lib.hid hb
    have a3 := kcell hb HA3.out
    have b3 := kcell hb HB3.out
    by_cases hlt : i < n
    · have hil : i < ss.length := by rw [← HL.out]; exact hlt
      obtain ⟨bk, o, cs, rfl, _, _, hrep, hc⟩ := (HS.out.below hb (Nat.le_refl _)).at_ hil (by decide)
      obtain ⟨bk', o', cs', rfl, _, _, hrep', hc'⟩ := (HS'.out.below hb (Nat.le_refl _)).at_ hil (by decide)
      obtain ⟨x, hf⟩ : ∃ x, x = ss[i] := ⟨_, rfl⟩
      obtain ⟨kk, bs⟩ := x
      rw [← hf] at hrep hrep'
      obtain ⟨d1, d2, rfl, ⟨h1, _⟩, A8, n8, c8, h2, hsl⟩ := hrep
      subst h1 h2
      obtain ⟨d1', d2', rfl, ⟨h1', _⟩, A9, n9, c9, h2', hsl'⟩ := hrep'
      subst h1' h2'
      obtain ⟨g0, g1⟩ := cells2 hc
      obtain ⟨g0', g1'⟩ := cells2 hc'
      have g0 : _ = some (Value.int .i64 kk) := g0
      have g1 : _ = some (Value.slice A8 n8 c8) := g1
      have g0' : _ = some (Value.int .i64 kk) := g0'
      have g1' : _ = some (Value.slice A9 n9 c9) := g1'
      have k1 := fun q => sl_text0 (hsl.drewN q)
      have k2 := fun q => sl_text0 (hsl'.drewN q)
      have hi0 : (0 : Int) ≤ (i : Int) := by omega
      have hi1 : (i : Int) < (n : Int) := by omega
      clear hc hc' hf hsl hsl' hb
      go_wp2_with fail
      go_quiet (fail)
      go_wp2_with fail
      go_roundw
      case rel => exact ⟨i + 1, by omega, by go_num, bdrewN HB.out _⟩
      case measure => simp [intOf]; omega
    · obtain rfl : i = n := by omega
      clear hb
      go_wp2_with fail
      go_ret
      exact ⟨rfl, HB2.out.trans (HB.out.mono HB2.out.size)⟩
set_option maxRecDepth 100000 in
set_option maxHeartbeats 1000000 in
theorem r16size_any (m enc tx : Int) (F : Nat → Prop) (A : Option Addr) (n c : Nat) (ss : List (Int × List UInt8)) (w : World) (h : Sl tStream F w A n c ss) (hn : n ≤ 1000) (hs : sizeS ss ≤ 4611686018427387904) :
    Calls Tryz.prog 16 #[.agg #[.int .i64 m, .int .i64 enc, .int .i64 tx, .slice A n c]] w fun e w' => e = .returned (.int .i64 (sizeS ss : Int)) ∧ Below w.heap.size w w' := by
  have HL := Lib.hid h.len
  obtain ⟨w1, hw1⟩ : ∃ w1, w1 = w.alloc (.cells #[.int .i64 m, .int .i64 enc, .int .i64 tx, .slice A n c] 27) := ⟨_, rfl⟩
  have hb1 : Below w.heap.size w w1 := by rw [hw1]; exact (Below.refl _ _).alloc (Nat.le_refl _) _
  have hg0 : w1.heap[w.heap.size]? = some (.cells #[.int .i64 m, .int .i64 enc, .int .i64 tx, .slice A n c] 27 (0, 0)) := by rw [hw1]; exact heap_alloc_new w _
  obtain ⟨_, _, _, ⟨a3, _⟩⟩ := colcells hg0
  have HW := Lib.hid hw1; have HB1 := Lib.hid hb1; have HH := Lib.hid (h.below hb1 (Nat.le_refl _)); have HS := Lib.hid hs
  clear h hs hw1 hb1 hg0
  go_enter Tryz.func16, Tryz.ntmps16
  go_upto_region 1 with fail
  rw [← HW.out]
  go_wp2_with fail
  go_loopw [3, 4] (fun s iv wr => ∃ k : Nat, k ≤ n ∧ iv = .int .i64 (k : Int) ∧ s = .int .i64 ((sizeS (ss.take k) : Nat) : Int) ∧ w1 = wr) (fun _ iv _ => n - (intOf iv).toNat)
  case atStart => exact ⟨0, Nat.zero_le _, rfl, rfl, rfl⟩
  case round =>
    obtain ⟨k, hk, rfl, rfl, rfl⟩ := hrel
    by_cases hlt : k < n
    · have hkl : k < ss.length := by rw [← HL.out]; exact hlt
      obtain ⟨b, o, cs, rfl, _, hbl, hrep, hc⟩ := HH.out.at_ hkl (by decide)
      obtain ⟨x, hf⟩ : ∃ x, x = ss[k] := ⟨_, rfl⟩
      obtain ⟨kk, bs⟩ := x
      rw [← hf] at hrep
      obtain ⟨d1, d2, rfl, ⟨h1, h1'⟩, A2, n2, cc2, h2, hsl⟩ := hrep
      subst h1 h2
      obtain ⟨g0, g1⟩ := cells2 hc
      have e1 : sizeS (ss.take (k + 1)) = sizeS (ss.take k) + n2 := by
        rw [List.take_succ_eq_append_getElem hkl, ← hf, sizeS_snoc, hsl.len]
      obtain ⟨q, hq⟩ : ∃ q, q = sizeS (ss.take k) := ⟨_, rfl⟩
      have hle := sizeS_take ss (k + 1)
      rw [e1] at hle
      have hq4 := HS.out
      rw [← hq] at e1 hle ⊢
      have hsum : (q : Int) + (n2 : Int) ≤ 4611686018427387904 := by omega
      have HE1 := Lib.hid e1
      have g0 : _ = some (Value.int .i64 kk) := g0
      have g1 : _ = some (Value.slice A2 n2 cc2) := g1
      have hi0 : (0 : Int) ≤ (k : Int) := by omega
      have hi1 : (k : Int) < (n : Int) := by omega
      clear hc hf hq hle hq4 e1 h1'
      go_wp2_with fail
      go_roundw
      case rel => exact ⟨k + 1, by omega, by go_num, by rw [HE1.out]; go_num, trivial⟩
      case measure => simp [intOf]; omega
    · obtain rfl : k = n := by omega
      have e1 : ss.take k = ss := List.take_of_length_le (by rw [← HL.out]; exact Nat.le_refl _)
      have HE := Lib.hid e1
      clear e1
      go_wp2_with fail
      go_ret
      exact ⟨by rw [HE.out]; rfl, HB1.out⟩
end Go.Proofs.YtpmglcachffojaaGreatDoor
