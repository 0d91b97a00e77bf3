/- The law's own example: column.Put at two values of kind 2. pilasterref12.May: whether a value may be of a kind, by the document. -/
import Derived.Test.YticfmphbhdkhoaaGreatDoorPk29
import Derived.Laws.IdiomStrings
import Derived.Test.YticfmphbhdkhoaaGreatDoorPk21
namespace Go.Proofs.YticfmphbhdkhoaaGreatDoor
open Go Go.RowKit

def exV : List VV := [⟨true, 0, ⟨#[]⟩⟩, ⟨false, 1, ⟨#[]⟩⟩]
def exS : List (Int × List UInt8) := [(1, [255, 64]), (2, [66, 0, 128])]
set_option maxRecDepth 100000 in
theorem exV_E : colE 2 exV = 0 := by decide +kernel
set_option maxRecDepth 100000 in
theorem exV_R : colR 2 exV = (2, 1, 0, exS) := by decide +kernel
theorem exV_sl (X : World) : Sl tVV (fun _ => True) (X.alloc (.cells #[.bool true, .int .i64 0, .string ⟨#[]⟩, .bool false, .int .i64 1, .string ⟨#[]⟩] 36)) (some ⟨X.heap.size, 0, none⟩) 2 2 exV :=
  (Sl.news (T := tVV) (F := fun _ => False) (w := X) (Reps.mk2 (T := tVV) (x1 := (⟨true, 0, ⟨#[]⟩⟩ : VV)) (x2 := (⟨false, 1, ⟨#[]⟩⟩ : VV)) ⟨rfl, by unfold VV.ok; decide⟩ ⟨rfl, by unfold VV.ok; decide⟩) 36 2 rfl (by omega) _ rfl).any
/-- Bytes that are made a text. -/
theorem sl_text {F : Nat → Prop} {w : World} {A : Option Addr} {n c : Nat} {bs : List UInt8} (h : Sl tU8 F w A n c bs) (hne : 0 < bs.length) :
    (convert 37 9 (.slice A n c)).run Tryz.prog w = .ok (.string ⟨bs.toArray⟩) w := by
  obtain ⟨b, o, _, rfl, _⟩ := h.at1 hne rfl
  obtain rfl := h.len
  refine run_convert_bytes_back w _ _ 5 ⟨b, o, none⟩ c bs Tryz.underlying37 Tryz.underlying5 Tryz.underlying9 fun j hj => ?_
  obtain ⟨b', o', u, e, _, _, hr, hc⟩ := h.at1 hj rfl
  cases e
  have hr : [u] = [Value.int .u8 (bs[j].toNat : Int)] := hr
  injection hr with hr
  subst hr
  unfold Addr.add
  split
  · rename_i h0; subst h0; exact hc
  · exact hc
theorem cput_ex (F : Nat → Prop) (A : Option Addr) (w : World) (h : Sl tVV F w A 2 2 exV) (hT : Lib.Utf8Tabs 0 1 w) :
    Calls Tryz.prog 7 #[.int .i64 2, .slice A 2 2] w fun e w' => ∃ b o c A1 n1 c1 A2 n2 c2, e = .returned (.tuple #[.agg #[.int .i64 2, .int .i64 1, .int .i64 0, .slice (some ⟨b, o, none⟩) 2 c], .int .i64 0]) ∧ Below w.heap.size w w' ∧
      b < w'.heap.size ∧ w'.cell? ⟨b, o + 1, none⟩ = some (.slice A1 n1 c1) ∧ w'.cell? ⟨b, o + 3, none⟩ = some (.slice A2 n2 c2) ∧ Sl tU8 (fun _ => True) w' A1 n1 c1 [255, 64] ∧ Sl tU8 (fun _ => True) w' A2 n2 c2 [66, 0, 128] ∧ Sl tStream (fun _ => True) w' (some ⟨b, o, none⟩) 2 c exS := by
  refine (cput_any 2 F A 2 2 exV w h (by omega) hT).mono ?_
  rintro e w' ⟨A', n, c, rfl, hs, hb⟩
  rw [exV_R] at hs ⊢
  rw [exV_E]
  have hs := hs.weaken (F' := fun _ => True) fun _ _ _ => trivial
  have hs : Sl tStream (fun _ => True) w' A' n c exS := hs
  have hn := hs.len
  obtain rfl : n = 2 := hn
  obtain ⟨b, o, cs, rfl, _, hbl, hr, hg⟩ := hs.at_ (k := 0) (by decide) (by decide)
  obtain ⟨b', o', cs', e2, _, _, hr', hg'⟩ := hs.at_ (k := 1) (by decide) (by decide)
  cases e2
  obtain ⟨c1, c2, rfl, ⟨h1, _⟩, A1, n1, cc1, h2, hsl1⟩ := hr
  obtain ⟨d1, d2, rfl, ⟨k1, _⟩, A2, n2, cc2, k2, hsl2⟩ := hr'
  subst h1 h2 k1 k2
  exact ⟨b, o, c, A1, n1, cc1, A2, n2, cc2, rfl, hb, hbl, hg 1 _ rfl, hg' 1 _ rfl, hsl1, hsl2, hs⟩
set_option maxRecDepth 100000 in
set_option maxHeartbeats 4000000 in
theorem kshown_any (w : World) (hT : Lib.Utf8Tabs 0 1 w) :
    Calls Tryz.prog 5 #[] w fun e w' => e = .returned (.bool true) ∧ Below w.heap.size w w' := by
  have HT := Lib.hid hT; clear hT
  have HB0 := Lib.hid (show Below w.heap.size w (w.alloc (.cells #[.bool true, .int .i64 0, .string ⟨#[]⟩, .bool false, .int .i64 1, .string ⟨#[]⟩] 36)) from (Below.refl _ _).alloc (Nat.le_refl _) _)
  go_enter Tryz.func5, Tryz.ntmps5
  go_upto_region 2 with (first
    | (go_at_call 7; refine (cput_ex _ _ _ (exV_sl w) (tabs_below HT.out HB0.out)).mono ?_; rintro e w1 ⟨b, o, c, A1, n1, c1, A2, n2, c2, rfl, hb1, hbl, g1, g2, hs1, hs2, hss⟩; have HB1 := Lib.hid (HB0.out.trans (hb1.mono HB0.out.size)); have HS1 := Lib.hid hs1; have HS2 := Lib.hid hs2; have HSS := Lib.hid hss; have HG1 := Lib.hid g1; have HG2 := Lib.hid g2; clear hb1 hs1 hs2 hss g1 g2)
    | fail)
  obtain ⟨w2, hw2⟩ : ∃ w2, w2 = w1.alloc (.cells #[.int .i64 2, .int .i64 1, .int .i64 0, .slice (some ⟨b, o, none⟩) 2 c] 27) := ⟨_, rfl⟩
  rw [← hw2]
  have hb12 : Below w1.heap.size w1 w2 := by rw [hw2]; exact (Below.refl _ _).alloc (Nat.le_refl _) _
  have hg2 : w2.heap[w1.heap.size]? = some (.cells #[.int .i64 2, .int .i64 1, .int .i64 0, .slice (some ⟨b, o, none⟩) 2 c] 27 (0, 0)) := by rw [hw2]; exact heap_alloc_new _ _
  obtain ⟨⟨q0, _⟩, ⟨q1, _⟩, ⟨q2, _⟩, ⟨q3, _⟩⟩ := colcells hg2
  have g1 := kcell hb12 HG1.out
  have g2 := kcell hb12 HG2.out
  have k1 : (convert 37 9 (.slice A1 n1 c1)).run Tryz.prog w2 = .ok (.string ⟨#[255, 64]⟩) w2 := sl_text (HS1.out.below hb12 (Nat.le_refl _)) (by decide)
  have k2 : (convert 37 9 (.slice A2 n2 c2)).run Tryz.prog w2 = .ok (.string ⟨#[66, 0, 128]⟩) w2 := sl_text (HS2.out.below hb12 (Nat.le_refl _)) (by decide)
  have HSS2 := Lib.hid (HSS.out.below hb12 (Nat.le_refl _))
  have HB2 := Lib.hid (HB1.out.trans (hb12.mono HB1.out.size))
  have e5 : ((sizeS exS : Nat) : Int) = 5 := by decide
  have HE5 := Lib.hid e5
  clear hw2 hb12 hg2 e5
  go_wp2_with (first
    | (go_at_call 10; refine (csize_any 2 1 0 _ (some ⟨b, o, none⟩) 2 c exS _ HSS2.out (by omega) (by decide)).mono ?_; rintro e w3 ⟨rfl, hb3⟩; rw [HE5.out]; have HB3 := Lib.hid hb3; clear hb3)
    | fail)
  go_ret
  exact ⟨rfl, HB2.out.trans (HB3.out.mono HB2.out.size)⟩
end Go.Proofs.YticfmphbhdkhoaaGreatDoor
namespace Go.Proofs.YticfmphbhdkhoaaGreatDoor
open Go Go.RowKit

theorem bnei_yes {a b : Int} (h : ¬ a = b) : (a != b) = true := by simpa using h
theorem bnei_no {a b : Int} (h : a = b) : (a != b) = false := by simpa using h
set_option maxRecDepth 100000 in
set_option maxHeartbeats 2000000 in
theorem rmay_other (k n : Int) (b : Bool) (s : ByteArray) (w : World) (h : ¬ (1 ≤ k ∧ k ≤ 7)) :
    Calls Tryz.prog 12 #[.int .i64 k, .agg #[.bool b, .int .i64 n, .string s]] w fun e w' => e = .returned (.bool false) ∧ Below w.heap.size w w' := by
  by_cases h1 : k < 1
  · clear h
    go_enter Tryz.func12, Tryz.ntmps12
    go_wp2_with fail
    go_ret
    exact ⟨rfl, (Below.refl _ _).alloc (Nat.le_refl _) _⟩
  · have h2 : k > 7 := by omega
    have h3 : 7 < k := h2
    clear h
    go_enter Tryz.func12, Tryz.ntmps12
    go_wp2_with fail
    go_ret
    exact ⟨rfl, (Below.refl _ _).alloc (Nat.le_refl _) _⟩
set_option maxRecDepth 100000 in
set_option maxHeartbeats 2000000 in
theorem rmay_null (k n : Int) (s : ByteArray) (w : World) (h : 1 ≤ k ∧ k ≤ 7) :
    Calls Tryz.prog 12 #[.int .i64 k, .agg #[.bool true, .int .i64 n, .string s]] w fun e w' => e = .returned (.bool (decide (n = 0 ∧ s.size = 0))) ∧ Below w.heap.size w w' := by
  obtain ⟨q, hq⟩ : ∃ q : Bool, q = decide (n = 0 ∧ s.size = 0) := ⟨_, rfl⟩
  rw [← hq]
  have k1 : ¬ k < 1 := by omega
  have k2 : ¬ k > 7 := by omega
  have k3 : ¬ 7 < k := by omega
  clear h
  by_cases hn : n = 0
  · subst hn
    by_cases hs : s.size = 0
    · obtain rfl : q = true := by rw [hq]; simp [hs]
      clear hq
      obtain rfl := (str_nil s).2 hs
      clear hs
      go_enter Tryz.func12, Tryz.ntmps12
      go_wp2_with fail
      go_ret
      exact ⟨rfl, (Below.refl _ _).alloc (Nat.le_refl _) _⟩
    · obtain rfl : q = false := by rw [hq]; simp [hs]
      clear hq
      obtain ⟨a1, a2, a3, a4, a5⟩ := nil_no hs
      clear hs
      go_enter Tryz.func12, Tryz.ntmps12
      go_wp2_with fail
      go_ret
      exact ⟨rfl, (Below.refl _ _).alloc (Nat.le_refl _) _⟩
  · obtain rfl : q = false := by rw [hq]; simp [hn]
    clear hq
    have hb := beq_no hn
    go_enter Tryz.func12, Tryz.ntmps12
    go_wp2_with fail
    go_ret
    exact ⟨rfl, (Below.refl _ _).alloc (Nat.le_refl _) _⟩
set_option maxRecDepth 100000 in
set_option maxHeartbeats 2000000 in
theorem rmay_num (k n : Int) (s : ByteArray) (w : World) (h : 1 ≤ k ∧ k ≤ 5) :
    Calls Tryz.prog 12 #[.int .i64 k, .agg #[.bool false, .int .i64 n, .string s]] w fun e w' => e = .returned (.bool (decide (s.size = 0 ∧ (¬ k = 1 ∨ n = 0 ∨ n = 1)))) ∧ Below w.heap.size w w' := by
  obtain ⟨q, hq⟩ : ∃ q : Bool, q = decide (s.size = 0 ∧ (¬ k = 1 ∨ n = 0 ∨ n = 1)) := ⟨_, rfl⟩
  rw [← hq]
  have k1 : ¬ k < 1 := by omega
  have k2 : ¬ k > 7 := by omega
  have k3 : ¬ 7 < k := by omega
  have k4 : k ≤ 5 := by omega
  clear h
  by_cases hs : s.size = 0
  · obtain rfl := (str_nil s).2 hs
    clear hs
    by_cases hk : k = 1
    · subst hk
      by_cases hn : n = 0
      · subst hn
        obtain rfl : q = true := hq.trans (decide_eq_true ⟨rfl, .inr (.inl rfl)⟩)
        clear hq
        go_enter Tryz.func12, Tryz.ntmps12
        go_wp2_with fail
        go_ret
        exact ⟨rfl, (Below.refl _ _).alloc (Nat.le_refl _) _⟩
      · have hb := beq_no hn
        by_cases hn1 : n = 1
        · subst hn1
          obtain rfl : q = true := hq.trans (decide_eq_true ⟨rfl, .inr (.inr rfl)⟩)
          clear hq
          go_enter Tryz.func12, Tryz.ntmps12
          go_wp2_with fail
          go_ret
          exact ⟨rfl, (Below.refl _ _).alloc (Nat.le_refl _) _⟩
        · have hb1 := beq_no hn1
          obtain rfl : q = false := by rw [hq]; simp [hn, hn1]
          clear hq
          go_enter Tryz.func12, Tryz.ntmps12
          go_wp2_with fail
          go_ret
          exact ⟨rfl, (Below.refl _ _).alloc (Nat.le_refl _) _⟩
    · have hb := bnei_yes hk
      obtain rfl : q = true := hq.trans (decide_eq_true ⟨rfl, .inl hk⟩)
      clear hq
      go_enter Tryz.func12, Tryz.ntmps12
      go_wp2_with fail
      go_ret
      exact ⟨rfl, (Below.refl _ _).alloc (Nat.le_refl _) _⟩
  · obtain rfl : q = false := by rw [hq]; simp [hs]
    clear hq
    obtain ⟨a1, a2, a3, a4, a5⟩ := nil_no hs
    clear hs
    go_enter Tryz.func12, Tryz.ntmps12
    go_wp2_with fail
    go_ret
    exact ⟨rfl, (Below.refl _ _).alloc (Nat.le_refl _) _⟩
set_option maxRecDepth 100000 in
set_option maxHeartbeats 2000000 in
theorem rmay_text (k n : Int) (s : ByteArray) (w : World) (h : k = 6 ∨ k = 7) (hm : s.size ≤ maxLen) (hT : Lib.Utf8Tabs 0 1 w) :
    Calls Tryz.prog 12 #[.int .i64 k, .agg #[.bool false, .int .i64 n, .string s]] w fun e w' => e = .returned (.bool (decide (n = 0 ∧ s.size ≤ 300 ∧ (k = 7 ∨ Lib.validD s.data.toList = true)))) ∧ Below w.heap.size w w' := by
  obtain ⟨q, hq⟩ : ∃ q : Bool, q = decide (n = 0 ∧ s.size ≤ 300 ∧ (k = 7 ∨ Lib.validD s.data.toList = true)) := ⟨_, rfl⟩
  rw [← hq]
  have k1 : ¬ k < 1 := by omega
  have k2 : ¬ k > 7 := by omega
  have k3 : ¬ 7 < k := by omega
  have k4 : ¬ k ≤ 5 := by omega
  have HH := Lib.hid h; have HM := Lib.hid hm; have HT := Lib.hid (tabs_below hT ((Below.refl w.heap.size w).alloc (Nat.le_refl _) (.cells #[.bool false, .int .i64 n, .string s] 36)))
  clear h hm hT
  by_cases hn : n = 0
  · subst hn
    by_cases hs : s.size ≤ 300
    · have hs1 : (s.size : Int) ≤ 300 := by omega
      by_cases hk : k = 7
      · subst hk
        obtain rfl : q = true := hq.trans (decide_eq_true ⟨rfl, hs, .inl rfl⟩)
        clear hq
        clear hs
        go_enter Tryz.func12, Tryz.ntmps12
        go_wp2_with fail
        go_ret
        exact ⟨rfl, (Below.refl _ _).alloc (Nat.le_refl _) _⟩
      · have hb := beq_no hk
        obtain ⟨v, hv⟩ : ∃ v, v = Lib.validD s.data.toList := ⟨_, rfl⟩
        have HV := Lib.hid hv
        obtain rfl : q = v := by rw [hq]; rw [← hv]; simp [hs, hk]
        clear hq
        clear hs hv
        go_enter Tryz.func12, Tryz.ntmps12
        go_wp2_with (first
          | (go_at_call 26; refine (Any.utf8_ValidString Tryz.laysValid s _ (by have := HM.out; unfold maxLen at this; omega) HT.out).mono ?_; rintro e w1 ⟨rfl, hb1⟩; rw [← HV.out]; have HB1 := Lib.hid hb1; clear hb1)
          | fail)
        go_ret
        exact ⟨rfl, ((Below.refl _ _).alloc (Nat.le_refl _) _).trans (HB1.out.mono (by simp))⟩
    · have hs1 : ¬ (s.size : Int) ≤ 300 := by omega
      obtain rfl : q = false := by rw [hq]; simp [hs]
      clear hq
      clear hs
      go_enter Tryz.func12, Tryz.ntmps12
      go_wp2_with fail
      go_ret
      exact ⟨rfl, (Below.refl _ _).alloc (Nat.le_refl _) _⟩
  · have hb := beq_no hn
    obtain rfl : q = false := by rw [hq]; simp [hn]
    clear hq
    go_enter Tryz.func12, Tryz.ntmps12
    go_wp2_with fail
    go_ret
    exact ⟨rfl, (Below.refl _ _).alloc (Nat.le_refl _) _⟩
theorem rmay_any (k : Int) (d : VV) (hd : d.ok) (w : World) (hT : Lib.Utf8Tabs 0 1 w) :
    Calls Tryz.prog 12 #[.int .i64 k, .agg #[.bool d.null, .int .i64 d.n, .string d.s]] w fun e w' => e = .returned (.bool (mayV k d)) ∧ Below w.heap.size w w' := by
  by_cases hk : 1 ≤ k ∧ k ≤ 7
  · obtain ⟨nu, n, s⟩ := d
    cases nu with
    | true =>
      have e : mayV k ⟨true, n, s⟩ = decide (n = 0 ∧ s.size = 0) := by
        unfold mayV
        by_cases h5 : 1 ≤ k ∧ k ≤ 5
        · rw [if_pos h5]; rfl
        · rw [if_neg h5, if_pos (by omega)]; rfl
      rw [e]; exact rmay_null k n s w hk
    | false =>
      by_cases h5 : 1 ≤ k ∧ k ≤ 5
      · have e : mayV k ⟨false, n, s⟩ = decide (s.size = 0 ∧ (¬ k = 1 ∨ n = 0 ∨ n = 1)) := by
          unfold mayV
          rw [if_pos h5]
          by_cases h1 : k = 1
          · simp [h1]
          · simp [h1]
        rw [e]; exact rmay_num k n s w h5
      · have e : mayV k ⟨false, n, s⟩ = decide (n = 0 ∧ s.size ≤ 300 ∧ (k = 7 ∨ Lib.validD s.data.toList = true)) := by
          unfold mayV
          rw [if_neg h5, if_pos (by omega)]
          rfl
        rw [e]; exact rmay_text k n s w (by omega) hd.2.2 hT
  · have e : mayV k d = false := by
      unfold mayV
      rw [if_neg (by omega), if_neg (by omega)]
    rw [e]; exact rmay_other k d.n d.null d.s w hk
end Go.Proofs.YticfmphbhdkhoaaGreatDoor
