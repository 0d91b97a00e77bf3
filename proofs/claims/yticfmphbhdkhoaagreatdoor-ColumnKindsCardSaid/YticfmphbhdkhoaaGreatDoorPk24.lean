/- ints.Put. Printed by gen_cidx.py. slices.IndexFunc, ContainsFunc of values by the closure of column.Put. texts.lengths; slices.ContainsFunc of texts by the closure of texts.Put. -/
import Derived.Test.YticfmphbhdkhoaaGreatDoorPk23
namespace Go.Proofs.YticfmphbhdkhoaaGreatDoor
open Go Go.RowKit

/-- What ints.Put lays down for values that may be of the kind. -/
def intsB (k : Int) (l : List VV) : List UInt8 :=
  if k = 1 then byB (boolB (l.map fun v => v.n == 1))
  else if k = 5 then rleB true (l.map fun v => v.n / 1000) ++ rleB false (l.map fun v => v.n % 1000)
  else rleB true (l.map fun v => v.n)
theorem numOk_of (l : List VV) (h : ∀ v ∈ l, v.ok) : NumOk true (l.map fun v => v.n) ∧ NumOk true (l.map fun v => v.n / 1000) ∧ NumOk false (l.map fun v => v.n % 1000) := by
  refine ⟨fun x hx => ?_, fun x hx => ?_, fun x hx => ?_⟩ <;>
  · obtain ⟨v, hv, rfl⟩ := List.mem_map.1 hx
    obtain ⟨h0, h1, _⟩ := h v hv
    refine ⟨by omega, by omega, ?_⟩
    first | exact .inl rfl | exact .inr (by omega)
theorem sl_ok {F : Nat → Prop} {w : World} {A : Option Addr} {n c : Nat} {l : List VV} (h : Sl tVV F w A n c l) : ∀ v ∈ l, v.ok := by
  intro v hv
  obtain ⟨i, hi, rfl⟩ := List.getElem_of_mem hv
  obtain ⟨_, _, _, _, _, _, hr, _⟩ := h.at_ hi (by decide)
  exact hr.2
set_option maxRecDepth 100000 in
set_option maxHeartbeats 4000000 in
theorem iput_any (k : Int) (hk : 1 ≤ k ∧ k ≤ 5) (F : Nat → Prop) (A : Option Addr) (n c : Nat) (l : List VV) (w : World) (h : Sl tVV F w A n c l) (hn : n ≤ 4096) (hm : ∀ v ∈ l, v.null = false ∧ mayV k v = true) (hT : Lib.Utf8Tabs 0 1 w) :
    Calls Tryz.prog 20 #[.int .i64 k, .slice A n c] w (RunPost (some (intsB k l)) w) := by
  have HL := Lib.hid h.len
  have H := Lib.hid h; have HN := Lib.hid hn; have HM := Lib.hid hm; have HT := Lib.hid hT
  have HOK := Lib.hid (numOk_of l (sl_ok h))
  have HVO := Lib.hid (sl_ok h)
  have HNM := Lib.hid (show decide (1 ≤ k ∧ k ≤ 5) = true by simpa using hk)
  have hn1 : ¬ (n : Int) > 4096 := by omega
  have hn2 : ¬ (4096 : Int) < n := by omega
  have HK := Lib.hid hk
  clear h hn hm hT hk
  go_enter Tryz.func20, Tryz.ntmps20
  go_wp2_with (first
    | (go_at_call 19; refine (isnum_any _ _).mono ?_; rintro e w1 ⟨rfl, rfl⟩; rw [HNM.out])
    | fail)
  go_loopw [21] (fun iv wr => ∃ j : Nat, j ≤ n ∧ iv = .int .i64 (j : Int) ∧ Below w.heap.size w wr) (fun iv _ => n - (intOf iv).toNat)
  case atStart => exact ⟨0, Nat.zero_le _, rfl, Below.refl _ _⟩
  case round =>
    obtain ⟨j, hj, rfl, hb⟩ := hrel
    have HB := Lib.hid hb
    have hsz := hb.size
    by_cases hlt : j < n
    · have hjl : j < l.length := by rw [← HL.out]; exact hlt
      obtain ⟨b, o, cs, rfl, _, hbl, hrep, hc⟩ := (H.out.below hb (Nat.le_refl _)).at_ hjl (by decide)
      have hml := HM.out _ (List.getElem_mem hjl)
      have hvo := HVO.out _ (List.getElem_mem hjl)
      obtain ⟨v, hf⟩ : ∃ v, v = l[j] := ⟨_, rfl⟩
      obtain ⟨rfl, _⟩ := hrep
      rw [← hf] at hc hml hvo
      obtain ⟨nu, x, s⟩ := v
      obtain ⟨hnu, hmay⟩ := hml
      have hnu : nu = false := hnu
      subst hnu
      have HMAY := Lib.hid hmay; have HVK := Lib.hid hvo
      obtain ⟨g0, g1, g2⟩ := cells3 hc
      have g0 : _ = some (Value.bool false) := g0
      have g1 : _ = some (Value.int .i64 x) := g1
      have g2 : _ = some (Value.string s) := g2
      have i0 : (0 : Int) ≤ (j : Int) := by omega
      have i1 : (j : Int) < (n : Int) := by omega
      clear hc hf hmay hvo hb
      go_wp2_with (first
        | (go_at_call 16; refine (may_any k ⟨false, x, s⟩ HVK.out _ (tabs_below HT.out (HB.out.alloc hsz _))).mono ?_; rintro e w3 ⟨rfl, hb3⟩; rw [HMAY.out]; have HB3 := Lib.hid ((HB.out.alloc hsz _).trans (hb3.mono (by simp; omega))); clear hb3)
        | fail)
      go_roundw
      case rel => exact ⟨j + 1, by omega, by go_num, HB3.out⟩
      case measure => simp [intOf]; omega
    · obtain rfl : j = n := by omega
      have HS := Lib.hid (H.out.below hb (Nat.le_refl _))
      have i1 : ¬ (j : Int) < (j : Int) := by omega
      clear hb
      by_cases hk1 : k = 1
      · subst hk1
        have HI := Lib.hid (show intsB 1 l = byB (boolB (l.map fun v => v.n == 1)) from if_pos rfl)
        go_wp2_with (first
          | (go_at_call 31; refine (truths_any F A j c l _ HS.out HN.out).mono ?_; rintro e w3 ⟨A3, n3, c3, rfl, ⟨G, ho3⟩, hb3⟩; have HO3 := Lib.hid ho3.sl; have HL3 := Lib.hid ho3.len; have HB3 := Lib.hid hb3; clear ho3 hb3)
          | (go_at_call 30; refine (boolput _ A3 n3 c3 _ _ HO3.out (by have := HL3.out; rw [List.length_map, ← HL.out] at this; rw [this]; exact HN.out)).mono ?_; rintro e w4 ⟨hb4, A4, n4, c4, rfl, ho4⟩; have HO4 := Lib.hid ho4; have HB4 := Lib.hid hb4; clear ho4 hb4)
          | fail)
        go_ret2
        have hw := HB.out.trans (HB3.out.mono hsz)
        exact ⟨hw.trans (HB4.out.mono hw.size), A4, n4, c4, rfl, by rw [HI.out]; exact HO4.out.down hw.size⟩
      · have hkb1 := beq_no hk1
        by_cases hk5 : k = 5
        · subst hk5
          have HI := Lib.hid (show intsB 5 l = rleB true (l.map fun v => v.n / 1000) ++ rleB false (l.map fun v => v.n % 1000) by unfold intsB; rw [if_neg (by decide), if_pos rfl])
          have HR1 := Lib.hid (rleB_len true (l.map fun v => v.n / 1000)); have HR2 := Lib.hid (rleB_len false (l.map fun v => v.n % 1000))
          go_upto_region 18 with (first
            | (go_at_call 34; refine (wholes_any F A j c l _ HS.out HN.out).mono ?_; rintro e w3 ⟨A3, n3, c3, rfl, ⟨G, ho3⟩, hb3⟩; have HO3 := Lib.hid ho3.sl; have HL3 := Lib.hid ho3.len; have HB3 := Lib.hid hb3; clear ho3 hb3)
            | (go_at_call 33; refine (rle_any _ A3 n3 c3 _ _ HO3.out (by have := HL3.out; rw [List.length_map, ← HL.out] at this; rw [this]; exact HN.out) true HOK.out.2.1).mono ?_; rintro e w4 ⟨hb4, A4, n4, c4, rfl, ho4⟩; have HO4 := Lib.hid ho4; have HB4 := Lib.hid hb4; clear ho4 hb4)
            | fail)
          have hw4 := HB.out.trans ((HB3.out.mono hsz).trans (HB4.out.mono (by have := HB3.out.size; omega)))
          have HW4 := Lib.hid hw4
          obtain ⟨A5, hA5⟩ : ∃ A5, A5 = A4 := ⟨_, rfl⟩
          obtain ⟨n5, hn5⟩ : ∃ n5, n5 = n4 := ⟨_, rfl⟩
          obtain ⟨c5, hc5⟩ : ∃ c5, c5 = c4 := ⟨_, rfl⟩
          have HO5 := HO4
          rw [← hA5, ← hn5, ← hc5] at HO5 ⊢
          have HS4 := Lib.hid (H.out.below hw4 (Nat.le_refl _))
          have HZ := Lib.hid (show w.heap.size ≤ w3.heap.size from Nat.le_trans hsz HB3.out.size)
          clear hA5 hn5 hc5 hw4 HO4 HO3 HB3 HB4 HL3
          go_wp2_with (first
            | (go_at_call 34; refine (lefts_any F A j c l _ HS4.out HN.out).mono ?_; rintro e w6 ⟨A3, n3, c3, rfl, ⟨G, ho3⟩, hb3⟩; have HO3 := Lib.hid ho3.sl; have HL3 := Lib.hid ho3.len; have HB3 := Lib.hid hb3; clear ho3 hb3)
            | (go_at_call 33; refine (rle_any _ A3 n3 c3 _ _ HO3.out (by have := HL3.out; rw [List.length_map, ← HL.out] at this; rw [this]; exact HN.out) false HOK.out.2.2).mono ?_; rintro e w7 ⟨hb4, A4, n4, c4, rfl, ho4⟩; have HO4 := Lib.hid ho4; have HB4 := Lib.hid hb4; clear ho4 hb4)
            | (at_builtin; refine apb w7 w rfl (.tmp 59) (.tmp 60) rfl w.heap.size A5 n5 c5 (rleB true (l.map fun v => v.n / 1000)) (by rfl) ((HO5.out.down HZ.out).keepB (HB3.out.trans (HB4.out.mono HB3.out.size))) (HW4.out.trans ((HB3.out.mono HW4.out.size).trans (HB4.out.mono (by have := HW4.out.size; have := HB3.out.size; omega)))) (Nat.le_refl _) _ A4 n4 c4 (rleB false (l.map fun v => v.n % 1000)) (by rfl) HO4.out.bs (by have h1 := HO5.out.len; have h2 := HO4.out.len; have h3 := HR1.out; have h4 := HR2.out; rw [List.length_map, ← HL.out] at h3 h4; have h5 := HN.out; omega) ?_; intro A8 c8 w8 h8 hb8 _; have HO8 := Lib.hid h8; have HB8 := Lib.hid hb8; clear h8 hb8)
            | fail)
          go_ret2
          exact ⟨HB8.out, A8, _, c8, rfl, by rw [HI.out]; exact HO8.out⟩
        · have hkb5 := beq_no hk5
          have HI := Lib.hid (show intsB k l = rleB true (l.map fun v => v.n) by unfold intsB; rw [if_neg hk1, if_neg hk5])
          go_wp2_with (first
            | (go_at_call 34; refine (nums_any F A j c l _ HS.out HN.out).mono ?_; rintro e w3 ⟨A3, n3, c3, rfl, ⟨G, ho3⟩, hb3⟩; have HO3 := Lib.hid ho3.sl; have HL3 := Lib.hid ho3.len; have HB3 := Lib.hid hb3; clear ho3 hb3)
            | (go_at_call 33; refine (rle_any _ A3 n3 c3 _ _ HO3.out (by have := HL3.out; rw [List.length_map, ← HL.out] at this; rw [this]; exact HN.out) true HOK.out.1).mono ?_; rintro e w4 ⟨hb4, A4, n4, c4, rfl, ho4⟩; have HO4 := Lib.hid ho4; have HB4 := Lib.hid hb4; clear ho4 hb4)
            | fail)
          go_ret2
          have hw := HB.out.trans (HB3.out.mono hsz)
          exact ⟨hw.trans (HB4.out.mono hw.size), A4, n4, c4, rfl, by rw [HI.out]; exact HO4.out.down hw.size⟩
end Go.Proofs.YticfmphbhdkhoaaGreatDoor
namespace Go.Proofs.YticfmphbhdkhoaaGreatDoor
open Go Go.RowKit

set_option maxRecDepth 100000 in
theorem mayc_any (k : Int) (kb : Nat) (d : VV) (hd : d.ok) (r : Bool) (hr : r = !mayV k d) (w : World) (hk : w.cell? ⟨kb, 0, none⟩ = some (.int .i64 k)) (hT : Lib.Utf8Tabs 0 1 w) :
    Calls Tryz.prog 15 #[.agg #[.bool d.null, .int .i64 d.n, .string d.s], .pointer (some ⟨kb, 0, none⟩)] w fun e w' => e = .returned (.bool r) ∧ Below w.heap.size w w' := by
  have HB0 := Lib.hid (show Below w.heap.size w (w.alloc (.cells #[.bool d.null, .int .i64 d.n, .string d.s] 36)) from (Below.refl _ _).alloc (Nat.le_refl _) _)
  have hk0 := kcell HB0.out hk
  have HT := Lib.hid (tabs_below hT HB0.out); have HD := Lib.hid hd; have HR := Lib.hid hr
  clear hT hd hr hk
  go_enter Tryz.func15, Tryz.ntmps15
  go_wp2_with (first
    | (go_at_call 16; refine (may_any k d HD.out _ HT.out).mono ?_; rintro e w1 ⟨rfl, hb1⟩; have HB1 := Lib.hid hb1; clear hb1)
    | fail)
  go_ret
  exact ⟨by rw [HR.out]; rfl, HB0.out.trans (HB1.out.mono HB0.out.size)⟩
set_option maxRecDepth 100000 in
set_option maxHeartbeats 1000000 in
theorem idxm_any (k : Int) (kb : Nat) (F : Nat → Prop) (A : Option Addr) (n c : Nat) (l : List VV) (w : World) (h : Sl tVV F w A n c l) (hcl : w.cell? ⟨kb, 0, none⟩ = some (.int .i64 k)) (hT : Lib.Utf8Tabs 0 1 w) :
    Calls Tryz.prog 27 #[.slice A n c, .func (.func 15) #[] #[.pointer (some ⟨kb, 0, none⟩)]] w (IdxPost (mayV k) l w) := by
  have HL := Lib.hid h.len
  have HC := Lib.hid hcl; have HT := Lib.hid hT
  have hmax : n ≤ 9223372036854775807 := by have h2 := h.2.1; have h3 := h.2.2.1; unfold maxLen at h3; omega
  clear hcl hT
  go_enter Tryz.func27, Tryz.ntmps27
  go_wp2_with fail
  go_loopw [8] (fun i wr => ∃ j : Nat, j ≤ n ∧ i = .int .i64 j ∧ Below w.heap.size w wr ∧ Hid (∀ x ∈ l.take j, mayV k x = true)) (fun i _ => n - (intOf i).toNat)
  case atStart => exact ⟨0, Nat.zero_le _, rfl, Below.refl _ _, Lib.hid (by simp)⟩
  case round =>
    obtain ⟨j, hj, rfl, hb, HA⟩ := hrel
    have g := h.below hb (Nat.le_refl _)
    have HB := Lib.hid hb
    have HCR := Lib.hid (kcell hb HC.out); have HTR := Lib.hid (tabs_below HT.out hb)
    have hsz := hb.size
    clear hb
    by_cases hlt : j < n
    · have hjl : j < l.length := by rw [← HL.out]; exact hlt
      obtain ⟨d, hd⟩ : ∃ d, d = l[j] := ⟨_, rfl⟩
      obtain ⟨b, o, u, rfl, _, hbl, hu, hc⟩ := g.at_ hjl (by decide)
      rw [← hd] at hu
      obtain ⟨rfl, hdk⟩ := hu
      have HDK := Lib.hid hdk; clear hdk
      obtain ⟨c0, c1, c2⟩ := cells3 hc
      obtain ⟨r, hr⟩ : ∃ r, r = !mayV k d := ⟨_, rfl⟩
      have HD := Lib.hid hd; have HR := Lib.hid hr
      clear g hc hd hr
      have hi1 : (0 : Int) ≤ (j : Int) := by omega
      have hi2 : (j : Int) < (n : Int) := by omega
      cases r with
      | true =>
        have HF : Hid (FirstDrop (mayV k) l (j : Int)) := Lib.hid (.inr ⟨j, rfl, hjl, HA.out, by rw [← HD.out]; have := HR.out; simpa using this⟩)
        go_wp2_with (first
          | (go_at_call 15; refine (mayc_any k kb d HDK.out true HR.out _ HCR.out HTR.out).mono ?_; rintro e w1 ⟨rfl, hb1⟩; have HB1 := Lib.hid (HB.out.trans (hb1.mono hsz)); clear hb1)
          | fail)
        go_ret
        exact ⟨_, rfl, HF.out, HB1.out⟩
      | false =>
        have HN : Hid (∀ x ∈ l.take (j + 1), mayV k x = true) := Lib.hid (by
          intro x hx
          rw [List.take_succ_eq_append_getElem hjl, List.mem_append, List.mem_singleton] at hx
          rcases hx with hx | rfl
          · exact HA.out x hx
          · rw [← HD.out]; have := HR.out; simpa using this)
        go_wp2_with (first
          | (go_at_call 15; refine (mayc_any k kb d HDK.out false HR.out _ HCR.out HTR.out).mono ?_; rintro e w1 ⟨rfl, hb1⟩; have HB1 := Lib.hid (HB.out.trans (hb1.mono hsz)); clear hb1)
          | fail)
        go_roundw
        case rel => exact ⟨j + 1, by omega, by go_num, HB1.out, HN⟩
        case measure => simp [intOf]; omega
    · obtain rfl : j = n := by omega
      have HF : Hid (FirstDrop (mayV k) l (-1)) := Lib.hid (.inl ⟨rfl, by
        have := HA.out
        rwa [List.take_of_length_le (by rw [← HL.out]; exact Nat.le_refl _)] at this⟩)
      go_wp2_with fail
      go_ret
      exact ⟨_, rfl, HF.out, HB.out⟩

set_option maxRecDepth 100000 in
theorem wrong_any (k : Int) (kb : Nat) (F : Nat → Prop) (A : Option Addr) (n c : Nat) (l : List VV) (w : World) (h : Sl tVV F w A n c l) (hcl : w.cell? ⟨kb, 0, none⟩ = some (.int .i64 k)) (hT : Lib.Utf8Tabs 0 1 w) :
    Calls Tryz.prog 14 #[.slice A n c, .func (.func 15) #[] #[.pointer (some ⟨kb, 0, none⟩)]] w fun e w' => e = .returned (.bool (!l.all (mayV k))) ∧ Below w.heap.size w w' := by
  have H := Lib.hid h; have HC := Lib.hid hcl; have HT := Lib.hid hT
  clear h hcl hT
  go_enter Tryz.func14, Tryz.ntmps14
  go_wp2_with (first
    | (go_at_call 27; refine (idxm_any k kb F A n c l _ H.out HC.out HT.out).mono ?_; rintro e w1 ⟨r, rfl, hr, hb1⟩; have HR := Lib.hid hr; have HB1 := Lib.hid hb1; clear hr hb1)
    | fail)
  go_ret
  refine ⟨?_, HB1.out⟩
  have e1 : decide (0 ≤ r) = !l.all (mayV k) := by
    rcases HR.out with ⟨rfl, h1⟩ | ⟨i, rfl, hi, _, h1⟩
    · rw [List.all_eq_true.2 h1]; rfl
    · have : l.all (mayV k) = false := by
        rw [List.all_eq_false]
        exact ⟨_, List.getElem_mem hi, by rw [h1]; simp⟩
      rw [this]; simp
  rw [← e1]
  first | rfl | simp
end Go.Proofs.YticfmphbhdkhoaaGreatDoor
namespace Go.Proofs.YticfmphbhdkhoaaGreatDoor
open Go Go.RowKit

def lensB (l : List ByteArray) : List UInt8 := rleB false (l.map fun s => (s.size : Int))
theorem elemStr : ElemOf Tryz.prog 50 9 tStr.size := ElemOf.mk' (bytes := 16) (z := .string ⟨#[]⟩) (by kernel_rfl) (by kernel_rfl) rfl (by decide) (by decide)
set_option maxRecDepth 100000 in
set_option maxHeartbeats 1000000 in
theorem lens_any (F : Nat → Prop) (A : Option Addr) (n c : Nat) (l : List ByteArray) (w : World) (h : Sl tStr F w A n c l) (hl : n ≤ 4096) :
    Calls Tryz.prog 42 #[.slice A n c] w (Own1 w (lensB l)) := by
  have HL := Lib.hid h.len
  have HOK : Hid (NumOk false (l.map fun s => (s.size : Int))) := Lib.hid (by
    intro x hx
    obtain ⟨s, hs, rfl⟩ := List.mem_map.1 hx
    obtain ⟨i, hi, rfl⟩ := List.getElem_of_mem hs
    obtain ⟨_, _, _, _, _, _, hr, _⟩ := h.at1 hi rfl
    obtain ⟨_, h2⟩ := hr
    unfold maxLen at h2
    exact ⟨by omega, by omega, .inr (by omega)⟩)
  go_enter Tryz.func42, Tryz.ntmps42
  go_wp2
  go_loopw [3, 10] (fun v i wr => ∃ (k : Nat) (A2 : Option Addr) (c2 : Nat) (G : Nat → Prop), k ≤ n ∧ i = .int .i64 k ∧ v = .slice A2 k c2 ∧ OwnF tI64 3 G wr w.heap.size A2 k c2 ((l.take k).map fun s : ByteArray => (s.size : Int)) ∧ Below w.heap.size w wr)
    (fun _ i _ => n - (intOf i).toNat)
  case atStart => exact ⟨0, none, 0, fun _ => False, Nat.zero_le _, rfl, rfl, OwnF.nil_ _ _ _ _ _, Below.refl _ _⟩
  case round =>
    obtain ⟨k, A2, c2, G, hk, rfl, rfl, hown, hb⟩ := hrel
    by_cases hlt : k < n
    · have hkl : k < l.length := by rw [← HL.out]; exact hlt
      obtain ⟨b, o, cs, rfl, _, hbl, hrep, hc⟩ := (h.below hb (Nat.le_refl _)).at1 hkl rfl
      obtain ⟨v, hf⟩ : ∃ v, v = l[k] := ⟨_, rfl⟩
      obtain ⟨hcs, hok⟩ := hrep
      injection hcs with hcs; subst hcs
      rw [← hf] at hc hok
      unfold maxLen at hok
      have HF := Lib.hid hf; clear hf
      have HO := Lib.hid hown; clear hown
      have hsz := hb.size
      go_wp2_with (first
        | (at_builtin; refine apl1 (T := tI64) elemI64 wr w rfl (.tmp 14) (.tmp 17) rfl w.heap.size A2 k c2 ((l.take k).map fun s : ByteArray => (s.size : Int)) (by rfl) G (fun _ => False) HO.out hb (Nat.le_refl _) _ (by rfl) [.int .i64 (v.size : Int)] (v.size : Int) ⟨rfl, by omega, by omega⟩ 3 rfl (fun _ _ _ _ h4 => h4) (by omega) ?_; intro A5 c5 w5 h5))
      go_roundw
      case rel =>
        have e1 : (l.take (k + 1)).map (fun s : ByteArray => (s.size : Int)) = (l.take k).map (fun s : ByteArray => (s.size : Int)) ++ [(v.size : Int)] := by
          rw [List.take_succ_eq_append_getElem hkl, List.map_append, ← HF.out]; rfl
        have e2 := h5.own
        rw [← e1] at e2
        exact ⟨k + 1, A5, c5, _, by omega, by go_num, rfl, e2, h5.below⟩
      case measure => simp [intOf]; omega
    · obtain rfl : k = n := by omega
      have e1 : l.take k = l := List.take_of_length_le (by rw [← HL.out]; exact Nat.le_refl _)
      rw [e1] at hown
      have HO := Lib.hid hown.sl; clear hown e1
      go_wp2_with (first
        | (go_at_call 33; refine (rle_any _ A2 k c2 _ _ HO.out hl false HOK.out).mono ?_; rintro e w4 ⟨hb4, A4, n4, c4, rfl, ho4⟩; have HO4 := Lib.hid ho4; have HB4 := Lib.hid hb4; clear ho4 hb4)
        | fail)
      go_ret
      exact ⟨A4, n4, c4, rfl, HO4.out.down hb.size, hb.trans (HB4.out.mono hb.size)⟩
theorem long1_any (s : ByteArray) (w : World) : Calls Tryz.prog 39 #[.string s] w fun e w' => e = .returned (.bool (decide (300 < s.size))) ∧ Below w.heap.size w w' := by
  by_cases h : 300 < s.size
  · have h1 : (300 : Int) < s.size := by omega
    have HD := Lib.hid (decide_eq_true h)
    clear h
    go_enter Tryz.func39, Tryz.ntmps39
    go_wp2_with fail
    go_ret
    exact ⟨by first | (rw [HD.out]; rfl) | (rw [HD.out]; simp [h1]), Below.refl _ _⟩
  · have h1 : ¬ (300 : Int) < s.size := by omega
    have HD := Lib.hid (decide_eq_false h)
    clear h
    go_enter Tryz.func39, Tryz.ntmps39
    go_wp2_with fail
    go_ret
    exact ⟨by first | (rw [HD.out]; rfl) | (rw [HD.out]; simp [h1]), Below.refl _ _⟩
end Go.Proofs.YticfmphbhdkhoaaGreatDoor
