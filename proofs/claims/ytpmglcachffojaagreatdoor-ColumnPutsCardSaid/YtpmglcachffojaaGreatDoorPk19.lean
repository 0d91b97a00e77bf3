/- Printed by gen_cidx.py. slices.IndexFunc, ContainsFunc of values by the closure of column.Put. texts.lengths; slices.ContainsFunc of texts by the closure of texts.Put. slices.IndexFunc, ContainsFunc of texts by the closure of texts.Put, where none is long. slices.Values of texts: the iterator, inside a fence. slices.AppendSeq of texts, at slices.Values of texts. texts.Words: slices.Values, Collect, Sort, Compact of texts. -/
import Derived.Test.YtpmglcachffojaaGreatDoorPk18
import Derived.RangeFuncWrites
import Derived.Sort.OwnSorted
import Derived.Test.YtpmglcachffojaaGreatDoorShelf
namespace Go.Proofs.YtpmglcachffojaaGreatDoor
open Go Go.RowKit

set_option maxRecDepth 100000 in
theorem mayc_any (k : Int) (kb : Nat) (d : VV) (hd : d.ok) (r : Bool) (hr : r = !mayV k d) (w : World) (hk : w.cell? ⟨kb, 0, none⟩ = some (.int .i64 k)) (hT : Lib.Utf8Tabs 0 1 w) :
    Calls Tryz.prog 40 #[.agg #[.bool d.null, .int .i64 d.n, .string d.s], .pointer (some ⟨kb, 0, none⟩)] w fun e w' => e = .returned (.bool r) ∧ Below w.heap.size w w' := by
  have HB0 := Lib.hid (show Below w.heap.size w (w.alloc (.cells #[.bool d.null, .int .i64 d.n, .string d.s] 74)) from (Below.refl _ _).alloc (Nat.le_refl _) _)
  have hk0 := kcell HB0.out hk
  have HT := Lib.hid (tabs_below hT HB0.out); have HD := Lib.hid hd; have HR := Lib.hid hr
  clear hT hd hr hk
  go_enter Tryz.func40, Tryz.ntmps40
  go_wp2_with (first
    | (go_at_call 41; refine (may_any k d HD.out _ HT.out).mono ?_; rintro e w1 ⟨rfl, hb1⟩; have HB1 := Lib.hid hb1; clear hb1)
    | fail)
  go_ret
  exact ⟨by rw [HR.out]; rfl, HB0.out.trans (HB1.out.mono HB0.out.size)⟩
set_option maxRecDepth 100000 in
set_option maxHeartbeats 1000000 in
theorem idxm_any (k : Int) (kb : Nat) (F : Nat → Prop) (A : Option Addr) (n c : Nat) (l : List VV) (w : World) (h : Sl tVV F w A n c l) (hcl : w.cell? ⟨kb, 0, none⟩ = some (.int .i64 k)) (hT : Lib.Utf8Tabs 0 1 w) :
    Calls Tryz.prog 86 #[.slice A n c, .func (.func 40) #[] #[.pointer (some ⟨kb, 0, none⟩)]] w (IdxPost (mayV k) l w) := by
  have HL := Lib.hid h.len
  have HC := Lib.hid hcl; have HT := Lib.hid hT
  have hmax : n ≤ 9223372036854775807 := by have h2 := h.2.1; have h3 := h.2.2.1; unfold maxLen at h3; omega
  clear hcl hT
  go_enter Tryz.func86, Tryz.ntmps86
  go_wp2_with fail
  go_loopw [8] (fun i wr => ∃ j : Nat, j ≤ n ∧ i = .int .i64 j ∧ Below w.heap.size w wr ∧ Hid (∀ x ∈ l.take j, mayV k x = true)) (fun i _ => n - (intOf i).toNat)
  case atStart => exact ⟨0, Nat.zero_le _, rfl, Below.refl _ _, Lib.hid (by simp)⟩
  case round =>
    obtain ⟨j, hj, rfl, hb, HA⟩ := hrel
    have g := h.below hb (Nat.le_refl _)
    have HB := Lib.hid hb
    have HCR := Lib.hid (kcell hb HC.out); have HTR := Lib.hid (tabs_below HT.out hb)
    have hsz := hb.size
    clear hb
    by_cases hlt : j < n
    · have hjl : j < l.length := by rw [← HL.out]; exact hlt
      obtain ⟨d, hd⟩ : ∃ d, d = l[j] := ⟨_, rfl⟩
      obtain ⟨b, o, u, rfl, _, hbl, hu, hc⟩ := g.at_ hjl (by decide)
      rw [← hd] at hu
      obtain ⟨rfl, hdk⟩ := hu
      have HDK := Lib.hid hdk; clear hdk
      obtain ⟨c0, c1, c2⟩ := cells3 hc
      obtain ⟨r, hr⟩ : ∃ r, r = !mayV k d := ⟨_, rfl⟩
      have HD := Lib.hid hd; have HR := Lib.hid hr
      clear g hc hd hr
      have hi1 : (0 : Int) ≤ (j : Int) := by omega
      have hi2 : (j : Int) < (n : Int) := by omega
      cases r with
      | true =>
        have HF : Hid (FirstDrop (mayV k) l (j : Int)) := Lib.hid (.inr ⟨j, rfl, hjl, HA.out, by rw [← HD.out]; have := HR.out; simpa using this⟩)
        go_wp2_with (first
          | (go_at_call 40; refine (mayc_any k kb d HDK.out true HR.out _ HCR.out HTR.out).mono ?_; rintro e w1 ⟨rfl, hb1⟩; have HB1 := Lib.hid (HB.out.trans (hb1.mono hsz)); clear hb1)
          | fail)
        go_ret
        exact ⟨_, rfl, HF.out, HB1.out⟩
      | false =>
        have HN : Hid (∀ x ∈ l.take (j + 1), mayV k x = true) := Lib.hid (by
          intro x hx
          rw [List.take_succ_eq_append_getElem hjl, List.mem_append, List.mem_singleton] at hx
          rcases hx with hx | rfl
          · exact HA.out x hx
          · rw [← HD.out]; have := HR.out; simpa using this)
        go_wp2_with (first
          | (go_at_call 40; refine (mayc_any k kb d HDK.out false HR.out _ HCR.out HTR.out).mono ?_; rintro e w1 ⟨rfl, hb1⟩; have HB1 := Lib.hid (HB.out.trans (hb1.mono hsz)); clear hb1)
          | fail)
        go_roundw
        case rel => exact ⟨j + 1, by omega, by go_num, HB1.out, HN⟩
        case measure => simp [intOf]; omega
    · obtain rfl : j = n := by omega
      have HF : Hid (FirstDrop (mayV k) l (-1)) := Lib.hid (.inl ⟨rfl, by
        have := HA.out
        rwa [List.take_of_length_le (by rw [← HL.out]; exact Nat.le_refl _)] at this⟩)
      go_wp2_with fail
      go_ret
      exact ⟨_, rfl, HF.out, HB.out⟩

set_option maxRecDepth 100000 in
theorem wrong_any (k : Int) (kb : Nat) (F : Nat → Prop) (A : Option Addr) (n c : Nat) (l : List VV) (w : World) (h : Sl tVV F w A n c l) (hcl : w.cell? ⟨kb, 0, none⟩ = some (.int .i64 k)) (hT : Lib.Utf8Tabs 0 1 w) :
    Calls Tryz.prog 39 #[.slice A n c, .func (.func 40) #[] #[.pointer (some ⟨kb, 0, none⟩)]] w fun e w' => e = .returned (.bool (!l.all (mayV k))) ∧ Below w.heap.size w w' := by
  have H := Lib.hid h; have HC := Lib.hid hcl; have HT := Lib.hid hT
  clear h hcl hT
  go_enter Tryz.func39, Tryz.ntmps39
  go_wp2_with (first
    | (go_at_call 86; refine (idxm_any k kb F A n c l _ H.out HC.out HT.out).mono ?_; rintro e w1 ⟨r, rfl, hr, hb1⟩; have HR := Lib.hid hr; have HB1 := Lib.hid hb1; clear hr hb1)
    | fail)
  go_ret
  refine ⟨?_, HB1.out⟩
  have e1 : decide (0 ≤ r) = !l.all (mayV k) := by
    rcases HR.out with ⟨rfl, h1⟩ | ⟨i, rfl, hi, _, h1⟩
    · rw [List.all_eq_true.2 h1]; rfl
    · have : l.all (mayV k) = false := by
        rw [List.all_eq_false]
        exact ⟨_, List.getElem_mem hi, by rw [h1]; simp⟩
      rw [this]; simp
  rw [← e1]
  first | rfl | simp
end Go.Proofs.YtpmglcachffojaaGreatDoor
namespace Go.Proofs.YtpmglcachffojaaGreatDoor
open Go Go.RowKit

def lensB (l : List ByteArray) : List UInt8 := rleB false (l.map fun s => (s.size : Int))
theorem elemStr : ElemOf Tryz.prog 89 9 tStr.size := ElemOf.mk' (bytes := 16) (z := .string ⟨#[]⟩) (by kernel_rfl) (by kernel_rfl) rfl (by decide) (by decide)
set_option maxRecDepth 100000 in
set_option maxHeartbeats 1000000 in
theorem lens_any (F : Nat → Prop) (A : Option Addr) (n c : Nat) (l : List ByteArray) (w : World) (h : Sl tStr F w A n c l) (hl : n ≤ 4096) :
    Calls Tryz.prog 101 #[.slice A n c] w (Own1 w (lensB l)) := by
  have HL := Lib.hid h.len
  have HOK : Hid (NumOk false (l.map fun s => (s.size : Int))) := Lib.hid (by
    intro x hx
    obtain ⟨s, hs, rfl⟩ := List.mem_map.1 hx
    obtain ⟨i, hi, rfl⟩ := List.getElem_of_mem hs
    obtain ⟨_, _, _, _, _, _, hr, _⟩ := h.at1 hi rfl
    obtain ⟨_, h2⟩ := hr
    unfold maxLen at h2
    exact ⟨by omega, by omega, .inr (by omega)⟩)
  go_enter Tryz.func101, Tryz.ntmps101
  go_wp2
  go_loopw [3, 10] (fun v i wr => ∃ (k : Nat) (A2 : Option Addr) (c2 : Nat) (G : Nat → Prop), k ≤ n ∧ i = .int .i64 k ∧ v = .slice A2 k c2 ∧ OwnF tI64 3 G wr w.heap.size A2 k c2 ((l.take k).map fun s : ByteArray => (s.size : Int)) ∧ Below w.heap.size w wr)
    (fun _ i _ => n - (intOf i).toNat)
  case atStart => exact ⟨0, none, 0, fun _ => False, Nat.zero_le _, rfl, rfl, OwnF.nil_ _ _ _ _ _, Below.refl _ _⟩
  case round =>
    obtain ⟨k, A2, c2, G, hk, rfl, rfl, hown, hb⟩ := hrel
    by_cases hlt : k < n
    · have hkl : k < l.length := by rw [← HL.out]; exact hlt
      obtain ⟨b, o, cs, rfl, _, hbl, hrep, hc⟩ := (h.below hb (Nat.le_refl _)).at1 hkl rfl
      obtain ⟨v, hf⟩ : ∃ v, v = l[k] := ⟨_, rfl⟩
      obtain ⟨hcs, hok⟩ := hrep
      injection hcs with hcs; subst hcs
      rw [← hf] at hc hok
      unfold maxLen at hok
      have HF := Lib.hid hf; clear hf
      have HO := Lib.hid hown; clear hown
      have hsz := hb.size
      go_wp2_with (first
        | (at_builtin; refine apl1 (T := tI64) elemI64 wr w rfl (.tmp 14) (.tmp 17) rfl w.heap.size A2 k c2 ((l.take k).map fun s : ByteArray => (s.size : Int)) (by rfl) G (fun _ => False) HO.out hb (Nat.le_refl _) _ (by rfl) [.int .i64 (v.size : Int)] (v.size : Int) ⟨rfl, by omega, by omega⟩ 3 rfl (fun _ _ _ _ h4 => h4) (by omega) ?_; intro A5 c5 w5 h5))
      go_roundw
      case rel =>
        have e1 : (l.take (k + 1)).map (fun s : ByteArray => (s.size : Int)) = (l.take k).map (fun s : ByteArray => (s.size : Int)) ++ [(v.size : Int)] := by
          rw [List.take_succ_eq_append_getElem hkl, List.map_append, ← HF.out]; rfl
        have e2 := h5.own
        rw [← e1] at e2
        exact ⟨k + 1, A5, c5, _, by omega, by go_num, rfl, e2, h5.below⟩
      case measure => simp [intOf]; omega
    · obtain rfl : k = n := by omega
      have e1 : l.take k = l := List.take_of_length_le (by rw [← HL.out]; exact Nat.le_refl _)
      rw [e1] at hown
      have HO := Lib.hid hown.sl; clear hown e1
      go_wp2_with (first
        | (go_at_call 92; refine (rle_any _ A2 k c2 _ _ HO.out hl false HOK.out).mono ?_; rintro e w4 ⟨hb4, A4, n4, c4, rfl, ho4⟩; have HO4 := Lib.hid ho4; have HB4 := Lib.hid hb4; clear ho4 hb4)
        | fail)
      go_ret
      exact ⟨A4, n4, c4, rfl, HO4.out.down hb.size, hb.trans (HB4.out.mono hb.size)⟩
theorem long1_any (s : ByteArray) (w : World) : Calls Tryz.prog 98 #[.string s] w fun e w' => e = .returned (.bool (decide (300 < s.size))) ∧ Below w.heap.size w w' := by
  by_cases h : 300 < s.size
  · have h1 : (300 : Int) < s.size := by omega
    have HD := Lib.hid (decide_eq_true h)
    clear h
    go_enter Tryz.func98, Tryz.ntmps98
    go_wp2_with fail
    go_ret
    exact ⟨by first | (rw [HD.out]; rfl) | (rw [HD.out]; simp [h1]), Below.refl _ _⟩
  · have h1 : ¬ (300 : Int) < s.size := by omega
    have HD := Lib.hid (decide_eq_false h)
    clear h
    go_enter Tryz.func98, Tryz.ntmps98
    go_wp2_with fail
    go_ret
    exact ⟨by first | (rw [HD.out]; rfl) | (rw [HD.out]; simp [h1]), Below.refl _ _⟩
end Go.Proofs.YtpmglcachffojaaGreatDoor
namespace Go.Proofs.YtpmglcachffojaaGreatDoor
open Go Go.RowKit

set_option maxRecDepth 100000 in
set_option maxHeartbeats 1000000 in
theorem idxs_any (F : Nat → Prop) (A : Option Addr) (n c : Nat) (l : List ByteArray) (w : World) (h : Sl tStr F w A n c l) (hs : ∀ s ∈ l, s.size ≤ 300) (hn : n ≤ 4611686018427387904) :
    Calls Tryz.prog 163 #[.slice A n c, .func (.func 98) #[] #[]] w fun e w' => e = .returned (.int .i64 (-1)) ∧ Below w.heap.size w w' := by
  have HL := Lib.hid h.len; have HS := Lib.hid hs
  clear hs
  go_enter Tryz.func163, Tryz.ntmps163
  go_wp2_with fail
  go_loopw [8] (fun i wr => ∃ j : Nat, j ≤ n ∧ i = .int .i64 j ∧ Below w.heap.size w wr) (fun i _ => n - (intOf i).toNat)
  case atStart => exact ⟨0, Nat.zero_le _, rfl, Below.refl _ _⟩
  case round =>
    obtain ⟨j, hj, rfl, hb⟩ := hrel
    have HB := Lib.hid hb
    have hsz := hb.size
    by_cases hlt : j < n
    · have hjl : j < l.length := by rw [← HL.out]; exact hlt
      obtain ⟨b, o, u, rfl, _, hbl, hr, hc⟩ := (h.below hb (Nat.le_refl _)).at1 hjl rfl
      have hsm := HS.out _ (List.getElem_mem hjl)
      obtain ⟨s, hs⟩ : ∃ s, s = l[j] := ⟨_, rfl⟩
      obtain ⟨hr, _⟩ := hr
      injection hr with hr; subst hr
      rw [← hs] at hc hsm
      have HD := Lib.hid (show decide (300 < s.size) = false from decide_eq_false (by omega))
      have hi1 : (0 : Int) ≤ (j : Int) := by omega
      have hi2 : (j : Int) < (n : Int) := by omega
      clear hb hs hsm
      go_wp2_with (first
        | (go_at_call 98; refine (long1_any s _).mono ?_; rintro e w1 ⟨rfl, hb1⟩; rw [HD.out]; have HB1 := Lib.hid (HB.out.trans (hb1.mono hsz)); clear hb1)
        | fail)
      go_roundw
      case rel => exact ⟨j + 1, by omega, by go_num, HB1.out⟩
      case measure => simp [intOf]; omega
    · obtain rfl : j = n := by omega
      go_wp2_with fail
      go_ret
      exact ⟨rfl, HB.out⟩
set_option maxRecDepth 100000 in
theorem long_any (F : Nat → Prop) (A : Option Addr) (n c : Nat) (l : List ByteArray) (w : World) (h : Sl tStr F w A n c l) (hs : ∀ s ∈ l, s.size ≤ 300) (hn : n ≤ 4611686018427387904) :
    Calls Tryz.prog 97 #[.slice A n c, .func (.func 98) #[] #[]] w fun e w' => e = .returned (.bool false) ∧ Below w.heap.size w w' := by
  have H := Lib.hid h; have HS := Lib.hid hs; have HN := Lib.hid hn
  clear h hs hn
  go_enter Tryz.func97, Tryz.ntmps97
  go_wp2_with (first
    | (go_at_call 163; refine (idxs_any F A n c l _ H.out HS.out HN.out).mono ?_; rintro e w1 ⟨rfl, hb1⟩; have HB1 := Lib.hid hb1; clear hb1)
    | fail)
  go_ret
  exact ⟨rfl, HB1.out⟩
end Go.Proofs.YtpmglcachffojaaGreatDoor
namespace Go.Proofs.YtpmglcachffojaaGreatDoor
open Go Go.RowKit

/-- The blocks below K are kept. -/
def KpV (K : Nat) (W W' : World) : Prop := W.heap.size ≤ W'.heap.size ∧ ∀ b, b < K → W'.heap[b]? = W.heap[b]?
theorem KpV.refl (K : Nat) (W : World) : KpV K W W := ⟨Nat.le_refl _, fun _ _ => rfl⟩
theorem KpV.trans {K : Nat} {A B C : World} (h : KpV K A B) (k : KpV K B C) : KpV K A C := ⟨Nat.le_trans h.1 k.1, fun b hb => (k.2 b hb).trans (h.2 b hb)⟩
set_option maxRecDepth 100000 in
set_option maxHeartbeats 2000000 in
theorem vals1_in (F : Fence) (n : Nat) (hf : F.fn 209) (hro : F.round = none) (hn : 1 ≤ n) (l bb K : Nat) (A : Option Addr) (m c : Nat) (xs : List ByteArray) (J Jx : List ByteArray → World → Prop)
    (hY : ∀ pre x W1, J pre W1 → pre.length < m → YieldAt F (n - 1) Tryz.prog l #[.string x] W1 fun e W' => (e = .returned (.bool true) ∧ J (pre ++ [x]) W' ∧ KpV K W1 W') ∨ (e = .returned (.bool false) ∧ Jx (pre ++ [x]) W'))
    (W : World) (h0 : W.cell? ⟨bb, 0, none⟩ = some (.slice A m c)) (hs : Sl tStr (fun b => b < K) W A m c xs) (hJ0 : J [] W) :
    CallsIn F n Tryz.prog 209 #[.func (.yield l) #[] #[], .pointer (some ⟨bb, 0, none⟩)] W fun e W' => (∃ v, e = .returned v) ∧ ((∃ ys, ys = xs ∧ J ys W') ∨ (∃ pre, (∃ k, k ≤ m ∧ pre = xs.take k) ∧ Jx pre W')) := by
  have HL := Lib.hid hs.len; have HS := Lib.hid hs
  have hmax : m ≤ 9223372036854775807 := by have h2 := hs.2.1; have h3 := hs.2.2.1; unfold maxLen at h3; omega
  clear hs
  refine callsIn_of_wp Tryz.func209 rfl hf ?_ hro
  simp only [Tryz.ntmps209, List.size_toArray, List.length_cons, List.length_nil, Nat.reduceAdd, Nat.reduceSub, Array.replicate_succ, Array.replicate_zero, List.push_toArray, List.append_toArray, List.nil_append, List.cons_append]
  gi_wp2
  gi_loopw [7] (fun i wr => ∃ (k : Nat), k ≤ m ∧ i = .int .i64 (k : Int) ∧ J (xs.take k) wr ∧ KpV K W wr)
    (fun i _ => m - (intOf i).toNat)
  case atStart => exact ⟨0, Nat.zero_le _, rfl, hJ0, KpV.refl _ _⟩
  case round =>
    clear h0 hJ0
    obtain ⟨k, hk, rfl, hJs, hkp⟩ := hrel
    by_cases hlt : k < m
    · have hkl : k < xs.length := by rw [← HL.out]; exact hlt
      obtain ⟨b, o, u, rfl, _, hbl, hr, hc⟩ := (HS.out.keep hkp.1 (fun b hb _ => hkp.2 b hb)).at1 hkl rfl
      obtain ⟨x, hx⟩ : ∃ x, x = xs[k] := ⟨_, rfl⟩
      obtain ⟨hr, _⟩ := hr
      injection hr with hr; subst hr
      rw [← hx] at hc
      have HX := Lib.hid hx
      have hi0 : (0 : Int) ≤ (k : Int) := by omega
      have hi1 : (k : Int) < (m : Int) := by omega
      obtain ⟨fn, tmps, assign, body, hy, hR⟩ := hY _ x wr hJs (by rw [List.length_take]; omega)
      have HKP := Lib.hid hkp; clear hkp hx
      gi_wp2
      refine hR.mono ?_
      rintro e W3 (⟨rfl, hJ3, hk3⟩ | ⟨rfl, hJx3⟩)
      · have HK3 := Lib.hid hk3; clear hk3
        gi_wp2
        go_roundw
        case rel => exact ⟨k + 1, by omega, by go_num, by rw [List.take_succ_eq_append_getElem hkl, ← HX.out]; exact hJ3, HKP.out.trans HK3.out⟩
        case measure => simp [intOf]; omega
      · gi_wp2
        refine bodyPost_ret (results_none rfl _ _ _) rfl ?_
        exact ⟨⟨_, rfl⟩, .inr ⟨_, ⟨k + 1, by omega, by rw [List.take_succ_eq_append_getElem hkl, ← HX.out]⟩, hJx3⟩⟩
    · obtain rfl : k = m := by omega
      have e1 : xs.take k = xs := List.take_of_length_le (by rw [← HL.out]; exact Nat.le_refl _)
      rw [e1] at hJs
      gi_wp2
      go_end0
      first | exact ⟨⟨_, rfl⟩, .inl ⟨_, rfl, hJs⟩⟩ | exact ⟨⟨_, rfl⟩, .inl hJs⟩ | exact .inl hJs | exact hJs
end Go.Proofs.YtpmglcachffojaaGreatDoor
namespace Go.Proofs.YtpmglcachffojaaGreatDoor
open Go Go.RowKit Go.Shelf
attribute [local go_sem] Oper.semAt_some

theorem grown_of_below {w w' : World} {row : Option Nat} (h : Below w.heap.size w w') : w.grownBy w' row := ⟨h.os, h.tape, h.output, h.size, fun k hk _ => h.block k hk⟩
theorem grown_set {w w1 : World} {g : Nat} (h : w.grownBy w1 (some g)) (j : Nat) (v : Value) : w.grownBy (w1.setCell ⟨g, j, none⟩ v) (some g) :=
  ⟨h.os, h.tape, h.output, by simpa using h.size, fun k hk hr => (Below.heap_setCell w1 ⟨g, j, none⟩ v k (fun e => hr (by rw [e]))).trans (h.block k hk hr)⟩
theorem grown_trans {w w1 w2 : World} {row : Option Nat} (h : w.grownBy w1 row) (k : w1.grownBy w2 row) : w.grownBy w2 row :=
  ⟨k.os.trans h.os, k.tape.trans h.tape, k.output.trans h.output, Nat.le_trans h.size k.size, fun i hi hr => (k.block i (Nat.lt_of_lt_of_le hi h.size) hr).trans (h.block i hi hr)⟩
theorem grown_alloc {w w1 : World} {row : Option Nat} (h : w.grownBy w1 row) (o : Obj) : w.grownBy (w1.alloc o) row :=
  ⟨h.os, h.tape, h.output, by have := h.size; simp; omega, fun k hk hr => (Below.heap_alloc w1 o k (Nat.lt_of_lt_of_le hk h.size)).trans (h.block k hk hr)⟩
theorem grown_drew {w w1 : World} {row : Option Nat} (h : w.grownBy w1 row) : w.grownBy w1.drew row := ⟨h.os, h.tape, h.output, h.size, h.block⟩
def svs (l : List ByteArray) : List Value := l.map Value.string
/-- A row of texts of the call's own. -/
def OwnS (w : World) (B : Nat) (A : Option Addr) (n c : Nat) (l : List ByteArray) : Prop := w.ownsRow B 9 1 (.slice A n c) n (svs l)
theorem OwnS.nil_ (w : World) (B : Nat) : OwnS w B none 0 0 [] := World.ownsRow_nil w B _ _
theorem ownS_cells {w : World} {B : Nat} {A : Option Addr} {n c : Nat} {l : List ByteArray} (h : OwnS w B A n c l) {b : Nat} (hb : A.map (·.block) = some b) : ∃ cur e fr, w.heap[b]? = some (.cells cur e fr) ∧ B ≤ b := by
  rcases h.2 with ⟨h1, _⟩ | ⟨g, cap, cur, h1, hB, hg, _⟩
  · injection h1 with h1; subst h1; cases hb
  · injection h1 with h1; subst h1; injection hb with hb; subst hb; exact ⟨cur, _, _, hg, hB⟩
theorem apsIn1 {F : Fence} {nF : Nat} {ops : Array Oper} {rest : List Oper} {o : Oper} {a : Act} {Q : Exit → Act → World → Prop} (hgd : o.guard = none) (s x : Operand) (ho : o.op = .call { callee := .builtin .append, args := #[s, x], argTypes := #[89, 89] })
    (w wx : World) (B : Nat) (A : Option Addr) (n c : Nat) (xs : List ByteArray) (hs : a.eval s = .slice A n c) (hown : OwnS w B A n c xs) (hB : B ≤ w.heap.size) (y : ByteArray) (hwx : wx = w.alloc (.cells #[.string y] 9)) (hx : a.eval x = .slice (some ⟨w.heap.size, 0, none⟩) 1 1) (hlim : n ≤ 34359738368)
    (h : ∀ A' c' w', OwnS w' B A' (n + 1) c' (xs ++ [y]) → wx.grownBy w' (A.map (·.block)) → wpListIn F nF Tryz.prog ops Q rest (a.put o.dst (.slice A' (n + 1) c')) w') : wpListIn F nF Tryz.prog ops Q (o :: rest) a wx := by
  subst hwx
  refine wpListIn_plain hgd fun K hK => ?_
  obtain ⟨A', c', w', hrun, h2, h3, _⟩ := run_append_rd elemStr o.type (w.alloc (.cells #[.string y] 9)) B (.slice A n c) n (svs xs) (World.ownsRow.alloc hown _) (fun b => b = w.heap.size) (some ⟨w.heap.size, 0, none⟩) 1 1 [.string y] rfl (Rd.new w _ _) (by intro u hu; simp at hu; subst hu; rfl) (by omega) (by rw [World.size_alloc]; omega)
  unfold Oper.wpIn
  refine ⟨by simp [Oper.about, ho, resolve, Target.leads, Sem.run_pure], ?_⟩
  rw [Oper.semAt_plain F _ _ (by rw [ho]; intro c hc'; cases hc')]
  simp [execOp, ho, resolve, invoke, builtin, hs, hx, hrun, Result.andThen]
  rw [ownBlock_slice] at h3
  exact hK _ _ (h A' c' w' (by unfold OwnS svs; rw [List.map_append]; exact h2) h3)
/-- Between two rounds. -/
structure ApS (w : World) (k2 : Nat) (pre : List ByteArray) (W : World) : Prop where
  st : ∃ A c, W.heap[k2]? = some (.cells #[.slice A pre.length c] 89 (0, 0)) ∧ OwnS W (k2 + 1) A pre.length c pre
  below : Below k2 w W
  size : k2 + 1 ≤ W.heap.size
theorem ApS.own (w : World) (k2 : Nat) (hk : k2 = w.heap.size) : OwnFrom (k2 + 1) (ApS w k2) := fun pre W W' row hs hg hr => by
  obtain ⟨⟨A, c, h1, h2⟩, h3, h4⟩ := hs
  refine ⟨⟨A, c, (hg.block k2 (by omega) (fun e => by have := (hr _ e.symm).1; omega)).trans h1, own_keep h2 fun b hb => hg.block b (h2.lt b hb).2 (fun e => ?_)⟩, h3.grown hg (by omega) (fun k e => by have := (hr k e).1; omega), Nat.le_trans h4 hg.size⟩
  obtain ⟨_, o, ho, hc⟩ := hr b e.symm
  rw [ownBlock_slice] at hb
  obtain ⟨cur, ty, fr, h8, _⟩ := ownS_cells h2 hb
  rw [h8] at ho
  injection ho with ho
  subst ho
  cases hc
theorem KpV.put {K : Nat} (W : World) (l : Nat) (o o' : Obj) (hl : K ≤ l) (_ : W.heap[l]? = some o) (_ : o.isCells = false) (_ : o.isWalk = false) : KpV K W (W.putObj l o') :=
  ⟨by have := (grownBy_putObj' W l o').size; exact this, fun b hb => World.putObj_heap_other (by omega)⟩
theorem vals_stops (F : Fence) (n : Nat) (hf : F.fn 209) (hro : F.round = none) (hn : 1 ≤ n) (bb K : Nat) (A : Option Addr) (m c : Nat) (xs : List ByteArray) (w : World) (h0 : w.cell? ⟨bb, 0, none⟩ = some (.slice A m c)) (hs : Sl tStr (fun b => b < K) w A m c xs) :
    SeqStopsK F n Tryz.prog 209 #[.pointer (some ⟨bb, 0, none⟩)] (fun x : ByteArray => #[.string x]) (KpV K) (fun ys => ys = xs) (fun pre => ∃ k, k ≤ m ∧ pre = xs.take k) m w := fun l J Jx W hW _ _ hY hJ0 =>
  vals1_in F n hf hro hn l bb K A m c xs J Jx hY W ((hW.cell (p := ⟨bb, 0, none⟩) (World.block_lt_of_cell? w _ h0)).trans h0) (hs.below hW (Nat.le_refl _)) hJ0
set_option maxRecDepth 100000 in
set_option maxHeartbeats 4000000 in
theorem appseq_any (bb : Nat) (F : Nat → Prop) (A : Option Addr) (m c : Nat) (xs : List ByteArray) (w : World) (h0 : w.cell? ⟨bb, 0, none⟩ = some (.slice A m c)) (hs : Sl tStr F w A m c xs) (hm : m ≤ 4096) :
    Calls Tryz.prog 251 #[.slice none 0 0, .func (.func 209) #[] #[.pointer (some ⟨bb, 0, none⟩)]] w fun e W => ∃ A' c', e = .returned (.slice A' m c') ∧ OwnS W w.heap.size A' m c' xs ∧ Below w.heap.size w W := by
  have hbb := World.block_lt_of_cell? w _ h0
  have hlen := hs.len
  obtain ⟨W0, hW0⟩ : ∃ W0, W0 = w.alloc (.cells #[.slice none 0 0] 89) := ⟨_, rfl⟩
  have hsz : W0.heap.size = w.heap.size + 1 := by rw [hW0]; simp
  have hb0 : Below w.heap.size w W0 := by rw [hW0]; exact (Below.refl _ _).alloc (Nat.le_refl _) _
  have hv0 : W0.heap[w.heap.size]? = some (.cells #[.slice none 0 0] 89 (0, 0)) := by rw [hW0]; exact heap_alloc_new w _
  have hc0 : W0.cell? ⟨bb, 0, none⟩ = some (.slice A m c) := kcell hb0 h0
  have hs0 : Sl tStr (fun b => b < w.heap.size) W0 A m c xs := (hs.weaken (F' := fun b => b < w.heap.size) fun b _ hb => hb).below hb0 (Nat.le_refl _)
  have hI0 : ApS w w.heap.size [] W0 := ⟨⟨none, 0, hv0, OwnS.nil_ _ _⟩, hb0, by omega⟩
  have HW0 := Lib.hid hW0; have HB0 := Lib.hid hb0; have HSZ := Lib.hid hsz; have HLEN := Lib.hid hlen
  clear hs h0 hb0 hv0 hW0
  refine (callsIn_wide (n := 3)).1 ?_
  refine callsIn_of_wp_marks Tryz.func251 rfl trivial ?_ rfl
  simp only [Tryz.ntmps251, List.size_toArray, List.length_cons, List.length_nil, Nat.reduceAdd, Nat.reduceSub, Array.replicate_succ, Array.replicate_zero, List.push_toArray, List.append_toArray, List.nil_append, List.cons_append]
  gi_wp2
  rw [← HW0.out]
  refine wpIn_rangeFunc_ownG rfl (by omega) (gf := 209) (lb := #[.pointer (some ⟨bb, 0, none⟩)]) rfl trivial (enters_of Tryz.func209 (by kernel_rfl) rfl)
    (vals_stops Fence.wide _ trivial rfl (by omega) bb w.heap.size A m c xs W0 hc0 hs0) KpV.trans (fun W l o o' h1 => KpV.put W l o o' (by omega)) (Below.refl _ _) (fun _ => rfl)
    (ApS w w.heap.size) (fun _ _ _ => False) (by rw [HSZ.out]; exact ApS.own w _ rfl) (fun _ _ _ _ _ h _ _ => h) hI0
    (fun x => { tmps := #[.slice none 0 0, .func (.func 209) #[] #[.pointer (some ⟨bb, 0, none⟩)], .pointer (some ⟨w.heap.size, 0, none⟩), undef, .slice none 0 0, .string x, .func (.func 209) #[] #[.pointer (some ⟨bb, 0, none⟩)], .string x, undef, undef, undef, undef, undef], defers := [] }) ?assign ?body ?done ?stop
  case assign =>
    intro l x W K hK
    gi_wp2
    exact hK
  case body =>
    rintro l' pre x W ⟨⟨A6, c6, hbox, hown⟩, hbl, hsw⟩ hpl
    have HBOX := Lib.hid hbox; have HOWN := Lib.hid hown; have HBL := Lib.hid hbl
    have v0 : W.cell? ⟨w.heap.size, 0, none⟩ = some (.slice A6 pre.length c6) := by rw [Lib.cell_of_heap hbox]; rfl
    have vf : W.frozen? ⟨w.heap.size, 0, none⟩ = false := Lib.frozen_of_heap hbox 0
    clear hbox hown hbl
    gi_wp2_with (first
      | (gi_at_builtin; refine apsIn1 rfl (.tmp 8) (.tmp 10) rfl W _ (w.heap.size + 1) A6 pre.length c6 pre (by rfl) HOWN.out hsw x (by rfl) (by rfl) (by omega) ?_; intro A7 c7 w7 hown7 hg7; have HO7 := Lib.hid hown7; have HG7 : Hid (W.grownBy w7 (A6.map (·.block))) := Lib.hid (grown_trans (grown_alloc (grown_of_below (Below.refl _ W)) _) hg7); have v7 : w7.cell? ⟨w.heap.size, 0, none⟩ = some (.slice A6 pre.length c6) := HG7.out.cell v0 (fun e => by obtain ⟨_, _, _, _, h8⟩ := ownS_cells HOWN.out e.symm; have h9 : w.heap.size + 1 ≤ w.heap.size := h8; omega); have vf7 : w7.frozen? ⟨w.heap.size, 0, none⟩ = false := Lib.frozen_of_heap (HG7.out.block (w.heap.size) (by omega) (fun e => by obtain ⟨_, _, _, _, h8⟩ := ownS_cells HOWN.out e.symm; omega) |>.trans HBOX.out) 0; clear hown7 hg7)
      | fail)
    have hA6 : ∀ k, A6.map (·.block) = some k → w.heap.size + 1 ≤ k := fun k e => by obtain ⟨_, _, _, _, h8⟩ := ownS_cells HOWN.out e; exact h8
    have hsz7 := HG7.out.size
    have e7 : (pre ++ [x]).length = pre.length + 1 := by simp
    refine ⟨((KeepsOthers.of_grownBy HG7.out fun j o hj ho => by obtain ⟨cur, e1, fr, h8, _⟩ := ownS_cells HOWN.out hj; rw [h8] at ho; injection ho with ho; subst ho; rfl).trans (KeepsOthers.setCell _ _ _)).from _, ⟨by simpa using hsz7, fun b hb => (Below.heap_setCell _ _ _ _ (by simp; omega)).trans (HG7.out.block b (by omega) (fun e => by have := hA6 _ e.symm; omega))⟩, ?_⟩
    refine ⟨⟨A7, c7, ?_, ?_⟩, ?_, by simp; omega⟩
    · rw [e7]
      exact heap_set ((HG7.out.block (w.heap.size) (by omega) (fun e => by have := hA6 _ e.symm; omega)).trans HBOX.out) rfl
    · rw [e7]
      refine own_keep HO7.out (fun b hb => Below.heap_setCell _ _ _ _ ?_)
      have h8 := (HO7.out.lt b hb).1
      simp
      omega
    · exact bsetc (HBL.out.grown HG7.out (by omega) (fun k e => by have := hA6 k e; omega)) (Nat.le_refl _) _
  case done =>
    rintro D ys W hD rfl ⟨⟨A6, c6, hbox, hown⟩, hbl, hsw⟩ hK
    have v0 : W.cell? ⟨w.heap.size, 0, none⟩ = some (.slice A6 ys.length c6) := by rw [Lib.cell_of_heap hbox]; rfl
    have HOWN := Lib.hid hown; have HBL := Lib.hid hbl; have HKD := Lib.hid hK
    clear hbox hown hbl hK
    gi_wp2
    refine ⟨by simp, .inl ⟨_, _, rfl, run_takeDeferred HKD.out, ?_⟩⟩
    have hp := grownBy_putObj' W D (.deferred none)
    refine ⟨_, results_tmp rfl _ _ _, A6, c6, by rw [HLEN.out]; rfl, ?_, HBL.out.grown hp (by omega) (fun k e => by injection e with e; omega)⟩
    rw [HLEN.out]
    refine own_down (own_keep HOWN.out fun b hb => World.putObj_heap_other (fun e => ?_)) (Nat.le_succ _)
    rw [ownBlock_slice] at hb
    obtain ⟨cur, ty, fr, h8, _⟩ := ownS_cells HOWN.out hb
    rw [e, HKD.out] at h8
    cases h8
  case stop =>
    rintro D c pre W hD _ h
    exact h.elim
end Go.Proofs.YtpmglcachffojaaGreatDoor
namespace Go.Proofs.YtpmglcachffojaaGreatDoor
open Go Go.RowKit Go.Sort

def mkS (b : List UInt8) : ByteArray := ⟨b.toArray⟩
def bytesS (l : List ByteArray) : List (List UInt8) := l.map (·.data.toList)
theorem mk_bytes (l : List ByteArray) : (bytesS l).map mkS = l := by
  unfold bytesS
  rw [List.map_map]
  conv => rhs; rw [← List.map_id l]
  rfl
theorem bytes_mk (l : List (List UInt8)) : bytesS (l.map mkS) = l := by
  unfold bytesS
  rw [List.map_map]
  conv => rhs; rw [← List.map_id l]
  apply List.map_congr_left
  intro b _
  simp [mkS]
theorem svs_mk (l : List (List UInt8)) : svs (l.map mkS) = l.map encStr := by
  unfold svs
  rw [List.map_map]
  rfl
theorem svs_bytes (l : List ByteArray) : svs l = (bytesS l).map encStr := by rw [← svs_mk, mk_bytes]
def sortL (l : List (List UInt8)) : List (List UInt8) := l.mergeSort fun x y => decide (x ≤ y)
/-- What texts.Words tells. -/
def wordsL (l : List ByteArray) : List (List UInt8) := Lib.compact (sortL (bytesS l))
theorem OwnS.len {w : World} {B : Nat} {A : Option Addr} {n c : Nat} {l : List ByteArray} (h : OwnS w B A n c l) : n = l.length := by
  have := h.1
  unfold svs at this
  simp at this
  omega
theorem ownS_front {w : World} {B : Nat} {A : Option Addr} {n c : Nat} {l : List ByteArray} (h : OwnS w B A n c l) {k : Nat} (hk : k ≤ n) (hA : A ≠ none) : OwnS w B A k c (l.take k) := by
  have hl := h.len
  refine ⟨by unfold svs; simp; omega, ?_⟩
  rcases h.2 with ⟨h1, h2⟩ | ⟨g, cap, cur, h1, hb, hg, hn, hc, hs, ht⟩
  · injection h1 with h1; exact absurd h1 hA
  · injection h1 with e1 e2 e3; subst e1 e3
    refine .inr ⟨g, c, cur, rfl, hb, hg, by omega, hc, hs, ?_⟩
    have e4 : svs (l.take k) = (svs l).take (k * 1) := by unfold svs; rw [List.map_take, Nat.mul_one]
    rw [e4, ← ht, List.take_take, Nat.min_eq_left (Nat.mul_le_mul_right 1 hk)]
theorem sort_any (B : Nat) (A : Option Addr) (n c : Nat) (l : List ByteArray) (w : World) (h : OwnS w B A n c l) (hB : B ≤ w.heap.size) (hn : n ≤ 4096) :
    Calls Tryz.prog 208 #[.slice A n c] w fun e w' => e = .returned (.tuple #[]) ∧ OwnS w' B A n c ((sortL (bytesS l)).map mkS) ∧ Below B w w' := by
  have hl := h.len
  have hlen : (bytesS l).length = n := by unfold bytesS; simp; omega
  rcases h.2 with ⟨h1, h2⟩ | ⟨g, cap, cur, h1, hb, hg, hnc, hc, hs, ht⟩
  · injection h1 with e1 e2 e3
    subst e1 e3 h2
    have : l = [] := List.length_eq_zero_iff.1 hl.symm
    subst this
    refine (Tryz.slices_Sort_string_none none 0 w).mono ?_
    rintro e w' ⟨rfl, rfl⟩
    exact ⟨rfl, by simpa [bytesS, sortL] using h, Below.refl _ _⟩
  · injection h1 with e1 e2 e3
    subst e1 e3
    have hH : Holds encStr w g 0 (bytesS l).toArray := holds_of_block hg (by rw [hlen, ← svs_bytes, ← ht, Nat.mul_one])
    have hgl : g < w.heap.size := (Array.getElem?_eq_some_iff.1 hg).1
    have hC := Tryz.slices_Sort_string g 0 c (bytesS l) w hH hgl (by omega)
    rw [hlen] at hC
    refine hC.mono ?_
    rintro e w' ⟨rfl, q, os, rfl⟩
    have hr := ownsRow_sorted (n := q) (os := os) (ss := bytesS l) (ts := sortL (bytesS l)) (by simp [sortL]) hb hg (by omega) hc hs
    rw [hlen, ← svs_mk] at hr
    exact ⟨rfl, hr, (Below.refl B w).grown (grownBy_sorted _) hB (fun j hj => by cases hj; exact hb)⟩
theorem compact_len (zs : List (List UInt8)) : (Lib.compact zs).length ≤ zs.length := by
  unfold Lib.compact Lib.compactUpTo
  rw [List.length_map]
  exact Nat.le_trans (List.length_filter_le _ _) (by simp)
theorem compact_any (B : Nat) (A : Option Addr) (n c : Nat) (l : List ByteArray) (w : World) (h : OwnS w B A n c l) (hB : B ≤ w.heap.size) (hn : n ≤ 4096) :
    Calls Tryz.prog 164 #[.slice A n c] w fun e w' => e = .returned (.slice A (Lib.compact (bytesS l)).length c) ∧ OwnS w' B A (Lib.compact (bytesS l)).length c ((Lib.compact (bytesS l)).map mkS) ∧ Below B w w' := by
  have hl := h.len
  have hlen : (bytesS l).length = n := by unfold bytesS; simp; omega
  rcases h.2 with ⟨h1, h2⟩ | ⟨g, cap, cur, h1, hb, hg, hnc, hc, hs, ht⟩
  · injection h1 with e1 e2 e3
    subst e1 e3 h2
    have : l = [] := List.length_eq_zero_iff.1 hl.symm
    subst this
    refine (Tryz.slices_Compact_string_empty none 0 w).mono ?_
    rintro e w' ⟨rfl, rfl⟩
    exact ⟨rfl, h, Below.refl _ _⟩
  · injection h1 with e1 e2 e3
    subst e1 e3
    have hH : Holds encStr w g 0 (bytesS l).toArray := holds_of_block hg (by rw [hlen, ← svs_bytes, ← ht, Nat.mul_one])
    have hC := Tryz.slices_Compact_string g 0 c (bytesS l) w hH (by omega) (by omega)
    rw [hlen] at hC
    refine hC.mono ?_
    rintro e w' ⟨rfl, q, hw⟩
    have hcl := compact_len (bytesS l)
    have hw2 : w' = grow (Go.Sort.putRow encStr (Sort.ahead w q) g 0 (Lib.compact (bytesS l) ++ List.replicate (n - (Lib.compact (bytesS l)).length) []).toArray) #[] := by rw [hw]; simp [grow]; rfl
    have hr := ownsRow_sorted (n := q) (os := #[]) (ss := bytesS l) (ts := Lib.compact (bytesS l) ++ List.replicate (n - (Lib.compact (bytesS l)).length) []) (by simp; omega) hb hg (by omega) hc hs
    rw [← hw2, hlen, ← svs_mk] at hr
    have hf := ownS_front (A := some ⟨g, 0, none⟩) hr (k := (Lib.compact (bytesS l)).length) (by omega) (by simp)
    rw [← List.map_take, List.take_left' rfl] at hf
    exact ⟨rfl, hf, by rw [hw2]; exact (Below.refl B w).grown (grownBy_sorted _) hB (fun j hj => by cases hj; exact hb)⟩
theorem values_any (A : Option Addr) (n c : Nat) (w : World) :
    Calls Tryz.prog 166 #[.slice A n c] w fun e w' => e = .returned (.func (.func 209) #[] #[.pointer (some ⟨w.heap.size, 0, none⟩)]) ∧ w' = w.alloc (.cells #[.slice A n c] 89) := by
  go_enter Tryz.func166, Tryz.ntmps166
  go_wp2_with fail
  go_ret
  exact ⟨rfl, rfl⟩
theorem collect_any (bb : Nat) (F : Nat → Prop) (A : Option Addr) (m c : Nat) (xs : List ByteArray) (w : World) (h0 : w.cell? ⟨bb, 0, none⟩ = some (.slice A m c)) (hs : Sl tStr F w A m c xs) (hm : m ≤ 4096) :
    Calls Tryz.prog 207 #[.func (.func 209) #[] #[.pointer (some ⟨bb, 0, none⟩)]] w fun e W => ∃ A' c', e = .returned (.slice A' m c') ∧ OwnS W w.heap.size A' m c' xs ∧ Below w.heap.size w W := by
  have H := Lib.hid (appseq_any bb F A m c xs w h0 hs hm)
  clear h0 hs
  go_enter Tryz.func207, Tryz.ntmps207
  go_wp2_with (first
    | (go_at_call 251; refine H.out.mono ?_; rintro e w1 ⟨A1, c1, rfl, ho1, hb1⟩; have HO1 := Lib.hid ho1; have HB1 := Lib.hid hb1; clear ho1 hb1)
    | fail)
  go_ret
  exact ⟨A1, c1, rfl, HO1.out, HB1.out⟩
theorem sorted_any (bb : Nat) (F : Nat → Prop) (A : Option Addr) (m c : Nat) (xs : List ByteArray) (w : World) (h0 : w.cell? ⟨bb, 0, none⟩ = some (.slice A m c)) (hs : Sl tStr F w A m c xs) (hm : m ≤ 4096) :
    Calls Tryz.prog 165 #[.func (.func 209) #[] #[.pointer (some ⟨bb, 0, none⟩)]] w fun e W => ∃ A' c', e = .returned (.slice A' m c') ∧ OwnS W w.heap.size A' m c' ((sortL (bytesS xs)).map mkS) ∧ Below w.heap.size w W := by
  have H := Lib.hid (collect_any bb F A m c xs w h0 hs hm)
  clear h0 hs
  go_enter Tryz.func165, Tryz.ntmps165
  go_wp2_with (first
    | (go_at_call 207; refine H.out.mono ?_; rintro e w1 ⟨A1, c1, rfl, ho1, hb1⟩; have HO1 := Lib.hid ho1; have HB1 := Lib.hid hb1; clear ho1 hb1)
    | (go_at_call 208; refine (sort_any w.heap.size A1 m c1 xs w1 HO1.out HB1.out.size hm).mono ?_; rintro e w2 ⟨rfl, ho2, hb2⟩; have HO2 := Lib.hid ho2; have HB2 := Lib.hid (HB1.out.trans hb2); clear ho2 hb2)
    | fail)
  go_ret
  exact ⟨A1, c1, rfl, HO2.out, HB2.out⟩
def wordsS (l : List ByteArray) : List ByteArray := (wordsL l).map mkS
theorem words_any (F : Nat → Prop) (A : Option Addr) (n c : Nat) (l : List ByteArray) (w : World) (h : Sl tStr F w A n c l) (hn : n ≤ 4096) :
    Calls Tryz.prog 99 #[.slice A n c] w fun e W => ∃ A' c', e = .returned (.slice A' (wordsL l).length c') ∧ OwnS W w.heap.size A' (wordsL l).length c' (wordsS l) ∧ Below w.heap.size w W := by
  obtain ⟨w0, hw0⟩ : ∃ w0, w0 = w.alloc (.cells #[.slice A n c] 89) := ⟨_, rfl⟩
  have hb0 : Below w.heap.size w w0 := by rw [hw0]; exact (Below.refl _ _).alloc (Nat.le_refl _) _
  have hc0 : w0.cell? ⟨w.heap.size, 0, none⟩ = some (.slice A n c) := by rw [hw0, World.cell?_alloc_new]; rfl
  have HS := Lib.hid (sorted_any w.heap.size F A n c l w0 hc0 (h.below hb0 (Nat.le_refl _)) hn)
  have HB0 := Lib.hid hb0; have HW0 := Lib.hid hw0
  clear h hb0 hc0 hw0
  go_enter Tryz.func99, Tryz.ntmps99
  go_wp2_with (first
    | (go_at_call 166; refine (values_any A n c w).mono ?_; rintro e w1 ⟨rfl, hw1⟩; obtain rfl : w1 = w0 := hw1.trans HW0.out.symm; clear hw1)
    | (go_at_call 165; refine HS.out.mono ?_; rintro e w2 ⟨A2, c2, rfl, ho2, hb2⟩; have HO2 := Lib.hid (show OwnS w2 w.heap.size A2 n c2 _ from own_down ho2 HB0.out.size); have HB2 := Lib.hid (HB0.out.trans (hb2.mono HB0.out.size)); clear ho2 hb2)
    | (go_at_call 164; refine (compact_any w.heap.size A2 n c2 _ w2 HO2.out HB2.out.size hn).mono ?_; rintro e w3 ⟨rfl, ho3, hb3⟩; rw [bytes_mk] at ho3 ⊢; have HO3 := Lib.hid ho3; have HB3 := Lib.hid (HB2.out.trans hb3); clear ho3 hb3)
    | fail)
  go_ret
  exact ⟨A2, c2, rfl, HO3.out, HB3.out⟩
end Go.Proofs.YtpmglcachffojaaGreatDoor
