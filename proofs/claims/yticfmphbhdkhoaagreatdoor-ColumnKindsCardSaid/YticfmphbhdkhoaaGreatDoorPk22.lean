/- Printed by gen_each.py. nulls.each, ints.numbers: a list that a function makes of values. Printed by gen_cdel.py. -/
import Derived.Test.YticfmphbhdkhoaaGreatDoorPk21
import Derived.Lib.SliceRun
import Derived.Laws.IdiomCopy
namespace Go.Proofs.YticfmphbhdkhoaaGreatDoor
open Go Go.RowKit

theorem elemBool : ElemOf Tryz.prog 54 4 tBool.size := ElemOf.mk' (bytes := 1) (z := .bool false) (by kernel_rfl) (by kernel_rfl) rfl (by decide) (by decide)
theorem elemI64 : ElemOf Tryz.prog 61 3 tI64.size := ElemOf.mk' (bytes := 8) (z := .int .i64 0) (by kernel_rfl) (by kernel_rfl) rfl (by decide) (by decide)
theorem calls_same {P : Program} {f : FuncId} {args : Array Value} {w : World} {r : Ending} (h : Calls P f args w fun e w' => e = r ∧ w = w') : Calls P f args w fun e w' => e = r ∧ Below w.heap.size w w' :=
  h.mono fun _ _ h2 => ⟨h2.1, by rw [← h2.2]; exact Below.refl _ _⟩
theorem at_app {P : Program} {ops : Array Oper} {o : Oper} {a : Act} {w : World} {Q : Exit → Act → World → Prop} {K : Act → World → Prop} {E' : Prop} (s x : Operand) (t : TypeId) (_ : o.op = .call { callee := .builtin .append, args := #[s, x], argTypes := #[t, t] })
    (h : if Region.wanted o (yielded ops a.tmps) = true then Oper.wp P o a w K Q else E') : if Region.wanted o (yielded ops a.tmps) = true then Oper.wp P o a w K Q else E' := h
/-- The call answers a list of its own. -/
def OwnE {α : Type} (T : Ty α) (t : TypeId) (l : List α) (w : World) (e : Ending) (w' : World) : Prop :=
  ∃ A n c, e = .returned (.slice A n c) ∧ Own T t w' w.heap.size A n c l ∧ Below w.heap.size w w'
set_option maxRecDepth 100000 in
set_option maxHeartbeats 1000000 in
theorem each_any (F : Nat → Prop) (A : Option Addr) (n c : Nat) (l : List VV) (w : World) (h : Sl tVV F w A n c l) (hl : n ≤ 4096) :
    Calls Tryz.prog 55 #[.slice A n c, .func (.func 56) #[] #[]] w (OwnE tBool 4 (l.map (fun v : VV => !v.null)) w) := by
  have HL := Lib.hid h.len
  go_enter Tryz.func55, Tryz.ntmps55
  go_wp2
  go_loopw [5, 10] (fun v i wr => ∃ (k : Nat) (A2 : Option Addr) (c2 : Nat) (G : Nat → Prop), k ≤ n ∧ i = .int .i64 k ∧ v = .slice A2 k c2 ∧ OwnF tBool 4 G wr w.heap.size A2 k c2 ((l.take k).map (fun v : VV => !v.null)) ∧ Below w.heap.size w wr)
    (fun _ i _ => n - (intOf i).toNat)
  case atStart => exact ⟨0, none, 0, fun _ => False, Nat.zero_le _, rfl, rfl, OwnF.nil_ _ _ _ _ _, Below.refl _ _⟩
  case round =>
    obtain ⟨k, A2, c2, G, hk, rfl, rfl, hown, hb⟩ := hrel
    by_cases hlt : k < n
    · have hkl : k < l.length := by rw [← HL.out]; exact hlt
      obtain ⟨b, o, cs, rfl, _, hbl, hrep, hc⟩ := (h.below hb (Nat.le_refl _)).at_ hkl (by decide)
      obtain ⟨v, hf⟩ : ∃ v, v = l[k] := ⟨_, rfl⟩
      obtain ⟨rfl, hok⟩ := hrep
      rw [← hf] at hc hok
      obtain ⟨nu, x, s⟩ := v
      obtain ⟨x0, x1, _⟩ := hok
      have x0 : -9223372036854775808 ≤ x := x0
      have x1 : x ≤ 9223372036854775807 := x1
      have HF := Lib.hid hf; clear hf
      obtain ⟨g0, g1, g2⟩ := cells3 hc
      clear hc
      have g0 : _ = some (Value.bool nu) := g0
      have g1 : _ = some (Value.int .i64 x) := g1
      have g2 : _ = some (Value.string s) := g2
      have HO := Lib.hid hown; clear hown
      have hsz := hb.size
      
      go_wp2_with (first
        | (go_at_call 56; refine (is_any nu x s _).mono ?_; rintro e w1 ⟨rfl, hb3⟩; have HB3 := Lib.hid hb3; clear hb3)
        | (at_builtin; refine apl1 (T := tBool) elemBool w1 w rfl (.tmp 14) (.tmp 18) rfl w.heap.size A2 k c2 ((l.take k).map (fun v : VV => !v.null)) (by rfl) G (fun _ => False) (by first | exact (HO.out.alloc _).keepB HB3.out | exact ((HO.out.alloc _).keepB ((Below.refl _ _).drew)).keepB HB3.out) (by first | exact (hb.alloc hsz _).trans (HB3.out.mono (by simp; omega)) | exact (hb.alloc hsz _).drew.trans (HB3.out.mono (by simp; omega))) (Nat.le_refl _) _ (by rfl) [.bool (!nu)] ((fun v : VV => !v.null) ⟨nu, x, s⟩) (by rfl) 4 rfl (fun _ _ _ _ h4 => h4) (by omega) ?_; intro A5 c5 w5 h5))
      go_roundw
      case rel =>
        have e1 : (l.take (k + 1)).map (fun v : VV => !v.null) = (l.take k).map (fun v : VV => !v.null) ++ [(fun v : VV => !v.null) ⟨nu, x, s⟩] := by
          rw [List.take_succ_eq_append_getElem hkl, List.map_append, ← HF.out]; rfl
        have e2 := h5.own
        rw [← e1] at e2
        exact ⟨k + 1, A5, c5, _, by omega, by go_num, rfl, e2, h5.below⟩
      case measure => simp [intOf]; omega
    · obtain rfl : k = n := by omega
      have e1 : l.take k = l := List.take_of_length_le (by rw [← HL.out]; exact Nat.le_refl _)
      rw [e1] at hown
      have HO := Lib.hid hown; clear hown e1
      go_wp2
      go_ret
      exact ⟨A2, k, c2, rfl, ⟨G, HO.out⟩, hb⟩
set_option maxRecDepth 100000 in
set_option maxHeartbeats 1000000 in
theorem truths_any (F : Nat → Prop) (A : Option Addr) (n c : Nat) (l : List VV) (w : World) (h : Sl tVV F w A n c l) (hl : n ≤ 4096) :
    Calls Tryz.prog 31 #[.slice A n c, .func (.func 32) #[] #[]] w (OwnE tBool 4 (l.map (fun v : VV => v.n == 1)) w) := by
  have HL := Lib.hid h.len
  go_enter Tryz.func31, Tryz.ntmps31
  go_wp2
  go_loopw [5, 10] (fun v i wr => ∃ (k : Nat) (A2 : Option Addr) (c2 : Nat) (G : Nat → Prop), k ≤ n ∧ i = .int .i64 k ∧ v = .slice A2 k c2 ∧ OwnF tBool 4 G wr w.heap.size A2 k c2 ((l.take k).map (fun v : VV => v.n == 1)) ∧ Below w.heap.size w wr)
    (fun _ i _ => n - (intOf i).toNat)
  case atStart => exact ⟨0, none, 0, fun _ => False, Nat.zero_le _, rfl, rfl, OwnF.nil_ _ _ _ _ _, Below.refl _ _⟩
  case round =>
    obtain ⟨k, A2, c2, G, hk, rfl, rfl, hown, hb⟩ := hrel
    by_cases hlt : k < n
    · have hkl : k < l.length := by rw [← HL.out]; exact hlt
      obtain ⟨b, o, cs, rfl, _, hbl, hrep, hc⟩ := (h.below hb (Nat.le_refl _)).at_ hkl (by decide)
      obtain ⟨v, hf⟩ : ∃ v, v = l[k] := ⟨_, rfl⟩
      obtain ⟨rfl, hok⟩ := hrep
      rw [← hf] at hc hok
      obtain ⟨nu, x, s⟩ := v
      obtain ⟨x0, x1, _⟩ := hok
      have x0 : -9223372036854775808 ≤ x := x0
      have x1 : x ≤ 9223372036854775807 := x1
      have HF := Lib.hid hf; clear hf
      obtain ⟨g0, g1, g2⟩ := cells3 hc
      clear hc
      have g0 : _ = some (Value.bool nu) := g0
      have g1 : _ = some (Value.int .i64 x) := g1
      have g2 : _ = some (Value.string s) := g2
      have HO := Lib.hid hown; clear hown
      have hsz := hb.size
      
      go_wp2_with (first
        | (go_at_call 32; refine (calls_same (isone_any x _)).mono ?_; rintro e w1 ⟨rfl, hb3⟩; have HB3 := Lib.hid hb3; clear hb3)
        | (at_builtin; refine apl1 (T := tBool) elemBool w1 w rfl (.tmp 14) (.tmp 19) rfl w.heap.size A2 k c2 ((l.take k).map (fun v : VV => v.n == 1)) (by rfl) G (fun _ => False) (by first | exact (HO.out.alloc _).keepB HB3.out | exact ((HO.out.alloc _).keepB ((Below.refl _ _).drew)).keepB HB3.out) (by first | exact (hb.alloc hsz _).trans (HB3.out.mono (by simp; omega)) | exact (hb.alloc hsz _).drew.trans (HB3.out.mono (by simp; omega))) (Nat.le_refl _) _ (by rfl) [.bool (x == 1)] ((fun v : VV => v.n == 1) ⟨nu, x, s⟩) (by rfl) 4 rfl (fun _ _ _ _ h4 => h4) (by omega) ?_; intro A5 c5 w5 h5))
      go_roundw
      case rel =>
        have e1 : (l.take (k + 1)).map (fun v : VV => v.n == 1) = (l.take k).map (fun v : VV => v.n == 1) ++ [(fun v : VV => v.n == 1) ⟨nu, x, s⟩] := by
          rw [List.take_succ_eq_append_getElem hkl, List.map_append, ← HF.out]; rfl
        have e2 := h5.own
        rw [← e1] at e2
        exact ⟨k + 1, A5, c5, _, by omega, by go_num, rfl, e2, h5.below⟩
      case measure => simp [intOf]; omega
    · obtain rfl : k = n := by omega
      have e1 : l.take k = l := List.take_of_length_le (by rw [← HL.out]; exact Nat.le_refl _)
      rw [e1] at hown
      have HO := Lib.hid hown; clear hown e1
      go_wp2
      go_ret
      exact ⟨A2, k, c2, rfl, ⟨G, HO.out⟩, hb⟩
set_option maxRecDepth 100000 in
set_option maxHeartbeats 1000000 in
theorem wholes_any (F : Nat → Prop) (A : Option Addr) (n c : Nat) (l : List VV) (w : World) (h : Sl tVV F w A n c l) (hl : n ≤ 4096) :
    Calls Tryz.prog 34 #[.slice A n c, .func (.func 35) #[] #[]] w (OwnE tI64 3 (l.map (fun v : VV => v.n / 1000)) w) := by
  have HL := Lib.hid h.len
  go_enter Tryz.func34, Tryz.ntmps34
  go_wp2
  go_loopw [5, 10] (fun v i wr => ∃ (k : Nat) (A2 : Option Addr) (c2 : Nat) (G : Nat → Prop), k ≤ n ∧ i = .int .i64 k ∧ v = .slice A2 k c2 ∧ OwnF tI64 3 G wr w.heap.size A2 k c2 ((l.take k).map (fun v : VV => v.n / 1000)) ∧ Below w.heap.size w wr)
    (fun _ i _ => n - (intOf i).toNat)
  case atStart => exact ⟨0, none, 0, fun _ => False, Nat.zero_le _, rfl, rfl, OwnF.nil_ _ _ _ _ _, Below.refl _ _⟩
  case round =>
    obtain ⟨k, A2, c2, G, hk, rfl, rfl, hown, hb⟩ := hrel
    by_cases hlt : k < n
    · have hkl : k < l.length := by rw [← HL.out]; exact hlt
      obtain ⟨b, o, cs, rfl, _, hbl, hrep, hc⟩ := (h.below hb (Nat.le_refl _)).at_ hkl (by decide)
      obtain ⟨v, hf⟩ : ∃ v, v = l[k] := ⟨_, rfl⟩
      obtain ⟨rfl, hok⟩ := hrep
      rw [← hf] at hc hok
      obtain ⟨nu, x, s⟩ := v
      obtain ⟨x0, x1, _⟩ := hok
      have x0 : -9223372036854775808 ≤ x := x0
      have x1 : x ≤ 9223372036854775807 := x1
      have HF := Lib.hid hf; clear hf
      obtain ⟨g0, g1, g2⟩ := cells3 hc
      clear hc
      have g0 : _ = some (Value.bool nu) := g0
      have g1 : _ = some (Value.int .i64 x) := g1
      have g2 : _ = some (Value.string s) := g2
      have HO := Lib.hid hown; clear hown
      have hsz := hb.size
      have HZ := Lib.hid (show -9223372036854775808 ≤ ((fun v : VV => v.n / 1000) ⟨nu, x, s⟩) ∧ ((fun v : VV => v.n / 1000) ⟨nu, x, s⟩) ≤ 9223372036854775807 by constructor <;> (show _ ≤ _; dsimp only; omega))
      go_wp2_with (first
        | (go_at_call 35; refine (calls_same (whole_any x x0 x1 _)).mono ?_; rintro e w1 ⟨rfl, hb3⟩; have HB3 := Lib.hid hb3; clear hb3)
        | (at_builtin; refine apl1 (T := tI64) elemI64 w1 w rfl (.tmp 14) (.tmp 19) rfl w.heap.size A2 k c2 ((l.take k).map (fun v : VV => v.n / 1000)) (by rfl) G (fun _ => False) (by first | exact (HO.out.alloc _).keepB HB3.out | exact ((HO.out.alloc _).keepB ((Below.refl _ _).drew)).keepB HB3.out) (by first | exact (hb.alloc hsz _).trans (HB3.out.mono (by simp; omega)) | exact (hb.alloc hsz _).drew.trans (HB3.out.mono (by simp; omega))) (Nat.le_refl _) _ (by rfl) [.int .i64 (x / 1000)] ((fun v : VV => v.n / 1000) ⟨nu, x, s⟩) ⟨rfl, HZ.out⟩ 3 rfl (fun _ _ _ _ h4 => h4) (by omega) ?_; intro A5 c5 w5 h5))
      go_roundw
      case rel =>
        have e1 : (l.take (k + 1)).map (fun v : VV => v.n / 1000) = (l.take k).map (fun v : VV => v.n / 1000) ++ [(fun v : VV => v.n / 1000) ⟨nu, x, s⟩] := by
          rw [List.take_succ_eq_append_getElem hkl, List.map_append, ← HF.out]; rfl
        have e2 := h5.own
        rw [← e1] at e2
        exact ⟨k + 1, A5, c5, _, by omega, by go_num, rfl, e2, h5.below⟩
      case measure => simp [intOf]; omega
    · obtain rfl : k = n := by omega
      have e1 : l.take k = l := List.take_of_length_le (by rw [← HL.out]; exact Nat.le_refl _)
      rw [e1] at hown
      have HO := Lib.hid hown; clear hown e1
      go_wp2
      go_ret
      exact ⟨A2, k, c2, rfl, ⟨G, HO.out⟩, hb⟩
set_option maxRecDepth 100000 in
set_option maxHeartbeats 1000000 in
theorem lefts_any (F : Nat → Prop) (A : Option Addr) (n c : Nat) (l : List VV) (w : World) (h : Sl tVV F w A n c l) (hl : n ≤ 4096) :
    Calls Tryz.prog 34 #[.slice A n c, .func (.func 36) #[] #[]] w (OwnE tI64 3 (l.map (fun v : VV => v.n % 1000)) w) := by
  have HL := Lib.hid h.len
  go_enter Tryz.func34, Tryz.ntmps34
  go_wp2
  go_loopw [5, 10] (fun v i wr => ∃ (k : Nat) (A2 : Option Addr) (c2 : Nat) (G : Nat → Prop), k ≤ n ∧ i = .int .i64 k ∧ v = .slice A2 k c2 ∧ OwnF tI64 3 G wr w.heap.size A2 k c2 ((l.take k).map (fun v : VV => v.n % 1000)) ∧ Below w.heap.size w wr)
    (fun _ i _ => n - (intOf i).toNat)
  case atStart => exact ⟨0, none, 0, fun _ => False, Nat.zero_le _, rfl, rfl, OwnF.nil_ _ _ _ _ _, Below.refl _ _⟩
  case round =>
    obtain ⟨k, A2, c2, G, hk, rfl, rfl, hown, hb⟩ := hrel
    by_cases hlt : k < n
    · have hkl : k < l.length := by rw [← HL.out]; exact hlt
      obtain ⟨b, o, cs, rfl, _, hbl, hrep, hc⟩ := (h.below hb (Nat.le_refl _)).at_ hkl (by decide)
      obtain ⟨v, hf⟩ : ∃ v, v = l[k] := ⟨_, rfl⟩
      obtain ⟨rfl, hok⟩ := hrep
      rw [← hf] at hc hok
      obtain ⟨nu, x, s⟩ := v
      obtain ⟨x0, x1, _⟩ := hok
      have x0 : -9223372036854775808 ≤ x := x0
      have x1 : x ≤ 9223372036854775807 := x1
      have HF := Lib.hid hf; clear hf
      obtain ⟨g0, g1, g2⟩ := cells3 hc
      clear hc
      have g0 : _ = some (Value.bool nu) := g0
      have g1 : _ = some (Value.int .i64 x) := g1
      have g2 : _ = some (Value.string s) := g2
      have HO := Lib.hid hown; clear hown
      have hsz := hb.size
      have HZ := Lib.hid (show -9223372036854775808 ≤ ((fun v : VV => v.n % 1000) ⟨nu, x, s⟩) ∧ ((fun v : VV => v.n % 1000) ⟨nu, x, s⟩) ≤ 9223372036854775807 by constructor <;> (show _ ≤ _; dsimp only; omega))
      go_wp2_with (first
        | (go_at_call 36; refine (calls_same (left_any x x0 x1 _)).mono ?_; rintro e w1 ⟨rfl, hb3⟩; have HB3 := Lib.hid hb3; clear hb3)
        | (at_builtin; refine apl1 (T := tI64) elemI64 w1 w rfl (.tmp 14) (.tmp 19) rfl w.heap.size A2 k c2 ((l.take k).map (fun v : VV => v.n % 1000)) (by rfl) G (fun _ => False) (by first | exact (HO.out.alloc _).keepB HB3.out | exact ((HO.out.alloc _).keepB ((Below.refl _ _).drew)).keepB HB3.out) (by first | exact (hb.alloc hsz _).trans (HB3.out.mono (by simp; omega)) | exact (hb.alloc hsz _).drew.trans (HB3.out.mono (by simp; omega))) (Nat.le_refl _) _ (by rfl) [.int .i64 (x % 1000)] ((fun v : VV => v.n % 1000) ⟨nu, x, s⟩) ⟨rfl, HZ.out⟩ 3 rfl (fun _ _ _ _ h4 => h4) (by omega) ?_; intro A5 c5 w5 h5))
      go_roundw
      case rel =>
        have e1 : (l.take (k + 1)).map (fun v : VV => v.n % 1000) = (l.take k).map (fun v : VV => v.n % 1000) ++ [(fun v : VV => v.n % 1000) ⟨nu, x, s⟩] := by
          rw [List.take_succ_eq_append_getElem hkl, List.map_append, ← HF.out]; rfl
        have e2 := h5.own
        rw [← e1] at e2
        exact ⟨k + 1, A5, c5, _, by omega, by go_num, rfl, e2, h5.below⟩
      case measure => simp [intOf]; omega
    · obtain rfl : k = n := by omega
      have e1 : l.take k = l := List.take_of_length_le (by rw [← HL.out]; exact Nat.le_refl _)
      rw [e1] at hown
      have HO := Lib.hid hown; clear hown e1
      go_wp2
      go_ret
      exact ⟨A2, k, c2, rfl, ⟨G, HO.out⟩, hb⟩
set_option maxRecDepth 100000 in
set_option maxHeartbeats 1000000 in
theorem nums_any (F : Nat → Prop) (A : Option Addr) (n c : Nat) (l : List VV) (w : World) (h : Sl tVV F w A n c l) (hl : n ≤ 4096) :
    Calls Tryz.prog 34 #[.slice A n c, .func (.func 37) #[] #[]] w (OwnE tI64 3 (l.map (fun v : VV => v.n)) w) := by
  have HL := Lib.hid h.len
  go_enter Tryz.func34, Tryz.ntmps34
  go_wp2
  go_loopw [5, 10] (fun v i wr => ∃ (k : Nat) (A2 : Option Addr) (c2 : Nat) (G : Nat → Prop), k ≤ n ∧ i = .int .i64 k ∧ v = .slice A2 k c2 ∧ OwnF tI64 3 G wr w.heap.size A2 k c2 ((l.take k).map (fun v : VV => v.n)) ∧ Below w.heap.size w wr)
    (fun _ i _ => n - (intOf i).toNat)
  case atStart => exact ⟨0, none, 0, fun _ => False, Nat.zero_le _, rfl, rfl, OwnF.nil_ _ _ _ _ _, Below.refl _ _⟩
  case round =>
    obtain ⟨k, A2, c2, G, hk, rfl, rfl, hown, hb⟩ := hrel
    by_cases hlt : k < n
    · have hkl : k < l.length := by rw [← HL.out]; exact hlt
      obtain ⟨b, o, cs, rfl, _, hbl, hrep, hc⟩ := (h.below hb (Nat.le_refl _)).at_ hkl (by decide)
      obtain ⟨v, hf⟩ : ∃ v, v = l[k] := ⟨_, rfl⟩
      obtain ⟨rfl, hok⟩ := hrep
      rw [← hf] at hc hok
      obtain ⟨nu, x, s⟩ := v
      obtain ⟨x0, x1, _⟩ := hok
      have x0 : -9223372036854775808 ≤ x := x0
      have x1 : x ≤ 9223372036854775807 := x1
      have HF := Lib.hid hf; clear hf
      obtain ⟨g0, g1, g2⟩ := cells3 hc
      clear hc
      have g0 : _ = some (Value.bool nu) := g0
      have g1 : _ = some (Value.int .i64 x) := g1
      have g2 : _ = some (Value.string s) := g2
      have HO := Lib.hid hown; clear hown
      have hsz := hb.size
      have HZ := Lib.hid (show -9223372036854775808 ≤ ((fun v : VV => v.n) ⟨nu, x, s⟩) ∧ ((fun v : VV => v.n) ⟨nu, x, s⟩) ≤ 9223372036854775807 by constructor <;> (show _ ≤ _; dsimp only; omega))
      go_wp2_with (first
        | (go_at_call 37; refine (calls_same (ident_any x _)).mono ?_; rintro e w1 ⟨rfl, hb3⟩; have HB3 := Lib.hid hb3; clear hb3)
        | (at_builtin; refine apl1 (T := tI64) elemI64 w1 w rfl (.tmp 14) (.tmp 19) rfl w.heap.size A2 k c2 ((l.take k).map (fun v : VV => v.n)) (by rfl) G (fun _ => False) (by first | exact (HO.out.alloc _).keepB HB3.out | exact ((HO.out.alloc _).keepB ((Below.refl _ _).drew)).keepB HB3.out) (by first | exact (hb.alloc hsz _).trans (HB3.out.mono (by simp; omega)) | exact (hb.alloc hsz _).drew.trans (HB3.out.mono (by simp; omega))) (Nat.le_refl _) _ (by rfl) [.int .i64 x] ((fun v : VV => v.n) ⟨nu, x, s⟩) ⟨rfl, HZ.out⟩ 3 rfl (fun _ _ _ _ h4 => h4) (by omega) ?_; intro A5 c5 w5 h5))
      go_roundw
      case rel =>
        have e1 : (l.take (k + 1)).map (fun v : VV => v.n) = (l.take k).map (fun v : VV => v.n) ++ [(fun v : VV => v.n) ⟨nu, x, s⟩] := by
          rw [List.take_succ_eq_append_getElem hkl, List.map_append, ← HF.out]; rfl
        have e2 := h5.own
        rw [← e1] at e2
        exact ⟨k + 1, A5, c5, _, by omega, by go_num, rfl, e2, h5.below⟩
      case measure => simp [intOf]; omega
    · obtain rfl : k = n := by omega
      have e1 : l.take k = l := List.take_of_length_le (by rw [← HL.out]; exact Nat.le_refl _)
      rw [e1] at hown
      have HO := Lib.hid hown; clear hown e1
      go_wp2
      go_ret
      exact ⟨A2, k, c2, rfl, ⟨G, HO.out⟩, hb⟩
end Go.Proofs.YticfmphbhdkhoaaGreatDoor
/- A row of values that a call owns: its elements stored into, cut, cleared, sorted. -/
namespace Go.Proofs.YticfmphbhdkhoaaGreatDoor
open Go Go.RowKit

theorem elemVV : ElemOf Tryz.prog 22 36 tVV.size := ElemOf.mk' (bytes := 32) (z := .agg #[.bool false, .int .i64 0, .string ⟨#[]⟩]) (by kernel_rfl) (by kernel_rfl) rfl (by decide) (by decide)
def encV (d : VV) : List Value := [.bool d.null, .int .i64 d.n, .string d.s]
def cellsV (l : List VV) : List Value := (l.map encV).flatten
theorem cellsV_len : ∀ l : List VV, (cellsV l).length = l.length * 3
  | [] => rfl
  | d :: r => by
    have := cellsV_len r
    simp only [cellsV, List.map_cons, List.flatten_cons, List.length_append, encV, List.length_cons, List.length_nil] at this ⊢
    omega
theorem cellsV_cons (d : VV) (r : List VV) : cellsV (d :: r) = encV d ++ cellsV r := rfl
theorem cellsV_app (l m : List VV) : cellsV (l ++ m) = cellsV l ++ cellsV m := by simp [cellsV]
theorem cellsV_get : ∀ (l : List VV) (k j : Nat) (h : k < l.length) (u : Value), (encV l[k])[j]? = some u → (cellsV l)[k * 3 + j]? = some u
  | d :: r, 0, j, _, u, hu => by
    have hj : j < 3 := by
      rcases Nat.lt_or_ge j 3 with h | h
      · exact h
      · rw [List.getElem?_eq_none (by simpa [encV] using h)] at hu; cases hu
    rw [cellsV_cons, Nat.zero_mul, Nat.zero_add, List.getElem?_append_left (by simpa [encV] using hj)]
    exact hu
  | d :: r, k + 1, j, h, u, hu => by
    have ih := cellsV_get r k j (by simpa using h) u (by simpa using hu)
    rw [cellsV_cons, List.getElem?_append_right (by simp [encV]; omega), show (k + 1) * 3 + j - (encV d).length = k * 3 + j by simp [encV]; omega]
    exact ih
theorem cellsV_take (l : List VV) (k : Nat) : (cellsV l).take (k * 3) = cellsV (l.take k) := by
  induction l generalizing k with
  | nil => simp [cellsV]
  | cons d r ih =>
    cases k with
    | zero => simp [cellsV]
    | succ k =>
      rw [cellsV_cons, List.take_succ_cons, cellsV_cons, ← ih k, List.take_append, List.take_of_length_le (by simp [encV]; omega)]
      congr 2
      simp [encV]; omega
theorem cellsV_set : ∀ (l : List VV) (i : Nat) (d : VV), i < l.length → (((cellsV l).set (i * 3) (.bool d.null)).set (i * 3 + 1) (.int .i64 d.n)).set (i * 3 + 2) (.string d.s) = cellsV (l.set i d)
  | e :: r, 0, d, _ => rfl
  | e :: r, i + 1, d, h => by
    have ih := cellsV_set r i d (by simpa using h)
    rw [List.set_cons_succ, cellsV_cons, cellsV_cons, ← ih]
    simp only [encV, List.cons_append, List.nil_append, show (i + 1) * 3 = i * 3 + 1 + 1 + 1 by omega]
    rfl
theorem repsV (F : Nat → Prop) (w : World) (l : List VV) (h : ∀ d ∈ l, d.ok) : Reps tVV F w (l.map encV) l := by
  refine ⟨by simp, fun i cs x h1 h2 => ?_⟩
  rw [List.getElem?_map, h2] at h1
  simp at h1
  subst h1
  exact ⟨rfl, h x (List.mem_of_getElem? h2)⟩
theorem repsV_eq {F : Nat → Prop} {w : World} {css : List (List Value)} {l : List VV} (h : Reps tVV F w css l) : css = l.map encV ∧ ∀ d ∈ l, d.ok := by
  have hk : ∀ i (hi : i < l.length), css[i]? = some (encV l[i]) ∧ (l[i]).ok := fun i hi => by
    have hc : i < css.length := by rw [h.1]; exact hi
    have := h.2 i _ _ (List.getElem?_eq_getElem hc) (List.getElem?_eq_getElem hi)
    exact ⟨by rw [List.getElem?_eq_getElem hc, this.1]; rfl, this.2⟩
  refine ⟨List.ext_getElem? fun i => ?_, fun d hd => ?_⟩
  · rcases Nat.lt_or_ge i l.length with hi | hi
    · rw [(hk i hi).1, List.getElem?_map, List.getElem?_eq_getElem hi]; rfl
    · rw [List.getElem?_eq_none (by rw [h.1]; exact hi), List.getElem?_eq_none (by simpa using hi)]
  · obtain ⟨i, hi, rfl⟩ := List.getElem_of_mem hd
    exact (hk i hi).2

/-- The values l, in a row that the call owns, from block B on. -/
structure OwnV (w : World) (B : Nat) (A : Option Addr) (n c : Nat) (l : List VV) : Prop where
  row : w.ownsRow B 36 3 (.slice A n c) n (cellsV l)
  ok : ∀ d ∈ l, d.ok
section
variable {w w' : World} {B n c : Nat} {A : Option Addr} {l : List VV}
theorem OwnV.len (h : OwnV w B A n c l) : n = l.length := by
  have := h.row.1
  rw [cellsV_len] at this; omega
theorem OwnV.ownF (h : OwnV w B A n c l) : OwnF tVV 36 (fun _ => False) w B A n c l := ⟨⟨l.map encV, h.row, repsV _ w l h.ok⟩, by simp, h.len⟩
theorem ownV_of {F : Nat → Prop} (h : OwnF tVV 36 F w B A n c l) : OwnV w B A n c l := by
  obtain ⟨⟨css, h1, h2⟩, _, _⟩ := h
  obtain ⟨rfl, h3⟩ := repsV_eq h2
  exact ⟨h1, h3⟩
theorem OwnV.sl (h : OwnV w B A n c l) : Sl tVV (fun b => B ≤ b) w A n c l := h.ownF.sl.weaken fun b hb _ => by rcases hb with hb | hb; exact hb.elim; exact hb.2
theorem OwnV.cap (h : OwnV w B A n c l) : n ≤ c ∧ c ≤ maxLen := own_cap h.row
theorem OwnV.keepB (h : OwnV w B A n c l) (hb : Below w.heap.size w w') : OwnV w' B A n c l := ⟨own_keep h.row fun b hb' => hb.block b (h.row.lt b hb').2, h.ok⟩
theorem OwnV.front (h : OwnV w B A n c l) {k : Nat} (hk : k ≤ n) (hA : A ≠ none) : OwnV w B A k c (l.take k) := by
  refine ⟨⟨by rw [cellsV_len, List.length_take, ← h.len]; omega, ?_⟩, fun d hd => h.ok d (List.mem_of_mem_take hd)⟩
  rcases h.row.2 with ⟨h1, h2⟩ | ⟨g, cap, cur, h1, hb, hg, hn, hc, hs, ht⟩
  · injection h1 with h1; exact absurd h1 hA
  · injection h1 with e1 e2 e3; subst e1 e3
    refine .inr ⟨g, c, cur, rfl, hb, hg, by omega, hc, hs, ?_⟩
    rw [← cellsV_take, ← ht, List.take_take, Nat.min_eq_left (Nat.mul_le_mul_right 3 hk)]
variable {g : Nat}
theorem OwnV.cell (h : OwnV w B (some ⟨g, 0, none⟩) n c l) {i : Nat} (hi : i < l.length) : w.cell? ⟨g, i * 3, none⟩ = some (.bool l[i].null) ∧ w.cell? ⟨g, i * 3 + 1, none⟩ = some (.int .i64 l[i].n) ∧ w.cell? ⟨g, i * 3 + 2, none⟩ = some (.string l[i].s) := by
  have hn := h.len
  refine ⟨?_, ?_, ?_⟩
  · rw [h.row.cellAt (i * 3) (by omega)]
    exact cellsV_get l i 0 hi _ rfl
  · rw [h.row.cellAt (i * 3 + 1) (by omega)]
    exact cellsV_get l i 1 hi _ rfl
  · rw [h.row.cellAt (i * 3 + 2) (by omega)]
    exact cellsV_get l i 2 hi _ rfl
theorem OwnV.free (h : OwnV w B (some ⟨g, 0, none⟩) n c l) (j : Nat) : w.frozen? ⟨g, j, none⟩ = false := h.row.frozenAt j
theorem OwnV.base (h : OwnV w B (some ⟨g, 0, none⟩) n c l) : B ≤ g ∧ g < w.heap.size := h.row.lt g rfl
/-- s[i] = d. -/
theorem OwnV.set (h : OwnV w B (some ⟨g, 0, none⟩) n c l) {i : Nat} (hi : i < l.length) (d : VV) (hd : d.ok) :
    OwnV (((w.setCell ⟨g, i * 3, none⟩ (.bool d.null)).setCell ⟨g, i * 3 + 1, none⟩ (.int .i64 d.n)).setCell ⟨g, i * 3 + 2, none⟩ (.string d.s)) B (some ⟨g, 0, none⟩) n c (l.set i d) := by
  have h1 := (h.row.stored (i * 3) (.bool d.null)).1
  have h2 := (h1.stored (i * 3 + 1) (.int .i64 d.n)).1
  have h3 := (h2.stored (i * 3 + 2) (.string d.s)).1
  rw [cellsV_set l i d hi] at h3
  refine ⟨h3, fun e he => ?_⟩
  rcases List.mem_or_eq_of_mem_set he with he | rfl
  · exact h.ok e he
  · exact hd
/-- Cells behind the part that counts are stored into. -/
theorem OwnV.past (h : OwnV w B (some ⟨g, 0, none⟩) n c l) : ∀ (vs : List Value) (o : Nat), n * 3 ≤ o → OwnV (w.setCells g o vs) B (some ⟨g, 0, none⟩) n c l := by
  intro vs
  induction vs generalizing w with
  | nil => intro o _; exact h
  | cons v r ih =>
    intro o ho
    have h1 := (h.row.stored o v).1
    rw [List.set_eq_of_length_le (by rw [cellsV_len, ← h.len]; exact ho)] at h1
    exact ih (w := w.setCell ⟨g, o, none⟩ v) ⟨h1, h.ok⟩ (o + 1) (by omega)
end
theorem below_setCells {B g : Nat} {a : World} (hg : B ≤ g) : ∀ (vs : List Value) (o : Nat) (w : World), Below B a w → Below B a (w.setCells g o vs)
  | [], _, _, h => h
  | v :: r, o, _, h => below_setCells hg r (o + 1) _ (bsetc h hg v)

/-- clear(s[i:]) of values. -/
theorem run_clearV (w : World) (g o m c : Nat) (hm : 0 < m) (hc : ∀ j, j < m * 3 → (w.cell? ⟨g, o + j, none⟩).isSome = true) (hf : ∀ j, j < m * 3 → w.frozen? ⟨g, o + j, none⟩ = false) :
    ∃ vs, ∀ ty, (Builtin.clear_ #[22] ty #[.slice (some ⟨g, o, none⟩) m c]).run Tryz.prog w = .ok (.tuple #[]) (w.setCells g o vs) := by
  obtain ⟨vs, hvs⟩ : ∃ vs, vs = (Builtin.zeroCells (Value.agg #[.bool false, .int .i64 0, .string ⟨#[]⟩]).cells m).toList := ⟨_, rfl⟩
  have hlen : vs.length = m * 3 := by rw [hvs]; simp [Builtin.zeroCells, Value.cells]
  have hone : ∀ v ∈ vs, v.oneCell' = true := by
    intro v hv
    rw [hvs] at hv
    obtain ⟨i, hi, rfl⟩ := List.getElem_of_mem hv
    simp [Builtin.zeroCells, Value.cells] at hi ⊢
    have : i % 3 < 3 := Nat.mod_lt _ (by decide)
    match i % 3, this with
    | 0, _ => simp; rfl
    | 1, _ => simp; rfl
    | 2, _ => simp; rfl
  refine ⟨vs, fun ty => ?_⟩
  have hst := run_storeCells_cells (P := Tryz.prog) g o vs 0 w (by simpa [hlen] using hc) (by simpa [hlen] using hf) hone
  simp only [Nat.add_zero] at hst
  have hz : ∀ w, (zeroValue 36).run Tryz.prog w = .ok (.agg #[.bool false, .int .i64 0, .string ⟨#[]⟩]) w := Tryz.zeroValue36
  obtain ⟨k, rfl⟩ : ∃ k, m = k + 1 := ⟨m - 1, by omega⟩
  simp [Builtin.clear_, run_underlying (show Tryz.prog.underlying 22 = some (.slice 36) by kernel_rfl), hz, ← hvs, hst]
end Go.Proofs.YticfmphbhdkhoaaGreatDoor
