/- A part of what Puts leans on. -/
import Derived.Test.YtpmglcachffojaaGreatDoorZ23
import Derived.Lib.OthersKept
import Derived.Lib.ValidLaws
import Derived.Laws.RangeAny
import Derived.Laws.StructEq
import Derived.Lib.QuoteBits
set_option maxRecDepth 100000
set_option maxHeartbeats 16000000
namespace Go.Proofs.YtpmglcachffojaaGreatDoor
section
open Go Go.RowKit
theorem uuU : zzZ Tryz.prog 139 4 yy8.size := zzZ.mk' (bytes := 1) (z := .bool false) (by kernel_rfl) (by kernel_rfl) rfl (by decide) (by decide)
theorem zzQ : zzZ Tryz.prog 94 3 tI64.size := zzZ.mk' (bytes := 8) (z := .int .i64 0) (by kernel_rfl) (by kernel_rfl) rfl (by decide) (by decide)
theorem vvd {P : Program} {f : FuncId} {args : Array Value} {w : World} {r : Ending} (h : Calls P f args w fun e w' => e = r ∧ w = w') : Calls P f args w fun e w' => e = r ∧ Below w.heap.size w w' :=
 h.mono fun _ _ h2 => ⟨h2.1, by rw [← h2.2]; exact zR⟩
def OwnE {α : Type} (T : Ty α) (t : TypeId) (l : List α) (w : World) (e : Ending) (w' : World) : Prop :=
 ∃ A n c, e = .returned (.slice A n c) ∧ Own T t w' w.heap.size A n c l ∧ Below w.heap.size w w'
theorem each_any (F : Nat → Prop) (A : Option Addr) (n c : Nat) (l : List VV) (w : World) (h : Sl tVV F w A n c l) (hl : n ≤ 4096) :
 Calls Tryz.prog 146 #[.slice A n c, .func (.func 147) #[] #[]] w (OwnE yy8 4 (l.map (fun v : VV => !v.null)) w) := by
 have HL := zH h.len
 go_enter Tryz.func146, Tryz.ntmps146
 go_wp2
 go_loopw [5, 10] (fun v i wr => ∃ (k : Nat) (A2 : Option Addr) (c2 : Nat) (G : Nat → Prop), k ≤ n ∧ i = .int .i64 k ∧ v = .slice A2 k c2 ∧ OwnF yy8 4 G wr w.heap.size A2 k c2 ((l.take k).map (fun v : VV => !v.null)) ∧ Below w.heap.size w wr)
  (fun _ i _ => n - (intOf i).toNat)
 case atStart => exact ⟨0, none, 0, fun _ => False, Nat.zero_le _, rfl, rfl, OwnF.nil_ _ _ _ _ _, zR⟩
 case round =>
  obtain ⟨k, A2, c2, G, hk, rfl, rfl, hown, hb⟩ := hrel
  by_cases hlt : k < n
  · have hkl : k < l.length := by rw [← HL.out]; exact hlt
    obtain ⟨b, o, cs, rfl, _, hbl, hrep, hc⟩ := (h.below hb zN).at_ hkl (by decide)
    obtain ⟨v, hf⟩ : ∃ v, v = l[k] := ⟨_, rfl⟩
    obtain ⟨rfl, hok⟩ := hrep
    rw [← hf] at hc hok
    obtain ⟨nu, x, s⟩ := v
    obtain ⟨x0, x1, _⟩ := hok
    have x0 : -9223372036854775808 ≤ x := x0
    have x1 : x ≤ 9223372036854775807 := x1
    have HF := zH hf; clear hf
    obtain ⟨g0, g1, g2⟩ := zzR hc
    clear hc
    have g0 : _ = some (Value.bool nu) := g0
    have g1 : _ = some (Value.int .i64 x) := g1
    have g2 : _ = some (Value.string s) := g2
    have HO := zH hown; clear hown
    have hsz := hb.size
    go_wp2_with (first
     | (go_at_call 147; refine (is_any nu x s _).mono ?_; rintro e w1 ⟨rfl, hb3⟩; have HB3 := zH hb3; clear hb3)
     | (at_builtin; refine apl1 (T := yy8) uuU w1 w rfl (.tmp 14) (.tmp 18) rfl w.heap.size A2 k c2 ((l.take k).map (fun v : VV => !v.null)) (by rfl) G (fun _ => False) (by first | exact (HO.out.alloc _).keepB HB3.out | exact ((HO.out.alloc _).keepB ((zR).drew)).keepB HB3.out) (by first | exact (hb.alloc hsz _).trans (HB3.out.mono (by simp; omega)) | exact (hb.alloc hsz _).drew.trans (HB3.out.mono (by simp; omega))) zN _ (by rfl) [.bool (!nu)] ((fun v : VV => !v.null) ⟨nu, x, s⟩) (by rfl) 4 rfl (fun _ _ _ _ h4 => h4) (by omega) ?_; intro A5 c5 w5 h5))
    go_roundw
    case rel =>
     have e1 : (l.take (k + 1)).map (fun v : VV => !v.null) = (l.take k).map (fun v : VV => !v.null) ++ [(fun v : VV => !v.null) ⟨nu, x, s⟩] := by
      rw [zT hkl, List.map_append, ← HF.out]; rfl
     have e2 := h5.own
     rw [← e1] at e2
     exact ⟨k + 1, A5, c5, _, by omega, by go_num, rfl, e2, h5.below⟩
    case measure => simp [intOf]; omega
  · obtain rfl : k = n := by omega
    have e1 : l.take k = l := zL (by rw [← HL.out]; exact Nat.le_refl _)
    rw [e1] at hown
    have HO := zH hown; clear hown e1
    go_wp2
    go_ret
    exact ⟨A2, k, c2, rfl, ⟨G, HO.out⟩, hb⟩
theorem qx4 (F : Nat → Prop) (A : Option Addr) (n c : Nat) (l : List VV) (w : World) (h : Sl tVV F w A n c l) (hl : n ≤ 4096) :
 Calls Tryz.prog 90 #[.slice A n c, .func (.func 91) #[] #[]] w (OwnE yy8 4 (l.map (fun v : VV => v.n == 1)) w) := by
 have HL := zH h.len
 go_enter Tryz.func90, Tryz.ntmps90
 go_wp2
 go_loopw [5, 10] (fun v i wr => ∃ (k : Nat) (A2 : Option Addr) (c2 : Nat) (G : Nat → Prop), k ≤ n ∧ i = .int .i64 k ∧ v = .slice A2 k c2 ∧ OwnF yy8 4 G wr w.heap.size A2 k c2 ((l.take k).map (fun v : VV => v.n == 1)) ∧ Below w.heap.size w wr)
  (fun _ i _ => n - (intOf i).toNat)
 case atStart => exact ⟨0, none, 0, fun _ => False, Nat.zero_le _, rfl, rfl, OwnF.nil_ _ _ _ _ _, zR⟩
 case round =>
  obtain ⟨k, A2, c2, G, hk, rfl, rfl, hown, hb⟩ := hrel
  by_cases hlt : k < n
  · have hkl : k < l.length := by rw [← HL.out]; exact hlt
    obtain ⟨b, o, cs, rfl, _, hbl, hrep, hc⟩ := (h.below hb zN).at_ hkl (by decide)
    obtain ⟨v, hf⟩ : ∃ v, v = l[k] := ⟨_, rfl⟩
    obtain ⟨rfl, hok⟩ := hrep
    rw [← hf] at hc hok
    obtain ⟨nu, x, s⟩ := v
    obtain ⟨x0, x1, _⟩ := hok
    have x0 : -9223372036854775808 ≤ x := x0
    have x1 : x ≤ 9223372036854775807 := x1
    have HF := zH hf; clear hf
    obtain ⟨g0, g1, g2⟩ := zzR hc
    clear hc
    have g0 : _ = some (Value.bool nu) := g0
    have g1 : _ = some (Value.int .i64 x) := g1
    have g2 : _ = some (Value.string s) := g2
    have HO := zH hown; clear hown
    have hsz := hb.size
    go_wp2_with (first
     | (go_at_call 91; refine (vvd (isone_any x _)).mono ?_; rintro e w1 ⟨rfl, hb3⟩; have HB3 := zH hb3; clear hb3)
     | (at_builtin; refine apl1 (T := yy8) uuU w1 w rfl (.tmp 14) (.tmp 19) rfl w.heap.size A2 k c2 ((l.take k).map (fun v : VV => v.n == 1)) (by rfl) G (fun _ => False) (by first | exact (HO.out.alloc _).keepB HB3.out | exact ((HO.out.alloc _).keepB ((zR).drew)).keepB HB3.out) (by first | exact (hb.alloc hsz _).trans (HB3.out.mono (by simp; omega)) | exact (hb.alloc hsz _).drew.trans (HB3.out.mono (by simp; omega))) zN _ (by rfl) [.bool (x == 1)] ((fun v : VV => v.n == 1) ⟨nu, x, s⟩) (by rfl) 4 rfl (fun _ _ _ _ h4 => h4) (by omega) ?_; intro A5 c5 w5 h5))
    go_roundw
    case rel =>
     have e1 : (l.take (k + 1)).map (fun v : VV => v.n == 1) = (l.take k).map (fun v : VV => v.n == 1) ++ [(fun v : VV => v.n == 1) ⟨nu, x, s⟩] := by
      rw [zT hkl, List.map_append, ← HF.out]; rfl
     have e2 := h5.own
     rw [← e1] at e2
     exact ⟨k + 1, A5, c5, _, by omega, by go_num, rfl, e2, h5.below⟩
    case measure => simp [intOf]; omega
  · obtain rfl : k = n := by omega
    have e1 : l.take k = l := zL (by rw [← HL.out]; exact Nat.le_refl _)
    rw [e1] at hown
    have HO := zH hown; clear hown e1
    go_wp2
    go_ret
    exact ⟨A2, k, c2, rfl, ⟨G, HO.out⟩, hb⟩
theorem qx5 (F : Nat → Prop) (A : Option Addr) (n c : Nat) (l : List VV) (w : World) (h : Sl tVV F w A n c l) (hl : n ≤ 4096) :
 Calls Tryz.prog 93 #[.slice A n c, .func (.func 94) #[] #[]] w (OwnE tI64 3 (l.map (fun v : VV => v.n / 1000)) w) := by
 have HL := zH h.len
 go_enter Tryz.func93, Tryz.ntmps93
 go_wp2
 go_loopw [5, 10] (fun v i wr => ∃ (k : Nat) (A2 : Option Addr) (c2 : Nat) (G : Nat → Prop), k ≤ n ∧ i = .int .i64 k ∧ v = .slice A2 k c2 ∧ OwnF tI64 3 G wr w.heap.size A2 k c2 ((l.take k).map (fun v : VV => v.n / 1000)) ∧ Below w.heap.size w wr)
  (fun _ i _ => n - (intOf i).toNat)
 case atStart => exact ⟨0, none, 0, fun _ => False, Nat.zero_le _, rfl, rfl, OwnF.nil_ _ _ _ _ _, zR⟩
 case round =>
  obtain ⟨k, A2, c2, G, hk, rfl, rfl, hown, hb⟩ := hrel
  by_cases hlt : k < n
  · have hkl : k < l.length := by rw [← HL.out]; exact hlt
    obtain ⟨b, o, cs, rfl, _, hbl, hrep, hc⟩ := (h.below hb zN).at_ hkl (by decide)
    obtain ⟨v, hf⟩ : ∃ v, v = l[k] := ⟨_, rfl⟩
    obtain ⟨rfl, hok⟩ := hrep
    rw [← hf] at hc hok
    obtain ⟨nu, x, s⟩ := v
    obtain ⟨x0, x1, _⟩ := hok
    have x0 : -9223372036854775808 ≤ x := x0
    have x1 : x ≤ 9223372036854775807 := x1
    have HF := zH hf; clear hf
    obtain ⟨g0, g1, g2⟩ := zzR hc
    clear hc
    have g0 : _ = some (Value.bool nu) := g0
    have g1 : _ = some (Value.int .i64 x) := g1
    have g2 : _ = some (Value.string s) := g2
    have HO := zH hown; clear hown
    have hsz := hb.size
    have HZ := zH (show -9223372036854775808 ≤ ((fun v : VV => v.n / 1000) ⟨nu, x, s⟩) ∧ ((fun v : VV => v.n / 1000) ⟨nu, x, s⟩) ≤ 9223372036854775807 by constructor <;> (show _ ≤ _; dsimp only; omega))
    go_wp2_with (first
     | (go_at_call 94; refine (vvd (whole_any x x0 x1 _)).mono ?_; rintro e w1 ⟨rfl, hb3⟩; have HB3 := zH hb3; clear hb3)
     | (at_builtin; refine apl1 (T := tI64) zzQ w1 w rfl (.tmp 14) (.tmp 19) rfl w.heap.size A2 k c2 ((l.take k).map (fun v : VV => v.n / 1000)) (by rfl) G (fun _ => False) (by first | exact (HO.out.alloc _).keepB HB3.out | exact ((HO.out.alloc _).keepB ((zR).drew)).keepB HB3.out) (by first | exact (hb.alloc hsz _).trans (HB3.out.mono (by simp; omega)) | exact (hb.alloc hsz _).drew.trans (HB3.out.mono (by simp; omega))) zN _ (by rfl) [.int .i64 (x / 1000)] ((fun v : VV => v.n / 1000) ⟨nu, x, s⟩) ⟨rfl, HZ.out⟩ 3 rfl (fun _ _ _ _ h4 => h4) (by omega) ?_; intro A5 c5 w5 h5))
    go_roundw
    case rel =>
     have e1 : (l.take (k + 1)).map (fun v : VV => v.n / 1000) = (l.take k).map (fun v : VV => v.n / 1000) ++ [(fun v : VV => v.n / 1000) ⟨nu, x, s⟩] := by
      rw [zT hkl, List.map_append, ← HF.out]; rfl
     have e2 := h5.own
     rw [← e1] at e2
     exact ⟨k + 1, A5, c5, _, by omega, by go_num, rfl, e2, h5.below⟩
    case measure => simp [intOf]; omega
  · obtain rfl : k = n := by omega
    have e1 : l.take k = l := zL (by rw [← HL.out]; exact Nat.le_refl _)
    rw [e1] at hown
    have HO := zH hown; clear hown e1
    go_wp2
    go_ret
    exact ⟨A2, k, c2, rfl, ⟨G, HO.out⟩, hb⟩
theorem lefts_any (F : Nat → Prop) (A : Option Addr) (n c : Nat) (l : List VV) (w : World) (h : Sl tVV F w A n c l) (hl : n ≤ 4096) :
 Calls Tryz.prog 93 #[.slice A n c, .func (.func 95) #[] #[]] w (OwnE tI64 3 (l.map (fun v : VV => v.n % 1000)) w) := by
 have HL := zH h.len
 go_enter Tryz.func93, Tryz.ntmps93
 go_wp2
 go_loopw [5, 10] (fun v i wr => ∃ (k : Nat) (A2 : Option Addr) (c2 : Nat) (G : Nat → Prop), k ≤ n ∧ i = .int .i64 k ∧ v = .slice A2 k c2 ∧ OwnF tI64 3 G wr w.heap.size A2 k c2 ((l.take k).map (fun v : VV => v.n % 1000)) ∧ Below w.heap.size w wr)
  (fun _ i _ => n - (intOf i).toNat)
 case atStart => exact ⟨0, none, 0, fun _ => False, Nat.zero_le _, rfl, rfl, OwnF.nil_ _ _ _ _ _, zR⟩
 case round =>
  obtain ⟨k, A2, c2, G, hk, rfl, rfl, hown, hb⟩ := hrel
  by_cases hlt : k < n
  · have hkl : k < l.length := by rw [← HL.out]; exact hlt
    obtain ⟨b, o, cs, rfl, _, hbl, hrep, hc⟩ := (h.below hb zN).at_ hkl (by decide)
    obtain ⟨v, hf⟩ : ∃ v, v = l[k] := ⟨_, rfl⟩
    obtain ⟨rfl, hok⟩ := hrep
    rw [← hf] at hc hok
    obtain ⟨nu, x, s⟩ := v
    obtain ⟨x0, x1, _⟩ := hok
    have x0 : -9223372036854775808 ≤ x := x0
    have x1 : x ≤ 9223372036854775807 := x1
    have HF := zH hf; clear hf
    obtain ⟨g0, g1, g2⟩ := zzR hc
    clear hc
    have g0 : _ = some (Value.bool nu) := g0
    have g1 : _ = some (Value.int .i64 x) := g1
    have g2 : _ = some (Value.string s) := g2
    have HO := zH hown; clear hown
    have hsz := hb.size
    have HZ := zH (show -9223372036854775808 ≤ ((fun v : VV => v.n % 1000) ⟨nu, x, s⟩) ∧ ((fun v : VV => v.n % 1000) ⟨nu, x, s⟩) ≤ 9223372036854775807 by constructor <;> (show _ ≤ _; dsimp only; omega))
    go_wp2_with (first
     | (go_at_call 95; refine (vvd (left_any x x0 x1 _)).mono ?_; rintro e w1 ⟨rfl, hb3⟩; have HB3 := zH hb3; clear hb3)
     | (at_builtin; refine apl1 (T := tI64) zzQ w1 w rfl (.tmp 14) (.tmp 19) rfl w.heap.size A2 k c2 ((l.take k).map (fun v : VV => v.n % 1000)) (by rfl) G (fun _ => False) (by first | exact (HO.out.alloc _).keepB HB3.out | exact ((HO.out.alloc _).keepB ((zR).drew)).keepB HB3.out) (by first | exact (hb.alloc hsz _).trans (HB3.out.mono (by simp; omega)) | exact (hb.alloc hsz _).drew.trans (HB3.out.mono (by simp; omega))) zN _ (by rfl) [.int .i64 (x % 1000)] ((fun v : VV => v.n % 1000) ⟨nu, x, s⟩) ⟨rfl, HZ.out⟩ 3 rfl (fun _ _ _ _ h4 => h4) (by omega) ?_; intro A5 c5 w5 h5))
    go_roundw
    case rel =>
     have e1 : (l.take (k + 1)).map (fun v : VV => v.n % 1000) = (l.take k).map (fun v : VV => v.n % 1000) ++ [(fun v : VV => v.n % 1000) ⟨nu, x, s⟩] := by
      rw [zT hkl, List.map_append, ← HF.out]; rfl
     have e2 := h5.own
     rw [← e1] at e2
     exact ⟨k + 1, A5, c5, _, by omega, by go_num, rfl, e2, h5.below⟩
    case measure => simp [intOf]; omega
  · obtain rfl : k = n := by omega
    have e1 : l.take k = l := zL (by rw [← HL.out]; exact Nat.le_refl _)
    rw [e1] at hown
    have HO := zH hown; clear hown e1
    go_wp2
    go_ret
    exact ⟨A2, k, c2, rfl, ⟨G, HO.out⟩, hb⟩
theorem nums_any (F : Nat → Prop) (A : Option Addr) (n c : Nat) (l : List VV) (w : World) (h : Sl tVV F w A n c l) (hl : n ≤ 4096) :
 Calls Tryz.prog 93 #[.slice A n c, .func (.func 96) #[] #[]] w (OwnE tI64 3 (l.map (fun v : VV => v.n)) w) := by
 have HL := zH h.len
 go_enter Tryz.func93, Tryz.ntmps93
 go_wp2
 go_loopw [5, 10] (fun v i wr => ∃ (k : Nat) (A2 : Option Addr) (c2 : Nat) (G : Nat → Prop), k ≤ n ∧ i = .int .i64 k ∧ v = .slice A2 k c2 ∧ OwnF tI64 3 G wr w.heap.size A2 k c2 ((l.take k).map (fun v : VV => v.n)) ∧ Below w.heap.size w wr)
  (fun _ i _ => n - (intOf i).toNat)
 case atStart => exact ⟨0, none, 0, fun _ => False, Nat.zero_le _, rfl, rfl, OwnF.nil_ _ _ _ _ _, zR⟩
 case round =>
  obtain ⟨k, A2, c2, G, hk, rfl, rfl, hown, hb⟩ := hrel
  by_cases hlt : k < n
  · have hkl : k < l.length := by rw [← HL.out]; exact hlt
    obtain ⟨b, o, cs, rfl, _, hbl, hrep, hc⟩ := (h.below hb zN).at_ hkl (by decide)
    obtain ⟨v, hf⟩ : ∃ v, v = l[k] := ⟨_, rfl⟩
    obtain ⟨rfl, hok⟩ := hrep
    rw [← hf] at hc hok
    obtain ⟨nu, x, s⟩ := v
    obtain ⟨x0, x1, _⟩ := hok
    have x0 : -9223372036854775808 ≤ x := x0
    have x1 : x ≤ 9223372036854775807 := x1
    have HF := zH hf; clear hf
    obtain ⟨g0, g1, g2⟩ := zzR hc
    clear hc
    have g0 : _ = some (Value.bool nu) := g0
    have g1 : _ = some (Value.int .i64 x) := g1
    have g2 : _ = some (Value.string s) := g2
    have HO := zH hown; clear hown
    have hsz := hb.size
    have HZ := zH (show -9223372036854775808 ≤ ((fun v : VV => v.n) ⟨nu, x, s⟩) ∧ ((fun v : VV => v.n) ⟨nu, x, s⟩) ≤ 9223372036854775807 by constructor <;> (show _ ≤ _; dsimp only; omega))
    go_wp2_with (first
     | (go_at_call 96; refine (vvd (ident_any x _)).mono ?_; rintro e w1 ⟨rfl, hb3⟩; have HB3 := zH hb3; clear hb3)
     | (at_builtin; refine apl1 (T := tI64) zzQ w1 w rfl (.tmp 14) (.tmp 19) rfl w.heap.size A2 k c2 ((l.take k).map (fun v : VV => v.n)) (by rfl) G (fun _ => False) (by first | exact (HO.out.alloc _).keepB HB3.out | exact ((HO.out.alloc _).keepB ((zR).drew)).keepB HB3.out) (by first | exact (hb.alloc hsz _).trans (HB3.out.mono (by simp; omega)) | exact (hb.alloc hsz _).drew.trans (HB3.out.mono (by simp; omega))) zN _ (by rfl) [.int .i64 x] ((fun v : VV => v.n) ⟨nu, x, s⟩) ⟨rfl, HZ.out⟩ 3 rfl (fun _ _ _ _ h4 => h4) (by omega) ?_; intro A5 c5 w5 h5))
    go_roundw
    case rel =>
     have e1 : (l.take (k + 1)).map (fun v : VV => v.n) = (l.take k).map (fun v : VV => v.n) ++ [(fun v : VV => v.n) ⟨nu, x, s⟩] := by
      rw [zT hkl, List.map_append, ← HF.out]; rfl
     have e2 := h5.own
     rw [← e1] at e2
     exact ⟨k + 1, A5, c5, _, by omega, by go_num, rfl, e2, h5.below⟩
    case measure => simp [intOf]; omega
  · obtain rfl : k = n := by omega
    have e1 : l.take k = l := zL (by rw [← HL.out]; exact Nat.le_refl _)
    rw [e1] at hown
    have HO := zH hown; clear hown e1
    go_wp2
    go_ret
    exact ⟨A2, k, c2, rfl, ⟨G, HO.out⟩, hb⟩
end
section
open Go Go.RowKit
theorem qxk : zzZ Tryz.prog 22 74 tVV.size := zzZ.mk' (bytes := 32) (z := .agg #[.bool false, .int .i64 0, .string ⟨#[]⟩]) (by kernel_rfl) (by kernel_rfl) rfl (by decide) (by decide)
def encV (d : VV) : List Value := [.bool d.null, .int .i64 d.n, .string d.s]
def xxg (l : List VV) : List Value := (l.map encV).flatten
theorem xxh : ∀ l : List VV, (xxg l).length = l.length * 3
 | [] => rfl
 | d :: r => by
   have := xxh r
   simp only [xxg, List.map_cons, List.flatten_cons, List.length_append, encV, List.length_cons, List.length_nil] at this ⊢
   omega
theorem yyt (d : VV) (r : List VV) : xxg (d :: r) = encV d ++ xxg r := rfl
theorem vve : ∀ (l : List VV) (k j : Nat) (h : k < l.length) (u : Value), (encV l[k])[j]? = some u → (xxg l)[k * 3 + j]? = some u
 | d :: r, 0, j, _, u, hu => by
   have hj : j < 3 := by
    rcases Nat.lt_or_ge j 3 with h | h
    · exact h
    · rw [List.getElem?_eq_none (by simpa [encV] using h)] at hu; cases hu
   rw [yyt, Nat.zero_mul, Nat.zero_add, List.getElem?_append_left (by simpa [encV] using hj)]
   exact hu
 | d :: r, k + 1, j, h, u, hu => by
   have ih := vve r k j (by simpa using h) u (by simpa using hu)
   rw [yyt, List.getElem?_append_right (by simp [encV]; omega), show (k + 1) * 3 + j - (encV d).length = k * 3 + j by simp [encV]; omega]
   exact ih
theorem zqA (l : List VV) (k : Nat) : (xxg l).take (k * 3) = xxg (l.take k) := by
 induction l generalizing k with
 | nil => simp [xxg]
 | cons d r ih =>
   cases k with
   | zero => simp [xxg]
   | succ k =>
     rw [yyt, List.take_succ_cons, yyt, ← ih k, List.take_append, zL (by simp [encV]; omega)]
     congr 2
     simp [encV]; omega
theorem kqm : ∀ (l : List VV) (i : Nat) (d : VV), i < l.length → (((xxg l).set (i * 3) (.bool d.null)).set (i * 3 + 1) (.int .i64 d.n)).set (i * 3 + 2) (.string d.s) = xxg (l.set i d)
 | e :: r, 0, d, _ => rfl
 | e :: r, i + 1, d, h => by
   have ih := kqm r i d (by simpa using h)
   rw [List.set_cons_succ, yyt, yyt, ← ih]
   simp only [encV, List.cons_append, List.nil_append, show (i + 1) * 3 = i * 3 + 1 + 1 + 1 by omega]
   rfl
theorem repsV (F : Nat → Prop) (w : World) (l : List VV) (h : ∀ d ∈ l, d.ok) : Reps tVV F w (l.map encV) l := by
 refine ⟨by simp, fun i cs x h1 h2 => ?_⟩
 rw [List.getElem?_map, h2] at h1
 simp at h1
 subst h1
 exact ⟨rfl, h x (List.mem_of_getElem? h2)⟩
theorem repsV_eq {F : Nat → Prop} {w : World} {css : List (List Value)} {l : List VV} (h : Reps tVV F w css l) : css = l.map encV ∧ ∀ d ∈ l, d.ok := by
 have hk : ∀ i (hi : i < l.length), css[i]? = some (encV l[i]) ∧ (l[i]).ok := fun i hi => by
  have hc : i < css.length := by rw [h.1]; exact hi
  have := h.2 i _ _ (List.getElem?_eq_getElem hc) (List.getElem?_eq_getElem hi)
  exact ⟨by rw [List.getElem?_eq_getElem hc, this.1]; rfl, this.2⟩
 refine ⟨List.ext_getElem? fun i => ?_, fun d hd => ?_⟩
 · rcases Nat.lt_or_ge i l.length with hi | hi
   · rw [(hk i hi).1, List.getElem?_map, List.getElem?_eq_getElem hi]; rfl
   · rw [List.getElem?_eq_none (by rw [h.1]; exact hi), List.getElem?_eq_none (by simpa using hi)]
 · obtain ⟨i, hi, rfl⟩ := List.getElem_of_mem hd
   exact (hk i hi).2
structure OwnV (w : World) (B : Nat) (A : Option Addr) (n c : Nat) (l : List VV) : Prop where
 row : w.ownsRow B 74 3 (.slice A n c) n (xxg l)
 ok : ∀ d ∈ l, d.ok
section
variable {w w' : World} {B n c : Nat} {A : Option Addr} {l : List VV}
theorem OwnV.len (h : OwnV w B A n c l) : n = l.length := by
 have := h.row.1
 rw [xxh] at this; omega
theorem OwnV.ownF (h : OwnV w B A n c l) : OwnF tVV 74 (fun _ => False) w B A n c l := ⟨⟨l.map encV, h.row, repsV _ w l h.ok⟩, by simp, h.len⟩
theorem ownV_of {F : Nat → Prop} (h : OwnF tVV 74 F w B A n c l) : OwnV w B A n c l := by
 obtain ⟨⟨css, h1, h2⟩, _, _⟩ := h
 obtain ⟨rfl, h3⟩ := repsV_eq h2
 exact ⟨h1, h3⟩
theorem OwnV.sl (h : OwnV w B A n c l) : Sl tVV (fun b => B ≤ b) w A n c l := h.ownF.sl.weaken fun b hb _ => by rcases hb with hb | hb; exact hb.elim; exact hb.2
theorem OwnV.cap (h : OwnV w B A n c l) : n ≤ c ∧ c ≤ maxLen := xxM h.row
theorem OwnV.keepB (h : OwnV w B A n c l) (hb : Below w.heap.size w w') : OwnV w' B A n c l := ⟨zz9 h.row fun b hb' => hb.block b (h.row.lt b hb').2, h.ok⟩
theorem OwnV.front (h : OwnV w B A n c l) {k : Nat} (hk : k ≤ n) (hA : A ≠ none) : OwnV w B A k c (l.take k) := by
 refine ⟨⟨by rw [xxh, List.length_take, ← h.len]; omega, ?_⟩, fun d hd => h.ok d (List.mem_of_mem_take hd)⟩
 rcases h.row.2 with ⟨h1, h2⟩ | ⟨g, cap, cur, h1, hb, hg, hn, hc, hs, ht⟩
 · injection h1 with h1; exact absurd h1 hA
 · injection h1 with e1 e2 e3; subst e1 e3
   refine .inr ⟨g, c, cur, rfl, hb, hg, by omega, hc, hs, ?_⟩
   rw [← zqA, ← ht, List.take_take, Nat.min_eq_left (Nat.mul_le_mul_right 3 hk)]
variable {g : Nat}
theorem OwnV.cell (h : OwnV w B (some ⟨g, 0, none⟩) n c l) {i : Nat} (hi : i < l.length) : w.cell? ⟨g, i * 3, none⟩ = some (.bool l[i].null) ∧ w.cell? ⟨g, i * 3 + 1, none⟩ = some (.int .i64 l[i].n) ∧ w.cell? ⟨g, i * 3 + 2, none⟩ = some (.string l[i].s) := by
 have hn := h.len
 refine ⟨?_, ?_, ?_⟩
 · rw [h.row.cellAt (i * 3) (by omega)]
   exact vve l i 0 hi _ rfl
 · rw [h.row.cellAt (i * 3 + 1) (by omega)]
   exact vve l i 1 hi _ rfl
 · rw [h.row.cellAt (i * 3 + 2) (by omega)]
   exact vve l i 2 hi _ rfl
theorem OwnV.free (h : OwnV w B (some ⟨g, 0, none⟩) n c l) (j : Nat) : w.frozen? ⟨g, j, none⟩ = false := h.row.frozenAt j
theorem OwnV.base (h : OwnV w B (some ⟨g, 0, none⟩) n c l) : B ≤ g ∧ g < w.heap.size := h.row.lt g rfl
theorem OwnV.set (h : OwnV w B (some ⟨g, 0, none⟩) n c l) {i : Nat} (hi : i < l.length) (d : VV) (hd : d.ok) :
 OwnV (((w.setCell ⟨g, i * 3, none⟩ (.bool d.null)).setCell ⟨g, i * 3 + 1, none⟩ (.int .i64 d.n)).setCell ⟨g, i * 3 + 2, none⟩ (.string d.s)) B (some ⟨g, 0, none⟩) n c (l.set i d) := by
 have h1 := (h.row.stored (i * 3) (.bool d.null)).1
 have h2 := (h1.stored (i * 3 + 1) (.int .i64 d.n)).1
 have h3 := (h2.stored (i * 3 + 2) (.string d.s)).1
 rw [kqm l i d hi] at h3
 refine ⟨h3, fun e he => ?_⟩
 rcases List.mem_or_eq_of_mem_set he with he | rfl
 · exact h.ok e he
 · exact hd
theorem OwnV.past (h : OwnV w B (some ⟨g, 0, none⟩) n c l) : ∀ (vs : List Value) (o : Nat), n * 3 ≤ o → OwnV (w.setCells g o vs) B (some ⟨g, 0, none⟩) n c l := by
 intro vs
 induction vs generalizing w with
 | nil => intro o _; exact h
 | cons v r ih =>
   intro o ho
   have h1 := (h.row.stored o v).1
   rw [List.set_eq_of_length_le (by rw [xxh, ← h.len]; exact ho)] at h1
   exact ih (w := w.setCell ⟨g, o, none⟩ v) ⟨h1, h.ok⟩ (o + 1) (by omega)
end
theorem vvp {B g : Nat} {a : World} (hg : B ≤ g) : ∀ (vs : List Value) (o : Nat) (w : World), Below B a w → Below B a (w.setCells g o vs)
 | [], _, _, h => h
 | v :: r, o, _, h => vvp hg r (o + 1) _ (zzf h hg v)
theorem qx6 (w : World) (g o m c : Nat) (hm : 0 < m) (hc : ∀ j, j < m * 3 → (w.cell? ⟨g, o + j, none⟩).isSome = true) (hf : ∀ j, j < m * 3 → w.frozen? ⟨g, o + j, none⟩ = false) :
 ∃ vs, ∀ ty, (Builtin.clear_ #[22] ty #[.slice (some ⟨g, o, none⟩) m c]).run Tryz.prog w = .ok (.tuple #[]) (w.setCells g o vs) := by
 obtain ⟨vs, hvs⟩ : ∃ vs, vs = (Builtin.zeroCells (Value.agg #[.bool false, .int .i64 0, .string ⟨#[]⟩]).cells m).toList := ⟨_, rfl⟩
 have hlen : vs.length = m * 3 := by rw [hvs]; simp [Builtin.zeroCells, Value.cells]
 have hone : ∀ v ∈ vs, v.oneCell' = true := by
  intro v hv
  rw [hvs] at hv
  obtain ⟨i, hi, rfl⟩ := List.getElem_of_mem hv
  simp [Builtin.zeroCells, Value.cells] at hi ⊢
  have : i % 3 < 3 := Nat.mod_lt _ (by decide)
  match i % 3, this with
  | 0, _ => simp; rfl
  | 1, _ => simp; rfl
  | 2, _ => simp; rfl
 refine ⟨vs, fun ty => ?_⟩
 have hst := run_storeCells_cells (P := Tryz.prog) g o vs 0 w (by simpa [hlen] using hc) (by simpa [hlen] using hf) hone
 simp only [Nat.add_zero] at hst
 have hz : ∀ w, (zeroValue 74).run Tryz.prog w = .ok (.agg #[.bool false, .int .i64 0, .string ⟨#[]⟩]) w := Tryz.zeroValue74
 obtain ⟨k, rfl⟩ : ∃ k, m = k + 1 := ⟨m - 1, by omega⟩
 simp [Builtin.clear_, run_underlying (show Tryz.prog.underlying 22 = some (.slice 74) by kernel_rfl), hz, ← hvs, hst]
end
section
open Go Go.RowKit
def colV (rows : List (List VV)) (i : Nat) : List VV := rows.map fun r => r.getD i VV.zero
theorem uuV (rows : List (List VV)) (i : Nat) : (colV rows i).length = rows.length := List.length_map ..
theorem qzN {rows : List (List VV)} {i k : Nat} (hk : k < rows.length) {r : List VV} (hr : r = rows[k]) (hi : i < r.length) {v : VV} (hv : v = r[i]) : colV (rows.take (k + 1)) i = colV (rows.take k) i ++ [v] := by
 unfold colV
 rw [zT hk, List.map_append, ← hr, List.map_cons, List.map_nil, List.getD_eq_getElem?_getD, List.getElem?_eq_getElem hi, ← hv]; rfl
abbrev RR := List VV
abbrev tRow : Ty RR := tSl tVV
def ColVPost (rows : List RR) (i n : Nat) (w : World) (e : Ending) (w' : World) : Prop :=
 ∃ A c, e = .returned (.slice A n c) ∧ OwnF tVV 74 (fun _ => False) w' w.heap.size A n c (colV rows i) ∧ Below w.heap.size w w'
theorem zqB (F : Nat → Prop) (A : Option Addr) (n c : Nat) (rows : List RR) (m i : Nat) (w : World) (h : Sl tRow F w A n c rows) (hm : ∀ r ∈ rows, r.length = m) (him : i < m) (hn : n ≤ 4096) :
 Calls Tryz.prog 58 #[.slice A n c, .int .i64 (i : Int)] w (ColVPost rows i n w) := by
 have HH := zH h; have HL := zH h.len; have HM := zH hm; have HN := zH hn; have HI := zH him
 clear h hm him hn
 go_enter Tryz.func58, Tryz.ntmps58
 go_wp2_with fail
 go_loopw [5, 6] (fun ov kv wr => ∃ (k : Nat) (A2 : Option Addr) (c2 : Nat), k ≤ n ∧ kv = .int .i64 (k : Int) ∧ ov = .slice A2 k c2 ∧ OwnF tVV 74 (fun _ => False) wr w.heap.size A2 k c2 (colV (rows.take k) i) ∧ Below w.heap.size w wr) (fun _ kv _ => n - (intOf kv).toNat)
 case atStart => exact ⟨0, _, _, Nat.zero_le _, rfl, rfl, OwnF.empty _ _ _ _ _ zN (fun _ hb => hb.elim), (zR).alloc zN _⟩
 case round =>
  obtain ⟨k, A2, c2, hk, rfl, rfl, ho, hb⟩ := hrel
  have HO := zH ho; have HB := zH hb
  clear ho hb
  by_cases hlt : k < n
  · have hkl : k < rows.length := by rw [← HL.out]; exact hlt
    obtain ⟨b, o, cs, rfl, _, _, hrep, hc⟩ := (HH.out.below HB.out zN).at_ hkl (by decide)
    obtain ⟨r, hr⟩ : ∃ r, r = rows[k] := ⟨_, rfl⟩
    rw [← hr] at hrep
    have HR := zH hr
    obtain ⟨A3, n3, c3, rfl, h3⟩ := hrep
    have hn3 : n3 = m := by rw [h3.len, hr]; exact HM.out _ (List.getElem_mem hkl)
    have hin : i < r.length := by rw [← h3.len, hn3]; exact HI.out
    obtain ⟨b2, o2, cs2, rfl, _, _, hrep2, hc2⟩ := h3.at_ hin (by decide)
    obtain ⟨v, hv⟩ : ∃ v, v = r[i] := ⟨_, rfl⟩
    rw [← hv] at hrep2
    have HV := zH hv
    obtain ⟨rfl, hok⟩ := hrep2
    have HOK := zH hok
    have g := hc 0 _ rfl
    have g : wr.cell? ⟨b, o + k, none⟩ = some (.slice (some ⟨b2, o2, none⟩) n3 c3) := by
     have e : o + (k * tRow.size + 0) = o + k := by show o + (k * 1 + 0) = o + k; omega
     rw [e] at g; exact g
    obtain ⟨y0, y1, y2⟩ := zzR hc2
    have k0 : (0 : Int) ≤ (k : Int) := by omega
    have k1 : (k : Int) < (n : Int) := by omega
    have k2 : (k : Int) ≤ 4096 := by have := HN.out; omega
    have hin3 : i < n3 := by rw [hn3]; exact HI.out
    have j0 : (0 : Int) ≤ (i : Int) := by omega
    have j1 : (i : Int) < (n3 : Int) := by omega
    have HSN := zH (qzN hkl HR.out hin HV.out)
    clear hc hc2 hr hv hok h3
    go_wp2_with (first
     | (at_builtin; refine apl1 (T := tVV) qxk wr w rfl (.tmp 14) (.tmp 22) rfl w.heap.size A2 k c2 _ (by rfl) (fun _ => False) (fun _ => False) HO.out HB.out zN _ (by rfl) [.bool v.null, .int .i64 v.n, .string v.s] v ⟨rfl, HOK.out⟩ 74 rfl (fun _ _ _ _ h4 => h4) (by have := HN.out; omega) ?_; intro A5 c5 w5 h5)
     | fail)
    go_roundw
    case rel => exact ⟨k + 1, A5, c5, by omega, by go_num, rfl, by rw [HSN.out]; exact h5.own.flat flatVV, h5.below⟩
    case measure => simp [intOf]; omega
  · obtain rfl : k = n := by omega
    have e1 : rows.take k = rows := zL (by rw [← HL.out]; exact Nat.le_refl _)
    rw [e1] at HO
    clear e1
    go_wp2_with fail
    go_ret
    exact ⟨A2, c2, rfl, HO.out, HB.out⟩
end
section
open Go Go.RowKit
theorem elemRow20 : zzZ Tryz.prog 35 91 tRow.size := zzZ.mk' (bytes := 24) (z := .slice none 0 0) (by kernel_rfl) (by kernel_rfl) rfl (by decide) (by decide)
structure TabW (w w2 : World) : Prop where
 eq : w2 = (w.alloc (.cells Tryz.zeroCells39 39)).setCells w.heap.size 0 jjl.toList
 tab : TabC w.heap.size w2
 below : Below w.heap.size w w2
theorem tabW (w : World) : ∃ w2, TabW w w2 := by
 have h1 := heap_alloc_new w (.cells Tryz.zeroCells39 39)
 rw [xxb] at h1
 refine ⟨_, rfl, ?_, jjm zN _ _ _ ((zR).alloc zN _)⟩
 rw [xxb]
 exact xxy (tabL 256) (tabL 0) [] _ h1 (by rw [yyH, yyH])
theorem qzO (w : World) : (w.alloc (.cells Tryz.zeroCells39 39)).there w.heap.size 0 jjl.size := by
 have h1 := heap_alloc_new w (.cells Tryz.zeroCells39 39)
 rw [xxb] at h1 ⊢
 intro j hj
 unfold jjl at hj
 rw [List.size_toArray, yyH] at hj
 refine ⟨?_, zF h1 _⟩
 rw [zC h1]
 have := uui 0 j hj
 simp [this]
theorem Sl.fst {α : Type} {T : Ty α} {F : Nat → Prop} {w : World} {A : Option Addr} {n c : Nat} {xs : List α} (h : Sl T F w A n c xs) {k : Nat} (hk : k ≤ n) : Sl T F w A k c (xs.take k) := by
 obtain ⟨h1, h2, h3, css, h4, h5⟩ := h
 refine ⟨by rw [List.length_take]; omega, by omega, h3, css.take k, ?_, h5.take k⟩
 have h6 : (css.take k).flatten ++ (css.drop k).flatten = css.flatten := by rw [← List.flatten_append, List.take_append_drop]
 rw [← h6] at h4
 exact h4.front
theorem vvY {F : Nat → Prop} {w : World} {A : Option Addr} {n c : Nat} {l : List UInt8} (h : Bs F w A n c l) : (convert 41 9 (.slice A n c)).run Tryz.prog w = .ok (.string ⟨l.toArray⟩) w := by
 obtain ⟨hn, _, _, css, hrd, hr⟩ := h
 subst hn
 have hcs := uuf hr
 subst hcs
 rw [jjb] at hrd
 cases A with
 | none =>
   have : l = [] := by
    cases l with
    | nil => rfl
    | cons x t => obtain ⟨_, _, h, _⟩ := hrd (by simp [bvs]); cases h
   subst this
   rw [List.length_nil, run_convert_bytes_string w _ _ _ none 0 c yya zqo vvK]
   simp [Conv.bytesToString]
   rfl
 | some a =>
   refine run_convert_bytes_back w _ _ _ a c l yya zqo vvK (fun j hj => ?_)
   obtain ⟨b, o, e, _, _, hc⟩ := hrd (by intro h0; cases l with | nil => simp at hj | cons x t => simp [bvs] at h0)
   injection e with e; subst e
   rw [yy4]
   exact hc j _ (by rw [vvt l j hj])
theorem one_tab : jjl.all (·.oneCell') = true := by kernel_rfl
theorem row_ok {F : Nat → Prop} {w : World} {A : Option Addr} {n c : Nat} {rows : List RR} (h : Sl tRow F w A n c rows) : ∀ r ∈ rows, ∀ v ∈ r, VV.ok v := by
 obtain ⟨_, _, _, css, _, hr⟩ := h
 intro r hr1 v hv
 obtain ⟨i, hi, rfl⟩ := List.getElem_of_mem hr1
 obtain ⟨A3, n3, c3, _, _, _, _, css3, _, hr3⟩ := hr.2 i _ _ (List.getElem?_eq_getElem (by rw [hr.1]; exact hi)) (List.getElem?_eq_getElem hi)
 obtain ⟨k, hk, rfl⟩ := List.getElem_of_mem hv
 exact (hr3.2 k _ _ (List.getElem?_eq_getElem (by rw [hr3.1]; exact hk)) (List.getElem?_eq_getElem hk)).2
end
section
open Go Go.RowKit
theorem OwnV.new0 (w : World) (B : Nat) (hB : B ≤ w.heap.size) : OwnV (w.alloc (.cells #[] 74)) B (some ⟨w.heap.size, 0, none⟩) 0 0 [] := by
 have := World.ownsRow_lit (base := B) (e := 74) (size := 3) w #[] 0 hB (by simp [maxLen]) (by simp)
 exact ⟨by simpa [xxg] using this, by simp⟩
def ClonePost (l : List VV) (n : Nat) (w : World) (e : Ending) (w' : World) : Prop := ∃ A' c', e = .returned (.slice A' n c') ∧ OwnV w' w.heap.size A' n c' l ∧ Below w.heap.size w w'
theorem clone_any (F : Nat → Prop) (A : Option Addr) (n c : Nat) (l : List VV) (w : World) (h : Sl tVV F w A n c l) (hn : n ≤ 34359738368) : Calls Tryz.prog 158 #[.slice A n c] w (ClonePost l n w) := by
 cases A with
 | none =>
   have hl : l = [] := by
    cases l with
    | nil => rfl
    | cons x r => obtain ⟨b, o, _, e, _⟩ := h.at_ (k := 0) (by simp) (by decide); cases e
   have hn0 := h.len
   subst hl
   obtain rfl : n = 0 := hn0
   have hq : (binOp .eql 22 (.slice none 0 c) (.slice none 0 0)).run Tryz.prog w = .ok (.bool true) w := Lib.run_eql_slice_nil w _ _ none 0 c 0 0 (show Tryz.prog.underlying 22 = some (.slice 74) by kernel_rfl)
   clear h hn
   go_enter Tryz.func158, Tryz.ntmps158
   go_wp2_with fail
   go_ret
   exact ⟨none, 0, rfl, ⟨World.ownsRow_nil _ _ _ _, by simp⟩, zR⟩
 | some a =>
   have hq : (binOp .eql 22 (.slice (some a) n c) (.slice none 0 0)).run Tryz.prog w = .ok (.bool false) w := Lib.run_eql_slice_nil w _ _ (some a) n c 0 0 (show Tryz.prog.underlying 22 = some (.slice 74) by kernel_rfl)
   have HS := zH ((h.weaken (F' := fun b => F b ∧ b < w.heap.size) fun b hb hl => ⟨hb, hl⟩).alloc (.cells #[] 74))
   have HE := zH (OwnV.new0 w w.heap.size zN).ownF
   clear h
   go_enter Tryz.func158, Tryz.ntmps158
   go_wp2_with (first
    | (at_builtin; refine apl (T := tVV) qxk (w.alloc (.cells #[] 74)) w rfl (.tmp 5) (.tmp 6) rfl w.heap.size (some ⟨w.heap.size, 0, none⟩) 0 0 [] rfl (fun _ => False) (fun b => F b ∧ b < w.heap.size) HE.out ((zR).alloc zN _) zN (some a) n c l rfl HS.out (fun b _ h1 _ h3 => by omega) (by omega) ?_; intro A5 c5 w5 h5)
    | fail)
   go_ret
   have ho := ownV_of h5.own
   rw [Nat.zero_add, List.nil_append] at ho
   exact ⟨A5, c5, rfl, ho, h5.below⟩
def zzh (v : VV) : Bool := !v.null
theorem dropv (d : VV) (r : Bool) (hr : r = !zzh d) (w : World) : Calls Tryz.prog 159 #[.agg #[.bool d.null, .int .i64 d.n, .string d.s]] w fun e w' => e = .returned (.bool r) ∧ Below w.heap.size w w' := by
 have : r = d.null := by rw [hr]; unfold zzh; simp
 rw [this]
 exact qxV _ _ _ _
def xxY (p : VV → Bool) (l : List VV) (r : Int) : Prop := (r = -1 ∧ ∀ x ∈ l, p x = true) ∨ ∃ i : Nat, r = i ∧ ∃ h : i < l.length, (∀ x ∈ l.take i, p x = true) ∧ p l[i] = false
def IdxPost (p : VV → Bool) (l : List VV) (w : World) (e : Ending) (w' : World) : Prop := ∃ r, e = .returned (.int .i64 r) ∧ xxY p l r ∧ Below w.heap.size w w'
theorem idx_any (F : Nat → Prop) (A : Option Addr) (n c : Nat) (l : List VV) (w : World) (h : Sl tVV F w A n c l) :
 Calls Tryz.prog 86 #[.slice A n c, .func (.func 159) #[] #[]] w (IdxPost (zzh) l w) := by
 have HL := zH h.len
 have hmax : n ≤ 9223372036854775807 := by have h2 := h.2.1; have h3 := h.2.2.1; unfold maxLen at h3; omega
 go_enter Tryz.func86, Tryz.ntmps86
 go_wp2_with fail
 go_loopw [8] (fun i wr => ∃ j : Nat, j ≤ n ∧ i = .int .i64 j ∧ Below w.heap.size w wr ∧ Hid (∀ x ∈ l.take j, zzh x = true)) (fun i _ => n - (intOf i).toNat)
 case atStart => exact ⟨0, Nat.zero_le _, rfl, zR, zH (by simp)⟩
 case round =>
  obtain ⟨j, hj, rfl, hb, HA⟩ := hrel
  have g := h.below hb zN
  have HB := zH hb
  have hsz := hb.size
  clear hb
  by_cases hlt : j < n
  · have hjl : j < l.length := by rw [← HL.out]; exact hlt
    obtain ⟨d, hd⟩ : ∃ d, d = l[j] := ⟨_, rfl⟩
    obtain ⟨b, o, u, rfl, _, hbl, hu, hc⟩ := g.at_ hjl (by decide)
    rw [← hd] at hu
    obtain ⟨rfl, _⟩ := hu
    obtain ⟨c0, c1, c2⟩ := zzR hc
    obtain ⟨r, hr⟩ : ∃ r, r = !zzh d := ⟨_, rfl⟩
    have HD := zH hd; have HR := zH hr
    clear g hc hd hr
    have hi1 : (0 : Int) ≤ (j : Int) := by omega
    have hi2 : (j : Int) < (n : Int) := by omega
    cases r with
    | true =>
      have HF : Hid (xxY (zzh) l (j : Int)) := zH (.inr ⟨j, rfl, hjl, HA.out, by rw [← HD.out]; have := HR.out; simpa using this⟩)
      go_wp2_with (first
       | (go_at_call 159; refine (dropv d true HR.out _).mono ?_; rintro e w1 ⟨rfl, hb1⟩; have HB1 := zH (HB.out.trans (hb1.mono hsz)); clear hb1)
       | fail)
      go_ret
      exact ⟨_, rfl, HF.out, HB1.out⟩
    | false =>
      have HN : Hid (∀ x ∈ l.take (j + 1), zzh x = true) := zH (by
       intro x hx
       rw [zT hjl, List.mem_append, List.mem_singleton] at hx
       rcases hx with hx | rfl
       · exact HA.out x hx
       · rw [← HD.out]; have := HR.out; simpa using this)
      go_wp2_with (first
       | (go_at_call 159; refine (dropv d false HR.out _).mono ?_; rintro e w1 ⟨rfl, hb1⟩; have HB1 := zH (HB.out.trans (hb1.mono hsz)); clear hb1)
       | fail)
      go_roundw
      case rel => exact ⟨j + 1, by omega, by go_num, HB1.out, HN⟩
      case measure => simp [intOf]; omega
  · obtain rfl : j = n := by omega
    have HF : Hid (xxY (zzh) l (-1)) := zH (.inl ⟨rfl, by
     have := HA.out
     rwa [zL (by rw [← HL.out]; exact Nat.le_refl _)] at this⟩)
    go_wp2_with fail
    go_ret
    exact ⟨_, rfl, HF.out, HB.out⟩
end
end Go.Proofs.YtpmglcachffojaaGreatDoor
