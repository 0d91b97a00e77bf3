/- A part of what Chunks leans on. -/
import Derived.Test.YtpmglcachffojaaGreatDoorZ1
import Derived.Test.YtpmglcachffojaaGreatDoorZS1
import Derived.Deep.CutRange
import Derived.Laws.OwnMore
import Derived.RangeFuncNested
import Derived.RangeFuncBound
import Derived.RangeFuncCalls
import Derived.RangeFuncLeaves
import Derived.RangeFuncBox
import Derived.Shelf.Abstract
import Derived.Shelf.RegionOpen
import Derived.OwnWalkIn
import Derived.TacticsInMore
import Derived.LoopNIn
import Derived.LoopIn
import Derived.RegionIn
import Derived.Maps.OwnIn
set_option maxRecDepth 100000
set_option maxHeartbeats 16000000
namespace Go.Proofs.YtpmglcachffojaaGreatDoor
section
open Go Go.RowKit
theorem foldmin (l : List Int) : ∀ a : Int, l.foldl min a ≤ a ∧ (∀ x ∈ l, l.foldl min a ≤ x) ∧ (l.foldl min a = a ∨ l.foldl min a ∈ l) := by
 induction l with
 | nil => intro a; exact ⟨Int.le_refl _, by simp, .inl rfl⟩
 | cons b r ih =>
   intro a
   obtain ⟨h1, h2, h3⟩ := ih (min a b)
   rw [List.foldl_cons]
   refine ⟨by omega, fun x hx => ?_, ?_⟩
   · rcases List.mem_cons.1 hx with rfl | hx
     · omega
     · exact h2 x hx
   · rcases h3 with h3 | h3
     · rw [h3]
       by_cases hab : a ≤ b
       · exact .inl (by omega)
       · exact .inr (List.mem_cons.2 (.inl (by omega)))
     · exact .inr (List.mem_cons.2 (.inr h3))
theorem vvC {l : List Int} (h : l ≠ []) : zzA l ∈ l ∧ ∀ x ∈ l, zzA l ≤ x := by
 match l, h with
 | a :: r, _ =>
   obtain ⟨h1, h2, h3⟩ := foldmin (a :: r) a
   refine ⟨?_, h2⟩
   show (a :: r).foldl min a ∈ a :: r
   rcases h3 with h3 | h3
   · rw [h3]; exact List.mem_cons_self
   · exact h3
theorem yyt {F : Nat → Prop} {w : World} {A : Option Addr} {n c : Nat} {l : List Int} (h : Sl tI64 F w A n c l) (hl : l ≠ []) : ∃ b o, A = some ⟨b, o, none⟩ ∧ b < w.heap.size ∧ ∀ i (hi : i < l.length), w.cell? ⟨b, o + i, none⟩ = some (.int .i64 l[i]) ∧ -9223372036854775808 ≤ l[i] ∧ l[i] ≤ 9223372036854775807 := by
 obtain ⟨b, o, _, rfl, _, hb, _, _⟩ := h.at1 (k := 0) (List.length_pos_iff.2 hl) rfl
 refine ⟨b, o, rfl, hb, fun i hi => ?_⟩
 obtain ⟨b', o', u, he, _, _, hr, hc⟩ := h.at1 hi rfl
 injection he with he; injection he with e1 e2 _
 subst e1; subst e2
 obtain ⟨hr, h1, h2⟩ := hr
 injection hr with hr
 subst hr
 exact ⟨hc, h1, h2⟩
theorem vvD (F : Nat → Prop) (A : Option Addr) (n c : Nat) (l : List Int) (w : World) (h : Sl tI64 F w A n c l) (hl : l ≠ []) :
 Calls Tryz.prog 205 #[.slice A n c] w fun e w' => e = .returned (.int .i64 (zzA l)) ∧ w = w' := by
 obtain ⟨b, o, rfl, _, hc⟩ := yyt h hl
 have hlen := h.len
 have h2 := h.2.1
 have h3 := h.2.2.1
 unfold maxLen at h3
 refine (Tryz.slices_Min_int b o n c l w (by have := List.length_pos_iff.2 hl; omega) (by omega) (by omega) fun j hj => ?_).mono ?_
 · rw [(hc j hj).1, List.getD_eq_getElem?_getD, List.getElem?_eq_getElem hj]; rfl
 · rintro e w1 ⟨rfl, rfl⟩
   refine ⟨?_, rfl⟩
   rw [zL (by omega)]
   rfl
end
section
open Go Go.RowKit
attribute [local go_sem ↓] Go.wp_at_zero Go.wp_at_succ
theorem qzD (x : Nat) : (x : Int) % 128 + 128 = ((UInt8.ofNat (x % 128 + 128)).toNat : Int) := by
 rw [UInt8.toNat_ofNat']; omega
theorem OwnB.new0 (w : World) (B : Nat) (hB : B ≤ w.heap.size) : OwnB (w.alloc (.cells #[] 5)) B (some ⟨w.heap.size, 0, none⟩) 0 0 [] := by
 have := World.ownsRow_lit (base := B) (e := 5) (size := 1) w #[] 0 hB (by simp [maxLen]) (by simp)
 simpa [OwnB, bvs] using this
theorem kqI (F : Nat → Prop) (A : Option Addr) (n c : Nat) (bs : List UInt8) (x : Nat) (w : World) (h : Bs F w A n c bs) (hn : n ≤ 4294967200) (hx : x < 18446744073709551616) :
 Calls Tryz.prog 128 #[.slice A n c, .int .u64 (x : Int)] w (Own1 w (bs ++ vput x)) := by
 have HN := zH h.len
 have HNEW := zH (OwnB.new0 w w.heap.size zN)
 have HB0 := zH (show Below w.heap.size w (w.alloc (.cells #[] 5)) from (zR).alloc zN _)
 have HSRC := zH (Sl.alloc h (.cells #[] 5))
 clear h
 go_enter Tryz.func128, Tryz.ntmps128
 go_wp2_with (at_builtin; refine apb (w.alloc (.cells #[] 5)) w rfl (.tmp 6) (.tmp 7) rfl w.heap.size (some ⟨w.heap.size, 0, none⟩) 0 0 [] rfl HNEW.out HB0.out zN F A n c bs rfl HSRC.out (by omega) ?_; intro A1 c1 w1 h1 hb1 _)
 have H1 := zH h1; have HB1 := zH hb1
 clear h1 hb1 HNEW HB0 HSRC
 go_loopw [5, 1] (fun v xv wr => ∃ (f x' : Nat) (L : List UInt8) (A2 : Option Addr) (m c2 : Nat), m + f ≤ n + 9 ∧ xv = .int .u64 (x' : Int) ∧ v = .slice A2 m c2 ∧ OwnB wr w.heap.size A2 m c2 L ∧ L ++ yyq f x' = bs ++ vput x ∧ x' < 128 ^ (f + 1) ∧ x' < 18446744073709551616 ∧ Below w.heap.size w wr)
  (fun _ xv _ => (intOf xv).toNat)
 case atStart => exact ⟨9, x, bs, A1, n, c1, by omega, rfl, rfl, by have := H1.out; simpa using this, rfl, by omega, hx, HB1.out⟩
 case round =>
  obtain ⟨f, x', L, A2, m, c2, hm, rfl, rfl, hown, heq, hlt, hlt2, hb⟩ := hrel
  have HE := zH heq; have HO := zH hown; have HL := zH hlt
  clear heq hown hlt
  have hsz := hb.size
  by_cases hx' : x' < 128
  · have HLAST := zH (kqd x')
    go_wp2_with (at_builtin; refine apb1 wr w rfl (.tmp 20) (.tmp 23) rfl w.heap.size A2 m c2 L rfl HO.out hb zN _ rfl (UInt8.ofNat x') (by rw [← HLAST.out, IntKind.wrap_u8, show (x' : Int) % 256 = (x' : Int) by omega]) (by omega) ?_; intro A3 c3 w3 h3 hb3 _)
    go_ret
    refine ⟨A3, m + 1, c3, rfl, ?_, hb3⟩
    have hfin : L ++ [UInt8.ofNat x'] = bs ++ vput x := by
     rw [← HE.out]
     cases f <;> simp [yyq, hx']
    rw [← hfin]; exact h3
  · have HM := zH (qzD x')
    go_wp2_with (at_builtin; refine apb1 wr w rfl (.tmp 11) (.tmp 16) rfl w.heap.size A2 m c2 L rfl HO.out hb zN _ rfl (UInt8.ofNat (x' % 128 + 128)) (by rw [← HM.out]) (by omega) ?_; intro A3 c3 w3 h3 hb3 _)
    go_roundw
    case rel =>
     obtain ⟨f, rfl⟩ : ∃ f', f = f' + 1 := by
      cases f with
      | zero => have := HL.out; omega
      | succ f => exact ⟨f, rfl⟩
     have hlt := HL.out
     refine ⟨f, x' / 128, L ++ [UInt8.ofNat (x' % 128 + 128)], A3, m + 1, c3, by omega, by go_num, rfl, h3, ?_, ?_, by omega, hb3⟩
     · rw [← HE.out]
       simp [yyq, hx']
     · rw [Nat.pow_succ] at hlt; exact Nat.div_lt_of_lt_mul (by omega)
    case measure => simp [intOf]; omega
theorem rzig_any (x : Int) (w : World) (h0 : -9223372036854775808 ≤ x) (h1 : x ≤ 9223372036854775807) :
 Calls Tryz.prog 127 #[.int .i64 x] w fun e w' => e = .returned (.int .u64 (zigN x : Nat)) ∧ w = w' := by
 by_cases hx : x < 0
 · go_enter Tryz.func127, Tryz.ntmps127
   go_wp2
   go_ret
   refine ⟨qzg ?_, rfl⟩
   unfold zigN; split <;> omega
 · go_enter Tryz.func127, Tryz.ntmps127
   go_wp2
   go_ret
   refine ⟨qzg ?_, rfl⟩
   unfold zigN; split <;> omega
theorem vvq (F : Nat → Prop) (A : Option Addr) (n c : Nat) (bs : List UInt8) (x : Int) (w : World) (h : Bs F w A n c bs) (hn : n ≤ 4294967200) (h0 : 0 ≤ x) (hx : x < 18446744073709551616) :
 Calls Tryz.prog 128 #[.slice A n c, .int .u64 x] w (Own1 w (bs ++ vput x.toNat)) := by
 obtain ⟨k, rfl⟩ := Int.eq_ofNat_of_zero_le h0
 rw [Int.toNat_natCast]
 exact kqI F A n c bs k w h hn (by omega)
theorem jj1 (c : Int) (h0 : 0 ≤ c) (h1 : c ≤ 31) (w : World) : Calls Tryz.prog 220 #[.int .i64 c] w fun e w' => e = .returned (.int .i64 (wOf c)) ∧ w = w' := by
 have k1 : ¬ c < 0 := by omega
 have k2 : ¬ c > 31 := by omega
 have k3 : ¬ 31 < c := by omega
 by_cases h : c < 24
 · have e1 := zH (show wOf c = c + 1 by unfold wOf; rw [if_neg (by omega), if_pos h])
   go_enter Tryz.func220, Tryz.ntmps220
   go_wp2_with fail
   go_ret
   exact ⟨by rw [e1.out]; rfl, rfl⟩
 · by_cases h2 : c < 28
   · have e1 := zH (show wOf c = 24 + 2 * (c - 23) by unfold wOf; rw [if_neg (by omega), if_neg h, if_pos h2])
     go_enter Tryz.func220, Tryz.ntmps220
     go_wp2_with fail
     go_ret
     exact ⟨by rw [e1.out]; rfl, rfl⟩
   · have e1 := zH (show wOf c = 32 + 8 * (c - 27) by unfold wOf; rw [if_neg (by omega), if_neg h, if_neg h2])
     go_enter Tryz.func220, Tryz.ntmps220
     go_wp2_with fail
     go_ret
     exact ⟨by rw [e1.out]; rfl, rfl⟩
theorem kqJ (b : Int) (w : World) : Calls Tryz.prog 261 #[.int .i64 b] w fun e w' => e = .returned (.int .i64 (zzU b)) ∧ w = w' := by
 go_enter Tryz.func261, Tryz.ntmps261
 go_wp2_with fail
 go_loopw [3] (fun cv wr => ∃ c : Nat, c ≤ 32 ∧ cv = .int .i64 (c : Int) ∧ Hid (∀ d : Int, 0 ≤ d → d < c → wOf d ≠ b) ∧ w = wr) (fun cv _ => 32 - (intOf cv).toNat)
 case atStart => exact ⟨0, by omega, rfl, zH (fun d h0 h1 => by omega), rfl⟩
 case round =>
  obtain ⟨c, hc, rfl, HJ, rfl⟩ := hrel
  by_cases hlt : c < 32
  · have q1 : (c : Int) < 32 := by omega
    have q0 : (0 : Int) ≤ (c : Int) := by omega
    obtain ⟨v, hv⟩ : ∃ v, v = wOf (c : Int) := ⟨_, rfl⟩
    have HV := zH hv
    clear hv
    by_cases he : v = b
    · have HE := zH (show zzU b = (c : Int) from qx7 q0 (by omega) (by rw [← HV.out]; exact he))
      go_wp2_with (first
       | (go_at_call 220; refine (jj1 (c : Int) q0 (by omega) _).mono ?_; rintro e w1 ⟨rfl, rfl⟩; rw [← HV.out])
       | fail)
      go_ret
      exact ⟨by rw [HE.out]; rfl, rfl⟩
    · have HJ2 : Hid (∀ d : Int, 0 ≤ d → d < ((c + 1 : Nat) : Int) → wOf d ≠ b) := zH (fun d h0 h1 => by
       by_cases hd : d = c
       · subst hd; rw [← HV.out]; exact he
       · exact HJ.out d h0 (by omega))
      go_wp2_with (first
       | (go_at_call 220; refine (jj1 (c : Int) q0 (by omega) _).mono ?_; rintro e w1 ⟨rfl, rfl⟩; rw [← HV.out])
       | fail)
      go_roundw
      case rel => exact ⟨c + 1, by omega, by go_num, HJ2, trivial⟩
      case measure => simp [intOf]; omega
  · obtain rfl : c = 32 := by omega
    have HE := zH (show zzU b = -1 from zq0 fun d h0 h1 => HJ.out d h0 (by omega))
    go_wp2_with fail
    go_ret
    exact ⟨by rw [HE.out]; rfl, rfl⟩
theorem jjv (b : Int) (hb : b ≤ 64) (w : World) : Calls Tryz.prog 257 #[.int .i64 b] w fun e w' => e = .returned (.int .i64 (zzo b)) ∧ w = w' := by
 go_enter Tryz.func257, Tryz.ntmps257
 go_wp2_with fail
 go_loopw [3] (fun cv wr => ∃ c : Nat, c ≤ 31 ∧ cv = .int .i64 (c : Int) ∧ Hid (∀ d : Int, 0 ≤ d → d < c → wOf d < b) ∧ w = wr) (fun cv _ => 32 - (intOf cv).toNat)
 case atStart => exact ⟨0, by omega, rfl, zH (fun d h0 h1 => by omega), rfl⟩
 case round =>
  obtain ⟨c, hc, rfl, HJ, rfl⟩ := hrel
  have q1 : (c : Int) < 32 := by omega
  have q0 : (0 : Int) ≤ (c : Int) := by omega
  obtain ⟨v, hv⟩ : ∃ v, v = wOf (c : Int) := ⟨_, rfl⟩
  have HV := zH hv
  clear hv
  by_cases he : v ≥ b
  · have he2 : b ≤ v := he
    have HE := zH (show zzo b = v from by rw [HV.out]; exact kqh q0 (by omega) (by rw [← HV.out]; exact he) HJ.out)
    go_wp2_with (first
     | (go_at_call 220; refine (jj1 (c : Int) q0 (by omega) _).mono ?_; rintro e w1 ⟨rfl, rfl⟩; rw [← HV.out])
     | fail)
    go_ret
    exact ⟨by rw [HE.out]; rfl, rfl⟩
  · have he2 : ¬ b ≤ v := he
    have hc31 : c < 31 := by
     rcases Nat.lt_or_ge c 31 with h | h
     · exact h
     · exfalso
       have : c = 31 := by omega
       subst this
       have h64 := HV.out
       rw [show wOf ((31 : Nat) : Int) = 64 by decide] at h64
       omega
    have HJ2 : Hid (∀ d : Int, 0 ≤ d → d < ((c + 1 : Nat) : Int) → wOf d < b) := zH (fun d h0 h1 => by
     by_cases hd : d = c
     · subst hd; rw [← HV.out]; omega
     · exact HJ.out d h0 (by omega))
    go_wp2_with (first
     | (go_at_call 220; refine (jj1 (c : Int) q0 (by omega) _).mono ?_; rintro e w1 ⟨rfl, rfl⟩; rw [← HV.out])
     | fail)
    go_roundw
    case rel => exact ⟨c + 1, by omega, by go_num, HJ2, trivial⟩
    case measure => simp [intOf]; omega
theorem uuK (x : Nat) (hx : U64 x) (w : World) : Calls Tryz.prog 256 #[.int .u64 (x : Int)] w fun e w' => e = .returned (.int .i64 ((bl x : Nat) : Int)) ∧ w = w' := by
 have HX := zH hx
 go_enter Tryz.func256, Tryz.ntmps256
 go_wp2_with fail
 go_loopw [0, 3] (fun xv nv wr => ∃ (y k : Nat), xv = .int .u64 (y : Int) ∧ nv = .int .i64 (k : Int) ∧ k + bl y = bl x ∧ y ≤ x ∧ w = wr) (fun xv _ _ => (intOf xv).toNat)
 case atStart => exact ⟨x, 0, rfl, rfl, by omega, Nat.le_refl _, rfl⟩
 case round =>
  obtain ⟨y, k, rfl, rfl, hk, hy, rfl⟩ := hrel
  have hxx := HX.out
  have h64 := yya hxx
  by_cases h0 : y = 0
  · subst h0
    have hk2 : k = bl x := by rw [bl_zero] at hk; omega
    have HK := zH hk2
    clear hk hk2 h64 hxx
    go_wp2_with fail
    go_ret
    exact ⟨by rw [HK.out]; rfl, rfl⟩
  · have hU : U64 y := Nat.lt_of_le_of_lt hy hxx
    have hh := bl_half hU h0
    have HK := zH (show (k + 1) + bl (y / 2) = bl x by omega)
    have q0 : (0 : Int) < (y : Int) := by omega
    have q1 : (y : Int) > 0 := by omega
    have q2 : (y : Int) ≤ 18446744073709551615 := by have : y < 18446744073709551616 := hU; omega
    have q3 : (k : Int) ≤ 64 := by omega
    clear hk hh h64 hxx
    go_wp2_with fail
    go_roundw
    case rel => exact ⟨y / 2, k + 1, by go_num, by go_num, HK.out, by omega, trivial⟩
    case measure => simp [intOf]; omega
theorem xq7 (F : Nat → Prop) (A : Option Addr) (n c : Nat) (l : List Nat) (w : World) (h : Sl tU64 F w A n c l) : Calls Tryz.prog 258 #[.slice A n c] w fun e w' => e = .returned (.int .i64 ((most l : Nat) : Int)) ∧ w = w' := by
 have HH := zH h
 have hu : ∀ x ∈ l, U64 x := by
  intro x hx
  obtain ⟨k, hk, rfl⟩ := List.getElem_of_mem hx
  obtain ⟨_, _, _, _, _, _, hr, _⟩ := h.at1 hk rfl
  exact hr.2
 have HU := zH hu
 have hn := h.len
 have HL := zH hn
 have hmax : n ≤ 9223372036854775807 := by have h2 := h.2.1; have h3 := h.2.2.1; unfold maxLen at h3; omega
 clear h hu hn
 go_enter Tryz.func258, Tryz.ntmps258
 go_wp2_with fail
 go_loopw [3, 4] (fun av kv wr => ∃ k : Nat, k ≤ n ∧ kv = .int .i64 (k : Int) ∧ av = .int .i64 ((most (l.take k) : Nat) : Int) ∧ w = wr)
  (fun _ kv _ => n - (intOf kv).toNat)
 case atStart => exact ⟨0, Nat.zero_le _, rfl, rfl, rfl⟩
 case round =>
  obtain ⟨k, hk, rfl, rfl, rfl⟩ := hrel
  by_cases hlt : k < n
  · have hkl : k < l.length := by rw [← HL.out]; exact hlt
    obtain ⟨v, hv⟩ : ∃ v, v = l[k] := ⟨_, rfl⟩
    obtain ⟨b, o, u, rfl, _, hbl, hr, hc⟩ := HH.out.at1 hkl rfl
    have hvu := HU.out _ (List.getElem_mem hkl)
    rw [← hv] at hvu
    have hr : [u] = [Value.int .u64 ((l[k] : Nat) : Int)] := hr.1
    injection hr with hr; subst hr
    rw [← hv] at hc
    obtain ⟨m, hm⟩ : ∃ m, m = most (l.take k) := ⟨_, rfl⟩
    obtain ⟨m2, hm2⟩ : ∃ m2, m2 = bl v := ⟨_, rfl⟩
    have HE := zH (show most (l.take (k + 1)) = max m m2 by rw [zT hkl, uus, ← hv, hm, hm2])
    have HM2 := zH hm2; have HVU := zH hvu
    rw [← hm]
    have q0 : (0 : Int) ≤ (k : Int) := by omega
    have q1 : (k : Int) < (n : Int) := by omega
    clear hv hm hm2 hvu
    go_wp2_with (first
     | (go_at_call 256; refine (uuK v HVU.out _).mono ?_; rintro e w1 ⟨rfl, rfl⟩; rw [← HM2.out])
     | fail)
    go_roundw
    case rel => exact ⟨k + 1, by omega, by go_num, by rw [HE.out]; go_num, trivial⟩
    case measure => simp [intOf]; omega
  · obtain rfl : k = n := by omega
    have HE := zH (show l.take k = l from zL (by rw [← HL.out]; exact Nat.le_refl _))
    go_wp2_with fail
    go_ret
    exact ⟨by rw [HE.out]; rfl, rfl⟩
end
section
open Go Go.RowKit Go.Shelf
attribute [local go_sem] Oper.semAt_some
def xxz (m k : Nat) : List (Fin m) := (List.finRange m).take k
theorem vvQ (m k : Nat) (hk : k ≤ m) : (xxz m k).length = k := by simp [xxz]; omega
theorem xxQ (m k : Nat) (hk : k < m) : xxz m (k + 1) = xxz m k ++ [⟨k, hk⟩] := by
 unfold xxz
 rw [zT (by simpa using hk)]
 simp
theorem kqY (m : Nat) : xxz m m = List.finRange m := by unfold xxz; rw [zL (by simp)]
def KpC (b0 b1 : Nat) (W W' : World) : Prop := W'.heap[b0]? = W.heap[b0]? ∧ W'.heap[b1]? = W.heap[b1]?
theorem KpC.refl (b0 b1 : Nat) (W : World) : KpC b0 b1 W W := ⟨rfl, rfl⟩
theorem KpC.trans {b0 b1 : Nat} {A B C : World} (h : KpC b0 b1 A B) (k : KpC b0 b1 B C) : KpC b0 b1 A C := ⟨k.1.trans h.1, k.2.trans h.2⟩
theorem KpC.put {b0 b1 : Nat} {w : World} (h0 : b0 < w.heap.size) (h1 : b1 < w.heap.size) (W : World) (l : Nat) (o o' : Obj) (hl : w.heap.size ≤ l) (_ : W.heap[l]? = some o) (_ : o.isCells = false) (_ : o.isWalk = false) : KpC b0 b1 W (W.putObj l o') :=
 ⟨World.putObj_heap_other (by omega), World.putObj_heap_other (by omega)⟩
theorem KpC.grown {b0 b1 : Nat} {W W' : World} {row : Option Nat} (h : W.grownBy W' row) (h0 : b0 < W.heap.size) (h1 : b1 < W.heap.size) (hr : ∀ k, row = some k → k ≠ b0 ∧ k ≠ b1) : KpC b0 b1 W W' :=
 ⟨h.block b0 h0 (fun e => (hr b0 e.symm).1 rfl), h.block b1 h1 (fun e => (hr b1 e.symm).2 rfl)⟩
def uud (A : Option Addr) (st N : Nat) {m : Nat} (x : Fin m) : Array Value := #[.slice (A.map fun a => a.add (st * x.val)) (min st (N - st * x.val)) (min st (N - st * x.val))]
theorem chRow1_in (F : Fence) (n : Nat) (hf : F.fn 111) (hro : F.round = none) (hn : 1 ≤ n) (l b0 b1 : Nat) (A : Option Addr) (st m N cap : Nat) (hst : 1 ≤ st) (hst2 : st ≤ 4096) (hN : ∀ k, k < m ↔ st * k < N) (hN2 : N ≤ 4294967296) (hcap : N ≤ cap) (hcm : cap ≤ maxLen) (J Jx : List (Fin m) → World → Prop)
 (hJ : ∀ pre W, J pre W → J pre W.drew)
 (hY : ∀ pre (x : Fin m) W, J pre W → pre = xxz m x.val → pre.length < m → YieldAt F (n - 1) Tryz.prog l (uud A st N x) W fun e W' =>
   (e = .returned (.bool true) ∧ J (pre ++ [x]) W' ∧ KpC b0 b1 W W') ∨ (e = .returned (.bool false) ∧ Jx (pre ++ [x]) W'))
 (W : World) (h0' : W.heap[b0]? = some (.cells #[.slice A N cap] 35 (0, 0))) (h1' : W.heap[b1]? = some (.cells #[.int .i64 (st : Int)] 3 (0, 0))) (h0 : J [] W) :
 CallsIn F n Tryz.prog 111 #[.func (.yield l) #[] #[], .pointer (some ⟨b0, 0, none⟩), .pointer (some ⟨b1, 0, none⟩)] W fun e W' => (∃ v, e = .returned v) ∧
  ((∃ ys, ys = xxz m m ∧ J ys W') ∨ (∃ pre, (∃ k, k ≤ m ∧ pre = xxz m k) ∧ Jx pre W')) := by
 unfold maxLen at hcm
 have HN := zH hN; clear hN
 have HA := zH h0'; have HB := zH h1'
 have q0 : W.cell? ⟨b0, 0, none⟩ = some (.slice A N cap) := by rw [zC h0']; rfl
 have q1 : W.cell? ⟨b1, 0, none⟩ = some (.int .i64 (st : Int)) := by rw [zC h1']; rfl
 clear h0' h1'
 refine callsIn_of_wp Tryz.func111 rfl hf ?_ hro
 simp only [Tryz.ntmps111, List.size_toArray, List.length_cons, List.length_nil, Nat.reduceAdd, Nat.reduceSub, Array.replicate_succ, Array.replicate_zero, List.push_toArray, List.append_toArray, List.nil_append, List.cons_append]
 gi_wp2
 gi_loopw [4] (fun i wr => ∃ (k j : Nat), k ≤ m ∧ j ≤ N + 4096 ∧ Hid (j = st * k) ∧ i = .int .i64 (j : Int) ∧ J (xxz m k) wr ∧ KpC b0 b1 W wr)
  (fun i _ => N + 4096 - (intOf i).toNat)
 case atStart => exact ⟨0, 0, Nat.zero_le _, Nat.zero_le _, zH (by rw [Nat.mul_zero]), rfl, h0, KpC.refl _ _ _⟩
 case round =>
  obtain ⟨k, j, hk, hj, HJ, rfl, hJs, hnx⟩ := hrel
  have HNX := zH hnx; clear q0 q1
  have c0 : wr.cell? ⟨b0, 0, none⟩ = some (.slice A N cap) := by rw [zC (hnx.1.trans HA.out)]; rfl
  have c1 : wr.cell? ⟨b1, 0, none⟩ = some (.int .i64 (st : Int)) := by rw [zC (hnx.2.trans HB.out)]; rfl
  clear hnx
  by_cases hlt : k < m
  · obtain ⟨fn, tmps, assign, body, hy, hR⟩ := hY _ ⟨k, hlt⟩ wr.drew (hJ _ _ hJs) rfl (by rw [vvQ _ _ hk]; exact hlt)
    dsimp only [uud] at hy
    have hjk := HJ.out
    rw [← hjk] at hy
    have hjN : j < N := by rw [hjk]; exact (HN.out k).1 hlt
    obtain ⟨q, hq⟩ : ∃ q, q = min st (N - j) := ⟨_, rfl⟩
    rw [← hq] at hy
    have HQ := zH hq
    have hq1 : 1 ≤ q := by omega
    have hq2 : j + q ≤ N := by omega
    have hq3 : q ≤ st := by omega
    have HNXT : Hid (j + st = st * (k + 1)) := zH (by rw [Nat.mul_succ]; omega)
    clear hjk
    have hlt' : (j : Int) < (N : Int) := by omega
    have hi0 : (0 : Int) ≤ (j : Int) := by omega
    have hi1 : (j : Int) ≤ (N : Int) := by omega
    have hi2 : (j : Int) ≤ (cap : Int) := by omega
    have hi3 : (j : Int) + (q : Int) ≤ (cap : Int) := by omega
    have hi4 : (0 : Int) ≤ (j : Int) + (q : Int) := by omega
    have hi5 : (j : Int) ≤ (j : Int) + (q : Int) := by omega
    have HMN := zH (show min (st : Int) ((N - j : Nat) : Int) = (q : Int) by have := HQ.out; omega)
    have HIF : Hid ((if N - j < st then ((N - j : Nat) : Int) else (st : Int)) = (q : Int)) := zH (by have := HQ.out; split <;> omega)
    have HIG : Hid ((if st < N - j then (st : Int) else ((N - j : Nat) : Int)) = (q : Int)) := zH (by have := HQ.out; split <;> omega)
    have hw1 : (j : Int) + (st : Int) ≤ 4294971392 := by omega
    clear hq
    have hmx : Tryz.prog.follows .mixedOrders = true := by kernel_rfl
    gi_wp2
    gi_region
    all_goals
     first | rw [HIF.out] | rw [HIG.out] | rw [HMN.out] | fail
     gi_wp2
     refine hR.mono ?_
     rintro e W3 (⟨rfl, hJ3, hk3⟩ | ⟨rfl, hJx3⟩)
     · have c1' : W3.cell? ⟨b1, 0, none⟩ = some (.int .i64 (st : Int)) := by rw [zC (hk3.2.trans (HNX.out.2.trans HB.out))]; rfl
       have HK3 := zH hk3; clear hk3
       gi_wp2
       go_roundw
       case rel => exact ⟨k + 1, j + st, by omega, by omega, HNXT, by go_num, by rw [xxQ _ _ hlt]; exact hJ3, HNX.out.trans HK3.out⟩
       case measure => simp [intOf]; omega
     · gi_wp2
       refine bodyPost_ret (results_none rfl _ _ _) rfl ?_
       exact ⟨⟨_, rfl⟩, .inr ⟨_, ⟨k + 1, by omega, (xxQ _ _ hlt).symm⟩, hJx3⟩⟩
  · obtain rfl : k = m := by omega
    have hge : ¬ (j : Int) < (N : Int) := by have h1 := HJ.out; have h2 := HN.out k; omega
    gi_wp2
    go_end0
    first | exact ⟨⟨_, rfl⟩, .inl ⟨_, rfl, hJs⟩⟩ | exact ⟨⟨_, rfl⟩, .inl hJs⟩ | exact .inl hJs | exact hJs
theorem chRow_in (F : Fence) (n : Nat) (hf : F.fn 54) (hro : F.round = none) (A : Option Addr) (N cap st : Nat) (hst : 1 ≤ st) (w : World) :
 CallsIn F n Tryz.prog 54 #[.slice A N cap, .int .i64 (st : Int)] w fun e w' => e = .returned (.func (.func 111) #[] #[.pointer (some ⟨w.heap.size, 0, none⟩), .pointer (some ⟨w.heap.size + 1, 0, none⟩)]) ∧
  w' = (w.alloc (.cells #[.slice A N cap] 35)).alloc (.cells #[.int .i64 (st : Int)] 3) := by
 refine callsIn_of_wp Tryz.func54 rfl hf ?_ hro
 simp only [Tryz.ntmps54, List.size_toArray, List.length_cons, List.length_nil, Nat.reduceAdd, Nat.reduceSub, Array.replicate_succ, Array.replicate_zero, List.push_toArray, List.append_toArray, List.nil_append, List.cons_append]
 have h1 : ¬ (st : Int) < 1 := by omega
 gi_wp2
 go_ret
 exact ⟨rfl, rfl⟩
theorem qzS (F : Fence) (n : Nat) (hf : F.fn 111) (hro : F.round = none) (hn : 1 ≤ n) (b0 b1 : Nat) (A : Option Addr) (st m N cap : Nat) (hst : 1 ≤ st) (hst2 : st ≤ 4096) (hN : ∀ k, k < m ↔ st * k < N) (hN2 : N ≤ 4294967296) (hcap : N ≤ cap) (hcm : cap ≤ maxLen) (w : World)
 (h0 : w.heap[b0]? = some (.cells #[.slice A N cap] 35 (0, 0))) (h1 : w.heap[b1]? = some (.cells #[.int .i64 (st : Int)] 3 (0, 0))) :
 SeqStopsK F n Tryz.prog 111 #[.pointer (some ⟨b0, 0, none⟩), .pointer (some ⟨b1, 0, none⟩)] (fun x : Fin m => uud A st N x) (KpC b0 b1) (fun ys => ys = List.finRange m) (fun pre => ∃ k, k ≤ m ∧ pre = xxz m k) m w := fun l J Jx W hW hJ _ hY hJ0 => by
 have l0 : b0 < w.heap.size := (Array.getElem?_eq_some_iff.1 h0).1
 have l1 : b1 < w.heap.size := (Array.getElem?_eq_some_iff.1 h1).1
 refine (chRow1_in F n hf hro hn l b0 b1 A st m N cap hst hst2 hN hN2 hcap hcm J Jx (fun pre W1 hs => hJ pre W1 W1.drew none hs ⟨rfl, rfl, rfl, Nat.le_refl _, fun _ _ _ => rfl⟩ (fun r e => by cases e)) (fun pre x W1 h _ h2 => hY pre x W1 h h2) W ((hW.block _ l0).trans h0) ((hW.block _ l1).trans h1) hJ0).mono ?_
 rintro e W' ⟨he, ⟨ys, rfl, hj⟩ | ⟨pre, hp, hj⟩⟩
 · exact ⟨he, .inl ⟨_, kqY m, hj⟩⟩
 · exact ⟨he, .inr ⟨pre, hp, hj⟩⟩
end
end Go.Proofs.YtpmglcachffojaaGreatDoor
