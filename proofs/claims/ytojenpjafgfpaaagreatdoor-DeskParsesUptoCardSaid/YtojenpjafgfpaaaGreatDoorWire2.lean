/- slices.Grow at nil, and slices.Concat, at the element types that this claim meets: any slices, any elements. -/
import Derived.Test.YtojenpjafgfpaaaGreatDoorBase
import Derived.Lib.AppendZerosOnto
import Derived.Test.YtojenpjafgfpaaaGreatDoorSpec
import Derived.Test.YtojenpjafgfpaaaGreatDoorStruct
import Derived.Deep.RegionHeld3
import Derived.Deep.DrawnRows
namespace Go.Proofs.YtojenpjafgfpaaaGreatDoor
open Go Go.RowKit

/-- append(nil, make([]E, n)...): a row of zeroes of its own. -/
theorem run_append_make {P : Program} {t tn e : TypeId} {size : Nat} (E : ElemOf P t e size) (htn : P.underlying tn = some (.int .i64)) (ty : TypeId) (w : World) (k : Nat) (h0 : 0 < k) (hk : k ≤ 4294967296) :
    ∃ cap w', (Builtin.append_ #[t, tn] ty #[.slice none 0 0, .int .i64 (k : Int)]).run P w = .ok (.slice (some ⟨w.heap.size, 0, none⟩) k cap) w' ∧ k ≤ cap ∧ w'.ownsRow w.heap.size e size (.slice (some ⟨w.heap.size, 0, none⟩) 0 cap) 0 [] ∧ Below w.heap.size w w' := by
  obtain ⟨ht, i, z, hi, hz, hs, hby, hzs, hsz⟩ := E
  have hcap : ∀ w : World, k ≤ grownCap w (0 + k) 0 e ∧ grownCap w (0 + k) 0 e ≤ maxLen := fun w => by
    have h1 := grownCap_ge w (0 + k) 0 e
    exact ⟨by omega, grownCap_le_maxLen w _ _ e (by simp only [maxLen]; omega)⟩
  have hb : k * i.bytes ≤ 4294967296 * 1024 := Nat.mul_le_mul hk hby
  have hfit : Builtin.nextslicecap (0 + k) 0 * i.bytes ≤ 281474976710656 := by
    have h1 : 0 < 0 + k := by omega
    exact growslice_fits h1 (by rw [Nat.zero_add]; omega)
  have h := Lib.run_append_grow_zeros (P := P) w t tn ty e i z .i64 .i64 ht htn hi hz none 0 0 [] (by simp [Builtin.firstCells]) k h0 (by omega) (by omega) (by omega) (by omega) hfit
  simp only [Nat.zero_add] at h hcap
  have hc := hcap w
  refine ⟨grownCap w k 0 e, _, h, hc.1, ⟨by simp, .inr ⟨w.heap.size, _, _, rfl, Nat.le_refl _, heap_alloc_new w.drew _, Nat.zero_le _, hc.2, ?_, by simp⟩⟩, ((Below.refl _ w).drew).alloc (by simp) _⟩
  have hz' : ∀ m, (Builtin.zeroCells z.cells m).size = m * size := fun m => by simp [Builtin.zeroCells, hzs]
  simp only [Array.size_append, hz']
  rw [show (([] : List Value).toArray).size = 0 from rfl, Nat.zero_add, ← Nat.add_mul]
  congr 1
  omega

/-! []uint8 -/
theorem ssB : Tryz.prog.underlying 154 = some (.slice 30) := by kernel_rfl
set_option maxRecDepth 100000 in
set_option maxHeartbeats 400000 in
theorem growB_nil {size : Nat} (E : ElemOf Tryz.prog 30 5 size) (n : Nat) (w : World) (hn : n ≤ 4294967296) :
    Calls Tryz.prog 102 #[.slice none 0 0, .int .i64 (n : Int)] w fun e w' => ∃ A c, e = .returned (.slice A 0 c) ∧ w'.ownsRow w.heap.size 5 size (.slice A 0 c) 0 [] ∧ Below w.heap.size w w' := by
  rcases Nat.eq_zero_or_pos n with rfl | h0
  · go_enter Tryz.func102, Tryz.ntmps102
    go_wp2
    go_ret
    exact ⟨none, 0, rfl, World.ownsRow_nil _ _ _ _, Below.refl _ _⟩
  · obtain ⟨cap, w', hrun, hc, hown, hb⟩ := run_append_make E undInt 30 w n h0 hn
    have h0' : (0 : Int) < (n : Int) := by omega
    have hcap := (own_cap hown).2
    unfold maxLen at hcap
    go_enter Tryz.func102, Tryz.ntmps102
    go_wp2_with (at_builtin; refine Lib.wpList_append_run _ rfl _ _ _ _ rfl _ _ rfl rfl _ _ hrun ?_)
    go_ret
    exact ⟨_, cap, rfl, hown, hb⟩
set_option maxRecDepth 100000 in
set_option maxHeartbeats 400000 in
theorem cloneB_any {α : Type} {T : Ty α} (E : ElemOf Tryz.prog 30 5 T.size) (F : Nat → Prop) (A : Option Addr) (n c : Nat) (l : List α) (w : World) (h : Sl T F w A n c l) (hFl : ¬ F w.heap.size) (hL : n ≤ 4294967296) :
    Calls Tryz.prog 101 #[.slice A n c] w fun e w' => ∃ A' n' c', e = .returned (.slice A' n' c') ∧ Own T 5 w' w.heap.size A' n' c' l ∧ Below w.heap.size w w' := by
  obtain ⟨hlen, hcap, hmax, css, hrd, hr⟩ := h
  have hsz : 0 < T.size := by obtain ⟨_, _, _, _, _, _, _, _, h⟩ := E; exact h
  rcases A with _ | ad
  · have hn : l = [] := by
      rcases l with _ | ⟨b, l⟩
      · rfl
      · obtain ⟨_, _, h, _⟩ := hrd (by intro he; have := hr.flat; rw [he] at this; have h2 : 0 < (b :: l).length * T.size := Nat.mul_pos (by simp) hsz; rw [← this] at h2; simp at h2)
        cases h
    subst hn
    clear hrd hlen
    have heq : (binOp .eql 30 (.slice none n c) (.slice none 0 0)).run Tryz.prog w = .ok (.bool true) w := Lib.run_eql_slice_nil w 30 5 none n c 0 0 E.und
    go_enter Tryz.func101, Tryz.ntmps101
    go_wp2
    go_ret
    exact ⟨none, 0, 0, rfl, Own.nil_ _ _ _ _, Below.refl _ _⟩
  · have heq : (binOp .eql 30 (.slice (some ad) n c) (.slice none 0 0)).run Tryz.prog w = .ok (.bool false) w := Lib.run_eql_slice_nil w 30 5 (some ad) n c 0 0 E.und
    have HL := Lib.hid hlen; clear hlen
    have hlit : (w.alloc (.cells #[] 5)).ownsRow w.heap.size 5 T.size (.slice (some ⟨w.heap.size, 0, none⟩) 0 0) 0 [] := World.ownsRow_lit w #[] 0 (Nat.le_refl _) (by simp [maxLen]) (by simp)
    have hown0 : OwnF T 5 (fun _ => False) (w.alloc (.cells #[] 5)) w.heap.size (some ⟨w.heap.size, 0, none⟩) 0 0 [] := ⟨⟨[], hlit, Reps.nil_⟩, fun _ _ _ h => h, rfl⟩
    have hsl : Sl T F w (some ad) n c l := ⟨HL.out, hcap, hmax, css, hrd, hr⟩
    clear hlit
    have hFd : ∀ b, (some ⟨w.heap.size, 0, none⟩ : Option Addr) = some ⟨b, 0, none⟩ → F b → False := fun b h1 h2 => by injection h1 with h1; injection h1 with h1; subst h1; exact hFl h2
    go_enter Tryz.func101, Tryz.ntmps101
    go_wp2_with (at_builtin; go_loud (refine apl E _ w rfl (.tmp 5) (.tmp 6) rfl w.heap.size (some ⟨w.heap.size, 0, none⟩) 0 0 [] rfl (fun _ => False) F hown0 ((Below.refl _ w).alloc (Nat.le_refl _) _) (Nat.le_refl _) (some ad) n c l rfl (hsl.alloc _) (fun b h1 _ _ h2 => hFd b h1 h2) (by omega) ?_); intro A1 c1 w1 h1)
    go_ret
    exact ⟨A1, _, c1, rfl, ⟨_, by simpa using h1.own⟩, h1.below⟩
def totB {α : Type} (l : List (List α)) (k : Nat) : Nat := (l.take k).flatten.length
theorem totB_succ {α : Type} (l : List (List α)) (k : Nat) (h : k < l.length) : totB l (k + 1) = totB l k + (l[k]'h).length := by
  unfold totB
  rw [List.take_succ_eq_append_getElem h, List.flatten_append]
  simp only [List.length_append, List.flatten_cons, List.flatten_nil, List.append_nil]
theorem totB_zero {α : Type} (l : List (List α)) : totB l 0 = 0 := by simp [totB]
theorem totB_le {α : Type} (l : List (List α)) (k : Nat) : totB l k ≤ l.flatten.length := by
  unfold totB
  rw [show l.flatten = (l.take k).flatten ++ (l.drop k).flatten by rw [← List.flatten_append, List.take_append_drop]]
  simp
set_option maxRecDepth 100000 in
set_option maxHeartbeats 1000000 in
theorem concatB_any {α : Type} {T : Ty α} (E : ElemOf Tryz.prog 30 5 T.size) (F : Nat → Prop) (A : Option Addr) (n c : Nat) (l : List (List α)) (w : World) (h : Sl (tSl T) F w A n c l) (hn : n ≤ 4294967296) (hl : l.flatten.length ≤ 4294967296) :
    Calls Tryz.prog 94 #[.slice A n c] w fun e w' => ∃ A' n' c', e = .returned (.slice A' n' c') ∧ Own T 5 w' w.heap.size A' n' c' l.flatten ∧ Below w.heap.size w w' := by
  have HL := Lib.hid h.len
  have hle := totB_le l
  go_enter Tryz.func94, Tryz.ntmps94
  go_wp2
  go_loop [3, 11] (fun s i => ∃ k : Nat, k ≤ n ∧ i = .int .i64 k ∧ s = .int .i64 (totB l k : Nat)) (fun _ i => n - (intOf i).toNat)
  case atStart => exact ⟨0, Nat.zero_le _, rfl, rfl⟩
  case round =>
    obtain ⟨k, hk, rfl, rfl⟩ := hrel
    have h1 := hle k
    by_cases hlt : k < n
    · have h2 := hle (k + 1)
      have hkl : k < l.length := by rw [← HL.out]; exact hlt
      have H3 := Lib.hid (totB_succ l k hkl)
      obtain ⟨b, o, u, rfl, _, _, hu, hc⟩ := h.at1 hkl rfl
      obtain ⟨Ak, nk, ck, hu, hsl⟩ := hu
      obtain rfl : u = .slice Ak nk ck := by simpa using hu
      have H4 := Lib.hid hsl.len
      have h5 : totB l k + nk = totB l (k + 1) := by rw [H3.out, H4.out]
      have h6 : totB l k + nk ≤ l.flatten.length := by rw [h5]; exact h2
      have H5 := Lib.hid h5; clear h5 hu
      go_wp2
      go_round
      case rel => exact ⟨k + 1, by omega, by go_num, by rw [← H5.out]; go_num⟩
      case measure => simp [intOf]; omega
    · obtain rfl : k = n := by omega
      have hF : ∃ F', Sl (tSl T) F' w A k c l ∧ ∀ b, F' b → b < w.heap.size := ⟨_, h.weaken (F' := fun b => F b ∧ b < w.heap.size) (fun b h1 h2 => ⟨h1, h2⟩), fun b h => h.2⟩
      obtain ⟨F', h', hF'⟩ := hF
      clear h
      have hz := totB_zero l
      have HZ := Lib.hid hz; clear hz
      go_wp2_with (go_at_call 102; refine (growB_nil E (totB l k) w (by omega)).mono ?_; rintro e w1 ⟨A1, c1, rfl, hown, hb⟩)
      go_loopw [6, 27] (fun v i wr => ∃ (j : Nat) (A2 : Option Addr) (m c2 : Nat) (G : Nat → Prop), j ≤ k ∧ i = .int .i64 j ∧ v = .slice A2 m c2 ∧ OwnF T 5 G wr w.heap.size A2 m c2 (l.take j).flatten ∧ Below w.heap.size w wr) (fun _ i _ => k - (intOf i).toNat)
      case atStart => exact ⟨0, A1, 0, c1, fun _ => False, Nat.zero_le _, rfl, rfl, ⟨⟨[], hown, Reps.nil_⟩, fun _ _ _ h => h, rfl⟩, hb⟩
      case round =>
        obtain ⟨j, A2, m, c2, G, hj, rfl, rfl, hown2, hb2⟩ := hrel
        have hj1 := hle j
        by_cases hlt2 : j < k
        · have hj2 := hle (j + 1)
          have hkl : j < l.length := by rw [← HL.out]; exact hlt2
          have H3 := Lib.hid (totB_succ l j hkl)
          have hwr := h'.below hb2 (Nat.le_refl _)
          obtain ⟨b, o, u, rfl, hFb, _, hu, hc⟩ := hwr.at1 hkl rfl
          obtain ⟨Ak, nk, ck, hu, hsl⟩ := hu
          obtain rfl : u = .slice Ak nk ck := by simpa using hu
          clear hu hwr
          have h6 : m + nk ≤ 4294967296 := by rw [hown2.len, hsl.len]; have := H3.out; unfold totB at *; omega
          have H7 := Lib.hid hown2; have H8 := Lib.hid hsl
          clear hown2 hsl
          go_wp2_with (at_builtin; refine apl E wr w rfl (.tmp 31) (.tmp 32) rfl w.heap.size A2 m c2 (l.take j).flatten rfl G F' H7.out hb2 (Nat.le_refl _) Ak nk ck l[j] rfl H8.out (fun b _ h1 _ h2 => by have := hF' b h2; omega) (by omega) ?_; intro A3 c3 w3 h3)
          go_roundw
          case rel =>
            have e1 : (l.take (j + 1)).flatten = (l.take j).flatten ++ l[j] := by
              rw [List.take_succ_eq_append_getElem hkl, List.flatten_append]; simp
            have e2 := h3.own
            rw [← e1] at e2
            exact ⟨j + 1, A3, m + nk, c3, _, by omega, by go_num, rfl, e2, h3.below⟩
          case measure => simp [intOf]; omega
        · obtain rfl : j = k := by omega
          go_wp2
          go_ret
          refine ⟨A2, m, c2, rfl, ⟨G, ?_⟩, hb2⟩
          have e1 : l.take j = l := List.take_of_length_le (by rw [← HL.out]; exact Nat.le_refl _)
          rw [e1] at hown2
          exact hown2

/-! []wire.Field -/
theorem ssF : Tryz.prog.underlying 120 = some (.slice 59) := by kernel_rfl
set_option maxRecDepth 100000 in
set_option maxHeartbeats 400000 in
theorem growF_nil {size : Nat} (E : ElemOf Tryz.prog 59 75 size) (n : Nat) (w : World) (hn : n ≤ 4294967296) :
    Calls Tryz.prog 60 #[.slice none 0 0, .int .i64 (n : Int)] w fun e w' => ∃ A c, e = .returned (.slice A 0 c) ∧ w'.ownsRow w.heap.size 75 size (.slice A 0 c) 0 [] ∧ Below w.heap.size w w' := by
  rcases Nat.eq_zero_or_pos n with rfl | h0
  · go_enter Tryz.func60, Tryz.ntmps60
    go_wp2
    go_ret
    exact ⟨none, 0, rfl, World.ownsRow_nil _ _ _ _, Below.refl _ _⟩
  · obtain ⟨cap, w', hrun, hc, hown, hb⟩ := run_append_make E undInt 59 w n h0 hn
    have h0' : (0 : Int) < (n : Int) := by omega
    have hcap := (own_cap hown).2
    unfold maxLen at hcap
    go_enter Tryz.func60, Tryz.ntmps60
    go_wp2_with (at_builtin; refine Lib.wpList_append_run _ rfl _ _ _ _ rfl _ _ rfl rfl _ _ hrun ?_)
    go_ret
    exact ⟨_, cap, rfl, hown, hb⟩
def totF {α : Type} (l : List (List α)) (k : Nat) : Nat := (l.take k).flatten.length
theorem totF_succ {α : Type} (l : List (List α)) (k : Nat) (h : k < l.length) : totF l (k + 1) = totF l k + (l[k]'h).length := by
  unfold totF
  rw [List.take_succ_eq_append_getElem h, List.flatten_append]
  simp only [List.length_append, List.flatten_cons, List.flatten_nil, List.append_nil]
theorem totF_zero {α : Type} (l : List (List α)) : totF l 0 = 0 := by simp [totF]
theorem totF_le {α : Type} (l : List (List α)) (k : Nat) : totF l k ≤ l.flatten.length := by
  unfold totF
  rw [show l.flatten = (l.take k).flatten ++ (l.drop k).flatten by rw [← List.flatten_append, List.take_append_drop]]
  simp
set_option maxRecDepth 100000 in
set_option maxHeartbeats 1000000 in
theorem concatF_any {α : Type} {T : Ty α} (E : ElemOf Tryz.prog 59 75 T.size) (F : Nat → Prop) (A : Option Addr) (n c : Nat) (l : List (List α)) (w : World) (h : Sl (tSl T) F w A n c l) (hn : n ≤ 4294967296) (hl : l.flatten.length ≤ 4294967296) :
    Calls Tryz.prog 29 #[.slice A n c] w fun e w' => ∃ A' n' c', e = .returned (.slice A' n' c') ∧ Own T 75 w' w.heap.size A' n' c' l.flatten ∧ Below w.heap.size w w' := by
  have HL := Lib.hid h.len
  have hle := totF_le l
  go_enter Tryz.func29, Tryz.ntmps29
  go_wp2
  go_loop [3, 11] (fun s i => ∃ k : Nat, k ≤ n ∧ i = .int .i64 k ∧ s = .int .i64 (totF l k : Nat)) (fun _ i => n - (intOf i).toNat)
  case atStart => exact ⟨0, Nat.zero_le _, rfl, rfl⟩
  case round =>
    obtain ⟨k, hk, rfl, rfl⟩ := hrel
    have h1 := hle k
    by_cases hlt : k < n
    · have h2 := hle (k + 1)
      have hkl : k < l.length := by rw [← HL.out]; exact hlt
      have H3 := Lib.hid (totF_succ l k hkl)
      obtain ⟨b, o, u, rfl, _, _, hu, hc⟩ := h.at1 hkl rfl
      obtain ⟨Ak, nk, ck, hu, hsl⟩ := hu
      obtain rfl : u = .slice Ak nk ck := by simpa using hu
      have H4 := Lib.hid hsl.len
      have h5 : totF l k + nk = totF l (k + 1) := by rw [H3.out, H4.out]
      have h6 : totF l k + nk ≤ l.flatten.length := by rw [h5]; exact h2
      have H5 := Lib.hid h5; clear h5 hu
      go_wp2
      go_round
      case rel => exact ⟨k + 1, by omega, by go_num, by rw [← H5.out]; go_num⟩
      case measure => simp [intOf]; omega
    · obtain rfl : k = n := by omega
      have hF : ∃ F', Sl (tSl T) F' w A k c l ∧ ∀ b, F' b → b < w.heap.size := ⟨_, h.weaken (F' := fun b => F b ∧ b < w.heap.size) (fun b h1 h2 => ⟨h1, h2⟩), fun b h => h.2⟩
      obtain ⟨F', h', hF'⟩ := hF
      clear h
      have hz := totF_zero l
      have HZ := Lib.hid hz; clear hz
      go_wp2_with (go_at_call 60; refine (growF_nil E (totF l k) w (by omega)).mono ?_; rintro e w1 ⟨A1, c1, rfl, hown, hb⟩)
      go_loopw [6, 27] (fun v i wr => ∃ (j : Nat) (A2 : Option Addr) (m c2 : Nat) (G : Nat → Prop), j ≤ k ∧ i = .int .i64 j ∧ v = .slice A2 m c2 ∧ OwnF T 75 G wr w.heap.size A2 m c2 (l.take j).flatten ∧ Below w.heap.size w wr) (fun _ i _ => k - (intOf i).toNat)
      case atStart => exact ⟨0, A1, 0, c1, fun _ => False, Nat.zero_le _, rfl, rfl, ⟨⟨[], hown, Reps.nil_⟩, fun _ _ _ h => h, rfl⟩, hb⟩
      case round =>
        obtain ⟨j, A2, m, c2, G, hj, rfl, rfl, hown2, hb2⟩ := hrel
        have hj1 := hle j
        by_cases hlt2 : j < k
        · have hj2 := hle (j + 1)
          have hkl : j < l.length := by rw [← HL.out]; exact hlt2
          have H3 := Lib.hid (totF_succ l j hkl)
          have hwr := h'.below hb2 (Nat.le_refl _)
          obtain ⟨b, o, u, rfl, hFb, _, hu, hc⟩ := hwr.at1 hkl rfl
          obtain ⟨Ak, nk, ck, hu, hsl⟩ := hu
          obtain rfl : u = .slice Ak nk ck := by simpa using hu
          clear hu hwr
          have h6 : m + nk ≤ 4294967296 := by rw [hown2.len, hsl.len]; have := H3.out; unfold totF at *; omega
          have H7 := Lib.hid hown2; have H8 := Lib.hid hsl
          clear hown2 hsl
          go_wp2_with (at_builtin; refine apl E wr w rfl (.tmp 31) (.tmp 32) rfl w.heap.size A2 m c2 (l.take j).flatten rfl G F' H7.out hb2 (Nat.le_refl _) Ak nk ck l[j] rfl H8.out (fun b _ h1 _ h2 => by have := hF' b h2; omega) (by omega) ?_; intro A3 c3 w3 h3)
          go_roundw
          case rel =>
            have e1 : (l.take (j + 1)).flatten = (l.take j).flatten ++ l[j] := by
              rw [List.take_succ_eq_append_getElem hkl, List.flatten_append]; simp
            have e2 := h3.own
            rw [← e1] at e2
            exact ⟨j + 1, A3, m + nk, c3, _, by omega, by go_num, rfl, e2, h3.below⟩
          case measure => simp [intOf]; omega
        · obtain rfl : j = k := by omega
          go_wp2
          go_ret
          refine ⟨A2, m, c2, rfl, ⟨G, ?_⟩, hb2⟩
          have e1 : l.take j = l := List.take_of_length_le (by rw [← HL.out]; exact Nat.le_refl _)
          rw [e1] at hown2
          exact hown2
end Go.Proofs.YtojenpjafgfpaaaGreatDoor
/- The layer varint: its functions compute the plain functions of the specification, whatever the arguments (bytes of at most 2^32). -/
namespace Go.Proofs.YtojenpjafgfpaaaGreatDoor
open Go Go.RowKit
set_option maxRecDepth 100000 in
set_option maxHeartbeats 400000 in
theorem zig_any (x : Int) (w : World) (h0 : -9223372036854775808 ≤ x) (h1 : x ≤ 9223372036854775807) :
    Calls Tryz.prog 57 #[.int .i64 x] w fun e w' => e = .returned (.int .u64 (zigN x : Nat)) ∧ w = w' := by
  have H := Lib.hid (zig_bits x h0 h1)
  go_enter Tryz.func57, Tryz.ntmps57
  go_wp2
  go_ret
  exact ⟨ret_int H.out, rfl⟩
set_option maxRecDepth 100000 in
set_option maxHeartbeats 400000 in
theorem zag_any (x : Nat) (w : World) (h1 : x < 18446744073709551616) :
    Calls Tryz.prog 47 #[.int .u64 x] w fun e w' => e = .returned (.int .i64 (zagI x)) ∧ w = w' := by
  have H := Lib.hid (zag_bits x h1)
  go_enter Tryz.func47, Tryz.ntmps47
  go_wp2
  go_ret
  exact ⟨ret_int H.out, rfl⟩

theorem byte_more (x : Nat) : bits BinOp.or IntKind.u8 ((x : Int) % 256) 128 = ((UInt8.ofNat (x % 128 + 128)).toNat : Int) := by
  rw [show (x : Int) % 256 = ((x % 256 : Nat) : Int) by omega, u8_or128 _ (by omega), UInt8.toNat_ofNat']
  congr 1
  omega
theorem byte_last (x : Nat) : IntKind.u8.wrap (x : Int) = ((UInt8.ofNat x).toNat : Int) := by
  rw [IntKind.wrap_u8, UInt8.toNat_ofNat']
  omega

set_option maxRecDepth 100000 in
set_option maxHeartbeats 1000000 in
theorem vput_any (F : Nat → Prop) (A : Option Addr) (n c : Nat) (bs : List UInt8) (x : Nat) (w : World) (h : Bs F w A n c bs) (hn : n ≤ 4294967200) (hx : x < 18446744073709551616) :
    Calls Tryz.prog 81 #[.slice A n c, .int .u64 (x : Int)] w (Own1 w (bs ++ vput x)) := by
  go_enter Tryz.func81, Tryz.ntmps81
  go_wp2
  go_loopw [5, 1] (fun v xv wr => ∃ (f x' : Nat) (L : List UInt8) (A2 : Option Addr) (m c2 : Nat), m + f ≤ 9 ∧ xv = .int .u64 (x' : Int) ∧ v = .slice A2 m c2 ∧ OwnB wr w.heap.size A2 m c2 L ∧ L ++ vputF f x' = vput x ∧ x' < 128 ^ (f + 1) ∧ x' < 18446744073709551616 ∧ Below w.heap.size w wr)
    (fun _ xv _ => (intOf xv).toNat)
  case atStart => exact ⟨9, x, [], none, 0, 0, by omega, rfl, rfl, OwnB.nil_ _ _, rfl, by omega, hx, Below.refl _ _⟩
  case round =>
    obtain ⟨f, x', L, A2, m, c2, hm, rfl, rfl, hown, heq, hlt, hlt2, hb⟩ := hrel
    have HE := Lib.hid heq; have HO := Lib.hid hown; have HL := Lib.hid hlt
    clear heq hown hlt
    have hsz := hb.size
    by_cases hx' : x' < 128
    · have hlast := byte_last x'
      rw [IntKind.wrap_u8, show (x' : Int) % 256 = (x' : Int) by omega] at hlast
      have s1 := (HO.out.bs.any).alloc (.cells #[.int .u8 (x' : Int)] 5)
      have s2 := ((h.any).below hb (Nat.le_refl _)).alloc (.cells #[.int .u8 (x' : Int)] 5)
      have s3 : Sl tU8 (fun _ => True) (wr.alloc (.cells #[.int .u8 (x' : Int)] 5)) (some ⟨wr.heap.size, 0, none⟩) 1 1 [UInt8.ofNat x'] :=
        (Sl.new (T := tU8) (F := fun _ => True) (cs := [.int .u8 (x' : Int)]) (by rw [hlast]; rfl) 5 _ rfl).any
      have hs := sl3 s2 s1 s3 30
      rw [World.size_alloc] at hs
      have HS := Lib.hid hs; clear hs
      have HB := Lib.hid ((hb.alloc hsz (.cells #[.int .u8 (x' : Int)] 5)).alloc (by simp; omega) (.cells #[.slice A n c, .slice A2 m c2, .slice (some ⟨wr.heap.size, 0, none⟩) 1 1] 30))
      have hnl := h.len
      have hml := HO.out.len
      have HN := Lib.hid (show [bs, L, [UInt8.ofNat x']].flatten.length ≤ 4294967296 by simp; omega)
      clear s1 s2 s3 hlast hnl hml
      go_wp2_with (go_at_call 94; refine (concatB_any (T := tU8) elemBytes (fun _ => True) _ _ _ [bs, L, [UInt8.ofNat x']] _ HS.out (by omega) HN.out).mono ?_; rintro e w1 ⟨A1, n1, c1, rfl, hown1, hb1⟩)
      go_ret
      refine ⟨A1, n1, c1, rfl, ?_, HB.out.trans (hb1.mono (by simp; omega))⟩
      have hfin : [bs, L, [UInt8.ofNat x']].flatten = bs ++ vput x := by
        rw [← HE.out]
        cases f <;> simp [vputF, hx']
      rw [hfin] at hown1
      exact own_u8 (hown1.down (by simp; omega))
    · have HM := Lib.hid (byte_more x')
      go_wp2_with (at_builtin; refine apb1 wr w rfl (.tmp 10) (.tmp 14) rfl w.heap.size A2 m c2 L rfl HO.out hb (Nat.le_refl _) _ rfl (UInt8.ofNat (x' % 128 + 128)) (by rw [← HM.out]) (by omega) ?_; intro A3 c3 w3 h3 hb3 _)
      go_roundw
      case rel =>
        obtain ⟨f, rfl⟩ : ∃ f', f = f' + 1 := by
          cases f with
          | zero => have := HL.out; omega
          | succ f => exact ⟨f, rfl⟩
        have hlt := HL.out
        refine ⟨f, x' / 128, L ++ [UInt8.ofNat (x' % 128 + 128)], A3, m + 1, c3, by omega, by go_num, rfl, h3, ?_, ?_, by omega, hb3⟩
        · rw [← HE.out]
          simp [vputF, hx']
        · rw [Nat.pow_succ] at hlt; exact Nat.div_lt_of_lt_mul (by omega)
      case measure => simp [intOf]; omega
theorem vput_int (F : Nat → Prop) (A : Option Addr) (n c : Nat) (bs : List UInt8) (x : Int) (w : World) (h : Bs F w A n c bs) (hn : n ≤ 4294967200) (h0 : 0 ≤ x) (hx : x < 18446744073709551616) :
    Calls Tryz.prog 81 #[.slice A n c, .int .u64 x] w (Own1 w (bs ++ vput x.toNat)) := by
  obtain ⟨k, rfl⟩ := Int.eq_ofNat_of_zero_le h0
  rw [Int.toNat_natCast]
  exact vput_any F A n c bs k w h hn (by omega)
end Go.Proofs.YtojenpjafgfpaaaGreatDoor
/- The layer wire, and the references of varint and wire: their functions compute the plain functions of the specification. -/
namespace Go.Proofs.YtojenpjafgfpaaaGreatDoor
open Go Go.RowKit

set_option maxRecDepth 100000 in
set_option maxHeartbeats 400000 in
theorem refzig_any (x : Int) (w : World) (h0 : -9223372036854775808 ≤ x) (h1 : x ≤ 9223372036854775807) :
    Calls Tryz.prog 61 #[.int .i64 x] w fun e w' => e = .returned (.int .u64 (zigN x : Nat)) ∧ w = w' := by
  by_cases hx : x < 0
  · have H := Lib.hid (show (2 * -(x + 1) + 1 : Int) = (zigN x : Nat) by unfold zigN; rw [if_pos hx]; omega)
    go_enter Tryz.func61, Tryz.ntmps61
    go_wp2
    go_ret
    exact ⟨ret_int H.out, rfl⟩
  · have H := Lib.hid (show (2 * x : Int) = (zigN x : Nat) by unfold zigN; rw [if_neg hx]; omega)
    go_enter Tryz.func61, Tryz.ntmps61
    go_wp2
    go_ret
    exact ⟨ret_int H.out, rfl⟩

theorem ownput_le {w : World} {B : Nat} {A : Option Addr} {n c m : Nat} {L : List UInt8} {x : Nat} (h : OwnB w B A n c (L ++ vput x)) (hm : m = L.length) : n ≤ m + 10 := by
  have h1 := h.len
  have h2 := vput_len x
  simp at h1; omega
/-- What a call that makes a field leaves. -/
def IsFld (tag : Int) (bytes : Bool) (n : Nat) (A : Option Addr) (k c : Nat) (w : World) (e : Ending) (w' : World) : Prop :=
  e = .returned (.agg #[.int .i64 tag, .bool bytes, .int .u64 (n : Int), .slice A k c]) ∧ Below w.heap.size w w'

set_option maxRecDepth 100000 in
set_option maxHeartbeats 400000 in
theorem truth_any (tag : Int) (is : Bool) (w : World) :
    Calls Tryz.prog 83 #[.int .i64 tag, .bool is] w (IsFld tag false (b2n is) none 0 0 w) := by
  cases is
  all_goals
    go_enter Tryz.func83, Tryz.ntmps83
    go_wp2
    exact bodyPost_ret (v := .agg #[_, _, _, _]) (by simp [results, Tryz.results83, go_sem, b2n]) rfl ⟨rfl, ((Below.refl _ w).alloc (Nat.le_refl _) _).alloc (by simp) _⟩

set_option maxRecDepth 100000 in
set_option maxHeartbeats 400000 in
theorem sign_any (tag x : Int) (w : World) (h0 : -9223372036854775808 ≤ x) (h1 : x ≤ 9223372036854775807) :
    Calls Tryz.prog 84 #[.int .i64 tag, .int .i64 x] w (IsFld tag false (zigN x) none 0 0 w) := by
  go_enter Tryz.func84, Tryz.ntmps84
  go_wp2_with (go_at_call 57; refine (zig_any x _ h0 h1).mono ?_; rintro e w' ⟨rfl, rfl⟩)
  exact bodyPost_ret (v := .agg #[_, _, _, _]) (by simp [results, Tryz.results84, go_sem]) rfl ⟨rfl, (Below.refl _ w).alloc (Nat.le_refl _) _⟩
set_option maxRecDepth 100000 in
set_option maxHeartbeats 400000 in
theorem text_any (tag : Int) (A : Option Addr) (n c : Nat) (w : World) :
    Calls Tryz.prog 85 #[.int .i64 tag, .slice A n c] w (IsFld tag true 0 A n c w) := by
  go_enter Tryz.func85, Tryz.ntmps85
  go_wp2
  exact bodyPost_ret (v := .agg #[_, _, _, _]) (by simp [results, Tryz.results85, go_sem]) rfl ⟨rfl, (Below.refl _ w).alloc (Nat.le_refl _) _⟩

/-- What Put leaves: the bytes and 0, or nothing and 1. -/
def PutPost (l : List Fld) (w : World) (e : Ending) (w' : World) : Prop :=
  ∃ A n c, e = .returned (.tuple #[.slice A n c, .int .i64 (okc (wput l).isSome 1)]) ∧ OwnB w' w.heap.size A n c (dput l) ∧ Below w.heap.size w w'
set_option maxRecDepth 100000 in
set_option maxHeartbeats 1000000 in
theorem wput_any (F : Nat → Prop) (A : Option Addr) (n c : Nat) (l : List Fld) (w : World) (h : Sl tFld F w A n c l) (hlen : n ≤ 4294967296) (hl : wlen l ≤ 4294967200) :
    Calls Tryz.prog 58 #[.slice A n c] w (PutPost l w) := by
  have HL := Lib.hid h.len
  go_enter Tryz.func58, Tryz.ntmps58
  go_wp2
  go_loopw [4, 10] (fun v i wr => ∃ (k : Nat) (L : List UInt8) (A2 : Option Addr) (m c2 : Nat), k ≤ n ∧ i = .int .i64 k ∧ v = .slice A2 m c2 ∧ OwnB wr w.heap.size A2 m c2 L ∧ wput (l.take k) = some L ∧ Below w.heap.size w wr)
    (fun _ i _ => n - (intOf i).toNat)
  case atStart => exact ⟨0, [], none, 0, 0, Nat.zero_le _, rfl, rfl, OwnB.nil_ _ _, by simp [wput], Below.refl _ _⟩
  case round =>
    obtain ⟨k, L, A2, m, c2, hk, rfl, rfl, hown, hL, hb⟩ := hrel
    by_cases hlt : k < n
    · have hkl : k < l.length := by rw [← HL.out]; exact hlt
      have HO := Lib.hid hown; have HW := Lib.hid hL
      clear hown hL
      obtain ⟨b, o, cs, rfl, _, hbl, hrep, hc⟩ := (h.below hb (Nat.le_refl _)).at_ hkl (by decide)
      obtain ⟨A3, n3, c3, rfl, ht, hn3, hs3⟩ := hrep
      obtain ⟨f, hf⟩ : ∃ f, f = l[k] := ⟨_, rfl⟩
      rw [← hf] at hc ht hn3 hs3
      have HF := Lib.hid hf; clear hf
      obtain ⟨g0, g1, g2, g3⟩ := cells4 hc
      clear hc
      obtain ⟨ht0, ht1⟩ := ht
      by_cases htag : 1 ≤ f.tag ∧ f.tag ≤ 100
      · obtain ⟨tag, isb, fn, fb⟩ := f
        dsimp only at *
        obtain ⟨t, rfl⟩ := Int.eq_ofNat_of_zero_le (show 0 ≤ tag by omega)
        have htl : (t : Int) ≤ 100 := htag.2
        have htg : (1 : Int) ≤ (t : Int) := htag.1
        clear htag
        have hwl := wlen_take l k hkl
        rw [← HF.out] at hwl
        dsimp only at hwl
        have hLl : L.length ≤ wlen (l.take k) := wput_len _ _ HW.out
        have hml := HO.out.len
        have h3l := hs3.len
        have hb1 : m + n3 + 20 ≤ 4294967200 := by omega
        have HM := Lib.hid hml; have H3L := Lib.hid h3l
        clear hml h3l hLl hwl
        have hsz := hb.size
        have HN3 := Lib.hid (u64_wrap_nat n3 (by omega))
        have hfin : ∀ (w' : World) (A' : Option Addr) (m' c' : Nat) (x : List UInt8), x = fld ⟨(t : Int), isb, fn, fb⟩ → OwnB w' w.heap.size A' m' c' (L ++ x) → Below w.heap.size w w' →
            ∃ (k' : Nat) (L' : List UInt8) (A'' : Option Addr) (m'' c'' : Nat), k' ≤ n ∧ Value.int .i64 ((k : Int) + 1) = .int .i64 k' ∧ Value.slice A' m' c' = .slice A'' m'' c'' ∧ OwnB w' w.heap.size A'' m'' c'' L' ∧ wput (l.take k') = some L' ∧ Below w.heap.size w w' := by
          intro w' A' m' c' x hx ho hbl'
          refine ⟨k + 1, L ++ x, A', m', c', by omega, by go_num, rfl, ho, ?_, hbl'⟩
          rw [List.take_succ_eq_append_getElem hkl, ← HF.out, hx]
          exact wput_snoc _ _ _ HW.out (by simp [tagOk]; omega)
        have HFIN := Lib.hid hfin
        clear hfin
        cases isb
        · have HS1 := Lib.hid ((HO.out.bs.any.alloc (.cells #[.int .i64 (t : Int), .bool false, .int .u64 (fn : Int), .slice A3 n3 c3] 75)).drew)
          have HB0 := Lib.hid ((hb.alloc hsz (.cells #[.int .i64 (t : Int), .bool false, .int .u64 (fn : Int), .slice A3 n3 c3] 75)).drew)
          go_wp2_with fail
          go_region_held3 (fun w' => w'.cell? ⟨wr.heap.size, 2, none⟩ = some (.int .u64 (fn : Int)))
            (first | go_keep | (exact (hb1.cell (p := ⟨wr.heap.size, 2, none⟩) (by simp)).trans (by simp)) | (exact (hb2.cell (p := ⟨wr.heap.size, 2, none⟩) (by have := hb1.size; simp at this; show wr.heap.size < _; omega)).trans (by assumption)))
            (first
              | (go_at_call_of 81 (Value.slice A2 m c2); refine (vput_int (fun _ => True) A2 m c2 L _ _ HS1.out (by omega) (by omega) (by omega)).mono ?_; rintro e w1 ⟨A4, n4, c4, rfl, hown1, hb1⟩; have hn4 : n4 ≤ m + 10 := ownput_le hown1 HM.out)
              | (go_at_call 81; refine (vput_int (fun _ => True) A4 n4 c4 _ _ _ hown1.bs.any (by omega) (by omega) (by omega)).mono ?_; rintro e w2 ⟨A5, n5, c5, rfl, hown2, hb2⟩))
          have hs1 := hb1.size
          simp only [World.size_drew, World.size_alloc] at hs1
          have HO5 := Lib.hid (hown2.down (B' := w.heap.size) (by omega))
          have HB5 := Lib.hid ((HB0.out.trans (hb1.mono (by simp; omega))).trans (hb2.mono (by omega)))
          clear hown1 hown2 hb1 hb2 HS1 HB0
          go_wp2
          go_roundw
          case rel =>
            have ho := HO5.out
            rw [List.append_assoc, show ((t : Int) * 8).toNat = 8 * t by omega, intCast_toNat] at ho
            exact HFIN.out _ _ _ _ _ (by simp [fld]) ho HB5.out
          case measure => simp [intOf]; omega
        · have H2 := Lib.hid (u64_or2 t (by omega))
          have HS1 := Lib.hid ((HO.out.bs.any.alloc (.cells #[.int .i64 (t : Int), .bool true, .int .u64 (fn : Int), .slice A3 n3 c3] 75)).drew)
          have HB0 := Lib.hid ((hb.alloc hsz (.cells #[.int .i64 (t : Int), .bool true, .int .u64 (fn : Int), .slice A3 n3 c3] 75)).drew)
          go_wp2_with fail
          go_region_held3 (fun w' => w'.cell? ⟨wr.heap.size, 3, none⟩ = some (.slice A3 n3 c3))
            (first | go_keep | (exact (hb1.cell (p := ⟨wr.heap.size, 3, none⟩) (by simp)).trans (by simp)) | (exact (hb2.cell (p := ⟨wr.heap.size, 3, none⟩) (by have := hb1.size; simp at this; show wr.heap.size < _; omega)).trans (by assumption)))
            (first
              | (go_at_call_of 81 (Value.slice A2 m c2); refine (vput_int (fun _ => True) A2 m c2 L _ _ HS1.out (by omega) (by rw [H2.out]; omega) (by rw [H2.out]; omega)).mono ?_; rintro e w1 ⟨A4, n4, c4, rfl, hown1, hb1⟩; have hn4 : n4 ≤ m + 10 := ownput_le hown1 HM.out)
              | (go_at_call 81; refine (vput_int (fun _ => True) A4 n4 c4 _ _ _ hown1.bs.any (by omega) (by rw [HN3.out]; omega) (by rw [HN3.out]; omega)).mono ?_; rintro e w2 ⟨A5, n5, c5, rfl, hown2, hb2⟩))
          have hs1 := hb1.size
          simp only [World.size_drew, World.size_alloc] at hs1
          have hn5 : n5 ≤ n4 + 10 := ownput_le hown2 hown1.len
          have HO5 := Lib.hid (hown2.down (B' := w.heap.size) (by omega))
          have HB5 := Lib.hid ((HB0.out.trans (hb1.mono (by simp; omega))).trans (hb2.mono (by omega)))
          have HS5 := Lib.hid (((hs3.keep (w' := w2) (by have := hb2.size; omega) (fun b' _ hl => ((hb2.block b' (by omega)).trans (hb1.block b' (by simp; omega))).trans (Below.heap_alloc _ _ _ hl)))))
          clear hown1 hown2 hb1 hb2 HS1 HB0
          go_wp2_with (at_builtin; refine apb w2 w rfl (.tmp 37) (.tmp 39) rfl w.heap.size A5 n5 c5 _ rfl HO5.out HB5.out (Nat.le_refl _) F A3 n3 c3 fb rfl HS5.out (by omega) ?_; intro A6 c6 w6 h6 hb6 _)
          go_roundw
          case rel =>
            have ho := h6
            rw [List.append_assoc, List.append_assoc, H2.out, HN3.out, intCast_toNat, intCast_toNat] at ho
            exact HFIN.out _ _ _ _ _ (by simp [fld, H3L.out]) ho hb6
          case measure => simp [intOf]; omega
      · have hbad : wput l = none := wput_bad l k hkl (by rw [← HF.out]; simp [tagOk]; omega)
        have HBAD := Lib.hid hbad; clear hbad
        have HB0 := Lib.hid (hb.alloc hb.size (.cells #[.int .i64 f.tag, .bool f.bytes, .int .u64 (f.n : Int), .slice A3 n3 c3] 75))
        have hnot : f.tag < 1 ∨ 100 < f.tag := by omega
        clear htag
        rcases hnot with hnot | hnot
        · go_wp2
          go_ret2
          refine ⟨none, 0, 0, by rw [HBAD.out]; rfl, ?_, HB0.out⟩
          rw [show dput l = [] by simp [dput, HBAD.out]]
          exact OwnB.nil_ _ _
        · have hnot2 : 1 ≤ f.tag := by omega
          go_wp2
          go_ret2
          refine ⟨none, 0, 0, by rw [HBAD.out]; rfl, ?_, HB0.out⟩
          rw [show dput l = [] by simp [dput, HBAD.out]]
          exact OwnB.nil_ _ _
    · obtain rfl : k = n := by omega
      have hfull : wput l = some L := by rw [← hL, List.take_of_length_le (by rw [← HL.out]; exact Nat.le_refl _)]
      have HFU := Lib.hid hfull; clear hfull hL
      go_wp2
      go_ret2
      refine ⟨A2, m, c2, by rw [HFU.out]; rfl, ?_, hb⟩
      rw [show dput l = L by simp [dput, HFU.out]]
      exact hown
end Go.Proofs.YtojenpjafgfpaaaGreatDoor
/- The layer wire: put, PutValue. -/
namespace Go.Proofs.YtojenpjafgfpaaaGreatDoor
open Go Go.RowKit
attribute [local go_sem ↓] Go.wp_at_zero Go.wp_at_succ

theorem b2n_lt (b : Bool) : b2n b < 18446744073709551616 := by cases b <;> decide
theorem putValueF_len (v : VV) (hs : v.s.size ≤ 4294967000) : wlen (putValueF v) ≤ 4294967200 := by
  have e : v.s.data.toList.length = v.s.size := Array.length_toList
  simp only [putValueF, wlen, fnum, ftxt, e, List.length_nil]
  omega
theorem kcell {W w1 : World} {a : Addr} {v : Value} (hb : Below W.heap.size W w1) (h : W.cell? a = some v) : w1.cell? a = some v := (hb.cell (World.block_lt_of_cell? W a h)).trans h

set_option maxRecDepth 100000 in
set_option maxHeartbeats 400000 in
theorem wput1_any (F : Nat → Prop) (A : Option Addr) (n c : Nat) (l : List Fld) (w : World) (h : Sl tFld F w A n c l) (hlen : n ≤ 4294967296) (hl : wlen l ≤ 4294967200) :
    Calls Tryz.prog 82 #[.slice A n c] w (Own1 w (dput l)) := by
  go_enter Tryz.func82, Tryz.ntmps82
  go_wp2_with (go_at_call 58; refine (wput_any F A n c l _ h hlen hl).mono ?_; rintro e w1 ⟨A1, n1, c1, rfl, hown, hb⟩)
  go_ret
  exact ⟨A1, n1, c1, rfl, hown, hb⟩

set_option maxRecDepth 100000 in
set_option maxHeartbeats 1000000 in
theorem putValue_any (v : VV) (hv : v.ok) (hs : v.s.size ≤ 4294967000) (w : World) :
    Calls Tryz.prog 59 #[.agg #[.bool v.null, .int .i64 v.n, .string v.s]] w (Own1 w (putValue v)) := by
  obtain ⟨h0, h1, h2⟩ := hv
  have hsb := fun w => run_sb w v.s
  have HW := Lib.hid (show wlen (putValueF v) ≤ 4294967200 from putValueF_len v hs)
  have HZ := Lib.hid (zigN_lt v.n h0 h1)
  go_enter Tryz.func59, Tryz.ntmps59
  go_wp2_with fail
  refine wp_region_held_drew (S := (fun w' => w'.cell? ⟨w.heap.size, 0, none⟩ = some (.bool v.null) ∧ w'.cell? ⟨w.heap.size, 1, none⟩ = some (.int .i64 v.n) ∧ w'.cell? ⟨w.heap.size, 2, none⟩ = some (.string v.s))) (by kernel_rfl) ?_ (fun hHeld => ?_)
  · ((try dsimp only); (first | go_keep | (go_split_ands; refine ⟨?_, ?_, ?_⟩ <;> exact kcell (by assumption) (by assumption))))
  (refine wpAnyH_take (i := 0) (oi := ⟨_, _, _, _, _, _⟩) (v := ?_) rfl (by kernel_rfl) (by kernel_rfl) (by kernel_rfl) (fun _ _ _ h => h) (Or.inl ⟨by rfl, ?_⟩) (by assumption) ?_; rotate_left; · (intro w hSw; (try dsimp only at hSw); go_simp; try with_reducible rfl)); (try simp only [Act.put]); (try simp only [List.setIfInBounds_toArray]); (try simp only [List.set_cons_succ]); (try simp only [List.set_cons_zero])
  (refine wpAnyH_take (i := 1) (oi := ⟨_, _, _, _, _, _⟩) (v := ?_) rfl (by kernel_rfl) (by kernel_rfl) (by kernel_rfl) (fun _ _ _ h => h) (Or.inl ⟨by rfl, ?_⟩) (by assumption) ?_; rotate_left; · (intro w hSw; (try dsimp only at hSw); go_simp; try with_reducible rfl)); (try simp only [Act.put]); (try simp only [List.setIfInBounds_toArray]); (try simp only [List.set_cons_succ]); (try simp only [List.set_cons_zero])
  (refine wpAnyH_take (i := 3) (oi := ⟨_, _, _, _, _, _⟩) (v := ?_) rfl (by kernel_rfl) (by kernel_rfl) (by kernel_rfl) (fun _ _ _ h => h) (Or.inl ⟨by rfl, ?_⟩) (by assumption) ?_; rotate_left; · (intro w hSw; (try dsimp only at hSw); go_simp; try with_reducible rfl)); (try simp only [Act.put]); (try simp only [List.setIfInBounds_toArray]); (try simp only [List.set_cons_succ]); (try simp only [List.set_cons_zero])
  (refine wpAnyH_take (i := 4) (oi := ⟨_, _, _, _, _, _⟩) (v := ?_) rfl (by kernel_rfl) (by kernel_rfl) (by kernel_rfl) (fun _ _ _ h => h) (Or.inl ⟨by rfl, ?_⟩) (by assumption) ?_; rotate_left; · (intro w hSw; (try dsimp only at hSw); go_simp; try with_reducible rfl)); (try simp only [Act.put]); (try simp only [List.setIfInBounds_toArray]); (try simp only [List.set_cons_succ]); (try simp only [List.set_cons_zero])
  (refine wpAnyH_take (i := 6) (oi := ⟨_, _, _, _, _, _⟩) (v := ?_) rfl (by kernel_rfl) (by kernel_rfl) (by kernel_rfl) (fun _ _ _ h => h) (Or.inl ⟨by rfl, ?_⟩) (by assumption) ?_; rotate_left; · (intro w hSw; (try dsimp only at hSw); go_simp; try with_reducible rfl)); (try simp only [Act.put]); (try simp only [List.setIfInBounds_toArray]); (try simp only [List.set_cons_succ]); (try simp only [List.set_cons_zero])
  (refine wpAnyH_take (i := 7) (oi := ⟨_, _, _, _, _, _⟩) (v := ?_) rfl (by kernel_rfl) (by kernel_rfl) (by kernel_rfl) (fun _ _ _ h => h) (Or.inl ⟨by rfl, ?_⟩) (by assumption) ?_; rotate_left; · (intro w hSw; (try dsimp only at hSw); go_simp; try with_reducible rfl)); (try simp only [Act.put]); (try simp only [List.setIfInBounds_toArray]); (try simp only [List.set_cons_succ]); (try simp only [List.set_cons_zero])
  refine wpAnyH_ready (rs := [2, 8]) (by kernel_rfl) (by simp) ?_
  refine AllReadyH.cons (o := ⟨_, _, _, _, _, _⟩) rfl (fun K hK => ?_) ?_
  · (go_simp; (first | (go_at_call 83; refine (truth_any _ _ _).mono ?_; rintro e w1 ⟨rfl, hb1⟩) | (go_at_call 84; refine (sign_any _ _ _ h0 h1).mono ?_; rintro e w2 ⟨rfl, hb2⟩) | (go_at_call 85; refine (text_any _ _ _ _ _).mono ?_; rintro e w3 ⟨rfl, hb3⟩) | (go_at_call 82; refine (wput1_any (fun _ => True) _ 3 3 (putValueF v) _ (by refine Sl.new3 (rep_fnum (by unfold i64; omega) (b2n_lt _)) (rep_fnum (by unfold i64; omega) HZ.out) (rep_ftxt (by unfold i64; omega) ?_) _ _ rfl; (repeat (first | assumption | exact Sl.nil_ _ _ _ | exact (sb_bs (by assumption)).any | (refine sb_bsA (by assumption) ?_; simp; done) | refine Sl.below ?_ (by assumption) (Nat.le_refl _) | refine Sl.alloc ?_ _ | refine Sl.drew ?_))) (by omega) HW.out).mono ?_; rintro e w4 ⟨A4, n4, c4, rfl, hown, hb4⟩)))
    refine hK.out _ _ ?_ (fun hHeld => ?_)
    · ((try dsimp only); (first | go_keep | (go_split_ands; refine ⟨?_, ?_, ?_⟩ <;> exact kcell (by assumption) (by assumption))))
    clear hK K; (try simp only [Act.put]); (try simp only [List.setIfInBounds_toArray]); (try simp only [List.set_cons_succ]); (try simp only [List.set_cons_zero])
    refine wpAnyH_ready (rs := [5, 8]) (by kernel_rfl) (by simp) ?_
    refine AllReadyH.cons (o := ⟨_, _, _, _, _, _⟩) rfl (fun K hK => ?_) ?_
    · (go_simp; (first | (go_at_call 83; refine (truth_any _ _ _).mono ?_; rintro e w1 ⟨rfl, hb1⟩) | (go_at_call 84; refine (sign_any _ _ _ h0 h1).mono ?_; rintro e w2 ⟨rfl, hb2⟩) | (go_at_call 85; refine (text_any _ _ _ _ _).mono ?_; rintro e w3 ⟨rfl, hb3⟩) | (go_at_call 82; refine (wput1_any (fun _ => True) _ 3 3 (putValueF v) _ (by refine Sl.new3 (rep_fnum (by unfold i64; omega) (b2n_lt _)) (rep_fnum (by unfold i64; omega) HZ.out) (rep_ftxt (by unfold i64; omega) ?_) _ _ rfl; (repeat (first | assumption | exact Sl.nil_ _ _ _ | exact (sb_bs (by assumption)).any | (refine sb_bsA (by assumption) ?_; simp; done) | refine Sl.below ?_ (by assumption) (Nat.le_refl _) | refine Sl.alloc ?_ _ | refine Sl.drew ?_))) (by omega) HW.out).mono ?_; rintro e w4 ⟨A4, n4, c4, rfl, hown, hb4⟩)))
      refine hK.out _ _ ?_ (fun hHeld => ?_)
      · ((try dsimp only); (first | go_keep | (go_split_ands; refine ⟨?_, ?_, ?_⟩ <;> exact kcell (by assumption) (by assumption))))
      clear hK K; (try simp only [Act.put]); (try simp only [List.setIfInBounds_toArray]); (try simp only [List.set_cons_succ]); (try simp only [List.set_cons_zero])
      refine wpAnyH_ready (rs := [8]) (by kernel_rfl) (by simp) ?_
      refine AllReadyH.cons (o := ⟨_, _, _, _, _, _⟩) rfl (fun K hK => ?_) ?_
      · go_simp
        refine hK.out _ _ ?_ (fun hHeld => ?_)
        · ((try dsimp only); (first | go_keep | (go_split_ands; refine ⟨?_, ?_, ?_⟩ <;> exact kcell (by assumption) (by assumption))))
        clear hK K; (try simp only [Act.put]); (try simp only [List.setIfInBounds_toArray]); (try simp only [List.set_cons_succ]); (try simp only [List.set_cons_zero])
        refine wpAnyH_ready (rs := [9]) (by kernel_rfl) (by simp) ?_
        refine AllReadyH.cons (o := ⟨_, _, _, _, _, _⟩) rfl (fun K hK => ?_) ?_
        · (go_simp; (first | (go_at_call 83; refine (truth_any _ _ _).mono ?_; rintro e w1 ⟨rfl, hb1⟩) | (go_at_call 84; refine (sign_any _ _ _ h0 h1).mono ?_; rintro e w2 ⟨rfl, hb2⟩) | (go_at_call 85; refine (text_any _ _ _ _ _).mono ?_; rintro e w3 ⟨rfl, hb3⟩) | (go_at_call 82; refine (wput1_any (fun _ => True) _ 3 3 (putValueF v) _ (by refine Sl.new3 (rep_fnum (by unfold i64; omega) (b2n_lt _)) (rep_fnum (by unfold i64; omega) HZ.out) (rep_ftxt (by unfold i64; omega) ?_) _ _ rfl; (repeat (first | assumption | exact Sl.nil_ _ _ _ | exact (sb_bs (by assumption)).any | (refine sb_bsA (by assumption) ?_; simp; done) | refine Sl.below ?_ (by assumption) (Nat.le_refl _) | refine Sl.alloc ?_ _ | refine Sl.drew ?_))) (by omega) HW.out).mono ?_; rintro e w4 ⟨A4, n4, c4, rfl, hown, hb4⟩)))
          refine hK.out _ _ ?_ (fun hHeld => ?_)
          · ((try dsimp only); (first | go_keep | (go_split_ands; refine ⟨?_, ?_, ?_⟩ <;> exact kcell (by assumption) (by assumption))))
          clear hK K; (try simp only [Act.put]); (try simp only [List.setIfInBounds_toArray]); (try simp only [List.set_cons_succ]); (try simp only [List.set_cons_zero])
          refine wpAnyH_ready (rs := [10]) (by kernel_rfl) (by simp) ?_
          refine AllReadyH.cons (o := ⟨_, _, _, _, _, _⟩) rfl (fun K hK => ?_) ?_
          · go_simp
            refine hK.out _ _ ?_ (fun hHeld => ?_)
            · ((try dsimp only); (first | go_keep | (go_split_ands; refine ⟨?_, ?_, ?_⟩ <;> exact kcell (by assumption) (by assumption))))
            clear hK K; (try simp only [Act.put]); (try simp only [List.setIfInBounds_toArray]); (try simp only [List.set_cons_succ]); (try simp only [List.set_cons_zero])
            refine wpAnyH_ready (rs := [11]) (by kernel_rfl) (by simp) ?_
            refine AllReadyH.cons (o := ⟨_, _, _, _, _, _⟩) rfl (fun K hK => ?_) ?_
            · (go_simp; (first | (go_at_call 83; refine (truth_any _ _ _).mono ?_; rintro e w1 ⟨rfl, hb1⟩) | (go_at_call 84; refine (sign_any _ _ _ h0 h1).mono ?_; rintro e w2 ⟨rfl, hb2⟩) | (go_at_call 85; refine (text_any _ _ _ _ _).mono ?_; rintro e w3 ⟨rfl, hb3⟩) | (go_at_call 82; refine (wput1_any (fun _ => True) _ 3 3 (putValueF v) _ (by refine Sl.new3 (rep_fnum (by unfold i64; omega) (b2n_lt _)) (rep_fnum (by unfold i64; omega) HZ.out) (rep_ftxt (by unfold i64; omega) ?_) _ _ rfl; (repeat (first | assumption | exact Sl.nil_ _ _ _ | exact (sb_bs (by assumption)).any | (refine sb_bsA (by assumption) ?_; simp; done) | refine Sl.below ?_ (by assumption) (Nat.le_refl _) | refine Sl.alloc ?_ _ | refine Sl.drew ?_))) (by omega) HW.out).mono ?_; rintro e w4 ⟨A4, n4, c4, rfl, hown, hb4⟩)))
              refine hK.out _ _ ?_ (fun hHeld => ?_)
              · ((try dsimp only); (first | go_keep | (go_split_ands; refine ⟨?_, ?_, ?_⟩ <;> exact kcell (by assumption) (by assumption))))
              clear hK K; (try simp only [Act.put]); (try simp only [List.setIfInBounds_toArray]); (try simp only [List.set_cons_succ]); (try simp only [List.set_cons_zero])
              (refine wpAnyH_take (i := 12) (oi := ⟨_, _, _, _, _, _⟩) (v := ?_) rfl (by kernel_rfl) (by kernel_rfl) (by kernel_rfl) (fun _ _ _ h => h) (Or.inl ⟨by rfl, ?_⟩) (by assumption) ?_; rotate_left; · (intro w hSw; (try dsimp only at hSw); go_simp; try with_reducible rfl)); (try simp only [Act.put]); (try simp only [List.setIfInBounds_toArray]); (try simp only [List.set_cons_succ]); (try simp only [List.set_cons_zero])
              refine wpAnyH_done (by kernel_rfl) ?_ _
              go_wp2
              go_ret
              exact ⟨A4, n4, c4, rfl, hown.down (by have := hb1.size; have := hb2.size; have := hb3.size; simp at *; omega), by (repeat (first | exact Below.refl _ _ | assumption | refine bthen ?_ (by assumption) | refine balloc ?_ _ | refine bdrew ?_))⟩
            exact AllReadyH.nil
          exact AllReadyH.nil
        exact AllReadyH.nil
      exact AllReadyH.nil
    refine AllReadyH.cons (o := ⟨_, _, _, _, _, _⟩) rfl (fun K hK => ?_) ?_
    · go_simp
      refine hK.out _ _ ?_ (fun hHeld => ?_)
      · ((try dsimp only); (first | go_keep | (go_split_ands; refine ⟨?_, ?_, ?_⟩ <;> exact kcell (by assumption) (by assumption))))
      clear hK K; (try simp only [Act.put]); (try simp only [List.setIfInBounds_toArray]); (try simp only [List.set_cons_succ]); (try simp only [List.set_cons_zero])
      refine wpAnyH_ready (rs := [5]) (by kernel_rfl) (by simp) ?_
      refine AllReadyH.cons (o := ⟨_, _, _, _, _, _⟩) rfl (fun K hK => ?_) ?_
      · (go_simp; (first | (go_at_call 83; refine (truth_any _ _ _).mono ?_; rintro e w1 ⟨rfl, hb1⟩) | (go_at_call 84; refine (sign_any _ _ _ h0 h1).mono ?_; rintro e w2 ⟨rfl, hb2⟩) | (go_at_call 85; refine (text_any _ _ _ _ _).mono ?_; rintro e w3 ⟨rfl, hb3⟩) | (go_at_call 82; refine (wput1_any (fun _ => True) _ 3 3 (putValueF v) _ (by refine Sl.new3 (rep_fnum (by unfold i64; omega) (b2n_lt _)) (rep_fnum (by unfold i64; omega) HZ.out) (rep_ftxt (by unfold i64; omega) ?_) _ _ rfl; (repeat (first | assumption | exact Sl.nil_ _ _ _ | exact (sb_bs (by assumption)).any | (refine sb_bsA (by assumption) ?_; simp; done) | refine Sl.below ?_ (by assumption) (Nat.le_refl _) | refine Sl.alloc ?_ _ | refine Sl.drew ?_))) (by omega) HW.out).mono ?_; rintro e w4 ⟨A4, n4, c4, rfl, hown, hb4⟩)))
        refine hK.out _ _ ?_ (fun hHeld => ?_)
        · ((try dsimp only); (first | go_keep | (go_split_ands; refine ⟨?_, ?_, ?_⟩ <;> exact kcell (by assumption) (by assumption))))
        clear hK K; (try simp only [Act.put]); (try simp only [List.setIfInBounds_toArray]); (try simp only [List.set_cons_succ]); (try simp only [List.set_cons_zero])
        refine wpAnyH_ready (rs := [9]) (by kernel_rfl) (by simp) ?_
        refine AllReadyH.cons (o := ⟨_, _, _, _, _, _⟩) rfl (fun K hK => ?_) ?_
        · (go_simp; (first | (go_at_call 83; refine (truth_any _ _ _).mono ?_; rintro e w1 ⟨rfl, hb1⟩) | (go_at_call 84; refine (sign_any _ _ _ h0 h1).mono ?_; rintro e w2 ⟨rfl, hb2⟩) | (go_at_call 85; refine (text_any _ _ _ _ _).mono ?_; rintro e w3 ⟨rfl, hb3⟩) | (go_at_call 82; refine (wput1_any (fun _ => True) _ 3 3 (putValueF v) _ (by refine Sl.new3 (rep_fnum (by unfold i64; omega) (b2n_lt _)) (rep_fnum (by unfold i64; omega) HZ.out) (rep_ftxt (by unfold i64; omega) ?_) _ _ rfl; (repeat (first | assumption | exact Sl.nil_ _ _ _ | exact (sb_bs (by assumption)).any | (refine sb_bsA (by assumption) ?_; simp; done) | refine Sl.below ?_ (by assumption) (Nat.le_refl _) | refine Sl.alloc ?_ _ | refine Sl.drew ?_))) (by omega) HW.out).mono ?_; rintro e w4 ⟨A4, n4, c4, rfl, hown, hb4⟩)))
          refine hK.out _ _ ?_ (fun hHeld => ?_)
          · ((try dsimp only); (first | go_keep | (go_split_ands; refine ⟨?_, ?_, ?_⟩ <;> exact kcell (by assumption) (by assumption))))
          clear hK K; (try simp only [Act.put]); (try simp only [List.setIfInBounds_toArray]); (try simp only [List.set_cons_succ]); (try simp only [List.set_cons_zero])
          refine wpAnyH_ready (rs := [10]) (by kernel_rfl) (by simp) ?_
          refine AllReadyH.cons (o := ⟨_, _, _, _, _, _⟩) rfl (fun K hK => ?_) ?_
          · go_simp
            refine hK.out _ _ ?_ (fun hHeld => ?_)
            · ((try dsimp only); (first | go_keep | (go_split_ands; refine ⟨?_, ?_, ?_⟩ <;> exact kcell (by assumption) (by assumption))))
            clear hK K; (try simp only [Act.put]); (try simp only [List.setIfInBounds_toArray]); (try simp only [List.set_cons_succ]); (try simp only [List.set_cons_zero])
            refine wpAnyH_ready (rs := [11]) (by kernel_rfl) (by simp) ?_
            refine AllReadyH.cons (o := ⟨_, _, _, _, _, _⟩) rfl (fun K hK => ?_) ?_
            · (go_simp; (first | (go_at_call 83; refine (truth_any _ _ _).mono ?_; rintro e w1 ⟨rfl, hb1⟩) | (go_at_call 84; refine (sign_any _ _ _ h0 h1).mono ?_; rintro e w2 ⟨rfl, hb2⟩) | (go_at_call 85; refine (text_any _ _ _ _ _).mono ?_; rintro e w3 ⟨rfl, hb3⟩) | (go_at_call 82; refine (wput1_any (fun _ => True) _ 3 3 (putValueF v) _ (by refine Sl.new3 (rep_fnum (by unfold i64; omega) (b2n_lt _)) (rep_fnum (by unfold i64; omega) HZ.out) (rep_ftxt (by unfold i64; omega) ?_) _ _ rfl; (repeat (first | assumption | exact Sl.nil_ _ _ _ | exact (sb_bs (by assumption)).any | (refine sb_bsA (by assumption) ?_; simp; done) | refine Sl.below ?_ (by assumption) (Nat.le_refl _) | refine Sl.alloc ?_ _ | refine Sl.drew ?_))) (by omega) HW.out).mono ?_; rintro e w4 ⟨A4, n4, c4, rfl, hown, hb4⟩)))
              refine hK.out _ _ ?_ (fun hHeld => ?_)
              · ((try dsimp only); (first | go_keep | (go_split_ands; refine ⟨?_, ?_, ?_⟩ <;> exact kcell (by assumption) (by assumption))))
              clear hK K; (try simp only [Act.put]); (try simp only [List.setIfInBounds_toArray]); (try simp only [List.set_cons_succ]); (try simp only [List.set_cons_zero])
              (refine wpAnyH_take (i := 12) (oi := ⟨_, _, _, _, _, _⟩) (v := ?_) rfl (by kernel_rfl) (by kernel_rfl) (by kernel_rfl) (fun _ _ _ h => h) (Or.inl ⟨by rfl, ?_⟩) (by assumption) ?_; rotate_left; · (intro w hSw; (try dsimp only at hSw); go_simp; try with_reducible rfl)); (try simp only [Act.put]); (try simp only [List.setIfInBounds_toArray]); (try simp only [List.set_cons_succ]); (try simp only [List.set_cons_zero])
              refine wpAnyH_done (by kernel_rfl) ?_ _
              go_wp2
              go_ret
              exact ⟨A4, n4, c4, rfl, hown.down (by have := hb1.size; have := hb2.size; have := hb3.size; simp at *; omega), by (repeat (first | exact Below.refl _ _ | assumption | refine bthen ?_ (by assumption) | refine balloc ?_ _ | refine bdrew ?_))⟩
            exact AllReadyH.nil
          exact AllReadyH.nil
        exact AllReadyH.nil
      exact AllReadyH.nil
    exact AllReadyH.nil
  refine AllReadyH.cons (o := ⟨_, _, _, _, _, _⟩) rfl (fun K hK => ?_) ?_
  · go_simp
    refine hK.out _ _ ?_ (fun hHeld => ?_)
    · ((try dsimp only); (first | go_keep | (go_split_ands; refine ⟨?_, ?_, ?_⟩ <;> exact kcell (by assumption) (by assumption))))
    clear hK K; (try simp only [Act.put]); (try simp only [List.setIfInBounds_toArray]); (try simp only [List.set_cons_succ]); (try simp only [List.set_cons_zero])
    refine wpAnyH_ready (rs := [2]) (by kernel_rfl) (by simp) ?_
    refine AllReadyH.cons (o := ⟨_, _, _, _, _, _⟩) rfl (fun K hK => ?_) ?_
    · (go_simp; (first | (go_at_call 83; refine (truth_any _ _ _).mono ?_; rintro e w1 ⟨rfl, hb1⟩) | (go_at_call 84; refine (sign_any _ _ _ h0 h1).mono ?_; rintro e w2 ⟨rfl, hb2⟩) | (go_at_call 85; refine (text_any _ _ _ _ _).mono ?_; rintro e w3 ⟨rfl, hb3⟩) | (go_at_call 82; refine (wput1_any (fun _ => True) _ 3 3 (putValueF v) _ (by refine Sl.new3 (rep_fnum (by unfold i64; omega) (b2n_lt _)) (rep_fnum (by unfold i64; omega) HZ.out) (rep_ftxt (by unfold i64; omega) ?_) _ _ rfl; (repeat (first | assumption | exact Sl.nil_ _ _ _ | exact (sb_bs (by assumption)).any | (refine sb_bsA (by assumption) ?_; simp; done) | refine Sl.below ?_ (by assumption) (Nat.le_refl _) | refine Sl.alloc ?_ _ | refine Sl.drew ?_))) (by omega) HW.out).mono ?_; rintro e w4 ⟨A4, n4, c4, rfl, hown, hb4⟩)))
      refine hK.out _ _ ?_ (fun hHeld => ?_)
      · ((try dsimp only); (first | go_keep | (go_split_ands; refine ⟨?_, ?_, ?_⟩ <;> exact kcell (by assumption) (by assumption))))
      clear hK K; (try simp only [Act.put]); (try simp only [List.setIfInBounds_toArray]); (try simp only [List.set_cons_succ]); (try simp only [List.set_cons_zero])
      refine wpAnyH_ready (rs := [5]) (by kernel_rfl) (by simp) ?_
      refine AllReadyH.cons (o := ⟨_, _, _, _, _, _⟩) rfl (fun K hK => ?_) ?_
      · (go_simp; (first | (go_at_call 83; refine (truth_any _ _ _).mono ?_; rintro e w1 ⟨rfl, hb1⟩) | (go_at_call 84; refine (sign_any _ _ _ h0 h1).mono ?_; rintro e w2 ⟨rfl, hb2⟩) | (go_at_call 85; refine (text_any _ _ _ _ _).mono ?_; rintro e w3 ⟨rfl, hb3⟩) | (go_at_call 82; refine (wput1_any (fun _ => True) _ 3 3 (putValueF v) _ (by refine Sl.new3 (rep_fnum (by unfold i64; omega) (b2n_lt _)) (rep_fnum (by unfold i64; omega) HZ.out) (rep_ftxt (by unfold i64; omega) ?_) _ _ rfl; (repeat (first | assumption | exact Sl.nil_ _ _ _ | exact (sb_bs (by assumption)).any | (refine sb_bsA (by assumption) ?_; simp; done) | refine Sl.below ?_ (by assumption) (Nat.le_refl _) | refine Sl.alloc ?_ _ | refine Sl.drew ?_))) (by omega) HW.out).mono ?_; rintro e w4 ⟨A4, n4, c4, rfl, hown, hb4⟩)))
        refine hK.out _ _ ?_ (fun hHeld => ?_)
        · ((try dsimp only); (first | go_keep | (go_split_ands; refine ⟨?_, ?_, ?_⟩ <;> exact kcell (by assumption) (by assumption))))
        clear hK K; (try simp only [Act.put]); (try simp only [List.setIfInBounds_toArray]); (try simp only [List.set_cons_succ]); (try simp only [List.set_cons_zero])
        refine wpAnyH_ready (rs := [9]) (by kernel_rfl) (by simp) ?_
        refine AllReadyH.cons (o := ⟨_, _, _, _, _, _⟩) rfl (fun K hK => ?_) ?_
        · (go_simp; (first | (go_at_call 83; refine (truth_any _ _ _).mono ?_; rintro e w1 ⟨rfl, hb1⟩) | (go_at_call 84; refine (sign_any _ _ _ h0 h1).mono ?_; rintro e w2 ⟨rfl, hb2⟩) | (go_at_call 85; refine (text_any _ _ _ _ _).mono ?_; rintro e w3 ⟨rfl, hb3⟩) | (go_at_call 82; refine (wput1_any (fun _ => True) _ 3 3 (putValueF v) _ (by refine Sl.new3 (rep_fnum (by unfold i64; omega) (b2n_lt _)) (rep_fnum (by unfold i64; omega) HZ.out) (rep_ftxt (by unfold i64; omega) ?_) _ _ rfl; (repeat (first | assumption | exact Sl.nil_ _ _ _ | exact (sb_bs (by assumption)).any | (refine sb_bsA (by assumption) ?_; simp; done) | refine Sl.below ?_ (by assumption) (Nat.le_refl _) | refine Sl.alloc ?_ _ | refine Sl.drew ?_))) (by omega) HW.out).mono ?_; rintro e w4 ⟨A4, n4, c4, rfl, hown, hb4⟩)))
          refine hK.out _ _ ?_ (fun hHeld => ?_)
          · ((try dsimp only); (first | go_keep | (go_split_ands; refine ⟨?_, ?_, ?_⟩ <;> exact kcell (by assumption) (by assumption))))
          clear hK K; (try simp only [Act.put]); (try simp only [List.setIfInBounds_toArray]); (try simp only [List.set_cons_succ]); (try simp only [List.set_cons_zero])
          refine wpAnyH_ready (rs := [10]) (by kernel_rfl) (by simp) ?_
          refine AllReadyH.cons (o := ⟨_, _, _, _, _, _⟩) rfl (fun K hK => ?_) ?_
          · go_simp
            refine hK.out _ _ ?_ (fun hHeld => ?_)
            · ((try dsimp only); (first | go_keep | (go_split_ands; refine ⟨?_, ?_, ?_⟩ <;> exact kcell (by assumption) (by assumption))))
            clear hK K; (try simp only [Act.put]); (try simp only [List.setIfInBounds_toArray]); (try simp only [List.set_cons_succ]); (try simp only [List.set_cons_zero])
            refine wpAnyH_ready (rs := [11]) (by kernel_rfl) (by simp) ?_
            refine AllReadyH.cons (o := ⟨_, _, _, _, _, _⟩) rfl (fun K hK => ?_) ?_
            · (go_simp; (first | (go_at_call 83; refine (truth_any _ _ _).mono ?_; rintro e w1 ⟨rfl, hb1⟩) | (go_at_call 84; refine (sign_any _ _ _ h0 h1).mono ?_; rintro e w2 ⟨rfl, hb2⟩) | (go_at_call 85; refine (text_any _ _ _ _ _).mono ?_; rintro e w3 ⟨rfl, hb3⟩) | (go_at_call 82; refine (wput1_any (fun _ => True) _ 3 3 (putValueF v) _ (by refine Sl.new3 (rep_fnum (by unfold i64; omega) (b2n_lt _)) (rep_fnum (by unfold i64; omega) HZ.out) (rep_ftxt (by unfold i64; omega) ?_) _ _ rfl; (repeat (first | assumption | exact Sl.nil_ _ _ _ | exact (sb_bs (by assumption)).any | (refine sb_bsA (by assumption) ?_; simp; done) | refine Sl.below ?_ (by assumption) (Nat.le_refl _) | refine Sl.alloc ?_ _ | refine Sl.drew ?_))) (by omega) HW.out).mono ?_; rintro e w4 ⟨A4, n4, c4, rfl, hown, hb4⟩)))
              refine hK.out _ _ ?_ (fun hHeld => ?_)
              · ((try dsimp only); (first | go_keep | (go_split_ands; refine ⟨?_, ?_, ?_⟩ <;> exact kcell (by assumption) (by assumption))))
              clear hK K; (try simp only [Act.put]); (try simp only [List.setIfInBounds_toArray]); (try simp only [List.set_cons_succ]); (try simp only [List.set_cons_zero])
              (refine wpAnyH_take (i := 12) (oi := ⟨_, _, _, _, _, _⟩) (v := ?_) rfl (by kernel_rfl) (by kernel_rfl) (by kernel_rfl) (fun _ _ _ h => h) (Or.inl ⟨by rfl, ?_⟩) (by assumption) ?_; rotate_left; · (intro w hSw; (try dsimp only at hSw); go_simp; try with_reducible rfl)); (try simp only [Act.put]); (try simp only [List.setIfInBounds_toArray]); (try simp only [List.set_cons_succ]); (try simp only [List.set_cons_zero])
              refine wpAnyH_done (by kernel_rfl) ?_ _
              go_wp2
              go_ret
              exact ⟨A4, n4, c4, rfl, hown.down (by have := hb1.size; have := hb2.size; have := hb3.size; simp at *; omega), by (repeat (first | exact Below.refl _ _ | assumption | refine bthen ?_ (by assumption) | refine balloc ?_ _ | refine bdrew ?_))⟩
            exact AllReadyH.nil
          exact AllReadyH.nil
        exact AllReadyH.nil
      exact AllReadyH.nil
    exact AllReadyH.nil
  exact AllReadyH.nil
end Go.Proofs.YtojenpjafgfpaaaGreatDoor
