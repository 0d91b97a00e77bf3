/- slices.Grow at nil, and slices.Concat, at the element types that this claim meets: any slices, any elements. -/
import Derived.Test.YtojenpjafgfpaaaDoorBase
import Derived.Lib.AppendZerosOnto
namespace Go.Proofs.YtojenpjafgfpaaaDoor
open Go Go.RowKit

/-- append(nil, make([]E, n)...): a row of zeroes of its own. -/
theorem run_append_make {P : Program} {t tn e : TypeId} {size : Nat} (E : ElemOf P t e size) (htn : P.underlying tn = some (.int .i64)) (ty : TypeId) (w : World) (k : Nat) (h0 : 0 < k) (hk : k ≤ 4294967296) :
    ∃ cap w', (Builtin.append_ #[t, tn] ty #[.slice none 0 0, .int .i64 (k : Int)]).run P w = .ok (.slice (some ⟨w.heap.size, 0, none⟩) k cap) w' ∧ k ≤ cap ∧ w'.ownsRow w.heap.size e size (.slice (some ⟨w.heap.size, 0, none⟩) 0 cap) 0 [] ∧ Below w.heap.size w w' := by
  obtain ⟨ht, i, z, hi, hz, hs, hby, hzs, hsz⟩ := E
  have hcap : ∀ w : World, k ≤ grownCap w (0 + k) 0 e ∧ grownCap w (0 + k) 0 e ≤ maxLen := fun w => by
    have h1 := grownCap_ge w (0 + k) 0 e
    exact ⟨by omega, grownCap_le_maxLen w _ _ e (by simp only [maxLen]; omega)⟩
  have hb : k * i.bytes ≤ 4294967296 * 1024 := Nat.mul_le_mul hk hby
  have hfit : Builtin.nextslicecap (0 + k) 0 * i.bytes ≤ 281474976710656 := by
    have h1 : 0 < 0 + k := by omega
    exact growslice_fits h1 (by rw [Nat.zero_add]; omega)
  have h := Lib.run_append_grow_zeros (P := P) w t tn ty e i z .i64 .i64 ht htn hi hz none 0 0 [] (by simp [Builtin.firstCells]) k h0 (by omega) (by omega) (by omega) (by omega) hfit
  simp only [Nat.zero_add] at h hcap
  have hc := hcap w
  refine ⟨grownCap w k 0 e, _, h, hc.1, ⟨by simp, .inr ⟨w.heap.size, _, _, rfl, Nat.le_refl _, heap_alloc_new w.drew _, Nat.zero_le _, hc.2, ?_, by simp⟩⟩, ((Below.refl _ w).drew).alloc (by simp) _⟩
  have hz' : ∀ m, (Builtin.zeroCells z.cells m).size = m * size := fun m => by simp [Builtin.zeroCells, hzs]
  simp only [Array.size_append, hz']
  rw [show (([] : List Value).toArray).size = 0 from rfl, Nat.zero_add, ← Nat.add_mul]
  congr 1
  omega

/-! []uint8 -/
theorem ssB : Tryd.prog.underlying 156 = some (.slice 35) := by kernel_rfl
set_option maxRecDepth 100000 in
set_option maxHeartbeats 400000 in
theorem growB_nil {size : Nat} (E : ElemOf Tryd.prog 35 5 size) (n : Nat) (w : World) (hn : n ≤ 4294967296) :
    Calls Tryd.prog 101 #[.slice none 0 0, .int .i64 (n : Int)] w fun e w' => ∃ A c, e = .returned (.slice A 0 c) ∧ w'.ownsRow w.heap.size 5 size (.slice A 0 c) 0 [] ∧ Below w.heap.size w w' := by
  rcases Nat.eq_zero_or_pos n with rfl | h0
  · go_enter Tryd.func101, Tryd.ntmps101
    go_wp2
    go_ret
    exact ⟨none, 0, rfl, World.ownsRow_nil _ _ _ _, Below.refl _ _⟩
  · obtain ⟨cap, w', hrun, hc, hown, hb⟩ := run_append_make E undInt 35 w n h0 hn
    have h0' : (0 : Int) < (n : Int) := by omega
    have hcap := (own_cap hown).2
    unfold maxLen at hcap
    go_enter Tryd.func101, Tryd.ntmps101
    go_wp2_with (at_builtin; refine Lib.wpList_append_run _ rfl _ _ _ _ rfl _ _ rfl rfl _ _ hrun ?_)
    go_ret
    exact ⟨_, cap, rfl, hown, hb⟩
set_option maxRecDepth 100000 in
set_option maxHeartbeats 400000 in
theorem cloneB_any {α : Type} {T : Ty α} (E : ElemOf Tryd.prog 35 5 T.size) (F : Nat → Prop) (A : Option Addr) (n c : Nat) (l : List α) (w : World) (h : Sl T F w A n c l) (hFl : ¬ F w.heap.size) (hL : n ≤ 4294967296) :
    Calls Tryd.prog 106 #[.slice A n c] w fun e w' => ∃ A' n' c', e = .returned (.slice A' n' c') ∧ Own T 5 w' w.heap.size A' n' c' l ∧ Below w.heap.size w w' := by
  obtain ⟨hlen, hcap, hmax, css, hrd, hr⟩ := h
  have hsz : 0 < T.size := by obtain ⟨_, _, _, _, _, _, _, _, h⟩ := E; exact h
  rcases A with _ | ad
  · have hn : l = [] := by
      rcases l with _ | ⟨b, l⟩
      · rfl
      · obtain ⟨_, _, h, _⟩ := hrd (by intro he; have := hr.flat; rw [he] at this; have h2 : 0 < (b :: l).length * T.size := Nat.mul_pos (by simp) hsz; rw [← this] at h2; simp at h2)
        cases h
    subst hn
    clear hrd hlen
    have heq : (binOp .eql 35 (.slice none n c) (.slice none 0 0)).run Tryd.prog w = .ok (.bool true) w := Lib.run_eql_slice_nil w 35 5 none n c 0 0 E.und
    go_enter Tryd.func106, Tryd.ntmps106
    go_wp2
    go_ret
    exact ⟨none, 0, 0, rfl, Own.nil_ _ _ _ _, Below.refl _ _⟩
  · have heq : (binOp .eql 35 (.slice (some ad) n c) (.slice none 0 0)).run Tryd.prog w = .ok (.bool false) w := Lib.run_eql_slice_nil w 35 5 (some ad) n c 0 0 E.und
    have HL := Lib.hid hlen; clear hlen
    have hlit : (w.alloc (.cells #[] 5)).ownsRow w.heap.size 5 T.size (.slice (some ⟨w.heap.size, 0, none⟩) 0 0) 0 [] := World.ownsRow_lit w #[] 0 (Nat.le_refl _) (by simp [maxLen]) (by simp)
    have hown0 : OwnF T 5 (fun _ => False) (w.alloc (.cells #[] 5)) w.heap.size (some ⟨w.heap.size, 0, none⟩) 0 0 [] := ⟨⟨[], hlit, Reps.nil_⟩, fun _ _ _ h => h, rfl⟩
    have hsl : Sl T F w (some ad) n c l := ⟨HL.out, hcap, hmax, css, hrd, hr⟩
    clear hlit
    have hFd : ∀ b, (some ⟨w.heap.size, 0, none⟩ : Option Addr) = some ⟨b, 0, none⟩ → F b → False := fun b h1 h2 => by injection h1 with h1; injection h1 with h1; subst h1; exact hFl h2
    go_enter Tryd.func106, Tryd.ntmps106
    go_wp2_with (at_builtin; go_loud (refine apl E _ w rfl (.tmp 5) (.tmp 6) rfl w.heap.size (some ⟨w.heap.size, 0, none⟩) 0 0 [] rfl (fun _ => False) F hown0 ((Below.refl _ w).alloc (Nat.le_refl _) _) (Nat.le_refl _) (some ad) n c l rfl (hsl.alloc _) (fun b h1 _ _ h2 => hFd b h1 h2) (by omega) ?_); intro A1 c1 w1 h1)
    go_ret
    exact ⟨A1, _, c1, rfl, ⟨_, by simpa using h1.own⟩, h1.below⟩
def totB {α : Type} (l : List (List α)) (k : Nat) : Nat := (l.take k).flatten.length
theorem totB_succ {α : Type} (l : List (List α)) (k : Nat) (h : k < l.length) : totB l (k + 1) = totB l k + (l[k]'h).length := by
  unfold totB
  rw [List.take_succ_eq_append_getElem h, List.flatten_append]
  simp only [List.length_append, List.flatten_cons, List.flatten_nil, List.append_nil]
theorem totB_zero {α : Type} (l : List (List α)) : totB l 0 = 0 := by simp [totB]
theorem totB_le {α : Type} (l : List (List α)) (k : Nat) : totB l k ≤ l.flatten.length := by
  unfold totB
  rw [show l.flatten = (l.take k).flatten ++ (l.drop k).flatten by rw [← List.flatten_append, List.take_append_drop]]
  simp
set_option maxRecDepth 100000 in
set_option maxHeartbeats 1000000 in
theorem concatB_any {α : Type} {T : Ty α} (E : ElemOf Tryd.prog 35 5 T.size) (F : Nat → Prop) (A : Option Addr) (n c : Nat) (l : List (List α)) (w : World) (h : Sl (tSl T) F w A n c l) (hn : n ≤ 4294967296) (hl : l.flatten.length ≤ 4294967296) :
    Calls Tryd.prog 92 #[.slice A n c] w fun e w' => ∃ A' n' c', e = .returned (.slice A' n' c') ∧ Own T 5 w' w.heap.size A' n' c' l.flatten ∧ Below w.heap.size w w' := by
  have HL := Lib.hid h.len
  have hle := totB_le l
  go_enter Tryd.func92, Tryd.ntmps92
  go_wp2
  go_loop [3, 11] (fun s i => ∃ k : Nat, k ≤ n ∧ i = .int .i64 k ∧ s = .int .i64 (totB l k : Nat)) (fun _ i => n - (intOf i).toNat)
  case atStart => exact ⟨0, Nat.zero_le _, rfl, rfl⟩
  case round =>
    obtain ⟨k, hk, rfl, rfl⟩ := hrel
    have h1 := hle k
    by_cases hlt : k < n
    · have h2 := hle (k + 1)
      have hkl : k < l.length := by rw [← HL.out]; exact hlt
      have H3 := Lib.hid (totB_succ l k hkl)
      obtain ⟨b, o, u, rfl, _, _, hu, hc⟩ := h.at1 hkl rfl
      obtain ⟨Ak, nk, ck, hu, hsl⟩ := hu
      obtain rfl : u = .slice Ak nk ck := by simpa using hu
      have H4 := Lib.hid hsl.len
      have h5 : totB l k + nk = totB l (k + 1) := by rw [H3.out, H4.out]
      have h6 : totB l k + nk ≤ l.flatten.length := by rw [h5]; exact h2
      have H5 := Lib.hid h5; clear h5 hu
      go_wp2
      go_round
      case rel => exact ⟨k + 1, by omega, by go_num, by rw [← H5.out]; go_num⟩
      case measure => simp [intOf]; omega
    · obtain rfl : k = n := by omega
      have hF : ∃ F', Sl (tSl T) F' w A k c l ∧ ∀ b, F' b → b < w.heap.size := ⟨_, h.weaken (F' := fun b => F b ∧ b < w.heap.size) (fun b h1 h2 => ⟨h1, h2⟩), fun b h => h.2⟩
      obtain ⟨F', h', hF'⟩ := hF
      clear h
      have hz := totB_zero l
      have HZ := Lib.hid hz; clear hz
      go_wp2_with (go_at_call 101; refine (growB_nil E (totB l k) w (by omega)).mono ?_; rintro e w1 ⟨A1, c1, rfl, hown, hb⟩)
      go_loopw [6, 27] (fun v i wr => ∃ (j : Nat) (A2 : Option Addr) (m c2 : Nat) (G : Nat → Prop), j ≤ k ∧ i = .int .i64 j ∧ v = .slice A2 m c2 ∧ OwnF T 5 G wr w.heap.size A2 m c2 (l.take j).flatten ∧ Below w.heap.size w wr) (fun _ i _ => k - (intOf i).toNat)
      case atStart => exact ⟨0, A1, 0, c1, fun _ => False, Nat.zero_le _, rfl, rfl, ⟨⟨[], hown, Reps.nil_⟩, fun _ _ _ h => h, rfl⟩, hb⟩
      case round =>
        obtain ⟨j, A2, m, c2, G, hj, rfl, rfl, hown2, hb2⟩ := hrel
        have hj1 := hle j
        by_cases hlt2 : j < k
        · have hj2 := hle (j + 1)
          have hkl : j < l.length := by rw [← HL.out]; exact hlt2
          have H3 := Lib.hid (totB_succ l j hkl)
          have hwr := h'.below hb2 (Nat.le_refl _)
          obtain ⟨b, o, u, rfl, hFb, _, hu, hc⟩ := hwr.at1 hkl rfl
          obtain ⟨Ak, nk, ck, hu, hsl⟩ := hu
          obtain rfl : u = .slice Ak nk ck := by simpa using hu
          clear hu hwr
          have h6 : m + nk ≤ 4294967296 := by rw [hown2.len, hsl.len]; have := H3.out; unfold totB at *; omega
          have H7 := Lib.hid hown2; have H8 := Lib.hid hsl
          clear hown2 hsl
          go_wp2_with (at_builtin; refine apl E wr w rfl (.tmp 31) (.tmp 32) rfl w.heap.size A2 m c2 (l.take j).flatten rfl G F' H7.out hb2 (Nat.le_refl _) Ak nk ck l[j] rfl H8.out (fun b _ h1 _ h2 => by have := hF' b h2; omega) (by omega) ?_; intro A3 c3 w3 h3)
          go_roundw
          case rel =>
            have e1 : (l.take (j + 1)).flatten = (l.take j).flatten ++ l[j] := by
              rw [List.take_succ_eq_append_getElem hkl, List.flatten_append]; simp
            have e2 := h3.own
            rw [← e1] at e2
            exact ⟨j + 1, A3, m + nk, c3, _, by omega, by go_num, rfl, e2, h3.below⟩
          case measure => simp [intOf]; omega
        · obtain rfl : j = k := by omega
          go_wp2
          go_ret
          refine ⟨A2, m, c2, rfl, ⟨G, ?_⟩, hb2⟩
          have e1 : l.take j = l := List.take_of_length_le (by rw [← HL.out]; exact Nat.le_refl _)
          rw [e1] at hown2
          exact hown2

/-! []wire.Field -/
theorem ssF : Tryd.prog.underlying 115 = some (.slice 82) := by kernel_rfl
set_option maxRecDepth 100000 in
set_option maxHeartbeats 400000 in
theorem growF_nil {size : Nat} (E : ElemOf Tryd.prog 82 80 size) (n : Nat) (w : World) (hn : n ≤ 4294967296) :
    Calls Tryd.prog 62 #[.slice none 0 0, .int .i64 (n : Int)] w fun e w' => ∃ A c, e = .returned (.slice A 0 c) ∧ w'.ownsRow w.heap.size 80 size (.slice A 0 c) 0 [] ∧ Below w.heap.size w w' := by
  rcases Nat.eq_zero_or_pos n with rfl | h0
  · go_enter Tryd.func62, Tryd.ntmps62
    go_wp2
    go_ret
    exact ⟨none, 0, rfl, World.ownsRow_nil _ _ _ _, Below.refl _ _⟩
  · obtain ⟨cap, w', hrun, hc, hown, hb⟩ := run_append_make E undInt 82 w n h0 hn
    have h0' : (0 : Int) < (n : Int) := by omega
    have hcap := (own_cap hown).2
    unfold maxLen at hcap
    go_enter Tryd.func62, Tryd.ntmps62
    go_wp2_with (at_builtin; refine Lib.wpList_append_run _ rfl _ _ _ _ rfl _ _ rfl rfl _ _ hrun ?_)
    go_ret
    exact ⟨_, cap, rfl, hown, hb⟩
def totF {α : Type} (l : List (List α)) (k : Nat) : Nat := (l.take k).flatten.length
theorem totF_succ {α : Type} (l : List (List α)) (k : Nat) (h : k < l.length) : totF l (k + 1) = totF l k + (l[k]'h).length := by
  unfold totF
  rw [List.take_succ_eq_append_getElem h, List.flatten_append]
  simp only [List.length_append, List.flatten_cons, List.flatten_nil, List.append_nil]
theorem totF_zero {α : Type} (l : List (List α)) : totF l 0 = 0 := by simp [totF]
theorem totF_le {α : Type} (l : List (List α)) (k : Nat) : totF l k ≤ l.flatten.length := by
  unfold totF
  rw [show l.flatten = (l.take k).flatten ++ (l.drop k).flatten by rw [← List.flatten_append, List.take_append_drop]]
  simp
set_option maxRecDepth 100000 in
set_option maxHeartbeats 1000000 in
theorem concatF_any {α : Type} {T : Ty α} (E : ElemOf Tryd.prog 82 80 T.size) (F : Nat → Prop) (A : Option Addr) (n c : Nat) (l : List (List α)) (w : World) (h : Sl (tSl T) F w A n c l) (hn : n ≤ 4294967296) (hl : l.flatten.length ≤ 4294967296) :
    Calls Tryd.prog 34 #[.slice A n c] w fun e w' => ∃ A' n' c', e = .returned (.slice A' n' c') ∧ Own T 80 w' w.heap.size A' n' c' l.flatten ∧ Below w.heap.size w w' := by
  have HL := Lib.hid h.len
  have hle := totF_le l
  go_enter Tryd.func34, Tryd.ntmps34
  go_wp2
  go_loop [3, 11] (fun s i => ∃ k : Nat, k ≤ n ∧ i = .int .i64 k ∧ s = .int .i64 (totF l k : Nat)) (fun _ i => n - (intOf i).toNat)
  case atStart => exact ⟨0, Nat.zero_le _, rfl, rfl⟩
  case round =>
    obtain ⟨k, hk, rfl, rfl⟩ := hrel
    have h1 := hle k
    by_cases hlt : k < n
    · have h2 := hle (k + 1)
      have hkl : k < l.length := by rw [← HL.out]; exact hlt
      have H3 := Lib.hid (totF_succ l k hkl)
      obtain ⟨b, o, u, rfl, _, _, hu, hc⟩ := h.at1 hkl rfl
      obtain ⟨Ak, nk, ck, hu, hsl⟩ := hu
      obtain rfl : u = .slice Ak nk ck := by simpa using hu
      have H4 := Lib.hid hsl.len
      have h5 : totF l k + nk = totF l (k + 1) := by rw [H3.out, H4.out]
      have h6 : totF l k + nk ≤ l.flatten.length := by rw [h5]; exact h2
      have H5 := Lib.hid h5; clear h5 hu
      go_wp2
      go_round
      case rel => exact ⟨k + 1, by omega, by go_num, by rw [← H5.out]; go_num⟩
      case measure => simp [intOf]; omega
    · obtain rfl : k = n := by omega
      have hF : ∃ F', Sl (tSl T) F' w A k c l ∧ ∀ b, F' b → b < w.heap.size := ⟨_, h.weaken (F' := fun b => F b ∧ b < w.heap.size) (fun b h1 h2 => ⟨h1, h2⟩), fun b h => h.2⟩
      obtain ⟨F', h', hF'⟩ := hF
      clear h
      have hz := totF_zero l
      have HZ := Lib.hid hz; clear hz
      go_wp2_with (go_at_call 62; refine (growF_nil E (totF l k) w (by omega)).mono ?_; rintro e w1 ⟨A1, c1, rfl, hown, hb⟩)
      go_loopw [6, 27] (fun v i wr => ∃ (j : Nat) (A2 : Option Addr) (m c2 : Nat) (G : Nat → Prop), j ≤ k ∧ i = .int .i64 j ∧ v = .slice A2 m c2 ∧ OwnF T 80 G wr w.heap.size A2 m c2 (l.take j).flatten ∧ Below w.heap.size w wr) (fun _ i _ => k - (intOf i).toNat)
      case atStart => exact ⟨0, A1, 0, c1, fun _ => False, Nat.zero_le _, rfl, rfl, ⟨⟨[], hown, Reps.nil_⟩, fun _ _ _ h => h, rfl⟩, hb⟩
      case round =>
        obtain ⟨j, A2, m, c2, G, hj, rfl, rfl, hown2, hb2⟩ := hrel
        have hj1 := hle j
        by_cases hlt2 : j < k
        · have hj2 := hle (j + 1)
          have hkl : j < l.length := by rw [← HL.out]; exact hlt2
          have H3 := Lib.hid (totF_succ l j hkl)
          have hwr := h'.below hb2 (Nat.le_refl _)
          obtain ⟨b, o, u, rfl, hFb, _, hu, hc⟩ := hwr.at1 hkl rfl
          obtain ⟨Ak, nk, ck, hu, hsl⟩ := hu
          obtain rfl : u = .slice Ak nk ck := by simpa using hu
          clear hu hwr
          have h6 : m + nk ≤ 4294967296 := by rw [hown2.len, hsl.len]; have := H3.out; unfold totF at *; omega
          have H7 := Lib.hid hown2; have H8 := Lib.hid hsl
          clear hown2 hsl
          go_wp2_with (at_builtin; refine apl E wr w rfl (.tmp 31) (.tmp 32) rfl w.heap.size A2 m c2 (l.take j).flatten rfl G F' H7.out hb2 (Nat.le_refl _) Ak nk ck l[j] rfl H8.out (fun b _ h1 _ h2 => by have := hF' b h2; omega) (by omega) ?_; intro A3 c3 w3 h3)
          go_roundw
          case rel =>
            have e1 : (l.take (j + 1)).flatten = (l.take j).flatten ++ l[j] := by
              rw [List.take_succ_eq_append_getElem hkl, List.flatten_append]; simp
            have e2 := h3.own
            rw [← e1] at e2
            exact ⟨j + 1, A3, m + nk, c3, _, by omega, by go_num, rfl, e2, h3.below⟩
          case measure => simp [intOf]; omega
        · obtain rfl : j = k := by omega
          go_wp2
          go_ret
          refine ⟨A2, m, c2, rfl, ⟨G, ?_⟩, hb2⟩
          have e1 : l.take j = l := List.take_of_length_le (by rw [← HL.out]; exact Nat.le_refl _)
          rw [e1] at hown2
          exact hown2
end Go.Proofs.YtojenpjafgfpaaaDoor
