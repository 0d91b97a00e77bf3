/- A part of what Puts leans on. -/
import Derived.Test.YtpmglcachffojaaGreatDoorZ24
import Derived.Test.YtpmglcachffojaaGreatDoorZ25
set_option maxRecDepth 100000
set_option maxHeartbeats 16000000
namespace Go.Proofs.YtpmglcachffojaaGreatDoor
section
open Go Go.RowKit
def xxD (l : List ByteArray) : List UInt8 := rleB false (l.map fun s => (s.size : Int))
theorem kq0 : zzZ Tryz.prog 89 9 tStr.size := zzZ.mk' (bytes := 16) (z := .string ⟨#[]⟩) (by kernel_rfl) (by kernel_rfl) rfl (by decide) (by decide)
theorem qxs (F : Nat → Prop) (A : Option Addr) (n c : Nat) (l : List ByteArray) (w : World) (h : Sl tStr F w A n c l) (hl : n ≤ 4096) :
 Calls Tryz.prog 101 #[.slice A n c] w (Own1 w (xxD l)) := by
 have HL := zH h.len
 have HOK : Hid (zzY false (l.map fun s => (s.size : Int))) := zH (by
  intro x hx
  obtain ⟨s, hs, rfl⟩ := List.mem_map.1 hx
  obtain ⟨i, hi, rfl⟩ := List.getElem_of_mem hs
  obtain ⟨_, _, _, _, _, _, hr, _⟩ := h.at1 hi rfl
  obtain ⟨_, h2⟩ := hr
  unfold maxLen at h2
  exact ⟨by omega, by omega, .inr (by omega)⟩)
 go_enter Tryz.func101, Tryz.ntmps101
 go_wp2
 go_loopw [3, 10] (fun v i wr => ∃ (k : Nat) (A2 : Option Addr) (c2 : Nat) (G : Nat → Prop), k ≤ n ∧ i = .int .i64 k ∧ v = .slice A2 k c2 ∧ OwnF tI64 3 G wr w.heap.size A2 k c2 ((l.take k).map fun s : ByteArray => (s.size : Int)) ∧ Below w.heap.size w wr)
  (fun _ i _ => n - (intOf i).toNat)
 case atStart => exact ⟨0, none, 0, fun _ => False, Nat.zero_le _, rfl, rfl, OwnF.nil_ _ _ _ _ _, zR⟩
 case round =>
  obtain ⟨k, A2, c2, G, hk, rfl, rfl, hown, hb⟩ := hrel
  by_cases hlt : k < n
  · have hkl : k < l.length := by rw [← HL.out]; exact hlt
    obtain ⟨b, o, cs, rfl, _, hbl, hrep, hc⟩ := (h.below hb zN).at1 hkl rfl
    obtain ⟨v, hf⟩ : ∃ v, v = l[k] := ⟨_, rfl⟩
    obtain ⟨hcs, hok⟩ := hrep
    injection hcs with hcs; subst hcs
    rw [← hf] at hc hok
    unfold maxLen at hok
    have HF := zH hf; clear hf
    have HO := zH hown; clear hown
    have hsz := hb.size
    go_wp2_with (first
     | (at_builtin; refine apl1 (T := tI64) zzQ wr w rfl (.tmp 14) (.tmp 17) rfl w.heap.size A2 k c2 ((l.take k).map fun s : ByteArray => (s.size : Int)) (by rfl) G (fun _ => False) HO.out hb zN _ (by rfl) [.int .i64 (v.size : Int)] (v.size : Int) ⟨rfl, by omega, by omega⟩ 3 rfl (fun _ _ _ _ h4 => h4) (by omega) ?_; intro A5 c5 w5 h5))
    go_roundw
    case rel =>
     have e1 : (l.take (k + 1)).map (fun s : ByteArray => (s.size : Int)) = (l.take k).map (fun s : ByteArray => (s.size : Int)) ++ [(v.size : Int)] := by
      rw [zT hkl, List.map_append, ← HF.out]; rfl
     have e2 := h5.own
     rw [← e1] at e2
     exact ⟨k + 1, A5, c5, _, by omega, by go_num, rfl, e2, h5.below⟩
    case measure => simp [intOf]; omega
  · obtain rfl : k = n := by omega
    have e1 : l.take k = l := zL (by rw [← HL.out]; exact Nat.le_refl _)
    rw [e1] at hown
    have HO := zH hown.sl; clear hown e1
    go_wp2_with (first
     | (go_at_call 92; refine (jjz _ A2 k c2 _ _ HO.out hl false HOK.out).mono ?_; rintro e w4 ⟨hb4, A4, n4, c4, rfl, ho4⟩; have HO4 := zH ho4; have HB4 := zH hb4; clear ho4 hb4)
     | fail)
    go_ret
    exact ⟨A4, n4, c4, rfl, HO4.out.down hb.size, hb.trans (HB4.out.mono hb.size)⟩
theorem long1_any (s : ByteArray) (w : World) : Calls Tryz.prog 98 #[.string s] w fun e w' => e = .returned (.bool (decide (300 < s.size))) ∧ Below w.heap.size w w' := by
 by_cases h : 300 < s.size
 · have h1 : (300 : Int) < s.size := by omega
   have HD := zH (decide_eq_true h)
   clear h
   go_enter Tryz.func98, Tryz.ntmps98
   go_wp2_with fail
   go_ret
   exact ⟨by first | (rw [HD.out]; rfl) | (rw [HD.out]; simp [h1]), zR⟩
 · have h1 : ¬ (300 : Int) < s.size := by omega
   have HD := zH (decide_eq_false h)
   clear h
   go_enter Tryz.func98, Tryz.ntmps98
   go_wp2_with fail
   go_ret
   exact ⟨by first | (rw [HD.out]; rfl) | (rw [HD.out]; simp [h1]), zR⟩
end
section
open Go Go.RowKit
def ltS (a b : ByteArray) : Bool := Op.bytesLess a.toList b.toList
theorem bne_y {a b : Int} (h : ¬ a = b) : (a != b) = true := by simpa using h
def scmp (a b : ByteArray) : Int := if ltS a b then -1 else if ltS b a then 1 else 0
def icmp (a b : Int) : Int := if a < b then -1 else if b < a then 1 else 0
def vcmp (a b : VV) : Int := if a.null && !b.null then -1 else if b.null && !a.null then 1 else if icmp a.n b.n = 0 then scmp a.s b.s else icmp a.n b.n
def jjN : VV := ⟨true, 0, ⟨#[]⟩⟩
structure SS where
 count : Int
 hasNull : Bool
 min : VV
 max : VV
 sum : Int
 over : Bool
structure S0 where
 count : Nat
 hasNull : Bool
 min : VV
 max : VV
def S0.zero : S0 := ⟨0, false, jjN, jjN⟩
def vvr (s : S0) (v : VV) : S0 :=
 if v.null then ⟨s.count, true, s.min, s.max⟩ else ⟨s.count + 1, s.hasNull, if s.min.null || decide (vcmp v s.min < 0) then v else s.min, if s.max.null || decide (0 < vcmp v s.max) then v else s.max⟩
def s0Of (l : List VV) : S0 := l.foldl vvr S0.zero
theorem xxZ (l : List VV) (v : VV) : s0Of (l ++ [v]) = vvr (s0Of l) v := by unfold s0Of; rw [List.foldl_append]; rfl
def sumV (l : List VV) : Int := ((l.filter zzh).map (·.n)).foldl (· + ·) 0
theorem qzV (l : List VV) (v : VV) : sumV (l ++ [v]) = if v.null then sumV l else sumV l + v.n := by
 unfold sumV
 rw [List.filter_append]
 cases h : v.null
 · rw [List.filter_cons_of_pos (by unfold zzh; rw [h]; rfl), List.filter_nil, List.map_append, List.foldl_append]
   simp
 · rw [List.filter_cons_of_neg (by unfold zzh; rw [h]; decide), List.filter_nil, List.append_nil]
   simp
def yy6 (x : Int) : Bool := decide (-9223372036854775808 ≤ x ∧ x ≤ 9223372036854775807)
def zzs (k : Int) (l : List VV) : SS :=
 ⟨(s0Of l).count, (s0Of l).hasNull, (s0Of l).min, (s0Of l).max, if decide (1 ≤ k ∧ k ≤ 5) && yy6 (sumV l) then sumV l else 0, decide (1 ≤ k ∧ k ≤ 5) && !yy6 (sumV l)⟩
theorem xqe (l : List VV) (v : VV) : (s0Of (l ++ [v])).count = (s0Of l).count + (if v.null then 0 else 1) := by
 rw [xxZ]; unfold vvr; split <;> simp_all
theorem s0_count (l : List VV) : ((s0Of l).count = 0 ↔ (s0Of l).min.null = true) ∧ ((s0Of l).min.null = (s0Of l).max.null) := by
 suffices h : ∀ r : List VV, ((s0Of r.reverse).count = 0 ↔ (s0Of r.reverse).min.null = true) ∧ ((s0Of r.reverse).min.null = (s0Of r.reverse).max.null) by
  have := h l.reverse; rwa [List.reverse_reverse] at this
 intro r
 induction r with
 | nil => exact ⟨⟨fun _ => rfl, fun _ => rfl⟩, rfl⟩
 | cons v r ih =>
   rw [List.reverse_cons, xxZ]
   obtain ⟨i1, i2⟩ := ih
   generalize s0Of r.reverse = s at i1 i2 ⊢
   unfold vvr
   cases hv : v.null
   · rw [if_neg (by decide)]
     refine ⟨⟨fun h => ?_, fun h => ?_⟩, ?_⟩
     · simp at h
     · exfalso
       simp only at h
       split at h
       · rw [hv] at h; cases h
       · rename_i hc
         rw [h] at hc; simp at hc
     · simp only
       cases hm : s.min.null
       · rw [hm] at i2
         rw [← i2]
         split <;> split <;> simp_all
       · rw [hm] at i2
         rw [← i2]
         simp [hv]
   · rw [if_pos rfl]
     exact ⟨i1, i2⟩
theorem kq6 (l : List VV) : (s0Of l).count ≤ l.length := by
 suffices h : ∀ r : List VV, (s0Of r.reverse).count ≤ r.length by
  have := h l.reverse; rwa [List.reverse_reverse, List.length_reverse] at this
 intro r
 induction r with
 | nil => exact Nat.le_refl _
 | cons v r ih => rw [List.reverse_cons, xqe, List.length_cons]; split <;> omega
theorem s0_mem (l : List VV) : ((s0Of l).min = jjN ∨ (s0Of l).min ∈ l) ∧ ((s0Of l).max = jjN ∨ (s0Of l).max ∈ l) := by
 suffices h : ∀ r : List VV, ((s0Of r.reverse).min = jjN ∨ (s0Of r.reverse).min ∈ r) ∧ ((s0Of r.reverse).max = jjN ∨ (s0Of r.reverse).max ∈ r) by
  have := h l.reverse; rwa [List.reverse_reverse, List.mem_reverse, List.mem_reverse] at this
 intro r
 induction r with
 | nil => exact ⟨.inl rfl, .inl rfl⟩
 | cons v r ih =>
   rw [List.reverse_cons, xxZ]
   obtain ⟨i1, i2⟩ := ih
   have j1 : (s0Of r.reverse).min = jjN ∨ (s0Of r.reverse).min ∈ v :: r := i1.imp id (List.mem_cons_of_mem _)
   have j2 : (s0Of r.reverse).max = jjN ∨ (s0Of r.reverse).max ∈ v :: r := i2.imp id (List.mem_cons_of_mem _)
   generalize s0Of r.reverse = s at j1 j2 ⊢
   unfold vvr
   split
   · exact ⟨j1, j2⟩
   · constructor
     · simp only; split
       · exact .inr (List.mem_cons_self ..)
       · exact j1
     · simp only; split
       · exact .inr (List.mem_cons_self ..)
       · exact j2
end
section
open Go Go.RowKit
theorem jjQ {a b : ByteArray} (h : ¬ a = b) : (a.toList == b.toList) = false ∧ ¬ a.toList = b.toList ∧ decide (a = b) = false := by
 have h1 : ¬ a.toList = b.toList := by
  rw [ByteArray.toList_eq, ByteArray.toList_eq]
  intro e; exact h (uuq e)
 exact ⟨by simpa using h1, h1, decide_eq_false h⟩
def zqL (l : List ByteArray) (s : ByteArray) (r : Int) : Prop := (r = -1 ∧ ∀ j (h : j < l.length), l[j] ≠ s) ∨ ∃ i, ∃ h : i < l.length, r = (i : Int) ∧ l[i] = s
theorem uuu (F : Nat → Prop) (A : Option Addr) (n c : Nat) (l : List ByteArray) (w : World) (h : Sl tStr F w A n c l) (s : ByteArray) (hn : n ≤ 4096) :
 Calls Tryz.prog 109 #[.slice A n c, .string s] w fun e w' => (∃ r, e = .returned (.int .i64 r) ∧ zqL l s r) ∧ w = w' := by
 have HH := zH h; have HL := zH h.len
 clear h
 go_enter Tryz.func109, Tryz.ntmps109
 go_wp2_with fail
 go_loopw [5] (fun iv wr => ∃ i : Nat, i ≤ n ∧ iv = .int .i64 (i : Int) ∧ Hid (∀ j (_ : j < l.length), j < i → l[j] ≠ s) ∧ w = wr) (fun iv _ => n - (intOf iv).toNat)
 case atStart => exact ⟨0, Nat.zero_le _, rfl, zH (fun j _ hj => by omega), rfl⟩
 case round =>
  obtain ⟨i, hi, rfl, HJ, rfl⟩ := hrel
  by_cases hlt : i < n
  · have hil : i < l.length := by rw [← HL.out]; exact hlt
    obtain ⟨b, o, u, rfl, _, _, hr, hc⟩ := HH.out.at1 hil rfl
    obtain ⟨x, hx⟩ : ∃ x, x = l[i] := ⟨_, rfl⟩
    obtain ⟨hr, hsz⟩ := hr
    injection hr with hr; subst hr
    rw [← hx] at hc
    have hi0 : (0 : Int) ≤ (i : Int) := by omega
    have hi1 : (i : Int) < (n : Int) := by omega
    have HX := zH hx
    clear hx hsz
    by_cases he : x = s
    · have HP := zH (show zqL l s (i : Int) from .inr ⟨i, hil, rfl, by rw [← HX.out]; exact he⟩)
      subst he
      go_wp2_with fail
      go_ret
      exact ⟨⟨_, rfl, HP.out⟩, rfl⟩
    · obtain ⟨e1, e2, e3⟩ := jjQ he
      have HJ2 : Hid (∀ j (_ : j < l.length), j < i + 1 → l[j] ≠ s) := zH (fun j hj hji => by
       by_cases hjp : j = i
       · subst hjp; rw [← HX.out]; exact he
       · exact HJ.out j hj (by omega))
      go_wp2_with fail
      go_roundw
      case rel => exact ⟨i + 1, by omega, by go_num, HJ2, trivial⟩
      case measure => simp [intOf]; omega
  · obtain rfl : i = n := by omega
    have HP := zH (show zqL l s (-1) from .inl ⟨rfl, fun j hj => HJ.out j hj (by have := HL.out; omega)⟩)
    go_wp2_with fail
    go_ret
    exact ⟨⟨_, rfl, HP.out⟩, rfl⟩
end
end Go.Proofs.YtpmglcachffojaaGreatDoor
