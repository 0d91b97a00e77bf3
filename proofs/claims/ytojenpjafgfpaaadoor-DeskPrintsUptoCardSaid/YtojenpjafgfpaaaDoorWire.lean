/- The layer wire, and the references of varint and wire: their functions compute the plain functions of the specification. -/
import Derived.Test.YtojenpjafgfpaaaDoorVar
import Derived.Test.YtojenpjafgfpaaaDoorStruct
import Derived.Deep.RegionHeld3
import Derived.Deep.DrawnRows
namespace Go.Proofs.YtojenpjafgfpaaaDoor
open Go Go.RowKit

set_option maxRecDepth 100000 in
set_option maxHeartbeats 400000 in
theorem refzig_any (x : Int) (w : World) (h0 : -9223372036854775808 ≤ x) (h1 : x ≤ 9223372036854775807) :
    Calls Tryd.prog 49 #[.int .i64 x] w fun e w' => e = .returned (.int .u64 (zigN x : Nat)) ∧ w = w' := by
  by_cases hx : x < 0
  · have H := Lib.hid (show (2 * -(x + 1) + 1 : Int) = (zigN x : Nat) by unfold zigN; rw [if_pos hx]; omega)
    go_enter Tryd.func49, Tryd.ntmps49
    go_wp2
    go_ret
    exact ⟨ret_int H.out, rfl⟩
  · have H := Lib.hid (show (2 * x : Int) = (zigN x : Nat) by unfold zigN; rw [if_neg hx]; omega)
    go_enter Tryd.func49, Tryd.ntmps49
    go_wp2
    go_ret
    exact ⟨ret_int H.out, rfl⟩

theorem ownput_le {w : World} {B : Nat} {A : Option Addr} {n c m : Nat} {L : List UInt8} {x : Nat} (h : OwnB w B A n c (L ++ vput x)) (hm : m = L.length) : n ≤ m + 10 := by
  have h1 := h.len
  have h2 := vput_len x
  simp at h1; omega
/-- What a call that makes a field leaves. -/
def IsFld (tag : Int) (bytes : Bool) (n : Nat) (A : Option Addr) (k c : Nat) (w : World) (e : Ending) (w' : World) : Prop :=
  e = .returned (.agg #[.int .i64 tag, .bool bytes, .int .u64 (n : Int), .slice A k c]) ∧ Below w.heap.size w w'

set_option maxRecDepth 100000 in
set_option maxHeartbeats 400000 in
theorem truth_any (tag : Int) (is : Bool) (w : World) :
    Calls Tryd.prog 65 #[.int .i64 tag, .bool is] w (IsFld tag false (b2n is) none 0 0 w) := by
  cases is
  all_goals
    go_enter Tryd.func65, Tryd.ntmps65
    go_wp2
    exact bodyPost_ret (v := .agg #[_, _, _, _]) (by simp [results, Tryd.results65, go_sem, b2n]) rfl ⟨rfl, ((Below.refl _ w).alloc (Nat.le_refl _) _).alloc (by simp) _⟩

set_option maxRecDepth 100000 in
set_option maxHeartbeats 400000 in
theorem sign_any (tag x : Int) (w : World) (h0 : -9223372036854775808 ≤ x) (h1 : x ≤ 9223372036854775807) :
    Calls Tryd.prog 66 #[.int .i64 tag, .int .i64 x] w (IsFld tag false (zigN x) none 0 0 w) := by
  go_enter Tryd.func66, Tryd.ntmps66
  go_wp2_with (go_at_call 60; refine (zig_any x _ h0 h1).mono ?_; rintro e w' ⟨rfl, rfl⟩)
  exact bodyPost_ret (v := .agg #[_, _, _, _]) (by simp [results, Tryd.results66, go_sem]) rfl ⟨rfl, (Below.refl _ w).alloc (Nat.le_refl _) _⟩
set_option maxRecDepth 100000 in
set_option maxHeartbeats 400000 in
theorem text_any (tag : Int) (A : Option Addr) (n c : Nat) (w : World) :
    Calls Tryd.prog 67 #[.int .i64 tag, .slice A n c] w (IsFld tag true 0 A n c w) := by
  go_enter Tryd.func67, Tryd.ntmps67
  go_wp2
  exact bodyPost_ret (v := .agg #[_, _, _, _]) (by simp [results, Tryd.results67, go_sem]) rfl ⟨rfl, (Below.refl _ w).alloc (Nat.le_refl _) _⟩

/-- What Put leaves: the bytes and 0, or nothing and 1. -/
def PutPost (l : List Fld) (w : World) (e : Ending) (w' : World) : Prop :=
  ∃ A n c, e = .returned (.tuple #[.slice A n c, .int .i64 (okc (wput l).isSome 1)]) ∧ OwnB w' w.heap.size A n c (dput l) ∧ Below w.heap.size w w'
set_option maxRecDepth 100000 in
set_option maxHeartbeats 1000000 in
theorem wput_any (F : Nat → Prop) (A : Option Addr) (n c : Nat) (l : List Fld) (w : World) (h : Sl tFld F w A n c l) (hlen : n ≤ 4294967296) (hl : wlen l ≤ 4294967200) :
    Calls Tryd.prog 61 #[.slice A n c] w (PutPost l w) := by
  have HL := Lib.hid h.len
  go_enter Tryd.func61, Tryd.ntmps61
  go_wp2
  go_loopw [4, 10] (fun v i wr => ∃ (k : Nat) (L : List UInt8) (A2 : Option Addr) (m c2 : Nat), k ≤ n ∧ i = .int .i64 k ∧ v = .slice A2 m c2 ∧ OwnB wr w.heap.size A2 m c2 L ∧ wput (l.take k) = some L ∧ Below w.heap.size w wr)
    (fun _ i _ => n - (intOf i).toNat)
  case atStart => exact ⟨0, [], none, 0, 0, Nat.zero_le _, rfl, rfl, OwnB.nil_ _ _, by simp [wput], Below.refl _ _⟩
  case round =>
    obtain ⟨k, L, A2, m, c2, hk, rfl, rfl, hown, hL, hb⟩ := hrel
    by_cases hlt : k < n
    · have hkl : k < l.length := by rw [← HL.out]; exact hlt
      have HO := Lib.hid hown; have HW := Lib.hid hL
      clear hown hL
      obtain ⟨b, o, cs, rfl, _, hbl, hrep, hc⟩ := (h.below hb (Nat.le_refl _)).at_ hkl (by decide)
      obtain ⟨A3, n3, c3, rfl, ht, hn3, hs3⟩ := hrep
      obtain ⟨f, hf⟩ : ∃ f, f = l[k] := ⟨_, rfl⟩
      rw [← hf] at hc ht hn3 hs3
      have HF := Lib.hid hf; clear hf
      obtain ⟨g0, g1, g2, g3⟩ := cells4 hc
      clear hc
      obtain ⟨ht0, ht1⟩ := ht
      by_cases htag : 1 ≤ f.tag ∧ f.tag ≤ 100
      · obtain ⟨tag, isb, fn, fb⟩ := f
        dsimp only at *
        obtain ⟨t, rfl⟩ := Int.eq_ofNat_of_zero_le (show 0 ≤ tag by omega)
        have htl : (t : Int) ≤ 100 := htag.2
        have htg : (1 : Int) ≤ (t : Int) := htag.1
        clear htag
        have hwl := wlen_take l k hkl
        rw [← HF.out] at hwl
        dsimp only at hwl
        have hLl : L.length ≤ wlen (l.take k) := wput_len _ _ HW.out
        have hml := HO.out.len
        have h3l := hs3.len
        have hb1 : m + n3 + 20 ≤ 4294967200 := by omega
        have HM := Lib.hid hml; have H3L := Lib.hid h3l
        clear hml h3l hLl hwl
        have hsz := hb.size
        have HN3 := Lib.hid (u64_wrap_nat n3 (by omega))
        have hfin : ∀ (w' : World) (A' : Option Addr) (m' c' : Nat) (x : List UInt8), x = fld ⟨(t : Int), isb, fn, fb⟩ → OwnB w' w.heap.size A' m' c' (L ++ x) → Below w.heap.size w w' →
            ∃ (k' : Nat) (L' : List UInt8) (A'' : Option Addr) (m'' c'' : Nat), k' ≤ n ∧ Value.int .i64 ((k : Int) + 1) = .int .i64 k' ∧ Value.slice A' m' c' = .slice A'' m'' c'' ∧ OwnB w' w.heap.size A'' m'' c'' L' ∧ wput (l.take k') = some L' ∧ Below w.heap.size w w' := by
          intro w' A' m' c' x hx ho hbl'
          refine ⟨k + 1, L ++ x, A', m', c', by omega, by go_num, rfl, ho, ?_, hbl'⟩
          rw [List.take_succ_eq_append_getElem hkl, ← HF.out, hx]
          exact wput_snoc _ _ _ HW.out (by simp [tagOk]; omega)
        have HFIN := Lib.hid hfin
        clear hfin
        cases isb
        · have HS1 := Lib.hid ((HO.out.bs.any.alloc (.cells #[.int .i64 (t : Int), .bool false, .int .u64 (fn : Int), .slice A3 n3 c3] 80)).drew)
          have HB0 := Lib.hid ((hb.alloc hsz (.cells #[.int .i64 (t : Int), .bool false, .int .u64 (fn : Int), .slice A3 n3 c3] 80)).drew)
          go_wp2_with fail
          go_region_held3 (fun w' => w'.cell? ⟨wr.heap.size, 2, none⟩ = some (.int .u64 (fn : Int)))
            (first | go_keep | (exact (hb1.cell (p := ⟨wr.heap.size, 2, none⟩) (by simp)).trans (by simp)) | (exact (hb2.cell (p := ⟨wr.heap.size, 2, none⟩) (by have := hb1.size; simp at this; show wr.heap.size < _; omega)).trans (by assumption)))
            (first
              | (go_at_call_of 77 (Value.slice A2 m c2); refine (vput_int (fun _ => True) A2 m c2 L _ _ HS1.out (by omega) (by omega) (by omega)).mono ?_; rintro e w1 ⟨A4, n4, c4, rfl, hown1, hb1⟩; have hn4 : n4 ≤ m + 10 := ownput_le hown1 HM.out)
              | (go_at_call 77; refine (vput_int (fun _ => True) A4 n4 c4 _ _ _ hown1.bs.any (by omega) (by omega) (by omega)).mono ?_; rintro e w2 ⟨A5, n5, c5, rfl, hown2, hb2⟩))
          have hs1 := hb1.size
          simp only [World.size_drew, World.size_alloc] at hs1
          have HO5 := Lib.hid (hown2.down (B' := w.heap.size) (by omega))
          have HB5 := Lib.hid ((HB0.out.trans (hb1.mono (by simp; omega))).trans (hb2.mono (by omega)))
          clear hown1 hown2 hb1 hb2 HS1 HB0
          go_wp2
          go_roundw
          case rel =>
            have ho := HO5.out
            rw [List.append_assoc, show ((t : Int) * 8).toNat = 8 * t by omega, intCast_toNat] at ho
            exact HFIN.out _ _ _ _ _ (by simp [fld]) ho HB5.out
          case measure => simp [intOf]; omega
        · have H2 := Lib.hid (u64_or2 t (by omega))
          have HS1 := Lib.hid ((HO.out.bs.any.alloc (.cells #[.int .i64 (t : Int), .bool true, .int .u64 (fn : Int), .slice A3 n3 c3] 80)).drew)
          have HB0 := Lib.hid ((hb.alloc hsz (.cells #[.int .i64 (t : Int), .bool true, .int .u64 (fn : Int), .slice A3 n3 c3] 80)).drew)
          go_wp2_with fail
          go_region_held3 (fun w' => w'.cell? ⟨wr.heap.size, 3, none⟩ = some (.slice A3 n3 c3))
            (first | go_keep | (exact (hb1.cell (p := ⟨wr.heap.size, 3, none⟩) (by simp)).trans (by simp)) | (exact (hb2.cell (p := ⟨wr.heap.size, 3, none⟩) (by have := hb1.size; simp at this; show wr.heap.size < _; omega)).trans (by assumption)))
            (first
              | (go_at_call_of 77 (Value.slice A2 m c2); refine (vput_int (fun _ => True) A2 m c2 L _ _ HS1.out (by omega) (by rw [H2.out]; omega) (by rw [H2.out]; omega)).mono ?_; rintro e w1 ⟨A4, n4, c4, rfl, hown1, hb1⟩; have hn4 : n4 ≤ m + 10 := ownput_le hown1 HM.out)
              | (go_at_call 77; refine (vput_int (fun _ => True) A4 n4 c4 _ _ _ hown1.bs.any (by omega) (by rw [HN3.out]; omega) (by rw [HN3.out]; omega)).mono ?_; rintro e w2 ⟨A5, n5, c5, rfl, hown2, hb2⟩))
          have hs1 := hb1.size
          simp only [World.size_drew, World.size_alloc] at hs1
          have hn5 : n5 ≤ n4 + 10 := ownput_le hown2 hown1.len
          have HO5 := Lib.hid (hown2.down (B' := w.heap.size) (by omega))
          have HB5 := Lib.hid ((HB0.out.trans (hb1.mono (by simp; omega))).trans (hb2.mono (by omega)))
          have HS5 := Lib.hid (((hs3.keep (w' := w2) (by have := hb2.size; omega) (fun b' _ hl => ((hb2.block b' (by omega)).trans (hb1.block b' (by simp; omega))).trans (Below.heap_alloc _ _ _ hl)))))
          clear hown1 hown2 hb1 hb2 HS1 HB0
          go_wp2_with (at_builtin; refine apb w2 w rfl (.tmp 37) (.tmp 39) rfl w.heap.size A5 n5 c5 _ rfl HO5.out HB5.out (Nat.le_refl _) F A3 n3 c3 fb rfl HS5.out (by omega) ?_; intro A6 c6 w6 h6 hb6 _)
          go_roundw
          case rel =>
            have ho := h6
            rw [List.append_assoc, List.append_assoc, H2.out, HN3.out, intCast_toNat, intCast_toNat] at ho
            exact HFIN.out _ _ _ _ _ (by simp [fld, H3L.out]) ho hb6
          case measure => simp [intOf]; omega
      · have hbad : wput l = none := wput_bad l k hkl (by rw [← HF.out]; simp [tagOk]; omega)
        have HBAD := Lib.hid hbad; clear hbad
        have HB0 := Lib.hid (hb.alloc hb.size (.cells #[.int .i64 f.tag, .bool f.bytes, .int .u64 (f.n : Int), .slice A3 n3 c3] 80))
        have hnot : f.tag < 1 ∨ 100 < f.tag := by omega
        clear htag
        rcases hnot with hnot | hnot
        · go_wp2
          go_ret2
          refine ⟨none, 0, 0, by rw [HBAD.out]; rfl, ?_, HB0.out⟩
          rw [show dput l = [] by simp [dput, HBAD.out]]
          exact OwnB.nil_ _ _
        · have hnot2 : 1 ≤ f.tag := by omega
          go_wp2
          go_ret2
          refine ⟨none, 0, 0, by rw [HBAD.out]; rfl, ?_, HB0.out⟩
          rw [show dput l = [] by simp [dput, HBAD.out]]
          exact OwnB.nil_ _ _
    · obtain rfl : k = n := by omega
      have hfull : wput l = some L := by rw [← hL, List.take_of_length_le (by rw [← HL.out]; exact Nat.le_refl _)]
      have HFU := Lib.hid hfull; clear hfull hL
      go_wp2
      go_ret2
      refine ⟨A2, m, c2, by rw [HFU.out]; rfl, ?_, hb⟩
      rw [show dput l = L by simp [dput, HFU.out]]
      exact hown
end Go.Proofs.YtojenpjafgfpaaaDoor
