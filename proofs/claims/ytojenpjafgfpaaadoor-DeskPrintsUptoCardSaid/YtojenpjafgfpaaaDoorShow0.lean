/- The layer desk: joined; what Show computes. -/
import Derived.Test.YtojenpjafgfpaaaDoorPrint
import Derived.Test.YtojenpjafgfpaaaDoorShelf
import Derived.Lib.ItoaLen
import Derived.Lib.AppendIntMem
import Derived.Lib.Join
namespace Go.Proofs.YtojenpjafgfpaaaDoor
open Go Go.RowKit
attribute [local go_sem ↓] Go.wp_at_zero Go.wp_at_succ

/-! what they compute -/
def jn (sep : List UInt8) (l : List Int) : List UInt8 := Lib.join (l.map Lib.itoa) sep
def toldOf (x : KD) : List UInt8 := jn [46] [x.key.id, x.key.bucket, x.key.row] ++ (x.row.map fun v => 61 :: hexOf (putValue v)).flatten
def partsA (a : AA) : List (List UInt8) := [jn [32] [a.code, a.n], jn [32] (a.list.high :: a.list.except), Lib.join (a.rows.map toldOf) [32]]
def showA (a : AA) : List UInt8 := Lib.join (partsA a) [124] ++ [10]
def showOf (l : List AA) : List UInt8 := (l.map showA).flatten

/-- The table of powers of ten, which Itoa reads. -/
def Tab (w : World) : Prop := Lib.TabIs Tryd.prog w "internal/strconv.uint64pow10" .u64 Lib.pow10Tab
theorem Tab.below {w w' : World} (h : Tab w) (hb : Below w.heap.size w w') : Tab w' := by
  unfold Tab Lib.TabIs World.var? at *
  cases hg : Tryd.prog.globalNamed "internal/strconv.uint64pow10" with
  | none => simp [hg] at h
  | some g =>
    simp only [hg, Option.bind_some] at h ⊢
    have hlt : g < w.heap.size := by
      rcases Nat.lt_or_ge g w.heap.size with h' | h'
      · exact h'
      · rw [Array.getElem?_eq_none h'] at h; simp at h
    rw [hb.block g hlt]
    exact h
theorem itoa_any (n : Int) (h0 : -9223372036854775808 ≤ n) (h1 : n ≤ 9223372036854775807) (w : World) (ht : Tab w) :
    Calls Tryd.prog 24 #[.int .i64 n] w fun e w' => e = .returned (.string ⟨(Lib.itoa n).toArray⟩) ∧ Below w.heap.size w w' :=
  (Tryd.strconv_Itoa n h0 h1 w ht).mono fun e w' ⟨he, k, os, hw⟩ => ⟨he, by rw [hw]; exact Lib.below_grow _ w (Nat.le_refl _) k os⟩

theorem join_length (sep : List UInt8) (M : Nat) : ∀ l : List (List UInt8), (∀ x ∈ l, x.length ≤ M) → (Lib.join l sep).length ≤ l.length * (M + sep.length)
  | [], _ => by simp [Lib.join_nil]
  | [x], h => by rw [Lib.join_one]; have := h x (by simp); simp; omega
  | x :: y :: r, h => by
    have ih := join_length sep M (y :: r) (fun z hz => h z (by simp [hz]))
    have hx := h x (by simp)
    have e : Lib.join (x :: y :: r) sep = x ++ sep ++ Lib.join (y :: r) sep := by simp [Lib.join, List.intercalate]
    rw [e]
    simp only [List.length_append, List.length_cons] at ih ⊢
    rw [Nat.add_mul (r.length + 1) 1]
    omega
def strs (l : List (List UInt8)) : List ByteArray := l.map fun x => ⟨x.toArray⟩
theorem strs_data (l : List (List UInt8)) : (strs l).map (·.data.toList) = l := by
  unfold strs
  rw [List.map_map]
  exact List.map_id l
theorem elemInt : ElemOf Tryd.prog 39 3 tI64.size := ElemOf.mk' (bytes := 8) (z := .int .i64 0) (by kernel_rfl) (by kernel_rfl) rfl (by decide) (by decide)
theorem elemStr : ElemOf Tryd.prog 58 9 tStr.size := ElemOf.mk' (bytes := 16) (z := .string ⟨#[]⟩) (by kernel_rfl) (by kernel_rfl) rfl (by decide) (by decide)

/-- strings.Join of whatever slice. -/
theorem join_any (F : Nat → Prop) (A : Option Addr) (n c : Nat) (l : List (List UInt8)) (sep : ByteArray) (w : World) (h : Sl tStr F w A n c (strs l)) (hlen : (Lib.join l sep.data.toList).length ≤ 140737488355328) (hn : n ≤ 140737488355328) :
    Calls Tryd.prog 23 #[.slice A n c, .string sep] w fun e w' => e = .returned (.string ⟨(Lib.join l sep.data.toList).toArray⟩) ∧ Below w.heap.size w w' := by
  have hl := h.len
  have hll : (strs l).length = l.length := by simp [strs]
  cases l with
  | nil =>
    obtain rfl : n = 0 := by simpa [strs] using hl
    exact (Tryd.strings_Join_none A c sep w).mono fun e w' ⟨he, hw⟩ => ⟨he, by subst hw; exact Below.refl _ _⟩
  | cons x r =>
    obtain ⟨b, o, u, rfl, _, hbl, _⟩ := h.at1 (k := 0) (by simp [strs]) rfl
    rw [hl]
    refine (Tryd.strings_Join b o c (strs (x :: r)) sep w (fun j y hy => ?_) hbl (by rw [← hl]; exact hn) (by rw [← hl]; exact h.2.1) (by rw [strs_data]; exact hlen)).mono fun e w' ⟨he, hw⟩ => ⟨by rw [he, strs_data], hw⟩
    have hj : j < (strs (x :: r)).length := by
      rcases Nat.lt_or_ge j (strs (x :: r)).length with h' | h'
      · exact h'
      · rw [List.getElem?_eq_none h'] at hy; cases hy
    obtain ⟨b', o', u', e', _, _, hr, hc⟩ := h.at1 hj rfl
    injection e' with e'; injection e' with e1 e2; subst e1 e2
    rw [hc]
    have := hr.1
    injection this with this
    rw [this]
    rw [List.getElem?_eq_getElem hj] at hy
    injection hy with hy
    rw [hy]

set_option maxRecDepth 100000 in
set_option maxHeartbeats 1000000 in
theorem joined_any (sep : List UInt8) (hsep : sep.length ≤ 10) (F : Nat → Prop) (A : Option Addr) (n c : Nat) (xs : List Int) (w : World) (h : Sl tI64 F w A n c xs) (hn : n ≤ 268435457) (ht : Tab w) :
    Calls Tryd.prog 22 #[.string ⟨sep.toArray⟩, .slice A n c] w fun e w' => e = .returned (.string ⟨(jn sep xs).toArray⟩) ∧ Below w.heap.size w w' := by
  have HL := Lib.hid h.len
  have HT := Lib.hid ht; clear ht
  go_enter Tryd.func22, Tryd.ntmps22
  go_wp2
  go_loopw [5, 10] (fun v i wr => ∃ (k : Nat) (A2 : Option Addr) (m c2 : Nat), k ≤ n ∧ i = .int .i64 k ∧ m ≤ k ∧ v = .slice A2 m c2 ∧ OwnF tStr 9 (fun _ => False) wr w.heap.size A2 m c2 (strs ((xs.take k).map Lib.itoa)) ∧ Below w.heap.size w wr)
    (fun _ i _ => n - (intOf i).toNat)
  case atStart => exact ⟨0, none, 0, 0, Nat.zero_le _, rfl, Nat.le_refl _, rfl, OwnF.nil_ _ _ _ _ _, Below.refl _ _⟩
  case round =>
    obtain ⟨k, A2, m, c2, hk, rfl, hmk, rfl, hown, hb⟩ := hrel
    have HB := Lib.hid hb
    have hsz := hb.size
    by_cases hlt : k < n
    · have hkl : k < xs.length := by rw [← HL.out]; exact hlt
      obtain ⟨b, o, u, rfl, _, hbl, hrep, hc⟩ := (h.below hb (Nat.le_refl _)).at1 hkl (by decide)
      obtain ⟨x, hf⟩ : ∃ v, v = xs[k] := ⟨_, rfl⟩
      rw [← hf] at hrep
      obtain ⟨hu, hx0, hx1⟩ := hrep
      obtain rfl : u = .int .i64 x := by simpa using hu
      clear hu
      have HF := Lib.hid hf; have HO := Lib.hid hown; clear hf hown hb
      have HIL := Lib.hid (Lib.itoa_length_le x hx0 hx1)
      go_wp2_with (first
        | (go_at_call 24; refine (itoa_any x hx0 hx1 _ (HT.out.below HB.out)).mono ?_; rintro e w1 ⟨rfl, hb1⟩; have HB1 := Lib.hid hb1; have hs1 := hb1.size; clear hb1)
        | (at_builtin; refine apl1 (T := tStr) elemStr w1 w rfl (.tmp 14) (.tmp 17) rfl w.heap.size A2 m c2 _ rfl (fun _ => False) (fun _ => False) (HO.out.keepB HB1.out) (HB.out.trans (HB1.out.mono hsz)) (Nat.le_refl _) _ rfl [.string ⟨(Lib.itoa x).toArray⟩] ⟨(Lib.itoa x).toArray⟩ ⟨rfl, by show (Lib.itoa x).toArray.size ≤ maxLen; have := HIL.out; simp only [List.size_toArray, maxLen]; omega⟩ 9 rfl (fun _ _ _ _ h => h) (by omega) ?_; intro A5 c5 w5 h5)
        | fail)
      go_roundw
      case rel =>
        have e1 : strs ((xs.take (k + 1)).map Lib.itoa) = strs ((xs.take k).map Lib.itoa) ++ [⟨(Lib.itoa x).toArray⟩] := by
          rw [List.take_succ_eq_append_getElem hkl, ← HF.out]; simp [strs]
        exact ⟨k + 1, A5, m + 1, c5, by omega, by go_num, by omega, rfl, by rw [e1]; exact h5.own.flat flatStr, h5.below⟩
      case measure => simp [intOf]; omega
    · obtain rfl : k = n := by omega
      rw [show xs.take k = xs from List.take_of_length_le (by rw [← HL.out]; exact Nat.le_refl _)] at hown
      have HS := Lib.hid hown.sl
      have HJ : Hid ((Lib.join (xs.map Lib.itoa) sep).length ≤ 140737488355328) := by
        have h1 := join_length sep 21 (xs.map Lib.itoa) (fun y hy => by
          obtain ⟨z, hz, rfl⟩ := List.mem_map.1 hy
          obtain ⟨i, hi, rfl⟩ := List.getElem_of_mem hz
          obtain ⟨_, _, u, _, _, _, hrep, _⟩ := h.at1 hi (by decide)
          exact Lib.itoa_length_le _ hrep.2.1 hrep.2.2)
        rw [List.length_map, ← HL.out] at h1
        refine Nat.le_trans h1 (Nat.le_trans (Nat.mul_le_mul_left k (show 21 + sep.length ≤ 31 by omega)) (by omega))
      clear hown hb
      go_wp2_with (go_at_call 23; refine (join_any _ _ _ _ (xs.map Lib.itoa) ⟨sep.toArray⟩ _ HS.out HJ.out (by omega)).mono ?_; rintro e w2 ⟨rfl, hb2⟩)
      go_ret
      exact ⟨rfl, HB.out.trans (hb2.mono hsz)⟩
end Go.Proofs.YtojenpjafgfpaaaDoor
