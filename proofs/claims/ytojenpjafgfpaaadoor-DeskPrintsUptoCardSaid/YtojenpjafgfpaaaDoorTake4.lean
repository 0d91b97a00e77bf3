/- The layer wire: shaped (at the pattern of a value), TakeValue. -/
import Derived.Test.YtojenpjafgfpaaaDoorTake3
namespace Go.Proofs.YtojenpjafgfpaaaDoor
open Go Go.RowKit

def sOk (k : Nat) (f : Fld) : Bool := f.tag == (k : Int) + 1 && f.bytes == (k == 2)
def sh3 (L : List Fld) : Bool := L.length == 3 && (L[0]?.map (sOk 0)).getD true && (L[1]?.map (sOk 1)).getD true && (L[2]?.map (sOk 2)).getD true
def shp (b : List UInt8) : Option (List Fld) := (wtake b).bind fun L => if sh3 L then some L else none
def vOf (f1 f2 f3 : Fld) : VV := ⟨decide (f1.n = 1), zagI f2.n, ⟨f3.b.toArray⟩⟩

theorem len3 {L : List Fld} (h : L.length = 3) : ∃ a b c, L = [a, b, c] := by
  match L, h with
  | [a, b, c], _ => exact ⟨a, b, c, rfl⟩
theorem sh3_bad {L : List Fld} (h : L.length = 3) {k : Nat} (hk : k < L.length) (hb : sOk k (L[k]'hk) = false) : sh3 L = false := by
  obtain ⟨a, b, c, rfl⟩ := len3 h
  match k, hk, hb with
  | 0, _, hb => simp at hb; simp [sh3, hb]
  | 1, _, hb => simp at hb; simp [sh3, hb]
  | 2, _, hb => simp at hb; simp [sh3, hb]
theorem sh3_good {L : List Fld} (h : L.length = 3) (hb : ∀ j (hj : j < L.length), j < 3 → sOk j (L[j]'hj) = true) : sh3 L = true := by
  obtain ⟨a, b, c, rfl⟩ := len3 h
  have h0 := hb 0 (by simp) (by omega)
  have h1 := hb 1 (by simp) (by omega)
  have h2 := hb 2 (by simp) (by omega)
  simp at h0 h1 h2
  simp [sh3, h0, h1, h2]
theorem sh3_len {L : List Fld} (h : L.length ≠ 3) : sh3 L = false := by
  simp [sh3, h]

def ShPost (l : List UInt8) (w : World) (e : Ending) (w' : World) : Prop :=
  ∃ A n c, e = .returned (.tuple #[.slice A n c, .bool (shp l).isSome]) ∧ Below w.heap.size w w' ∧ Sl tFld (fun b => w.heap.size ≤ b) w' A n c ((shp l).getD [])

set_option maxRecDepth 100000 in
set_option maxHeartbeats 3000000 in
theorem shaped_any (F : Nat → Prop) (A : Option Addr) (n c : Nat) (l : List UInt8) (w : World) (h : Bs F w A n c l) (hn : n ≤ 4294967296) :
    Calls Tryd.prog 104 #[.slice A n c, .string ⟨#[110, 110, 98]⟩] w (ShPost l w) := by
  go_enter Tryd.func104, Tryd.ntmps104
  go_wp2_with (go_at_call 91; refine (wtake_any F A n c l _ h hn).mono ?_)
  rintro e w1 ⟨A1, n1, c1, rfl, hb1, hs1⟩
  obtain ⟨ec, hec⟩ : ∃ ec, ec = okc (wtake l).isSome 2 := ⟨_, rfl⟩
  rw [← hec]
  have HB1 := Lib.hid hb1; clear hb1
  cases hT : wtake l with
  | none =>
    obtain rfl : ec = 2 := by rw [hec, hT]; rfl
    have HN := Lib.hid (show shp l = none by simp [shp, hT])
    clear hs1 hT hec
    go_wp2
    go_ret2
    exact ⟨none, 0, 0, by rw [HN.out]; rfl, HB1.out, by rw [HN.out]; exact Sl.nil_ _ _ _⟩
  | some L =>
    obtain rfl : ec = 0 := by rw [hec, hT]; rfl
    rw [hT] at hs1
    have hS : Sl tFld (fun b => w.heap.size ≤ b) w1 A1 n1 c1 L := hs1
    have HL := Lib.hid hS.len
    have HSH := Lib.hid (show shp l = if sh3 L then some L else none by simp [shp, hT])
    clear hs1 hT hec
    by_cases h3 : n1 = 3
    · subst h3
      go_wp2_with fail
      go_loopw [26] (fun i wr => ∃ (k : Nat), k ≤ 3 ∧ i = .int .i64 k ∧ Below w1.heap.size w1 wr ∧ ∀ j (hj : j < L.length), j < k → sOk j (L[j]'hj) = true)
        (fun i _ => 3 - (intOf i).toNat)
      case atStart => exact ⟨0, by omega, rfl, Below.refl _ _, by intro j hj h; omega⟩
      case round =>
        obtain ⟨k, hk, rfl, hb, hok⟩ := hrel
        have HOK := Lib.hid hok; clear hok
        by_cases hlt : k < 3
        · have hkl : k < L.length := by rw [← HL.out]; exact hlt
          obtain ⟨b, o, cs, rfl, _, hbl, hrep, hc⟩ := (hS.below hb (Nat.le_refl _)).at_ hkl (by decide)
          obtain ⟨f, hf⟩ : ∃ f, f = L[k] := ⟨_, rfl⟩
          rw [← hf] at hrep
          have HF := Lib.hid hf; clear hf
          obtain ⟨A3, n3, c3, rfl, ht, hn3, hs3⟩ := hrep
          obtain ⟨g0, g1, g2, g3⟩ := cells4 hc
          clear hc hs3
          obtain ⟨tag, isb, fn, fb⟩ := f
          dsimp only at *
          obtain ⟨ht0, ht1⟩ := ht
          have hkc : k = 0 ∨ k = 1 ∨ k = 2 := by omega
          have hbx : Below w.heap.size w wr := HB1.out.trans (hb.mono HB1.out.size)
          have hszx := hbx.size
          have hszy := hb.size
          by_cases htag : tag = (k : Int) + 1
          · by_cases hib : isb = (k == 2)
            · have hkok : sOk k (L[k]'hkl) = true := by rw [← HF.out]; simp [sOk, htag, hib]
              have HK := Lib.hid hkok; clear hkok HF
              rcases hkc with rfl | rfl | rfl
              all_goals
                subst htag hib
                (try simp only [Nat.zero_mul, Nat.add_zero] at g0 g1 g2 g3)
                go_wp2_with fail
                go_quiet (fail)
                go_wp2_with fail
                go_roundw
                case rel =>
                  first
                  | refine ⟨1, by omega, by go_num, ((hb.alloc hszy _).trans ⟨rfl, rfl, rfl, Nat.le_refl _, fun _ _ => rfl⟩), fun j hj hjk => ?_⟩
                  | refine ⟨2, by omega, by go_num, ((hb.alloc hszy _).trans ⟨rfl, rfl, rfl, Nat.le_refl _, fun _ _ => rfl⟩), fun j hj hjk => ?_⟩
                  | refine ⟨3, by omega, by go_num, ((hb.alloc hszy _).trans ⟨rfl, rfl, rfl, Nat.le_refl _, fun _ _ => rfl⟩), fun j hj hjk => ?_⟩
                  rcases Nat.lt_or_eq_of_le (Nat.le_of_lt_succ hjk) with h | h
                  · exact HOK.out j hj h
                  · subst h; exact HK.out
                case measure => simp [intOf]
            · have hkok : sOk k (L[k]'hkl) = false := by rw [← HF.out]; simp [sOk, hib]
              have HN := Lib.hid (show shp l = none by rw [HSH.out, sh3_bad HL.out.symm hkl hkok]; rfl)
              clear hkok HF
              rcases hkc with rfl | rfl | rfl
              all_goals
                subst htag
                (try simp only [Nat.zero_mul, Nat.add_zero] at g0 g1 g2 g3)
                cases isb
                all_goals
                  first
                  | (exact absurd rfl hib)
                  | (clear hib
                     go_wp2_with fail
                     go_quiet (fail)
                     go_wp2_with fail
                     go_ret2
                     exact ⟨none, 0, 0, by rw [HN.out]; rfl, ((hbx.alloc hszx _).trans ⟨rfl, rfl, rfl, Nat.le_refl _, fun _ _ => rfl⟩), by rw [HN.out]; exact Sl.nil_ _ _ _⟩)
          · have hkok : sOk k (L[k]'hkl) = false := by rw [← HF.out]; simp [sOk, htag]
            have HN := Lib.hid (show shp l = none by rw [HSH.out, sh3_bad HL.out.symm hkl hkok]; rfl)
            clear hkok HF hkc
            have htag2 : (tag != (k : Int) + 1) = true := by simp [htag]
            go_wp2_with fail
            go_quiet (fail)
            go_wp2_with fail
            go_ret2
            exact ⟨none, 0, 0, by rw [HN.out]; rfl, ((hbx.alloc hszx _).trans ⟨rfl, rfl, rfl, Nat.le_refl _, fun _ _ => rfl⟩), by rw [HN.out]; exact Sl.nil_ _ _ _⟩
        · obtain rfl : k = 3 := by omega
          have HN := Lib.hid (show shp l = some L by rw [HSH.out, sh3_good HL.out.symm (fun j hj h => HOK.out j hj h)]; rfl)
          go_wp2
          go_ret2
          exact ⟨A1, 3, c1, by rw [HN.out]; rfl, HB1.out.trans (hb.mono HB1.out.size), by rw [HN.out]; exact hS.below hb (Nat.le_refl _)⟩
    · have HN := Lib.hid (show shp l = none by rw [HSH.out, sh3_len (by rw [← HL.out]; exact h3)]; rfl)
      have h3' : ((n1 : Int) != 3) = true := by simp; omega
      go_wp2
      go_ret2
      exact ⟨none, 0, 0, by rw [HN.out]; rfl, HB1.out, by rw [HN.out]; exact Sl.nil_ _ _ _⟩
end Go.Proofs.YtojenpjafgfpaaaDoor
