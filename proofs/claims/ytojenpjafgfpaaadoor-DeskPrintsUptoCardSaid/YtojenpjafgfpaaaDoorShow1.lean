/- The layer desk: told. -/
import Derived.Test.YtojenpjafgfpaaaDoorShow0
namespace Go.Proofs.YtojenpjafgfpaaaDoor
open Go Go.RowKit
attribute [local go_sem ↓] Go.wp_at_zero Go.wp_at_succ

theorem ba_append (a b : List UInt8) : ((⟨a.toArray⟩ : ByteArray) ++ ⟨b.toArray⟩) = ⟨(a ++ b).toArray⟩ := by
  apply ByteArray.ext
  rw [ByteArray.data_append]
  simp
def cellsOf (l : List VV) : List UInt8 := (l.map fun v => 61 :: hexOf (putValue v)).flatten
theorem cellsOf_snoc (l : List VV) (v : VV) : cellsOf (l ++ [v]) = cellsOf l ++ (61 :: hexOf (putValue v)) := by simp [cellsOf]
theorem putValue_vlen (v : VV) : (putValue v).length ≤ vlen v := by
  have h := dput_len (putValueF v)
  have : wlen (putValueF v) ≤ vlen v := by
    have : v.s.data.toList.length = v.s.size := by rw [Array.length_toList]; rfl
    simp only [putValueF, wlen, fnum, ftxt, vlen, List.length_nil]; omega
  unfold putValue; omega
theorem cellsOf_len : ∀ l : List VV, (cellsOf l).length + 200 ≤ 3 * rowLen l
  | [] => by simp [cellsOf, rowLen]
  | v :: r => by
    have ih := cellsOf_len r
    have h1 := putValue_vlen v
    have h2 : cellsOf (v :: r) = (61 :: hexOf (putValue v)) ++ cellsOf r := rfl
    rw [h2]
    simp only [List.length_append, List.length_cons, hexOf_len, rowLen]
    have : 100 ≤ vlen v := by unfold vlen; omega
    omega
theorem rowLen_take (l : List VV) (k : Nat) : rowLen (l.take k) ≤ rowLen l := by
  induction l generalizing k with
  | nil => simp
  | cons v r ih =>
    cases k with
    | zero => simp [rowLen]; have := rowLen_pos r; omega
    | succ k => simp only [List.take_succ_cons, rowLen]; have := ih k; omega
theorem jn3_len (sep : List UInt8) (hs : sep.length ≤ 10) (xs : List Int) (hx : ∀ x ∈ xs, i64 x) : (jn sep xs).length ≤ xs.length * 31 := by
  have h1 := join_length sep 21 (xs.map Lib.itoa) (fun y hy => by
    obtain ⟨z, hz, rfl⟩ := List.mem_map.1 hy
    exact Lib.itoa_length_le _ (hx z hz).1 (hx z hz).2)
  rw [List.length_map] at h1
  exact Nat.le_trans h1 (Nat.mul_le_mul_left _ (by omega))
def KD.ok (x : KD) : Prop := x.key.ok
theorem toldKey_len (k : KK) (h : k.ok) : (jn [46] [k.id, k.bucket, k.row]).length ≤ 93 :=
  jn3_len [46] (by simp) _ (fun x hx => by
    obtain ⟨h1, h2, h3⟩ := h
    simp at hx
    rcases hx with rfl | rfl | rfl <;> assumption)

set_option maxRecDepth 100000 in
set_option maxHeartbeats 2000000 in
theorem told_any (x : KD) (F : Nat → Prop) (A : Option Addr) (n c : Nat) (w : World) (h : Sl tVV F w A n c x.row) (hk : x.key.ok) (hl : rowLen x.row ≤ 268435456) (ht : Tab w) :
    Calls Tryd.prog 21 #[.agg #[.int .i64 x.key.id, .int .i64 x.key.bucket, .int .i64 x.key.row, .slice A n c]] w fun e w' => e = .returned (.string ⟨(toldOf x).toArray⟩) ∧ Below w.heap.size w w' := by
  have HL := Lib.hid h.len
  have HT := Lib.hid ht; clear ht
  have HK := Lib.hid (toldKey_len x.key hk)
  have hcnt := rowLen_count x.row
  have hn : n ≤ 268435456 := by rw [HL.out]; omega
  have hk2 : x.key.ok := hk
  obtain ⟨h1, h2, h3⟩ := hk
  clear hcnt
  obtain ⟨wb, hwb, hBb, hCb, hSb, hKb⟩ := boxed w [.int .i64 x.key.id, .int .i64 x.key.bucket, .int .i64 x.key.row, .slice A n c] 64
  have k0 : wb.cell? ⟨w.heap.size, 0, none⟩ = some (.int .i64 x.key.id) := hCb 0 _ rfl
  have k1 : wb.cell? ⟨w.heap.size, 1, none⟩ = some (.int .i64 x.key.bucket) := hCb 1 _ rfl
  have k2 : wb.cell? ⟨w.heap.size, 2, none⟩ = some (.int .i64 x.key.row) := hCb 2 _ rfl
  have k3 : wb.cell? ⟨w.heap.size, 3, none⟩ = some (.slice A n c) := hCb 3 _ rfl
  have HS := Lib.hid (hKb h)
  have HBB := Lib.hid hBb
  have hs0 : w.heap.size ≤ wb.heap.size := hBb.size
  clear hCb hSb hKb hBb
  go_enter Tryd.func21, Tryd.ntmps21
  go_upto_region 1 with fail
  rw [← hwb]
  clear hwb
  go_wp2_with (first
    | (go_at_call 22; refine (joined_any [46] (by simp) _ _ _ _ [x.key.id, x.key.bucket, x.key.row] _ (Sl.new3 (T := tI64) ⟨rfl, h1⟩ ⟨rfl, h2⟩ ⟨rfl, h3⟩ 3 _ rfl) (by omega) ((HT.out.below HBB.out).below ((Below.refl _ _).alloc (Nat.le_refl _) _))).mono ?_; rintro e w1 ⟨rfl, hb1⟩; have HB1 : Hid (Below wb.heap.size wb w1) := Lib.hid (((Below.refl _ wb).alloc (Nat.le_refl _) _).trans (hb1.mono (by simp))); have k3' := kcell HB1.out k3; clear hb1)
    | fail)
  obtain ⟨J, hJ⟩ : ∃ J, J = jn [46] [x.key.id, x.key.bucket, x.key.row] := ⟨_, rfl⟩
  have HJ := Lib.hid hJ
  have hJl : J.length ≤ 93 := by rw [hJ]; exact HK.out
  rw [← hJ]
  clear hJ
  go_loopw [3, 20] (fun v i wr => ∃ (k : Nat), k ≤ n ∧ i = .int .i64 k ∧ v = .string ⟨(J ++ cellsOf (x.row.take k)).toArray⟩ ∧ Below wb.heap.size wb wr)
    (fun _ i _ => n - (intOf i).toNat)
  case atStart => exact ⟨0, Nat.zero_le _, rfl, by simp [cellsOf], HB1.out⟩
  case round =>
    obtain ⟨k, hk, rfl, rfl, hb⟩ := hrel
    have HB := Lib.hid hb
    have hsz := hb.size
    obtain ⟨L, hL⟩ : ∃ L, L = J ++ cellsOf (x.row.take k) := ⟨_, rfl⟩
    rw [← hL]
    by_cases hlt : k < n
    · have hkl : k < x.row.length := by rw [← HL.out]; exact hlt
      obtain ⟨b, o, cs, rfl, _, hbl, hrep, hc⟩ := (HS.out.below hb (Nat.le_refl _)).at_ hkl (by decide)
      obtain ⟨v, hf⟩ : ∃ v, v = x.row[k] := ⟨_, rfl⟩
      rw [← hf] at hrep
      have hvl : vlen v ≤ rowLen x.row := by rw [hf]; exact rowLen_get x.row k hkl
      have hvs : v.s.size ≤ 4294967000 := by unfold vlen at hvl; omega
      have hpl : (putValue v).length ≤ 268435456 := by have := putValue_vlen v; omega
      obtain ⟨rfl, hvok⟩ := hrep
      obtain ⟨g0, g1, g2⟩ := cells3 hc
      have hLl : L.length ≤ 805306500 := by
        rw [hL, List.length_append]
        have := cellsOf_len (x.row.take k)
        have := rowLen_take x.row k
        omega
      have hhl := hexOf_len (putValue v)
      have hn1 : ¬ 9223372036854775807 < 1 + (hexOf (putValue v)).length := by omega
      have hn2 : ¬ 9223372036854775807 < L.length + (1 + (hexOf (putValue v)).length) := by omega
      have HF := Lib.hid hf; have HLL := Lib.hid hL; have HOK := Lib.hid hvok
      clear hc hb hf hL hvok hhl
      go_wp2_with (first
        | (go_at_call 43; refine (putValue_any v HOK.out hvs _).mono ?_; rintro e w2 ⟨A8, n8, c8, rfl, hown8, hb8⟩; have HO8 := Lib.hid hown8; have HB8 := Lib.hid hb8; clear hown8 hb8)
        | (go_at_call 17; refine (written_any _ A8 n8 c8 (putValue v) _ HO8.out.bs (by rw [HO8.out.len]; omega)).mono ?_; rintro e w3 ⟨rfl, hb9⟩; have HB9 := Lib.hid hb9; clear hb9)
        | fail)
      go_roundw
      case rel =>
        refine ⟨k + 1, by omega, by go_num, ?_, ?_⟩
        · rw [List.take_succ_eq_append_getElem hkl, cellsOf_snoc, ← HF.out, ← List.append_assoc, ← HLL.out]
          rw [show (⟨#[61]⟩ : ByteArray) = ⟨([61] : List UInt8).toArray⟩ from rfl, ba_append]
          rfl
        · have q : Below wr.heap.size wr w3 := (by have hi := HB8.out; have hj := HB9.out; (repeat (first | exact Below.refl _ _ | assumption | refine bthen ?_ (by assumption) | refine balloc ?_ _ | refine bdrew ?_)))
          exact HB.out.trans (q.mono hsz)
      case measure => simp [intOf]; omega
    · obtain rfl : k = n := by omega
      have hfin : L = toldOf x := by
        rw [hL, show x.row.take k = x.row from List.take_of_length_le (by rw [← HL.out]; exact Nat.le_refl _), HJ.out]; rfl
      have HFIN := Lib.hid hfin
      clear hL hfin hb
      go_wp2_with fail
      go_ret
      exact ⟨by rw [HFIN.out]; rfl, HBB.out.trans (HB.out.mono hs0)⟩
end Go.Proofs.YtojenpjafgfpaaaDoor
