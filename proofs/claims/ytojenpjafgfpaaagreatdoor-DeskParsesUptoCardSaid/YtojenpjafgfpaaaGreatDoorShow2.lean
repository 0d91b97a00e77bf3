/- The layer desk: joined; what Show computes. -/
import Derived.Test.YtojenpjafgfpaaaGreatDoorPrint
import Derived.Test.YtojenpjafgfpaaaGreatDoorShelf
import Derived.Lib.ItoaLen
import Derived.Lib.AppendIntMem
import Derived.Lib.Join
namespace Go.Proofs.YtojenpjafgfpaaaGreatDoor
open Go Go.RowKit
attribute [local go_sem ↓] Go.wp_at_zero Go.wp_at_succ

/-! what they compute -/
def jn (sep : List UInt8) (l : List Int) : List UInt8 := Lib.join (l.map Lib.itoa) sep
def toldOf (x : KD) : List UInt8 := jn [46] [x.key.id, x.key.bucket, x.key.row] ++ (x.row.map fun v => 61 :: hexOf (putValue v)).flatten
def partsA (a : AA) : List (List UInt8) := [jn [32] [a.code, a.n], jn [32] (a.list.high :: a.list.except), Lib.join (a.rows.map toldOf) [32]]
def showA (a : AA) : List UInt8 := Lib.join (partsA a) [124] ++ [10]
def showOf (l : List AA) : List UInt8 := (l.map showA).flatten

/-- The table of powers of ten, which Itoa reads. -/
def Tab (w : World) : Prop := Lib.TabIs Tryz.prog w "internal/strconv.uint64pow10" .u64 Lib.pow10Tab
theorem Tab.below {w w' : World} (h : Tab w) (hb : Below w.heap.size w w') : Tab w' := by
  unfold Tab Lib.TabIs World.var? at *
  cases hg : Tryz.prog.globalNamed "internal/strconv.uint64pow10" with
  | none => simp [hg] at h
  | some g =>
    simp only [hg, Option.bind_some] at h ⊢
    have hlt : g < w.heap.size := by
      rcases Nat.lt_or_ge g w.heap.size with h' | h'
      · exact h'
      · rw [Array.getElem?_eq_none h'] at h; simp at h
    rw [hb.block g hlt]
    exact h
theorem itoa_any (n : Int) (h0 : -9223372036854775808 ≤ n) (h1 : n ≤ 9223372036854775807) (w : World) (ht : Tab w) :
    Calls Tryz.prog 75 #[.int .i64 n] w fun e w' => e = .returned (.string ⟨(Lib.itoa n).toArray⟩) ∧ Below w.heap.size w w' :=
  (Tryz.strconv_Itoa n h0 h1 w ht).mono fun e w' ⟨he, k, os, hw⟩ => ⟨he, by rw [hw]; exact Lib.below_grow _ w (Nat.le_refl _) k os⟩

theorem join_length (sep : List UInt8) (M : Nat) : ∀ l : List (List UInt8), (∀ x ∈ l, x.length ≤ M) → (Lib.join l sep).length ≤ l.length * (M + sep.length)
  | [], _ => by simp [Lib.join_nil]
  | [x], h => by rw [Lib.join_one]; have := h x (by simp); simp; omega
  | x :: y :: r, h => by
    have ih := join_length sep M (y :: r) (fun z hz => h z (by simp [hz]))
    have hx := h x (by simp)
    have e : Lib.join (x :: y :: r) sep = x ++ sep ++ Lib.join (y :: r) sep := by simp [Lib.join, List.intercalate]
    rw [e]
    simp only [List.length_append, List.length_cons] at ih ⊢
    rw [Nat.add_mul (r.length + 1) 1]
    omega
def strs (l : List (List UInt8)) : List ByteArray := l.map fun x => ⟨x.toArray⟩
theorem strs_data (l : List (List UInt8)) : (strs l).map (·.data.toList) = l := by
  unfold strs
  rw [List.map_map]
  exact List.map_id l
theorem elemInt : ElemOf Tryz.prog 24 3 tI64.size := ElemOf.mk' (bytes := 8) (z := .int .i64 0) (by kernel_rfl) (by kernel_rfl) rfl (by decide) (by decide)
theorem elemStr : ElemOf Tryz.prog 100 9 tStr.size := ElemOf.mk' (bytes := 16) (z := .string ⟨#[]⟩) (by kernel_rfl) (by kernel_rfl) rfl (by decide) (by decide)

/-- strings.Join of whatever slice. -/
theorem join_any (F : Nat → Prop) (A : Option Addr) (n c : Nat) (l : List (List UInt8)) (sep : ByteArray) (w : World) (h : Sl tStr F w A n c (strs l)) (hlen : (Lib.join l sep.data.toList).length ≤ 140737488355328) (hn : n ≤ 140737488355328) :
    Calls Tryz.prog 46 #[.slice A n c, .string sep] w fun e w' => e = .returned (.string ⟨(Lib.join l sep.data.toList).toArray⟩) ∧ Below w.heap.size w w' := by
  have hl := h.len
  have hll : (strs l).length = l.length := by simp [strs]
  cases l with
  | nil =>
    obtain rfl : n = 0 := by simpa [strs] using hl
    exact (Tryz.strings_Join_none A c sep w).mono fun e w' ⟨he, hw⟩ => ⟨he, by subst hw; exact Below.refl _ _⟩
  | cons x r =>
    obtain ⟨b, o, u, rfl, _, hbl, _⟩ := h.at1 (k := 0) (by simp [strs]) rfl
    rw [hl]
    refine (Tryz.strings_Join b o c (strs (x :: r)) sep w (fun j y hy => ?_) hbl (by rw [← hl]; exact hn) (by rw [← hl]; exact h.2.1) (by rw [strs_data]; exact hlen)).mono fun e w' ⟨he, hw⟩ => ⟨by rw [he, strs_data], hw⟩
    have hj : j < (strs (x :: r)).length := by
      rcases Nat.lt_or_ge j (strs (x :: r)).length with h' | h'
      · exact h'
      · rw [List.getElem?_eq_none h'] at hy; cases hy
    obtain ⟨b', o', u', e', _, _, hr, hc⟩ := h.at1 hj rfl
    injection e' with e'; injection e' with e1 e2; subst e1 e2
    rw [hc]
    have := hr.1
    injection this with this
    rw [this]
    rw [List.getElem?_eq_getElem hj] at hy
    injection hy with hy
    rw [hy]

set_option maxRecDepth 100000 in
set_option maxHeartbeats 1000000 in
theorem joined_any (sep : List UInt8) (hsep : sep.length ≤ 10) (F : Nat → Prop) (A : Option Addr) (n c : Nat) (xs : List Int) (w : World) (h : Sl tI64 F w A n c xs) (hn : n ≤ 268435457) (ht : Tab w) :
    Calls Tryz.prog 45 #[.string ⟨sep.toArray⟩, .slice A n c] w fun e w' => e = .returned (.string ⟨(jn sep xs).toArray⟩) ∧ Below w.heap.size w w' := by
  have HL := Lib.hid h.len
  have HT := Lib.hid ht; clear ht
  go_enter Tryz.func45, Tryz.ntmps45
  go_wp2
  go_loopw [5, 10] (fun v i wr => ∃ (k : Nat) (A2 : Option Addr) (m c2 : Nat), k ≤ n ∧ i = .int .i64 k ∧ m ≤ k ∧ v = .slice A2 m c2 ∧ OwnF tStr 9 (fun _ => False) wr w.heap.size A2 m c2 (strs ((xs.take k).map Lib.itoa)) ∧ Below w.heap.size w wr)
    (fun _ i _ => n - (intOf i).toNat)
  case atStart => exact ⟨0, none, 0, 0, Nat.zero_le _, rfl, Nat.le_refl _, rfl, OwnF.nil_ _ _ _ _ _, Below.refl _ _⟩
  case round =>
    obtain ⟨k, A2, m, c2, hk, rfl, hmk, rfl, hown, hb⟩ := hrel
    have HB := Lib.hid hb
    have hsz := hb.size
    by_cases hlt : k < n
    · have hkl : k < xs.length := by rw [← HL.out]; exact hlt
      obtain ⟨b, o, u, rfl, _, hbl, hrep, hc⟩ := (h.below hb (Nat.le_refl _)).at1 hkl (by decide)
      obtain ⟨x, hf⟩ : ∃ v, v = xs[k] := ⟨_, rfl⟩
      rw [← hf] at hrep
      obtain ⟨hu, hx0, hx1⟩ := hrep
      obtain rfl : u = .int .i64 x := by simpa using hu
      clear hu
      have HF := Lib.hid hf; have HO := Lib.hid hown; clear hf hown hb
      have HIL := Lib.hid (Lib.itoa_length_le x hx0 hx1)
      go_wp2_with (first
        | (go_at_call 75; refine (itoa_any x hx0 hx1 _ (HT.out.below HB.out)).mono ?_; rintro e w1 ⟨rfl, hb1⟩; have HB1 := Lib.hid hb1; have hs1 := hb1.size; clear hb1)
        | (at_builtin; refine apl1 (T := tStr) elemStr w1 w rfl (.tmp 14) (.tmp 17) rfl w.heap.size A2 m c2 _ rfl (fun _ => False) (fun _ => False) (HO.out.keepB HB1.out) (HB.out.trans (HB1.out.mono hsz)) (Nat.le_refl _) _ rfl [.string ⟨(Lib.itoa x).toArray⟩] ⟨(Lib.itoa x).toArray⟩ ⟨rfl, by show (Lib.itoa x).toArray.size ≤ maxLen; have := HIL.out; simp only [List.size_toArray, maxLen]; omega⟩ 9 rfl (fun _ _ _ _ h => h) (by omega) ?_; intro A5 c5 w5 h5)
        | fail)
      go_roundw
      case rel =>
        have e1 : strs ((xs.take (k + 1)).map Lib.itoa) = strs ((xs.take k).map Lib.itoa) ++ [⟨(Lib.itoa x).toArray⟩] := by
          rw [List.take_succ_eq_append_getElem hkl, ← HF.out]; simp [strs]
        exact ⟨k + 1, A5, m + 1, c5, by omega, by go_num, by omega, rfl, by rw [e1]; exact h5.own.flat flatStr, h5.below⟩
      case measure => simp [intOf]; omega
    · obtain rfl : k = n := by omega
      rw [show xs.take k = xs from List.take_of_length_le (by rw [← HL.out]; exact Nat.le_refl _)] at hown
      have HS := Lib.hid hown.sl
      have HJ : Hid ((Lib.join (xs.map Lib.itoa) sep).length ≤ 140737488355328) := by
        have h1 := join_length sep 21 (xs.map Lib.itoa) (fun y hy => by
          obtain ⟨z, hz, rfl⟩ := List.mem_map.1 hy
          obtain ⟨i, hi, rfl⟩ := List.getElem_of_mem hz
          obtain ⟨_, _, u, _, _, _, hrep, _⟩ := h.at1 hi (by decide)
          exact Lib.itoa_length_le _ hrep.2.1 hrep.2.2)
        rw [List.length_map, ← HL.out] at h1
        refine Nat.le_trans h1 (Nat.le_trans (Nat.mul_le_mul_left k (show 21 + sep.length ≤ 31 by omega)) (by omega))
      clear hown hb
      go_wp2_with (go_at_call 46; refine (join_any _ _ _ _ (xs.map Lib.itoa) ⟨sep.toArray⟩ _ HS.out HJ.out (by omega)).mono ?_; rintro e w2 ⟨rfl, hb2⟩)
      go_ret
      exact ⟨rfl, HB.out.trans (hb2.mono hsz)⟩
end Go.Proofs.YtojenpjafgfpaaaGreatDoor
/- The layer desk: told. -/
namespace Go.Proofs.YtojenpjafgfpaaaGreatDoor
open Go Go.RowKit
attribute [local go_sem ↓] Go.wp_at_zero Go.wp_at_succ

theorem ba_append (a b : List UInt8) : ((⟨a.toArray⟩ : ByteArray) ++ ⟨b.toArray⟩) = ⟨(a ++ b).toArray⟩ := by
  apply ByteArray.ext
  rw [ByteArray.data_append]
  simp
def cellsOf (l : List VV) : List UInt8 := (l.map fun v => 61 :: hexOf (putValue v)).flatten
theorem cellsOf_snoc (l : List VV) (v : VV) : cellsOf (l ++ [v]) = cellsOf l ++ (61 :: hexOf (putValue v)) := by simp [cellsOf]
theorem putValue_vlen (v : VV) : (putValue v).length ≤ vlen v := by
  have h := dput_len (putValueF v)
  have : wlen (putValueF v) ≤ vlen v := by
    have : v.s.data.toList.length = v.s.size := by rw [Array.length_toList]; rfl
    simp only [putValueF, wlen, fnum, ftxt, vlen, List.length_nil]; omega
  unfold putValue; omega
theorem cellsOf_len : ∀ l : List VV, (cellsOf l).length + 200 ≤ 3 * rowLen l
  | [] => by simp [cellsOf, rowLen]
  | v :: r => by
    have ih := cellsOf_len r
    have h1 := putValue_vlen v
    have h2 : cellsOf (v :: r) = (61 :: hexOf (putValue v)) ++ cellsOf r := rfl
    rw [h2]
    simp only [List.length_append, List.length_cons, hexOf_len, rowLen]
    have : 100 ≤ vlen v := by unfold vlen; omega
    omega
theorem rowLen_take (l : List VV) (k : Nat) : rowLen (l.take k) ≤ rowLen l := by
  induction l generalizing k with
  | nil => simp
  | cons v r ih =>
    cases k with
    | zero => simp [rowLen]; have := rowLen_pos r; omega
    | succ k => simp only [List.take_succ_cons, rowLen]; have := ih k; omega
theorem jn3_len (sep : List UInt8) (hs : sep.length ≤ 10) (xs : List Int) (hx : ∀ x ∈ xs, i64 x) : (jn sep xs).length ≤ xs.length * 31 := by
  have h1 := join_length sep 21 (xs.map Lib.itoa) (fun y hy => by
    obtain ⟨z, hz, rfl⟩ := List.mem_map.1 hy
    exact Lib.itoa_length_le _ (hx z hz).1 (hx z hz).2)
  rw [List.length_map] at h1
  exact Nat.le_trans h1 (Nat.mul_le_mul_left _ (by omega))
def KD.ok (x : KD) : Prop := x.key.ok
theorem toldKey_len (k : KK) (h : k.ok) : (jn [46] [k.id, k.bucket, k.row]).length ≤ 93 :=
  jn3_len [46] (by simp) _ (fun x hx => by
    obtain ⟨h1, h2, h3⟩ := h
    simp at hx
    rcases hx with rfl | rfl | rfl <;> assumption)

set_option maxRecDepth 100000 in
set_option maxHeartbeats 2000000 in
theorem told_any (x : KD) (F : Nat → Prop) (A : Option Addr) (n c : Nat) (w : World) (h : Sl tVV F w A n c x.row) (hk : x.key.ok) (hl : rowLen x.row ≤ 268435456) (ht : Tab w) :
    Calls Tryz.prog 44 #[.agg #[.int .i64 x.key.id, .int .i64 x.key.bucket, .int .i64 x.key.row, .slice A n c]] w fun e w' => e = .returned (.string ⟨(toldOf x).toArray⟩) ∧ Below w.heap.size w w' := by
  have HL := Lib.hid h.len
  have HT := Lib.hid ht; clear ht
  have HK := Lib.hid (toldKey_len x.key hk)
  have hcnt := rowLen_count x.row
  have hn : n ≤ 268435456 := by rw [HL.out]; omega
  have hk2 : x.key.ok := hk
  obtain ⟨h1, h2, h3⟩ := hk
  clear hcnt
  obtain ⟨wb, hwb, hBb, hCb, hSb, hKb⟩ := boxed w [.int .i64 x.key.id, .int .i64 x.key.bucket, .int .i64 x.key.row, .slice A n c] 102
  have k0 : wb.cell? ⟨w.heap.size, 0, none⟩ = some (.int .i64 x.key.id) := hCb 0 _ rfl
  have k1 : wb.cell? ⟨w.heap.size, 1, none⟩ = some (.int .i64 x.key.bucket) := hCb 1 _ rfl
  have k2 : wb.cell? ⟨w.heap.size, 2, none⟩ = some (.int .i64 x.key.row) := hCb 2 _ rfl
  have k3 : wb.cell? ⟨w.heap.size, 3, none⟩ = some (.slice A n c) := hCb 3 _ rfl
  have HS := Lib.hid (hKb h)
  have HBB := Lib.hid hBb
  have hs0 : w.heap.size ≤ wb.heap.size := hBb.size
  clear hCb hSb hKb hBb
  go_enter Tryz.func44, Tryz.ntmps44
  go_upto_region 1 with fail
  rw [← hwb]
  clear hwb
  go_wp2_with (first
    | (go_at_call 45; refine (joined_any [46] (by simp) _ _ _ _ [x.key.id, x.key.bucket, x.key.row] _ (Sl.new3 (T := tI64) ⟨rfl, h1⟩ ⟨rfl, h2⟩ ⟨rfl, h3⟩ 3 _ rfl) (by omega) ((HT.out.below HBB.out).below ((Below.refl _ _).alloc (Nat.le_refl _) _))).mono ?_; rintro e w1 ⟨rfl, hb1⟩; have HB1 : Hid (Below wb.heap.size wb w1) := Lib.hid (((Below.refl _ wb).alloc (Nat.le_refl _) _).trans (hb1.mono (by simp))); have k3' := kcell HB1.out k3; clear hb1)
    | fail)
  obtain ⟨J, hJ⟩ : ∃ J, J = jn [46] [x.key.id, x.key.bucket, x.key.row] := ⟨_, rfl⟩
  have HJ := Lib.hid hJ
  have hJl : J.length ≤ 93 := by rw [hJ]; exact HK.out
  rw [← hJ]
  clear hJ
  go_loopw [3, 20] (fun v i wr => ∃ (k : Nat), k ≤ n ∧ i = .int .i64 k ∧ v = .string ⟨(J ++ cellsOf (x.row.take k)).toArray⟩ ∧ Below wb.heap.size wb wr)
    (fun _ i _ => n - (intOf i).toNat)
  case atStart => exact ⟨0, Nat.zero_le _, rfl, by simp [cellsOf], HB1.out⟩
  case round =>
    obtain ⟨k, hk, rfl, rfl, hb⟩ := hrel
    have HB := Lib.hid hb
    have hsz := hb.size
    obtain ⟨L, hL⟩ : ∃ L, L = J ++ cellsOf (x.row.take k) := ⟨_, rfl⟩
    rw [← hL]
    by_cases hlt : k < n
    · have hkl : k < x.row.length := by rw [← HL.out]; exact hlt
      obtain ⟨b, o, cs, rfl, _, hbl, hrep, hc⟩ := (HS.out.below hb (Nat.le_refl _)).at_ hkl (by decide)
      obtain ⟨v, hf⟩ : ∃ v, v = x.row[k] := ⟨_, rfl⟩
      rw [← hf] at hrep
      have hvl : vlen v ≤ rowLen x.row := by rw [hf]; exact rowLen_get x.row k hkl
      have hvs : v.s.size ≤ 4294967000 := by unfold vlen at hvl; omega
      have hpl : (putValue v).length ≤ 268435456 := by have := putValue_vlen v; omega
      obtain ⟨rfl, hvok⟩ := hrep
      obtain ⟨g0, g1, g2⟩ := cells3 hc
      have hLl : L.length ≤ 805306500 := by
        rw [hL, List.length_append]
        have := cellsOf_len (x.row.take k)
        have := rowLen_take x.row k
        omega
      have hhl := hexOf_len (putValue v)
      have hn1 : ¬ 9223372036854775807 < 1 + (hexOf (putValue v)).length := by omega
      have hn2 : ¬ 9223372036854775807 < L.length + (1 + (hexOf (putValue v)).length) := by omega
      have HF := Lib.hid hf; have HLL := Lib.hid hL; have HOK := Lib.hid hvok
      clear hc hb hf hL hvok hhl
      go_wp2_with (first
        | (go_at_call 59; refine (putValue_any v HOK.out hvs _).mono ?_; rintro e w2 ⟨A8, n8, c8, rfl, hown8, hb8⟩; have HO8 := Lib.hid hown8; have HB8 := Lib.hid hb8; clear hown8 hb8)
        | (go_at_call 42; refine (written_any _ A8 n8 c8 (putValue v) _ HO8.out.bs (by rw [HO8.out.len]; omega)).mono ?_; rintro e w3 ⟨rfl, hb9⟩; have HB9 := Lib.hid hb9; clear hb9)
        | fail)
      go_roundw
      case rel =>
        refine ⟨k + 1, by omega, by go_num, ?_, ?_⟩
        · rw [List.take_succ_eq_append_getElem hkl, cellsOf_snoc, ← HF.out, ← List.append_assoc, ← HLL.out]
          rw [show (⟨#[61]⟩ : ByteArray) = ⟨([61] : List UInt8).toArray⟩ from rfl, ba_append]
          rfl
        · have q : Below wr.heap.size wr w3 := (by have hi := HB8.out; have hj := HB9.out; (repeat (first | exact Below.refl _ _ | assumption | refine bthen ?_ (by assumption) | refine balloc ?_ _ | refine bdrew ?_)))
          exact HB.out.trans (q.mono hsz)
      case measure => simp [intOf]; omega
    · obtain rfl : k = n := by omega
      have hfin : L = toldOf x := by
        rw [hL, show x.row.take k = x.row from List.take_of_length_le (by rw [← HL.out]; exact Nat.le_refl _), HJ.out]; rfl
      have HFIN := Lib.hid hfin
      clear hL hfin hb
      go_wp2_with fail
      go_ret
      exact ⟨by rw [HFIN.out]; rfl, HBB.out.trans (HB.out.mono hs0)⟩
end Go.Proofs.YtojenpjafgfpaaaGreatDoor
/- The layer desk: Show. -/
namespace Go.Proofs.YtojenpjafgfpaaaGreatDoor
open Go Go.RowKit
attribute [local go_sem ↓] Go.wp_at_zero Go.wp_at_succ

def keyedW (x : KD) : Nat := 3 * rowLen x.row + 200
def keyedsW : List KD → Nat
  | [] => 0
  | x :: r => keyedW x + keyedsW r
def ansW (a : AA) : Nat := keyedsW a.rows + 40 * a.list.except.length + 400
def answersW : List AA → Nat
  | [] => 0
  | a :: r => ansW a + answersW r
theorem keyedsW_get : ∀ (l : List KD) (k : Nat) (h : k < l.length), keyedW (l[k]'h) ≤ keyedsW l
  | v :: r, 0, _ => by simp only [keyedsW, List.getElem_cons_zero]; omega
  | v :: r, k + 1, h => by have := keyedsW_get r k (by simpa using h); simp only [keyedsW, List.getElem_cons_succ]; omega
theorem answersW_get : ∀ (l : List AA) (k : Nat) (h : k < l.length), ansW (l[k]'h) ≤ answersW l
  | v :: r, 0, _ => by simp only [answersW, List.getElem_cons_zero]; omega
  | v :: r, k + 1, h => by have := answersW_get r k (by simpa using h); simp only [answersW, List.getElem_cons_succ]; omega
theorem keyedsW_count : ∀ l : List KD, l.length ≤ keyedsW l
  | [] => by simp
  | v :: r => by have := keyedsW_count r; simp only [keyedsW, keyedW, List.length_cons]; omega
def lens (e : Nat) : List (List UInt8) → Nat
  | [] => 0
  | x :: r => x.length + e + lens e r
theorem join_sum (sep : List UInt8) : ∀ l : List (List UInt8), (Lib.join l sep).length ≤ lens sep.length l
  | [] => by simp [Lib.join_nil]
  | [x] => by rw [Lib.join_one]; simp [lens]
  | x :: y :: r => by
    have ih := join_sum sep (y :: r)
    have e : Lib.join (x :: y :: r) sep = x ++ sep ++ Lib.join (y :: r) sep := by simp [Lib.join, List.intercalate]
    rw [e]
    simp only [lens, List.length_append] at ih ⊢
    omega
theorem toldOf_len (x : KD) (h : x.key.ok) : (toldOf x).length ≤ keyedW x - 100 := by
  have h1 := toldKey_len x.key h
  have h2 := cellsOf_len x.row
  have h3 : toldOf x = jn [46] [x.key.id, x.key.bucket, x.key.row] ++ cellsOf x.row := rfl
  rw [h3, List.length_append]
  unfold keyedW; omega
theorem tolds_len : ∀ l : List KD, (∀ x ∈ l, x.key.ok) → lens 1 (l.map toldOf) ≤ keyedsW l
  | [], _ => by simp [lens]
  | x :: r, h => by
    have ih := tolds_len r (fun y hy => h y (by simp [hy]))
    have h1 := toldOf_len x (h x (by simp))
    have : 200 ≤ keyedW x := by unfold keyedW; omega
    simp only [List.map_cons, lens, keyedsW]; omega
def AA.oks (a : AA) : Prop := i64 a.code ∧ i64 a.n ∧ i64 a.list.high ∧ (∀ x ∈ a.list.except, i64 x) ∧ (∀ x ∈ a.rows, x.key.ok)
theorem parts_len (a : AA) (h : a.oks) : (jn [32] [a.code, a.n]).length ≤ 62 ∧ (jn [32] (a.list.high :: a.list.except)).length ≤ 31 + 31 * a.list.except.length ∧ (Lib.join (a.rows.map toldOf) [32]).length ≤ keyedsW a.rows := by
  obtain ⟨h1, h2, h3, h4, h5⟩ := h
  refine ⟨jn3_len [32] (by simp) [a.code, a.n] (fun x hx => by simp at hx; rcases hx with rfl | rfl <;> assumption), ?_, Nat.le_trans (join_sum [32] _) (tolds_len _ h5)⟩
  have := jn3_len [32] (by simp) (a.list.high :: a.list.except) (fun x hx => by rcases List.mem_cons.1 hx with rfl | hx; exact h3; exact h4 x hx)
  simp only [List.length_cons] at this
  omega
theorem partsA_len (a : AA) (h : a.oks) : (Lib.join (partsA a) [124]).length ≤ ansW a - 1 := by
  have h1 := parts_len a h
  have h2 := join_sum [124] (partsA a)
  unfold partsA at *
  simp only [lens, List.length_cons, List.length_nil] at h2
  unfold ansW
  omega
theorem showA_len (a : AA) (h : a.oks) : (showA a).length ≤ ansW a := by
  have := partsA_len a h
  unfold showA
  rw [List.length_append]
  have : 1 ≤ ansW a := by unfold ansW; omega
  simp; omega
theorem showOf_snoc (l : List AA) (a : AA) : showOf (l ++ [a]) = showOf l ++ showA a := by simp [showOf]
theorem showOf_len : ∀ l : List AA, (∀ a ∈ l, a.oks) → (showOf l).length ≤ answersW l
  | [], _ => by simp [showOf]
  | a :: r, h => by
    have ih := showOf_len r (fun b hb => h b (by simp [hb]))
    have h1 := showA_len a (h a (by simp))
    have e : showOf (a :: r) = showA a ++ showOf r := rfl
    rw [e, List.length_append]
    simp only [answersW]; omega
theorem answersW_take (l : List AA) (k : Nat) : answersW (l.take k) ≤ answersW l := by
  induction l generalizing k with
  | nil => simp
  | cons v r ih =>
    cases k with
    | zero => simp [answersW]
    | succ k => simp only [List.take_succ_cons, answersW]; have := ih k; omega
/-- What is read is as it should be. -/
theorem sl_mem {α : Type} {T : Ty α} {F : Nat → Prop} {w : World} {A : Option Addr} {n c : Nat} {xs : List α} (h : Sl T F w A n c xs) (hs : 0 < T.size) {x : α} (hx : x ∈ xs) : ∃ cs, T.rep F w cs x := by
  obtain ⟨i, hi, rfl⟩ := List.getElem_of_mem hx
  obtain ⟨_, _, cs, _, _, _, hr, _⟩ := h.at_ hi hs
  exact ⟨cs, hr⟩
theorem aa_oks {F : Nat → Prop} {w : World} {cs : List Value} {a : AA} (h : tAA.rep F w cs a) : a.oks := by
  obtain ⟨A1, n1, c1, A2, n2, c2, _, h1, h2, h3, h4, h5⟩ := h
  refine ⟨h1, h2, h3, fun x hx => ?_, fun x hx => ?_⟩
  · obtain ⟨_, hr⟩ := sl_mem h5 (by decide) hx; exact hr.2
  · obtain ⟨_, _, _, _, _, hk, _⟩ := sl_mem h4 (by decide) hx; exact hk
/-- The operation that stands is an append of these two: for an arm to fail fast elsewhere. -/
theorem at_app {P : Program} {ops : Array Oper} {o : Oper} {a : Act} {w : World} {Q : Exit → Act → World → Prop} {K : Act → World → Prop} {E' : Prop} (s x : Operand) (t : TypeId) (_ : o.op = .call { callee := .builtin .append, args := #[s, x], argTypes := #[t, t] })
    (h : if Region.wanted o (yielded ops a.tmps) = true then Oper.wp P o a w K Q else E') : if Region.wanted o (yielded ops a.tmps) = true then Oper.wp P o a w K Q else E' := h
/-- A list of one number, of two, laid into a block of its own. -/
theorem lit1 (X : World) (x : Int) (hx : i64 x) (p : Nat) (hp : p = X.heap.size) : OwnF tI64 3 (fun _ => False) (X.alloc (.cells #[.int .i64 x] 3)) 0 (some ⟨p, 0, none⟩) 1 1 [x] := by
  subst hp
  exact (OwnF.newL (T := tI64) (F := fun _ => True) (w := X) (e := 3) (n := 1) (Reps.mk1 ⟨rfl, hx⟩) (Nat.zero_le _) rfl (by omega) (.cells #[.int .i64 x] 3) rfl).flat flatI64
theorem lit2 (X : World) (x y : Int) (hx : i64 x) (hy : i64 y) (p : Nat) (hp : p = X.heap.size) : Sl tI64 (fun b => b = p) (X.alloc (.cells #[.int .i64 x, .int .i64 y] 3)) (some ⟨p, 0, none⟩) 2 2 [x, y] := by
  subst hp
  exact (Sl.news (T := tI64) (F := fun _ => False) (w := X) (Reps.mk2 ⟨rfl, hx⟩ ⟨rfl, hy⟩) 3 2 rfl (by omega) (.cells #[.int .i64 x, .int .i64 y] 3) rfl).weaken fun b hb _ => by
    rcases hb with hb | hb
    · exact hb.1.elim
    · exact hb
end Go.Proofs.YtojenpjafgfpaaaGreatDoor
