/- The layer desk: written, Print. -/
import Derived.Test.YtojenpjafgfpaaaDoorDesk3
import Derived.Test.YtojenpjafgfpaaaDoorBuild
namespace Go.Proofs.YtojenpjafgfpaaaDoor
open Go Go.RowKit

def digitsB : ByteArray := ⟨#[48, 49, 50, 51, 52, 53, 54, 55, 56, 57, 97, 98, 99, 100, 101, 102]⟩

theorem hexOf_len : ∀ l : List UInt8, (hexOf l).length = 2 * l.length
  | [] => rfl
  | c :: r => by have := hexOf_len r; simp only [hexOf, List.length_cons]; omega
theorem hexOf_append : ∀ a b : List UInt8, hexOf (a ++ b) = hexOf a ++ hexOf b
  | [], b => rfl
  | c :: r, b => by simp [hexOf, hexOf_append r b]

theorem dig_get (i : Nat) (h : i < (⟨#[48, 49, 50, 51, 52, 53, 54, 55, 56, 57, 97, 98, 99, 100, 101, 102]⟩ : ByteArray).size) : (⟨#[48, 49, 50, 51, 52, 53, 54, 55, 56, 57, 97, 98, 99, 100, 101, 102]⟩ : ByteArray)[i]'h = hexD i := by
  have h2 : i < 16 := h
  have : ∀ j : Fin 16, (⟨#[48, 49, 50, 51, 52, 53, 54, 55, 56, 57, 97, 98, 99, 100, 101, 102]⟩ : ByteArray)[j.val]'(j.isLt) = hexD j.val := by decide
  exact this ⟨i, h2⟩
theorem u8_and15 (b : Nat) (h : b < 256) : bits BinOp.and IntKind.u8 (b : Int) 15 = ((b % 16 : Nat) : Int) := by
  rw [show (15 : Int) = ((15 : Nat) : Int) from rfl, u8_and_nat _ _ h (by omega)]
  congr 1
  exact (by decide +kernel : ∀ b : Fin 256, b.val &&& 15 = b.val % 16) ⟨b, h⟩
theorem writeByte_int (B b : Nat) (l : List UInt8) (c : UInt8) (v : Int) (hv : v = (c.toNat : Int)) (w : World) (h : Bld B b l w) (hlen : l.length ≤ 34359738368) (hBw : B ≤ w.heap.size) :
    Calls Tryd.prog 38 #[.pointer (some ⟨b, 0, none⟩), .int .u8 v] w fun e w' => e = .returned .nilIface ∧ BldU B b (l ++ [c]) w' ∧ Below B w w' := by subst hv; exact writeByte_any B b l c w h hlen hBw

set_option maxRecDepth 100000 in
set_option maxHeartbeats 1000000 in
theorem written_any (F : Nat → Prop) (A : Option Addr) (n c : Nat) (l : List UInt8) (w : World) (h : Bs F w A n c l) (hn : n ≤ 8589934592) :
    Calls Tryd.prog 17 #[.slice A n c] w fun e w' => e = .returned (.string ⟨(hexOf l).toArray⟩) ∧ Below w.heap.size w w' := by
  have HL := Lib.hid h.len
  go_enter Tryd.func17, Tryd.ntmps17
  go_wp2
  go_loopw [8] (fun i wr => ∃ (k : Nat), k ≤ n ∧ i = .int .i64 k ∧ Bld w.heap.size w.heap.size (hexOf (l.take k)) wr ∧ Below w.heap.size w wr)
    (fun i _ => n - (intOf i).toNat)
  case atStart => exact ⟨0, Nat.zero_le _, rfl, Bld.fresh w, (Below.refl _ _).alloc (Nat.le_refl _) _⟩
  case round =>
    obtain ⟨k, hk, rfl, hB, hb⟩ := hrel
    by_cases hlt : k < n
    · have hkl : k < l.length := by rw [← HL.out]; exact hlt
      obtain ⟨b, o, u, rfl, _, hbl, hrep, hc⟩ := (h.below hb (Nat.le_refl _)).at1 hkl (by decide)
      obtain ⟨x, hf⟩ : ∃ v, v = l[k] := ⟨_, rfl⟩
      rw [← hf] at hrep
      obtain rfl : u = .int .u8 (x.toNat : Int) := by simpa [tU8] using hrep
      clear hrep
      have HF := Lib.hid hf; have HB := Lib.hid hB; clear hf hB
      have hsz := hb.size
      have hx : x.toNat < 256 := x.toNat_lt
      have hq : 0 ≤ (x.toNat : Int) / 16 ∧ (x.toNat : Int) / 16 < 16 := by omega
      have hand := u8_and15 x.toNat hx
      have hq2 : 0 ≤ (x.toNat : Int) % 16 ∧ (x.toNat : Int) % 16 < 16 := by omega
      have hlen : (hexOf (l.take k)).length ≤ 17179869184 := by rw [hexOf_len, List.length_take]; omega
      go_wp2_with (first
        | (go_at_call 38; refine (writeByte_int w.heap.size w.heap.size (hexOf (l.take k)) (hexD (x.toNat / 16)) _ (by rw [dig_get]) _ HB.out (by omega) hsz).mono ?_; rintro e w1 ⟨rfl, h1, hb1⟩; have HB1 := Lib.hid h1.bld; have HS1 := Lib.hid hb1.size; clear h1)
        | (go_at_call 38; refine (writeByte_int w.heap.size w.heap.size (hexOf (l.take k) ++ [hexD (x.toNat / 16)]) (hexD (x.toNat % 16)) _ (by rw [dig_get]) _ HB1.out (by simp; omega) (Nat.le_trans hsz HS1.out)).mono ?_; rintro e w2 ⟨rfl, h2, hb2⟩))
      go_roundw
      case rel =>
        have e1 : hexOf (l.take (k + 1)) = hexOf (l.take k) ++ [hexD (x.toNat / 16)] ++ [hexD (x.toNat % 16)] := by
          rw [List.take_succ_eq_append_getElem hkl, hexOf_append, ← HF.out]; simp [hexOf]
        exact ⟨k + 1, by omega, by go_num, by rw [e1]; exact h2.bld, (hb.trans hb1).trans hb2⟩
      case measure => simp [intOf]; omega
    · obtain rfl : k = n := by omega
      rw [show l.take k = l from List.take_of_length_le (by rw [← HL.out]; exact Nat.le_refl _)] at hB
      have hsz := hb.size
      go_wp2_with (go_at_call 18; refine (bldString_any w.heap.size w.heap.size (hexOf l) _ hB hsz).mono ?_; rintro e w2 ⟨rfl, hb2⟩)
      go_ret
      exact ⟨rfl, hb.trans hb2⟩

def evsLen : List EE → Nat
  | [] => 0
  | e :: r => evLen e + 100 + evsLen r
theorem evsLen_get : ∀ (l : List EE) (k : Nat) (h : k < l.length), evLen (l[k]'h) ≤ evsLen l
  | v :: r, 0, _ => by simp only [evsLen, List.getElem_cons_zero]; omega
  | v :: r, k + 1, h => by have := evsLen_get r k (by simpa using h); simp only [evsLen, List.getElem_cons_succ]; omega
theorem size_hex (x : List UInt8) : ((⟨x.toArray⟩ : ByteArray) ++ ⟨#[10]⟩).size = x.length + 1 := by
  rw [ByteArray.size_append]; rfl
theorem data_hex (x : List UInt8) : ((⟨x.toArray⟩ : ByteArray) ++ ⟨#[10]⟩).data.toList = x ++ [10] := by
  rw [ByteArray.data_append]; simp
def lineP (e : EE) : List UInt8 := hexOf (putEvent e) ++ [10]
theorem printOf_flat (l : List EE) : printOf l = (l.map lineP).flatten := rfl
theorem lineP_len (e : EE) : (lineP e).length ≤ 2 * evLen e + 1 := by
  have := putEvent_len e
  simp only [lineP, List.length_append, hexOf_len, List.length_cons, List.length_nil]; omega
theorem printOf_len : ∀ (l : List EE), (printOf l).length ≤ 2 * evsLen l
  | [] => by simp [printOf]
  | e :: r => by
    have h := printOf_len r
    have := lineP_len e
    rw [printOf_flat] at *
    simp only [List.map_cons, List.flatten_cons, List.length_append, evsLen] at *; omega
theorem printOf_snoc (l : List EE) (e : EE) : printOf (l ++ [e]) = printOf l ++ lineP e := by simp [printOf_flat]
theorem printOf_take (l : List EE) (k : Nat) : (printOf (l.take k)).length ≤ (printOf l).length := by
  conv => rhs; rw [← List.take_append_drop k l]
  simp only [printOf_flat, List.map_append, List.flatten_append, List.length_append]; omega

set_option maxRecDepth 100000 in
set_option maxHeartbeats 4000000 in
theorem print_any (F : Nat → Prop) (A : Option Addr) (n c : Nat) (l : List EE) (w : World) (h : Sl tEE F w A n c l) (hn : n ≤ 2048) (hl : evsLen l ≤ 2147483000) :
    Calls Tryd.prog 8 #[.slice A n c] w fun e w' => e = .returned (.tuple #[.string ⟨(printOf l).toArray⟩, .int .i64 0]) ∧ Below w.heap.size w w' := by
  have HL := Lib.hid h.len
  go_enter Tryd.func8, Tryd.ntmps8
  go_wp2
  go_loopw [12] (fun i wr => ∃ (k : Nat), k ≤ n ∧ i = .int .i64 k ∧ Bld w.heap.size w.heap.size (printOf (l.take k)) wr ∧ Below w.heap.size w wr)
    (fun i _ => n - (intOf i).toNat)
  case atStart => exact ⟨0, Nat.zero_le _, rfl, Bld.fresh w, (Below.refl _ _).alloc (Nat.le_refl _) _⟩
  case round =>
    obtain ⟨k, hk, rfl, hB, hb⟩ := hrel
    by_cases hlt : k < n
    · have hkl : k < l.length := by rw [← HL.out]; exact hlt
      obtain ⟨b, o, cs, rfl, _, hbl, hrep, hc⟩ := (h.below hb (Nat.le_refl _)).at_ hkl (by decide)
      obtain ⟨x, hf⟩ : ∃ v, v = l[k] := ⟨_, rfl⟩
      rw [← hf] at hrep
      have hev := evsLen_get l k hkl
      rw [← hf] at hev
      have hrep0 := hrep
      obtain ⟨A1, n1, c1, A2, n2, c2, A3, n3, c3, A4, n4, c4, A5, n5, c5, rfl, hrep⟩ := hrep
      clear hrep
      have HREP := Lib.hid (tEE.alloc hrep0 (.cells #[.int .i64 x.kind, .int .i64 x.id, .int .i64 x.n, .int .i64 x.m, .slice A1 n1 c1, .slice A2 n2 c2, .int .i64 x.list.high, .slice A3 n3 c3, .slice A4 n4 c4, .slice A5 n5 c5] 44)); clear hrep0
      have hcs := cells10 hc
      obtain ⟨g0, g1, g2, g3, g4, g5, g6, g7, g8, g9⟩ := hcs
      clear hc
      have HF := Lib.hid hf; have HB := Lib.hid hB; clear hf hB
      have hsz := hb.size
      have hlen : (printOf (l.take k)).length ≤ 4294967000 := by have := printOf_take l k; have := printOf_len l; omega
      have hput := putEvent_len x
      have hhl := hexOf_len (putEvent x)
      have hnov : ¬ 9223372036854775807 < (hexOf (putEvent x)).length + 1 := by omega
      have HHL := Lib.hid hhl; clear hhl
      go_wp2_with (first
        | (go_at_call 14; refine (putEvent_any x F _ _ HREP.out (by omega)).mono ?_; rintro e w1 ⟨A6, n6, c6, rfl, h1, hb1⟩; have H1 := Lib.hid h1; have HN := Lib.hid h1.len; have HB1 := Lib.hid hb1; clear h1 hb1)
        | (go_at_call 17; refine (written_any _ A6 n6 c6 (putEvent x) _ H1.out.bs (by rw [HN.out]; omega)).mono ?_; rintro e w2 ⟨rfl, hb2⟩; have HB2 := Lib.hid hb2; clear hb2)
        | (go_at_call 16; refine (writeString_any w.heap.size w.heap.size (printOf (l.take k)) _ _ (HB.out.below (by have hh := HB1.out; have hi := HB2.out; (repeat (first | exact Below.refl _ _ | assumption | refine bthen ?_ (by assumption) | refine balloc ?_ _ | refine bdrew ?_)))) (by rw [size_hex]; have := HHL.out; omega) (by have q1 := HB1.out.size; have q2 := HB2.out.size; simp at q1; omega)).mono ?_; rintro e w3 ⟨rfl, h3, hb3⟩))
      go_roundw
      case rel =>
        have e1 : printOf (l.take (k + 1)) = printOf (l.take k) ++ (hexOf (putEvent x) ++ [10]) := by
          rw [List.take_succ_eq_append_getElem hkl, printOf_snoc, ← HF.out]; rfl
        refine ⟨k + 1, by omega, by go_num, ?_, ?_⟩
        · rw [e1]; have := h3.bld; rw [data_hex] at this; exact this
        · have q : Below wr.heap.size wr w2 := (by have hh := HB1.out; have hi := HB2.out; (repeat (first | exact Below.refl _ _ | assumption | refine bthen ?_ (by assumption) | refine balloc ?_ _ | refine bdrew ?_)))
          exact (hb.trans (q.mono hsz)).trans hb3
      case measure => simp [intOf]; omega
    · obtain rfl : k = n := by omega
      rw [show l.take k = l from List.take_of_length_le (by rw [← HL.out]; exact Nat.le_refl _)] at hB
      have hsz := hb.size
      go_wp2_with (go_at_call 18; refine (bldString_any w.heap.size w.heap.size (printOf l) _ hB hsz).mono ?_; rintro e w2 ⟨rfl, hb2⟩)
      go_ret2
      exact ⟨rfl, hb.trans hb2⟩
end Go.Proofs.YtojenpjafgfpaaaDoor
