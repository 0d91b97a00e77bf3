/- strings.Builder: copyCheck, WriteByte, WriteString at this program (the shelf's contracts of these three do not lie at this program: its copyCheck has another body); String by the shelf's contract. -/
import Derived.Test.YtojenpjafgfpaaaGreatDoorBase
import Derived.Test.YtojenpjafgfpaaaGreatDoorShelf
import Derived.Test.YtojenpjafgfpaaaGreatDoorDesk3
namespace Go.Proofs.YtojenpjafgfpaaaGreatDoor
open Go Go.RowKit

/-- A strings.Builder in block b, made by the call (from block B on), that holds bytes. -/
def Bld (B b : Nat) (l : List UInt8) (w : World) : Prop := Lib.IsBuilder 93 5 B b (bvs l) w
def BldU (B b : Nat) (l : List UInt8) (w : World) : Prop := Lib.BuilderAt 93 5 B b (.pointer (some ⟨b, 0, none⟩)) (bvs l) w
theorem BldU.bld {B b : Nat} {l : List UInt8} {w : World} (h : BldU B b l w) : Bld B b l w := .inr h
theorem Bld.fresh (w : World) : Bld w.heap.size w.heap.size [] (w.alloc (.cells #[.pointer none, .slice none 0 0] 93)) := Lib.fresh_isBuilder _ _ w
theorem Bld.at {B b : Nat} {l : List UInt8} {w : World} (h : Bld B b l w) : ∃ p, Lib.BuilderAt 93 5 B b p (bvs l) w := by
  rcases h with h | h
  · exact ⟨_, h⟩
  · exact ⟨_, h⟩
/-- What makes memory and touches none leaves a builder as it was. -/
theorem BuilderAt_below {T e : TypeId} {B b : Nat} {p : Value} {bs : List Value} {w w' : World} (h : Lib.BuilderAt T e B b p bs w) (hb : Below w.heap.size w w') : Lib.BuilderAt T e B b p bs w' := by
  have hlt := h.lt
  obtain ⟨h1, v, h2, h3, h4⟩ := h
  exact ⟨h1, v, (hb.block b hlt).trans h2, own_keep h3 fun g hg => hb.block g (h3.lt g hg).2, h4⟩
theorem Bld.below {B b : Nat} {l : List UInt8} {w w' : World} (h : Bld B b l w) (hb : Below w.heap.size w w') : Bld B b l w' := by
  rcases h with h | h
  · exact .inl (BuilderAt_below h hb)
  · exact .inr (BuilderAt_below h hb)

theorem und_pb : Tryz.prog.underlying 91 = some (.pointer 93) := by kernel_rfl
theorem und_up : Tryz.prog.underlying 145 = some .unsafePointer := by kernel_rfl
theorem bldInfo : (Tryz.prog.info? 93).map (·.size) = some 2 := by kernel_rfl
theorem bldLies : liesAt Tryz.prog Tryz.prog.depth 93 (2 / Tryz.prog.cellsOf 93) 0 93 1 = true := by kernel_rfl

set_option maxHeartbeats 1000000 in
set_option maxRecDepth 100000 in
theorem copyCheck_used (b : Nat) (w : World) (h0 : w.cell? ⟨b, 0, none⟩ = some (.pointer (some ⟨b, 0, none⟩))) :
    Calls Tryz.prog 73 #[.pointer (some ⟨b, 0, none⟩)] w fun e w' => e = .returned (.tuple #[]) ∧ w' = w := by
  obtain ⟨j, hj, _⟩ := Option.map_eq_some_iff.1 bldInfo
  go_enter Tryz.func73, Tryz.ntmps73
  go_wp2
  rw [Lib.run_neq_ptr_same w _ und_pb hj]
  go_wp2
  go_end0
  exact ⟨rfl, rfl⟩

set_option maxHeartbeats 1000000 in
set_option maxRecDepth 100000 in
theorem copyCheck_fresh (b : Nat) (w : World) (h0 : w.cell? ⟨b, 0, none⟩ = some (.pointer none)) (hsh : w.shape? b = some (93, 2)) (hfz : w.frozen? ⟨b, 0, none⟩ = false) :
    Calls Tryz.prog 73 #[.pointer (some ⟨b, 0, none⟩)] w fun e w' => e = .returned (.tuple #[]) ∧ w' = w.setCell ⟨b, 0, none⟩ (.pointer (some ⟨b, 0, none⟩)) := by
  obtain ⟨j, hj, hjs⟩ := Option.map_eq_some_iff.1 bldInfo
  go_enter Tryz.func73, Tryz.ntmps73
  go_wp2
  rw [Lib.run_to_unsafe w ⟨b, 0, none⟩ und_pb und_up hj (by rw [hjs]; decide) hsh (Nat.zero_lt_succ 1)]
  simp only [Result.andThen]
  rw [Oper.upon_value]
  go_wp2
  rw [run_callFunc_extern Tryz.func89 (by kernel_rfl) (by kernel_rfl) (by kernel_rfl) (e := Extern.AbiNoEscape.same) (by kernel_rfl)]
  rw [Lib.run_noEscape]
  simp only [Result.andThen]
  rw [Oper.upon_value]
  go_wp2
  rw [Lib.run_from_unsafe w ⟨b, 0, none⟩ und_up und_pb hj hsh bldLies]
  simp only [Result.andThen]
  rw [Oper.upon_value]
  go_wp2
  go_end0
  exact ⟨rfl, rfl⟩

theorem copyCheck_any (B b : Nat) (l : List UInt8) (w : World) (h : Bld B b l w) :
    Calls Tryz.prog 73 #[.pointer (some ⟨b, 0, none⟩)] w fun e w' => e = .returned (.tuple #[]) ∧ BldU B b l w' ∧ Below B w w' := by
  rcases h with h | h
  · refine (copyCheck_fresh b w h.cell0 h.shape h.frozen0).mono ?_
    rintro e w' ⟨rfl, rfl⟩
    exact ⟨rfl, h.used _, (Below.refl B w).setCell (p := ⟨b, 0, none⟩) h.1 _⟩
  · refine (copyCheck_used b w h.cell0).mono ?_
    rintro e w' ⟨rfl, rfl⟩
    exact ⟨rfl, h, Below.refl B _⟩

set_option maxHeartbeats 2000000 in
set_option maxRecDepth 100000 in
theorem writeByte_any (B b : Nat) (l : List UInt8) (c : UInt8) (w : World) (h : Bld B b l w) (hlen : l.length ≤ 34359738368) (hBw : B ≤ w.heap.size) :
    Calls Tryz.prog 74 #[.pointer (some ⟨b, 0, none⟩), .int .u8 (c.toNat : Int)] w fun e w' => e = .returned .nilIface ∧ BldU B b (l ++ [c]) w' ∧ Below B w w' := by
  go_enter Tryz.func74, Tryz.ntmps74
  go_wp2_with (go_at_call 73; refine (copyCheck_any B b l _ h).mono ?_)
  rintro e w1 ⟨rfl, h1, hb1⟩
  obtain ⟨hB, v, hbk, hown, hne⟩ := h1
  have c0 : w1.cell? ⟨b, 0, none⟩ = some (.pointer (some ⟨b, 0, none⟩)) := by rw [Lib.cell_of_heap hbk]; rfl
  have c1 : w1.cell? ⟨b, 1, none⟩ = some v := by rw [Lib.cell_of_heap hbk]; rfl
  obtain ⟨A, n, cp, rfl⟩ : ∃ A n cp, v = .slice A n cp := by
    rcases hown.2 with ⟨hv, _⟩ | ⟨g, cap, cur, hv, _⟩
    · exact ⟨_, _, _, hv⟩
    · exact ⟨_, _, _, hv⟩
  have hn : n = l.length := by
    have h2 := hown.2
    rw [bvs_length] at h2
    rcases h2 with ⟨hv, h0⟩ | ⟨g, cap, cur, hv, _⟩
    · injection hv with _ h3 _; omega
    · injection hv
  have hO : OwnB w1 B A n cp l := by rw [bvs_length] at hown; subst hn; exact hown
  have HN := Lib.hid hn
  clear hn
  go_wp2_with (at_builtin; refine apb1 w1 w rfl (.tmp 11) (.tmp 13) rfl B A n cp l rfl hO hb1 hBw _ rfl c rfl (by rw [HN.out]; omega) ?_)
  intro A2 c2 w2 h2 hb2 hg2
  have hlt : b < w1.heap.size := by
    rcases Nat.lt_or_ge b w1.heap.size with h' | h'
    · exact h'
    · simp [Array.getElem?_eq_none h'] at hbk
  have hb3 : w2.heap[b]? = some (.cells #[.pointer (some ⟨b, 0, none⟩), .slice A n cp] 93 (0, 0)) := by
    rw [hg2.block b (by simp; omega) (fun e => hne (by rw [ownBlock_slice]; exact e.symm)), Lib.alloc_old w1 _ b hlt]
    exact hbk
  have d0 : w2.cell? ⟨b, 0, none⟩ = some (.pointer (some ⟨b, 0, none⟩)) := by rw [Lib.cell_of_heap hb3]; rfl
  have d1 : w2.cell? ⟨b, 1, none⟩ = some (.slice A n cp) := by rw [Lib.cell_of_heap hb3]; rfl
  have f1 : w2.frozen? ⟨b, 1, none⟩ = false := Lib.frozen_of_heap hb3 1
  clear c0 c1
  go_wp2
  go_ret
  refine ⟨rfl, ?_, hb2.setCell (p := ⟨b, 1, none⟩) hB _⟩
  refine Lib.BuilderAt.put (T := 93) (e := 5) hB hb3 (bs' := bvs (l ++ [c])) ?_ (by decide)
  rw [bvs_length, List.length_append, ← HN.out]
  exact h2

set_option maxHeartbeats 2000000 in
set_option maxRecDepth 100000 in
theorem writeString_any (B b : Nat) (l : List UInt8) (s : ByteArray) (w : World) (h : Bld B b l w) (hlen : l.length + s.size ≤ 34359738368) (hBw : B ≤ w.heap.size) :
    Calls Tryz.prog 41 #[.pointer (some ⟨b, 0, none⟩), .string s] w fun e w' => e = .returned (.tuple #[.int .i64 s.size, .nilIface]) ∧ BldU B b (l ++ s.data.toList) w' ∧ Below B w w' := by
  obtain ⟨i0, hi, hz0, hz1, hz2⟩ := info_parts infoByte
  go_enter Tryz.func41, Tryz.ntmps41
  go_wp2_with (go_at_call 73; refine (copyCheck_any B b l _ h).mono ?_)
  rintro e w1 ⟨rfl, h1, hb1⟩
  obtain ⟨hB, v, hbk, hown, hne⟩ := h1
  have c0 : w1.cell? ⟨b, 0, none⟩ = some (.pointer (some ⟨b, 0, none⟩)) := by rw [Lib.cell_of_heap hbk]; rfl
  have c1 : w1.cell? ⟨b, 1, none⟩ = some v := by rw [Lib.cell_of_heap hbk]; rfl
  have hbl : (bvs l).length = l.length := bvs_length l
  go_wp2_with (at_builtin; refine Lib.wpList_append_own_string _ rfl _ _ 30 9 rfl B 5 i0 undBytes undString hi hz0 hz1 hz2 _ _ _ rfl hown s rfl ?c3 ?c4 ?c5 ?_)
  case c3 => unfold maxLen; omega
  case c4 => omega
  case c5 => have := hb1.size; omega
  intro v' w2 hown' hgrow _
  have hlt : b < w1.heap.size := by
    rcases Nat.lt_or_ge b w1.heap.size with h' | h'
    · exact h'
    · simp [Array.getElem?_eq_none h'] at hbk
  have hb2 : w2.heap[b]? = some (.cells #[.pointer (some ⟨b, 0, none⟩), v] 93 (0, 0)) := by
    rw [hgrow.block b hlt (fun e => hne e.symm)]
    exact hbk
  have d0 : w2.cell? ⟨b, 0, none⟩ = some (.pointer (some ⟨b, 0, none⟩)) := by rw [Lib.cell_of_heap hb2]; rfl
  have d1 : w2.cell? ⟨b, 1, none⟩ = some v := by rw [Lib.cell_of_heap hb2]; rfl
  have f1 : w2.frozen? ⟨b, 1, none⟩ = false := Lib.frozen_of_heap hb2 1
  obtain ⟨ao, n', cap, rfl⟩ : ∃ ao n' cap, v' = .slice ao n' cap := by
    rcases hown'.2 with ⟨hv, _⟩ | ⟨g, cap, cur, hv, _⟩
    · exact ⟨_, _, _, hv⟩
    · exact ⟨_, _, _, hv⟩
  clear c0 c1
  go_wp2
  go_ret2
  refine ⟨rfl, ?_, (hb1.grown hgrow (by have := hb1.size; omega) (fun k hk => (hown.lt k hk).1)).setCell (p := ⟨b, 1, none⟩) hB _⟩
  refine Lib.BuilderAt.put (T := 93) (e := 5) hB hb2 (bs' := bvs (l ++ s.data.toList)) ?_ (by decide)
  have e1 : bvs (l ++ s.data.toList) = bvs l ++ Lib.strCells s := by simp [bvs, Lib.strCells, bv]
  rw [e1, List.length_append, Lib.strCells_length, hbl]
  exact hown'

theorem bldString_any (B b : Nat) (l : List UInt8) (w : World) (h : Bld B b l w) (hBw : B ≤ w.heap.size) :
    Calls Tryz.prog 43 #[.pointer (some ⟨b, 0, none⟩)] w fun e w' => e = .returned (.string ⟨l.toArray⟩) ∧ Below B w w' := Tryz.Builder_String_any B b l w h hBw
end Go.Proofs.YtojenpjafgfpaaaGreatDoor
/- The layer desk: written, Print. -/
namespace Go.Proofs.YtojenpjafgfpaaaGreatDoor
open Go Go.RowKit

def digitsB : ByteArray := ⟨#[48, 49, 50, 51, 52, 53, 54, 55, 56, 57, 97, 98, 99, 100, 101, 102]⟩

theorem hexOf_len : ∀ l : List UInt8, (hexOf l).length = 2 * l.length
  | [] => rfl
  | c :: r => by have := hexOf_len r; simp only [hexOf, List.length_cons]; omega
theorem hexOf_append : ∀ a b : List UInt8, hexOf (a ++ b) = hexOf a ++ hexOf b
  | [], b => rfl
  | c :: r, b => by simp [hexOf, hexOf_append r b]

theorem dig_get (i : Nat) (h : i < (⟨#[48, 49, 50, 51, 52, 53, 54, 55, 56, 57, 97, 98, 99, 100, 101, 102]⟩ : ByteArray).size) : (⟨#[48, 49, 50, 51, 52, 53, 54, 55, 56, 57, 97, 98, 99, 100, 101, 102]⟩ : ByteArray)[i]'h = hexD i := by
  have h2 : i < 16 := h
  have : ∀ j : Fin 16, (⟨#[48, 49, 50, 51, 52, 53, 54, 55, 56, 57, 97, 98, 99, 100, 101, 102]⟩ : ByteArray)[j.val]'(j.isLt) = hexD j.val := by decide
  exact this ⟨i, h2⟩
theorem u8_and15 (b : Nat) (h : b < 256) : bits BinOp.and IntKind.u8 (b : Int) 15 = ((b % 16 : Nat) : Int) := by
  rw [show (15 : Int) = ((15 : Nat) : Int) from rfl, u8_and_nat _ _ h (by omega)]
  congr 1
  exact (by decide +kernel : ∀ b : Fin 256, b.val &&& 15 = b.val % 16) ⟨b, h⟩
theorem writeByte_int (B b : Nat) (l : List UInt8) (c : UInt8) (v : Int) (hv : v = (c.toNat : Int)) (w : World) (h : Bld B b l w) (hlen : l.length ≤ 34359738368) (hBw : B ≤ w.heap.size) :
    Calls Tryz.prog 74 #[.pointer (some ⟨b, 0, none⟩), .int .u8 v] w fun e w' => e = .returned .nilIface ∧ BldU B b (l ++ [c]) w' ∧ Below B w w' := by subst hv; exact writeByte_any B b l c w h hlen hBw

set_option maxRecDepth 100000 in
set_option maxHeartbeats 1000000 in
theorem written_any (F : Nat → Prop) (A : Option Addr) (n c : Nat) (l : List UInt8) (w : World) (h : Bs F w A n c l) (hn : n ≤ 8589934592) :
    Calls Tryz.prog 42 #[.slice A n c] w fun e w' => e = .returned (.string ⟨(hexOf l).toArray⟩) ∧ Below w.heap.size w w' := by
  have HL := Lib.hid h.len
  go_enter Tryz.func42, Tryz.ntmps42
  go_wp2
  go_loopw [8] (fun i wr => ∃ (k : Nat), k ≤ n ∧ i = .int .i64 k ∧ Bld w.heap.size w.heap.size (hexOf (l.take k)) wr ∧ Below w.heap.size w wr)
    (fun i _ => n - (intOf i).toNat)
  case atStart => exact ⟨0, Nat.zero_le _, rfl, Bld.fresh w, (Below.refl _ _).alloc (Nat.le_refl _) _⟩
  case round =>
    obtain ⟨k, hk, rfl, hB, hb⟩ := hrel
    by_cases hlt : k < n
    · have hkl : k < l.length := by rw [← HL.out]; exact hlt
      obtain ⟨b, o, u, rfl, _, hbl, hrep, hc⟩ := (h.below hb (Nat.le_refl _)).at1 hkl (by decide)
      obtain ⟨x, hf⟩ : ∃ v, v = l[k] := ⟨_, rfl⟩
      rw [← hf] at hrep
      obtain rfl : u = .int .u8 (x.toNat : Int) := by simpa [tU8] using hrep
      clear hrep
      have HF := Lib.hid hf; have HB := Lib.hid hB; clear hf hB
      have hsz := hb.size
      have hx : x.toNat < 256 := x.toNat_lt
      have hq : 0 ≤ (x.toNat : Int) / 16 ∧ (x.toNat : Int) / 16 < 16 := by omega
      have hand := u8_and15 x.toNat hx
      have hq2 : 0 ≤ (x.toNat : Int) % 16 ∧ (x.toNat : Int) % 16 < 16 := by omega
      have hlen : (hexOf (l.take k)).length ≤ 17179869184 := by rw [hexOf_len, List.length_take]; omega
      go_wp2_with (first
        | (go_at_call 74; refine (writeByte_int w.heap.size w.heap.size (hexOf (l.take k)) (hexD (x.toNat / 16)) _ (by rw [dig_get]) _ HB.out (by omega) hsz).mono ?_; rintro e w1 ⟨rfl, h1, hb1⟩; have HB1 := Lib.hid h1.bld; have HS1 := Lib.hid hb1.size; clear h1)
        | (go_at_call 74; refine (writeByte_int w.heap.size w.heap.size (hexOf (l.take k) ++ [hexD (x.toNat / 16)]) (hexD (x.toNat % 16)) _ (by rw [dig_get]) _ HB1.out (by simp; omega) (Nat.le_trans hsz HS1.out)).mono ?_; rintro e w2 ⟨rfl, h2, hb2⟩))
      go_roundw
      case rel =>
        have e1 : hexOf (l.take (k + 1)) = hexOf (l.take k) ++ [hexD (x.toNat / 16)] ++ [hexD (x.toNat % 16)] := by
          rw [List.take_succ_eq_append_getElem hkl, hexOf_append, ← HF.out]; simp [hexOf]
        exact ⟨k + 1, by omega, by go_num, by rw [e1]; exact h2.bld, (hb.trans hb1).trans hb2⟩
      case measure => simp [intOf]; omega
    · obtain rfl : k = n := by omega
      rw [show l.take k = l from List.take_of_length_le (by rw [← HL.out]; exact Nat.le_refl _)] at hB
      have hsz := hb.size
      go_wp2_with (go_at_call 43; refine (bldString_any w.heap.size w.heap.size (hexOf l) _ hB hsz).mono ?_; rintro e w2 ⟨rfl, hb2⟩)
      go_ret
      exact ⟨rfl, hb.trans hb2⟩

def evsLen : List EE → Nat
  | [] => 0
  | e :: r => evLen e + 100 + evsLen r
theorem evsLen_get : ∀ (l : List EE) (k : Nat) (h : k < l.length), evLen (l[k]'h) ≤ evsLen l
  | v :: r, 0, _ => by simp only [evsLen, List.getElem_cons_zero]; omega
  | v :: r, k + 1, h => by have := evsLen_get r k (by simpa using h); simp only [evsLen, List.getElem_cons_succ]; omega
theorem size_hex (x : List UInt8) : ((⟨x.toArray⟩ : ByteArray) ++ ⟨#[10]⟩).size = x.length + 1 := by
  rw [ByteArray.size_append]; rfl
theorem data_hex (x : List UInt8) : ((⟨x.toArray⟩ : ByteArray) ++ ⟨#[10]⟩).data.toList = x ++ [10] := by
  rw [ByteArray.data_append]; simp
def lineP (e : EE) : List UInt8 := hexOf (putEvent e) ++ [10]
theorem printOf_flat (l : List EE) : printOf l = (l.map lineP).flatten := rfl
theorem lineP_len (e : EE) : (lineP e).length ≤ 2 * evLen e + 1 := by
  have := putEvent_len e
  simp only [lineP, List.length_append, hexOf_len, List.length_cons, List.length_nil]; omega
theorem printOf_len : ∀ (l : List EE), (printOf l).length ≤ 2 * evsLen l
  | [] => by simp [printOf]
  | e :: r => by
    have h := printOf_len r
    have := lineP_len e
    rw [printOf_flat] at *
    simp only [List.map_cons, List.flatten_cons, List.length_append, evsLen] at *; omega
theorem printOf_snoc (l : List EE) (e : EE) : printOf (l ++ [e]) = printOf l ++ lineP e := by simp [printOf_flat]
theorem printOf_take (l : List EE) (k : Nat) : (printOf (l.take k)).length ≤ (printOf l).length := by
  conv => rhs; rw [← List.take_append_drop k l]
  simp only [printOf_flat, List.map_append, List.flatten_append, List.length_append]; omega

set_option maxRecDepth 100000 in
set_option maxHeartbeats 4000000 in
theorem print_any (F : Nat → Prop) (A : Option Addr) (n c : Nat) (l : List EE) (w : World) (h : Sl tEE F w A n c l) (hn : n ≤ 2048) (hl : evsLen l ≤ 2147483000) :
    Calls Tryz.prog 14 #[.slice A n c] w fun e w' => e = .returned (.tuple #[.string ⟨(printOf l).toArray⟩, .int .i64 0]) ∧ Below w.heap.size w w' := by
  have HL := Lib.hid h.len
  go_enter Tryz.func14, Tryz.ntmps14
  go_wp2
  go_loopw [12] (fun i wr => ∃ (k : Nat), k ≤ n ∧ i = .int .i64 k ∧ Bld w.heap.size w.heap.size (printOf (l.take k)) wr ∧ Below w.heap.size w wr)
    (fun i _ => n - (intOf i).toNat)
  case atStart => exact ⟨0, Nat.zero_le _, rfl, Bld.fresh w, (Below.refl _ _).alloc (Nat.le_refl _) _⟩
  case round =>
    obtain ⟨k, hk, rfl, hB, hb⟩ := hrel
    by_cases hlt : k < n
    · have hkl : k < l.length := by rw [← HL.out]; exact hlt
      obtain ⟨b, o, cs, rfl, _, hbl, hrep, hc⟩ := (h.below hb (Nat.le_refl _)).at_ hkl (by decide)
      obtain ⟨x, hf⟩ : ∃ v, v = l[k] := ⟨_, rfl⟩
      rw [← hf] at hrep
      have hev := evsLen_get l k hkl
      rw [← hf] at hev
      have hrep0 := hrep
      obtain ⟨A1, n1, c1, A2, n2, c2, A3, n3, c3, A4, n4, c4, A5, n5, c5, rfl, hrep⟩ := hrep
      clear hrep
      have HREP := Lib.hid (tEE.alloc hrep0 (.cells #[.int .i64 x.kind, .int .i64 x.id, .int .i64 x.n, .int .i64 x.m, .slice A1 n1 c1, .slice A2 n2 c2, .int .i64 x.list.high, .slice A3 n3 c3, .slice A4 n4 c4, .slice A5 n5 c5] 29)); clear hrep0
      have hcs := cells10 hc
      obtain ⟨g0, g1, g2, g3, g4, g5, g6, g7, g8, g9⟩ := hcs
      clear hc
      have HF := Lib.hid hf; have HB := Lib.hid hB; clear hf hB
      have hsz := hb.size
      have hlen : (printOf (l.take k)).length ≤ 4294967000 := by have := printOf_take l k; have := printOf_len l; omega
      have hput := putEvent_len x
      have hhl := hexOf_len (putEvent x)
      have hnov : ¬ 9223372036854775807 < (hexOf (putEvent x)).length + 1 := by omega
      have HHL := Lib.hid hhl; clear hhl
      go_wp2_with (first
        | (go_at_call 10; refine (putEvent_any x F _ _ HREP.out (by omega)).mono ?_; rintro e w1 ⟨A6, n6, c6, rfl, h1, hb1⟩; have H1 := Lib.hid h1; have HN := Lib.hid h1.len; have HB1 := Lib.hid hb1; clear h1 hb1)
        | (go_at_call 42; refine (written_any _ A6 n6 c6 (putEvent x) _ H1.out.bs (by rw [HN.out]; omega)).mono ?_; rintro e w2 ⟨rfl, hb2⟩; have HB2 := Lib.hid hb2; clear hb2)
        | (go_at_call 41; refine (writeString_any w.heap.size w.heap.size (printOf (l.take k)) _ _ (HB.out.below (by have hh := HB1.out; have hi := HB2.out; (repeat (first | exact Below.refl _ _ | assumption | refine bthen ?_ (by assumption) | refine balloc ?_ _ | refine bdrew ?_)))) (by rw [size_hex]; have := HHL.out; omega) (by have q1 := HB1.out.size; have q2 := HB2.out.size; simp at q1; omega)).mono ?_; rintro e w3 ⟨rfl, h3, hb3⟩))
      go_roundw
      case rel =>
        have e1 : printOf (l.take (k + 1)) = printOf (l.take k) ++ (hexOf (putEvent x) ++ [10]) := by
          rw [List.take_succ_eq_append_getElem hkl, printOf_snoc, ← HF.out]; rfl
        refine ⟨k + 1, by omega, by go_num, ?_, ?_⟩
        · rw [e1]; have := h3.bld; rw [data_hex] at this; exact this
        · have q : Below wr.heap.size wr w2 := (by have hh := HB1.out; have hi := HB2.out; (repeat (first | exact Below.refl _ _ | assumption | refine bthen ?_ (by assumption) | refine balloc ?_ _ | refine bdrew ?_)))
          exact (hb.trans (q.mono hsz)).trans hb3
      case measure => simp [intOf]; omega
    · obtain rfl : k = n := by omega
      rw [show l.take k = l from List.take_of_length_le (by rw [← HL.out]; exact Nat.le_refl _)] at hB
      have hsz := hb.size
      go_wp2_with (go_at_call 43; refine (bldString_any w.heap.size w.heap.size (printOf l) _ hB hsz).mono ?_; rintro e w2 ⟨rfl, hb2⟩)
      go_ret2
      exact ⟨rfl, hb.trans hb2⟩
end Go.Proofs.YtojenpjafgfpaaaGreatDoor
