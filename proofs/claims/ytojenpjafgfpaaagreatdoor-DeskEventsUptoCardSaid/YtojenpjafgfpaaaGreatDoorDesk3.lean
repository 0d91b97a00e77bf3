/- The layer desk: number, text, put, values, numbers. -/
import Derived.Test.YtojenpjafgfpaaaGreatDoorWire2
import Derived.Deep.CutRange
namespace Go.Proofs.YtojenpjafgfpaaaGreatDoor
open Go Go.RowKit

/-! how long what is written is, at most -/
def vlen (v : VV) : Nat := v.s.size + 100
def rowLen : List VV → Nat
  | [] => 100
  | v :: r => vlen v + rowLen r
def nodeLen (p : PP) : Nat := vlen p.v + rowLen p.vals + 20 * p.l.length + 200
theorem rowLen_get : ∀ (l : List VV) (k : Nat) (h : k < l.length), vlen (l[k]'h) ≤ rowLen l
  | v :: r, 0, _ => by simp only [rowLen, List.getElem_cons_zero]; omega
  | v :: r, k + 1, h => by have := rowLen_get r k (by simpa using h); simp only [rowLen, List.getElem_cons_succ]; omega
theorem rowLen_count : ∀ (l : List VV), l.length ≤ rowLen l
  | [] => by simp
  | v :: r => by have := rowLen_count r; simp only [rowLen, vlen, List.length_cons]; omega
theorem putValue_len (v : VV) : (putValue v).length ≤ v.s.size + 60 := by
  have h := dput_len (putValueF v)
  have e : v.s.data.toList.length = v.s.size := Array.length_toList
  have hw : wlen (putValueF v) ≤ v.s.size + 60 := by simp only [putValueF, wlen, fnum, ftxt, e, List.length_nil]; omega
  unfold putValue
  omega
theorem wlen_vals (tag : Int) : ∀ (l : List VV), wlen (l.map fun v => ftxt tag (putValue v)) + 100 ≤ rowLen l
  | [] => by simp [wlen, rowLen]
  | v :: r => by
    have := wlen_vals tag r
    have := putValue_len v
    simp only [List.map_cons, wlen, rowLen, vlen, ftxt] at *; omega
theorem wlen_nums (tag : Int) : ∀ (l : List Int), wlen (l.map (inum tag)) = 20 * l.length
  | [] => by simp [wlen]
  | v :: r => by
    have := wlen_nums tag r
    simp only [List.map_cons, wlen, inum, fnum, List.length_cons, List.length_nil] at *; omega
theorem putRow_len (r : List VV) : (putRow r).length + 100 ≤ rowLen r := by
  have h := dput_len (r.map fun v => ftxt 1 (putValue v))
  have := wlen_vals 1 r
  unfold putRow; omega
theorem putNode_wlen (p : PP) : wlen (putNodeF p) + 100 ≤ nodeLen p := by
  have h1 := putValue_len p.v
  have h2 := wlen_vals 4 p.vals
  have h3 := wlen_nums 5 p.l
  simp only [putNodeF, wlen_append, wlen, inum, fnum, ftxt, List.length_nil, nodeLen, vlen] at *
  omega
theorem putNode_len (p : PP) : (putNode p).length + 100 ≤ nodeLen p := by
  have h := dput_len (putNodeF p)
  have := putNode_wlen p
  unfold putNode; omega
theorem putKey_len (k : KK) : (putKey k).length ≤ 60 := by
  have h := dput_len [inum 1 k.id, inum 2 k.bucket, inum 3 k.row]
  have hw : wlen [inum 1 k.id, inum 2 k.bucket, inum 3 k.row] = 60 := by simp [wlen, inum, fnum]
  unfold putKey
  omega

set_option maxRecDepth 100000 in
set_option maxHeartbeats 400000 in
theorem number_any (tag x : Int) (w : World) (h0 : -9223372036854775808 ≤ x) (h1 : x ≤ 9223372036854775807) :
    Calls Tryz.prog 25 #[.int .i64 tag, .int .i64 x] w (IsFld tag false (zigN x) none 0 0 w) := by
  go_enter Tryz.func25, Tryz.ntmps25
  go_wp2_with (go_at_call 57; refine (zig_any x _ h0 h1).mono ?_; rintro e w' ⟨rfl, rfl⟩)
  exact bodyPost_ret (v := .agg #[_, _, _, _]) (by simp [results, Tryz.results25, go_sem]) rfl ⟨rfl, (Below.refl _ w).alloc (Nat.le_refl _) _⟩
set_option maxRecDepth 100000 in
set_option maxHeartbeats 400000 in
theorem dtext_any (tag : Int) (A : Option Addr) (n c : Nat) (w : World) :
    Calls Tryz.prog 26 #[.int .i64 tag, .slice A n c] w (IsFld tag true 0 A n c w) := by
  go_enter Tryz.func26, Tryz.ntmps26
  go_wp2
  exact bodyPost_ret (v := .agg #[_, _, _, _]) (by simp [results, Tryz.results26, go_sem]) rfl ⟨rfl, (Below.refl _ w).alloc (Nat.le_refl _) _⟩
set_option maxRecDepth 100000 in
set_option maxHeartbeats 400000 in
theorem dput1_any (F : Nat → Prop) (A : Option Addr) (n c : Nat) (l : List Fld) (w : World) (h : Sl tFld F w A n c l) (hl : wlen l ≤ 4294967200) :
    Calls Tryz.prog 27 #[.slice A n c] w (Own1 w (dput l)) := by
  have hlen : n ≤ 4294967296 := by
    have := h.len
    have : ∀ l : List Fld, l.length ≤ wlen l := fun l => by
      induction l with
      | nil => simp
      | cons f r ih => simp only [wlen, List.length_cons]; omega
    have := this l
    omega
  go_enter Tryz.func27, Tryz.ntmps27
  go_wp2_with (go_at_call 58; refine (wput_any F A n c l _ h hlen hl).mono ?_; rintro e w1 ⟨A1, n1, c1, rfl, hown, hb⟩)
  go_ret
  exact ⟨A1, n1, c1, rfl, hown, hb⟩

theorem elemFld : ElemOf Tryz.prog 59 75 tFld.size := ElemOf.mk' (bytes := 48) (z := .agg #[.int .i64 0, .bool false, .int .u64 0, .slice none 0 0]) (by kernel_rfl) (by kernel_rfl) rfl (by decide) (by decide)

/-- A list of fields that a call builds. -/
def OwnFs (w : World) (l : List Fld) (e : Ending) (w' : World) : Prop :=
  ∃ A n c, e = .returned (.slice A n c) ∧ Own tFld 75 w' w.heap.size A n c l ∧ Below w.heap.size w w'

set_option maxRecDepth 100000 in
set_option maxHeartbeats 1000000 in
theorem values_any (tag : Int) (htag : i64 tag) (F : Nat → Prop) (A : Option Addr) (n c : Nat) (l : List VV) (w : World) (h : Sl tVV F w A n c l) (hl : rowLen l ≤ 4294967000) :
    Calls Tryz.prog 28 #[.int .i64 tag, .slice A n c] w (OwnFs w (l.map fun v => ftxt tag (putValue v))) := by
  have HL := Lib.hid h.len
  have HC := Lib.hid (rowLen_count l)
  have hn : n ≤ 4294967000 := by rw [HL.out]; have := HC.out; omega
  have HT := Lib.hid htag
  clear htag
  go_enter Tryz.func28, Tryz.ntmps28
  go_wp2
  go_loopw [5, 10] (fun v i wr => ∃ (k : Nat) (A2 : Option Addr) (m c2 : Nat) (G : Nat → Prop), k ≤ n ∧ i = .int .i64 k ∧ v = .slice A2 m c2 ∧ OwnF tFld 75 G wr w.heap.size A2 m c2 ((l.take k).map fun v => ftxt tag (putValue v)) ∧ Below w.heap.size w wr)
    (fun _ i _ => n - (intOf i).toNat)
  case atStart => exact ⟨0, none, 0, 0, fun _ => False, Nat.zero_le _, rfl, rfl, OwnF.nil_ _ _ _ _ _, Below.refl _ _⟩
  case round =>
    obtain ⟨k, A2, m, c2, G, hk, rfl, rfl, hown, hb⟩ := hrel
    by_cases hlt : k < n
    · have hkl : k < l.length := by rw [← HL.out]; exact hlt
      obtain ⟨b, o, cs, rfl, _, hbl, hrep, hc⟩ := (h.below hb (Nat.le_refl _)).at_ hkl (by decide)
      obtain ⟨v, hf⟩ : ∃ v, v = l[k] := ⟨_, rfl⟩
      obtain ⟨rfl, hok⟩ := hrep
      rw [← hf] at hc hok
      have hvl := rowLen_get l k hkl
      rw [← hf] at hvl
      unfold vlen at hvl
      have HF := Lib.hid hf; clear hf
      obtain ⟨g0, g1, g2⟩ := cells3 hc
      clear hc
      have hm := hown.len
      have hm2 : m ≤ 4294967000 := by rw [hm, List.length_map, List.length_take]; have := HC.out; omega
      clear hm
      have HO := Lib.hid hown; clear hown
      have hsz := hb.size
      go_wp2_with (first
        | (go_at_call 59; refine (putValue_any v hok (by omega) _).mono ?_; rintro e w1 ⟨A3, n3, c3, rfl, hown3, hb3⟩; have HO3 := Lib.hid hown3; clear hown3; have HB3 := Lib.hid hb3; clear hb3)
        | (go_at_call 26; refine (dtext_any _ _ _ _ _).mono ?_; rintro e w2 ⟨rfl, hb4⟩; have HB4 := Lib.hid hb4; clear hb4)
        | (at_builtin; refine apl1 (T := tFld) elemFld w2 w rfl (.tmp 14) (.tmp 19) rfl w.heap.size A2 m c2 _ rfl G (fun b => A3 = some ⟨b, 0, none⟩ ∧ (wr.heap.size + 1) ≤ b)
              ((HO.out.alloc _).keepB (HB3.out.trans (HB4.out.mono HB3.out.size)) ) (((hb.alloc hsz _).trans (HB3.out.mono (by simp; omega))).trans (HB4.out.mono (by have := HB3.out.size; simp at this; omega))) (Nat.le_refl _) _ rfl _ (ftxt tag (putValue v))
              ⟨A3, n3, c3, rfl, HT.out, by simp [ftxt], ((HO3.out.bs.weaken (fun b h _ => ⟨h.1, by have := h.2; simp at this; omega⟩)).below HB4.out (Nat.le_refl _))⟩ 75 rfl (fun b h1 _ _ h4 => by obtain ⟨e1, _, e3⟩ := HO.out.lies (b := b) (by simp [Value.ownBlock, h1]); have := h4.2; omega) (by omega) ?_; intro A5 c5 w5 h5))
      go_roundw
      case rel =>
        have e1 : (l.take (k + 1)).map (fun v => ftxt tag (putValue v)) = (l.take k).map (fun v => ftxt tag (putValue v)) ++ [ftxt tag (putValue v)] := by
          rw [List.take_succ_eq_append_getElem hkl, List.map_append, ← HF.out]; rfl
        have e2 := h5.own
        rw [← e1] at e2
        exact ⟨k + 1, A5, m + 1, c5, _, by omega, by go_num, rfl, e2, h5.below⟩
      case measure => simp [intOf]; omega
    · obtain rfl : k = n := by omega
      have e1 : l.take k = l := List.take_of_length_le (by rw [← HL.out]; exact Nat.le_refl _)
      rw [e1] at hown
      have HO := Lib.hid hown; clear hown e1
      go_wp2
      go_ret
      exact ⟨A2, m, c2, rfl, ⟨G, HO.out⟩, hb⟩

set_option maxRecDepth 100000 in
set_option maxHeartbeats 1000000 in
theorem numbers_any (tag : Int) (htag : i64 tag) (F : Nat → Prop) (A : Option Addr) (n c : Nat) (l : List Int) (w : World) (h : Sl tI64 F w A n c l) (hl : n ≤ 4294967000) :
    Calls Tryz.prog 30 #[.int .i64 tag, .slice A n c] w (OwnFs w (l.map (inum tag))) := by
  have HL := Lib.hid h.len
  have HT := Lib.hid htag
  clear htag
  go_enter Tryz.func30, Tryz.ntmps30
  go_wp2
  go_loopw [5, 10] (fun v i wr => ∃ (k : Nat) (A2 : Option Addr) (m c2 : Nat) (G : Nat → Prop), k ≤ n ∧ i = .int .i64 k ∧ v = .slice A2 m c2 ∧ OwnF tFld 75 G wr w.heap.size A2 m c2 ((l.take k).map (inum tag)) ∧ Below w.heap.size w wr)
    (fun _ i _ => n - (intOf i).toNat)
  case atStart => exact ⟨0, none, 0, 0, fun _ => False, Nat.zero_le _, rfl, rfl, OwnF.nil_ _ _ _ _ _, Below.refl _ _⟩
  case round =>
    obtain ⟨k, A2, m, c2, G, hk, rfl, rfl, hown, hb⟩ := hrel
    by_cases hlt : k < n
    · have hkl : k < l.length := by rw [← HL.out]; exact hlt
      obtain ⟨b, o, u, rfl, _, hbl, hrep, hc⟩ := (h.below hb (Nat.le_refl _)).at1 hkl (by decide)
      obtain ⟨x, hf⟩ : ∃ v, v = l[k] := ⟨_, rfl⟩
      obtain ⟨hu, hx0, hx1⟩ := hrep
      rw [← hf] at hu hx0 hx1
      obtain rfl : u = .int .i64 x := by simpa using hu
      clear hu
      have HF := Lib.hid hf; clear hf
      have hm := hown.len
      have hm2 : m ≤ 4294967000 := by rw [hm, List.length_map, List.length_take]; omega
      clear hm
      have HO := Lib.hid hown; clear hown
      have hsz := hb.size
      have HZ := Lib.hid (zigN_lt x hx0 hx1)
      go_wp2_with (first
        | (go_at_call 25; refine (number_any _ _ _ hx0 hx1).mono ?_; rintro e w2 ⟨rfl, hb4⟩; have HB4 := Lib.hid hb4; clear hb4)
        | (at_builtin; refine apl1 (T := tFld) elemFld w2 w rfl (.tmp 14) (.tmp 18) rfl w.heap.size A2 m c2 _ rfl G (fun _ => False)
              (HO.out.keepB HB4.out) (hb.trans (HB4.out.mono hsz)) (Nat.le_refl _) _ rfl _ (inum tag x)
              ⟨none, 0, 0, rfl, HT.out, HZ.out, Sl.nil_ _ _ _⟩ 75 rfl (fun _ _ _ _ h4 => h4) (by omega) ?_; intro A5 c5 w5 h5))
      go_roundw
      case rel =>
        have e1 : (l.take (k + 1)).map (inum tag) = (l.take k).map (inum tag) ++ [inum tag x] := by
          rw [List.take_succ_eq_append_getElem hkl, List.map_append, ← HF.out]; rfl
        have e2 := h5.own
        rw [← e1] at e2
        exact ⟨k + 1, A5, m + 1, c5, _, by omega, by go_num, rfl, e2, h5.below⟩
      case measure => simp [intOf]; omega
    · obtain rfl : k = n := by omega
      have e1 : l.take k = l := List.take_of_length_le (by rw [← HL.out]; exact Nat.le_refl _)
      rw [e1] at hown
      have HO := Lib.hid hown; clear hown e1
      go_wp2
      go_ret
      exact ⟨A2, m, c2, rfl, ⟨G, HO.out⟩, hb⟩
end Go.Proofs.YtojenpjafgfpaaaGreatDoor
/- The layer desk: node. -/
namespace Go.Proofs.YtojenpjafgfpaaaGreatDoor
open Go Go.RowKit
attribute [local go_sem ↓] Go.wp_at_zero Go.wp_at_succ

set_option maxRecDepth 100000 in
set_option maxHeartbeats 2000000 in
theorem node_any (p : PP) (F : Nat → Prop) (A : Option Addr) (n c : Nat) (A' : Option Addr) (n' c' : Nat) (w : World) (h : Sl tVV F w A n c p.vals) (h' : Sl tI64 F w A' n' c' p.l)
    (ho : i64 p.op) (hc : i64 p.col) (hv : p.v.ok) (hl : nodeLen p ≤ 4294967000) :
    Calls Tryz.prog 31 #[.agg #[.int .i64 p.op, .int .i64 p.col, .bool p.v.null, .int .i64 p.v.n, .string p.v.s, .slice A n c, .slice A' n' c']] w (Own1 w (putNode p)) := by
  obtain ⟨ho0, ho1⟩ := ho
  obtain ⟨hc0, hc1⟩ := hc
  have HW := Lib.hid (show wlen (putNodeF p) ≤ 4294967200 by have := putNode_wlen p; omega)
  have hvs : p.v.s.size ≤ 4294967000 ∧ rowLen p.vals ≤ 4294967000 ∧ p.l.length ≤ 4294967000 := by unfold nodeLen vlen at hl; omega
  obtain ⟨hvs, hrl, hll⟩ := hvs
  have HZ1 := Lib.hid (zigN_lt p.op ho0 ho1)
  have HZ2 := Lib.hid (zigN_lt p.col hc0 hc1)
  have hln := h'.len
  have HLN := Lib.hid hln
  have hln2 : n' ≤ 4294967000 := by omega
  have HNV := Lib.hid (show (putNodeF p).length ≤ 4294967000 by
    have := rowLen_count p.vals
    unfold nodeLen at hl
    simp only [putNodeF, List.length_append, List.length_map, List.length_cons, List.length_nil]; omega)
  clear hln
  clear hl
  go_enter Tryz.func31, Tryz.ntmps31
  go_wp2_with fail
  go_cut [3] from 4 to 14 (fun x wx => ∃ b, x = .slice (some ⟨b, 0, none⟩) 3 3 ∧ Sl tFld (fun _ => True) wx (some ⟨b, 0, none⟩) 3 3 [inum 1 p.op, inum 2 p.col, ftxt 3 (putValue p.v)] ∧ Below w.heap.size w wx ∧
    wx.cell? ⟨w.heap.size, 5, none⟩ = some (.slice A n c) ∧ wx.cell? ⟨w.heap.size, 6, none⟩ = some (.slice A' n' c'))
  case first =>
    go_region_held3 (fun w' => w'.cell? ⟨w.heap.size, 0, none⟩ = some (.int .i64 p.op) ∧ w'.cell? ⟨w.heap.size, 1, none⟩ = some (.int .i64 p.col) ∧ w'.cell? ⟨w.heap.size, 2, none⟩ = some (.bool p.v.null) ∧ w'.cell? ⟨w.heap.size, 3, none⟩ = some (.int .i64 p.v.n) ∧ w'.cell? ⟨w.heap.size, 4, none⟩ = some (.string p.v.s) ∧ w'.cell? ⟨w.heap.size, 5, none⟩ = some (.slice A n c) ∧ w'.cell? ⟨w.heap.size, 6, none⟩ = some (.slice A' n' c'))
      (first | go_keep | (go_split_ands; refine ⟨?_, ?_, ?_, ?_, ?_, ?_, ?_⟩ <;> exact kcell (by assumption) (by assumption)))
      (first
        | (go_at_call_of 25 (Value.int .i64 1); refine (number_any _ _ _ ho0 ho1).mono ?_; rintro e w1 ⟨rfl, hb1⟩)
        | (go_at_call_of 25 (Value.int .i64 2); refine (number_any _ _ _ hc0 hc1).mono ?_; rintro e w2 ⟨rfl, hb2⟩)
        | (go_at_call 59; refine (putValue_any p.v hv hvs _).mono ?_; rintro e w3 ⟨A3, n3, c3, rfl, hown3, hb3⟩; have hs3 := hown3.bs.any)
        | (go_at_call 26; refine (dtext_any _ _ _ _ _).mono ?_; rintro e w4 ⟨rfl, hb4⟩))
    all_goals (go_wp2_with fail; go_split_ands; go_meet; exact ⟨_, rfl, (by refine (Sl.new3 (rep_fnum (by unfold i64; omega) HZ1.out) (rep_fnum (by unfold i64; omega) HZ2.out) (rep_ftxt (by unfold i64; omega) ?_) _ _ rfl).any; (repeat (first | assumption | exact Sl.nil_ _ _ _ | exact (sb_bs (by assumption)).any | (refine sb_bsA (by assumption) ?_; simp; done) | refine Sl.below ?_ (by assumption) (Nat.le_refl _) | refine Sl.alloc ?_ _ | refine Sl.drew ?_))), (by (repeat (first | exact Below.refl _ _ | assumption | refine bthen ?_ (by assumption) | refine balloc ?_ _ | refine bdrew ?_))), (by assumption), (by assumption)⟩)
  case rest =>
    obtain ⟨b, rfl, hs0, hb0, hc5, hc6⟩ := hcut
    have HS0 := Lib.hid hs0; have HB0 := Lib.hid hb0
    have HH := Lib.hid (h.below hb0 (Nat.le_refl _)); have HH' := Lib.hid (h'.below hb0 (Nat.le_refl _))
    clear h h' hs0 hb0
    go_wp2_with fail
    go_region_held3 (fun w' => w'.cell? ⟨w.heap.size, 5, none⟩ = some (.slice A n c) ∧ w'.cell? ⟨w.heap.size, 6, none⟩ = some (.slice A' n' c'))
      (first | go_keep | (go_split_ands; refine ⟨?_, ?_⟩ <;> exact kcell (by assumption) (by assumption)))
      (first
        | (go_at_call 28; refine (values_any 4 (by unfold i64; omega) F A n c p.vals _ (by have hh := HH.out; (repeat (first | assumption | exact Sl.nil_ _ _ _ | exact (sb_bs (by assumption)).any | (refine sb_bsA (by assumption) ?_; simp; done) | refine Sl.below ?_ (by assumption) (Nat.le_refl _) | refine Sl.alloc ?_ _ | refine Sl.drew ?_))) hrl).mono ?_; rintro e w1 ⟨A1, n1, c1, rfl, hown1, hb1⟩; have hs1 := hown1.sl)
        | (go_at_call 30; refine (numbers_any 5 (by unfold i64; omega) F A' n' c' p.l _ (by have hh := HH'.out; (repeat (first | assumption | exact Sl.nil_ _ _ _ | exact (sb_bs (by assumption)).any | (refine sb_bsA (by assumption) ?_; simp; done) | refine Sl.below ?_ (by assumption) (Nat.le_refl _) | refine Sl.alloc ?_ _ | refine Sl.drew ?_))) hln2).mono ?_; rintro e w2 ⟨A2, n2, c2, rfl, hown2, hb2⟩; have hs2 := hown2.sl)
        | (go_at_call 29
           refine (concatF_any elemFld (fun _ => True) _ 3 3 [[inum 1 p.op, inum 2 p.col, ftxt 3 (putValue p.v)], p.vals.map (fun v => ftxt 4 (putValue v)), p.l.map (inum 5)] _
            (by have hh := HS0.out; refine sl3 (F1 := fun _ => True) (F2 := fun _ => True) (F3 := fun _ => True) ?_ ?_ ?_ _ <;> (repeat (first | assumption | exact Sl.nil_ _ _ _ | exact (sb_bs (by assumption)).any | (refine sb_bsA (by assumption) ?_; simp; done) | refine Sl.below ?_ (by assumption) (Nat.le_refl _) | refine Sl.alloc ?_ _ | refine Sl.drew ?_))) (by omega) (by have := HNV.out; simp [putNodeF] at this ⊢; omega)).mono ?_
           rintro e w3 ⟨A3, n3, c3, rfl, hown3, hb3⟩; have hs3 := hown3.sl)
        | (go_at_call 27; refine (dput1_any (fun _ => True) _ _ _ (putNodeF p) _ (by simpa [putNodeF] using hs3) HW.out).mono ?_; rintro e w4 ⟨A4, n4, c4, rfl, hown4, hb4⟩))
    all_goals (go_wp2_with fail; go_ret; exact ⟨A4, n4, c4, rfl, hown4.down (by have := hb1.size; have := hb2.size; have := hb3.size; have := HB0.out.size; simp at *; omega), by have := HB0.out; (repeat (first | exact Below.refl _ _ | assumption | refine bthen ?_ (by assumption) | refine balloc ?_ _ | refine bdrew ?_))⟩)
end Go.Proofs.YtojenpjafgfpaaaGreatDoor
/- The layer desk: PutEvent. -/
namespace Go.Proofs.YtojenpjafgfpaaaGreatDoor
open Go Go.RowKit
attribute [local go_sem ↓] Go.wp_at_zero Go.wp_at_succ

/-- A list that is laid at once. -/
theorem OwnF.newL {α : Type} {T : Ty α} {F : Nat → Prop} {w : World} {css : List (List Value)} {xs : List α} {e : TypeId} {B n : Nat} (h : Reps T F w css xs) (hB : B ≤ w.heap.size) (hn : n = xs.length) (hm : n ≤ 4294967296) (o : Obj) (ho : o = .cells css.flatten.toArray e) :
    OwnF T e (fun b => F b ∧ b < w.heap.size) (w.alloc o) B (some ⟨w.heap.size, 0, none⟩) n n xs := by
  subst ho
  have hr := h.weaken (F' := fun b => F b ∧ b < w.heap.size) (fun b hb hl => ⟨hb, hl⟩)
  refine ⟨⟨css, ?_, hr.keep (by simp) fun b _ hl => Below.heap_alloc w _ b hl⟩, ?_, hn⟩
  · have := World.ownsRow_lit (base := B) (e := e) (size := T.size) w css.flatten.toArray n hB (by simp only [maxLen]; omega) (by simp only [List.size_toArray]; rw [hr.flat, hn])
    simpa using this
  · rintro b o h ⟨_, hl⟩
    injection h with h; injection h with h; omega

def rowsLen : List (List VV) → Nat
  | [] => 0
  | r :: t => rowLen r + rowsLen t
def predLen : List PP → Nat
  | [] => 0
  | p :: t => nodeLen p + predLen t
def evLen (e : EE) : Nat := rowsLen e.rows + 100 * e.keys.length + 20 * e.list.except.length + 20 * e.cols.length + predLen e.pred + 400
theorem rowsLen_get : ∀ (l : List (List VV)) (k : Nat) (h : k < l.length), rowLen (l[k]'h) ≤ rowsLen l
  | v :: r, 0, _ => by simp only [rowsLen, List.getElem_cons_zero]; omega
  | v :: r, k + 1, h => by have := rowsLen_get r k (by simpa using h); simp only [rowsLen, List.getElem_cons_succ]; omega
theorem predLen_get : ∀ (l : List PP) (k : Nat) (h : k < l.length), nodeLen (l[k]'h) ≤ predLen l
  | v :: r, 0, _ => by simp only [predLen, List.getElem_cons_zero]; omega
  | v :: r, k + 1, h => by have := predLen_get r k (by simpa using h); simp only [predLen, List.getElem_cons_succ]; omega
theorem rowLen_pos (l : List VV) : 100 ≤ rowLen l := by
  induction l with
  | nil => simp [rowLen]
  | cons v r ih => simp only [rowLen]; omega
theorem rowsLen_count : ∀ (l : List (List VV)), l.length ≤ rowsLen l
  | [] => by simp
  | v :: r => by have := rowsLen_count r; have := rowLen_pos v; simp only [rowsLen, List.length_cons]; omega
theorem predLen_count : ∀ (l : List PP), l.length ≤ predLen l
  | [] => by simp
  | v :: r => by have := predLen_count r; simp only [predLen, nodeLen, List.length_cons]; omega
theorem wlen_rows (tag : Int) : ∀ (l : List (List VV)), wlen (l.map fun r => ftxt tag (putRow r)) ≤ rowsLen l
  | [] => by simp [wlen]
  | v :: r => by
    have := wlen_rows tag r
    have := putRow_len v
    simp only [List.map_cons, wlen, rowsLen, ftxt] at *; omega
theorem wlen_keys (tag : Int) : ∀ (l : List KK), wlen (l.map fun k => ftxt tag (putKey k)) ≤ 100 * l.length
  | [] => by simp [wlen]
  | v :: r => by
    have := wlen_keys tag r
    have := putKey_len v
    simp only [List.map_cons, wlen, ftxt, List.length_cons] at *; omega
theorem wlen_pred (tag : Int) : ∀ (l : List PP), wlen (l.map fun p => ftxt tag (putNode p)) ≤ predLen l
  | [] => by simp [wlen]
  | v :: r => by
    have := wlen_pred tag r
    have := putNode_len v
    simp only [List.map_cons, wlen, predLen, ftxt] at *; omega
theorem putEvent_wlen (e : EE) : wlen (putEventF e) ≤ evLen e := by
  have h1 := wlen_rows 5 e.rows
  have h2 := wlen_keys 6 e.keys
  have h3 := wlen_nums 8 e.list.except
  have h4 := wlen_nums 9 e.cols
  have h5 := wlen_pred 10 e.pred
  have h6 : wlen [inum 1 e.kind, inum 2 e.id, inum 3 e.n, inum 4 e.m] = 80 := by simp [wlen, inum, fnum]
  have h7 : wlen [inum 7 e.list.high] = 20 := by simp [wlen, inum, fnum]
  simp only [putEventF, wlen_append, evLen, h6, h7] at *
  omega
theorem putEvent_len (e : EE) : (putEvent e).length ≤ evLen e := by
  have h := dput_len (putEventF e)
  have := putEvent_wlen e
  unfold putEvent; omega

/-- What was boxed at the head of a function. -/
theorem boxed (w : World) (cs : List Value) (t : TypeId) : ∃ wb, wb = w.alloc (.cells cs.toArray t) ∧ Below w.heap.size w wb ∧ (∀ j u, cs[j]? = some u → wb.cell? ⟨w.heap.size, j, none⟩ = some u) ∧ wb.heap.size = w.heap.size + 1 ∧
    (∀ {α : Type} {T : Ty α} {F : Nat → Prop} {A : Option Addr} {n c : Nat} {xs : List α}, Sl T F w A n c xs → Sl T F wb A n c xs) :=
  ⟨_, rfl, (Below.refl _ w).alloc (Nat.le_refl _) _, fun j u hu => by rw [World.cell?_alloc_new]; simpa using hu, by simp, fun h => h.alloc _⟩

/-- Where the walk stands: the list so far, in the slot and in the world. -/
def EvAt (wb : World) (L : List Fld) (x : Value) (wx : World) : Prop :=
  ∃ A n c G, x = .slice A n c ∧ OwnF tFld 75 G wx wb.heap.size A n c L ∧ Below wb.heap.size wb wx

theorem size_le {B : Nat} {a w : World} (h : Below B a w) : a.heap.size ≤ w.heap.size := h.size
theorem OwnF.offNew {α : Type} {T : Ty α} {e : TypeId} {F : Nat → Prop} {w : World} {B : Nat} {A : Option Addr} {n c : Nat} {xs : List α} (h : OwnF T e F w B A n c xs) {p : Nat} (hp : w.heap.size ≤ p) : some p ≠ A.map (·.block) := by
  intro he
  obtain ⟨a, ha, hb⟩ := Option.map_eq_some_iff.1 he.symm
  have := (h.lies (b := a.block) (by rw [ha]; rfl)).2.2
  omega
theorem fields_le : ∀ l : List Fld, 20 * l.length ≤ wlen l
  | [] => by simp
  | f :: r => by have := fields_le r; simp only [wlen, List.length_cons]; omega

set_option maxRecDepth 100000 in
set_option maxHeartbeats 8000000 in
theorem putEvent_any (e : EE) (F : Nat → Prop) (cs : List Value) (w : World) (h : tEE.rep F w cs e) (hl : evLen e ≤ 4294967000) :
    Calls Tryz.prog 10 #[.agg cs.toArray] w (Own1 w (putEvent e)) := by
  obtain ⟨A1, n1, c1, A2, n2, c2, A3, n3, c3, A4, n4, c4, A5, n5, c5, rfl, ⟨hk0, hk1⟩, ⟨hi0, hi1⟩, ⟨hn0, hn1⟩, ⟨hm0, hm1⟩, ⟨hh0, hh1⟩, h1, h2, h3, h4, h5⟩ := h
  have HW := Lib.hid (show wlen (putEventF e) ≤ 4294967200 by have := putEvent_wlen e; omega)
  have hle : rowsLen e.rows ≤ 4294967000 ∧ 100 * e.keys.length ≤ 4294967000 ∧ 20 * e.list.except.length ≤ 4294967000 ∧ 20 * e.cols.length ≤ 4294967000 ∧ predLen e.pred ≤ 4294967000 := by unfold evLen at hl; omega
  obtain ⟨hle1, hle2, hle3, hle4, hle5⟩ := hle
  have HCN := Lib.hid (show e.rows.length + e.keys.length + e.list.except.length + e.cols.length + e.pred.length ≤ 4294967000 by have := rowsLen_count e.rows; have := predLen_count e.pred; unfold evLen at hl; omega)
  clear hl
  have HL1 := Lib.hid h1.len; have HL2 := Lib.hid h2.len; have HL3 := Lib.hid h3.len; have HL4 := Lib.hid h4.len; have HL5 := Lib.hid h5.len
  have hn1' : n1 ≤ 4294967000 := by rw [HL1.out]; have := rowsLen_count e.rows; omega
  have hn2' : n2 ≤ 4294967000 := by rw [HL2.out]; omega
  have hn3' : n3 ≤ 4294967000 := by rw [HL3.out]; omega
  have hn4' : n4 ≤ 4294967000 := by rw [HL4.out]; omega
  have hn5' : n5 ≤ 4294967000 := by rw [HL5.out]; have := predLen_count e.pred; omega
  have HZ1 := Lib.hid (zigN_lt e.kind hk0 hk1); have HZ2 := Lib.hid (zigN_lt e.id hi0 hi1); have HZ3 := Lib.hid (zigN_lt e.n hn0 hn1); have HZ4 := Lib.hid (zigN_lt e.m hm0 hm1); have HZ7 := Lib.hid (zigN_lt e.list.high hh0 hh1)
  go_enter Tryz.func10, Tryz.ntmps10
  go_wp2_with fail
  obtain ⟨wb, hwb, hB, hC, hS, hK⟩ := boxed w [.int .i64 e.kind, .int .i64 e.id, .int .i64 e.n, .int .i64 e.m, .slice A1 n1 c1, .slice A2 n2 c2, .int .i64 e.list.high, .slice A3 n3 c3, .slice A4 n4 c4, .slice A5 n5 c5] 29
  have HB := Lib.hid hB; have HC := Lib.hid hC; have HSZ := Lib.hid hS
  have H1 := Lib.hid (hK h1); have H2 := Lib.hid (hK h2); have H3 := Lib.hid (hK h3); have H4 := Lib.hid (hK h4); have H5 := Lib.hid (hK h5)
  clear h1 h2 h3 h4 h5 hB hC hS hK
  rw [← hwb]
  clear hwb
  have hcc : wb.cell? ⟨w.heap.size, 0, none⟩ = some (.int .i64 e.kind) ∧ wb.cell? ⟨w.heap.size, 1, none⟩ = some (.int .i64 e.id) ∧ wb.cell? ⟨w.heap.size, 2, none⟩ = some (.int .i64 e.n) ∧ wb.cell? ⟨w.heap.size, 3, none⟩ = some (.int .i64 e.m) := ⟨HC.out 0 _ rfl, HC.out 1 _ rfl, HC.out 2 _ rfl, HC.out 3 _ rfl⟩
  obtain ⟨hc0, hc1, hc2, hc3⟩ := hcc
  go_cut [3] from 10 to 22 (fun x wx => EvAt wb [inum 1 e.kind, inum 2 e.id, inum 3 e.n, inum 4 e.m] x wx)
  case first =>
    go_region_held3 (fun w' => w'.cell? ⟨w.heap.size, 0, none⟩ = some (.int .i64 e.kind) ∧ w'.cell? ⟨w.heap.size, 1, none⟩ = some (.int .i64 e.id) ∧ w'.cell? ⟨w.heap.size, 2, none⟩ = some (.int .i64 e.n) ∧ w'.cell? ⟨w.heap.size, 3, none⟩ = some (.int .i64 e.m))
      (first | go_keep | (go_split_ands; refine ⟨?_, ?_, ?_, ?_⟩ <;> exact kcell (by assumption) (by assumption)))
      (first
        | (go_at_call_of 25 (Value.int .i64 1); refine (number_any _ _ _ hk0 hk1).mono ?_; rintro e w1 ⟨rfl, hb1⟩)
        | (go_at_call_of 25 (Value.int .i64 2); refine (number_any _ _ _ hi0 hi1).mono ?_; rintro e w2 ⟨rfl, hb2⟩)
        | (go_at_call_of 25 (Value.int .i64 3); refine (number_any _ _ _ hn0 hn1).mono ?_; rintro e w3 ⟨rfl, hb3⟩)
        | (go_at_call_of 25 (Value.int .i64 4); refine (number_any _ _ _ hm0 hm1).mono ?_; rintro e w4 ⟨rfl, hb4⟩))
    all_goals (go_wp2_with fail; go_meet; refine ⟨_, _, _, _, rfl, OwnF.newL (Reps.mk4 (rep_fnum (by unfold i64; omega) HZ1.out) (rep_fnum (by unfold i64; omega) HZ2.out) (rep_fnum (by unfold i64; omega) HZ3.out) (rep_fnum (by unfold i64; omega) HZ4.out)) ?_ rfl (by simp) _ rfl, (by (repeat (first | exact Below.refl _ _ | assumption | refine bthen ?_ (by assumption) | refine balloc ?_ _ | refine bdrew ?_)))⟩; refine Below.size (B := wb.heap.size) ?_; (repeat (first | exact Below.refl _ _ | assumption | refine bthen ?_ (by assumption) | refine balloc ?_ _ | refine bdrew ?_)))
  case rest =>
    obtain ⟨A0, n0, c0, G, rfl, hown, hb⟩ := hcut
    have hq := kcell hb (HC.out 4 _ rfl)
    go_wp2_with fail
    go_loopw [3, 26] (fun v i wr => ∃ (k : Nat), k ≤ n1 ∧ i = .int .i64 k ∧ EvAt wb ([inum 1 e.kind, inum 2 e.id, inum 3 e.n, inum 4 e.m] ++ (e.rows.take k).map fun r => ftxt 5 (putRow r)) v wr)
      (fun _ i _ => n1 - (intOf i).toNat)
    case atStart => exact ⟨0, Nat.zero_le _, rfl, _, _, _, _, rfl, by simpa using hown, hb⟩
    case round =>
      clear hq hb hown
      obtain ⟨k, hk, rfl, A6, m, c6, G6, rfl, hown, hb⟩ := hrel
      by_cases hlt : k < n1
      · have hkl : k < e.rows.length := by rw [← HL1.out]; exact hlt
        obtain ⟨b, o, u, rfl, _, hbl, hrep, hc⟩ := (H1.out.below hb (Nat.le_refl _)).at1 hkl (by decide)
        obtain ⟨r, hf⟩ : ∃ v, v = e.rows[k] := ⟨_, rfl⟩
        rw [← hf] at hrep
        have hrl := rowsLen_get e.rows k hkl
        rw [← hf] at hrl
        have HF := Lib.hid hf; clear hf
        obtain ⟨Ar, nr, cr, hu, hsl⟩ := hrep
        obtain rfl : u = .slice Ar nr cr := by simpa using hu
        clear hu
        have hm := hown.len
        have hm2 : m ≤ 8589934592 := by rw [hm]; simp only [List.length_append, List.length_map, List.length_take, List.length_cons, List.length_nil]; omega
        clear hm
        have HO := Lib.hid hown; have HSL := Lib.hid hsl; clear hown hsl
        have hsz := hb.size
        have HRL := Lib.hid (show wlen (r.map fun v => ftxt 1 (putValue v)) ≤ 4294967200 by have := wlen_vals 1 r; omega)
        go_wp2_with (first
          | (go_at_call 28; refine (values_any 1 (by unfold i64; omega) F Ar nr cr r _ HSL.out (by omega)).mono ?_; rintro e w1 ⟨A7, n7, c7, rfl, hown7, hb7⟩; have HO7 := Lib.hid hown7.sl; clear hown7; have HB7 := Lib.hid hb7; clear hb7)
          | (go_at_call 27; refine (dput1_any _ _ _ _ _ _ HO7.out HRL.out).mono ?_; rintro e w2 ⟨A8, n8, c8, rfl, hown8, hb8⟩; have HO8 := Lib.hid hown8; clear hown8; have HB8 := Lib.hid (HB7.out.trans (hb8.mono HB7.out.size)); clear hb8)
          | (go_at_call 26; refine (dtext_any _ _ _ _ _).mono ?_; rintro e w3 ⟨rfl, hb9⟩; have HB9 := Lib.hid hb9; clear hb9)
          | (at_builtin; refine apl1 (T := tFld) elemFld w3 wb rfl (.tmp 30) (.tmp 35) rfl wb.heap.size A6 m c6 _ rfl G6 (fun b => A8 = some ⟨b, 0, none⟩ ∧ wr.heap.size ≤ b)
                (HO.out.keepB (HB8.out.trans (HB9.out.mono HB8.out.size))) ((hb.trans (HB8.out.mono hsz)).trans (HB9.out.mono (Nat.le_trans hsz HB8.out.size))) (Nat.le_refl _) _ rfl _ (ftxt 5 (putRow r))
                ⟨A8, n8, c8, rfl, by unfold i64; simp [ftxt], by simp [ftxt], ((HO8.out.bs.weaken (fun b h _ => ⟨h.1, Nat.le_trans HB7.out.size h.2⟩)).below HB9.out (Nat.le_refl _))⟩ 75 rfl (fun b h1 _ _ h4 => by obtain ⟨e1, _, e3⟩ := HO.out.lies (b := b) (by simp [Value.ownBlock, h1]); have := h4.2; omega) (by omega) ?_; intro A5 c5 w5 h5))
        go_roundw
        case rel =>
          have e1 : (e.rows.take (k + 1)).map (fun r => ftxt 5 (putRow r)) = (e.rows.take k).map (fun r => ftxt 5 (putRow r)) ++ [ftxt 5 (putRow r)] := by
            rw [List.take_succ_eq_append_getElem hkl, List.map_append, ← HF.out]; rfl
          have e2 := h5.own
          rw [List.append_assoc, ← e1] at e2
          exact ⟨k + 1, by omega, by go_num, A5, m + 1, c5, _, rfl, e2, h5.below⟩
        case measure => simp [intOf]; omega
      · obtain rfl : k = n1 := by omega
        rw [show e.rows.take k = e.rows from List.take_of_length_le (by rw [← HL1.out]; exact Nat.le_refl _)] at hown
        have HO := Lib.hid hown; clear hown
        have hq := kcell hb (HC.out 5 _ rfl)
        go_wp2_with fail
        go_loopw [3, 41] (fun v i wr => ∃ (k : Nat), k ≤ n2 ∧ i = .int .i64 k ∧ EvAt wb (([inum 1 e.kind, inum 2 e.id, inum 3 e.n, inum 4 e.m] ++ e.rows.map fun r => ftxt 5 (putRow r)) ++ (e.keys.take k).map fun x => ftxt 6 (putKey x)) v wr)
          (fun _ i _ => n2 - (intOf i).toNat)
        case atStart => exact ⟨0, Nat.zero_le _, rfl, _, _, _, _, rfl, by simpa using HO.out, hb⟩
        case round =>
          clear hq hb HO
          obtain ⟨k, hk, rfl, A6, m, c6, G6, rfl, hown, hb⟩ := hrel
          by_cases hlt : k < n2
          · have hkl : k < e.keys.length := by rw [← HL2.out]; exact hlt
            obtain ⟨b, o, cs, rfl, _, hbl, hrep, hc⟩ := (H2.out.below hb (Nat.le_refl _)).at_ hkl (by decide)
            obtain ⟨x, hf⟩ : ∃ v, v = e.keys[k] := ⟨_, rfl⟩
            rw [← hf] at hrep
            have HF := Lib.hid hf; clear hf
            obtain ⟨rfl, ⟨hx0, hx1⟩, ⟨hy0, hy1⟩, ⟨hz0, hz1⟩⟩ := hrep
            obtain ⟨g0, g1, g2⟩ := cells3 hc
            clear hc
            have HX := Lib.hid (zigN_lt x.id hx0 hx1); have HY := Lib.hid (zigN_lt x.bucket hy0 hy1); have HZ := Lib.hid (zigN_lt x.row hz0 hz1)
            have hm := hown.len
            have hm2 : m ≤ 8589934592 := by rw [hm]; simp only [List.length_append, List.length_map, List.length_take, List.length_cons, List.length_nil]; have := rowsLen_count e.rows; omega
            clear hm
            have HO := Lib.hid hown; clear hown
            have hsz := hb.size
            have hbk : Below wb.heap.size wb wr := hb
            have HBK := Lib.hid hb; clear hb hbk
            go_wp2_with fail
            go_region_held3 (fun w' => w'.cell? ⟨wr.heap.size, 0, none⟩ = some (.int .i64 x.id) ∧ w'.cell? ⟨wr.heap.size, 1, none⟩ = some (.int .i64 x.bucket) ∧ w'.cell? ⟨wr.heap.size, 2, none⟩ = some (.int .i64 x.row))
              (first | go_keep | (go_split_ands; refine ⟨?_, ?_, ?_⟩ <;> exact kcell (by assumption) (by assumption)) | (go_split_ands; refine ⟨?_, ?_, ?_⟩ <;> exact hg9.cell (by assumption) (HO.out.offNew (Nat.le_refl _))))
              (first
                | (go_at_call_of 25 (Value.int .i64 1); refine (number_any _ _ _ hx0 hx1).mono ?_; rintro e w1 ⟨rfl, hb1⟩)
                | (go_at_call_of 25 (Value.int .i64 2); refine (number_any _ _ _ hy0 hy1).mono ?_; rintro e w2 ⟨rfl, hb2⟩)
                | (go_at_call_of 25 (Value.int .i64 3); refine (number_any _ _ _ hz0 hz1).mono ?_; rintro e w3 ⟨rfl, hb3⟩)
                | (go_at_call 27; refine (dput1_any (fun _ => True) _ _ _ [inum 1 x.id, inum 2 x.bucket, inum 3 x.row] _ (Sl.new3 (rep_fnum (by unfold i64; omega) HX.out) (rep_fnum (by unfold i64; omega) HY.out) (rep_fnum (by unfold i64; omega) HZ.out) _ _ rfl).any (by simp [wlen, inum, fnum])).mono ?_; rintro e w4 ⟨A7, n7, c7, rfl, hown7, hb4⟩; have hs7 := hown7.bs.weaken (F' := fun b => A7 = some ⟨b, 0, none⟩ ∧ wr.heap.size ≤ b) (fun b h _ => ⟨h.1, by refine Nat.le_trans (size_le (B := wr.heap.size) (a := wr) ?_) h.2; (repeat (first | exact Below.refl _ _ | assumption | refine bthen ?_ (by assumption) | refine balloc ?_ _ | refine bdrew ?_))⟩))
                | (go_at_call 26; refine (dtext_any _ _ _ _ _).mono ?_; rintro e w5 ⟨rfl, hb5⟩)
                | (have hbw : Below wr.heap.size wr w5 := (by (repeat (first | exact Below.refl _ _ | assumption | refine bthen ?_ (by assumption) | refine balloc ?_ _ | refine bdrew ?_)))
                   refine step_apl1 (T := tFld) elemFld w5 wb rfl (.tmp 45) (.tmp 58) rfl wb.heap.size A6 m c6 _ rfl G6 (fun b => A7 = some ⟨b, 0, none⟩ ∧ wr.heap.size ≤ b)
                    (HO.out.keepB hbw) (HBK.out.trans (hbw.mono hsz)) (Nat.le_refl _) _ rfl _ (ftxt 6 (putKey x)) ⟨A7, n7, c7, rfl, by unfold i64; simp [ftxt], by simp [ftxt], hs7.below hb5 (Nat.le_refl _)⟩ 75 rfl
                    (fun b h1 _ _ h4 => by obtain ⟨e1, _, e3⟩ := HO.out.lies (b := b) (by simp [Value.ownBlock, h1]); have := h4.2; omega) (by omega) ?_
                   intro A9 c9 w9 h9; have hg9 := h9.grown))
            all_goals
              go_wp2_with fail
              go_roundw
              case rel =>
                have e1 : (e.keys.take (k + 1)).map (fun r => ftxt 6 (putKey r)) = (e.keys.take k).map (fun r => ftxt 6 (putKey r)) ++ [ftxt 6 (putKey x)] := by
                  rw [List.take_succ_eq_append_getElem hkl, List.map_append, ← HF.out]; rfl
                have e2 := h9.own
                rw [List.append_assoc, ← e1] at e2
                exact ⟨k + 1, by omega, by go_num, A9, m + 1, c9, _, rfl, e2, h9.below⟩
              case measure => simp [intOf]; omega
          · obtain rfl : k = n2 := by omega
            rw [show e.keys.take k = e.keys from List.take_of_length_le (by rw [← HL2.out]; exact Nat.le_refl _)] at hown
            have hm := hown.len
            have hm2 : m ≤ 8589934592 := by rw [hm]; simp only [List.length_append, List.length_map, List.length_cons, List.length_nil]; have := rowsLen_count e.rows; omega
            clear hm
            have HO := Lib.hid hown; clear hown
            have hq := kcell hb (HC.out 6 _ rfl)
            have hsz := hb.size
            have HBK := Lib.hid hb
            go_wp2_with (first
              | (go_at_call 25; refine (number_any _ _ _ hh0 hh1).mono ?_; rintro e w2 ⟨rfl, hb4⟩; have HB4 := Lib.hid hb4; clear hb4)
              | (at_builtin; refine apl1 (T := tFld) elemFld w2 wb rfl (.tmp 61) (.tmp 66) rfl wb.heap.size A6 m c6 _ rfl G6 (fun _ => False)
                    (HO.out.keepB HB4.out) (HBK.out.trans (HB4.out.mono hsz)) (Nat.le_refl _) _ rfl _ (inum 7 e.list.high)
                    ⟨none, 0, 0, rfl, by unfold i64; simp [inum, fnum], HZ7.out, Sl.nil_ _ _ _⟩ 75 rfl (fun _ _ _ _ h4 => h4) (by omega) ?_; intro A5 c5 w5 h5))
            clear hq hb
            have hb := h5.below
            have hq1 := kcell hb (HC.out 7 _ rfl)
            have hq2 := kcell hb (HC.out 8 _ rfl)
            have hs5 := h5.own.sl.any
            have H3' := Lib.hid (H3.out.below hb (Nat.le_refl _)); have H4' := Lib.hid (H4.out.below hb (Nat.le_refl _))
            go_cut [3] from 68 to 77 (fun x wx => EvAt wb ([inum 1 e.kind, inum 2 e.id, inum 3 e.n, inum 4 e.m] ++ e.rows.map (fun r => ftxt 5 (putRow r)) ++ e.keys.map (fun x => ftxt 6 (putKey x)) ++ [inum 7 e.list.high] ++ e.list.except.map (inum 8) ++ e.cols.map (inum 9)) x wx)
            case first =>
              go_region_held3 (fun w' => w'.cell? ⟨w.heap.size, 7, none⟩ = some (.slice A3 n3 c3) ∧ w'.cell? ⟨w.heap.size, 8, none⟩ = some (.slice A4 n4 c4))
                (first | go_keep | (go_split_ands; refine ⟨?_, ?_⟩ <;> exact kcell (by assumption) (by assumption)))
                (first
                  | (go_at_call_of 30 (Value.int .i64 8); refine (numbers_any 8 (by unfold i64; omega) F A3 n3 c3 e.list.except _ (by have hh := H3'.out; (repeat (first | assumption | exact Sl.nil_ _ _ _ | exact (sb_bs (by assumption)).any | (refine sb_bsA (by assumption) ?_; simp; done) | refine Sl.below ?_ (by assumption) (Nat.le_refl _) | refine Sl.alloc ?_ _ | refine Sl.drew ?_))) hn3').mono ?_; rintro e w1 ⟨A7, n7, c7, rfl, hown7, hb7⟩; have hs7 := hown7.sl)
                  | (go_at_call_of 30 (Value.int .i64 9); refine (numbers_any 9 (by unfold i64; omega) F A4 n4 c4 e.cols _ (by have hh := H4'.out; (repeat (first | assumption | exact Sl.nil_ _ _ _ | exact (sb_bs (by assumption)).any | (refine sb_bsA (by assumption) ?_; simp; done) | refine Sl.below ?_ (by assumption) (Nat.le_refl _) | refine Sl.alloc ?_ _ | refine Sl.drew ?_))) hn4').mono ?_; rintro e w1 ⟨A8, n8, c8, rfl, hown8, hb8⟩; have hs8 := hown8.sl)
                  | (go_at_call 29
                     refine (concatF_any elemFld (fun _ => True) _ 3 3 [[inum 1 e.kind, inum 2 e.id, inum 3 e.n, inum 4 e.m] ++ e.rows.map (fun r => ftxt 5 (putRow r)) ++ e.keys.map (fun x => ftxt 6 (putKey x)) ++ [inum 7 e.list.high], e.list.except.map (inum 8), e.cols.map (inum 9)] _
                      (by refine sl3 (F1 := fun _ => True) (F2 := fun _ => True) (F3 := fun _ => True) ?_ ?_ ?_ _ <;> (repeat (first | assumption | exact Sl.nil_ _ _ _ | exact (sb_bs (by assumption)).any | (refine sb_bsA (by assumption) ?_; simp; done) | refine Sl.below ?_ (by assumption) (Nat.le_refl _) | refine Sl.alloc ?_ _ | refine Sl.drew ?_))) (by omega) (by have := HCN.out; simp; omega)).mono ?_
                     rintro e w3 ⟨A9, n9, c9, rfl, hown9, hb9⟩; obtain ⟨G9, hown9⟩ := hown9))
              all_goals (go_wp2_with fail; go_meet; refine ⟨_, _, _, G9, rfl, ?_, ?_⟩; rotate_left; (· have := h5.below; (refine Below.trans this (Below.mono (B := w5.heap.size) ?_ this.size); (repeat (first | exact Below.refl _ _ | assumption | refine bthen ?_ (by assumption) | refine balloc ?_ _ | refine bdrew ?_)))); (· have h9 := hown9.down (B' := wb.heap.size) (by have := h5.below.size; refine Nat.le_trans this (Below.size (B := w5.heap.size) ?_); (repeat (first | exact Below.refl _ _ | assumption | refine bthen ?_ (by assumption) | refine balloc ?_ _ | refine bdrew ?_))); simpa using h9))
            case rest =>
              clear hb hq1 hq2 hs5 h5
              obtain ⟨A10, n10, c10, G10, rfl, hown, hb⟩ := hcut
              have HO := Lib.hid hown; clear hown
              have hq := kcell hb (HC.out 9 _ rfl)
              go_wp2_with fail
              go_loopw [3, 81] (fun v i wr => ∃ (k : Nat), k ≤ n5 ∧ i = .int .i64 k ∧ EvAt wb (([inum 1 e.kind, inum 2 e.id, inum 3 e.n, inum 4 e.m] ++ e.rows.map (fun r => ftxt 5 (putRow r)) ++ e.keys.map (fun x => ftxt 6 (putKey x)) ++ [inum 7 e.list.high] ++ e.list.except.map (inum 8) ++ e.cols.map (inum 9)) ++ (e.pred.take k).map fun x => ftxt 10 (putNode x)) v wr)
                (fun _ i _ => n5 - (intOf i).toNat)
              case atStart => exact ⟨0, Nat.zero_le _, rfl, _, _, _, _, rfl, by simpa using HO.out, hb⟩
              case round =>
                clear hq hb HO
                obtain ⟨k, hk, rfl, A6, m, c6, G6, rfl, hown, hb⟩ := hrel
                by_cases hlt : k < n5
                · have hkl : k < e.pred.length := by rw [← HL5.out]; exact hlt
                  obtain ⟨b, o, cs, rfl, _, hbl, hrep, hc⟩ := (H5.out.below hb (Nat.le_refl _)).at_ hkl (by decide)
                  obtain ⟨x, hf⟩ : ∃ v, v = e.pred[k] := ⟨_, rfl⟩
                  rw [← hf] at hrep
                  have hrl := predLen_get e.pred k hkl
                  rw [← hf] at hrl
                  have HF := Lib.hid hf; clear hf
                  obtain ⟨Ap, np, cp, Aq, nq, cq, rfl, hx1, hx2, hx3, hx4, hx5⟩ := hrep
                  obtain ⟨g0, g1, g2, g3, g4, g5, g6⟩ := cells7 hc
                  clear hc
                  have hm := hown.len
                  have hm2 : m ≤ 8589934592 := by rw [hm]; simp only [List.length_append, List.length_map, List.length_take, List.length_cons, List.length_nil]; have := HCN.out; omega
                  clear hm
                  have HO := Lib.hid hown; have HS1 := Lib.hid (hx4.alloc (.cells #[.int .i64 x.op, .int .i64 x.col, .bool x.v.null, .int .i64 x.v.n, .string x.v.s, .slice Ap np cp, .slice Aq nq cq] 55)); have HS2 := Lib.hid (hx5.alloc (.cells #[.int .i64 x.op, .int .i64 x.col, .bool x.v.null, .int .i64 x.v.n, .string x.v.s, .slice Ap np cp, .slice Aq nq cq] 55)); clear hown hx4 hx5
                  have hsz := hb.size
                  go_wp2_with (first
                    | (go_at_call 31; refine (node_any x F Ap np cp Aq nq cq _ HS1.out HS2.out hx1 hx2 hx3 (by omega)).mono ?_; rintro e w2 ⟨A8, n8, c8, rfl, hown8, hb8⟩; have HO8 := Lib.hid hown8; clear hown8; have HB8 := Lib.hid hb8; clear hb8)
                    | (go_at_call 26; refine (dtext_any _ _ _ _ _).mono ?_; rintro e w3 ⟨rfl, hb9⟩; have HB9 := Lib.hid hb9; clear hb9)
                    | (at_builtin; have hbw : Below wr.heap.size wr w3 := (by have hh := HB8.out; have hi := HB9.out; (repeat (first | exact Below.refl _ _ | assumption | refine bthen ?_ (by assumption) | refine balloc ?_ _ | refine bdrew ?_))); refine apl1 (T := tFld) elemFld w3 wb rfl (.tmp 85) (.tmp 89) rfl wb.heap.size A6 m c6 _ rfl G6 (fun b => A8 = some ⟨b, 0, none⟩ ∧ wr.heap.size ≤ b)
                          (HO.out.keepB hbw) (hb.trans (hbw.mono hsz)) (Nat.le_refl _) _ rfl _ (ftxt 10 (putNode x))
                          ⟨A8, n8, c8, rfl, by unfold i64; simp [ftxt], by simp [ftxt], ((HO8.out.bs.weaken (fun b h _ => ⟨h.1, by have := h.2; simp at this; omega⟩)).below HB9.out (Nat.le_refl _))⟩ 75 rfl (fun b h1 _ _ h4 => by obtain ⟨e1, _, e3⟩ := HO.out.lies (b := b) (by simp [Value.ownBlock, h1]); have := h4.2; omega) (by omega) ?_; intro A5 c5 w5 h5))
                  go_roundw
                  case rel =>
                    have e1 : (e.pred.take (k + 1)).map (fun r => ftxt 10 (putNode r)) = (e.pred.take k).map (fun r => ftxt 10 (putNode r)) ++ [ftxt 10 (putNode x)] := by
                      rw [List.take_succ_eq_append_getElem hkl, List.map_append, ← HF.out]; rfl
                    have e2 := h5.own
                    rw [List.append_assoc, ← e1] at e2
                    exact ⟨k + 1, by omega, by go_num, A5, m + 1, c5, _, rfl, e2, h5.below⟩
                  case measure => simp [intOf]; omega
                · obtain rfl : k = n5 := by omega
                  rw [show e.pred.take k = e.pred from List.take_of_length_le (by rw [← HL5.out]; exact Nat.le_refl _)] at hown
                  have HS := Lib.hid hown.sl; clear hown
                  go_wp2_with (go_at_call 27; refine (dput1_any _ _ _ _ (putEventF e) _ HS.out HW.out).mono ?_; rintro e w2 ⟨A8, n8, c8, rfl, hown8, hb8⟩)
                  go_ret
                  have q1 := HB.out.size
                  have q2 := hb.size
                  exact ⟨A8, n8, c8, rfl, hown8.down (by omega), (HB.out.trans (hb.mono q1)).trans (hb8.mono (by omega))⟩
end Go.Proofs.YtojenpjafgfpaaaGreatDoor
