/- The layer desk: number, text, put, values, numbers. -/
import Derived.Test.YtojenpjafgfpaaaDoorWire2
namespace Go.Proofs.YtojenpjafgfpaaaDoor
open Go Go.RowKit

/-! how long what is written is, at most -/
def vlen (v : VV) : Nat := v.s.size + 100
def rowLen : List VV → Nat
  | [] => 100
  | v :: r => vlen v + rowLen r
def nodeLen (p : PP) : Nat := vlen p.v + rowLen p.vals + 20 * p.l.length + 200
theorem rowLen_get : ∀ (l : List VV) (k : Nat) (h : k < l.length), vlen (l[k]'h) ≤ rowLen l
  | v :: r, 0, _ => by simp only [rowLen, List.getElem_cons_zero]; omega
  | v :: r, k + 1, h => by have := rowLen_get r k (by simpa using h); simp only [rowLen, List.getElem_cons_succ]; omega
theorem rowLen_count : ∀ (l : List VV), l.length ≤ rowLen l
  | [] => by simp
  | v :: r => by have := rowLen_count r; simp only [rowLen, vlen, List.length_cons]; omega
theorem putValue_len (v : VV) : (putValue v).length ≤ v.s.size + 60 := by
  have h := dput_len (putValueF v)
  have e : v.s.data.toList.length = v.s.size := Array.length_toList
  have hw : wlen (putValueF v) ≤ v.s.size + 60 := by simp only [putValueF, wlen, fnum, ftxt, e, List.length_nil]; omega
  unfold putValue
  omega
theorem wlen_vals (tag : Int) : ∀ (l : List VV), wlen (l.map fun v => ftxt tag (putValue v)) + 100 ≤ rowLen l
  | [] => by simp [wlen, rowLen]
  | v :: r => by
    have := wlen_vals tag r
    have := putValue_len v
    simp only [List.map_cons, wlen, rowLen, vlen, ftxt] at *; omega
theorem wlen_nums (tag : Int) : ∀ (l : List Int), wlen (l.map (inum tag)) = 20 * l.length
  | [] => by simp [wlen]
  | v :: r => by
    have := wlen_nums tag r
    simp only [List.map_cons, wlen, inum, fnum, List.length_cons, List.length_nil] at *; omega
theorem putRow_len (r : List VV) : (putRow r).length + 100 ≤ rowLen r := by
  have h := dput_len (r.map fun v => ftxt 1 (putValue v))
  have := wlen_vals 1 r
  unfold putRow; omega
theorem putNode_wlen (p : PP) : wlen (putNodeF p) + 100 ≤ nodeLen p := by
  have h1 := putValue_len p.v
  have h2 := wlen_vals 4 p.vals
  have h3 := wlen_nums 5 p.l
  simp only [putNodeF, wlen_append, wlen, inum, fnum, ftxt, List.length_nil, nodeLen, vlen] at *
  omega
theorem putNode_len (p : PP) : (putNode p).length + 100 ≤ nodeLen p := by
  have h := dput_len (putNodeF p)
  have := putNode_wlen p
  unfold putNode; omega
theorem putKey_len (k : KK) : (putKey k).length ≤ 60 := by
  have h := dput_len [inum 1 k.id, inum 2 k.bucket, inum 3 k.row]
  have hw : wlen [inum 1 k.id, inum 2 k.bucket, inum 3 k.row] = 60 := by simp [wlen, inum, fnum]
  unfold putKey
  omega

set_option maxRecDepth 100000 in
set_option maxHeartbeats 400000 in
theorem number_any (tag x : Int) (w : World) (h0 : -9223372036854775808 ≤ x) (h1 : x ≤ 9223372036854775807) :
    Calls Tryd.prog 30 #[.int .i64 tag, .int .i64 x] w (IsFld tag false (zigN x) none 0 0 w) := by
  go_enter Tryd.func30, Tryd.ntmps30
  go_wp2_with (go_at_call 60; refine (zig_any x _ h0 h1).mono ?_; rintro e w' ⟨rfl, rfl⟩)
  exact bodyPost_ret (v := .agg #[_, _, _, _]) (by simp [results, Tryd.results30, go_sem]) rfl ⟨rfl, (Below.refl _ w).alloc (Nat.le_refl _) _⟩
set_option maxRecDepth 100000 in
set_option maxHeartbeats 400000 in
theorem dtext_any (tag : Int) (A : Option Addr) (n c : Nat) (w : World) :
    Calls Tryd.prog 31 #[.int .i64 tag, .slice A n c] w (IsFld tag true 0 A n c w) := by
  go_enter Tryd.func31, Tryd.ntmps31
  go_wp2
  exact bodyPost_ret (v := .agg #[_, _, _, _]) (by simp [results, Tryd.results31, go_sem]) rfl ⟨rfl, (Below.refl _ w).alloc (Nat.le_refl _) _⟩
set_option maxRecDepth 100000 in
set_option maxHeartbeats 400000 in
theorem dput1_any (F : Nat → Prop) (A : Option Addr) (n c : Nat) (l : List Fld) (w : World) (h : Sl tFld F w A n c l) (hl : wlen l ≤ 4294967200) :
    Calls Tryd.prog 32 #[.slice A n c] w (Own1 w (dput l)) := by
  have hlen : n ≤ 4294967296 := by
    have := h.len
    have : ∀ l : List Fld, l.length ≤ wlen l := fun l => by
      induction l with
      | nil => simp
      | cons f r ih => simp only [wlen, List.length_cons]; omega
    have := this l
    omega
  go_enter Tryd.func32, Tryd.ntmps32
  go_wp2_with (go_at_call 61; refine (wput_any F A n c l _ h hlen hl).mono ?_; rintro e w1 ⟨A1, n1, c1, rfl, hown, hb⟩)
  go_ret
  exact ⟨A1, n1, c1, rfl, hown, hb⟩

theorem elemFld : ElemOf Tryd.prog 82 80 tFld.size := ElemOf.mk' (bytes := 48) (z := .agg #[.int .i64 0, .bool false, .int .u64 0, .slice none 0 0]) (by kernel_rfl) (by kernel_rfl) rfl (by decide) (by decide)

/-- A list of fields that a call builds. -/
def OwnFs (w : World) (l : List Fld) (e : Ending) (w' : World) : Prop :=
  ∃ A n c, e = .returned (.slice A n c) ∧ Own tFld 80 w' w.heap.size A n c l ∧ Below w.heap.size w w'

set_option maxRecDepth 100000 in
set_option maxHeartbeats 1000000 in
theorem values_any (tag : Int) (htag : i64 tag) (F : Nat → Prop) (A : Option Addr) (n c : Nat) (l : List VV) (w : World) (h : Sl tVV F w A n c l) (hl : rowLen l ≤ 4294967000) :
    Calls Tryd.prog 33 #[.int .i64 tag, .slice A n c] w (OwnFs w (l.map fun v => ftxt tag (putValue v))) := by
  have HL := Lib.hid h.len
  have HC := Lib.hid (rowLen_count l)
  have hn : n ≤ 4294967000 := by rw [HL.out]; have := HC.out; omega
  have HT := Lib.hid htag
  clear htag
  go_enter Tryd.func33, Tryd.ntmps33
  go_wp2
  go_loopw [5, 10] (fun v i wr => ∃ (k : Nat) (A2 : Option Addr) (m c2 : Nat) (G : Nat → Prop), k ≤ n ∧ i = .int .i64 k ∧ v = .slice A2 m c2 ∧ OwnF tFld 80 G wr w.heap.size A2 m c2 ((l.take k).map fun v => ftxt tag (putValue v)) ∧ Below w.heap.size w wr)
    (fun _ i _ => n - (intOf i).toNat)
  case atStart => exact ⟨0, none, 0, 0, fun _ => False, Nat.zero_le _, rfl, rfl, OwnF.nil_ _ _ _ _ _, Below.refl _ _⟩
  case round =>
    obtain ⟨k, A2, m, c2, G, hk, rfl, rfl, hown, hb⟩ := hrel
    by_cases hlt : k < n
    · have hkl : k < l.length := by rw [← HL.out]; exact hlt
      obtain ⟨b, o, cs, rfl, _, hbl, hrep, hc⟩ := (h.below hb (Nat.le_refl _)).at_ hkl (by decide)
      obtain ⟨v, hf⟩ : ∃ v, v = l[k] := ⟨_, rfl⟩
      obtain ⟨rfl, hok⟩ := hrep
      rw [← hf] at hc hok
      have hvl := rowLen_get l k hkl
      rw [← hf] at hvl
      unfold vlen at hvl
      have HF := Lib.hid hf; clear hf
      obtain ⟨g0, g1, g2⟩ := cells3 hc
      clear hc
      have hm := hown.len
      have hm2 : m ≤ 4294967000 := by rw [hm, List.length_map, List.length_take]; have := HC.out; omega
      clear hm
      have HO := Lib.hid hown; clear hown
      have hsz := hb.size
      go_wp2_with (first
        | (go_at_call 43; refine (putValue_any v hok (by omega) _).mono ?_; rintro e w1 ⟨A3, n3, c3, rfl, hown3, hb3⟩; have HO3 := Lib.hid hown3; clear hown3; have HB3 := Lib.hid hb3; clear hb3)
        | (go_at_call 31; refine (dtext_any _ _ _ _ _).mono ?_; rintro e w2 ⟨rfl, hb4⟩; have HB4 := Lib.hid hb4; clear hb4)
        | (at_builtin; refine apl1 (T := tFld) elemFld w2 w rfl (.tmp 14) (.tmp 19) rfl w.heap.size A2 m c2 _ rfl G (fun b => A3 = some ⟨b, 0, none⟩ ∧ (wr.heap.size + 1) ≤ b)
              ((HO.out.alloc _).keepB (HB3.out.trans (HB4.out.mono HB3.out.size)) ) (((hb.alloc hsz _).trans (HB3.out.mono (by simp; omega))).trans (HB4.out.mono (by have := HB3.out.size; simp at this; omega))) (Nat.le_refl _) _ rfl _ (ftxt tag (putValue v))
              ⟨A3, n3, c3, rfl, HT.out, by simp [ftxt], ((HO3.out.bs.weaken (fun b h _ => ⟨h.1, by have := h.2; simp at this; omega⟩)).below HB4.out (Nat.le_refl _))⟩ 80 rfl (fun b h1 _ _ h4 => by obtain ⟨e1, _, e3⟩ := HO.out.lies (b := b) (by simp [Value.ownBlock, h1]); have := h4.2; omega) (by omega) ?_; intro A5 c5 w5 h5))
      go_roundw
      case rel =>
        have e1 : (l.take (k + 1)).map (fun v => ftxt tag (putValue v)) = (l.take k).map (fun v => ftxt tag (putValue v)) ++ [ftxt tag (putValue v)] := by
          rw [List.take_succ_eq_append_getElem hkl, List.map_append, ← HF.out]; rfl
        have e2 := h5.own
        rw [← e1] at e2
        exact ⟨k + 1, A5, m + 1, c5, _, by omega, by go_num, rfl, e2, h5.below⟩
      case measure => simp [intOf]; omega
    · obtain rfl : k = n := by omega
      have e1 : l.take k = l := List.take_of_length_le (by rw [← HL.out]; exact Nat.le_refl _)
      rw [e1] at hown
      have HO := Lib.hid hown; clear hown e1
      go_wp2
      go_ret
      exact ⟨A2, m, c2, rfl, ⟨G, HO.out⟩, hb⟩

set_option maxRecDepth 100000 in
set_option maxHeartbeats 1000000 in
theorem numbers_any (tag : Int) (htag : i64 tag) (F : Nat → Prop) (A : Option Addr) (n c : Nat) (l : List Int) (w : World) (h : Sl tI64 F w A n c l) (hl : n ≤ 4294967000) :
    Calls Tryd.prog 35 #[.int .i64 tag, .slice A n c] w (OwnFs w (l.map (inum tag))) := by
  have HL := Lib.hid h.len
  have HT := Lib.hid htag
  clear htag
  go_enter Tryd.func35, Tryd.ntmps35
  go_wp2
  go_loopw [5, 10] (fun v i wr => ∃ (k : Nat) (A2 : Option Addr) (m c2 : Nat) (G : Nat → Prop), k ≤ n ∧ i = .int .i64 k ∧ v = .slice A2 m c2 ∧ OwnF tFld 80 G wr w.heap.size A2 m c2 ((l.take k).map (inum tag)) ∧ Below w.heap.size w wr)
    (fun _ i _ => n - (intOf i).toNat)
  case atStart => exact ⟨0, none, 0, 0, fun _ => False, Nat.zero_le _, rfl, rfl, OwnF.nil_ _ _ _ _ _, Below.refl _ _⟩
  case round =>
    obtain ⟨k, A2, m, c2, G, hk, rfl, rfl, hown, hb⟩ := hrel
    by_cases hlt : k < n
    · have hkl : k < l.length := by rw [← HL.out]; exact hlt
      obtain ⟨b, o, u, rfl, _, hbl, hrep, hc⟩ := (h.below hb (Nat.le_refl _)).at1 hkl (by decide)
      obtain ⟨x, hf⟩ : ∃ v, v = l[k] := ⟨_, rfl⟩
      obtain ⟨hu, hx0, hx1⟩ := hrep
      rw [← hf] at hu hx0 hx1
      obtain rfl : u = .int .i64 x := by simpa using hu
      clear hu
      have HF := Lib.hid hf; clear hf
      have hm := hown.len
      have hm2 : m ≤ 4294967000 := by rw [hm, List.length_map, List.length_take]; omega
      clear hm
      have HO := Lib.hid hown; clear hown
      have hsz := hb.size
      have HZ := Lib.hid (zigN_lt x hx0 hx1)
      go_wp2_with (first
        | (go_at_call 30; refine (number_any _ _ _ hx0 hx1).mono ?_; rintro e w2 ⟨rfl, hb4⟩; have HB4 := Lib.hid hb4; clear hb4)
        | (at_builtin; refine apl1 (T := tFld) elemFld w2 w rfl (.tmp 14) (.tmp 18) rfl w.heap.size A2 m c2 _ rfl G (fun _ => False)
              (HO.out.keepB HB4.out) (hb.trans (HB4.out.mono hsz)) (Nat.le_refl _) _ rfl _ (inum tag x)
              ⟨none, 0, 0, rfl, HT.out, HZ.out, Sl.nil_ _ _ _⟩ 80 rfl (fun _ _ _ _ h4 => h4) (by omega) ?_; intro A5 c5 w5 h5))
      go_roundw
      case rel =>
        have e1 : (l.take (k + 1)).map (inum tag) = (l.take k).map (inum tag) ++ [inum tag x] := by
          rw [List.take_succ_eq_append_getElem hkl, List.map_append, ← HF.out]; rfl
        have e2 := h5.own
        rw [← e1] at e2
        exact ⟨k + 1, A5, m + 1, c5, _, by omega, by go_num, rfl, e2, h5.below⟩
      case measure => simp [intOf]; omega
    · obtain rfl : k = n := by omega
      have e1 : l.take k = l := List.take_of_length_le (by rw [← HL.out]; exact Nat.le_refl _)
      rw [e1] at hown
      have HO := Lib.hid hown; clear hown e1
      go_wp2
      go_ret
      exact ⟨A2, m, c2, rfl, ⟨G, HO.out⟩, hb⟩
end Go.Proofs.YtojenpjafgfpaaaDoor
