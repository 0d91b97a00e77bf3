/- The reference 32: node. -/
import Derived.Test.YtojenpjafgfpaaaDoorRef2
import Derived.Deep.CutRange
namespace Go.Proofs.YtojenpjafgfpaaaDoor
open Go Go.RowKit
attribute [local go_sem ↓] Go.wp_at_zero Go.wp_at_succ

/-- Where the walk stands: the list so far, in the slot and in the world. -/
def EvR (wb : World) (L : List Fld) (x : Value) (wx : World) : Prop :=
  ∃ A n c G, x = .slice A n c ∧ OwnF tFld 94 G wx wb.heap.size A n c L ∧ Below wb.heap.size wb wx
theorem map_take_succ {α β : Type} (f : α → β) {l : List α} {k : Nat} (h : k < l.length) {x : α} (hx : x = l[k]) : (l.take (k + 1)).map f = (l.take k).map f ++ [f x] := by
  rw [List.take_succ_eq_append_getElem h, List.map_append, ← hx]; rfl

set_option maxRecDepth 100000 in
set_option maxHeartbeats 4000000 in
theorem rfnode_any (p : PP) (F : Nat → Prop) (A : Option Addr) (n c : Nat) (A' : Option Addr) (n' c' : Nat) (w : World) (h : Sl tVV F w A n c p.vals) (h' : Sl tI64 F w A' n' c' p.l)
    (ho : i64 p.op) (hc : i64 p.col) (hv : p.v.ok) (hl : nodeLen p ≤ 4294967000) :
    Calls Tryd.prog 42 #[.agg #[.int .i64 p.op, .int .i64 p.col, .bool p.v.null, .int .i64 p.v.n, .string p.v.s, .slice A n c, .slice A' n' c']] w (Own1 w (putNode p)) := by
  obtain ⟨ho0, ho1⟩ := ho
  obtain ⟨hc0, hc1⟩ := hc
  have HW := Lib.hid (show wlen (putNodeF p) ≤ 4294967200 by have := putNode_wlen p; omega)
  have hvs : p.v.s.size ≤ 4294967000 ∧ rowLen p.vals ≤ 4294967000 ∧ p.l.length ≤ 4294967000 := by unfold nodeLen vlen at hl; omega
  obtain ⟨hvs, hrl, hll⟩ := hvs
  have HZ1 := Lib.hid (zigN_lt p.op ho0 ho1)
  have HZ2 := Lib.hid (zigN_lt p.col hc0 hc1)
  have HL := Lib.hid h.len; have HL' := Lib.hid h'.len
  have hn : n ≤ 4294967000 := by rw [HL.out]; have := rowLen_count p.vals; omega
  have hn' : n' ≤ 4294967000 := by rw [HL'.out]; omega
  clear hl
  go_enter Tryd.func42, Tryd.ntmps42
  go_wp2_with fail
  obtain ⟨wb, hwb, hB, hC, hS, hK⟩ := boxed w [.int .i64 p.op, .int .i64 p.col, .bool p.v.null, .int .i64 p.v.n, .string p.v.s, .slice A n c, .slice A' n' c'] 89
  have HB := Lib.hid hB; have HC := Lib.hid hC; have HSZ := Lib.hid hS
  have H1 := Lib.hid (hK h); have H2 := Lib.hid (hK h')
  clear h h' hB hC hS hK
  rw [← hwb]
  clear hwb
  have hcc : wb.cell? ⟨w.heap.size, 0, none⟩ = some (.int .i64 p.op) ∧ wb.cell? ⟨w.heap.size, 1, none⟩ = some (.int .i64 p.col) ∧ wb.cell? ⟨w.heap.size, 2, none⟩ = some (.bool p.v.null) ∧ wb.cell? ⟨w.heap.size, 3, none⟩ = some (.int .i64 p.v.n) ∧ wb.cell? ⟨w.heap.size, 4, none⟩ = some (.string p.v.s) := ⟨HC.out 0 _ rfl, HC.out 1 _ rfl, HC.out 2 _ rfl, HC.out 3 _ rfl, HC.out 4 _ rfl⟩
  obtain ⟨hc0', hc1', hc2', hc3', hc4'⟩ := hcc
  go_cut [3] from 6 to 16 (fun x wx => EvR wb [inum 1 p.op, inum 2 p.col, ftxt 3 (putValue p.v)] x wx)
  case first =>
    go_region_held3 (fun w' => w'.cell? ⟨w.heap.size, 0, none⟩ = some (.int .i64 p.op) ∧ w'.cell? ⟨w.heap.size, 1, none⟩ = some (.int .i64 p.col) ∧ w'.cell? ⟨w.heap.size, 2, none⟩ = some (.bool p.v.null) ∧ w'.cell? ⟨w.heap.size, 3, none⟩ = some (.int .i64 p.v.n) ∧ w'.cell? ⟨w.heap.size, 4, none⟩ = some (.string p.v.s))
      (first | go_keep | (go_split_ands; refine ⟨?_, ?_, ?_, ?_, ?_⟩ <;> exact kcell (by assumption) (by assumption)))
      (first
        | (go_at_call_of 39 (Value.int .i64 1); refine (rfnum_any _ _ _ ho0 ho1).mono ?_; rintro e w1 ⟨rfl, hb1⟩)
        | (go_at_call_of 39 (Value.int .i64 2); refine (rfnum_any _ _ _ hc0 hc1).mono ?_; rintro e w2 ⟨rfl, hb2⟩)
        | (go_at_call 25; refine (rputValue_any p.v hv hvs _).mono ?_; rintro e w3 ⟨A3, n3, c3, rfl, hown3, hb3⟩; have hs3 := hown3.bs.any)
        | (go_at_call 40; refine (rsome_any _ _ _ _ _).mono ?_; rintro e w4 ⟨rfl, hb4⟩))
    all_goals (go_wp2_with fail; go_meet; refine ⟨_, _, _, _, rfl, OwnF.newL (Reps.mk3 (rep_fnum (tag := 1) (by unfold i64; omega) HZ1.out) (rep_fnum (tag := 2) (by unfold i64; omega) HZ2.out) (rep_ftxt (tag := 3) (by unfold i64; omega) ?_)) ?_ rfl (by simp) _ rfl, (by (repeat (first | exact Below.refl _ _ | assumption | refine bthen ?_ (by assumption) | refine balloc ?_ _ | refine bdrew ?_)))⟩; (· (repeat (first | assumption | exact Sl.nil_ _ _ _ | exact (sb_bs (by assumption)).any | (refine sb_bsA (by assumption) ?_; simp; done) | refine Sl.below ?_ (by assumption) (Nat.le_refl _) | refine Sl.alloc ?_ _ | refine Sl.drew ?_))); (· refine Below.size (B := wb.heap.size) ?_; (repeat (first | exact Below.refl _ _ | assumption | refine bthen ?_ (by assumption) | refine balloc ?_ _ | refine bdrew ?_))))
  case rest =>
    obtain ⟨A0, n0, c0, G, rfl, hown, hb⟩ := hcut
    clear hc0' hc1' hc2' hc3' hc4'
    have hq := kcell hb (HC.out 5 _ rfl)
    go_wp2_with fail
    go_loopw [3, 4] (fun v i wr => ∃ (k : Nat), k ≤ n ∧ i = .int .i64 k ∧ EvR wb ([inum 1 p.op, inum 2 p.col, ftxt 3 (putValue p.v)] ++ (p.vals.take k).map fun v => ftxt 4 (putValue v)) v wr)
      (fun _ i _ => n - (intOf i).toNat)
    case atStart => exact ⟨0, Nat.zero_le _, rfl, _, _, _, _, rfl, by simpa using hown, hb⟩
    case round =>
      clear hq hb hown
      obtain ⟨k, hk, rfl, A6, m, c6, G6, rfl, hown, hb⟩ := hrel
      have hq := kcell hb (HC.out 5 _ rfl)
      by_cases hlt : k < n
      · have hkl : k < p.vals.length := by rw [← HL.out]; exact hlt
        obtain ⟨b, o, cs, rfl, _, hbl, hrep, hc⟩ := (H1.out.below hb (Nat.le_refl _)).at_ hkl (by decide)
        obtain ⟨v, hf⟩ : ∃ v, v = p.vals[k] := ⟨_, rfl⟩
        rw [← hf] at hrep
        have hrl2 := rowLen_get p.vals k hkl
        rw [← hf] at hrl2
        have HF := Lib.hid hf; clear hf
        obtain ⟨rfl, hvok⟩ := hrep
        obtain ⟨g0, g1, g2⟩ := cells3 hc
        clear hc
        have hm := hown.len
        have hm2 : m ≤ 8589934592 := by rw [hm]; simp only [List.length_append, List.length_map, List.length_take, List.length_cons, List.length_nil]; omega
        clear hm
        have HO := Lib.hid hown; have HBB := Lib.hid hb; clear hown hb
        have hsz := HBB.out.size
        have hvl : v.s.size ≤ 4294967000 := by unfold vlen at hrl2; omega
        have HV := Lib.hid hvok; clear hvok hrl2
        go_wp2_with (first
          | (go_at_call 25; refine (rputValue_any v HV.out hvl _).mono ?_; rintro e w2 ⟨A8, n8, c8, rfl, hown8, hb8⟩; have HO8 := Lib.hid hown8; have HB8 := Lib.hid hb8; clear hown8 hb8)
          | (go_at_call 40; refine (rsome_any _ _ _ _ _).mono ?_; rintro e w3 ⟨rfl, hb9⟩; have HB9 := Lib.hid hb9; clear hb9)
          | (at_builtin; have hbw : Below wr.heap.size wr w3 := (by have hh := HB8.out; have hi := HB9.out; (repeat (first | exact Below.refl _ _ | assumption | refine bthen ?_ (by assumption) | refine balloc ?_ _ | refine bdrew ?_))); refine apl1 (T := tFld) elemRFld w3 wb rfl (.tmp 24) (.tmp 32) rfl wb.heap.size A6 m c6 _ rfl G6 (fun b => A8 = some ⟨b, 0, none⟩ ∧ wr.heap.size ≤ b)
                (HO.out.keepB hbw) (HBB.out.trans (hbw.mono hsz)) (Nat.le_refl _) _ rfl _ (ftxt 4 (putValue v))
                ⟨A8, n8, c8, rfl, by unfold i64; simp [ftxt], by simp [ftxt], HO8.out.bs.below HB9.out (Nat.le_refl _)⟩ 94 rfl (fun b h1 _ _ h4 => by obtain ⟨e1, _, e3⟩ := HO.out.lies (b := b) (by simp [Value.ownBlock, h1]); have := h4.2; omega) (by omega) ?_; intro A5 c5 w5 h5)
          | fail)
        go_roundw
        case rel =>
          have e2 := h5.own
          rw [List.append_assoc, ← map_take_succ (fun v => ftxt 4 (putValue v)) hkl HF.out] at e2
          exact ⟨k + 1, by omega, by go_num, A5, m + 1, c5, _, rfl, e2, h5.below⟩
        case measure => simp [intOf]; omega
      · obtain rfl : k = n := by omega
        rw [show p.vals.take k = p.vals from List.take_of_length_le (by rw [← HL.out]; exact Nat.le_refl _)] at hown
        have HO := Lib.hid hown; clear hown
        have hq1 := kcell hb (HC.out 6 _ rfl)
        go_wp2_with fail
        clear hq
        go_loopw [3, 5] (fun v i wr => ∃ (j : Nat), j ≤ n' ∧ i = .int .i64 j ∧ EvR wb (([inum 1 p.op, inum 2 p.col, ftxt 3 (putValue p.v)] ++ p.vals.map fun v => ftxt 4 (putValue v)) ++ (p.l.take j).map (inum 5)) v wr)
          (fun _ i _ => n' - (intOf i).toNat)
        case atStart => exact ⟨0, Nat.zero_le _, rfl, _, _, _, _, rfl, by simpa using HO.out, hb⟩
        case round =>
          clear hb HO hq1
          obtain ⟨j, hj, rfl, A6, m, c6, G6, rfl, hown, hb⟩ := hrel
          have hq := kcell hb (HC.out 6 _ rfl)
          by_cases hlt : j < n'
          · have hkl : j < p.l.length := by rw [← HL'.out]; exact hlt
            obtain ⟨b, o, u, rfl, _, hbl, hrep, hc⟩ := (H2.out.below hb (Nat.le_refl _)).at1 hkl rfl
            obtain ⟨x, hf⟩ : ∃ v, v = p.l[j] := ⟨_, rfl⟩
            rw [← hf] at hrep
            have HF := Lib.hid hf; clear hf
            obtain ⟨hu, hx0, hx1⟩ := hrep
            injection hu with hu; subst hu
            have hm := hown.len
            have hm2 : m ≤ 12884901888 := by rw [hm]; simp only [List.length_append, List.length_map, List.length_take, List.length_cons, List.length_nil]; have := rowLen_count p.vals; omega
            clear hm
            have HO := Lib.hid hown; have HBB := Lib.hid hb; clear hown hb
            have hsz := HBB.out.size
            have HX := Lib.hid (zigN_lt x hx0 hx1)
            go_wp2_with (first
              | (go_at_call 39; refine (rfnum_any _ _ _ hx0 hx1).mono ?_; rintro e w3 ⟨rfl, hb9⟩; have HB9 := Lib.hid hb9; clear hb9)
              | (at_builtin; refine apl1 (T := tFld) elemRFld w3 wb rfl (.tmp 41) (.tmp 48) rfl wb.heap.size A6 m c6 _ rfl G6 (fun _ => False)
                    (HO.out.keepB HB9.out) (HBB.out.trans (HB9.out.mono hsz)) (Nat.le_refl _) _ rfl _ (inum 5 x)
                    ⟨none, 0, 0, rfl, by unfold i64; simp [inum, fnum], HX.out, Sl.nil_ _ _ _⟩ 94 rfl (fun _ _ _ _ h4 => h4) (by omega) ?_; intro A5 c5 w5 h5)
              | fail)
            go_roundw
            case rel =>
              have e2 := h5.own
              rw [List.append_assoc, ← map_take_succ (inum 5) hkl HF.out] at e2
              exact ⟨j + 1, by omega, by go_num, A5, m + 1, c5, _, rfl, e2, h5.below⟩
            case measure => simp [intOf]; omega
          · obtain rfl : j = n' := by omega
            rw [show p.l.take j = p.l from List.take_of_length_le (by rw [← HL'.out]; exact Nat.le_refl _)] at hown
            have HS := Lib.hid (show Sl tFld _ wr A6 m c6 (putNodeF p) from hown.sl); clear hown
            go_wp2_with (go_at_call 41; refine (rput_any _ _ _ _ (putNodeF p) _ HS.out HW.out).mono ?_; rintro e w2 ⟨A8, n8, c8, rfl, hown8, hb8⟩)
            go_ret
            have q1 := HB.out.size
            have q2 := hb.size
            exact ⟨A8, n8, c8, rfl, hown8.down (by omega), (HB.out.trans (hb.mono q1)).trans (hb8.mono (by omega))⟩
end Go.Proofs.YtojenpjafgfpaaaDoor
