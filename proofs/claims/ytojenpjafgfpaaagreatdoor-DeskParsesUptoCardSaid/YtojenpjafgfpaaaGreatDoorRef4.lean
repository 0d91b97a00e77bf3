/- The reference 32: node. -/
import Derived.Test.YtojenpjafgfpaaaGreatDoorRef2
import Derived.Deep.CutRange
namespace Go.Proofs.YtojenpjafgfpaaaGreatDoor
open Go Go.RowKit
attribute [local go_sem ↓] Go.wp_at_zero Go.wp_at_succ

/-- Where the walk stands: the list so far, in the slot and in the world. -/
def EvR (wb : World) (L : List Fld) (x : Value) (wx : World) : Prop :=
  ∃ A n c G, x = .slice A n c ∧ OwnF tFld 68 G wx wb.heap.size A n c L ∧ Below wb.heap.size wb wx
theorem map_take_succ {α β : Type} (f : α → β) {l : List α} {k : Nat} (h : k < l.length) {x : α} (hx : x = l[k]) : (l.take (k + 1)).map f = (l.take k).map f ++ [f x] := by
  rw [List.take_succ_eq_append_getElem h, List.map_append, ← hx]; rfl

set_option maxRecDepth 100000 in
set_option maxHeartbeats 4000000 in
theorem rfnode_any (p : PP) (F : Nat → Prop) (A : Option Addr) (n c : Nat) (A' : Option Addr) (n' c' : Nat) (w : World) (h : Sl tVV F w A n c p.vals) (h' : Sl tI64 F w A' n' c' p.l)
    (ho : i64 p.op) (hc : i64 p.col) (hv : p.v.ok) (hl : nodeLen p ≤ 4294967000) :
    Calls Tryz.prog 36 #[.agg #[.int .i64 p.op, .int .i64 p.col, .bool p.v.null, .int .i64 p.v.n, .string p.v.s, .slice A n c, .slice A' n' c']] w (Own1 w (putNode p)) := by
  obtain ⟨ho0, ho1⟩ := ho
  obtain ⟨hc0, hc1⟩ := hc
  have HW := Lib.hid (show wlen (putNodeF p) ≤ 4294967200 by have := putNode_wlen p; omega)
  have hvs : p.v.s.size ≤ 4294967000 ∧ rowLen p.vals ≤ 4294967000 ∧ p.l.length ≤ 4294967000 := by unfold nodeLen vlen at hl; omega
  obtain ⟨hvs, hrl, hll⟩ := hvs
  have HZ1 := Lib.hid (zigN_lt p.op ho0 ho1)
  have HZ2 := Lib.hid (zigN_lt p.col hc0 hc1)
  have HL := Lib.hid h.len; have HL' := Lib.hid h'.len
  have hn : n ≤ 4294967000 := by rw [HL.out]; have := rowLen_count p.vals; omega
  have hn' : n' ≤ 4294967000 := by rw [HL'.out]; omega
  clear hl
  go_enter Tryz.func36, Tryz.ntmps36
  go_wp2_with fail
  obtain ⟨wb, hwb, hB, hC, hS, hK⟩ := boxed w [.int .i64 p.op, .int .i64 p.col, .bool p.v.null, .int .i64 p.v.n, .string p.v.s, .slice A n c, .slice A' n' c'] 55
  have HB := Lib.hid hB; have HC := Lib.hid hC; have HSZ := Lib.hid hS
  have H1 := Lib.hid (hK h); have H2 := Lib.hid (hK h')
  clear h h' hB hC hS hK
  rw [← hwb]
  clear hwb
  have hcc : wb.cell? ⟨w.heap.size, 0, none⟩ = some (.int .i64 p.op) ∧ wb.cell? ⟨w.heap.size, 1, none⟩ = some (.int .i64 p.col) ∧ wb.cell? ⟨w.heap.size, 2, none⟩ = some (.bool p.v.null) ∧ wb.cell? ⟨w.heap.size, 3, none⟩ = some (.int .i64 p.v.n) ∧ wb.cell? ⟨w.heap.size, 4, none⟩ = some (.string p.v.s) := ⟨HC.out 0 _ rfl, HC.out 1 _ rfl, HC.out 2 _ rfl, HC.out 3 _ rfl, HC.out 4 _ rfl⟩
  obtain ⟨hc0', hc1', hc2', hc3', hc4'⟩ := hcc
  go_cut [3] from 6 to 16 (fun x wx => EvR wb [inum 1 p.op, inum 2 p.col, ftxt 3 (putValue p.v)] x wx)
  case first =>
    go_region_held3 (fun w' => w'.cell? ⟨w.heap.size, 0, none⟩ = some (.int .i64 p.op) ∧ w'.cell? ⟨w.heap.size, 1, none⟩ = some (.int .i64 p.col) ∧ w'.cell? ⟨w.heap.size, 2, none⟩ = some (.bool p.v.null) ∧ w'.cell? ⟨w.heap.size, 3, none⟩ = some (.int .i64 p.v.n) ∧ w'.cell? ⟨w.heap.size, 4, none⟩ = some (.string p.v.s))
      (first | go_keep | (go_split_ands; refine ⟨?_, ?_, ?_, ?_, ?_⟩ <;> exact kcell (by assumption) (by assumption)))
      (first
        | (go_at_call_of 32 (Value.int .i64 1); refine (rfnum_any _ _ _ ho0 ho1).mono ?_; rintro e w1 ⟨rfl, hb1⟩)
        | (go_at_call_of 32 (Value.int .i64 2); refine (rfnum_any _ _ _ hc0 hc1).mono ?_; rintro e w2 ⟨rfl, hb2⟩)
        | (go_at_call 34; refine (rputValue_any p.v hv hvs _).mono ?_; rintro e w3 ⟨A3, n3, c3, rfl, hown3, hb3⟩; have hs3 := hown3.bs.any)
        | (go_at_call 33; refine (rsome_any _ _ _ _ _).mono ?_; rintro e w4 ⟨rfl, hb4⟩))
    all_goals (go_wp2_with fail; go_meet; refine ⟨_, _, _, _, rfl, OwnF.newL (Reps.mk3 (rep_fnum (tag := 1) (by unfold i64; omega) HZ1.out) (rep_fnum (tag := 2) (by unfold i64; omega) HZ2.out) (rep_ftxt (tag := 3) (by unfold i64; omega) ?_)) ?_ rfl (by simp) _ rfl, (by (repeat (first | exact Below.refl _ _ | assumption | refine bthen ?_ (by assumption) | refine balloc ?_ _ | refine bdrew ?_)))⟩; (· (repeat (first | assumption | exact Sl.nil_ _ _ _ | exact (sb_bs (by assumption)).any | (refine sb_bsA (by assumption) ?_; simp; done) | refine Sl.below ?_ (by assumption) (Nat.le_refl _) | refine Sl.alloc ?_ _ | refine Sl.drew ?_))); (· refine Below.size (B := wb.heap.size) ?_; (repeat (first | exact Below.refl _ _ | assumption | refine bthen ?_ (by assumption) | refine balloc ?_ _ | refine bdrew ?_))))
  case rest =>
    obtain ⟨A0, n0, c0, G, rfl, hown, hb⟩ := hcut
    clear hc0' hc1' hc2' hc3' hc4'
    have hq := kcell hb (HC.out 5 _ rfl)
    go_wp2_with fail
    go_loopw [3, 4] (fun v i wr => ∃ (k : Nat), k ≤ n ∧ i = .int .i64 k ∧ EvR wb ([inum 1 p.op, inum 2 p.col, ftxt 3 (putValue p.v)] ++ (p.vals.take k).map fun v => ftxt 4 (putValue v)) v wr)
      (fun _ i _ => n - (intOf i).toNat)
    case atStart => exact ⟨0, Nat.zero_le _, rfl, _, _, _, _, rfl, by simpa using hown, hb⟩
    case round =>
      clear hq hb hown
      obtain ⟨k, hk, rfl, A6, m, c6, G6, rfl, hown, hb⟩ := hrel
      have hq := kcell hb (HC.out 5 _ rfl)
      by_cases hlt : k < n
      · have hkl : k < p.vals.length := by rw [← HL.out]; exact hlt
        obtain ⟨b, o, cs, rfl, _, hbl, hrep, hc⟩ := (H1.out.below hb (Nat.le_refl _)).at_ hkl (by decide)
        obtain ⟨v, hf⟩ : ∃ v, v = p.vals[k] := ⟨_, rfl⟩
        rw [← hf] at hrep
        have hrl2 := rowLen_get p.vals k hkl
        rw [← hf] at hrl2
        have HF := Lib.hid hf; clear hf
        obtain ⟨rfl, hvok⟩ := hrep
        obtain ⟨g0, g1, g2⟩ := cells3 hc
        clear hc
        have hm := hown.len
        have hm2 : m ≤ 8589934592 := by rw [hm]; simp only [List.length_append, List.length_map, List.length_take, List.length_cons, List.length_nil]; omega
        clear hm
        have HO := Lib.hid hown; have HBB := Lib.hid hb; clear hown hb
        have hsz := HBB.out.size
        have hvl : v.s.size ≤ 4294967000 := by unfold vlen at hrl2; omega
        have HV := Lib.hid hvok; clear hvok hrl2
        go_wp2_with (first
          | (go_at_call 34; refine (rputValue_any v HV.out hvl _).mono ?_; rintro e w2 ⟨A8, n8, c8, rfl, hown8, hb8⟩; have HO8 := Lib.hid hown8; have HB8 := Lib.hid hb8; clear hown8 hb8)
          | (go_at_call 33; refine (rsome_any _ _ _ _ _).mono ?_; rintro e w3 ⟨rfl, hb9⟩; have HB9 := Lib.hid hb9; clear hb9)
          | (at_builtin; have hbw : Below wr.heap.size wr w3 := (by have hh := HB8.out; have hi := HB9.out; (repeat (first | exact Below.refl _ _ | assumption | refine bthen ?_ (by assumption) | refine balloc ?_ _ | refine bdrew ?_))); refine apl1 (T := tFld) elemRFld w3 wb rfl (.tmp 24) (.tmp 32) rfl wb.heap.size A6 m c6 _ rfl G6 (fun b => A8 = some ⟨b, 0, none⟩ ∧ wr.heap.size ≤ b)
                (HO.out.keepB hbw) (HBB.out.trans (hbw.mono hsz)) (Nat.le_refl _) _ rfl _ (ftxt 4 (putValue v))
                ⟨A8, n8, c8, rfl, by unfold i64; simp [ftxt], by simp [ftxt], HO8.out.bs.below HB9.out (Nat.le_refl _)⟩ 68 rfl (fun b h1 _ _ h4 => by obtain ⟨e1, _, e3⟩ := HO.out.lies (b := b) (by simp [Value.ownBlock, h1]); have := h4.2; omega) (by omega) ?_; intro A5 c5 w5 h5)
          | fail)
        go_roundw
        case rel =>
          have e2 := h5.own
          rw [List.append_assoc, ← map_take_succ (fun v => ftxt 4 (putValue v)) hkl HF.out] at e2
          exact ⟨k + 1, by omega, by go_num, A5, m + 1, c5, _, rfl, e2, h5.below⟩
        case measure => simp [intOf]; omega
      · obtain rfl : k = n := by omega
        rw [show p.vals.take k = p.vals from List.take_of_length_le (by rw [← HL.out]; exact Nat.le_refl _)] at hown
        have HO := Lib.hid hown; clear hown
        have hq1 := kcell hb (HC.out 6 _ rfl)
        go_wp2_with fail
        clear hq
        go_loopw [3, 5] (fun v i wr => ∃ (j : Nat), j ≤ n' ∧ i = .int .i64 j ∧ EvR wb (([inum 1 p.op, inum 2 p.col, ftxt 3 (putValue p.v)] ++ p.vals.map fun v => ftxt 4 (putValue v)) ++ (p.l.take j).map (inum 5)) v wr)
          (fun _ i _ => n' - (intOf i).toNat)
        case atStart => exact ⟨0, Nat.zero_le _, rfl, _, _, _, _, rfl, by simpa using HO.out, hb⟩
        case round =>
          clear hb HO hq1
          obtain ⟨j, hj, rfl, A6, m, c6, G6, rfl, hown, hb⟩ := hrel
          have hq := kcell hb (HC.out 6 _ rfl)
          by_cases hlt : j < n'
          · have hkl : j < p.l.length := by rw [← HL'.out]; exact hlt
            obtain ⟨b, o, u, rfl, _, hbl, hrep, hc⟩ := (H2.out.below hb (Nat.le_refl _)).at1 hkl rfl
            obtain ⟨x, hf⟩ : ∃ v, v = p.l[j] := ⟨_, rfl⟩
            rw [← hf] at hrep
            have HF := Lib.hid hf; clear hf
            obtain ⟨hu, hx0, hx1⟩ := hrep
            injection hu with hu; subst hu
            have hm := hown.len
            have hm2 : m ≤ 12884901888 := by rw [hm]; simp only [List.length_append, List.length_map, List.length_take, List.length_cons, List.length_nil]; have := rowLen_count p.vals; omega
            clear hm
            have HO := Lib.hid hown; have HBB := Lib.hid hb; clear hown hb
            have hsz := HBB.out.size
            have HX := Lib.hid (zigN_lt x hx0 hx1)
            go_wp2_with (first
              | (go_at_call 32; refine (rfnum_any _ _ _ hx0 hx1).mono ?_; rintro e w3 ⟨rfl, hb9⟩; have HB9 := Lib.hid hb9; clear hb9)
              | (at_builtin; refine apl1 (T := tFld) elemRFld w3 wb rfl (.tmp 41) (.tmp 48) rfl wb.heap.size A6 m c6 _ rfl G6 (fun _ => False)
                    (HO.out.keepB HB9.out) (HBB.out.trans (HB9.out.mono hsz)) (Nat.le_refl _) _ rfl _ (inum 5 x)
                    ⟨none, 0, 0, rfl, by unfold i64; simp [inum, fnum], HX.out, Sl.nil_ _ _ _⟩ 68 rfl (fun _ _ _ _ h4 => h4) (by omega) ?_; intro A5 c5 w5 h5)
              | fail)
            go_roundw
            case rel =>
              have e2 := h5.own
              rw [List.append_assoc, ← map_take_succ (inum 5) hkl HF.out] at e2
              exact ⟨j + 1, by omega, by go_num, A5, m + 1, c5, _, rfl, e2, h5.below⟩
            case measure => simp [intOf]; omega
          · obtain rfl : j = n' := by omega
            rw [show p.l.take j = p.l from List.take_of_length_le (by rw [← HL'.out]; exact Nat.le_refl _)] at hown
            have HS := Lib.hid (show Sl tFld _ wr A6 m c6 (putNodeF p) from hown.sl); clear hown
            go_wp2_with (go_at_call 35; refine (rput_any _ _ _ _ (putNodeF p) _ HS.out HW.out).mono ?_; rintro e w2 ⟨A8, n8, c8, rfl, hown8, hb8⟩)
            go_ret
            have q1 := HB.out.size
            have q2 := hb.size
            exact ⟨A8, n8, c8, rfl, hown8.down (by omega), (HB.out.trans (hb.mono q1)).trans (hb8.mono (by omega))⟩
end Go.Proofs.YtojenpjafgfpaaaGreatDoor
/- The reference 32: PutEvent. -/
namespace Go.Proofs.YtojenpjafgfpaaaGreatDoor
open Go Go.RowKit
attribute [local go_sem ↓] Go.wp_at_zero Go.wp_at_succ

set_option maxRecDepth 100000 in
set_option maxHeartbeats 8000000 in
theorem rputEvent_any (e : EE) (F : Nat → Prop) (cs : List Value) (w : World) (h : tEE.rep F w cs e) (hl : evLen e ≤ 4294967000) :
    Calls Tryz.prog 11 #[.agg cs.toArray] w (Own1 w (putEvent e)) := by
  obtain ⟨A1, n1, c1, A2, n2, c2, A3, n3, c3, A4, n4, c4, A5, n5, c5, rfl, ⟨hk0, hk1⟩, ⟨hi0, hi1⟩, ⟨hn0, hn1⟩, ⟨hm0, hm1⟩, ⟨hh0, hh1⟩, h1, h2, h3, h4, h5⟩ := h
  have HW := Lib.hid (show wlen (putEventF e) ≤ 4294967200 by have := putEvent_wlen e; omega)
  have hle : rowsLen e.rows ≤ 4294967000 ∧ 100 * e.keys.length ≤ 4294967000 ∧ 20 * e.list.except.length ≤ 4294967000 ∧ 20 * e.cols.length ≤ 4294967000 ∧ predLen e.pred ≤ 4294967000 := by unfold evLen at hl; omega
  obtain ⟨hle1, hle2, hle3, hle4, hle5⟩ := hle
  have HCN := Lib.hid (show e.rows.length + e.keys.length + e.list.except.length + e.cols.length + e.pred.length ≤ 4294967000 by have := rowsLen_count e.rows; have := predLen_count e.pred; unfold evLen at hl; omega)
  clear hl
  have HL1 := Lib.hid h1.len; have HL2 := Lib.hid h2.len; have HL3 := Lib.hid h3.len; have HL4 := Lib.hid h4.len; have HL5 := Lib.hid h5.len
  have hn1' : n1 ≤ 4294967000 := by rw [HL1.out]; have := rowsLen_count e.rows; omega
  have hn2' : n2 ≤ 4294967000 := by rw [HL2.out]; omega
  have hn3' : n3 ≤ 4294967000 := by rw [HL3.out]; omega
  have hn4' : n4 ≤ 4294967000 := by rw [HL4.out]; omega
  have hn5' : n5 ≤ 4294967000 := by rw [HL5.out]; have := predLen_count e.pred; omega
  have HZ1 := Lib.hid (zigN_lt e.kind hk0 hk1); have HZ2 := Lib.hid (zigN_lt e.id hi0 hi1); have HZ3 := Lib.hid (zigN_lt e.n hn0 hn1); have HZ4 := Lib.hid (zigN_lt e.m hm0 hm1); have HZ7 := Lib.hid (zigN_lt e.list.high hh0 hh1)
  go_enter Tryz.func11, Tryz.ntmps11
  go_wp2_with fail
  obtain ⟨wb, hwb, hB, hC, hS, hK⟩ := boxed w [.int .i64 e.kind, .int .i64 e.id, .int .i64 e.n, .int .i64 e.m, .slice A1 n1 c1, .slice A2 n2 c2, .int .i64 e.list.high, .slice A3 n3 c3, .slice A4 n4 c4, .slice A5 n5 c5] 29
  have HB := Lib.hid hB; have HC := Lib.hid hC; have HSZ := Lib.hid hS
  have H1 := Lib.hid (hK h1); have H2 := Lib.hid (hK h2); have H3 := Lib.hid (hK h3); have H4 := Lib.hid (hK h4); have H5 := Lib.hid (hK h5)
  clear h1 h2 h3 h4 h5 hB hC hS hK
  rw [← hwb]
  clear hwb
  have hcc : wb.cell? ⟨w.heap.size, 0, none⟩ = some (.int .i64 e.kind) ∧ wb.cell? ⟨w.heap.size, 1, none⟩ = some (.int .i64 e.id) ∧ wb.cell? ⟨w.heap.size, 2, none⟩ = some (.int .i64 e.n) ∧ wb.cell? ⟨w.heap.size, 3, none⟩ = some (.int .i64 e.m) := ⟨HC.out 0 _ rfl, HC.out 1 _ rfl, HC.out 2 _ rfl, HC.out 3 _ rfl⟩
  obtain ⟨hc0, hc1, hc2, hc3⟩ := hcc
  go_cut [3] from 12 to 24 (fun x wx => EvR wb [inum 1 e.kind, inum 2 e.id, inum 3 e.n, inum 4 e.m] x wx)
  case first =>
    go_region_held3 (fun w' => w'.cell? ⟨w.heap.size, 0, none⟩ = some (.int .i64 e.kind) ∧ w'.cell? ⟨w.heap.size, 1, none⟩ = some (.int .i64 e.id) ∧ w'.cell? ⟨w.heap.size, 2, none⟩ = some (.int .i64 e.n) ∧ w'.cell? ⟨w.heap.size, 3, none⟩ = some (.int .i64 e.m))
      (first | go_keep | (go_split_ands; refine ⟨?_, ?_, ?_, ?_⟩ <;> exact kcell (by assumption) (by assumption)))
      (first
        | (go_at_call_of 32 (Value.int .i64 1); refine (rfnum_any _ _ _ hk0 hk1).mono ?_; rintro e w1 ⟨rfl, hb1⟩)
        | (go_at_call_of 32 (Value.int .i64 2); refine (rfnum_any _ _ _ hi0 hi1).mono ?_; rintro e w2 ⟨rfl, hb2⟩)
        | (go_at_call_of 32 (Value.int .i64 3); refine (rfnum_any _ _ _ hn0 hn1).mono ?_; rintro e w3 ⟨rfl, hb3⟩)
        | (go_at_call_of 32 (Value.int .i64 4); refine (rfnum_any _ _ _ hm0 hm1).mono ?_; rintro e w4 ⟨rfl, hb4⟩))
    all_goals (go_wp2_with fail; go_meet; refine ⟨_, _, _, _, rfl, OwnF.newL (Reps.mk4 (rep_fnum (by unfold i64; omega) HZ1.out) (rep_fnum (by unfold i64; omega) HZ2.out) (rep_fnum (by unfold i64; omega) HZ3.out) (rep_fnum (by unfold i64; omega) HZ4.out)) ?_ rfl (by simp) _ rfl, (by (repeat (first | exact Below.refl _ _ | assumption | refine bthen ?_ (by assumption) | refine balloc ?_ _ | refine bdrew ?_)))⟩; refine Below.size (B := wb.heap.size) ?_; (repeat (first | exact Below.refl _ _ | assumption | refine bthen ?_ (by assumption) | refine balloc ?_ _ | refine bdrew ?_)))
  case rest =>
    obtain ⟨A0, n0, c0, G, rfl, hown, hb⟩ := hcut
    clear hc0 hc1 hc2 hc3
    have HO := Lib.hid hown; clear hown
    have hq := kcell hb (HC.out 4 _ rfl)
    go_wp2_with fail
    go_loopw [3, 4] (fun v i wr => ∃ (k : Nat), k ≤ n1 ∧ i = .int .i64 k ∧ EvR wb (([inum 1 e.kind, inum 2 e.id, inum 3 e.n, inum 4 e.m]) ++ (e.rows.take k).map fun r => ftxt 5 (putRow r)) v wr)
      (fun _ i _ => n1 - (intOf i).toNat)
    case atStart => exact ⟨0, Nat.zero_le _, rfl, _, _, _, _, rfl, by simpa using HO.out, hb⟩
    case round =>
      clear hq hb HO
      obtain ⟨k, hk, rfl, A6, m, c6, G6, rfl, hown, hb⟩ := hrel
      have hq := kcell hb (HC.out 4 _ rfl)
      by_cases hlt : k < n1
      · have hkl : k < e.rows.length := by rw [← HL1.out]; exact hlt
        have hm := hown.len
        have hm2 : m ≤ 8589934592 := by
          rw [hm]; have := HCN.out; have := List.length_take_le k e.rows
          simp only [List.length_append, List.length_map, List.length_cons, List.length_nil]; omega
        clear hm
        have HO := Lib.hid hown; have HBB := Lib.hid hb; clear hown
        have hsz := HBB.out.size
        obtain ⟨b, o, u, rfl, _, hbl, hrep, hc⟩ := (H1.out.below hb (Nat.le_refl _)).at1 hkl (by decide)
        obtain ⟨r, hf⟩ : ∃ v, v = e.rows[k] := ⟨_, rfl⟩
        rw [← hf] at hrep
        have hrl := rowsLen_get e.rows k hkl
        rw [← hf] at hrl
        have HF := Lib.hid hf; clear hf hb
        obtain ⟨Ar, nr, cr, hu, hsl⟩ := hrep
        injection hu with hu; subst hu
        have hHLR := hsl.len
        have hnr : nr ≤ 4294967000 := by rw [hHLR]; have := rowLen_count r; omega
        have HLR := Lib.hid hHLR; have HSL := Lib.hid hsl; clear hsl hHLR
        have HRL := Lib.hid (show wlen (r.map fun v => ftxt 1 (putValue v)) ≤ 4294967200 by have := wlen_vals 1 r; omega)
        have HRV := Lib.hid (show rowLen r ≤ 4294967000 by omega)
        clear hrl
        obtain ⟨wo, rfl⟩ : ∃ wo : World, wo = wr := ⟨_, rfl⟩
        have HNEW := Lib.hid (OwnF.newL (T := tFld) (F := fun _ => True) (w := wo) (e := 68) (B := wo.heap.size) (n := 0) Reps.nil_ (Nat.le_refl _) rfl (by omega) (.cells #[] 68) rfl)
        have HNB := Lib.hid ((Below.refl wo.heap.size wo).alloc (Nat.le_refl _) (.cells #[] 68))
        have q4 := kcell HNB.out hq
        have q5 := kcell HNB.out hc
        go_wp2_with fail
        go_loopw [5, 6] (fun v i wx => ∃ (j : Nat), j ≤ nr ∧ i = .int .i64 j ∧ EvR wo ((r.take j).map fun v => ftxt 1 (putValue v)) v wx)
          (fun _ i _ => nr - (intOf i).toNat)
        case atStart => exact ⟨0, Nat.zero_le _, rfl, _, _, _, _, rfl, HNEW.out, HNB.out⟩
        case round =>
          clear HNEW HNB q4 q5
          obtain ⟨j, hj, rfl, A7, m7, c7, G7, rfl, hown7, hb7⟩ := hrel
          have HO7 := Lib.hid hown7; have HB7 := Lib.hid hb7
          have hm7 : m7 ≤ 4294967000 := by rw [hown7.len, List.length_map, List.length_take]; omega
          have q4 := kcell hb7 hq
          have q5 := kcell hb7 hc
          have hs7 := hb7.size
          clear hown7
          by_cases hlt2 : j < nr
          · have hkl2 : j < r.length := by rw [← HLR.out]; exact hlt2
            obtain ⟨b1, o1, cs, rfl, _, hbl1, hrep, hc1⟩ := (HSL.out.below hb7 (Nat.le_refl _)).at_ hkl2 (by decide)
            obtain ⟨v, hf⟩ : ∃ v, v = r[j] := ⟨_, rfl⟩
            rw [← hf] at hrep
            have hrl2 := rowLen_get r j hkl2
            rw [← hf] at hrl2
            have HF2 := Lib.hid hf; clear hf hb7
            obtain ⟨rfl, hvok⟩ := hrep
            obtain ⟨g0, g1, g2⟩ := cells3 hc1
            clear hc1 hq hc
            have hvl : v.s.size ≤ 4294967000 := by have := HRV.out; unfold vlen at hrl2; omega
            have HV := Lib.hid hvok; clear hvok hrl2
            go_wp2_with (first
              | (go_at_call 34; refine (rputValue_any v HV.out hvl _).mono ?_; rintro e w2 ⟨A8, n8, c8, rfl, hown8, hb8⟩; have HO8 := Lib.hid hown8; have HB8 := Lib.hid hb8; clear hown8 hb8)
              | (go_at_call 33; refine (rsome_any _ _ _ _ _).mono ?_; rintro e w3 ⟨rfl, hb9⟩; have HB9 := Lib.hid hb9; clear hb9)
              | (at_builtin; have hbw : Below wr.heap.size wr w3 := (by have hh := HB8.out; have hi := HB9.out; (repeat (first | exact Below.refl _ _ | assumption | refine bthen ?_ (by assumption) | refine balloc ?_ _ | refine bdrew ?_))); refine apl1 (T := tFld) elemRFld w3 wo rfl (.tmp 43) (.tmp 54) rfl wo.heap.size A7 m7 c7 _ rfl G7 (fun b => A8 = some ⟨b, 0, none⟩ ∧ wr.heap.size ≤ b)
                    (HO7.out.keepB hbw) (HB7.out.trans (hbw.mono hs7)) (Nat.le_refl _) _ rfl _ (ftxt 1 (putValue v))
                    ⟨A8, n8, c8, rfl, by unfold i64; simp [ftxt], by simp [ftxt], HO8.out.bs.below HB9.out (Nat.le_refl _)⟩ 68 rfl (fun b h1 _ _ h4 => by obtain ⟨e1, _, e3⟩ := HO7.out.lies (b := b) (by simp [Value.ownBlock, h1]); have := h4.2; omega) (by omega) ?_; intro A5 c5 w5 h5)
              | fail)
            go_roundw
            case rel =>
              have e2 := h5.own
              rw [← map_take_succ (fun v => ftxt 1 (putValue v)) hkl2 HF2.out] at e2
              exact ⟨j + 1, by omega, by go_num, A5, m7 + 1, c5, _, rfl, e2, h5.below⟩
            case measure => simp [intOf]; omega
          · obtain rfl : j = nr := by omega
            have HS7 := Lib.hid (show Sl tFld _ wr A7 m7 c7 (r.map fun v => ftxt 1 (putValue v)) by have := HO7.out.sl; rw [show r.take j = r from List.take_of_length_le (by rw [← HLR.out]; exact Nat.le_refl _)] at this; exact this)
            clear hb7 hq hc
            go_wp2_with (first
              | (go_at_call 35; refine (rput_any _ _ _ _ _ _ HS7.out HRL.out).mono ?_; rintro e w2 ⟨A8, n8, c8, rfl, hown8, hb8⟩; have HO8 := Lib.hid hown8; have HB8 := Lib.hid (HB7.out.trans (hb8.mono hs7)); clear hown8 hb8)
              | (go_at_call 33; refine (rsome_any _ _ _ _ _).mono ?_; rintro e w3 ⟨rfl, hb9⟩; have HB9 := Lib.hid hb9; clear hb9)
              | (at_builtin; have hbw : Below wo.heap.size wo w3 := (by have hh := HB8.out; have hi := HB9.out; (repeat (first | exact Below.refl _ _ | assumption | refine bthen ?_ (by assumption) | refine balloc ?_ _ | refine bdrew ?_))); refine apl1 (T := tFld) elemRFld w3 wb rfl (.tmp 56) (.tmp 60) rfl wb.heap.size A6 m c6 _ rfl G6 (fun b => A8 = some ⟨b, 0, none⟩ ∧ wo.heap.size ≤ b)
                    (HO.out.keepB hbw) (HBB.out.trans (hbw.mono hsz)) (Nat.le_refl _) _ rfl _ (ftxt 5 (putRow r))
                    ⟨A8, n8, c8, rfl, by unfold i64; simp [ftxt], by simp [ftxt], (HO8.out.bs.weaken (fun b h _ => ⟨h.1, Nat.le_trans hs7 h.2⟩)).below HB9.out (Nat.le_refl _)⟩ 68 rfl (fun b h1 _ _ h4 => by obtain ⟨e1, _, e3⟩ := HO.out.lies (b := b) (by simp [Value.ownBlock, h1]); have := h4.2; omega) (by omega) ?_; intro A5 c5 w5 h5)
              | fail)
            go_roundw
            case rel =>
              have e2 := h5.own
              rw [List.append_assoc, ← map_take_succ (fun r => ftxt 5 (putRow r)) hkl HF.out] at e2
              exact ⟨k + 1, by omega, by go_num, A5, m + 1, c5, _, rfl, e2, h5.below⟩
            case measure => simp [intOf]; omega
      · obtain rfl : k = n1 := by omega
        rw [show e.rows.take k = e.rows from List.take_of_length_le (by rw [← HL1.out]; exact Nat.le_refl _)] at hown
        have HO := Lib.hid hown; clear hown
        have hq := kcell hb (HC.out 5 _ rfl)
        go_wp2_with fail
        go_loopw [3, 7] (fun v i wr => ∃ (k : Nat), k ≤ n2 ∧ i = .int .i64 k ∧ EvR wb (([inum 1 e.kind, inum 2 e.id, inum 3 e.n, inum 4 e.m] ++ e.rows.map (fun r => ftxt 5 (putRow r))) ++ (e.keys.take k).map fun x => ftxt 6 (putKey x)) v wr)
          (fun _ i _ => n2 - (intOf i).toNat)
        case atStart => exact ⟨0, Nat.zero_le _, rfl, _, _, _, _, rfl, by simpa using HO.out, hb⟩
        case round =>
          clear hq hb HO
          obtain ⟨k, hk, rfl, A6, m, c6, G6, rfl, hown, hb⟩ := hrel
          have hq := kcell hb (HC.out 5 _ rfl)
          by_cases hlt : k < n2
          · have hkl : k < e.keys.length := by rw [← HL2.out]; exact hlt
            have hm := hown.len
            have hm2 : m ≤ 8589934592 := by
              rw [hm]; have := HCN.out; have := List.length_take_le k e.keys
              simp only [List.length_append, List.length_map, List.length_cons, List.length_nil]; omega
            clear hm
            have HO := Lib.hid hown; have HBB := Lib.hid hb; clear hown
            have hsz := HBB.out.size
            obtain ⟨b, o, cs, rfl, _, hbl, hrep, hc⟩ := (H2.out.below hb (Nat.le_refl _)).at_ hkl (by decide)
            obtain ⟨x, hf⟩ : ∃ v, v = e.keys[k] := ⟨_, rfl⟩
            rw [← hf] at hrep
            have HF := Lib.hid hf; clear hf hb
            obtain ⟨rfl, ⟨hx0, hx1⟩, ⟨hy0, hy1⟩, ⟨hz0, hz1⟩⟩ := hrep
            obtain ⟨g0, g1, g2⟩ := cells3 hc
            clear hc
            have HX := Lib.hid (zigN_lt x.id hx0 hx1); have HY := Lib.hid (zigN_lt x.bucket hy0 hy1); have HZ := Lib.hid (zigN_lt x.row hz0 hz1)
            go_wp2_with fail
            go_region_held3 (fun w' => w'.cell? ⟨wr.heap.size, 0, none⟩ = some (.int .i64 x.id) ∧ w'.cell? ⟨wr.heap.size, 1, none⟩ = some (.int .i64 x.bucket) ∧ w'.cell? ⟨wr.heap.size, 2, none⟩ = some (.int .i64 x.row))
              (first | go_keep | (go_split_ands; refine ⟨?_, ?_, ?_⟩ <;> exact kcell (by assumption) (by assumption)) | (go_split_ands; refine ⟨?_, ?_, ?_⟩ <;> exact hg9.cell (by assumption) (HO.out.offNew (Nat.le_refl _))))
              (first
                | (go_at_call_of 32 (Value.int .i64 1); refine (rfnum_any _ _ _ hx0 hx1).mono ?_; rintro e w1 ⟨rfl, hb1⟩)
                | (go_at_call_of 32 (Value.int .i64 2); refine (rfnum_any _ _ _ hy0 hy1).mono ?_; rintro e w2 ⟨rfl, hb2⟩)
                | (go_at_call_of 32 (Value.int .i64 3); refine (rfnum_any _ _ _ hz0 hz1).mono ?_; rintro e w3 ⟨rfl, hb3⟩)
                | (go_at_call 35; refine (rput_any (fun _ => True) _ _ _ [inum 1 x.id, inum 2 x.bucket, inum 3 x.row] _ (Sl.new3 (rep_fnum (tag := 1) (by unfold i64; omega) HX.out) (rep_fnum (tag := 2) (by unfold i64; omega) HY.out) (rep_fnum (tag := 3) (by unfold i64; omega) HZ.out) _ _ rfl).any (by simp [wlen, inum, fnum])).mono ?_; rintro e w4 ⟨A7, n7, c7, rfl, hown7, hb4⟩; have hs7 := hown7.bs.weaken (F' := fun b => A7 = some ⟨b, 0, none⟩ ∧ wr.heap.size ≤ b) (fun b h _ => ⟨h.1, by refine Nat.le_trans (size_le (B := wr.heap.size) (a := wr) ?_) h.2; (repeat (first | exact Below.refl _ _ | assumption | refine bthen ?_ (by assumption) | refine balloc ?_ _ | refine bdrew ?_))⟩))
                | (go_at_call 33; refine (rsome_any _ _ _ _ _).mono ?_; rintro e w5 ⟨rfl, hb5⟩)
                | (have hbw : Below wr.heap.size wr w5 := (by (repeat (first | exact Below.refl _ _ | assumption | refine bthen ?_ (by assumption) | refine balloc ?_ _ | refine bdrew ?_)))
                   refine step_apl1 (T := tFld) elemRFld w5 wb rfl (.tmp 74) (.tmp 87) rfl wb.heap.size A6 m c6 _ rfl G6 (fun b => A7 = some ⟨b, 0, none⟩ ∧ wr.heap.size ≤ b)
                    (HO.out.keepB hbw) (HBB.out.trans (hbw.mono hsz)) (Nat.le_refl _) _ rfl _ (ftxt 6 (putKey x)) ⟨A7, n7, c7, rfl, by unfold i64; simp [ftxt], by simp [ftxt], hs7.below hb5 (Nat.le_refl _)⟩ 68 rfl
                    (fun b h1 _ _ h4 => by obtain ⟨e1, _, e3⟩ := HO.out.lies (b := b) (by simp [Value.ownBlock, h1]); have := h4.2; omega) (by omega) ?_
                   intro A9 c9 w9 h9; have hg9 := h9.grown)
                | fail)
            all_goals
              go_wp2_with fail
              go_roundw
              case rel =>
                have e2 := h9.own
                rw [List.append_assoc, ← map_take_succ (fun x => ftxt 6 (putKey x)) hkl HF.out] at e2
                exact ⟨k + 1, by omega, by go_num, A9, m + 1, c9, _, rfl, e2, h9.below⟩
              case measure => simp [intOf]; omega
          · obtain rfl : k = n2 := by omega
            rw [show e.keys.take k = e.keys from List.take_of_length_le (by rw [← HL2.out]; exact Nat.le_refl _)] at hown
            have HO := Lib.hid hown; clear hown
            have hm := HO.out.len
            have hm2 : m ≤ 8589934592 := by
              rw [hm]; have := HCN.out
              simp only [List.length_append, List.length_map, List.length_cons, List.length_nil]; omega
            clear hm
            have hq6 := kcell hb (HC.out 6 _ rfl)
            have hsz := hb.size
            have HBB := Lib.hid hb
            clear hb
            go_wp2_with (first
              | (go_at_call 32; refine (rfnum_any _ _ _ hh0 hh1).mono ?_; rintro e w2 ⟨rfl, hb4⟩; have HB4 := Lib.hid hb4; clear hb4)
              | (at_builtin; refine apl1 (T := tFld) elemRFld w2 wb rfl (.tmp 89) (.tmp 94) rfl wb.heap.size A6 m c6 _ rfl G6 (fun _ => False)
                    (HO.out.keepB HB4.out) (HBB.out.trans (HB4.out.mono hsz)) (Nat.le_refl _) _ rfl _ (inum 7 e.list.high)
                    ⟨none, 0, 0, rfl, by unfold i64; simp [inum, fnum], HZ7.out, Sl.nil_ _ _ _⟩ 68 rfl (fun _ _ _ _ h4 => h4) (by omega) ?_; intro A5 c5 w5 h5; have HO5 := Lib.hid h5.own; have hb5 := h5.below; have hq7 := kcell hb5 (HC.out 7 _ rfl); clear h5)
              | fail)
            clear hq hq6 HO HBB
            have HO := HO5
            have hb := hb5
            have hq := hq7
            clear HO5 hb5 hq7
            go_loopw [3, 9] (fun v i wr => ∃ (k : Nat), k ≤ n3 ∧ i = .int .i64 k ∧ EvR wb (([inum 1 e.kind, inum 2 e.id, inum 3 e.n, inum 4 e.m] ++ e.rows.map (fun r => ftxt 5 (putRow r)) ++ e.keys.map (fun x => ftxt 6 (putKey x)) ++ [inum 7 e.list.high]) ++ (e.list.except.take k).map (inum 8)) v wr)
              (fun _ i _ => n3 - (intOf i).toNat)
            case atStart => exact ⟨0, Nat.zero_le _, rfl, _, _, _, _, rfl, by simpa using HO.out, hb⟩
            case round =>
              clear hq hb HO
              obtain ⟨k, hk, rfl, A6, m, c6, G6, rfl, hown, hb⟩ := hrel
              have hq := kcell hb (HC.out 7 _ rfl)
              by_cases hlt : k < n3
              · have hkl : k < e.list.except.length := by rw [← HL3.out]; exact hlt
                have hm := hown.len
                have hm2 : m ≤ 8589934592 := by
                  rw [hm]; have := HCN.out; have := List.length_take_le k e.list.except
                  simp only [List.length_append, List.length_map, List.length_cons, List.length_nil]; omega
                clear hm
                have HO := Lib.hid hown; have HBB := Lib.hid hb; clear hown
                have hsz := HBB.out.size
                obtain ⟨b, o, u, rfl, _, hbl, hrep, hc⟩ := (H3.out.below hb (Nat.le_refl _)).at1 hkl rfl
                obtain ⟨x, hf⟩ : ∃ v, v = e.list.except[k] := ⟨_, rfl⟩
                rw [← hf] at hrep
                have HF := Lib.hid hf; clear hf hb
                obtain ⟨hu, hx0, hx1⟩ := hrep
                injection hu with hu; subst hu
                have HX := Lib.hid (zigN_lt x hx0 hx1)
                go_wp2_with (first
                  | (go_at_call 32; refine (rfnum_any _ _ _ hx0 hx1).mono ?_; rintro e w3 ⟨rfl, hb9⟩; have HB9 := Lib.hid hb9; clear hb9)
                  | (at_builtin; refine apl1 (T := tFld) elemRFld w3 wb rfl (.tmp 104) (.tmp 112) rfl wb.heap.size A6 m c6 _ rfl G6 (fun _ => False)
                        (HO.out.keepB HB9.out) (HBB.out.trans (HB9.out.mono hsz)) (Nat.le_refl _) _ rfl _ (inum 8 x)
                        ⟨none, 0, 0, rfl, by unfold i64; simp [inum, fnum], HX.out, Sl.nil_ _ _ _⟩ 68 rfl (fun _ _ _ _ h4 => h4) (by omega) ?_; intro A5 c5 w5 h5)
                  | fail)
                go_roundw
                case rel =>
                  have e2 := h5.own
                  rw [List.append_assoc, ← map_take_succ (inum 8) hkl HF.out] at e2
                  exact ⟨k + 1, by omega, by go_num, A5, m + 1, c5, _, rfl, e2, h5.below⟩
                case measure => simp [intOf]; omega
              · obtain rfl : k = n3 := by omega
                rw [show e.list.except.take k = e.list.except from List.take_of_length_le (by rw [← HL3.out]; exact Nat.le_refl _)] at hown
                have HO := Lib.hid hown; clear hown
                have hq := kcell hb (HC.out 8 _ rfl)
                go_wp2_with fail
                go_loopw [3, 10] (fun v i wr => ∃ (k : Nat), k ≤ n4 ∧ i = .int .i64 k ∧ EvR wb (([inum 1 e.kind, inum 2 e.id, inum 3 e.n, inum 4 e.m] ++ e.rows.map (fun r => ftxt 5 (putRow r)) ++ e.keys.map (fun x => ftxt 6 (putKey x)) ++ [inum 7 e.list.high] ++ e.list.except.map (inum 8)) ++ (e.cols.take k).map (inum 9)) v wr)
                  (fun _ i _ => n4 - (intOf i).toNat)
                case atStart => exact ⟨0, Nat.zero_le _, rfl, _, _, _, _, rfl, by simpa using HO.out, hb⟩
                case round =>
                  clear hq hb HO
                  obtain ⟨k, hk, rfl, A6, m, c6, G6, rfl, hown, hb⟩ := hrel
                  have hq := kcell hb (HC.out 8 _ rfl)
                  by_cases hlt : k < n4
                  · have hkl : k < e.cols.length := by rw [← HL4.out]; exact hlt
                    have hm := hown.len
                    have hm2 : m ≤ 8589934592 := by
                      rw [hm]; have := HCN.out; have := List.length_take_le k e.cols
                      simp only [List.length_append, List.length_map, List.length_cons, List.length_nil]; omega
                    clear hm
                    have HO := Lib.hid hown; have HBB := Lib.hid hb; clear hown
                    have hsz := HBB.out.size
                    obtain ⟨b, o, u, rfl, _, hbl, hrep, hc⟩ := (H4.out.below hb (Nat.le_refl _)).at1 hkl rfl
                    obtain ⟨x, hf⟩ : ∃ v, v = e.cols[k] := ⟨_, rfl⟩
                    rw [← hf] at hrep
                    have HF := Lib.hid hf; clear hf hb
                    obtain ⟨hu, hx0, hx1⟩ := hrep
                    injection hu with hu; subst hu
                    have HX := Lib.hid (zigN_lt x hx0 hx1)
                    go_wp2_with (first
                      | (go_at_call 32; refine (rfnum_any _ _ _ hx0 hx1).mono ?_; rintro e w3 ⟨rfl, hb9⟩; have HB9 := Lib.hid hb9; clear hb9)
                      | (at_builtin; refine apl1 (T := tFld) elemRFld w3 wb rfl (.tmp 121) (.tmp 128) rfl wb.heap.size A6 m c6 _ rfl G6 (fun _ => False)
                            (HO.out.keepB HB9.out) (HBB.out.trans (HB9.out.mono hsz)) (Nat.le_refl _) _ rfl _ (inum 9 x)
                            ⟨none, 0, 0, rfl, by unfold i64; simp [inum, fnum], HX.out, Sl.nil_ _ _ _⟩ 68 rfl (fun _ _ _ _ h4 => h4) (by omega) ?_; intro A5 c5 w5 h5)
                      | fail)
                    go_roundw
                    case rel =>
                      have e2 := h5.own
                      rw [List.append_assoc, ← map_take_succ (inum 9) hkl HF.out] at e2
                      exact ⟨k + 1, by omega, by go_num, A5, m + 1, c5, _, rfl, e2, h5.below⟩
                    case measure => simp [intOf]; omega
                  · obtain rfl : k = n4 := by omega
                    rw [show e.cols.take k = e.cols from List.take_of_length_le (by rw [← HL4.out]; exact Nat.le_refl _)] at hown
                    have HO := Lib.hid hown; clear hown
                    have hq := kcell hb (HC.out 9 _ rfl)
                    go_wp2_with fail
                    go_loopw [3, 11] (fun v i wr => ∃ (k : Nat), k ≤ n5 ∧ i = .int .i64 k ∧ EvR wb (([inum 1 e.kind, inum 2 e.id, inum 3 e.n, inum 4 e.m] ++ e.rows.map (fun r => ftxt 5 (putRow r)) ++ e.keys.map (fun x => ftxt 6 (putKey x)) ++ [inum 7 e.list.high] ++ e.list.except.map (inum 8) ++ e.cols.map (inum 9)) ++ (e.pred.take k).map fun x => ftxt 10 (putNode x)) v wr)
                      (fun _ i _ => n5 - (intOf i).toNat)
                    case atStart => exact ⟨0, Nat.zero_le _, rfl, _, _, _, _, rfl, by simpa using HO.out, hb⟩
                    case round =>
                      clear hq hb HO
                      obtain ⟨k, hk, rfl, A6, m, c6, G6, rfl, hown, hb⟩ := hrel
                      have hq := kcell hb (HC.out 9 _ rfl)
                      by_cases hlt : k < n5
                      · have hkl : k < e.pred.length := by rw [← HL5.out]; exact hlt
                        have hm := hown.len
                        have hm2 : m ≤ 8589934592 := by
                          rw [hm]; have := HCN.out; have := List.length_take_le k e.pred
                          simp only [List.length_append, List.length_map, List.length_cons, List.length_nil]; omega
                        clear hm
                        have HO := Lib.hid hown; have HBB := Lib.hid hb; clear hown
                        have hsz := HBB.out.size
                        obtain ⟨b, o, cs, rfl, _, hbl, hrep, hc⟩ := (H5.out.below hb (Nat.le_refl _)).at_ hkl (by decide)
                        obtain ⟨x, hf⟩ : ∃ v, v = e.pred[k] := ⟨_, rfl⟩
                        rw [← hf] at hrep
                        have hrl := predLen_get e.pred k hkl
                        rw [← hf] at hrl
                        have HF := Lib.hid hf; clear hf hb
                        obtain ⟨Ap, np, cp, Aq, nq, cq, rfl, hx1, hx2, hx3, hx4, hx5⟩ := hrep
                        obtain ⟨g0, g1, g2, g3, g4, g5, g6⟩ := cells7 hc
                        clear hc
                        have HS1 := Lib.hid hx4; have HS2 := Lib.hid hx5
                        clear hx4 hx5
                        go_wp2_with (first
                          | (go_at_call 36; refine (rfnode_any x F Ap np cp Aq nq cq _ HS1.out HS2.out hx1 hx2 hx3 (by omega)).mono ?_; rintro e w2 ⟨A8, n8, c8, rfl, hown8, hb8⟩; have HO8 := Lib.hid hown8; clear hown8; have HB8 := Lib.hid hb8; clear hb8)
                          | (go_at_call 33; refine (rsome_any _ _ _ _ _).mono ?_; rintro e w3 ⟨rfl, hb9⟩; have HB9 := Lib.hid hb9; clear hb9)
                          | (at_builtin; have hbw : Below wr.heap.size wr w3 := (by have hh := HB8.out; have hi := HB9.out; (repeat (first | exact Below.refl _ _ | assumption | refine bthen ?_ (by assumption) | refine balloc ?_ _ | refine bdrew ?_))); refine apl1 (T := tFld) elemRFld w3 wb rfl (.tmp 137) (.tmp 145) rfl wb.heap.size A6 m c6 _ rfl G6 (fun b => A8 = some ⟨b, 0, none⟩ ∧ wr.heap.size ≤ b)
                                (HO.out.keepB hbw) (HBB.out.trans (hbw.mono hsz)) (Nat.le_refl _) _ rfl _ (ftxt 10 (putNode x))
                                ⟨A8, n8, c8, rfl, by unfold i64; simp [ftxt], by simp [ftxt], HO8.out.bs.below HB9.out (Nat.le_refl _)⟩ 68 rfl (fun b h1 _ _ h4 => by obtain ⟨e1, _, e3⟩ := HO.out.lies (b := b) (by simp [Value.ownBlock, h1]); have := h4.2; omega) (by omega) ?_; intro A5 c5 w5 h5)
                          | fail)
                        go_roundw
                        case rel =>
                          have e2 := h5.own
                          rw [List.append_assoc, ← map_take_succ (fun x => ftxt 10 (putNode x)) hkl HF.out] at e2
                          exact ⟨k + 1, by omega, by go_num, A5, m + 1, c5, _, rfl, e2, h5.below⟩
                        case measure => simp [intOf]; omega
                      · obtain rfl : k = n5 := by omega
                        rw [show e.pred.take k = e.pred from List.take_of_length_le (by rw [← HL5.out]; exact Nat.le_refl _)] at hown
                        have HO := Lib.hid hown; clear hown
                        have HS := Lib.hid (show Sl tFld _ wr A6 m c6 (putEventF e) from HO.out.sl)
                        go_wp2_with (go_at_call 35; refine (rput_any _ _ _ _ (putEventF e) _ HS.out HW.out).mono ?_; rintro e w2 ⟨A8, n8, c8, rfl, hown8, hb8⟩)
                        go_ret
                        have q1 := HB.out.size
                        have q2 := hb.size
                        exact ⟨A8, n8, c8, rfl, hown8.down (by omega), (HB.out.trans (hb.mono q1)).trans (hb8.mono (by omega))⟩
end Go.Proofs.YtojenpjafgfpaaaGreatDoor
