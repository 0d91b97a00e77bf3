/- The layer desk: node. -/
import Derived.Test.YtojenpjafgfpaaaDoorDesk
import Derived.Deep.CutRange
namespace Go.Proofs.YtojenpjafgfpaaaDoor
open Go Go.RowKit
attribute [local go_sem ↓] Go.wp_at_zero Go.wp_at_succ

set_option maxRecDepth 100000 in
set_option maxHeartbeats 2000000 in
theorem node_any (p : PP) (F : Nat → Prop) (A : Option Addr) (n c : Nat) (A' : Option Addr) (n' c' : Nat) (w : World) (h : Sl tVV F w A n c p.vals) (h' : Sl tI64 F w A' n' c' p.l)
    (ho : i64 p.op) (hc : i64 p.col) (hv : p.v.ok) (hl : nodeLen p ≤ 4294967000) :
    Calls Tryd.prog 36 #[.agg #[.int .i64 p.op, .int .i64 p.col, .bool p.v.null, .int .i64 p.v.n, .string p.v.s, .slice A n c, .slice A' n' c']] w (Own1 w (putNode p)) := by
  obtain ⟨ho0, ho1⟩ := ho
  obtain ⟨hc0, hc1⟩ := hc
  have HW := Lib.hid (show wlen (putNodeF p) ≤ 4294967200 by have := putNode_wlen p; omega)
  have hvs : p.v.s.size ≤ 4294967000 ∧ rowLen p.vals ≤ 4294967000 ∧ p.l.length ≤ 4294967000 := by unfold nodeLen vlen at hl; omega
  obtain ⟨hvs, hrl, hll⟩ := hvs
  have HZ1 := Lib.hid (zigN_lt p.op ho0 ho1)
  have HZ2 := Lib.hid (zigN_lt p.col hc0 hc1)
  have hln := h'.len
  have HLN := Lib.hid hln
  have hln2 : n' ≤ 4294967000 := by omega
  have HNV := Lib.hid (show (putNodeF p).length ≤ 4294967000 by
    have := rowLen_count p.vals
    unfold nodeLen at hl
    simp only [putNodeF, List.length_append, List.length_map, List.length_cons, List.length_nil]; omega)
  clear hln
  clear hl
  go_enter Tryd.func36, Tryd.ntmps36
  go_wp2_with fail
  go_cut [3] from 4 to 14 (fun x wx => ∃ b, x = .slice (some ⟨b, 0, none⟩) 3 3 ∧ Sl tFld (fun _ => True) wx (some ⟨b, 0, none⟩) 3 3 [inum 1 p.op, inum 2 p.col, ftxt 3 (putValue p.v)] ∧ Below w.heap.size w wx ∧
    wx.cell? ⟨w.heap.size, 5, none⟩ = some (.slice A n c) ∧ wx.cell? ⟨w.heap.size, 6, none⟩ = some (.slice A' n' c'))
  case first =>
    go_region_held3 (fun w' => w'.cell? ⟨w.heap.size, 0, none⟩ = some (.int .i64 p.op) ∧ w'.cell? ⟨w.heap.size, 1, none⟩ = some (.int .i64 p.col) ∧ w'.cell? ⟨w.heap.size, 2, none⟩ = some (.bool p.v.null) ∧ w'.cell? ⟨w.heap.size, 3, none⟩ = some (.int .i64 p.v.n) ∧ w'.cell? ⟨w.heap.size, 4, none⟩ = some (.string p.v.s) ∧ w'.cell? ⟨w.heap.size, 5, none⟩ = some (.slice A n c) ∧ w'.cell? ⟨w.heap.size, 6, none⟩ = some (.slice A' n' c'))
      (first | go_keep | (go_split_ands; refine ⟨?_, ?_, ?_, ?_, ?_, ?_, ?_⟩ <;> exact kcell (by assumption) (by assumption)))
      (first
        | (go_at_call_of 30 (Value.int .i64 1); refine (number_any _ _ _ ho0 ho1).mono ?_; rintro e w1 ⟨rfl, hb1⟩)
        | (go_at_call_of 30 (Value.int .i64 2); refine (number_any _ _ _ hc0 hc1).mono ?_; rintro e w2 ⟨rfl, hb2⟩)
        | (go_at_call 43; refine (putValue_any p.v hv hvs _).mono ?_; rintro e w3 ⟨A3, n3, c3, rfl, hown3, hb3⟩; have hs3 := hown3.bs.any)
        | (go_at_call 31; refine (dtext_any _ _ _ _ _).mono ?_; rintro e w4 ⟨rfl, hb4⟩))
    all_goals (go_wp2_with fail; go_split_ands; go_meet; exact ⟨_, rfl, (by refine (Sl.new3 (rep_fnum (by unfold i64; omega) HZ1.out) (rep_fnum (by unfold i64; omega) HZ2.out) (rep_ftxt (by unfold i64; omega) ?_) _ _ rfl).any; (repeat (first | assumption | exact Sl.nil_ _ _ _ | exact (sb_bs (by assumption)).any | (refine sb_bsA (by assumption) ?_; simp; done) | refine Sl.below ?_ (by assumption) (Nat.le_refl _) | refine Sl.alloc ?_ _ | refine Sl.drew ?_))), (by (repeat (first | exact Below.refl _ _ | assumption | refine bthen ?_ (by assumption) | refine balloc ?_ _ | refine bdrew ?_))), (by assumption), (by assumption)⟩)
  case rest =>
    obtain ⟨b, rfl, hs0, hb0, hc5, hc6⟩ := hcut
    have HS0 := Lib.hid hs0; have HB0 := Lib.hid hb0
    have HH := Lib.hid (h.below hb0 (Nat.le_refl _)); have HH' := Lib.hid (h'.below hb0 (Nat.le_refl _))
    clear h h' hs0 hb0
    go_wp2_with fail
    go_region_held3 (fun w' => w'.cell? ⟨w.heap.size, 5, none⟩ = some (.slice A n c) ∧ w'.cell? ⟨w.heap.size, 6, none⟩ = some (.slice A' n' c'))
      (first | go_keep | (go_split_ands; refine ⟨?_, ?_⟩ <;> exact kcell (by assumption) (by assumption)))
      (first
        | (go_at_call 33; refine (values_any 4 (by unfold i64; omega) F A n c p.vals _ (by have hh := HH.out; (repeat (first | assumption | exact Sl.nil_ _ _ _ | exact (sb_bs (by assumption)).any | (refine sb_bsA (by assumption) ?_; simp; done) | refine Sl.below ?_ (by assumption) (Nat.le_refl _) | refine Sl.alloc ?_ _ | refine Sl.drew ?_))) hrl).mono ?_; rintro e w1 ⟨A1, n1, c1, rfl, hown1, hb1⟩; have hs1 := hown1.sl)
        | (go_at_call 35; refine (numbers_any 5 (by unfold i64; omega) F A' n' c' p.l _ (by have hh := HH'.out; (repeat (first | assumption | exact Sl.nil_ _ _ _ | exact (sb_bs (by assumption)).any | (refine sb_bsA (by assumption) ?_; simp; done) | refine Sl.below ?_ (by assumption) (Nat.le_refl _) | refine Sl.alloc ?_ _ | refine Sl.drew ?_))) hln2).mono ?_; rintro e w2 ⟨A2, n2, c2, rfl, hown2, hb2⟩; have hs2 := hown2.sl)
        | (go_at_call 34
           refine (concatF_any elemFld (fun _ => True) _ 3 3 [[inum 1 p.op, inum 2 p.col, ftxt 3 (putValue p.v)], p.vals.map (fun v => ftxt 4 (putValue v)), p.l.map (inum 5)] _
            (by have hh := HS0.out; refine sl3 (F1 := fun _ => True) (F2 := fun _ => True) (F3 := fun _ => True) ?_ ?_ ?_ _ <;> (repeat (first | assumption | exact Sl.nil_ _ _ _ | exact (sb_bs (by assumption)).any | (refine sb_bsA (by assumption) ?_; simp; done) | refine Sl.below ?_ (by assumption) (Nat.le_refl _) | refine Sl.alloc ?_ _ | refine Sl.drew ?_))) (by omega) (by have := HNV.out; simp [putNodeF] at this ⊢; omega)).mono ?_
           rintro e w3 ⟨A3, n3, c3, rfl, hown3, hb3⟩; have hs3 := hown3.sl)
        | (go_at_call 32; refine (dput1_any (fun _ => True) _ _ _ (putNodeF p) _ (by simpa [putNodeF] using hs3) HW.out).mono ?_; rintro e w4 ⟨A4, n4, c4, rfl, hown4, hb4⟩))
    all_goals (go_wp2_with fail; go_ret; exact ⟨A4, n4, c4, rfl, hown4.down (by have := hb1.size; have := hb2.size; have := hb3.size; have := HB0.out.size; simp at *; omega), by have := HB0.out; (repeat (first | exact Below.refl _ _ | assumption | refine bthen ?_ (by assumption) | refine balloc ?_ _ | refine bdrew ?_))⟩)
end Go.Proofs.YtojenpjafgfpaaaDoor
