/- The closure of names.Chosen: the directories of a kind that are read, sorted. -/
import Derived.Test.YtollmolchcnpeaaGreatDoorNDel2
namespace Go.Proofs.YtollmolchcnpeaaGreatDoor
open Go Go.RowKit

def OfPost (k most : Int) (l : List DD) (w : World) (e : Ending) (w' : World) : Prop :=
  ∃ A' m c' l', e = .returned (.slice A' m c') ∧ l'.Perm (l.filter (keepB k most)) ∧ l'.Pairwise Fore ∧ OwnD w' w.heap.size A' m c' l' ∧ Below w.heap.size w w'
theorem OwnD.down {w : World} {B B' n c : Nat} {A : Option Addr} {l : List DD} (h : OwnD w B A n c l) (hB : B' ≤ B) : OwnD w B' A n c l := ⟨own_down h.row hB, h.ok⟩
theorem keepB_may {k most : Int} {d : DD} (h : keepB k most d = true) : d.kind = k ∧ may d = true ∧ d.hi ≤ most := by
  unfold keepB at h
  simp only [Bool.and_eq_true, decide_eq_true_eq] at h
  exact ⟨h.1, h.2.1, h.2.2⟩
theorem keepB_iff {l : List DD} {k most : Int} {d : DD} : d ∈ l.filter (keepB k most) ↔ El l k most d := by
  rw [List.mem_filter]
  unfold keepB El
  simp only [Bool.and_eq_true, decide_eq_true_eq]

set_option maxRecDepth 100000 in
set_option maxHeartbeats 2000000 in
theorem of_any (k most : Int) (lb mb : Nat) (F : Nat → Prop) (A : Option Addr) (n c : Nat) (l : List DD) (w : World) (hl : w.cell? ⟨lb, 0, none⟩ = some (.slice A n c)) (hm : w.cell? ⟨mb, 0, none⟩ = some (.int .i64 most)) (h : Sl tDD F w A n c l) (hn : n ≤ 34359738368) :
    Calls Tryz.prog 19 #[.int .i64 k, .pointer (some ⟨lb, 0, none⟩), .pointer (some ⟨mb, 0, none⟩)] w (OfPost k most l w) := by
  have HN := Lib.hid h.len
  obtain ⟨w1, hw1⟩ : ∃ w1, w1 = w.alloc (.cells #[.int .i64 k] 3) := ⟨_, rfl⟩
  have hs1 : w1.heap.size = w.heap.size + 1 := by rw [hw1]; simp
  have hb1 : Below w.heap.size w w1 := by rw [hw1]; exact (Below.refl _ _).alloc (Nat.le_refl _) _
  have hk1 : w1.heap[w.heap.size]? = some (.cells #[.int .i64 k] 3 (0, 0)) := by rw [hw1]; exact heap_alloc_new w _
  have HCL := Lib.hid (show Clos w.heap.size mb k most w1 from ⟨by rw [Lib.cell_of_heap hk1]; rfl, kcell hb1 hm⟩)
  have HH := Lib.hid (h.below hb1 (Nat.le_refl _))
  have hl1 := kcell hb1 hl
  have HB1 := Lib.hid hb1
  have hmb : mb < w.heap.size := World.block_lt_of_cell? w _ hm
  have HS1 := Lib.hid hs1
  have HW1 := Lib.hid hw1
  have hlt1 : w.heap.size < w1.heap.size := by omega
  clear h hs1 hb1 hk1 hl hw1
  go_enter Tryz.func19, Tryz.ntmps19
  go_upto_region 1 with fail
  rw [← HW1.out]
  clear HW1
  go_wp2_with (first
    | (go_at_call 21; refine (clone_any F A n c l _ HH.out hn).mono ?_; rintro e w2 ⟨A2, c2, rfl, ho2, hb2⟩; have HO2 := Lib.hid ho2; have HB2 := Lib.hid hb2; have hs2 : w1.heap.size ≤ w2.heap.size := hb2.size; clear ho2 hb2)
    | (go_at_call 20; refine (del_any k most w.heap.size mb w1.heap.size A2 n c2 l _ HO2.out (HCL.out.below HB2.out hlt1 (by omega)) hlt1 (by omega) hs2).mono ?_; rintro e w3 ⟨m, rfl, ho3, hb3⟩; have HO3 := Lib.hid ho3; have HB3 := Lib.hid (HB2.out.trans hb3); have hm3 : m ≤ n := (by rw [ho3.len, HN.out]; exact List.length_filter_le _ _); clear ho3 hb3)
    | (go_at_call 24; refine (sortD_any w1.heap.size m c2 A2 (l.filter (keepB k most)) _ HO3.out (fun d hd => (keepB_may (List.mem_filter.1 hd).2).2.1) (by omega)).mono ?_; rintro e w4 ⟨rfl, l', hp, hs, ho4, hb4⟩; have HP := Lib.hid hp; have HS := Lib.hid hs; have HO4 := Lib.hid ho4; have HB4 := Lib.hid (HB3.out.trans hb4); clear hp hs ho4 hb4)
    | fail)
  go_ret
  exact ⟨A2, m, c2, l', rfl, HP.out, HS.out, HO4.out.down (by omega), HB1.out.trans (HB4.out.mono (by omega))⟩
end Go.Proofs.YtollmolchcnpeaaGreatDoor
