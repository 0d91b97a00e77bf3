/- The reference 15: Put. column.Put: what it lays down; what it refuses. column.Put: numbers. column.Put: texts. -/
import Derived.Test.YtpmglcachffojaaGreatDoorPk28
import Derived.Test.YtpmglcachffojaaGreatDoorPk27
import Derived.Test.YtpmglcachffojaaGreatDoorPk4
namespace Go.Proofs.YtpmglcachffojaaGreatDoor
open Go Go.RowKit Go.Maps

/-- The cells of a result of a column, not yet set, in any world that keeps them. -/
structure ColZ (g : Nat) (w : World) : Prop where
  at_ : w.heap[g]? = some (.cells #[.int .i64 0, .int .i64 0, .int .i64 0, .slice none 0 0] 27 (0, 0))
theorem ColZ.keep {g : Nat} {w w' : World} (h : ColZ g w) (hb : Below w.heap.size w w') : ColZ g w' := ⟨(hb.block _ (blk_lt h.at_)).trans h.at_⟩
theorem ColZ.lt {g : Nat} {w : World} (h : ColZ g w) : g < w.heap.size := blk_lt h.at_
theorem ColZ.cells {g : Nat} {w : World} (h : ColZ g w) (o : Obj) :
    ((w.alloc o).cell? ⟨g, 0, none⟩ = some (.int .i64 0) ∧ (w.alloc o).frozen? ⟨g, 0, none⟩ = false) ∧ ((w.alloc o).cell? ⟨g, 1, none⟩ = some (.int .i64 0) ∧ (w.alloc o).frozen? ⟨g, 1, none⟩ = false) ∧ ((w.alloc o).cell? ⟨g, 2, none⟩ = some (.int .i64 0) ∧ (w.alloc o).frozen? ⟨g, 2, none⟩ = false) ∧ ((w.alloc o).cell? ⟨g, 3, none⟩ = some (.slice none 0 0) ∧ (w.alloc o).frozen? ⟨g, 3, none⟩ = false) := by
  have hg : (w.alloc o).heap[g]? = some (.cells #[.int .i64 0, .int .i64 0, .int .i64 0, .slice none 0 0] 27 (0, 0)) := (Below.heap_alloc w o _ (blk_lt h.at_)).trans h.at_
  exact ⟨⟨by rw [Lib.cell_of_heap hg]; rfl, Lib.frozen_of_heap hg 0⟩, ⟨by rw [Lib.cell_of_heap hg]; rfl, Lib.frozen_of_heap hg 1⟩, ⟨by rw [Lib.cell_of_heap hg]; rfl, Lib.frozen_of_heap hg 2⟩, ⟨by rw [Lib.cell_of_heap hg]; rfl, Lib.frozen_of_heap hg 3⟩⟩
theorem own_from {w : World} {B B' : Nat} {A : Option Addr} {n c : Nat} {bs : List UInt8} (h : OwnB w B A n c bs) (hB : B' ≤ B) : Sl tU8 (fun b => B' ≤ b) w A n c bs :=
  h.own.sl.weaken fun b hb _ => by
    rcases hb with hb | hb
    · exact hb.elim
    · exact Nat.le_trans hB hb.2
set_option maxRecDepth 100000 in
set_option maxHeartbeats 4000000 in
theorem r15put_any (F : Nat → Prop) (A : Option Addr) (n c : Nat) (l : List ByteArray) (w : World) (h : Sl tStr F w A n c l) (hn : n ≤ 4096) (hs : ∀ s ∈ l, s.size ≤ 300) :
    Calls Tryz.prog 51 #[.slice A n c] w (TxPost l w) := by
  have HL := Lib.hid h.len; have H := Lib.hid h; have HS := Lib.hid hs
  have hn1 : ¬ (n : Int) > 4096 := by omega
  have hn2 : ¬ (4096 : Int) < n := by omega
  have HWL := Lib.hid (words_len l)
  obtain ⟨m, hm⟩ : ∃ m, m = (wordsL l).length := ⟨_, rfl⟩
  have HM := Lib.hid hm
  have hm4 : m ≤ 4096 := by have := HWL.out; rw [← HM.out, ← HL.out] at this; omega
  obtain ⟨wc, hwc⟩ : ∃ wc, wc = w.alloc (.cells #[.int .i64 0, .int .i64 0, .int .i64 0, .slice none 0 0] 27) := ⟨_, rfl⟩
  have hbc : Below w.heap.size w wc := by rw [hwc]; exact (Below.refl _ _).alloc (Nat.le_refl _) _
  have hgc : ColZ w.heap.size wc := ⟨by rw [hwc]; exact heap_alloc_new w _⟩
  have HWC := Lib.hid hwc; have HBC := Lib.hid hbc; have HGC := Lib.hid hgc
  have HC := Lib.hid (h.below hbc (Nat.le_refl _))
  clear h hs hm hwc hbc hgc
  go_enter Tryz.func51, Tryz.ntmps51
  go_upto_region 1 with fail
  rw [← HWC.out]
  go_wp2_with fail
  go_loopw [4] (fun iv wr => ∃ i : Nat, i ≤ n ∧ iv = .int .i64 (i : Int) ∧ wc = wr) (fun iv _ => n - (intOf iv).toNat)
  case atStart => exact ⟨0, Nat.zero_le _, rfl, rfl⟩
  case round =>
    obtain ⟨i, hi, rfl, rfl⟩ := hrel
    by_cases hlt : i < n
    · have hil : i < l.length := by rw [← HL.out]; exact hlt
      obtain ⟨b, o, u, rfl, _, _, hr, hc⟩ := HC.out.at1 hil rfl
      have hsz := HS.out _ (List.getElem_mem hil)
      obtain ⟨s, hs⟩ : ∃ s, s = l[i] := ⟨_, rfl⟩
      obtain ⟨hr, _⟩ := hr
      injection hr with hr; subst hr
      rw [← hs] at hc hsz
      have hz1 : ¬ (s.size : Int) > 300 := by omega
      have hz2 : ¬ (300 : Int) < (s.size : Int) := by omega
      have hz3 : ¬ 300 < s.size := by omega
      have hi0 : (0 : Int) ≤ (i : Int) := by omega
      have hi1 : (i : Int) < (n : Int) := by omega
      clear hs
      go_wp2_with fail
      go_roundw
      case rel => exact ⟨i + 1, by omega, by go_num, trivial⟩
      case measure => simp [intOf]; omega
    · obtain rfl : i = n := by omega
      go_upto_if 38 with (first
        | (go_at_call 107; refine (rwords_any F A i c l _ HC.out hn).mono ?_; rintro e w3 ⟨A3, c3, rfl, ho3, hb3⟩; rw [← HM.out] at ho3 ⊢; have HO3 := Lib.hid ho3; have HB3 := Lib.hid hb3; clear ho3 hb3)
        | fail)
      have HB03 := Lib.hid (HBC.out.trans (HB3.out.mono HBC.out.size))
      have HG3 := Lib.hid (HGC.out.keep HB3.out)
      have HZ3 := Lib.hid (show w.heap.size + 1 ≤ w3.heap.size from HG3.out.lt)
      by_cases hlt2 : i < 2 * m
      · have hI : (i : Int) < 2 * (m : Int) := by omega
        have e1 : txC l = (1, 0, [(2, joinL l), (3, lensB l)]) := if_pos (by rw [← HL.out, ← HM.out]; exact hlt2)
        have HE1 := Lib.hid e1
        clear e1
        go_upto_region 11 with (first
          | (go_at_call 108; refine (rall_any F A i c l _ (H.out.below HB03.out (Nat.le_refl _)) hn HS.out).mono ?_; rintro e w5 ⟨A1, n1, c1, A2, n2, c2, rfl, ho1, ho2, hb5⟩; have HO1 := Lib.hid ho1; have HO2 := Lib.hid ho2; have HB5 := Lib.hid hb5; clear ho1 ho2 hb5)
          | fail)
        have HG5 := Lib.hid (HG3.out.keep HB5.out)
        have hga := HG5.out.cells
        have z0 := fun o => (hga o).1.1; have y0 := fun o => (hga o).1.2; have z1 := fun o => (hga o).2.1.1; have y1 := fun o => (hga o).2.1.2
        have z2 := fun o => (hga o).2.2.1.1; have y2 := fun o => (hga o).2.2.1.2; have z3 := fun o => (hga o).2.2.2.1; have y3 := fun o => (hga o).2.2.2.2
        clear hga
        have s1 := own_from (B' := w.heap.size + 1) HO1.out HZ3.out
        have s2 := own_from (B' := w.heap.size + 1) HO2.out HZ3.out
        have s3 := Sl.news (T := tStream) (F := fun b => w.heap.size + 1 ≤ b) (w := w5) (Reps.mk2 (T := tStream) (x1 := ((2 : Int), joinL l)) (x2 := ((3 : Int), lensB l)) ⟨[.int .i64 2], _, rfl, ⟨rfl, i64_lit 2 (by omega)⟩, _, _, _, rfl, s1⟩ ⟨[.int .i64 3], _, rfl, ⟨rfl, i64_lit 3 (by omega)⟩, _, _, _, rfl, s2⟩) 55 2 rfl (by omega) _ rfl
        have HS3 := Lib.hid s3
        clear s1 s2 s3
        go_wp2_with fail
        refine bodyPost_ret (results_rowB rfl _ _ w.heap.size 27 #[.int .i64 (i : Int), .int .i64 1, .int .i64 0, .slice (some ⟨w5.heap.size, 0, none⟩) 2 2] (0, 0) _ rfl (heap_set (heap_set (heap_set (heap_set ((Below.heap_alloc w5 _ _ HG5.out.lt).trans HG5.out.at_) rfl) rfl) rfl) rfl) Tryz.underlying27 rfl (by kernel_rfl)) rfl ?_
        unfold TxPost
        rw [HE1.out]
        have hz5 := HG5.out.lt
        refine ⟨some ⟨w5.heap.size, 0, none⟩, 2, 2, by rw [← HL.out]; rfl, (HS3.out.keep (by simp) (fun b hb _ => ?_)).weaken (fun b hb _ => by rcases hb with hb | hb <;> omega), ?_⟩
        · have hne : b ≠ w.heap.size := by rcases hb with hb | hb <;> omega
          exact (Below.heap_setCell _ _ _ _ hne).trans ((Below.heap_setCell _ _ _ _ hne).trans ((Below.heap_setCell _ _ _ _ hne).trans (Below.heap_setCell _ _ _ _ hne)))
        · have hbb : Below w.heap.size w w5 := HB03.out.trans (HB5.out.mono HB03.out.size)
          exact bsetc (bsetc (bsetc (bsetc (hbb.alloc hbb.size _) (Nat.le_refl _) _) (Nat.le_refl _) _) (Nat.le_refl _) _) (Nat.le_refl _) _
      · have hI : ¬ (i : Int) < 2 * (m : Int) := by omega
        have e1 : txC l = (2, (m : Int), [(2, rleB false (l.map fun s : ByteArray => (placeN l s : Int))), (3, lensB (wordsS l)), (4, joinL (wordsS l))]) := by
          rw [HM.out]
          exact if_neg (by rw [← HL.out, ← HM.out]; exact hlt2)
        have HE1 := Lib.hid e1
        clear e1
        have HP0 := Lib.hid (OwnF.empty tI64 3 (fun _ => False) w3 w3.heap.size (Nat.le_refl _) (fun _ hb => hb.elim))
        have HPB0 := Lib.hid (show Below w3.heap.size w3 (w3.alloc (.cells #[] 3)) from (Below.refl _ _).alloc (Nat.le_refl _) _)
        go_wp2_with fail
        go_loopw [8, 9] (fun v iv wx => ∃ (j : Nat) (A5 : Option Addr) (c5 : Nat) (G : Nat → Prop), j ≤ i ∧ iv = .int .i64 (j : Int) ∧ v = .slice A5 j c5 ∧ OwnF tI64 3 G wx w3.heap.size A5 j c5 ((l.take j).map fun s : ByteArray => (placeN l s : Int)) ∧ Below w3.heap.size w3 wx) (fun _ iv _ => i - (intOf iv).toNat)
        case atStart => exact ⟨0, _, 0, _, Nat.zero_le _, rfl, rfl, HP0.out, HPB0.out⟩
        case round =>
          obtain ⟨j, A5, c5, G, hj, rfl, rfl, hown5, hb5⟩ := hrel
          have HO5 := Lib.hid hown5; have HB5 := Lib.hid hb5
          clear hown5 hb5
          by_cases hjn : j < i
          · have hjl : j < l.length := by rw [← HL.out]; exact hjn
            obtain ⟨b, o, u, rfl, _, hbl, hr, hc⟩ := (H.out.below (HB03.out.trans (HB5.out.mono HB03.out.size)) (Nat.le_refl _)).at1 hjl rfl
            have hsj := List.getElem_mem hjl
            obtain ⟨t, ht⟩ : ∃ t, t = l[j] := ⟨_, rfl⟩
            obtain ⟨hr, hsz⟩ := hr
            injection hr with hr; subst hr
            rw [← ht] at hc hsz hsj
            have hpl := place_lt l hsj
            have hp4 : placeN l t ≤ 4096 := by have := HM.out; omega
            have HTJ := Lib.hid ht
            have HPL := Lib.hid (show ∀ r, Place (wordsS l) t r → r = (placeN l t : Int) from fun r hr => place_words hsj hr)
            have HP5 := Lib.hid (show (0 : Int) ≤ (placeN l t : Int) ∧ (placeN l t : Int) ≤ 4096 by omega)
            have hi0 : (0 : Int) ≤ (j : Int) := by omega
            have hi1 : (j : Int) < (i : Int) := by omega
            clear ht hsj hpl hsz hp4
            go_wp2_with (first
              | (go_at_call 109; refine (rplace_any _ A3 m c3 (wordsS l) _ ((OwnF.sl HO3.out).below HB5.out (Nat.le_refl _)) t hm4).mono ?_; rintro e w6 ⟨⟨r, rfl, hpl⟩, rfl⟩; obtain rfl := HPL.out r hpl; clear hpl)
              | (at_builtin; refine apl1 (T := tI64) elemI64 wr w3 rfl (.tmp 59) (.tmp 66) rfl w3.heap.size A5 j c5 ((l.take j).map fun s : ByteArray => (placeN l s : Int)) (by rfl) G (fun _ => False) HO5.out HB5.out (Nat.le_refl _) _ (by rfl) [.int .i64 (placeN l t : Int)] (placeN l t : Int) ⟨rfl, i64_lit _ HP5.out⟩ 3 rfl (fun _ _ _ _ h4 => h4) (by omega) ?_; intro A6 c6 w6 h6)
              | fail)
            go_roundw
            case rel => exact ⟨j + 1, A6, c6, _, by omega, by go_num, rfl, by rw [List.take_succ_eq_append_getElem hjl, List.map_append, ← HTJ.out]; exact h6.own, h6.below⟩
            case measure => simp [intOf]; omega
          · obtain rfl : j = i := by omega
            have htk : l.take j = l := List.take_of_length_le (by rw [← HL.out]; exact Nat.le_refl _)
            rw [htk] at HO5
            have HPS := Lib.hid HO5.out.sl
            have HOK := Lib.hid (show NumOk false (l.map fun s : ByteArray => (placeN l s : Int)) from by
              intro x hx
              obtain ⟨s, hs, rfl⟩ := List.mem_map.1 hx
              have h1 := place_lt l hs
              have h2 := HM.out
              exact ⟨by omega, by omega, .inr (by omega)⟩)
            have HSM := Lib.hid (words_small HS.out)
            have HWS := Lib.hid ((OwnF.sl HO3.out).below HB5.out (Nat.le_refl _))
            clear htk
            go_upto_region 18 with (first
              | (go_at_call 106; refine (c11 _ A5 j c5 _ wr HPS.out hn false HOK.out).mono ?_; rintro e w5 ⟨hb6, A7, n7, c7, rfl, ho7⟩; have HO7 := Lib.hid ho7; have HB7 := Lib.hid hb6; clear ho7 hb6)
              | fail)
            have HB57 := Lib.hid (HB5.out.trans (HB7.out.mono HB5.out.size))
            have HWS7 := Lib.hid (HWS.out.below HB7.out (Nat.le_refl _))
            go_upto_region 19 with (first
              | (go_at_call 108; refine (rall_any _ A3 m c3 (wordsS l) _ HWS7.out hm4 HSM.out).mono ?_; rintro e w8 ⟨A1, n1, c1, A2, n2, c2, rfl, ho1, ho2, hb8⟩; have HO1 := Lib.hid ho1; have HO2 := Lib.hid ho2; have HB8 := Lib.hid hb8; clear ho1 ho2 hb8)
              | fail)
            have HB38 := Lib.hid (HB57.out.trans (HB8.out.mono HB57.out.size))
            have HG8 := Lib.hid (HG3.out.keep HB38.out)
            have hga := HG8.out.cells
            have z0 := fun o => (hga o).1.1; have y0 := fun o => (hga o).1.2; have z1 := fun o => (hga o).2.1.1; have y1 := fun o => (hga o).2.1.2
            have z2 := fun o => (hga o).2.2.1.1; have y2 := fun o => (hga o).2.2.1.2; have z3 := fun o => (hga o).2.2.2.1; have y3 := fun o => (hga o).2.2.2.2
            clear hga
            have hz57 := HB57.out.size
            have hzr := HB5.out.size
            have s1 := own_from (B' := w.heap.size + 1) (HO7.out.keepB HB8.out) (Nat.le_trans HZ3.out hzr)
            have s2 := own_from (B' := w.heap.size + 1) HO2.out (Nat.le_trans HZ3.out hz57)
            have s4 := own_from (B' := w.heap.size + 1) HO1.out (Nat.le_trans HZ3.out hz57)
            have s3 := Sl.news (T := tStream) (F := fun b => w.heap.size + 1 ≤ b) (w := w8) (Reps.mk3 (T := tStream) (x1 := ((2 : Int), rleB false (l.map fun s : ByteArray => (placeN l s : Int)))) (x2 := ((3 : Int), lensB (wordsS l))) (x3 := ((4 : Int), joinL (wordsS l))) ⟨[.int .i64 2], _, rfl, ⟨rfl, i64_lit 2 (by omega)⟩, _, _, _, rfl, s1⟩ ⟨[.int .i64 3], _, rfl, ⟨rfl, i64_lit 3 (by omega)⟩, _, _, _, rfl, s2⟩ ⟨[.int .i64 4], _, rfl, ⟨rfl, i64_lit 4 (by omega)⟩, _, _, _, rfl, s4⟩) 55 3 rfl (by omega) _ rfl
            have HS3 := Lib.hid s3
            clear s1 s2 s3 s4 hz57 hzr
            go_wp2_with fail
            refine bodyPost_ret (results_rowB rfl _ _ w.heap.size 27 #[.int .i64 (j : Int), .int .i64 2, .int .i64 (m : Int), .slice (some ⟨w8.heap.size, 0, none⟩) 3 3] (0, 0) _ rfl (heap_set (heap_set (heap_set (heap_set ((Below.heap_alloc w8 _ _ HG8.out.lt).trans HG8.out.at_) rfl) rfl) rfl) rfl) Tryz.underlying27 rfl (by kernel_rfl)) rfl ?_
            unfold TxPost
            rw [HE1.out]
            have hz8 := HG8.out.lt
            refine ⟨some ⟨w8.heap.size, 0, none⟩, 3, 3, by rw [← HL.out]; rfl, (HS3.out.keep (by simp) (fun b hb _ => ?_)).weaken (fun b hb _ => by rcases hb with hb | hb <;> omega), ?_⟩
            · have hne : b ≠ w.heap.size := by rcases hb with hb | hb <;> omega
              exact (Below.heap_setCell _ _ _ _ hne).trans ((Below.heap_setCell _ _ _ _ hne).trans ((Below.heap_setCell _ _ _ _ hne).trans (Below.heap_setCell _ _ _ _ hne)))
            · have hbb : Below w.heap.size w w8 := HB03.out.trans (HB38.out.mono HB03.out.size)
              exact bsetc (bsetc (bsetc (bsetc (hbb.alloc hbb.size _) (Nat.le_refl _) _) (Nat.le_refl _) _) (Nat.le_refl _) _) (Nat.le_refl _) _
end Go.Proofs.YtpmglcachffojaaGreatDoor
namespace Go.Proofs.YtpmglcachffojaaGreatDoor
open Go Go.RowKit

theorem colcells {w : World} {g : Nat} {a b d e : Value} {t : TypeId} (h : w.heap[g]? = some (.cells #[a, b, d, e] t (0, 0))) :
    (w.cell? ⟨g, 0, none⟩ = some a ∧ w.frozen? ⟨g, 0, none⟩ = false) ∧ (w.cell? ⟨g, 1, none⟩ = some b ∧ w.frozen? ⟨g, 1, none⟩ = false) ∧ (w.cell? ⟨g, 2, none⟩ = some d ∧ w.frozen? ⟨g, 2, none⟩ = false) ∧ (w.cell? ⟨g, 3, none⟩ = some e ∧ w.frozen? ⟨g, 3, none⟩ = false) :=
  ⟨⟨by rw [Lib.cell_of_heap h]; rfl, Lib.frozen_of_heap h 0⟩, ⟨by rw [Lib.cell_of_heap h]; rfl, Lib.frozen_of_heap h 1⟩, ⟨by rw [Lib.cell_of_heap h]; rfl, Lib.frozen_of_heap h 2⟩, ⟨by rw [Lib.cell_of_heap h]; rfl, Lib.frozen_of_heap h 3⟩⟩
/-- Four cells of a column, set anew. -/
theorem colset {w : World} {g : Nat} {a b d e : Value} {t : TypeId} (h : w.heap[g]? = some (.cells #[a, b, d, e] t (0, 0))) (a' b' d' e' : Value) :
    ((((w.setCell ⟨g, 0, none⟩ a').setCell ⟨g, 1, none⟩ b').setCell ⟨g, 2, none⟩ d').setCell ⟨g, 3, none⟩ e').heap[g]? = some (.cells #[a', b', d', e'] t (0, 0)) :=
  heap_set (heap_set (heap_set (heap_set h rfl) rfl) rfl) rfl
theorem colset_at {w : World} {g b : Nat} (h : b ≠ g) (a' b' d' e' : Value) :
    ((((w.setCell ⟨g, 0, none⟩ a').setCell ⟨g, 1, none⟩ b').setCell ⟨g, 2, none⟩ d').setCell ⟨g, 3, none⟩ e').heap[b]? = w.heap[b]? :=
  (Below.heap_setCell _ _ _ _ h).trans ((Below.heap_setCell _ _ _ _ h).trans ((Below.heap_setCell _ _ _ _ h).trans (Below.heap_setCell _ _ _ _ h)))
theorem colset_below {w0 w : World} {B g : Nat} (hb : Below B w0 w) (hg : B ≤ g) (a' b' d' e' : Value) :
    Below B w0 ((((w.setCell ⟨g, 0, none⟩ a').setCell ⟨g, 1, none⟩ b').setCell ⟨g, 2, none⟩ d').setCell ⟨g, 3, none⟩ e') :=
  bsetc (bsetc (bsetc (bsetc hb hg _) hg _) hg _) hg _
/-- The encoding, how many words, the streams. -/
def colC (k : Int) (l : List VV) : Int × Int × List (Int × List UInt8) :=
  if 1 ≤ k ∧ k ≤ 5 then (1, 0, [(1, presB l), (2, intsB k (l.filter keepV))])
  else ((txC ((l.filter keepV).map (·.s))).1, (txC ((l.filter keepV).map (·.s))).2.1, (1, presB l) :: (txC ((l.filter keepV).map (·.s))).2.2)
def colE (k : Int) (l : List VV) : Int := if 1 ≤ k ∧ k ≤ 7 then (if l.all (mayV k) then 0 else 21) else 1
/-- Many, the encoding, how many words, the streams. -/
def colR (k : Int) (l : List VV) : Int × Int × Int × List (Int × List UInt8) := if colE k l = 0 then ((l.length : Int), colC k l) else (0, 0, 0, [])
def ColPost (k : Int) (l : List VV) (w : World) (e : Ending) (w' : World) : Prop :=
  ∃ A n c, e = .returned (.tuple #[.agg #[.int .i64 (colR k l).1, .int .i64 (colR k l).2.1, .int .i64 (colR k l).2.2.1, .slice A n c], .int .i64 (colE k l)]) ∧ Sl tStream (fun b => w.heap.size ≤ b) w' A n c (colR k l).2.2.2 ∧ Below w.heap.size w w'
/-- The world behind the first statement: the kind in a box, the result's cells. -/
structure ColW (k : Int) (w wc : World) : Prop where
  eq : wc = (w.alloc (.cells #[.int .i64 k] 3)).alloc (.cells #[.int .i64 0, .int .i64 0, .int .i64 0, .slice none 0 0] 27)
  below : Below w.heap.size w wc
  size : wc.heap.size = w.heap.size + 2
  box : wc.cell? ⟨w.heap.size, 0, none⟩ = some (.int .i64 k)
  col : wc.heap[w.heap.size + 1]? = some (.cells #[.int .i64 0, .int .i64 0, .int .i64 0, .slice none 0 0] 27 (0, 0))
theorem colW (k : Int) (w : World) : ∃ wc, ColW k w wc := by
  refine ⟨_, rfl, ?_, by simp, ?_, ?_⟩
  · have hb1 : Below w.heap.size w (w.alloc (.cells #[.int .i64 k] 3)) := (Below.refl _ _).alloc (Nat.le_refl _) _
    exact hb1.alloc hb1.size _
  · have hgk : ((w.alloc (.cells #[.int .i64 k] 3)).alloc (.cells #[.int .i64 0, .int .i64 0, .int .i64 0, .slice none 0 0] 27)).heap[w.heap.size]? = some (.cells #[.int .i64 k] 3 (0, 0)) := (Below.heap_alloc _ _ _ (by simp)).trans (heap_alloc_new w _)
    rw [Lib.cell_of_heap hgk]; rfl
  · have := heap_alloc_new (w.alloc (.cells #[.int .i64 k] 3)) (.cells #[.int .i64 0, .int .i64 0, .int .i64 0, .slice none 0 0] 27)
    rwa [World.size_alloc] at this
set_option maxRecDepth 100000 in
set_option maxHeartbeats 4000000 in
theorem cput_no (k : Int) (F : Nat → Prop) (A : Option Addr) (n c : Nat) (l : List VV) (w : World) (h : Sl tVV F w A n c l) (hn : n ≤ 4096) (hT : Lib.Utf8Tabs 0 1 w) (hno : ¬ colE k l = 0) :
    Calls Tryz.prog 12 #[.int .i64 k, .slice A n c] w (ColPost k l w) := by
  have hn1 : ¬ (n : Int) > 4096 := by omega
  have hn2 : ¬ (4096 : Int) < n := by omega
  obtain ⟨wc, hwc⟩ := colW k w
  have HWC := Lib.hid hwc
  have HH := Lib.hid (h.below hwc.below (Nat.le_refl _)); have HT := Lib.hid (tabs_below hT hwc.below)
  have HNO := Lib.hid hno
  have HR := Lib.hid (show colR k l = (0, 0, 0, []) from if_neg hno)
  have hcol := hwc.col
  have hbox := hwc.box
  by_cases hk : 1 ≤ k ∧ k ≤ 7
  · have HP := Lib.hid (show decide (1 ≤ k ∧ k ≤ 7) = true from decide_eq_true hk)
    have hq : l.all (mayV k) = false := by
      cases hq : l.all (mayV k) with
      | false => rfl
      | true => exact absurd (by unfold colE; rw [if_pos hk, hq]; rfl) hno
    have HE := Lib.hid (show colE k l = 21 by unfold colE; rw [if_pos hk, hq]; rfl)
    have HQ := Lib.hid (show (!l.all (mayV k)) = true by rw [hq]; rfl)
    clear h hn hT hwc hno hq hk hcol
    go_enter Tryz.func12, Tryz.ntmps12
    go_upto_region 1 with fail
    rw [← HWC.out.eq]
    go_wp2_with (first
      | (go_at_call 38; refine (known_any _ _).mono ?_; rintro e w1 ⟨rfl, rfl⟩; rw [HP.out])
      | (go_at_call 39; refine (wrong_any k w.heap.size F A n c l _ HH.out hbox HT.out).mono ?_; rintro e w1 ⟨rfl, hb1⟩; rw [HQ.out]; have hg1 := (hb1.block _ (blk_lt HWC.out.col)).trans HWC.out.col; obtain ⟨⟨z0, y0⟩, ⟨z1, y1⟩, ⟨z2, y2⟩, ⟨z3, y3⟩⟩ := colcells hg1; have HG1 := Lib.hid hg1; have HB1 := Lib.hid (HWC.out.below.trans (hb1.mono HWC.out.below.size)); clear hg1 hb1)
      | fail)
    refine bodyPost_ret (results_rowB rfl _ _ (w.heap.size + 1) 27 #[.int .i64 0, .int .i64 0, .int .i64 0, .slice none 0 0] (0, 0) _ rfl (colset HG1.out _ _ _ _) Tryz.underlying27 rfl (by kernel_rfl)) rfl ?_
    refine ⟨none, 0, 0, by rw [HR.out, HE.out]; rfl, by rw [HR.out]; exact Sl.nil_ _ _ _, colset_below HB1.out (by omega) _ _ _ _⟩
  · have HP := Lib.hid (show decide (1 ≤ k ∧ k ≤ 7) = false from decide_eq_false hk)
    have HE := Lib.hid (show colE k l = 1 from if_neg hk)
    have hcol2 : wc.heap[w.heap.size + 1]? = some (.cells #[.int .i64 0, .int .i64 0, .int .i64 0, .slice none 0 0] 27 (0, 0)) := hcol
    obtain ⟨⟨z0, y0⟩, ⟨z1, y1⟩, ⟨z2, y2⟩, ⟨z3, y3⟩⟩ := colcells hcol2
    clear h hn hT hwc hno hk hcol hcol2
    go_enter Tryz.func12, Tryz.ntmps12
    go_upto_region 1 with fail
    rw [← HWC.out.eq]
    go_wp2_with (first
      | (go_at_call 38; refine (known_any _ _).mono ?_; rintro e w1 ⟨rfl, rfl⟩; rw [HP.out])
      | fail)
    refine bodyPost_ret (results_rowB rfl _ _ (w.heap.size + 1) 27 #[.int .i64 0, .int .i64 0, .int .i64 0, .slice none 0 0] (0, 0) _ rfl (colset HWC.out.col _ _ _ _) Tryz.underlying27 rfl (by kernel_rfl)) rfl ?_
    refine ⟨none, 0, 0, by rw [HR.out, HE.out]; rfl, by rw [HR.out]; exact Sl.nil_ _ _ _, colset_below HWC.out.below (by omega) _ _ _ _⟩
end Go.Proofs.YtpmglcachffojaaGreatDoor
namespace Go.Proofs.YtpmglcachffojaaGreatDoor
open Go Go.RowKit

set_option maxRecDepth 100000 in
set_option maxHeartbeats 4000000 in
theorem cput_num (k : Int) (F : Nat → Prop) (A : Option Addr) (n c : Nat) (l : List VV) (w : World) (h : Sl tVV F w A n c l) (hn : n ≤ 4096) (hT : Lib.Utf8Tabs 0 1 w) (hk : 1 ≤ k ∧ k ≤ 5) (hall : l.all (mayV k) = true) :
    Calls Tryz.prog 12 #[.int .i64 k, .slice A n c] w (ColPost k l w) := by
  have hn1 : ¬ (n : Int) > 4096 := by omega
  have hn2 : ¬ (4096 : Int) < n := by omega
  obtain ⟨wc, hwc⟩ := colW k w
  have HWC := Lib.hid hwc; have HN := Lib.hid hn; have HK := Lib.hid hk; have HL := Lib.hid h.len
  have HH := Lib.hid (h.below hwc.below (Nat.le_refl _)); have HT := Lib.hid (tabs_below hT hwc.below)
  have hbox := hwc.box
  have HP := Lib.hid (show decide (1 ≤ k ∧ k ≤ 7) = true from decide_eq_true (by omega))
  have HQ := Lib.hid (show (!l.all (mayV k)) = false by rw [hall]; rfl)
  have hE : colE k l = 0 := by unfold colE; rw [if_pos (by omega), hall]; rfl
  have HE := Lib.hid hE
  have HR := Lib.hid (show colR k l = ((l.length : Int), colC k l) from if_pos hE)
  have HM := Lib.hid (show ∀ v ∈ l.filter keepV, v.null = false ∧ mayV k v = true from fun v hv => by
    obtain ⟨h1, h2⟩ := List.mem_filter.1 hv
    exact ⟨by simpa [keepV] using h2, List.all_eq_true.1 hall v h1⟩)
  have HC := Lib.hid (show colC k l = (1, 0, [(1, presB l), (2, intsB k (l.filter keepV))]) from if_pos hk)
  have HNM := Lib.hid (show decide (1 ≤ k ∧ k ≤ 5) = true from decide_eq_true hk)
  clear h hn hT hwc hk hall hE
  go_enter Tryz.func12, Tryz.ntmps12
  go_upto_region 1 with fail
  rw [← HWC.out.eq]
  go_upto_region 10 with (first
    | (go_at_call 38; refine (known_any _ _).mono ?_; rintro e w1 ⟨rfl, rfl⟩; rw [HP.out])
    | (go_at_call 39; refine (wrong_any k w.heap.size F A n c l _ HH.out hbox HT.out).mono ?_; rintro e w1 ⟨rfl, hb1⟩; rw [HQ.out]; have HB1 := Lib.hid hb1; clear hb1)
    | (go_at_call 42; refine (nput_any F A n c l _ (HH.out.below HB1.out (Nat.le_refl _)) HN.out).mono ?_; rintro e w2 ⟨A1, n1, c1, A2, n2, c2, rfl, hs1, hs2, hb2⟩; have HS1 := Lib.hid hs1; have HS2 := Lib.hid hs2; have HB2 := Lib.hid hb2; clear hs1 hs2 hb2)
    | fail)
  have hz1 := HB1.out.size
  have hz2 := HB2.out.size
  have hzc := HWC.out.size
  have HZ1 := Lib.hid hz1; have HZ2 := Lib.hid hz2; have HZC := Lib.hid hzc
  have HL2 := Lib.hid HS2.out.len
  have hn24 : n2 ≤ 4096 := by have := HL2.out; have := List.length_filter_le keepV l; have := HL.out; have := HN.out; omega
  have HN2 := Lib.hid hn24
  have HBX := Lib.hid ((HWC.out.below.trans (HB1.out.mono HWC.out.below.size)).trans (HB2.out.mono (by have := HWC.out.below.size; omega)))
  have hcol2 : w2.heap[w.heap.size + 1]? = some (.cells #[.int .i64 0, .int .i64 0, .int .i64 0, .slice none 0 0] 27 (0, 0)) := (HB2.out.block _ (by omega)).trans ((HB1.out.block _ (by omega)).trans HWC.out.col)
  have HCOL := Lib.hid hcol2
  have HBOX := Lib.hid (kcell HB2.out (kcell HB1.out hbox))
  have HT2 := Lib.hid (tabs_below (tabs_below HT.out HB1.out) HB2.out)
  clear hbox hcol2 hz1 hz2 hzc hn24
  go_upto_region 12 with fail
  obtain ⟨w3, hw3⟩ : ∃ w3, w3 = w2.alloc (.cells #[.int .i64 (n : Int), .int .i64 1, .int .i64 0, .slice none 0 0] 85) := ⟨_, rfl⟩
  rw [← hw3]
  have hbu3 : BuR w2 w2.heap.size (n : Int) 1 0 (fun _ => False) none 0 0 [] w3 := ⟨by rw [hw3]; exact heap_alloc_new w2 _, OwnF.nil_ _ _ _ _ _, by rw [hw3]; exact (Below.refl _ _).alloc (Nat.le_refl _) _⟩
  have BU3 := Lib.hid hbu3
  have HS13 := Lib.hid ((HS1.out.weaken (F' := fun b => w1.heap.size ≤ b ∧ b < w2.heap.size) fun b hb hl => ⟨hb, hl⟩).below hbu3.below (Nat.le_refl _))
  clear hbu3 hw3
  go_upto_region 13 with (first
    | (go_at_call 43; refine (badd_any w2 w2.heap.size (n : Int) 1 0 (fun _ => False) none 0 0 [] w3 BU3.out (fun h => h) 1 (by omega) (fun b => w1.heap.size ≤ b ∧ b < w2.heap.size) A1 n1 c1 (presB l) HS13.out (fun h => by omega) (fun b h => by cases h) (by omega)).mono ?_; rintro e w4 ⟨rfl, ⟨A4, c4, hbu4, _⟩, hz4, _⟩; have BU4 := Lib.hid hbu4; have hbox4 := kcell hbu4.below HBOX.out; have HZ4 := Lib.hid hz4; clear hbu4 hz4)
    | fail)
  have HF4 := Lib.hid (show ∀ b, ((False ∨ (w1.heap.size ≤ b ∧ b < w2.heap.size)) ∧ b < w3.heap.size) → w1.heap.size ≤ b ∧ b < w2.heap.size from fun b h => h.1.elim (fun h => h.elim) id)
  go_upto_region 15 with (first
    | (go_at_call 44; refine (isnum_any _ _).mono ?_; rintro e w5 ⟨rfl, rfl⟩; rw [HNM.out])
    | (go_at_call 45; refine (iput_any k HK.out _ A2 n2 c2 (l.filter keepV) _ (HS2.out.below BU4.out.below (Nat.le_refl _)) HN2.out HM.out (tabs_below HT2.out BU4.out.below)).mono ?_; rintro e w5 ⟨hb5, A5, n5, c5, rfl, ho5⟩; have HO5 := Lib.hid ho5; have HB5 := Lib.hid hb5; clear ho5 hb5)
    | fail)
  have hg4 := blk_lt BU4.out.hold
  have hbu5 : BuR w2 w2.heap.size (n : Int) 1 0 _ A4 1 c4 [(1, presB l)] w5 := ⟨(HB5.out.block _ hg4).trans BU4.out.hold, BU4.out.own.keepB HB5.out, BU4.out.below.trans (HB5.out.mono (by omega))⟩
  have BU5 := Lib.hid hbu5
  have HS5 := Lib.hid (HO5.out.own.sl.weaken (F' := fun b => w4.heap.size ≤ b) fun b hb _ => by
    rcases hb with hb | hb
    · exact hb.elim
    · exact hb.2)
  have HG4 := Lib.hid hg4
  have HA4 := Lib.hid (show ∀ b, A4 = some ⟨b, 0, none⟩ → b < w4.heap.size from fun b e => (BU4.out.own.lies (b := b) (by rw [ownBlock_slice, e]; rfl)).2.2)
  clear hbu5 hg4
  go_upto_region 16 with (first
    | (go_at_call 43; refine (badd_any w2 w2.heap.size (n : Int) 1 0 _ A4 1 c4 [(1, presB l)] w5 BU5.out (fun h => by have := (HF4.out _ h).2; omega) 2 (by omega) (fun b => w4.heap.size ≤ b) A5 n5 c5 (intsB k (l.filter keepV)) HS5.out (fun h => by have := HG4.out; omega) (fun b h h2 => by have := HA4.out b h; omega) (by omega)).mono ?_; rintro e w6 ⟨rfl, ⟨A6, c6, hbu6, _⟩, _, _⟩; have BU6 := Lib.hid hbu6; clear hbu6)
    | fail)
  have hg6 := BU6.out.hold
  obtain ⟨⟨z0, _⟩, ⟨z1, _⟩, ⟨z2, _⟩, ⟨z3, _⟩⟩ := colcells hg6
  have hcol6 := (BU6.out.below.block _ (blk_lt HCOL.out)).trans HCOL.out
  obtain ⟨⟨v0, y0⟩, ⟨v1, y1⟩, ⟨v2, y2⟩, ⟨v3, y3⟩⟩ := colcells hcol6
  have HCOL6 := Lib.hid hcol6
  clear hg6 hcol6
  go_wp2_with fail
  refine bodyPost_ret (results_rowB rfl _ _ (w.heap.size + 1) 27 #[.int .i64 (n : Int), .int .i64 1, .int .i64 0, .slice A6 2 c6] (0, 0) _ rfl (colset HCOL6.out _ _ _ _) Tryz.underlying27 rfl (by kernel_rfl)) rfl ?_
  unfold ColPost
  rw [HR.out, HE.out, HC.out, ← HL.out]
  refine ⟨A6, 2, c6, rfl, ?_, colset_below (HBX.out.trans (BU6.out.below.mono HBX.out.size)) (by omega) _ _ _ _⟩
  have hs7 := BU6.out.own.sl.weaken (F' := fun b => w.heap.size + 2 ≤ b) (fun b hb _ => by
    have e1 := HZ1.out; have e2 := HZ2.out; have e3 := HZC.out; have e4 := HG4.out
    rcases hb with hb | hb
    · rcases hb.1 with hb | hb
      · have := (HF4.out _ hb).1; omega
      · omega
    · have := hb.2; omega)
  exact (hs7.keep (by simp) (fun b hb _ => colset_at (by omega) _ _ _ _)).weaken fun b hb _ => by omega
end Go.Proofs.YtpmglcachffojaaGreatDoor
namespace Go.Proofs.YtpmglcachffojaaGreatDoor
open Go Go.RowKit

theorem tput_at (F : Nat → Prop) (A : Option Addr) (n c : Nat) (l : List ByteArray) (w : World) (h : Sl tStr F w A n c l) (hn : n ≤ 4096) (hs : ∀ s ∈ l, s.size ≤ 300) (enc tx : Int) (ss : List (Int × List UInt8)) (ht : txC l = (enc, tx, ss)) :
    Calls Tryz.prog 46 #[.slice A n c] w fun e w' => ∃ A' n' c', e = .returned (.tuple #[.agg #[.int .i64 (n : Int), .int .i64 enc, .int .i64 tx, .slice A' n' c'], .int .i64 0]) ∧ Sl tStream (fun b => w.heap.size ≤ b) w' A' n' c' ss ∧ Below w.heap.size w w' := by
  have h1 := tput_any F A n c l w h hn hs
  unfold TxPost at h1
  rw [ht, ← h.len] at h1
  exact h1
theorem txC_len (l : List ByteArray) : (txC l).2.2.length ≤ 3 := by unfold txC; split <;> simp
set_option maxRecDepth 100000 in
set_option maxHeartbeats 4000000 in
theorem cput_txt (k : Int) (F : Nat → Prop) (A : Option Addr) (n c : Nat) (l : List VV) (w : World) (h : Sl tVV F w A n c l) (hn : n ≤ 4096) (hT : Lib.Utf8Tabs 0 1 w) (hk : k = 6 ∨ k = 7) (hall : l.all (mayV k) = true) :
    Calls Tryz.prog 12 #[.int .i64 k, .slice A n c] w (ColPost k l w) := by
  have hn1 : ¬ (n : Int) > 4096 := by omega
  have hn2 : ¬ (4096 : Int) < n := by omega
  obtain ⟨wc, hwc⟩ := colW k w
  have HWC := Lib.hid hwc; have HN := Lib.hid hn; have HK := Lib.hid hk; have HL := Lib.hid h.len
  have HH := Lib.hid (h.below hwc.below (Nat.le_refl _)); have HT := Lib.hid (tabs_below hT hwc.below)
  have hbox := hwc.box
  have HP := Lib.hid (show decide (1 ≤ k ∧ k ≤ 7) = true from decide_eq_true (by omega))
  have HQ := Lib.hid (show (!l.all (mayV k)) = false by rw [hall]; rfl)
  have hE : colE k l = 0 := by unfold colE; rw [if_pos (by omega), hall]; rfl
  have HE := Lib.hid hE
  have HR := Lib.hid (show colR k l = ((l.length : Int), colC k l) from if_pos hE)
  have HM := Lib.hid (show ∀ v ∈ l.filter keepV, v.null = false ∧ mayV k v = true from fun v hv => by
    obtain ⟨h1, h2⟩ := List.mem_filter.1 hv
    exact ⟨by simpa [keepV] using h2, List.all_eq_true.1 hall v h1⟩)
  obtain ⟨ws, hws⟩ : ∃ ws, ws = (l.filter keepV).map (·.s) := ⟨_, rfl⟩
  have HC := Lib.hid (show colC k l = ((txC ws).1, (txC ws).2.1, (1, presB l) :: (txC ws).2.2) by unfold colC; rw [if_neg (by omega), hws])
  obtain ⟨enc, tx, ss, htx⟩ : ∃ enc tx ss, txC ws = (enc, tx, ss) := ⟨_, _, _, rfl⟩
  have HWS := Lib.hid hws; have HTX := Lib.hid htx
  have HNM := Lib.hid (show decide (1 ≤ k ∧ k ≤ 5) = false from decide_eq_false (by omega))
  have HSM := Lib.hid (show ∀ s ∈ ws, s.size ≤ 300 from fun s hs => by
    rw [hws] at hs
    obtain ⟨v, hv, rfl⟩ := List.mem_map.1 hs
    obtain ⟨h1, h2⟩ := HM.out v hv
    unfold mayV at h2
    rw [if_neg (by omega), if_pos hk, h1] at h2
    simp at h2
    exact h2.2.1)
  clear h hn hT hwc hk hall hE hws htx
  go_enter Tryz.func12, Tryz.ntmps12
  go_upto_region 1 with fail
  rw [← HWC.out.eq]
  go_upto_region 10 with (first
    | (go_at_call 38; refine (known_any _ _).mono ?_; rintro e w1 ⟨rfl, rfl⟩; rw [HP.out])
    | (go_at_call 39; refine (wrong_any k w.heap.size F A n c l _ HH.out hbox HT.out).mono ?_; rintro e w1 ⟨rfl, hb1⟩; rw [HQ.out]; have HB1 := Lib.hid hb1; clear hb1)
    | (go_at_call 42; refine (nput_any F A n c l _ (HH.out.below HB1.out (Nat.le_refl _)) HN.out).mono ?_; rintro e w2 ⟨A1, n1, c1, A2, n2, c2, rfl, hs1, hs2, hb2⟩; have HS1 := Lib.hid hs1; have HS2 := Lib.hid hs2; have HB2 := Lib.hid hb2; clear hs1 hs2 hb2)
    | fail)
  have hz1 := HB1.out.size
  have hz2 := HB2.out.size
  have hzc := HWC.out.size
  have HZ1 := Lib.hid hz1; have HZ2 := Lib.hid hz2; have HZC := Lib.hid hzc
  have HL2 := Lib.hid HS2.out.len
  have hn24 : n2 ≤ 4096 := by have := HL2.out; have := List.length_filter_le keepV l; have := HL.out; have := HN.out; omega
  have HN2 := Lib.hid hn24
  have HBX := Lib.hid ((HWC.out.below.trans (HB1.out.mono HWC.out.below.size)).trans (HB2.out.mono (by have := HWC.out.below.size; omega)))
  have hcol2 : w2.heap[w.heap.size + 1]? = some (.cells #[.int .i64 0, .int .i64 0, .int .i64 0, .slice none 0 0] 27 (0, 0)) := (HB2.out.block _ (by omega)).trans ((HB1.out.block _ (by omega)).trans HWC.out.col)
  have HCOL := Lib.hid hcol2
  have HBOX := Lib.hid (kcell HB2.out (kcell HB1.out hbox))
  have HT2 := Lib.hid (tabs_below (tabs_below HT.out HB1.out) HB2.out)
  clear hbox hcol2 hz1 hz2 hzc hn24
  go_upto_region 12 with fail
  obtain ⟨w3, hw3⟩ : ∃ w3, w3 = w2.alloc (.cells #[.int .i64 (n : Int), .int .i64 1, .int .i64 0, .slice none 0 0] 85) := ⟨_, rfl⟩
  rw [← hw3]
  have hbu3 : BuR w2 w2.heap.size (n : Int) 1 0 (fun _ => False) none 0 0 [] w3 := ⟨by rw [hw3]; exact heap_alloc_new w2 _, OwnF.nil_ _ _ _ _ _, by rw [hw3]; exact (Below.refl _ _).alloc (Nat.le_refl _) _⟩
  have BU3 := Lib.hid hbu3
  have HS13 := Lib.hid ((HS1.out.weaken (F' := fun b => w1.heap.size ≤ b ∧ b < w2.heap.size) fun b hb hl => ⟨hb, hl⟩).below hbu3.below (Nat.le_refl _))
  clear hbu3 hw3
  go_upto_region 13 with (first
    | (go_at_call 43; refine (badd_any w2 w2.heap.size (n : Int) 1 0 (fun _ => False) none 0 0 [] w3 BU3.out (fun h => h) 1 (by omega) (fun b => w1.heap.size ≤ b ∧ b < w2.heap.size) A1 n1 c1 (presB l) HS13.out (fun h => by omega) (fun b h => by cases h) (by omega)).mono ?_; rintro e w4 ⟨rfl, ⟨A4, c4, hbu4, _⟩, hz4, _⟩; have BU4 := Lib.hid hbu4; have hbox4 := kcell hbu4.below HBOX.out; have HZ4 := Lib.hid hz4; clear hbu4 hz4)
    | fail)
  have HF4 := Lib.hid (show ∀ b, ((False ∨ (w1.heap.size ≤ b ∧ b < w2.heap.size)) ∧ b < w3.heap.size) → w1.heap.size ≤ b ∧ b < w2.heap.size from fun b h => h.1.elim (fun h => h.elim) id)
  go_wp2_with (first
    | (go_at_call 44; refine (isnum_any _ _).mono ?_; rintro e w5 ⟨rfl, rfl⟩; rw [HNM.out])
    | fail)
  go_loopw [12, 66] (fun v iv wr => ∃ (j : Nat) (A5 : Option Addr) (c5 : Nat) (G : Nat → Prop), j ≤ n2 ∧ iv = .int .i64 (j : Int) ∧ v = .slice A5 j c5 ∧ OwnF tStr 9 G wr w4.heap.size A5 j c5 (((l.filter keepV).take j).map (·.s)) ∧ Below w4.heap.size w4 wr) (fun _ iv _ => n2 - (intOf iv).toNat)
  case atStart => exact ⟨0, none, 0, fun _ => False, Nat.zero_le _, rfl, rfl, OwnF.nil_ _ _ _ _ _, Below.refl _ _⟩
  case round =>
    obtain ⟨j, A5, c5, G, hj, rfl, rfl, hown, hb⟩ := hrel
    have HO := Lib.hid hown; have HB := Lib.hid hb
    have hsz := hb.size
    by_cases hlt : j < n2
    · have hjl : j < (l.filter keepV).length := by rw [← HL2.out]; exact hlt
      obtain ⟨b, o, cs, rfl, _, hbl, hrep, hc⟩ := (HS2.out.below (BU4.out.below.trans (hb.mono (by have := blk_lt BU4.out.hold; omega))) (Nat.le_refl _)).at_ hjl (by decide)
      obtain ⟨v, hf⟩ : ∃ v, v = (l.filter keepV)[j] := ⟨_, rfl⟩
      obtain ⟨rfl, hok⟩ := hrep
      rw [← hf] at hc hok
      obtain ⟨nu, x, s⟩ := v
      have hsm : s.size ≤ maxLen := hok.2.2
      have HF := Lib.hid hf
      obtain ⟨g0, g1, g2⟩ := cells3 hc
      have g0 : _ = some (Value.bool nu) := g0
      have g1 : _ = some (Value.int .i64 x) := g1
      have g2 : _ = some (Value.string s) := g2
      have hi0 : (0 : Int) ≤ (j : Int) := by omega
      have hi1 : (j : Int) < (n2 : Int) := by omega
      have hj4 : j ≤ 34359738368 := by have := HN2.out; omega
      clear hc hf hown hb hok
      go_wp2_with (first
        | (at_builtin; refine apl1 (T := tStr) elemStr _ w4 rfl (.tmp 70) (.tmp 73) rfl w4.heap.size A5 j c5 (((l.filter keepV).take j).map (·.s)) (by rfl) G (fun _ => False) (HO.out.alloc _) (HB.out.alloc hsz _) (Nat.le_refl _) _ (by rw [World.size_alloc]; rfl) [.string s] s ⟨rfl, hsm⟩ 9 rfl (fun _ _ _ _ h4 => h4) hj4 ?_; intro A7 c7 w7 h7)
        | fail)
      go_roundw
      case rel =>
        have e1 : ((l.filter keepV).take (j + 1)).map (·.s) = ((l.filter keepV).take j).map (·.s) ++ [s] := by
          rw [List.take_succ_eq_append_getElem hjl, List.map_append, ← HF.out]; rfl
        have e2 := h7.own
        rw [← e1] at e2
        exact ⟨j + 1, A7, c7, _, by omega, by go_num, rfl, e2, h7.below⟩
      case measure => simp [intOf]; omega
    · obtain rfl : j = n2 := by omega
      obtain ⟨w5, rfl⟩ : ∃ w5, w5 = wr := ⟨wr, rfl⟩
      have e1 : (l.filter keepV).take j = l.filter keepV := List.take_of_length_le (by rw [← HL2.out]; exact Nat.le_refl _)
      rw [e1, ← HWS.out] at hown
      have HO := Lib.hid hown.sl
      have hg4 := blk_lt BU4.out.hold
      have hbu5 : BuR w2 w2.heap.size (n : Int) 1 0 _ A4 1 c4 [(1, presB l)] w5 := ⟨(hb.block _ hg4).trans BU4.out.hold, BU4.out.own.keepB hb, BU4.out.below.trans (hb.mono (by omega))⟩
      have BU5 := Lib.hid hbu5
      have hg5 := blk_lt hbu5.hold
      clear hown hbu5 e1
      go_upto_region 24 with (first
        | (go_at_call 46; refine (tput_at _ A5 j c5 ws w5 HO.out HN2.out HSM.out enc tx ss HTX.out).mono ?_; rintro e w6 ⟨A6, n6, c6, rfl, hs6, hb6⟩; have HS6 := Lib.hid hs6; have HB6 := Lib.hid hb6; clear hs6 hb6)
        | fail)
      obtain ⟨w7, hw7⟩ : ∃ w7, w7 = w6.alloc (.cells #[.int .i64 (j : Int), .int .i64 enc, .int .i64 tx, .slice A6 n6 c6] 27) := ⟨_, rfl⟩
      rw [← hw7]
      have hb67 : Below w5.heap.size w5 w7 := by rw [hw7]; exact HB6.out.alloc HB6.out.size _
      have hg7 : w7.heap[w6.heap.size]? = some (.cells #[.int .i64 (j : Int), .int .i64 enc, .int .i64 tx, .slice A6 n6 c6] 27 (0, 0)) := by rw [hw7]; exact heap_alloc_new _ _
      have HS7 := Lib.hid (show Sl tStream (fun b => w5.heap.size ≤ b ∧ b < w7.heap.size) w7 A6 n6 c6 ss from by
        have h1 := HS6.out.alloc (.cells #[.int .i64 (j : Int), .int .i64 enc, .int .i64 tx, .slice A6 n6 c6] 27)
        rw [← hw7] at h1
        exact h1.weaken fun b hb hl => ⟨hb, hl⟩)
      have hbu7 : BuR w2 w2.heap.size (n : Int) 1 0 _ A4 1 c4 [(1, presB l)] w7 := ⟨(hb67.block _ hg5).trans BU5.out.hold, BU5.out.own.keepB hb67, BU5.out.below.trans (hb67.mono (by omega))⟩
      have BU7 := Lib.hid hbu7; have HG7 := Lib.hid hg7; have HB67 := Lib.hid hb67; have HG5 := Lib.hid hg5
      have hsz67 : w6.heap.size < w7.heap.size := blk_lt hg7
      have hsz6 := HB6.out.size
      have hsz5 := hb.size
      have hgne : w6.heap.size ≠ w2.heap.size := by omega
      have hgne2 : ¬ w2.heap.size = w6.heap.size := by omega
      have hg27 : w2.heap.size < w7.heap.size := by omega
      obtain ⟨⟨q0, p0⟩, ⟨q1, p1⟩, ⟨q2, p2⟩, ⟨q3, p3⟩⟩ := colcells hg7
      obtain ⟨⟨u0, t0⟩, ⟨u1, t1⟩, ⟨u2, t2⟩, ⟨u3, t3⟩⟩ := colcells hbu7.hold
      have HA4 := Lib.hid (show ∀ b, A4 = some ⟨b, 0, none⟩ → b < w5.heap.size from fun b e => (BU5.out.own.lies (b := b) (by rw [ownBlock_slice, e]; rfl)).2.2)
      clear hw7 hb67 hg7 hbu7
      go_cut [] from 81 to 89 (fun wx => ∃ wd, wd = wx ∧ BuR w2 w2.heap.size (n : Int) enc tx (fun b => (False ∨ w1.heap.size ≤ b ∧ b < w2.heap.size) ∧ b < w3.heap.size) A4 1 c4 [(1, presB l)] wd ∧ w7.heap.size ≤ wd.heap.size ∧ ∀ b, b < w7.heap.size → b ≠ w2.heap.size → wd.heap[b]? = w7.heap[b]?)
      case first =>
        go_region
        all_goals
          go_wp2_with fail
          go_meet
          refine ⟨_, rfl, ⟨heap_set (heap_set BU7.out.hold rfl) rfl, BU7.out.own.keep (by simp) (fun b hb hl => ?_), ?_⟩, by simp, fun b h1 h2 => (Below.heap_setCell _ _ _ _ h2).trans ((Below.heap_setCell _ _ _ _ h2).trans rfl)⟩
          · have hne : b ≠ w2.heap.size := by
              rcases hb with hb | hb
              · have := (HF4.out b hb).2; omega
              · have := hb.2; omega
            exact (Below.heap_setCell _ _ _ _ hne).trans ((Below.heap_setCell _ _ _ _ hne).trans rfl)
          · first
              | exact bsetc (bsetc (bdrewN BU7.out.below _) (Nat.le_refl _) _) (Nat.le_refl _) _
              | exact bsetc (bsetc BU7.out.below (Nat.le_refl _) _) (Nat.le_refl _) _
      case rest =>
        obtain ⟨wd, rfl, hbu8, hsz8, hk8⟩ := hcut
        have BU8 := Lib.hid hbu8; have HK8 := Lib.hid hk8; have HZ8 := Lib.hid hsz8
        have hg8 := (hk8 _ hsz67 hgne).trans HG7.out
        clear q0 p0 q1 p1 q2 p2 q3 p3 u0 t0 u1 t1 u2 t2 u3 t3
        obtain ⟨_, _, _, ⟨q3, _⟩⟩ := colcells hg8
        have HS8 := Lib.hid (HS7.out.keep hsz8 (fun b hb hl => hk8 b hl (by omega)))
        have HL6 := Lib.hid HS7.out.len
        have HN6 := Lib.hid (show n6 ≤ 3 by have h1 := txC_len ws; rw [HTX.out] at h1; have h2 : ss.length ≤ 3 := h1; have := HL6.out; omega)
        have HZ5 := Lib.hid (show w2.heap.size < w5.heap.size ∧ w5.heap.size ≤ wd.heap.size by omega)
        clear hbu8 hk8 hg8
        refine ‹∀ (a : Act) (w_1 : World), Code.wp _ _ _ a w_1 → _› _ _ ?_
        go_wp2_with fail
        go_loopw [92] (fun iv wx => ∃ (i : Nat) (A7 : Option Addr) (c7 : Nat) (G : Nat → Prop), i ≤ n6 ∧ iv = .int .i64 (i : Int) ∧ BuR w2 w2.heap.size (n : Int) enc tx G A7 (1 + i) c7 ((1, presB l) :: ss.take i) wx ∧ (∀ b, G b → w1.heap.size ≤ b ∧ b ≠ w2.heap.size) ∧ (∀ b, A7.map (·.block) = some b → b < w5.heap.size ∨ wd.heap.size ≤ b) ∧ wd.heap.size ≤ wx.heap.size ∧ ∀ b, w5.heap.size ≤ b → b < wd.heap.size → wx.heap[b]? = wd.heap[b]?) (fun iv _ => n6 - (intOf iv).toNat)
        case atStart =>
          refine ⟨0, A4, c4, _, Nat.zero_le _, rfl, BU8.out, fun b hb => ?_, fun b hb => .inl ?_, Nat.le_refl _, fun _ _ _ => rfl⟩
          · have := HF4.out b hb; omega
          · obtain ⟨e, _⟩ := BU8.out.own.lies (b := b) (by rw [ownBlock_slice]; exact hb)
            exact HA4.out b e
        case round =>
          obtain ⟨i, A7, c7, G, hi, rfl, hbu, hG, hA7, hszx, hkx⟩ := hrel
          obtain ⟨wx, rfl⟩ : ∃ wx, wx = wr := ⟨wr, rfl⟩
          have BUX := Lib.hid hbu; have HGX := Lib.hid hG; have HAX := Lib.hid hA7; have HKX := Lib.hid hkx; have HZX := Lib.hid hszx
          by_cases hlt : i < n6
          · have hil : i < ss.length := by rw [← HL6.out]; exact hlt
            obtain ⟨b, o, cs, rfl, _, hbl, hrep, hc⟩ := (HS8.out.keep hszx (fun b hb hl => hkx b hb.1 (by have := HZ8.out; omega))).at_ hil (by decide)
            obtain ⟨x, hf⟩ : ∃ x, x = ss[i] := ⟨_, rfl⟩
            obtain ⟨kk, bs⟩ := x
            rw [← hf] at hrep
            obtain ⟨d1, d2, rfl, ⟨h1, h1'⟩, A8, n8, c8, h2, hsl⟩ := hrep
            subst h1 h2
            obtain ⟨g0, g1⟩ := cells2 hc
            have g0 : _ = some (Value.int .i64 kk) := g0
            have g1 : _ = some (Value.slice A8 n8 c8) := g1
            have HSL := Lib.hid hsl; have HKK := Lib.hid h1'; have HF := Lib.hid hf
            have hi0 : (0 : Int) ≤ (i : Int) := by omega
            have hi1 : (i : Int) < (n6 : Int) := by omega
            have hgx := blk_lt hbu.hold
            have hi3 : i ≤ 3 := by have := HN6.out; omega
            have HB9 := Lib.hid (show BuR w2 w2.heap.size (n : Int) enc tx G A7 (1 + i) c7 ((1, presB l) :: ss.take i) (wx.alloc (.cells #[.int .i64 kk, .slice A8 n8 c8] 55)) from ⟨(Below.heap_alloc _ _ _ hgx).trans hbu.hold, hbu.own.alloc _, hbu.below.alloc (by omega) _⟩)
            clear hc hf h1' hsl hbu hG hA7 hszx hkx
            go_wp2_with (first
              | (go_at_call 43; refine (badd_any w2 w2.heap.size (n : Int) enc tx G A7 (1 + i) c7 _ _ HB9.out (fun h => (HGX.out _ h).2 rfl) kk HKK.out _ A8 n8 c8 bs (HSL.out.alloc _) (fun h => by have := HZ5.out; omega) (fun b h h2 => by have h3 := HAX.out b (by rw [h]; rfl); have := HZ8.out; omega) (by have := HN6.out; omega)).mono ?_; rintro e w9 ⟨rfl, ⟨A9, c9, hbu9, hl9⟩, hz9, hk9⟩; have BU9 := Lib.hid hbu9; have HL9 := Lib.hid hl9; have HZ9 := Lib.hid hz9; have HK9 := Lib.hid hk9; clear hbu9 hl9 hz9 hk9)
              | fail)
            go_roundw
            case rel =>
              have hz9 := HZ9.out
              rw [World.size_alloc] at hz9
              have e1 : (1, presB l) :: ss.take (i + 1) = (1, presB l) :: ss.take i ++ [(kk, bs)] := by
                rw [List.take_succ_eq_append_getElem hil, ← HF.out]; rfl
              have hbu9 := BU9.out
              rw [← e1] at hbu9
              refine ⟨i + 1, A9, c9, _, by omega, by go_num, hbu9, fun b hb => ?_, fun b hb => ?_, ?_, fun b h1 h2 => ?_⟩
              · have h5 := HZ5.out; have h2 := HZ2.out; have h8 := HZ8.out
                rcases hb.1 with hb | hb
                · exact HGX.out b hb
                · omega
              · rcases HL9.out with h | h
                · exact HAX.out b (h.symm.trans hb)
                · rw [hb] at h
                  injection h with h
                  rw [World.size_alloc] at h
                  have := HZX.out
                  omega
              · have := HZX.out; omega
              · have h5 := HZ5.out; have hzx := HZX.out
                exact (HK9.out b (by rw [World.size_alloc]; omega) (by omega) (fun e => by have := HAX.out b e; omega)).trans ((Below.heap_alloc _ _ _ (by omega)).trans (HKX.out b h1 h2))
            case measure => simp [intOf]; omega
          · obtain rfl : i = n6 := by omega
            have e1 : ss.take i = ss := List.take_of_length_le (by rw [← HL6.out]; exact Nat.le_refl _)
            rw [e1] at hbu
            have BUY := Lib.hid hbu
            have hg6 := hbu.hold
            obtain ⟨⟨z0, _⟩, ⟨z1, _⟩, ⟨z2, _⟩, ⟨z3, _⟩⟩ := colcells hg6
            have hcol6 := (hbu.below.block _ (blk_lt HCOL.out)).trans HCOL.out
            obtain ⟨⟨v0, y0⟩, ⟨v1, y1⟩, ⟨v2, y2⟩, ⟨v3, y3⟩⟩ := colcells hcol6
            have HCOL6 := Lib.hid hcol6
            clear hg6 hcol6 hbu e1 hG hA7 hkx hszx BUX
            go_wp2_with fail
            refine bodyPost_ret (results_rowB rfl _ _ (w.heap.size + 1) 27 #[.int .i64 (n : Int), .int .i64 enc, .int .i64 tx, .slice A7 (1 + i) c7] (0, 0) _ rfl (colset HCOL6.out _ _ _ _) Tryz.underlying27 rfl (by kernel_rfl)) rfl ?_
            unfold ColPost
            rw [HR.out, HE.out, HC.out, HTX.out, ← HL.out]
            refine ⟨A7, 1 + i, c7, rfl, ?_, colset_below (HBX.out.trans (BUY.out.below.mono HBX.out.size)) (by omega) _ _ _ _⟩
            have hs7 := BUY.out.own.sl.weaken (F' := fun b => w.heap.size + 2 ≤ b) (fun b hb _ => by
              have e1 := HZ1.out; have e2 := HZ2.out; have e3 := HZC.out
              rcases hb with hb | hb
              · have := (HGX.out _ hb).1; omega
              · have := hb.2; omega)
            exact (hs7.keep (by simp) (fun b hb _ => colset_at (by omega) _ _ _ _)).weaken fun b hb _ => by omega
end Go.Proofs.YtpmglcachffojaaGreatDoor
