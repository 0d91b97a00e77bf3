/- A part of what Chunks leans on. -/
import Derived.Test.YtpmglcachffojaaGreatDoorZ9
import Derived.Test.YtpmglcachffojaaGreatDoorZ28
import Derived.Test.YtpmglcachffojaaGreatDoorZ29
set_option maxRecDepth 100000
set_option maxHeartbeats 16000000
namespace Go.Proofs.YtpmglcachffojaaGreatDoor
section
open Go Go.RowKit Go.Maps
abbrev CC := ByteArray × Int
def nmEq (x y : CC) : Bool := decide (y.1.data.toList = x.1.data.toList)
def colB (l : List CC) (i : Nat) (x : CC) : Bool := nmS x.1 && !((l.take i).any (nmEq x)) && decide (1 ≤ x.2 ∧ x.2 ≤ 7)
def colI (l : List CC) (i : Nat) : Bool := match l[i]? with | some x => colB l i x | none => true
def schB (l : List CC) : Bool := decide (1 ≤ l.length ∧ l.length ≤ 6) && (List.range l.length).all (colI l)
def schE (l : List CC) : Int := if schB l then 0 else 20
theorem jj4 {l : List CC} (h : schB l = true) : schE l = 0 := if_pos h
theorem vvM {l : List CC} (h : schB l = false) : schE l = 20 := if_neg (by rw [h]; decide)
theorem jjx {l : List CC} (h : ¬ (1 ≤ l.length ∧ l.length ≤ 6)) : schB l = false := by unfold schB; rw [decide_eq_false h]; rfl
theorem qzK {l : List CC} {i : Nat} (hi : i < l.length) {x : CC} (hx : x = l[i]) (h : colB l i x = false) : schB l = false := by
 unfold schB
 have : (List.range l.length).all (colI l) = false := by
  rw [List.all_eq_false]
  exact ⟨i, List.mem_range.2 hi, by unfold colI; rw [List.getElem?_eq_getElem hi, ← hx]; simp [h]⟩
 rw [this, Bool.and_false]
theorem schB_yes {l : List CC} (h1 : 1 ≤ l.length ∧ l.length ≤ 6) (h : ∀ j, j < l.length → colI l j = true) : schB l = true := by
 unfold schB
 rw [decide_eq_true h1, Bool.true_and, List.all_eq_true]
 exact fun j hj => h j (List.mem_range.1 hj)
theorem jj5 {l : List CC} {i : Nat} (hi : i < l.length) {x : CC} (hx : x = l[i]) : colI l i = colB l i x := by
 unfold colI; rw [List.getElem?_eq_getElem hi, ← hx]
def nmD (H : Type) (l : List CC) : Nat → DataW H
 | 0 => .map []
 | k + 1 => (nmD H l k).put (.string (l.getD k (⟨#[]⟩, 0)).1.data.toList) (.lit (.bool true))
theorem zqE (H : Type) (l : List CC) : ∀ k, Tidy (nmD H l k)
 | 0 => tidy_empty
 | k + 1 => (zqE H l k).put (uuP _) _
theorem nmD_at (H : Type) (l : List CC) (x : CC) : ∀ k, k ≤ l.length → (nmD H l k).atKey (.string x.1.data.toList) (.lit (.bool false)) = .lit (.bool ((l.take k).any (nmEq x)))
 | 0, _ => rfl
 | k + 1, hk => by
   have ih := nmD_at H l x k (by omega)
   have hkl : k < l.length := by omega
   have e1 : l.getD k (⟨#[]⟩, 0) = l[k] := by rw [List.getD_eq_getElem?_getD, List.getElem?_eq_getElem hkl]; rfl
   rw [nmD, e1, zT hkl, List.any_append, List.any_cons, List.any_nil, Bool.or_false]
   by_cases h : (l[k]).1.data.toList = x.1.data.toList
   · rw [← h, atKey_put_same (zqE H l k).isMap (uuP _)]
     have : nmEq x l[k] = true := decide_eq_true h
     rw [this, Bool.or_true]
   · rw [atKey_put_other (by intro e; injection e with e; exact h e.symm), ih]
     have : nmEq x l[k] = false := decide_eq_false h
     rw [this, Bool.or_false]
theorem yy5 {P : Program} {k t e : TypeId} {w : World} {b n : Nat} {D : DataW Unit} (h : w.ownsMap P k (plainElem P e) b n D) (K : Keyed P k) (ht : P.underlying t = some (.map k e)) (he : P.underlying e = some .bool) (hz : (zeroValue e).run P w = .ok (.bool false) w)
 {key : Value} {kl : Go.Lit} (hkey : Go.keyOf P k key = some kl) {q : Bool} (hq : D.atKey kl (.lit (.bool false)) = .lit (.bool q)) : (Instr.lookup t (.map (some b)) key false).run P w = .ok (.bool q) w := by
 obtain ⟨v, ps, hrun, hv⟩ := h.lookup K ht hz (plainElem_bool he false) hkey
 rw [hq] at hv
 unfold plainElem at hv
 rw [he] at hv
 cases v <;> simp at hv
 obtain ⟨rfl, _⟩ := hv
 exact hrun
theorem qxy (w : World) : (zeroValue 4).run Tryz.prog w = .ok (.bool false) w := by kernel_rfl
theorem xxO (F : Nat → Prop) (A : Option Addr) (n c : Nat) (l : List CC) (w : World) (h : Sl tCol F w A n c l) :
 Calls Tryz.prog 52 #[.slice A n c] w fun e w' => e = .returned (.int .i64 (schE l)) ∧ Below w.heap.size w w' := by
 have HH := zH h; have HL := zH h.len
 clear h
 by_cases h0 : n < 1
 · have HFIN := zH (vvM (jjx (l := l) (by rw [← HL.out]; omega)))
   have c1 : (n : Int) < 1 := by omega
   clear h0
   go_enter Tryz.func52, Tryz.ntmps52
   go_wp2_with fail
   go_ret
   exact ⟨by rw [HFIN.out]; rfl, zR⟩
 · by_cases h6 : n > 6
   · have HFIN := zH (vvM (jjx (l := l) (by rw [← HL.out]; omega)))
     have c1 : ¬ (n : Int) < 1 := by omega
     have c2 : (n : Int) > 6 := by omega
     clear h0 h6
     go_enter Tryz.func52, Tryz.ntmps52
     go_wp2_with fail
     go_ret
     exact ⟨by rw [HFIN.out]; rfl, zR⟩
   · have HN := zH (show 1 ≤ l.length ∧ l.length ≤ 6 by rw [← HL.out]; omega)
     have c1 : ¬ (n : Int) < 1 := by omega
     have c2 : ¬ (n : Int) > 6 := by omega
     have hmm := @run_makeMap Tryz.prog
     obtain ⟨mb, hmb⟩ : ∃ mb, mb = w.heap.size := ⟨_, rfl⟩
     have HMB := zH hmb
     clear h0 h6
     go_enter Tryz.func52, Tryz.ntmps52
     go_wp2_with fail
     rw [← hmb]
     clear c1 c2 hmb
     go_loopw [17] (fun iv wr => ∃ i : Nat, i ≤ n ∧ iv = .int .i64 (i : Int) ∧ wr.ownsMap Tryz.prog 9 (plainElem (H := Unit) Tryz.prog 4) mb i (nmD Unit l i) ∧ Below w.heap.size w wr ∧ Hid (∀ j, j < i → colI l j = true)) (fun iv _ => n - (intOf iv).toNat)
     case atStart => exact ⟨0, Nat.zero_le _, rfl, by rw [HMB.out]; exact World.ownsMap_made w _ _ _, (zR).alloc zN _, zH fun j hj => absurd hj (Nat.not_lt_zero _)⟩
     case round =>
      obtain ⟨i, hi, rfl, hm, hb, HV⟩ := hrel
      have HB := zH hb; have HM := zH hm
      clear hb hm
      by_cases hlt : i < n
      · have hil : i < l.length := by rw [← HL.out]; exact hlt
        obtain ⟨b, o, cs, rfl, _, _, hrep, hc⟩ := (HH.out.below HB.out zN).at_ hil (by decide)
        obtain ⟨⟨nm, kd⟩, hx⟩ : ∃ x, x = l[i] := ⟨_, rfl⟩
        rw [← hx] at hrep
        have HX := zH hx
        obtain ⟨rfl, hx1, -, -⟩ := vvI hrep
        dsimp only at hc hx1
        have hat := nmD_at Unit l (nm, kd) i (Nat.le_of_lt hil)
        dsimp only at hat
        obtain ⟨q1, hq1⟩ : ∃ q, q = nmS nm := ⟨_, rfl⟩
        obtain ⟨q2, hq2⟩ : ∃ q, q = (l.take i).any (nmEq (nm, kd)) := ⟨_, rfl⟩
        rw [← hq2] at hat
        have HCB := zH (show colB l i (nm, kd) = (q1 && !q2 && decide (1 ≤ kd ∧ kd ≤ 7)) by unfold colB; rw [← hq1, ← hq2])
        have HD := zH (show nmD Unit l (i + 1) = (nmD Unit l i).put (.string nm.data.toList) (.lit (.bool true)) by rw [nmD, List.getD_eq_getElem?_getD, List.getElem?_eq_getElem hil, ← hx]; rfl)
        have HAT := zH hat; have HQ1 := zH hq1; have HX1 := zH hx1
        obtain ⟨g0, g1⟩ := xxS hc
        have hkey : Go.keyOf Tryz.prog 9 (.string nm) = some (.string nm.data.toList) := WideMaps.keyOf_string_mk Tryz.underlying9 hx1
        have HKEY := zH hkey
        have i0 : (0 : Int) ≤ (i : Int) := by omega
        have i1 : (i : Int) < (n : Int) := by omega
        have i2 : (i : Int) ≤ 6 := by have := HN.out; omega
        obtain ⟨nu, hnu⟩ : ∃ q, q = decide (1 ≤ kd ∧ kd ≤ 5) := ⟨_, rfl⟩
        have HNU := zH hnu
        clear hc hx hrep hx1 hat hq1 hq2 hkey hnu
        go_upto_region 7 with fail
        obtain ⟨w2, hw2⟩ : ∃ w2, w2 = wr.alloc (.cells #[.string nm, .int .i64 kd] 93) := ⟨_, rfl⟩
        rw [← hw2]
        have HC0 : Hid (w2.cell? ⟨wr.heap.size, 0, none⟩ = some (.string nm)) := zH (by rw [hw2]; exact by rw [zC (heap_alloc_new wr _)]; rfl)
        have HC1 : Hid (w2.cell? ⟨wr.heap.size, 1, none⟩ = some (.int .i64 kd)) := zH (by rw [hw2]; exact by rw [zC (heap_alloc_new wr _)]; rfl)
        have kb : Below wr.heap.size wr w2 := by rw [hw2]; exact (zR).alloc zN _
        have HB2 := zH (HB.out.trans (kb.mono HB.out.size))
        have HM2 := zH (HM.out.kept (zzj (row := none) kb) (by simp))
        have k0 := HC0.out
        clear g0 g1 kb hw2 HM
        cases q1
        · have HXX := HCB
          have HFIN := zH (vvM (qzK hil HX.out (show colB l i (nm, kd) = false by rw [HCB.out]; rfl)))
          go_wp2_with (first | (go_at_call 110; refine (yyZ nm HX1.out _).mono ?_; rintro e w3 ⟨rfl, hb3⟩; rw [← HQ1.out]; have k3 := zzh hb3 HC0.out; have k4 := zzh hb3 HC1.out; have hm3 := HM2.out.kept (zzj (row := none) hb3) (by simp); have hlk := yy5 hm3 law9 Tryz.underlying168 Tryz.underlying4 (qxy _) HKEY.out HAT.out; have HM3 := zH hm3; have HB3 := zH (HB2.out.trans (hb3.mono HB2.out.size)); clear hb3 hm3) | (go_at_call 44; refine (zzf _ _).mono ?_; rintro e w5 ⟨rfl, rfl⟩; rw [← HNU.out]) | fail)
          go_ret
          exact ⟨by rw [HFIN.out]; rfl, HB3.out⟩
        · cases q2
          · by_cases n1 : 1 ≤ kd ∧ kd ≤ 5
            · obtain rfl : nu = true := by rw [HNU.out]; exact decide_eq_true n1
              have HFIN : Hid (∀ j, j < i + 1 → colI l j = true) := zH (fun j hj => by
               rcases Nat.lt_or_ge j i with h | h
               · exact HV.out j h
               · obtain rfl : j = i := by omega
                 rw [jj5 hil HX.out, HCB.out]; rw [decide_eq_true (show 1 ≤ kd ∧ kd ≤ 7 by omega)]; rfl)
              go_wp2_with (first | (go_at_call 110; refine (yyZ nm HX1.out _).mono ?_; rintro e w3 ⟨rfl, hb3⟩; rw [← HQ1.out]; have k3 := zzh hb3 HC0.out; have k4 := zzh hb3 HC1.out; have hm3 := HM2.out.kept (zzj (row := none) hb3) (by simp); have hlk := yy5 hm3 law9 Tryz.underlying168 Tryz.underlying4 (qxy _) HKEY.out HAT.out; have HM3 := zH hm3; have HB3 := zH (HB2.out.trans (hb3.mono HB2.out.size)); clear hb3 hm3) | (go_at_call 44; refine (zzf _ _).mono ?_; rintro e w5 ⟨rfl, rfl⟩; rw [← HNU.out]) | (at_mapUpdate; have hm3 := HM3.out; refine wpList_mapUpdate_own _ rfl _ _ _ 168 rfl 9 4 law9 Tryz.underlying168 _ mb i _ (by rfl) hm3 (by unfold maxLen; omega) _ _ _ (by rfl) (by rfl) HKEY.out _ [] (plainElem_bool Tryz.underlying4 true) ?_; intro w4 hown4 hgrow4) | fail)
              go_roundw
              case rel => exact ⟨i + 1, by omega, by go_num, by rw [HD.out]; exact hown4, HB3.out.grown hgrow4 HB3.out.size (fun q e => by injection e with e; have := HMB.out; omega), HFIN⟩
              case measure => simp [intOf]; omega
            · obtain rfl : nu = false := by rw [HNU.out]; exact decide_eq_false n1
              by_cases n6 : kd = 6
              · subst n6
                have HFIN : Hid (∀ j, j < i + 1 → colI l j = true) := zH (fun j hj => by
                 rcases Nat.lt_or_ge j i with h | h
                 · exact HV.out j h
                 · obtain rfl : j = i := by omega
                   rw [jj5 hil HX.out, HCB.out]; rfl)
                go_wp2_with (first | (go_at_call 110; refine (yyZ nm HX1.out _).mono ?_; rintro e w3 ⟨rfl, hb3⟩; rw [← HQ1.out]; have k3 := zzh hb3 HC0.out; have k4 := zzh hb3 HC1.out; have hm3 := HM2.out.kept (zzj (row := none) hb3) (by simp); have hlk := yy5 hm3 law9 Tryz.underlying168 Tryz.underlying4 (qxy _) HKEY.out HAT.out; have HM3 := zH hm3; have HB3 := zH (HB2.out.trans (hb3.mono HB2.out.size)); clear hb3 hm3) | (go_at_call 44; refine (zzf _ _).mono ?_; rintro e w5 ⟨rfl, rfl⟩; rw [← HNU.out]) | (at_mapUpdate; have hm3 := HM3.out; refine wpList_mapUpdate_own _ rfl _ _ _ 168 rfl 9 4 law9 Tryz.underlying168 _ mb i _ (by rfl) hm3 (by unfold maxLen; omega) _ _ _ (by rfl) (by rfl) HKEY.out _ [] (plainElem_bool Tryz.underlying4 true) ?_; intro w4 hown4 hgrow4) | fail)
                go_roundw
                case rel => exact ⟨i + 1, by omega, by go_num, by rw [HD.out]; exact hown4, HB3.out.grown hgrow4 HB3.out.size (fun q e => by injection e with e; have := HMB.out; omega), HFIN⟩
                case measure => simp [intOf]; omega
              · by_cases n7 : kd = 7
                · subst n7
                  have HFIN : Hid (∀ j, j < i + 1 → colI l j = true) := zH (fun j hj => by
                   rcases Nat.lt_or_ge j i with h | h
                   · exact HV.out j h
                   · obtain rfl : j = i := by omega
                     rw [jj5 hil HX.out, HCB.out]; rfl)
                  go_wp2_with (first | (go_at_call 110; refine (yyZ nm HX1.out _).mono ?_; rintro e w3 ⟨rfl, hb3⟩; rw [← HQ1.out]; have k3 := zzh hb3 HC0.out; have k4 := zzh hb3 HC1.out; have hm3 := HM2.out.kept (zzj (row := none) hb3) (by simp); have hlk := yy5 hm3 law9 Tryz.underlying168 Tryz.underlying4 (qxy _) HKEY.out HAT.out; have HM3 := zH hm3; have HB3 := zH (HB2.out.trans (hb3.mono HB2.out.size)); clear hb3 hm3) | (go_at_call 44; refine (zzf _ _).mono ?_; rintro e w5 ⟨rfl, rfl⟩; rw [← HNU.out]) | (at_mapUpdate; have hm3 := HM3.out; refine wpList_mapUpdate_own _ rfl _ _ _ 168 rfl 9 4 law9 Tryz.underlying168 _ mb i _ (by rfl) hm3 (by unfold maxLen; omega) _ _ _ (by rfl) (by rfl) HKEY.out _ [] (plainElem_bool Tryz.underlying4 true) ?_; intro w4 hown4 hgrow4) | fail)
                  go_roundw
                  case rel => exact ⟨i + 1, by omega, by go_num, by rw [HD.out]; exact hown4, HB3.out.grown hgrow4 HB3.out.size (fun q e => by injection e with e; have := HMB.out; omega), HFIN⟩
                  case measure => simp [intOf]; omega
                · have e6 := jjZ n6
                  have e7 := jjZ n7
                  have HKD := zH (show ¬ (1 ≤ kd ∧ kd ≤ 7) by omega)
                  clear n1 n6 n7
                  have HFIN := zH (vvM (qzK hil HX.out (show colB l i (nm, kd) = false by rw [HCB.out]; rw [decide_eq_false HKD.out]; rfl)))
                  go_wp2_with (first | (go_at_call 110; refine (yyZ nm HX1.out _).mono ?_; rintro e w3 ⟨rfl, hb3⟩; rw [← HQ1.out]; have k3 := zzh hb3 HC0.out; have k4 := zzh hb3 HC1.out; have hm3 := HM2.out.kept (zzj (row := none) hb3) (by simp); have hlk := yy5 hm3 law9 Tryz.underlying168 Tryz.underlying4 (qxy _) HKEY.out HAT.out; have HM3 := zH hm3; have HB3 := zH (HB2.out.trans (hb3.mono HB2.out.size)); clear hb3 hm3) | (go_at_call 44; refine (zzf _ _).mono ?_; rintro e w5 ⟨rfl, rfl⟩; rw [← HNU.out]) | fail)
                  go_ret
                  exact ⟨by rw [HFIN.out]; rfl, HB3.out⟩
          · have HXX := HCB
            have HFIN := zH (vvM (qzK hil HX.out (show colB l i (nm, kd) = false by rw [HCB.out]; rfl)))
            go_wp2_with (first | (go_at_call 110; refine (yyZ nm HX1.out _).mono ?_; rintro e w3 ⟨rfl, hb3⟩; rw [← HQ1.out]; have k3 := zzh hb3 HC0.out; have k4 := zzh hb3 HC1.out; have hm3 := HM2.out.kept (zzj (row := none) hb3) (by simp); have hlk := yy5 hm3 law9 Tryz.underlying168 Tryz.underlying4 (qxy _) HKEY.out HAT.out; have HM3 := zH hm3; have HB3 := zH (HB2.out.trans (hb3.mono HB2.out.size)); clear hb3 hm3) | (go_at_call 44; refine (zzf _ _).mono ?_; rintro e w5 ⟨rfl, rfl⟩; rw [← HNU.out]) | fail)
            go_ret
            exact ⟨by rw [HFIN.out]; rfl, HB3.out⟩
      · obtain rfl : i = n := by omega
        have HFIN := zH (jj4 (schB_yes HN.out (by rw [← HL.out]; exact HV.out)))
        clear HM
        go_wp2_with fail
        go_ret
        exact ⟨by rw [HFIN.out]; rfl, HB.out⟩
end
section
open Go Go.RowKit Go.Maps
structure ColZ (g : Nat) (w : World) : Prop where
 at_ : w.heap[g]? = some (.cells #[.int .i64 0, .int .i64 0, .int .i64 0, .slice none 0 0] 27 (0, 0))
theorem ColZ.keep {g : Nat} {w w' : World} (h : ColZ g w) (hb : Below w.heap.size w w') : ColZ g w' := ⟨(hb.block _ (zzb h.at_)).trans h.at_⟩
theorem ColZ.lt {g : Nat} {w : World} (h : ColZ g w) : g < w.heap.size := zzb h.at_
theorem ColZ.cells {g : Nat} {w : World} (h : ColZ g w) (o : Obj) :
 ((w.alloc o).cell? ⟨g, 0, none⟩ = some (.int .i64 0) ∧ (w.alloc o).frozen? ⟨g, 0, none⟩ = false) ∧ ((w.alloc o).cell? ⟨g, 1, none⟩ = some (.int .i64 0) ∧ (w.alloc o).frozen? ⟨g, 1, none⟩ = false) ∧ ((w.alloc o).cell? ⟨g, 2, none⟩ = some (.int .i64 0) ∧ (w.alloc o).frozen? ⟨g, 2, none⟩ = false) ∧ ((w.alloc o).cell? ⟨g, 3, none⟩ = some (.slice none 0 0) ∧ (w.alloc o).frozen? ⟨g, 3, none⟩ = false) := by
 have hg : (w.alloc o).heap[g]? = some (.cells #[.int .i64 0, .int .i64 0, .int .i64 0, .slice none 0 0] 27 (0, 0)) := (Below.heap_alloc w o _ (zzb h.at_)).trans h.at_
 exact ⟨⟨by rw [zC hg]; rfl, zF hg 0⟩, ⟨by rw [zC hg]; rfl, zF hg 1⟩, ⟨by rw [zC hg]; rfl, zF hg 2⟩, ⟨by rw [zC hg]; rfl, zF hg 3⟩⟩
end
section
open Go Go.RowKit
def yym (b : List UInt8) : Option (List UInt8) := if 4 ≤ b.length ∧ vvf (b.take (b.length - 4)) = b then some (b.take (b.length - 4)) else none
theorem uu2 {b : List UInt8} (h : b.length < 4) : yym b = none := if_neg (fun h2 => by omega)
theorem qzc {b : List UInt8} {m : Nat} (hm : b.length = m + 4) (h : vvf (b.take m) ≠ b) : yym b = none := if_neg (fun h2 => h (by rw [hm] at h2; exact h2.2))
theorem zqT {b : List UInt8} {m : Nat} (hm : b.length = m + 4) (h : vvf (b.take m) = b) : yym b = some (b.take m) := by
 unfold yym
 rw [if_pos ⟨by omega, by rw [hm]; exact h⟩, hm]; rfl
theorem uu3 {b c : List UInt8} (h : yym b = some c) : c.length ≤ b.length := by
 unfold yym at h
 split at h
 · injection h with h; subst h; rw [List.length_take]; omega
 · cases h
def OpPost (l : List UInt8) (w : World) (e : Ending) (w' : World) : Prop :=
 ∃ A n c, e = .returned (.tuple #[.slice A n c, .int .i64 (okc (yym l).isSome 2)]) ∧ Below w.heap.size w w' ∧ OwnB w' w.heap.size A n c ((yym l).getD [])
theorem zqU (g : Nat) (F : Nat → Prop) (A : Option Addr) (n c : Nat) (l : List UInt8) (w : World) (hT : TabC g w) (h : Sl tU8 F w A n c l) (hn : n ≤ 4294967000) :
 Calls Tryz.prog 130 #[.pointer (some ⟨g, 0, none⟩), .slice A n c] w (OpPost l w) := by
 have HL := zH h.len; have HT := zH hT
 by_cases h4 : 4 ≤ n
 · obtain ⟨m, rfl⟩ : ∃ m, n = m + 4 := ⟨n - 4, by omega⟩
   have HF := zH (h.fst (k := m) (by omega))
   have HH := zH h
   have hm1 : (m : Int) + 4 - 4 = (m : Int) := by omega
   have hm2 : (0 : Int) ≤ (m : Int) := by omega
   have hm3 : (m : Int) ≤ (c : Int) := by have := h.2.1; omega
   have hm4 : ¬ (m : Int) < 0 := by omega
   have hm5 : (m : Int) ≤ 4294967000 := by omega
   have HN : Hid (m + 4 ≤ 4294967000) := zH hn
   clear h h4 hT hn
   by_cases hs : vvf (l.take m) = l
   · have HO := zH (zqT HL.out.symm hs)
     have HS := zH hs
     clear hs
     go_enter Tryz.func130, Tryz.ntmps130
     go_wp2_with (first
      | (go_at_call 123; refine (jjP g F A m c (l.take m) _ HT.out HF.out (by have := HN.out; omega)).mono ?_; rintro e w1 ⟨A1, n1, c1, rfl, ho1, hb1⟩; rw [HS.out] at ho1; have HO1 := zH ho1; have HB1 := zH hb1; clear ho1 hb1)
      | (go_at_call 183; refine (eqB_any _ F A1 A n1 c1 (m + 4) c l l _ HO1.out.bs (HH.out.below HB1.out zN) (by have h1 := HO1.out.len; have h2 := HL.out; have h3 := HN.out; omega) (by have h3 := HN.out; omega) true (by simp)).mono ?_; rintro e w2 ⟨rfl, hb2⟩; have HB2 := zH (HB1.out.trans (hb2.mono HB1.out.size)); clear hb2)
      | (go_at_call 181; refine (jjk F A m c (l.take m) _ (HF.out.below HB2.out zN) (by have := HN.out; omega)).mono ?_; rintro e w3 ⟨A3, n3, c3, rfl, ho3, hb3⟩; have HO3 := zH (vva ho3 HB2.out.size); have HB3 := zH (HB2.out.trans (hb3.mono HB2.out.size)); clear ho3 hb3)
      | fail)
     go_ret2
     exact ⟨A3, n3, c3, by rw [HO.out]; rfl, HB3.out, by rw [HO.out]; exact HO3.out⟩
   · have HO := zH (qzc HL.out.symm hs)
     have HS := zH hs
     clear hs
     go_enter Tryz.func130, Tryz.ntmps130
     go_wp2_with (first
      | (go_at_call 123; refine (jjP g F A m c (l.take m) _ HT.out HF.out (by have := HN.out; omega)).mono ?_; rintro e w1 ⟨A1, n1, c1, rfl, ho1, hb1⟩; have HO1 := zH ho1; have HB1 := zH hb1; clear ho1 hb1)
      | (go_at_call 183; refine (eqB_any _ F A1 A n1 c1 (m + 4) c _ l _ HO1.out.bs (HH.out.below HB1.out zN) (by have h1 := HO1.out.len; have h2 := HL.out; have h3 := HN.out; have h4 := kqo (l.take m); rw [List.length_take] at h4; omega) (by have h3 := HN.out; omega) false (by simpa using HS.out)).mono ?_; rintro e w2 ⟨rfl, hb2⟩; have HB2 := zH (HB1.out.trans (hb2.mono HB1.out.size)); clear hb2)
      | fail)
     go_ret2
     exact ⟨none, 0, 0, by rw [HO.out]; rfl, HB2.out, by rw [HO.out]; exact OwnB.nil_ _ _⟩
 · have HO := zH (uu2 (b := l) (by rw [← HL.out]; omega))
   have h5 : (n : Int) - 4 < 0 := by omega
   go_enter Tryz.func130, Tryz.ntmps130
   go_wp2_with fail
   go_ret2
   exact ⟨none, 0, 0, by rw [HO.out]; rfl, zR, by rw [HO.out]; exact OwnB.nil_ _ _⟩
def OdPost (l : List UInt8) (w : World) (e : Ending) (w' : World) : Prop :=
 ∃ A n c, e = .returned (.tuple #[.slice A n c, .int .i64 (okc ((yym l).bind zzq).isSome 2)]) ∧ Below w.heap.size w w' ∧ Sl tFld (fun b => w.heap.size ≤ b) w' A n c (((yym l).bind zzq).getD [])
theorem qxP (g : Nat) (F : Nat → Prop) (A : Option Addr) (n c : Nat) (l : List UInt8) (w : World) (hT : TabC g w) (h : Sl tU8 F w A n c l) (hn : n ≤ 4294967000) :
 Calls Tryz.prog 69 #[.pointer (some ⟨g, 0, none⟩), .slice A n c] w (OdPost l w) := by
 have HL := zH h.len; have HT := zH hT; have HH := zH h; have HN := zH hn
 clear hT h hn
 obtain ⟨ec, hec⟩ : ∃ ec, ec = okc (yym l).isSome 2 := ⟨_, rfl⟩
 have HEC := zH hec
 clear hec
 cases hO : yym l with
 | none =>
   obtain rfl : ec = 2 := by rw [HEC.out, hO]; rfl
   have HR : Hid ((yym l).bind zzq = none) := zH (by rw [hO]; rfl)
   clear hO
   go_enter Tryz.func69, Tryz.ntmps69
   go_wp2_with (first
    | (go_at_call 130; refine (zqU g F A n c l _ HT.out HH.out HN.out).mono ?_; rintro e w1 ⟨A1, n1, c1, rfl, hb1, ho1⟩; rw [← HEC.out]; have HB1 := zH hb1; clear ho1 hb1)
    | fail)
   go_ret2
   exact ⟨none, 0, 0, by rw [HR.out]; rfl, HB1.out, by rw [HR.out]; exact Sl.nil_ _ _ _⟩
 | some x =>
   obtain rfl : ec = 0 := by rw [HEC.out, hO]; rfl
   have HX : Hid ((yym l).getD [] = x) := zH (by rw [hO]; rfl)
   have HR : Hid ((yym l).bind zzq = zzq x) := zH (by rw [hO]; rfl)
   have HLX := zH (uu3 hO)
   clear hO
   go_enter Tryz.func69, Tryz.ntmps69
   go_wp2_with (first
    | (go_at_call 130; refine (zqU g F A n c l _ HT.out HH.out HN.out).mono ?_; rintro e w1 ⟨A1, n1, c1, rfl, hb1, ho1⟩; rw [← HEC.out]; rw [HX.out] at ho1; have HB1 := zH hb1; have HO1 := zH ho1; clear ho1 hb1)
    | (go_at_call 131; refine (wtake_any _ A1 n1 c1 x _ HO1.out.bs (by have h1 := HO1.out.len; have h2 := HLX.out; have h3 := HL.out; have h4 := HN.out; omega)).mono ?_; rintro e w2 ⟨A2, n2, c2, rfl, hb2, hs2⟩; rw [← HR.out]; rw [← HR.out] at hs2; have HB2 := zH (HB1.out.trans (hb2.mono HB1.out.size)); have HS2 := zH (hs2.weaken (F' := fun b => w.heap.size ≤ b) fun b hb _ => Nat.le_trans HB1.out.size hb); clear hs2 hb2)
    | fail)
   go_ret2
   exact ⟨A2, n2, c2, rfl, HB2.out, HS2.out⟩
end
section
open Go Go.RowKit
abbrev CH := Int × Int × Int × List (Int × List UInt8)
def rdS : List Fld → Option (List (Int × List UInt8))
 | [] => some []
 | [_] => none
 | a :: b :: r => if (isN 4 a && isB 5 b) = true then (rdS r).map (((a.n : Int), b.b) :: ·) else none
def chF : List Fld → Option CH
 | a :: b :: c :: r => if (isN 1 a && isN 2 b && isN 3 c) = true then (rdS r).map fun ss => ((a.n : Int), (b.n : Int), (c.n : Int), ss) else none
 | _ => none
def zzy (b : List UInt8) : Option CH := ((yym b).bind zzq).bind chF
def chV (o : Option CH) : CH := o.getD (0, 0, 0, [])
def okS (r : List Fld) (k : Nat) : Bool :=
 match r[2 * k]?, r[2 * k + 1]? with
 | some f, some g => isN 4 f && isB 5 g
 | _, _ => false
def atS (r : List Fld) (k : Nat) : Int × List UInt8 :=
 match r[2 * k]?, r[2 * k + 1]? with
 | some f, some g => ((f.n : Int), g.b)
 | _, _ => (0, [])
theorem okS_at {r : List Fld} {k : Nat} (h : 2 * k + 1 < r.length) : okS r k = (isN 4 r[2 * k] && isB 5 r[2 * k + 1]) := by
 unfold okS
 rw [List.getElem?_eq_getElem (by omega), List.getElem?_eq_getElem h]
theorem atS_at {r : List Fld} {k : Nat} (h : 2 * k + 1 < r.length) : atS r k = ((r[2 * k].n : Int), r[2 * k + 1].b) := by
 unfold atS
 rw [List.getElem?_eq_getElem (by omega), List.getElem?_eq_getElem h]
theorem qz0 {r : List Fld} {k : Nat} (h : r.length ≤ 2 * k + 1) : okS r k = false := by
 unfold okS
 rw [List.getElem?_eq_none h]
 split
 · rename_i h1 h2; cases h2
 · rfl
theorem zqV (a b : Fld) (r : List Fld) (k : Nat) : okS (a :: b :: r) (k + 1) = okS r k := by
 unfold okS
 rw [show 2 * (k + 1) = 2 * k + 1 + 1 by omega, List.getElem?_cons_succ, List.getElem?_cons_succ, List.getElem?_cons_succ, List.getElem?_cons_succ]
theorem atS_cons (a b : Fld) (r : List Fld) (k : Nat) : atS (a :: b :: r) (k + 1) = atS r k := by
 unfold atS
 rw [show 2 * (k + 1) = 2 * k + 1 + 1 by omega, List.getElem?_cons_succ, List.getElem?_cons_succ, List.getElem?_cons_succ, List.getElem?_cons_succ]
theorem jj7 : ∀ (k : Nat) (r : List Fld), 2 * k < r.length → okS r k = false → rdS r = none
 | _, [], h, _ => by simp at h
 | _, [_], _, _ => rfl
 | 0, a :: b :: r, _, h => by
   have h : (isN 4 a && isB 5 b) = false := h
   rw [rdS, if_neg (by rw [h]; simp)]
 | k + 1, a :: b :: r, hk, h => by
   rw [zqV] at h
   have ih := jj7 k r (by simp only [List.length_cons] at hk; omega) h
   rw [rdS, ih]
   split <;> rfl
theorem qz1 : ∀ (m : Nat) (r : List Fld), r.length ≤ 2 * m → (∀ k, k < m → okS r k = true) → rdS r = some ((List.range m).map (atS r))
 | 0, r, h, _ => by
   obtain rfl : r = [] := List.length_eq_zero_iff.1 (by omega)
   rfl
 | m + 1, [], _, h => by have := h 0 (by omega); rw [qz0 (by simp)] at this; cases this
 | m + 1, [_], _, h => by have := h 0 (by omega); rw [qz0 (by simp)] at this; cases this
 | m + 1, a :: b :: r, hk, h => by
   have h0 : (isN 4 a && isB 5 b) = true := h 0 (by omega)
   have ih := qz1 m r (by simp only [List.length_cons] at hk; omega) (fun k hk => by have := h (k + 1) (by omega); rw [zqV] at this; exact this)
   rw [rdS, if_pos h0, ih, List.range_succ_eq_map, List.map_cons, List.map_map]
   show some ((((a.n : Int), b.b)) :: (List.range m).map (atS r)) = some (_ :: (List.range m).map (atS (a :: b :: r) ∘ Nat.succ))
   rw [List.map_congr_left (g := atS (a :: b :: r) ∘ Nat.succ) fun k _ => (atS_cons a b r k).symm]
   rfl
theorem rdS_odd : ∀ (n : Nat) (r : List Fld), r.length = 2 * n + 1 → rdS r = none
 | 0, [_], _ => rfl
 | n + 1, a :: b :: r, h => by
   have ih := rdS_odd n r (by simp only [List.length_cons] at h; omega)
   rw [rdS, ih]
   split <;> rfl
 | 0, [], h => by simp at h
 | 0, _ :: _ :: _, h => by simp at h
 | n + 1, [], h => by simp at h
 | n + 1, [_], h => by simp at h
theorem rdS_len : ∀ (r : List Fld) (ss : List (Int × List UInt8)), rdS r = some ss → 2 * ss.length = r.length
 | [], ss, h => by simp [rdS] at h; subst h; rfl
 | [_], ss, h => by simp [rdS] at h
 | a :: b :: r, ss, h => by
   rw [rdS] at h
   split at h
   · cases hr : rdS r with
     | none => rw [hr] at h; cases h
     | some s =>
       rw [hr] at h
       injection h with h
       subst h
       have := rdS_len r s hr
       simp only [List.length_cons]; omega
   · cases h
theorem uu4 {l : List Fld} (h : l.length < 3) : chF l = none := by
 match l, h with
 | [], _ => rfl
 | [_], _ => rfl
 | [_, _], _ => rfl
 | _ :: _ :: _ :: _, h => simp at h; omega
theorem qzd {l : List Fld} (h : 3 ≤ l.length) (hb : (isN 1 l[0] && isN 2 l[1] && isN 3 l[2]) = false) : chF l = none := by
 match l, h with
 | a :: b :: c :: r, h =>
   have hb : (isN 1 a && isN 2 b && isN 3 c) = false := hb
   rw [chF, if_neg (by rw [hb]; simp)]
theorem qz2 {l : List Fld} (h : 3 ≤ l.length) (h1 : isN 1 l[0] = true) (h2 : isN 2 l[1] = true) (h3 : isN 3 l[2] = true) : chF l = (rdS (l.drop 3)).map fun ss => ((l[0].n : Int), (l[1].n : Int), (l[2].n : Int), ss) := by
 match l, h with
 | a :: b :: c :: r, h =>
   have hb : (isN 1 a && isN 2 b && isN 3 c) = true := by
    have h1 : isN 1 a = true := h1
    have h2 : isN 2 b = true := h2
    have h3 : isN 3 c = true := h3
    rw [h1, h2, h3]; rfl
   rw [chF, if_pos hb]
   rfl
theorem chF_n0 {l : List Fld} {f : Fld} (h : 3 ≤ l.length) (e : l[0]? = some f) (hb : isN 1 f = false) : chF l = none := qzd h (by
 rw [List.getElem?_eq_getElem (by omega)] at e; injection e with e; rw [e, hb]; rfl)
theorem chF_n1 {l : List Fld} {f : Fld} (h : 3 ≤ l.length) (e : l[1]? = some f) (hb : isN 2 f = false) : chF l = none := qzd h (by
 rw [List.getElem?_eq_getElem (by omega)] at e; injection e with e; rw [e, hb, Bool.and_false]; rfl)
theorem chF_n2 {l : List Fld} {f : Fld} (h : 3 ≤ l.length) (e : l[2]? = some f) (hb : isN 3 f = false) : chF l = none := qzd h (by
 rw [List.getElem?_eq_getElem (by omega)] at e; injection e with e; rw [e, hb, Bool.and_false])
theorem chF_ok {l : List Fld} {f g k : Fld} (h : 3 ≤ l.length) (e0 : l[0]? = some f) (e1 : l[1]? = some g) (e2 : l[2]? = some k) (h0 : isN 1 f = true) (h1 : isN 2 g = true) (h2 : isN 3 k = true) : chF l = (rdS (l.drop 3)).map fun ss => ((f.n : Int), (g.n : Int), (k.n : Int), ss) := by
 rw [List.getElem?_eq_getElem (by omega)] at e0 e1 e2
 injection e0 with e0; injection e1 with e1; injection e2 with e2
 subst e0 e1 e2
 exact qz2 h h0 h1 h2
theorem vvR {t : Int} {f : Fld} (h : isN t f = true) : f.n < 9223372036854775808 := by
 unfold isN at h
 rw [Bool.and_eq_true, decide_eq_true_eq] at h
 exact h.2
theorem isR_ok {t : Int} {f : Fld} (h : f.ok) : isR t true f = isB t f := by
 unfold isR isB
 have := h.2.2.2
 cases hb : f.bytes with
 | false => simp
 | true => rw [hb] at this; simp only [if_true] at this; rw [this]; simp
theorem xxR {b : List UInt8} {l : List Fld} (h : (yym b).bind zzq = some l) : l.length ≤ b.length ∧ ∀ f ∈ l, f.ok := by
 cases ho : yym b with
 | none => rw [ho] at h; cases h
 | some x =>
   rw [ho] at h
   have h : zzq x = some l := h
   have h1 := uu3 ho
   have h2 := qzY x.length x l zN h
   exact ⟨by omega, (qzZ h).2⟩
theorem xxi {b : List UInt8} (h : (yym b).bind zzq = none) : zzy b = none := by unfold zzy; rw [h]; rfl
theorem xx9 {b : List UInt8} {l : List Fld} (h : (yym b).bind zzq = some l) : zzy b = chF l := by unfold zzy; rw [h]; rfl
theorem chV_len {b : List UInt8} : 2 * (chV (zzy b)).2.2.2.length ≤ b.length := by
 cases h : (yym b).bind zzq with
 | none => rw [xxi h]; exact Nat.zero_le _
 | some l =>
   rw [xx9 h]
   obtain ⟨h1, _⟩ := xxR h
   by_cases h3 : 3 ≤ l.length
   · cases hb : (isN 1 l[0] && isN 2 l[1] && isN 3 l[2]) with
     | false => rw [qzd h3 hb]; exact Nat.zero_le _
     | true =>
       rw [Bool.and_eq_true, Bool.and_eq_true] at hb
       rw [qz2 h3 hb.1.1 hb.1.2 hb.2]
       cases hs : rdS (l.drop 3) with
       | none => exact Nat.zero_le _
       | some ss =>
         have := rdS_len _ _ hs
         rw [List.length_drop] at this
         show 2 * ss.length ≤ b.length
         omega
   · rw [uu4 (by omega)]; exact Nat.zero_le _
def qze (b : List UInt8) (w : World) (e : Ending) (w' : World) : Prop :=
 ∃ A n c, e = .returned (.tuple #[.agg #[.int .i64 (chV (zzy b)).1, .int .i64 (chV (zzy b)).2.1, .int .i64 (chV (zzy b)).2.2.1, .slice A n c], .int .i64 (okc (zzy b).isSome 2)]) ∧ Sl zzm (fun k => w.heap.size ≤ k) w' A n c (chV (zzy b)).2.2.2 ∧ Below w.heap.size w w'
theorem tc_no {b : List UInt8} {w w' : World} (h : zzy b = none) (hb : Below w.heap.size w w') : qze b w (.returned (.tuple #[.agg #[.int .i64 0, .int .i64 0, .int .i64 0, .slice none 0 0], .int .i64 2])) w' :=
 ⟨none, 0, 0, by rw [h]; rfl, by rw [h]; exact Sl.nil_ _ _ _, hb⟩
end
section
open Go Go.RowKit Go.Shelf
attribute [local go_sem] Oper.semAt_some
theorem uu5 {P : Program} {fn : Func} {p q : Tmp} {ty ty2 : TypeId} (h : fn.results = #[.cell p ty, .cell q ty2]) (tmps : Array Value) (w : World) (g g2 : Nat) (t : TypeId) (cs : Array Value) (fr : Nat × Nat) (d : TypeDesc) (v : Value)
 (hp : tmps.getD p undef = .pointer (some ⟨g, 0, none⟩)) (hq : tmps.getD q undef = .pointer (some ⟨g2, 0, none⟩)) (hg : w.heap[g]? = some (.cells cs t fr))
 (hu : P.underlying ty = some d) (hd : (match d with | .struct _ | .array _ _ => true | _ => false) = true) (hi : (P.info? ty).map (·.size) = some cs.size) (hv : (loadVar ty2 ⟨g2, 0, none⟩).run P w = .ok v w) :
 (results fn tmps).run P w = .ok (.tuple #[.agg cs, v]) w := by
 have hp' : tmps[p]?.getD undef = .pointer (some ⟨g, 0, none⟩) := by simpa using hp
 have hq' : tmps[q]?.getD undef = .pointer (some ⟨g2, 0, none⟩) := by simpa using hq
 simp [results, h, hp', hq', asAddr, run_loadVar_row w g t ty cs fr d hg hu hd hi, hv]
structure TcR (w : World) (a b c d : Value) (er : Int) (W : World) : Prop where
 r : W.heap[w.heap.size]? = some (.cells #[a, b, c, d] 27 (0, 0))
 e : W.heap[w.heap.size + 1]? = some (.cells #[.int .i64 er] 28 (0, 0))
 below : Below w.heap.size w W
theorem TcR.cellsOf {w W : World} {a b c d : Value} {er : Int} (h : TcR w a b c d er W) :
 (W.cell? ⟨w.heap.size, 0, none⟩ = some a ∧ W.frozen? ⟨w.heap.size, 0, none⟩ = false) ∧ (W.cell? ⟨w.heap.size, 1, none⟩ = some b ∧ W.frozen? ⟨w.heap.size, 1, none⟩ = false) ∧ (W.cell? ⟨w.heap.size, 2, none⟩ = some c ∧ W.frozen? ⟨w.heap.size, 2, none⟩ = false) ∧ (W.cell? ⟨w.heap.size, 3, none⟩ = some d ∧ W.frozen? ⟨w.heap.size, 3, none⟩ = false) ∧
   (W.cell? ⟨w.heap.size + 1, 0, none⟩ = some (.int .i64 er) ∧ W.frozen? ⟨w.heap.size + 1, 0, none⟩ = false) := by
 obtain ⟨h0, h1, h2, h3⟩ := zzn h.r
 exact ⟨h0, h1, h2, h3, by rw [zC h.e]; rfl, zF h.e 0⟩
theorem TcR.call {w W W' : World} {a b c d : Value} {er : Int} (h : TcR w a b c d er W) (hb : Below (w.heap.size + 2) W W') : TcR w a b c d er W' :=
 ⟨(hb.block _ (by omega)).trans h.r, (hb.block _ (by omega)).trans h.e, h.below.trans (hb.mono (by omega))⟩
theorem TcR.put {w W : World} {a b c d : Value} {er : Int} (h : TcR w a b c d er W) (a' b' c' d' : Value) (er' : Int) :
 TcR w a' b' c' d' er' (((((W.setCell ⟨w.heap.size, 0, none⟩ a').setCell ⟨w.heap.size, 1, none⟩ b').setCell ⟨w.heap.size, 2, none⟩ c').setCell ⟨w.heap.size, 3, none⟩ d').setCell ⟨w.heap.size + 1, 0, none⟩ (.int .i64 er')) :=
 ⟨zzc (jjw h.r a' b' c' d') (by omega), zza ((xxx (by omega) a' b' c' d').trans h.e) rfl, zzd (zz2 h.below zN a' b' c' d') (Nat.le_succ _) _⟩
theorem TcR.grow {w W W' : World} {a b c d : Value} {er : Int} (h : TcR w a b c d er W) {row : Option Nat} (hg : W.grownBy W' row) (hs : w.heap.size + 2 ≤ W.heap.size) (hr : ∀ k, row = some k → w.heap.size + 2 ≤ k) : TcR w a b c d er W' :=
 ⟨(hg.block _ (by omega) (fun e => by have := hr _ e.symm; omega)).trans h.r, (hg.block _ (by omega) (fun e => by have := hr _ e.symm; omega)).trans h.e, h.below.grown hg (by omega) (fun k e => by have := hr k e; omega)⟩
theorem tc_keeps {B r : Nat} {W w2 : World} {a b c d e : Value} (hb : Below W.heap.size W w2) : KeepsFrom B W (((((w2.setCell ⟨r, 0, none⟩ a).setCell ⟨r, 1, none⟩ b).setCell ⟨r, 2, none⟩ c).setCell ⟨r, 3, none⟩ d).setCell ⟨r + 1, 0, none⟩ e) :=
 (⟨hb.size, fun k _ _ hk _ => (hb.block k (zzb hk)).trans hk⟩ : KeepsFrom B W w2).trans ((((((KeepsOthers.setCell w2 _ _).trans (KeepsOthers.setCell _ _ _)).trans (KeepsOthers.setCell _ _ _)).trans (KeepsOthers.setCell _ _ _)).trans (KeepsOthers.setCell _ _ _)).from B)
theorem tcW (w : World) : ∃ wb, wb = (w.alloc (.cells #[.int .i64 0, .int .i64 0, .int .i64 0, .slice none 0 0] 27)).alloc (.cells #[.int .i64 0] 28) ∧ TcR w (.int .i64 0) (.int .i64 0) (.int .i64 0) (.slice none 0 0) 0 wb ∧ wb.heap.size = w.heap.size + 2 :=
 ⟨_, rfl, ⟨zzi (zzQ rfl _) _, zzQ (by simp) _, ((Below.refl _ w).alloc zN _).alloc (by simp) _⟩, by simp⟩
theorem tc_res {w W : World} {a b c d : Value} {er : Int} (h : TcR w a b c d er W) (tm : Array Value) (h4 : tm.getD 4 undef = .pointer (some ⟨w.heap.size, 0, none⟩)) (h5 : tm.getD 5 undef = .pointer (some ⟨w.heap.size + 1, 0, none⟩)) :
 (results Tryz.f27 tm).run Tryz.prog W = .ok (.tuple #[.agg #[a, b, c, d], .int .i64 er]) W :=
 uu5 rfl _ _ w.heap.size (w.heap.size + 1) _ _ (0, 0) _ _ h4 h5 h.r Tryz.underlying27 rfl (by kernel_rfl) (uuR (by rw [zC h.e]; rfl))
theorem uu6 : zzm.OnCells := Ty.OnCells.prod (Ty.Flat.cells jjF) (Ty.OnCells.sl (Ty.Flat.cells jjd))
structure TcI (r : List Fld) (a b c : Int) (lo B K : Nat) (w4 : World) {m : Nat} (pre : List (Fin m)) (W : World) : Prop where
 ex : ∃ A0 c0, OwnF zzm 55 (fun k => lo ≤ k ∧ k < K) W B A0 pre.length c0 (pre.map fun x => atS r x.val) ∧ W.heap[K]? = some (.cells #[.int .i64 a, .int .i64 b, .int .i64 c, .slice A0 pre.length c0] 27 (0, 0))
 below : Below K w4 W
 size : B ≤ W.heap.size
 ok : ∀ x ∈ pre, okS r x.val = true
theorem TcI.own (r : List Fld) (a b c : Int) (lo B K : Nat) (w4 : World) (m : Nat) (hK : K + 3 = B) (hw : w4.heap.size = K) : OwnFrom B (TcI r a b c lo B K w4 (m := m)) := fun pre W W' row hs hg hr => by
 obtain ⟨⟨A0, c0, h1, h2⟩, h3, h4, h5⟩ := hs
 have hr1 : ∀ r, row = some r → B ≤ r := fun r e => (hr r e).1
 refine ⟨⟨A0, c0, (h1.quiet uu6 hg (fun r e => (hr r e).2)).weaken (fun b hb _ => hb.1) (fun b _ hB _ h => by omega), (hg.block K (by omega) (fun e => by have := hr1 _ e.symm; omega)).trans h2⟩, h3.grown hg (by omega) (fun r e => by have := hr1 r e; omega), Nat.le_trans h4 hg.size, h5⟩
def TcX (bs : List UInt8) (w : World) (B : Nat) {m : Nat} (c : Code) (_ : List (Fin m)) (W : World) : Prop := c = .ret ∧ zzy bs = none ∧ TcR w (.int .i64 0) (.int .i64 0) (.int .i64 0) (.slice none 0 0) 2 W ∧ B ≤ W.heap.size
theorem TcX.own (bs : List UInt8) (w : World) (B m : Nat) (hB : w.heap.size + 2 ≤ B) (c : Code) : OwnFrom B (TcX bs w B (m := m) c) := fun _ W W' row hs hg hr => by
 obtain ⟨h1, h2, h3, h4⟩ := hs
 have hr1 : ∀ r, row = some r → B ≤ r := fun r e => (hr r e).1
 exact ⟨h1, h2, ⟨(hg.block _ (by omega) (fun e => by have := hr1 _ e.symm; omega)).trans h3.r, (hg.block _ (by omega) (fun e => by have := hr1 _ e.symm; omega)).trans h3.e, h3.below.grown hg (by omega) (fun r e => by have := hr1 r e; omega)⟩, Nat.le_trans h4 hg.size⟩
theorem tc_fin {α : Type} {T : Ty α} {e : TypeId} {F F9 : Nat → Prop} {B K j n n' c c9 : Nat} {W w9 : World} {A0 A9 : Option Addr} {xs ys : List α} {obj : Obj} (v : Value) (hK : K < B) (ho : OwnF T e F W B A0 n c xs) (h9 : ApdL T e F9 W.drew (W.drew.alloc obj) w9 B A0 A9 n' c9 ys) :
 KeepsFrom B W (w9.setCell ⟨K, j, none⟩ v) ∧ (∀ b, b < B → b ≠ K → (w9.setCell ⟨K, j, none⟩ v).heap[b]? = W.heap[b]?) ∧ W.heap.size ≤ (w9.setCell ⟨K, j, none⟩ v).heap.size ∧ w9.heap[K]? = W.heap[K]? ∧ Below B W w9 := by
 have hsz : W.heap.size + 1 ≤ w9.heap.size := by have := h9.grown.size; rw [zS] at this; exact this
 have hb : Below B W w9 := ((Below.refl _ W).drew).trans h9.below
 refine ⟨⟨by simp; omega, fun k o hk hl hc => ?_⟩, fun b hb1 hne => (Below.heap_setCell _ _ _ _ hne).trans (hb.block b hb1), by simp; omega, hb.block K hK, hb⟩
 have hkl := zzb hl
 refine (Below.heap_setCell _ _ _ _ (by show k ≠ K; omega)).trans ?_
 refine (h9.grown.block k (by rw [zS]; show k < W.heap.size + 1; omega) (fun e => ?_)).trans ((Below.heap_alloc W.drew obj k hkl).trans hl)
 exact yye (ho.rowCells e.symm) ⟨o, hl, hc⟩ rfl
theorem jj8 (g : Nat) (F : Nat → Prop) (A : Option Addr) (n c : Nat) (bs : List UInt8) (w : World) (hT : TabC g w) (h : Sl tU8 F w A n c bs) (hn : n ≤ 4294967000) :
 Calls Tryz.prog 27 #[.pointer (some ⟨g, 0, none⟩), .slice A n c] w (qze bs w) := by
 obtain ⟨wb, hw, hr, hsz⟩ := tcW w
 have HW := zH hw; have HR := zH hr; have HSZ := zH hsz; have HN := zH hn; have HL := zH h.len
 have HTB := zH (hT.keep hr.below); have HH := zH (h.below hr.below zN)
 obtain ⟨ec, hec⟩ : ∃ ec, ec = okc ((yym bs).bind zzq).isSome 2 := ⟨_, rfl⟩
 have HEC := zH hec
 have fin0 : ∀ (w1 : World), Below wb.heap.size wb w1 → TcR w (.int .i64 0) (.int .i64 0) (.int .i64 0) (.slice none 0 0) 2 (((((w1.setCell ⟨w.heap.size, 0, none⟩ (.int .i64 0)).setCell ⟨w.heap.size, 1, none⟩ (.int .i64 0)).setCell ⟨w.heap.size, 2, none⟩ (.int .i64 0)).setCell ⟨w.heap.size, 3, none⟩ (.slice none 0 0)).setCell ⟨w.heap.size + 1, 0, none⟩ (.int .i64 2)) := fun w1 hb =>
  (HR.out.call (hb.mono (by have := HSZ.out; omega))).put (.int .i64 0) (.int .i64 0) (.int .i64 0) (.slice none 0 0) 2
 have fin : ∀ (w1 : World) (tm : Array Value), Below wb.heap.size wb w1 → tm.getD 4 undef = .pointer (some ⟨w.heap.size, 0, none⟩) → tm.getD 5 undef = .pointer (some ⟨w.heap.size + 1, 0, none⟩) →
  (results Tryz.f27 tm).run Tryz.prog (((((w1.setCell ⟨w.heap.size, 0, none⟩ (.int .i64 0)).setCell ⟨w.heap.size, 1, none⟩ (.int .i64 0)).setCell ⟨w.heap.size, 2, none⟩ (.int .i64 0)).setCell ⟨w.heap.size, 3, none⟩ (.slice none 0 0)).setCell ⟨w.heap.size + 1, 0, none⟩ (.int .i64 2)) = .ok (.tuple #[.agg #[.int .i64 0, .int .i64 0, .int .i64 0, .slice none 0 0], .int .i64 2]) (((((w1.setCell ⟨w.heap.size, 0, none⟩ (.int .i64 0)).setCell ⟨w.heap.size, 1, none⟩ (.int .i64 0)).setCell ⟨w.heap.size, 2, none⟩ (.int .i64 0)).setCell ⟨w.heap.size, 3, none⟩ (.slice none 0 0)).setCell ⟨w.heap.size + 1, 0, none⟩ (.int .i64 2)) := fun w1 tm hb e4 e5 => tc_res (fin0 w1 hb) tm e4 e5
 have finb : ∀ (w1 : World), zzy bs = none → Below wb.heap.size wb w1 → qze bs w (.returned (.tuple #[.agg #[.int .i64 0, .int .i64 0, .int .i64 0, .slice none 0 0], .int .i64 2])) (((((w1.setCell ⟨w.heap.size, 0, none⟩ (.int .i64 0)).setCell ⟨w.heap.size, 1, none⟩ (.int .i64 0)).setCell ⟨w.heap.size, 2, none⟩ (.int .i64 0)).setCell ⟨w.heap.size, 3, none⟩ (.slice none 0 0)).setCell ⟨w.heap.size + 1, 0, none⟩ (.int .i64 2)) := fun w1 hN hb => tc_no hN (fin0 w1 hb).below
 have FINB := zH finb
 have FIN := zH fin
 clear hw hr hsz hn hT h hec fin fin0 finb
 refine (callsIn_wide (n := 3)).1 ?_
 refine callsIn_of_wp_marks Tryz.func27 rfl trivial ?_ rfl
 simp only [Tryz.ntmps27, List.size_toArray, List.length_cons, List.length_nil, Nat.reduceAdd, Nat.reduceSub, Array.replicate_succ, Array.replicate_zero, List.push_toArray, List.append_toArray, List.nil_append, List.cons_append]
 gi_wp2
 refine ⟨trivial, ?_⟩
 rw [← HW.out]
 refine (callsIn_wide.2 (qxP g F A n c bs _ HTB.out HH.out HN.out)).mono ?_
 rintro e w1 ⟨A1, n1, c1, rfl, hb1, hs1⟩
 rw [← HEC.out]
 have HB1 := zH hb1
 obtain ⟨⟨z0, z0'⟩, ⟨z1, z1'⟩, ⟨z2, z2'⟩, ⟨z3, z3'⟩, ⟨z4, z4'⟩⟩ := (HR.out.call (hb1.mono (by have := HSZ.out; omega))).cellsOf
 clear hb1
 cases hO : (yym bs).bind zzq with
 | none =>
   obtain rfl : ec = 2 := by rw [HEC.out, hO]; rfl
   have HC := zH (xxi hO)
   clear hO hs1
   gi_wp2
   repeat (refine ⟨trivial, ?_⟩; gi_wp2)
   refine ⟨_, FIN.out w1 _ HB1.out ?_ ?_, FINB.out w1 HC.out HB1.out⟩ <;> rfl
 | some l =>
   obtain rfl : ec = 0 := by rw [HEC.out, hO]; rfl
   have HC := zH (xx9 hO)
   rw [hO] at hs1
   have hs1 : Sl tFld (fun k => wb.heap.size ≤ k) w1 A1 n1 c1 l := hs1
   have HS1 := zH hs1
   have HLN : Hid (l.length ≤ bs.length) := zH (xxR hO).1
   have HL1 := zH hs1.len
   have HC1 := zH hs1.2.1; have HC2 := zH hs1.2.2.1
   clear hO hs1
   by_cases h3 : 3 ≤ l.length
   · obtain ⟨b, o, Aa, na, ca, hA1, k0, -, x0⟩ := vvS HS1.out (k := 0) (by omega)
     obtain ⟨b', o', Ab, nb, cb, e1, k1, -, x1⟩ := vvS HS1.out (k := 1) (by omega)
     rw [hA1] at e1; injection e1 with e1; injection e1 with e1 e1'; subst e1 e1'
     obtain ⟨b', o', Ac, nc, cc, e1, k2, -, x2⟩ := vvS HS1.out (k := 2) (by omega)
     rw [hA1] at e1; injection e1 with e1; injection e1 with e1 e1'; subst e1 e1'
     subst hA1
     simp only [Nat.zero_mul, Nat.add_zero, Nat.one_mul, Nat.reduceMul] at k0 k1 k2
     obtain ⟨f0, hf0⟩ : ∃ f, l[0] = f := ⟨_, rfl⟩
     obtain ⟨f1, hf1⟩ : ∃ f, l[1] = f := ⟨_, rfl⟩
     obtain ⟨f2, hf2⟩ : ∃ f, l[2] = f := ⟨_, rfl⟩
     rw [hf0] at k0 x0; rw [hf1] at k1 x1; rw [hf2] at k2 x2
     have HF0 : Hid (l[0]? = some f0) := zH (by rw [List.getElem?_eq_getElem (by omega), hf0]); have HF1 : Hid (l[1]? = some f1) := zH (by rw [List.getElem?_eq_getElem (by omega), hf1]); have HF2 : Hid (l[2]? = some f2) := zH (by rw [List.getElem?_eq_getElem (by omega), hf2]); have H3 := zH h3
     clear hf0 hf1 hf2
     obtain ⟨t0, i0, y0, bb0⟩ := f0; obtain ⟨t1, i1, y1, bb1⟩ := f1; obtain ⟨t2, i2, y2, bb2⟩ := f2
     dsimp only at k0 k1 k2 x0 x1 x2
     have K0 := zH k0; have K1 := zH k1; have K2 := zH k2
     have X0 := zH x0; have X1 := zH x1; have X2 := zH x2
     obtain ⟨p0, p1, p2, p3⟩ := k0
     have hn3 : (3 : Int) ≤ (n1 : Int) := by have := HL1.out; omega
     have hn3' : ¬ (n1 : Int) < 3 := by omega
     have hn0 : 0 < n1 := by omega
     have hn1 : (1 : Int) < (n1 : Int) := by omega
     have hn2 : (2 : Int) < (n1 : Int) := by omega
     clear k1 k2 x0 x1 x2
     cases hi0 : isN 1 ⟨t0, i0, y0, []⟩ with
     | false =>
       have HI0 := zH hi0
       have HZ : Hid (zzy bs = none) := zH (by rw [HC.out]; exact chF_n0 H3.out HF0.out HI0.out)
       clear hi0
       gi_wp2_with (first | (refine ⟨trivial, ?_⟩; gi_at_call 70; refine (callsIn_wide.2 (xx7 _ _ _ _ _ _ _ _ (by first | exact X0.out | exact X1.out | exact X2.out | fail) _ rfl)).mono ?_; rintro e w1 ⟨rfl, hb2⟩; (first | rw [HI0.out] | rw [HI1.out] | rw [HI2.out] | fail); have HB1 := zH (HB1.out.trans (hb2.mono HB1.out.size)); have K0 := zH (K0.out.keep hb2); have K1 := zH (K1.out.keep hb2); have K2 := zH (K2.out.keep hb2); have HS1 := zH (HS1.out.below hb2 zN); obtain ⟨p0, p1, p2, p3⟩ := K0.out; obtain ⟨q0, q1, q2, q3⟩ := K1.out; obtain ⟨r0, r1, r2, r3⟩ := K2.out; obtain ⟨⟨z0, z0'⟩, ⟨z1, z1'⟩, ⟨z2, z2'⟩, ⟨z3, z3'⟩, ⟨z4, z4'⟩⟩ := (HR.out.call (HB1.out.mono (by have := HSZ.out; omega))).cellsOf; clear hb2) | fail)
       repeat (refine ⟨trivial, ?_⟩; gi_wp2)
       refine ⟨_, FIN.out w1 _ HB1.out ?_ ?_, FINB.out w1 HZ.out HB1.out⟩ <;> rfl
     | true =>
       have HI0 := zH hi0
       clear hi0
       cases hi1 : isN 2 ⟨t1, i1, y1, []⟩ with
       | false =>
         have HI1 := zH hi1
         have HZ : Hid (zzy bs = none) := zH (by rw [HC.out]; exact chF_n1 H3.out HF1.out HI1.out)
         clear hi1
         gi_wp2_with (first | (refine ⟨trivial, ?_⟩; gi_at_call 70; refine (callsIn_wide.2 (xx7 _ _ _ _ _ _ _ _ (by first | exact X0.out | exact X1.out | exact X2.out | fail) _ rfl)).mono ?_; rintro e w1 ⟨rfl, hb2⟩; (first | rw [HI0.out] | rw [HI1.out] | rw [HI2.out] | fail); have HB1 := zH (HB1.out.trans (hb2.mono HB1.out.size)); have K0 := zH (K0.out.keep hb2); have K1 := zH (K1.out.keep hb2); have K2 := zH (K2.out.keep hb2); have HS1 := zH (HS1.out.below hb2 zN); obtain ⟨p0, p1, p2, p3⟩ := K0.out; obtain ⟨q0, q1, q2, q3⟩ := K1.out; obtain ⟨r0, r1, r2, r3⟩ := K2.out; obtain ⟨⟨z0, z0'⟩, ⟨z1, z1'⟩, ⟨z2, z2'⟩, ⟨z3, z3'⟩, ⟨z4, z4'⟩⟩ := (HR.out.call (HB1.out.mono (by have := HSZ.out; omega))).cellsOf; clear hb2) | fail)
         repeat (refine ⟨trivial, ?_⟩; gi_wp2)
         refine ⟨_, FIN.out w1 _ HB1.out ?_ ?_, FINB.out w1 HZ.out HB1.out⟩ <;> rfl
       | true =>
         have HI1 := zH hi1
         clear hi1
         cases hi2 : isN 3 ⟨t2, i2, y2, []⟩ with
         | false =>
           have HI2 := zH hi2
           have HZ : Hid (zzy bs = none) := zH (by rw [HC.out]; exact chF_n2 H3.out HF2.out HI2.out)
           clear hi2
           gi_wp2_with (first | (refine ⟨trivial, ?_⟩; gi_at_call 70; refine (callsIn_wide.2 (xx7 _ _ _ _ _ _ _ _ (by first | exact X0.out | exact X1.out | exact X2.out | fail) _ rfl)).mono ?_; rintro e w1 ⟨rfl, hb2⟩; (first | rw [HI0.out] | rw [HI1.out] | rw [HI2.out] | fail); have HB1 := zH (HB1.out.trans (hb2.mono HB1.out.size)); have K0 := zH (K0.out.keep hb2); have K1 := zH (K1.out.keep hb2); have K2 := zH (K2.out.keep hb2); have HS1 := zH (HS1.out.below hb2 zN); obtain ⟨p0, p1, p2, p3⟩ := K0.out; obtain ⟨q0, q1, q2, q3⟩ := K1.out; obtain ⟨r0, r1, r2, r3⟩ := K2.out; obtain ⟨⟨z0, z0'⟩, ⟨z1, z1'⟩, ⟨z2, z2'⟩, ⟨z3, z3'⟩, ⟨z4, z4'⟩⟩ := (HR.out.call (HB1.out.mono (by have := HSZ.out; omega))).cellsOf; clear hb2) | fail)
           repeat (refine ⟨trivial, ?_⟩; gi_wp2)
           refine ⟨_, FIN.out w1 _ HB1.out ?_ ?_, FINB.out w1 HZ.out HB1.out⟩ <;> rfl
         | true =>
           have HI2 := zH hi2
           have hy0 := vvR hi2
           dsimp only at hy0
           have g0 := vvR HI0.out; have g1 := vvR HI1.out
           dsimp only at g0 g1
           have hw0 : IntKind.i64.wrap (y0 : Int) = (y0 : Int) := by rw [IntKind.wrap_i64]; omega
           have hw1 : IntKind.i64.wrap (y1 : Int) = (y1 : Int) := by rw [IntKind.wrap_i64]; omega
           have hw2 : IntKind.i64.wrap (y2 : Int) = (y2 : Int) := by rw [IntKind.wrap_i64]; omega
           have HY : Hid (zzy bs = (rdS (l.drop 3)).map fun ss => ((y0 : Int), (y1 : Int), (y2 : Int), ss)) := zH (by rw [HC.out, chF_ok H3.out HF0.out HF1.out HF2.out HI0.out HI1.out HI2.out])
           clear hi2 hy0 g0 g1
           gi_wp2_with (first | (refine ⟨trivial, ?_⟩; gi_at_call 70; refine (callsIn_wide.2 (xx7 _ _ _ _ _ _ _ _ (by first | exact X0.out | exact X1.out | exact X2.out | fail) _ rfl)).mono ?_; rintro e w1 ⟨rfl, hb2⟩; (first | rw [HI0.out] | rw [HI1.out] | rw [HI2.out] | fail); have HB1 := zH (HB1.out.trans (hb2.mono HB1.out.size)); have K0 := zH (K0.out.keep hb2); have K1 := zH (K1.out.keep hb2); have K2 := zH (K2.out.keep hb2); have HS1 := zH (HS1.out.below hb2 zN); obtain ⟨p0, p1, p2, p3⟩ := K0.out; obtain ⟨q0, q1, q2, q3⟩ := K1.out; obtain ⟨r0, r1, r2, r3⟩ := K2.out; obtain ⟨⟨z0, z0'⟩, ⟨z1, z1'⟩, ⟨z2, z2'⟩, ⟨z3, z3'⟩, ⟨z4, z4'⟩⟩ := (HR.out.call (HB1.out.mono (by have := HSZ.out; omega))).cellsOf; clear hb2) | fail)
           have e0 : w1.drew.cell? ⟨b, o + 2, none⟩ = some (.int .u64 (y0 : Int)) := p2
           have e1 : w1.drew.cell? ⟨b, o + 4 + 2, none⟩ = some (.int .u64 (y1 : Int)) := q2
           have e2 : w1.drew.cell? ⟨b, o + 8 + 2, none⟩ = some (.int .u64 (y2 : Int)) := r2
           refine regLw [(none, fun w' => w'.cell? ⟨b, o + 2, none⟩ = some (.int .u64 (y0 : Int))), (none, fun w' => w'.cell? ⟨b, o + 4 + 2, none⟩ = some (.int .u64 (y1 : Int))), (none, fun w' => w'.cell? ⟨b, o + 8 + 2, none⟩ = some (.int .u64 (y2 : Int)))] (by kernel_rfl) (by kernel_rfl) ?_ (fun hHeld => ?_)
           · exact ⟨(by first | exact e0 | exact zzB e0 _ | fail), (by first | exact e1 | exact zzB e1 _ | fail), (by first | exact e2 | exact zzB e2 _ | fail), trivial⟩
           iterate 2
            all_goals
             repeat ((first | (refine tkP 0 (oi := ⟨_, _, _, _, _, _⟩) (v := ?_) rfl (by decide +kernel) rfl (fun _ _ _ h => by cases h.1) rfl hHeld ?_ ?_) | (refine tkP 1 (oi := ⟨_, _, _, _, _, _⟩) (v := ?_) rfl (by decide +kernel) rfl (fun _ _ _ h => by cases h.1) rfl hHeld ?_ ?_) | (refine tkP 2 (oi := ⟨_, _, _, _, _, _⟩) (v := ?_) rfl (by decide +kernel) rfl (fun _ _ _ h => by cases h.1) rfl hHeld ?_ ?_) | (refine tkL 3 0 rfl (oi := ⟨_, _, _, _, _, _⟩) (v := ?_) rfl (by decide +kernel) rfl (fun _ _ _ h => by cases h.1) rfl hHeld ?_ ?_) | (refine tkP 4 (oi := ⟨_, _, _, _, _, _⟩) (v := ?_) rfl (by decide +kernel) rfl (fun _ _ _ h => by cases h.1) rfl hHeld ?_ ?_) | (refine tkP 5 (oi := ⟨_, _, _, _, _, _⟩) (v := ?_) rfl (by decide +kernel) rfl (fun _ _ _ h => by cases h.1) rfl hHeld ?_ ?_) | (refine tkP 6 (oi := ⟨_, _, _, _, _, _⟩) (v := ?_) rfl (by decide +kernel) rfl (fun _ _ _ h => by cases h.1) rfl hHeld ?_ ?_) | (refine tkP 7 (oi := ⟨_, _, _, _, _, _⟩) (v := ?_) rfl (by decide +kernel) rfl (fun _ _ _ h => by cases h.1) rfl hHeld ?_ ?_) | (refine tkL 8 1 rfl (oi := ⟨_, _, _, _, _, _⟩) (v := ?_) rfl (by decide +kernel) rfl (fun _ _ _ h => by cases h.1) rfl hHeld ?_ ?_) | (refine tkP 9 (oi := ⟨_, _, _, _, _, _⟩) (v := ?_) rfl (by decide +kernel) rfl (fun _ _ _ h => by cases h.1) rfl hHeld ?_ ?_) | (refine tkP 10 (oi := ⟨_, _, _, _, _, _⟩) (v := ?_) rfl (by decide +kernel) rfl (fun _ _ _ h => by cases h.1) rfl hHeld ?_ ?_) | (refine tkP 11 (oi := ⟨_, _, _, _, _, _⟩) (v := ?_) rfl (by decide +kernel) rfl (fun _ _ _ h => by cases h.1) rfl hHeld ?_ ?_) | (refine tkP 12 (oi := ⟨_, _, _, _, _, _⟩) (v := ?_) rfl (by decide +kernel) rfl (fun _ _ _ h => by cases h.1) rfl hHeld ?_ ?_) | (refine tkL 13 2 rfl (oi := ⟨_, _, _, _, _, _⟩) (v := ?_) rfl (by decide +kernel) rfl (fun _ _ _ h => by cases h.1) rfl hHeld ?_ ?_) | (refine tkP 14 (oi := ⟨_, _, _, _, _, _⟩) (v := ?_) rfl (by decide +kernel) rfl (fun _ _ _ h => by cases h.1) rfl hHeld ?_ ?_) | (refine tkP 15 (oi := ⟨_, _, _, _, _, _⟩) (v := ?_) rfl (by decide +kernel) rfl (fun _ _ _ h => by cases h.1) rfl hHeld ?_ ?_)); rotate_left; (focus (intro w; (try intro hSw); (try dsimp only at hSw); go_simp; try with_reducible rfl)); intro hHeld; (try simp only [Act.put]); (try simp only [List.setIfInBounds_toArray]); (try simp only [List.set_cons_succ]); (try simp only [List.set_cons_zero]))
             first | (refine rd1 16 (o := ⟨_, _, _, _, _, _⟩) (by decide +kernel) rfl (fun K hK => ?_)) | (refine rd1 17 (o := ⟨_, _, _, _, _, _⟩) (by decide +kernel) rfl (fun K hK => ?_))
            all_goals
             first  | (go_simp; (fail)) | go_simp
             refine hK.out _ _ ?_ (fun hHeld => ?_)
             · (try dsimp only); exact ⟨(by first | exact e0 | exact zzB e0 _ | fail), (by first | exact e1 | exact zzB e1 _ | fail), (by first | exact e2 | exact zzB e2 _ | fail), trivial⟩
             clear hK K; (try simp only [Act.put]); (try simp only [List.setIfInBounds_toArray]); (try simp only [List.set_cons_succ]); (try simp only [List.set_cons_zero])
           all_goals
            refine vvW (by decide +kernel) ?_ _
            refine ⟨rfl, ?_⟩
            obtain ⟨Kx, hK⟩ : ∃ q, q = w1.heap.size := ⟨_, rfl⟩
            obtain ⟨W4, hW4⟩ : ∃ W4, W4 = (w1.alloc (.cells #[.int .i64 (y0 : Int), .int .i64 (y1 : Int), .int .i64 (y2 : Int), .slice none 0 0] 27)).drew := ⟨_, rfl⟩
            have hb4 : Below w1.heap.size w1 W4 := by rw [hW4]; exact ((zR).alloc zN _).drew
            have HZ4 : Hid (W4.heap.size = Kx + 1) := zH (by rw [hW4, hK]; show (w1.alloc _).heap.size = _; simp)
            have HBX : Hid (W4.heap[Kx]? = some (.cells #[.int .i64 (y0 : Int), .int .i64 (y1 : Int), .int .i64 (y2 : Int), .slice none 0 0] 27 (0, 0))) := zH (by rw [hW4, hK]; exact heap_alloc_new w1 _)
            have hcc : (n1 : Int) ≤ (c1 : Int) := by have := HC1.out; omega
            have hcc3 : (3 : Int) ≤ (c1 : Int) := by omega
            have HB4 := zH hb4; have HK := zH hK
            have HSW : Hid (Sl tFld (fun k => wb.heap.size ≤ k ∧ k < Kx) w1 (some ⟨b, o, none⟩) n1 c1 l) := zH (HS1.out.weaken (F' := fun k => wb.heap.size ≤ k ∧ k < Kx) (fun k hk hl => ⟨hk, by rw [hK]; exact hl⟩))
            rw [← hW4, ← hK]
            clear hK hW4 hb4
            gi_wp2
            all_goals
             refine ⟨trivial, ?_⟩
             first
              | (obtain ⟨AP, hAP⟩ : ∃ q, q = (some (⟨b, o + 12, none⟩ : Addr)) := ⟨_, rfl⟩
                 obtain ⟨cP, hcP⟩ : ∃ q, q = c1 - 3 := ⟨_, rfl⟩
                 have hsp := HSW.out.cut (lo := 3) (hi := n1) (by omega) zN
                 rw [if_neg (by assumption), zL (by rw [← HL1.out]; exact Nat.le_refl _), Option.map_some, zz4, show 3 * tFld.size = 12 from rfl, ← hAP, ← hcP] at hsp
                 rw [← hAP, ← hcP]
                 have HSP := zH hsp
                 clear hAP hcP hsp)
              | (obtain ⟨AP, hAP⟩ : ∃ q, q = (some (⟨b, o, none⟩ : Addr)) := ⟨_, rfl⟩
                 obtain ⟨cP, hcP⟩ : ∃ q : Nat, q = 0 := ⟨_, rfl⟩
                 have hsp := HSW.out.cut (lo := 3) (hi := n1) (by omega) zN
                 rw [if_pos (by assumption), zL (by rw [← HL1.out]; exact Nat.le_refl _), ← hAP, show c1 - 3 = 0 by omega, ← hcP] at hsp
                 rw [← hAP]
                 rw [show (Value.slice AP (n1 - 3) 0) = Value.slice AP (n1 - 3) cP by rw [hcP]]
                 have HSP := zH hsp
                 clear hAP hcP hsp)
              | fail
             have HNN : Hid (n1 - 3 + 3 = n1) := zH (by omega)
             obtain ⟨N, hN⟩ : ∃ N, N = n1 - 3 := ⟨_, rfl⟩
             rw [← hN] at HSP HNN
             rw [← hN]
             obtain ⟨r, hr⟩ : ∃ r, r = l.drop 3 := ⟨_, rfl⟩
             rw [← hr] at HSP HY
             have HRL : Hid (r.length = N) := zH HSP.out.len.symm
             have HNB : Hid (N ≤ 4294967000) := zH (by have h1 := HRL.out; have h2 := HLN.out; have h3 := HL.out; have h4 := HN.out; rw [hr, List.length_drop] at h1; omega)
             clear hN hr
             refine (chFld_in Fence.wide _ trivial rfl AP N cP 2 (by omega) _).mono ?_
             rintro e w' ⟨rfl, rfl⟩
             obtain ⟨W0, hW0⟩ : ∃ W0, W0 = (W4.alloc (.cells #[.slice AP N cP] 111)).alloc (.cells #[.int .i64 2] 3) := ⟨_, rfl⟩
             have hb0 : W0.heap[W4.heap.size]? = some (.cells #[.slice AP N cP] 111 (0, 0)) := by rw [hW0]; exact zzi (zzQ rfl _) _
             have hb1 : W0.heap[W4.heap.size + 1]? = some (.cells #[.int .i64 ((2 : Nat) : Int)] 3 (0, 0)) := by rw [hW0]; exact zzQ (by simp) _
             have hbw : Below W4.heap.size W4 W0 := by rw [hW0]; exact ((zR).alloc zN _).alloc (by simp) _
             have hz0 : W0.heap.size = Kx + 3 := by rw [hW0]; simp; exact HZ4.out
             rw [show ((2 : Nat) : Int) = 2 from rfl, ← hW0]
             have HB40 := zH hbw; have HZ0 := zH hz0; have HA0 := zH hb0; have HA1 := zH hb1
             clear hW0 hbw hz0 hb0 hb1
             gi_wp2
             have hbw := HB40.out; have hz0 := HZ0.out; have hb0 := HA0.out; have hb1 := HA1.out
             have hz4 := HZ4.out
             have hk4 : w1.heap.size = Kx := HK.out.symm
             have hkw : wb.heap.size ≤ Kx := by have := HB1.out.size; omega
             have hszb := HSZ.out
             have h0 : TcI r (y0 : Int) (y1 : Int) (y2 : Int) (w.heap.size + 2) W0.heap.size Kx w1 (m := (N + 1) / 2) [] W0 :=
              ⟨⟨none, 0, OwnF.nil_ _ _ _ _ _, (hbw.block Kx (by omega)).trans HBX.out⟩, by rw [← hk4]; exact HB4.out.trans (hbw.mono (by omega)), Nat.le_refl _, by simp⟩
             have hn0 : ∀ k, k < (N + 1) / 2 ↔ 2 * k < N := fun k => by omega
             have HMX : Hid (N ≤ cP ∧ cP ≤ maxLen) := zH ⟨HSP.out.2.1, HSP.out.2.2.1⟩
             refine wpIn_rangeFunc_ownG rfl (by omega) (gf := 132) (lb := #[.pointer (some ⟨W4.heap.size, 0, none⟩), .pointer (some ⟨W4.heap.size + 1, 0, none⟩)]) rfl trivial (enters_of Tryz.func132 (by kernel_rfl) rfl)
              (qz4 Fence.wide _ trivial rfl (by omega) W4.heap.size (W4.heap.size + 1) AP 2 ((N + 1) / 2) N cP (by omega) (by omega) hn0 (by have := HNB.out; omega) HMX.out.1 HMX.out.2 W0 hb0 hb1) KpC.trans (KpC.put (by omega) (by omega)) (zR) (fun _ => rfl)
              (TcI r (y0 : Int) (y1 : Int) (y2 : Int) (w.heap.size + 2) W0.heap.size Kx w1) (TcX bs w W0.heap.size) (TcI.own r _ _ _ _ _ Kx w1 _ (by omega) hk4) (TcX.own bs w _ _ (by omega)) h0 ?_ ?_ ?_ ?_ ?_
             rotate_left
             · intro l x W K hK
               dsimp only [uuf]
               gi_wp2
               exact hK
             · rintro l' pre x W ⟨⟨A0, c0, ho, hbox⟩, hbk, hszW, hok⟩ hpl
               have HK4 := zH hk4; have HKW := zH hkw
               have hx2 := (hn0 x.val).1 x.isLt
               have HO := zH ho; have HBOX := zH hbox; have HBK := zH hbk; have HSZW := zH hszW; have HOKS := zH hok
               have HSX : Hid (Sl tFld (fun k => wb.heap.size ≤ k ∧ k < Kx) W AP N cP r) := zH (HSP.out.below hbk (by omega))
               have HTR := zH (HR.out.call (((HB1.out.mono (by omega)).trans (hbk.mono (by omega)))))
               have HLOW : Hid (w.heap.size + 2 ≤ W.heap.size) := zH (by omega)
               have HPL : Hid (pre.length ≤ 4294967000) := zH (by have := HNB.out; omega)
               have HXL : Hid (2 * x.val < r.length) := zH (by rw [HRL.out]; exact hx2)
               have HFB : Hid (∀ w2, Below W.heap.size W w2 → okS r x.val = false → KeepsFrom W0.heap.size W (((((w2.setCell ⟨w.heap.size, 0, none⟩ (.int .i64 0)).setCell ⟨w.heap.size, 1, none⟩ (.int .i64 0)).setCell ⟨w.heap.size, 2, none⟩ (.int .i64 0)).setCell ⟨w.heap.size, 3, none⟩ (.slice none 0 0)).setCell ⟨w.heap.size + 1, 0, none⟩ (.int .i64 2)) ∧ TcX bs w W0.heap.size (m := (N + 1) / 2) .ret (pre ++ [x]) (((((w2.setCell ⟨w.heap.size, 0, none⟩ (.int .i64 0)).setCell ⟨w.heap.size, 1, none⟩ (.int .i64 0)).setCell ⟨w.heap.size, 2, none⟩ (.int .i64 0)).setCell ⟨w.heap.size, 3, none⟩ (.slice none 0 0)).setCell ⟨w.heap.size + 1, 0, none⟩ (.int .i64 2))) := zH (fun w2 hb hf => by
                have h2 := (HTR.out.call (hb.mono HLOW.out)).put (.int .i64 0) (.int .i64 0) (.int .i64 0) (.slice none 0 0) 2
                exact ⟨tc_keeps hb, rfl, by rw [HY.out, jj7 x.val r HXL.out hf]; rfl, h2, by simp; have := hb.size; have := HSZW.out; omega⟩)
               obtain ⟨⟨z0, z0'⟩, ⟨z1, z1'⟩, ⟨z2, z2'⟩, ⟨z3, z3'⟩, ⟨z4, z4'⟩⟩ := HTR.out.cellsOf
               clear ho hbox hbk hszW hok hpl hk4 hz4 hszb hz0 hb0 hb1 h0 hbw
               by_cases h2 : 2 * x.val + 1 < N
               · obtain ⟨bb, o2, Aa2, na2, ca2, hAP, k0, -, x0, hbbF⟩ := qz3 HSX.out (k := 2 * x.val) HXL.out
                 obtain ⟨b', o', A8, n8, c8, e1, k1, hs8, -⟩ := vvS HSX.out (k := 2 * x.val + 1) (by rw [HRL.out]; exact h2)
                 rw [hAP] at e1; injection e1 with e1; injection e1 with e1 e1'; subst e1 e1'
                 obtain ⟨p, hp⟩ : ∃ p, p = o2 + 2 * x.val * 4 := ⟨_, rfl⟩
                 rw [show o2 + (2 * x.val + 1) * 4 = p + 4 by omega] at k1
                 rw [← hp] at k0
                 obtain ⟨fA, hfA⟩ : ∃ f, r[2 * x.val]'HXL.out = f := ⟨_, rfl⟩
                 obtain ⟨fB, hfB⟩ : ∃ f, r[2 * x.val + 1]'(by rw [HRL.out]; exact h2) = f := ⟨_, rfl⟩
                 have HOA := zH (okS_at (r := r) (k := x.val) (by rw [HRL.out]; exact h2))
                 have HAT := zH (atS_at (r := r) (k := x.val) (by rw [HRL.out]; exact h2))
                 rw [hfA] at k0 x0 HOA HAT; rw [hfB] at k1 hs8 HOA HAT
                 obtain ⟨tA, iA, yA, bbA⟩ := fA; obtain ⟨tB, iB, yB, bbB⟩ := fB
                 dsimp only at k0 k1 x0 hs8 HOA HAT
                 have HBB := zH hbbF.2
                 have XA := zH x0; have KA := zH k0; have KB := zH k1; have HS8 := zH hs8
                 obtain ⟨p0, p1, p2, p3⟩ := k0
                 have hq2 : min 2 (N - 2 * x.val) = 2 := by omega
                 rw [hq2, hAP, Option.map_some, zz4, ← hp]
                 clear hAP hp hfA hfB k1 x0 hs8 hq2 hbbF
                 cases hi0 : isN 4 ⟨tA, iA, yA, []⟩ with
                 | false =>
                   have HI := zH hi0
                   have HF : Hid (okS r x.val = false) := zH (by rw [HOA.out]; exact (congrArg (· && _) HI.out).trans rfl)
                   clear hi0
                   gi_wp2_with (first | (refine ⟨trivial, ?_⟩; gi_at_call 70; refine (CallsIn.inRound l' (callsIn_wide.2 (xx7 _ _ _ _ _ _ _ _ XA.out _ rfl))).mono ?_; rintro e w2 ⟨rfl, hb2⟩; rw [HI.out]; have HB2 : Hid (Below W.heap.size W w2) := zH hb2; have KA2 := zH (KA.out.keep hb2); have KB2 := zH (KB.out.keep hb2); obtain ⟨q0, q1, q2, q3⟩ := KB2.out; obtain ⟨⟨z0, z0'⟩, ⟨z1, z1'⟩, ⟨z2, z2'⟩, ⟨z3, z3'⟩, ⟨z4, z4'⟩⟩ := (HTR.out.call (HB2.out.mono HLOW.out)).cellsOf; clear hb2) | fail)
                   repeat (refine ⟨trivial, ?_⟩; gi_wp2)
                   exact HFB.out w2 HB2.out HF.out
                 | true =>
                   have HI := zH hi0
                   have hyA := vvR hi0
                   dsimp only at hyA
                   clear hi0
                   cases hi1 : isB 5 ⟨tB, iB, yB, []⟩ with
                   | false =>
                     have HJ := zH hi1
                     have HF : Hid (okS r x.val = false) := zH (by rw [HOA.out]; exact (congrArg (_ && ·) HJ.out).trans (Bool.and_false _))
                     clear hi1
                     gi_wp2_with (first | (refine ⟨trivial, ?_⟩; gi_at_call 70; refine (CallsIn.inRound l' (callsIn_wide.2 (xx7 _ _ _ _ _ _ _ _ XA.out _ rfl))).mono ?_; rintro e w2 ⟨rfl, hb2⟩; rw [HI.out]; have HB2 : Hid (Below W.heap.size W w2) := zH hb2; have KA2 := zH (KA.out.keep hb2); have KB2 := zH (KB.out.keep hb2); obtain ⟨q0, q1, q2, q3⟩ := KB2.out; obtain ⟨⟨z0, z0'⟩, ⟨z1, z1'⟩, ⟨z2, z2'⟩, ⟨z3, z3'⟩, ⟨z4, z4'⟩⟩ := (HTR.out.call (HB2.out.mono HLOW.out)).cellsOf; clear hb2) | (refine ⟨trivial, ?_⟩; gi_at_call 72; refine (CallsIn.inRound l' (callsIn_wide.2 (isb_any _ _ _ _ _ _ _ _ _ rfl))).mono ?_; rintro e w3 ⟨rfl, hb3⟩; rw [HJ.out]; have HB3 : Hid (Below W.heap.size W w3) := zH (HB2.out.trans (hb3.mono HB2.out.size)); have KA3 := zH (KA2.out.keep hb3); have KB3 := zH (KB2.out.keep hb3); obtain ⟨⟨z0, z0'⟩, ⟨z1, z1'⟩, ⟨z2, z2'⟩, ⟨z3, z3'⟩, ⟨z4, z4'⟩⟩ := (HTR.out.call (HB3.out.mono HLOW.out)).cellsOf; clear hb3) | fail)
                     exact HFB.out w3 HB3.out HF.out
                   | true =>
                     have HJ := zH hi1
                     have HOX : Hid (okS r x.val = true) := zH (by rw [HOA.out]; exact (congrArg (· && _) HI.out).trans ((Bool.true_and _).trans HJ.out))
                     have hwA : IntKind.i64.wrap (yA : Int) = (yA : Int) := by rw [IntKind.wrap_i64]; omega
                     clear hi1
                     gi_wp2_with (first | (refine ⟨trivial, ?_⟩; gi_at_call 70; refine (CallsIn.inRound l' (callsIn_wide.2 (xx7 _ _ _ _ _ _ _ _ XA.out _ rfl))).mono ?_; rintro e w2 ⟨rfl, hb2⟩; rw [HI.out]; have HB2 : Hid (Below W.heap.size W w2) := zH hb2; have KA2 := zH (KA.out.keep hb2); have KB2 := zH (KB.out.keep hb2); obtain ⟨q0, q1, q2, q3⟩ := KB2.out; obtain ⟨⟨z0, z0'⟩, ⟨z1, z1'⟩, ⟨z2, z2'⟩, ⟨z3, z3'⟩, ⟨z4, z4'⟩⟩ := (HTR.out.call (HB2.out.mono HLOW.out)).cellsOf; clear hb2) | (refine ⟨trivial, ?_⟩; gi_at_call 72; refine (CallsIn.inRound l' (callsIn_wide.2 (isb_any _ _ _ _ _ _ _ _ _ rfl))).mono ?_; rintro e w3 ⟨rfl, hb3⟩; rw [HJ.out]; have HB3 : Hid (Below W.heap.size W w3) := zH (HB2.out.trans (hb3.mono HB2.out.size)); have KA3 := zH (KA2.out.keep hb3); have KB3 := zH (KB2.out.keep hb3); obtain ⟨⟨z0, z0'⟩, ⟨z1, z1'⟩, ⟨z2, z2'⟩, ⟨z3, z3'⟩, ⟨z4, z4'⟩⟩ := (HTR.out.call (HB3.out.mono HLOW.out)).cellsOf; clear hb3) | fail)
                     have HZW3 : Hid (Kx < W0.heap.size ∧ W0.heap.size ≤ w3.heap.size) := zH ⟨by have := HZ0.out; omega, by have h1 := HSZW.out; have h2 := HB3.out.size; omega⟩
                     have HO3 := zH (HO.out.keepB HB3.out)
                     have HBX3 := zH ((HB3.out.block Kx (zzb HBOX.out)).trans HBOX.out)
                     have d0 : w3.drew.cell? ⟨Kx, 3, none⟩ = some (.slice A0 pre.length c0) := (zzn HBX3.out).2.2.2.1
                     have b0 := fun o : Obj => zzB d0 o
                     have ka : w3.drew.cell? ⟨bb, p + 2, none⟩ = some (.int .u64 (yA : Int)) := KA3.out.c2
                     have kb : w3.drew.cell? ⟨bb, p + 4 + 3, none⟩ = some (.slice A8 n8 c8) := KB3.out.c3
                     have HREP : Hid (zzm.rep (fun k => w.heap.size + 2 ≤ k ∧ k < Kx) w3.drew [.int .i64 (yA : Int), .slice A8 n8 c8] (atS r x.val)) := zH (by
                      rw [HAT.out]
                      exact ⟨[.int .i64 (yA : Int)], [.slice A8 n8 c8], rfl, ⟨rfl, by dsimp only; omega, by dsimp only; omega⟩, A8, n8, c8, rfl, ((HS8.out.weaken (F' := fun k => w.heap.size + 2 ≤ k ∧ k < Kx) (fun k hk _ => ⟨by have h1 := hk.1; have h2 := HSZ.out; omega, hk.2⟩)).below HB3.out zN).drew⟩)
                     have HLIM : Hid (pre.length ≤ 34359738368) := zH (by have := HPL.out; omega)
                     refine wpIn_mono (Q := fun e _ w' => e = .normal ∧ KeepsFrom W0.heap.size W w' ∧ KpC W4.heap.size (W4.heap.size + 1) W w' ∧ TcI r (y0 : Int) (y1 : Int) (y2 : Int) (w.heap.size + 2) W0.heap.size Kx w1 (pre ++ [x]) w') ?_ ?_
                     rotate_left
                     · rintro e a' w' ⟨rfl, h⟩
                       exact h
                     refine xqj [(some 13, fun w' => w'.cell? ⟨Kx, 3, none⟩ = some (.slice A0 pre.length c0)), (none, fun w' => w'.cell? ⟨bb, p + 2, none⟩ = some (.int .u64 (yA : Int))), (none, fun w' => w'.cell? ⟨bb, p + 4 + 3, none⟩ = some (.slice A8 n8 c8))] (by kernel_rfl) (by kernel_rfl) zqf ?_ (fun hHeld => ?_)
                     · exact ⟨fun h => (by first | exact gone (c := 13) (by decide +kernel) h | exact d0 | exact b0 _ | fail), (by first | exact ka | exact zzB ka _ | exact ka9 | exact kaS _ | fail), (by first | exact kb | exact zzB kb _ | exact kb9 | exact kbS _ | fail), trivial⟩
                     iterate 3
                      all_goals
                       repeat ((first | (refine tkP 0 (oi := ⟨_, _, _, _, _, _⟩) (v := ?_) rfl (by decide +kernel) rfl (fun _ _ _ h => h) rfl hHeld ?_ ?_) | (refine tkL 1 0 rfl (oi := ⟨_, _, _, _, _, _⟩) (v := ?_) rfl (by decide +kernel) rfl (fun _ _ _ h => h) rfl hHeld ?_ ?_) | (refine tkP 2 (oi := ⟨_, _, _, _, _, _⟩) (v := ?_) rfl (by decide +kernel) rfl (fun _ _ _ h => h) rfl hHeld ?_ ?_) | (refine tkP 3 (oi := ⟨_, _, _, _, _, _⟩) (v := ?_) rfl (by decide +kernel) rfl (fun _ _ _ h => h) rfl hHeld ?_ ?_) | (refine tkP 4 (oi := ⟨_, _, _, _, _, _⟩) (v := ?_) rfl (by decide +kernel) rfl (fun _ _ _ h => h) rfl hHeld ?_ ?_) | (refine tkL 5 1 rfl (oi := ⟨_, _, _, _, _, _⟩) (v := ?_) rfl (by decide +kernel) rfl (fun _ _ _ h => h) rfl hHeld ?_ ?_) | (refine tkP 6 (oi := ⟨_, _, _, _, _, _⟩) (v := ?_) rfl (by decide +kernel) rfl (fun _ _ _ h => h) rfl hHeld ?_ ?_) | (refine tkP 7 (oi := ⟨_, _, _, _, _, _⟩) (v := ?_) rfl (by decide +kernel) rfl (fun _ _ _ h => h) rfl hHeld ?_ ?_) | (refine tkP 8 (oi := ⟨_, _, _, _, _, _⟩) (v := ?_) rfl (by decide +kernel) rfl (fun _ _ _ h => h) rfl hHeld ?_ ?_) | (refine tkP 9 (oi := ⟨_, _, _, _, _, _⟩) (v := ?_) rfl (by decide +kernel) rfl (fun _ _ _ h => h) rfl hHeld ?_ ?_) | (refine tkL 10 2 rfl (oi := ⟨_, _, _, _, _, _⟩) (v := ?_) rfl (by decide +kernel) rfl (fun _ _ _ h => h) rfl hHeld ?_ ?_) | (refine tkP 11 (oi := ⟨_, _, _, _, _, _⟩) (v := ?_) rfl (by decide +kernel) rfl (fun _ _ _ h => h) rfl hHeld ?_ ?_) | (refine tkP 14 (oi := ⟨_, _, _, _, _, _⟩) (v := ?_) rfl (by decide +kernel) rfl (fun _ _ _ h => h) rfl hHeld ?_ ?_)); rotate_left; (focus (intro w; (try intro hSw); (try dsimp only at hSw); go_simp; try with_reducible rfl)); intro hHeld; (try simp only [Act.put]); (try simp only [List.setIfInBounds_toArray]); (try simp only [List.set_cons_succ]); (try simp only [List.set_cons_zero]))
                       first | (refine rd1 12 (o := ⟨_, _, _, _, _, _⟩) (by decide +kernel) rfl (fun K hK => ?_)) | (refine rd1 13 (o := ⟨_, _, _, _, _, _⟩) (by decide +kernel) rfl (fun K hK => ?_)) | (refine rd1 15 (o := ⟨_, _, _, _, _, _⟩) (by decide +kernel) rfl (fun K hK => ?_))
                      all_goals
                       first | (refine atD 96 rfl ?_; refine yyQ (T := zzm) yy3 w3.drew w3.drew rfl (.tmp 84) (.tmp 95) rfl W0.heap.size A0 pre.length c0 (pre.map fun x => atS r x.val) (by rfl) (fun k => w.heap.size + 2 ≤ k ∧ k < Kx) (fun k => w.heap.size + 2 ≤ k ∧ k < Kx) HO3.out.drew (zR) HZW3.out.2 _ (by rfl) [.int .i64 (yA : Int), .slice A8 n8 c8] (atS r x.val) HREP.out 55 rfl (fun b _ hB _ h => by have := HZW3.out; omega) HLIM.out ?_; intro A9 c9 w9 h9; have hnr : some bb ≠ A0.map (·.block) := (fun e => by have h1 := (HO3.out.lies' e.symm).2.1; have h2 := HBB.out; have h3 := HZW3.out; omega); have ka9 : w9.cell? ⟨bb, p + 2, none⟩ = some (.int .u64 (yA : Int)) := h9.grown.cell (zzB ka _) hnr; have kb9 : w9.cell? ⟨bb, p + 4 + 3, none⟩ = some (.slice A8 n8 c8) := h9.grown.cell (zzB kb _) hnr; have hbk9 : bb ≠ Kx := (by have := HBB.out; omega); have kaS := (fun v : Value => (World.cell?_of_block (a := ⟨bb, p + 2, none⟩) (Below.heap_setCell w9 ⟨Kx, 3, none⟩ v bb hbk9)).trans ka9); have kbS := (fun v : Value => (World.cell?_of_block (a := ⟨bb, p + 4 + 3, none⟩) (Below.heap_setCell w9 ⟨Kx, 3, none⟩ v bb hbk9)).trans kb9); obtain ⟨f1, f2, f3, f4, f5⟩ := tc_fin (j := 3) (.slice A9 (pre.length + 1) c9) HZW3.out.1 HO3.out h9; have HBX9 := zH (f4.trans HBX3.out); obtain ⟨-, -, -, ⟨d9, d9'⟩⟩ := zzn HBX9.out; have HF1 := zH f1; have HF2 := zH f2; have HF3 := zH f3; have HF5 := zH f5; have H9 := zH h9.own; clear f1 f2 f3 f4 f5 h9 hbk9 hnr) | (go_simp; (fail)) | go_simp
                       refine hK.out _ _ ?_ (fun hHeld => ?_)
                       · (try dsimp only); exact ⟨fun h => (by first | exact gone (c := 13) (by decide +kernel) h | exact d0 | exact b0 _ | fail), (by first | exact ka | exact zzB ka _ | exact ka9 | exact kaS _ | fail), (by first | exact kb | exact zzB kb _ | exact kb9 | exact kbS _ | fail), trivial⟩
                       clear hK K; (try simp only [Act.put]); (try simp only [List.setIfInBounds_toArray]); (try simp only [List.set_cons_succ]); (try simp only [List.set_cons_zero])
                     all_goals
                      refine vvW (by decide +kernel) ?_ _
                      refine ⟨rfl, (⟨HB3.out.size, fun k o _ hk _ => (HB3.out.block k (zzb hk)).trans hk⟩ : KeepsFrom W0.heap.size W w3).trans HF1.out, ⟨?_, ?_⟩, ⟨A9, c9, ?_, ?_⟩, ?_, ?_, ?_⟩
                      · exact (HF2.out _ (by have := HZ0.out; have := HZ4.out; omega) (by have := HZ4.out; omega)).trans (HB3.out.block _ (by have := HZ0.out; have := HZ4.out; have := HSZW.out; omega))
                      · exact (HF2.out _ (by have := HZ0.out; have := HZ4.out; omega) (by have := HZ4.out; omega)).trans (HB3.out.block _ (by have := HZ0.out; have := HZ4.out; have := HSZW.out; omega))
                      · rw [List.length_append, List.length_singleton, List.map_append, List.map_singleton]
                        refine ((H9.out.weaken (F' := fun k => w.heap.size + 2 ≤ k ∧ k < Kx) (fun b hb _ => hb.1.elim id id) (fun b _ hB _ h => by have := HZW3.out; omega))).setCell (fun h => Nat.lt_irrefl _ h.2) (fun e => ?_) _
                        have h1 := (H9.out.lies' (b := Kx) (by rw [e]; rfl)).2.1
                        have := HZW3.out; omega
                      · rw [List.length_append, List.length_singleton]
                        exact zza HBX9.out rfl
                      · exact zzd ((HBK.out.trans (HB3.out.mono (by have := HZ0.out; have := HSZW.out; omega))).trans (HF5.out.mono (by have := HZW3.out; omega))) zN _
                      · have h1 := HF3.out; have h2 := HZW3.out; omega
                      · intro y hy
                        rcases List.mem_append.1 hy with hy | hy
                        · exact HOKS.out y hy
                        · rw [List.mem_singleton.1 hy]; exact HOX.out
               · have HF : Hid (okS r x.val = false) := zH (qz0 (by rw [HRL.out]; omega))
                 have hq1 : min 2 (N - 2 * x.val) = 1 := by omega
                 rw [hq1]
                 gi_wp2
                 repeat (refine ⟨trivial, ?_⟩; gi_wp2)
                 exact HFB.out W (zR) HF.out
             · rintro D xs W hD rfl ⟨⟨A0, c0, ho, hbox⟩, hbk, hszW, hok⟩ hK
               rw [List.length_finRange] at ho hbox
               rw [xxy ((N + 1) / 2) (atS r)] at ho
               have HT : Hid (zzy bs = some ((y0 : Int), (y1 : Int), (y2 : Int), (List.range ((N + 1) / 2)).map (atS r))) := zH (by
                rw [HY.out, qz1 ((N + 1) / 2) r (by rw [HRL.out]; omega) (fun k hk => hok ⟨k, hk⟩ (List.mem_finRange _))]; rfl)
               have HTR := zH (HR.out.call (((HB1.out.mono (by omega)).trans (hbk.mono (by omega)))))
               have HSL := zH (ho.sl.cells uu6)
               obtain ⟨⟨z0, z0'⟩, ⟨z1, z1'⟩, ⟨z2, z2'⟩, ⟨z3, z3'⟩, ⟨z4, z4'⟩⟩ := HTR.out.cellsOf
               obtain ⟨⟨v0, _⟩, ⟨v1, _⟩, ⟨v2, _⟩, ⟨v3, _⟩⟩ := zzn hbox
               have HKD := zH hK; have HD := zH hD; have HLW : Hid (w.heap.size + 2 ≤ Kx ∧ Kx + 3 = W0.heap.size ∧ W0.heap.size ≤ W.heap.size) := zH ⟨by omega, by omega, hszW⟩
               clear ho hbox hbk hszW hok hK hD hk4 hz4 hszb hz0 hb0 hb1 h0 hbw hkw
               gi_wp2
               have h2 := HTR.out.put (.int .i64 (y0 : Int)) (.int .i64 (y1 : Int)) (.int .i64 (y2 : Int)) (.slice A0 ((N + 1) / 2) c0) 0
               have hlw := HLW.out; have hdd := HD.out
               have hfar : ∀ k, w.heap.size + 2 ≤ k → (((((W.setCell ⟨w.heap.size, 0, none⟩ (.int .i64 (y0 : Int))).setCell ⟨w.heap.size, 1, none⟩ (.int .i64 (y1 : Int))).setCell ⟨w.heap.size, 2, none⟩ (.int .i64 (y2 : Int))).setCell ⟨w.heap.size, 3, none⟩ (.slice A0 ((N + 1) / 2) c0)).setCell ⟨w.heap.size + 1, 0, none⟩ (.int .i64 0)).heap[k]? = W.heap[k]? := fun k hk =>
                (Below.heap_setCell _ _ _ _ (by show k ≠ w.heap.size + 1; omega)).trans (xxx (by omega) _ _ _ _)
               obtain ⟨WF, hWF⟩ : ∃ WF, WF = (((((W.setCell ⟨w.heap.size, 0, none⟩ (.int .i64 (y0 : Int))).setCell ⟨w.heap.size, 1, none⟩ (.int .i64 (y1 : Int))).setCell ⟨w.heap.size, 2, none⟩ (.int .i64 (y2 : Int))).setCell ⟨w.heap.size, 3, none⟩ (.slice A0 ((N + 1) / 2) c0)).setCell ⟨w.heap.size + 1, 0, none⟩ (.int .i64 0)) := ⟨_, rfl⟩
               have hszF : WF.heap.size = W.heap.size := by rw [hWF]; simp
               rw [← hWF] at h2 hfar ⊢
               have hKD : WF.heap[D]? = some (.deferred (some [])) := (hfar D (by omega)).trans HKD.out
               refine ⟨by simp, .inl ⟨_, _, rfl, run_takeDeferred hKD, ?_⟩⟩
               have h3 := h2.grow (grownBy_putObj' WF D (.deferred none)) (by omega) (fun k e => by injection e with e; omega)
               refine ⟨_, tc_res h3 _ rfl rfl, A0, (N + 1) / 2, c0, by rw [HT.out]; rfl, ?_, h3.below⟩
               rw [HT.out]
               have hs := HSL.out.keep (w' := WF.putObj D (.deferred none)) (by rw [World.putObj_size]; omega) (fun k hk hl => (World.putObj_heap_other (fun e => by subst e; exact yye hk.2 ⟨_, HKD.out, rfl⟩ rfl)).trans (hfar k (by rcases hk.1 with h | h <;> omega)))
               exact hs.weaken fun k hk _ => by rcases hk.1 with h | h <;> omega
             · rintro D c pre W hD - ⟨rfl, hN, hTR, hszW⟩ hK
               gi_wp2
               refine ⟨by simp, .inl ⟨_, _, rfl, run_takeDeferred hK, ?_⟩⟩
               have h2 := hTR.grow (grownBy_putObj' W D (.deferred none)) (by omega) (fun k e => by injection e with e; omega)
               exact ⟨_, tc_res h2 _ rfl rfl, tc_no hN h2.below⟩
   · have HZ : Hid (zzy bs = none) := zH (by rw [HC.out]; exact uu4 (by omega))
     have hn3' : (n1 : Int) < 3 := by have := HL1.out; omega
     clear h3
     gi_wp2
     repeat (refine ⟨trivial, ?_⟩; gi_wp2)
     refine ⟨_, FIN.out w1 _ HB1.out ?_ ?_, FINB.out w1 HZ.out HB1.out⟩ <;> rfl
end
section
open Go Go.RowKit
theorem ropen_any (F : Nat → Prop) (A : Option Addr) (n c : Nat) (l : List UInt8) (w : World) (h : Sl tU8 F w A n c l) (hn : n ≤ 4294967000) :
 Calls Tryz.prog 73 #[.slice A n c] w (OpPost l w) := by
 have HL := zH h.len
 by_cases h4 : 4 ≤ n
 · obtain ⟨m, rfl⟩ : ∃ m, n = m + 4 := ⟨n - 4, by omega⟩
   have HF := zH (h.fst (k := m) (by omega))
   have HH := zH h
   have hm1 : (m : Int) + 4 - 4 = (m : Int) := by omega
   have hm2 : (0 : Int) ≤ (m : Int) := by omega
   have hm3 : (m : Int) ≤ (c : Int) := by have := h.2.1; omega
   have hm4 : ¬ (m : Int) < 0 := by omega
   have hm5 : (m : Int) ≤ 4294967000 := by omega
   have hm7 : IntKind.i64.wrap (m : Int) = (m : Int) := by rw [IntKind.wrap_i64]; omega
   have hm6 : ¬ (m : Int) + 4 < 4 := by omega
   have HN : Hid (m + 4 ≤ 4294967000) := zH hn
   have hD0 := zzN h.drew
   obtain ⟨X, hX⟩ : ∃ X, X = vvf (l.take m) := ⟨_, rfl⟩
   have HX := zH hX
   clear h h4 hn hX
   by_cases hs : X = l
   · have HO := zH (zqT HL.out.symm (HX.out.symm.trans hs))
     have hcmp : (X == l) = true := by rw [hs]; exact beq_self_eq_true _
     clear hs
     go_enter Tryz.func73, Tryz.ntmps73
     go_upto_region 1 with fail
     refine regL [(none, fun w' => (convert 41 9 (.slice A (m + 4) c)).run Tryz.prog w' = .ok (.string ⟨l.toArray⟩) w')] (by kernel_rfl) ?_ (fun hHeld => ?_)
     · exact ⟨(by first | exact hD0 | exact hE0 | fail), trivial⟩
     iterate 2
      all_goals
       repeat ((first | (refine tkP 0 (oi := ⟨_, _, _, _, _, _⟩) (v := ?_) rfl (by decide +kernel) rfl (fun _ _ _ h => h) rfl hHeld ?_ ?_) | (refine tkP 1 (oi := ⟨_, _, _, _, _, _⟩) (v := ?_) rfl (by decide +kernel) rfl (fun _ _ _ h => h) rfl hHeld ?_ ?_) | (refine tkP 2 (oi := ⟨_, _, _, _, _, _⟩) (v := ?_) rfl (by decide +kernel) rfl (fun _ _ _ h => h) rfl hHeld ?_ ?_) | (refine tkP 3 (oi := ⟨_, _, _, _, _, _⟩) (v := ?_) rfl (by decide +kernel) rfl (fun _ _ _ h => h) rfl hHeld ?_ ?_) | (refine tkP 4 (oi := ⟨_, _, _, _, _, _⟩) (v := ?_) rfl (by decide +kernel) rfl (fun _ _ _ h => h) rfl hHeld ?_ ?_) | (refine tkP 5 (oi := ⟨_, _, _, _, _, _⟩) (v := ?_) rfl (by decide +kernel) rfl (fun _ _ _ h => h) rfl hHeld ?_ ?_) | (refine tkP 6 (oi := ⟨_, _, _, _, _, _⟩) (v := ?_) rfl (by decide +kernel) rfl (fun _ _ _ h => h) rfl hHeld ?_ ?_) | (refine tkP 7 (oi := ⟨_, _, _, _, _, _⟩) (v := ?_) rfl (by decide +kernel) rfl (fun _ _ _ h => h) rfl hHeld ?_ ?_) | (refine tkP 8 (oi := ⟨_, _, _, _, _, _⟩) (v := ?_) rfl (by decide +kernel) rfl (fun _ _ _ h => h) rfl hHeld ?_ ?_) | (refine tkP 11 (oi := ⟨_, _, _, _, _, _⟩) (v := ?_) rfl (by decide +kernel) rfl (fun _ _ _ h => h) rfl hHeld ?_ ?_) | (refine tkL 12 0 rfl (oi := ⟨_, _, _, _, _, _⟩) (v := ?_) rfl (by decide +kernel) rfl (fun _ _ _ h => h) rfl hHeld ?_ ?_) | (refine tkP 13 (oi := ⟨_, _, _, _, _, _⟩) (v := ?_) rfl (by decide +kernel) rfl (fun _ _ _ h => h) rfl hHeld ?_ ?_) | (refine tkP 14 (oi := ⟨_, _, _, _, _, _⟩) (v := ?_) rfl (by decide +kernel) rfl (fun _ _ _ h => h) rfl hHeld ?_ ?_)); rotate_left; (focus (intro w; (try intro hSw); (try dsimp only at hSw); go_simp; try with_reducible rfl)); intro hHeld; (try simp only [Act.put]); (try simp only [List.setIfInBounds_toArray]); (try simp only [List.set_cons_succ]); (try simp only [List.set_cons_zero]))
       first | (refine rd1 9 (o := ⟨_, _, _, _, _, _⟩) (by decide +kernel) rfl (fun K hK => ?_)) | (refine rd1 10 (o := ⟨_, _, _, _, _, _⟩) (by decide +kernel) rfl (fun K hK => ?_))
      all_goals
       first  | (go_simp; (first | (go_at_call 26; refine (vvh F A m c (l.take m) w.drew HF.out.drew (by have := HN.out; omega)).mono ?_; rintro e w1 ⟨A1, n1, c1, rfl, ho1, hb1⟩; rw [← HX.out] at ho1; have HB1 : Hid (Below w.heap.size w w1) := zH (((zR).drew).trans hb1); have hE0 := zzN (HH.out.below HB1.out zN); have hX1 := zzN ho1.bs; clear ho1 hb1) | fail)) | go_simp
       refine hK.out _ _ ?_ (fun hHeld => ?_)
       · (try dsimp only); exact ⟨(by first | exact hD0 | exact hE0 | fail), trivial⟩
       clear hK K; (try simp only [Act.put]); (try simp only [List.setIfInBounds_toArray]); (try simp only [List.set_cons_succ]); (try simp only [List.set_cons_zero])
     all_goals
      repeat ((first | (refine tkP 13 (oi := ⟨_, _, _, _, _, _⟩) (v := ?_) rfl (by decide +kernel) rfl (fun _ _ _ h => h) rfl hHeld ?_ ?_) | (refine tkP 14 (oi := ⟨_, _, _, _, _, _⟩) (v := ?_) rfl (by decide +kernel) rfl (fun _ _ _ h => h) rfl hHeld ?_ ?_)); rotate_left; (focus (intro w; (try intro hSw); (try dsimp only at hSw); go_simp; try with_reducible rfl)); intro hHeld; (try simp only [Act.put]); (try simp only [List.setIfInBounds_toArray]); (try simp only [List.set_cons_succ]); (try simp only [List.set_cons_zero]))
      refine vvW (by decide +kernel) ?_ _
      have HE : Hid (OwnB (w1.alloc (.cells #[] 5)) w1.heap.size (some ⟨w1.heap.size, 0, none⟩) 0 0 []) := zH (World.ownsRow_lit w1 #[] 0 zN (by simp [maxLen]) rfl)
      go_wp2_with (first
       | (at_builtin; refine apb (w1.alloc (.cells #[] 5)) w rfl (.tmp 19) (.tmp 24) rfl w.heap.size (some ⟨w1.heap.size, 0, none⟩) 0 0 [] rfl (OwnB.down HE.out HB1.out.size) (HB1.out.alloc HB1.out.size _) zN (fun b => F b ∧ b < w.heap.size) A m c (l.take m) rfl (((HF.out.weaken (F' := fun b => F b ∧ b < w.heap.size) fun b hb hl => ⟨hb, hl⟩).below HB1.out zN).alloc _) (by have := HN.out; omega) ?_; intro A5 c5 w5 h5 hb5 _; rw [Nat.zero_add, List.nil_append] at h5; rw [Nat.zero_add]; have HO5 := zH h5; have HB5 := zH hb5; clear h5 hb5)
       | fail)
      go_ret2
      exact ⟨A5, m, c5, by rw [HO.out]; rfl, HB5.out, by rw [HO.out]; exact HO5.out⟩
   · have HO := zH (qzc HL.out.symm (fun e => hs (HX.out.trans e)))
     have hcmp : (X == l) = false := beq_eq_false_iff_ne.2 hs
     clear hs
     go_enter Tryz.func73, Tryz.ntmps73
     go_upto_region 1 with fail
     refine regL [(none, fun w' => (convert 41 9 (.slice A (m + 4) c)).run Tryz.prog w' = .ok (.string ⟨l.toArray⟩) w')] (by kernel_rfl) ?_ (fun hHeld => ?_)
     · exact ⟨(by first | exact hD0 | exact hE0 | fail), trivial⟩
     iterate 2
      all_goals
       repeat ((first | (refine tkP 0 (oi := ⟨_, _, _, _, _, _⟩) (v := ?_) rfl (by decide +kernel) rfl (fun _ _ _ h => h) rfl hHeld ?_ ?_) | (refine tkP 1 (oi := ⟨_, _, _, _, _, _⟩) (v := ?_) rfl (by decide +kernel) rfl (fun _ _ _ h => h) rfl hHeld ?_ ?_) | (refine tkP 2 (oi := ⟨_, _, _, _, _, _⟩) (v := ?_) rfl (by decide +kernel) rfl (fun _ _ _ h => h) rfl hHeld ?_ ?_) | (refine tkP 3 (oi := ⟨_, _, _, _, _, _⟩) (v := ?_) rfl (by decide +kernel) rfl (fun _ _ _ h => h) rfl hHeld ?_ ?_) | (refine tkP 4 (oi := ⟨_, _, _, _, _, _⟩) (v := ?_) rfl (by decide +kernel) rfl (fun _ _ _ h => h) rfl hHeld ?_ ?_) | (refine tkP 5 (oi := ⟨_, _, _, _, _, _⟩) (v := ?_) rfl (by decide +kernel) rfl (fun _ _ _ h => h) rfl hHeld ?_ ?_) | (refine tkP 6 (oi := ⟨_, _, _, _, _, _⟩) (v := ?_) rfl (by decide +kernel) rfl (fun _ _ _ h => h) rfl hHeld ?_ ?_) | (refine tkP 7 (oi := ⟨_, _, _, _, _, _⟩) (v := ?_) rfl (by decide +kernel) rfl (fun _ _ _ h => h) rfl hHeld ?_ ?_) | (refine tkP 8 (oi := ⟨_, _, _, _, _, _⟩) (v := ?_) rfl (by decide +kernel) rfl (fun _ _ _ h => h) rfl hHeld ?_ ?_) | (refine tkP 11 (oi := ⟨_, _, _, _, _, _⟩) (v := ?_) rfl (by decide +kernel) rfl (fun _ _ _ h => h) rfl hHeld ?_ ?_) | (refine tkL 12 0 rfl (oi := ⟨_, _, _, _, _, _⟩) (v := ?_) rfl (by decide +kernel) rfl (fun _ _ _ h => h) rfl hHeld ?_ ?_) | (refine tkP 13 (oi := ⟨_, _, _, _, _, _⟩) (v := ?_) rfl (by decide +kernel) rfl (fun _ _ _ h => h) rfl hHeld ?_ ?_) | (refine tkP 14 (oi := ⟨_, _, _, _, _, _⟩) (v := ?_) rfl (by decide +kernel) rfl (fun _ _ _ h => h) rfl hHeld ?_ ?_)); rotate_left; (focus (intro w; (try intro hSw); (try dsimp only at hSw); go_simp; try with_reducible rfl)); intro hHeld; (try simp only [Act.put]); (try simp only [List.setIfInBounds_toArray]); (try simp only [List.set_cons_succ]); (try simp only [List.set_cons_zero]))
       first | (refine rd1 9 (o := ⟨_, _, _, _, _, _⟩) (by decide +kernel) rfl (fun K hK => ?_)) | (refine rd1 10 (o := ⟨_, _, _, _, _, _⟩) (by decide +kernel) rfl (fun K hK => ?_))
      all_goals
       first  | (go_simp; (first | (go_at_call 26; refine (vvh F A m c (l.take m) w.drew HF.out.drew (by have := HN.out; omega)).mono ?_; rintro e w1 ⟨A1, n1, c1, rfl, ho1, hb1⟩; rw [← HX.out] at ho1; have HB1 : Hid (Below w.heap.size w w1) := zH (((zR).drew).trans hb1); have hE0 := zzN (HH.out.below HB1.out zN); have hX1 := zzN ho1.bs; clear ho1 hb1) | fail)) | go_simp
       refine hK.out _ _ ?_ (fun hHeld => ?_)
       · (try dsimp only); exact ⟨(by first | exact hD0 | exact hE0 | fail), trivial⟩
       clear hK K; (try simp only [Act.put]); (try simp only [List.setIfInBounds_toArray]); (try simp only [List.set_cons_succ]); (try simp only [List.set_cons_zero])
     all_goals
      repeat ((first | (refine tkP 13 (oi := ⟨_, _, _, _, _, _⟩) (v := ?_) rfl (by decide +kernel) rfl (fun _ _ _ h => h) rfl hHeld ?_ ?_) | (refine tkP 14 (oi := ⟨_, _, _, _, _, _⟩) (v := ?_) rfl (by decide +kernel) rfl (fun _ _ _ h => h) rfl hHeld ?_ ?_)); rotate_left; (focus (intro w; (try intro hSw); (try dsimp only at hSw); go_simp; try with_reducible rfl)); intro hHeld; (try simp only [Act.put]); (try simp only [List.setIfInBounds_toArray]); (try simp only [List.set_cons_succ]); (try simp only [List.set_cons_zero]))
      refine vvW (by decide +kernel) ?_ _
      go_wp2_with fail
      go_ret2
      exact ⟨none, 0, 0, by rw [HO.out]; rfl, HB1.out, by rw [HO.out]; exact OwnB.nil_ _ _⟩
 · have HO := zH (uu2 (b := l) (by rw [← HL.out]; omega))
   have h5 : (n : Int) < 4 := by omega
   go_enter Tryz.func73, Tryz.ntmps73
   go_upto_region 1 with fail
   refine regL [] (by kernel_rfl) ?_ (fun hHeld => ?_)
   · exact trivial
   all_goals
    repeat (first | ((first | (refine tkP 0 (oi := ⟨_, _, _, _, _, _⟩) (v := ?_) rfl (by decide +kernel) rfl (fun _ _ _ h => h) rfl hHeld ?_ ?_) | (refine tkP 1 (oi := ⟨_, _, _, _, _, _⟩) (v := ?_) rfl (by decide +kernel) rfl (fun _ _ _ h => h) rfl hHeld ?_ ?_) | (refine tkP 2 (oi := ⟨_, _, _, _, _, _⟩) (v := ?_) rfl (by decide +kernel) rfl (fun _ _ _ h => h) rfl hHeld ?_ ?_) | (refine tkP 3 (oi := ⟨_, _, _, _, _, _⟩) (v := ?_) rfl (by decide +kernel) rfl (fun _ _ _ h => h) rfl hHeld ?_ ?_) | (refine tkP 14 (oi := ⟨_, _, _, _, _, _⟩) (v := ?_) rfl (by decide +kernel) rfl (fun _ _ _ h => h) rfl hHeld ?_ ?_)); rotate_left; (focus (intro w; (try intro hSw); (try dsimp only at hSw); go_simp; try with_reducible rfl)); intro hHeld; (try simp only [Act.put]); (try simp only [List.setIfInBounds_toArray]); (try simp only [List.set_cons_succ]); (try simp only [List.set_cons_zero])) | ((first | (refine tkN 4 (oi := ⟨_, _, _, _, _, _⟩) rfl (by decide +kernel) rfl (fun _ _ _ h => h) rfl hHeld ?_) | (refine tkN 5 (oi := ⟨_, _, _, _, _, _⟩) rfl (by decide +kernel) rfl (fun _ _ _ h => h) rfl hHeld ?_) | (refine tkN 6 (oi := ⟨_, _, _, _, _, _⟩) rfl (by decide +kernel) rfl (fun _ _ _ h => h) rfl hHeld ?_) | (refine tkN 7 (oi := ⟨_, _, _, _, _, _⟩) rfl (by decide +kernel) rfl (fun _ _ _ h => h) rfl hHeld ?_) | (refine tkN 8 (oi := ⟨_, _, _, _, _, _⟩) rfl (by decide +kernel) rfl (fun _ _ _ h => h) rfl hHeld ?_) | (refine tkN 9 (oi := ⟨_, _, _, _, _, _⟩) rfl (by decide +kernel) rfl (fun _ _ _ h => h) rfl hHeld ?_) | (refine tkN 10 (oi := ⟨_, _, _, _, _, _⟩) rfl (by decide +kernel) rfl (fun _ _ _ h => h) rfl hHeld ?_) | (refine tkN 11 (oi := ⟨_, _, _, _, _, _⟩) rfl (by decide +kernel) rfl (fun _ _ _ h => h) rfl hHeld ?_) | (refine tkN 12 (oi := ⟨_, _, _, _, _, _⟩) rfl (by decide +kernel) rfl (fun _ _ _ h => h) rfl hHeld ?_) | (refine tkN 13 (oi := ⟨_, _, _, _, _, _⟩) rfl (by decide +kernel) rfl (fun _ _ _ h => h) rfl hHeld ?_)); intro hHeld; (try simp only [Act.put]); (try simp only [List.setIfInBounds_toArray]); (try simp only [List.set_cons_succ]); (try simp only [List.set_cons_zero])))
    refine vvW (by decide +kernel) ?_ _
    go_wp2_with fail
    go_ret2
    exact ⟨none, 0, 0, by rw [HO.out]; rfl, (zR).drew, by rw [HO.out]; exact OwnB.nil_ _ _⟩
end
end Go.Proofs.YtpmglcachffojaaGreatDoor
