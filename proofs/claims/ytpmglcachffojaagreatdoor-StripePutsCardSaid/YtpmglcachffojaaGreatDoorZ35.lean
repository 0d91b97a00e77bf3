/- A part of what Puts leans on. -/
import Derived.Test.YtpmglcachffojaaGreatDoorZ34
set_option maxRecDepth 100000
set_option maxHeartbeats 16000000
namespace Go.Proofs.YtpmglcachffojaaGreatDoor
section
open Go Go.RowKit
theorem zzB {w : World} {g : Nat} {a b d e : Value} {t : TypeId} (h : w.heap[g]? = some (.cells #[a, b, d, e] t (0, 0))) :
 (w.cell? ⟨g, 0, none⟩ = some a ∧ w.frozen? ⟨g, 0, none⟩ = false) ∧ (w.cell? ⟨g, 1, none⟩ = some b ∧ w.frozen? ⟨g, 1, none⟩ = false) ∧ (w.cell? ⟨g, 2, none⟩ = some d ∧ w.frozen? ⟨g, 2, none⟩ = false) ∧ (w.cell? ⟨g, 3, none⟩ = some e ∧ w.frozen? ⟨g, 3, none⟩ = false) :=
 ⟨⟨by rw [zC h]; rfl, zF h 0⟩, ⟨by rw [zC h]; rfl, zF h 1⟩, ⟨by rw [zC h]; rfl, zF h 2⟩, ⟨by rw [zC h]; rfl, zF h 3⟩⟩
theorem vv6 {w : World} {g : Nat} {a b d e : Value} {t : TypeId} (h : w.heap[g]? = some (.cells #[a, b, d, e] t (0, 0))) (a' b' d' e' : Value) :
 ((((w.setCell ⟨g, 0, none⟩ a').setCell ⟨g, 1, none⟩ b').setCell ⟨g, 2, none⟩ d').setCell ⟨g, 3, none⟩ e').heap[g]? = some (.cells #[a', b', d', e'] t (0, 0)) :=
 zza (zza (zza (zza h rfl) rfl) rfl) rfl
theorem vv7 {w : World} {g b : Nat} (h : b ≠ g) (a' b' d' e' : Value) :
 ((((w.setCell ⟨g, 0, none⟩ a').setCell ⟨g, 1, none⟩ b').setCell ⟨g, 2, none⟩ d').setCell ⟨g, 3, none⟩ e').heap[b]? = w.heap[b]? :=
 (Below.heap_setCell _ _ _ _ h).trans ((Below.heap_setCell _ _ _ _ h).trans ((Below.heap_setCell _ _ _ _ h).trans (Below.heap_setCell _ _ _ _ h)))
theorem zzI {w0 w : World} {B g : Nat} (hb : Below B w0 w) (hg : B ≤ g) (a' b' d' e' : Value) :
 Below B w0 ((((w.setCell ⟨g, 0, none⟩ a').setCell ⟨g, 1, none⟩ b').setCell ⟨g, 2, none⟩ d').setCell ⟨g, 3, none⟩ e') :=
 zzf (zzf (zzf (zzf hb hg _) hg _) hg _) hg _
def colC (k : Int) (l : List VV) : Int × Int × List (Int × List UInt8) :=
 if 1 ≤ k ∧ k ≤ 5 then (1, 0, [(1, yyi l), (2, xxj k (l.filter zzh))])
 else ((txC ((l.filter zzh).map (·.s))).1, (txC ((l.filter zzh).map (·.s))).2.1, (1, yyi l) :: (txC ((l.filter zzh).map (·.s))).2.2)
def colE (k : Int) (l : List VV) : Int := if 1 ≤ k ∧ k ≤ 7 then (if l.all (mayV k) then 0 else 21) else 1
def colR (k : Int) (l : List VV) : Int × Int × Int × List (Int × List UInt8) := if colE k l = 0 then ((l.length : Int), colC k l) else (0, 0, 0, [])
def yyu (k : Int) (l : List VV) (w : World) (e : Ending) (w' : World) : Prop :=
 ∃ A n c, e = .returned (.tuple #[.agg #[.int .i64 (colR k l).1, .int .i64 (colR k l).2.1, .int .i64 (colR k l).2.2.1, .slice A n c], .int .i64 (colE k l)]) ∧ Sl zzw (fun b => w.heap.size ≤ b) w' A n c (colR k l).2.2.2 ∧ Below w.heap.size w w'
structure ColW (k : Int) (w wc : World) : Prop where
 eq : wc = (w.alloc (.cells #[.int .i64 k] 3)).alloc (.cells #[.int .i64 0, .int .i64 0, .int .i64 0, .slice none 0 0] 27)
 below : Below w.heap.size w wc
 size : wc.heap.size = w.heap.size + 2
 box : wc.cell? ⟨w.heap.size, 0, none⟩ = some (.int .i64 k)
 col : wc.heap[w.heap.size + 1]? = some (.cells #[.int .i64 0, .int .i64 0, .int .i64 0, .slice none 0 0] 27 (0, 0))
theorem colW (k : Int) (w : World) : ∃ wc, ColW k w wc := by
 refine ⟨_, rfl, ?_, by simp, ?_, ?_⟩
 · have hb1 : Below w.heap.size w (w.alloc (.cells #[.int .i64 k] 3)) := (zR).alloc zN _
   exact hb1.alloc hb1.size _
 · have hgk : ((w.alloc (.cells #[.int .i64 k] 3)).alloc (.cells #[.int .i64 0, .int .i64 0, .int .i64 0, .slice none 0 0] 27)).heap[w.heap.size]? = some (.cells #[.int .i64 k] 3 (0, 0)) := (Below.heap_alloc _ _ _ (by simp)).trans (heap_alloc_new w _)
   rw [zC hgk]; rfl
 · have := heap_alloc_new (w.alloc (.cells #[.int .i64 k] 3)) (.cells #[.int .i64 0, .int .i64 0, .int .i64 0, .slice none 0 0] 27)
   rwa [zS] at this
theorem cput_no (k : Int) (F : Nat → Prop) (A : Option Addr) (n c : Nat) (l : List VV) (w : World) (h : Sl tVV F w A n c l) (hn : n ≤ 4096) (hT : Lib.Utf8Tabs 0 1 w) (hno : ¬ colE k l = 0) :
 Calls Tryz.prog 12 #[.int .i64 k, .slice A n c] w (yyu k l w) := by
 have hn1 : ¬ (n : Int) > 4096 := by omega
 have hn2 : ¬ (4096 : Int) < n := by omega
 obtain ⟨wc, hwc⟩ := colW k w
 have HWC := zH hwc
 have HH := zH (h.below hwc.below zN); have HT := zH (zzc hT hwc.below)
 have HNO := zH hno
 have HR := zH (show colR k l = (0, 0, 0, []) from if_neg hno)
 have hcol := hwc.col
 have hbox := hwc.box
 by_cases hk : 1 ≤ k ∧ k ≤ 7
 · have HP := zH (show decide (1 ≤ k ∧ k ≤ 7) = true from decide_eq_true hk)
   have hq : l.all (mayV k) = false := by
    cases hq : l.all (mayV k) with
    | false => rfl
    | true => exact absurd (by unfold colE; rw [if_pos hk, hq]; rfl) hno
   have HE := zH (show colE k l = 21 by unfold colE; rw [if_pos hk, hq]; rfl)
   have HQ := zH (show (!l.all (mayV k)) = true by rw [hq]; rfl)
   clear h hn hT hwc hno hq hk hcol
   go_enter Tryz.func12, Tryz.ntmps12
   go_upto_region 1 with fail
   rw [← HWC.out.eq]
   go_wp2_with (first
    | (go_at_call 38; refine (vvT _ _).mono ?_; rintro e w1 ⟨rfl, rfl⟩; rw [HP.out])
    | (go_at_call 39; refine (jjF k w.heap.size F A n c l _ HH.out hbox HT.out).mono ?_; rintro e w1 ⟨rfl, hb1⟩; rw [HQ.out]; have hg1 := (hb1.block _ (zzb HWC.out.col)).trans HWC.out.col; obtain ⟨⟨z0, y0⟩, ⟨z1, y1⟩, ⟨z2, y2⟩, ⟨z3, y3⟩⟩ := zzB hg1; have HG1 := zH hg1; have HB1 := zH (HWC.out.below.trans (hb1.mono HWC.out.below.size)); clear hg1 hb1)
    | fail)
   refine bodyPost_ret (zzm rfl _ _ (w.heap.size + 1) 27 #[.int .i64 0, .int .i64 0, .int .i64 0, .slice none 0 0] (0, 0) _ rfl (vv6 HG1.out _ _ _ _) Tryz.underlying27 rfl (by kernel_rfl)) rfl ?_
   refine ⟨none, 0, 0, by rw [HR.out, HE.out]; rfl, by rw [HR.out]; exact Sl.nil_ _ _ _, zzI HB1.out (by omega) _ _ _ _⟩
 · have HP := zH (show decide (1 ≤ k ∧ k ≤ 7) = false from decide_eq_false hk)
   have HE := zH (show colE k l = 1 from if_neg hk)
   have hcol2 : wc.heap[w.heap.size + 1]? = some (.cells #[.int .i64 0, .int .i64 0, .int .i64 0, .slice none 0 0] 27 (0, 0)) := hcol
   obtain ⟨⟨z0, y0⟩, ⟨z1, y1⟩, ⟨z2, y2⟩, ⟨z3, y3⟩⟩ := zzB hcol2
   clear h hn hT hwc hno hk hcol hcol2
   go_enter Tryz.func12, Tryz.ntmps12
   go_upto_region 1 with fail
   rw [← HWC.out.eq]
   go_wp2_with (first
    | (go_at_call 38; refine (vvT _ _).mono ?_; rintro e w1 ⟨rfl, rfl⟩; rw [HP.out])
    | fail)
   refine bodyPost_ret (zzm rfl _ _ (w.heap.size + 1) 27 #[.int .i64 0, .int .i64 0, .int .i64 0, .slice none 0 0] (0, 0) _ rfl (vv6 HWC.out.col _ _ _ _) Tryz.underlying27 rfl (by kernel_rfl)) rfl ?_
   refine ⟨none, 0, 0, by rw [HR.out, HE.out]; rfl, by rw [HR.out]; exact Sl.nil_ _ _ _, zzI HWC.out.below (by omega) _ _ _ _⟩
end
section
open Go Go.RowKit Go.Maps
abbrev CC := ByteArray × Int
def nmEq (x y : CC) : Bool := decide (y.1.data.toList = x.1.data.toList)
def colB (l : List CC) (i : Nat) (x : CC) : Bool := nmS x.1 && !((l.take i).any (nmEq x)) && decide (1 ≤ x.2 ∧ x.2 ≤ 7)
def colI (l : List CC) (i : Nat) : Bool := match l[i]? with | some x => colB l i x | none => true
def schB (l : List CC) : Bool := decide (1 ≤ l.length ∧ l.length ≤ 6) && (List.range l.length).all (colI l)
def schE (l : List CC) : Int := if schB l then 0 else 20
theorem vvj {l : List CC} (h : schB l = true) : schE l = 0 := if_pos h
theorem yyv {l : List CC} (h : schB l = false) : schE l = 20 := if_neg (by rw [h]; decide)
theorem vvk {l : List CC} (h : ¬ (1 ≤ l.length ∧ l.length ≤ 6)) : schB l = false := by unfold schB; rw [decide_eq_false h]; rfl
theorem vvE {l : List CC} {i : Nat} (hi : i < l.length) {x : CC} (hx : x = l[i]) (h : colB l i x = false) : schB l = false := by
 unfold schB
 have : (List.range l.length).all (colI l) = false := by
  rw [List.all_eq_false]
  exact ⟨i, List.mem_range.2 hi, by unfold colI; rw [List.getElem?_eq_getElem hi, ← hx]; simp [h]⟩
 rw [this, Bool.and_false]
theorem qxw {l : List CC} (h1 : 1 ≤ l.length ∧ l.length ≤ 6) (h : ∀ j, j < l.length → colI l j = true) : schB l = true := by
 unfold schB
 rw [decide_eq_true h1, Bool.true_and, List.all_eq_true]
 exact fun j hj => h j (List.mem_range.1 hj)
theorem jjO {l : List CC} {i : Nat} (hi : i < l.length) {x : CC} (hx : x = l[i]) : colI l i = colB l i x := by
 unfold colI; rw [List.getElem?_eq_getElem hi, ← hx]
def nmD (H : Type) (l : List CC) : Nat → DataW H
 | 0 => .map []
 | k + 1 => (nmD H l k).put (.string (l.getD k (⟨#[]⟩, 0)).1.data.toList) (.lit (.bool true))
theorem qxx (H : Type) (l : List CC) : ∀ k, Tidy (nmD H l k)
 | 0 => tidy_empty
 | k + 1 => (qxx H l k).put (jjI _) _
theorem nmD_at (H : Type) (l : List CC) (x : CC) : ∀ k, k ≤ l.length → (nmD H l k).atKey (.string x.1.data.toList) (.lit (.bool false)) = .lit (.bool ((l.take k).any (nmEq x)))
 | 0, _ => rfl
 | k + 1, hk => by
   have ih := nmD_at H l x k (by omega)
   have hkl : k < l.length := by omega
   have e1 : l.getD k (⟨#[]⟩, 0) = l[k] := by rw [List.getD_eq_getElem?_getD, List.getElem?_eq_getElem hkl]; rfl
   rw [nmD, e1, zT hkl, List.any_append, List.any_cons, List.any_nil, Bool.or_false]
   by_cases h : (l[k]).1.data.toList = x.1.data.toList
   · rw [← h, atKey_put_same (qxx H l k).isMap (jjI _)]
     have : nmEq x l[k] = true := decide_eq_true h
     rw [this, Bool.or_true]
   · rw [atKey_put_other (by intro e; injection e with e; exact h e.symm), ih]
     have : nmEq x l[k] = false := decide_eq_false h
     rw [this, Bool.or_false]
theorem xxl {P : Program} {k t e : TypeId} {w : World} {b n : Nat} {D : DataW Unit} (h : w.ownsMap P k (plainElem P e) b n D) (K : Keyed P k) (ht : P.underlying t = some (.map k e)) (he : P.underlying e = some .bool) (hz : (zeroValue e).run P w = .ok (.bool false) w)
 {key : Value} {kl : Go.Lit} (hkey : Go.keyOf P k key = some kl) {q : Bool} (hq : D.atKey kl (.lit (.bool false)) = .lit (.bool q)) : (Instr.lookup t (.map (some b)) key false).run P w = .ok (.bool q) w := by
 obtain ⟨v, ps, hrun, hv⟩ := h.lookup K ht hz (plainElem_bool he false) hkey
 rw [hq] at hv
 unfold plainElem at hv
 rw [he] at hv
 cases v <;> simp at hv
 obtain ⟨rfl, _⟩ := hv
 exact hrun
theorem xqg (w : World) : (zeroValue 4).run Tryz.prog w = .ok (.bool false) w := by kernel_rfl
theorem vvl (F : Nat → Prop) (A : Option Addr) (n c : Nat) (l : List CC) (w : World) (h : Sl tCol F w A n c l) :
 Calls Tryz.prog 52 #[.slice A n c] w fun e w' => e = .returned (.int .i64 (schE l)) ∧ Below w.heap.size w w' := by
 have HH := zH h; have HL := zH h.len
 clear h
 by_cases h0 : n < 1
 · have HFIN := zH (yyv (vvk (l := l) (by rw [← HL.out]; omega)))
   have c1 : (n : Int) < 1 := by omega
   clear h0
   go_enter Tryz.func52, Tryz.ntmps52
   go_wp2_with fail
   go_ret
   exact ⟨by rw [HFIN.out]; rfl, zR⟩
 · by_cases h6 : n > 6
   · have HFIN := zH (yyv (vvk (l := l) (by rw [← HL.out]; omega)))
     have c1 : ¬ (n : Int) < 1 := by omega
     have c2 : (n : Int) > 6 := by omega
     clear h0 h6
     go_enter Tryz.func52, Tryz.ntmps52
     go_wp2_with fail
     go_ret
     exact ⟨by rw [HFIN.out]; rfl, zR⟩
   · have HN := zH (show 1 ≤ l.length ∧ l.length ≤ 6 by rw [← HL.out]; omega)
     have c1 : ¬ (n : Int) < 1 := by omega
     have c2 : ¬ (n : Int) > 6 := by omega
     have hmm := @run_makeMap Tryz.prog
     obtain ⟨mb, hmb⟩ : ∃ mb, mb = w.heap.size := ⟨_, rfl⟩
     have HMB := zH hmb
     clear h0 h6
     go_enter Tryz.func52, Tryz.ntmps52
     go_wp2_with fail
     rw [← hmb]
     clear c1 c2 hmb
     go_loopw [17] (fun iv wr => ∃ i : Nat, i ≤ n ∧ iv = .int .i64 (i : Int) ∧ wr.ownsMap Tryz.prog 9 (plainElem (H := Unit) Tryz.prog 4) mb i (nmD Unit l i) ∧ Below w.heap.size w wr ∧ Hid (∀ j, j < i → colI l j = true)) (fun iv _ => n - (intOf iv).toNat)
     case atStart => exact ⟨0, Nat.zero_le _, rfl, by rw [HMB.out]; exact World.ownsMap_made w _ _ _, (zR).alloc zN _, zH fun j hj => absurd hj (Nat.not_lt_zero _)⟩
     case round =>
      obtain ⟨i, hi, rfl, hm, hb, HV⟩ := hrel
      have HB := zH hb; have HM := zH hm
      clear hb hm
      by_cases hlt : i < n
      · have hil : i < l.length := by rw [← HL.out]; exact hlt
        obtain ⟨b, o, cs, rfl, _, _, hrep, hc⟩ := (HH.out.below HB.out zN).at_ hil (by decide)
        obtain ⟨⟨nm, kd⟩, hx⟩ : ∃ x, x = l[i] := ⟨_, rfl⟩
        rw [← hx] at hrep
        have HX := zH hx
        obtain ⟨rfl, hx1, -, -⟩ := yys hrep
        dsimp only at hc hx1
        have hat := nmD_at Unit l (nm, kd) i (Nat.le_of_lt hil)
        dsimp only at hat
        obtain ⟨q1, hq1⟩ : ∃ q, q = nmS nm := ⟨_, rfl⟩
        obtain ⟨q2, hq2⟩ : ∃ q, q = (l.take i).any (nmEq (nm, kd)) := ⟨_, rfl⟩
        rw [← hq2] at hat
        have HCB := zH (show colB l i (nm, kd) = (q1 && !q2 && decide (1 ≤ kd ∧ kd ≤ 7)) by unfold colB; rw [← hq1, ← hq2])
        have HD := zH (show nmD Unit l (i + 1) = (nmD Unit l i).put (.string nm.data.toList) (.lit (.bool true)) by rw [nmD, List.getD_eq_getElem?_getD, List.getElem?_eq_getElem hil, ← hx]; rfl)
        have HAT := zH hat; have HQ1 := zH hq1; have HX1 := zH hx1
        obtain ⟨g0, g1⟩ := xxN hc
        have hkey : Go.keyOf Tryz.prog 9 (.string nm) = some (.string nm.data.toList) := WideMaps.keyOf_string_mk Tryz.underlying9 hx1
        have HKEY := zH hkey
        have i0 : (0 : Int) ≤ (i : Int) := by omega
        have i1 : (i : Int) < (n : Int) := by omega
        have i2 : (i : Int) ≤ 6 := by have := HN.out; omega
        obtain ⟨nu, hnu⟩ : ∃ q, q = decide (1 ≤ kd ∧ kd ≤ 5) := ⟨_, rfl⟩
        have HNU := zH hnu
        clear hc hx hrep hx1 hat hq1 hq2 hkey hnu
        go_upto_region 7 with fail
        obtain ⟨w2, hw2⟩ : ∃ w2, w2 = wr.alloc (.cells #[.string nm, .int .i64 kd] 93) := ⟨_, rfl⟩
        rw [← hw2]
        have HC0 : Hid (w2.cell? ⟨wr.heap.size, 0, none⟩ = some (.string nm)) := zH (by rw [hw2]; exact by rw [zC (heap_alloc_new wr _)]; rfl)
        have HC1 : Hid (w2.cell? ⟨wr.heap.size, 1, none⟩ = some (.int .i64 kd)) := zH (by rw [hw2]; exact by rw [zC (heap_alloc_new wr _)]; rfl)
        have kb : Below wr.heap.size wr w2 := by rw [hw2]; exact (zR).alloc zN _
        have HB2 := zH (HB.out.trans (kb.mono HB.out.size))
        have HM2 := zH (HM.out.kept (zzr (row := none) kb) (by simp))
        have k0 := HC0.out
        clear g0 g1 kb hw2 HM
        cases q1
        · have HXX := HCB
          have HFIN := zH (yyv (vvE hil HX.out (show colB l i (nm, kd) = false by rw [HCB.out]; rfl)))
          go_wp2_with (first | (go_at_call 110; refine (xxf nm HX1.out _).mono ?_; rintro e w3 ⟨rfl, hb3⟩; rw [← HQ1.out]; have k3 := zze hb3 HC0.out; have k4 := zze hb3 HC1.out; have hm3 := HM2.out.kept (zzr (row := none) hb3) (by simp); have hlk := xxl hm3 law9 Tryz.underlying168 Tryz.underlying4 (xqg _) HKEY.out HAT.out; have HM3 := zH hm3; have HB3 := zH (HB2.out.trans (hb3.mono HB2.out.size)); clear hb3 hm3) | (go_at_call 44; refine (zzj _ _).mono ?_; rintro e w5 ⟨rfl, rfl⟩; rw [← HNU.out]) | fail)
          go_ret
          exact ⟨by rw [HFIN.out]; rfl, HB3.out⟩
        · cases q2
          · by_cases n1 : 1 ≤ kd ∧ kd ≤ 5
            · obtain rfl : nu = true := by rw [HNU.out]; exact decide_eq_true n1
              have HFIN : Hid (∀ j, j < i + 1 → colI l j = true) := zH (fun j hj => by
               rcases Nat.lt_or_ge j i with h | h
               · exact HV.out j h
               · obtain rfl : j = i := by omega
                 rw [jjO hil HX.out, HCB.out]; rw [decide_eq_true (show 1 ≤ kd ∧ kd ≤ 7 by omega)]; rfl)
              go_wp2_with (first | (go_at_call 110; refine (xxf nm HX1.out _).mono ?_; rintro e w3 ⟨rfl, hb3⟩; rw [← HQ1.out]; have k3 := zze hb3 HC0.out; have k4 := zze hb3 HC1.out; have hm3 := HM2.out.kept (zzr (row := none) hb3) (by simp); have hlk := xxl hm3 law9 Tryz.underlying168 Tryz.underlying4 (xqg _) HKEY.out HAT.out; have HM3 := zH hm3; have HB3 := zH (HB2.out.trans (hb3.mono HB2.out.size)); clear hb3 hm3) | (go_at_call 44; refine (zzj _ _).mono ?_; rintro e w5 ⟨rfl, rfl⟩; rw [← HNU.out]) | (at_mapUpdate; have hm3 := HM3.out; refine wpList_mapUpdate_own _ rfl _ _ _ 168 rfl 9 4 law9 Tryz.underlying168 _ mb i _ (by rfl) hm3 (by unfold maxLen; omega) _ _ _ (by rfl) (by rfl) HKEY.out _ [] (plainElem_bool Tryz.underlying4 true) ?_; intro w4 hown4 hgrow4) | fail)
              go_roundw
              case rel => exact ⟨i + 1, by omega, by go_num, by rw [HD.out]; exact hown4, HB3.out.grown hgrow4 HB3.out.size (fun q e => by injection e with e; have := HMB.out; omega), HFIN⟩
              case measure => simp [intOf]; omega
            · obtain rfl : nu = false := by rw [HNU.out]; exact decide_eq_false n1
              by_cases n6 : kd = 6
              · subst n6
                have HFIN : Hid (∀ j, j < i + 1 → colI l j = true) := zH (fun j hj => by
                 rcases Nat.lt_or_ge j i with h | h
                 · exact HV.out j h
                 · obtain rfl : j = i := by omega
                   rw [jjO hil HX.out, HCB.out]; rfl)
                go_wp2_with (first | (go_at_call 110; refine (xxf nm HX1.out _).mono ?_; rintro e w3 ⟨rfl, hb3⟩; rw [← HQ1.out]; have k3 := zze hb3 HC0.out; have k4 := zze hb3 HC1.out; have hm3 := HM2.out.kept (zzr (row := none) hb3) (by simp); have hlk := xxl hm3 law9 Tryz.underlying168 Tryz.underlying4 (xqg _) HKEY.out HAT.out; have HM3 := zH hm3; have HB3 := zH (HB2.out.trans (hb3.mono HB2.out.size)); clear hb3 hm3) | (go_at_call 44; refine (zzj _ _).mono ?_; rintro e w5 ⟨rfl, rfl⟩; rw [← HNU.out]) | (at_mapUpdate; have hm3 := HM3.out; refine wpList_mapUpdate_own _ rfl _ _ _ 168 rfl 9 4 law9 Tryz.underlying168 _ mb i _ (by rfl) hm3 (by unfold maxLen; omega) _ _ _ (by rfl) (by rfl) HKEY.out _ [] (plainElem_bool Tryz.underlying4 true) ?_; intro w4 hown4 hgrow4) | fail)
                go_roundw
                case rel => exact ⟨i + 1, by omega, by go_num, by rw [HD.out]; exact hown4, HB3.out.grown hgrow4 HB3.out.size (fun q e => by injection e with e; have := HMB.out; omega), HFIN⟩
                case measure => simp [intOf]; omega
              · by_cases n7 : kd = 7
                · subst n7
                  have HFIN : Hid (∀ j, j < i + 1 → colI l j = true) := zH (fun j hj => by
                   rcases Nat.lt_or_ge j i with h | h
                   · exact HV.out j h
                   · obtain rfl : j = i := by omega
                     rw [jjO hil HX.out, HCB.out]; rfl)
                  go_wp2_with (first | (go_at_call 110; refine (xxf nm HX1.out _).mono ?_; rintro e w3 ⟨rfl, hb3⟩; rw [← HQ1.out]; have k3 := zze hb3 HC0.out; have k4 := zze hb3 HC1.out; have hm3 := HM2.out.kept (zzr (row := none) hb3) (by simp); have hlk := xxl hm3 law9 Tryz.underlying168 Tryz.underlying4 (xqg _) HKEY.out HAT.out; have HM3 := zH hm3; have HB3 := zH (HB2.out.trans (hb3.mono HB2.out.size)); clear hb3 hm3) | (go_at_call 44; refine (zzj _ _).mono ?_; rintro e w5 ⟨rfl, rfl⟩; rw [← HNU.out]) | (at_mapUpdate; have hm3 := HM3.out; refine wpList_mapUpdate_own _ rfl _ _ _ 168 rfl 9 4 law9 Tryz.underlying168 _ mb i _ (by rfl) hm3 (by unfold maxLen; omega) _ _ _ (by rfl) (by rfl) HKEY.out _ [] (plainElem_bool Tryz.underlying4 true) ?_; intro w4 hown4 hgrow4) | fail)
                  go_roundw
                  case rel => exact ⟨i + 1, by omega, by go_num, by rw [HD.out]; exact hown4, HB3.out.grown hgrow4 HB3.out.size (fun q e => by injection e with e; have := HMB.out; omega), HFIN⟩
                  case measure => simp [intOf]; omega
                · have e6 := vvb n6
                  have e7 := vvb n7
                  have HKD := zH (show ¬ (1 ≤ kd ∧ kd ≤ 7) by omega)
                  clear n1 n6 n7
                  have HFIN := zH (yyv (vvE hil HX.out (show colB l i (nm, kd) = false by rw [HCB.out]; rw [decide_eq_false HKD.out]; rfl)))
                  go_wp2_with (first | (go_at_call 110; refine (xxf nm HX1.out _).mono ?_; rintro e w3 ⟨rfl, hb3⟩; rw [← HQ1.out]; have k3 := zze hb3 HC0.out; have k4 := zze hb3 HC1.out; have hm3 := HM2.out.kept (zzr (row := none) hb3) (by simp); have hlk := xxl hm3 law9 Tryz.underlying168 Tryz.underlying4 (xqg _) HKEY.out HAT.out; have HM3 := zH hm3; have HB3 := zH (HB2.out.trans (hb3.mono HB2.out.size)); clear hb3 hm3) | (go_at_call 44; refine (zzj _ _).mono ?_; rintro e w5 ⟨rfl, rfl⟩; rw [← HNU.out]) | fail)
                  go_ret
                  exact ⟨by rw [HFIN.out]; rfl, HB3.out⟩
          · have HXX := HCB
            have HFIN := zH (yyv (vvE hil HX.out (show colB l i (nm, kd) = false by rw [HCB.out]; rfl)))
            go_wp2_with (first | (go_at_call 110; refine (xxf nm HX1.out _).mono ?_; rintro e w3 ⟨rfl, hb3⟩; rw [← HQ1.out]; have k3 := zze hb3 HC0.out; have k4 := zze hb3 HC1.out; have hm3 := HM2.out.kept (zzr (row := none) hb3) (by simp); have hlk := xxl hm3 law9 Tryz.underlying168 Tryz.underlying4 (xqg _) HKEY.out HAT.out; have HM3 := zH hm3; have HB3 := zH (HB2.out.trans (hb3.mono HB2.out.size)); clear hb3 hm3) | (go_at_call 44; refine (zzj _ _).mono ?_; rintro e w5 ⟨rfl, rfl⟩; rw [← HNU.out]) | fail)
            go_ret
            exact ⟨by rw [HFIN.out]; rfl, HB3.out⟩
      · obtain rfl : i = n := by omega
        have HFIN := zH (vvj (qxw HN.out (by rw [← HL.out]; exact HV.out)))
        clear HM
        go_wp2_with fail
        go_ret
        exact ⟨by rw [HFIN.out]; rfl, HB.out⟩
end
section
open Go Go.RowKit
theorem icmp_ne {a b : Int} (h : ¬ a = b) : ¬ icmp a b = 0 := by
 unfold icmp
 by_cases h1 : a < b
 · rw [if_pos h1]; decide
 · rw [if_neg h1, if_pos (by omega)]; decide
def uuJ (way : Int) (a b : VV) : VV := if a.null || (!b.null && decide (0 < way * vcmp b a)) then b else a
structure Box3 (w : World) (a b : VV) (w3 : World) : Prop where
 eq : w3 = ((w.alloc (.cells #[.bool a.null, .int .i64 a.n, .string a.s] 74)).alloc (.cells #[.bool b.null, .int .i64 b.n, .string b.s] 74)).alloc (.cells #[.bool false, .int .i64 0, .string ⟨#[]⟩] 74)
 below : Below w.heap.size w w3
 ha : w3.heap[w.heap.size]? = some (.cells #[.bool a.null, .int .i64 a.n, .string a.s] 74 (0, 0))
 hb : w3.heap[w.heap.size + 1]? = some (.cells #[.bool b.null, .int .i64 b.n, .string b.s] 74 (0, 0))
 hr : w3.heap[w.heap.size + 2]? = some (.cells #[.bool false, .int .i64 0, .string ⟨#[]⟩] 74 (0, 0))
theorem box3 (w : World) (a b : VV) : ∃ w3, Box3 w a b w3 := by
 obtain ⟨w2, h⟩ := box2 w a b
 have hz : w2.heap.size = w.heap.size + 2 := by rw [h.eq]; simp
 have h1 : w2.heap[w.heap.size]? = some (.cells #[.bool a.null, .int .i64 a.n, .string a.s] 74 (0, 0)) := by rw [h.eq]; exact (Below.heap_alloc _ _ _ (by simp)).trans (heap_alloc_new w _)
 have h2 := heap_alloc_new (w.alloc (.cells #[.bool a.null, .int .i64 a.n, .string a.s] 74)) (.cells #[.bool b.null, .int .i64 b.n, .string b.s] 74)
 rw [zS, ← h.eq] at h2
 refine ⟨w2.alloc (.cells #[.bool false, .int .i64 0, .string ⟨#[]⟩] 74), by rw [h.eq], h.below.alloc h.below.size _, (Below.heap_alloc _ _ _ (by omega)).trans h1, (Below.heap_alloc _ _ _ (by omega)).trans h2, ?_⟩
 have h3 := heap_alloc_new w2 (.cells #[.bool false, .int .i64 0, .string ⟨#[]⟩] 74)
 rwa [hz] at h3
theorem zzJ {w : World} {g : Nat} {a b d : Value} {t : TypeId} (h : w.heap[g]? = some (.cells #[a, b, d] t (0, 0))) :
 (w.cell? ⟨g, 0, none⟩ = some a ∧ w.frozen? ⟨g, 0, none⟩ = false) ∧ (w.cell? ⟨g, 1, none⟩ = some b ∧ w.frozen? ⟨g, 1, none⟩ = false) ∧ (w.cell? ⟨g, 2, none⟩ = some d ∧ w.frozen? ⟨g, 2, none⟩ = false) :=
 ⟨⟨by rw [zC h]; rfl, zF h 0⟩, ⟨by rw [zC h]; rfl, zF h 1⟩, ⟨by rw [zC h]; rfl, zF h 2⟩⟩
theorem vset {w : World} {g : Nat} {a b d : Value} {t : TypeId} (h : w.heap[g]? = some (.cells #[a, b, d] t (0, 0))) (a' b' d' : Value) :
 (((w.setCell ⟨g, 0, none⟩ a').setCell ⟨g, 1, none⟩ b').setCell ⟨g, 2, none⟩ d').heap[g]? = some (.cells #[a', b', d'] t (0, 0)) := zza (zza (zza h rfl) rfl) rfl
theorem vvm {w0 w : World} {B g : Nat} (hb : Below B w0 w) (hg : B ≤ g) (a' b' d' : Value) : Below B w0 (((w.setCell ⟨g, 0, none⟩ a').setCell ⟨g, 1, none⟩ b').setCell ⟨g, 2, none⟩ d') := zzf (zzf (zzf hb hg _) hg _) hg _
theorem qxB (way : Int) (hway : way = -1 ∨ way = 1) (a b : VV) (w : World) :
 Calls Tryz.prog 176 #[.int .i64 way, .agg #[.bool a.null, .int .i64 a.n, .string a.s], .agg #[.bool b.null, .int .i64 b.n, .string b.s]] w fun e w' => e = .returned (.agg #[.bool (uuJ way a b).null, .int .i64 (uuJ way a b).n, .string (uuJ way a b).s]) ∧ Below w.heap.size w w' := by
 obtain ⟨w3, h3⟩ := box3 w a b
 have HW := zH h3
 obtain ⟨⟨a0, _⟩, ⟨a1, _⟩, ⟨a2, _⟩⟩ := zzJ h3.ha
 obtain ⟨⟨b0, _⟩, ⟨b1, _⟩, ⟨b2, _⟩⟩ := zzJ h3.hb
 obtain ⟨⟨z0, y0⟩, ⟨z1, y1⟩, ⟨z2, y2⟩⟩ := h3.hr |> zzJ
 have HC := zH (zqO b a)
 have hcs := xqm b a
 obtain ⟨q, hq⟩ : ∃ q, q = vcmp b a := ⟨_, rfl⟩
 obtain ⟨r, hr⟩ : ∃ r, r = uuJ way a b := ⟨_, rfl⟩
 rw [← hr]
 unfold uuJ at hr
 rw [← hq] at HC hcs hr
 have HR := zH hr
 obtain ⟨an, ai, sa⟩ := a
 obtain ⟨bn, bi, sb'⟩ := b
 dsimp only at *
 clear h3 hq hr
 cases an
 · cases bn
   · rcases hway with rfl | rfl <;> rcases hcs with rfl | rfl | rfl
     all_goals
      go_enter Tryz.func176, Tryz.ntmps176
      go_upto_region 1 with fail
      rw [← HW.out.eq]
      go_upto_if 21 with (first
       | (go_at_call 221; refine (HC.out _).mono ?_; rintro e w5 ⟨rfl, hb5⟩; have HB5 := zH hb5; have HA5 := zH ((hb5.block _ (zzb HW.out.ha)).trans HW.out.ha); have HY5 := zH ((hb5.block _ (zzb HW.out.hb)).trans HW.out.hb); have HZ5 := zH ((hb5.block _ (zzb HW.out.hr)).trans HW.out.hr); clear hb5)
       | fail)
      clear a0 a1 a2 b0 b1 b2 z0 y0 z1 y1 z2 y2
      obtain ⟨⟨a0, _⟩, ⟨a1, _⟩, ⟨a2, _⟩⟩ := zzJ HA5.out
      obtain ⟨⟨b0, _⟩, ⟨b1, _⟩, ⟨b2, _⟩⟩ := zzJ HY5.out
      obtain ⟨⟨z0, y0⟩, ⟨z1, y1⟩, ⟨z2, y2⟩⟩ := zzJ HZ5.out
      go_wp2_with fail
      first
       | exact bodyPost_ret (results_cell_row rfl _ _ (w.heap.size + 2) 74 #[.bool false, .int .i64 bi, .string sb'] (0, 0) _ rfl (vset HZ5.out _ _ _) Tryz.underlying74 rfl (by kernel_rfl)) rfl ⟨by rw [HR.out]; rfl, vvm (HW.out.below.trans (HB5.out.mono HW.out.below.size)) (by omega) _ _ _⟩
       | exact bodyPost_ret (results_cell_row rfl _ _ (w.heap.size + 2) 74 #[.bool false, .int .i64 ai, .string sa] (0, 0) _ rfl (vset HZ5.out _ _ _) Tryz.underlying74 rfl (by kernel_rfl)) rfl ⟨by rw [HR.out]; rfl, vvm (HW.out.below.trans (HB5.out.mono HW.out.below.size)) (by omega) _ _ _⟩
   · go_enter Tryz.func176, Tryz.ntmps176
     go_upto_region 1 with fail
     rw [← HW.out.eq]
     go_wp2_with fail
     exact bodyPost_ret (results_cell_row rfl _ _ (w.heap.size + 2) 74 #[.bool false, .int .i64 ai, .string sa] (0, 0) _ rfl (vset HW.out.hr _ _ _) Tryz.underlying74 rfl (by kernel_rfl)) rfl ⟨by rw [HR.out]; rfl, vvm HW.out.below (by omega) _ _ _⟩
 · go_enter Tryz.func176, Tryz.ntmps176
   go_upto_region 1 with fail
   rw [← HW.out.eq]
   go_wp2_with fail
   exact bodyPost_ret (results_cell_row rfl _ _ (w.heap.size + 2) 74 #[.bool bn, .int .i64 bi, .string sb'] (0, 0) _ rfl (vset HW.out.hr _ _ _) Tryz.underlying74 rfl (by kernel_rfl)) rfl ⟨by rw [HR.out]; rfl, vvm HW.out.below (by omega) _ _ _⟩
theorem zzN (a b : VV) (w : World) :
 Calls Tryz.prog 114 #[.agg #[.bool a.null, .int .i64 a.n, .string a.s], .agg #[.bool b.null, .int .i64 b.n, .string b.s]] w fun e w' => e = .returned (.int .i64 (vcmp a b)) ∧ Below w.heap.size w w' := by
 obtain ⟨q, hq⟩ : ∃ q, q = vcmp a b := ⟨_, rfl⟩
 rw [← hq]
 obtain ⟨w2, hw2⟩ := box2 w a b
 have HW := zH hw2.eq; have HB := zH hw2.below
 obtain ⟨-, -, a0, a1, a2, b0, b1, b2⟩ := hw2
 by_cases hne : a.null = b.null
 · rw [qz4 a b hne] at hq
   obtain ⟨an, ai, sa⟩ := a
   obtain ⟨bn, bi, sb'⟩ := b
   obtain rfl : an = bn := hne
   have A0 : w2.cell? ⟨w.heap.size, 0, none⟩ = some (.bool an) := a0
   have A1 : w2.cell? ⟨w.heap.size, 1, none⟩ = some (.int .i64 ai) := a1
   have A2 : w2.cell? ⟨w.heap.size, 2, none⟩ = some (.string sa) := a2
   have B0 : w2.cell? ⟨w.heap.size + 1, 0, none⟩ = some (.bool an) := b0
   have B1 : w2.cell? ⟨w.heap.size + 1, 1, none⟩ = some (.int .i64 bi) := b1
   have B2 : w2.cell? ⟨w.heap.size + 1, 2, none⟩ = some (.string sb') := b2
   dsimp only at hq HW
   clear a0 a1 a2 b0 b1 b2
   have hbn : (an != an) = false := by cases an <;> rfl
   by_cases hi : ai = bi
   · subst hi
     replace hq : q = scmp sa sb' := by rw [hq, if_pos (by unfold icmp; simp)]
     have hin : (ai != ai) = false := by simp
     unfold scmp at hq
     cases h1 : ltS sa sb'
     · rw [h1] at hq
       cases h2 : ltS sb' sa
       · rw [h2] at hq
         obtain rfl : q = 0 := hq
         obtain rfl := ltS_eq h1 h2
         clear h1 h2
         go_enter Tryz.func114, Tryz.ntmps114
         go_upto_region 1 with fail
         rw [← HW.out]
         go_wp2_with fail
         go_ret
         exact ⟨rfl, HB.out⟩
       · rw [h2] at hq
         obtain rfl : q = 1 := hq
         have h3 : (sa.toList == sb'.toList) = false := (jjQ (fun e => qz3 h2 e.symm)).1
         have h5 : ¬ sa.toList = sb'.toList := (jjQ (fun e => qz3 h2 e.symm)).2.1
         have h4 : Op.bytesLess sa.toList sb'.toList = false := h1
         clear h1 h2
         go_enter Tryz.func114, Tryz.ntmps114
         go_upto_region 1 with fail
         rw [← HW.out]
         go_wp2_with fail
         go_ret
         exact ⟨rfl, HB.out⟩
     · rw [h1] at hq
       obtain rfl : q = -1 := hq
       have h3 : (sa.toList == sb'.toList) = false := (jjQ (qz3 h1)).1
       have h5 : ¬ sa.toList = sb'.toList := (jjQ (qz3 h1)).2.1
       have h4 : Op.bytesLess sa.toList sb'.toList = true := h1
       clear h1
       go_enter Tryz.func114, Tryz.ntmps114
       go_upto_region 1 with fail
       rw [← HW.out]
       go_wp2_with fail
       go_ret
       exact ⟨rfl, HB.out⟩
   · have hin : (ai != bi) = true := bne_y hi
     replace hq : q = icmp ai bi := by
      rw [hq, if_neg (icmp_ne hi)]
     unfold icmp at hq
     by_cases hlt : ai < bi
     · rw [if_pos hlt] at hq
       subst hq
       clear hi
       go_enter Tryz.func114, Tryz.ntmps114
       go_upto_region 1 with fail
       rw [← HW.out]
       go_wp2_with fail
       go_ret
       exact ⟨rfl, HB.out⟩
     · rw [if_neg hlt, if_pos (by omega)] at hq
       subst hq
       clear hi
       go_enter Tryz.func114, Tryz.ntmps114
       go_upto_region 1 with fail
       rw [← HW.out]
       go_wp2_with fail
       go_ret
       exact ⟨rfl, HB.out⟩
 · obtain ⟨an, ai, sa⟩ := a
   obtain ⟨bn, bi, sb'⟩ := b
   have A0 : w2.cell? ⟨w.heap.size, 0, none⟩ = some (.bool an) := a0
   have B0 : w2.cell? ⟨w.heap.size + 1, 0, none⟩ = some (.bool bn) := b0
   unfold vcmp at hq
   dsimp only at hq HW hne
   clear a0 a1 a2 b0 b1 b2
   cases an
   · obtain rfl : bn = true := by cases bn <;> simp_all
     obtain rfl : q = 1 := hq
     clear hne
     go_enter Tryz.func114, Tryz.ntmps114
     go_upto_region 1 with fail
     rw [← HW.out]
     go_wp2_with fail
     go_ret
     exact ⟨rfl, HB.out⟩
   · obtain rfl : bn = false := by cases bn <;> simp_all
     obtain rfl : q = -1 := hq
     clear hne
     go_enter Tryz.func114, Tryz.ntmps114
     go_upto_region 1 with fail
     rw [← HW.out]
     go_wp2_with fail
     go_ret
     exact ⟨rfl, HB.out⟩
end
end Go.Proofs.YtpmglcachffojaaGreatDoor
