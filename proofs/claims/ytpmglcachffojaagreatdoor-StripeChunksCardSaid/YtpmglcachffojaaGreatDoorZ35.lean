/- A part of what Chunks leans on. -/
import Derived.Test.YtpmglcachffojaaGreatDoorZ30
import Derived.Test.YtpmglcachffojaaGreatDoorZ32
set_option maxRecDepth 100000
set_option maxHeartbeats 16000000
namespace Go.Proofs.YtpmglcachffojaaGreatDoor
section
open Go Go.RowKit
structure RcR (w : World) (a b c d : Value) (W : World) : Prop where
 r : W.heap[w.heap.size]? = some (.cells #[a, b, c, d] 27 (0, 0))
 below : Below w.heap.size w W
theorem RcR.cellsOf {w W : World} {a b c d : Value} (h : RcR w a b c d W) :
 (W.cell? ⟨w.heap.size, 0, none⟩ = some a ∧ W.frozen? ⟨w.heap.size, 0, none⟩ = false) ∧ (W.cell? ⟨w.heap.size, 1, none⟩ = some b ∧ W.frozen? ⟨w.heap.size, 1, none⟩ = false) ∧ (W.cell? ⟨w.heap.size, 2, none⟩ = some c ∧ W.frozen? ⟨w.heap.size, 2, none⟩ = false) ∧ (W.cell? ⟨w.heap.size, 3, none⟩ = some d ∧ W.frozen? ⟨w.heap.size, 3, none⟩ = false) := zzn h.r
theorem RcR.call {w W W' : World} {a b c d : Value} (h : RcR w a b c d W) (hb : Below (w.heap.size + 1) W W') : RcR w a b c d W' := ⟨(hb.block _ (by omega)).trans h.r, h.below.trans (hb.mono (by omega))⟩
theorem RcR.put {w W : World} {a b c d : Value} (h : RcR w a b c d W) (a' b' c' d' : Value) : RcR w a' b' c' d' ((((W.setCell ⟨w.heap.size, 0, none⟩ a').setCell ⟨w.heap.size, 1, none⟩ b').setCell ⟨w.heap.size, 2, none⟩ c').setCell ⟨w.heap.size, 3, none⟩ d') :=
 ⟨jjw h.r a' b' c' d', zz2 h.below zN a' b' c' d'⟩
theorem rcW (w : World) : ∃ wb, wb = w.alloc (.cells #[.int .i64 0, .int .i64 0, .int .i64 0, .slice none 0 0] 27) ∧ RcR w (.int .i64 0) (.int .i64 0) (.int .i64 0) (.slice none 0 0) wb ∧ wb.heap.size = w.heap.size + 1 :=
 ⟨_, rfl, ⟨heap_alloc_new w _, (Below.refl _ w).alloc zN _⟩, by simp⟩
theorem rc_res {w W : World} {a b c d er : Value} (h : RcR w a b c d W) (tm : Array Value) (h2 : tm.getD 2 undef = .pointer (some ⟨w.heap.size, 0, none⟩)) (h3 : tm.getD 3 undef = er) :
 (results Tryz.f28 tm).run Tryz.prog W = .ok (.tuple #[.agg #[a, b, c, d], er]) W := by
 rw [← h3]
 exact kq8 rfl _ _ w.heap.size _ _ (0, 0) _ h2 h.r Tryz.underlying27 rfl (by kernel_rfl)
theorem chF_par {l : List Fld} (h : 3 ≤ l.length) (hp : l.length % 2 ≠ 1) : chF l = none := by
 cases hb : (isN 1 l[0] && isN 2 l[1] && isN 3 l[2]) with
 | false => exact qzd h hb
 | true =>
   rw [Bool.and_eq_true, Bool.and_eq_true] at hb
   rw [qz2 h hb.1.1 hb.1.2 hb.2, rdS_odd ((l.length - 4) / 2) (l.drop 3) (by rw [List.length_drop]; omega)]
   rfl
theorem okS_drop {l : List Fld} {i k : Nat} (hi : i = 3 + 2 * k) (h : i + 1 < l.length) : okS (l.drop 3) k = (isN 4 (l[i]'(by omega)) && isB 5 (l[i + 1]'h)) := by
 subst hi
 rw [okS_at (by rw [List.length_drop]; omega), List.getElem_drop, List.getElem_drop]
 rfl
theorem atS_drop {l : List Fld} {i k : Nat} (hi : i = 3 + 2 * k) (h : i + 1 < l.length) : atS (l.drop 3) k = (((l[i]'(by omega)).n : Int), (l[i + 1]'h).b) := by
 subst hi
 rw [atS_at (by rw [List.length_drop]; omega), List.getElem_drop, List.getElem_drop]
 rfl
structure RcI (r : List Fld) (a b c : Int) (lo B K : Nat) (w4 : World) (k : Nat) (W : World) : Prop where
 ex : ∃ A0 c0, OwnF zzm 55 (fun k => lo ≤ k ∧ k < K) W B A0 k c0 ((List.range k).map (atS r)) ∧ W.heap[K]? = some (.cells #[.int .i64 a, .int .i64 b, .int .i64 c, .slice A0 k c0] 27 (0, 0))
 below : Below K w4 W
 ok : ∀ j, j < k → okS r j = true
theorem jja (F : Nat → Prop) (A : Option Addr) (n c : Nat) (bs : List UInt8) (w : World) (h : Sl tU8 F w A n c bs) (hn : n ≤ 4294967000) :
 Calls Tryz.prog 28 #[.slice A n c] w (qze bs w) := by
 obtain ⟨wb, hw, hr, hsz⟩ := rcW w
 have HW := zH hw; have HR := zH hr; have HSZ := zH hsz; have HN := zH hn; have HL := zH h.len
 have HH := zH (h.below hr.below zN)
 obtain ⟨ec, hec⟩ : ∃ ec, ec = okc (yym bs).isSome 2 := ⟨_, rfl⟩
 have HEC := zH hec
 have fin0 : ∀ (w1 : World), Below wb.heap.size wb w1 → RcR w (.int .i64 0) (.int .i64 0) (.int .i64 0) (.slice none 0 0) ((((w1.setCell ⟨w.heap.size, 0, none⟩ (.int .i64 0)).setCell ⟨w.heap.size, 1, none⟩ (.int .i64 0)).setCell ⟨w.heap.size, 2, none⟩ (.int .i64 0)).setCell ⟨w.heap.size, 3, none⟩ (.slice none 0 0)) := fun w1 hb =>
  (HR.out.call (hb.mono (by have := HSZ.out; omega))).put (.int .i64 0) (.int .i64 0) (.int .i64 0) (.slice none 0 0)
 have fin : ∀ (w1 : World) (tm : Array Value), Below wb.heap.size wb w1 → tm.getD 2 undef = .pointer (some ⟨w.heap.size, 0, none⟩) → tm.getD 3 undef = .int .i64 2 →
  (results Tryz.f28 tm).run Tryz.prog ((((w1.setCell ⟨w.heap.size, 0, none⟩ (.int .i64 0)).setCell ⟨w.heap.size, 1, none⟩ (.int .i64 0)).setCell ⟨w.heap.size, 2, none⟩ (.int .i64 0)).setCell ⟨w.heap.size, 3, none⟩ (.slice none 0 0)) = .ok (.tuple #[.agg #[.int .i64 0, .int .i64 0, .int .i64 0, .slice none 0 0], .int .i64 2]) ((((w1.setCell ⟨w.heap.size, 0, none⟩ (.int .i64 0)).setCell ⟨w.heap.size, 1, none⟩ (.int .i64 0)).setCell ⟨w.heap.size, 2, none⟩ (.int .i64 0)).setCell ⟨w.heap.size, 3, none⟩ (.slice none 0 0)) := fun w1 tm hb e2 e3 => rc_res (fin0 w1 hb) tm e2 e3
 have finb : ∀ (w1 : World), zzy bs = none → Below wb.heap.size wb w1 → qze bs w (.returned (.tuple #[.agg #[.int .i64 0, .int .i64 0, .int .i64 0, .slice none 0 0], .int .i64 2])) ((((w1.setCell ⟨w.heap.size, 0, none⟩ (.int .i64 0)).setCell ⟨w.heap.size, 1, none⟩ (.int .i64 0)).setCell ⟨w.heap.size, 2, none⟩ (.int .i64 0)).setCell ⟨w.heap.size, 3, none⟩ (.slice none 0 0)) := fun w1 hN hb => tc_no hN (fin0 w1 hb).below
 have FINB := zH finb
 have FIN := zH fin
 clear hw hr hsz hn h hec fin fin0 finb
 go_enter Tryz.func28, Tryz.ntmps28
 go_upto_region 2 with (first
  | (go_at_call 73; rw [← HW.out]; refine (ropen_any F A n c bs wb HH.out HN.out).mono ?_; rintro e w1 ⟨A1, n1, c1, rfl, hb1, ho1⟩; rw [← HEC.out]; have HB1 := zH hb1; have HO1 := zH ho1; clear hb1 ho1)
  | fail)
 obtain ⟨⟨z0, z0'⟩, ⟨z1, z1'⟩, ⟨z2, z2'⟩, ⟨z3, z3'⟩⟩ := (HR.out.call (HB1.out.mono (by have := HSZ.out; omega))).cellsOf
 cases hO : yym bs with
 | none =>
   obtain rfl : ec = 2 := by rw [HEC.out, hO]; rfl
   have HC := zH (xxi (b := bs) (by rw [hO]; rfl))
   clear hO
   go_wp2_with fail
   exact bodyPost_ret (FIN.out w1 _ HB1.out rfl rfl) rfl (FINB.out w1 HC.out HB1.out)
 | some x =>
   obtain rfl : ec = 0 := by rw [HEC.out, hO]; rfl
   have HLX := zH (uu3 hO)
   have HO := zH hO
   rw [hO] at HO1
   have HO1 : Hid (OwnB w1 wb.heap.size A1 n1 c1 x) := HO1
   obtain ⟨ec, hec⟩ : ∃ ec, ec = okc (zzq x).isSome 2 := ⟨_, rfl⟩
   have HEC := zH hec
   clear hO hec
   go_upto_region 5 with (first
    | (go_at_call 74; refine (qxT _ A1 n1 c1 x _ HO1.out.bs (by have h1 := HO1.out.len; have h2 := HLX.out; have h3 := HL.out; have h4 := HN.out; omega)).mono ?_; rintro e w2 ⟨A2, n2, c2, rfl, hb2, hs2⟩; rw [← HEC.out]; have HB2 := zH (HB1.out.trans (hb2.mono HB1.out.size)); have HS2 := zH (hs2.weaken (F' := fun b => wb.heap.size ≤ b) fun b hb _ => Nat.le_trans HB1.out.size hb); clear hs2 hb2)
    | fail)
   clear z0 z1 z2 z3 z0' z1' z2' z3'
   obtain ⟨⟨z0, z0'⟩, ⟨z1, z1'⟩, ⟨z2, z2'⟩, ⟨z3, z3'⟩⟩ := (HR.out.call (HB2.out.mono (by have := HSZ.out; omega))).cellsOf
   cases hT : zzq x with
   | none =>
     obtain rfl : ec = 2 := by rw [HEC.out, hT]; rfl
     have HC := zH (xxi (b := bs) (by rw [HO.out]; exact hT))
     clear hT
     go_wp2_with fail
     exact bodyPost_ret (FIN.out w2 _ HB2.out rfl rfl) rfl (FINB.out w2 HC.out HB2.out)
   | some l =>
     obtain rfl : ec = 0 := by rw [HEC.out, hT]; rfl
     have hB : (yym bs).bind zzq = some l := by rw [HO.out]; exact hT
     have HC := zH (xx9 hB)
     have HLN : Hid (l.length ≤ bs.length) := zH (xxR hB).1
     have HOK := zH (xxR hB).2
     rw [hT] at HS2
     have HS2 : Hid (Sl tFld (fun b => wb.heap.size ≤ b) w2 A2 n2 c2 l) := HS2
     have HL2 := zH HS2.out.len
     clear hT hB
     by_cases h3 : 3 ≤ l.length
     · by_cases hp : l.length % 2 = 1
       · obtain ⟨b, o, Aa, na, ca, hA1, k0, -, x0⟩ := vvS HS2.out (k := 0) (by omega)
         obtain ⟨b', o', Ab, nb, cb, e1, k1, -, x1⟩ := vvS HS2.out (k := 1) (by omega)
         rw [hA1] at e1; injection e1 with e1; injection e1 with e1 e1'; subst e1 e1'
         obtain ⟨b', o', Ac, nc, cc, e1, k2, -, x2⟩ := vvS HS2.out (k := 2) (by omega)
         rw [hA1] at e1; injection e1 with e1; injection e1 with e1 e1'; subst e1 e1'
         subst hA1
         simp only [Nat.zero_mul, Nat.add_zero, Nat.one_mul, Nat.reduceMul] at k0 k1 k2
         obtain ⟨f0, hf0⟩ : ∃ f, l[0] = f := ⟨_, rfl⟩
         obtain ⟨f1, hf1⟩ : ∃ f, l[1] = f := ⟨_, rfl⟩
         obtain ⟨f2, hf2⟩ : ∃ f, l[2] = f := ⟨_, rfl⟩
         rw [hf0] at k0 x0; rw [hf1] at k1 x1; rw [hf2] at k2 x2
         have HF0 : Hid (l[0]? = some f0) := zH (by rw [List.getElem?_eq_getElem (by omega), hf0]); have HF1 : Hid (l[1]? = some f1) := zH (by rw [List.getElem?_eq_getElem (by omega), hf1]); have HF2 : Hid (l[2]? = some f2) := zH (by rw [List.getElem?_eq_getElem (by omega), hf2]); have H3 := zH h3; have HP := zH hp
         clear hf0 hf1 hf2
         obtain ⟨t0, i0, y0, bb0⟩ := f0; obtain ⟨t1, i1, y1, bb1⟩ := f1; obtain ⟨t2, i2, y2, bb2⟩ := f2
         dsimp only at k0 k1 k2 x0 x1 x2
         have K0 := zH k0; have K1 := zH k1; have K2 := zH k2
         have X0 := zH x0; have X1 := zH x1; have X2 := zH x2
         obtain ⟨p0, p1, p2, p3⟩ := k0
         have hn3' : ¬ (n2 : Int) < 3 := by have := HL2.out; omega
         have hn0 : 0 < n2 := by have := HL2.out; omega
         have hn1 : (1 : Int) < (n2 : Int) := by have := HL2.out; omega
         have hn2 : (2 : Int) < (n2 : Int) := by have := HL2.out; omega
         have hpar : ((n2 : Int) % 2 != 1) = false := by rw [bne_eq_false_iff_eq]; have := HL2.out; omega
         clear hp k1 k2 x0 x1 x2
         cases hi0 : isN 1 ⟨t0, i0, y0, []⟩ with
         | false =>
           have HI0 := zH hi0
           have HZ : Hid (zzy bs = none) := zH (by rw [HC.out]; exact chF_n0 H3.out HF0.out HI0.out)
           clear hi0
           go_wp2_with (first | (go_at_call 75; refine (xx8 _ _ _ _ _ _ _ _ _ (by first | exact X0.out | exact X1.out | exact X2.out | fail) _ rfl).mono ?_; rintro e w2 ⟨rfl, hb2⟩; rw [yy7]; (first | rw [HI0.out] | rw [HI1.out] | rw [HI2.out] | fail); have HB2 := zH (HB2.out.trans (hb2.mono HB2.out.size)); have K0 := zH (K0.out.keep hb2); have K1 := zH (K1.out.keep hb2); have K2 := zH (K2.out.keep hb2); have HS2 := zH (HS2.out.below hb2 zN); obtain ⟨p0, p1, p2, p3⟩ := K0.out; obtain ⟨q0, q1, q2, q3⟩ := K1.out; obtain ⟨r0, r1, r2, r3⟩ := K2.out; obtain ⟨⟨z0, z0'⟩, ⟨z1, z1'⟩, ⟨z2, z2'⟩, ⟨z3, z3'⟩⟩ := (HR.out.call (HB2.out.mono (by have := HSZ.out; omega))).cellsOf; clear hb2) | fail)
           exact bodyPost_ret (FIN.out w2 _ HB2.out rfl rfl) rfl (FINB.out w2 HZ.out HB2.out)
         | true =>
           have HI0 := zH hi0
           clear hi0
           cases hi1 : isN 2 ⟨t1, i1, y1, []⟩ with
           | false =>
             have HI1 := zH hi1
             have HZ : Hid (zzy bs = none) := zH (by rw [HC.out]; exact chF_n1 H3.out HF1.out HI1.out)
             clear hi1
             go_wp2_with (first | (go_at_call 75; refine (xx8 _ _ _ _ _ _ _ _ _ (by first | exact X0.out | exact X1.out | exact X2.out | fail) _ rfl).mono ?_; rintro e w2 ⟨rfl, hb2⟩; rw [yy7]; (first | rw [HI0.out] | rw [HI1.out] | rw [HI2.out] | fail); have HB2 := zH (HB2.out.trans (hb2.mono HB2.out.size)); have K0 := zH (K0.out.keep hb2); have K1 := zH (K1.out.keep hb2); have K2 := zH (K2.out.keep hb2); have HS2 := zH (HS2.out.below hb2 zN); obtain ⟨p0, p1, p2, p3⟩ := K0.out; obtain ⟨q0, q1, q2, q3⟩ := K1.out; obtain ⟨r0, r1, r2, r3⟩ := K2.out; obtain ⟨⟨z0, z0'⟩, ⟨z1, z1'⟩, ⟨z2, z2'⟩, ⟨z3, z3'⟩⟩ := (HR.out.call (HB2.out.mono (by have := HSZ.out; omega))).cellsOf; clear hb2) | fail)
             exact bodyPost_ret (FIN.out w2 _ HB2.out rfl rfl) rfl (FINB.out w2 HZ.out HB2.out)
           | true =>
             have HI1 := zH hi1
             clear hi1
             cases hi2 : isN 3 ⟨t2, i2, y2, []⟩ with
             | false =>
               have HI2 := zH hi2
               have HZ : Hid (zzy bs = none) := zH (by rw [HC.out]; exact chF_n2 H3.out HF2.out HI2.out)
               clear hi2
               go_wp2_with (first | (go_at_call 75; refine (xx8 _ _ _ _ _ _ _ _ _ (by first | exact X0.out | exact X1.out | exact X2.out | fail) _ rfl).mono ?_; rintro e w2 ⟨rfl, hb2⟩; rw [yy7]; (first | rw [HI0.out] | rw [HI1.out] | rw [HI2.out] | fail); have HB2 := zH (HB2.out.trans (hb2.mono HB2.out.size)); have K0 := zH (K0.out.keep hb2); have K1 := zH (K1.out.keep hb2); have K2 := zH (K2.out.keep hb2); have HS2 := zH (HS2.out.below hb2 zN); obtain ⟨p0, p1, p2, p3⟩ := K0.out; obtain ⟨q0, q1, q2, q3⟩ := K1.out; obtain ⟨r0, r1, r2, r3⟩ := K2.out; obtain ⟨⟨z0, z0'⟩, ⟨z1, z1'⟩, ⟨z2, z2'⟩, ⟨z3, z3'⟩⟩ := (HR.out.call (HB2.out.mono (by have := HSZ.out; omega))).cellsOf; clear hb2) | fail)
               exact bodyPost_ret (FIN.out w2 _ HB2.out rfl rfl) rfl (FINB.out w2 HZ.out HB2.out)
             | true =>
               have HI2 := zH hi2
               have hy0 := vvR hi2
               dsimp only at hy0
               have g0 := vvR HI0.out; have g1 := vvR HI1.out
               dsimp only at g0 g1
               have hw0 : IntKind.i64.wrap (y0 : Int) = (y0 : Int) := by rw [IntKind.wrap_i64]; omega
               have hw1 : IntKind.i64.wrap (y1 : Int) = (y1 : Int) := by rw [IntKind.wrap_i64]; omega
               have hw2 : IntKind.i64.wrap (y2 : Int) = (y2 : Int) := by rw [IntKind.wrap_i64]; omega
               have HY : Hid (zzy bs = (rdS (l.drop 3)).map fun ss => ((y0 : Int), (y1 : Int), (y2 : Int), ss)) := zH (by rw [HC.out, chF_ok H3.out HF0.out HF1.out HF2.out HI0.out HI1.out HI2.out])
               clear hi2 hy0 g0 g1
               go_wp2_with (first | (go_at_call 75; refine (xx8 _ _ _ _ _ _ _ _ _ (by first | exact X0.out | exact X1.out | exact X2.out | fail) _ rfl).mono ?_; rintro e w2 ⟨rfl, hb2⟩; rw [yy7]; (first | rw [HI0.out] | rw [HI1.out] | rw [HI2.out] | fail); have HB2 := zH (HB2.out.trans (hb2.mono HB2.out.size)); have K0 := zH (K0.out.keep hb2); have K1 := zH (K1.out.keep hb2); have K2 := zH (K2.out.keep hb2); have HS2 := zH (HS2.out.below hb2 zN); obtain ⟨p0, p1, p2, p3⟩ := K0.out; obtain ⟨q0, q1, q2, q3⟩ := K1.out; obtain ⟨r0, r1, r2, r3⟩ := K2.out; obtain ⟨⟨z0, z0'⟩, ⟨z1, z1'⟩, ⟨z2, z2'⟩, ⟨z3, z3'⟩⟩ := (HR.out.call (HB2.out.mono (by have := HSZ.out; omega))).cellsOf; clear hb2) | fail)
               have e0 : w2.drew.cell? ⟨b, o + 2, none⟩ = some (.int .u64 (y0 : Int)) := p2
               have e1 : w2.drew.cell? ⟨b, o + 4 + 2, none⟩ = some (.int .u64 (y1 : Int)) := q2
               have e2 : w2.drew.cell? ⟨b, o + 8 + 2, none⟩ = some (.int .u64 (y2 : Int)) := r2
               refine regL [(none, fun w' => w'.cell? ⟨b, o + 2, none⟩ = some (.int .u64 (y0 : Int))), (none, fun w' => w'.cell? ⟨b, o + 4 + 2, none⟩ = some (.int .u64 (y1 : Int))), (none, fun w' => w'.cell? ⟨b, o + 8 + 2, none⟩ = some (.int .u64 (y2 : Int)))] (by kernel_rfl) ?_ (fun hHeld => ?_)
               · exact ⟨(by first | exact e0 | exact zzB e0 _ | fail), (by first | exact e1 | exact zzB e1 _ | fail), (by first | exact e2 | exact zzB e2 _ | fail), trivial⟩
               iterate 2
                all_goals
                 repeat ((first | (refine tkP 0 (oi := ⟨_, _, _, _, _, _⟩) (v := ?_) rfl (by decide +kernel) rfl (fun _ _ _ h => h) rfl hHeld ?_ ?_) | (refine tkP 1 (oi := ⟨_, _, _, _, _, _⟩) (v := ?_) rfl (by decide +kernel) rfl (fun _ _ _ h => h) rfl hHeld ?_ ?_) | (refine tkP 2 (oi := ⟨_, _, _, _, _, _⟩) (v := ?_) rfl (by decide +kernel) rfl (fun _ _ _ h => h) rfl hHeld ?_ ?_) | (refine tkL 3 0 rfl (oi := ⟨_, _, _, _, _, _⟩) (v := ?_) rfl (by decide +kernel) rfl (fun _ _ _ h => h) rfl hHeld ?_ ?_) | (refine tkP 4 (oi := ⟨_, _, _, _, _, _⟩) (v := ?_) rfl (by decide +kernel) rfl (fun _ _ _ h => h) rfl hHeld ?_ ?_) | (refine tkP 5 (oi := ⟨_, _, _, _, _, _⟩) (v := ?_) rfl (by decide +kernel) rfl (fun _ _ _ h => h) rfl hHeld ?_ ?_) | (refine tkP 6 (oi := ⟨_, _, _, _, _, _⟩) (v := ?_) rfl (by decide +kernel) rfl (fun _ _ _ h => h) rfl hHeld ?_ ?_) | (refine tkP 7 (oi := ⟨_, _, _, _, _, _⟩) (v := ?_) rfl (by decide +kernel) rfl (fun _ _ _ h => h) rfl hHeld ?_ ?_) | (refine tkL 8 1 rfl (oi := ⟨_, _, _, _, _, _⟩) (v := ?_) rfl (by decide +kernel) rfl (fun _ _ _ h => h) rfl hHeld ?_ ?_) | (refine tkP 9 (oi := ⟨_, _, _, _, _, _⟩) (v := ?_) rfl (by decide +kernel) rfl (fun _ _ _ h => h) rfl hHeld ?_ ?_) | (refine tkP 10 (oi := ⟨_, _, _, _, _, _⟩) (v := ?_) rfl (by decide +kernel) rfl (fun _ _ _ h => h) rfl hHeld ?_ ?_) | (refine tkP 11 (oi := ⟨_, _, _, _, _, _⟩) (v := ?_) rfl (by decide +kernel) rfl (fun _ _ _ h => h) rfl hHeld ?_ ?_) | (refine tkP 12 (oi := ⟨_, _, _, _, _, _⟩) (v := ?_) rfl (by decide +kernel) rfl (fun _ _ _ h => h) rfl hHeld ?_ ?_) | (refine tkL 13 2 rfl (oi := ⟨_, _, _, _, _, _⟩) (v := ?_) rfl (by decide +kernel) rfl (fun _ _ _ h => h) rfl hHeld ?_ ?_) | (refine tkP 14 (oi := ⟨_, _, _, _, _, _⟩) (v := ?_) rfl (by decide +kernel) rfl (fun _ _ _ h => h) rfl hHeld ?_ ?_) | (refine tkP 15 (oi := ⟨_, _, _, _, _, _⟩) (v := ?_) rfl (by decide +kernel) rfl (fun _ _ _ h => h) rfl hHeld ?_ ?_)); rotate_left; (focus (intro w; (try intro hSw); (try dsimp only at hSw); go_simp; try with_reducible rfl)); intro hHeld; (try simp only [Act.put]); (try simp only [List.setIfInBounds_toArray]); (try simp only [List.set_cons_succ]); (try simp only [List.set_cons_zero]))
                 first | (refine rd1 16 (o := ⟨_, _, _, _, _, _⟩) (by decide +kernel) rfl (fun K hK => ?_)) | (refine rd1 17 (o := ⟨_, _, _, _, _, _⟩) (by decide +kernel) rfl (fun K hK => ?_))
                all_goals
                 first  | (go_simp; (fail)) | go_simp
                 refine hK.out _ _ ?_ (fun hHeld => ?_)
                 · (try dsimp only); exact ⟨(by first | exact e0 | exact zzB e0 _ | fail), (by first | exact e1 | exact zzB e1 _ | fail), (by first | exact e2 | exact zzB e2 _ | fail), trivial⟩
                 clear hK K; (try simp only [Act.put]); (try simp only [List.setIfInBounds_toArray]); (try simp only [List.set_cons_succ]); (try simp only [List.set_cons_zero])
               all_goals
                refine vvW (by decide +kernel) ?_ _
                obtain ⟨Kx, hK⟩ : ∃ q, q = w2.heap.size := ⟨_, rfl⟩
                obtain ⟨W4, hW4⟩ : ∃ W4, W4 = (w2.alloc (.cells #[.int .i64 (y0 : Int), .int .i64 (y1 : Int), .int .i64 (y2 : Int), .slice none 0 0] 27)).drew := ⟨_, rfl⟩
                have hb4 : Below w2.heap.size w2 W4 := by rw [hW4]; exact ((zR).alloc zN _).drew
                have HBX : Hid (W4.heap[Kx]? = some (.cells #[.int .i64 (y0 : Int), .int .i64 (y1 : Int), .int .i64 (y2 : Int), .slice none 0 0] 27 (0, 0))) := zH (by rw [hW4, hK]; exact heap_alloc_new w2 _)
                have HB4 : Hid (Below Kx w2 W4) := zH (by rw [hK]; exact hb4)
                have HK := zH hK
                have HSW : Hid (Sl tFld (fun k => wb.heap.size ≤ k ∧ k < Kx) w2 (some ⟨b, o, none⟩) n2 c2 l) := zH (HS2.out.weaken (F' := fun k => wb.heap.size ≤ k ∧ k < Kx) (fun k hk hl => ⟨hk, by rw [hK]; exact hl⟩))
                have HKW : Hid (wb.heap.size ≤ Kx) := zH (by have := HB2.out.size; omega)
                rw [← hW4, ← hK]
                obtain ⟨m, hm⟩ : ∃ m, l.length = 3 + 2 * m := ⟨(l.length - 3) / 2, by have := H3.out; have := HP.out; omega⟩
                have HM := zH hm
                obtain ⟨r, hr⟩ : ∃ r, r = l.drop 3 := ⟨_, rfl⟩
                rw [← hr] at HY
                have HR3 := zH hr
                have HRL : Hid (r.length = 2 * m) := zH (by rw [hr, List.length_drop]; omega)
                have HNB : Hid (n2 ≤ 4294967000) := zH (by have h1 := HL2.out; have h2 := HLN.out; have h3 := HL.out; have h4 := HN.out; omega)
                clear hK hW4 hb4 hm hr e0 e1 e2
                go_wp2_with fail
                go_loopw [8] (fun iv wr => ∃ (k i : Nat), Hid (i = 3 + 2 * k) ∧ k ≤ m ∧ iv = .int .i64 (i : Int) ∧ RcI r (y0 : Int) (y1 : Int) (y2 : Int) (w.heap.size + 1) (Kx + 1) Kx w2 k wr) (fun iv _ => n2 - (intOf iv).toNat)
                case atStart => exact ⟨0, 3, zH rfl, Nat.zero_le _, rfl, ⟨⟨none, 0, OwnF.nil_ _ _ _ _ _, HBX.out⟩, HB4.out, by simp⟩⟩
                case round =>
                 obtain ⟨k, i, HI3, hk, rfl, ⟨⟨A0, c0, ho, hbox⟩, hbk, hok⟩⟩ := hrel
                 have HO := zH ho; have HBOX := zH hbox; have HBK := zH hbk; have HOKS := zH hok
                 have HBR : Hid (Below wb.heap.size wb wr) := zH (HB2.out.trans (hbk.mono HKW.out))
                 have HTR := zH (HR.out.call (HBR.out.mono (by have := HSZ.out; omega)))
                 have HKM := zH hk
                 clear ho hbox hbk hok hk p0 p1 p2 p3 q0 q1 q2 q3 r0 r1 r2 r3 z0 z1 z2 z3 z0' z1' z2' z3'
                 obtain ⟨⟨z0, z0'⟩, ⟨z1, z1'⟩, ⟨z2, z2'⟩, ⟨z3, z3'⟩⟩ := HTR.out.cellsOf
                 by_cases hlt : i + 1 < n2
                 · have hil : i + 1 < l.length := by have := HL2.out; omega
                   have HKL : Hid (2 * k < r.length) := zH (by have h1 := HI3.out; have h2 := HRL.out; have h3 := HM.out; omega)
                   have HZ7 := zH HK.out
                   have hsr := HSW.out.below HBK.out (by rw [HK.out]; exact Nat.le_refl _)
                   obtain ⟨b', o', Aa2, na2, ca2, e1, k0, -, x0, hbbF⟩ := qz3 hsr (k := i) (by omega)
                   injection e1 with e1; injection e1 with e1 e1'; subst e1 e1'
                   obtain ⟨b', o', A8, n8, c8, e1, k1, hs8, x1⟩ := vvS hsr (k := i + 1) hil
                   injection e1 with e1; injection e1 with e1 e1'; subst e1 e1'
                   have hokB := HOK.out _ (List.getElem_mem hil)
                   have hOA := okS_drop HI3.out hil; have hAT := atS_drop HI3.out hil
                   rw [← HR3.out] at hOA hAT
                   obtain ⟨fA, hfA⟩ : ∃ f, l[i]'(by omega) = f := ⟨_, rfl⟩
                   obtain ⟨fB, hfB⟩ : ∃ f, l[i + 1]'hil = f := ⟨_, rfl⟩
                   rw [hfA] at k0 x0 hOA hAT; rw [hfB] at k1 x1 hs8 hOA hAT hokB
                   have hBe := isR_ok (t := 5) hokB
                   obtain ⟨tA, iA, yA, bbA⟩ := fA; obtain ⟨tB, iB, yB, bbB⟩ := fB
                   dsimp only at k0 k1 x0 x1 hs8 hAT
                   have HOA := zH hOA; have HAT := zH hAT; have HBE : Hid (isR 5 true ⟨tB, iB, yB, []⟩ = isB 5 ⟨tB, iB, yB, []⟩) := zH hBe
                   have XA := zH x0; have XB := zH x1; have KA := zH k0; have KB := zH k1; have HS8 := zH hs8; have HBB := zH hbbF.2
                   have HBW := zH (Below.refl wr.heap.size wr)
                   have HBXW := HBOX
                   obtain ⟨p0, p1, p2, p3⟩ := k0
                   have hi0 : (0 : Int) ≤ (i : Int) := by omega
                   have hi1 : (i : Int) < (n2 : Int) := by omega
                   have hi2 : (i : Int) + 1 < (n2 : Int) := by omega
                   have hi3 : (i : Int) ≤ 4294967000 := by have := HNB.out; omega
                   have hi4 : (0 : Int) ≤ (i : Int) + 1 := by omega
                   clear hil hsr hfA hfB k1 x0 x1 hs8 hbbF hokB hOA hAT hBe
                   cases hc0 : isN 4 ⟨tA, iA, yA, []⟩ with
                   | false =>
                     have HI : Hid (isR 4 false ⟨tA, iA, yA, []⟩ = false) := zH (by rw [yy7]; exact hc0)
                     have HF : Hid (okS r k = false) := zH (by rw [HOA.out]; exact (congrArg (· && _) hc0).trans rfl)
                     have HZ : Hid (zzy bs = none) := zH (by rw [HY.out, jj7 k r HKL.out HF.out]; rfl)
                     clear hc0
                     go_wp2_with (first | (go_at_call 75; refine (xx8 _ _ _ _ _ _ _ _ _ (by first | exact XA.out | exact XB.out | fail) _ rfl).mono ?_; rintro e w3 ⟨rfl, hb3⟩; (first | rw [HI.out] | rw [HJ.out] | fail); have HBW := zH (HBW.out.trans (hb3.mono HBW.out.size)); have KA := zH (KA.out.keep hb3); have KB := zH (KB.out.keep hb3); obtain ⟨p0, p1, p2, p3⟩ := KA.out; obtain ⟨q0, q1, q2, q3⟩ := KB.out; obtain ⟨⟨z0, z0'⟩, ⟨z1, z1'⟩, ⟨z2, z2'⟩, ⟨z3, z3'⟩⟩ := (HTR.out.call (HBW.out.mono (by have h1 := zzb HTR.out.r; omega))).cellsOf; clear hb3) | fail)
                     exact bodyPost_ret (FIN.out w3 _ (HBR.out.trans (HBW.out.mono HBR.out.size)) rfl rfl) rfl (FINB.out w3 HZ.out (HBR.out.trans (HBW.out.mono HBR.out.size)))
                   | true =>
                     have HI : Hid (isR 4 false ⟨tA, iA, yA, []⟩ = true) := zH (by rw [yy7]; exact hc0)
                     have hyA := vvR hc0
                     dsimp only at hyA
                     cases hc1 : isB 5 ⟨tB, iB, yB, []⟩ with
                     | false =>
                       have HJ : Hid (isR 5 true ⟨tB, iB, yB, []⟩ = false) := zH (HBE.out.trans hc1)
                       have HF : Hid (okS r k = false) := zH (by rw [HOA.out]; exact (congrArg (_ && ·) hc1).trans (Bool.and_false _))
                       have HZ : Hid (zzy bs = none) := zH (by rw [HY.out, jj7 k r HKL.out HF.out]; rfl)
                       clear hc0 hc1
                       go_wp2_with (first | (go_at_call 75; refine (xx8 _ _ _ _ _ _ _ _ _ (by first | exact XA.out | exact XB.out | fail) _ rfl).mono ?_; rintro e w3 ⟨rfl, hb3⟩; (first | rw [HI.out] | rw [HJ.out] | fail); have HBW := zH (HBW.out.trans (hb3.mono HBW.out.size)); have KA := zH (KA.out.keep hb3); have KB := zH (KB.out.keep hb3); obtain ⟨p0, p1, p2, p3⟩ := KA.out; obtain ⟨q0, q1, q2, q3⟩ := KB.out; obtain ⟨⟨z0, z0'⟩, ⟨z1, z1'⟩, ⟨z2, z2'⟩, ⟨z3, z3'⟩⟩ := (HTR.out.call (HBW.out.mono (by have h1 := zzb HTR.out.r; omega))).cellsOf; clear hb3) | fail)
                       exact bodyPost_ret (FIN.out w3 _ (HBR.out.trans (HBW.out.mono HBR.out.size)) rfl rfl) rfl (FINB.out w3 HZ.out (HBR.out.trans (HBW.out.mono HBR.out.size)))
                     | true =>
                       have HJ : Hid (isR 5 true ⟨tB, iB, yB, []⟩ = true) := zH (HBE.out.trans hc1)
                       have HOX : Hid (okS r k = true) := zH (by rw [HOA.out]; exact (congrArg (· && _) hc0).trans ((Bool.true_and _).trans hc1))
                       have hwA : IntKind.i64.wrap (yA : Int) = (yA : Int) := by rw [IntKind.wrap_i64]; omega
                       have hiw : IntKind.i64.wrap ((i : Int) + 1) = (i : Int) + 1 := by rw [IntKind.wrap_i64]; omega
                       have hin : ((i : Int) + 1).toNat = i + 1 := by omega
                       clear hc0 hc1
                       go_wp2_with (first | (go_at_call 75; refine (xx8 _ _ _ _ _ _ _ _ _ (by first | exact XA.out | exact XB.out | fail) _ rfl).mono ?_; rintro e w3 ⟨rfl, hb3⟩; (first | rw [HI.out] | rw [HJ.out] | fail); have HBW := zH (HBW.out.trans (hb3.mono HBW.out.size)); have KA := zH (KA.out.keep hb3); have KB := zH (KB.out.keep hb3); obtain ⟨p0, p1, p2, p3⟩ := KA.out; obtain ⟨q0, q1, q2, q3⟩ := KB.out; obtain ⟨⟨z0, z0'⟩, ⟨z1, z1'⟩, ⟨z2, z2'⟩, ⟨z3, z3'⟩⟩ := (HTR.out.call (HBW.out.mono (by have h1 := zzb HTR.out.r; omega))).cellsOf; clear hb3) | fail)
                       have HO3 := zH (HO.out.keepB HBW.out)
                       have HZW3 : Hid (Kx + 1 ≤ w3.heap.size) := zH (by have h1 := zzb HBOX.out; have h2 := HBW.out.size; omega)
                       have HBX3 := zH ((HBW.out.block Kx (zzb HBOX.out)).trans HBOX.out)
                       have d0 : w3.drew.cell? ⟨Kx, 3, none⟩ = some (.slice A0 k c0) := (zzn HBX3.out).2.2.2.1
                       have b0 := fun o : Obj => zzB d0 o
                       have ka : w3.drew.cell? ⟨b, o + i * 4 + 2, none⟩ = some (.int .u64 (yA : Int)) := KA.out.c2
                       have kb : w3.drew.cell? ⟨b, o + (i + 1) * 4 + 3, none⟩ = some (.slice A8 n8 c8) := KB.out.c3
                       have HREP : Hid (zzm.rep (fun k => w.heap.size + 1 ≤ k ∧ k < Kx) w3.drew [.int .i64 (yA : Int), .slice A8 n8 c8] (atS r k)) := zH (by
                        rw [HAT.out]
                        exact ⟨[.int .i64 (yA : Int)], [.slice A8 n8 c8], rfl, ⟨rfl, by dsimp only; omega, by dsimp only; omega⟩, A8, n8, c8, rfl, ((HS8.out.weaken (F' := fun k => w.heap.size + 1 ≤ k ∧ k < Kx) (fun k hk _ => ⟨by have h1 := hk.1; have h2 := HSZ.out; omega, hk.2⟩)).below HBW.out zN).drew⟩)
                       have HLIM : Hid (k ≤ 34359738368) := zH (by have h1 := HNB.out; have h2 := HI3.out; omega)
                       refine regL [(some 16, fun w' => w'.cell? ⟨Kx, 3, none⟩ = some (.slice A0 k c0)), (none, fun w' => w'.cell? ⟨b, o + i * 4 + 2, none⟩ = some (.int .u64 (yA : Int))), (none, fun w' => w'.cell? ⟨b, o + (i + 1) * 4 + 3, none⟩ = some (.slice A8 n8 c8))] (by kernel_rfl) ?_ (fun hHeld => ?_)
                       · exact ⟨fun h => (by first | exact gone (c := 16) (by decide +kernel) h | exact d0 | exact b0 _ | fail), (by first | exact ka | exact zzB ka _ | exact ka9 | exact kaS _ | fail), (by first | exact kb | exact zzB kb _ | exact kb9 | exact kbS _ | fail), trivial⟩
                       iterate 3
                        all_goals
                         repeat ((first | (refine tkP 0 (oi := ⟨_, _, _, _, _, _⟩) (v := ?_) rfl (by decide +kernel) rfl (fun _ _ _ h => h) rfl hHeld ?_ ?_) | (refine tkL 1 0 rfl (oi := ⟨_, _, _, _, _, _⟩) (v := ?_) rfl (by decide +kernel) rfl (fun _ _ _ h => h) rfl hHeld ?_ ?_) | (refine tkP 2 (oi := ⟨_, _, _, _, _, _⟩) (v := ?_) rfl (by decide +kernel) rfl (fun _ _ _ h => h) rfl hHeld ?_ ?_) | (refine tkP 3 (oi := ⟨_, _, _, _, _, _⟩) (v := ?_) rfl (by decide +kernel) rfl (fun _ _ _ h => h) rfl hHeld ?_ ?_) | (refine tkP 4 (oi := ⟨_, _, _, _, _, _⟩) (v := ?_) rfl (by decide +kernel) rfl (fun _ _ _ h => h) rfl hHeld ?_ ?_) | (refine tkP 5 (oi := ⟨_, _, _, _, _, _⟩) (v := ?_) rfl (by decide +kernel) rfl (fun _ _ _ h => h) rfl hHeld ?_ ?_) | (refine tkL 6 1 rfl (oi := ⟨_, _, _, _, _, _⟩) (v := ?_) rfl (by decide +kernel) rfl (fun _ _ _ h => h) rfl hHeld ?_ ?_) | (refine tkP 7 (oi := ⟨_, _, _, _, _, _⟩) (v := ?_) rfl (by decide +kernel) rfl (fun _ _ _ h => h) rfl hHeld ?_ ?_) | (refine tkP 8 (oi := ⟨_, _, _, _, _, _⟩) (v := ?_) rfl (by decide +kernel) rfl (fun _ _ _ h => h) rfl hHeld ?_ ?_) | (refine tkP 9 (oi := ⟨_, _, _, _, _, _⟩) (v := ?_) rfl (by decide +kernel) rfl (fun _ _ _ h => h) rfl hHeld ?_ ?_) | (refine tkP 10 (oi := ⟨_, _, _, _, _, _⟩) (v := ?_) rfl (by decide +kernel) rfl (fun _ _ _ h => h) rfl hHeld ?_ ?_) | (refine tkP 11 (oi := ⟨_, _, _, _, _, _⟩) (v := ?_) rfl (by decide +kernel) rfl (fun _ _ _ h => h) rfl hHeld ?_ ?_) | (refine tkP 12 (oi := ⟨_, _, _, _, _, _⟩) (v := ?_) rfl (by decide +kernel) rfl (fun _ _ _ h => h) rfl hHeld ?_ ?_) | (refine tkL 13 2 rfl (oi := ⟨_, _, _, _, _, _⟩) (v := ?_) rfl (by decide +kernel) rfl (fun _ _ _ h => h) rfl hHeld ?_ ?_) | (refine tkP 14 (oi := ⟨_, _, _, _, _, _⟩) (v := ?_) rfl (by decide +kernel) rfl (fun _ _ _ h => h) rfl hHeld ?_ ?_) | (refine tkP 17 (oi := ⟨_, _, _, _, _, _⟩) (v := ?_) rfl (by decide +kernel) rfl (fun _ _ _ h => h) rfl hHeld ?_ ?_)); rotate_left; (focus (intro w; (try intro hSw); (try dsimp only at hSw); go_simp; try with_reducible rfl)); intro hHeld; (try simp only [Act.put]); (try simp only [List.setIfInBounds_toArray]); (try simp only [List.set_cons_succ]); (try simp only [List.set_cons_zero]))
                         first | (refine rd1 15 (o := ⟨_, _, _, _, _, _⟩) (by decide +kernel) rfl (fun K hK => ?_)) | (refine rd1 16 (o := ⟨_, _, _, _, _, _⟩) (by decide +kernel) rfl (fun K hK => ?_)) | (refine rd1 18 (o := ⟨_, _, _, _, _, _⟩) (by decide +kernel) rfl (fun K hK => ?_))
                        all_goals
                         first | (refine atD 111 rfl ?_; refine yyQ (T := zzm) yy3 w3.drew w3.drew rfl (.tmp 96) (.tmp 110) rfl (Kx + 1) A0 k c0 ((List.range k).map (atS r)) (by rfl) (fun k => w.heap.size + 1 ≤ k ∧ k < Kx) (fun k => w.heap.size + 1 ≤ k ∧ k < Kx) HO3.out.drew (zR) HZW3.out _ (by rfl) [.int .i64 (yA : Int), .slice A8 n8 c8] (atS r k) HREP.out 55 rfl (fun b _ hB _ h => by have h2 := h.2; omega) HLIM.out ?_; intro A9 c9 w9 h9; have hnr : some b ≠ A0.map (·.block) := (fun e => by have h1 := (HO3.out.lies' e.symm).2.1; have h2 := HBB.out; omega); have ka9 : w9.cell? ⟨b, o + i * 4 + 2, none⟩ = some (.int .u64 (yA : Int)) := h9.grown.cell (zzB ka _) hnr; have kb9 : w9.cell? ⟨b, o + (i + 1) * 4 + 3, none⟩ = some (.slice A8 n8 c8) := h9.grown.cell (zzB kb _) hnr; have hbk9 : b ≠ Kx := (by have := HBB.out; omega); have kaS := (fun v : Value => (World.cell?_of_block (a := ⟨b, o + i * 4 + 2, none⟩) (Below.heap_setCell w9 ⟨Kx, 3, none⟩ v b hbk9)).trans ka9); have kbS := (fun v : Value => (World.cell?_of_block (a := ⟨b, o + (i + 1) * 4 + 3, none⟩) (Below.heap_setCell w9 ⟨Kx, 3, none⟩ v b hbk9)).trans kb9); have HBX9 : Hid (w9.heap[Kx]? = some (.cells #[.int .i64 (y0 : Int), .int .i64 (y1 : Int), .int .i64 (y2 : Int), .slice A0 k c0] 27 (0, 0))) := zH ((h9.below.block Kx (Nat.lt_succ_self _)).trans HBX3.out); obtain ⟨-, -, -, ⟨d9, d9'⟩⟩ := zzn HBX9.out; have H9 := zH h9.own; have HB9 := zH h9.below; clear h9 hbk9 hnr) | (go_simp; (fail)) | go_simp
                         refine hK.out _ _ ?_ (fun hHeld => ?_)
                         · (try dsimp only); exact ⟨fun h => (by first | exact gone (c := 16) (by decide +kernel) h | exact d0 | exact b0 _ | fail), (by first | exact ka | exact zzB ka _ | exact ka9 | exact kaS _ | fail), (by first | exact kb | exact zzB kb _ | exact kb9 | exact kbS _ | fail), trivial⟩
                         clear hK K; (try simp only [Act.put]); (try simp only [List.setIfInBounds_toArray]); (try simp only [List.set_cons_succ]); (try simp only [List.set_cons_zero])
                       all_goals
                        refine vvW (by decide +kernel) ?_ _
                        go_wp2_with fail
                        go_roundw
                        case rel =>
                         refine ⟨k + 1, i + 2, zH (by have := HI3.out; omega), by have h1 := HI3.out; have h2 := HM.out; have h3 := HL2.out; omega, by go_num, ⟨⟨A9, c9, ?_, zza HBX9.out rfl⟩, ?_, ?_⟩⟩
                         · rw [List.range_succ, List.map_append, List.map_singleton]
                           refine ((H9.out.weaken (F' := fun k => w.heap.size + 1 ≤ k ∧ k < Kx) (fun b hb _ => hb.1.elim id id) (fun b _ hB _ h => by have h2 := h.2; omega))).setCell (fun h => Nat.lt_irrefl _ h.2) (fun e => ?_) _
                           have h1 := (H9.out.lies' (b := Kx) (by rw [e]; rfl)).2.1
                           omega
                         · exact zzd ((HBK.out.trans (HBW.out.mono (by have h1 := zzb HBOX.out; omega))).trans ((((zR).drew).trans HB9.out).mono (Nat.le_succ _))) zN _
                         · intro j hj
                           rcases Nat.lt_succ_iff_lt_or_eq.1 hj with h | h
                           · exact HOKS.out j h
                           · rw [h]; exact HOX.out
                        case measure => simp [intOf]; omega
                 · have HKE : Hid (k = m) := zH (by have h1 := HI3.out; have h2 := HM.out; have h3 := HL2.out; have h4 := HKM.out; omega)
                   have hge : ¬ (i : Int) < (n2 : Int) := by have h1 := HI3.out; have h2 := HM.out; have h3 := HL2.out; have h4 := HKM.out; have h5 := HKE.out; omega
                   obtain ⟨⟨v0, _⟩, ⟨v1, _⟩, ⟨v2, _⟩, ⟨v3, _⟩⟩ := zzn HBOX.out
                   have HT : Hid (zzy bs = some ((y0 : Int), (y1 : Int), (y2 : Int), (List.range k).map (atS r))) := zH (by
                    rw [HY.out, qz1 k r (by have h1 := HRL.out; have h2 := HKE.out; omega) HOKS.out]; rfl)
                   clear hlt
                   go_wp2_with fail
                   have h2 := HTR.out.put (.int .i64 (y0 : Int)) (.int .i64 (y1 : Int)) (.int .i64 (y2 : Int)) (.slice A0 k c0)
                   refine bodyPost_ret (rc_res h2 _ rfl rfl) rfl ⟨A0, k, c0, by rw [HT.out]; rfl, ?_, h2.below⟩
                   rw [HT.out]
                   have hs := HO.out.sl.weaken (F' := fun k => w.heap.size + 1 ≤ k) (fun k hk _ => by have h1 := HKW.out; have h2 := HSZ.out; rcases hk with h | h <;> omega)
                   exact (hs.keep (by simp) (fun k hk _ => xxx (by omega) _ _ _ _)).weaken fun k hk _ => by omega
       · have HZ : Hid (zzy bs = none) := zH (by rw [HC.out]; exact chF_par h3 hp)
         have hn3' : ¬ (n2 : Int) < 3 := by have := HL2.out; omega
         have hpar : ((n2 : Int) % 2 != 1) = true := by rw [bne_iff_ne]; have := HL2.out; omega
         clear h3 hp
         go_wp2_with fail
         exact bodyPost_ret (FIN.out w2 _ HB2.out rfl rfl) rfl (FINB.out w2 HZ.out HB2.out)
     · have HZ : Hid (zzy bs = none) := zH (by rw [HC.out]; exact uu4 (by omega))
       have hn3' : (n2 : Int) < 3 := by have := HL2.out; omega
       clear h3
       go_wp2_with fail
       exact bodyPost_ret (FIN.out w2 _ HB2.out rfl rfl) rfl (FINB.out w2 HZ.out HB2.out)
end
end Go.Proofs.YtpmglcachffojaaGreatDoor
