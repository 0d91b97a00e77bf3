/- A part of what Chunks leans on. -/
import Derived.Test.YtpmglcachffojaaGreatDoorZ22
set_option maxRecDepth 100000
set_option maxHeartbeats 16000000
namespace Go.Proofs.YtpmglcachffojaaGreatDoor
section
open Go Go.RowKit
def nmI (c : Int) : Bool := decide (97 ≤ c ∧ c ≤ 122 ∨ 48 ≤ c ∧ c ≤ 57 ∨ c = 95)
def nmU (b : UInt8) : Bool := nmI (b.toNat : Int)
def nmS (s : ByteArray) : Bool := s.data.toList.all nmU && decide (¬ s.size = 0 ∧ s.size ≤ 20)
theorem jjt (c : Int) (w : World) : Calls Tryz.prog 174 #[.int .i32 c] w fun e w' => e = .returned (.bool (nmI c)) ∧ w = w' := by
 obtain ⟨q, hq⟩ : ∃ q, q = nmI c := ⟨_, rfl⟩
 rw [← hq]
 unfold nmI at hq
 by_cases h1 : 97 ≤ c
 · have h1' : c ≥ 97 := h1
   have h5 : c ≥ 48 := by omega
   have h5' : 48 ≤ c := h5
   have h6 : ¬ c ≤ 57 := by omega
   have h7 : ¬ c = 95 := by omega
   by_cases h2 : c ≤ 122
   · obtain rfl : q = true := hq.trans (decide_eq_true (.inl ⟨h1, h2⟩))
     clear hq
     go_enter Tryz.func174, Tryz.ntmps174
     go_wp2_with fail
     go_ret
     exact ⟨rfl, rfl⟩
   · obtain rfl : q = false := hq.trans (decide_eq_false (by omega))
     have h8 := zzH h7
     clear hq
     go_enter Tryz.func174, Tryz.ntmps174
     go_wp2_with fail
     go_ret
     exact ⟨rfl, rfl⟩
 · have h1' : ¬ c ≥ 97 := h1
   by_cases h3 : c = 95
   · subst h3
     obtain rfl : q = true := hq.trans (by decide)
     clear hq
     go_enter Tryz.func174, Tryz.ntmps174
     go_wp2_with fail
     go_ret
     exact ⟨rfl, rfl⟩
   · have h8 := zzH h3
     by_cases h4 : 48 ≤ c
     · have h4' : c ≥ 48 := h4
       by_cases h5 : c ≤ 57
       · obtain rfl : q = true := hq.trans (decide_eq_true (by omega))
         clear hq
         go_enter Tryz.func174, Tryz.ntmps174
         go_wp2_with fail
         go_ret
         exact ⟨rfl, rfl⟩
       · obtain rfl : q = false := hq.trans (decide_eq_false (by omega))
         clear hq
         go_enter Tryz.func174, Tryz.ntmps174
         go_wp2_with fail
         go_ret
         exact ⟨rfl, rfl⟩
     · have h4' : ¬ c ≥ 48 := h4
       obtain rfl : q = false := hq.trans (decide_eq_false (by omega))
       clear hq
       go_enter Tryz.func174, Tryz.ntmps174
       go_wp2_with fail
       go_ret
       exact ⟨rfl, rfl⟩
theorem all_snoc {l : List UInt8} {p : Nat} (hp : p < l.length) {b : UInt8} (hb : b = l[p]) : (l.take (p + 1)).all nmU = ((l.take p).all nmU && nmU b) := by
 rw [zT hp, List.all_append, ← hb]; simp
theorem all_no {l : List UInt8} {p : Nat} (hp : p < l.length) {b : UInt8} (hb : b = l[p]) (h : nmU b = false) : l.all nmU = false := by
 rw [List.all_eq_false]
 exact ⟨b, hb ▸ List.getElem_mem hp, by rw [h]; decide⟩
theorem xq1 {c : Int} (h : 128 ≤ c) : nmI c = false := decide_eq_false (by omega)
theorem yyZ (s : ByteArray) (hs : s.size ≤ maxLen) (w : World) :
 Calls Tryz.prog 110 #[.string s] w fun e w' => e = .returned (.bool (nmS s)) ∧ Below w.heap.size w w' := by
 obtain ⟨l, hl⟩ : ∃ l, l = s.data.toList := ⟨_, rfl⟩
 have HL := zH hl; have HS := zH hs
 obtain ⟨k, hk⟩ : ∃ k, k = w.heap.size := ⟨_, rfl⟩
 have HK := zH hk
 have hls : l.length = s.size := by rw [hl, Array.length_toList]; rfl
 have HLS := zH hls
 have HQ := zH (show nmS s = (l.all nmU && decide (¬ s.size = 0 ∧ s.size ≤ 20)) by unfold nmS; rw [hl])
 clear hl hs hls
 go_enter Tryz.func110, Tryz.ntmps110
 go_wp2_with fail
 rw [← hk]
 clear hk
 go_loopw [8] (fun _ wr => ∃ pos : Nat, pos ≤ s.size ∧ wr.heap[k]? = some (.stringIter s pos) ∧ Below w.heap.size w wr ∧ (l.take pos).all nmU = true)
  (fun _ wr => s.size - wr.iterPos k)
 case atStart => exact ⟨0, Nat.zero_le _, by rw [HK.out]; exact heap_alloc_new w _, (zR).alloc zN _, by rw [List.take_zero]; rfl⟩
 case round =>
  obtain ⟨pos, hpos, hit, hb, hv⟩ := hrel
  have HIT := zH hit; have HB := zH hb; have HV := zH hv
  have hip : wr.iterPos k = pos := by unfold World.iterPos; rw [hit]
  have HIP := zH hip
  clear hb hv hip
  by_cases hlt : pos < s.size
  · have hn := fun ty => Lib.run_next_any_at (P := Tryz.prog) wr k s pos ty hit hlt
    obtain ⟨r, hr⟩ : ∃ r, r = (Utf8.decode s pos).1 := ⟨_, rfl⟩
    obtain ⟨d, hd⟩ : ∃ d, d = (Utf8.decode s pos).2 := ⟨_, rfl⟩
    rw [← hr, ← hd] at hn
    have hlp : pos < l.length := by rw [HLS.out]; exact hlt
    obtain ⟨b, hb⟩ : ∃ b, b = l[pos] := ⟨_, rfl⟩
    have hsb : s[pos]'hlt = b := by rw [hb]; have := HL.out; subst this; rfl
    obtain ⟨w2, hw2⟩ : ∃ w2, w2 = wr.iterAt k s (pos + d) := ⟨_, rfl⟩
    rw [← hw2] at hn
    have hit2 : w2.heap[k]? = some (.stringIter s (pos + d)) := by rw [hw2]; exact Lib.iterAt_heap wr k s pos _ hit
    have hb2 : Below w.heap.size w w2 := by rw [hw2]; exact Lib.below_iterAt HB.out (by rw [HK.out]; exact Nat.le_refl _) s _
    have HIT2 := zH hit2; have HB2 := zH hb2
    have hip2 : w2.iterPos k = pos + d := by unfold World.iterPos; rw [hit2]
    have HIP2 := zH hip2
    have HSB := zH hsb; have HBL := zH hb; have HR := zH hr; have HD := zH hd
    clear hw2 hit hit2 hb2 hip2 hsb hb hr hd
    cases hnb : nmU b with
    | true =>
      have HNB := zH hnb
      have hb8 : b.toNat < 128 := by
       rcases Nat.lt_or_ge b.toNat 128 with h | h
       · exact h
       · unfold nmU at hnb; rw [xq1 (by omega)] at hnb; cases hnb
      have hdec := decode_ascii s pos hlt (by rw [HSB.out]; exact hb8)
      rw [HSB.out] at hdec
      have HR2 := zH (show r = b.toNat by rw [HR.out, hdec])
      have HD2 := zH (show d = 1 by rw [HD.out, hdec])
      have HNR := zH (show nmI (r : Int) = true by rw [HR2.out]; exact hnb)
      clear hnb hdec hb8
      go_wp2_with (first
       | (go_at_call 174; refine (jjt (r : Int) _).mono ?_; rintro e w3 ⟨rfl, rfl⟩; rw [HNR.out])
       | fail)
      go_roundw
      case rel => exact ⟨pos + d, by rw [HD2.out]; omega, HIT2.out, HB2.out, by rw [HD2.out, all_snoc hlp HBL.out, HNB.out]; exact (Bool.and_true _).trans HV.out⟩
      case measure => rw [HIP2.out, HIP.out]; have := HD2.out; omega
    | false =>
      have HFIN := zH (show nmS s = false by rw [HQ.out, all_no hlp HBL.out hnb]; rfl)
      have HNR := zH (show nmI (r : Int) = false by
       rcases Nat.lt_or_ge b.toNat 128 with h | h
       · have hdec := decode_ascii s pos hlt (by rw [HSB.out]; exact h)
         rw [HSB.out] at hdec
         rw [HR.out, hdec]; exact hnb
       · have hdec := decode_high s pos hlt (by rw [HSB.out]; exact h)
         rw [← HR.out] at hdec
         exact xq1 (by omega))
      clear hnb
      go_wp2_with (first
       | (go_at_call 174; refine (jjt (r : Int) _).mono ?_; rintro e w3 ⟨rfl, rfl⟩; rw [HNR.out])
       | fail)
      go_ret
      exact ⟨by rw [HFIN.out]; rfl, HB2.out⟩
  · have hn := fun ty => Lib.run_next_end_at (P := Tryz.prog) wr k s pos ty hit hlt
    have hall : l.all nmU = true := by rw [← HV.out, zL (by rw [HLS.out]; omega)]
    obtain ⟨q, hq⟩ : ∃ q, q = nmS s := ⟨_, rfl⟩
    have HFQ := zH hq
    rw [HQ.out, hall, Bool.true_and] at hq
    clear hit hall
    by_cases h0 : s.size = 0
    · obtain rfl : q = false := hq.trans (decide_eq_false (fun h => h.1 h0))
      obtain rfl := (vvG s).2 h0
      clear hq h0
      go_wp2_with fail
      go_ret
      exact ⟨by rw [← HFQ.out]; rfl, HB.out⟩
    · obtain ⟨a1, a2, a3, a4, a5⟩ := xqY h0
      by_cases h20 : s.size ≤ 20
      · obtain rfl : q = true := hq.trans (decide_eq_true ⟨h0, h20⟩)
        have h20' : (s.size : Int) ≤ 20 := by omega
        clear hq h0 h20
        go_wp2_with fail
        go_ret
        exact ⟨by rw [← HFQ.out]; rfl, HB.out⟩
      · obtain rfl : q = false := hq.trans (decide_eq_false (fun h => h20 h.2))
        have h20' : ¬ (s.size : Int) ≤ 20 := by omega
        clear hq h0 h20
        go_wp2_with fail
        go_ret
        exact ⟨by rw [← HFQ.out]; rfl, HB.out⟩
end
section
open Go Go.RowKit
def tCol : Ty (ByteArray × Int) := tStr.prod tI64
theorem vvI {F : Nat → Prop} {w : World} {cs : List Value} {x : ByteArray × Int} (h : tCol.rep F w cs x) : cs = [.string x.1, .int .i64 x.2] ∧ x.1.size ≤ maxLen ∧ -9223372036854775808 ≤ x.2 ∧ x.2 ≤ 9223372036854775807 := by
 obtain ⟨c1, c2, rfl, ⟨rfl, h1⟩, rfl, h2⟩ := h
 exact ⟨rfl, h1, h2⟩
def rowB (l : List (ByteArray × Int)) (r : List VV) : Bool := decide (l.length = r.length) && (l.zip r).all fun p => mayV p.1.2 p.2
def rowE (l : List (ByteArray × Int)) (r : List VV) : Int := if rowB l r then 0 else 21
theorem jj0 {l : List (ByteArray × Int)} {r : List VV} (h : rowB l r = true) : rowE l r = 0 := if_pos h
theorem qzA {l : List (ByteArray × Int)} {r : List VV} (h : rowB l r = false) : rowE l r = 21 := if_neg (by rw [h]; decide)
theorem vvp {α : Type} {p : α → Bool} {l : List α} {i : Nat} (hi : i < l.length) {b : α} (hb : b = l[i]) : (l.take (i + 1)).all p = ((l.take i).all p && p b) := by
 rw [zT hi, List.all_append, ← hb]; simp
theorem all_not {α : Type} {p : α → Bool} {l : List α} {i : Nat} (hi : i < l.length) {b : α} (hb : b = l[i]) (h : p b = false) : l.all p = false := by
 rw [List.all_eq_false]
 exact ⟨b, hb ▸ List.getElem_mem hi, by rw [h]; decide⟩
theorem qzB (F F2 : Nat → Prop) (A A2 : Option Addr) (n c n2 c2 : Nat) (l : List (ByteArray × Int)) (r : List VV) (w : World) (h : Sl tCol F w A n c l) (h2 : Sl tVV F2 w A2 n2 c2 r) (hn : n ≤ 4096) (hT : Lib.Utf8Tabs 0 1 w) :
 Calls Tryz.prog 53 #[.slice A n c, .slice A2 n2 c2] w fun e w' => e = .returned (.int .i64 (rowE l r)) ∧ Below w.heap.size w w' := by
 have HH := zH h; have HH2 := zH h2; have HL := zH h.len; have HL2 := zH h2.len; have HT := zH hT
 have HN := zH hn
 clear h h2 hT hn
 by_cases hnn : n = n2
 · subst hnn
   obtain ⟨z, hz⟩ : ∃ z, z = l.zip r := ⟨_, rfl⟩
   have HZ := zH hz
   have hzl : z.length = n := by rw [hz, List.length_zip, ← HL.out, ← HL2.out, Nat.min_self]
   have HZL := zH hzl
   have HQ := zH (show rowB l r = z.all fun p => mayV p.1.2 p.2 by unfold rowB; rw [hz, decide_eq_true (show l.length = r.length by rw [← HL.out, ← HL2.out]), Bool.true_and])
   clear hz hzl
   go_enter Tryz.func53, Tryz.ntmps53
   go_wp2_with fail
   go_loopw [14] (fun iv wr => ∃ i : Nat, i ≤ n ∧ iv = .int .i64 (i : Int) ∧ Below w.heap.size w wr ∧ (z.take i).all (fun p => mayV p.1.2 p.2) = true) (fun iv _ => n - (intOf iv).toNat)
   case atStart => exact ⟨0, Nat.zero_le _, rfl, zR, by rw [List.take_zero]; rfl⟩
   case round =>
    obtain ⟨i, hi, rfl, hb, hv⟩ := hrel
    have HB := zH hb; have HV := zH hv
    clear hb hv
    by_cases hlt : i < n
    · have hil : i < l.length := by rw [← HL.out]; exact hlt
      have hir : i < r.length := by rw [← HL2.out]; exact hlt
      have hiz : i < z.length := by rw [HZL.out]; exact hlt
      obtain ⟨b, o, cs, rfl, _, _, hrep, hc⟩ := (HH.out.below HB.out zN).at_ hil (by decide)
      obtain ⟨b2, o2, cs2, rfl, _, hbl2, hrep2, hc2⟩ := (HH2.out.below HB.out zN).at_ hir (by decide)
      obtain ⟨x, hx⟩ : ∃ x, x = l[i] := ⟨_, rfl⟩
      obtain ⟨v, hvv⟩ : ∃ v, v = r[i] := ⟨_, rfl⟩
      have HZI := zH (show (x, v) = z[i] by have := HZ.out; subst this; rw [hx, hvv, List.getElem_zip])
      rw [← hx] at hrep
      obtain ⟨rfl, hx1, hx2, hx3⟩ := vvI hrep
      obtain ⟨rfl, hok⟩ := hrep2
      rw [← hvv] at hc2 hok
      obtain ⟨nm, kd⟩ := x
      obtain ⟨g0, g1⟩ := xxS hc
      obtain ⟨y0, y1, y2⟩ := xxj hc2
      have g0 : _ = some (Value.string nm) := g0
      have g1 : _ = some (Value.int .i64 kd) := g1
      have HOK := zH hok
      have i0 : (0 : Int) ≤ (i : Int) := by omega
      have i1 : (i : Int) < (n : Int) := by omega
      have i2 : (i : Int) ≤ 4096 := by have := HN.out; omega
      obtain ⟨q, hq⟩ : ∃ q, q = mayV kd v := ⟨_, rfl⟩
      have HQV := zH hq
      clear hc hc2 hx hvv hrep hok hx1 hx2 hx3 hq
      go_upto_region 6 with fail
      obtain ⟨w2, hw2⟩ : ∃ w2, w2 = wr.alloc (.cells #[.string nm, .int .i64 kd] 93) := ⟨_, rfl⟩
      rw [← hw2]
      have k1 : w2.cell? ⟨wr.heap.size, 1, none⟩ = some (.int .i64 kd) := by rw [hw2]; exact by rw [zC (heap_alloc_new wr _)]; rfl
      have kb : Below wr.heap.size wr w2 := by rw [hw2]; exact (zR).alloc zN _
      have m0 := zzh kb y0; have m1 := zzh kb y1; have m2 := zzh kb y2
      have HB2 := zH (HB.out.trans (kb.mono HB.out.size))
      have HBL := zH hbl2
      clear g0 g1 y0 y1 y2 kb hw2 hbl2
      cases q
      · have HFIN := zH (show rowE l r = 21 from qzA (by rw [HQ.out]; exact all_not hiz HZI.out HQV.out.symm))
        go_wp2_with fail
        go_region_held3 (fun w' => w'.cell? ⟨wr.heap.size, 1, none⟩ = some (.int .i64 kd) ∧ w'.cell? ⟨b2, o2 + i * 3, none⟩ = some (.bool v.null) ∧ w'.cell? ⟨b2, o2 + i * 3 + 1, none⟩ = some (.int .i64 v.n) ∧ w'.cell? ⟨b2, o2 + i * 3 + 2, none⟩ = some (.string v.s))
         (first | go_keep | (go_split_ands; refine ⟨?_, ?_, ?_, ?_⟩ <;> exact zzh (by assumption) (by assumption)))
         (first
           | (go_at_call 41; refine (jjY kd v HOK.out _ (zze HT.out (xxu HB2.out _))).mono ?_; rintro e w3 ⟨rfl, hb3⟩; rw [← HQV.out]))
        have HB3 := zH ((xxu HB2.out 1).trans (hb3.mono (xxu HB2.out 1).size))
        go_wp2_with fail
        go_ret
        exact ⟨by rw [HFIN.out]; rfl, HB3.out⟩
      · have HFIN := zH (show (z.take (i + 1)).all (fun p => mayV p.1.2 p.2) = true by rw [vvp hiz HZI.out, HV.out]; exact HQV.out.symm)
        go_wp2_with fail
        go_region_held3 (fun w' => w'.cell? ⟨wr.heap.size, 1, none⟩ = some (.int .i64 kd) ∧ w'.cell? ⟨b2, o2 + i * 3, none⟩ = some (.bool v.null) ∧ w'.cell? ⟨b2, o2 + i * 3 + 1, none⟩ = some (.int .i64 v.n) ∧ w'.cell? ⟨b2, o2 + i * 3 + 2, none⟩ = some (.string v.s))
         (first | go_keep | (go_split_ands; refine ⟨?_, ?_, ?_, ?_⟩ <;> exact zzh (by assumption) (by assumption)))
         (first
           | (go_at_call 41; refine (jjY kd v HOK.out _ (zze HT.out (xxu HB2.out _))).mono ?_; rintro e w3 ⟨rfl, hb3⟩; rw [← HQV.out]))
        have HB3 := zH ((xxu HB2.out 1).trans (hb3.mono (xxu HB2.out 1).size))
        go_wp2_with fail
        go_roundw
        case rel => exact ⟨i + 1, by omega, by go_num, HB3.out, HFIN.out⟩
        case measure => simp [intOf]; omega
    · obtain rfl : i = n := by omega
      have HFIN := zH (show rowE l r = 0 from jj0 (by rw [HQ.out, ← HV.out, zL (by rw [HZL.out]; exact Nat.le_refl _)]))
      go_wp2_with fail
      go_ret
      exact ⟨by rw [HFIN.out]; rfl, HB.out⟩
 · have e1 : rowB l r = false := by unfold rowB; rw [decide_eq_false (by rw [← HL.out, ← HL2.out]; exact hnn)]; rfl
   have HFIN := zH (qzA e1)
   have c1 := jjZ (a := (n : Int)) (b := (n2 : Int)) (by omega)
   clear hnn e1
   go_enter Tryz.func53, Tryz.ntmps53
   go_wp2_with fail
   go_ret
   exact ⟨by rw [HFIN.out]; rfl, zR⟩
end
section
open Go Go.RowKit
theorem zqw (k : Int) (kb : Nat) (d : VV) (hd : d.ok) (r : Bool) (hr : r = !mayV k d) (w : World) (hk : w.cell? ⟨kb, 0, none⟩ = some (.int .i64 k)) (hT : Lib.Utf8Tabs 0 1 w) :
 Calls Tryz.prog 40 #[.agg #[.bool d.null, .int .i64 d.n, .string d.s], .pointer (some ⟨kb, 0, none⟩)] w fun e w' => e = .returned (.bool r) ∧ Below w.heap.size w w' := by
 have HB0 := zH (show Below w.heap.size w (w.alloc (.cells #[.bool d.null, .int .i64 d.n, .string d.s] 74)) from (zR).alloc zN _)
 have hk0 := zzh HB0.out hk
 have HT := zH (zze hT HB0.out); have HD := zH hd; have HR := zH hr
 clear hT hd hr hk
 go_enter Tryz.func40, Tryz.ntmps40
 go_wp2_with (first
  | (go_at_call 41; refine (jjY k d HD.out _ HT.out).mono ?_; rintro e w1 ⟨rfl, hb1⟩; have HB1 := zH hb1; clear hb1)
  | fail)
 go_ret
 exact ⟨by rw [HR.out]; rfl, HB0.out.trans (HB1.out.mono HB0.out.size)⟩
theorem idxm_any (k : Int) (kb : Nat) (F : Nat → Prop) (A : Option Addr) (n c : Nat) (l : List VV) (w : World) (h : Sl tVV F w A n c l) (hcl : w.cell? ⟨kb, 0, none⟩ = some (.int .i64 k)) (hT : Lib.Utf8Tabs 0 1 w) :
 Calls Tryz.prog 86 #[.slice A n c, .func (.func 40) #[] #[.pointer (some ⟨kb, 0, none⟩)]] w (IdxPost (mayV k) l w) := by
 have HL := zH h.len
 have HC := zH hcl; have HT := zH hT
 have hmax : n ≤ 9223372036854775807 := by have h2 := h.2.1; have h3 := h.2.2.1; unfold maxLen at h3; omega
 clear hcl hT
 go_enter Tryz.func86, Tryz.ntmps86
 go_wp2_with fail
 go_loopw [8] (fun i wr => ∃ j : Nat, j ≤ n ∧ i = .int .i64 j ∧ Below w.heap.size w wr ∧ Hid (∀ x ∈ l.take j, mayV k x = true)) (fun i _ => n - (intOf i).toNat)
 case atStart => exact ⟨0, Nat.zero_le _, rfl, zR, zH (by simp)⟩
 case round =>
  obtain ⟨j, hj, rfl, hb, HA⟩ := hrel
  have g := h.below hb zN
  have HB := zH hb
  have HCR := zH (zzh hb HC.out); have HTR := zH (zze HT.out hb)
  have hsz := hb.size
  clear hb
  by_cases hlt : j < n
  · have hjl : j < l.length := by rw [← HL.out]; exact hlt
    obtain ⟨d, hd⟩ : ∃ d, d = l[j] := ⟨_, rfl⟩
    obtain ⟨b, o, u, rfl, _, hbl, hu, hc⟩ := g.at_ hjl (by decide)
    rw [← hd] at hu
    obtain ⟨rfl, hdk⟩ := hu
    have HDK := zH hdk; clear hdk
    obtain ⟨c0, c1, c2⟩ := xxj hc
    obtain ⟨r, hr⟩ : ∃ r, r = !mayV k d := ⟨_, rfl⟩
    have HD := zH hd; have HR := zH hr
    clear g hc hd hr
    have hi1 : (0 : Int) ≤ (j : Int) := by omega
    have hi2 : (j : Int) < (n : Int) := by omega
    cases r with
    | true =>
      have HF : Hid (xxw (mayV k) l (j : Int)) := zH (.inr ⟨j, rfl, hjl, HA.out, by rw [← HD.out]; have := HR.out; simpa using this⟩)
      go_wp2_with (first
       | (go_at_call 40; refine (zqw k kb d HDK.out true HR.out _ HCR.out HTR.out).mono ?_; rintro e w1 ⟨rfl, hb1⟩; have HB1 := zH (HB.out.trans (hb1.mono hsz)); clear hb1)
       | fail)
      go_ret
      exact ⟨_, rfl, HF.out, HB1.out⟩
    | false =>
      have HN : Hid (∀ x ∈ l.take (j + 1), mayV k x = true) := zH (by
       intro x hx
       rw [zT hjl, List.mem_append, List.mem_singleton] at hx
       rcases hx with hx | rfl
       · exact HA.out x hx
       · rw [← HD.out]; have := HR.out; simpa using this)
      go_wp2_with (first
       | (go_at_call 40; refine (zqw k kb d HDK.out false HR.out _ HCR.out HTR.out).mono ?_; rintro e w1 ⟨rfl, hb1⟩; have HB1 := zH (HB.out.trans (hb1.mono hsz)); clear hb1)
       | fail)
      go_roundw
      case rel => exact ⟨j + 1, by omega, by go_num, HB1.out, HN⟩
      case measure => simp [intOf]; omega
  · obtain rfl : j = n := by omega
    have HF : Hid (xxw (mayV k) l (-1)) := zH (.inl ⟨rfl, by
     have := HA.out
     rwa [zL (by rw [← HL.out]; exact Nat.le_refl _)] at this⟩)
    go_wp2_with fail
    go_ret
    exact ⟨_, rfl, HF.out, HB.out⟩
theorem uuL (k : Int) (kb : Nat) (F : Nat → Prop) (A : Option Addr) (n c : Nat) (l : List VV) (w : World) (h : Sl tVV F w A n c l) (hcl : w.cell? ⟨kb, 0, none⟩ = some (.int .i64 k)) (hT : Lib.Utf8Tabs 0 1 w) :
 Calls Tryz.prog 39 #[.slice A n c, .func (.func 40) #[] #[.pointer (some ⟨kb, 0, none⟩)]] w fun e w' => e = .returned (.bool (!l.all (mayV k))) ∧ Below w.heap.size w w' := by
 have H := zH h; have HC := zH hcl; have HT := zH hT
 clear h hcl hT
 go_enter Tryz.func39, Tryz.ntmps39
 go_wp2_with (first
  | (go_at_call 86; refine (idxm_any k kb F A n c l _ H.out HC.out HT.out).mono ?_; rintro e w1 ⟨r, rfl, hr, hb1⟩; have HR := zH hr; have HB1 := zH hb1; clear hr hb1)
  | fail)
 go_ret
 refine ⟨?_, HB1.out⟩
 have e1 : decide (0 ≤ r) = !l.all (mayV k) := by
  rcases HR.out with ⟨rfl, h1⟩ | ⟨i, rfl, hi, _, h1⟩
  · rw [List.all_eq_true.2 h1]; rfl
  · have : l.all (mayV k) = false := by
     rw [List.all_eq_false]
     exact ⟨_, List.getElem_mem hi, by rw [h1]; simp⟩
    rw [this]; simp
 rw [← e1]
 first | rfl | simp
end
section
open Go Go.RowKit
def ltS (a b : ByteArray) : Bool := Op.bytesLess a.toList b.toList
theorem bne_y {a b : Int} (h : ¬ a = b) : (a != b) = true := by simpa using h
def scmp (a b : ByteArray) : Int := if ltS a b then -1 else if ltS b a then 1 else 0
def icmp (a b : Int) : Int := if a < b then -1 else if b < a then 1 else 0
def vcmp (a b : VV) : Int := if a.null && !b.null then -1 else if b.null && !a.null then 1 else if icmp a.n b.n = 0 then scmp a.s b.s else icmp a.n b.n
def uuS : VV := ⟨true, 0, ⟨#[]⟩⟩
structure SS where
 count : Int
 hasNull : Bool
 min : VV
 max : VV
 sum : Int
 over : Bool
structure S0 where
 count : Nat
 hasNull : Bool
 min : VV
 max : VV
def S0.zero : S0 := ⟨0, false, uuS, uuS⟩
def vvP (s : S0) (v : VV) : S0 :=
 if v.null then ⟨s.count, true, s.min, s.max⟩ else ⟨s.count + 1, s.hasNull, if s.min.null || decide (vcmp v s.min < 0) then v else s.min, if s.max.null || decide (0 < vcmp v s.max) then v else s.max⟩
def s0Of (l : List VV) : S0 := l.foldl vvP S0.zero
theorem uuT (l : List VV) (v : VV) : s0Of (l ++ [v]) = vvP (s0Of l) v := by unfold s0Of; rw [List.foldl_append]; rfl
def sumV (l : List VV) : Int := ((l.filter zzw).map (·.n)).foldl (· + ·) 0
theorem kqO (l : List VV) (v : VV) : sumV (l ++ [v]) = if v.null then sumV l else sumV l + v.n := by
 unfold sumV
 rw [List.filter_append]
 cases h : v.null
 · rw [List.filter_cons_of_pos (by unfold zzw; rw [h]; rfl), List.filter_nil, List.map_append, List.foldl_append]
   simp
 · rw [List.filter_cons_of_neg (by unfold zzw; rw [h]; decide), List.filter_nil, List.append_nil]
   simp
def vvL (x : Int) : Bool := decide (-9223372036854775808 ≤ x ∧ x ≤ 9223372036854775807)
def zzT (k : Int) (l : List VV) : SS :=
 ⟨(s0Of l).count, (s0Of l).hasNull, (s0Of l).min, (s0Of l).max, if decide (1 ≤ k ∧ k ≤ 5) && vvL (sumV l) then sumV l else 0, decide (1 ≤ k ∧ k ≤ 5) && !vvL (sumV l)⟩
theorem qxw (l : List VV) (v : VV) : (s0Of (l ++ [v])).count = (s0Of l).count + (if v.null then 0 else 1) := by
 rw [uuT]; unfold vvP; split <;> simp_all
theorem zqD (l : List VV) : (s0Of l).count ≤ l.length := by
 suffices h : ∀ r : List VV, (s0Of r.reverse).count ≤ r.length by
  have := h l.reverse; rwa [List.reverse_reverse, List.length_reverse] at this
 intro r
 induction r with
 | nil => exact Nat.le_refl _
 | cons v r ih => rw [List.reverse_cons, qxw, List.length_cons]; split <;> omega
theorem s0_mem (l : List VV) : ((s0Of l).min = uuS ∨ (s0Of l).min ∈ l) ∧ ((s0Of l).max = uuS ∨ (s0Of l).max ∈ l) := by
 suffices h : ∀ r : List VV, ((s0Of r.reverse).min = uuS ∨ (s0Of r.reverse).min ∈ r) ∧ ((s0Of r.reverse).max = uuS ∨ (s0Of r.reverse).max ∈ r) by
  have := h l.reverse; rwa [List.reverse_reverse, List.mem_reverse, List.mem_reverse] at this
 intro r
 induction r with
 | nil => exact ⟨.inl rfl, .inl rfl⟩
 | cons v r ih =>
   rw [List.reverse_cons, uuT]
   obtain ⟨i1, i2⟩ := ih
   have j1 : (s0Of r.reverse).min = uuS ∨ (s0Of r.reverse).min ∈ v :: r := i1.imp id (List.mem_cons_of_mem _)
   have j2 : (s0Of r.reverse).max = uuS ∨ (s0Of r.reverse).max ∈ v :: r := i2.imp id (List.mem_cons_of_mem _)
   generalize s0Of r.reverse = s at j1 j2 ⊢
   unfold vvP
   split
   · exact ⟨j1, j2⟩
   · constructor
     · simp only; split
       · exact .inr (List.mem_cons_self ..)
       · exact j1
     · simp only; split
       · exact .inr (List.mem_cons_self ..)
       · exact j2
end
section
open Go Go.RowKit
theorem str_no {a b : ByteArray} (h : ¬ a = b) : (a.toList == b.toList) = false ∧ ¬ a.toList = b.toList ∧ decide (a = b) = false := by
 have h1 : ¬ a.toList = b.toList := by
  rw [ByteArray.toList_eq, ByteArray.toList_eq]
  intro e; exact h (vvH e)
 exact ⟨by simpa using h1, h1, decide_eq_false h⟩
end
end Go.Proofs.YtpmglcachffojaaGreatDoor
