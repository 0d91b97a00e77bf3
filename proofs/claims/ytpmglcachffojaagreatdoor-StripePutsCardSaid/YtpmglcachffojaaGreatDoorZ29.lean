/- A part of what Puts leans on. -/
import Derived.Test.YtpmglcachffojaaGreatDoorZ26
set_option maxRecDepth 100000
set_option maxHeartbeats 16000000
namespace Go.Proofs.YtpmglcachffojaaGreatDoor
section
open Go Go.RowKit
def nmI (c : Int) : Bool := decide (97 ≤ c ∧ c ≤ 122 ∨ 48 ≤ c ∧ c ≤ 57 ∨ c = 95)
def nmU (b : UInt8) : Bool := nmI (b.toNat : Int)
def nmS (s : ByteArray) : Bool := s.data.toList.all nmU && decide (¬ s.size = 0 ∧ s.size ≤ 20)
theorem kql (c : Int) (w : World) : Calls Tryz.prog 174 #[.int .i32 c] w fun e w' => e = .returned (.bool (nmI c)) ∧ w = w' := by
 obtain ⟨q, hq⟩ : ∃ q, q = nmI c := ⟨_, rfl⟩
 rw [← hq]
 unfold nmI at hq
 by_cases h1 : 97 ≤ c
 · have h1' : c ≥ 97 := h1
   have h5 : c ≥ 48 := by omega
   have h5' : 48 ≤ c := h5
   have h6 : ¬ c ≤ 57 := by omega
   have h7 : ¬ c = 95 := by omega
   by_cases h2 : c ≤ 122
   · obtain rfl : q = true := hq.trans (decide_eq_true (.inl ⟨h1, h2⟩))
     clear hq
     go_enter Tryz.func174, Tryz.ntmps174
     go_wp2_with fail
     go_ret
     exact ⟨rfl, rfl⟩
   · obtain rfl : q = false := hq.trans (decide_eq_false (by omega))
     have h8 := zzv h7
     clear hq
     go_enter Tryz.func174, Tryz.ntmps174
     go_wp2_with fail
     go_ret
     exact ⟨rfl, rfl⟩
 · have h1' : ¬ c ≥ 97 := h1
   by_cases h3 : c = 95
   · subst h3
     obtain rfl : q = true := hq.trans (by decide)
     clear hq
     go_enter Tryz.func174, Tryz.ntmps174
     go_wp2_with fail
     go_ret
     exact ⟨rfl, rfl⟩
   · have h8 := zzv h3
     by_cases h4 : 48 ≤ c
     · have h4' : c ≥ 48 := h4
       by_cases h5 : c ≤ 57
       · obtain rfl : q = true := hq.trans (decide_eq_true (by omega))
         clear hq
         go_enter Tryz.func174, Tryz.ntmps174
         go_wp2_with fail
         go_ret
         exact ⟨rfl, rfl⟩
       · obtain rfl : q = false := hq.trans (decide_eq_false (by omega))
         clear hq
         go_enter Tryz.func174, Tryz.ntmps174
         go_wp2_with fail
         go_ret
         exact ⟨rfl, rfl⟩
     · have h4' : ¬ c ≥ 48 := h4
       obtain rfl : q = false := hq.trans (decide_eq_false (by omega))
       clear hq
       go_enter Tryz.func174, Tryz.ntmps174
       go_wp2_with fail
       go_ret
       exact ⟨rfl, rfl⟩
theorem qxj {l : List UInt8} {p : Nat} (hp : p < l.length) {b : UInt8} (hb : b = l[p]) : (l.take (p + 1)).all nmU = ((l.take p).all nmU && nmU b) := by
 rw [zT hp, List.all_append, ← hb]; simp
theorem all_no {l : List UInt8} {p : Nat} (hp : p < l.length) {b : UInt8} (hb : b = l[p]) (h : nmU b = false) : l.all nmU = false := by
 rw [List.all_eq_false]
 exact ⟨b, hb ▸ List.getElem_mem hp, by rw [h]; decide⟩
theorem nm_high {c : Int} (h : 128 ≤ c) : nmI c = false := decide_eq_false (by omega)
theorem xxf (s : ByteArray) (hs : s.size ≤ maxLen) (w : World) :
 Calls Tryz.prog 110 #[.string s] w fun e w' => e = .returned (.bool (nmS s)) ∧ Below w.heap.size w w' := by
 obtain ⟨l, hl⟩ : ∃ l, l = s.data.toList := ⟨_, rfl⟩
 have HL := zH hl; have HS := zH hs
 obtain ⟨k, hk⟩ : ∃ k, k = w.heap.size := ⟨_, rfl⟩
 have HK := zH hk
 have hls : l.length = s.size := by rw [hl, Array.length_toList]; rfl
 have HLS := zH hls
 have HQ := zH (show nmS s = (l.all nmU && decide (¬ s.size = 0 ∧ s.size ≤ 20)) by unfold nmS; rw [hl])
 clear hl hs hls
 go_enter Tryz.func110, Tryz.ntmps110
 go_wp2_with fail
 rw [← hk]
 clear hk
 go_loopw [8] (fun _ wr => ∃ pos : Nat, pos ≤ s.size ∧ wr.heap[k]? = some (.stringIter s pos) ∧ Below w.heap.size w wr ∧ (l.take pos).all nmU = true)
  (fun _ wr => s.size - wr.iterPos k)
 case atStart => exact ⟨0, Nat.zero_le _, by rw [HK.out]; exact heap_alloc_new w _, (zR).alloc zN _, by rw [List.take_zero]; rfl⟩
 case round =>
  obtain ⟨pos, hpos, hit, hb, hv⟩ := hrel
  have HIT := zH hit; have HB := zH hb; have HV := zH hv
  have hip : wr.iterPos k = pos := by unfold World.iterPos; rw [hit]
  have HIP := zH hip
  clear hb hv hip
  by_cases hlt : pos < s.size
  · have hn := fun ty => Lib.run_next_any_at (P := Tryz.prog) wr k s pos ty hit hlt
    obtain ⟨r, hr⟩ : ∃ r, r = (Utf8.decode s pos).1 := ⟨_, rfl⟩
    obtain ⟨d, hd⟩ : ∃ d, d = (Utf8.decode s pos).2 := ⟨_, rfl⟩
    rw [← hr, ← hd] at hn
    have hlp : pos < l.length := by rw [HLS.out]; exact hlt
    obtain ⟨b, hb⟩ : ∃ b, b = l[pos] := ⟨_, rfl⟩
    have hsb : s[pos]'hlt = b := by rw [hb]; have := HL.out; subst this; rfl
    obtain ⟨w2, hw2⟩ : ∃ w2, w2 = wr.iterAt k s (pos + d) := ⟨_, rfl⟩
    rw [← hw2] at hn
    have hit2 : w2.heap[k]? = some (.stringIter s (pos + d)) := by rw [hw2]; exact Lib.iterAt_heap wr k s pos _ hit
    have hb2 : Below w.heap.size w w2 := by rw [hw2]; exact Lib.below_iterAt HB.out (by rw [HK.out]; exact Nat.le_refl _) s _
    have HIT2 := zH hit2; have HB2 := zH hb2
    have hip2 : w2.iterPos k = pos + d := by unfold World.iterPos; rw [hit2]
    have HIP2 := zH hip2
    have HSB := zH hsb; have HBL := zH hb; have HR := zH hr; have HD := zH hd
    clear hw2 hit hit2 hb2 hip2 hsb hb hr hd
    cases hnb : nmU b with
    | true =>
      have HNB := zH hnb
      have hb8 : b.toNat < 128 := by
       rcases Nat.lt_or_ge b.toNat 128 with h | h
       · exact h
       · unfold nmU at hnb; rw [nm_high (by omega)] at hnb; cases hnb
      have hdec := decode_ascii s pos hlt (by rw [HSB.out]; exact hb8)
      rw [HSB.out] at hdec
      have HR2 := zH (show r = b.toNat by rw [HR.out, hdec])
      have HD2 := zH (show d = 1 by rw [HD.out, hdec])
      have HNR := zH (show nmI (r : Int) = true by rw [HR2.out]; exact hnb)
      clear hnb hdec hb8
      go_wp2_with (first
       | (go_at_call 174; refine (kql (r : Int) _).mono ?_; rintro e w3 ⟨rfl, rfl⟩; rw [HNR.out])
       | fail)
      go_roundw
      case rel => exact ⟨pos + d, by rw [HD2.out]; omega, HIT2.out, HB2.out, by rw [HD2.out, qxj hlp HBL.out, HNB.out]; exact (Bool.and_true _).trans HV.out⟩
      case measure => rw [HIP2.out, HIP.out]; have := HD2.out; omega
    | false =>
      have HFIN := zH (show nmS s = false by rw [HQ.out, all_no hlp HBL.out hnb]; rfl)
      have HNR := zH (show nmI (r : Int) = false by
       rcases Nat.lt_or_ge b.toNat 128 with h | h
       · have hdec := decode_ascii s pos hlt (by rw [HSB.out]; exact h)
         rw [HSB.out] at hdec
         rw [HR.out, hdec]; exact hnb
       · have hdec := decode_high s pos hlt (by rw [HSB.out]; exact h)
         rw [← HR.out] at hdec
         exact nm_high (by omega))
      clear hnb
      go_wp2_with (first
       | (go_at_call 174; refine (kql (r : Int) _).mono ?_; rintro e w3 ⟨rfl, rfl⟩; rw [HNR.out])
       | fail)
      go_ret
      exact ⟨by rw [HFIN.out]; rfl, HB2.out⟩
  · have hn := fun ty => Lib.run_next_end_at (P := Tryz.prog) wr k s pos ty hit hlt
    have hall : l.all nmU = true := by rw [← HV.out, zL (by rw [HLS.out]; omega)]
    obtain ⟨q, hq⟩ : ∃ q, q = nmS s := ⟨_, rfl⟩
    have HFQ := zH hq
    rw [HQ.out, hall, Bool.true_and] at hq
    clear hit hall
    by_cases h0 : s.size = 0
    · obtain rfl : q = false := hq.trans (decide_eq_false (fun h => h.1 h0))
      obtain rfl := (xxC s).2 h0
      clear hq h0
      go_wp2_with fail
      go_ret
      exact ⟨by rw [← HFQ.out]; rfl, HB.out⟩
    · obtain ⟨a1, a2, a3, a4, a5⟩ := kqk h0
      by_cases h20 : s.size ≤ 20
      · obtain rfl : q = true := hq.trans (decide_eq_true ⟨h0, h20⟩)
        have h20' : (s.size : Int) ≤ 20 := by omega
        clear hq h0 h20
        go_wp2_with fail
        go_ret
        exact ⟨by rw [← HFQ.out]; rfl, HB.out⟩
      · obtain rfl : q = false := hq.trans (decide_eq_false (fun h => h20 h.2))
        have h20' : ¬ (s.size : Int) ≤ 20 := by omega
        clear hq h0 h20
        go_wp2_with fail
        go_ret
        exact ⟨by rw [← HFQ.out]; rfl, HB.out⟩
theorem run_ixS (s : ByteArray) (j : Nat) (hj : j < s.data.toList.length) (x : UInt8) (hx : x = s.data.toList[j]) (w : World) : (Instr.index 9 (.string s) (.int .i64 (j : Int))).run Tryz.prog w = .ok (.int .u8 (x.toNat : Int)) w := by
 rw [run_index_string w 9 s .i64 j (by kernel_rfl)]
 have h : 0 ≤ (j : Int) ∧ (j : Int) < (s.size : Nat) := ⟨by omega, by rw [Array.length_toList] at hj; show (j : Int) < (s.data.size : Int); omega⟩
 rw [dif_pos h]
 subst hx
 rfl
theorem vvX (s : ByteArray) (hs : s.size ≤ maxLen) (w : World) :
 Calls Tryz.prog 113 #[.string s] w fun e w' => e = .returned (.bool (nmS s)) ∧ w = w' := by
 obtain ⟨l, hl⟩ : ∃ l, l = s.data.toList := ⟨_, rfl⟩
 have HL := zH hl; have HS := zH (show s.size ≤ 9223372036854775807 by unfold maxLen at hs; omega)
 have hls : l.length = s.size := by rw [hl, Array.length_toList]; rfl
 have HLS := zH hls
 have HQ := zH (show nmS s = (l.all nmU && decide (¬ s.size = 0 ∧ s.size ≤ 20)) by unfold nmS; rw [hl])
 clear hl hs hls
 go_enter Tryz.func113, Tryz.ntmps113
 go_wp2_with fail
 go_loopw [3] (fun iv wr => ∃ pos : Nat, pos ≤ s.size ∧ iv = .int .i64 (pos : Int) ∧ wr = w ∧ (l.take pos).all nmU = true)
  (fun iv _ => s.size - (intOf iv).toNat)
 case atStart => exact ⟨0, Nat.zero_le _, rfl, rfl, by rw [List.take_zero]; rfl⟩
 case round =>
  obtain ⟨pos, hpos, rfl, rfl, hv⟩ := hrel
  have HV := zH hv
  clear hv
  by_cases hlt : pos < s.size
  · have hlp : pos < l.length := by rw [HLS.out]; exact hlt
    obtain ⟨b, hb⟩ : ∃ b, b = l[pos] := ⟨_, rfl⟩
    have HBL := zH hb
    have hix := run_ixS s pos (by rw [← HL.out]; exact hlp) b (by rw [hb]; have := HL.out; subst this; rfl)
    have hi1 : (pos : Int) < (s.size : Int) := by omega
    have hp63 : (pos : Int) < 9223372036854775807 := by have := HS.out; omega
    clear hb
    cases hnb : nmU b with
    | true =>
      have HNB := zH hnb
      have hc : 97 ≤ (b.toNat : Int) ∧ (b.toNat : Int) ≤ 122 ∨ 48 ≤ (b.toNat : Int) ∧ (b.toNat : Int) ≤ 57 ∨ (b.toNat : Int) = 95 := by unfold nmU nmI at hnb; simpa using hnb
      have hrel : ∃ p : Nat, p ≤ s.size ∧ Value.int .i64 ((pos : Int) + 1) = .int .i64 (p : Int) ∧ True ∧ (l.take p).all nmU = true := ⟨pos + 1, by omega, rfl, trivial, by rw [qxj hlp HBL.out, HNB.out]; exact (Bool.and_true _).trans HV.out⟩
      have HREL := zH hrel
      clear hnb hrel
      by_cases c1 : (b.toNat : Int) < 97
      · by_cases c2 : (b.toNat : Int) = 95
        · have c3 : ¬ (b.toNat : Int) < 48 := by omega
          have c4 : ¬ (b.toNat : Int) > 122 := by omega
          have c5 : (b.toNat : Int) > 57 := by omega
          have c6 := bnei_no c2
          clear hc
          go_wp2_with fail
          go_roundw
          case rel => exact HREL.out
          case measure => simp [intOf]; omega
        · have c3 : ¬ (b.toNat : Int) < 48 := by omega
          have c5 : ¬ (b.toNat : Int) > 57 := by omega
          clear hc
          go_wp2_with fail
          go_roundw
          case rel => exact HREL.out
          case measure => simp [intOf]; omega
      · have c4 : ¬ (b.toNat : Int) > 122 := by omega
        clear hc
        go_wp2_with fail
        go_roundw
        case rel => exact HREL.out
        case measure => simp [intOf]; omega
    | false =>
      have HFIN := zH (show nmS s = false by rw [HQ.out, all_no hlp HBL.out hnb]; rfl)
      have hc : ¬ (97 ≤ (b.toNat : Int) ∧ (b.toNat : Int) ≤ 122 ∨ 48 ≤ (b.toNat : Int) ∧ (b.toNat : Int) ≤ 57 ∨ (b.toNat : Int) = 95) := by unfold nmU nmI at hnb; simpa using hnb
      have c2 := vvb (a := (b.toNat : Int)) (b := 95) (by omega)
      clear hnb
      by_cases c1 : (b.toNat : Int) < 97
      · by_cases c3 : (b.toNat : Int) < 48
        · clear hc
          go_wp2_with fail
          go_ret
          exact ⟨by rw [HFIN.out]; rfl, rfl⟩
        · have c4 : (b.toNat : Int) > 57 := by omega
          clear hc
          go_wp2_with fail
          go_ret
          exact ⟨by rw [HFIN.out]; rfl, rfl⟩
      · have c3 : (b.toNat : Int) > 122 := by omega
        have c4 : ¬ (b.toNat : Int) < 48 := by omega
        have c5 : (b.toNat : Int) > 57 := by omega
        clear hc
        go_wp2_with fail
        go_ret
        exact ⟨by rw [HFIN.out]; rfl, rfl⟩
  · have hge : ¬ (pos : Int) < (s.size : Int) := by omega
    have hall : l.all nmU = true := by rw [← HV.out, zL (by rw [HLS.out]; omega)]
    obtain ⟨q, hq⟩ : ∃ q, q = nmS s := ⟨_, rfl⟩
    have HFQ := zH hq
    rw [HQ.out, hall, Bool.true_and] at hq
    clear hall
    by_cases h0 : s.size = 0
    · obtain rfl : q = false := hq.trans (decide_eq_false (fun h => h.1 h0))
      obtain rfl := (xxC s).2 h0
      clear hq h0
      go_wp2_with fail
      go_ret
      exact ⟨by rw [← HFQ.out]; rfl, rfl⟩
    · obtain ⟨a1, a2, a3, a4, a5⟩ := kqk h0
      by_cases h20 : s.size ≤ 20
      · obtain rfl : q = true := hq.trans (decide_eq_true ⟨h0, h20⟩)
        have h20' : (s.size : Int) ≤ 20 := by omega
        clear hq h0 h20
        go_wp2_with fail
        go_ret
        exact ⟨by rw [← HFQ.out]; rfl, rfl⟩
      · obtain rfl : q = false := hq.trans (decide_eq_false (fun h => h20 h.2))
        have h20' : ¬ (s.size : Int) ≤ 20 := by omega
        clear hq h0 h20
        go_wp2_with fail
        go_ret
        exact ⟨by rw [← HFQ.out]; rfl, rfl⟩
end
section
open Go Go.RowKit
def tCol : Ty (ByteArray × Int) := tStr.prod tI64
theorem yys {F : Nat → Prop} {w : World} {cs : List Value} {x : ByteArray × Int} (h : tCol.rep F w cs x) : cs = [.string x.1, .int .i64 x.2] ∧ x.1.size ≤ maxLen ∧ -9223372036854775808 ≤ x.2 ∧ x.2 ≤ 9223372036854775807 := by
 obtain ⟨c1, c2, rfl, ⟨rfl, h1⟩, rfl, h2⟩ := h
 exact ⟨rfl, h1, h2⟩
def rowB (l : List (ByteArray × Int)) (r : List VV) : Bool := decide (l.length = r.length) && (l.zip r).all fun p => mayV p.1.2 p.2
def rowE (l : List (ByteArray × Int)) (r : List VV) : Int := if rowB l r then 0 else 21
theorem vvc {l : List (ByteArray × Int)} {r : List VV} (h : rowB l r = true) : rowE l r = 0 := if_pos h
theorem uur {l : List (ByteArray × Int)} {r : List VV} (h : rowB l r = false) : rowE l r = 21 := if_neg (by rw [h]; decide)
theorem yyJ {α : Type} {p : α → Bool} {l : List α} {i : Nat} (hi : i < l.length) {b : α} (hb : b = l[i]) : (l.take (i + 1)).all p = ((l.take i).all p && p b) := by
 rw [zT hi, List.all_append, ← hb]; simp
theorem all_not {α : Type} {p : α → Bool} {l : List α} {i : Nat} (hi : i < l.length) {b : α} (hb : b = l[i]) (h : p b = false) : l.all p = false := by
 rw [List.all_eq_false]
 exact ⟨b, hb ▸ List.getElem_mem hi, by rw [h]; decide⟩
theorem zqz (F F2 : Nat → Prop) (A A2 : Option Addr) (n c n2 c2 : Nat) (l : List (ByteArray × Int)) (r : List VV) (w : World) (h : Sl tCol F w A n c l) (h2 : Sl tVV F2 w A2 n2 c2 r) (hn : n ≤ 4096) (hT : Lib.Utf8Tabs 0 1 w) :
 Calls Tryz.prog 53 #[.slice A n c, .slice A2 n2 c2] w fun e w' => e = .returned (.int .i64 (rowE l r)) ∧ Below w.heap.size w w' := by
 have HH := zH h; have HH2 := zH h2; have HL := zH h.len; have HL2 := zH h2.len; have HT := zH hT
 have HN := zH hn
 clear h h2 hT hn
 by_cases hnn : n = n2
 · subst hnn
   obtain ⟨z, hz⟩ : ∃ z, z = l.zip r := ⟨_, rfl⟩
   have HZ := zH hz
   have hzl : z.length = n := by rw [hz, List.length_zip, ← HL.out, ← HL2.out, Nat.min_self]
   have HZL := zH hzl
   have HQ := zH (show rowB l r = z.all fun p => mayV p.1.2 p.2 by unfold rowB; rw [hz, decide_eq_true (show l.length = r.length by rw [← HL.out, ← HL2.out]), Bool.true_and])
   clear hz hzl
   go_enter Tryz.func53, Tryz.ntmps53
   go_wp2_with fail
   go_loopw [14] (fun iv wr => ∃ i : Nat, i ≤ n ∧ iv = .int .i64 (i : Int) ∧ Below w.heap.size w wr ∧ (z.take i).all (fun p => mayV p.1.2 p.2) = true) (fun iv _ => n - (intOf iv).toNat)
   case atStart => exact ⟨0, Nat.zero_le _, rfl, zR, by rw [List.take_zero]; rfl⟩
   case round =>
    obtain ⟨i, hi, rfl, hb, hv⟩ := hrel
    have HB := zH hb; have HV := zH hv
    clear hb hv
    by_cases hlt : i < n
    · have hil : i < l.length := by rw [← HL.out]; exact hlt
      have hir : i < r.length := by rw [← HL2.out]; exact hlt
      have hiz : i < z.length := by rw [HZL.out]; exact hlt
      obtain ⟨b, o, cs, rfl, _, _, hrep, hc⟩ := (HH.out.below HB.out zN).at_ hil (by decide)
      obtain ⟨b2, o2, cs2, rfl, _, hbl2, hrep2, hc2⟩ := (HH2.out.below HB.out zN).at_ hir (by decide)
      obtain ⟨x, hx⟩ : ∃ x, x = l[i] := ⟨_, rfl⟩
      obtain ⟨v, hvv⟩ : ∃ v, v = r[i] := ⟨_, rfl⟩
      have HZI := zH (show (x, v) = z[i] by have := HZ.out; subst this; rw [hx, hvv, List.getElem_zip])
      rw [← hx] at hrep
      obtain ⟨rfl, hx1, hx2, hx3⟩ := yys hrep
      obtain ⟨rfl, hok⟩ := hrep2
      rw [← hvv] at hc2 hok
      obtain ⟨nm, kd⟩ := x
      obtain ⟨g0, g1⟩ := xxN hc
      obtain ⟨y0, y1, y2⟩ := zzR hc2
      have g0 : _ = some (Value.string nm) := g0
      have g1 : _ = some (Value.int .i64 kd) := g1
      have HOK := zH hok
      have i0 : (0 : Int) ≤ (i : Int) := by omega
      have i1 : (i : Int) < (n : Int) := by omega
      have i2 : (i : Int) ≤ 4096 := by have := HN.out; omega
      obtain ⟨q, hq⟩ : ∃ q, q = mayV kd v := ⟨_, rfl⟩
      have HQV := zH hq
      clear hc hc2 hx hvv hrep hok hx1 hx2 hx3 hq
      go_upto_region 6 with fail
      obtain ⟨w2, hw2⟩ : ∃ w2, w2 = wr.alloc (.cells #[.string nm, .int .i64 kd] 93) := ⟨_, rfl⟩
      rw [← hw2]
      have k1 : w2.cell? ⟨wr.heap.size, 1, none⟩ = some (.int .i64 kd) := by rw [hw2]; exact by rw [zC (heap_alloc_new wr _)]; rfl
      have kb : Below wr.heap.size wr w2 := by rw [hw2]; exact (zR).alloc zN _
      have m0 := zze kb y0; have m1 := zze kb y1; have m2 := zze kb y2
      have HB2 := zH (HB.out.trans (kb.mono HB.out.size))
      have HBL := zH hbl2
      clear g0 g1 y0 y1 y2 kb hw2 hbl2
      cases q
      · have HFIN := zH (show rowE l r = 21 from uur (by rw [HQ.out]; exact all_not hiz HZI.out HQV.out.symm))
        go_wp2_with fail
        go_region_held3 (fun w' => w'.cell? ⟨wr.heap.size, 1, none⟩ = some (.int .i64 kd) ∧ w'.cell? ⟨b2, o2 + i * 3, none⟩ = some (.bool v.null) ∧ w'.cell? ⟨b2, o2 + i * 3 + 1, none⟩ = some (.int .i64 v.n) ∧ w'.cell? ⟨b2, o2 + i * 3 + 2, none⟩ = some (.string v.s))
         (first | go_keep | (go_split_ands; refine ⟨?_, ?_, ?_, ?_⟩ <;> exact zze (by assumption) (by assumption)))
         (first
           | (go_at_call 41; refine (kqX kd v HOK.out _ (zzc HT.out (zzA HB2.out _))).mono ?_; rintro e w3 ⟨rfl, hb3⟩; rw [← HQV.out]))
        have HB3 := zH ((zzA HB2.out 1).trans (hb3.mono (zzA HB2.out 1).size))
        go_wp2_with fail
        go_ret
        exact ⟨by rw [HFIN.out]; rfl, HB3.out⟩
      · have HFIN := zH (show (z.take (i + 1)).all (fun p => mayV p.1.2 p.2) = true by rw [yyJ hiz HZI.out, HV.out]; exact HQV.out.symm)
        go_wp2_with fail
        go_region_held3 (fun w' => w'.cell? ⟨wr.heap.size, 1, none⟩ = some (.int .i64 kd) ∧ w'.cell? ⟨b2, o2 + i * 3, none⟩ = some (.bool v.null) ∧ w'.cell? ⟨b2, o2 + i * 3 + 1, none⟩ = some (.int .i64 v.n) ∧ w'.cell? ⟨b2, o2 + i * 3 + 2, none⟩ = some (.string v.s))
         (first | go_keep | (go_split_ands; refine ⟨?_, ?_, ?_, ?_⟩ <;> exact zze (by assumption) (by assumption)))
         (first
           | (go_at_call 41; refine (kqX kd v HOK.out _ (zzc HT.out (zzA HB2.out _))).mono ?_; rintro e w3 ⟨rfl, hb3⟩; rw [← HQV.out]))
        have HB3 := zH ((zzA HB2.out 1).trans (hb3.mono (zzA HB2.out 1).size))
        go_wp2_with fail
        go_roundw
        case rel => exact ⟨i + 1, by omega, by go_num, HB3.out, HFIN.out⟩
        case measure => simp [intOf]; omega
    · obtain rfl : i = n := by omega
      have HFIN := zH (show rowE l r = 0 from vvc (by rw [HQ.out, ← HV.out, zL (by rw [HZL.out]; exact Nat.le_refl _)]))
      go_wp2_with fail
      go_ret
      exact ⟨by rw [HFIN.out]; rfl, HB.out⟩
 · have e1 : rowB l r = false := by unfold rowB; rw [decide_eq_false (by rw [← HL.out, ← HL2.out]; exact hnn)]; rfl
   have HFIN := zH (uur e1)
   have c1 := vvb (a := (n : Int)) (b := (n2 : Int)) (by omega)
   clear hnn e1
   go_enter Tryz.func53, Tryz.ntmps53
   go_wp2_with fail
   go_ret
   exact ⟨by rw [HFIN.out]; rfl, zR⟩
theorem kqY (F F2 : Nat → Prop) (A A2 : Option Addr) (n c n2 c2 : Nat) (l : List (ByteArray × Int)) (r : List VV) (w : World) (h : Sl tCol F w A n c l) (h2 : Sl tVV F2 w A2 n2 c2 r) (hn : n ≤ 4096) (hT : Lib.Utf8Tabs 0 1 w) :
 Calls Tryz.prog 57 #[.slice A n c, .slice A2 n2 c2] w fun e w' => e = .returned (.int .i64 (rowE l r)) ∧ Below w.heap.size w w' := by
 have HH := zH h; have HH2 := zH h2; have HL := zH h.len; have HL2 := zH h2.len; have HT := zH hT
 have HN := zH hn
 clear h h2 hT hn
 by_cases hnn : n = n2
 · subst hnn
   obtain ⟨z, hz⟩ : ∃ z, z = l.zip r := ⟨_, rfl⟩
   have HZ := zH hz
   have hzl : z.length = n := by rw [hz, List.length_zip, ← HL.out, ← HL2.out, Nat.min_self]
   have HZL := zH hzl
   have HQ := zH (show rowB l r = z.all fun p => mayV p.1.2 p.2 by unfold rowB; rw [hz, decide_eq_true (show l.length = r.length by rw [← HL.out, ← HL2.out]), Bool.true_and])
   clear hz hzl
   go_enter Tryz.func57, Tryz.ntmps57
   go_wp2_with fail
   go_loopw [5] (fun iv wr => ∃ i : Nat, i ≤ n ∧ iv = .int .i64 (i : Int) ∧ Below w.heap.size w wr ∧ (z.take i).all (fun p => mayV p.1.2 p.2) = true) (fun iv _ => n - (intOf iv).toNat)
   case atStart => exact ⟨0, Nat.zero_le _, rfl, zR, by rw [List.take_zero]; rfl⟩
   case round =>
    obtain ⟨i, hi, rfl, hb, hv⟩ := hrel
    have HB := zH hb; have HV := zH hv
    clear hb hv
    by_cases hlt : i < n
    · have hil : i < l.length := by rw [← HL.out]; exact hlt
      have hir : i < r.length := by rw [← HL2.out]; exact hlt
      have hiz : i < z.length := by rw [HZL.out]; exact hlt
      obtain ⟨b, o, cs, rfl, _, _, hrep, hc⟩ := (HH.out.below HB.out zN).at_ hil (by decide)
      obtain ⟨b2, o2, cs2, rfl, _, hbl2, hrep2, hc2⟩ := (HH2.out.below HB.out zN).at_ hir (by decide)
      obtain ⟨x, hx⟩ : ∃ x, x = l[i] := ⟨_, rfl⟩
      obtain ⟨v, hvv⟩ : ∃ v, v = r[i] := ⟨_, rfl⟩
      have HZI := zH (show (x, v) = z[i] by have := HZ.out; subst this; rw [hx, hvv, List.getElem_zip])
      rw [← hx] at hrep
      obtain ⟨rfl, hx1, hx2, hx3⟩ := yys hrep
      obtain ⟨rfl, hok⟩ := hrep2
      rw [← hvv] at hc2 hok
      obtain ⟨nm, kd⟩ := x
      obtain ⟨g0, g1⟩ := xxN hc
      obtain ⟨y0, y1, y2⟩ := zzR hc2
      have g0 : _ = some (Value.string nm) := g0
      have g1 : _ = some (Value.int .i64 kd) := g1
      have HOK := zH hok
      have i0 : (0 : Int) ≤ (i : Int) := by omega
      have i1 : (i : Int) < (n : Int) := by omega
      have i2 : (i : Int) ≤ 4096 := by have := HN.out; omega
      obtain ⟨q, hq⟩ : ∃ q, q = mayV kd v := ⟨_, rfl⟩
      have HQV := zH hq
      clear hc hc2 hx hvv hrep hok hx1 hx2 hx3 hq
      have HBL := zH hbl2
      clear g0 hbl2
      cases q
      · have HFIN := zH (show rowE l r = 21 from uur (by rw [HQ.out]; exact all_not hiz HZI.out HQV.out.symm))
        go_wp2_with fail
        go_region_held3 (fun w' => w'.cell? ⟨b, o + i * 2 + 1, none⟩ = some (.int .i64 kd) ∧ w'.cell? ⟨b2, o2 + i * 3, none⟩ = some (.bool v.null) ∧ w'.cell? ⟨b2, o2 + i * 3 + 1, none⟩ = some (.int .i64 v.n) ∧ w'.cell? ⟨b2, o2 + i * 3 + 2, none⟩ = some (.string v.s))
         (first | go_keep | (go_split_ands; refine ⟨?_, ?_, ?_, ?_⟩ <;> exact zze (by assumption) (by assumption)))
         (first
           | (go_at_call 47; refine (vvW kd v HOK.out _ (zzc HT.out (zzA HB.out _))).mono ?_; rintro e w3 ⟨rfl, hb3⟩; rw [← HQV.out]))
        have HB3 := zH ((zzA HB.out 1).trans (hb3.mono (zzA HB.out 1).size))
        go_wp2_with fail
        go_ret
        exact ⟨by rw [HFIN.out]; rfl, HB3.out⟩
      · have HFIN := zH (show (z.take (i + 1)).all (fun p => mayV p.1.2 p.2) = true by rw [yyJ hiz HZI.out, HV.out]; exact HQV.out.symm)
        go_wp2_with fail
        go_region_held3 (fun w' => w'.cell? ⟨b, o + i * 2 + 1, none⟩ = some (.int .i64 kd) ∧ w'.cell? ⟨b2, o2 + i * 3, none⟩ = some (.bool v.null) ∧ w'.cell? ⟨b2, o2 + i * 3 + 1, none⟩ = some (.int .i64 v.n) ∧ w'.cell? ⟨b2, o2 + i * 3 + 2, none⟩ = some (.string v.s))
         (first | go_keep | (go_split_ands; refine ⟨?_, ?_, ?_, ?_⟩ <;> exact zze (by assumption) (by assumption)))
         (first
           | (go_at_call 47; refine (vvW kd v HOK.out _ (zzc HT.out (zzA HB.out _))).mono ?_; rintro e w3 ⟨rfl, hb3⟩; rw [← HQV.out]))
        have HB3 := zH ((zzA HB.out 1).trans (hb3.mono (zzA HB.out 1).size))
        go_wp2_with fail
        go_roundw
        case rel => exact ⟨i + 1, by omega, by go_num, HB3.out, HFIN.out⟩
        case measure => simp [intOf]; omega
    · obtain rfl : i = n := by omega
      have HFIN := zH (show rowE l r = 0 from vvc (by rw [HQ.out, ← HV.out, zL (by rw [HZL.out]; exact Nat.le_refl _)]))
      go_wp2_with fail
      go_ret
      exact ⟨by rw [HFIN.out]; rfl, HB.out⟩
 · have e1 : rowB l r = false := by unfold rowB; rw [decide_eq_false (by rw [← HL.out, ← HL2.out]; exact hnn)]; rfl
   have HFIN := zH (uur e1)
   have c1 := vvb (a := (n : Int)) (b := (n2 : Int)) (by omega)
   clear hnn e1
   go_enter Tryz.func57, Tryz.ntmps57
   go_wp2_with fail
   go_ret
   exact ⟨by rw [HFIN.out]; rfl, zR⟩
end
section
open Go Go.RowKit
theorem Col.empty {α : Type} (T : Ty α) (e : TypeId) (col : Nat → Nat) (i B : Nat) (w : World) (hB : B ≤ w.heap.size) (hc : col w.heap.size = i) : Col T e col i B (w.heap.size + 1) (w.alloc (.cells #[] e)) (some ⟨w.heap.size, 0, none⟩) 0 0 [] :=
 ⟨fun _ => False, OwnF.empty T e _ w B hB (fun _ hb => hb.elim), fun _ hb => hb.elim, fun b hb => by
  injection hb with hb
  have hb : w.heap.size = b := hb
  subst hb
  exact ⟨Nat.lt_succ_self _, hc⟩⟩
theorem Col.allocs {α : Type} {T : Ty α} {e : TypeId} {col : Nat → Nat} {i B S : Nat} {w : World} {A : Option Addr} {n c : Nat} {xs : List α} (h : Col T e col i B S w A n c xs) (o : Obj) : Col T e col i B S (w.alloc o) A n c xs :=
 h.keep (by simp) fun b _ _ hl _ => Below.heap_alloc w o b hl
theorem Col.keepB {α : Type} {T : Ty α} {e : TypeId} {col : Nat → Nat} {i B S : Nat} {w w' : World} {A : Option Addr} {n c : Nat} {xs : List α} (h : Col T e col i B S w A n c xs) (hb : Below w.heap.size w w') : Col T e col i B S w' A n c xs :=
 h.keep hb.size fun b _ _ hl _ => hb.block b hl
theorem qz2 (F : Nat → Prop) (A : Option Addr) (n c : Nat) (l : List VV) (w : World) (h : Sl tVV F w A n c l) (hn : n ≤ 4096) :
 Calls Tryz.prog 103 #[.slice A n c] w (qzR l w) := by
 have HL := zH h.len; have HH := zH h
 have hc1 := Col.empty yy8 4 (fun b => if b = w.heap.size then 0 else 1) 0 w.heap.size w zN (if_pos rfl)
 have hc2 := Col.empty tVV 74 (fun b => if b = w.heap.size then 0 else 1) 1 w.heap.size (w.alloc (.cells #[] 4)) (by simp) (by rw [zS]; exact if_neg (by omega))
 rw [zS] at hc2
 have HC1 := zH ((hc1.allocs (.cells #[] 74)).recol (S' := w.heap.size + 1 + 1) (fun _ _ => rfl) (by omega))
 have HC2 := zH hc2
 have HB0 := zH (show Below w.heap.size w ((w.alloc (.cells #[] 4)).alloc (.cells #[] 74)) from ((zR).alloc zN _).alloc (by simp) _)
 clear h hc1 hc2
 go_enter Tryz.func103, Tryz.ntmps103
 go_wp2_with fail
 go_loopw [4, 5, 6] (fun av bv iv wr => ∃ (i : Nat) (A1 : Option Addr) (c1 : Nat) (A2 : Option Addr) (n2 c2 : Nat) (col : Nat → Nat) (S : Nat), i ≤ n ∧ iv = .int .i64 (i : Int) ∧ av = .slice A1 i c1 ∧ bv = .slice A2 n2 c2 ∧
  Col yy8 4 col 0 w.heap.size S wr A1 i c1 ((l.take i).map fun v => !v.null) ∧ Col tVV 74 col 1 w.heap.size S wr A2 n2 c2 ((l.take i).filter zzh) ∧ Below w.heap.size w wr ∧ w.heap.size ≤ S ∧ S ≤ wr.heap.size) (fun _ _ iv _ => n - (intOf iv).toNat)
 case atStart => exact ⟨0, _, _, _, _, _, _, w.heap.size + 1 + 1, Nat.zero_le _, rfl, rfl, rfl, HC1.out, HC2.out, HB0.out, by omega, by simp⟩
 case round =>
  obtain ⟨i, A1, c1, A2, n2, c2, col, S, hi, rfl, rfl, rfl, hq1, hq2, hb, hS0, hS⟩ := hrel
  have HQ1 := zH hq1; have HQ2 := zH hq2; have HB := zH hb
  have hsz := hb.size
  have hl2 : n2 ≤ 4096 := by
   have h1 := hq2.len
   have h2 := List.length_filter_le zzh (l.take i)
   rw [List.length_take] at h2
   omega
  clear hq1 hq2 hb
  by_cases hlt : i < n
  · have hil : i < l.length := by rw [← HL.out]; exact hlt
    obtain ⟨b, o, cs, rfl, _, hbl, hrep, hc⟩ := HH.out.at_ hil (by decide)
    obtain ⟨v, hf⟩ : ∃ v, v = l[i] := ⟨_, rfl⟩
    obtain ⟨rfl, hok⟩ := hrep
    rw [← hf] at hc hok
    have HT1 := zH (show (l.take (i + 1)).map (fun v => !v.null) = (l.take i).map (fun v => !v.null) ++ [!v.null] by
     rw [zT hil, List.map_append, ← hf]; rfl)
    have HT2 := zH (show (l.take (i + 1)).filter zzh = (l.take i).filter zzh ++ (if zzh v then [v] else []) by
     rw [zT hil, List.filter_append, ← hf]; simp [List.filter_cons])
    obtain ⟨nu, x, s⟩ := v
    obtain ⟨g0, g1, g2⟩ := zzR hc
    have g0 : _ = some (Value.bool nu) := g0
    have g1 : _ = some (Value.int .i64 x) := g1
    have g2 : _ = some (Value.string s) := g2
    have HOK := zH hok
    have hi0 : (0 : Int) ≤ (i : Int) := by omega
    have hi1 : (i : Int) < (n : Int) := by omega
    obtain ⟨F1, o1, f2, f3⟩ := HQ1.out
    have O1 := zH o1; have F2 := zH f2; have F3 := zH f3
    clear hc hf hok o1 f2 f3
    have G0 := zH g0; have G1 := zH g1; have G2 := zH g2
    clear g0 g1 g2
    have g0 := zze HB.out G0.out
    go_upto_region 7 with (first
     | (at_builtin; refine apl1 (T := yy8) uuU wr w rfl (.tmp 15) (.tmp 22) rfl w.heap.size A1 i c1 ((l.take i).map fun v => !v.null) (by rfl) F1 (fun _ => False) O1.out HB.out zN _ (by rfl) [.bool (!nu)] (!nu) (by rfl) 4 rfl (fun _ _ _ _ h4 => h4) (by omega) ?_; intro A3 c3 w3 h3)
     | fail)
    have hg3 := h3.grown.size
    rw [zS] at hg3
    have HQ3 := zH (Col.apd F2.out F3.out (fun _ h => h.elim) hS0 (by rw [zS]; omega) h3)
    have HQ4 := zH (Col.past (HQ2.out.allocs _) (by decide) F3.out h3.grown (by omega))
    have HB3 := zH h3.below
    clear g0
    have g0 := zze HB3.out G0.out
    have g1 := zze HB3.out G1.out
    have g2 := zze HB3.out G2.out
    cases nu with
    | true =>
      have e2 : (l.take (i + 1)).filter zzh = (l.take i).filter zzh := by rw [HT2.out]; simp [zzh]
      have HE2 := zH e2
      clear e2
      go_wp2_with fail
      go_roundw
      case rel => exact ⟨i + 1, A3, c3, A2, n2, c2, _, _, by omega, by go_num, rfl, rfl, by rw [HT1.out]; exact HQ3.out, by rw [HE2.out]; exact HQ4.out, HB3.out, by omega, Nat.le_refl _⟩
      case measure => simp [intOf]; omega
    | false =>
      have e2 : (l.take (i + 1)).filter zzh = (l.take i).filter zzh ++ [⟨false, x, s⟩] := by rw [HT2.out]; simp [zzh]
      have HE2 := zH e2
      obtain ⟨F5, o5, f6, f7⟩ := HQ4.out
      have O5 := zH o5; have F6 := zH f6; have F7 := zH f7
      clear e2 o5 f6 f7
      go_wp2_with (first
       | (at_builtin; refine apl1 (T := tVV) qxk w3 w rfl (.tmp 30) (.tmp 35) rfl w.heap.size A2 n2 c2 _ (by rfl) F5 (fun _ => False) O5.out HB3.out zN _ (by rfl) [.bool false, .int .i64 x, .string s] ⟨false, x, s⟩ ⟨rfl, HOK.out⟩ 74 rfl (fun _ _ _ _ h4 => h4) (by omega) ?_; intro A5 c5 w5 h5)
       | fail)
      have hg5 := h5.grown.size
      rw [zS] at hg5
      have HQ5 := zH (Col.apd F6.out F7.out (fun _ h => h.elim) (by omega) (by rw [zS]; omega) h5)
      have HQ6 := zH (Col.past (HQ3.out.allocs _) (by decide) F7.out h5.grown (by omega))
      have HB5 := zH h5.below
      go_roundw
      case rel => exact ⟨i + 1, A3, c3, A5, n2 + 1, c5, _, _, by omega, by go_num, rfl, rfl, by rw [HT1.out]; exact HQ6.out, by rw [HE2.out]; exact HQ5.out, HB5.out, by omega, Nat.le_refl _⟩
      case measure => simp [intOf]; omega
  · obtain rfl : i = n := by omega
    have e1 : l.take i = l := zL (by rw [← HL.out]; exact Nat.le_refl _)
    rw [e1] at HQ1 HQ2
    clear e1
    go_wp2_with fail
    go_ret2
    exact ⟨A1, c1, A2, n2, c2, by rw [← HL.out]; rfl, by rw [← HL.out]; exact HQ1.out.sl, HQ2.out.sl, HB.out⟩
theorem xqh (HP : ∀ (F : Nat → Prop) (A : Option Addr) (n c : Nat) (l : List Bool) (w : World), Sl yy8 F w A n c l → n ≤ 4096 → Calls Tryz.prog 104 #[.slice A n c] w (zzq (some (byB (xxd l))) w))
 (F : Nat → Prop) (A : Option Addr) (n c : Nat) (l : List VV) (w : World) (h : Sl tVV F w A n c l) (hn : n ≤ 4096) :
 Calls Tryz.prog 48 #[.slice A n c] w (qxo l w) := by
 have H := zH h; have HN := zH hn; have HL := zH h.len; have HPP := zH HP
 have hn1 : ¬ (n : Int) > 4096 := by omega
 have hn2 : ¬ (4096 : Int) < n := by omega
 clear h hn HP
 go_enter Tryz.func48, Tryz.ntmps48
 go_upto_if 21 with (first
  | (go_at_call 103; refine (qz2 F A n c l _ H.out HN.out).mono ?_; rintro e w1 ⟨A1, c1, A2, n2, c2, rfl, hs1, hs2, hb1⟩; have HS1 := zH hs1; have HS2 := zH hs2; have HB1 := zH hb1; clear hs1 hs2 hb1)
  | fail)
 have HL2 := zH HS2.out.len
 have hle : n2 ≤ n := by have h1 := HL2.out; have h2 := HL.out; have h3 := List.length_filter_le zzh l; omega
 by_cases hlt : n2 = n
 · have hI : (n2 : Int) = (n : Int) := by omega
   have HPB := zH (show yyi l = [] from if_neg (by rw [← HL2.out, ← HL.out]; omega))
   go_wp2_with fail
   go_ret3
   exact ⟨none, 0, 0, A2, n2, c2, rfl, by rw [HPB.out]; exact Sl.nil_ _ _ _, HS2.out, HB1.out⟩
 · have hI : ¬ (n2 : Int) = (n : Int) := by omega
   have hI2 := zzv hI
   have HPB := zH (show yyi l = byB (xxd (l.map fun v => !v.null)) from if_pos (by rw [← HL2.out, ← HL.out]; omega))
   go_wp2_with (first
    | (go_at_call 104; refine (HPP.out _ A1 l.length c1 _ _ HS1.out (by rw [← HL.out]; exact HN.out)).mono ?_; rintro e w2 ⟨hb2, A3, n3, c3, rfl, ho3⟩; have HO3 := zH ho3; have HB2 := zH hb2; clear ho3 hb2)
    | fail)
   go_ret3
   refine ⟨A3, n3, c3, A2, n2, c2, rfl, ?_, HS2.out.below HB2.out zN, HB1.out.trans (HB2.out.mono HB1.out.size)⟩
   rw [HPB.out]
   exact HO3.out.own.sl.weaken fun b hb _ => by
    have := HB1.out.size
    rcases hb with hb | hb
    · exact hb.elim
    · exact Nat.le_trans this hb.2
end
section
open Go Go.RowKit
def C06 : Prop := ∀ (F : Nat → Prop) (A : Option Addr) (n c : Nat) (l : List Bool) (w : World), Sl yy8 F w A n c l → n ≤ 4096 → Calls Tryz.prog 104 #[.slice A n c] w (zzq (some (byB (xxd l))) w)
def C11 : Prop := ∀ (F : Nat → Prop) (A : Option Addr) (n c : Nat) (l : List Int) (w : World), Sl tI64 F w A n c l → n ≤ 4096 → ∀ sg, zzY sg l → Calls Tryz.prog 106 #[.slice A n c, .bool sg] w (zzq (some (rleB sg l)) w)
theorem xxn (k : Int) (w : World) : Calls Tryz.prog 49 #[.int .i64 k] w fun e w' => e = .returned (.bool (decide (1 ≤ k ∧ k ≤ 5))) ∧ w = w' := by
 obtain ⟨q, hq⟩ : ∃ q, q = decide (1 ≤ k ∧ k ≤ 5) := ⟨_, rfl⟩
 rw [← hq]
 by_cases h1 : 1 ≤ k
 · have h1' : k ≥ 1 := h1
   by_cases h2 : k ≤ 5
   · obtain rfl : q = true := hq.trans (decide_eq_true ⟨h1, h2⟩)
     clear hq
     go_enter Tryz.func49, Tryz.ntmps49
     go_wp2_with fail
     go_ret
     exact ⟨rfl, rfl⟩
   · obtain rfl : q = false := hq.trans (decide_eq_false fun h => h2 h.2)
     clear hq
     go_enter Tryz.func49, Tryz.ntmps49
     go_wp2_with fail
     go_ret
     exact ⟨rfl, rfl⟩
 · have h1' : ¬ k ≥ 1 := h1
   obtain rfl : q = false := hq.trans (decide_eq_false fun h => h1 h.1)
   clear hq
   go_enter Tryz.func49, Tryz.ntmps49
   go_wp2_with fail
   go_ret
   exact ⟨rfl, rfl⟩
theorem parts_any (x : Int) (h0 : -9223372036854775808 ≤ x) (h1 : x ≤ 9223372036854775807) (w : World) :
 Calls Tryz.prog 105 #[.int .i64 x] w fun e w' => e = .returned (.tuple #[.int .i64 (x / 1000), .int .i64 (x % 1000)]) ∧ w = w' := by
 obtain ⟨q, hq⟩ : ∃ q, q = x.tdiv 1000 := ⟨_, rfl⟩
 obtain ⟨r, hr⟩ : ∃ r, r = x.tmod 1000 := ⟨_, rfl⟩
 have hqr : 1000 * q + r = x := by rw [hq, hr]; exact Int.mul_tdiv_add_tmod x 1000
 have hb : (0 ≤ x → 0 ≤ r ∧ r < 1000) ∧ (x < 0 → -1000 < r ∧ r ≤ 0) := by
  rw [hr]
  refine ⟨fun h => ⟨Int.tmod_nonneg 1000 h, Int.tmod_lt_of_pos x (by decide)⟩, fun h => ?_⟩
  have e : x.tmod 1000 = -((-x).tmod 1000) := by rw [Int.neg_tmod, Int.neg_neg]
  have h1 := Int.tmod_nonneg 1000 (show 0 ≤ -x by omega)
  have h2 := Int.tmod_lt_of_pos (-x) (show (0 : Int) < 1000 by decide)
  omega
 have hq0 : -9223372036854776 ≤ q ∧ q ≤ 9223372036854775 := by omega
 have hr0 : -1000 < r ∧ r < 1000 := by omega
 by_cases hneg : r < 0
 · have HD := zH (show x / 1000 = q - 1 by omega)
   have HM := zH (show x % 1000 = r + 1000 by omega)
   obtain ⟨q0, q1⟩ := hq0
   obtain ⟨r0, r1⟩ := hr0
   have HQ := hq.symm; have HR := hr.symm
   clear hb hqr hq hr
   go_enter Tryz.func105, Tryz.ntmps105
   go_wp2_with fail
   go_ret2
   exact ⟨by rw [HD.out, HM.out]; rfl, rfl⟩
 · have HD := zH (show x / 1000 = q by omega)
   have HM := zH (show x % 1000 = r by omega)
   obtain ⟨q0, q1⟩ := hq0
   obtain ⟨r0, r1⟩ := hr0
   have HQ := hq.symm; have HR := hr.symm
   clear hb hqr hq hr
   go_enter Tryz.func105, Tryz.ntmps105
   go_wp2_with fail
   go_ret2
   exact ⟨by rw [HD.out, HM.out]; rfl, rfl⟩
structure L4 (w0 : World) (l : List VV) (i : Nat) (col : Nat → Nat) (S : Nat) (A1 : Option Addr) (c1 : Nat) (A2 : Option Addr) (c2 : Nat) (A3 : Option Addr) (c3 : Nat) (A4 : Option Addr) (c4 : Nat) (n1 n2 n3 n4 : Nat) (w : World) : Prop where
 on : Col yy8 4 col 0 w0.heap.size S w A1 n1 c1 ((l.take n1).map fun v => v.n == 1)
 whole : Col tI64 3 col 1 w0.heap.size S w A2 n2 c2 ((l.take n2).map fun v => v.n)
 first : Col tI64 3 col 2 w0.heap.size S w A3 n3 c3 ((l.take n3).map fun v => v.n / 1000)
 second : Col tI64 3 col 3 w0.heap.size S w A4 n4 c4 ((l.take n4).map fun v => v.n % 1000)
 below : Below w0.heap.size w0 w
 low : w0.heap.size ≤ S
 high : S ≤ w.heap.size
 at_ : i ≤ 4096
section
variable {w0 w w' : World} {l : List VV} {i : Nat} {col : Nat → Nat} {S : Nat} {A1 A2 A3 A4 A' : Option Addr} {c1 c2 c3 c4 c' n1 n2 n3 n4 : Nat}
theorem L4.keepB (h : L4 w0 l i col S A1 c1 A2 c2 A3 c3 A4 c4 n1 n2 n3 n4 w) (hb : Below w.heap.size w w') : L4 w0 l i col S A1 c1 A2 c2 A3 c3 A4 c4 n1 n2 n3 n4 w' :=
 ⟨h.on.keepB hb, h.whole.keepB hb, h.first.keepB hb, h.second.keepB hb, h.below.trans (hb.mono h.below.size), h.low, Nat.le_trans h.high hb.size, h.at_⟩
theorem L4.push1 {F : Nat → Prop} (h : L4 w0 l i col S A1 c1 A2 c2 A3 c3 A4 c4 n1 n2 n3 n4 w) (f2 : ∀ b, F b → b < S ∧ w0.heap.size ≤ b ∧ col b = 0) (f3 : ∀ b, A1.map (·.block) = some b → b < S ∧ col b = 0) (o : Obj) (hl : n1 < l.length) (d : VV) (hd : d = l[n1])
 (ha : ApdL yy8 4 (fun b => (F b ∨ (fun _ => False) b) ∧ b < w.heap.size) w0 (w.alloc o) w' w0.heap.size A1 A' (n1 + 1) c' (((l.take n1).map fun v => v.n == 1) ++ [d.n == 1])) :
 L4 w0 l i (zzx col 0 S) w'.heap.size A' c' A2 c2 A3 c3 A4 c4 (n1 + 1) n2 n3 n4 w' := by
 have hg := ha.grown.size
 rw [zS] at hg
 have hh := h.high
 have hlo := h.low
 have h1 := Col.apd f2 f3 (fun _ hh => hh.elim) h.low (by rw [zS]; omega) ha
 have e1 : (l.take (n1 + 1)).map (fun v => v.n == 1) = ((l.take n1).map fun v => v.n == 1) ++ [d.n == 1] := by rw [zT hl, List.map_append, hd]; rfl
 rw [← e1] at h1
 exact ⟨h1, Col.past (h.whole.allocs o) (by decide) f3 ha.grown (by omega), Col.past (h.first.allocs o) (by decide) f3 ha.grown (by omega), Col.past (h.second.allocs o) (by decide) f3 ha.grown (by omega), ha.below, by omega, Nat.le_refl _, h.at_⟩
theorem L4.push2 {F : Nat → Prop} (h : L4 w0 l i col S A1 c1 A2 c2 A3 c3 A4 c4 n1 n2 n3 n4 w) (f2 : ∀ b, F b → b < S ∧ w0.heap.size ≤ b ∧ col b = 1) (f3 : ∀ b, A2.map (·.block) = some b → b < S ∧ col b = 1) (o : Obj) (hl : n2 < l.length) (d : VV) (hd : d = l[n2])
 (ha : ApdL tI64 3 (fun b => (F b ∨ (fun _ => False) b) ∧ b < w.heap.size) w0 (w.alloc o) w' w0.heap.size A2 A' (n2 + 1) c' (((l.take n2).map fun v => v.n) ++ [d.n])) :
 L4 w0 l i (zzx col 1 S) w'.heap.size A1 c1 A' c' A3 c3 A4 c4 n1 (n2 + 1) n3 n4 w' := by
 have hg := ha.grown.size
 rw [zS] at hg
 have hh := h.high
 have hlo := h.low
 have h1 := Col.apd f2 f3 (fun _ hh => hh.elim) h.low (by rw [zS]; omega) ha
 have e1 : (l.take (n2 + 1)).map (fun v => v.n) = ((l.take n2).map fun v => v.n) ++ [d.n] := by rw [zT hl, List.map_append, hd]; rfl
 rw [← e1] at h1
 exact ⟨Col.past (h.on.allocs o) (by decide) f3 ha.grown (by omega), h1, Col.past (h.first.allocs o) (by decide) f3 ha.grown (by omega), Col.past (h.second.allocs o) (by decide) f3 ha.grown (by omega), ha.below, by omega, Nat.le_refl _, h.at_⟩
theorem L4.push3 {F : Nat → Prop} (h : L4 w0 l i col S A1 c1 A2 c2 A3 c3 A4 c4 n1 n2 n3 n4 w) (f2 : ∀ b, F b → b < S ∧ w0.heap.size ≤ b ∧ col b = 2) (f3 : ∀ b, A3.map (·.block) = some b → b < S ∧ col b = 2) (o : Obj) (hl : n3 < l.length) (d : VV) (hd : d = l[n3])
 (ha : ApdL tI64 3 (fun b => (F b ∨ (fun _ => False) b) ∧ b < w.heap.size) w0 (w.alloc o) w' w0.heap.size A3 A' (n3 + 1) c' (((l.take n3).map fun v => v.n / 1000) ++ [d.n / 1000])) :
 L4 w0 l i (zzx col 2 S) w'.heap.size A1 c1 A2 c2 A' c' A4 c4 n1 n2 (n3 + 1) n4 w' := by
 have hg := ha.grown.size
 rw [zS] at hg
 have hh := h.high
 have hlo := h.low
 have h1 := Col.apd f2 f3 (fun _ hh => hh.elim) h.low (by rw [zS]; omega) ha
 have e1 : (l.take (n3 + 1)).map (fun v => v.n / 1000) = ((l.take n3).map fun v => v.n / 1000) ++ [d.n / 1000] := by rw [zT hl, List.map_append, hd]; rfl
 rw [← e1] at h1
 exact ⟨Col.past (h.on.allocs o) (by decide) f3 ha.grown (by omega), Col.past (h.whole.allocs o) (by decide) f3 ha.grown (by omega), h1, Col.past (h.second.allocs o) (by decide) f3 ha.grown (by omega), ha.below, by omega, Nat.le_refl _, h.at_⟩
theorem L4.push4 {F : Nat → Prop} (h : L4 w0 l i col S A1 c1 A2 c2 A3 c3 A4 c4 n1 n2 n3 n4 w) (f2 : ∀ b, F b → b < S ∧ w0.heap.size ≤ b ∧ col b = 3) (f3 : ∀ b, A4.map (·.block) = some b → b < S ∧ col b = 3) (o : Obj) (hl : n4 < l.length) (d : VV) (hd : d = l[n4])
 (ha : ApdL tI64 3 (fun b => (F b ∨ (fun _ => False) b) ∧ b < w.heap.size) w0 (w.alloc o) w' w0.heap.size A4 A' (n4 + 1) c' (((l.take n4).map fun v => v.n % 1000) ++ [d.n % 1000])) :
 L4 w0 l i (zzx col 3 S) w'.heap.size A1 c1 A2 c2 A3 c3 A' c' n1 n2 n3 (n4 + 1) w' := by
 have hg := ha.grown.size
 rw [zS] at hg
 have hh := h.high
 have hlo := h.low
 have h1 := Col.apd f2 f3 (fun _ hh => hh.elim) h.low (by rw [zS]; omega) ha
 have e1 : (l.take (n4 + 1)).map (fun v => v.n % 1000) = ((l.take n4).map fun v => v.n % 1000) ++ [d.n % 1000] := by rw [zT hl, List.map_append, hd]; rfl
 rw [← e1] at h1
 exact ⟨Col.past (h.on.allocs o) (by decide) f3 ha.grown (by omega), Col.past (h.whole.allocs o) (by decide) f3 ha.grown (by omega), Col.past (h.first.allocs o) (by decide) f3 ha.grown (by omega), h1, ha.below, by omega, Nat.le_refl _, h.at_⟩
end
theorem xqi (H06 : C06) (H11 : C11) (k : Int) (hk : 1 ≤ k ∧ k ≤ 5) (F : Nat → Prop) (A : Option Addr) (n c : Nat) (l : List VV) (w : World) (h : Sl tVV F w A n c l) (hn : n ≤ 4096) (hm : ∀ v ∈ l, v.null = false ∧ mayV k v = true) (hT : Lib.Utf8Tabs 0 1 w) :
 Calls Tryz.prog 50 #[.int .i64 k, .slice A n c] w (zzq (some (xxj k l)) w) := by
 have HL := zH h.len
 have HH := zH h; have HN := zH hn; have HM := zH hm; have HT := zH hT; have H6 := zH H06; have H1 := zH H11
 have HOK := zH (qxq l (zqD h))
 have HVO := zH (zqD h)
 have HNM := zH (show decide (1 ≤ k ∧ k ≤ 5) = true by simpa using hk)
 have hn1 : ¬ (n : Int) > 4096 := by omega
 have hn2 : ¬ (4096 : Int) < n := by omega
 have HK := zH hk
 have hc1 := Col.empty yy8 4 (fun b => b - w.heap.size) 0 w.heap.size w zN (Nat.sub_self _)
 have hc2 := Col.empty tI64 3 (fun b => b - w.heap.size) 1 w.heap.size (w.alloc (.cells #[] 4)) (by simp) (by rw [zS]; omega)
 have hc3 := Col.empty tI64 3 (fun b => b - w.heap.size) 2 w.heap.size ((w.alloc (.cells #[] 4)).alloc (.cells #[] 3)) (by simp; omega) (by rw [zS, zS]; omega)
 have hc4 := Col.empty tI64 3 (fun b => b - w.heap.size) 3 w.heap.size (((w.alloc (.cells #[] 4)).alloc (.cells #[] 3)).alloc (.cells #[] 3)) (by simp; omega) (by rw [zS, zS, zS]; omega)
 rw [zS] at hc2
 rw [zS, zS] at hc3
 rw [zS, zS, zS] at hc4
 have HL0 : Hid (L4 w l 0 (fun b => b - w.heap.size) (w.heap.size + 1 + 1 + 1 + 1) (some ⟨w.heap.size, 0, none⟩) 0 (some ⟨w.heap.size + 1, 0, none⟩) 0 (some ⟨w.heap.size + 1 + 1, 0, none⟩) 0 (some ⟨w.heap.size + 1 + 1 + 1, 0, none⟩) 0 0 0 0 0
  ((((w.alloc (.cells #[] 4)).alloc (.cells #[] 3)).alloc (.cells #[] 3)).alloc (.cells #[] 3))) := zH
  ⟨(((hc1.allocs _).allocs _).allocs _).recol (fun _ _ => rfl) (by omega), ((hc2.allocs _).allocs _).recol (fun _ _ => rfl) (by omega), (hc3.allocs _).recol (fun _ _ => rfl) (by omega), hc4, ((((zR).alloc zN _).alloc (by simp) _).alloc (by simp; omega) _).alloc (by simp; omega) _, by omega, by simp, by omega⟩
 clear h hn hm hT hk H06 H11 hc1 hc2 hc3 hc4
 go_enter Tryz.func50, Tryz.ntmps50
 go_wp2_with (first
  | (go_at_call 49; refine (xxn _ _).mono ?_; rintro e w1 ⟨rfl, rfl⟩; rw [HNM.out])
  | fail)
 go_loopw [7, 8, 9, 10, 11] (fun av bv cv dv iv wr => ∃ (i : Nat) (A1 : Option Addr) (c1 : Nat) (A2 : Option Addr) (c2 : Nat) (A3 : Option Addr) (c3 : Nat) (A4 : Option Addr) (c4 : Nat) (col : Nat → Nat) (S : Nat), i ≤ n ∧ iv = .int .i64 (i : Int) ∧ av = .slice A1 i c1 ∧ bv = .slice A2 i c2 ∧ cv = .slice A3 i c3 ∧ dv = .slice A4 i c4 ∧ L4 w l 0 col S A1 c1 A2 c2 A3 c3 A4 c4 i i i i wr) (fun _ _ _ _ iv _ => n - (intOf iv).toNat)
 case atStart => exact ⟨0, _, _, _, _, _, _, _, _, _, _, Nat.zero_le _, rfl, rfl, rfl, rfl, rfl, HL0.out⟩
 case round =>
  obtain ⟨i, A1, c1, A2, c2, A3, c3, A4, c4, col, S, hi, rfl, rfl, rfl, rfl, rfl, hl4⟩ := hrel
  have HL4 := zH hl4
  clear hl4
  by_cases hlt : i < n
  · have hil : i < l.length := by rw [← HL.out]; exact hlt
    obtain ⟨b, o, cs, rfl, _, hbl, hrep, hc⟩ := HH.out.at_ hil (by decide)
    have hml := HM.out _ (List.getElem_mem hil)
    have hvo := HVO.out _ (List.getElem_mem hil)
    obtain ⟨v, hf⟩ : ∃ v, v = l[i] := ⟨_, rfl⟩
    obtain ⟨rfl, _⟩ := hrep
    rw [← hf] at hc hml hvo
    have HF := zH hf
    obtain ⟨nu, x, s⟩ := v
    obtain ⟨hnu, hmay⟩ := hml
    have hnu : nu = false := hnu
    subst hnu
    have HMAY := zH hmay; have HVK := zH hvo
    obtain ⟨g0, g1, g2⟩ := zzR hc
    have G0 : Hid (_ = some (Value.bool false)) := zH g0
    have G1 : Hid (_ = some (Value.int .i64 x)) := zH g1
    have G2 : Hid (_ = some (Value.string s)) := zH g2
    have hi0 : (0 : Int) ≤ (i : Int) := by omega
    have hi1 : (i : Int) < (n : Int) := by omega
    have hi4 : i ≤ 34359738368 := by have := HN.out; omega
    have x0 : -9223372036854775808 ≤ x := hvo.1
    have x1 : x ≤ 9223372036854775807 := hvo.2.1
    clear hc hf hmay hvo g0 g1 g2
    have g0 := zze HL4.out.below G0.out
    have g1 := zze HL4.out.below G1.out
    have g2 := zze HL4.out.below G2.out
    go_upto_region 14 with (first
     | (go_at_call 47; refine (vvW k ⟨false, x, s⟩ HVK.out _ (zzc HT.out HL4.out.below)).mono ?_; rintro e w3 ⟨rfl, hb3⟩; rw [HMAY.out]; have HM3 := zH (HL4.out.keepB hb3); clear hb3)
     | fail)
    clear g0 g1 g2
    have g0 := zze HM3.out.below G0.out
    have g1 := zze HM3.out.below G1.out
    obtain ⟨qq, hqq⟩ : ∃ qq, qq = x / 1000 := ⟨_, rfl⟩
    obtain ⟨rr, hrr⟩ : ∃ rr, rr = x % 1000 := ⟨_, rfl⟩
    have HPT := zH (parts_any x x0 x1)
    rw [← hqq, ← hrr] at HPT
    have hqk : -9223372036854775808 ≤ qq ∧ qq ≤ 9223372036854775807 := by omega
    have hrk : -9223372036854775808 ≤ rr ∧ rr ≤ 9223372036854775807 := by omega
    have HQK := zH hqk; have HRK := zH hrk; have HQQ := zH hqq; have HRR := zH hrr
    clear hqk hrk hqq hrr
    obtain ⟨F1, o1, f12, f13⟩ := HM3.out.on
    have O1 := zH o1; have F12 := zH f12; have F13 := zH f13
    clear o1 f12 f13
    go_upto_region 18 with (first
     | (go_at_call 105; refine (HPT.out _).mono ?_; rintro e w4 ⟨rfl, rfl⟩)
     | (at_builtin; refine apl1 (T := yy8) uuU w3 w rfl (.tmp 60) (.tmp 67) rfl w.heap.size A1 i c1 ((l.take i).map fun v => v.n == 1) (by rfl) F1 (fun _ => False) O1.out HM3.out.below zN _ (by rfl) [.bool (x == 1)] (x == 1) (by rfl) 4 rfl (fun _ _ _ _ h4 => h4) hi4 ?_; intro A5 c5 w5 h5)
     | fail)
    have HL5 := zH (L4.push1 HM3.out F12.out F13.out _ hil ⟨false, x, s⟩ HF.out h5)
    clear g0 g1
    have g1 := zze HL5.out.below G1.out
    obtain ⟨F2, o2, f22, f23⟩ := HL5.out.whole
    have O2 := zH o2; have F22 := zH f22; have F23 := zH f23
    clear o2 f22 f23
    go_upto_region 19 with (first
     | (at_builtin; refine apl1 (T := tI64) zzQ w5 w rfl (.tmp 69) (.tmp 75) rfl w.heap.size A2 i c2 ((l.take i).map fun v => v.n) (by rfl) F2 (fun _ => False) O2.out HL5.out.below zN _ (by rfl) [.int .i64 x] x ⟨rfl, x0, x1⟩ 3 rfl (fun _ _ _ _ h4 => h4) hi4 ?_; intro A6 c6 w6 h6)
     | fail)
    have HL6 := zH (L4.push2 HL5.out F22.out F23.out _ hil ⟨false, x, s⟩ HF.out h6)
    clear g1
    obtain ⟨F3, o3, f32, f33⟩ := HL6.out.first
    have O3 := zH o3; have F32 := zH f32; have F33 := zH f33
    clear o3 f32 f33
    go_upto_region 20 with (first
     | (at_builtin; refine apl1 (T := tI64) zzQ w6 w rfl (.tmp 77) (.tmp 79) rfl w.heap.size A3 i c3 ((l.take i).map fun v => v.n / 1000) (by rfl) F3 (fun _ => False) O3.out HL6.out.below zN _ (by rfl) [.int .i64 qq] qq ⟨rfl, HQK.out⟩ 3 rfl (fun _ _ _ _ h4 => h4) hi4 ?_; intro A7 c7 w7 h7)
     | fail)
    rw [HQQ.out] at h7
    have HL7 := zH (L4.push3 HL6.out F32.out F33.out _ hil ⟨false, x, s⟩ HF.out h7)
    obtain ⟨F4, o4, f42, f43⟩ := HL7.out.second
    have O4 := zH o4; have F42 := zH f42; have F43 := zH f43
    clear o4 f42 f43
    go_wp2_with (first
     | (at_builtin; refine apl1 (T := tI64) zzQ w7 w rfl (.tmp 81) (.tmp 83) rfl w.heap.size A4 i c4 ((l.take i).map fun v => v.n % 1000) (by rfl) F4 (fun _ => False) O4.out HL7.out.below zN _ (by rfl) [.int .i64 rr] rr ⟨rfl, HRK.out⟩ 3 rfl (fun _ _ _ _ h4 => h4) hi4 ?_; intro A8 c8 w8 h8)
     | fail)
    rw [HRR.out] at h8
    have HL8 := zH (L4.push4 HL7.out F42.out F43.out _ hil ⟨false, x, s⟩ HF.out h8)
    go_roundw
    case rel => exact ⟨i + 1, A5, c5, A6, c6, A7, c7, A8, c8, _, _, by omega, by go_num, rfl, rfl, rfl, rfl, HL8.out⟩
    case measure => simp [intOf]; omega
  · obtain rfl : i = n := by omega
    have e1 : l.take i = l := zL (by rw [← HL.out]; exact Nat.le_refl _)
    have hs1 := HL4.out.on.sl
    have hs2 := HL4.out.whole.sl
    have hs3 := HL4.out.first.sl
    have hs4 := HL4.out.second.sl
    rw [e1] at hs1 hs2 hs3 hs4
    have HS1 := zH hs1; have HS2 := zH hs2; have HS3 := zH hs3; have HS4 := zH hs4
    have HB := zH HL4.out.below
    clear hs1 hs2 hs3 hs4 e1
    by_cases k1 : k = 1
    · subst k1
      have HI := zH (show xxj 1 l = byB (xxd (l.map fun v => v.n == 1)) from if_pos rfl)
      go_wp2_with (first
       | (go_at_call 104; refine (H6.out _ A1 i c1 _ _ HS1.out HN.out).mono ?_; rintro e w5 ⟨hb5, A5, n5, c5, rfl, ho5⟩; have HO5 := zH ho5; have HB5 := zH hb5; clear ho5 hb5)
       | fail)
      go_ret2
      exact ⟨HB.out.trans (HB5.out.mono HB.out.size), A5, n5, c5, rfl, by rw [HI.out]; exact HO5.out.down HB.out.size⟩
    · by_cases k5 : k = 5
      · subst k5
        have HI := zH (show xxj 5 l = rleB true (l.map fun v => v.n / 1000) ++ rleB false (l.map fun v => v.n % 1000) from by unfold xxj; rw [if_neg (by decide), if_pos rfl])
        have HLB := zH (yyb false (l.map fun v => v.n % 1000))
        have HLA := zH (yyb true (l.map fun v => v.n / 1000))
        go_upto_region 26 with (first
         | (go_at_call 106; refine (H1.out _ A3 i c3 _ _ HS3.out HN.out true HOK.out.2.1).mono ?_; rintro e w5 ⟨hb5, A5, n5, c5, rfl, ho5⟩; have HO5 := zH ho5; have HB5 := zH hb5; clear ho5 hb5)
         | fail)
        go_upto_region 27 with (first
         | (go_at_call 106; refine (H1.out _ A4 i c4 _ _ (HS4.out.below HB5.out zN) HN.out false HOK.out.2.2).mono ?_; rintro e w6 ⟨hb6, A6, n6, c6, rfl, ho6⟩; have HO6 := zH ho6; have HB6 := zH hb6; clear ho6 hb6)
         | fail)
        have hlim : n5 + n6 ≤ 68719476736 := by
         have h1 := HO5.out.len; have h2 := HO6.out.len; have h3 := HLA.out; have h4 := HLB.out; have h5 := HN.out; have h6 := HL.out
         rw [List.length_map] at h3 h4
         omega
        have HB56 := zH (HB5.out.trans (HB6.out.mono HB5.out.size))
        go_wp2_with (first
         | (at_builtin; refine apb w6 wr rfl (.tmp 104) (.tmp 105) rfl wr.heap.size A5 n5 c5 _ rfl (HO5.out.keepB HB6.out) HB56.out zN _ A6 n6 c6 _ rfl HO6.out.bs hlim ?_; intro A7 c7 w7 h7 hb7 _)
         | fail)
        go_ret2
        exact ⟨HB.out.trans (hb7.mono HB.out.size), A7, _, c7, rfl, by rw [HI.out]; exact h7.down HB.out.size⟩
      · have b1 := zzv k1
        have b5 := zzv k5
        have HI := zH (show xxj k l = rleB true (l.map fun v => v.n) from by unfold xxj; rw [if_neg k1, if_neg k5])
        go_wp2_with (first
         | (go_at_call 106; refine (H1.out _ A2 i c2 _ _ HS2.out HN.out true HOK.out.1).mono ?_; rintro e w5 ⟨hb5, A5, n5, c5, rfl, ho5⟩; have HO5 := zH ho5; have HB5 := zH hb5; clear ho5 hb5)
         | fail)
        go_ret2
        exact ⟨HB.out.trans (HB5.out.mono HB.out.size), A5, n5, c5, rfl, by rw [HI.out]; exact HO5.out.down HB.out.size⟩
end
section
open Go Go.RowKit
structure P2 (w0 : World) (col : Nat → Nat) (S : Nat) (A1 : Option Addr) (n1 c1 : Nat) (gs : List Int) (A2 : Option Addr) (n2 c2 : Nat) (ps : List Nat) (w : World) : Prop where
 a : Col tI64 3 col 0 w0.heap.size S w A1 n1 c1 gs
 b : Col tU64 112 col 1 w0.heap.size S w A2 n2 c2 ps
 below : Below w0.heap.size w0 w
 low : w0.heap.size ≤ S
 high : S ≤ w.heap.size
section
variable {w0 w w' : World} {col : Nat → Nat} {S : Nat} {A1 A2 A' : Option Addr} {n1 c1 n2 c2 c' : Nat} {gs : List Int} {ps : List Nat}
theorem P2.push1 {F : Nat → Prop} (h : P2 w0 col S A1 n1 c1 gs A2 n2 c2 ps w) (f2 : ∀ b, F b → b < S ∧ w0.heap.size ≤ b ∧ col b = 0) (f3 : ∀ b, A1.map (·.block) = some b → b < S ∧ col b = 0) (o : Obj) (x : Int)
 (ha : ApdL tI64 3 (fun b => (F b ∨ (fun _ => False) b) ∧ b < w.heap.size) w0 (w.alloc o) w' w0.heap.size A1 A' (n1 + 1) c' (gs ++ [x])) :
 P2 w0 (zzx col 0 S) w'.heap.size A' (n1 + 1) c' (gs ++ [x]) A2 n2 c2 ps w' := by
 have hg := ha.grown.size
 rw [zS] at hg
 have hh := h.high
 have hlo := h.low
 exact ⟨Col.apd f2 f3 (fun _ hh => hh.elim) h.low (by rw [zS]; omega) ha, Col.past (h.b.allocs o) (by decide) f3 ha.grown (by omega), ha.below, by omega, Nat.le_refl _⟩
theorem P2.push2 {F : Nat → Prop} (h : P2 w0 col S A1 n1 c1 gs A2 n2 c2 ps w) (f2 : ∀ b, F b → b < S ∧ w0.heap.size ≤ b ∧ col b = 1) (f3 : ∀ b, A2.map (·.block) = some b → b < S ∧ col b = 1) (o : Obj) (x : Nat)
 (ha : ApdL tU64 112 (fun b => (F b ∨ (fun _ => False) b) ∧ b < w.heap.size) w0 (w.alloc o) w' w0.heap.size A2 A' (n2 + 1) c' (ps ++ [x])) :
 P2 w0 (zzx col 1 S) w'.heap.size A1 n1 c1 gs A' (n2 + 1) c' (ps ++ [x]) w' := by
 have hg := ha.grown.size
 rw [zS] at hg
 have hh := h.high
 have hlo := h.low
 exact ⟨Col.past (h.a.allocs o) (by decide) f3 ha.grown (by omega), Col.apd f2 f3 (fun _ hh => hh.elim) h.low (by rw [zS]; omega) ha, ha.below, by omega, Nat.le_refl _⟩
end
def zz8 (q : List (Nat × Nat)) : List Int := q.map fun x => (x.1 : Int)
def yyq (q : List (Nat × Nat)) : List Nat := q.map (·.2)
theorem jj0 (q : List (Nat × Nat)) (x : Nat × Nat) : zz8 (q ++ [x]) = zz8 q ++ [(x.1 : Int)] := by simp [zz8]
theorem jj1 (q : List (Nat × Nat)) (x : Nat × Nat) : yyq (q ++ [x]) = yyq q ++ [x.2] := by simp [yyq]
theorem xqu (F : Nat → Prop) (A : Option Addr) (n c : Nat) (us : List Nat) (w : World) (h : Sl tU64 F w A n c us) (hn : n ≤ 512) (k : Nat) (hk : k ≤ 63) :
 Calls Tryz.prog 265 #[.slice A n c, .int .i64 (k : Int)] w fun e w' => ∃ A1 c1 A2 c2 m, m = (zzE k 0 0 us).length ∧ m ≤ 1024 ∧ e = .returned (.tuple #[.slice A1 m c1, .slice A2 m c2]) ∧
  Sl tI64 (fun b => w.heap.size ≤ b) w' A1 m c1 (zz8 (zzE k 0 0 us)) ∧ Sl tU64 (fun b => w.heap.size ≤ b) w' A2 m c2 (yyq (zzE k 0 0 us)) ∧ Below w.heap.size w w' := by
 have HL := zH h.len; have HH := zH h
 have hc1 := Col.empty tI64 3 (fun b => if b = w.heap.size then 0 else 1) 0 w.heap.size w zN (if_pos rfl)
 have hc2 := Col.empty tU64 112 (fun b => if b = w.heap.size then 0 else 1) 1 w.heap.size (w.alloc (.cells #[] 3)) (by simp) (by rw [zS]; exact if_neg (by omega))
 rw [zS] at hc2
 have HP0 : Hid (P2 w _ (w.heap.size + 1 + 1) _ _ _ [] _ _ _ [] ((w.alloc (.cells #[] 3)).alloc (.cells #[] 112))) := zH ⟨(hc1.allocs (.cells #[] 112)).recol (S' := w.heap.size + 1 + 1) (fun _ _ => rfl) (by omega), hc2, ((zR).alloc zN _).alloc (by simp) _, by omega, by simp⟩
 clear h hc1 hc2
 go_enter Tryz.func265, Tryz.ntmps265
 go_wp2_with fail
 go_loopw [6, 7, 8, 9] (fun av bv lv iv wr => ∃ (i : Nat) (A1 : Option Addr) (c1 : Nat) (A2 : Option Addr) (c2 m la : Nat) (ps : List (Nat × Nat)) (col : Nat → Nat) (S : Nat), i ≤ n ∧ iv = .int .i64 (i : Int) ∧ lv = .int .i64 (la : Int) ∧ av = .slice A1 m c1 ∧ bv = .slice A2 m c2 ∧
  P2 w col S A1 m c1 (zz8 ps) A2 m c2 (yyq ps) wr ∧ ps = zzE k 0 0 (us.take i) ∧ la = xxA k 0 0 (us.take i) ∧ m ≤ i + la / 255) (fun _ _ _ iv _ => n - (intOf iv).toNat)
 case atStart => exact ⟨0, _, _, _, _, 0, 0, [], _, _, Nat.zero_le _, rfl, rfl, rfl, rfl, HP0.out, rfl, rfl, Nat.zero_le _⟩
 case round =>
  obtain ⟨i, A1, c1, A2, c2, m, la, ps, col, S, hi, rfl, rfl, rfl, rfl, hp, hps, hla, hm⟩ := hrel
  have HP := zH hp; have HPS := zH hps; have HLA := zH hla
  have HUL := HL
  clear hp hps hla
  by_cases hlt : i < n
  · have hil : i < us.length := by rw [← HL.out]; exact hlt
    obtain ⟨u, hu⟩ : ∃ u, u = us[i] := ⟨_, rfl⟩
    obtain ⟨b, o, uv, rfl, _, _, hrep, hcu⟩ := HH.out.at1 hil rfl
    have hu64 := hrep.2
    have hr : [uv] = [Value.int .u64 ((us[i] : Nat) : Int)] := hrep.1
    injection hr with hr; subst hr
    rw [← hu] at hu64 hcu
    clear hrep
    have cu := zze HP.out.below hcu
    have HTK := zH (show us.take (i + 1) = us.take i ++ [u] by rw [zT hil, hu])
    have i0 : (0 : Int) ≤ (i : Int) := by omega
    have i1 : (i : Int) < (n : Int) := by omega
    obtain ⟨p, hp⟩ : ∃ p, p = u / 2 ^ k := ⟨_, rfl⟩
    have zp : (u : Int) / 2 ^ k = (p : Int) := by rw [hp]; simp
    have hlen : (us.take i).length = i := by rw [List.length_take]; omega
    have hps2 := vvz k (us.take i) 0 0 u
    have hla2 := uuo k (us.take i) 0 0 u
    rw [hlen, ← HTK.out, ← HPS.out, ← HLA.out, Nat.zero_add] at hps2
    rw [hlen, ← HTK.out, ← HLA.out, Nat.zero_add] at hla2
    have hlai : la ≤ i := by rw [HLA.out]; have := vvU k (us.take i) 0 0 zN; omega
    have hlai2 : i ≠ 0 → la < i := fun h => by
     have := qxa k (us.take i) 0 0 zN (fun e => by rw [e] at hlen; simp at hlen; omega)
     rw [HLA.out]; omega
    rw [← hp] at hla2
    unfold kqh at hps2
    rw [← hp] at hps2
    have HLAI2 := zH hlai2
    have hpu : U64 p := by
     have : (p : Int) ≤ (u : Int) := by rw [← zp]; exact Int.ediv_le_self _ (by omega)
     show p < 18446744073709551616; omega
    have HPU := zH hpu
    clear hp hlen hlai2 hcu hu hu64 hpu
    by_cases hp0 : p = 0
    · subst hp0
      rw [if_pos rfl, List.append_nil] at hps2
      rw [if_pos rfl] at hla2
      have HPS2 := zH hps2; have HLA2 := zH hla2
      clear hps2 hla2
      go_wp2_with fail
      go_roundw
      case rel => exact ⟨i + 1, A1, c1, A2, c2, m, la, ps, col, S, by omega, by go_num, rfl, rfl, rfl, HP.out, HPS2.out.symm, HLA2.out.symm, by omega⟩
      case measure => simp [intOf]; omega
    · rw [if_neg hp0] at hps2 hla2
      have zp0 : (0 : Int) < (p : Int) := by omega
      have zp1 : ¬ (p : Int) = 0 := by omega
      have zp2 : ((p : Int) == 0) = false := zzv zp1
      have HPS2 := zH hps2; have HLA2 := zH hla2
      clear hps2 hla2 hp0
      go_wp2_with fail
      go_loopw [6, 7, 8] (fun av bv lv wq => ∃ (j lq nq : Nat) (B1 : Option Addr) (d1 : Nat) (B2 : Option Addr) (d2 : Nat) (qs : List (Nat × Nat)) (col : Nat → Nat) (S : Nat), lv = .int .i64 (lq : Int) ∧ av = .slice B1 nq d1 ∧ bv = .slice B2 nq d2 ∧
       P2 w col S B1 nq d1 (zz8 qs) B2 nq d2 (yyq qs) wq ∧ qs = ps ++ List.replicate j (255, 0) ∧ lq = la + 255 * j ∧ nq = m + j ∧ (j = 0 ∨ lq < i)) (fun _ _ lv _ => i - (intOf lv).toNat)
      case atStart => exact ⟨0, la, m, _, _, _, _, ps, _, _, rfl, rfl, rfl, HP.out, by rw [List.replicate_zero, List.append_nil], rfl, rfl, .inl rfl⟩
      case round =>
       obtain ⟨j, lq, nq, B1, d1, B2, d2, qs, col, S, rfl, rfl, rfl, hq, hqs, hlq, hnq, hj⟩ := hrel
       have HQ := zH hq
       clear hq
       have hlqi : lq ≤ i := by omega
       obtain ⟨F1, o1, f12, f13⟩ := HQ.out.a
       have O1 := zH o1; have F12 := zH f12; have F13 := zH f13
       clear o1 f12 f13
       by_cases hfar : (255 : Int) < (i : Int) - (lq : Int)
       · have hj8 : j ≤ 512 := by omega
         have HLQ := zH hlq; have HNQ := zH hnq
         have HQS := zH (show qs ++ [(255, 0)] = ps ++ List.replicate (j + 1) (255, 0) by rw [hqs, List.append_assoc, ← List.replicate_succ'])
         have hnq4 : nq ≤ 4096 := by omega
         have hlq4 : lq ≤ 4096 := by omega
         have hfar2 : (i : Int) - (lq : Int) > 255 := hfar
         clear hlq hnq hj hqs
         go_upto_region 11 with (first
          | (at_builtin; refine apl1 (T := tI64) zzQ wr w rfl (.tmp 31) (.tmp 32) rfl w.heap.size B1 nq d1 (zz8 qs) (by rfl) F1 (fun _ => False) O1.out HQ.out.below zN _ (by rfl) [.int .i64 255] 255 ⟨rfl, by decide, by decide⟩ 3 rfl (fun _ _ _ _ h4 => h4) (by omega) ?_; intro A5 c5 w5 h5)
          | fail)
         have HQ5 := zH (P2.push1 HQ.out F12.out F13.out _ _ h5)
         obtain ⟨F2, o2, f22, f23⟩ := HQ5.out.b
         have O2 := zH o2; have F22 := zH f22; have F23 := zH f23
         clear o2 f22 f23 h5
         go_wp2_with (first
          | (at_builtin; refine apl1 (T := tU64) vvy w5 w rfl (.tmp 34) (.tmp 35) rfl w.heap.size B2 nq d2 (yyq qs) (by rfl) F2 (fun _ => False) O2.out HQ5.out.below zN _ (by rfl) [.int .u64 0] 0 ⟨rfl, by decide⟩ 112 rfl (fun _ _ _ _ h4 => h4) (by omega) ?_; intro A6 c6 w6 h6)
          | fail)
         have HQ6 := zH (P2.push2 HQ5.out F22.out F23.out _ _ h6)
         go_roundw
         case rel => exact ⟨j + 1, lq + 255, nq + 1, A5, c5, A6, c6, qs ++ [(255, 0)], _, _, by go_num, rfl, rfl, by rw [jj0, jj1]; exact HQ6.out, HQS.out, by have := HLQ.out; omega, by have := HNQ.out; omega, .inr (by omega)⟩
         case measure => simp [intOf]; omega
       · obtain ⟨gq, hgq⟩ : ∃ gq, gq = i - lq := ⟨_, rfl⟩
         have zg : (i : Int) - (lq : Int) = (gq : Int) := by omega
         have hfar2 : ¬ (gq : Int) > 255 := by omega
         have hfar3 : ¬ (255 : Int) < (gq : Int) := by omega
         have hjj : (i - la - 1) / 255 = j := by
          by_cases hi0 : i = 0
          · omega
          · have := HLAI2.out hi0; omega
         have HFIN := zH (show qs ++ [(gq, p)] = zzE k 0 0 (us.take (i + 1)) by rw [HPS2.out, hqs, hjj, hgq, hlq, List.append_assoc, Nat.sub_add_eq])
         have hgq4 : gq ≤ 4096 := by omega
         have hnq4 : nq ≤ 4096 := by omega
         have hnqb : nq + 1 ≤ i + 1 + i / 255 := by omega
         have HNQB := zH hnqb
         have HZG := zH zg
         clear hlq hnq hj hqs hgq hjj hlai hnqb hm hfar
         go_upto_region 14 with (first
          | (at_builtin; refine apl1 (T := tI64) zzQ wr w rfl (.tmp 39) (.tmp 43) rfl w.heap.size B1 nq d1 (zz8 qs) (by rfl) F1 (fun _ => False) O1.out HQ.out.below zN _ (by rfl) [.int .i64 (gq : Int)] (gq : Int) ⟨rfl, by omega, by omega⟩ 3 (by first | rfl | rw [HZG.out]) (fun _ _ _ _ h4 => h4) (by omega) ?_; intro A5 c5 w5 h5)
          | fail)
         have HQ5 := zH (P2.push1 HQ.out F12.out F13.out _ _ h5)
         obtain ⟨F2, o2, f22, f23⟩ := HQ5.out.b
         have O2 := zH o2; have F22 := zH f22; have F23 := zH f23
         clear o2 f22 f23 h5
         go_wp2_with (first
          | (at_builtin; refine apl1 (T := tU64) vvy w5 w rfl (.tmp 45) (.tmp 47) rfl w.heap.size B2 nq d2 (yyq qs) (by rfl) F2 (fun _ => False) O2.out HQ5.out.below zN _ (by rfl) [.int .u64 (p : Int)] p ⟨rfl, HPU.out⟩ 112 rfl (fun _ _ _ _ h4 => h4) (by omega) ?_; intro A6 c6 w6 h6)
          | fail)
         have HQ6 := zH (P2.push2 HQ5.out F22.out F23.out _ _ h6)
         go_roundw
         case rel => exact ⟨i + 1, A5, c5, A6, c6, nq + 1, i, qs ++ [(gq, p)], _, _, by omega, by go_num, rfl, rfl, rfl, by rw [jj0, jj1]; exact HQ6.out, HFIN.out, HLA2.out.symm, HNQB.out⟩
         case measure => simp [intOf]; omega
  · obtain rfl : i = n := by omega
    have e1 : us.take i = us := zL (by rw [← HL.out]; exact Nat.le_refl _)
    have hps := HPS.out
    have hla := HLA.out
    rw [e1] at hps hla
    have hln := HP.out.b.len
    rw [yyq, List.length_map] at hln
    have hla4 : la ≤ i := by have := vvU k us 0 0 zN; rw [hla, HL.out]; omega
    have HPSX := zH hps; have HLN := zH hln
    clear e1 hps hla hln
    go_wp2_with fail
    go_ret2
    exact ⟨A1, c1, A2, c2, m, by rw [← HPSX.out]; exact HLN.out, by omega, rfl, by rw [← HPSX.out]; exact HP.out.a.sl, by rw [← HPSX.out]; exact HP.out.b.sl, HP.out.below⟩
end
end Go.Proofs.YtpmglcachffojaaGreatDoor
