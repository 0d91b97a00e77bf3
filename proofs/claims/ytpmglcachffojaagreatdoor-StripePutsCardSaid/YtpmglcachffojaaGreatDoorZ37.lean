/- A part of what Puts leans on. -/
import Derived.Test.YtpmglcachffojaaGreatDoorZ31
import Derived.Test.YtpmglcachffojaaGreatDoorZ35
set_option maxRecDepth 100000
set_option maxHeartbeats 16000000
namespace Go.Proofs.YtpmglcachffojaaGreatDoor
section
open Go Go.RowKit
theorem zqI : ∀ (f : Nat) (b : List UInt8), (byF f b).length ≤ 2 * b.length
 | 0, _ => by simp [byF]
 | f + 1, [] => by simp [byF]
 | f + 1, c :: r => by
   rw [byF]
   by_cases h : 3 ≤ zzl (c :: r)
   · rw [if_pos h]
     have ih := zqI f ((c :: r).drop (zzl (c :: r)))
     have := xxz (c :: r)
     rw [List.length_drop] at ih
     simp only [List.length_cons] at *
     omega
   · rw [if_neg h]
     have h1 := uuQ (b := c :: r) (by simp) (by omega)
     have h2 : litN (c :: r) ≤ (c :: r).length := (xq6 128 (c :: r)).1
     have ih := zqI f ((c :: r).drop (litN (c :: r)))
     rw [List.length_drop] at ih
     have h3 : (litB (litN (c :: r)) (c :: r)).length ≤ litN (c :: r) + 1 := by
      unfold litB; rw [List.length_cons, List.length_take]; omega
     rw [List.length_append]
     simp only [List.length_cons] at *
     omega
theorem byB_len (b : List UInt8) : (byB b).length ≤ 2 * b.length := zqI _ _
theorem qzX (l : List Bool) : (xxd l).length ≤ l.length + 1 := by
 unfold xxd; rw [yyG, List.length_map]; unfold zzD; omega
theorem presB_len (l : List VV) : (yyi l).length ≤ 2 * l.length + 2 := by
 unfold yyi
 split
 · have h1 := byB_len (xxd (l.map fun v => !v.null))
   have h2 := qzX (l.map fun v => !v.null)
   rw [List.length_map] at h2
   omega
 · simp
theorem intsB_len (k : Int) (l : List VV) : (xxj k l).length ≤ 20 * l.length + 2 := by
 unfold xxj
 split
 · have h1 := byB_len (xxd (l.map fun v => v.n == 1))
   have h2 := qzX (l.map fun v => v.n == 1)
   rw [List.length_map] at h2
   omega
 · split
   · have h1 := yyb true (l.map fun v => v.n / 1000)
     have h2 := yyb false (l.map fun v => v.n % 1000)
     rw [List.length_map] at h1 h2
     rw [List.length_append]; omega
   · have h1 := yyb true (l.map fun v => v.n)
     rw [List.length_map] at h1
     omega
theorem txC_bound (l : List ByteArray) (hs : ∀ s ∈ l, s.size ≤ 300) : ∀ x ∈ (txC l).2.2, x.2.length ≤ 300 * l.length := by
 have hw := jjK l
 have h1 := xxk l hs
 have h2 := xxk (zzi l) (xxF hs)
 have h3 : (xxD l).length ≤ 10 * l.length := by have := yyb false (l.map fun s => (s.size : Int)); rw [List.length_map] at this; exact this
 have h5 : (zzi l).length = (zzF l).length := by unfold zzi; rw [List.length_map]
 have h4 : (xxD (zzi l)).length ≤ 10 * (zzi l).length := by have := yyb false ((zzi l).map fun s => (s.size : Int)); rw [List.length_map] at this; exact this
 have h6 := yyb false (l.map fun s : ByteArray => (zzG l s : Int))
 rw [List.length_map] at h6
 intro x hx
 unfold txC at hx
 split at hx
 · simp only [List.mem_cons, List.not_mem_nil, or_false] at hx
   rcases hx with rfl | rfl
   · exact h1
   · show (xxD l).length ≤ _; omega
 · simp only [List.mem_cons, List.not_mem_nil, or_false] at hx
   rcases hx with rfl | rfl | rfl
   · show (rleB false _).length ≤ _; omega
   · show (xxD _).length ≤ _; omega
   · show (zzC _).length ≤ _; omega
theorem xqf (k : Int) (l : List VV) : ∀ x ∈ (colR k l).2.2.2, x.2.length ≤ 300 * l.length + 2 := by
 have hp := presB_len l
 have hf := List.length_filter_le zzh l
 intro x hx
 unfold colR at hx
 split at hx
 · rename_i he
   unfold colC at hx
   split at hx
   · simp only [List.mem_cons, List.not_mem_nil, or_false] at hx
     rcases hx with rfl | rfl
     · show (yyi l).length ≤ _; omega
     · have := intsB_len k (l.filter zzh)
       show (xxj k _).length ≤ _; omega
   · rename_i hk
     rcases List.mem_cons.1 hx with rfl | hx
     · show (yyi l).length ≤ _; omega
     · have hk2 : k = 6 ∨ k = 7 := by
        unfold colE at he
        by_cases h7 : 1 ≤ k ∧ k ≤ 7
        · omega
        · rw [if_neg h7] at he; exact absurd he (by decide)
       have hall : l.all (mayV k) = true := by
        cases hq : l.all (mayV k) with
        | true => rfl
        | false =>
          unfold colE at he
          rw [if_pos (by omega), hq] at he
          exact absurd he (by decide)
       have := txC_bound ((l.filter zzh).map (·.s)) (fun s hs => by
        obtain ⟨v, hv, rfl⟩ := List.mem_map.1 hs
        obtain ⟨h1, h2⟩ := List.mem_filter.1 hv
        have h3 := List.all_eq_true.1 hall v h1
        have h2 : v.null = false := by simpa [zzh] using h2
        unfold mayV at h3
        rw [if_neg (by omega), if_pos hk2, h2] at h3
        simp at h3
        exact h3.2.1) x hx
       rw [List.length_map] at this
       omega
 · simp at hx
end
section
open Go Go.RowKit
theorem qzY {s t : ByteArray} (h : s.data.toList = t.data.toList) : s = t := by
 apply ByteArray.ext; exact Array.toList_inj.1 h
theorem str_ne12 {s t : ByteArray} (h : ¬ s = t) : (s.toList == t.toList) = false ∧ ¬ s.toList = t.toList ∧ ¬ s = t := by
 have h1 : ¬ s.toList = t.toList := by
  rw [ByteArray.toList_eq, ByteArray.toList_eq]
  exact fun e => h (qzY e)
 exact ⟨beq_eq_false_iff_ne.2 h1, h1, h⟩
theorem kq8 {α : Type} {p : α → Bool} {l : List α} {i : Nat} (hi : i < l.length) {b : α} (hb : b = l[i]) : (l.take (i + 1)).any p = ((l.take i).any p || p b) := by
 rw [zT hi, List.any_append, ← hb]; simp
theorem qzZ {α : Type} {p : α → Bool} {l : List α} {i k : Nat} (hk : k < i) (hi : i ≤ l.length) {b : α} (hb : b = l[k]) (h : p b = true) : (l.take i).any p = true := by
 rw [List.any_eq_true]
 exact ⟨b, by rw [hb, List.mem_take_iff_getElem]; exact ⟨k, by omega, rfl⟩, h⟩
theorem xxG (F : Nat → Prop) (A : Option Addr) (n c : Nat) (l : List CC) (w : World) (h : Sl tCol F w A n c l) :
 Calls Tryz.prog 56 #[.slice A n c] w fun e w' => e = .returned (.int .i64 (schE l)) ∧ Below w.heap.size w w' := by
 have HH := zH h; have HL := zH h.len
 clear h
 by_cases h0 : n < 1
 · have HFIN := zH (yyv (vvk (l := l) (by rw [← HL.out]; omega)))
   have c1 : (n : Int) < 1 := by omega
   clear h0
   go_enter Tryz.func56, Tryz.ntmps56
   go_wp2_with fail
   go_ret
   exact ⟨by rw [HFIN.out]; rfl, zR⟩
 · by_cases h6 : n > 6
   · have HFIN := zH (yyv (vvk (l := l) (by rw [← HL.out]; omega)))
     have c1 : ¬ (n : Int) < 1 := by omega
     have c2 : (n : Int) > 6 := by omega
     clear h0 h6
     go_enter Tryz.func56, Tryz.ntmps56
     go_wp2_with fail
     go_ret
     exact ⟨by rw [HFIN.out]; rfl, zR⟩
   · have HN := zH (show 1 ≤ l.length ∧ l.length ≤ 6 by rw [← HL.out]; omega)
     have c1 : ¬ (n : Int) < 1 := by omega
     have c2 : ¬ (n : Int) > 6 := by omega
     clear h0 h6
     go_enter Tryz.func56, Tryz.ntmps56
     go_wp2_with fail
     clear c1 c2
     go_loopw [3] (fun iv wr => ∃ i : Nat, i ≤ n ∧ iv = .int .i64 (i : Int) ∧ Below w.heap.size w wr ∧ Hid (∀ j, j < i → colI l j = true)) (fun iv _ => n - (intOf iv).toNat)
     case atStart => exact ⟨0, Nat.zero_le _, rfl, zR, zH fun j hj => absurd hj (Nat.not_lt_zero _)⟩
     case round =>
      obtain ⟨i, hi, rfl, hb, HV⟩ := hrel
      have HB := zH hb
      clear hb
      by_cases hlt : i < n
      · have hil : i < l.length := by rw [← HL.out]; exact hlt
        have HHR := zH (HH.out.below HB.out zN)
        obtain ⟨b, o, cs, rfl, _, hbl, hrep, hc⟩ := HHR.out.at_ hil (by decide)
        obtain ⟨⟨nm, kd⟩, hx⟩ : ∃ x, x = l[i] := ⟨_, rfl⟩
        rw [← hx] at hrep
        have HX := zH hx
        obtain ⟨rfl, hx1, -, -⟩ := yys hrep
        dsimp only at hc hx1
        obtain ⟨q1, hq1⟩ : ∃ q, q = nmS nm := ⟨_, rfl⟩
        obtain ⟨q2, hq2⟩ : ∃ q, q = (l.take i).any (nmEq (nm, kd)) := ⟨_, rfl⟩
        have HCB := zH (show colB l i (nm, kd) = (q1 && !q2 && decide (1 ≤ kd ∧ kd ≤ 7)) by unfold colB; rw [← hq1, ← hq2])
        have HQ1 := zH hq1; have HQ2 := zH hq2; have HX1 := zH hx1; have HBL := zH hbl
        obtain ⟨g0, g1⟩ := xxN hc
        have i0 : (0 : Int) ≤ (i : Int) := by omega
        have i1 : (i : Int) < (n : Int) := by omega
        have i2 : (i : Int) ≤ 6 := by have := HN.out; omega
        clear hc hx hrep hx1 hq1 hq2 hbl
        cases q1
        · have HFIN := zH (yyv (vvE hil HX.out (show colB l i (nm, kd) = false by rw [HCB.out]; rfl)))
          go_wp2_with (first | (go_at_call 113; refine (vvX nm HX1.out _).mono ?_; rintro e w3 ⟨rfl, rfl⟩; rw [← HQ1.out]) | fail)
          go_ret
          exact ⟨by rw [HFIN.out]; rfl, HB.out⟩
        · by_cases k1 : kd < 1
          · have HFIN := zH (yyv (vvE hil HX.out (show colB l i (nm, kd) = false by rw [HCB.out, decide_eq_false (by omega), Bool.and_false])))
            go_wp2_with (first | (go_at_call 113; refine (vvX nm HX1.out _).mono ?_; rintro e w3 ⟨rfl, rfl⟩; rw [← HQ1.out]) | fail)
            go_ret
            exact ⟨by rw [HFIN.out]; rfl, HB.out⟩
          · by_cases k7 : kd > 7
            · have HFIN := zH (yyv (vvE hil HX.out (show colB l i (nm, kd) = false by rw [HCB.out, decide_eq_false (by omega), Bool.and_false])))
              go_wp2_with (first | (go_at_call 113; refine (vvX nm HX1.out _).mono ?_; rintro e w3 ⟨rfl, rfl⟩; rw [← HQ1.out]) | fail)
              go_ret
              exact ⟨by rw [HFIN.out]; rfl, HB.out⟩
            · have HCC : Hid (colB l i (nm, kd) = !q2) := zH (by rw [HCB.out, decide_eq_true (show 1 ≤ kd ∧ kd ≤ 7 by omega), Bool.and_true, Bool.true_and])
              go_wp2_with (first | (go_at_call 113; refine (vvX nm HX1.out _).mono ?_; rintro e w3 ⟨rfl, rfl⟩; rw [← HQ1.out]) | fail)
              obtain ⟨wq, hwq⟩ : ∃ wq, wq = wr := ⟨_, rfl⟩
              rw [← hwq] at HB HHR HBL g0 g1 ⊢
              have HG0 := zH g0
              clear k1 k7 g0 g1
              go_loopw [5] (fun kv wx => ∃ k : Nat, k ≤ i ∧ kv = .int .i64 (k : Int) ∧ Below wq.heap.size wq wx ∧ Hid ((l.take k).any (nmEq (nm, kd)) = false)) (fun kv _ => i - (intOf kv).toNat)
              case atStart => exact ⟨0, Nat.zero_le _, rfl, by rw [hwq]; exact zR, zH (by rw [List.take_zero]; rfl)⟩
              case round =>
               obtain ⟨k, hk, rfl, hbx, HA⟩ := hrel
               have HBX := zH hbx
               have HBW := zH (HB.out.trans (hbx.mono HB.out.size))
               have g0 := zze hbx HG0.out
               clear hbx
               by_cases hki : k < i
               · have hkl : k < l.length := by omega
                 obtain ⟨b2, o2, cs2, hbo, _, _, hrep2, hc2⟩ := (HHR.out.below HBX.out zN).at_ hkl (by decide)
                 injection hbo with hbo
                 injection hbo with hb1 hb2
                 subst hb1 hb2
                 obtain ⟨⟨nm2, kd2⟩, hx2⟩ : ∃ x, x = l[k] := ⟨_, rfl⟩
                 rw [← hx2] at hrep2
                 have HX2 := zH hx2
                 obtain ⟨rfl, -, -, -⟩ := yys hrep2
                 dsimp only at hc2
                 obtain ⟨y0, y1⟩ := xxN hc2
                 have k0 : (0 : Int) ≤ (k : Int) := by omega
                 have k1 : (k : Int) < (i : Int) := by omega
                 have k2 : (k : Int) < (n : Int) := by omega
                 clear hc2 hx2 hrep2
                 by_cases heq : nm2 = nm
                 · have HFIN := zH (yyv (vvE hil HX.out (show colB l i (nm, kd) = false by
                    rw [HCC.out, HQ2.out, qzZ hki (Nat.le_of_lt hil) HX2.out (show nmEq (nm, kd) (nm2, kd2) = true from decide_eq_true (by rw [heq]))]; rfl)))
                   subst heq
                   go_wp2_with fail
                   go_quiet (fail)
                   go_wp2_with fail
                   go_ret
                   exact ⟨by rw [HFIN.out]; rfl, zzA HBW.out _⟩
                 · have HA2 : Hid ((l.take (k + 1)).any (nmEq (nm, kd)) = false) := zH (by
                    rw [kq8 hkl HX2.out, HA.out]
                    exact decide_eq_false (fun e => heq (qzY e)))
                   obtain ⟨a1, a2, a3⟩ := str_ne12 heq
                   clear heq
                   go_wp2_with fail
                   go_quiet (fail)
                   go_wp2_with fail
                   go_roundw
                   case rel => exact ⟨k + 1, by omega, by go_num, zzA HBX.out _, HA2⟩
                   case measure => simp [intOf]; omega
               · obtain rfl : k = i := by omega
                 have HV2 : Hid (∀ j, j < k + 1 → colI l j = true) := zH (fun j hj => by
                  rcases Nat.lt_or_ge j k with h | h
                  · exact HV.out j h
                  · obtain rfl : j = k := by omega
                    rw [jjO hil HX.out, HCC.out, HQ2.out, HA.out]; rfl)
                 go_wp2_with fail
                 go_roundw
                 case rel => exact ⟨k + 1, by omega, by go_num, HBW.out, HV2⟩
                 case measure => simp [intOf]; omega
      · obtain rfl : i = n := by omega
        have HFIN := zH (vvj (qxw HN.out (by rw [← HL.out]; exact HV.out)))
        go_wp2_with fail
        go_ret
        exact ⟨by rw [HFIN.out]; rfl, HB.out⟩
end
section
open Go Go.RowKit
def SS.fit (s : SS) : Prop := i64 s.count ∧ s.min.ok ∧ s.max.ok ∧ i64 s.sum
def vvF (s : SS) : List Value := [.int .i64 s.count, .bool s.hasNull, .bool s.min.null, .int .i64 s.min.n, .string s.min.s, .bool s.max.null, .int .i64 s.max.n, .string s.max.s, .int .i64 s.sum, .bool s.over]
def tSS : Ty SS where
 size := 10
 rep _ _ cs s := cs = vvF s ∧ s.fit
 len h := by rw [h.1]; rfl
 one h := by rw [h.1]; unfold vvF; intro u hu; simp at hu; rcases hu with rfl | rfl | rfl | rfl | rfl | rfl | rfl | rfl | rfl | rfl <;> rfl
 keep h _ _ := h
 weaken h _ := h
theorem flatSS : tSS.Flat := fun h => h
abbrev ST := Int × List Int × List SS
abbrev tSt : Ty ST := tI64.prod ((tSl tI64).prod (tSl tSS))
theorem elemSS : zzZ Tryz.prog 95 109 tSS.size := zzZ.mk' (bytes := 96) (z := .agg #[.int .i64 0, .bool false, .bool false, .int .i64 0, .string ⟨#[]⟩, .bool false, .int .i64 0, .string ⟨#[]⟩, .int .i64 0, .bool false]) (by kernel_rfl) (by kernel_rfl) rfl (by decide) (by decide)
theorem elemSt : zzZ Tryz.prog 42 97 tSt.size := zzZ.mk' (bytes := 56) (z := .agg #[.int .i64 0, .slice none 0 0, .slice none 0 0]) (by kernel_rfl) (by kernel_rfl) rfl (by decide) (by decide)
theorem elemRSt : zzZ Tryz.prog 46 106 tSt.size := zzZ.mk' (bytes := 56) (z := .agg #[.int .i64 0, .slice none 0 0, .slice none 0 0]) (by kernel_rfl) (by kernel_rfl) rfl (by decide) (by decide)
def kd (cols : List CC) (j : Nat) : Int := (cols.getD j (⟨#[]⟩, 0)).2
theorem kd_at {cols : List CC} {j : Nat} (hj : j < cols.length) {x : CC} (hx : x = cols[j]) : kd cols j = x.2 := by
 unfold kd; rw [List.getD_eq_getElem?_getD, List.getElem?_eq_getElem hj, hx]; rfl
def chB (k : Int) (l : List VV) : List UInt8 := yyx (colR k l).1 (colR k l).2.1 (colR k l).2.2.1 (colR k l).2.2.2
def chJ (cols : List CC) (rows : List RR) (j : Nat) : List UInt8 := chB (kd cols j) (colV rows j)
def xxH (cols : List CC) (rows : List RR) (i : Nat) : List UInt8 := ((List.range i).map (chJ cols rows)).flatten
def xxL (cols : List CC) (rows : List RR) (i : Nat) : List Int := (List.range i).map fun j => ((chJ cols rows j).length : Int)
def xxI (cols : List CC) (rows : List RR) (i : Nat) : List SS := (List.range i).map fun j => zzs (kd cols j) (colV rows j)
def zzL (cols : List CC) (rows : List RR) : ST := ((rows.length : Int), xxL cols rows cols.length, xxI cols rows cols.length)
theorem uut (cols : List CC) (rows : List RR) (i : Nat) : xxH cols rows (i + 1) = xxH cols rows i ++ chJ cols rows i := by
 unfold xxH; rw [List.range_succ, List.map_append, List.flatten_append]; simp
theorem kqr (cols : List CC) (rows : List RR) (i : Nat) : xxL cols rows (i + 1) = xxL cols rows i ++ [((chJ cols rows i).length : Int)] := by
 unfold xxL; rw [List.range_succ, List.map_append]; rfl
theorem kqs (cols : List CC) (rows : List RR) (i : Nat) : xxI cols rows (i + 1) = xxI cols rows i ++ [zzs (kd cols i) (colV rows i)] := by
 unfold xxI; rw [List.range_succ, List.map_append]; rfl
theorem qz0 (cols : List CC) (rows : List RR) (i : Nat) : (xxL cols rows i).length = i := by unfold xxL; simp
theorem statP_len (cols : List CC) (rows : List RR) (i : Nat) : (xxI cols rows i).length = i := by unfold xxI; simp
theorem qz1 (L : Nat) : ∀ ss : List (Int × List UInt8), (∀ x ∈ ss, x.2.length ≤ L) → wlen (ss.map strF).flatten ≤ ss.length * (40 + L)
 | [], _ => by simp [wlen]
 | x :: r, h => by
   have ih := qz1 L r (fun y hy => h y (by simp [hy]))
   have h1 := h x (by simp)
   rw [List.map_cons, List.flatten_cons, xxt, List.length_cons, Nat.succ_mul]
   have : wlen (strF x) = x.2.length + 40 := by simp [strF, wlen, unum, fnum, ftxt]; omega
   omega
theorem zqJ (m enc tx : Int) (ss : List (Int × List UInt8)) (L : Nat) (h : ∀ x ∈ ss, x.2.length ≤ L) : wlen (zzW m enc tx ss) ≤ 60 + ss.length * (40 + L) := by
 have := qz1 L ss h
 unfold zzW
 rw [xxt]
 have : wlen [unum 1 m, unum 2 enc, unum 3 tx] = 60 := by simp [wlen, unum, fnum]
 omega
theorem kq9 (k : Int) (l : List VV) : (colR k l).2.2.2.length ≤ 4 := by
 unfold colR
 split
 · unfold colC
   split
   · simp
   · unfold txC
     split <;> simp
 · simp
theorem qza (k : Int) (l : List VV) (hl : l.length ≤ 4096) : wlen (zzW (colR k l).1 (colR k l).2.1 (colR k l).2.2.1 (colR k l).2.2.2) ≤ 5000000 := by
 have h1 := zqJ (colR k l).1 (colR k l).2.1 (colR k l).2.2.1 (colR k l).2.2.2 1228802 (fun x hx => by have := xqf k l x hx; omega)
 have h2 := kq9 k l
 have h3 : (colR k l).2.2.2.length * (40 + 1228802) ≤ 4 * (40 + 1228802) := Nat.mul_le_mul_right _ h2
 omega
theorem zqK (k : Int) (l : List VV) (hl : l.length ≤ 4096) : (chB k l).length ≤ 5000004 := by
 have h1 := qza k l hl
 have h2 := xx2 (zzW (colR k l).1 (colR k l).2.1 (colR k l).2.2.1 (colR k l).2.2.2)
 unfold chB yyx qzt
 rw [List.length_append]
 simp only [List.length_cons, List.length_nil]
 omega
theorem xxm (cols : List CC) (rows : List RR) (hr : rows.length ≤ 4096) : ∀ i, (xxH cols rows i).length ≤ i * 5000004
 | 0 => by simp [xxH]
 | i + 1 => by
   have ih := xxm cols rows hr i
   have := zqK (kd cols i) (colV rows i) (by rw [uuV]; exact hr)
   rw [uut, List.length_append, Nat.succ_mul]
   unfold chJ
   omega
theorem jjP (k : Int) (l : List VV) (h : ∀ v ∈ l, v.ok) (hl : l.length ≤ 4096) : (zzs k l).fit := by
 have h1 := s0_mem l
 have h2 := kq6 l
 have hn : jjN.ok := by unfold jjN VV.ok maxLen; decide
 refine ⟨?_, ?_, ?_, ?_⟩
 · show i64 ((s0Of l).count : Int); unfold i64; omega
 · rcases h1.1 with h3 | h3
   · show (s0Of l).min.ok; rw [h3]; exact hn
   · exact h _ h3
 · rcases h1.2 with h3 | h3
   · show (s0Of l).max.ok; rw [h3]; exact hn
   · exact h _ h3
 · show i64 (if decide (1 ≤ k ∧ k ≤ 5) && yy6 (sumV l) then sumV l else 0)
   split
   · rename_i hq
     rw [Bool.and_eq_true] at hq
     have := hq.2
     unfold yy6 at this
     unfold i64
     simpa using this
   · unfold i64; omega
theorem qxy {cols : List CC} {rows : List RR} (hs : schB cols = true) (hr : ∀ r ∈ rows, rowB cols r = true) {j : Nat} (hj : j < cols.length) : colE (kd cols j) (colV rows j) = 0 := by
 have hk : 1 ≤ kd cols j ∧ kd cols j ≤ 7 := by
  unfold schB at hs
  rw [Bool.and_eq_true, List.all_eq_true] at hs
  have h1 := hs.2 j (List.mem_range.2 hj)
  rw [jjO hj rfl] at h1
  unfold colB at h1
  rw [Bool.and_eq_true] at h1
  rw [kd_at hj rfl]
  simpa using h1.2
 unfold colE
 rw [if_pos hk, if_pos]
 rw [List.all_eq_true]
 intro v hv
 unfold colV at hv
 obtain ⟨r, hr1, rfl⟩ := List.mem_map.1 hv
 have h2 := hr r hr1
 unfold rowB at h2
 rw [Bool.and_eq_true, decide_eq_true_eq, List.all_eq_true] at h2
 have hj2 : j < r.length := by rw [← h2.1]; exact hj
 have hz : j < (cols.zip r).length := by rw [List.length_zip]; omega
 have h3 := h2.2 _ (List.getElem_mem hz)
 rw [List.getElem_zip] at h3
 rw [kd_at hj rfl, List.getD_eq_getElem?_getD, List.getElem?_eq_getElem hj2]
 exact h3
end
section
open Go Go.RowKit
theorem cput_num (k : Int) (F : Nat → Prop) (A : Option Addr) (n c : Nat) (l : List VV) (w : World) (h : Sl tVV F w A n c l) (hn : n ≤ 4096) (hT : Lib.Utf8Tabs 0 1 w) (hk : 1 ≤ k ∧ k ≤ 5) (hall : l.all (mayV k) = true) :
 Calls Tryz.prog 12 #[.int .i64 k, .slice A n c] w (yyu k l w) := by
 have hn1 : ¬ (n : Int) > 4096 := by omega
 have hn2 : ¬ (4096 : Int) < n := by omega
 obtain ⟨wc, hwc⟩ := colW k w
 have HWC := zH hwc; have HN := zH hn; have HK := zH hk; have HL := zH h.len
 have HH := zH (h.below hwc.below zN); have HT := zH (zzc hT hwc.below)
 have hbox := hwc.box
 have HP := zH (show decide (1 ≤ k ∧ k ≤ 7) = true from decide_eq_true (by omega))
 have HQ := zH (show (!l.all (mayV k)) = false by rw [hall]; rfl)
 have hE : colE k l = 0 := by unfold colE; rw [if_pos (by omega), hall]; rfl
 have HE := zH hE
 have HR := zH (show colR k l = ((l.length : Int), colC k l) from if_pos hE)
 have HM := zH (show ∀ v ∈ l.filter zzh, v.null = false ∧ mayV k v = true from fun v hv => by
  obtain ⟨h1, h2⟩ := List.mem_filter.1 hv
  exact ⟨by simpa [zzh] using h2, List.all_eq_true.1 hall v h1⟩)
 have HC := zH (show colC k l = (1, 0, [(1, yyi l), (2, xxj k (l.filter zzh))]) from if_pos hk)
 have HNM := zH (show decide (1 ≤ k ∧ k ≤ 5) = true from decide_eq_true hk)
 clear h hn hT hwc hk hall hE
 go_enter Tryz.func12, Tryz.ntmps12
 go_upto_region 1 with fail
 rw [← HWC.out.eq]
 go_upto_region 10 with (first
  | (go_at_call 38; refine (vvT _ _).mono ?_; rintro e w1 ⟨rfl, rfl⟩; rw [HP.out])
  | (go_at_call 39; refine (jjF k w.heap.size F A n c l _ HH.out hbox HT.out).mono ?_; rintro e w1 ⟨rfl, hb1⟩; rw [HQ.out]; have HB1 := zH hb1; clear hb1)
  | (go_at_call 42; refine (qxp F A n c l _ (HH.out.below HB1.out zN) HN.out).mono ?_; rintro e w2 ⟨A1, n1, c1, A2, n2, c2, rfl, hs1, hs2, hb2⟩; have HS1 := zH hs1; have HS2 := zH hs2; have HB2 := zH hb2; clear hs1 hs2 hb2)
  | fail)
 have hz1 := HB1.out.size
 have hz2 := HB2.out.size
 have hzc := HWC.out.size
 have HZ1 := zH hz1; have HZ2 := zH hz2; have HZC := zH hzc
 have HL2 := zH HS2.out.len
 have hn24 : n2 ≤ 4096 := by have := HL2.out; have := List.length_filter_le zzh l; have := HL.out; have := HN.out; omega
 have HN2 := zH hn24
 have HBX := zH ((HWC.out.below.trans (HB1.out.mono HWC.out.below.size)).trans (HB2.out.mono (by have := HWC.out.below.size; omega)))
 have hcol2 : w2.heap[w.heap.size + 1]? = some (.cells #[.int .i64 0, .int .i64 0, .int .i64 0, .slice none 0 0] 27 (0, 0)) := (HB2.out.block _ (by omega)).trans ((HB1.out.block _ (by omega)).trans HWC.out.col)
 have HCOL := zH hcol2
 have HBOX := zH (zze HB2.out (zze HB1.out hbox))
 have HT2 := zH (zzc (zzc HT.out HB1.out) HB2.out)
 clear hbox hcol2 hz1 hz2 hzc hn24
 go_upto_region 12 with fail
 obtain ⟨w3, hw3⟩ : ∃ w3, w3 = w2.alloc (.cells #[.int .i64 (n : Int), .int .i64 1, .int .i64 0, .slice none 0 0] 85) := ⟨_, rfl⟩
 rw [← hw3]
 have hbu3 : BuR w2 w2.heap.size (n : Int) 1 0 (fun _ => False) none 0 0 [] w3 := ⟨by rw [hw3]; exact heap_alloc_new w2 _, OwnF.nil_ _ _ _ _ _, by rw [hw3]; exact (zR).alloc zN _⟩
 have BU3 := zH hbu3
 have HS13 := zH ((HS1.out.weaken (F' := fun b => w1.heap.size ≤ b ∧ b < w2.heap.size) fun b hb hl => ⟨hb, hl⟩).below hbu3.below zN)
 clear hbu3 hw3
 go_upto_region 13 with (first
  | (go_at_call 43; refine (uuY w2 w2.heap.size (n : Int) 1 0 (fun _ => False) none 0 0 [] w3 BU3.out (fun h => h) 1 (by omega) (fun b => w1.heap.size ≤ b ∧ b < w2.heap.size) A1 n1 c1 (yyi l) HS13.out (fun h => by omega) (fun b h => by cases h) (by omega)).mono ?_; rintro e w4 ⟨rfl, ⟨A4, c4, hbu4, _⟩, hz4, _⟩; have BU4 := zH hbu4; have hbox4 := zze hbu4.below HBOX.out; have HZ4 := zH hz4; clear hbu4 hz4)
  | fail)
 have HF4 := zH (show ∀ b, ((False ∨ (w1.heap.size ≤ b ∧ b < w2.heap.size)) ∧ b < w3.heap.size) → w1.heap.size ≤ b ∧ b < w2.heap.size from fun b h => h.1.elim (fun h => h.elim) id)
 go_upto_region 15 with (first
  | (go_at_call 44; refine (zzj _ _).mono ?_; rintro e w5 ⟨rfl, rfl⟩; rw [HNM.out])
  | (go_at_call 45; refine (iput_any k HK.out _ A2 n2 c2 (l.filter zzh) _ (HS2.out.below BU4.out.below zN) HN2.out HM.out (zzc HT2.out BU4.out.below)).mono ?_; rintro e w5 ⟨hb5, A5, n5, c5, rfl, ho5⟩; have HO5 := zH ho5; have HB5 := zH hb5; clear ho5 hb5)
  | fail)
 have hg4 := zzb BU4.out.hold
 have hbu5 : BuR w2 w2.heap.size (n : Int) 1 0 _ A4 1 c4 [(1, yyi l)] w5 := ⟨(HB5.out.block _ hg4).trans BU4.out.hold, BU4.out.own.keepB HB5.out, BU4.out.below.trans (HB5.out.mono (by omega))⟩
 have BU5 := zH hbu5
 have HS5 := zH (HO5.out.own.sl.weaken (F' := fun b => w4.heap.size ≤ b) fun b hb _ => by
  rcases hb with hb | hb
  · exact hb.elim
  · exact hb.2)
 have HG4 := zH hg4
 have HA4 := zH (show ∀ b, A4 = some ⟨b, 0, none⟩ → b < w4.heap.size from fun b e => (BU4.out.own.lies (b := b) (by rw [zzd, e]; rfl)).2.2)
 clear hbu5 hg4
 go_upto_region 16 with (first
  | (go_at_call 43; refine (uuY w2 w2.heap.size (n : Int) 1 0 _ A4 1 c4 [(1, yyi l)] w5 BU5.out (fun h => by have := (HF4.out _ h).2; omega) 2 (by omega) (fun b => w4.heap.size ≤ b) A5 n5 c5 (xxj k (l.filter zzh)) HS5.out (fun h => by have := HG4.out; omega) (fun b h h2 => by have := HA4.out b h; omega) (by omega)).mono ?_; rintro e w6 ⟨rfl, ⟨A6, c6, hbu6, _⟩, _, _⟩; have BU6 := zH hbu6; clear hbu6)
  | fail)
 have hg6 := BU6.out.hold
 obtain ⟨⟨z0, _⟩, ⟨z1, _⟩, ⟨z2, _⟩, ⟨z3, _⟩⟩ := zzB hg6
 have hcol6 := (BU6.out.below.block _ (zzb HCOL.out)).trans HCOL.out
 obtain ⟨⟨v0, y0⟩, ⟨v1, y1⟩, ⟨v2, y2⟩, ⟨v3, y3⟩⟩ := zzB hcol6
 have HCOL6 := zH hcol6
 clear hg6 hcol6
 go_wp2_with fail
 refine bodyPost_ret (zzm rfl _ _ (w.heap.size + 1) 27 #[.int .i64 (n : Int), .int .i64 1, .int .i64 0, .slice A6 2 c6] (0, 0) _ rfl (vv6 HCOL6.out _ _ _ _) Tryz.underlying27 rfl (by kernel_rfl)) rfl ?_
 unfold yyu
 rw [HR.out, HE.out, HC.out, ← HL.out]
 refine ⟨A6, 2, c6, rfl, ?_, zzI (HBX.out.trans (BU6.out.below.mono HBX.out.size)) (by omega) _ _ _ _⟩
 have hs7 := BU6.out.own.sl.weaken (F' := fun b => w.heap.size + 2 ≤ b) (fun b hb _ => by
  have e1 := HZ1.out; have e2 := HZ2.out; have e3 := HZC.out; have e4 := HG4.out
  rcases hb with hb | hb
  · rcases hb.1 with hb | hb
    · have := (HF4.out _ hb).1; omega
    · omega
  · have := hb.2; omega)
 exact (hs7.keep (by simp) (fun b hb _ => vv7 (by omega) _ _ _ _)).weaken fun b hb _ => by omega
end
section
open Go Go.RowKit
theorem tput_at (F : Nat → Prop) (A : Option Addr) (n c : Nat) (l : List ByteArray) (w : World) (h : Sl tStr F w A n c l) (hn : n ≤ 4096) (hs : ∀ s ∈ l, s.size ≤ 300) (enc tx : Int) (ss : List (Int × List UInt8)) (ht : txC l = (enc, tx, ss)) :
 Calls Tryz.prog 46 #[.slice A n c] w fun e w' => ∃ A' n' c', e = .returned (.tuple #[.agg #[.int .i64 (n : Int), .int .i64 enc, .int .i64 tx, .slice A' n' c'], .int .i64 0]) ∧ Sl zzw (fun b => w.heap.size ≤ b) w' A' n' c' ss ∧ Below w.heap.size w w' := by
 have h1 := tput_any F A n c l w h hn hs
 unfold uuA at h1
 rw [ht, ← h.len] at h1
 exact h1
theorem txC_len (l : List ByteArray) : (txC l).2.2.length ≤ 3 := by unfold txC; split <;> simp
theorem cput_txt (k : Int) (F : Nat → Prop) (A : Option Addr) (n c : Nat) (l : List VV) (w : World) (h : Sl tVV F w A n c l) (hn : n ≤ 4096) (hT : Lib.Utf8Tabs 0 1 w) (hk : k = 6 ∨ k = 7) (hall : l.all (mayV k) = true) :
 Calls Tryz.prog 12 #[.int .i64 k, .slice A n c] w (yyu k l w) := by
 have hn1 : ¬ (n : Int) > 4096 := by omega
 have hn2 : ¬ (4096 : Int) < n := by omega
 obtain ⟨wc, hwc⟩ := colW k w
 have HWC := zH hwc; have HN := zH hn; have HK := zH hk; have HL := zH h.len
 have HH := zH (h.below hwc.below zN); have HT := zH (zzc hT hwc.below)
 have hbox := hwc.box
 have HP := zH (show decide (1 ≤ k ∧ k ≤ 7) = true from decide_eq_true (by omega))
 have HQ := zH (show (!l.all (mayV k)) = false by rw [hall]; rfl)
 have hE : colE k l = 0 := by unfold colE; rw [if_pos (by omega), hall]; rfl
 have HE := zH hE
 have HR := zH (show colR k l = ((l.length : Int), colC k l) from if_pos hE)
 have HM := zH (show ∀ v ∈ l.filter zzh, v.null = false ∧ mayV k v = true from fun v hv => by
  obtain ⟨h1, h2⟩ := List.mem_filter.1 hv
  exact ⟨by simpa [zzh] using h2, List.all_eq_true.1 hall v h1⟩)
 obtain ⟨ws, hws⟩ : ∃ ws, ws = (l.filter zzh).map (·.s) := ⟨_, rfl⟩
 have HC := zH (show colC k l = ((txC ws).1, (txC ws).2.1, (1, yyi l) :: (txC ws).2.2) by unfold colC; rw [if_neg (by omega), hws])
 obtain ⟨enc, tx, ss, htx⟩ : ∃ enc tx ss, txC ws = (enc, tx, ss) := ⟨_, _, _, rfl⟩
 have HWS := zH hws; have HTX := zH htx
 have HNM := zH (show decide (1 ≤ k ∧ k ≤ 5) = false from decide_eq_false (by omega))
 have HSM := zH (show ∀ s ∈ ws, s.size ≤ 300 from fun s hs => by
  rw [hws] at hs
  obtain ⟨v, hv, rfl⟩ := List.mem_map.1 hs
  obtain ⟨h1, h2⟩ := HM.out v hv
  unfold mayV at h2
  rw [if_neg (by omega), if_pos hk, h1] at h2
  simp at h2
  exact h2.2.1)
 clear h hn hT hwc hk hall hE hws htx
 go_enter Tryz.func12, Tryz.ntmps12
 go_upto_region 1 with fail
 rw [← HWC.out.eq]
 go_upto_region 10 with (first
  | (go_at_call 38; refine (vvT _ _).mono ?_; rintro e w1 ⟨rfl, rfl⟩; rw [HP.out])
  | (go_at_call 39; refine (jjF k w.heap.size F A n c l _ HH.out hbox HT.out).mono ?_; rintro e w1 ⟨rfl, hb1⟩; rw [HQ.out]; have HB1 := zH hb1; clear hb1)
  | (go_at_call 42; refine (qxp F A n c l _ (HH.out.below HB1.out zN) HN.out).mono ?_; rintro e w2 ⟨A1, n1, c1, A2, n2, c2, rfl, hs1, hs2, hb2⟩; have HS1 := zH hs1; have HS2 := zH hs2; have HB2 := zH hb2; clear hs1 hs2 hb2)
  | fail)
 have hz1 := HB1.out.size
 have hz2 := HB2.out.size
 have hzc := HWC.out.size
 have HZ1 := zH hz1; have HZ2 := zH hz2; have HZC := zH hzc
 have HL2 := zH HS2.out.len
 have hn24 : n2 ≤ 4096 := by have := HL2.out; have := List.length_filter_le zzh l; have := HL.out; have := HN.out; omega
 have HN2 := zH hn24
 have HBX := zH ((HWC.out.below.trans (HB1.out.mono HWC.out.below.size)).trans (HB2.out.mono (by have := HWC.out.below.size; omega)))
 have hcol2 : w2.heap[w.heap.size + 1]? = some (.cells #[.int .i64 0, .int .i64 0, .int .i64 0, .slice none 0 0] 27 (0, 0)) := (HB2.out.block _ (by omega)).trans ((HB1.out.block _ (by omega)).trans HWC.out.col)
 have HCOL := zH hcol2
 have HBOX := zH (zze HB2.out (zze HB1.out hbox))
 have HT2 := zH (zzc (zzc HT.out HB1.out) HB2.out)
 clear hbox hcol2 hz1 hz2 hzc hn24
 go_upto_region 12 with fail
 obtain ⟨w3, hw3⟩ : ∃ w3, w3 = w2.alloc (.cells #[.int .i64 (n : Int), .int .i64 1, .int .i64 0, .slice none 0 0] 85) := ⟨_, rfl⟩
 rw [← hw3]
 have hbu3 : BuR w2 w2.heap.size (n : Int) 1 0 (fun _ => False) none 0 0 [] w3 := ⟨by rw [hw3]; exact heap_alloc_new w2 _, OwnF.nil_ _ _ _ _ _, by rw [hw3]; exact (zR).alloc zN _⟩
 have BU3 := zH hbu3
 have HS13 := zH ((HS1.out.weaken (F' := fun b => w1.heap.size ≤ b ∧ b < w2.heap.size) fun b hb hl => ⟨hb, hl⟩).below hbu3.below zN)
 clear hbu3 hw3
 go_upto_region 13 with (first
  | (go_at_call 43; refine (uuY w2 w2.heap.size (n : Int) 1 0 (fun _ => False) none 0 0 [] w3 BU3.out (fun h => h) 1 (by omega) (fun b => w1.heap.size ≤ b ∧ b < w2.heap.size) A1 n1 c1 (yyi l) HS13.out (fun h => by omega) (fun b h => by cases h) (by omega)).mono ?_; rintro e w4 ⟨rfl, ⟨A4, c4, hbu4, _⟩, hz4, _⟩; have BU4 := zH hbu4; have hbox4 := zze hbu4.below HBOX.out; have HZ4 := zH hz4; clear hbu4 hz4)
  | fail)
 have HF4 := zH (show ∀ b, ((False ∨ (w1.heap.size ≤ b ∧ b < w2.heap.size)) ∧ b < w3.heap.size) → w1.heap.size ≤ b ∧ b < w2.heap.size from fun b h => h.1.elim (fun h => h.elim) id)
 go_wp2_with (first
  | (go_at_call 44; refine (zzj _ _).mono ?_; rintro e w5 ⟨rfl, rfl⟩; rw [HNM.out])
  | fail)
 go_loopw [12, 66] (fun v iv wr => ∃ (j : Nat) (A5 : Option Addr) (c5 : Nat) (G : Nat → Prop), j ≤ n2 ∧ iv = .int .i64 (j : Int) ∧ v = .slice A5 j c5 ∧ OwnF tStr 9 G wr w4.heap.size A5 j c5 (((l.filter zzh).take j).map (·.s)) ∧ Below w4.heap.size w4 wr) (fun _ iv _ => n2 - (intOf iv).toNat)
 case atStart => exact ⟨0, none, 0, fun _ => False, Nat.zero_le _, rfl, rfl, OwnF.nil_ _ _ _ _ _, zR⟩
 case round =>
  obtain ⟨j, A5, c5, G, hj, rfl, rfl, hown, hb⟩ := hrel
  have HO := zH hown; have HB := zH hb
  have hsz := hb.size
  by_cases hlt : j < n2
  · have hjl : j < (l.filter zzh).length := by rw [← HL2.out]; exact hlt
    obtain ⟨b, o, cs, rfl, _, hbl, hrep, hc⟩ := (HS2.out.below (BU4.out.below.trans (hb.mono (by have := zzb BU4.out.hold; omega))) zN).at_ hjl (by decide)
    obtain ⟨v, hf⟩ : ∃ v, v = (l.filter zzh)[j] := ⟨_, rfl⟩
    obtain ⟨rfl, hok⟩ := hrep
    rw [← hf] at hc hok
    obtain ⟨nu, x, s⟩ := v
    have hsm : s.size ≤ maxLen := hok.2.2
    have HF := zH hf
    obtain ⟨g0, g1, g2⟩ := zzR hc
    have g0 : _ = some (Value.bool nu) := g0
    have g1 : _ = some (Value.int .i64 x) := g1
    have g2 : _ = some (Value.string s) := g2
    have hi0 : (0 : Int) ≤ (j : Int) := by omega
    have hi1 : (j : Int) < (n2 : Int) := by omega
    have hj4 : j ≤ 34359738368 := by have := HN2.out; omega
    clear hc hf hown hb hok
    go_wp2_with (first
     | (at_builtin; refine apl1 (T := tStr) kq0 _ w4 rfl (.tmp 70) (.tmp 73) rfl w4.heap.size A5 j c5 (((l.filter zzh).take j).map (·.s)) (by rfl) G (fun _ => False) (HO.out.alloc _) (HB.out.alloc hsz _) zN _ (by rw [zS]; rfl) [.string s] s ⟨rfl, hsm⟩ 9 rfl (fun _ _ _ _ h4 => h4) hj4 ?_; intro A7 c7 w7 h7)
     | fail)
    go_roundw
    case rel =>
     have e1 : ((l.filter zzh).take (j + 1)).map (·.s) = ((l.filter zzh).take j).map (·.s) ++ [s] := by
      rw [zT hjl, List.map_append, ← HF.out]; rfl
     have e2 := h7.own
     rw [← e1] at e2
     exact ⟨j + 1, A7, c7, _, by omega, by go_num, rfl, e2, h7.below⟩
    case measure => simp [intOf]; omega
  · obtain rfl : j = n2 := by omega
    obtain ⟨w5, rfl⟩ : ∃ w5, w5 = wr := ⟨wr, rfl⟩
    have e1 : (l.filter zzh).take j = l.filter zzh := zL (by rw [← HL2.out]; exact Nat.le_refl _)
    rw [e1, ← HWS.out] at hown
    have HO := zH hown.sl
    have hg4 := zzb BU4.out.hold
    have hbu5 : BuR w2 w2.heap.size (n : Int) 1 0 _ A4 1 c4 [(1, yyi l)] w5 := ⟨(hb.block _ hg4).trans BU4.out.hold, BU4.out.own.keepB hb, BU4.out.below.trans (hb.mono (by omega))⟩
    have BU5 := zH hbu5
    have hg5 := zzb hbu5.hold
    clear hown hbu5 e1
    go_upto_region 24 with (first
     | (go_at_call 46; refine (tput_at _ A5 j c5 ws w5 HO.out HN2.out HSM.out enc tx ss HTX.out).mono ?_; rintro e w6 ⟨A6, n6, c6, rfl, hs6, hb6⟩; have HS6 := zH hs6; have HB6 := zH hb6; clear hs6 hb6)
     | fail)
    obtain ⟨w7, hw7⟩ : ∃ w7, w7 = w6.alloc (.cells #[.int .i64 (j : Int), .int .i64 enc, .int .i64 tx, .slice A6 n6 c6] 27) := ⟨_, rfl⟩
    rw [← hw7]
    have hb67 : Below w5.heap.size w5 w7 := by rw [hw7]; exact HB6.out.alloc HB6.out.size _
    have hg7 : w7.heap[w6.heap.size]? = some (.cells #[.int .i64 (j : Int), .int .i64 enc, .int .i64 tx, .slice A6 n6 c6] 27 (0, 0)) := by rw [hw7]; exact heap_alloc_new _ _
    have HS7 := zH (show Sl zzw (fun b => w5.heap.size ≤ b ∧ b < w7.heap.size) w7 A6 n6 c6 ss from by
     have h1 := HS6.out.alloc (.cells #[.int .i64 (j : Int), .int .i64 enc, .int .i64 tx, .slice A6 n6 c6] 27)
     rw [← hw7] at h1
     exact h1.weaken fun b hb hl => ⟨hb, hl⟩)
    have hbu7 : BuR w2 w2.heap.size (n : Int) 1 0 _ A4 1 c4 [(1, yyi l)] w7 := ⟨(hb67.block _ hg5).trans BU5.out.hold, BU5.out.own.keepB hb67, BU5.out.below.trans (hb67.mono (by omega))⟩
    have BU7 := zH hbu7; have HG7 := zH hg7; have HB67 := zH hb67; have HG5 := zH hg5
    have hsz67 : w6.heap.size < w7.heap.size := zzb hg7
    have hsz6 := HB6.out.size
    have hsz5 := hb.size
    have hgne : w6.heap.size ≠ w2.heap.size := by omega
    have hgne2 : ¬ w2.heap.size = w6.heap.size := by omega
    have hg27 : w2.heap.size < w7.heap.size := by omega
    obtain ⟨⟨q0, p0⟩, ⟨q1, p1⟩, ⟨q2, p2⟩, ⟨q3, p3⟩⟩ := zzB hg7
    obtain ⟨⟨u0, t0⟩, ⟨u1, t1⟩, ⟨u2, t2⟩, ⟨u3, t3⟩⟩ := zzB hbu7.hold
    have HA4 := zH (show ∀ b, A4 = some ⟨b, 0, none⟩ → b < w5.heap.size from fun b e => (BU5.out.own.lies (b := b) (by rw [zzd, e]; rfl)).2.2)
    clear hw7 hb67 hg7 hbu7
    go_cut [] from 81 to 89 (fun wx => ∃ wd, wd = wx ∧ BuR w2 w2.heap.size (n : Int) enc tx (fun b => (False ∨ w1.heap.size ≤ b ∧ b < w2.heap.size) ∧ b < w3.heap.size) A4 1 c4 [(1, yyi l)] wd ∧ w7.heap.size ≤ wd.heap.size ∧ ∀ b, b < w7.heap.size → b ≠ w2.heap.size → wd.heap[b]? = w7.heap[b]?)
    case first =>
     go_region
     all_goals
      go_wp2_with fail
      go_meet
      refine ⟨_, rfl, ⟨zza (zza BU7.out.hold rfl) rfl, BU7.out.own.keep (by simp) (fun b hb hl => ?_), ?_⟩, by simp, fun b h1 h2 => (Below.heap_setCell _ _ _ _ h2).trans ((Below.heap_setCell _ _ _ _ h2).trans rfl)⟩
      · have hne : b ≠ w2.heap.size := by
         rcases hb with hb | hb
         · have := (HF4.out b hb).2; omega
         · have := hb.2; omega
        exact (Below.heap_setCell _ _ _ _ hne).trans ((Below.heap_setCell _ _ _ _ hne).trans rfl)
      · first
         | exact zzf (zzf (zzA BU7.out.below _) zN _) zN _
         | exact zzf (zzf BU7.out.below zN _) zN _
    case rest =>
     obtain ⟨wd, rfl, hbu8, hsz8, hk8⟩ := hcut
     have BU8 := zH hbu8; have HK8 := zH hk8; have HZ8 := zH hsz8
     have hg8 := (hk8 _ hsz67 hgne).trans HG7.out
     clear q0 p0 q1 p1 q2 p2 q3 p3 u0 t0 u1 t1 u2 t2 u3 t3
     obtain ⟨_, _, _, ⟨q3, _⟩⟩ := zzB hg8
     have HS8 := zH (HS7.out.keep hsz8 (fun b hb hl => hk8 b hl (by omega)))
     have HL6 := zH HS7.out.len
     have HN6 := zH (show n6 ≤ 3 by have h1 := txC_len ws; rw [HTX.out] at h1; have h2 : ss.length ≤ 3 := h1; have := HL6.out; omega)
     have HZ5 := zH (show w2.heap.size < w5.heap.size ∧ w5.heap.size ≤ wd.heap.size by omega)
     clear hbu8 hk8 hg8
     refine ‹∀ (a : Act) (w_1 : World), Code.wp _ _ _ a w_1 → _› _ _ ?_
     go_wp2_with fail
     go_loopw [92] (fun iv wx => ∃ (i : Nat) (A7 : Option Addr) (c7 : Nat) (G : Nat → Prop), i ≤ n6 ∧ iv = .int .i64 (i : Int) ∧ BuR w2 w2.heap.size (n : Int) enc tx G A7 (1 + i) c7 ((1, yyi l) :: ss.take i) wx ∧ (∀ b, G b → w1.heap.size ≤ b ∧ b ≠ w2.heap.size) ∧ (∀ b, A7.map (·.block) = some b → b < w5.heap.size ∨ wd.heap.size ≤ b) ∧ wd.heap.size ≤ wx.heap.size ∧ ∀ b, w5.heap.size ≤ b → b < wd.heap.size → wx.heap[b]? = wd.heap[b]?) (fun iv _ => n6 - (intOf iv).toNat)
     case atStart =>
      refine ⟨0, A4, c4, _, Nat.zero_le _, rfl, BU8.out, fun b hb => ?_, fun b hb => .inl ?_, Nat.le_refl _, fun _ _ _ => rfl⟩
      · have := HF4.out b hb; omega
      · obtain ⟨e, _⟩ := BU8.out.own.lies (b := b) (by rw [zzd]; exact hb)
        exact HA4.out b e
     case round =>
      obtain ⟨i, A7, c7, G, hi, rfl, hbu, hG, hA7, hszx, hkx⟩ := hrel
      obtain ⟨wx, rfl⟩ : ∃ wx, wx = wr := ⟨wr, rfl⟩
      have BUX := zH hbu; have HGX := zH hG; have HAX := zH hA7; have HKX := zH hkx; have HZX := zH hszx
      by_cases hlt : i < n6
      · have hil : i < ss.length := by rw [← HL6.out]; exact hlt
        obtain ⟨b, o, cs, rfl, _, hbl, hrep, hc⟩ := (HS8.out.keep hszx (fun b hb hl => hkx b hb.1 (by have := HZ8.out; omega))).at_ hil (by decide)
        obtain ⟨x, hf⟩ : ∃ x, x = ss[i] := ⟨_, rfl⟩
        obtain ⟨kk, bs⟩ := x
        rw [← hf] at hrep
        obtain ⟨d1, d2, rfl, ⟨h1, h1'⟩, A8, n8, c8, h2, hsl⟩ := hrep
        subst h1 h2
        obtain ⟨g0, g1⟩ := xxN hc
        have g0 : _ = some (Value.int .i64 kk) := g0
        have g1 : _ = some (Value.slice A8 n8 c8) := g1
        have HSL := zH hsl; have HKK := zH h1'; have HF := zH hf
        have hi0 : (0 : Int) ≤ (i : Int) := by omega
        have hi1 : (i : Int) < (n6 : Int) := by omega
        have hgx := zzb hbu.hold
        have hi3 : i ≤ 3 := by have := HN6.out; omega
        have HB9 := zH (show BuR w2 w2.heap.size (n : Int) enc tx G A7 (1 + i) c7 ((1, yyi l) :: ss.take i) (wx.alloc (.cells #[.int .i64 kk, .slice A8 n8 c8] 55)) from ⟨(Below.heap_alloc _ _ _ hgx).trans hbu.hold, hbu.own.alloc _, hbu.below.alloc (by omega) _⟩)
        clear hc hf h1' hsl hbu hG hA7 hszx hkx
        go_wp2_with (first
         | (go_at_call 43; refine (uuY w2 w2.heap.size (n : Int) enc tx G A7 (1 + i) c7 _ _ HB9.out (fun h => (HGX.out _ h).2 rfl) kk HKK.out _ A8 n8 c8 bs (HSL.out.alloc _) (fun h => by have := HZ5.out; omega) (fun b h h2 => by have h3 := HAX.out b (by rw [h]; rfl); have := HZ8.out; omega) (by have := HN6.out; omega)).mono ?_; rintro e w9 ⟨rfl, ⟨A9, c9, hbu9, hl9⟩, hz9, hk9⟩; have BU9 := zH hbu9; have HL9 := zH hl9; have HZ9 := zH hz9; have HK9 := zH hk9; clear hbu9 hl9 hz9 hk9)
         | fail)
        go_roundw
        case rel =>
         have hz9 := HZ9.out
         rw [zS] at hz9
         have e1 : (1, yyi l) :: ss.take (i + 1) = (1, yyi l) :: ss.take i ++ [(kk, bs)] := by
          rw [zT hil, ← HF.out]; rfl
         have hbu9 := BU9.out
         rw [← e1] at hbu9
         refine ⟨i + 1, A9, c9, _, by omega, by go_num, hbu9, fun b hb => ?_, fun b hb => ?_, ?_, fun b h1 h2 => ?_⟩
         · have h5 := HZ5.out; have h2 := HZ2.out; have h8 := HZ8.out
           rcases hb.1 with hb | hb
           · exact HGX.out b hb
           · omega
         · rcases HL9.out with h | h
           · exact HAX.out b (h.symm.trans hb)
           · rw [hb] at h
             injection h with h
             rw [zS] at h
             have := HZX.out
             omega
         · have := HZX.out; omega
         · have h5 := HZ5.out; have hzx := HZX.out
           exact (HK9.out b (by rw [zS]; omega) (by omega) (fun e => by have := HAX.out b e; omega)).trans ((Below.heap_alloc _ _ _ (by omega)).trans (HKX.out b h1 h2))
        case measure => simp [intOf]; omega
      · obtain rfl : i = n6 := by omega
        have e1 : ss.take i = ss := zL (by rw [← HL6.out]; exact Nat.le_refl _)
        rw [e1] at hbu
        have BUY := zH hbu
        have hg6 := hbu.hold
        obtain ⟨⟨z0, _⟩, ⟨z1, _⟩, ⟨z2, _⟩, ⟨z3, _⟩⟩ := zzB hg6
        have hcol6 := (hbu.below.block _ (zzb HCOL.out)).trans HCOL.out
        obtain ⟨⟨v0, y0⟩, ⟨v1, y1⟩, ⟨v2, y2⟩, ⟨v3, y3⟩⟩ := zzB hcol6
        have HCOL6 := zH hcol6
        clear hg6 hcol6 hbu e1 hG hA7 hkx hszx BUX
        go_wp2_with fail
        refine bodyPost_ret (zzm rfl _ _ (w.heap.size + 1) 27 #[.int .i64 (n : Int), .int .i64 enc, .int .i64 tx, .slice A7 (1 + i) c7] (0, 0) _ rfl (vv6 HCOL6.out _ _ _ _) Tryz.underlying27 rfl (by kernel_rfl)) rfl ?_
        unfold yyu
        rw [HR.out, HE.out, HC.out, HTX.out, ← HL.out]
        refine ⟨A7, 1 + i, c7, rfl, ?_, zzI (HBX.out.trans (BUY.out.below.mono HBX.out.size)) (by omega) _ _ _ _⟩
        have hs7 := BUY.out.own.sl.weaken (F' := fun b => w.heap.size + 2 ≤ b) (fun b hb _ => by
         have e1 := HZ1.out; have e2 := HZ2.out; have e3 := HZC.out
         rcases hb with hb | hb
         · have := (HGX.out _ hb).1; omega
         · have := hb.2; omega)
        exact (hs7.keep (by simp) (fun b hb _ => vv7 (by omega) _ _ _ _)).weaken fun b hb _ => by omega
end
end Go.Proofs.YtpmglcachffojaaGreatDoor
