/- A part of what Puts leans on. -/
import Derived.Test.YtpmglcachffojaaGreatDoorZ41
import Derived.Test.YtpmglcachffojaaGreatDoorZ46
set_option maxRecDepth 100000
set_option maxHeartbeats 16000000
namespace Go.Proofs.YtpmglcachffojaaGreatDoor
section
open Go Go.RowKit
theorem xqJ {cols : List CC} {rows : List RR} : ∀ s ∈ putS cols rows, s.2.1.length ≤ 4096 ∧ s.2.2.length ≤ 4096 := by
 by_cases h : putE cols rows = 0
 · obtain ⟨hs, _, _⟩ := jj3 h
   rw [(jjX h).2]
   intro s hs2
   unfold stR at hs2
   obtain ⟨k, _, rfl⟩ := List.mem_map.1 hs2
   have := uua hs
   exact ⟨by show (xxL cols (zz0 rows k) cols.length).length ≤ _; rw [qz0]; omega, by show (xxI cols (zz0 rows k) cols.length).length ≤ _; rw [statP_len]; omega⟩
 · rw [(qxD h).2]; simp
theorem jj6 (F F2 : Nat → Prop) (A A2 : Option Addr) (n c n2 c2 : Nat) (cols : List CC) (rows : List RR) (w : World) (h : Sl tCol F w A n c cols) (h2 : Sl tRow F2 w A2 n2 c2 rows) (hU : Lib.Utf8Tabs 0 1 w) :
 Calls Tryz.prog 4 #[.slice A n c, .slice A2 n2 c2] w fun e w' => e = .returned (.bool true) ∧ Below w.heap.size w w' := by
 have HH := zH h; have HH2 := zH h2; have HU := zH hU; have HOK := zH (row_ok h2); have HC1 := zH h.2.1
 clear h h2 hU
 go_enter Tryz.func4, Tryz.ntmps4
 go_upto_if 19 with (first
  | (go_at_call 17; refine (zqT _ HU.out).mono ?_; rintro e w1 ⟨rfl, hb1⟩; have HB1 := zH hb1; clear hb1)
  | (go_at_call 18; refine (zqU F2 A2 n2 c2 rows _ (HH2.out.below HB1.out zN)).mono ?_; rintro e w2 ⟨⟨A3, n3, c3, rfl, hs3, hn3⟩, rfl⟩; have HS3 := zH hs3; have HN3 := zH hn3; clear hs3 hn3)
  | fail)
 go_cut [0] from 20 to 21 (fun s0 wx => ∃ n4, w1 = wx ∧ s0 = .slice A n4 c ∧ n4 ≤ 8 ∧ Sl tCol F w1 A n4 c (cols.take 8))
 case first =>
  by_cases h8 : (n : Int) > 8
  · have h9 : (8 : Int) ≤ (c : Int) := by have := HC1.out; omega
    have HX := zH ((HH.out.below HB1.out zN).fst (k := 8) (by omega))
    go_wp2_with fail
    go_meet
    exact ⟨8, rfl, rfl, Nat.le_refl _, HX.out⟩
  · have HX := zH (HH.out.below HB1.out zN)
    have HY : Hid (cols.take 8 = cols) := zH (zL (by rw [← HH.out.len]; omega))
    have HM : Hid (n ≤ 8) := zH (by omega)
    go_wp2_with fail
    go_meet
    exact ⟨n, rfl, rfl, HM.out, by rw [HY.out]; exact HX.out⟩
 obtain ⟨n4, rfl, rfl, hn4, hs4⟩ := hcut
 obtain ⟨cs, hcs⟩ : ∃ cs, cs = cols.take 8 := ⟨_, rfl⟩
 obtain ⟨rs, hrs⟩ : ∃ rs, rs = rows.take 40 := ⟨_, rfl⟩
 have HOR : Hid (∀ r ∈ rs, ∀ v ∈ r, VV.ok v) := zH (by rw [hrs]; exact fun r hr => HOK.out r (List.mem_of_mem_take hr))
 rw [← hcs] at hs4
 rw [← hrs] at HS3
 have HS4 := zH hs4; have HN4 := zH hn4
 clear hcs hrs hs4 hn4
 go_upto_region 6 with (first
  | (go_at_call 19; refine (xq5 _).mono ?_; rintro e w5 ⟨rfl, hb5⟩; have HB5 := zH hb5; clear hb5; obtain ⟨w6, ht6⟩ := tabW w5; have HT6 := zH ht6; clear ht6)
  | (with_reducible refine wpList_store_mid rfl _ _ _ rfl w5.heap.size 0 jjl rfl rfl (qzO w5) (by kernel_rfl) one_tab ?_)
  | fail)
 rw [← HT6.out.eq]
 obtain ⟨g, hg⟩ : ∃ g, g = w5.heap.size := ⟨_, rfl⟩
 have HTG : Hid (TabC g w6) := zH (by rw [hg]; exact HT6.out.tab)
 have HB16 := zH (HB5.out.trans (HT6.out.below.mono HB5.out.size))
 have HB6 := zH (HB1.out.trans (HB16.out.mono HB1.out.size))
 rw [← hg]
 have HS36 := zH (HS3.out.below HB16.out zN)
 have HS46 := zH (HS4.out.below HB16.out zN)
 have HU6 := zH (zzc HU.out HB6.out)
 obtain ⟨e0, he0⟩ : ∃ e0, e0 = putE cs rs := ⟨_, rfl⟩
 obtain ⟨D, hD⟩ : ∃ D, D = putD cs rs := ⟨_, rfl⟩
 obtain ⟨L, hL⟩ : ∃ L, L = putS cs rs := ⟨_, rfl⟩
 have hSO := putS_ok (cols := cs) HOR.out
 have hSM := xqJ (cols := cs) (rows := rs)
 rw [← hL] at hSO hSM
 have HSO := zH hSO; have HSM := zH hSM
 have HE0 := zH he0; have HD := zH hD; have HL := zH hL
 clear hg he0 hD hL hSO hSM
 go_upto_region 7 with (first
  | (go_at_call 20; refine (qxH g F F2 A A3 n4 c n3 c3 cs rs w6 HTG.out HS46.out HS36.out (by have := HN4.out; omega) (by have := HN3.out; omega) HU6.out).mono ?_; rintro e w7 ⟨A7, n7, c7, A8, n8, c8, rfl, hs7, hs8, hb7⟩; rw [← HE0.out]; rw [← HD.out] at hs7; rw [← HL.out] at hs8; have HB7 := zH hb7; have HS7 := zH hs7; have HS8 := zH hs8; clear hs7 hs8 hb7)
  | fail)
 have HS37 := zH (HS36.out.below HB7.out zN)
 have HS47 := zH (HS46.out.below HB7.out zN)
 have HU7 := zH (zzc HU6.out HB7.out)
 go_upto_region 8 with (first
  | (go_at_call 21; refine (xqF F F2 A A3 n4 c n3 c3 cs rs w7 HS47.out HS37.out (by have := HN4.out; omega) (by have := HN3.out; omega) HU7.out).mono ?_; rintro e w8 ⟨A9, n9, c9, A10, n10, c10, rfl, hs9, hs10, hb8⟩; rw [← HE0.out]; rw [← HD.out] at hs9; rw [← HL.out] at hs10; have HB8 := zH hb8; have HS9 := zH hs9; have HS10 := zH hs10; clear hs9 hs10 hb8)
  | fail)
 have HN8 : Hid (n8 ≤ 5) := zH (by rw [HS8.out.len]; exact HSO.out.1)
 obtain rfl : n10 = n8 := by rw [HS10.out.len, HS8.out.len]
 have HS78 := zH (HS7.out.below HB8.out zN)
 have HS88 := zH (HS8.out.below HB8.out zN)
 have HTG8 := zH ((HTG.out.keep HB7.out).keep HB8.out)
 go_upto_region 9 with (first
  | (go_at_call 23; refine (xqI _ A8 _ c8 L w8 HS88.out (by have := HN8.out; omega)).mono ?_; rintro e w9 ⟨A11, c11, rfl, hs11, hb9⟩; have HB9 := zH hb9; have HS11 := zH hs11; clear hs11 hb9)
  | (go_at_call 22; refine (xqH _ _ A11 A10 _ c11 c10 L w9 HS11.out (HS10.out.below HB9.out zN) (by have := HN8.out; omega) HSM.out).mono ?_; rintro e w10 ⟨rfl, hb10⟩; have HB10 := zH (HB9.out.trans (hb10.mono HB9.out.size)); clear hb10)
  | fail)
 have HBW : Hid (Below w.heap.size w w10) := zH (((HB6.out.trans (HB7.out.mono HB6.out.size)).trans (HB8.out.mono (Nat.le_trans HB6.out.size HB7.out.size))).trans (HB10.out.mono (Nat.le_trans (Nat.le_trans HB6.out.size HB7.out.size) HB8.out.size)))
 have HD7 := zH (HS78.out.below HB10.out zN)
 have HD9 := zH (HS9.out.below HB10.out zN)
 have HI8 := zH (HS88.out.below HB10.out zN)
 have HI10 := zH (HS10.out.below HB10.out zN)
 have HTG10 := zH (HTG8.out.keep HB10.out)
 have hD7 := vvY HD7.out.drew
 have hD9 := vvY HD9.out.drew
 refine regL [(none, fun w' => (convert 41 9 (.slice A7 n7 c7)).run Tryz.prog w' = .ok (.string ⟨D.toArray⟩) w'), (none, fun w' => (convert 41 9 (.slice A9 n9 c9)).run Tryz.prog w' = .ok (.string ⟨D.toArray⟩) w')] (by kernel_rfl) ?_ (fun hHeld => ?_)
 · exact ⟨(by first | exact hD7 | exact hE7 | exact hF7 | fail), (by first | exact hD9 | exact hE9 | exact hF9 | fail), trivial⟩
 iterate 4
  all_goals
   repeat ((first | (refine tkP 0 (oi := ⟨_, _, _, _, _, _⟩) (v := ?_) rfl (by decide +kernel) rfl (fun _ _ _ h => h) rfl hHeld ?_ ?_) | (refine tkP 1 (oi := ⟨_, _, _, _, _, _⟩) (v := ?_) rfl (by decide +kernel) rfl (fun _ _ _ h => h) rfl hHeld ?_ ?_) | (refine tkP 2 (oi := ⟨_, _, _, _, _, _⟩) (v := ?_) rfl (by decide +kernel) rfl (fun _ _ _ h => h) rfl hHeld ?_ ?_) | (refine tkL 3 0 rfl (oi := ⟨_, _, _, _, _, _⟩) (v := ?_) rfl (by decide +kernel) rfl (fun _ _ _ h => h) rfl hHeld ?_ ?_) | (refine tkP 4 (oi := ⟨_, _, _, _, _, _⟩) (v := ?_) rfl (by decide +kernel) rfl (fun _ _ _ h => h) rfl hHeld ?_ ?_) | (refine tkL 5 1 rfl (oi := ⟨_, _, _, _, _, _⟩) (v := ?_) rfl (by decide +kernel) rfl (fun _ _ _ h => h) rfl hHeld ?_ ?_) | (refine tkP 6 (oi := ⟨_, _, _, _, _, _⟩) (v := ?_) rfl (by decide +kernel) rfl (fun _ _ _ h => h) rfl hHeld ?_ ?_) | (refine tkP 7 (oi := ⟨_, _, _, _, _, _⟩) (v := ?_) rfl (by decide +kernel) rfl (fun _ _ _ h => h) rfl hHeld ?_ ?_) | (refine tkP 8 (oi := ⟨_, _, _, _, _, _⟩) (v := ?_) rfl (by decide +kernel) rfl (fun _ _ _ h => h) rfl hHeld ?_ ?_) | (refine tkP 9 (oi := ⟨_, _, _, _, _, _⟩) (v := ?_) rfl (by decide +kernel) rfl (fun _ _ _ h => h) rfl hHeld ?_ ?_) | (refine tkP 10 (oi := ⟨_, _, _, _, _, _⟩) (v := ?_) rfl (by decide +kernel) rfl (fun _ _ _ h => h) rfl hHeld ?_ ?_) | (refine tkP 11 (oi := ⟨_, _, _, _, _, _⟩) (v := ?_) rfl (by decide +kernel) rfl (fun _ _ _ h => h) rfl hHeld ?_ ?_) | (refine tkP 12 (oi := ⟨_, _, _, _, _, _⟩) (v := ?_) rfl (by decide +kernel) rfl (fun _ _ _ h => h) rfl hHeld ?_ ?_) | (refine tkP 13 (oi := ⟨_, _, _, _, _, _⟩) (v := ?_) rfl (by decide +kernel) rfl (fun _ _ _ h => h) rfl hHeld ?_ ?_) | (refine tkP 14 (oi := ⟨_, _, _, _, _, _⟩) (v := ?_) rfl (by decide +kernel) rfl (fun _ _ _ h => h) rfl hHeld ?_ ?_) | (refine tkP 15 (oi := ⟨_, _, _, _, _, _⟩) (v := ?_) rfl (by decide +kernel) rfl (fun _ _ _ h => h) rfl hHeld ?_ ?_) | (refine tkP 16 (oi := ⟨_, _, _, _, _, _⟩) (v := ?_) rfl (by decide +kernel) rfl (fun _ _ _ h => h) rfl hHeld ?_ ?_) | (refine tkP 17 (oi := ⟨_, _, _, _, _, _⟩) (v := ?_) rfl (by decide +kernel) rfl (fun _ _ _ h => h) rfl hHeld ?_ ?_) | (refine tkP 20 (oi := ⟨_, _, _, _, _, _⟩) (v := ?_) rfl (by decide +kernel) rfl (fun _ _ _ h => h) rfl hHeld ?_ ?_) | (refine tkP 23 (oi := ⟨_, _, _, _, _, _⟩) (v := ?_) rfl (by decide +kernel) rfl (fun _ _ _ h => h) rfl hHeld ?_ ?_) | (refine tkP 24 (oi := ⟨_, _, _, _, _, _⟩) (v := ?_) rfl (by decide +kernel) rfl (fun _ _ _ h => h) rfl hHeld ?_ ?_) | (refine tkP 25 (oi := ⟨_, _, _, _, _, _⟩) (v := ?_) rfl (by decide +kernel) rfl (fun _ _ _ h => h) rfl hHeld ?_ ?_)); rotate_left; (focus (intro w; (try intro hSw); (try dsimp only at hSw); go_simp; try with_reducible rfl)); intro hHeld; (try simp only [Act.put]); (try simp only [List.setIfInBounds_toArray]); (try simp only [List.set_cons_succ]); (try simp only [List.set_cons_zero]))
   first | (refine rd1 18 (o := ⟨_, _, _, _, _, _⟩) (by decide +kernel) rfl (fun K hK => ?_)) | (refine rd1 19 (o := ⟨_, _, _, _, _, _⟩) (by decide +kernel) rfl (fun K hK => ?_)) | (refine rd2 19 21 (o := ⟨_, _, _, _, _, _⟩) (o' := ⟨_, _, _, _, _, _⟩) (by decide +kernel) rfl rfl (fun K hK => ?_) (fun K hK => ?_)) | (refine rd2 19 22 (o := ⟨_, _, _, _, _, _⟩) (o' := ⟨_, _, _, _, _, _⟩) (by decide +kernel) rfl rfl (fun K hK => ?_) (fun K hK => ?_)) | (refine rd1 21 (o := ⟨_, _, _, _, _, _⟩) (by decide +kernel) rfl (fun K hK => ?_)) | (refine rd1 22 (o := ⟨_, _, _, _, _, _⟩) (by decide +kernel) rfl (fun K hK => ?_))
  all_goals
   first  | (go_simp; (first | (go_at_call 24; refine (qz8 g _ A8 _ c8 L w10.drew (HTG10.out) HI8.out.drew (by have := HN8.out; omega) HSO.out.2).mono ?_; rintro e w11 ⟨A12, n12, c12, rfl, ho12, hb11⟩; have HB11 : Hid (Below w10.heap.size w10 w11) := zH (((zR).drew).trans hb11); have HO12 := zH ho12; have hE7 := vvY (HD7.out.below HB11.out zN); have hE9 := vvY (HD9.out.below HB11.out zN); have hX := vvY ho12.bs; clear ho12 hb11) | (go_at_call 25; refine (qze _ A10 _ c10 L w11 (HI10.out.below HB11.out zN) (by have := HN8.out; omega) HSO.out.2).mono ?_; rintro e w12 ⟨A13, n13, c13, rfl, ho13, hb12⟩; have HB12 := zH hb12; have hF7 := vvY ((HD7.out.below HB11.out zN).below HB12.out zN); have hF9 := vvY ((HD9.out.below HB11.out zN).below HB12.out zN); have hX2 := vvY (HO12.out.bs.below HB12.out zN); have hY := vvY ho13.bs; clear ho13 hb12) | fail)) | go_simp
   refine hK.out _ _ ?_ (fun hHeld => ?_)
   · (try dsimp only); exact ⟨(by first | exact hD7 | exact hE7 | exact hF7 | fail), (by first | exact hD9 | exact hE9 | exact hF9 | fail), trivial⟩
   clear hK K; (try simp only [Act.put]); (try simp only [List.setIfInBounds_toArray]); (try simp only [List.set_cons_succ]); (try simp only [List.set_cons_zero])
 all_goals
  repeat ((first | (refine tkP 23 (oi := ⟨_, _, _, _, _, _⟩) (v := ?_) rfl (by decide +kernel) rfl (fun _ _ _ h => h) rfl hHeld ?_ ?_) | (refine tkP 24 (oi := ⟨_, _, _, _, _, _⟩) (v := ?_) rfl (by decide +kernel) rfl (fun _ _ _ h => h) rfl hHeld ?_ ?_) | (refine tkP 25 (oi := ⟨_, _, _, _, _, _⟩) (v := ?_) rfl (by decide +kernel) rfl (fun _ _ _ h => h) rfl hHeld ?_ ?_)); rotate_left; (focus (intro w; (try intro hSw); (try dsimp only at hSw); go_simp; try with_reducible rfl)); intro hHeld; (try simp only [Act.put]); (try simp only [List.setIfInBounds_toArray]); (try simp only [List.set_cons_succ]); (try simp only [List.set_cons_zero]))
  refine qzw (by decide +kernel) ?_ _
  go_wp2_with fail
  go_ret
  exact ⟨rfl, HBW.out.trans ((HB11.out.trans (HB12.out.mono HB11.out.size)).mono HBW.out.size)⟩
end
end Go.Proofs.YtpmglcachffojaaGreatDoor
