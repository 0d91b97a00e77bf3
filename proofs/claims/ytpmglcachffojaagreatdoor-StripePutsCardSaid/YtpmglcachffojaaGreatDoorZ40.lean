/- A part of what Puts leans on. -/
import Derived.Test.YtpmglcachffojaaGreatDoorZ39
set_option maxRecDepth 100000
set_option maxHeartbeats 16000000
namespace Go.Proofs.YtpmglcachffojaaGreatDoor
section
open Go Go.RowKit
structure RoR (w0 : World) (gs : Nat) (c : Int) (hn : Bool) (mn mx : VV) (v : VV) (w : World) : Prop where
 s : w.heap[gs]? = some (.cells #[.int .i64 c, .bool hn, .bool mn.null, .int .i64 mn.n, .string mn.s, .bool mx.null, .int .i64 mx.n, .string mx.s, .int .i64 0, .bool false] 109 (0, 0))
 b : w.heap[w0.heap.size]? = some (.cells #[.bool v.null, .int .i64 v.n, .string v.s] 74 (0, 0))
 size : w0.heap.size + 1 ≤ w.heap.size
 keep : ∀ b, b < w0.heap.size → b ≠ gs → w.heap[b]? = w0.heap[b]?
 below : ∀ (a : World) (B : Nat), Below B a w0 → B ≤ gs → Below B a w
 lts : gs < w0.heap.size
section
variable {w0 w w' : World} {gs : Nat} {c : Int} {hn : Bool} {mn mx : VV} {v : VV}
theorem RoR.call (h : RoR w0 gs c hn mn mx v w) (hb : Below w.heap.size w w') : RoR w0 gs c hn mn mx v w' :=
 ⟨(hb.block _ (zzb h.s)).trans h.s, (hb.block _ (zzb h.b)).trans h.b, Nat.le_trans h.size hb.size, fun b h1 h2 => (hb.block b (by have := h.size; omega)).trans (h.keep b h1 h2), fun a B h1 h2 => (h.below a B h1 h2).trans (hb.mono (by have := h.lts; have := h.size; omega)), h.lts⟩
theorem RoR.init (h : w.heap[gs]? = some (.cells #[.int .i64 c, .bool hn, .bool mn.null, .int .i64 mn.n, .string mn.s, .bool mx.null, .int .i64 mx.n, .string mx.s, .int .i64 0, .bool false] 109 (0, 0))) : RoR w gs c hn mn mx v (w.alloc (.cells #[.bool v.null, .int .i64 v.n, .string v.s] 74)) :=
 ⟨(Below.heap_alloc w _ _ (zzb h)).trans h, heap_alloc_new w _, by simp, fun b h1 _ => Below.heap_alloc w _ b h1, fun a B h1 h2 => h1.alloc (Nat.le_trans h2 (Nat.le_of_lt (zzb h))) _, zzb h⟩
theorem RoR.setMin (h : RoR w0 gs c hn mn mx v w) (u : VV) : RoR w0 gs c hn u mx v (((w.setCell ⟨gs, 2, none⟩ (.bool u.null)).setCell ⟨gs, 3, none⟩ (.int .i64 u.n)).setCell ⟨gs, 4, none⟩ (.string u.s)) := by
 have hgv : w0.heap.size ≠ gs := by have := h.lts; omega
 exact ⟨(zza (cs' := #[.int .i64 c, .bool hn, .bool u.null, .int .i64 u.n, .string u.s, .bool mx.null, .int .i64 mx.n, .string mx.s, .int .i64 0, .bool false]) (zza (cs' := #[.int .i64 c, .bool hn, .bool u.null, .int .i64 u.n, .string mn.s, .bool mx.null, .int .i64 mx.n, .string mx.s, .int .i64 0, .bool false]) (zza (cs' := #[.int .i64 c, .bool hn, .bool u.null, .int .i64 mn.n, .string mn.s, .bool mx.null, .int .i64 mx.n, .string mx.s, .int .i64 0, .bool false]) h.s rfl) rfl) rfl), ((Below.heap_setCell _ _ _ _ hgv).trans ((Below.heap_setCell _ _ _ _ hgv).trans ((Below.heap_setCell _ _ _ _ hgv).trans h.b))), by simpa using h.size, fun b h1 h2 => ((Below.heap_setCell _ _ _ _ h2).trans ((Below.heap_setCell _ _ _ _ h2).trans ((Below.heap_setCell _ _ _ _ h2).trans (h.keep b h1 h2)))), fun a B h1 h2 => (zzf (zzf (zzf (h.below a B h1 h2) h2 _) h2 _) h2 _), h.lts⟩
theorem RoR.setMax (h : RoR w0 gs c hn mn mx v w) (u : VV) : RoR w0 gs c hn mn u v (((w.setCell ⟨gs, 5, none⟩ (.bool u.null)).setCell ⟨gs, 6, none⟩ (.int .i64 u.n)).setCell ⟨gs, 7, none⟩ (.string u.s)) := by
 have hgv : w0.heap.size ≠ gs := by have := h.lts; omega
 exact ⟨(zza (cs' := #[.int .i64 c, .bool hn, .bool mn.null, .int .i64 mn.n, .string mn.s, .bool u.null, .int .i64 u.n, .string u.s, .int .i64 0, .bool false]) (zza (cs' := #[.int .i64 c, .bool hn, .bool mn.null, .int .i64 mn.n, .string mn.s, .bool u.null, .int .i64 u.n, .string mx.s, .int .i64 0, .bool false]) (zza (cs' := #[.int .i64 c, .bool hn, .bool mn.null, .int .i64 mn.n, .string mn.s, .bool u.null, .int .i64 mx.n, .string mx.s, .int .i64 0, .bool false]) h.s rfl) rfl) rfl), ((Below.heap_setCell _ _ _ _ hgv).trans ((Below.heap_setCell _ _ _ _ hgv).trans ((Below.heap_setCell _ _ _ _ hgv).trans h.b))), by simpa using h.size, fun b h1 h2 => ((Below.heap_setCell _ _ _ _ h2).trans ((Below.heap_setCell _ _ _ _ h2).trans ((Below.heap_setCell _ _ _ _ h2).trans (h.keep b h1 h2)))), fun a B h1 h2 => (zzf (zzf (zzf (h.below a B h1 h2) h2 _) h2 _) h2 _), h.lts⟩
theorem RoR.count (h : RoR w0 gs c hn mn mx v w) : RoR w0 gs (c + 1) hn mn mx v (w.setCell ⟨gs, 0, none⟩ (.int .i64 (c + 1))) := by
 have hgv : w0.heap.size ≠ gs := by have := h.lts; omega
 exact ⟨(zza (cs' := #[.int .i64 (c + 1), .bool hn, .bool mn.null, .int .i64 mn.n, .string mn.s, .bool mx.null, .int .i64 mx.n, .string mx.s, .int .i64 0, .bool false]) h.s rfl), ((Below.heap_setCell _ _ _ _ hgv).trans h.b), by simpa using h.size, fun b h1 h2 => ((Below.heap_setCell _ _ _ _ h2).trans (h.keep b h1 h2)), fun a B h1 h2 => (zzf (h.below a B h1 h2) h2 _), h.lts⟩
theorem RoR.setHn (h : RoR w0 gs c hn mn mx v w) : RoR w0 gs c true mn mx v (w.setCell ⟨gs, 1, none⟩ (.bool true)) := by
 have hgv : w0.heap.size ≠ gs := by have := h.lts; omega
 exact ⟨(zza (cs' := #[.int .i64 c, .bool true, .bool mn.null, .int .i64 mn.n, .string mn.s, .bool mx.null, .int .i64 mx.n, .string mx.s, .int .i64 0, .bool false]) h.s rfl), ((Below.heap_setCell _ _ _ _ hgv).trans h.b), by simpa using h.size, fun b h1 h2 => ((Below.heap_setCell _ _ _ _ h2).trans (h.keep b h1 h2)), fun a B h1 h2 => (zzf (h.below a B h1 h2) h2 _), h.lts⟩
end
structure ROfW (w w4 : World) : Prop where
 eq : w4 = ((w.alloc (.cells #[.int .i64 0, .bool false, .bool false, .int .i64 0, .string ⟨#[]⟩, .bool false, .int .i64 0, .string ⟨#[]⟩, .int .i64 0, .bool false] 109)).alloc (.cells #[.int .i64 0, .bool false, .bool true, .int .i64 0, .string ⟨#[]⟩, .bool true, .int .i64 0, .string ⟨#[]⟩, .int .i64 0, .bool false] 109)).alloc (.cells #[] 3)
 below : Below w.heap.size w w4
 size : w4.heap.size = w.heap.size + 3
 s : w4.heap[w.heap.size + 1]? = some (.cells #[.int .i64 0, .bool false, .bool true, .int .i64 0, .string ⟨#[]⟩, .bool true, .int .i64 0, .string ⟨#[]⟩, .int .i64 0, .bool false] 109 (0, 0))
 r : w4.heap[w.heap.size]? = some (.cells #[.int .i64 0, .bool false, .bool false, .int .i64 0, .string ⟨#[]⟩, .bool false, .int .i64 0, .string ⟨#[]⟩, .int .i64 0, .bool false] 109 (0, 0))
 n : OwnF tI64 3 (fun _ => False) w4 w.heap.size (some ⟨w.heap.size + 2, 0, none⟩) 0 0 []
theorem rofW (w : World) : ∃ w4, ROfW w w4 := by
 obtain ⟨w1, h1⟩ : ∃ w1, w1 = w.alloc (.cells #[.int .i64 0, .bool false, .bool false, .int .i64 0, .string ⟨#[]⟩, .bool false, .int .i64 0, .string ⟨#[]⟩, .int .i64 0, .bool false] 109) := ⟨_, rfl⟩
 obtain ⟨w2, h2⟩ : ∃ w2, w2 = w1.alloc (.cells #[.int .i64 0, .bool false, .bool true, .int .i64 0, .string ⟨#[]⟩, .bool true, .int .i64 0, .string ⟨#[]⟩, .int .i64 0, .bool false] 109) := ⟨_, rfl⟩
 have z1 : w1.heap.size = w.heap.size + 1 := by rw [h1, zS]
 have z2 : w2.heap.size = w.heap.size + 2 := by rw [h2, zS, z1]
 have g1 : w1.heap[w.heap.size]? = some (.cells #[.int .i64 0, .bool false, .bool false, .int .i64 0, .string ⟨#[]⟩, .bool false, .int .i64 0, .string ⟨#[]⟩, .int .i64 0, .bool false] 109 (0, 0)) := by rw [h1]; exact heap_alloc_new w _
 have g2 := heap_alloc_new w1 (.cells #[.int .i64 0, .bool false, .bool true, .int .i64 0, .string ⟨#[]⟩, .bool true, .int .i64 0, .string ⟨#[]⟩, .int .i64 0, .bool false] 109)
 rw [← h2, z1] at g2
 have b1 : Below w.heap.size w w1 := by rw [h1]; exact (zR).alloc zN _
 have b2 : Below w.heap.size w w2 := by rw [h2]; exact b1.alloc b1.size _
 have hn := OwnF.empty tI64 3 (fun _ => False) w2 w.heap.size (by omega) (fun _ hb => hb.elim)
 rw [z2] at hn
 refine ⟨w2.alloc (.cells #[] 3), by rw [h2, h1], b2.alloc b2.size _, by rw [zS, z2], (Below.heap_alloc w2 _ _ (by omega)).trans g2, ?_, hn⟩
 rw [Below.heap_alloc w2 _ _ (by omega), h2, Below.heap_alloc w1 _ _ (by omega)]; exact g1
theorem sumV_eq (l : List VV) : sumV l = sumI ((l.filter zzh).map (·.n)) := rfl
theorem yyY (l : List VV) (v : VV) (h : v.null = false) : ((l ++ [v]).filter zzh).map (·.n) = (l.filter zzh).map (·.n) ++ [v.n] := by
 rw [List.filter_append, List.filter_cons_of_pos (by unfold zzh; rw [h]; rfl), List.filter_nil, List.map_append]; rfl
theorem zqS (l : List VV) (v : VV) (h : v.null = true) : ((l ++ [v]).filter zzh).map (·.n) = (l.filter zzh).map (·.n) := by
 rw [List.filter_append, List.filter_cons_of_neg (by unfold zzh; rw [h]; decide), List.filter_nil, List.append_nil]
theorem r17of_any (k : Int) (F : Nat → Prop) (A : Option Addr) (n c : Nat) (l : List VV) (w : World) (h : Sl tVV F w A n c l) (hn : n ≤ 4096) :
 Calls Tryz.prog 59 #[.int .i64 k, .slice A n c] w fun e w' => e = .returned (.agg #[.int .i64 (zzs k l).count, .bool (zzs k l).hasNull, .bool (zzs k l).min.null, .int .i64 (zzs k l).min.n, .string (zzs k l).min.s, .bool (zzs k l).max.null, .int .i64 (zzs k l).max.n, .string (zzs k l).max.s, .int .i64 (zzs k l).sum, .bool (zzs k l).over]) ∧ Below w.heap.size w w' := by
 have HL := zH h.len
 obtain ⟨w4, h4⟩ := rofW w
 have HW := zH h4
 have HH0 := zH (h.weaken (F' := fun b => b < w.heap.size) fun b _ hl => hl)
 have HN := zH hn
 obtain ⟨gs, hgs⟩ : ∃ gs, gs = w.heap.size + 1 := ⟨_, rfl⟩
 have hs0 := h4.s
 rw [← hgs] at hs0
 have HS0 := zH hs0
 have HGS := zH hgs
 clear h h4 hs0 hgs
 go_enter Tryz.func59, Tryz.ntmps59
 go_upto_region 3 with fail
 rw [← HW.out.eq, ← HGS.out]
 go_wp2_with fail
 go_loopw [6, 7] (fun nv iv wr => ∃ (i m : Nat) (A2 : Option Addr) (c2 : Nat), i ≤ n ∧ iv = .int .i64 (i : Int) ∧ nv = .slice A2 m c2 ∧ OwnF tI64 3 (fun _ => False) wr w.heap.size A2 m c2 (((l.take i).filter zzh).map fun v : VV => v.n) ∧ wr.heap[gs]? = some (.cells #[.int .i64 ((s0Of (l.take i)).count : Int), .bool (s0Of (l.take i)).hasNull, .bool (s0Of (l.take i)).min.null, .int .i64 (s0Of (l.take i)).min.n, .string (s0Of (l.take i)).min.s, .bool (s0Of (l.take i)).max.null, .int .i64 (s0Of (l.take i)).max.n, .string (s0Of (l.take i)).max.s, .int .i64 0, .bool false] 109 (0, 0)) ∧ wr.heap[w.heap.size]? = some (.cells #[.int .i64 0, .bool false, .bool false, .int .i64 0, .string ⟨#[]⟩, .bool false, .int .i64 0, .string ⟨#[]⟩, .int .i64 0, .bool false] 109 (0, 0)) ∧ Below w.heap.size w wr ∧ Hid (∀ b, b < w.heap.size → wr.heap[b]? = w4.heap[b]?) ∧ Hid (∀ b, A2 = some ⟨b, 0, none⟩ → gs < b)) (fun _ iv _ => n - (intOf iv).toNat)
 case atStart => exact ⟨0, 0, _, _, Nat.zero_le _, rfl, rfl, (by have h0 := HW.out.n; have e0 : w.heap.size + 2 = gs + 1 := (by have := HGS.out; omega); rw [e0] at h0; exact h0), HS0.out, HW.out.r, HW.out.below, zH fun _ _ => rfl, zH fun b hb => by injection hb with hb; injection hb with hb; have := HGS.out; omega⟩
 case round =>
  obtain ⟨i, m, A2, c2, hi, rfl, rfl, ho, hs, hr, hb, HK, HOFF⟩ := hrel
  have HO := zH ho; have HS := zH hs; have HR := zH hr; have HB := zH hb
  have hsz4 : w.heap.size + 2 ≤ wr.heap.size := by have h1 := zzb hs; have := HGS.out; omega
  have HZ4 := zH hsz4
  clear ho hs hr hb hsz4
  by_cases hlt : i < n
  · have hil : i < l.length := by rw [← HL.out]; exact hlt
    have HRH := zH ((HH0.out.keep (w' := wr) (by have := HZ4.out; omega) (fun b hb _ => (HK.out b hb).trans ((HW.out.below.block b hb)))))
    obtain ⟨b, o, cs, rfl, _, hbl, hrep, hc⟩ := HRH.out.at_ hil (by decide)
    obtain ⟨v, hf⟩ : ∃ v, v = l[i] := ⟨_, rfl⟩
    obtain ⟨rfl, hok⟩ := hrep
    rw [← hf] at hc hok
    obtain ⟨hv0, hv1, _⟩ := hok
    have HC := zH (xxZ (l.take i) v)
    have HTK := zH (show l.take (i + 1) = l.take i ++ [v] by rw [zT hil, ← hf])
    have HM := zH (show m ≤ 4096 by have h1 := HO.out.len; rw [List.length_map] at h1; have h2 := List.length_filter_le zzh (l.take i); rw [List.length_take] at h2; have := HN.out; omega)
    have hcl := kq6 (l.take i)
    rw [List.length_take] at hcl
    have hc0 : (0 : Int) ≤ ((s0Of (l.take i)).count : Int) ∧ ((s0Of (l.take i)).count : Int) ≤ 4096 := by have := HN.out; omega
    have hmn := s0_count (l.take i)
    obtain ⟨s, hs⟩ : ∃ s, s = s0Of (l.take i) := ⟨_, rfl⟩
    rw [← hs] at HC HS hc0 hmn
    obtain ⟨hc00, hc01⟩ := hc0
    obtain ⟨nu, x, t⟩ := v
    obtain ⟨g0, g1, g2⟩ := zzR hc
    have g0 : _ = some (Value.bool nu) := g0
    have g1 : _ = some (Value.int .i64 x) := g1
    have g2 : _ = some (Value.string t) := g2
    have hi0 : (0 : Int) ≤ (i : Int) := by omega
    have hi1 : (i : Int) < (n : Int) := by omega
    have HV := zH (show -9223372036854775808 ≤ x ∧ x ≤ 9223372036854775807 from ⟨hv0, hv1⟩)
    clear hc hf hs hcl hv0 hv1
    go_upto_region 7 with fail
    obtain ⟨w5, hw5⟩ : ∃ w5, w5 = wr.alloc (.cells #[.bool nu, .int .i64 x, .string t] 74) := ⟨_, rfl⟩
    have hr5 : RoR wr gs (s.count : Int) s.hasNull s.min s.max ⟨nu, x, t⟩ w5 := by rw [hw5]; exact RoR.init HS.out
    have HR5 := zH hr5
    rw [← hw5]
    have hs9 := hr5.s; have hbx := hr5.b
    obtain ⟨⟨s0, a0⟩, ⟨s1, a1⟩, ⟨s2, a2⟩, ⟨s3, a3⟩, ⟨s4, a4⟩, ⟨s5, a5⟩, ⟨s6, a6⟩, ⟨s7, a7⟩, ⟨s8, a8⟩, ⟨s9, a9⟩⟩ := zzn hs9
    obtain ⟨⟨b0, _⟩, ⟨b1, _⟩, ⟨b2, _⟩⟩ := zzJ hbx
    clear hw5 hr5 hs9 hbx g0 g1 g2
    cases nu
    · have e1 := HC.out
      unfold vvr at e1
      rw [if_neg (by simp)] at e1
      obtain ⟨q1, hq1⟩ : ∃ q1, q1 = vcmp ⟨false, x, t⟩ s.min := ⟨_, rfl⟩
      obtain ⟨q2, hq2⟩ : ∃ q2, q2 = vcmp ⟨false, x, t⟩ s.max := ⟨_, rfl⟩
      rw [← hq1, ← hq2] at e1
      have HQ1 := zH hq1; have HQ2 := zH hq2
      clear hq1 hq2
      by_cases hz : s.count = 0
      · have hm1 := hmn.1.1 hz
        have hm2 : s.max.null = true := by rw [← hmn.2]; exact hm1
        rw [hm1, hm2] at e1
        have HE1 := zH (show s0Of (l.take i ++ [⟨false, x, t⟩]) = ⟨s.count + 1, s.hasNull, ⟨false, x, t⟩, ⟨false, x, t⟩⟩ from e1)
        have hz0 : ((s.count : Int) == 0) = true := by rw [beq_iff_eq]; omega
        have hz1 : (s.count : Int) = 0 := by omega
        clear e1 hm1 hm2 hmn hz hz1
        go_upto_if 38 with (first | fail | fail)
        go_upto_region 11 with fail
        obtain ⟨w7, hw7⟩ : ∃ w7, w7 = ((w5.setCell ⟨gs, 2, none⟩ (.bool false)).setCell ⟨gs, 3, none⟩ (.int .i64 x)).setCell ⟨gs, 4, none⟩ (.string t) := ⟨_, rfl⟩
        have HR7 : Hid (RoR wr gs (s.count : Int) s.hasNull ⟨false, x, t⟩ s.max ⟨false, x, t⟩ w7) := zH (by rw [hw7]; exact HR5.out.setMin ⟨false, x, t⟩)
        rw [← hw7]
        clear hw7
        clear s0 a0 s1 a1 s2 a2 s3 a3 s4 a4 s5 a5 s6 a6 s7 a7 s8 a8 s9 a9 b0 b1 b2
        have hs9 := HR7.out.s; have hbx := HR7.out.b
        obtain ⟨⟨s0, a0⟩, ⟨s1, a1⟩, ⟨s2, a2⟩, ⟨s3, a3⟩, ⟨s4, a4⟩, ⟨s5, a5⟩, ⟨s6, a6⟩, ⟨s7, a7⟩, ⟨s8, a8⟩, ⟨s9, a9⟩⟩ := zzn hs9
        obtain ⟨⟨b0, _⟩, ⟨b1, _⟩, ⟨b2, _⟩⟩ := zzJ hbx
        clear hs9 hbx
        go_upto_if 50 with (first | fail | fail)
        go_upto_region 13 with fail
        obtain ⟨w9, hw9⟩ : ∃ w9, w9 = ((w7.setCell ⟨gs, 5, none⟩ (.bool false)).setCell ⟨gs, 6, none⟩ (.int .i64 x)).setCell ⟨gs, 7, none⟩ (.string t) := ⟨_, rfl⟩
        have HR9 : Hid (RoR wr gs (s.count : Int) s.hasNull ⟨false, x, t⟩ ⟨false, x, t⟩ ⟨false, x, t⟩ w9) := zH (by rw [hw9]; exact HR7.out.setMax ⟨false, x, t⟩)
        rw [← hw9]
        clear hw9
        clear s0 a0 s1 a1 s2 a2 s3 a3 s4 a4 s5 a5 s6 a6 s7 a7 s8 a8 s9 a9 b0 b1 b2
        have hs9 := HR9.out.s; have hbx := HR9.out.b
        obtain ⟨⟨s0, a0⟩, ⟨s1, a1⟩, ⟨s2, a2⟩, ⟨s3, a3⟩, ⟨s4, a4⟩, ⟨s5, a5⟩, ⟨s6, a6⟩, ⟨s7, a7⟩, ⟨s8, a8⟩, ⟨s9, a9⟩⟩ := zzn hs9
        obtain ⟨⟨b0, _⟩, ⟨b1, _⟩, ⟨b2, _⟩⟩ := zzJ hbx
        clear hs9 hbx
        go_upto_region 14 with fail
        obtain ⟨wa, hwa⟩ : ∃ wa, wa = w9.setCell ⟨gs, 0, none⟩ (.int .i64 ((s.count : Int) + 1)) := ⟨_, rfl⟩
        have HRA : Hid (RoR wr gs ((s.count : Int) + 1) s.hasNull ⟨false, x, t⟩ ⟨false, x, t⟩ ⟨false, x, t⟩ wa) := zH (by rw [hwa]; exact HR9.out.count)
        rw [← hwa]
        clear hwa
        clear s0 a0 s1 a1 s2 a2 s3 a3 s4 a4 s5 a5 s6 a6 s7 a7 s8 a8 s9 a9 b0 b1 b2
        have hbx := HRA.out.b
        obtain ⟨⟨b0, _⟩, ⟨b1, _⟩, ⟨b2, _⟩⟩ := zzJ hbx
        clear hbx
        have HOA := zH (HO.out.keep (w' := wa) (by have := HRA.out.size; omega) (fun b hb hl => HRA.out.keep b hl (fun e => by rcases hb with hb | hb; exact hb.elim; have := HOFF.out b hb.1; omega)))
        have HBA := zH (HRA.out.below _ _ HB.out (by have := HGS.out; omega))
        go_wp2_with (first
         | (at_builtin; refine apl1 (T := tI64) zzQ wa w rfl (.tmp 57) (.tmp 60) rfl w.heap.size A2 m c2 ((((l.take i).filter zzh)).map fun v : VV => v.n) (by rfl) (fun _ => False) (fun _ => False) HOA.out HBA.out zN _ (by rfl) [.int .i64 x] x ⟨rfl, HV.out⟩ 3 rfl (fun _ _ _ _ h4 => h4) (by have := HM.out; omega) ?_; intro A6 c6 w10 h10)
         | fail)
        go_roundw
        case rel =>
         have hz := HRA.out.size
         have hgl := HGS.out
         have hlt5 := HRA.out.lts
         have hne : ∀ b, A2.map (·.block) = some b → gs < b := fun b hb => by
          obtain ⟨e1, _⟩ := HO.out.lies (b := b) (by rw [zzd]; exact hb)
          exact HOFF.out b e1
         have hk10 : ∀ b, b ≤ gs → w10.heap[b]? = wa.heap[b]? := fun b hb => (h10.grown.block b (by rw [zS]; omega) (fun e => by have := hne b e.symm; omega)).trans (Below.heap_alloc wa _ b (by omega))
         refine ⟨i + 1, m + 1, A6, c6, by omega, by go_num, rfl, ?_, ?_, ?_, h10.below, zH fun b hb => ?_, zH fun b hb => ?_⟩
         · rw [HTK.out, yyY _ _ rfl]; exact h10.own.flat xxO
         · rw [HTK.out, HE1.out]
           have e : (((s.count + 1 : Nat)) : Int) = (s.count : Int) + 1 := by omega
           rw [e, hk10 gs zN]
           exact HRA.out.s
         · rw [hk10 _ (by omega), HRA.out.keep _ (by omega) (by omega)]; exact HR.out
         · rw [hk10 _ (by omega), HRA.out.keep _ (by omega) (by omega)]; exact HK.out b hb
         · rcases h10.lies with h1 | h1
           · exact hne b (by rw [← h1, hb]; rfl)
           · rw [hb] at h1; injection h1 with h1; rw [zS] at h1; have h1 : b = wa.heap.size + 1 := h1; omega
        case measure => simp [intOf]; omega
      · have hm1 : s.min.null = false := by
         cases hq : s.min.null
         · rfl
         · exact absurd (hmn.1.2 hq) hz
        have hm2 : s.max.null = false := by rw [← hmn.2]; exact hm1
        rw [hm1, hm2, Bool.false_or, Bool.false_or] at e1
        have hz0 : ((s.count : Int) == 0) = false := by rw [beq_eq_false_iff_ne]; omega
        clear hm1 hm2 hmn hz
        by_cases hlo : q1 < 0
        · rw [if_pos (decide_eq_true hlo)] at e1
          by_cases hhi : 0 < q2
          · rw [if_pos (decide_eq_true hhi)] at e1
            have HE1 := zH e1
            have hhi' : q2 > 0 := hhi
            clear e1
            go_upto_if 38 with (first | (go_at_call 114; refine (zzN ⟨false, x, t⟩ s.min _).mono ?_; rintro e w6 ⟨rfl, hb6⟩; rw [← HQ1.out]; have HR6 := zH (HR5.out.call hb6); clear hb6) | fail)
            clear s0 a0 s1 a1 s2 a2 s3 a3 s4 a4 s5 a5 s6 a6 s7 a7 s8 a8 s9 a9 b0 b1 b2
            have hs9 := HR6.out.s; have hbx := HR6.out.b
            obtain ⟨⟨s0, a0⟩, ⟨s1, a1⟩, ⟨s2, a2⟩, ⟨s3, a3⟩, ⟨s4, a4⟩, ⟨s5, a5⟩, ⟨s6, a6⟩, ⟨s7, a7⟩, ⟨s8, a8⟩, ⟨s9, a9⟩⟩ := zzn hs9
            obtain ⟨⟨b0, _⟩, ⟨b1, _⟩, ⟨b2, _⟩⟩ := zzJ hbx
            clear hs9 hbx
            go_upto_region 11 with fail
            obtain ⟨w7, hw7⟩ : ∃ w7, w7 = ((w6.setCell ⟨gs, 2, none⟩ (.bool false)).setCell ⟨gs, 3, none⟩ (.int .i64 x)).setCell ⟨gs, 4, none⟩ (.string t) := ⟨_, rfl⟩
            have HR7 : Hid (RoR wr gs (s.count : Int) s.hasNull ⟨false, x, t⟩ s.max ⟨false, x, t⟩ w7) := zH (by rw [hw7]; exact HR6.out.setMin ⟨false, x, t⟩)
            rw [← hw7]
            clear hw7
            clear s0 a0 s1 a1 s2 a2 s3 a3 s4 a4 s5 a5 s6 a6 s7 a7 s8 a8 s9 a9 b0 b1 b2
            have hs9 := HR7.out.s; have hbx := HR7.out.b
            obtain ⟨⟨s0, a0⟩, ⟨s1, a1⟩, ⟨s2, a2⟩, ⟨s3, a3⟩, ⟨s4, a4⟩, ⟨s5, a5⟩, ⟨s6, a6⟩, ⟨s7, a7⟩, ⟨s8, a8⟩, ⟨s9, a9⟩⟩ := zzn hs9
            obtain ⟨⟨b0, _⟩, ⟨b1, _⟩, ⟨b2, _⟩⟩ := zzJ hbx
            clear hs9 hbx
            go_upto_if 50 with (first | (go_at_call 114; refine (zzN ⟨false, x, t⟩ s.max _).mono ?_; rintro e w8 ⟨rfl, hb8⟩; rw [← HQ2.out]; have HR8 := zH (HR7.out.call hb8); clear hb8) | fail)
            clear s0 a0 s1 a1 s2 a2 s3 a3 s4 a4 s5 a5 s6 a6 s7 a7 s8 a8 s9 a9 b0 b1 b2
            have hs9 := HR8.out.s; have hbx := HR8.out.b
            obtain ⟨⟨s0, a0⟩, ⟨s1, a1⟩, ⟨s2, a2⟩, ⟨s3, a3⟩, ⟨s4, a4⟩, ⟨s5, a5⟩, ⟨s6, a6⟩, ⟨s7, a7⟩, ⟨s8, a8⟩, ⟨s9, a9⟩⟩ := zzn hs9
            obtain ⟨⟨b0, _⟩, ⟨b1, _⟩, ⟨b2, _⟩⟩ := zzJ hbx
            clear hs9 hbx
            go_upto_region 13 with fail
            obtain ⟨w9, hw9⟩ : ∃ w9, w9 = ((w8.setCell ⟨gs, 5, none⟩ (.bool false)).setCell ⟨gs, 6, none⟩ (.int .i64 x)).setCell ⟨gs, 7, none⟩ (.string t) := ⟨_, rfl⟩
            have HR9 : Hid (RoR wr gs (s.count : Int) s.hasNull ⟨false, x, t⟩ ⟨false, x, t⟩ ⟨false, x, t⟩ w9) := zH (by rw [hw9]; exact HR8.out.setMax ⟨false, x, t⟩)
            rw [← hw9]
            clear hw9
            clear s0 a0 s1 a1 s2 a2 s3 a3 s4 a4 s5 a5 s6 a6 s7 a7 s8 a8 s9 a9 b0 b1 b2
            have hs9 := HR9.out.s; have hbx := HR9.out.b
            obtain ⟨⟨s0, a0⟩, ⟨s1, a1⟩, ⟨s2, a2⟩, ⟨s3, a3⟩, ⟨s4, a4⟩, ⟨s5, a5⟩, ⟨s6, a6⟩, ⟨s7, a7⟩, ⟨s8, a8⟩, ⟨s9, a9⟩⟩ := zzn hs9
            obtain ⟨⟨b0, _⟩, ⟨b1, _⟩, ⟨b2, _⟩⟩ := zzJ hbx
            clear hs9 hbx
            go_upto_region 14 with fail
            obtain ⟨wa, hwa⟩ : ∃ wa, wa = w9.setCell ⟨gs, 0, none⟩ (.int .i64 ((s.count : Int) + 1)) := ⟨_, rfl⟩
            have HRA : Hid (RoR wr gs ((s.count : Int) + 1) s.hasNull ⟨false, x, t⟩ ⟨false, x, t⟩ ⟨false, x, t⟩ wa) := zH (by rw [hwa]; exact HR9.out.count)
            rw [← hwa]
            clear hwa
            clear s0 a0 s1 a1 s2 a2 s3 a3 s4 a4 s5 a5 s6 a6 s7 a7 s8 a8 s9 a9 b0 b1 b2
            have hbx := HRA.out.b
            obtain ⟨⟨b0, _⟩, ⟨b1, _⟩, ⟨b2, _⟩⟩ := zzJ hbx
            clear hbx
            have HOA := zH (HO.out.keep (w' := wa) (by have := HRA.out.size; omega) (fun b hb hl => HRA.out.keep b hl (fun e => by rcases hb with hb | hb; exact hb.elim; have := HOFF.out b hb.1; omega)))
            have HBA := zH (HRA.out.below _ _ HB.out (by have := HGS.out; omega))
            go_wp2_with (first
             | (at_builtin; refine apl1 (T := tI64) zzQ wa w rfl (.tmp 57) (.tmp 60) rfl w.heap.size A2 m c2 ((((l.take i).filter zzh)).map fun v : VV => v.n) (by rfl) (fun _ => False) (fun _ => False) HOA.out HBA.out zN _ (by rfl) [.int .i64 x] x ⟨rfl, HV.out⟩ 3 rfl (fun _ _ _ _ h4 => h4) (by have := HM.out; omega) ?_; intro A6 c6 w10 h10)
             | fail)
            go_roundw
            case rel =>
             have hz := HRA.out.size
             have hgl := HGS.out
             have hlt5 := HRA.out.lts
             have hne : ∀ b, A2.map (·.block) = some b → gs < b := fun b hb => by
              obtain ⟨e1, _⟩ := HO.out.lies (b := b) (by rw [zzd]; exact hb)
              exact HOFF.out b e1
             have hk10 : ∀ b, b ≤ gs → w10.heap[b]? = wa.heap[b]? := fun b hb => (h10.grown.block b (by rw [zS]; omega) (fun e => by have := hne b e.symm; omega)).trans (Below.heap_alloc wa _ b (by omega))
             refine ⟨i + 1, m + 1, A6, c6, by omega, by go_num, rfl, ?_, ?_, ?_, h10.below, zH fun b hb => ?_, zH fun b hb => ?_⟩
             · rw [HTK.out, yyY _ _ rfl]; exact h10.own.flat xxO
             · rw [HTK.out, HE1.out]
               have e : (((s.count + 1 : Nat)) : Int) = (s.count : Int) + 1 := by omega
               rw [e, hk10 gs zN]
               exact HRA.out.s
             · rw [hk10 _ (by omega), HRA.out.keep _ (by omega) (by omega)]; exact HR.out
             · rw [hk10 _ (by omega), HRA.out.keep _ (by omega) (by omega)]; exact HK.out b hb
             · rcases h10.lies with h1 | h1
               · exact hne b (by rw [← h1, hb]; rfl)
               · rw [hb] at h1; injection h1 with h1; rw [zS] at h1; have h1 : b = wa.heap.size + 1 := h1; omega
            case measure => simp [intOf]; omega
          · rw [if_neg (by simpa using hhi)] at e1
            have HE1 := zH e1
            have hhi' : ¬ q2 > 0 := hhi
            clear e1
            go_upto_if 38 with (first | (go_at_call 114; refine (zzN ⟨false, x, t⟩ s.min _).mono ?_; rintro e w6 ⟨rfl, hb6⟩; rw [← HQ1.out]; have HR6 := zH (HR5.out.call hb6); clear hb6) | fail)
            clear s0 a0 s1 a1 s2 a2 s3 a3 s4 a4 s5 a5 s6 a6 s7 a7 s8 a8 s9 a9 b0 b1 b2
            have hs9 := HR6.out.s; have hbx := HR6.out.b
            obtain ⟨⟨s0, a0⟩, ⟨s1, a1⟩, ⟨s2, a2⟩, ⟨s3, a3⟩, ⟨s4, a4⟩, ⟨s5, a5⟩, ⟨s6, a6⟩, ⟨s7, a7⟩, ⟨s8, a8⟩, ⟨s9, a9⟩⟩ := zzn hs9
            obtain ⟨⟨b0, _⟩, ⟨b1, _⟩, ⟨b2, _⟩⟩ := zzJ hbx
            clear hs9 hbx
            go_upto_region 11 with fail
            obtain ⟨w7, hw7⟩ : ∃ w7, w7 = ((w6.setCell ⟨gs, 2, none⟩ (.bool false)).setCell ⟨gs, 3, none⟩ (.int .i64 x)).setCell ⟨gs, 4, none⟩ (.string t) := ⟨_, rfl⟩
            have HR7 : Hid (RoR wr gs (s.count : Int) s.hasNull ⟨false, x, t⟩ s.max ⟨false, x, t⟩ w7) := zH (by rw [hw7]; exact HR6.out.setMin ⟨false, x, t⟩)
            rw [← hw7]
            clear hw7
            clear s0 a0 s1 a1 s2 a2 s3 a3 s4 a4 s5 a5 s6 a6 s7 a7 s8 a8 s9 a9 b0 b1 b2
            have hs9 := HR7.out.s; have hbx := HR7.out.b
            obtain ⟨⟨s0, a0⟩, ⟨s1, a1⟩, ⟨s2, a2⟩, ⟨s3, a3⟩, ⟨s4, a4⟩, ⟨s5, a5⟩, ⟨s6, a6⟩, ⟨s7, a7⟩, ⟨s8, a8⟩, ⟨s9, a9⟩⟩ := zzn hs9
            obtain ⟨⟨b0, _⟩, ⟨b1, _⟩, ⟨b2, _⟩⟩ := zzJ hbx
            clear hs9 hbx
            go_upto_if 50 with (first | (go_at_call 114; refine (zzN ⟨false, x, t⟩ s.max _).mono ?_; rintro e w8 ⟨rfl, hb8⟩; rw [← HQ2.out]; have HR8 := zH (HR7.out.call hb8); clear hb8) | fail)
            clear s0 a0 s1 a1 s2 a2 s3 a3 s4 a4 s5 a5 s6 a6 s7 a7 s8 a8 s9 a9 b0 b1 b2
            have hs9 := HR8.out.s; have hbx := HR8.out.b
            obtain ⟨⟨s0, a0⟩, ⟨s1, a1⟩, ⟨s2, a2⟩, ⟨s3, a3⟩, ⟨s4, a4⟩, ⟨s5, a5⟩, ⟨s6, a6⟩, ⟨s7, a7⟩, ⟨s8, a8⟩, ⟨s9, a9⟩⟩ := zzn hs9
            obtain ⟨⟨b0, _⟩, ⟨b1, _⟩, ⟨b2, _⟩⟩ := zzJ hbx
            clear hs9 hbx
            go_upto_region 14 with fail
            obtain ⟨wa, hwa⟩ : ∃ wa, wa = w8.setCell ⟨gs, 0, none⟩ (.int .i64 ((s.count : Int) + 1)) := ⟨_, rfl⟩
            have HRA : Hid (RoR wr gs ((s.count : Int) + 1) s.hasNull ⟨false, x, t⟩ s.max ⟨false, x, t⟩ wa) := zH (by rw [hwa]; exact HR8.out.count)
            rw [← hwa]
            clear hwa
            clear s0 a0 s1 a1 s2 a2 s3 a3 s4 a4 s5 a5 s6 a6 s7 a7 s8 a8 s9 a9 b0 b1 b2
            have hbx := HRA.out.b
            obtain ⟨⟨b0, _⟩, ⟨b1, _⟩, ⟨b2, _⟩⟩ := zzJ hbx
            clear hbx
            have HOA := zH (HO.out.keep (w' := wa) (by have := HRA.out.size; omega) (fun b hb hl => HRA.out.keep b hl (fun e => by rcases hb with hb | hb; exact hb.elim; have := HOFF.out b hb.1; omega)))
            have HBA := zH (HRA.out.below _ _ HB.out (by have := HGS.out; omega))
            go_wp2_with (first
             | (at_builtin; refine apl1 (T := tI64) zzQ wa w rfl (.tmp 57) (.tmp 60) rfl w.heap.size A2 m c2 ((((l.take i).filter zzh)).map fun v : VV => v.n) (by rfl) (fun _ => False) (fun _ => False) HOA.out HBA.out zN _ (by rfl) [.int .i64 x] x ⟨rfl, HV.out⟩ 3 rfl (fun _ _ _ _ h4 => h4) (by have := HM.out; omega) ?_; intro A6 c6 w10 h10)
             | fail)
            go_roundw
            case rel =>
             have hz := HRA.out.size
             have hgl := HGS.out
             have hlt5 := HRA.out.lts
             have hne : ∀ b, A2.map (·.block) = some b → gs < b := fun b hb => by
              obtain ⟨e1, _⟩ := HO.out.lies (b := b) (by rw [zzd]; exact hb)
              exact HOFF.out b e1
             have hk10 : ∀ b, b ≤ gs → w10.heap[b]? = wa.heap[b]? := fun b hb => (h10.grown.block b (by rw [zS]; omega) (fun e => by have := hne b e.symm; omega)).trans (Below.heap_alloc wa _ b (by omega))
             refine ⟨i + 1, m + 1, A6, c6, by omega, by go_num, rfl, ?_, ?_, ?_, h10.below, zH fun b hb => ?_, zH fun b hb => ?_⟩
             · rw [HTK.out, yyY _ _ rfl]; exact h10.own.flat xxO
             · rw [HTK.out, HE1.out]
               have e : (((s.count + 1 : Nat)) : Int) = (s.count : Int) + 1 := by omega
               rw [e, hk10 gs zN]
               exact HRA.out.s
             · rw [hk10 _ (by omega), HRA.out.keep _ (by omega) (by omega)]; exact HR.out
             · rw [hk10 _ (by omega), HRA.out.keep _ (by omega) (by omega)]; exact HK.out b hb
             · rcases h10.lies with h1 | h1
               · exact hne b (by rw [← h1, hb]; rfl)
               · rw [hb] at h1; injection h1 with h1; rw [zS] at h1; have h1 : b = wa.heap.size + 1 := h1; omega
            case measure => simp [intOf]; omega
        · rw [if_neg (by simpa using hlo)] at e1
          by_cases hhi : 0 < q2
          · rw [if_pos (decide_eq_true hhi)] at e1
            have HE1 := zH e1
            have hhi' : q2 > 0 := hhi
            clear e1
            go_upto_if 38 with (first | (go_at_call 114; refine (zzN ⟨false, x, t⟩ s.min _).mono ?_; rintro e w6 ⟨rfl, hb6⟩; rw [← HQ1.out]; have HR6 := zH (HR5.out.call hb6); clear hb6) | fail)
            clear s0 a0 s1 a1 s2 a2 s3 a3 s4 a4 s5 a5 s6 a6 s7 a7 s8 a8 s9 a9 b0 b1 b2
            have hs9 := HR6.out.s; have hbx := HR6.out.b
            obtain ⟨⟨s0, a0⟩, ⟨s1, a1⟩, ⟨s2, a2⟩, ⟨s3, a3⟩, ⟨s4, a4⟩, ⟨s5, a5⟩, ⟨s6, a6⟩, ⟨s7, a7⟩, ⟨s8, a8⟩, ⟨s9, a9⟩⟩ := zzn hs9
            obtain ⟨⟨b0, _⟩, ⟨b1, _⟩, ⟨b2, _⟩⟩ := zzJ hbx
            clear hs9 hbx
            have HR7 := HR6
            go_upto_if 50 with (first | (go_at_call 114; refine (zzN ⟨false, x, t⟩ s.max _).mono ?_; rintro e w8 ⟨rfl, hb8⟩; rw [← HQ2.out]; have HR8 := zH (HR7.out.call hb8); clear hb8) | fail)
            clear s0 a0 s1 a1 s2 a2 s3 a3 s4 a4 s5 a5 s6 a6 s7 a7 s8 a8 s9 a9 b0 b1 b2
            have hs9 := HR8.out.s; have hbx := HR8.out.b
            obtain ⟨⟨s0, a0⟩, ⟨s1, a1⟩, ⟨s2, a2⟩, ⟨s3, a3⟩, ⟨s4, a4⟩, ⟨s5, a5⟩, ⟨s6, a6⟩, ⟨s7, a7⟩, ⟨s8, a8⟩, ⟨s9, a9⟩⟩ := zzn hs9
            obtain ⟨⟨b0, _⟩, ⟨b1, _⟩, ⟨b2, _⟩⟩ := zzJ hbx
            clear hs9 hbx
            go_upto_region 13 with fail
            obtain ⟨w9, hw9⟩ : ∃ w9, w9 = ((w8.setCell ⟨gs, 5, none⟩ (.bool false)).setCell ⟨gs, 6, none⟩ (.int .i64 x)).setCell ⟨gs, 7, none⟩ (.string t) := ⟨_, rfl⟩
            have HR9 : Hid (RoR wr gs (s.count : Int) s.hasNull s.min ⟨false, x, t⟩ ⟨false, x, t⟩ w9) := zH (by rw [hw9]; exact HR8.out.setMax ⟨false, x, t⟩)
            rw [← hw9]
            clear hw9
            clear s0 a0 s1 a1 s2 a2 s3 a3 s4 a4 s5 a5 s6 a6 s7 a7 s8 a8 s9 a9 b0 b1 b2
            have hs9 := HR9.out.s; have hbx := HR9.out.b
            obtain ⟨⟨s0, a0⟩, ⟨s1, a1⟩, ⟨s2, a2⟩, ⟨s3, a3⟩, ⟨s4, a4⟩, ⟨s5, a5⟩, ⟨s6, a6⟩, ⟨s7, a7⟩, ⟨s8, a8⟩, ⟨s9, a9⟩⟩ := zzn hs9
            obtain ⟨⟨b0, _⟩, ⟨b1, _⟩, ⟨b2, _⟩⟩ := zzJ hbx
            clear hs9 hbx
            go_upto_region 14 with fail
            obtain ⟨wa, hwa⟩ : ∃ wa, wa = w9.setCell ⟨gs, 0, none⟩ (.int .i64 ((s.count : Int) + 1)) := ⟨_, rfl⟩
            have HRA : Hid (RoR wr gs ((s.count : Int) + 1) s.hasNull s.min ⟨false, x, t⟩ ⟨false, x, t⟩ wa) := zH (by rw [hwa]; exact HR9.out.count)
            rw [← hwa]
            clear hwa
            clear s0 a0 s1 a1 s2 a2 s3 a3 s4 a4 s5 a5 s6 a6 s7 a7 s8 a8 s9 a9 b0 b1 b2
            have hbx := HRA.out.b
            obtain ⟨⟨b0, _⟩, ⟨b1, _⟩, ⟨b2, _⟩⟩ := zzJ hbx
            clear hbx
            have HOA := zH (HO.out.keep (w' := wa) (by have := HRA.out.size; omega) (fun b hb hl => HRA.out.keep b hl (fun e => by rcases hb with hb | hb; exact hb.elim; have := HOFF.out b hb.1; omega)))
            have HBA := zH (HRA.out.below _ _ HB.out (by have := HGS.out; omega))
            go_wp2_with (first
             | (at_builtin; refine apl1 (T := tI64) zzQ wa w rfl (.tmp 57) (.tmp 60) rfl w.heap.size A2 m c2 ((((l.take i).filter zzh)).map fun v : VV => v.n) (by rfl) (fun _ => False) (fun _ => False) HOA.out HBA.out zN _ (by rfl) [.int .i64 x] x ⟨rfl, HV.out⟩ 3 rfl (fun _ _ _ _ h4 => h4) (by have := HM.out; omega) ?_; intro A6 c6 w10 h10)
             | fail)
            go_roundw
            case rel =>
             have hz := HRA.out.size
             have hgl := HGS.out
             have hlt5 := HRA.out.lts
             have hne : ∀ b, A2.map (·.block) = some b → gs < b := fun b hb => by
              obtain ⟨e1, _⟩ := HO.out.lies (b := b) (by rw [zzd]; exact hb)
              exact HOFF.out b e1
             have hk10 : ∀ b, b ≤ gs → w10.heap[b]? = wa.heap[b]? := fun b hb => (h10.grown.block b (by rw [zS]; omega) (fun e => by have := hne b e.symm; omega)).trans (Below.heap_alloc wa _ b (by omega))
             refine ⟨i + 1, m + 1, A6, c6, by omega, by go_num, rfl, ?_, ?_, ?_, h10.below, zH fun b hb => ?_, zH fun b hb => ?_⟩
             · rw [HTK.out, yyY _ _ rfl]; exact h10.own.flat xxO
             · rw [HTK.out, HE1.out]
               have e : (((s.count + 1 : Nat)) : Int) = (s.count : Int) + 1 := by omega
               rw [e, hk10 gs zN]
               exact HRA.out.s
             · rw [hk10 _ (by omega), HRA.out.keep _ (by omega) (by omega)]; exact HR.out
             · rw [hk10 _ (by omega), HRA.out.keep _ (by omega) (by omega)]; exact HK.out b hb
             · rcases h10.lies with h1 | h1
               · exact hne b (by rw [← h1, hb]; rfl)
               · rw [hb] at h1; injection h1 with h1; rw [zS] at h1; have h1 : b = wa.heap.size + 1 := h1; omega
            case measure => simp [intOf]; omega
          · rw [if_neg (by simpa using hhi)] at e1
            have HE1 := zH e1
            have hhi' : ¬ q2 > 0 := hhi
            clear e1
            go_upto_if 38 with (first | (go_at_call 114; refine (zzN ⟨false, x, t⟩ s.min _).mono ?_; rintro e w6 ⟨rfl, hb6⟩; rw [← HQ1.out]; have HR6 := zH (HR5.out.call hb6); clear hb6) | fail)
            clear s0 a0 s1 a1 s2 a2 s3 a3 s4 a4 s5 a5 s6 a6 s7 a7 s8 a8 s9 a9 b0 b1 b2
            have hs9 := HR6.out.s; have hbx := HR6.out.b
            obtain ⟨⟨s0, a0⟩, ⟨s1, a1⟩, ⟨s2, a2⟩, ⟨s3, a3⟩, ⟨s4, a4⟩, ⟨s5, a5⟩, ⟨s6, a6⟩, ⟨s7, a7⟩, ⟨s8, a8⟩, ⟨s9, a9⟩⟩ := zzn hs9
            obtain ⟨⟨b0, _⟩, ⟨b1, _⟩, ⟨b2, _⟩⟩ := zzJ hbx
            clear hs9 hbx
            have HR7 := HR6
            go_upto_if 50 with (first | (go_at_call 114; refine (zzN ⟨false, x, t⟩ s.max _).mono ?_; rintro e w8 ⟨rfl, hb8⟩; rw [← HQ2.out]; have HR8 := zH (HR7.out.call hb8); clear hb8) | fail)
            clear s0 a0 s1 a1 s2 a2 s3 a3 s4 a4 s5 a5 s6 a6 s7 a7 s8 a8 s9 a9 b0 b1 b2
            have hs9 := HR8.out.s; have hbx := HR8.out.b
            obtain ⟨⟨s0, a0⟩, ⟨s1, a1⟩, ⟨s2, a2⟩, ⟨s3, a3⟩, ⟨s4, a4⟩, ⟨s5, a5⟩, ⟨s6, a6⟩, ⟨s7, a7⟩, ⟨s8, a8⟩, ⟨s9, a9⟩⟩ := zzn hs9
            obtain ⟨⟨b0, _⟩, ⟨b1, _⟩, ⟨b2, _⟩⟩ := zzJ hbx
            clear hs9 hbx
            go_upto_region 14 with fail
            obtain ⟨wa, hwa⟩ : ∃ wa, wa = w8.setCell ⟨gs, 0, none⟩ (.int .i64 ((s.count : Int) + 1)) := ⟨_, rfl⟩
            have HRA : Hid (RoR wr gs ((s.count : Int) + 1) s.hasNull s.min s.max ⟨false, x, t⟩ wa) := zH (by rw [hwa]; exact HR8.out.count)
            rw [← hwa]
            clear hwa
            clear s0 a0 s1 a1 s2 a2 s3 a3 s4 a4 s5 a5 s6 a6 s7 a7 s8 a8 s9 a9 b0 b1 b2
            have hbx := HRA.out.b
            obtain ⟨⟨b0, _⟩, ⟨b1, _⟩, ⟨b2, _⟩⟩ := zzJ hbx
            clear hbx
            have HOA := zH (HO.out.keep (w' := wa) (by have := HRA.out.size; omega) (fun b hb hl => HRA.out.keep b hl (fun e => by rcases hb with hb | hb; exact hb.elim; have := HOFF.out b hb.1; omega)))
            have HBA := zH (HRA.out.below _ _ HB.out (by have := HGS.out; omega))
            go_wp2_with (first
             | (at_builtin; refine apl1 (T := tI64) zzQ wa w rfl (.tmp 57) (.tmp 60) rfl w.heap.size A2 m c2 ((((l.take i).filter zzh)).map fun v : VV => v.n) (by rfl) (fun _ => False) (fun _ => False) HOA.out HBA.out zN _ (by rfl) [.int .i64 x] x ⟨rfl, HV.out⟩ 3 rfl (fun _ _ _ _ h4 => h4) (by have := HM.out; omega) ?_; intro A6 c6 w10 h10)
             | fail)
            go_roundw
            case rel =>
             have hz := HRA.out.size
             have hgl := HGS.out
             have hlt5 := HRA.out.lts
             have hne : ∀ b, A2.map (·.block) = some b → gs < b := fun b hb => by
              obtain ⟨e1, _⟩ := HO.out.lies (b := b) (by rw [zzd]; exact hb)
              exact HOFF.out b e1
             have hk10 : ∀ b, b ≤ gs → w10.heap[b]? = wa.heap[b]? := fun b hb => (h10.grown.block b (by rw [zS]; omega) (fun e => by have := hne b e.symm; omega)).trans (Below.heap_alloc wa _ b (by omega))
             refine ⟨i + 1, m + 1, A6, c6, by omega, by go_num, rfl, ?_, ?_, ?_, h10.below, zH fun b hb => ?_, zH fun b hb => ?_⟩
             · rw [HTK.out, yyY _ _ rfl]; exact h10.own.flat xxO
             · rw [HTK.out, HE1.out]
               have e : (((s.count + 1 : Nat)) : Int) = (s.count : Int) + 1 := by omega
               rw [e, hk10 gs zN]
               exact HRA.out.s
             · rw [hk10 _ (by omega), HRA.out.keep _ (by omega) (by omega)]; exact HR.out
             · rw [hk10 _ (by omega), HRA.out.keep _ (by omega) (by omega)]; exact HK.out b hb
             · rcases h10.lies with h1 | h1
               · exact hne b (by rw [← h1, hb]; rfl)
               · rw [hb] at h1; injection h1 with h1; rw [zS] at h1; have h1 : b = wa.heap.size + 1 := h1; omega
            case measure => simp [intOf]; omega
    · have e1 := HC.out
      rw [jjT s rfl] at e1
      have HE1 := zH e1
      clear e1
      go_wp2_with fail
      go_roundw
      case rel =>
       have hn5 := HR5.out.setHn
       have hz := hn5.size
       have hgl := HGS.out
       have hlt5 := hn5.lts
       refine ⟨i + 1, m, A2, c2, by omega, by go_num, rfl, ?_, ?_, ?_, hn5.below _ _ HB.out (by omega), zH fun b hb => ?_, HOFF⟩
       · rw [HTK.out, zqS _ _ rfl]
         exact HO.out.keep (by omega) (fun b hb hl => hn5.keep b hl (fun e => by rcases hb with hb | hb; exact hb.elim; have := HOFF.out b hb.1; omega))
       · rw [HTK.out, HE1.out]; exact hn5.s
       · rw [hn5.keep _ (by omega) (by omega)]; exact HR.out
       · rw [hn5.keep _ (by omega) (by omega)]; exact HK.out b hb
      case measure => simp [intOf]; omega
  · obtain rfl : i = n := by omega
    have e1 : l.take i = l := zL (by rw [← HL.out]; exact Nat.le_refl _)
    rw [e1] at HS HO
    have HM := zH (show m ≤ 4096 by have h1 := HO.out.len; rw [List.length_map] at h1; have h2 := List.length_filter_le zzh l; have := HL.out; have := HN.out; omega)
    have hsu := rsum_any _ A2 m c2 ((l.filter zzh).map fun v : VV => v.n) wr (OwnF.sl HO.out) HM.out
    obtain ⟨z, hz⟩ : ∃ z : Int, z = if yy6 (sumV l) then sumV l else 0 := ⟨_, rfl⟩
    obtain ⟨ok, hok⟩ : ∃ ok : Bool, ok = yy6 (sumV l) := ⟨_, rfl⟩
    rw [← sumV_eq, ← hz, ← hok] at hsu
    have HSU := zH hsu; have HZZ := zH hz; have HOK := zH hok
    obtain ⟨nm, hnm⟩ : ∃ nm : Bool, nm = decide (1 ≤ k ∧ k ≤ 5) := ⟨_, rfl⟩
    have HNM := zH hnm
    have hs := HS.out
    obtain ⟨⟨s0, a0⟩, ⟨s1, a1⟩, ⟨s2, a2⟩, ⟨s3, a3⟩, ⟨s4, a4⟩, ⟨s5, a5⟩, ⟨s6, a6⟩, ⟨s7, a7⟩, ⟨s8, a8⟩, ⟨s9, a9⟩⟩ := zzn hs
    have hr := HR.out
    obtain ⟨⟨r0, y0⟩, ⟨r1, y1⟩, ⟨r2, y2⟩, ⟨r3, y3⟩, ⟨r4, y4⟩, ⟨r5, y5⟩, ⟨r6, y6⟩, ⟨r7, y7⟩, ⟨r8, y8⟩, ⟨r9, y9⟩⟩ := zzn hr
    have hgw : gs ≠ w.heap.size := by have := HGS.out; omega
    have hgw2 : w.heap.size ≠ gs := fun e => hgw e.symm
    clear e1 hs hr hsu hz hok hnm
    cases nm
    · go_wp2_with (first
       | (go_at_call 49; refine (xxn _ _).mono ?_; rintro e w6 ⟨rfl, rfl⟩; rw [← HNM.out])
       | fail)
      exact bodyPost_ret (results_cell_row rfl _ _ w.heap.size 109 _ (0, 0) _ rfl (set10 HR.out _ _ _ _ _ _ _ _ _ _) Tryz.underlying109 rfl (by kernel_rfl)) rfl ⟨by unfold zzs; rw [← HNM.out]; rfl, jjS HB.out zN _ _ _ _ _ _ _ _ _ _⟩
    · go_wp2_with (first
       | (go_at_call 49; refine (xxn _ _).mono ?_; rintro e w6 ⟨rfl, rfl⟩; rw [← HNM.out])
       | (go_at_call 115; refine HSU.out.mono ?_; rintro e w6 ⟨rfl, rfl⟩)
       | fail)
      exact bodyPost_ret (results_cell_row rfl _ _ w.heap.size 109 _ (0, 0) _ rfl (set10 ((Below.heap_setCell _ _ _ _ hgw2).trans ((Below.heap_setCell _ _ _ _ hgw2).trans HR.out)) _ _ _ _ _ _ _ _ _ _) Tryz.underlying109 rfl (by kernel_rfl)) rfl ⟨by unfold zzs; rw [← HNM.out, HZZ.out, HOK.out]; rfl, jjS (zzf (zzf HB.out (by have := HGS.out; omega) _) (by have := HGS.out; omega) _) zN _ _ _ _ _ _ _ _ _ _⟩
end
section
open Go Go.RowKit
theorem r15put_at (F : Nat → Prop) (A : Option Addr) (n c : Nat) (l : List ByteArray) (w : World) (h : Sl tStr F w A n c l) (hn : n ≤ 4096) (hs : ∀ s ∈ l, s.size ≤ 300) (enc tx : Int) (ss : List (Int × List UInt8)) (ht : txC l = (enc, tx, ss)) :
 Calls Tryz.prog 51 #[.slice A n c] w fun e w' => ∃ A' n' c', e = .returned (.tuple #[.agg #[.int .i64 (n : Int), .int .i64 enc, .int .i64 tx, .slice A' n' c'], .int .i64 0]) ∧ Sl zzw (fun b => w.heap.size ≤ b) w' A' n' c' ss ∧ Below w.heap.size w w' := by
 have h1 := xqA F A n c l w h hn hs
 unfold uuA at h1
 rw [ht, ← h.len] at h1
 exact h1
theorem xqB (k : Int) (F : Nat → Prop) (A : Option Addr) (n c : Nat) (l : List VV) (w : World) (h : Sl tVV F w A n c l) (hn : n ≤ 4096) (hT : Lib.Utf8Tabs 0 1 w) (hE : colE k l = 0) :
 Calls Tryz.prog 13 #[.int .i64 k, .slice A n c] w (yyu k l w) := by
 have hn1 : ¬ (n : Int) > 4096 := by omega
 have hn2 : ¬ (4096 : Int) < n := by omega
 have hk : 1 ≤ k ∧ k ≤ 7 := by
  by_cases hk : 1 ≤ k ∧ k ≤ 7
  · exact hk
  · unfold colE at hE
    rw [if_neg hk] at hE
    exact absurd hE (by decide)
 have hall : l.all (mayV k) = true := by
  cases hq : l.all (mayV k) with
  | true => rfl
  | false =>
    unfold colE at hE
    rw [if_pos hk, hq] at hE
    exact absurd hE (by decide)
 obtain ⟨wc, hwc⟩ := colW0 w
 have HWC := zH hwc; have HL := zH h.len; have HE := zH hE; have HN := zH hn
 have HH := zH (h.below hwc.below zN); have HT := zH (zzc hT hwc.below)
 have HR := zH (show colR k l = ((l.length : Int), colC k l) from if_pos hE)
 have HALL := zH hall
 have HM := zH (show ∀ v ∈ l.filter zzh, v.null = false ∧ mayV k v = true from fun v hv => by
  obtain ⟨h1, h2⟩ := List.mem_filter.1 hv
  exact ⟨by simpa [zzh] using h2, List.all_eq_true.1 hall v h1⟩)
 have k1 : ¬ k < 1 := by omega
 have k2 : ¬ k > 7 := by omega
 have k3 : ¬ 7 < k := by omega
 have HKK := zH hk
 clear h hn hT hwc hE hall hk
 go_enter Tryz.func13, Tryz.ntmps13
 go_upto_region 1 with fail
 rw [← HWC.out.eq]
 go_wp2_with fail
 go_loopw [6] (fun iv wr => ∃ i : Nat, i ≤ n ∧ iv = .int .i64 (i : Int) ∧ Below wc.heap.size wc wr) (fun iv _ => n - (intOf iv).toNat)
 case atStart => exact ⟨0, Nat.zero_le _, rfl, zR⟩
 case round =>
  obtain ⟨i, hi, rfl, hb⟩ := hrel
  have HB := zH hb
  have hsz := hb.size
  clear hb
  by_cases hlt : i < n
  · have hil : i < l.length := by rw [← HL.out]; exact hlt
    obtain ⟨b, o, cs, rfl, _, hbl, hrep, hc⟩ := (HH.out.below HB.out zN).at_ hil (by decide)
    obtain ⟨v, hf⟩ : ∃ v, v = l[i] := ⟨_, rfl⟩
    obtain ⟨rfl, hok⟩ := hrep
    rw [← hf] at hc hok
    have hmv : mayV k v = true := by rw [hf]; exact List.all_eq_true.1 HALL.out _ (List.getElem_mem hil)
    have hm5 := vvW k v hok
    rw [hmv] at hm5
    have HM5 := zH hm5
    obtain ⟨nu, x, s⟩ := v
    obtain ⟨g0, g1, g2⟩ := zzR hc
    have g0 : _ = some (Value.bool nu) := g0
    have g1 : _ = some (Value.int .i64 x) := g1
    have g2 : _ = some (Value.string s) := g2
    have hi0 : (0 : Int) ≤ (i : Int) := by omega
    have hi1 : (i : Int) < (n : Int) := by omega
    clear hc hf hok hmv hm5
    go_wp2_with (first
     | (go_at_call 47; refine (HM5.out _ (zzc HT.out HB.out)).mono ?_; rintro e w5 ⟨rfl, hb5⟩; have HB5 := zH hb5; clear hb5)
     | fail)
    go_roundw
    case rel => exact ⟨i + 1, by omega, by go_num, HB.out.trans (HB5.out.mono hsz)⟩
    case measure => simp [intOf]; omega
  · obtain rfl : i = n := by omega
    obtain ⟨wq, rfl⟩ : ∃ wq, wq = wr := ⟨wr, rfl⟩
    have HBR := zH (HWC.out.below.trans (HB.out.mono HWC.out.below.size))
    go_upto_region 12 with (first
     | (go_at_call 48; refine (xqh c06 F A i c l _ (HH.out.below HB.out zN) HN.out).mono ?_; rintro e w2 ⟨A1, n1, c1, A2, n2, c2, rfl, hs1, hs2, hb2⟩; have HS1 := zH hs1; have HS2 := zH hs2; have HB2 := zH hb2; clear hs1 hs2 hb2)
     | fail)
    have HL2 := zH HS2.out.len
    have hn24 : n2 ≤ 4096 := by have := HL2.out; have := List.length_filter_le zzh l; have := HL.out; have := HN.out; omega
    have HN2 := zH hn24
    have HBX := zH (HBR.out.trans (HB2.out.mono HBR.out.size))
    have HZ2 := zH ((HWC.out.z.keep HB.out).keep HB2.out)
    have HT2 := zH (zzc (zzc HT.out HB.out) HB2.out)
    have HLO := zH (show w.heap.size + 1 ≤ w2.heap.size from HZ2.out.lt)
    obtain ⟨w3, hw3⟩ : ∃ w3, w3 = (w2.alloc (.cells #[.int .i64 1, .slice A1 n1 c1] 55)).alloc (.cells #[.int .i64 (i : Int), .int .i64 1, .int .i64 0, .slice (some ⟨w2.heap.size, 0, none⟩) 1 1] 27) := ⟨_, rfl⟩
    have HW3 := zH hw3
    have hru : RuC w2 (w2.heap.size + 1) (i : Int) 1 0 (fun b => wq.heap.size ≤ b ∧ b < w2.heap.size) (some ⟨w2.heap.size, 0, none⟩) 1 1 [(1, yyi l)] w3 := by
     rw [hw3]; exact RuC.new HS1.out (zR)
    have HRU := zH hru
    have hb23 : Below w2.heap.size w2 w3 := hru.below
    have HB23 := zH hb23
    have HZW := zH (show w3.heap.size = w2.heap.size + 2 by rw [hw3]; simp)
    clear hw3 hru hb23 hn24
    go_upto_region 13 with fail
    rw [← HW3.out]
    by_cases h5 : k ≤ 5
    · have HC := zH (show colC k l = (1, 0, [(1, yyi l), (2, xxj k (l.filter zzh))]) from if_pos ⟨HKK.out.1, h5⟩)
      have HNM := zH (show decide (1 ≤ k ∧ k ≤ 5) = true from decide_eq_true ⟨HKK.out.1, h5⟩)
      have HK5 := zH (show 1 ≤ k ∧ k ≤ 5 from ⟨HKK.out.1, h5⟩)
      clear h5
      go_upto_region 16 with (first
       | (go_at_call 49; refine (xxn _ _).mono ?_; rintro e w5 ⟨rfl, rfl⟩; rw [HNM.out])
       | (go_at_call 50; refine (xqi c06 c11 k HK5.out _ A2 n2 c2 (l.filter zzh) _ (HS2.out.below HB23.out zN) HN2.out HM.out (zzc HT2.out HB23.out)).mono ?_; rintro e w4 ⟨hb4, A5, n5, c5, rfl, ho5⟩; have HO5 := zH ho5; have HB4 := zH hb4; clear ho5 hb4)
       | fail)
      have HRU4 := zH (HRU.out.keep HB4.out)
      have hg4 := HRU4.out.hold
      obtain ⟨⟨q0, p0⟩, ⟨q1, p1⟩, ⟨q2, p2⟩, ⟨q3, p3⟩⟩ := zzB hg4
      have HS5 := zH (vvo (B' := w3.heap.size) HO5.out zN)
      clear hg4
      go_upto_region 17 with (first
       | (at_builtin; refine apl1 (T := zzw) uus w4 w2 rfl (.tmp 67) (.tmp 70) rfl w2.heap.size _ 1 1 [(1, yyi l)] (by rfl) _ (fun b => w3.heap.size ≤ b) HRU4.out.own HRU4.out.below zN _ (by rfl) [.int .i64 2, .slice A5 n5 c5] (2, xxj k (l.filter zzh)) ⟨[.int .i64 2], [.slice A5 n5 c5], rfl, ⟨rfl, yyn 2 (by omega)⟩, ⟨A5, n5, c5, rfl, HS5.out⟩⟩ 55 rfl (fun b h1 _ _ => by injection h1 with h1; injection h1 with h1; have := HZW.out; omega) (by omega) ?_; intro A6 c6 w6 h6; have HP6 := zH ((HRU4.out.alloc _).push h6 (fun hx => hx.1.elim HRU4.out.ng (fun hx => by have := HZW.out; omega))); obtain ⟨r3, s3⟩ := (HRU4.out.alloc _).hold' h6; clear h6)
       | fail)
      clear q0 p0 q1 p1 q2 p2 q3 p3 r3 s3
      obtain ⟨w7, hw7⟩ : ∃ w7, w7 = w6.setCell ⟨w2.heap.size + 1, 3, none⟩ (.slice A6 2 c6) := ⟨_, rfl⟩
      have HW7 := zH hw7
      rw [← hw7] at HP6
      rw [← hw7]
      have hg7 := HP6.out.hold
      obtain ⟨⟨q0, p0⟩, ⟨q1, p1⟩, ⟨q2, p2⟩, ⟨q3, p3⟩⟩ := zzB hg7
      have HG7 := zH (HZ2.out.keep HP6.out.below)
      obtain ⟨⟨z0, y0⟩, ⟨z1, y1⟩, ⟨z2, y2⟩, ⟨z3, y3⟩⟩ := HG7.out.cells0
      clear hg7 hw7
      go_wp2_with fail
      refine bodyPost_ret (zzm rfl _ _ w.heap.size 27 #[.int .i64 (i : Int), .int .i64 1, .int .i64 0, .slice A6 2 c6] (0, 0) _ rfl (vv6 HG7.out.at_ _ _ _ _) Tryz.underlying27 rfl (by kernel_rfl)) rfl ?_
      unfold yyu
      rw [HR.out, HE.out, HC.out, ← HL.out]
      refine ⟨A6, 2, c6, rfl, ?_, zzI (HBX.out.trans (HP6.out.below.mono HBX.out.size)) zN _ _ _ _⟩
      have hs7 := HP6.out.own.sl.weaken (F' := fun b => w.heap.size + 1 ≤ b) (fun b hb _ => by
       have e1 := HLO.out; have e2 := HB.out.size; have e3 := HWC.out.size; have e4 := HB2.out.size
       rcases hb with hb | hb
       · rcases hb.1 with hb | hb
         · have := hb.1; omega
         · have := HZW.out; omega
       · have := hb.2; omega)
      exact (hs7.keep (by simp) (fun b hb _ => vv7 (by omega) _ _ _ _)).weaken fun b hb _ => by omega
    · obtain ⟨ws, hws⟩ : ∃ ws, ws = (l.filter zzh).map (·.s) := ⟨_, rfl⟩
      have HC := zH (show colC k l = ((txC ws).1, (txC ws).2.1, (1, yyi l) :: (txC ws).2.2) by unfold colC; rw [if_neg (by omega), hws])
      obtain ⟨enc, tx, ss, htx⟩ : ∃ enc tx ss, txC ws = (enc, tx, ss) := ⟨_, _, _, rfl⟩
      have HWS := zH hws; have HTX := zH htx
      have HNM := zH (show decide (1 ≤ k ∧ k ≤ 5) = false from decide_eq_false (by omega))
      have HSM := zH (show ∀ s ∈ ws, s.size ≤ 300 from fun s hs => by
       rw [hws] at hs
       obtain ⟨v, hv, rfl⟩ := List.mem_map.1 hs
       obtain ⟨h1, h2⟩ := HM.out v hv
       unfold mayV at h2
       rw [if_neg (by omega), if_pos (by have := HKK.out; omega), h1] at h2
       simp at h2
       exact h2.2.1)
      have HO0 := zH (OwnF.empty tStr 9 (fun _ => False) w3 w3.heap.size zN (fun _ hb => hb.elim))
      have HB0 := zH (show Below w3.heap.size w3 (w3.alloc (.cells #[] 9)) from (zR).alloc zN _)
      clear hws htx
      go_wp2_with (first
       | (go_at_call 49; refine (xxn _ _).mono ?_; rintro e w5 ⟨rfl, rfl⟩; rw [HNM.out])
       | fail)
      go_loopw [15, 16] (fun v iv wx => ∃ (j : Nat) (A5 : Option Addr) (c5 : Nat) (G : Nat → Prop), j ≤ n2 ∧ iv = .int .i64 (j : Int) ∧ v = .slice A5 j c5 ∧ OwnF tStr 9 G wx w3.heap.size A5 j c5 (((l.filter zzh).take j).map (·.s)) ∧ Below w3.heap.size w3 wx) (fun _ iv _ => n2 - (intOf iv).toNat)
      case atStart => exact ⟨0, _, 0, _, Nat.zero_le _, rfl, rfl, HO0.out, HB0.out⟩
      case round =>
       obtain ⟨j, A5, c5, G, hj, rfl, rfl, hown, hb5⟩ := hrel
       have HO := zH hown; have HB5 := zH hb5
       clear hown hb5
       by_cases hjn : j < n2
       · have hjl : j < (l.filter zzh).length := by rw [← HL2.out]; exact hjn
         obtain ⟨b, o, cs, rfl, _, hbl, hrep, hc⟩ := (HS2.out.below (HB23.out.trans (HB5.out.mono (by have := HZW.out; omega))) zN).at_ hjl (by decide)
         obtain ⟨v, hf⟩ : ∃ v, v = (l.filter zzh)[j] := ⟨_, rfl⟩
         obtain ⟨rfl, hok⟩ := hrep
         rw [← hf] at hc hok
         obtain ⟨nu, x, s⟩ := v
         have hsm : s.size ≤ maxLen := hok.2.2
         have HF := zH hf
         obtain ⟨g0, g1, g2⟩ := zzR hc
         have g0 : _ = some (Value.bool nu) := g0
         have g1 : _ = some (Value.int .i64 x) := g1
         have g2 : _ = some (Value.string s) := g2
         have hi0 : (0 : Int) ≤ (j : Int) := by omega
         have hi1 : (j : Int) < (n2 : Int) := by omega
         have hj4 : j ≤ 34359738368 := by have := HN2.out; omega
         have HSMX := zH hsm
         clear hc hf hok hsm
         go_wp2_with (first
          | (at_builtin; refine apl1 (T := tStr) kq0 _ w3 rfl (.tmp 81) (.tmp 87) rfl w3.heap.size A5 j c5 (((l.filter zzh).take j).map (·.s)) (by rfl) G (fun _ => False) HO.out HB5.out zN _ (by rfl) [.string s] s ⟨rfl, HSMX.out⟩ 9 rfl (fun _ _ _ _ h4 => h4) hj4 ?_; intro A7 c7 w7 h7)
          | fail)
         go_roundw
         case rel =>
          have e1 : ((l.filter zzh).take (j + 1)).map (·.s) = ((l.filter zzh).take j).map (·.s) ++ [s] := by
           rw [zT hjl, List.map_append, ← HF.out]; rfl
          have e2 := h7.own
          rw [← e1] at e2
          exact ⟨j + 1, A7, c7, _, by omega, by go_num, rfl, e2, h7.below⟩
         case measure => simp [intOf]; omega
       · obtain rfl : j = n2 := by omega
         obtain ⟨w5, rfl⟩ : ∃ w5, w5 = wr := ⟨wr, rfl⟩
         have e1 : (l.filter zzh).take j = l.filter zzh := zL (by rw [← HL2.out]; exact Nat.le_refl _)
         rw [e1, ← HWS.out] at HO
         have HRU5 := zH (HRU.out.keep HB5.out)
         have HZ5 := zH HB5.out.size
         clear e1
         go_upto_region 24 with (first
          | (go_at_call 51; refine (r15put_at _ A5 j c5 ws w5 HO.out.sl HN2.out HSM.out enc tx ss HTX.out).mono ?_; rintro e w6 ⟨A6, n6, c6, rfl, hs6, hb6⟩; have HS6 := zH hs6; have HB6 := zH hb6; clear hs6 hb6)
          | fail)
         have HRU6 := zH (HRU5.out.keep HB6.out)
         have HZ6 := zH HB6.out.size
         obtain ⟨w7, hw7⟩ : ∃ w7, w7 = w6.alloc (.cells #[.int .i64 (j : Int), .int .i64 enc, .int .i64 tx, .slice A6 n6 c6] 27) := ⟨_, rfl⟩
         have hru7 : RuC w2 (w2.heap.size + 1) (i : Int) 1 0 (fun b => wq.heap.size ≤ b ∧ b < w2.heap.size) (some ⟨w2.heap.size, 0, none⟩) 1 1 [(1, yyi l)] w7 := by rw [hw7]; exact HRU6.out.alloc _
         have hgt : w7.heap[w6.heap.size]? = some (.cells #[.int .i64 (j : Int), .int .i64 enc, .int .i64 tx, .slice A6 n6 c6] 27 (0, 0)) := by rw [hw7]; exact heap_alloc_new _ _
         have hs7 : Sl zzw (fun b => w5.heap.size ≤ b ∧ b < w6.heap.size) w7 A6 n6 c6 ss := by rw [hw7]; exact (HS6.out.weaken fun b hb hl => ⟨hb, hl⟩).alloc _
         obtain ⟨t0, ht0⟩ : ∃ t0, t0 = w6.heap.size := ⟨_, rfl⟩
         have hts : t0 < w7.heap.size := by rw [hw7, zS, ht0]; omega
         have HZ6 : Hid (w5.heap.size ≤ t0) := zH (by rw [ht0]; exact HZ6.out)
         rw [← hw7]
         rw [← ht0] at hgt hs7 ⊢
         obtain ⟨g, hgg⟩ : ∃ g, g = w2.heap.size + 1 := ⟨_, rfl⟩
         rw [← hgg] at hru7 ⊢
         have HGG := zH hgg
         have hgne : t0 ≠ g := by have := HZ6.out; have := HZ5.out; have := HZW.out; omega
         have HRU7 := zH hru7; have HS7 := zH hs7; have HGT := zH hgt; have HNE := zH hgne; have HTS := zH hts
         clear hru7 hs7 hgt hw7 ht0 hgg hts
         have hg7 := HRU7.out.hold
         have hgt := HGT.out
         obtain ⟨⟨q0, p0⟩, ⟨q1, p1⟩, ⟨q2, p2⟩, ⟨q3, p3⟩⟩ := zzB hg7
         obtain ⟨⟨u0, _⟩, ⟨u1, _⟩, ⟨u2, _⟩, ⟨u3, _⟩⟩ := zzB hgt
         clear hg7 hgt
         go_upto_region 25 with fail
         clear q0 p0 q1 p1 q2 p2 q3 p3 u0 u1 u2 u3
         obtain ⟨w8, hw8⟩ : ∃ w8, w8 = w7.setCell ⟨g, 1, none⟩ (.int .i64 enc) := ⟨_, rfl⟩
         have hru8 := HRU7.out.set1 (enc' := enc)
         have hgt8 : w8.heap[t0]? = some (.cells #[.int .i64 (j : Int), .int .i64 enc, .int .i64 tx, .slice A6 n6 c6] 27 (0, 0)) := by rw [hw8]; exact (Below.heap_setCell _ _ _ _ HNE.out).trans HGT.out
         have hs8 : Sl zzw (fun b => w5.heap.size ≤ b ∧ b < t0) w8 A6 n6 c6 ss := by rw [hw8]; exact HS7.out.setCell (p := ⟨g, 1, none⟩) (fun hb => by have h1 : w5.heap.size ≤ g := hb.1; have := HZ5.out; have := HZW.out; have := HGG.out; omega) _
         rw [← hw8] at hru8 ⊢
         have HRU8 := zH hru8; have HS8 := zH hs8; have HGT8 := zH hgt8
         clear hru8 hs8 hgt8 hw8
         have hg7 := HRU8.out.hold
         have hgt := HGT8.out
         obtain ⟨⟨q0, p0⟩, ⟨q1, p1⟩, ⟨q2, p2⟩, ⟨q3, p3⟩⟩ := zzB hg7
         obtain ⟨⟨u0, _⟩, ⟨u1, _⟩, ⟨u2, _⟩, ⟨u3, _⟩⟩ := zzB hgt
         clear hg7 hgt
         go_upto_region 26 with fail
         clear q0 p0 q1 p1 q2 p2 q3 p3 u0 u1 u2 u3
         obtain ⟨w9, hw9⟩ : ∃ w9, w9 = w8.setCell ⟨g, 2, none⟩ (.int .i64 tx) := ⟨_, rfl⟩
         have hru9 := HRU8.out.set2 (tx' := tx)
         have hgt9 : w9.heap[t0]? = some (.cells #[.int .i64 (j : Int), .int .i64 enc, .int .i64 tx, .slice A6 n6 c6] 27 (0, 0)) := by rw [hw9]; exact (Below.heap_setCell _ _ _ _ HNE.out).trans HGT8.out
         have hs9 : Sl zzw (fun b => w5.heap.size ≤ b ∧ b < t0) w9 A6 n6 c6 ss := by rw [hw9]; exact HS8.out.setCell (p := ⟨g, 2, none⟩) (fun hb => by have h1 : w5.heap.size ≤ g := hb.1; have := HZ5.out; have := HZW.out; have := HGG.out; omega) _
         rw [← hw9] at hru9 ⊢
         have HRU9 := zH hru9; have HS9 := zH hs9; have HGT9 := zH hgt9
         have HN6 := zH (show n6 ≤ 3 by have h1 := txC_len ws; rw [HTX.out] at h1; have h2 : ss.length ≤ 3 := h1; have := hs9.len; omega)
         clear hru9 hs9 hgt9 hw9
         have hg7 := HRU9.out.hold
         have hgt := HGT9.out
         obtain ⟨⟨q0, p0⟩, ⟨q1, p1⟩, ⟨q2, p2⟩, ⟨q3, p3⟩⟩ := zzB hg7
         obtain ⟨⟨u0, _⟩, ⟨u1, _⟩, ⟨u2, _⟩, ⟨u3, _⟩⟩ := zzB hgt
         clear hg7 hgt
         go_upto_region 27 with (first
          | (at_builtin; refine apl (T := zzw) uus w9 w2 rfl (.tmp 101) (.tmp 103) rfl w2.heap.size _ 1 1 [(1, yyi l)] (by rfl) _ (fun b => w5.heap.size ≤ b ∧ b < t0) HRU9.out.own HRU9.out.below zN A6 n6 c6 ss (by rfl) HS9.out (fun b h1 _ _ hb => by injection h1 with h1; injection h1 with h1; have := HZW.out; have := HZ5.out; omega) (by have := HN6.out; omega) ?_; intro A8 c8 wA h8; have HPA := zH (HRU9.out.push h8 (fun hx => hx.1.elim HRU9.out.ng (fun hx => by have := HZW.out; have := HZ5.out; have := HGG.out; omega))); obtain ⟨r3, s3⟩ := HRU9.out.hold' h8; clear h8)
          | fail)
         clear q0 p0 q1 p1 q2 p2 q3 p3 u0 u1 u2 u3 r3 s3
         obtain ⟨wB, hwB⟩ : ∃ wB, wB = wA.setCell ⟨g, 3, none⟩ (.slice A8 (1 + n6) c8) := ⟨_, rfl⟩
         rw [← hwB] at HPA
         rw [← hwB]
         have hg7 := HPA.out.hold
         obtain ⟨⟨q0, p0⟩, ⟨q1, p1⟩, ⟨q2, p2⟩, ⟨q3, p3⟩⟩ := zzB hg7
         have HG7 := zH (HZ2.out.keep HPA.out.below)
         obtain ⟨⟨z0, y0⟩, ⟨z1, y1⟩, ⟨z2, y2⟩, ⟨z3, y3⟩⟩ := HG7.out.cells0
         clear hg7 hwB
         go_wp2_with fail
         refine bodyPost_ret (zzm rfl _ _ w.heap.size 27 #[.int .i64 (i : Int), .int .i64 enc, .int .i64 tx, .slice A8 (1 + n6) c8] (0, 0) _ rfl (vv6 HG7.out.at_ _ _ _ _) Tryz.underlying27 rfl (by kernel_rfl)) rfl ?_
         unfold yyu
         rw [HR.out, HE.out, HC.out, HTX.out, ← HL.out]
         refine ⟨A8, 1 + n6, c8, rfl, ?_, zzI (HBX.out.trans (HPA.out.below.mono HBX.out.size)) zN _ _ _ _⟩
         have hs7 := HPA.out.own.sl.weaken (F' := fun b => w.heap.size + 1 ≤ b) (fun b hb _ => by
          have e1 := HLO.out; have e2 := HB.out.size; have e3 := HWC.out.size; have e4 := HB2.out.size; have e5 := HZ5.out; have e6 := HZW.out
          rcases hb with hb | hb
          · rcases hb.1 with hb | hb
            · have := hb.1; omega
            · omega
          · have := hb.2; omega)
         exact (hs7.keep (by simp) (fun b hb _ => vv7 (by omega) _ _ _ _)).weaken fun b hb _ => by omega
theorem xqC (k : Int) (F : Nat → Prop) (A : Option Addr) (n c : Nat) (l : List VV) (w : World) (h : Sl tVV F w A n c l) (hn : n ≤ 4096) (hT : Lib.Utf8Tabs 0 1 w) :
 Calls Tryz.prog 13 #[.int .i64 k, .slice A n c] w (yyu k l w) := by
 by_cases hE : colE k l = 0
 · exact xqB k F A n c l w h hn hT hE
 · exact r16put_no k F A n c l w h hn hT hE
end
end Go.Proofs.YtpmglcachffojaaGreatDoor
