/- A part of what Puts leans on. -/
import Derived.Test.YtpmglcachffojaaGreatDoorZ18
import Derived.Test.YtpmglcachffojaaGreatDoorZ28
import Derived.Test.YtpmglcachffojaaGreatDoorZ29
set_option maxRecDepth 100000
set_option maxHeartbeats 16000000
namespace Go.Proofs.YtpmglcachffojaaGreatDoor
section
open Go Go.RowKit
section
variable {w w0 : World} {g B : Nat} {c0 c1 c2 c3 c4 c5 c6 c7 c8 c9 : Value} {t : TypeId}
theorem zzn (h : w.heap[g]? = some (.cells #[c0, c1, c2, c3, c4, c5, c6, c7, c8, c9] t (0, 0))) : (w.cell? ⟨g, 0, none⟩ = some c0 ∧ w.frozen? ⟨g, 0, none⟩ = false) ∧ (w.cell? ⟨g, 1, none⟩ = some c1 ∧ w.frozen? ⟨g, 1, none⟩ = false) ∧ (w.cell? ⟨g, 2, none⟩ = some c2 ∧ w.frozen? ⟨g, 2, none⟩ = false) ∧ (w.cell? ⟨g, 3, none⟩ = some c3 ∧ w.frozen? ⟨g, 3, none⟩ = false) ∧ (w.cell? ⟨g, 4, none⟩ = some c4 ∧ w.frozen? ⟨g, 4, none⟩ = false) ∧ (w.cell? ⟨g, 5, none⟩ = some c5 ∧ w.frozen? ⟨g, 5, none⟩ = false) ∧ (w.cell? ⟨g, 6, none⟩ = some c6 ∧ w.frozen? ⟨g, 6, none⟩ = false) ∧ (w.cell? ⟨g, 7, none⟩ = some c7 ∧ w.frozen? ⟨g, 7, none⟩ = false) ∧ (w.cell? ⟨g, 8, none⟩ = some c8 ∧ w.frozen? ⟨g, 8, none⟩ = false) ∧ (w.cell? ⟨g, 9, none⟩ = some c9 ∧ w.frozen? ⟨g, 9, none⟩ = false) :=
 ⟨⟨by rw [zC h]; rfl, zF h 0⟩, ⟨by rw [zC h]; rfl, zF h 1⟩, ⟨by rw [zC h]; rfl, zF h 2⟩, ⟨by rw [zC h]; rfl, zF h 3⟩, ⟨by rw [zC h]; rfl, zF h 4⟩, ⟨by rw [zC h]; rfl, zF h 5⟩, ⟨by rw [zC h]; rfl, zF h 6⟩, ⟨by rw [zC h]; rfl, zF h 7⟩, ⟨by rw [zC h]; rfl, zF h 8⟩, ⟨by rw [zC h]; rfl, zF h 9⟩⟩
theorem set10 (h : w.heap[g]? = some (.cells #[c0, c1, c2, c3, c4, c5, c6, c7, c8, c9] t (0, 0))) (u0 u1 u2 u3 u4 u5 u6 u7 u8 u9 : Value) : ((((((((((w.setCell ⟨g, 0, none⟩ u0).setCell ⟨g, 1, none⟩ u1).setCell ⟨g, 2, none⟩ u2).setCell ⟨g, 3, none⟩ u3).setCell ⟨g, 4, none⟩ u4).setCell ⟨g, 5, none⟩ u5).setCell ⟨g, 6, none⟩ u6).setCell ⟨g, 7, none⟩ u7).setCell ⟨g, 8, none⟩ u8).setCell ⟨g, 9, none⟩ u9).heap[g]? = some (.cells #[u0, u1, u2, u3, u4, u5, u6, u7, u8, u9] t (0, 0)) := (zza (cs' := #[u0, u1, u2, u3, u4, u5, u6, u7, u8, u9]) (zza (cs' := #[u0, u1, u2, u3, u4, u5, u6, u7, u8, c9]) (zza (cs' := #[u0, u1, u2, u3, u4, u5, u6, u7, c8, c9]) (zza (cs' := #[u0, u1, u2, u3, u4, u5, u6, c7, c8, c9]) (zza (cs' := #[u0, u1, u2, u3, u4, u5, c6, c7, c8, c9]) (zza (cs' := #[u0, u1, u2, u3, u4, c5, c6, c7, c8, c9]) (zza (cs' := #[u0, u1, u2, u3, c4, c5, c6, c7, c8, c9]) (zza (cs' := #[u0, u1, u2, c3, c4, c5, c6, c7, c8, c9]) (zza (cs' := #[u0, u1, c2, c3, c4, c5, c6, c7, c8, c9]) (zza (cs' := #[u0, c1, c2, c3, c4, c5, c6, c7, c8, c9]) h rfl) rfl) rfl) rfl) rfl) rfl) rfl) rfl) rfl) rfl)
theorem jjS (hb : Below B w0 w) (hg : B ≤ g) (u0 u1 u2 u3 u4 u5 u6 u7 u8 u9 : Value) : Below B w0 ((((((((((w.setCell ⟨g, 0, none⟩ u0).setCell ⟨g, 1, none⟩ u1).setCell ⟨g, 2, none⟩ u2).setCell ⟨g, 3, none⟩ u3).setCell ⟨g, 4, none⟩ u4).setCell ⟨g, 5, none⟩ u5).setCell ⟨g, 6, none⟩ u6).setCell ⟨g, 7, none⟩ u7).setCell ⟨g, 8, none⟩ u8).setCell ⟨g, 9, none⟩ u9) := (zzf (zzf (zzf (zzf (zzf (zzf (zzf (zzf (zzf (zzf hb hg _) hg _) hg _) hg _) hg _) hg _) hg _) hg _) hg _) hg _)
end
structure SumW (w : World) (c : Int) (hn : Bool) (mn mx : VV) (S : Int) (ws : World) : Prop where
 eq : ws = ((w.alloc (.cells #[.int .i64 c, .bool hn, .bool mn.null, .int .i64 mn.n, .string mn.s, .bool mx.null, .int .i64 mx.n, .string mx.s, .int .i64 0, .bool false] 109)).alloc (.cells #[.int .i64 (tHi S), .int .u64 (tLo S : Nat)] 230)).alloc (.cells #[.int .i64 0, .bool false, .bool false, .int .i64 0, .string ⟨#[]⟩, .bool false, .int .i64 0, .string ⟨#[]⟩, .int .i64 0, .bool false] 109)
 below : Below w.heap.size w ws
 s : ws.heap[w.heap.size]? = some (.cells #[.int .i64 c, .bool hn, .bool mn.null, .int .i64 mn.n, .string mn.s, .bool mx.null, .int .i64 mx.n, .string mx.s, .int .i64 0, .bool false] 109 (0, 0))
 t : ws.heap[w.heap.size + 1]? = some (.cells #[.int .i64 (tHi S), .int .u64 (tLo S : Nat)] 230 (0, 0))
 r : ws.heap[w.heap.size + 2]? = some (.cells #[.int .i64 0, .bool false, .bool false, .int .i64 0, .string ⟨#[]⟩, .bool false, .int .i64 0, .string ⟨#[]⟩, .int .i64 0, .bool false] 109 (0, 0))
theorem sumW (w : World) (c : Int) (hn : Bool) (mn mx : VV) (S : Int) : ∃ ws, SumW w c hn mn mx S ws := by
 refine ⟨_, rfl, (((zR).alloc zN _).alloc (by simp) _).alloc (by simp; omega) _, ?_, ?_, ?_⟩
 · exact (Below.heap_alloc _ _ _ (by simp; omega)).trans ((Below.heap_alloc _ _ _ (by simp)).trans (heap_alloc_new w _))
 · refine (Below.heap_alloc _ _ _ (by simp)).trans ?_
   have := heap_alloc_new (w.alloc (.cells #[.int .i64 c, .bool hn, .bool mn.null, .int .i64 mn.n, .string mn.s, .bool mx.null, .int .i64 mx.n, .string mx.s, .int .i64 0, .bool false] 109)) (.cells #[.int .i64 (tHi S), .int .u64 (tLo S : Nat)] 230)
   rwa [zS] at this
 · have := heap_alloc_new ((w.alloc (.cells #[.int .i64 c, .bool hn, .bool mn.null, .int .i64 mn.n, .string mn.s, .bool mx.null, .int .i64 mx.n, .string mx.s, .int .i64 0, .bool false] 109)).alloc (.cells #[.int .i64 (tHi S), .int .u64 (tLo S : Nat)] 230)) (.cells #[.int .i64 0, .bool false, .bool false, .int .i64 0, .string ⟨#[]⟩, .bool false, .int .i64 0, .string ⟨#[]⟩, .int .i64 0, .bool false] 109)
   rwa [zS, zS] at this
theorem xqn (k c : Int) (hn : Bool) (mn mx : VV) (S : Int) (w : World) :
 Calls Tryz.prog 178 #[.int .i64 k, .agg #[.int .i64 c, .bool hn, .bool mn.null, .int .i64 mn.n, .string mn.s, .bool mx.null, .int .i64 mx.n, .string mx.s, .int .i64 0, .bool false], .agg #[.int .i64 (tHi S), .int .u64 (tLo S : Nat)]] w fun e w' =>
  e = .returned (.agg #[.int .i64 c, .bool hn, .bool mn.null, .int .i64 mn.n, .string mn.s, .bool mx.null, .int .i64 mx.n, .string mx.s, .int .i64 (if decide (1 ≤ k ∧ k ≤ 5) && yy6 S then S else 0), .bool (decide (1 ≤ k ∧ k ≤ 5) && !yy6 S)]) ∧ Below w.heap.size w w' := by
 obtain ⟨ws, h⟩ := sumW w c hn mn mx S
 have HW := zH h
 have hs := h.s; have ht := h.t; have hr := h.r
 obtain ⟨⟨s0, a0⟩, ⟨s1, a1⟩, ⟨s2, a2⟩, ⟨s3, a3⟩, ⟨s4, a4⟩, ⟨s5, a5⟩, ⟨s6, a6⟩, ⟨s7, a7⟩, ⟨s8, a8⟩, ⟨s9, a9⟩⟩ := zzn hs
 have t0 : ws.cell? ⟨w.heap.size + 1, 0, none⟩ = some (.int .i64 (tHi S)) := by rw [zC ht]; rfl
 have t1 : ws.cell? ⟨w.heap.size + 1, 1, none⟩ = some (.int .u64 (tLo S : Nat)) := by rw [zC ht]; rfl
 obtain ⟨⟨r0, y0⟩, ⟨r1, y1⟩, ⟨r2, y2⟩, ⟨r3, y3⟩, ⟨r4, y4⟩, ⟨r5, y5⟩, ⟨r6, y6⟩, ⟨r7, y7⟩, ⟨r8, y8⟩, ⟨r9, y9⟩⟩ := zzn hr
 obtain ⟨mnn, mni, mns⟩ := mn
 obtain ⟨mxn, mxi, mxs⟩ := mx
 obtain ⟨q, hq⟩ : ∃ q, q = decide (1 ≤ k ∧ k ≤ 5) := ⟨_, rfl⟩
 rw [← hq]
 have HQ := zH hq
 dsimp only at *
 clear h hs ht hr hq
 cases q
 · go_enter Tryz.func178, Tryz.ntmps178
   go_upto_region 1 with fail
   rw [← HW.out.eq]
   go_wp2_with (first
    | (go_at_call 44; refine (zzj _ _).mono ?_; rintro e w5 ⟨rfl, rfl⟩; rw [← HQ.out])
    | fail)
   exact bodyPost_ret (results_cell_row rfl _ _ (w.heap.size + 2) 109 _ (0, 0) _ rfl (set10 HW.out.r _ _ _ _ _ _ _ _ _ _) Tryz.underlying109 rfl (by kernel_rfl)) rfl ⟨rfl, jjS HW.out.below (by omega) _ _ _ _ _ _ _ _ _ _⟩
 · obtain ⟨ok, hok⟩ : ∃ ok, ok = yy6 S := ⟨_, rfl⟩
   have HT := zH (tnum_any S)
   obtain ⟨x, hx⟩ : ∃ x, x = if ok then S else 0 := ⟨_, rfl⟩
   rw [← hok] at HT ⊢
   rw [← hx] at HT
   cases ok
   all_goals
    (first | (replace hx := (show x = S from hx); subst hx) | (replace hx := (show x = 0 from hx); subst hx))
    clear hok
    go_enter Tryz.func178, Tryz.ntmps178
    go_upto_region 1 with fail
    rw [← HW.out.eq]
    go_upto_region 4 with (first
     | (go_at_call 44; refine (zzj _ _).mono ?_; rintro e w5 ⟨rfl, rfl⟩; rw [← HQ.out])
     | (go_at_call 223; refine (HT.out _).mono ?_; rintro e w6 ⟨rfl, hb6⟩; have HB6 := zH hb6; clear hb6)
     | fail)
    have hs6 := (HB6.out.block _ (zzb HW.out.s)).trans HW.out.s
    have HR6 := zH ((HB6.out.block _ (zzb HW.out.r)).trans HW.out.r)
    have HB := zH (HW.out.below.trans (HB6.out.mono HW.out.below.size))
    clear s0 a0 r0 y0 s1 a1 r1 y1 s2 a2 r2 y2 s3 a3 r3 y3 s4 a4 r4 y4 s5 a5 r5 y5 s6 a6 r6 y6 s7 a7 r7 y7 s8 a8 r8 y8 s9 a9 r9 y9 t0 t1
    obtain ⟨⟨s0, a0⟩, ⟨s1, a1⟩, ⟨s2, a2⟩, ⟨s3, a3⟩, ⟨s4, a4⟩, ⟨s5, a5⟩, ⟨s6, a6⟩, ⟨s7, a7⟩, ⟨s8, a8⟩, ⟨s9, a9⟩⟩ := zzn hs6
    obtain ⟨⟨r0, y0⟩, ⟨r1, y1⟩, ⟨r2, y2⟩, ⟨r3, y3⟩, ⟨r4, y4⟩, ⟨r5, y5⟩, ⟨r6, y6⟩, ⟨r7, y7⟩, ⟨r8, y8⟩, ⟨r9, y9⟩⟩ := zzn HR6.out
    clear hs6
    go_wp2_with fail
    exact bodyPost_ret (results_cell_row rfl _ _ (w.heap.size + 2) 109 _ (0, 0) _ rfl (set10 ((Below.heap_setCell _ _ _ _ (by simp)).trans ((Below.heap_setCell _ _ _ _ (by simp)).trans HR6.out)) _ _ _ _ _ _ _ _ _ _) Tryz.underlying109 rfl (by kernel_rfl)) rfl ⟨rfl, jjS (zzf (zzf HB.out zN _) zN _) (by omega) _ _ _ _ _ _ _ _ _ _⟩
end
section
open Go Go.RowKit
structure P10 (w0 : World) (Ao : Option Addr) (so co : Nat) (out : List UInt8) (Au : Option Addr) (nu cu : Nat) (up : List Nat) (Ag : Option Addr) (np cg : Nat) (gs : List Int) (Ap : Option Addr) (cp : Nat) (ps : List Nat) (w : World) : Prop where
 below : Below w0.heap.size w0 w
 out : OwnB w w0.heap.size Ao so co out
 up : Sl tU64 (fun _ => True) w Au nu cu up
 gaps : Sl tI64 (fun _ => True) w Ag np cg gs
 pats : Sl tU64 (fun _ => True) w Ap np cp ps
theorem P10.keep {w0 w w' : World} {Ao : Option Addr} {so co : Nat} {out : List UInt8} {Au : Option Addr} {nu cu : Nat} {up : List Nat} {Ag : Option Addr} {np cg : Nat} {gs : List Int} {Ap : Option Addr} {cp : Nat} {ps : List Nat}
 (h : P10 w0 Ao so co out Au nu cu up Ag np cg gs Ap cp ps w) (hb : Below w.heap.size w w') : P10 w0 Ao so co out Au nu cu up Ag np cg gs Ap cp ps w' :=
 ⟨h.below.trans (hb.mono h.below.size), h.out.keepB hb, h.up.below hb zN, h.gaps.below hb zN, h.pats.below hb zN⟩
theorem P10.lay {w0 w : World} {Ao Ao' : Option Addr} {so co so' co' : Nat} {out out' : List UInt8} {Au : Option Addr} {nu cu : Nat} {up : List Nat} {Ag : Option Addr} {np cg : Nat} {gs : List Int} {Ap : Option Addr} {cp : Nat} {ps : List Nat}
 (h : P10 w0 Ao so co out Au nu cu up Ag np cg gs Ap cp ps w) (ho : OwnB w w0.heap.size Ao' so' co' out') : P10 w0 Ao' so' co' out' Au nu cu up Ag np cg gs Ap cp ps w :=
 ⟨h.below, ho, h.up, h.gaps, h.pats⟩
theorem gapW_take {ps : List (Nat × Nat)} {i : Nat} (h : i < ps.length) : gapW (ps.take (i + 1)) = max (gapW (ps.take i)) (bl (ps[i]).1) := by
 rw [zT h, jjw]
theorem xqy (F : Nat → Prop) (A : Option Addr) (n c : Nat) (l : List Int) (w : World) (h : Sl tI64 F w A n c l) (hn1 : 1 ≤ n) (hn : n ≤ 512) (sg : Bool) (hl : zzY sg l) (k : Nat) (hk : k ≤ 63) (hkc : zz6 (k : Int) = ((zz1 k : Nat) : Int)) :
 Calls Tryz.prog 219 #[.slice A n c, .int .i64 (k : Int), .bool sg] w (zzq (patB k l) w) := by
 have hlen := h.len
 have hne : l ≠ [] := by intro e; rw [e] at hlen; simp at hlen; omega
 have hmlr := (hl.least hne)
 have HH := zH h; have HNE := zH hne; have HK := zH hl; have HLEN := zH hlen
 obtain ⟨up, hup⟩ : ∃ up, up = upN l := ⟨_, rfl⟩
 obtain ⟨ps, hps⟩ : ∃ ps, ps = zzE k 0 0 up := ⟨_, rfl⟩
 obtain ⟨mn, hmn⟩ : ∃ mn, mn = zzM l := ⟨_, rfl⟩
 rw [← hmn] at hmlr
 obtain ⟨m0, m1, _⟩ := hmlr
 obtain ⟨ck, hck⟩ : ∃ ck, ck = zz1 k := ⟨_, rfl⟩
 have HKC := zH (show zz6 (k : Int) = (ck : Int) by rw [hck]; exact hkc)
 have hck31 : ck ≤ 31 := by rw [hck]; have := vvv (k : Int); omega
 have HAB : Hid (∀ w1, Below w.heap.size w w1 → Calls Tryz.prog 264 #[.slice A n c] w1 fun e w2 => Below w1.heap.size w1 w2 ∧ ∃ (b' : Int) (A2 : Option Addr) (n2 c2 : Nat) (ok : Bool), e = .returned (.tuple #[.int .i64 b', .slice A2 n2 c2, .bool ok]) ∧ (ok = false → patB k l = none) ∧
  (ok = true → b' = mn ∧ n2 = n ∧ Sl tU64 (fun _ => True) w2 A2 n2 c2 up ∧ up.all (· < 9223372036854775808) = true ∧ -9223372036854775808 < mn)) := zH fun w1 hb1 => by
  refine (xqs F A n c l w1 (HH.out.below hb1 zN) HNE.out (by omega)).mono ?_
  rintro e w2 ⟨hb2, he⟩
  refine ⟨hb2, ?_⟩
  by_cases hg : (upN l).all (· < 9223372036854775808) = true
  · rw [if_pos hg] at he
    obtain ⟨A2, c2, rfl, ho⟩ := he
    refine ⟨_, A2, _, c2, _, rfl, fun h1 => ?_, fun h1 => ⟨hmn.symm, HLEN.out.symm, ?_, by rw [hup]; exact hg, ?_⟩⟩
    · have h2 : zzM l = -9223372036854775808 := by simpa using h1
      unfold patB
      dsimp only
      rw [yyV, h2, hg]; simp
    · rw [hup]; exact ho.sl.any
    · have h2 : ¬ zzM l = -9223372036854775808 := by simpa using h1
      rw [← hmn] at h2; omega
  · rw [if_neg hg] at he
    refine ⟨_, none, 0, 0, _, he, fun _ => ?_, fun h => by cases h⟩
    have hg2 : (upN l).all (· < 9223372036854775808) = false := by simpa using hg
    unfold patB
    dsimp only
    rw [yyV, hg2]; simp
 have hn5 : ¬ (n : Int) > 512 := by omega
 have hn6 : ¬ (n : Int) < 1 := by omega
 have hk6 : ¬ (k : Int) ≥ 64 := by omega
 have hck0 : ¬ (ck : Int) < 0 := by omega
 have HUP := zH hup; have HPS := zH hps; have HMN := zH hmn; have HCK := zH hck
 clear h hl hlen hne hup hps hmn hck hkc
 go_enter Tryz.func219, Tryz.ntmps219
 go_upto_region 5 with (first
  | (go_at_call 214; refine (yyZ F _ n c l _ HH.out (by omega) sg HK.out).mono ?_; rintro e w1 ⟨A1, q1, c1, rfl, _, hb1⟩; have HB1 := zH hb1; clear hb1)
  | (go_at_call 261; refine (vv1 (k : Int) _).mono ?_; rintro e w4 ⟨rfl, rfl⟩; rw [HKC.out])
  | (go_at_call 264; refine (HAB.out _ HB1.out).mono ?_; rintro e w2 ⟨hb2, b', A2, n2, c2, ok, rfl, h1, h2⟩; have HB2 := zH hb2; have H1 := zH h1; have H2 := zH h2; clear hb2 h1 h2)
  | fail)
 have HBW := zH (HB1.out.trans (HB2.out.mono HB1.out.size))
 cases ok with
 | false =>
   go_wp2_with fail
   go_ret2
   rw [H1.out (by first | rfl | trivial)]
   exact ⟨HBW.out, rfl⟩
 | true =>
   obtain ⟨rfl, rfl, hup, hall, hmn0⟩ := H2.out (by first | rfl | trivial)
   have HUS := zH hup
   have HALL := zH hall
   clear hup hall H1 H2 HAB
   go_upto_region 8 with (first
    | (go_at_call 265; refine (xqu _ A2 n2 c2 up _ HUS.out hn k hk).mono ?_; rw [← HPS.out]; rintro e w3 ⟨Ag, cg, Ap, cp, np, hnp, hnp4, rfl, hg3, hp3, hb3⟩; have HNP := zH hnp; have HG3 := zH hg3.any; have HP3 := zH hp3.any; have HB3 := zH hb3; clear hnp hg3 hp3 hb3)
    | fail)
   have HP := zH (show P10 w none 0 0 [] A2 n2 c2 up Ag np cg (zz8 ps) Ap cp (yyq ps) w3 from ⟨HBW.out.trans (HB3.out.mono HBW.out.size), OwnB.nil_ _ _, HUS.out.below HB3.out zN, HG3.out, HP3.out⟩)
   clear HB1 HB2 HBW HUS HG3 HP3 HB3
   go_wp2_with fail
   go_loopw [15, 16] (fun gv iv wr => ∃ i : Nat, i ≤ np ∧ iv = .int .i64 (i : Int) ∧ gv = .int .i64 ((gapW (ps.take i) : Nat) : Int) ∧ wr = w3) (fun _ iv _ => np - (intOf iv).toNat)
   case atStart => exact ⟨0, Nat.zero_le _, rfl, rfl, rfl⟩
   case round =>
    obtain ⟨i, hi, rfl, rfl, rfl⟩ := hrel
    by_cases hlt : i < np
    · have hik : i < ps.length := by rw [← HNP.out]; exact hlt
      obtain ⟨x, hx⟩ : ∃ x, x = (ps[i]).1 := ⟨_, rfl⟩
      obtain ⟨b, o, uv, rfl, _, _, hrep, hcu⟩ := HP.out.gaps.at1 (k := i) (by unfold zz8; rw [List.length_map]; exact hik) rfl
      have hxe : (zz8 ps)[i]'(by unfold zz8; rw [List.length_map]; exact hik) = (x : Int) := by simp [zz8, hx]
      have hx63 := hrep.2.2
      have hr : [uv] = [Value.int .i64 ((zz8 ps)[i]'(by unfold zz8; rw [List.length_map]; exact hik))] := hrep.1
      rw [hxe] at hr hx63
      injection hr with hr; subst hr
      obtain ⟨g1, hg1⟩ : ∃ g1, g1 = gapW (ps.take i) := ⟨_, rfl⟩
      obtain ⟨g2, hg2⟩ : ∃ g2, g2 = bl x := ⟨_, rfl⟩
      have HE := zH (show gapW (ps.take (i + 1)) = max g1 g2 by rw [gapW_take hik, hg1, hg2, hx])
      have HG2 := zH hg2
      have HXU := zH (show U64 x by show x < 18446744073709551616; omega)
      have xw : IntKind.u64.wrap (x : Int) = (x : Int) := by rw [IntKind.wrap_u64]; omega
      rw [← hg1]
      have q0 : (0 : Int) ≤ (i : Int) := by omega
      have q1 : (i : Int) < (np : Int) := by omega
      clear hrep hxe hg1 hg2 hx
      go_wp2_with (first
       | (go_at_call 256; refine (vv2 x HXU.out _).mono ?_; rintro e w1 ⟨rfl, rfl⟩; rw [← HG2.out])
       | fail)
      go_roundw
      case rel => exact ⟨i + 1, by omega, by go_num, by rw [HE.out]; go_num, trivial⟩
      case measure => simp [intOf]; omega
    · obtain rfl : i = np := by omega
      have e1 : ps.take i = ps := zL (by rw [HNP.out]; exact Nat.le_refl _)
      rw [e1]
      obtain ⟨g, hg⟩ : ∃ g, g = gapW ps := ⟨_, rfl⟩
      obtain ⟨mo, hmo⟩ : ∃ mo, mo = most (yyq ps) := ⟨_, rfl⟩
      obtain ⟨q, hq⟩ : ∃ q, q = patW ps := ⟨_, rfl⟩
      have hpm : patM ps = max 1 mo := by rw [hmo]; rfl
      have hupl : ∀ x ∈ up, x < 9223372036854775808 := fun x hx => by simpa using List.all_eq_true.1 HALL.out x hx
      have hpm64 : patM ps ≤ 64 := (zqv ps fun x hx => by
       rw [HPS.out] at hx
       exact uup k up 0 0 (fun y hy => Nat.lt_trans (hupl y hy) (by decide)) x hx).2
      have HQW := zH (show zzt (max (1 : Int) (mo : Int)) = (q : Int) by
       rw [show max (1 : Int) (mo : Int) = ((patM ps : Nat) : Int) by rw [hpm]; omega, hq, xxW]; exact uuc)
      have hmx64 : max (1 : Int) (mo : Int) ≤ 64 := by rw [hpm] at hpm64; omega
      have HMX := zH hmx64
      have hgb : 1 ≤ g := by rw [hg]; unfold gapW; omega
      have hg64 : g ≤ 64 := by
       rw [hg]
       refine (gapW_le ps fun x hx => ?_).2
       obtain ⟨_, hcs⟩ := HP.out.gaps.all (x.1 : Int) (List.mem_map.2 ⟨x, hx, rfl⟩)
       have := hcs.2.2
       show x.1 < 18446744073709551616; omega
      have HGB := zH hgb
      have hqr : q ≤ 64 := by rw [hq, xxW]; exact yyl _
      have HFIT := zH (show yy5 k l = (decide (ps.length ≤ 31) && decide (g + q ≤ 64) && decide (k + q ≤ 64)) by
       rw [yyV, ← HUP.out, ← HPS.out, HALL.out, ← HMN.out, show (b' != -9223372036854775808) = true by simp; omega, hg, hq]; rfl)
      have HG := zH hg; have HMO := zH hmo; have HQ := zH hq; have HPM := zH hpm64; have HUPL := zH hupl
      rw [← hg]
      clear e1 hmo hq hpm hpm64 hmx64 hupl hgb hg
      go_upto_region 14 with (first
       | (go_at_call 258; refine (jjE _ Ap i cp (yyq ps) _ HP.out.pats).mono ?_; rintro e w5 ⟨rfl, rfl⟩; rw [← HMO.out])
       | (go_at_call 257; refine (vvf _ HMX.out _).mono ?_; rintro e w5 ⟨rfl, rfl⟩; rw [HQW.out])
       | fail)
      have HNONE : Hid (yy5 k l = false → patB k l = none) := zH fun hf => by unfold patB; dsimp only; rw [hf, if_neg (by simp)]
      by_cases h1 : i ≤ 31
      · have e1 : ¬ (i : Int) > 31 := by omega
        have e1' : ¬ (31 : Int) < (i : Int) := by omega
        by_cases h2 : g + q ≤ 64
        · have e2 : ¬ (g : Int) + (q : Int) > 64 := by omega
          by_cases h3 : k + q ≤ 64
          · have e3 : ¬ (k : Int) + (q : Int) > 64 := by omega
            have hfit : yy5 k l = true := by rw [HFIT.out, decide_eq_true h2, decide_eq_true h3, decide_eq_true (by rw [← HNP.out]; exact h1)]; rfl
            obtain ⟨bs, hbs⟩ : ∃ bs, bs = vvN b' := ⟨_, rfl⟩
            have hbl : bs.length = bl b'.natAbs / 8 + 1 := by rw [hbs]; unfold vvN; rw [zz2]
            have hbl2 : bl b'.natAbs ≤ 64 := yyk (show b'.natAbs < 18446744073709551616 by omega)
            have hb9 : 1 ≤ bs.length ∧ bs.length ≤ 9 := by omega
            obtain ⟨z, hz⟩ : ∃ z, z = zzz (g + q) := ⟨_, rfl⟩
            have hz1 := yyS h2
            have hz2 := yyl (g + q)
            rw [← hz] at hz1 hz2
            obtain ⟨low, hlow⟩ : ∃ low, low = up.map (· % 2 ^ k) := ⟨_, rfl⟩
            obtain ⟨both, hboth⟩ : ∃ both, both = ps.map fun x => x.1 * 2 ^ q + x.2 := ⟨_, rfl⟩
            obtain ⟨cq, hcq⟩ : ∃ cq, cq = zz1 q := ⟨_, rfl⟩
            have hqc : zz6 (q : Int) = ((zz1 q : Nat) : Int) ∧ zz1 q ≤ 31 := by rw [HQ.out, xxW]; exact xx4 HPM.out
            rw [← hcq] at hqc
            obtain ⟨y1, hy1⟩ : ∃ y1 : UInt8, y1 = UInt8.ofNat (32 * (bs.length - 1) + cq) := ⟨_, rfl⟩
            obtain ⟨y2, hy2⟩ : ∃ y2 : UInt8, y2 = UInt8.ofNat (32 * (g - 1) + i) := ⟨_, rfl⟩
            have HDEL : Hid (patB k l = some (zz7 2 ck n2 ++ [y1, y2] ++ bs ++ pack k low ++ pack z both)) := zH (by
             unfold patB
             dsimp only
             rw [hfit, if_pos rfl, ← HUP.out, ← HPS.out, ← HMN.out, ← hbs, ← HQ.out, ← HG.out, ← hlow, ← hz, ← hboth, ← hcq, ← HCK.out, ← HLEN.out, ← HNP.out, ← hy1, ← hy2])
            have hlows : ∀ x ∈ low, x < 2 ^ k := fun x hx => by
             rw [hlow] at hx
             obtain ⟨y, _, rfl⟩ := List.mem_map.1 hx
             exact Nat.mod_lt _ (Nat.pow_pos (by decide))
            have HPQ : Hid (∀ x ∈ ps, x.1 < 9223372036854775808 → U64 x.2 → x.1 < 2 ^ g ∧ x.2 < 2 ^ q) := zH fun x hx h1 h2 => by
             have h3 := kqj hx h1 h2
             rw [← HG.out] at h3
             refine ⟨h3.1, Nat.lt_of_lt_of_le h3.2 (Nat.pow_le_pow_right (by decide) ?_)⟩
             rw [HQ.out, xxW]
             exact (yyS HPM.out).1
            have HLOWS := zH hlows; have HBOTH := zH hboth; have HLOW := zH hlow; have HB9 := zH hb9; have HZ := zH hz; have HZ1 := zH hz1; have HBS := zH hbs; have HCQ := zH hqc.1; have HY1 := zH hy1; have HY2 := zH hy2
            have hcq31 := hqc.2
            clear hlt hfit hbs hbl hbl2 hb9 hz hz1 hlow hboth hcq hqc hy1 hy2 hlows
            go_upto_region 17 with (first
             | (go_at_call 266; refine (xqt b' hmn0 m1 _).mono ?_; rw [← HBS.out]; rintro e w4 ⟨A4, s4, c4, rfl, ho4, hb4⟩; have HP4 := zH (HP.out.keep hb4); have HS4 := zH ho4.len; have HB4 := zH ho4.bs.any; clear ho4 hb4)
             | fail)
            clear HP
            obtain ⟨hs40, hs49⟩ : 1 ≤ s4 ∧ s4 ≤ 9 := by rw [HS4.out]; exact HB9.out
            have HE1 := zH (show (32 * ((s4 : Int) - 1) + (cq : Int)) % 256 = ((y1.toNat : Nat) : Int) by rw [HY1.out, UInt8.toNat_ofNat', ← HS4.out]; omega)
            have HE2 := zH (show (32 * ((g : Int) - 1) + (i : Int)) % 256 = ((y2.toNat : Nat) : Int) by have := HGB.out; rw [HY2.out, UInt8.toNat_ofNat']; omega)
            have HR := zH hg64
            go_upto_region 18 with (first
             | (go_at_call 261; refine (vv1 _ _).mono ?_; rintro e w5 ⟨rfl, rfl⟩; (first | rw [HKC.out] | rw [HCQ.out]))
             | (go_at_call 260; refine (jjZ 2 ck n2 (by omega) hck31 hn1 hn _).mono ?_; rintro e w5 ⟨A5, n5, c5, rfl, ho5, hb5⟩; obtain rfl : n5 = 2 := ho5.len; have HO5 := zH ho5; have HB5 := zH hb5; clear ho5 hb5)
             | (at_builtin; rw [HE1.out, HE2.out]; have HA : Hid (Below w5.heap.size w5 (w5.alloc (.cells #[.int .u8 ((y1.toNat : Nat) : Int), .int .u8 ((y2.toNat : Nat) : Int)] 5))) := zH ((zR).alloc zN _); refine apb _ w4 rfl (.tmp 108) (.tmp 124) rfl w4.heap.size A5 2 c5 _ rfl (HO5.out.keepB HA.out) (HB5.out.trans (HA.out.mono HB5.out.size)) zN _ _ 2 2 [y1, y2] rfl (bs_new2 w5 y1 y2) (by omega) ?_; intro A6 c6 w6 h6 hb6 _; have HO6 := zH h6; have HB6 := zH hb6; clear h6 hb6)
             | fail)
            go_upto_region 19 with (first
             | (at_builtin; refine apb _ w4 rfl (.tmp 126) (.tmp 127) rfl w4.heap.size A6 4 c6 _ rfl HO6.out HB6.out zN _ A4 s4 c4 bs rfl (HB4.out.below HB6.out zN) (by omega) ?_; intro A7 c7 w7 h7 hb7 _; have HO7 := zH h7; have HB7 := zH hb7; clear h7 hb7)
             | fail)
            obtain ⟨out, hout⟩ : ∃ out, out = zz7 2 ck n2 ++ [y1, y2] ++ bs := ⟨_, rfl⟩
            rw [← hout] at HO7 HDEL
            have HP7 := zH ((HP4.out.keep HB7.out).lay (HO7.out.down HP4.out.below.size))
            have hso : 4 + s4 ≤ 13 := by omega
            obtain ⟨so, hsoe⟩ : ∃ so, so = 4 + s4 := ⟨_, rfl⟩
            rw [← hsoe] at HP7 hso ⊢
            obtain ⟨w8, hw8⟩ : ∃ w8, w8 = w7.alloc (.cells #[] 112) := ⟨_, rfl⟩
            have ho8 : OwnU (w7.alloc (.cells #[] 112)) w7.heap.size (some ⟨w7.heap.size, 0, none⟩) 0 0 [] := OwnF.empty _ _ _ w7 _ zN (fun _ hb => hb.elim)
            have hb8 : Below w7.heap.size w7 (w7.alloc (.cells #[] 112)) := (zR).alloc zN _
            have HO8 := zH ho8; have HB8 := zH hb8
            have HUL := zH (show up.length = n2 by rw [HUP.out, vvA, HLEN.out])
            clear hout hsoe hw8 ho8 hb8 HP4 HB4 HO5 HB5 HO6 HB6 HO7 HB7 HFIT HNONE HE1 HE2 hs40 hs49 HS4
            go_wp2_with fail
            go_loopw [20, 21] (fun sv iv wr => ∃ (j : Nat) (A9 : Option Addr) (c9 : Nat), j ≤ n2 ∧ iv = .int .i64 (j : Int) ∧ sv = .slice A9 j c9 ∧ OwnU wr w7.heap.size A9 j c9 (low.take j) ∧ Below w7.heap.size w7 wr) (fun _ iv _ => n2 - (intOf iv).toNat)
            case atStart => exact ⟨0, _, 0, Nat.zero_le _, rfl, rfl, HO8.out, HB8.out⟩
            case round =>
             obtain ⟨j, A9, c9, hj, rfl, rfl, ho, hb⟩ := hrel
             have HO := zH ho; have HB := zH hb
             clear ho hb
             by_cases hlt : j < n2
             · have hju : j < up.length := by rw [HUL.out]; exact hlt
               obtain ⟨u, hu⟩ : ∃ u, u = up[j] := ⟨_, rfl⟩
               obtain ⟨b, o, uv, rfl, _, _, hrep, hcu⟩ := (HP7.out.keep HB.out).up.at1 hju rfl
               have hr : [uv] = [Value.int .u64 ((up[j] : Nat) : Int)] := hrep.1
               have hu64 := hrep.2
               injection hr with hr; subst hr
               rw [← hu] at hcu hu64
               obtain ⟨lo, hlo⟩ : ∃ lo, lo = u % 2 ^ k := ⟨_, rfl⟩
               have HAND := zH (qxb u k hu64 hk)
               rw [← hlo] at HAND
               have HLO64 := zH (show U64 lo by rw [hlo]; exact Nat.lt_of_le_of_lt (Nat.mod_le _ _) hu64)
               have HTK := zH (show low.take (j + 1) = low.take j ++ [lo] by
                have h1 : j < low.length := by rw [HLOW.out, List.length_map]; exact hju
                have h2 : low[j] = lo := by simp only [HLOW.out, List.getElem_map]; rw [hlo, hu]
                rw [zT h1, h2])
               have j0 : (0 : Int) ≤ (j : Int) := by omega
               have j1 : (j : Int) < (n2 : Int) := by omega
               have HOD := zH (zz4 HO.out.drew); have HBD := zH HB.out.drew
               clear hrep hu hlo hu64
               go_upto_region 23 with fail
               go_region_law (first
                | (refine xxe (T := tU64) vvy wr w7 rfl (.tmp 136) (.tmp 145) rfl w7.heap.size A9 j c9 _ rfl (fun _ => False) (fun _ => False) HOD.out HBD.out zN _ rfl [.int .u64 (lo : Int)] lo ⟨rfl, HLO64.out⟩ 112 (by rw [HAND.out]) (fun _ _ _ _ h => h) (by omega) ?_; intro A6 c6 w6 h6
                   have HA6 := zH (zz4 h6.own); have HB6 := zH h6.below
                   clear h6)
                | fail)
               all_goals
                go_wp2_with fail
                go_roundw
                case rel => exact ⟨j + 1, A6, c6, by omega, by go_num, rfl, by rw [HTK.out]; exact HA6.out, HB6.out⟩
                case measure => simp [intOf]; omega
             · obtain rfl : j = n2 := by omega
               have hlw : low.take j = low := zL (by rw [HLOW.out, List.length_map, HUL.out]; exact Nat.le_refl _)
               rw [hlw] at HO
               have HP8 := zH (HP7.out.keep HB.out)
               have HLS := zH (OwnF.sl HO.out).any
               clear hlw HO HB HP7 HO8 HB8
               go_upto_region 25 with (first
                | (go_at_call 259; refine (uub _ A9 j c9 low _ HLS.out (by omega) k (by omega) HLOWS.out).mono ?_; rintro e w9 ⟨Ax, sx, cx, rfl, hox, hbx⟩; have HX := zH hox.bs.any; have HSX := zH hox.len; have HP9 := zH (HP8.out.keep hbx); clear hox hbx)
                | fail)
               have ho8 : OwnU (w9.alloc (.cells #[] 112)) w9.heap.size (some ⟨w9.heap.size, 0, none⟩) 0 0 [] := OwnF.empty _ _ _ w9 _ zN (fun _ hb => hb.elim)
               have hb8 : Below w9.heap.size w9 (w9.alloc (.cells #[] 112)) := (zR).alloc zN _
               have HO8 := zH ho8; have HB8 := zH hb8
               clear ho8 hb8 HP8 HLS
               go_wp2_with fail
               go_loopw [24, 25] (fun sv iv wr => ∃ (p : Nat) (A8 : Option Addr) (c8 : Nat), p ≤ i ∧ iv = .int .i64 (p : Int) ∧ sv = .slice A8 p c8 ∧ OwnU wr w9.heap.size A8 p c8 (both.take p) ∧ Below w9.heap.size w9 wr) (fun _ iv _ => i - (intOf iv).toNat)
               case atStart => exact ⟨0, _, 0, Nat.zero_le _, rfl, rfl, HO8.out, HB8.out⟩
               case round =>
                obtain ⟨p, A8, c8, hp, rfl, rfl, ho, hb⟩ := hrel
                have HO := zH ho; have HB := zH hb
                clear ho hb
                by_cases hlt2 : p < i
                · have hik : p < ps.length := by rw [← HNP.out]; exact hlt2
                  have hpk := HP9.out.keep HB.out
                  obtain ⟨x, hx⟩ : ∃ x, x = (ps[p]).1 := ⟨_, rfl⟩
                  obtain ⟨y, hy⟩ : ∃ y, y = (ps[p]).2 := ⟨_, rfl⟩
                  obtain ⟨b, o, uv, rfl, _, _, hrep, hcu⟩ := hpk.gaps.at1 (k := p) (by unfold zz8; rw [List.length_map]; exact hik) rfl
                  have hxe : (zz8 ps)[p]'(by unfold zz8; rw [List.length_map]; exact hik) = (x : Int) := by simp [zz8, hx]
                  have hx63 := hrep.2.2
                  have hr : [uv] = [Value.int .i64 ((zz8 ps)[p]'(by unfold zz8; rw [List.length_map]; exact hik))] := hrep.1
                  rw [hxe] at hr hx63
                  injection hr with hr; subst hr
                  obtain ⟨b2, o2, uv, rfl, _, _, hrep2, hcv⟩ := hpk.pats.at1 (k := p) (by unfold yyq; rw [List.length_map]; exact hik) rfl
                  have hye : (yyq ps)[p]'(by unfold yyq; rw [List.length_map]; exact hik) = y := by simp [yyq, hy]
                  have hy64 := hrep2.2
                  have hr : [uv] = [Value.int .u64 (((yyq ps)[p]'(by unfold yyq; rw [List.length_map]; exact hik) : Nat) : Int)] := hrep2.1
                  rw [hye] at hr hy64
                  injection hr with hr; subst hr
                  have hab := HPQ.out _ (List.getElem_mem hik) (by rw [← hx]; omega) (by rw [← hy]; exact hy64)
                  rw [← hx, ← hy] at hab
                  obtain ⟨v, hv⟩ : ∃ v, v = x * 2 ^ q + y := ⟨_, rfl⟩
                  have hplt := jjx hab.1 hab.2
                  have hpw : 2 ^ (g + q) ≤ 2 ^ 64 := Nat.pow_le_pow_right (by decide) h2
                  have hv64 : v < 18446744073709551616 := by omega
                  have hxq : x * 2 ^ q ≤ v := by omega
                  have HSH := zH (show IntKind.u64.wrap ((x : Int) * 2 ^ q) = ((x * 2 ^ q : Nat) : Int) by
                   rw [show (x : Int) * 2 ^ q = ((x * 2 ^ q : Nat) : Int) by simp, IntKind.wrap_u64]; omega)
                  have HAD := zH (show IntKind.u64.wrap (((x * 2 ^ q : Nat) : Int) + (y : Int)) = (v : Int) by rw [IntKind.wrap_u64]; omega)
                  have HTK := zH (show both.take (p + 1) = both.take p ++ [v] by
                   have h1 : p < both.length := by rw [HBOTH.out, List.length_map]; exact hik
                   have h2 : both[p] = v := by simp only [HBOTH.out, List.getElem_map]; rw [hv, hx, hy]
                   rw [zT h1, h2])
                  have HV64 := zH (show U64 v from hv64)
                  have xw : IntKind.u64.wrap (x : Int) = (x : Int) := by rw [IntKind.wrap_u64]; omega
                  have j0 : (0 : Int) ≤ (p : Int) := by omega
                  have j1 : (p : Int) < (i : Int) := by omega
                  have HOD := zH (zz4 HO.out.drew); have HBD := zH HB.out.drew
                  clear hrep hrep2 hx hy hxe hye hab hv hplt hpw hv64 hxq hpk hx63 hy64
                  go_upto_region 29 with fail
                  go_region_law (first
                   | (refine xxe (T := tU64) vvy wr w9 rfl (.tmp 160) (.tmp 173) rfl w9.heap.size A8 p c8 _ rfl (fun _ => False) (fun _ => False) HOD.out HBD.out zN _ rfl [.int .u64 (v : Int)] v ⟨rfl, HV64.out⟩ 112 (by rw [HSH.out, HAD.out]) (fun _ _ _ _ h => h) (by omega) ?_; intro A6 c6 w6 h6
                      have HA6 := zH (zz4 h6.own); have HB6 := zH h6.below
                      clear h6)
                   | fail)
                  all_goals
                   go_wp2_with fail
                   go_roundw
                   case rel => exact ⟨p + 1, A6, c6, by omega, by go_num, rfl, by rw [HTK.out]; exact HA6.out, HB6.out⟩
                   case measure => simp [intOf]; omega
                · obtain rfl : p = i := by omega
                  have hlw : both.take p = both := zL (by rw [HBOTH.out, List.length_map, ← HNP.out]; exact Nat.le_refl _)
                  rw [hlw] at HO
                  have HP10 := zH (HP9.out.keep HB.out)
                  have HLS := zH (OwnF.sl HO.out).any
                  have HX10 := zH (HX.out.below HB.out zN)
                  have hbz : ∀ x ∈ both, x < 2 ^ z := fun x hx => by
                   rw [HBOTH.out] at hx
                   obtain ⟨y, hy, rfl⟩ := List.mem_map.1 hx
                   obtain ⟨_, hcs⟩ := HP9.out.gaps.all (y.1 : Int) (List.mem_map.2 ⟨y, hy, rfl⟩)
                   obtain ⟨_, hcs2⟩ := HP9.out.pats.all y.2 (List.mem_map.2 ⟨y, hy, rfl⟩)
                   have h3 := HPQ.out y hy (by have := hcs.2.2; omega) hcs2.2
                   exact Nat.lt_of_lt_of_le (jjx h3.1 h3.2) (Nat.pow_le_pow_right (by decide) HZ1.out.1)
                  have HBZ := zH hbz
                  have HBL := zH (show both.length = p by rw [HBOTH.out, List.length_map, ← HNP.out])
                  have HSUM := zH (show (g : Int) + (q : Int) = ((g + q : Nat) : Int) by omega)
                  have HZC := zH (show zzt ((g + q : Nat) : Int) = (z : Int) by rw [HZ.out]; exact uuc)
                  have hsx : sx ≤ 4096 := by
                   rw [HSX.out, yyG, HLOW.out, List.length_map, HUL.out]
                   have := zzO j k (by omega); omega
                  have hgqz : ((g + q : Nat) : Int) ≤ 64 := by omega
                  clear hlw hbz HO HB HP9 HX HO8 HB8 hlt hlt2
                  go_upto_region 31 with (first
                   | (go_at_call 257; rw [HSUM.out]; refine (vvf _ hgqz _).mono ?_; rintro e w11 ⟨rfl, rfl⟩; rw [HZC.out])
                   | (go_at_call 259; refine (uub _ A8 p c8 both _ HLS.out (by omega) z hz2 HBZ.out).mono ?_; rintro e w12 ⟨Ay, sy, cy, rfl, hoy, hby⟩
                      have hsy : sy ≤ 4096 := (by rw [hoy.len, yyG, HBL.out]; have := zzO p z hz2; omega)
                      have HY12 := zH hoy.bs; have HX12 := zH (HX10.out.below hby zN); have HP12 := zH (HP10.out.keep hby)
                      have HAP := zH (fun b hb => (OwnF.lies' HP10.out.out.own (b := b) hb).2.2)
                      clear hoy hby)
                   | fail)
                  go_upto_region 32 with (first
                   | (at_builtin; refine apb _ w rfl (.tmp 184) (.tmp 185) rfl w.heap.size A7 so c7 _ rfl HP12.out.out HP12.out.below zN _ Ax sx cx (pack k low) rfl HX12.out (by omega) ?_; intro A13 c13 w13 h13 hb13 hg13; have HO13 := zH h13; have HB13 := zH hb13; have HY13 := zH (HY12.out.grown hg13 fun g1 e1 hf => by have := HAP.out g1 e1; have := hf.2; omega); clear h13 hb13 hg13)
                   | fail)
                  go_wp2_with (first
                   | (at_builtin; refine apb _ w rfl (.tmp 187) (.tmp 188) rfl w.heap.size A13 (so + sx) c13 _ rfl HO13.out HB13.out zN _ Ay sy cy (pack z both) rfl HY13.out (by omega) ?_; intro A14 c14 w14 h14 hb14 _)
                   | fail)
                  go_ret2
                  rw [HDEL.out]
                  exact ⟨hb14, A14, _, c14, rfl, h14⟩
          · have e3 : (k : Int) + (q : Int) > 64 := by omega
            go_wp2_with fail
            go_ret2
            rw [HNONE.out (by rw [HFIT.out, decide_eq_false h3]; simp)]
            exact ⟨HP.out.below, rfl⟩
        · have e2 : (g : Int) + (q : Int) > 64 := by omega
          go_wp2_with fail
          go_ret2
          rw [HNONE.out (by rw [HFIT.out, decide_eq_false h2]; simp)]
          exact ⟨HP.out.below, rfl⟩
      · have e1 : (i : Int) > 31 := by omega
        have e1' : (31 : Int) < (i : Int) := by omega
        go_wp2_with fail
        go_ret2
        rw [HNONE.out (by rw [HFIT.out, decide_eq_false (by rw [← HNP.out]; exact h1)]; rfl)]
        exact ⟨HP.out.below, rfl⟩
end
end Go.Proofs.YtpmglcachffojaaGreatDoor
