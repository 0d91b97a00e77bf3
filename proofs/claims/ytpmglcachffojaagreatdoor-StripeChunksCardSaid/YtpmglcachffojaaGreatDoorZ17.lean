/- A part of what Chunks leans on. -/
import Derived.Test.YtpmglcachffojaaGreatDoorZ12
import Derived.Test.YtpmglcachffojaaGreatDoorZ16
import Derived.Lib.SliceRun
set_option maxRecDepth 100000
set_option maxHeartbeats 16000000
namespace Go.Proofs.YtpmglcachffojaaGreatDoor
section
open Go Go.RowKit
theorem yyF (k : Nat) (l : List Int) : yyP k l = ((upN l).all (· < 9223372036854775808) && zzA l != -9223372036854775808 && xxt k (zzu k 0 0 (upN l))) := by
 unfold yyP xxt
 simp only [Bool.and_assoc]
theorem xqJ (w : World) (a : Option Addr) (n c n' c' : Nat) : (binOp .eql 41 (.slice a n c) (.slice none n' c')).run Tryz.prog w = .ok (.bool a.isNone) w := Lib.run_eql_slice_nil w _ _ a n c n' c' zz6
theorem kqC (b : Int) (b0 : -9223372036854775808 < b) (b1 : b ≤ 9223372036854775807) (w : World) :
 Calls Tryz.prog 292 #[.int .i64 b] w fun e w' => ∃ g n c, e = .returned (.slice (some ⟨g, 0, none⟩) n c) ∧ Bs (fun _ => True) w' (some ⟨g, 0, none⟩) n c (vve b) ∧ Below w.heap.size w w' := by
 refine (xqA b b0 b1 w).mono ?_
 rintro e w' ⟨A, n, c, rfl, ho, hb⟩
 obtain ⟨g, rfl⟩ := ho.own.some1 yyn (by unfold vve; rw [be]; simp)
 exact ⟨g, n, c, rfl, ho.bs.any, hb⟩
theorem xqK (F : Nat → Prop) (A : Option Addr) (n c : Nat) (l : List Int) (w : World) (h : Sl tI64 F w A n c l) (hn1 : 1 ≤ n) (hn : n ≤ 512) (sg : Bool) (hl : yyb sg l) (k : Nat) (hk : k ≤ 63) (hkc : zzU (k : Int) = ((zz3 k : Nat) : Int)) (hf : yyP k l = false) :
 Calls Tryz.prog 249 #[.slice A n c, .int .i64 (k : Int), .bool sg] w (zzF none w) := by
 have hlen := h.len
 have hne : l ≠ [] := by intro e; rw [e] at hlen; simp at hlen; omega
 have hml := hl.least hne
 have HMIN := zH (vvD F A n c l w h hne)
 have HH := zH h; have HNE := zH hne
 obtain ⟨mn, hmn⟩ : ∃ mn, mn = zzA l := ⟨_, rfl⟩
 rw [← hmn] at hml HMIN
 obtain ⟨m0, m1, m2⟩ := hml
 have m3 : sg = false → ¬ mn < 0 := fun e => by rcases m2 with h | h; rw [e] at h; cases h; exact Int.not_lt.2 h
 have HM3 := zH m3
 have HKC := zH hkc
 rw [yyF, ← hmn] at hf
 obtain ⟨cf, hcf⟩ : ∃ cf, cf = xxt k (zzu k 0 0 (upN l)) := ⟨_, rfl⟩
 obtain ⟨ga, hga⟩ : ∃ ga, ga = (upN l).all (· < 9223372036854775808) := ⟨_, rfl⟩
 rw [← hcf, ← hga] at hf
 have HCUT : Hid (∀ w1, Below w.heap.size w w1 → Calls Tryz.prog 291 #[.slice A n c, .int .i64 (k : Int)] w1 fun e w2 => ∃ (b0 : Int) (A1 A2 : Option Addr) (n1 n2 c1 c2 : Nat) (v3 v4 : Int) (ok : Bool), e = .returned (.tuple #[.agg #[.int .i64 b0, .slice A1 n1 c1, .slice A2 n2 c2, .int .i64 v3, .int .i64 v4], .bool ok]) ∧ Below w1.heap.size w1 w2 ∧ -9223372036854775808 ≤ b0 ∧ b0 ≤ 9223372036854775807 ∧ (b0 = -9223372036854775808 ∨ ok = false)) := zH fun w1 hb1 => by
  refine (zqo F A n c l w1 (HH.out.below hb1 zN) HNE.out hn k hk).mono ?_
  rintro e w2 ⟨hb2, he⟩
  rw [← hga, ← hcf, ← hmn] at he
  cases ga with
  | false =>
    rw [if_neg (by simp)] at he
    exact ⟨_, _, _, _, _, _, _, _, _, _, he, hb2, by decide, by decide, .inr rfl⟩
  | true =>
    rw [if_pos rfl] at he
    obtain ⟨Al, cl, Ap, np, cp, he, _, _⟩ := he
    refine ⟨_, _, _, _, _, _, _, _, _, _, he, hb2, m0, m1, ?_⟩
    rw [Bool.true_and] at hf
    rcases Bool.and_eq_false_iff.1 hf with h | h
    · exact .inl (by simpa using h)
    · exact .inr h
 have qT := xqJ
 have hn5 : ¬ (n : Int) > 512 := by omega
 have hn6 : ¬ (n : Int) < 1 := by omega
 have hk6 : ¬ (k : Int) ≥ 64 := by omega
 clear h hl hlen hne hmn m2 m3 hkc hf hcf hga m0 m1
 go_enter Tryz.func249, Tryz.ntmps249
 go_upto_region 1 with fail
 go_cut [44] from 19 to 44 (fun v wx => ∃ wd, wd = wx ∧ v = .bool false ∧ Below w.heap.size w wd)
 case first =>
  cases sg with
  | true =>
    go_wp2_with (first
     | (go_at_call 287; refine (yyi (k : Int) _).mono ?_; rintro e w4 ⟨rfl, hb4⟩; rw [HKC.out]; have HB4 := zH hb4; clear hb4)
     | fail)
    go_meet
    exact ⟨_, rfl, by congr 1; simp; omega, HB4.out⟩
  | false =>
    have m3 := HM3.out rfl
    go_wp2_with (first
     | (go_at_call 205; refine HMIN.out.mono ?_; rintro e w1 ⟨rfl, rfl⟩)
     | (go_at_call 287; refine (yyi (k : Int) _).mono ?_; rintro e w4 ⟨rfl, hb4⟩; rw [HKC.out]; have HB4 := zH hb4; clear hb4)
     | fail)
    go_meet
    exact ⟨_, rfl, by congr 1; simp; omega, HB4.out⟩
 case rest =>
  obtain ⟨wx, rfl, rfl, hb⟩ := hcut
  have HB := zH hb
  clear hb HMIN HM3 HKC
  refine ‹∀ (a : Act) (w_1 : World), Code.wp _ _ _ a w_1 → _› _ _ ?_
  go_upto_region 4 with (first
   | (go_at_call 291; refine (HCUT.out _ HB.out).mono ?_; rintro e w2 ⟨b0, A1, A2, n1, n2, c1, c2, v3, v4, ok, rfl, hb2, x0, x1, hor⟩; have HB2 := zH hb2; have HOR := zH hor; clear hb2 hor)
   | fail)
  have k0 : (w2.alloc (.cells #[.int .i64 b0, .slice A1 n1 c1, .slice A2 n2 c2, .int .i64 v3, .int .i64 v4] 328)).cell? ⟨w2.heap.size, 0, none⟩ = some (.int .i64 b0) := by rw [zC (heap_alloc_new _ _)]; rfl
  obtain ⟨w3, hw3⟩ : ∃ w3, w3 = w2.alloc (.cells #[.int .i64 b0, .slice A1 n1 c1, .slice A2 n2 c2, .int .i64 v3, .int .i64 v4] 328) := ⟨_, rfl⟩
  have hb3 : Below w.heap.size w w3 := by
   have h2 := HB.out.trans (HB2.out.mono HB.out.size)
   rw [hw3]; exact h2.alloc h2.size _
  rw [← hw3] at k0 ⊢
  have HB3 := zH hb3
  clear hw3 hb3 HB HB2
  by_cases hz : b0 = -9223372036854775808
  · subst hz
    cases ok with
    | true =>
      go_wp2_with (first
       | (go_at_call 292; refine (uuE _).mono ?_; rintro e w4 ⟨rfl, hb4⟩; have HB4 := zH hb4; clear hb4)
       | fail)
      go_ret2
      exact ⟨HB3.out.trans (HB4.out.mono HB3.out.size), rfl⟩
    | false =>
      go_wp2_with (first
       | (go_at_call 292; refine (uuE _).mono ?_; rintro e w4 ⟨rfl, hb4⟩; have HB4 := zH hb4; clear hb4)
       | fail)
      go_ret2
      exact ⟨HB3.out.trans (HB4.out.mono HB3.out.size), rfl⟩
  · obtain rfl : ok = false := HOR.out.resolve_left hz
    have hb0 : -9223372036854775808 < b0 := by omega
    clear hz HOR
    go_wp2_with (first
     | (go_at_call 292; refine (kqC b0 hb0 x1 _).mono ?_; rintro e w4 ⟨g4, n4, c4, rfl, _, hb4⟩; have HB4 := zH hb4; clear hb4)
     | fail)
    go_ret2
    exact ⟨HB3.out.trans (HB4.out.mono HB3.out.size), rfl⟩
end
section
open Go Go.RowKit
theorem sl5 {α : Type} {T : Ty α} {F1 F2 F3 F4 F5 : Nat → Prop} {w : World} {A1 A2 A3 A4 A5 : Option Addr} {n1 n2 n3 n4 n5 c1 c2 c3 c4 c5 : Nat} {x1 x2 x3 x4 x5 : List α} (h1 : Sl T F1 w A1 n1 c1 x1) (h2 : Sl T F2 w A2 n2 c2 x2) (h3 : Sl T F3 w A3 n3 c3 x3) (h4 : Sl T F4 w A4 n4 c4 x4) (h5 : Sl T F5 w A5 n5 c5 x5) (t : TypeId) :
 Sl (tSl T) (fun _ => True) (w.alloc (.cells #[.slice A1 n1 c1, .slice A2 n2 c2, .slice A3 n3 c3, .slice A4 n4 c4, .slice A5 n5 c5] t)) (some ⟨w.heap.size, 0, none⟩) 5 5 [x1, x2, x3, x4, x5] := by
 have hr : Reps (tSl T) (fun _ => True) w [[.slice A1 n1 c1], [.slice A2 n2 c2], [.slice A3 n3 c3], [.slice A4 n4 c4], [.slice A5 n5 c5]] [x1, x2, x3, x4, x5] := by simpa using Reps.snoc (Reps.mk4 h1.any.rep h2.any.rep h3.any.rep h4.any.rep) h5.any.rep
 exact (Sl.news hr t 5 rfl (by omega) _ rfl).any
structure PpR (w0 : World) (r8 : Nat) (base : Int) (Al : Option Addr) (nl cl : Nat) (low : List Nat) (Ap : Option Addr) (np cp : Nat) (ps : List (Nat × Nat)) (g q : Nat) (A3 : Nat) (s3 c3 : Nat) (bs : List UInt8) (w : World) : Prop where
 below : Below w0.heap.size w0 w
 run : w.heap[r8]? = some (.cells #[.int .i64 base, .slice Al nl cl, .slice Ap np cp, .int .i64 (g : Int), .int .i64 (q : Int)] 328 (0, 0))
 low : Sl tU64 (fun _ => True) w Al nl cl low
 ps : Sl kqz (fun _ => True) w Ap np cp ps
 base : Bs (fun _ => True) w (some ⟨A3, 0, none⟩) s3 c3 bs
section
variable {w0 w w' : World} {r8 : Nat} {base : Int} {Al Ap : Option Addr} {nl cl np cp A3 s3 c3 : Nat} {low : List Nat} {ps : List (Nat × Nat)} {g q : Nat} {bs : List UInt8}
theorem PpR.keep (h : PpR w0 r8 base Al nl cl low Ap np cp ps g q A3 s3 c3 bs w) (hb : Below w.heap.size w w') : PpR w0 r8 base Al nl cl low Ap np cp ps g q A3 s3 c3 bs w' :=
 ⟨h.below.trans (hb.mono h.below.size), (hb.block r8 (zzb h.run)).trans h.run, h.low.below hb zN, h.ps.below hb zN, h.base.below hb zN⟩
theorem PpR.drew (h : PpR w0 r8 base Al nl cl low Ap np cp ps g q A3 s3 c3 bs w) : PpR w0 r8 base Al nl cl low Ap np cp ps g q A3 s3 c3 bs w.drew :=
 ⟨h.below.drew, h.run, h.low.drew, h.ps.drew, h.base.drew⟩
theorem PpR.cells (h : PpR w0 r8 base Al nl cl low Ap np cp ps g q A3 s3 c3 bs w) : w.cell? ⟨r8, 0, none⟩ = some (.int .i64 base) ∧ w.cell? ⟨r8, 1, none⟩ = some (.slice Al nl cl) ∧ w.cell? ⟨r8, 2, none⟩ = some (.slice Ap np cp) ∧ w.cell? ⟨r8, 3, none⟩ = some (.int .i64 (g : Int)) ∧ w.cell? ⟨r8, 4, none⟩ = some (.int .i64 (q : Int)) := by
 refine ⟨?_, ?_, ?_, ?_, ?_⟩
 iterate 5 (rw [zC h.run]; rfl)
end
theorem jjs {ps : List (Nat × Nat)} {x : Nat × Nat} (hx : x ∈ ps) (h1 : x.1 < 9223372036854775808) (h2 : U64 x.2) : x.1 < 2 ^ gapW ps ∧ x.2 < 2 ^ patM ps := by
 have a1 := uuq (x := x.1) (Nat.lt_trans h1 (by decide))
 have a2 := uuq h2
 have b1 : bl x.1 ≤ gapW ps := by have := vv3 (l := ps.map (·.1)) (x := x.1) (List.mem_map.2 ⟨x, hx, rfl⟩); unfold gapW; omega
 have b2 : bl x.2 ≤ patM ps := by have := vv3 (l := ps.map (·.2)) (x := x.2) (List.mem_map.2 ⟨x, hx, rfl⟩); unfold patM; omega
 exact ⟨Nat.lt_of_lt_of_le a1 (Nat.pow_le_pow_right (by decide) b1), Nat.lt_of_lt_of_le a2 (Nat.pow_le_pow_right (by decide) b2)⟩
theorem vvF (w : Nat) : ∀ (us : List Nat) (i la : Nat), (∀ x ∈ us, U64 x) → ∀ p ∈ zzu w i la us, U64 p.2
 | [], _, _, _, p, hp => by simp [zzu] at hp
 | y :: r, i, la, h, p, hp => by
   rw [xxf] at hp
   rcases List.mem_append.1 hp with hp | hp
   · unfold jjq at hp
     split at hp
     · simp at hp
     · rcases List.mem_append.1 hp with hp | hp
       · rw [(List.mem_replicate.1 hp).2]; show (0 : Nat) < _; decide
       · rw [List.mem_singleton.1 hp]
         exact Nat.lt_of_le_of_lt (Nat.div_le_self _ _) (h y (by simp))
   · exact vvF w r _ _ (fun x hx => h x (by simp [hx])) p hp
theorem uuG {a b g q : Nat} (ha : a < 2 ^ g) (hb : b < 2 ^ q) : a * 2 ^ q + b < 2 ^ (g + q) := by
 rw [Nat.pow_add]
 have : (a + 1) * 2 ^ q ≤ 2 ^ g * 2 ^ q := Nat.mul_le_mul_right _ ha
 rw [Nat.add_mul, Nat.one_mul] at this
 omega
theorem kqD (a b : Nat) (h1 : 1 ≤ a) (ha : a ≤ 1000) (hb : b < 32) : IntKind.u8.wrap (bits BinOp.or IntKind.i64 (IntKind.i64.wrap (IntKind.i64.wrap ((a : Int) - 1) * 32)) (b : Int)) = (((UInt8.ofNat (32 * (a - 1) + b)).toNat : Nat) : Int) := by
 have e1 : IntKind.i64.wrap ((a : Int) - 1) = ((a - 1 : Nat) : Int) := by rw [IntKind.wrap_i64]; omega
 have e2 : IntKind.i64.wrap (((a - 1 : Nat) : Int) * 32) = ((32 * (a - 1) : Nat) : Int) := by rw [IntKind.wrap_i64]; omega
 rw [e1, e2, xxI _ _ (by omega) (by omega), nat_join 5 (32 * (a - 1)) b (by omega) (by omega), IntKind.wrap_u8, UInt8.toNat_ofNat']
 omega
theorem pair_or {a b g q : Nat} (ha : a < 2 ^ g) (hb : b < 2 ^ q) (h : g + q ≤ 64) : bits BinOp.or IntKind.u64 (IntKind.u64.wrap ((a : Int) * 2 ^ q)) (b : Int) = ((a * 2 ^ q + b : Nat) : Int) := by
 have h1 := uuG ha hb
 have h2 : 2 ^ (g + q) ≤ 2 ^ 64 := Nat.pow_le_pow_right (by decide) h
 have e : IntKind.u64.wrap ((a : Int) * 2 ^ q) = ((a * 2 ^ q : Nat) : Int) := by
  rw [show (a : Int) * 2 ^ q = ((a * 2 ^ q : Nat) : Int) by simp, IntKind.wrap_u64]
  omega
 rw [e, u64_or_nat _ _ (by omega) (by omega), nat_join q (a * 2 ^ q) b (Nat.mul_mod_left _ _) hb]
theorem Sl.all {α : Type} {T : Ty α} {F : Nat → Prop} {w : World} {A : Option Addr} {n c : Nat} {xs : List α} (h : Sl T F w A n c xs) : ∀ x ∈ xs, ∃ cs, T.rep F w cs x := by
 obtain ⟨_, _, _, css, _, h2⟩ := h
 intro x hx
 obtain ⟨i, hi, rfl⟩ := List.getElem_of_mem hx
 exact ⟨_, h2.2 i _ _ (List.getElem?_eq_getElem (by rw [h2.1]; exact hi)) (List.getElem?_eq_getElem hi)⟩
theorem xqL (F : Nat → Prop) (A : Option Addr) (n c : Nat) (l : List Int) (w : World) (h : Sl tI64 F w A n c l) (hn1 : 1 ≤ n) (hn : n ≤ 512) (sg : Bool) (hl : yyb sg l) (k : Nat) (hk : k ≤ 63) (hkc : zzU (k : Int) = ((zz3 k : Nat) : Int)) (hf : yyP k l = true) :
 Calls Tryz.prog 249 #[.slice A n c, .int .i64 (k : Int), .bool sg] w (zzF (patB k l) w) := by
 have hlen := h.len
 have hne : l ≠ [] := by intro e; rw [e] at hlen; simp at hlen; omega
 have hml := hl.least hne
 have HMIN := zH (vvD F A n c l w h hne)
 have HH := zH h; have HNE := zH hne
 have HFIT := zH hf
 obtain ⟨ps, hps⟩ : ∃ ps, ps = zzu k 0 0 (upN l) := ⟨_, rfl⟩
 obtain ⟨mn, hmn⟩ : ∃ mn, mn = zzA l := ⟨_, rfl⟩
 rw [← hmn] at hml HMIN
 obtain ⟨m0, m1, m2⟩ := hml
 have m3 : sg = false → ¬ mn < 0 := fun e => by rcases m2 with h | h; rw [e] at h; cases h; exact Int.not_lt.2 h
 have HM3 := zH m3
 have HKC := zH hkc
 rw [yyF, ← hmn, ← hps] at hf
 simp only [Bool.and_eq_true, xxt, decide_eq_true_eq, bne_iff_ne, ne_eq] at hf
 obtain ⟨⟨hga, hmn2⟩, ⟨hp31, hgq⟩, hkq⟩ := hf
 obtain ⟨g, hg⟩ : ∃ g, g = gapW ps := ⟨_, rfl⟩
 obtain ⟨q, hq⟩ : ∃ q, q = patW ps := ⟨_, rfl⟩
 obtain ⟨low, hlow⟩ : ∃ low, low = (upN l).map (· % 2 ^ k) := ⟨_, rfl⟩
 rw [← hg, ← hq] at hgq
 have hcfit : xxt k ps = true := by simp only [Bool.and_eq_true, xxt, decide_eq_true_eq, ← hg, ← hq]; exact ⟨⟨hp31, hgq⟩, by rw [← hq] at hkq; exact hkq⟩
 have HCUT : Hid (∀ w1, Below w.heap.size w w1 → Calls Tryz.prog 291 #[.slice A n c, .int .i64 (k : Int)] w1 fun e w2 => ∃ (Al Ap : Option Addr) (cl np cp : Nat), e = .returned (.tuple #[.agg #[.int .i64 mn, .slice Al n cl, .slice Ap np cp, .int .i64 (g : Int), .int .i64 (q : Int)], .bool true]) ∧
  Below w1.heap.size w1 w2 ∧ Sl tU64 (fun _ => True) w2 Al n cl low ∧ Sl kqz (fun _ => True) w2 Ap np cp ps) := zH fun w1 hb1 => by
  refine (zqo F A n c l w1 (HH.out.below hb1 zN) HNE.out hn k hk).mono ?_
  rintro e w2 ⟨hb2, he⟩
  rw [if_pos hga, ← hps, ← hmn, ← hg, ← hq, ← hlow, hcfit] at he
  obtain ⟨Al, cl, Ap, np, cp, he, h1, h2⟩ := he
  exact ⟨Al, Ap, cl, np, cp, he, hb2, h1, h2⟩
 have hb0 : -9223372036854775808 < mn := by omega
 obtain ⟨bs, hbs⟩ : ∃ bs, bs = vve mn := ⟨_, rfl⟩
 have hbl : bs.length = bl mn.natAbs / 8 + 1 := by rw [hbs]; unfold vve; rw [zz1]
 have hbl2 : bl mn.natAbs ≤ 64 := yya (show mn.natAbs < 18446744073709551616 by omega)
 have hb9 : 1 ≤ bs.length ∧ bs.length ≤ 9 := by omega
 have HBASE : Hid (∀ w1, Calls Tryz.prog 292 #[.int .i64 mn] w1 fun e w' => ∃ g n c, e = .returned (.slice (some ⟨g, 0, none⟩) n c) ∧ Bs (fun _ => True) w' (some ⟨g, 0, none⟩) n c bs ∧ Below w1.heap.size w1 w') := zH fun w1 => by rw [hbs]; exact kqC mn hb0 m1 w1
 obtain ⟨z, hz⟩ : ∃ z, z = zzt (g + q) := ⟨_, rfl⟩
 have hz1 := yyS hgq
 have hz2 := yyB (g + q)
 rw [← hz] at hz1 hz2
 obtain ⟨both, hboth⟩ : ∃ both, both = ps.map fun x => x.1 * 2 ^ q + x.2 := ⟨_, rfl⟩
 obtain ⟨y1, hy1⟩ : ∃ y1 : UInt8, y1 = UInt8.ofNat (32 * (bs.length - 1) + zz3 q) := ⟨_, rfl⟩
 obtain ⟨y2, hy2⟩ : ∃ y2 : UInt8, y2 = UInt8.ofNat (32 * (g - 1) + ps.length) := ⟨_, rfl⟩
 have HDEL : Hid (patB k l = some (yyc 2 (zz3 k) n ++ [y1, y2] ++ bs ++ pack k low ++ pack z both)) := zH (by
  unfold patB
  dsimp only
  rw [HFIT.out, if_pos rfl, ← hps, ← hmn, ← hbs, ← hq, ← hg, ← hlow, ← hz, ← hboth, ← hy1, ← hy2, ← hlen])
 have hpm : patM ps ≤ 64 := (qzx ps fun x hx => by
  rw [hps] at hx
  refine vvF k (upN l) 0 0 (fun y hy => ?_) x hx
  have := List.all_eq_true.1 hga y hy
  exact Nat.lt_trans (by simpa using this) (by decide)).2
 have hqc : zzU (q : Int) = ((zz3 q : Nat) : Int) ∧ zz3 q ≤ 31 := by rw [hq, xxs]; exact vv4 hpm
 have hlows : ∀ x ∈ low, x < 2 ^ k := fun x hx => by
  rw [hlow] at hx
  obtain ⟨y, _, rfl⟩ := List.mem_map.1 hx
  exact Nat.mod_lt _ (Nat.pow_pos (by decide))
 have HLOWS := zH hlows; have HQC := zH hqc; have HG := zH hg; have HQ := zH hq; have HZ := zH hz; have HBOTH := zH hboth; have HY1 := zH hy1; have HY2 := zH hy2; have HB9 := zH hb9
 have HPQ : Hid (∀ x ∈ ps, x.1 < 9223372036854775808 → U64 x.2 → x.1 < 2 ^ g ∧ x.2 < 2 ^ q) := zH fun x hx h1 h2 => by
  have h3 := jjs hx h1 h2
  rw [← hg] at h3
  refine ⟨h3.1, Nat.lt_of_lt_of_le h3.2 (Nat.pow_le_pow_right (by decide) ?_)⟩
  rw [hq, xxs]
  exact (yyS hpm).1
 have HG1 := zH (show 1 ≤ g by rw [hg]; unfold gapW; omega)
 have HBLEN := zH (show both.length ≤ 31 by rw [hboth, List.length_map]; exact hp31)
 have HCK := zH (show zz3 k ≤ 31 by have := xxW (k : Int); omega)
 have qT := xqJ
 have hn5 : ¬ (n : Int) > 512 := by omega
 have hn6 : ¬ (n : Int) < 1 := by omega
 have hk6 : ¬ (k : Int) ≥ 64 := by omega
 clear h hl hlen hne hmn m2 m3 hkc hga hps hg hq hlow hcfit hbs hbl hbl2 hb9 hz hboth hy1 hy2 hkq hqc hlows hmn2 hpm
 go_enter Tryz.func249, Tryz.ntmps249
 go_upto_region 1 with fail
 go_cut [44] from 19 to 44 (fun v wx => ∃ wd, wd = wx ∧ v = .bool false ∧ Below w.heap.size w wd)
 case first =>
  cases sg with
  | true =>
    go_wp2_with (first
     | (go_at_call 287; refine (yyi (k : Int) _).mono ?_; rintro e w4 ⟨rfl, hb4⟩; rw [HKC.out]; have HB4 := zH hb4; clear hb4)
     | fail)
    go_meet
    exact ⟨_, rfl, by congr 1; simp; omega, HB4.out⟩
  | false =>
    have m3 := HM3.out rfl
    go_wp2_with (first
     | (go_at_call 205; refine HMIN.out.mono ?_; rintro e w1 ⟨rfl, rfl⟩)
     | (go_at_call 287; refine (yyi (k : Int) _).mono ?_; rintro e w4 ⟨rfl, hb4⟩; rw [HKC.out]; have HB4 := zH hb4; clear hb4)
     | fail)
    go_meet
    exact ⟨_, rfl, by congr 1; simp; omega, HB4.out⟩
 case rest =>
  obtain ⟨wx, rfl, rfl, hb⟩ := hcut
  have HB := zH hb
  clear hb HMIN HM3
  refine ‹∀ (a : Act) (w_1 : World), Code.wp _ _ _ a w_1 → _› _ _ ?_
  go_upto_region 4 with (first
   | (go_at_call 291; refine (HCUT.out _ HB.out).mono ?_; rintro e w2 ⟨Al, Ap, cl, np, cp, rfl, hb2, hlw, hpw⟩; have HB2 := zH hb2; have HLW := zH hlw; have HPW := zH hpw; clear hb2 hlw hpw)
   | fail)
  obtain ⟨r8, hr8⟩ : ∃ r8, r8 = w2.heap.size := ⟨_, rfl⟩
  obtain ⟨w3, hw3⟩ : ∃ w3, w3 = w2.alloc (.cells #[.int .i64 mn, .slice Al n cl, .slice Ap np cp, .int .i64 (g : Int), .int .i64 (q : Int)] 328) := ⟨_, rfl⟩
  rw [← hw3, ← hr8]
  have HR8 := zH (show w3.heap[r8]? = some (.cells #[.int .i64 mn, .slice Al n cl, .slice Ap np cp, .int .i64 (g : Int), .int .i64 (q : Int)] 328 (0, 0)) by rw [hw3, hr8]; exact heap_alloc_new _ _)
  have k0 : w3.cell? ⟨r8, 0, none⟩ = some (.int .i64 mn) := by rw [zC HR8.out]; rfl
  have hb3 : Below w2.heap.size w2 w3 := by rw [hw3]; exact (zR).alloc zN _
  have HB3 := zH hb3
  clear hw3 hb3 hr8
  go_upto_region 8 with (first
   | (go_at_call 292; refine (HBASE.out _).mono ?_; rintro e w4 ⟨A3, s3, c3, rfl, hbs4, hb4⟩; have HB4 := zH hb4; have HBS4 := zH hbs4; clear hb4 hbs4)
   | fail)
  have hpp : PpR w r8 mn Al n cl low Ap np cp ps g q A3 s3 c3 bs w4 := by
   have h2 := HB.out.trans (HB2.out.mono HB.out.size)
   have h3 := h2.trans (HB3.out.mono h2.size)
   refine ⟨h3.trans (HB4.out.mono h3.size), (HB4.out.block r8 (zzb HR8.out)).trans HR8.out, ?_, ?_, HBS4.out⟩
   · exact (HLW.out.below HB3.out zN).below HB4.out zN
   · exact (HPW.out.below HB3.out zN).below HB4.out zN
  have HPP := zH hpp
  have HNP := zH hpp.ps.len
  obtain ⟨p0, p1, p2, p3, p4⟩ := hpp.cells
  clear hpp HB HB2 HB3 HB4 HLW HPW HBS4 HR8 k0 HCUT HBASE HFIT HNE
  go_wp2_with fail
  go_loopw [11, 63] (fun bv iv wr => ∃ (i : Nat) (A2 : Option Addr) (c2 : Nat), i ≤ np ∧ iv = .int .i64 (i : Int) ∧ bv = .slice A2 i c2 ∧ OwnU wr w4.heap.size A2 i c2 (both.take i) ∧ Below w4.heap.size w4 wr)
   (fun _ iv _ => np - (intOf iv).toNat)
  case atStart => exact ⟨0, none, 0, Nat.zero_le _, rfl, rfl, vv7 _ _, zR⟩
  case round =>
   obtain ⟨i, A2, c2, hi, rfl, rfl, ho, hb⟩ := hrel
   have HO := zH ho; have HB := zH hb
   clear ho hb
   by_cases hlt : i < np
   · have hik : i < ps.length := by rw [← HNP.out]; exact hlt
     have hsl := (HPP.out.keep HB.out).ps
     obtain ⟨b, o, cs, hA, _, hbl, hr, hc⟩ := hsl.at_ hik (by decide)
     obtain ⟨a, ha⟩ : ∃ a, a = (ps[i]).1 := ⟨_, rfl⟩
     obtain ⟨bp, hbp⟩ : ∃ bp, bp = (ps[i]).2 := ⟨_, rfl⟩
     obtain ⟨hr, hr1, hr2⟩ := hr
     have hab := HPQ.out _ (List.getElem_mem hik) hr1 hr2
     rw [← ha] at hr hr1 hab
     rw [← hbp] at hr hr2 hab
     subst hr
     obtain ⟨c0, c1⟩ := xxS hc
     have HOR := zH (pair_or hab.1 hab.2 hgq)
     obtain ⟨v, hv⟩ : ∃ v, v = a * 2 ^ q + bp := ⟨_, rfl⟩
     have hv64 : U64 v := by
      rw [hv]; exact Nat.lt_of_lt_of_le (uuG hab.1 hab.2) (Nat.pow_le_pow_right (by decide) hgq)
     rw [← hv] at HOR
     have HTK := zH (show both.take (i + 1) = both.take i ++ [v] by
      have hb1 : i < both.length := by rw [HBOTH.out, List.length_map]; exact hik
      have hb2 : both[i] = v := by simp only [HBOTH.out, List.getElem_map]; rw [hv, ha, hbp]
      rw [zT hb1, hb2])
     have HV64 := zH hv64
     have xw : IntKind.u64.wrap (a : Int) = (a : Int) := by rw [IntKind.wrap_u64]; omega
     have i0 : (0 : Int) ≤ (i : Int) := by omega
     have i1 : (i : Int) < (np : Int) := by omega
     have k4 := zzh HB.out p4
     clear hab ha hbp hv hv64 hc hsl hr1 hr2
     subst hA
     go_upto_region 11 with fail
     obtain ⟨w5, hw5⟩ : ∃ w5, w5 = wr.alloc (.cells #[.int .i64 (a : Int), .int .u64 (bp : Int)] 332) := ⟨_, rfl⟩
     have hb5 : Below wr.heap.size wr w5 := by rw [hw5]; exact (zR).alloc zN _
     have d0 : w5.cell? ⟨wr.heap.size, 0, none⟩ = some (.int .i64 (a : Int)) := by rw [hw5, zC (heap_alloc_new _ _)]; rfl
     have d1 : w5.cell? ⟨wr.heap.size, 1, none⟩ = some (.int .u64 (bp : Int)) := by rw [hw5, zC (heap_alloc_new _ _)]; rfl
     have k4' := zzh hb5 k4
     rw [← hw5]
     have HO5 := zH (zzS (HO.out.keepB hb5)).drew; have HB5 := zH (HB.out.trans (hb5.mono HB.out.size)).drew
     clear c0 c1 k4 hw5 hb5
     go_region_law (first
      | (refine yyY (T := tU64) xxZ w5 w4 rfl (.tmp 67) (.tmp 77) rfl w4.heap.size A2 i c2 _ rfl (fun _ => False) (fun _ => False) HO5.out HB5.out zN _ rfl [.int .u64 (v : Int)] v ⟨rfl, HV64.out⟩ 112 (by rw [HOR.out]) (fun _ _ _ _ h => h) (by omega) ?_; intro A6 c6 w6 h6
         have HA6 := zH (zzS h6.own); have HB6 := zH h6.below
         clear h6)
      | fail)
     all_goals
      go_wp2_with fail
      go_roundw
      case rel => exact ⟨i + 1, A6, c6, by omega, by go_num, rfl, by rw [HTK.out]; exact HA6.out, HB6.out⟩
      case measure => simp [intOf]; omega
   · obtain rfl : np = i := by omega
     have hfin : both.take np = both := zL (by rw [HBOTH.out, List.length_map, ← HNP.out]; exact Nat.le_refl _)
     rw [hfin] at HO
     have HW := zH (HPP.out.keep HB.out)
     have hbsl := HO.out.sl.any
     have hnp31 : np ≤ 31 := by rw [HNP.out]; exact hp31
     have HBL := zH hbsl
     have hwb := HB.out.size
     have HBW := zH hwb
     have hbz : ∀ x ∈ both, x < 2 ^ z := fun x hx => by
      rw [HBOTH.out] at hx
      obtain ⟨y, hy, rfl⟩ := List.mem_map.1 hx
      obtain ⟨cs, hcs⟩ := HPP.out.ps.all y hy
      have h3 := HPQ.out y hy hcs.2.1 hcs.2.2
      exact Nat.lt_of_lt_of_le (uuG h3.1 h3.2) (Nat.pow_le_pow_right (by decide) hz1.1)
     have HBZ := zH hbz
     obtain ⟨q0, q1, q2, q3, q4⟩ := HW.out.cells
     have HSUM := zH (show (g : Int) + (q : Int) = ((g + q : Nat) : Int) by omega)
     clear hfin HO HB HPP p0 p1 p2 p3 p4 hbsl hbz hwb hlt HPQ
     go_upto_region 14 with (first
      | (go_at_call 285; refine (vv6 _ Al n cl low _ HW.out.low (by omega) k (by omega) HLOWS.out).mono ?_; rintro e w6 ⟨A6, s6, c6, rfl, ho6, hb6⟩; have HO6 := zH ho6.bs.any; have HW6 := zH (HW.out.keep hb6); have HBL6 := zH (HBL.out.below hb6 zN); clear ho6 hb6)
      | fail)
     clear q0 q1 q2 q3 q4
     obtain ⟨q0, q1, q2, q3, q4⟩ := HW6.out.cells
     go_upto_region 17 with (first
      | (go_at_call 283; rw [HSUM.out]; refine (xxE (g + q) hgq _).mono ?_; rintro e w7 ⟨rfl, hb7⟩; rw [← HZ.out]; have HO7 := zH (HO6.out.below hb7 zN); have HW7 := zH (HW6.out.keep hb7); have HBL7 := zH (HBL6.out.below hb7 zN); clear hb7)
      | (go_at_call 285; refine (vv6 _ A2 np c2 both _ HBL7.out (by omega) z hz2 HBZ.out).mono ?_; rintro e w9 ⟨A9, s9, c9, rfl, ho9, hb9⟩; have HO9 := zH ho9.bs.any; have HW9 := zH (HW7.out.keep hb9); have HP9 := zH (HO7.out.below hb9 zN); clear ho9 hb9)
      | fail)
     clear q0 q1 q2 q3 q4 HW HW6 HW7 HO6 HO7 HBL HBL6 HBL7
     obtain ⟨q0, q1, q2, q3, q4⟩ := HW9.out.cells
     have HS3 := zH HW9.out.base.len
     go_region_held3 (fun w' => w'.cell? ⟨r8, 2, none⟩ = some (.slice Ap np cp) ∧ w'.cell? ⟨r8, 3, none⟩ = some (.int .i64 (g : Int)) ∧ w'.cell? ⟨r8, 4, none⟩ = some (.int .i64 (q : Int)))
      (first | exact ⟨q2, q3, q4⟩ | exact ⟨zzh (W := w9.drew) hb10 q2, zzh (W := w9.drew) hb10 q3, zzh (W := w9.drew) hb10 q4⟩ | go_keep)
      (first
        | (go_at_call 287; refine (yyi (q : Int) _).mono ?_; rintro e w10 ⟨rfl, hb10⟩; rw [HQC.out.1])
        | fail)
     have he1 := kqD s3 (zz3 q) (by have := HS3.out; have := HB9.out; omega) (by have := HS3.out; have := HB9.out; omega) (by have := HQC.out.2; omega)
     rw [HS3.out, ← HY1.out, ← HS3.out] at he1
     have he2 := kqD g np (by have := HG1.out; omega) (by omega) (by omega)
     rw [HNP.out, ← HY2.out, ← HNP.out] at he2
     rw [he1, he2]
     have HW10 := zH (HW9.out.drew.keep hb10)
     have HP10 := zH (HP9.out.drew.below hb10 zN)
     have HO10 := zH (HO9.out.drew.below hb10 zN)
     obtain ⟨w11, hw11⟩ : ∃ w11, w11 = w10.alloc (.cells #[.int .u8 ((y1.toNat : Nat) : Int), .int .u8 ((y2.toNat : Nat) : Int)] 5) := ⟨_, rfl⟩
     have hb11 : Below w10.heap.size w10 w11 := by rw [hw11]; exact (zR).alloc zN _
     have hy : OwnB w11 w10.heap.size (some ⟨w10.heap.size, 0, none⟩) 2 2 [y1, y2] := by rw [hw11]; exact World.ownsRow_lit w10 #[.int .u8 ((y1.toNat : Nat) : Int), .int .u8 ((y2.toNat : Nat) : Int)] 2 zN (by simp [maxLen]) rfl
     have HYS := zH hy.bs.any
     have HW11 := zH (HW10.out.keep hb11)
     have HP11 := zH (HP10.out.below hb11 zN)
     have HO11 := zH (HO10.out.below hb11 zN)
     rw [← hw11]
     clear hw11 hb11 hy he1 he2 hb10 q0 q1 q2 q3 q4 HW9 HW10 HP9 HP10 HO9 HO10
     go_wp2_with (first
      | (go_at_call 287; refine (yyi (k : Int) _).mono ?_; rintro e w12 ⟨rfl, hb12⟩; rw [HKC.out]; have HW12 := zH (HW11.out.keep hb12); have HP12 := zH (HP11.out.below hb12 zN); have HO12 := zH (HO11.out.below hb12 zN); have HY12 := zH (HYS.out.below hb12 zN); clear hb12)
      | (go_at_call 286; refine (jjU 2 (zz3 k) n (by omega) HCK.out hn1 hn _).mono ?_; rintro e w13 ⟨A13, n13, c13, rfl, ho13, hb13⟩
         have HSS := zH (sl5 ho13.bs (HY12.out.below hb13 zN) (HW12.out.keep hb13).base (HP12.out.below hb13 zN) (HO12.out.below hb13 zN) 41)
         have HW13 := zH (HW12.out.keep hb13)
         have HN := zH (show [yyc 2 (zz3 k) n, [y1, y2], bs, pack k low, pack z both].flatten.length ≤ 4294967296 by have h1 := zzX low.length k (by omega); have h2 := HW12.out.low.len; have h3 := zzX both.length z hz2; have h4 := HBLEN.out; have h5 := HB9.out; simp [xxb, yyc]; omega)
         clear ho13 hb13)
      | (go_at_call 224; refine (xxa (T := tU8) zzr (fun _ => True) _ _ _ [yyc 2 (zz3 k) n, [y1, y2], bs, pack k low, pack z both] _ HSS.out (by omega) HN.out).mono ?_; rintro e w14 ⟨A14, n14, c14, rfl, ho14, hb14⟩; have HO14 := zH ho14; have HB14 := zH hb14; clear ho14 hb14)
      | fail)
     go_ret2
     have b13 := HW13.out.below
     have b14 := b13.alloc b13.size (.cells #[.slice A13 n13 c13, .slice (some ⟨w10.heap.size, 0, none⟩) 2 2, .slice (some ⟨A3, 0, none⟩) s3 c3, .slice A6 s6 c6, .slice A9 s9 c9] 41)
     have hc14 := b14.size
     rw [HDEL.out]
     refine ⟨b14.trans (HB14.out.mono hc14), A14, n14, c14, rfl, ?_⟩
     have := zzG (HO14.out.down hc14)
     simpa using this
theorem zqp (F : Nat → Prop) (A : Option Addr) (n c : Nat) (l : List Int) (w : World) (h : Sl tI64 F w A n c l) (hn1 : 1 ≤ n) (hn : n ≤ 512) (sg : Bool) (hl : yyb sg l) (k : Nat) (hk : k ≤ 63) (hkc : zzU (k : Int) = ((zz3 k : Nat) : Int)) :
 Calls Tryz.prog 249 #[.slice A n c, .int .i64 (k : Int), .bool sg] w (zzF (patB k l) w) := by
 by_cases hf : yyP k l = true
 · exact xqL F A n c l w h hn1 hn sg hl k hk hkc hf
 · have hf2 : yyP k l = false := by simpa using hf
   have he : patB k l = none := by unfold patB; dsimp only; rw [hf2, if_neg (by simp)]
   rw [he]
   exact xqK F A n c l w h hn1 hn sg hl k hk hkc hf2
end
section
open Go Go.RowKit
def AbovePost (l : List Int) (w : World) (e : Ending) (w' : World) : Prop := Below w.heap.size w w' ∧
 if (upN l).all (· < 9223372036854775808) then ∃ A2 c2, e = .returned (.tuple #[.int .i64 (zzA l), .slice A2 l.length c2, .bool (decide (zzA l ≠ -9223372036854775808))]) ∧ OwnU w' w.heap.size A2 l.length c2 (upN l)
 else e = .returned (.tuple #[.int .i64 0, .slice none 0 0, .bool false])
theorem kq2 (l : List Int) (k : Nat) (h : k < l.length) (a : Int) : (l.take (k + 1)).foldl min a = min ((l.take k).foldl min a) l[k] := by
 rw [zT h, List.foldl_append]; rfl
theorem qxG (F : Nat → Prop) (A : Option Addr) (n c : Nat) (l : List Int) (w : World) (h : Sl tI64 F w A n c l) (hl : l ≠ []) (hn : n ≤ 4096) :
 Calls Tryz.prog 264 #[.slice A n c] w (AbovePost l w) := by
 have HL := zH h.len
 have hpos := List.length_pos_iff.2 hl
 have hmem := vvC hl
 obtain ⟨b, o, rfl, hbl, hcell⟩ := yyt h hl
 obtain ⟨y, hy⟩ : ∃ y, y = l[0] := ⟨_, rfl⟩
 have hc0 := (hcell 0 hpos).1
 rw [← hy, Nat.add_zero] at hc0
 have HY := zH (show l.headD 0 = y by rw [hy]; match l, hpos with | _ :: _, _ => rfl)
 have HC0 := zH hc0; have HCE := zH hcell; have HPO := zH hpos; have HMEM := zH hmem
 have HUL := zH (xx1 l)
 have hn0 : (0 : Int) < (n : Int) := by have := HL.out; omega
 clear h hy hcell hl hmem hpos
 go_enter Tryz.func264, Tryz.ntmps264
 go_wp2_with fail
 go_loopw [5, 6] (fun bv iv wr => ∃ (k : Nat) (m : Int), k ≤ n ∧ iv = .int .i64 (k : Int) ∧ bv = .int .i64 m ∧ Hid (m = (l.take k).foldl min y) ∧ Below w.heap.size w wr) (fun _ iv _ => n - (intOf iv).toNat)
 case atStart => exact ⟨0, y, Nat.zero_le _, rfl, rfl, zH rfl, zR⟩
 case round =>
  obtain ⟨k, m, hk, rfl, rfl, HE, hb⟩ := hrel
  have HB := zH hb
  have hk0 : (0 : Int) ≤ (k : Int) := by omega
  clear hb
  by_cases hlt : k < n
  · have q1 : (k : Int) < (n : Int) := by omega
    have hkl : k < l.length := by rw [← HL.out]; exact hlt
    obtain ⟨x, hx⟩ : ∃ x, x = l[k] := ⟨_, rfl⟩
    have hc := (HCE.out k hkl).1
    rw [← hx] at hc
    have HE2 : Hid (min m x = (l.take (k + 1)).foldl min y) := zH (by rw [kq2 l k hkl, ← HE.out, hx])
    have c1 := zzh HB.out hc
    clear hc hx
    go_wp2_with fail
    go_roundw
    case rel => exact ⟨k + 1, min m x, by omega, by go_num, rfl, HE2, HB.out⟩
    case measure => simp [intOf]; omega
  · obtain rfl : k = n := by omega
    have hm : m = zzA l := by rw [HE.out, HL.out, List.take_length, zzA, HY.out]
    have HM := zH hm
    have hb2 : Below w.heap.size w (wr.alloc (.cells #[] 112)) := HB.out.alloc HB.out.size _
    have HB2 := zH hb2
    have q1 : ¬ (k : Int) < (k : Int) := by omega
    have ho2 : OwnU (wr.alloc (.cells #[] 112)) w.heap.size (some ⟨wr.heap.size, 0, none⟩) 0 0 [] := OwnF.empty _ _ _ wr _ HB.out.size (fun _ hb => hb.elim)
    have HO2 := zH ho2
    clear hm hb2 ho2
    go_wp2_with fail
    go_loopw [7, 8] (fun sv iv wq => ∃ (i : Nat) (A2 : Option Addr) (c2 : Nat), i ≤ k ∧ iv = .int .i64 (i : Int) ∧ sv = .slice A2 i c2 ∧ OwnU wq w.heap.size A2 i c2 ((upN l).take i) ∧ Below w.heap.size w wq ∧ Hid (∀ j (_ : j < (upN l).length), j < i → (upN l)[j] < 9223372036854775808)) (fun _ iv _ => k - (intOf iv).toNat)
    case atStart => exact ⟨0, _, 0, Nat.zero_le _, rfl, rfl, HO2.out, HB2.out, zH (fun j _ hj => by omega)⟩
    case round =>
     obtain ⟨i, A2, c2, hi, rfl, rfl, ho, hb, HJ⟩ := hrel
     have HO := zH ho; have HB3 := zH hb
     clear ho hb
     by_cases hlt2 : i < k
     · have hil : i < l.length := by rw [← HL.out]; exact hlt2
       have hiu : i < (upN l).length := by rw [HUL.out]; exact hil
       obtain ⟨x, hx⟩ : ∃ x, x = l[i] := ⟨_, rfl⟩
       have hcx := HCE.out i hil
       rw [← hx] at hcx
       have c1 := zzh HB3.out hcx.1
       have i0 : (0 : Int) ≤ (i : Int) := by omega
       have i1 : (i : Int) < (k : Int) := by omega
       have hmm := HMEM.out
       rw [← HM.out] at hmm
       have hxm : m ≤ x := hmm.2 x (by rw [hx]; exact List.getElem_mem _)
       obtain ⟨jm, hjm, hjm2⟩ := List.getElem_of_mem hmm.1
       have hmr := HCE.out jm hjm
       rw [hjm2] at hmr
       obtain ⟨u, hu⟩ : ∃ u, u = gapN m x := ⟨_, rfl⟩
       have hut : (upN l)[i]'hiu = u := by
        have e1 : (upN l)[i]'hiu = (l[i] - zzA l).toNat := by simp [upN]
        rw [e1, hu, ← HM.out, ← hx]; unfold gapN; omega
       have HT := zH (show (upN l).take (i + 1) = (upN l).take i ++ [u] by rw [zT hiu, hut])
       have HDV := jjB m x hmr.2.1 hmr.2.2 hcx.2.1 hcx.2.2
       have hnl : decide (x < m) = false := decide_eq_false (by omega)
       by_cases hok : u < 9223372036854775808
       · have HU := zH (show U64 u by unfold U64; omega)
         have HD : Hid (∀ w, Calls Tryz.prog 262 #[.int .i64 m, .int .i64 x] w fun e w' => e = .returned (.tuple #[.int .u64 (u : Int), .bool false, .bool true]) ∧ w = w') := zH (fun w => by
          refine (HDV w).mono fun e w' h => ⟨?_, h.2⟩
          rw [h.1]
          unfold yyH
          rw [← hu, if_pos hok, hnl])
         have HJ2 : Hid (∀ j (_ : j < (upN l).length), j < i + 1 → (upN l)[j] < 9223372036854775808) := zH (fun j hj hji => by
          by_cases hjp : j = i
          · subst hjp; rw [hut]; exact hok
          · exact HJ.out j hj (by omega))
         clear HDV hcx hu hut hx hnl hmm hxm hjm hjm2 hmr hok
         go_wp2_with (first
          | (go_at_call 262; refine (HD.out _).mono ?_; rintro e w3 ⟨rfl, rfl⟩)
          | (at_builtin; refine apu1 _ w rfl (.tmp 46) (.tmp 48) rfl w.heap.size A2 i c2 _ rfl HO.out HB3.out zN _ rfl u HU.out rfl (by omega) ?_; intro A3 c3 w3 h3 hb3)
          | fail)
         go_roundw
         case rel => exact ⟨i + 1, A3, c3, by omega, by go_num, rfl, by rw [HT.out]; exact h3, hb3, HJ2⟩
         case measure => simp [intOf]; omega
       · have HD : Hid (∀ w, Calls Tryz.prog 262 #[.int .i64 m, .int .i64 x] w fun e w' => e = .returned (.tuple #[.int .u64 0, .bool false, .bool false]) ∧ w = w') := zH (fun w => by
          refine (HDV w).mono fun e w' h => ⟨?_, h.2⟩
          rw [h.1]
          unfold yyH
          rw [← hu, if_neg hok])
         have HBAD : Hid (¬ (upN l).all (· < 9223372036854775808) = true) := zH (fun hall => by
          have := List.all_eq_true.1 hall u (by rw [← hut]; exact List.getElem_mem _)
          exact hok (by simpa using this))
         clear HDV hcx hu hut hx hnl hmm hxm hjm hjm2 hmr hok
         go_wp2_with (first
          | (go_at_call 262; refine (HD.out _).mono ?_; rintro e w3 ⟨rfl, rfl⟩)
          | fail)
         go_ret3
         exact ⟨HB3.out, by rw [if_neg HBAD.out]; rfl⟩
     · obtain rfl : i = k := by omega
       have hall : (upN l).take i = upN l := zL (by rw [HUL.out, ← HL.out]; exact Nat.le_refl _)
       rw [hall] at HO
       have HGOOD : Hid ((upN l).all (· < 9223372036854775808) = true) := zH (List.all_eq_true.2 fun u hu => by
        obtain ⟨j, hj, rfl⟩ := List.getElem_of_mem hu
        exact decide_eq_true (HJ.out j hj (by have := HUL.out; have := HL.out; omega)))
       clear hall
       by_cases hz : m = -9223372036854775808
       · have hd : decide (m ≠ -9223372036854775808) = false := by simp [hz]
         have HD := zH hd
         have hb1 : (m == -9223372036854775808) = true := vvz hz
         clear hd
         go_wp2_with fail
         go_ret3
         exact ⟨HB3.out, by rw [if_pos HGOOD.out, ← HM.out, HD.out, ← HL.out]; exact ⟨A2, c2, rfl, HO.out⟩⟩
       · have hd : decide (m ≠ -9223372036854775808) = (m != -9223372036854775808) := by simp [bne, zzH hz, hz]
         have HD := zH hd
         clear hd
         go_wp2_with fail
         go_ret3
         exact ⟨HB3.out, by rw [if_pos HGOOD.out, ← HM.out, HD.out, ← HL.out]; exact ⟨A2, c2, rfl, HO.out⟩⟩
theorem qxH (b : Int) (b0 : -9223372036854775808 < b) (b1 : b ≤ 9223372036854775807) (w : World) :
 Calls Tryz.prog 266 #[.int .i64 b] w (Own1 w (vve b)) := by
 obtain ⟨u, hu⟩ : ∃ u, u = b.natAbs := ⟨_, rfl⟩
 have hug : gapN 0 b = u := by rw [hu]; unfold gapN; rw [Int.sub_zero]
 have hul : u < 9223372036854775808 := by omega
 have hu64 : U64 u := Nat.lt_trans hul (by decide)
 obtain ⟨fl, hfl⟩ : ∃ fl, fl = decide (b < 0) := ⟨_, rfl⟩
 have HV := zH (show yyH 0 b = #[.int .u64 (u : Int), .bool fl, .bool true] by unfold yyH; rw [hug, if_pos hul, ← hfl])
 obtain ⟨q, hq⟩ : ∃ q, q = bl u / 8 := ⟨_, rfl⟩
 obtain ⟨bb, hbb⟩ : ∃ bb, bb = bl u := ⟨_, rfl⟩
 have hbb64 : bb ≤ 64 := by rw [hbb]; exact yya hu64
 have hq8 : q ≤ 8 := by omega
 have HQ := zH (show (bb : Int) / 8 = (q : Int) by omega)
 have htop : u / 256 ^ q < 128 := by
  have h1 := uuq hu64
  rw [xxC]
  refine Nat.div_lt_of_lt_mul (Nat.lt_of_lt_of_le h1 ?_)
  rw [show (128 : Nat) = 2 ^ 7 from rfl, ← Nat.pow_add]
  exact Nat.pow_le_pow_right (by decide) (by omega)
 have HTOP := zH htop
 have HB : Hid (vve b = be (q + 1) (u + if fl then 128 * 256 ^ q else 0)) := zH (by
  unfold vve
  rw [← hu, ← hq, hfl]
  by_cases h : b < 0
  · rw [if_pos h, decide_eq_true h, if_pos rfl]
  · rw [if_neg h, decide_eq_false h, if_neg (by simp)])
 have HBB := zH hbb; have HU64 := zH hu64
 have hb0' : -9223372036854775808 ≤ b := by omega
 have HO1 := zH (OwnB.new0 w w.heap.size zN)
 have HB1 : Hid (Below w.heap.size w (w.alloc (.cells #[] 5))) := zH ((zR).alloc zN _)
 clear hu hug hul hfl hq htop hbb hu64
 go_enter Tryz.func266, Tryz.ntmps266
 go_wp2_with (first
  | (go_at_call 262; refine (jjB 0 b (by decide) (by decide) hb0' b1 _).mono ?_; rintro e w1 ⟨rfl, rfl⟩; rw [HV.out])
  | (go_at_call 256; refine (uuK u HU64.out _).mono ?_; rintro e w2 ⟨rfl, rfl⟩; rw [← HBB.out])
  | fail)
 go_loopw [7, 8] (fun av iv wr => ∃ (j : Nat) (z : Int) (A2 : Option Addr) (c2 : Nat), j ≤ q + 1 ∧ z = (j : Int) - 1 ∧ iv = .int .i64 z ∧ av = .slice A2 (q + 1 - j) c2 ∧ OwnB wr w.heap.size A2 (q + 1 - j) c2 ((be (q + 1) u).take (q + 1 - j)) ∧ Below w.heap.size w wr)
  (fun _ iv _ => (intOf iv + 1).toNat)
 case atStart => exact ⟨q + 1, (q : Int), _, 0, Nat.le_refl _, by omega, by first | rfl | rw [HQ.out] | go_num, by rw [Nat.sub_self], by rw [Nat.sub_self, List.take_zero]; exact HO1.out, HB1.out⟩
 case round =>
  obtain ⟨j, z, A2, c2, hj, hz, rfl, rfl, ho, hb⟩ := hrel
  have HO := zH ho; have HB2 := zH hb
  clear ho hb
  cases j with
  | zero =>
    have z1 : ¬ 0 ≤ z := by omega
    have z2 : ¬ z ≥ 0 := z1
    clear hz
    have ho := HO.out
    rw [Nat.sub_zero, zL (by rw [zz1]; exact Nat.le_refl _)] at ho
    have HO2 := zH ho
    obtain ⟨g, rfl⟩ := ho.own.some1 yyn (by intro h; have := congrArg List.length h; rw [zz1] at this; simp at this)
    clear ho HO
    cases fl with
    | false =>
      go_wp2_with fail
      go_ret
      exact ⟨_, _, c2, rfl, by rw [HB.out, if_neg (by simp), Nat.add_zero]; exact HO2.out, HB2.out⟩
    | true =>
      have hl0 : 0 < (be (q + 1) u).length := by rw [zz1]; omega
      obtain ⟨t, ht⟩ : ∃ t, t = u / 256 ^ q := ⟨_, rfl⟩
      have ht128 : t < 128 := by rw [ht]; exact HTOP.out
      have hg : ((be (q + 1) u)[0]'hl0).toNat = t := by rw [vvy, show q + 1 - 1 - 0 = q by omega, ← ht, Nat.mod_eq_of_lt (by omega)]
      have g0 : wr.cell? ⟨g, 0, none⟩ = some (.int .u8 (t : Int)) := by rw [HO2.out.own.cell1 yyn hl0, hg]
      have g1 : wr.frozen? ⟨g, 0, none⟩ = false := HO2.out.own.free1 yyn 0
      obtain ⟨y, hy⟩ : ∃ y : UInt8, y = UInt8.ofNat (t + 128) := ⟨_, rfl⟩
      have hor : (t : Int) + 128 = ((y.toNat : Nat) : Int) := by
       rw [hy, UInt8.toNat_ofNat', Nat.mod_eq_of_lt (by omega)]
       omega
      have HFIN := zH (show (be (q + 1) u).set 0 y = be (q + 1) (u + 128 * 256 ^ q) by
       have := qx5 (q + 1) u 0 128 (by omega) (by rw [show q + 1 - 1 - 0 = q by omega, ← ht]; omega)
       rw [show q + 1 - 1 - 0 = q by omega, ← ht, Nat.mod_eq_of_lt (by omega)] at this
       rw [hy]; exact this)
      have HHOR := zH hor
      have hq0 : (0 : Int) < (q : Int) + 1 := by omega
      clear hg ht hy hl0 hor
      go_wp2_with fail
      rw [HHOR.out]
      go_ret
      have hr := HO2.out.own.set1 yyn 0 y trivial
      refine ⟨_, _, c2, rfl, ?_, zzd HB2.out (HO2.out.own.base1 yyn).1 _⟩
      rw [HB.out, if_pos (by simp), ← HFIN.out]
      exact zzG ⟨_, hr⟩
  | succ i =>
    obtain rfl : z = (i : Int) := by omega
    have z0 : (0 : Int) ≤ (i : Int) := by omega
    clear hz
    obtain ⟨p, hp⟩ : ∃ p, q + 1 - (i + 1) = p := ⟨_, rfl⟩
    obtain ⟨y, hy⟩ : ∃ y : UInt8, y = UInt8.ofNat (u / 256 ^ i) := ⟨_, rfl⟩
    have hyn : ((y.toNat : Nat) : Int) = ((u / 2 ^ (8 * i) % 256 : Nat) : Int) := by rw [hy, UInt8.toNat_ofNat', xxC]
    have f1 : IntKind.u8.wrap ((u : Int) / 2 ^ (8 * i)) = ((y.toNat : Nat) : Int) := by
     rw [hyn, IntKind.wrap_u8, show (u : Int) / 2 ^ (8 * i) = ((u / 2 ^ (8 * i) : Nat) : Int) by simp]
     omega
    have f2 : (u : Int) / 2 ^ (8 * i) % 256 = ((y.toNat : Nat) : Int) := by
     rw [hyn, show (u : Int) / 2 ^ (8 * i) = ((u / 2 ^ (8 * i) : Nat) : Int) by simp]
     omega
    have HT := zH (show (be (q + 1) u).take (p + 1) = (be (q + 1) u).take p ++ [y] by rw [qzt (q + 1) u p (by omega), hy, show q + 1 - 1 - p = i by omega])
    rw [hp] at HO
    have HP := zH hp
    rw [hp]
    have hp8 : p ≤ 9 := by omega
    clear hp hy hyn
    go_wp2_with (first
     | (at_builtin; refine apb1 wr w rfl (.tmp 26) (.tmp 32) rfl w.heap.size A2 p c2 ((be (q + 1) u).take p) rfl HO.out HB2.out zN _ rfl y rfl (by omega) ?_; intro A3 c3 w3 h3 hb3 _)
     | fail)
    go_roundw
    case rel => exact ⟨i, (i : Int) - 1, A3, c3, by omega, rfl, by first | rfl | go_num, by rw [show q + 1 - i = p + 1 by have := HP.out; omega], by rw [show q + 1 - i = p + 1 by have := HP.out; omega, HT.out]; exact h3, hb3⟩
    case measure => simp [intOf]
end
end Go.Proofs.YtpmglcachffojaaGreatDoor
