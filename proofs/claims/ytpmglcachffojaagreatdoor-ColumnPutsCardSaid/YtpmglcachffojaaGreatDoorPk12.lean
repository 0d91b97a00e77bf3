/- patched.Put, where it lays numbers down. -/
import Derived.Test.YtpmglcachffojaaGreatDoorPk11
import Derived.Deep.RegionHeld3
namespace Go.Proofs.YtpmglcachffojaaGreatDoor
open Go Go.RowKit

theorem sl5 {α : Type} {T : Ty α} {F1 F2 F3 F4 F5 : Nat → Prop} {w : World} {A1 A2 A3 A4 A5 : Option Addr} {n1 n2 n3 n4 n5 c1 c2 c3 c4 c5 : Nat} {x1 x2 x3 x4 x5 : List α} (h1 : Sl T F1 w A1 n1 c1 x1) (h2 : Sl T F2 w A2 n2 c2 x2) (h3 : Sl T F3 w A3 n3 c3 x3) (h4 : Sl T F4 w A4 n4 c4 x4) (h5 : Sl T F5 w A5 n5 c5 x5) (t : TypeId) :
    Sl (tSl T) (fun _ => True) (w.alloc (.cells #[.slice A1 n1 c1, .slice A2 n2 c2, .slice A3 n3 c3, .slice A4 n4 c4, .slice A5 n5 c5] t)) (some ⟨w.heap.size, 0, none⟩) 5 5 [x1, x2, x3, x4, x5] := by
  have hr : Reps (tSl T) (fun _ => True) w [[.slice A1 n1 c1], [.slice A2 n2 c2], [.slice A3 n3 c3], [.slice A4 n4 c4], [.slice A5 n5 c5]] [x1, x2, x3, x4, x5] := by simpa using Reps.snoc (Reps.mk4 h1.any.rep h2.any.rep h3.any.rep h4.any.rep) h5.any.rep
  exact (Sl.news hr t 5 rfl (by omega) _ rfl).any
/-- What stands while the bytes are laid down. -/
structure PpR (w0 : World) (r8 : Nat) (base : Int) (Al : Option Addr) (nl cl : Nat) (low : List Nat) (Ap : Option Addr) (np cp : Nat) (ps : List (Nat × Nat)) (g q : Nat) (A3 : Nat) (s3 c3 : Nat) (bs : List UInt8) (w : World) : Prop where
  below : Below w0.heap.size w0 w
  run : w.heap[r8]? = some (.cells #[.int .i64 base, .slice Al nl cl, .slice Ap np cp, .int .i64 (g : Int), .int .i64 (q : Int)] 328 (0, 0))
  low : Sl tU64 (fun _ => True) w Al nl cl low
  ps : Sl tPair (fun _ => True) w Ap np cp ps
  base : Bs (fun _ => True) w (some ⟨A3, 0, none⟩) s3 c3 bs
section
variable {w0 w w' : World} {r8 : Nat} {base : Int} {Al Ap : Option Addr} {nl cl np cp A3 s3 c3 : Nat} {low : List Nat} {ps : List (Nat × Nat)} {g q : Nat} {bs : List UInt8}
theorem PpR.keep (h : PpR w0 r8 base Al nl cl low Ap np cp ps g q A3 s3 c3 bs w) (hb : Below w.heap.size w w') : PpR w0 r8 base Al nl cl low Ap np cp ps g q A3 s3 c3 bs w' :=
  ⟨h.below.trans (hb.mono h.below.size), (hb.block r8 (blk_lt h.run)).trans h.run, h.low.below hb (Nat.le_refl _), h.ps.below hb (Nat.le_refl _), h.base.below hb (Nat.le_refl _)⟩
theorem PpR.drew (h : PpR w0 r8 base Al nl cl low Ap np cp ps g q A3 s3 c3 bs w) : PpR w0 r8 base Al nl cl low Ap np cp ps g q A3 s3 c3 bs w.drew :=
  ⟨h.below.drew, h.run, h.low.drew, h.ps.drew, h.base.drew⟩
theorem PpR.cells (h : PpR w0 r8 base Al nl cl low Ap np cp ps g q A3 s3 c3 bs w) : w.cell? ⟨r8, 0, none⟩ = some (.int .i64 base) ∧ w.cell? ⟨r8, 1, none⟩ = some (.slice Al nl cl) ∧ w.cell? ⟨r8, 2, none⟩ = some (.slice Ap np cp) ∧ w.cell? ⟨r8, 3, none⟩ = some (.int .i64 (g : Int)) ∧ w.cell? ⟨r8, 4, none⟩ = some (.int .i64 (q : Int)) := by
  refine ⟨?_, ?_, ?_, ?_, ?_⟩
  iterate 5 (rw [Lib.cell_of_heap h.run]; rfl)
end
theorem pair_small {ps : List (Nat × Nat)} {x : Nat × Nat} (hx : x ∈ ps) (h1 : x.1 < 9223372036854775808) (h2 : U64 x.2) : x.1 < 2 ^ gapW ps ∧ x.2 < 2 ^ patM ps := by
  have a1 := bl_lt (x := x.1) (Nat.lt_trans h1 (by decide))
  have a2 := bl_lt h2
  have b1 : bl x.1 ≤ gapW ps := by have := most_mem (l := ps.map (·.1)) (x := x.1) (List.mem_map.2 ⟨x, hx, rfl⟩); unfold gapW; omega
  have b2 : bl x.2 ≤ patM ps := by have := most_mem (l := ps.map (·.2)) (x := x.2) (List.mem_map.2 ⟨x, hx, rfl⟩); unfold patM; omega
  exact ⟨Nat.lt_of_lt_of_le a1 (Nat.pow_le_pow_right (by decide) b1), Nat.lt_of_lt_of_le a2 (Nat.pow_le_pow_right (by decide) b2)⟩
theorem pairsN_snd (w : Nat) : ∀ (us : List Nat) (i la : Nat), (∀ x ∈ us, U64 x) → ∀ p ∈ pairsN w i la us, U64 p.2
  | [], _, _, _, p, hp => by simp [pairsN] at hp
  | y :: r, i, la, h, p, hp => by
    rw [pairsN_cons] at hp
    rcases List.mem_append.1 hp with hp | hp
    · unfold pairs1 at hp
      split at hp
      · simp at hp
      · rcases List.mem_append.1 hp with hp | hp
        · rw [(List.mem_replicate.1 hp).2]; show (0 : Nat) < _; decide
        · rw [List.mem_singleton.1 hp]
          exact Nat.lt_of_le_of_lt (Nat.div_le_self _ _) (h y (by simp))
    · exact pairsN_snd w r _ _ (fun x hx => h x (by simp [hx])) p hp
theorem pair_lt {a b g q : Nat} (ha : a < 2 ^ g) (hb : b < 2 ^ q) : a * 2 ^ q + b < 2 ^ (g + q) := by
  rw [Nat.pow_add]
  have : (a + 1) * 2 ^ q ≤ 2 ^ g * 2 ^ q := Nat.mul_le_mul_right _ ha
  rw [Nat.add_mul, Nat.one_mul] at this
  omega
theorem byte_join (a b : Nat) (h1 : 1 ≤ a) (ha : a ≤ 1000) (hb : b < 32) : IntKind.u8.wrap (bits BinOp.or IntKind.i64 (IntKind.i64.wrap (IntKind.i64.wrap ((a : Int) - 1) * 32)) (b : Int)) = (((UInt8.ofNat (32 * (a - 1) + b)).toNat : Nat) : Int) := by
  have e1 : IntKind.i64.wrap ((a : Int) - 1) = ((a - 1 : Nat) : Int) := by rw [IntKind.wrap_i64]; omega
  have e2 : IntKind.i64.wrap (((a - 1 : Nat) : Int) * 32) = ((32 * (a - 1) : Nat) : Int) := by rw [IntKind.wrap_i64]; omega
  rw [e1, e2, i64_or_nat _ _ (by omega) (by omega), nat_join 5 (32 * (a - 1)) b (by omega) (by omega), IntKind.wrap_u8, UInt8.toNat_ofNat']
  omega
theorem pair_or {a b g q : Nat} (ha : a < 2 ^ g) (hb : b < 2 ^ q) (h : g + q ≤ 64) : bits BinOp.or IntKind.u64 (IntKind.u64.wrap ((a : Int) * 2 ^ q)) (b : Int) = ((a * 2 ^ q + b : Nat) : Int) := by
  have h1 := pair_lt ha hb
  have h2 : 2 ^ (g + q) ≤ 2 ^ 64 := Nat.pow_le_pow_right (by decide) h
  have e : IntKind.u64.wrap ((a : Int) * 2 ^ q) = ((a * 2 ^ q : Nat) : Int) := by
    rw [show (a : Int) * 2 ^ q = ((a * 2 ^ q : Nat) : Int) by simp, IntKind.wrap_u64]
    omega
  rw [e, u64_or_nat _ _ (by omega) (by omega), nat_join q (a * 2 ^ q) b (Nat.mul_mod_left _ _) hb]
theorem Sl.all {α : Type} {T : Ty α} {F : Nat → Prop} {w : World} {A : Option Addr} {n c : Nat} {xs : List α} (h : Sl T F w A n c xs) : ∀ x ∈ xs, ∃ cs, T.rep F w cs x := by
  obtain ⟨_, _, _, css, _, h2⟩ := h
  intro x hx
  obtain ⟨i, hi, rfl⟩ := List.getElem_of_mem hx
  exact ⟨_, h2.2 i _ _ (List.getElem?_eq_getElem (by rw [h2.1]; exact hi)) (List.getElem?_eq_getElem hi)⟩
set_option maxRecDepth 100000 in
set_option maxHeartbeats 4000000 in
theorem pput_some (F : Nat → Prop) (A : Option Addr) (n c : Nat) (l : List Int) (w : World) (h : Sl tI64 F w A n c l) (hn1 : 1 ≤ n) (hn : n ≤ 512) (sg : Bool) (hl : NumOk sg l) (k : Nat) (hk : k ≤ 63) (hkc : wCode (k : Int) = ((codeN k : Nat) : Int)) (hf : patFits k l = true) :
    Calls Tryz.prog 249 #[.slice A n c, .int .i64 (k : Int), .bool sg] w (RunPost (patB k l) w) := by
  have hlen := h.len
  have hne : l ≠ [] := by intro e; rw [e] at hlen; simp at hlen; omega
  have hml := hl.least hne
  have HMIN := Lib.hid (min_any F A n c l w h hne)
  have HH := Lib.hid h; have HNE := Lib.hid hne
  have HFIT := Lib.hid hf
  obtain ⟨ps, hps⟩ : ∃ ps, ps = pairsN k 0 0 (upN l) := ⟨_, rfl⟩
  obtain ⟨mn, hmn⟩ : ∃ mn, mn = leastI l := ⟨_, rfl⟩
  rw [← hmn] at hml HMIN
  obtain ⟨m0, m1, m2⟩ := hml
  have m3 : sg = false → ¬ mn < 0 := fun e => by rcases m2 with h | h; rw [e] at h; cases h; exact Int.not_lt.2 h
  have HM3 := Lib.hid m3
  have HKC := Lib.hid hkc
  rw [patFits_iff, ← hmn, ← hps] at hf
  simp only [Bool.and_eq_true, cutFits, decide_eq_true_eq, bne_iff_ne, ne_eq] at hf
  obtain ⟨⟨hga, hmn2⟩, ⟨hp31, hgq⟩, hkq⟩ := hf
  obtain ⟨g, hg⟩ : ∃ g, g = gapW ps := ⟨_, rfl⟩
  obtain ⟨q, hq⟩ : ∃ q, q = patW ps := ⟨_, rfl⟩
  obtain ⟨low, hlow⟩ : ∃ low, low = (upN l).map (· % 2 ^ k) := ⟨_, rfl⟩
  rw [← hg, ← hq] at hgq
  have hcfit : cutFits k ps = true := by simp only [Bool.and_eq_true, cutFits, decide_eq_true_eq, ← hg, ← hq]; exact ⟨⟨hp31, hgq⟩, by rw [← hq] at hkq; exact hkq⟩
  have HCUT : Hid (∀ w1, Below w.heap.size w w1 → Calls Tryz.prog 291 #[.slice A n c, .int .i64 (k : Int)] w1 fun e w2 => ∃ (Al Ap : Option Addr) (cl np cp : Nat), e = .returned (.tuple #[.agg #[.int .i64 mn, .slice Al n cl, .slice Ap np cp, .int .i64 (g : Int), .int .i64 (q : Int)], .bool true]) ∧
      Below w1.heap.size w1 w2 ∧ Sl tU64 (fun _ => True) w2 Al n cl low ∧ Sl tPair (fun _ => True) w2 Ap np cp ps) := Lib.hid fun w1 hb1 => by
    refine (pcut_any F A n c l w1 (HH.out.below hb1 (Nat.le_refl _)) HNE.out hn k hk).mono ?_
    rintro e w2 ⟨hb2, he⟩
    rw [if_pos hga, ← hps, ← hmn, ← hg, ← hq, ← hlow, hcfit] at he
    obtain ⟨Al, cl, Ap, np, cp, he, h1, h2⟩ := he
    exact ⟨Al, Ap, cl, np, cp, he, hb2, h1, h2⟩
  have hb0 : -9223372036854775808 < mn := by omega
  obtain ⟨bs, hbs⟩ : ∃ bs, bs = baseB mn := ⟨_, rfl⟩
  have hbl : bs.length = bl mn.natAbs / 8 + 1 := by rw [hbs]; unfold baseB; rw [be_len]
  have hbl2 : bl mn.natAbs ≤ 64 := bl_le64 (show mn.natAbs < 18446744073709551616 by omega)
  have hb9 : 1 ≤ bs.length ∧ bs.length ≤ 9 := by omega
  have HBASE : Hid (∀ w1, Calls Tryz.prog 292 #[.int .i64 mn] w1 fun e w' => ∃ g n c, e = .returned (.slice (some ⟨g, 0, none⟩) n c) ∧ Bs (fun _ => True) w' (some ⟨g, 0, none⟩) n c bs ∧ Below w1.heap.size w1 w') := Lib.hid fun w1 => by rw [hbs]; exact based_own mn hb0 m1 w1
  obtain ⟨z, hz⟩ : ∃ z, z = closeN (g + q) := ⟨_, rfl⟩
  have hz1 := closeN_ge hgq
  have hz2 := closeN_le (g + q)
  rw [← hz] at hz1 hz2
  obtain ⟨both, hboth⟩ : ∃ both, both = ps.map fun x => x.1 * 2 ^ q + x.2 := ⟨_, rfl⟩
  obtain ⟨y1, hy1⟩ : ∃ y1 : UInt8, y1 = UInt8.ofNat (32 * (bs.length - 1) + codeN q) := ⟨_, rfl⟩
  obtain ⟨y2, hy2⟩ : ∃ y2 : UInt8, y2 = UInt8.ofNat (32 * (g - 1) + ps.length) := ⟨_, rfl⟩
  have HDEL : Hid (patB k l = some (headB 2 (codeN k) n ++ [y1, y2] ++ bs ++ pack k low ++ pack z both)) := Lib.hid (by
    unfold patB
    dsimp only
    rw [HFIT.out, if_pos rfl, ← hps, ← hmn, ← hbs, ← hq, ← hg, ← hlow, ← hz, ← hboth, ← hy1, ← hy2, ← hlen])
  have hpm : patM ps ≤ 64 := (patM_le ps fun x hx => by
    rw [hps] at hx
    refine pairsN_snd k (upN l) 0 0 (fun y hy => ?_) x hx
    have := List.all_eq_true.1 hga y hy
    exact Nat.lt_trans (by simpa using this) (by decide)).2
  have hqc : wCode (q : Int) = ((codeN q : Nat) : Int) ∧ codeN q ≤ 31 := by rw [hq, patW_eq]; exact codeN_eq hpm
  have hlows : ∀ x ∈ low, x < 2 ^ k := fun x hx => by
    rw [hlow] at hx
    obtain ⟨y, _, rfl⟩ := List.mem_map.1 hx
    exact Nat.mod_lt _ (Nat.pow_pos (by decide))
  have HLOWS := Lib.hid hlows; have HQC := Lib.hid hqc; have HG := Lib.hid hg; have HQ := Lib.hid hq; have HZ := Lib.hid hz; have HBOTH := Lib.hid hboth; have HY1 := Lib.hid hy1; have HY2 := Lib.hid hy2; have HB9 := Lib.hid hb9
  have HPQ : Hid (∀ x ∈ ps, x.1 < 9223372036854775808 → U64 x.2 → x.1 < 2 ^ g ∧ x.2 < 2 ^ q) := Lib.hid fun x hx h1 h2 => by
    have h3 := pair_small hx h1 h2
    rw [← hg] at h3
    refine ⟨h3.1, Nat.lt_of_lt_of_le h3.2 (Nat.pow_le_pow_right (by decide) ?_)⟩
    rw [hq, patW_eq]
    exact (closeN_ge hpm).1
  have HG1 := Lib.hid (show 1 ≤ g by rw [hg]; unfold gapW; omega)
  have HBLEN := Lib.hid (show both.length ≤ 31 by rw [hboth, List.length_map]; exact hp31)
  have HCK := Lib.hid (show codeN k ≤ 31 by have := wCode_range (k : Int); omega)
  have qT := eqlNil
  have hn5 : ¬ (n : Int) > 512 := by omega
  have hn6 : ¬ (n : Int) < 1 := by omega
  have hk6 : ¬ (k : Int) ≥ 64 := by omega
  clear h hl hlen hne hmn m2 m3 hkc hga hps hg hq hlow hcfit hbs hbl hbl2 hb9 hz hboth hy1 hy2 hkq hqc hlows hmn2 hpm
  go_enter Tryz.func249, Tryz.ntmps249
  go_upto_region 1 with fail
  go_cut [44] from 19 to 44 (fun v wx => ∃ wd, wd = wx ∧ v = .bool false ∧ Below w.heap.size w wd)
  case first =>
    cases sg with
    | true =>
      go_wp2_with (first
        | (go_at_call 287; refine (wcode_any (k : Int) _).mono ?_; rintro e w4 ⟨rfl, hb4⟩; rw [HKC.out]; have HB4 := Lib.hid hb4; clear hb4)
        | fail)
      go_meet
      exact ⟨_, rfl, by congr 1; simp; omega, HB4.out⟩
    | false =>
      have m3 := HM3.out rfl
      go_wp2_with (first
        | (go_at_call 205; refine HMIN.out.mono ?_; rintro e w1 ⟨rfl, rfl⟩)
        | (go_at_call 287; refine (wcode_any (k : Int) _).mono ?_; rintro e w4 ⟨rfl, hb4⟩; rw [HKC.out]; have HB4 := Lib.hid hb4; clear hb4)
        | fail)
      go_meet
      exact ⟨_, rfl, by congr 1; simp; omega, HB4.out⟩
  case rest =>
    obtain ⟨wx, rfl, rfl, hb⟩ := hcut
    have HB := Lib.hid hb
    clear hb HMIN HM3
    refine ‹∀ (a : Act) (w_1 : World), Code.wp _ _ _ a w_1 → _› _ _ ?_
    go_upto_region 4 with (first
      | (go_at_call 291; refine (HCUT.out _ HB.out).mono ?_; rintro e w2 ⟨Al, Ap, cl, np, cp, rfl, hb2, hlw, hpw⟩; have HB2 := Lib.hid hb2; have HLW := Lib.hid hlw; have HPW := Lib.hid hpw; clear hb2 hlw hpw)
      | fail)
    obtain ⟨r8, hr8⟩ : ∃ r8, r8 = w2.heap.size := ⟨_, rfl⟩
    obtain ⟨w3, hw3⟩ : ∃ w3, w3 = w2.alloc (.cells #[.int .i64 mn, .slice Al n cl, .slice Ap np cp, .int .i64 (g : Int), .int .i64 (q : Int)] 328) := ⟨_, rfl⟩
    rw [← hw3, ← hr8]
    have HR8 := Lib.hid (show w3.heap[r8]? = some (.cells #[.int .i64 mn, .slice Al n cl, .slice Ap np cp, .int .i64 (g : Int), .int .i64 (q : Int)] 328 (0, 0)) by rw [hw3, hr8]; exact heap_alloc_new _ _)
    have k0 : w3.cell? ⟨r8, 0, none⟩ = some (.int .i64 mn) := by rw [Lib.cell_of_heap HR8.out]; rfl
    have hb3 : Below w2.heap.size w2 w3 := by rw [hw3]; exact (Below.refl _ _).alloc (Nat.le_refl _) _
    have HB3 := Lib.hid hb3
    clear hw3 hb3 hr8
    go_upto_region 8 with (first
      | (go_at_call 292; refine (HBASE.out _).mono ?_; rintro e w4 ⟨A3, s3, c3, rfl, hbs4, hb4⟩; have HB4 := Lib.hid hb4; have HBS4 := Lib.hid hbs4; clear hb4 hbs4)
      | fail)
    have hpp : PpR w r8 mn Al n cl low Ap np cp ps g q A3 s3 c3 bs w4 := by
      have h2 := HB.out.trans (HB2.out.mono HB.out.size)
      have h3 := h2.trans (HB3.out.mono h2.size)
      refine ⟨h3.trans (HB4.out.mono h3.size), (HB4.out.block r8 (blk_lt HR8.out)).trans HR8.out, ?_, ?_, HBS4.out⟩
      · exact (HLW.out.below HB3.out (Nat.le_refl _)).below HB4.out (Nat.le_refl _)
      · exact (HPW.out.below HB3.out (Nat.le_refl _)).below HB4.out (Nat.le_refl _)
    have HPP := Lib.hid hpp
    have HNP := Lib.hid hpp.ps.len
    obtain ⟨p0, p1, p2, p3, p4⟩ := hpp.cells
    clear hpp HB HB2 HB3 HB4 HLW HPW HBS4 HR8 k0 HCUT HBASE HFIT HNE
    go_wp2_with fail
    go_loopw [11, 63] (fun bv iv wr => ∃ (i : Nat) (A2 : Option Addr) (c2 : Nat), i ≤ np ∧ iv = .int .i64 (i : Int) ∧ bv = .slice A2 i c2 ∧ OwnU wr w4.heap.size A2 i c2 (both.take i) ∧ Below w4.heap.size w4 wr)
      (fun _ iv _ => np - (intOf iv).toNat)
    case atStart => exact ⟨0, none, 0, Nat.zero_le _, rfl, rfl, ownU_nil _ _, Below.refl _ _⟩
    case round =>
      obtain ⟨i, A2, c2, hi, rfl, rfl, ho, hb⟩ := hrel
      have HO := Lib.hid ho; have HB := Lib.hid hb
      clear ho hb
      by_cases hlt : i < np
      · have hik : i < ps.length := by rw [← HNP.out]; exact hlt
        have hsl := (HPP.out.keep HB.out).ps
        obtain ⟨b, o, cs, hA, _, hbl, hr, hc⟩ := hsl.at_ hik (by decide)
        obtain ⟨a, ha⟩ : ∃ a, a = (ps[i]).1 := ⟨_, rfl⟩
        obtain ⟨bp, hbp⟩ : ∃ bp, bp = (ps[i]).2 := ⟨_, rfl⟩
        obtain ⟨hr, hr1, hr2⟩ := hr
        have hab := HPQ.out _ (List.getElem_mem hik) hr1 hr2
        rw [← ha] at hr hr1 hab
        rw [← hbp] at hr hr2 hab
        subst hr
        obtain ⟨c0, c1⟩ := cells2 hc
        have HOR := Lib.hid (pair_or hab.1 hab.2 hgq)
        obtain ⟨v, hv⟩ : ∃ v, v = a * 2 ^ q + bp := ⟨_, rfl⟩
        have hv64 : U64 v := by
          rw [hv]; exact Nat.lt_of_lt_of_le (pair_lt hab.1 hab.2) (Nat.pow_le_pow_right (by decide) hgq)
        rw [← hv] at HOR
        have HTK := Lib.hid (show both.take (i + 1) = both.take i ++ [v] by
          have hb1 : i < both.length := by rw [HBOTH.out, List.length_map]; exact hik
          have hb2 : both[i] = v := by simp only [HBOTH.out, List.getElem_map]; rw [hv, ha, hbp]
          rw [List.take_succ_eq_append_getElem hb1, hb2])
        have HV64 := Lib.hid hv64
        have xw : IntKind.u64.wrap (a : Int) = (a : Int) := by rw [IntKind.wrap_u64]; omega
        have i0 : (0 : Int) ≤ (i : Int) := by omega
        have i1 : (i : Int) < (np : Int) := by omega
        have k4 := kcell HB.out p4
        clear hab ha hbp hv hv64 hc hsl hr1 hr2
        subst hA
        go_upto_region 11 with fail
        obtain ⟨w5, hw5⟩ : ∃ w5, w5 = wr.alloc (.cells #[.int .i64 (a : Int), .int .u64 (bp : Int)] 332) := ⟨_, rfl⟩
        have hb5 : Below wr.heap.size wr w5 := by rw [hw5]; exact (Below.refl _ _).alloc (Nat.le_refl _) _
        have d0 : w5.cell? ⟨wr.heap.size, 0, none⟩ = some (.int .i64 (a : Int)) := by rw [hw5, Lib.cell_of_heap (heap_alloc_new _ _)]; rfl
        have d1 : w5.cell? ⟨wr.heap.size, 1, none⟩ = some (.int .u64 (bp : Int)) := by rw [hw5, Lib.cell_of_heap (heap_alloc_new _ _)]; rfl
        have k4' := kcell hb5 k4
        rw [← hw5]
        have HO5 := Lib.hid (ownU_of (HO.out.keepB hb5)).drew; have HB5 := Lib.hid (HB.out.trans (hb5.mono HB.out.size)).drew
        clear c0 c1 k4 hw5 hb5
        go_region_law (first
          | (refine step_apl1d (T := tU64) elemU64 w5 w4 rfl (.tmp 67) (.tmp 77) rfl w4.heap.size A2 i c2 _ rfl (fun _ => False) (fun _ => False) HO5.out HB5.out (Nat.le_refl _) _ rfl [.int .u64 (v : Int)] v ⟨rfl, HV64.out⟩ 112 (by rw [HOR.out]) (fun _ _ _ _ h => h) (by omega) ?_; intro A6 c6 w6 h6
             have HA6 := Lib.hid (ownU_of h6.own); have HB6 := Lib.hid h6.below
             clear h6)
          | fail)
        all_goals
          go_wp2_with fail
          go_roundw
          case rel => exact ⟨i + 1, A6, c6, by omega, by go_num, rfl, by rw [HTK.out]; exact HA6.out, HB6.out⟩
          case measure => simp [intOf]; omega
      · obtain rfl : np = i := by omega
        have hfin : both.take np = both := List.take_of_length_le (by rw [HBOTH.out, List.length_map, ← HNP.out]; exact Nat.le_refl _)
        rw [hfin] at HO
        have HW := Lib.hid (HPP.out.keep HB.out)
        have hbsl := HO.out.sl.any
        have hnp31 : np ≤ 31 := by rw [HNP.out]; exact hp31
        have HBL := Lib.hid hbsl
        have hwb := HB.out.size
        have HBW := Lib.hid hwb
        have hbz : ∀ x ∈ both, x < 2 ^ z := fun x hx => by
          rw [HBOTH.out] at hx
          obtain ⟨y, hy, rfl⟩ := List.mem_map.1 hx
          obtain ⟨cs, hcs⟩ := HPP.out.ps.all y hy
          have h3 := HPQ.out y hy hcs.2.1 hcs.2.2
          exact Nat.lt_of_lt_of_le (pair_lt h3.1 h3.2) (Nat.pow_le_pow_right (by decide) hz1.1)
        have HBZ := Lib.hid hbz
        obtain ⟨q0, q1, q2, q3, q4⟩ := HW.out.cells
        have HSUM := Lib.hid (show (g : Int) + (q : Int) = ((g + q : Nat) : Int) by omega)
        clear hfin HO HB HPP p0 p1 p2 p3 p4 hbsl hbz hwb hlt HPQ
        go_upto_region 14 with (first
          | (go_at_call 285; refine (pack_any _ Al n cl low _ HW.out.low (by omega) k (by omega) HLOWS.out).mono ?_; rintro e w6 ⟨A6, s6, c6, rfl, ho6, hb6⟩; have HO6 := Lib.hid ho6.bs.any; have HW6 := Lib.hid (HW.out.keep hb6); have HBL6 := Lib.hid (HBL.out.below hb6 (Nat.le_refl _)); clear ho6 hb6)
          | fail)
        clear q0 q1 q2 q3 q4
        obtain ⟨q0, q1, q2, q3, q4⟩ := HW6.out.cells
        go_upto_region 17 with (first
          | (go_at_call 283; rw [HSUM.out]; refine (wclose_any (g + q) hgq _).mono ?_; rintro e w7 ⟨rfl, hb7⟩; rw [← HZ.out]; have HO7 := Lib.hid (HO6.out.below hb7 (Nat.le_refl _)); have HW7 := Lib.hid (HW6.out.keep hb7); have HBL7 := Lib.hid (HBL6.out.below hb7 (Nat.le_refl _)); clear hb7)
          | (go_at_call 285; refine (pack_any _ A2 np c2 both _ HBL7.out (by omega) z hz2 HBZ.out).mono ?_; rintro e w9 ⟨A9, s9, c9, rfl, ho9, hb9⟩; have HO9 := Lib.hid ho9.bs.any; have HW9 := Lib.hid (HW7.out.keep hb9); have HP9 := Lib.hid (HO7.out.below hb9 (Nat.le_refl _)); clear ho9 hb9)
          | fail)
        clear q0 q1 q2 q3 q4 HW HW6 HW7 HO6 HO7 HBL HBL6 HBL7
        obtain ⟨q0, q1, q2, q3, q4⟩ := HW9.out.cells
        have HS3 := Lib.hid HW9.out.base.len
        go_region_held3 (fun w' => w'.cell? ⟨r8, 2, none⟩ = some (.slice Ap np cp) ∧ w'.cell? ⟨r8, 3, none⟩ = some (.int .i64 (g : Int)) ∧ w'.cell? ⟨r8, 4, none⟩ = some (.int .i64 (q : Int)))
          (first | exact ⟨q2, q3, q4⟩ | exact ⟨kcell (W := w9.drew) hb10 q2, kcell (W := w9.drew) hb10 q3, kcell (W := w9.drew) hb10 q4⟩ | go_keep)
          (first
            | (go_at_call 287; refine (wcode_any (q : Int) _).mono ?_; rintro e w10 ⟨rfl, hb10⟩; rw [HQC.out.1])
            | fail)
        have he1 := byte_join s3 (codeN q) (by have := HS3.out; have := HB9.out; omega) (by have := HS3.out; have := HB9.out; omega) (by have := HQC.out.2; omega)
        rw [HS3.out, ← HY1.out, ← HS3.out] at he1
        have he2 := byte_join g np (by have := HG1.out; omega) (by omega) (by omega)
        rw [HNP.out, ← HY2.out, ← HNP.out] at he2
        rw [he1, he2]
        have HW10 := Lib.hid (HW9.out.drew.keep hb10)
        have HP10 := Lib.hid (HP9.out.drew.below hb10 (Nat.le_refl _))
        have HO10 := Lib.hid (HO9.out.drew.below hb10 (Nat.le_refl _))
        obtain ⟨w11, hw11⟩ : ∃ w11, w11 = w10.alloc (.cells #[.int .u8 ((y1.toNat : Nat) : Int), .int .u8 ((y2.toNat : Nat) : Int)] 5) := ⟨_, rfl⟩
        have hb11 : Below w10.heap.size w10 w11 := by rw [hw11]; exact (Below.refl _ _).alloc (Nat.le_refl _) _
        have hy : OwnB w11 w10.heap.size (some ⟨w10.heap.size, 0, none⟩) 2 2 [y1, y2] := by rw [hw11]; exact World.ownsRow_lit w10 #[.int .u8 ((y1.toNat : Nat) : Int), .int .u8 ((y2.toNat : Nat) : Int)] 2 (Nat.le_refl _) (by simp [maxLen]) rfl
        have HYS := Lib.hid hy.bs.any
        have HW11 := Lib.hid (HW10.out.keep hb11)
        have HP11 := Lib.hid (HP10.out.below hb11 (Nat.le_refl _))
        have HO11 := Lib.hid (HO10.out.below hb11 (Nat.le_refl _))
        rw [← hw11]
        clear hw11 hb11 hy he1 he2 hb10 q0 q1 q2 q3 q4 HW9 HW10 HP9 HP10 HO9 HO10
        go_wp2_with (first
          | (go_at_call 287; refine (wcode_any (k : Int) _).mono ?_; rintro e w12 ⟨rfl, hb12⟩; rw [HKC.out]; have HW12 := Lib.hid (HW11.out.keep hb12); have HP12 := Lib.hid (HP11.out.below hb12 (Nat.le_refl _)); have HO12 := Lib.hid (HO11.out.below hb12 (Nat.le_refl _)); have HY12 := Lib.hid (HYS.out.below hb12 (Nat.le_refl _)); clear hb12)
          | (go_at_call 286; refine (head_any 2 (codeN k) n (by omega) HCK.out hn1 hn _).mono ?_; rintro e w13 ⟨A13, n13, c13, rfl, ho13, hb13⟩
             have HSS := Lib.hid (sl5 ho13.bs (HY12.out.below hb13 (Nat.le_refl _)) (HW12.out.keep hb13).base (HP12.out.below hb13 (Nat.le_refl _)) (HO12.out.below hb13 (Nat.le_refl _)) 41)
             have HW13 := Lib.hid (HW12.out.keep hb13)
             have HN := Lib.hid (show [headB 2 (codeN k) n, [y1, y2], bs, pack k low, pack z both].flatten.length ≤ 4294967296 by have h1 := packSize_le low.length k (by omega); have h2 := HW12.out.low.len; have h3 := packSize_le both.length z hz2; have h4 := HBLEN.out; have h5 := HB9.out; simp [pack_len, headB]; omega)
             clear ho13 hb13)
          | (go_at_call 224; refine (concatB_any (T := tU8) elemBytes (fun _ => True) _ _ _ [headB 2 (codeN k) n, [y1, y2], bs, pack k low, pack z both] _ HSS.out (by omega) HN.out).mono ?_; rintro e w14 ⟨A14, n14, c14, rfl, ho14, hb14⟩; have HO14 := Lib.hid ho14; have HB14 := Lib.hid hb14; clear ho14 hb14)
          | fail)
        go_ret2
        have b13 := HW13.out.below
        have b14 := b13.alloc b13.size (.cells #[.slice A13 n13 c13, .slice (some ⟨w10.heap.size, 0, none⟩) 2 2, .slice (some ⟨A3, 0, none⟩) s3 c3, .slice A6 s6 c6, .slice A9 s9 c9] 41)
        have hc14 := b14.size
        rw [HDEL.out]
        refine ⟨b14.trans (HB14.out.mono hc14), A14, n14, c14, rfl, ?_⟩
        have := own_u8 (HO14.out.down hc14)
        simpa using this
theorem pput_any (F : Nat → Prop) (A : Option Addr) (n c : Nat) (l : List Int) (w : World) (h : Sl tI64 F w A n c l) (hn1 : 1 ≤ n) (hn : n ≤ 512) (sg : Bool) (hl : NumOk sg l) (k : Nat) (hk : k ≤ 63) (hkc : wCode (k : Int) = ((codeN k : Nat) : Int)) :
    Calls Tryz.prog 249 #[.slice A n c, .int .i64 (k : Int), .bool sg] w (RunPost (patB k l) w) := by
  by_cases hf : patFits k l = true
  · exact pput_some F A n c l w h hn1 hn sg hl k hk hkc hf
  · have hf2 : patFits k l = false := by simpa using hf
    have he : patB k l = none := by unfold patB; dsimp only; rw [hf2, if_neg (by simp)]
    rw [he]
    exact pput_none F A n c l w h hn1 hn sg hl k hk hkc hf2
end Go.Proofs.YtpmglcachffojaaGreatDoor
