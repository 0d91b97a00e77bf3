/- A part of what Puts leans on. -/
import Derived.Test.YtpmglcachffojaaGreatDoorZ29
import Derived.Test.YtpmglcachffojaaGreatDoorZ32
set_option maxRecDepth 100000
set_option maxHeartbeats 16000000
namespace Go.Proofs.YtpmglcachffojaaGreatDoor
section
open Go Go.RowKit
theorem zqN (a b : ByteArray) : ltS a b = true ↔ sb a < sb b := by
 unfold ltS
 rw [bytesLess_eq, ByteArray.toList_eq, ByteArray.toList_eq]
 exact decide_eq_true_iff
theorem ltS_eq {a b : ByteArray} (h1 : ltS a b = false) (h2 : ltS b a = false) : a = b := by
 by_cases h : sb a = sb b
 · exact sb_inj h
 · rcases lt_tri _ _ h with h | h
   · rw [(zqN a b).2 h] at h1; cases h1
   · rw [(zqN b a).2 h] at h2; cases h2
theorem qz3 {a b : ByteArray} (h : ltS a b = true) : ¬ a = b := fun e => by
 subst e; exact kqt _ ((zqN a a).1 h)
theorem nan_i (x : Int) (w : World) : Calls Tryz.prog 305 #[.int .i64 x] w fun e w' => e = .returned (.bool false) ∧ w = w' := by
 have hx : (x != x) = false := by simp
 go_enter Tryz.func305, Tryz.ntmps305
 go_wp2_with fail
 go_ret
 exact ⟨by simp, rfl⟩
theorem nan_s (x : ByteArray) (w : World) : Calls Tryz.prog 306 #[.string x] w fun e w' => e = .returned (.bool false) ∧ w = w' := by
 go_enter Tryz.func306, Tryz.ntmps306
 go_wp2_with fail
 go_ret
 exact ⟨by simp, rfl⟩
theorem cmpI_any (x y : Int) (w : World) : Calls Tryz.prog 268 #[.int .i64 x, .int .i64 y] w fun e w' => e = .returned (.int .i64 (icmp x y)) ∧ w = w' := by
 obtain ⟨q, hq⟩ : ∃ q, q = icmp x y := ⟨_, rfl⟩
 rw [← hq]
 unfold icmp at hq
 by_cases h1 : x < y
 · obtain rfl : q = -1 := by rw [hq, if_pos h1]
   clear hq
   go_enter Tryz.func268, Tryz.ntmps268
   go_wp2_with (first
    | (go_at_call 305; refine (nan_i _ _).mono ?_; rintro e w' ⟨rfl, rfl⟩)
    | fail)
   go_ret
   exact ⟨rfl, rfl⟩
 · by_cases h2 : y < x
   · obtain rfl : q = 1 := by rw [hq, if_neg h1, if_pos h2]
     have h3 : x > y := h2
     clear hq
     go_enter Tryz.func268, Tryz.ntmps268
     go_wp2_with (first
      | (go_at_call 305; refine (nan_i _ _).mono ?_; rintro e w' ⟨rfl, rfl⟩)
      | fail)
     go_ret
     exact ⟨rfl, rfl⟩
   · obtain rfl : q = 0 := by rw [hq, if_neg h1, if_neg h2]
     have h3 : ¬ x > y := h2
     clear hq
     go_enter Tryz.func268, Tryz.ntmps268
     go_wp2_with (first
      | (go_at_call 305; refine (nan_i _ _).mono ?_; rintro e w' ⟨rfl, rfl⟩)
      | fail)
     go_ret
     exact ⟨rfl, rfl⟩
theorem cmpS_any (x y : ByteArray) (w : World) : Calls Tryz.prog 269 #[.string x, .string y] w fun e w' => e = .returned (.int .i64 (scmp x y)) ∧ w = w' := by
 obtain ⟨q, hq⟩ : ∃ q, q = scmp x y := ⟨_, rfl⟩
 rw [← hq]
 unfold scmp at hq
 cases h1 : ltS x y
 · rw [h1] at hq
   cases h2 : ltS y x
   · rw [h2] at hq
     obtain rfl : q = 0 := hq
     obtain rfl := ltS_eq h1 h2
     have h3 : Op.bytesLess x.toList x.toList = false := h1
     clear h1 h2
     go_enter Tryz.func269, Tryz.ntmps269
     go_wp2_with (first
      | (go_at_call 306; refine (nan_s _ _).mono ?_; rintro e w' ⟨rfl, rfl⟩)
      | fail)
     go_ret
     exact ⟨rfl, rfl⟩
   · rw [h2] at hq
     obtain rfl : q = 1 := hq
     have h3 : Op.bytesLess x.toList y.toList = false := h1
     have h4 : (x.toList == y.toList) = false := (jjQ (fun e => qz3 h2 e.symm)).1
     clear h1 h2
     go_enter Tryz.func269, Tryz.ntmps269
     go_wp2_with (first
      | (go_at_call 306; refine (nan_s _ _).mono ?_; rintro e w' ⟨rfl, rfl⟩)
      | fail)
     go_ret
     exact ⟨rfl, rfl⟩
 · rw [h1] at hq
   obtain rfl : q = -1 := hq
   have h3 : Op.bytesLess x.toList y.toList = true := h1
   clear h1
   go_enter Tryz.func269, Tryz.ntmps269
   go_wp2_with (first
    | (go_at_call 306; refine (nan_s _ _).mono ?_; rintro e w' ⟨rfl, rfl⟩)
    | fail)
   go_ret
   exact ⟨rfl, rfl⟩
theorem or2_any (F : Nat → Prop) (A : Option Addr) (c : Nat) (x y : Int) (w : World) (h : Sl tI64 F w A 2 c [x, y]) :
 Calls Tryz.prog 267 #[.slice A 2 c] w fun e w' => e = .returned (.int .i64 (if x = 0 then y else x)) ∧ w = w' := by
 obtain ⟨b, o, u, rfl, _, _, hr, hc0⟩ := h.at1 (k := 0) (by simp) rfl
 obtain ⟨b', o', u', e1, _, _, hr', hc1⟩ := h.at1 (k := 1) (by simp) rfl
 cases e1
 obtain ⟨hr, _⟩ := hr
 injection hr with hr; subst hr
 obtain ⟨hr', _⟩ := hr'
 injection hr' with hr'; subst hr'
 have hc0 : w.cell? ⟨b, o, none⟩ = some (.int .i64 x) := hc0
 have hc1 : w.cell? ⟨b, o + 1, none⟩ = some (.int .i64 y) := hc1
 have H0 := zH hc0; have H1 := zH hc1
 clear h hc0 hc1
 go_enter Tryz.func267, Tryz.ntmps267
 go_wp2_with fail
 go_loopw [5, 8] (fun v iv wr => ∃ i : Nat, i ≤ 2 ∧ iv = .int .i64 (i : Int) ∧ (1 ≤ i → x = 0) ∧ (2 ≤ i → y = 0) ∧ w = wr) (fun _ iv _ => 2 - (intOf iv).toNat)
 case atStart => exact ⟨0, by omega, rfl, by omega, by omega, rfl⟩
 case round =>
  obtain ⟨i, hi, rfl, hx, hy, rfl⟩ := hrel
  have hc0 := H0.out; have hc1 := H1.out
  rcases Nat.lt_or_ge i 1 with h0 | h0
  · obtain rfl : i = 0 := by omega
    by_cases hx0 : x = 0
    · subst hx0
      clear hx hy
      go_wp2_with fail
      go_roundw
      case rel => exact ⟨1, by omega, by rfl, by simp, by omega, trivial⟩
      case measure => simp [intOf]
    · have hb := bne_y hx0
      clear hx hy
      go_wp2_with fail
      go_ret
      exact ⟨rfl, rfl⟩
  · obtain rfl : x = 0 := hx h0
    rcases Nat.lt_or_ge i 2 with h1 | h1
    · obtain rfl : i = 1 := by omega
      by_cases hy0 : y = 0
      · subst hy0
        clear hx hy
        go_wp2_with fail
        go_roundw
        case rel => exact ⟨2, by omega, by rfl, by simp, by simp, trivial⟩
        case measure => simp [intOf]
      · have hb := bne_y hy0
        clear hx hy
        go_wp2_with fail
        go_ret
        exact ⟨rfl, rfl⟩
    · obtain rfl : i = 2 := by omega
      obtain rfl : y = 0 := hy h1
      clear hx hy
      go_wp2_with fail
      go_ret
      exact ⟨rfl, rfl⟩
theorem qz4 (a b : VV) (h : a.null = b.null) : vcmp a b = if icmp a.n b.n = 0 then scmp a.s b.s else icmp a.n b.n := by
 unfold vcmp
 rw [h, if_neg (by cases b.null <;> decide), if_neg (by cases b.null <;> decide)]
theorem kqv (a b : ByteArray) : scmp a b = -1 ∨ scmp a b = 0 ∨ scmp a b = 1 := by
 unfold scmp; split
 · exact .inl rfl
 · split
   · exact .inr (.inr rfl)
   · exact .inr (.inl rfl)
theorem kqw (a b : Int) : icmp a b = -1 ∨ icmp a b = 0 ∨ icmp a b = 1 := by
 unfold icmp; split
 · exact .inl rfl
 · split
   · exact .inr (.inr rfl)
   · exact .inr (.inl rfl)
theorem xqm (a b : VV) : vcmp a b = -1 ∨ vcmp a b = 0 ∨ vcmp a b = 1 := by
 unfold vcmp; split
 · exact .inl rfl
 · split
   · exact .inr (.inr rfl)
   · split
     · exact kqv _ _
     · exact kqw _ _
structure Box2 (w : World) (a b : VV) (w2 : World) : Prop where
 eq : w2 = (w.alloc (.cells #[.bool a.null, .int .i64 a.n, .string a.s] 74)).alloc (.cells #[.bool b.null, .int .i64 b.n, .string b.s] 74)
 below : Below w.heap.size w w2
 a0 : w2.cell? ⟨w.heap.size, 0, none⟩ = some (.bool a.null)
 a1 : w2.cell? ⟨w.heap.size, 1, none⟩ = some (.int .i64 a.n)
 a2 : w2.cell? ⟨w.heap.size, 2, none⟩ = some (.string a.s)
 b0 : w2.cell? ⟨w.heap.size + 1, 0, none⟩ = some (.bool b.null)
 b1 : w2.cell? ⟨w.heap.size + 1, 1, none⟩ = some (.int .i64 b.n)
 b2 : w2.cell? ⟨w.heap.size + 1, 2, none⟩ = some (.string b.s)
theorem box2 (w : World) (a b : VV) : ∃ w2, Box2 w a b w2 := by
 have h1 : ((w.alloc (.cells #[.bool a.null, .int .i64 a.n, .string a.s] 74)).alloc (.cells #[.bool b.null, .int .i64 b.n, .string b.s] 74)).heap[w.heap.size]? = some (.cells #[.bool a.null, .int .i64 a.n, .string a.s] 74 (0, 0)) := (Below.heap_alloc _ _ _ (by simp)).trans (heap_alloc_new w _)
 have h2 := heap_alloc_new (w.alloc (.cells #[.bool a.null, .int .i64 a.n, .string a.s] 74)) (.cells #[.bool b.null, .int .i64 b.n, .string b.s] 74)
 rw [zS] at h2
 refine ⟨_, rfl, ((zR).alloc zN _).alloc (by simp) _, ?_, ?_, ?_, ?_, ?_, ?_⟩
 · rw [zC h1]; rfl
 · rw [zC h1]; rfl
 · rw [zC h1]; rfl
 · rw [zC h2]; rfl
 · rw [zC h2]; rfl
 · rw [zC h2]; rfl
theorem zqO (a b : VV) (w : World) :
 Calls Tryz.prog 221 #[.agg #[.bool a.null, .int .i64 a.n, .string a.s], .agg #[.bool b.null, .int .i64 b.n, .string b.s]] w fun e w' => e = .returned (.int .i64 (vcmp a b)) ∧ Below w.heap.size w w' := by
 obtain ⟨q, hq⟩ : ∃ q, q = vcmp a b := ⟨_, rfl⟩
 rw [← hq]
 obtain ⟨w2, hw2⟩ := box2 w a b
 have HW := zH hw2.eq; have HB := zH hw2.below
 obtain ⟨-, -, a0, a1, a2, b0, b1, b2⟩ := hw2
 by_cases hne : a.null = b.null
 · rw [qz4 a b hne] at hq
   obtain ⟨an, ai, sa⟩ := a
   obtain ⟨bn, bi, sb'⟩ := b
   obtain rfl : an = bn := hne
   have A0 : w2.cell? ⟨w.heap.size, 0, none⟩ = some (.bool an) := a0
   have A1 : w2.cell? ⟨w.heap.size, 1, none⟩ = some (.int .i64 ai) := a1
   have A2 : w2.cell? ⟨w.heap.size, 2, none⟩ = some (.string sa) := a2
   have B0 : w2.cell? ⟨w.heap.size + 1, 0, none⟩ = some (.bool an) := b0
   have B1 : w2.cell? ⟨w.heap.size + 1, 1, none⟩ = some (.int .i64 bi) := b1
   have B2 : w2.cell? ⟨w.heap.size + 1, 2, none⟩ = some (.string sb') := b2
   dsimp only at hq HW
   have HQ := zH hq
   clear hq a0 a1 a2 b0 b1 b2
   cases an
   all_goals
    go_enter Tryz.func221, Tryz.ntmps221
    go_upto_region 1 with fail
    rw [← HW.out]
    go_wp2_with fail
    refine wp_region_still_tail 10 (by kernel_rfl) (by kernel_rfl) ?_
    simp only [List.take_succ_cons, List.take_zero, List.drop_succ_cons, List.drop_zero]
    repeat (first | still_call ((cmpI_any ai bi _).mono fun _ _ h => ⟨h.1, h.2.symm⟩) | still_call ((cmpS_any sa sb' _).mono fun _ _ h => ⟨h.1, h.2.symm⟩) | still_step)
    refine wpStill_nil ?_
    change wpList _ _ _ _ _ w2.drew
    obtain ⟨wd, hwd⟩ : ∃ wd : World, wd = w2.drew := ⟨_, rfl⟩
    have hdr : Below w2.heap.size w2 wd := by rw [hwd]; exact (zR).drew
    have HDR := zH hdr
    rw [← hwd]
    clear hwd hdr
    obtain ⟨x, hx⟩ : ∃ x, x = icmp ai bi := ⟨_, rfl⟩
    obtain ⟨y, hy⟩ : ∃ y, y = scmp sa sb' := ⟨_, rfl⟩
    have hx1 : i64 x := by rw [hx]; unfold i64; rcases kqw ai bi with h | h | h <;> omega
    have hy1 : i64 y := by rw [hy]; unfold i64; rcases kqv sa sb' with h | h | h <;> omega
    have HS := zH (Sl.news (T := tI64) (F := fun _ => True) (w := wd) (Reps.mk2 (T := tI64) (x1 := x) (x2 := y) ⟨rfl, hx1⟩ ⟨rfl, hy1⟩) 3 2 rfl (by omega) _ rfl)
    rw [← hx, ← hy] at HQ
    rw [← hx, ← hy]
    clear hx hy hx1 hy1
    go_wp2_with (first
     | (go_at_call 267; refine (or2_any _ _ _ x y _ HS.out).mono ?_; rintro e w5 ⟨rfl, rfl⟩; rw [← HQ.out])
     | fail)
    go_ret
    exact ⟨rfl, HB.out.trans ((HDR.out.alloc HDR.out.size _).mono HB.out.size)⟩
 · obtain ⟨an, ai, sa⟩ := a
   obtain ⟨bn, bi, sb'⟩ := b
   have A0 : w2.cell? ⟨w.heap.size, 0, none⟩ = some (.bool an) := a0
   have B0 : w2.cell? ⟨w.heap.size + 1, 0, none⟩ = some (.bool bn) := b0
   unfold vcmp at hq
   dsimp only at hq HW hne
   clear a0 a1 a2 b0 b1 b2
   cases an
   · obtain rfl : bn = true := by cases bn <;> simp_all
     obtain rfl : q = 1 := hq
     clear hne
     go_enter Tryz.func221, Tryz.ntmps221
     go_upto_region 1 with fail
     rw [← HW.out]
     go_wp2_with fail
     go_ret
     exact ⟨rfl, HB.out⟩
   · obtain rfl : bn = false := by cases bn <;> simp_all
     obtain rfl : q = -1 := hq
     clear hne
     go_enter Tryz.func221, Tryz.ntmps221
     go_upto_region 1 with fail
     rw [← HW.out]
     go_wp2_with fail
     go_ret
     exact ⟨rfl, HB.out⟩
end
section
open Go Go.RowKit
theorem vvs : OneT tStr (fun s => .string s) (fun s => s.size ≤ maxLen) := ⟨rfl, fun _ _ _ _ => Iff.rfl⟩
def OwnW (w : World) (B : Nat) (A : Option Addr) (n c : Nat) (l : List ByteArray) : Prop := OwnF tStr 9 (fun _ => False) w B A n c l
theorem str_gt {x s : ByteArray} (h : sb s < sb x) : Op.bytesLess x.toList s.toList = false ∧ (x.toList == s.toList) = false := by
 constructor
 · rw [bytesLess_eq, ByteArray.toList_eq, ByteArray.toList_eq]
   exact decide_eq_false fun h2 => kqt _ (lt_tr h h2)
 · exact (jjQ (fun e => by rw [e] at h; exact kqt _ h)).1
theorem str_lt {x s : ByteArray} (h : sb x < sb s) : Op.bytesLess x.toList s.toList = true := by
 rw [bytesLess_eq, ByteArray.toList_eq, ByteArray.toList_eq]
 exact decide_eq_true h
theorem xqq (F : Nat → Prop) (A : Option Addr) (n c : Nat) (l : List ByteArray) (w : World) (h : Sl tStr F w A n c l) (hn : n ≤ 4096) :
 Calls Tryz.prog 107 #[.slice A n c] w fun e w' => ∃ A' c', e = .returned (.slice A' (zzF l).length c') ∧ OwnW w' w.heap.size A' (zzF l).length c' (zzi l) ∧ Below w.heap.size w w' := by
 have HH := zH h; have HL := zH h.len
 have HO0 := zH (show OwnW (w.alloc (.cells #[] 9)) w.heap.size (some ⟨w.heap.size, 0, none⟩) 0 0 [] from OwnF.empty tStr _ _ w _ zN (fun _ hb => hb.elim))
 have HB0 : Hid (Below w.heap.size w (w.alloc (.cells #[] 9))) := zH ((zR).alloc zN _)
 clear h
 go_enter Tryz.func107, Tryz.ntmps107
 go_wp2_with fail
 go_loopw [3, 4] (fun ov iv wr => ∃ (i m : Nat) (A2 : Option Addr) (c2 : Nat) (ws : List ByteArray), i ≤ n ∧ m ≤ i ∧ iv = .int .i64 (i : Int) ∧ ov = .slice A2 m c2 ∧ OwnW wr w.heap.size A2 m c2 ws ∧ Below w.heap.size w wr ∧ Hid (qzb ws ∧ ∀ x, x ∈ ws ↔ x ∈ l.take i)) (fun _ iv _ => n - (intOf iv).toNat)
 case atStart => exact ⟨0, 0, _, 0, [], Nat.zero_le _, Nat.zero_le _, rfl, rfl, HO0.out, HB0.out, zH ⟨List.Pairwise.nil, by simp⟩⟩
 case round =>
  obtain ⟨i, m, A2, c2, ws, hi, hmi, rfl, rfl, ho, hb, HW⟩ := hrel
  have HO := zH ho; have HB := zH hb; have HM := zH (OwnF.len ho)
  clear ho hb
  by_cases hlt : i < n
  · have hil : i < l.length := by rw [← HL.out]; exact hlt
    obtain ⟨b, o, u, rfl, _, hbl, hr, hc0⟩ := HH.out.at1 hil rfl
    obtain ⟨s, hs⟩ : ∃ s, s = l[i] := ⟨_, rfl⟩
    obtain ⟨hr, hsz⟩ := hr
    injection hr with hr; subst hr
    rw [← hs] at hc0 hsz
    have HC0 := zH hc0
    have cl := zze HB.out hc0
    have HTK := zH (show l.take (i + 1) = l.take i ++ [s] by rw [zT hil, hs])
    have hi0 : (0 : Int) ≤ (i : Int) := by omega
    have hi1 : (i : Int) < (n : Int) := by omega
    have HSZ := zH hsz
    have hm4 : m ≤ 4096 := by omega
    clear hs hc0 hsz
    by_cases hmem : s ∈ ws
    · have HMEM : Hid (∀ x, x ∈ ws ↔ x ∈ l.take (i + 1)) := zH (fun x => by
       rw [HTK.out, List.mem_append, List.mem_singleton, ← HW.out.2]
       exact ⟨.inl, fun h => h.elim id (fun e => e ▸ hmem)⟩)
      have HPL : Hid (∀ r, zqL ws s r → (0 : Int) ≤ r) := zH (fun r hr => by
       rcases hr with ⟨_, hr⟩ | ⟨j, _, rfl, _⟩
       · obtain ⟨j, hj, e⟩ := List.getElem_of_mem hmem
         exact absurd e (hr j hj)
       · omega)
      clear hmem
      go_wp2_with (first
       | (go_at_call 109; refine (uuu _ A2 m c2 ws _ (OwnF.sl HO.out) s hm4).mono ?_; rintro e w1 ⟨⟨r, rfl, hpl⟩, rfl⟩; have hr0 := HPL.out r hpl; have hr1 : r ≥ 0 := hr0; clear hpl)
       | fail)
      go_roundw
      case rel => exact ⟨i + 1, m, A2, c2, ws, by omega, by omega, by go_num, rfl, HO.out, HB.out, zH ⟨HW.out.1, HMEM.out⟩⟩
      case measure => simp [intOf]; omega
    · have HPL : Hid (∀ r, zqL ws s r → r = -1) := zH (fun r hr => by
       rcases hr with ⟨hr, _⟩ | ⟨j, hj, _, e⟩
       · exact hr
       · exact absurd (e ▸ List.getElem_mem hj) hmem)
      have HNE := zH hmem
      clear hmem
      go_upto_region 6 with (first
       | (go_at_call 109; refine (uuu _ A2 m c2 ws _ (OwnF.sl HO.out) s hm4).mono ?_; rintro e w1 ⟨⟨r, rfl, hpl⟩, rfl⟩; obtain rfl : r = -1 := HPL.out r hpl; clear hpl)
       | fail)
      go_upto_region 7 with (first
       | (at_builtin; refine apl1 (T := tStr) kq0 wr w rfl (.tmp 20) (.tmp 25) rfl w.heap.size A2 m c2 ws (by rfl) (fun _ => False) (fun _ => False) HO.out HB.out zN _ (by rfl) [.string s] s ⟨rfl, HSZ.out⟩ 9 rfl (fun _ _ _ _ h4 => h4) (by omega) ?_; intro A3 c3 w3 h3)
       | fail)
      have ho3 : OwnW w3 w.heap.size A3 (m + 1) c3 (yyo ws s m) := by
       have h4 := h3.own.flat flatStr
       rw [HM.out, insAt_end, ← HM.out]; exact h4
      have HB3 := zH h3.below
      obtain ⟨g, rfl⟩ := OwnF.some1 vvs ho3 (by intro e; have := congrArg List.length e; rw [jjR (by rw [HM.out]; exact Nat.le_refl _)] at this; simp at this)
      have HO3 := zH ho3
      clear h3 ho3 cl
      have zm : ((m : Int) + 1) - 1 = (m : Int) := by omega
      go_wp2_with fail
      go_loopw [5] (fun kv wq => ∃ (k : Nat), k ≤ m ∧ kv = .int .i64 (k : Int) ∧ OwnW wq w.heap.size (some ⟨g, 0, none⟩) (m + 1) c3 (yyo ws s k) ∧ Below w.heap.size w wq ∧ Hid (∀ j (_ : j < ws.length), k ≤ j → sb s < sb ws[j])) (fun kv _ => (intOf kv).toNat)
      case atStart => exact ⟨m, Nat.le_refl _, by go_num, HO3.out, HB3.out, zH (fun j hj hk => by have := HM.out; omega)⟩
      case round =>
       obtain ⟨k, hk, rfl, ho, hb, HJ⟩ := hrel
       have HQ := zH ho; have HBQ := zH hb
       have cl := zze hb HC0.out
       clear ho hb
       have HEND : Hid ((k = 0 ∨ ∃ p, ∃ hp : p < ws.length, k = p + 1 ∧ sb ws[p] < sb s) → Hid (qzb (yyo ws s k) ∧ ∀ x, x ∈ yyo ws s k ↔ x ∈ l.take (i + 1))) := zH (fun h => zH ⟨rise_ins HW.out.1 (by rw [← HM.out]; exact hk) h HJ.out, fun x => by
        rw [mem_ins, HTK.out, List.mem_append, List.mem_singleton, HW.out.2]⟩)
       by_cases hk0 : k = 0
       · have HE := HEND.out (.inl hk0)
         subst hk0
         clear HEND
         go_wp2_with fail
         go_quiet (fail)
         go_wp2_with fail
         go_roundw
         case rel => exact ⟨i + 1, m + 1, _, c3, yyo ws s 0, by omega, by omega, by go_num, rfl, OwnF.drewN HQ.out _, zzA HBQ.out _, HE.out⟩
         case measure => simp [intOf]; omega
       · obtain ⟨p, hp⟩ : ∃ p, k = p + 1 := ⟨k - 1, by omega⟩
         have HPK := zH hp
         have zk : (k : Int) - 1 = (p : Int) := by omega
         have k0 : (k : Int) > 0 := by omega
         have kn : 0 < k := by omega
         have k0' : (0 : Int) < (k : Int) := k0
         have k1 : (k : Int) < (m : Int) + 1 := by omega
         have k2 : (0 : Int) ≤ (k : Int) := by omega
         have p0 : (0 : Int) ≤ (p : Int) := by omega
         have p1 : (p : Int) < (m : Int) + 1 := by omega
         have hpw : p < ws.length := by rw [← HM.out]; omega
         have hkw : k ≤ ws.length := by rw [← HM.out]; exact hk
         obtain ⟨x, hx⟩ : ∃ x, x = ws[p] := ⟨_, rfl⟩
         have hpi : p < (yyo ws s k).length := by rw [jjR hkw]; omega
         have cx : wr.cell? ⟨g, p, none⟩ = some (.string x) := by rw [OwnF.cell1 vvs HQ.out hpi, qxA (by omega) hkw hpi, hx]
         have hxs : x.size ≤ maxLen := by
          have := (OwnF.row1 vvs HQ.out).2 _ (List.getElem_mem hpi)
          rw [qxA (by omega) hkw hpi, ← hx] at this; exact this
         have hxne : sb x ≠ sb s := fun e => HNE.out (by rw [← sb_inj e, hx]; exact List.getElem_mem _)
         by_cases hgt : sb s < sb x
         · obtain ⟨e1, e2⟩ := str_gt hgt
           have HJ2 : Hid (∀ j (_ : j < ws.length), p ≤ j → sb s < sb ws[j]) := zH (fun j hj hpj => by
            by_cases hjp : j = p
            · subst hjp; rw [← hx]; exact hgt
            · exact HJ.out j hj (by omega))
           have HST := zH (show ((yyo ws s k).set k x).set p s = yyo ws s p by rw [hp, hx]; exact xqk hpw)
           have HXS := zH hxs
           have HIL := zH (jjR (s := s) hkw)
           clear HEND hx hxne hgt hpi hpw hkw hxs hp
           go_wp2_with fail
           go_quiet (fail)
           obtain ⟨wd, hwd⟩ : ∃ wd, wd = wr.drewN nq := ⟨_, rfl⟩
           have cx1 : wd.cell? ⟨g, p, none⟩ = some (.string x) := by rw [hwd]; exact cx
           have cl1 : wd.cell? ⟨b, o + i, none⟩ = some (.string s) := by rw [hwd]; exact cl
           have hqd : OwnW wd w.heap.size (some ⟨g, 0, none⟩) (m + 1) c3 (yyo ws s k) := by rw [hwd]; exact OwnF.drewN HQ.out nq
           have hbd : Below w.heap.size w wd := by rw [hwd]; exact zzA HBQ.out nq
           rw [← hwd]
           clear hwd cx cl e1 e2
           have ho1 := OwnF.set1 vvs hqd k x HXS.out
           have f0 : wd.frozen? ⟨g, k, none⟩ = false := OwnF.free1 vvs hqd k
           have hgB := (OwnF.base1 vvs hqd).1
           have hkl : k < (yyo ws s k).length := by rw [HIL.out, ← HM.out]; omega
           have hpl : p < ((yyo ws s k).set k x).length := by rw [List.length_set, HIL.out, ← HM.out]; omega
           obtain ⟨y0, hy0⟩ : ∃ y0, wd.cell? ⟨g, k, none⟩ = some y0 := ⟨_, OwnF.cell1 vvs hqd hkl⟩
           obtain ⟨y1, hy1⟩ : ∃ y1, (wd.setCell ⟨g, k, none⟩ (.string x)).cell? ⟨g, p, none⟩ = some y1 := ⟨_, OwnF.cell1 vvs ho1 hpl⟩
           have hb1 := zzf hbd hgB (j := k) (.string x)
           have f1 : (wd.setCell ⟨g, k, none⟩ (.string x)).frozen? ⟨g, p, none⟩ = false := OwnF.free1 vvs ho1 p
           have cl2 : (wd.setCell ⟨g, k, none⟩ (.string x)).cell? ⟨b, o + i, none⟩ = some (.string s) := zze hb1 HC0.out
           have ho2 := OwnF.set1 vvs ho1 p s HSZ.out
           rw [HST.out] at ho2
           have HO2 := zH ho2
           have HB2 := zH (zzf hb1 hgB (j := p) (.string s))
           clear ho1 ho2 hqd hbd hb1 hgB hkl hpl
           go_upto_region 11 with fail
           obtain ⟨w1, hw1⟩ : ∃ w1, w1 = wd.setCell ⟨g, k, none⟩ (.string x) := ⟨_, rfl⟩
           rw [← hw1] at HO2 HB2 f1 cl2 hy1 ⊢
           clear hw1 cx1 cl1 f0 hy0
           go_wp2_with fail
           go_roundw
           case rel => exact ⟨p, by omega, by go_num, HO2.out, HB2.out, HJ2⟩
           case measure => simp [intOf]; omega
         · have hlt2 : sb x < sb s := (lt_tri _ _ hxne).resolve_right hgt
           have e1 := str_lt hlt2
           have HE := HEND.out (.inr ⟨p, hpw, hp, by rw [← hx]; exact hlt2⟩)
           clear HEND hx hxne hgt hlt2 hpi hpw hkw hxs hp
           go_wp2_with fail
           go_quiet (fail)
           go_wp2_with fail
           go_roundw
           case rel => exact ⟨i + 1, m + 1, _, c3, yyo ws s k, by omega, by omega, by go_num, rfl, OwnF.drewN HQ.out _, zzA HBQ.out _, HE.out⟩
           case measure => simp [intOf]; omega
  · obtain rfl : i = n := by omega
    have hw : ws = zzi l := qxz HW.out.1 (xqj l) fun x => by
     rw [HW.out.2, kqu, HL.out, List.take_length]
    have hml : m = (zzF l).length := by rw [HM.out, hw, xql]
    rw [hw, hml] at HO
    have HML := zH hml
    clear hw hml
    go_wp2_with fail
    go_ret
    exact ⟨A2, c2, by rw [HML.out]; rfl, HO.out, HB.out⟩
end
end Go.Proofs.YtpmglcachffojaaGreatDoor
