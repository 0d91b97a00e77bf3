/- A part of what Puts leans on. -/
import Derived.Test.YtpmglcachffojaaGreatDoorZ10
import Derived.Test.YtpmglcachffojaaGreatDoorZ28
set_option maxRecDepth 100000
set_option maxHeartbeats 16000000
namespace Go.Proofs.YtpmglcachffojaaGreatDoor
section
open Go Go.RowKit
attribute [local go_sem ↓] Go.wp_at_zero Go.wp_at_succ
def u64n (x : Int) : Nat := (x % 18446744073709551616).toNat
theorem kq1 (x : Int) : IntKind.u64.wrap x = (u64n x : Int) := by rw [IntKind.wrap_u64]; unfold u64n; omega
theorem u64n_lt (x : Int) : u64n x < 18446744073709551616 := by unfold u64n; omega
def unum (tag x : Int) : Fld := fnum tag (u64n x)
def strF (s : Int × List UInt8) : List Fld := [unum 4 s.1, ftxt 5 s.2]
def zzW (m enc tx : Int) (ss : List (Int × List UInt8)) : List Fld := [unum 1 m, unum 2 enc, unum 3 tx] ++ (ss.map strF).flatten
def yyx (m enc tx : Int) (ss : List (Int × List UInt8)) : List UInt8 := qzt (dput (zzW m enc tx ss))
theorem jjL (m enc tx : Int) (ss : List (Int × List UInt8)) {k : Nat} (h : k < ss.length) : zzW m enc tx (ss.take (k + 1)) = zzW m enc tx (ss.take k) ++ strF ss[k] := by
 unfold zzW
 rw [zT h, List.map_append, List.flatten_append, List.append_assoc]
 simp
theorem kq2 : zzZ Tryz.prog 111 114 tFld.size := zzZ.mk' (bytes := 48) (z := .agg #[.int .i64 0, .bool false, .int .u64 0, .slice none 0 0]) (by kernel_rfl) (by kernel_rfl) rfl (by decide) (by decide)
theorem kq3 : zzZ Tryz.prog 119 120 tFld.size := zzZ.mk' (bytes := 48) (z := .agg #[.int .i64 0, .bool false, .int .u64 0, .slice none 0 0]) (by kernel_rfl) (by kernel_rfl) rfl (by decide) (by decide)
theorem zzX {F : Nat → Prop} {w : World} {tag x : Int} (h : i64 tag) : tFld.rep F w [.int .i64 tag, .bool false, .int .u64 (u64n x : Int), .slice none 0 0] (unum tag x) := ⟨none, 0, 0, rfl, h, u64n_lt x, Sl.nil_ _ _ _⟩
theorem OwnF.offNew {α : Type} {T : Ty α} {e : TypeId} {F : Nat → Prop} {w : World} {B : Nat} {A : Option Addr} {n c : Nat} {xs : List α} (h : OwnF T e F w B A n c xs) {p : Nat} (hp : w.heap.size ≤ p) : some p ≠ A.map (·.block) := by
 intro he
 obtain ⟨a, ha, hb⟩ := Option.map_eq_some_iff.1 he.symm
 have := (h.lies (b := a.block) (by rw [ha]; rfl)).2.2
 omega
theorem vvh (tag x : Int) (w : World) :
 Calls Tryz.prog 60 #[.int .i64 tag, .int .i64 x] w (qzP tag false (u64n x) none 0 0 w) := by
 have HU := zH (kq1 x)
 go_enter Tryz.func60, Tryz.ntmps60
 go_wp2
 exact bodyPost_ret (v := .agg #[.int .i64 tag, .bool false, .int .u64 (IntKind.u64.wrap x), .slice none 0 0]) (by simp [results, Tryz.results60, go_sem]) rfl ⟨by rw [HU.out], (Below.refl _ w).alloc zN _⟩
theorem kqp (tag : Int) (A : Option Addr) (n c : Nat) (w : World) :
 Calls Tryz.prog 61 #[.int .i64 tag, .slice A n c] w (qzP tag true 0 A n c w) := by
 go_enter Tryz.func61, Tryz.ntmps61
 go_wp2
 exact bodyPost_ret (v := .agg #[_, _, _, _]) (by simp [results, Tryz.results61, go_sem]) rfl ⟨rfl, (Below.refl _ w).alloc zN _⟩
theorem yyP (tag x : Int) (w : World) :
 Calls Tryz.prog 64 #[.int .i64 tag, .int .i64 x] w (qzP tag false (u64n x) none 0 0 w) := by
 have HU := zH (kq1 x)
 go_enter Tryz.func64, Tryz.ntmps64
 go_wp2
 exact bodyPost_ret (v := .agg #[.int .i64 tag, .bool false, .int .u64 (IntKind.u64.wrap x), .slice none 0 0]) (by simp [results, Tryz.results64, go_sem]) rfl ⟨by rw [HU.out], (Below.refl _ w).alloc zN _⟩
theorem jjM (tag : Int) (A : Option Addr) (n c : Nat) (w : World) :
 Calls Tryz.prog 65 #[.int .i64 tag, .slice A n c] w (qzP tag true 0 A n c w) := by
 go_enter Tryz.func65, Tryz.ntmps65
 go_wp2
 exact bodyPost_ret (v := .agg #[_, _, _, _]) (by simp [results, Tryz.results65, go_sem]) rfl ⟨rfl, (Below.refl _ w).alloc zN _⟩
theorem kqq (g : Nat) (F : Nat → Prop) (A : Option Addr) (n c : Nat) (l : List Fld) (w : World) (hT : TabC g w) (h : Sl tFld F w A n c l) (hn : n ≤ 4294967296) (hl : wlen l ≤ 4294967100) :
 Calls Tryz.prog 63 #[.pointer (some ⟨g, 0, none⟩), .slice A n c] w (Own1 w (qzt (dput l))) := by
 have HT := zH hT; have HH := zH h; have HD := zH (Nat.le_trans (xx2 l) hl)
 have hl2 : wlen l ≤ 4294967200 := by omega
 clear hT h
 go_enter Tryz.func63, Tryz.ntmps63
 go_wp2_with (first
  | (go_at_call 122; refine (qxm F A n c l _ HH.out hn hl2).mono ?_; rintro e w1 ⟨A1, n1, c1, rfl, ho1, hb1⟩; have HO1 := zH ho1; have HB1 := zH hb1; have hn1 : n1 ≤ 4294967200 := (by have h1 := ho1.len; have h2 := HD.out; omega); clear ho1 hb1)
  | (go_at_call 123; refine (seal_any g _ A1 n1 c1 (dput l) _ (HT.out.keep HB1.out) HO1.out.bs hn1).mono ?_; rintro e w2 ⟨A2, n2, c2, rfl, ho2, hb2⟩; have HO2 := zH ho2; have HB2 := zH hb2; clear ho2 hb2)
  | fail)
 go_ret
 exact ⟨A2, n2, c2, rfl, HO2.out.down HB1.out.size, HB1.out.trans (HB2.out.mono HB1.out.size)⟩
end
section
open Go Go.RowKit
attribute [local go_sem ↓] Go.wp_at_zero Go.wp_at_succ
theorem qzU (g : Nat) (m enc tx : Int) (F : Nat → Prop) (A : Option Addr) (n c : Nat) (ss : List (Int × List UInt8)) (w : World) (hT : TabC g w) (h : Sl zzw F w A n c ss) (hn : n ≤ 1000) (hl : wlen (zzW m enc tx ss) ≤ 4294967000) :
 Calls Tryz.prog 29 #[.pointer (some ⟨g, 0, none⟩), .agg #[.int .i64 m, .int .i64 enc, .int .i64 tx, .slice A n c]] w (Own1 w (yyx m enc tx ss)) := by
 have HL := zH h.len; have HT := zH hT; have HH := zH (h.weaken (F' := fun b => b < w.heap.size) fun b _ hl => hl)
 have HW := zH (show wlen (zzW m enc tx ss) ≤ 4294967100 by omega)
 have HN := zH hn
 clear h hT hl
 go_enter Tryz.func29, Tryz.ntmps29
 go_wp2_with fail
 go_cut [5] from 8 to 17 (fun x wx => ∃ b G, x = .slice (some ⟨b, 0, none⟩) 3 3 ∧ OwnF tFld 114 G wx w.heap.size (some ⟨b, 0, none⟩) 3 3 [unum 1 m, unum 2 enc, unum 3 tx] ∧ Below w.heap.size w wx ∧ wx.cell? ⟨w.heap.size, 3, none⟩ = some (.slice A n c))
 case first =>
  go_region_held3 (fun w' => w'.cell? ⟨w.heap.size, 0, none⟩ = some (.int .i64 m) ∧ w'.cell? ⟨w.heap.size, 1, none⟩ = some (.int .i64 enc) ∧ w'.cell? ⟨w.heap.size, 2, none⟩ = some (.int .i64 tx) ∧ w'.cell? ⟨w.heap.size, 3, none⟩ = some (.slice A n c))
   (first | go_keep | (go_split_ands; refine ⟨?_, ?_, ?_, ?_⟩ <;> exact zze (by assumption) (by assumption)))
   (first
     | (go_at_call_of 60 (Value.int .i64 1); refine (vvh _ _ _).mono ?_; rintro e w1 ⟨rfl, hb1⟩)
     | (go_at_call_of 60 (Value.int .i64 2); refine (vvh _ _ _).mono ?_; rintro e w2 ⟨rfl, hb2⟩)
     | (go_at_call_of 60 (Value.int .i64 3); refine (vvh _ _ _).mono ?_; rintro e w3 ⟨rfl, hb3⟩)
     | fail)
  all_goals
   go_wp2_with fail
   go_split_ands
   go_meet
   have hbw : Below w.heap.size w w3 := by (repeat (first | exact zR | assumption | refine vvH ?_ (by assumption) | refine yy1 ?_ _ | refine vvI ?_))
   exact ⟨_, _, rfl, OwnF.newL (T := tFld) (n := 3) (F := fun _ => False) (Reps.mk3 (zzX (by unfold i64; omega)) (zzX (by unfold i64; omega)) (zzX (by unfold i64; omega))) hbw.size rfl (by omega) _ rfl, (by (repeat (first | exact zR | assumption | refine vvH ?_ (by assumption) | refine yy1 ?_ _ | refine vvI ?_))), (by assumption)⟩
 case rest =>
  obtain ⟨b, G, rfl, ho, hb0, hc3⟩ := hcut
  have HO0 := zH ho; have HB0 := zH hb0
  clear ho hb0
  go_wp2_with fail
  go_loopw [5, 21] (fun v iv wr => ∃ (k : Nat) (A2 : Option Addr) (c2 : Nat) (G : Nat → Prop), k ≤ n ∧ iv = .int .i64 (k : Int) ∧ v = .slice A2 (3 + 2 * k) c2 ∧ OwnF tFld 114 G wr w.heap.size A2 (3 + 2 * k) c2 (zzW m enc tx (ss.take k)) ∧ Below w.heap.size w wr) (fun _ iv _ => n - (intOf iv).toNat)
  case atStart => exact ⟨0, _, _, _, Nat.zero_le _, rfl, rfl, HO0.out, HB0.out⟩
  case round =>
   clear hc3
   obtain ⟨k, A2, c2, G2, hk, rfl, rfl, ho, hb⟩ := hrel
   have HO := zH ho; have HB := zH hb
   have hsz := hb.size
   clear ho hb
   by_cases hlt : k < n
   · have hkl : k < ss.length := by rw [← HL.out]; exact hlt
     obtain ⟨b8, o8, cs, rfl, _, hbl, hrep, hc⟩ := (HH.out.below HB.out zN).at_ hkl (by decide)
     obtain ⟨x, hf⟩ : ∃ x, x = ss[k] := ⟨_, rfl⟩
     obtain ⟨kk, bs⟩ := x
     rw [← hf] at hrep
     have HS := zH (show zzW m enc tx (ss.take (k + 1)) = zzW m enc tx (ss.take k) ++ [unum 4 kk, ftxt 5 bs] by rw [jjL m enc tx ss hkl, ← hf]; rfl)
     obtain ⟨d1, d2, rfl, ⟨h1, h1'⟩, A8, n8, c8, h2, hsl⟩ := hrep
     subst h1 h2
     obtain ⟨g0, g1⟩ := xxN hc
     have g0 : _ = some (Value.int .i64 kk) := g0
     have g1 : _ = some (Value.slice A8 n8 c8) := g1
     have HSL := zH hsl
     have hi0 : (0 : Int) ≤ (k : Int) := by omega
     have hi1 : (k : Int) < (n : Int) := by omega
     have hk4 : 3 + 2 * k ≤ 4000 := by have := HN.out; omega
     clear hc hf hsl h1'
     go_upto_region 5 with fail
     go_region_held3 (fun w' => w'.cell? ⟨wr.heap.size, 0, none⟩ = some (.int .i64 kk) ∧ w'.cell? ⟨wr.heap.size, 1, none⟩ = some (.slice A8 n8 c8))
      (first | go_keep | (go_split_ands; refine ⟨?_, ?_⟩ <;> exact zze (by assumption) (by assumption)) | (go_split_ands; refine ⟨?_, ?_⟩ <;> exact hg9.cell (by assumption) (HO.out.offNew zN)))
      (first
        | (go_at_call 60; refine (vvh _ _ _).mono ?_; rintro e w4 ⟨rfl, hb4⟩)
        | (go_at_call 61; refine (kqp _ _ _ _ _).mono ?_; rintro e w5 ⟨rfl, hb5⟩)
        | (have hbw : Below wr.heap.size wr w5 := (by (repeat (first | exact zR | assumption | refine vvH ?_ (by assumption) | refine yy1 ?_ _ | refine vvI ?_)))
           refine xxs (T := tFld) kq2 (w5.alloc _) w rfl (.tmp 25) (.tmp 32) rfl w.heap.size A2 (3 + 2 * k) c2 (zzW m enc tx (ss.take k)) rfl G2 (fun b => (b < w.heap.size ∧ b < w5.heap.size) ∨ b = w5.heap.size) ((HO.out.keepB hbw).alloc _) ((HB.out.trans (hbw.mono hsz)).alloc (by have := hbw.size; omega) _) zN
            (some ⟨w5.heap.size, 0, none⟩) 2 2 [unum 4 kk, ftxt 5 bs] rfl (Sl.news (T := tFld) (F := fun b => b < w.heap.size) (Reps.mk2 (zzX (by unfold i64; omega)) ⟨A8, n8, c8, rfl, by unfold i64; simp [ftxt], by simp [ftxt], HSL.out.below hbw zN⟩) 114 2 rfl (by omega) _ rfl)
            (fun b h1 h2 _ h4 => by obtain ⟨_, _, e3⟩ := HO.out.lies (b := b) (by simp [Value.ownBlock, h1]); have := hbw.size; omega) (by omega) ?_
           intro A9 c9 w9 h9; have hg9 := h9.grown))
     all_goals
      go_wp2_with fail
      go_roundw
      case rel =>
       have e2 := h9.own
       rw [← HS.out] at e2
       exact ⟨k + 1, A9, c9, _, by omega, by go_num, by rw [show 3 + 2 * (k + 1) = 3 + 2 * k + 2 by omega], by rw [show 3 + 2 * (k + 1) = 3 + 2 * k + 2 by omega]; exact e2, h9.below⟩
      case measure => simp [intOf]; omega
   · obtain rfl : k = n := by omega
     have e1 : ss.take k = ss := zL (by rw [← HL.out]; exact Nat.le_refl _)
     rw [e1] at HO
     have hk4 : 3 + 2 * k ≤ 4294967296 := by have := HN.out; omega
     clear e1
     go_wp2_with (first
      | (go_at_call 63; refine (kqq g _ A2 (3 + 2 * k) c2 (zzW m enc tx ss) _ (HT.out.keep HB.out) HO.out.sl hk4 HW.out).mono ?_; rintro e w2 ⟨A3, n3, c3, rfl, ho3, hb3⟩; have HO3 := zH ho3; have HB3 := zH hb3; clear ho3 hb3)
      | fail)
     go_ret
     exact ⟨A3, n3, c3, rfl, HO3.out.down hsz, HB.out.trans (HB3.out.mono hsz)⟩
theorem kq5 (m enc tx : Int) (F : Nat → Prop) (A : Option Addr) (n c : Nat) (ss : List (Int × List UInt8)) (w : World) (h : Sl zzw F w A n c ss) (hn : n ≤ 1000) (hl : wlen (zzW m enc tx ss) ≤ 4294967000) :
 Calls Tryz.prog 30 #[.agg #[.int .i64 m, .int .i64 enc, .int .i64 tx, .slice A n c]] w (Own1 w (yyx m enc tx ss)) := by
 have HL := zH h.len; have HH := zH (h.weaken (F' := fun b => b < w.heap.size) fun b _ hl => hl)
 have HW := zH (show wlen (zzW m enc tx ss) ≤ 4294967200 by omega)
 have HWL := zH (Nat.le_trans (xx2 (zzW m enc tx ss)) hl)
 have HN := zH hn
 clear h hl
 go_enter Tryz.func30, Tryz.ntmps30
 go_wp2_with fail
 go_cut [3] from 7 to 16 (fun x wx => ∃ b G, x = .slice (some ⟨b, 0, none⟩) 3 3 ∧ OwnF tFld 120 G wx (w.heap.size + 1) (some ⟨b, 0, none⟩) 3 3 [unum 1 m, unum 2 enc, unum 3 tx] ∧ Below w.heap.size w wx ∧ wx.cell? ⟨w.heap.size, 3, none⟩ = some (.slice A n c))
 case first =>
  go_region_held3 (fun w' => w'.cell? ⟨w.heap.size, 0, none⟩ = some (.int .i64 m) ∧ w'.cell? ⟨w.heap.size, 1, none⟩ = some (.int .i64 enc) ∧ w'.cell? ⟨w.heap.size, 2, none⟩ = some (.int .i64 tx) ∧ w'.cell? ⟨w.heap.size, 3, none⟩ = some (.slice A n c))
   (first | go_keep | (go_split_ands; refine ⟨?_, ?_, ?_, ?_⟩ <;> exact zze (by assumption) (by assumption)))
   (first
     | (go_at_call_of 64 (Value.int .i64 1); refine (yyP _ _ _).mono ?_; rintro e w1 ⟨rfl, hb1⟩)
     | (go_at_call_of 64 (Value.int .i64 2); refine (yyP _ _ _).mono ?_; rintro e w2 ⟨rfl, hb2⟩)
     | (go_at_call_of 64 (Value.int .i64 3); refine (yyP _ _ _).mono ?_; rintro e w3 ⟨rfl, hb3⟩)
     | fail)
  all_goals
   go_wp2_with fail
   go_split_ands
   go_meet
   have hbw : Below w.heap.size w w3 := by (repeat (first | exact zR | assumption | refine vvH ?_ (by assumption) | refine yy1 ?_ _ | refine vvI ?_))
   exact ⟨_, _, rfl, OwnF.newL (T := tFld) (n := 3) (F := fun _ => False) (Reps.mk3 (zzX (by unfold i64; omega)) (zzX (by unfold i64; omega)) (zzX (by unfold i64; omega))) (by have := hb1.size; have := hb2.size; have := hb3.size; simp at *; omega) rfl (by omega) _ rfl, (by (repeat (first | exact zR | assumption | refine vvH ?_ (by assumption) | refine yy1 ?_ _ | refine vvI ?_))), (by assumption)⟩
 case rest =>
  obtain ⟨b, G, rfl, ho, hb0, hc3⟩ := hcut
  obtain ⟨wb, hwb⟩ : ∃ wb, wb = wc := ⟨_, rfl⟩
  rw [← hwb] at ho hb0 hc3 ⊢
  have HO0 := zH ho; have HB0 := zH hb0; have HC3 := zH hc3
  clear ho hb0 hc3 hwb
  have HZB := zH (show w.heap.size + 1 ≤ wb.heap.size by have := World.block_lt_of_cell? wb _ HC3.out; exact this)
  go_wp2_with fail
  go_loopw [3, 4] (fun v iv wr => ∃ (k : Nat) (A2 : Option Addr) (c2 : Nat) (G : Nat → Prop), k ≤ n ∧ iv = .int .i64 (k : Int) ∧ v = .slice A2 (3 + 2 * k) c2 ∧ OwnF tFld 120 G wr (w.heap.size + 1) A2 (3 + 2 * k) c2 (zzW m enc tx (ss.take k)) ∧ Below (w.heap.size + 1) wb wr) (fun _ iv _ => n - (intOf iv).toNat)
  case atStart => exact ⟨0, _, _, _, Nat.zero_le _, rfl, rfl, HO0.out, zR⟩
  case round =>
   obtain ⟨k, A2, c2, G2, hk, rfl, rfl, ho, hb⟩ := hrel
   have HO := zH ho; have HBW := zH hb
   have HB := zH (HB0.out.trans (hb.mono (Nat.le_succ _)))
   have hsz := hb.size
   have hq3 : wr.cell? ⟨w.heap.size, 3, none⟩ = some (.slice A n c) := (hb.cell (p := ⟨w.heap.size, 3, none⟩) (Nat.lt_succ_self _)).trans HC3.out
   have HQ3 := zH hq3
   clear ho hb
   by_cases hlt : k < n
   · have hkl : k < ss.length := by rw [← HL.out]; exact hlt
     obtain ⟨b8, o8, cs, rfl, _, hbl, hrep, hc⟩ := (HH.out.below HB.out zN).at_ hkl (by decide)
     obtain ⟨x, hf⟩ : ∃ x, x = ss[k] := ⟨_, rfl⟩
     obtain ⟨kk, bs⟩ := x
     rw [← hf] at hrep
     have HS := zH (show zzW m enc tx (ss.take (k + 1)) = zzW m enc tx (ss.take k) ++ [unum 4 kk, ftxt 5 bs] by rw [jjL m enc tx ss hkl, ← hf]; rfl)
     obtain ⟨d1, d2, rfl, ⟨h1, h1'⟩, A8, n8, c8, h2, hsl⟩ := hrep
     subst h1 h2
     obtain ⟨g0, g1⟩ := xxN hc
     have g0 : _ = some (Value.int .i64 kk) := g0
     have g1 : _ = some (Value.slice A8 n8 c8) := g1
     have HSL := zH hsl
     have hi0 : (0 : Int) ≤ (k : Int) := by omega
     have hi1 : (k : Int) < (n : Int) := by omega
     have hk4 : 3 + 2 * k ≤ 4000 := by have := HN.out; omega
     clear hc hf hsl h1'
     go_upto_region 5 with fail
     go_region_held3 (fun w' => w'.cell? ⟨w.heap.size, 3, none⟩ = some (.slice (some ⟨b8, o8, none⟩) n c) ∧ w'.cell? ⟨b8, o8 + k * 2, none⟩ = some (.int .i64 kk) ∧ w'.cell? ⟨b8, o8 + k * 2 + 1, none⟩ = some (.slice A8 n8 c8))
      (first | go_keep | (go_split_ands; refine ⟨?_, ?_, ?_⟩ <;> exact zze (by assumption) (by assumption)) | (go_split_ands; refine ⟨?_, ?_, ?_⟩ <;> exact hg9.cell (by assumption) (by intro e; obtain ⟨a9, ha9, hb9⟩ := Option.map_eq_some_iff.1 e.symm; have h9l := HO.out.lies (b := a9.block) (by rw [ha9]; rfl); simp at hb9; omega)))
      (first
        | (go_at_call 64; refine (yyP _ _ _).mono ?_; rintro e w4 ⟨rfl, hb4⟩)
        | (go_at_call 65; refine (jjM _ _ _ _ _).mono ?_; rintro e w5 ⟨rfl, hb5⟩)
        | (have hbw : Below wr.heap.size wr w5 := (by (repeat (first | exact zR | assumption | refine vvH ?_ (by assumption) | refine yy1 ?_ _ | refine vvI ?_)))
           refine xxs (T := tFld) kq3 (w5.alloc _) wb rfl (.tmp 24) (.tmp 39) rfl (w.heap.size + 1) A2 (3 + 2 * k) c2 (zzW m enc tx (ss.take k)) rfl G2 (fun b => (b < w.heap.size ∧ b < w5.heap.size) ∨ b = w5.heap.size) ((HO.out.keepB hbw).alloc _) ((HBW.out.trans (hbw.mono (Nat.le_trans HZB.out hsz))).alloc (by have := hbw.size; have := HZB.out; omega) _) HZB.out
            (some ⟨w5.heap.size, 0, none⟩) 2 2 [unum 4 kk, ftxt 5 bs] rfl (Sl.news (T := tFld) (F := fun b => b < w.heap.size) (Reps.mk2 (zzX (by unfold i64; omega)) ⟨A8, n8, c8, rfl, by unfold i64; simp [ftxt], by simp [ftxt], HSL.out.below hbw zN⟩) 120 2 rfl (by omega) _ rfl)
            (fun b h1 h2 _ h4 => by obtain ⟨_, _, e3⟩ := HO.out.lies (b := b) (by simp [Value.ownBlock, h1]); have := hbw.size; omega) (by omega) ?_
           intro A9 c9 w9 h9; have hg9 := h9.grown))
     all_goals
      go_wp2_with fail
      go_roundw
      case rel =>
       have e2 := h9.own
       rw [← HS.out] at e2
       exact ⟨k + 1, A9, c9, _, by omega, by go_num, by rw [show 3 + 2 * (k + 1) = 3 + 2 * k + 2 by omega], by rw [show 3 + 2 * (k + 1) = 3 + 2 * k + 2 by omega]; exact e2, h9.below⟩
      case measure => simp [intOf]; omega
   · obtain rfl : k = n := by omega
     have e1 : ss.take k = ss := zL (by rw [← HL.out]; exact Nat.le_refl _)
     rw [e1] at HO
     have hk4 : 3 + 2 * k ≤ 4294967296 := by have := HN.out; omega
     have hsw := HB.out.size
     clear e1
     go_wp2_with (first
      | (go_at_call 67; refine (vv3 _ A2 (3 + 2 * k) c2 (zzW m enc tx ss) _ HO.out.sl hk4 HW.out).mono ?_; rintro e w2 ⟨A3, n3, c3, rfl, ho3, hb3⟩; have HO3 := zH ho3; have HB3 := zH hb3; have hn3 : n3 ≤ 4294967200 := (by have h1 := ho3.len; have h2 := HWL.out; omega); clear ho3 hb3)
      | (go_at_call 26; refine (qzu _ A3 n3 c3 (dput (zzW m enc tx ss)) _ HO3.out.bs hn3).mono ?_; rintro e w4 ⟨A4, n4, c4, rfl, ho4, hb4⟩; have HO4 := zH ho4; have HB4 := zH hb4; clear ho4 hb4)
      | fail)
     go_ret
     exact ⟨A4, n4, c4, rfl, HO4.out.down (Nat.le_trans hsw HB3.out.size), (HB.out.trans (HB3.out.mono hsw)).trans (HB4.out.mono (Nat.le_trans hsw HB3.out.size))⟩
end
section
open Go Go.RowKit
attribute [local go_sem ↓] Go.wp_at_zero Go.wp_at_succ
def yyC (s : SS) : List Fld := [unum 1 s.count, fnum 2 (b2n s.hasNull), ftxt 3 (xxu s.min), ftxt 4 (xxu s.max), inum 5 s.sum, fnum 6 (b2n s.over)]
def yyL (s : SS) : List UInt8 := dput (yyC s)
theorem uuB (v : VV) : (xxu v).length ≤ v.s.size + 60 := by
 have h := xx2 (zz5 v)
 have e : v.s.data.toList.length = v.s.size := Array.length_toList
 have e2 : wlen (zz5 v) = v.s.size + 60 := by simp only [zz5, wlen, fnum, ftxt, e, List.length_nil]; omega
 unfold xxu
 omega
def SS.ok (s : SS) : Prop := i64 s.count ∧ s.min.ok ∧ s.max.ok ∧ i64 s.sum ∧ s.min.s.size ≤ 1000000 ∧ s.max.s.size ≤ 1000000
theorem yy7 (s : SS) (h : s.ok) : wlen (yyC s) ≤ 2000400 := by
 have h1 := uuB s.min
 have h2 := uuB s.max
 obtain ⟨_, _, _, _, h3, h4⟩ := h
 simp only [yyC, wlen, unum, inum, fnum, ftxt, List.length_nil]
 omega
theorem Reps.mk6 {α : Type} {T : Ty α} {F : Nat → Prop} {w : World} {c1 c2 c3 c4 c5 c6 : List Value} {x1 x2 x3 x4 x5 x6 : α} (h1 : T.rep F w c1 x1) (h2 : T.rep F w c2 x2) (h3 : T.rep F w c3 x3) (h4 : T.rep F w c4 x4) (h5 : T.rep F w c5 x5) (h6 : T.rep F w c6 x6) : Reps T F w [c1, c2, c3, c4, c5, c6] [x1, x2, x3, x4, x5, x6] :=
 ((((((Reps.nil_ (T := T) (F := F) (w := w)).snoc h1).snoc h2).snoc h3).snoc h4).snoc h5).snoc h6
theorem vvi {F : Nat → Prop} {w : World} {tag : Int} {n : Nat} (h : i64 tag) (hn : n < 18446744073709551616) : tFld.rep F w [.int .i64 tag, .bool false, .int .u64 (n : Int), .slice none 0 0] (fnum tag n) := ⟨none, 0, 0, rfl, h, hn, Sl.nil_ _ _ _⟩
theorem unum_repW {F : Nat → Prop} {w : World} {tag x : Int} (h : i64 tag) : tFld.rep F w [.int .i64 tag, .bool false, .int .u64 (IntKind.u64.wrap x), .slice none 0 0] (unum tag x) := by rw [kq1]; exact zzX h
theorem wnum_any (tag x : Int) (w : World) :
 Calls Tryz.prog 117 #[.int .i64 tag, .int .i64 x] w (qzP tag false (u64n x) none 0 0 w) := by
 have HU := zH (kq1 x)
 go_enter Tryz.func117, Tryz.ntmps117
 go_wp2
 exact bodyPost_ret (v := .agg #[.int .i64 tag, .bool false, .int .u64 (IntKind.u64.wrap x), .slice none 0 0]) (by simp [results, Tryz.results117, go_sem]) rfl ⟨by rw [HU.out], (Below.refl _ w).alloc zN _⟩
theorem qzW (s : SS) (h : s.ok) (w : World) :
 Calls Tryz.prog 62 #[.agg #[.int .i64 s.count, .bool s.hasNull, .bool s.min.null, .int .i64 s.min.n, .string s.min.s, .bool s.max.null, .int .i64 s.max.n, .string s.max.s, .int .i64 s.sum, .bool s.over]] w (Own1 w (yyL s)) := by
 have HW := zH (show wlen (yyC s) ≤ 4294967200 by have := yy7 s h; omega)
 obtain ⟨_, hmin, hmax, ⟨hs0, hs1⟩, hz1, hz2⟩ := h
 have HZ := zH (uu7 s.sum hs0 hs1)
 go_enter Tryz.func62, Tryz.ntmps62
 go_wp2_with fail
 go_region_held3 (fun w' => w'.cell? ⟨w.heap.size, 0, none⟩ = some (.int .i64 s.count) ∧ w'.cell? ⟨w.heap.size, 1, none⟩ = some (.bool s.hasNull) ∧ w'.cell? ⟨w.heap.size, 2, none⟩ = some (.bool s.min.null) ∧ w'.cell? ⟨w.heap.size, 3, none⟩ = some (.int .i64 s.min.n) ∧ w'.cell? ⟨w.heap.size, 4, none⟩ = some (.string s.min.s) ∧ w'.cell? ⟨w.heap.size, 5, none⟩ = some (.bool s.max.null) ∧ w'.cell? ⟨w.heap.size, 6, none⟩ = some (.int .i64 s.max.n) ∧ w'.cell? ⟨w.heap.size, 7, none⟩ = some (.string s.max.s) ∧ w'.cell? ⟨w.heap.size, 8, none⟩ = some (.int .i64 s.sum) ∧ w'.cell? ⟨w.heap.size, 9, none⟩ = some (.bool s.over))
  (first | go_keep | (go_split_ands; refine ⟨?_, ?_, ?_, ?_, ?_, ?_, ?_, ?_, ?_, ?_⟩ <;> exact zze (by assumption) (by assumption)))
  (first
    | (go_at_call 117; refine (wnum_any _ _ _).mono ?_; rintro e w1 ⟨rfl, hb1⟩)
    | (go_at_call_of 118 (Value.int .i64 2); refine (jjB _ _ _).mono ?_; rintro e w2 ⟨rfl, hb2⟩)
    | (go_at_call 120; have _g := hb3; refine (uuz s.max hmax (by omega) _).mono ?_; rintro e w5 ⟨A5, n5, c5, rfl, hown5, hb5⟩; have hs5 := hown5.bs.any)
    | (go_at_call 120; refine (uuz s.min hmin (by omega) _).mono ?_; rintro e w3 ⟨A3, n3, c3, rfl, hown3, hb3⟩; have hs3 := hown3.bs.any)
    | (go_at_call_of 119 (Value.int .i64 3); refine (kqZ _ _ _ _ _).mono ?_; rintro e w4 ⟨rfl, hb4⟩)
    | (go_at_call_of 119 (Value.int .i64 4); refine (kqZ _ _ _ _ _).mono ?_; rintro e w6 ⟨rfl, hb6⟩)
    | (go_at_call 121; refine (qxl _ _ _ hs0 hs1).mono ?_; rintro e w7 ⟨rfl, hb7⟩)
    | (go_at_call_of 118 (Value.int .i64 6); refine (jjB _ _ _).mono ?_; rintro e w8 ⟨rfl, hb8⟩)
    | (go_at_call 116
       refine (qzQ (fun _ => True) _ 6 6 (yyC s) _ ((Sl.news (T := tFld) (F := fun _ => True) (Reps.mk6 (zzX (by unfold i64; omega)) (vvi (by unfold i64; omega) (kqn _)) (xx3 (by unfold i64; omega) (by have hh := hs3; (repeat (first | assumption | exact Sl.nil_ _ _ _ | exact (kqH (by assumption)).any | (refine kqa (by assumption) ?_; simp; done) | refine Sl.below ?_ (by assumption) zN | refine Sl.alloc ?_ _ | refine Sl.drew ?_)))) (xx3 (by unfold i64; omega) (by have hh := hs5; (repeat (first | assumption | exact Sl.nil_ _ _ _ | exact (kqH (by assumption)).any | (refine kqa (by assumption) ?_; simp; done) | refine Sl.below ?_ (by assumption) zN | refine Sl.alloc ?_ _ | refine Sl.drew ?_)))) (vvi (by unfold i64; omega) HZ.out) (vvi (by unfold i64; omega) (kqn _))) 114 6 rfl (by omega) _ rfl).any) (by omega) HW.out).mono ?_
       rintro e w9 ⟨A9, n9, c9, rfl, hown9, hb9⟩))
 all_goals
  go_wp2_with fail
  go_ret
  exact ⟨A9, n9, c9, rfl, hown9.down (by refine Nat.le_trans ?_ zN; refine (show Below w.heap.size w _ from ?_).size; (repeat (first | exact zR | assumption | refine vvH ?_ (by assumption) | refine yy1 ?_ _ | refine vvI ?_))), by (repeat (first | exact zR | assumption | refine vvH ?_ (by assumption) | refine yy1 ?_ _ | refine vvI ?_))⟩
theorem kq7 (s : SS) (h : s.ok) (w : World) :
 Calls Tryz.prog 66 #[.agg #[.int .i64 s.count, .bool s.hasNull, .bool s.min.null, .int .i64 s.min.n, .string s.min.s, .bool s.max.null, .int .i64 s.max.n, .string s.max.s, .int .i64 s.sum, .bool s.over]] w (Own1 w (yyL s)) := by
 have HW := zH (show wlen (yyC s) ≤ 4294967200 by have := yy7 s h; omega)
 obtain ⟨_, hmin, hmax, ⟨hs0, hs1⟩, hz1, hz2⟩ := h
 have HZ := zH (uu7 s.sum hs0 hs1)
 go_enter Tryz.func66, Tryz.ntmps66
 go_wp2_with fail
 go_region_held3 (fun w' => w'.cell? ⟨w.heap.size, 0, none⟩ = some (.int .i64 s.count) ∧ w'.cell? ⟨w.heap.size, 1, none⟩ = some (.bool s.hasNull) ∧ w'.cell? ⟨w.heap.size, 2, none⟩ = some (.bool s.min.null) ∧ w'.cell? ⟨w.heap.size, 3, none⟩ = some (.int .i64 s.min.n) ∧ w'.cell? ⟨w.heap.size, 4, none⟩ = some (.string s.min.s) ∧ w'.cell? ⟨w.heap.size, 5, none⟩ = some (.bool s.max.null) ∧ w'.cell? ⟨w.heap.size, 6, none⟩ = some (.int .i64 s.max.n) ∧ w'.cell? ⟨w.heap.size, 7, none⟩ = some (.string s.max.s) ∧ w'.cell? ⟨w.heap.size, 8, none⟩ = some (.int .i64 s.sum) ∧ w'.cell? ⟨w.heap.size, 9, none⟩ = some (.bool s.over))
  (first | go_keep | (go_split_ands; refine ⟨?_, ?_, ?_, ?_, ?_, ?_, ?_, ?_, ?_, ?_⟩ <;> exact zze (by assumption) (by assumption)))
  (first
    | (go_at_call_of 124 (Value.int .i64 1); refine (vvg _ _ _).mono ?_; rintro e w1 ⟨rfl, hb1⟩)
    | (go_at_call_of 124 (Value.int .i64 2); refine (vvg _ _ _).mono ?_; rintro e w2 ⟨rfl, hb2⟩)
    | (go_at_call_of 124 (Value.int .i64 5); refine (vvg _ _ _).mono ?_; rintro e w4 ⟨rfl, hb4⟩)
    | (go_at_call_of 124 (Value.int .i64 6); refine (vvg _ _ _).mono ?_; rintro e w6 ⟨rfl, hb6⟩)
    | (go_at_call 125; refine (qxn _ _).mono ?_; rintro e w8 ⟨rfl, rfl⟩)
    | (go_at_call 127; refine (uuW _ _ hs0 hs1).mono ?_; rintro e w7 ⟨rfl, rfl⟩)
    | (go_at_call 126; have _g := hb3; refine (vv4 s.max hmax (by omega) _).mono ?_; rintro e w5 ⟨A5, n5, c5, rfl, hown5, hb5⟩; have hs5 := hown5.bs.any)
    | (go_at_call 126; refine (vv4 s.min hmin (by omega) _).mono ?_; rintro e w3 ⟨A3, n3, c3, rfl, hown3, hb3⟩; have hs3 := hown3.bs.any)
    | (go_at_call 67
       refine (vv3 (fun _ => True) _ 6 6 (yyC s) _ ((Sl.news (T := tFld) (F := fun _ => True) (Reps.mk6 (unum_repW (by unfold i64; omega)) (vvi (by unfold i64; omega) (kqn _)) (xx3 (by unfold i64; omega) (by have hh := hs3; (repeat (first | assumption | exact Sl.nil_ _ _ _ | exact (kqH (by assumption)).any | (refine kqa (by assumption) ?_; simp; done) | refine Sl.below ?_ (by assumption) zN | refine Sl.alloc ?_ _ | refine Sl.drew ?_)))) (xx3 (by unfold i64; omega) (by have hh := hs5; (repeat (first | assumption | exact Sl.nil_ _ _ _ | exact (kqH (by assumption)).any | (refine kqa (by assumption) ?_; simp; done) | refine Sl.below ?_ (by assumption) zN | refine Sl.alloc ?_ _ | refine Sl.drew ?_)))) (vvi (by unfold i64; omega) HZ.out) (vvi (by unfold i64; omega) (kqn _))) 120 6 rfl (by omega) _ rfl).any) (by omega) HW.out).mono ?_
       rintro e w9 ⟨A9, n9, c9, rfl, hown9, hb9⟩))
 all_goals
  go_wp2_with fail
  go_ret
  exact ⟨A9, n9, c9, rfl, hown9.down (by refine Nat.le_trans ?_ zN; refine (show Below w.heap.size w _ from ?_).size; (repeat (first | exact zR | assumption | refine vvH ?_ (by assumption) | refine yy1 ?_ _ | refine vvI ?_))), by (repeat (first | exact zR | assumption | refine vvH ?_ (by assumption) | refine yy1 ?_ _ | refine vvI ?_))⟩
end
end Go.Proofs.YtpmglcachffojaaGreatDoor
