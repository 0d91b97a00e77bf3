/- A part of what Puts leans on. -/
import Derived.Test.YtpmglcachffojaaGreatDoorZ36
import Derived.Test.YtpmglcachffojaaGreatDoorZ37
set_option maxRecDepth 100000
set_option maxHeartbeats 16000000
namespace Go.Proofs.YtpmglcachffojaaGreatDoor
section
open Go Go.RowKit
def uuK (p : Int × SS) : List Fld := [unum 2 p.1, ftxt 3 (yyL p.2)]
def stF (s : ST) : List Fld := unum 1 s.1 :: ((s.2.1.zip s.2.2).map uuK).flatten
def idxF (l : List ST) : List Fld := (l.map stF).flatten
def idxB (l : List ST) : List UInt8 := qzt (dput (idxF l))
theorem qz6 : ∀ l : List (Int × SS), (l.map uuK).flatten.length = 2 * l.length
 | [] => rfl
 | x :: r => by rw [List.map_cons, List.flatten_cons, List.length_append, qz6 r, List.length_cons]; show 2 + _ = _; omega
theorem stF_len (s : ST) (h : s.2.1.length ≤ 20) : (stF s).length ≤ 41 := by
 unfold stF
 rw [List.length_cons, qz6, List.length_zip]
 omega
theorem qz7 (l : List ST) (i : Nat) (hi : i < l.length) {s : ST} (hs : s = l[i]) : idxF (l.take (i + 1)) = idxF (l.take i) ++ stF s := by
 unfold idxF
 rw [zT hi, List.map_append, List.flatten_append, ← hs]; simp
theorem vv9 : ∀ l : List ST, (∀ s ∈ l, s.2.1.length ≤ 20) → (idxF l).length ≤ 41 * l.length
 | [], _ => by simp [idxF]
 | x :: r, h => by
   have h1 := vv9 r (fun s hs => h s (by simp [hs]))
   have h2 := stF_len x (h x (by simp))
   unfold idxF at *
   rw [List.map_cons, List.flatten_cons, List.length_append, List.length_cons]
   omega
theorem kqx (l : List (Int × SS)) (k : Nat) (hk : k < l.length) {p : Int × SS} (hp : p = l[k]) : ((l.take (k + 1)).map uuK).flatten = ((l.take k).map uuK).flatten ++ uuK p := by
 rw [zT hk, List.map_append, List.flatten_append, ← hp]; simp
theorem kqy : ∀ l : List (Int × SS), (∀ p ∈ l, p.2.ok) → wlen (l.map uuK).flatten ≤ 2100000 * l.length
 | [], _ => by simp [wlen]
 | x :: r, h => by
   have h1 := kqy r (fun p hp => h p (by simp [hp]))
   have h2 : (yyL x.2).length ≤ 2000400 := Nat.le_trans (xx2 (yyC x.2)) (yy7 x.2 (h x (by simp)))
   rw [List.map_cons, List.flatten_cons, xxt, List.length_cons]
   have : wlen (uuK x) = (yyL x.2).length + 40 := by simp [uuK, wlen, unum, fnum, ftxt]; omega
   omega
def stOk (s : ST) : Prop := s.2.1.length ≤ 20 ∧ ∀ z ∈ s.2.2, z.ok
theorem stF_wlen (s : ST) (h : stOk s) : wlen (stF s) ≤ 42000020 := by
 have h1 := kqy (s.2.1.zip s.2.2) (fun p hp => h.2 _ (List.of_mem_zip hp).2)
 rw [List.length_zip] at h1
 have h2 := h.1
 have h3 : 2100000 * min s.2.1.length s.2.2.length ≤ 2100000 * 20 := Nat.mul_le_mul_left _ (by omega)
 unfold stF
 simp only [wlen, unum, fnum, List.length_nil]
 omega
theorem jjV : ∀ l : List ST, (∀ s ∈ l, stOk s) → wlen (idxF l) ≤ 42000020 * l.length
 | [], _ => by simp [idxF, wlen]
 | x :: r, h => by
   have h1 := jjV r (fun s hs => h s (by simp [hs]))
   have h2 := stF_wlen x (h x (by simp))
   unfold idxF at *
   rw [List.map_cons, List.flatten_cons, xxt, List.length_cons]
   omega
theorem yyX {F : Nat → Prop} {w : World} {cs : List Value} {x : ST} (h : tSt.rep F w cs x) : ∃ A1 n1 c1 A2 n2 c2, cs = [.int .i64 x.1, .slice A1 n1 c1, .slice A2 n2 c2] ∧ Sl tI64 F w A1 n1 c1 x.2.1 ∧ Sl tSS F w A2 n2 c2 x.2.2 := by
 obtain ⟨d1, d2, rfl, ⟨rfl, _⟩, d3, d4, rfl, ⟨A1, n1, c1, rfl, h1⟩, A2, n2, c2, rfl, h2⟩ := h
 exact ⟨A1, n1, c1, A2, n2, c2, rfl, h1, h2⟩
theorem uuZ {w : World} {b o k : Nat} {z : SS} (h : ∀ j u, (vvF z)[j]? = some u → w.cell? ⟨b, o + (k * 10 + j), none⟩ = some u) : ∀ j u, ([.int .i64 z.count, .bool z.hasNull, .bool z.min.null, .int .i64 z.min.n, .string z.min.s, .bool z.max.null, .int .i64 z.max.n, .string z.max.s, .int .i64 z.sum, .bool z.over] : List Value)[j]? = some u → w.cell? ⟨b, o + (k * 10 + j), none⟩ = some u := h
theorem qz8 (g : Nat) (F : Nat → Prop) (A : Option Addr) (n c : Nat) (l : List ST) (w : World) (hT : TabC g w) (h : Sl tSt F w A n c l) (hn : n ≤ 20) (hl : ∀ s ∈ l, stOk s) :
 Calls Tryz.prog 24 #[.pointer (some ⟨g, 0, none⟩), .slice A n c] w (Own1 w (idxB l)) := by
 have HL := zH h.len; have HT := zH hT; have HH := zH (h.weaken (F' := fun b => b < w.heap.size) fun b _ hl => hl)
 have HW := zH (show wlen (idxF l) ≤ 4294967100 by have h1 := jjV l hl; have h2 := h.len; have h3 : 42000020 * l.length ≤ 42000020 * 20 := Nat.mul_le_mul_left _ (by omega); omega)
 have HOK := zH hl; have HN := zH hn
 clear h hT hl
 go_enter Tryz.func24, Tryz.ntmps24
 go_wp2_with fail
 go_loopw [5, 12] (fun fv iv wr => ∃ (i m : Nat) (A2 : Option Addr) (c2 : Nat) (G : Nat → Prop), i ≤ n ∧ iv = .int .i64 (i : Int) ∧ fv = .slice A2 m c2 ∧ OwnF tFld 114 G wr w.heap.size A2 m c2 (idxF (l.take i)) ∧ Below w.heap.size w wr) (fun _ iv _ => n - (intOf iv).toNat)
 case atStart => exact ⟨0, 0, none, 0, fun _ => False, Nat.zero_le _, rfl, rfl, OwnF.nil_ _ _ _ _ _, zR⟩
 case round =>
  obtain ⟨i, m, A2, c2, G2, hi, rfl, rfl, ho, hb⟩ := hrel
  have HO := zH ho; have HB := zH hb
  have hsz := hb.size
  clear ho hb
  by_cases hlt : i < n
  · have hil : i < l.length := by rw [← HL.out]; exact hlt
    obtain ⟨b, o, cs, rfl, _, hbl, hrep, hc⟩ := (HH.out.below HB.out zN).at_ hil (by decide)
    obtain ⟨⟨rw_, lg, st⟩, hx⟩ : ∃ x, x = l[i] := ⟨_, rfl⟩
    rw [← hx] at hrep
    obtain ⟨A3, n3, c3, A4, n4, c4, rfl, h3, h4⟩ := yyX hrep
    dsimp only at hc h3 h4
    have HX := zH hx
    have hok : stOk (rw_, lg, st) := by rw [hx]; exact HOK.out _ (List.getElem_mem hil)
    have HLG := zH hok.1; have HSO := zH hok.2
    have H3 := zH h3; have H4 := zH h4
    have HML : Hid (m ≤ 41 * i) := zH (by
     rw [HO.out.len]
     have h5 := vv9 (l.take i) (fun s hs => (HOK.out s (List.mem_of_mem_take hs)).1)
     rw [List.length_take] at h5
     omega)
    obtain ⟨g0, g1, g2⟩ := zzR hc
    have i0 : (0 : Int) ≤ (i : Int) := by omega
    have i1 : (i : Int) < (n : Int) := by omega
    have i2 : (i : Int) ≤ 20 := by omega
    clear hc hx hrep hok h3 h4
    go_upto_region 5 with fail
    obtain ⟨wq, hwq⟩ : ∃ wq, wq = wr.alloc (.cells #[.int .i64 rw_, .slice A3 n3 c3, .slice A4 n4 c4] 97) := ⟨_, rfl⟩
    have hbq : Below wr.heap.size wr wq := by rw [hwq]; exact (zR).alloc zN _
    have HGQ : Hid (wq.heap[wr.heap.size]? = some (.cells #[.int .i64 rw_, .slice A3 n3 c3, .slice A4 n4 c4] 97 (0, 0))) := zH (by rw [hwq]; exact heap_alloc_new wr _)
    rw [← hwq]
    have HBQ := zH hbq
    have k0 : wq.cell? ⟨wr.heap.size, 0, none⟩ = some (.int .i64 rw_) := by rw [zC HGQ.out]; rfl
    have HOQ := zH (HO.out.keepB hbq)
    have HBW := zH (HB.out.trans (hbq.mono hsz))
    clear g0 g1 g2 hwq hbq
    have HM2 : Hid (m ≤ 34359738368) := zH (by have := HML.out; omega)
    go_upto_region 6 with (first
     | (go_at_call 60; refine (vvh _ _ _).mono ?_; rintro e w4 ⟨rfl, hb4⟩; have HB4 := zH hb4; clear hb4)
     | (at_builtin; refine apl1 (T := tFld) kq2 w4 w rfl (.tmp 16) (.tmp 20) rfl w.heap.size A2 m c2 _ (by rfl) G2 (fun _ => False) (HOQ.out.keepB HB4.out) (HBW.out.trans (HB4.out.mono HBW.out.size)) zN _ (by rfl) _ (unum 1 rw_) (zzX (by unfold i64; omega)) 114 rfl (fun _ _ _ _ h => h) HM2.out ?_; intro A5 c5 w5 h5)
     | fail)
    have HB5 := zH h5.below
    have HG5 : Hid (w5.heap[wr.heap.size]? = some (.cells #[.int .i64 rw_, .slice A3 n3 c3, .slice A4 n4 c4] 97 (0, 0))) := zH (by
     have h6 := (HB4.out.block _ (zzb HGQ.out)).trans HGQ.out
     refine (h5.grown.block _ (by rw [zS]; exact Nat.lt_succ_of_lt (zzb h6)) (HO.out.offNew zN)).trans ((Below.heap_alloc _ _ _ (zzb h6)).trans h6))
    have HO5 := zH h5.own
    have HL5 := zH h5.lies
    have d1 : w5.cell? ⟨wr.heap.size, 1, none⟩ = some (.slice A3 n3 c3) := by rw [zC HG5.out]; rfl
    have d2 : w5.cell? ⟨wr.heap.size, 2, none⟩ = some (.slice A4 n4 c4) := by rw [zC HG5.out]; rfl
    obtain ⟨q, hq⟩ : ∃ q, q = min n3 n4 := ⟨_, rfl⟩
    have HQM := zH hq
    have hmin : min (n3 : Int) (n4 : Int) = (q : Int) := by omega
    have hc3 := H3.out.2.1
    have q0 : (0 : Int) ≤ (q : Int) := by omega
    have q1 : (q : Int) ≤ (c3 : Int) := by omega
    clear h5 k0 hc3 hq
    go_wp2_with fail
    obtain ⟨wl, hwl⟩ : ∃ wl, wl = wr := ⟨_, rfl⟩
    have HA5 : Hid (∀ b, A5.map (·.block) = some b → b ≠ wr.heap.size) := zH (fun b hb e => by
     subst e
     rcases HL5.out with h | h
     · rw [h] at hb
       exact HO.out.offNew zN hb.symm
     · rw [hb] at h; injection h with h; rw [zS] at h; have := HB4.out.size; have := zzb HGQ.out; omega)
    rw [← hwl] at HG5 d1 d2 H3 H4 HB HA5
    rw [← hwl]
    clear hwl
    obtain ⟨zp, hzp⟩ : ∃ zp, zp = lg.zip st := ⟨_, rfl⟩
    have HZP := zH hzp
    have HZL : Hid (zp.length = q) := zH (by rw [hzp, List.length_zip, ← H3.out.len, ← H4.out.len]; exact HQM.out.symm)
    have HQ20 : Hid (q ≤ 20) := zH (by have h1 := H3.out.len; have h2 : lg.length ≤ 20 := HLG.out; have h3 := HQM.out; omega)
    clear hzp d1 d2 hmin
    go_loopw [5, 33] (fun fv kv wx => ∃ (k : Nat) (A6 : Option Addr) (c6 : Nat) (G6 : Nat → Prop), k ≤ q ∧ kv = .int .i64 (k : Int) ∧ fv = .slice A6 (m + 1 + 2 * k) c6 ∧ OwnF tFld 114 G6 wx w.heap.size A6 (m + 1 + 2 * k) c6 (idxF (l.take i) ++ [unum 1 rw_] ++ ((zp.take k).map uuK).flatten) ∧ Below w.heap.size w wx ∧
     Hid (wx.heap[wl.heap.size]? = some (.cells #[.int .i64 rw_, .slice A3 n3 c3, .slice A4 n4 c4] 97 (0, 0))) ∧ Hid (∀ b, A6.map (·.block) = some b → b ≠ wl.heap.size)) (fun _ kv _ => q - (intOf kv).toNat)
    case atStart => exact ⟨0, A5, c5, _, Nat.zero_le _, rfl, rfl, by rw [List.take_zero]; simpa using HO5.out, HB5.out, HG5, HA5⟩
    case round =>
     obtain ⟨k, A6, c6, G6, hk, rfl, rfl, ho, hbx, HGX, HA6⟩ := hrel
     have HOX := zH ho; have HBX := zH hbx
     have hsx := hbx.size
     clear ho hbx
     by_cases hkq : k < q
     · have hkz : k < zp.length := by rw [HZL.out]; exact hkq
       have hk3 : k < lg.length := by rw [← H3.out.len]; have := HQM.out; omega
       have hk4 : k < st.length := by rw [← H4.out.len]; have := HQM.out; omega
       have hx3 := H3.out.keep (w' := wr) (Nat.le_of_lt (zzb HGX.out)) (fun b hb _ => (HBX.out.block b hb).trans (HB.out.block b hb).symm)
       have hx4 := H4.out.keep (w' := wr) (Nat.le_of_lt (zzb HGX.out)) (fun b hb _ => (HBX.out.block b hb).trans (HB.out.block b hb).symm)
       obtain ⟨b3, o3, u, rfl, _, _, hr3, y3⟩ := hx3.at1 hk3 rfl
       obtain ⟨b4, o4, cs4, rfl, hb4w, _, hr4, hc4⟩ := hx4.at_ hk4 (by decide)
       obtain ⟨x, hx⟩ : ∃ x, x = lg[k] := ⟨_, rfl⟩
       obtain ⟨z, hz⟩ : ∃ z, z = st[k] := ⟨_, rfl⟩
       rw [← hx] at hr3
       rw [← hz] at hr4
       obtain ⟨hu, _, _⟩ := hr3
       injection hu with hu
       subst hu
       obtain ⟨rfl, _⟩ := hr4
       obtain ⟨z0, z1, z2, z3, z4, z5, z6, z7, z8, z9⟩ := kqD (uuZ hc4)
       have HZX := zH (show (x, z) = zp[k] by have := HZP.out; subst this; rw [hx, hz, List.getElem_zip])
       have HZO : Hid z.ok := zH (by rw [hz]; exact HSO.out _ (List.getElem_mem hk4))
       have HSN := zH (kqx zp k hkz HZX.out)
       have d2 : wr.cell? ⟨wl.heap.size, 2, none⟩ = some (.slice (some ⟨b4, o4, none⟩) n4 c4) := by rw [zC HGX.out]; rfl
       have j0 : (0 : Int) ≤ (k : Int) := by omega
       have j1 : (k : Int) < (q : Int) := by omega
       have j2 : (k : Int) < (n4 : Int) := by have := HQM.out; omega
       have j3 : (k : Int) ≤ 20 := by have := HQ20.out; omega
       have HMK : Hid (m + 1 + 2 * k + 2 ≤ 68719476736) := zH (by have := HML.out; omega)
       have HN6 : Hid (∀ b, A6.map (·.block) = some b → w.heap.size ≤ b ∧ b < wr.heap.size) := zH (fun b hb => (HOX.out.lies' hb).2)
       have HB4W := zH hb4w
       clear hx hz hc4 hx3 hx4 hb4w
       go_upto_region 9 with fail
       go_region_held3 (fun w' => w'.cell? ⟨wl.heap.size, 2, none⟩ = some (.slice (some ⟨b4, o4, none⟩) n4 c4) ∧ w'.cell? ⟨b4, o4 + k * 10, none⟩ = some (.int .i64 z.count) ∧ w'.cell? ⟨b4, o4 + k * 10 + 1, none⟩ = some (.bool z.hasNull) ∧ w'.cell? ⟨b4, o4 + k * 10 + 2, none⟩ = some (.bool z.min.null) ∧ w'.cell? ⟨b4, o4 + k * 10 + 3, none⟩ = some (.int .i64 z.min.n) ∧ w'.cell? ⟨b4, o4 + k * 10 + 4, none⟩ = some (.string z.min.s) ∧ w'.cell? ⟨b4, o4 + k * 10 + 5, none⟩ = some (.bool z.max.null) ∧ w'.cell? ⟨b4, o4 + k * 10 + 6, none⟩ = some (.int .i64 z.max.n) ∧ w'.cell? ⟨b4, o4 + k * 10 + 7, none⟩ = some (.string z.max.s) ∧ w'.cell? ⟨b4, o4 + k * 10 + 8, none⟩ = some (.int .i64 z.sum) ∧ w'.cell? ⟨b4, o4 + k * 10 + 9, none⟩ = some (.bool z.over))
        (first | go_keep | (go_split_ands; refine ⟨?_, ?_, ?_, ?_, ?_, ?_, ?_, ?_, ?_, ?_, ?_⟩ <;> exact zze (by assumption) (by assumption)) | (go_split_ands; refine ⟨?_, ?_, ?_, ?_, ?_, ?_, ?_, ?_, ?_, ?_, ?_⟩ <;> first | exact hgz.cell (by assumption) (fun e => HA6.out _ e.symm rfl) | exact hgz.cell (by assumption) (fun e => by have h1 : w.heap.size ≤ b4 := (HN6.out _ e.symm).1; have h2 := HB4W.out; omega)))
        (first
          | (go_at_call_of 60 (Value.int .i64 2); refine (vvh _ _ _).mono ?_; rintro e w7 ⟨rfl, hb7⟩)
          | (go_at_call 62; refine (qzW z HZO.out _).mono ?_; rintro e w8 ⟨A8, n8, c8, rfl, ho8, hb8⟩)
          | (go_at_call 61; refine (kqp _ _ _ _ _).mono ?_; rintro e w9 ⟨rfl, hb9⟩)
          | (have hbw : Below wr.heap.size wr w9 := (by (repeat (first | exact zR | assumption | refine vvH ?_ (by assumption) | refine yy1 ?_ _ | refine vvI ?_)))
             have hb87 : wr.heap.size ≤ w7.heap.size := hb7.size
             have hs8 : Sl tU8 (fun b => wr.heap.size ≤ b) w9 A8 n8 c8 (yyL z) := ((ho8.own.sl.weaken (fun b hb _ => by (rcases hb with hb | hb; exact hb.elim; exact Nat.le_trans hb87 hb.2))).below hb9 zN)
             refine xxs (T := tFld) kq2 (w9.alloc _) w rfl (.tmp 38) (.tmp 48) rfl w.heap.size A6 (m + 1 + 2 * k) c6 _ rfl G6 (fun b => (wr.heap.size ≤ b ∧ b < w9.heap.size) ∨ b = w9.heap.size) ((HOX.out.keepB hbw).alloc _) ((HBX.out.trans (hbw.mono hsx)).alloc (by have := hbw.size; omega) _) zN
              (some ⟨w9.heap.size, 0, none⟩) 2 2 [unum 2 x, ftxt 3 (yyL z)] rfl (Sl.news (T := tFld) (F := fun b => wr.heap.size ≤ b) (Reps.mk2 (zzX (by unfold i64; omega)) ⟨A8, n8, c8, rfl, by unfold i64; simp [ftxt], by simp [ftxt], hs8⟩) 114 2 rfl (by omega) _ rfl)
              (fun b h1 h2 _ h4 => by have h5 := (HN6.out b (by rw [h1]; rfl)).2; have := hbw.size; omega) HMK.out ?_
             intro A9 c9 wz hz9; have hgz := hz9.grown
             have hlt9 : wl.heap.size < w9.heap.size := Nat.lt_of_lt_of_le (zzb HGX.out) hbw.size
             have HGZ := zH ((hgz.block wl.heap.size (by rw [zS]; exact Nat.lt_succ_of_lt hlt9) (fun e => HA6.out _ e.symm rfl)).trans ((Below.heap_alloc w9 _ _ hlt9).trans ((hbw.block _ (zzb HGX.out)).trans HGX.out)))
             have HAZ : Hid (∀ b, A9.map (·.block) = some b → b ≠ wl.heap.size) := zH (fun b hb => by
              rcases hz9.lies with h | h
              · rw [h] at hb; exact HA6.out b hb
              · rw [hb] at h; injection h with h; rw [zS] at h; omega)))
       all_goals
        go_wp2_with fail
        go_roundw
        case rel =>
         have e2 := hz9.own
         exact ⟨k + 1, A9, c9, _, by omega, by go_num, by rw [show m + 1 + 2 * (k + 1) = m + 1 + 2 * k + 2 by omega], by rw [show m + 1 + 2 * (k + 1) = m + 1 + 2 * k + 2 by omega, HSN.out, ← List.append_assoc]; exact e2, hz9.below, HGZ, HAZ⟩
        case measure => simp [intOf]; omega
     · obtain rfl : k = q := by omega
       have HFI : Hid (idxF (l.take (i + 1)) = idxF (l.take i) ++ [unum 1 rw_] ++ ((zp.take k).map uuK).flatten) := zH (by
        rw [qz7 l i hil HX.out, List.append_assoc, show zp.take k = zp from zL (by rw [HZL.out]; exact Nat.le_refl _), HZP.out]; rfl)
       go_wp2_with fail
       go_roundw
       case rel => exact ⟨i + 1, m + 1 + 2 * k, A6, c6, G6, by omega, by go_num, rfl, by rw [HFI.out]; exact HOX.out, HBX.out⟩
       case measure => simp [intOf]; omega
  · obtain rfl : i = n := by omega
    have e1 : l.take i = l := zL (by rw [← HL.out]; exact Nat.le_refl _)
    rw [e1] at HO
    have hm : m ≤ 4294967296 := by
     rw [HO.out.len]
     have h5 := vv9 l (fun s hs => (HOK.out s hs).1)
     have := HL.out
     omega
    have HM := zH hm
    clear e1 hm
    go_wp2_with (first
     | (go_at_call 63; refine (kqq g _ A2 m c2 (idxF l) _ (HT.out.keep HB.out) HO.out.sl HM.out HW.out).mono ?_; rintro e w2 ⟨A3, n3, c3, rfl, ho3, hb3⟩; have HO3 := zH ho3; have HB3 := zH hb3; clear ho3 hb3)
     | fail)
    go_ret
    exact ⟨A3, n3, c3, rfl, HO3.out.down hsz, HB.out.trans (HB3.out.mono hsz)⟩
end
section
open Go Go.RowKit
def sumI (l : List Int) : Int := l.foldl (· + ·) 0
theorem sumI_snoc (l : List Int) (x : Int) : sumI (l ++ [x]) = sumI l + x := by unfold sumI; rw [List.foldl_append]; rfl
theorem i64_low32 (a : Nat) (ha : a < 9223372036854775808) : bits .and .i64 (a : Int) 4294967295 = (a : Int) % 4294967296 := by
 show IntKind.i64.wrap ((BitVec.ofInt 64 (a : Int) &&& BitVec.ofInt 64 4294967295).toNat : Int) = _
 have e : (BitVec.ofInt 64 (a : Int) &&& BitVec.ofInt 64 4294967295).toNat = a % 4294967296 := by
  rw [BitVec.toNat_and, ofInt_u64 a (by omega), show BitVec.ofInt 64 4294967295 = BitVec.ofNat 64 4294967295 by decide, BitVec.toNat_ofNat]
  have := Nat.and_two_pow_sub_one_eq_mod a 32
  simpa using this
 rw [e, IntKind.wrap_i64]
 omega
theorem rsum_any (F : Nat → Prop) (A : Option Addr) (n c : Nat) (l : List Int) (w : World) (h : Sl tI64 F w A n c l) (hn : n ≤ 4096) :
 Calls Tryz.prog 115 #[.slice A n c] w fun e w' => e = .returned (.tuple #[.int .i64 (if yy6 (sumI l) then sumI l else 0), .bool (yy6 (sumI l))]) ∧ w = w' := by
 have HL := zH h.len; have HH := zH h; have HN := zH hn
 obtain ⟨ok, hok⟩ : ∃ ok, ok = yy6 (sumI l) := ⟨_, rfl⟩
 obtain ⟨z, hz⟩ : ∃ z, z = if yy6 (sumI l) then sumI l else 0 := ⟨_, rfl⟩
 rw [← hz, ← hok]
 rw [← hok] at hz
 have HOK := zH hok; have HZ := zH hz
 clear h hok hz
 go_enter Tryz.func115, Tryz.ntmps115
 go_wp2_with fail
 go_loopw [4, 5, 6, 7] (fun hv lv iv _ wr => ∃ (k : Nat) (H L : Int), k ≤ n ∧ iv = .int .i64 (k : Int) ∧ hv = .int .i64 H ∧ lv = .int .i64 L ∧ Hid (H * 4294967296 + L = sumI (l.take k)) ∧ Hid (-2147483648 * (k : Int) ≤ H ∧ H ≤ 2147483647 * (k : Int) ∧ 0 ≤ L ∧ L ≤ 4294967295 * (k : Int)) ∧ w = wr) (fun _ _ iv _ _ => n - (intOf iv).toNat)
 case atStart => exact ⟨0, 0, 0, Nat.zero_le _, rfl, rfl, rfl, zH rfl, zH (by omega), rfl⟩
 case round =>
  obtain ⟨k, H, L, hk, rfl, rfl, rfl, HS, HB, rfl⟩ := hrel
  obtain ⟨b1, b2, b3, b4⟩ := HB.out
  have hH0 : -9000000000000 ≤ H := by omega
  have hH1 : H ≤ 9000000000000 := by omega
  have hL1 : L ≤ 18000000000000 := by omega
  clear b1 b2 b4
  by_cases hlt : k < n
  · have hkl : k < l.length := by rw [← HL.out]; exact hlt
    obtain ⟨b, o, u, rfl, _, _, hr, hc⟩ := HH.out.at1 hkl rfl
    obtain ⟨x, hx⟩ : ∃ x, x = l[k] := ⟨_, rfl⟩
    obtain ⟨hr, hx0, hx1⟩ := hr
    injection hr with hr; subst hr
    rw [← hx] at hc hx0 hx1
    have HS2 := zH (show sumI (l.take (k + 1)) = sumI (l.take k) + x by rw [zT hkl, sumI_snoc, hx])
    have hh0 : -2147483648 ≤ x / 4294967296 := by omega
    have hh1 : x / 4294967296 ≤ 2147483647 := by omega
    have HX := zH (show -9223372036854775808 ≤ x ∧ x ≤ 9223372036854775807 from ⟨hx0, hx1⟩)
    have hi0 : (0 : Int) ≤ (k : Int) := by omega
    have hi1 : (k : Int) < (n : Int) := by omega
    clear hx
    go_wp2_with fail
    go_roundw
    case rel => exact ⟨k + 1, _, _, by omega, by go_num, rfl, rfl, zH (by rw [HS2.out, ← HS.out]; omega), zH (by have := HB.out; have := HX.out; omega), trivial⟩
    case measure => simp [intOf]; omega
  · obtain rfl : k = n := by omega
    have e1 : l.take k = l := zL (by rw [← HL.out]; exact Nat.le_refl _)
    rw [e1] at HS
    obtain ⟨m, hm⟩ : ∃ m : Nat, L = (m : Int) := ⟨L.toNat, by omega⟩
    have hand : bits BinOp.and IntKind.i64 L 4294967295 = L % 4294967296 := by
     rw [hm]
     exact i64_low32 m (by omega)
    have hb4 : 0 ≤ L % 4294967296 ∧ L % 4294967296 ≤ 4294967295 := by omega
    obtain ⟨q, hq⟩ : ∃ q, L % 4294967296 = q := ⟨_, rfl⟩
    obtain ⟨p, hp⟩ : ∃ p, H + L / 4294967296 = p := ⟨_, rfl⟩
    have hsum : p * 4294967296 + q = sumI l := by rw [← HS.out]; omega
    rw [hq] at hand hb4
    have HSUM := zH hsum; have HP := zH hp
    clear hm hq e1
    by_cases hf : -2147483648 ≤ p ∧ p < 2147483648
    · obtain rfl : ok = true := by rw [HOK.out]; unfold yy6; exact decide_eq_true (by rw [← hsum]; omega)
      have HZ2 := zH (show z = p * 4294967296 + q by rw [HZ.out, hsum]; rfl)
      have d1 : ¬ H + L / 4294967296 < -2147483648 := by omega
      have d2 : ¬ 2147483648 ≤ H + L / 4294967296 := by omega
      have d3 : ¬ H + L / 4294967296 ≥ 2147483648 := by omega
      clear hf hsum hp
      go_wp2_with fail
      go_ret2
      exact ⟨by rw [HZ2.out, ← HP.out]; rfl, rfl⟩
    · obtain rfl : ok = false := by rw [HOK.out]; unfold yy6; exact decide_eq_false (by rw [← hsum]; omega)
      have HZ2 := zH (show z = 0 from HZ.out)
      by_cases hlo : p < -2147483648
      · have d1 : H + L / 4294967296 < -2147483648 := by omega
        clear hf hsum hp hlo
        go_wp2_with fail
        go_ret2
        exact ⟨by rw [HZ2.out]; rfl, rfl⟩
      · have d1 : ¬ H + L / 4294967296 < -2147483648 := by omega
        have d2 : 2147483648 ≤ H + L / 4294967296 := by omega
        have d3 : H + L / 4294967296 ≥ 2147483648 := by omega
        clear hf hsum hp hlo
        go_wp2_with fail
        go_ret2
        exact ⟨by rw [HZ2.out]; rfl, rfl⟩
end
section
open Go Go.RowKit
structure ColW0 (w wc : World) : Prop where
 eq : wc = w.alloc (.cells #[.int .i64 0, .int .i64 0, .int .i64 0, .slice none 0 0] 27)
 below : Below w.heap.size w wc
 size : wc.heap.size = w.heap.size + 1
 z : ColZ w.heap.size wc
theorem colW0 (w : World) : ∃ wc, ColW0 w wc := ⟨_, rfl, (zR).alloc zN _, by simp, ⟨heap_alloc_new w _⟩⟩
theorem ColZ.cells0 {g : Nat} {w : World} (h : ColZ g w) :
 (w.cell? ⟨g, 0, none⟩ = some (.int .i64 0) ∧ w.frozen? ⟨g, 0, none⟩ = false) ∧ (w.cell? ⟨g, 1, none⟩ = some (.int .i64 0) ∧ w.frozen? ⟨g, 1, none⟩ = false) ∧ (w.cell? ⟨g, 2, none⟩ = some (.int .i64 0) ∧ w.frozen? ⟨g, 2, none⟩ = false) ∧ (w.cell? ⟨g, 3, none⟩ = some (.slice none 0 0) ∧ w.frozen? ⟨g, 3, none⟩ = false) := zzB h.at_
structure RuC (w0 : World) (g : Nat) (m enc tx : Int) (F : Nat → Prop) (A : Option Addr) (n c : Nat) (ss : List (Int × List UInt8)) (W : World) : Prop where
 hold : W.heap[g]? = some (.cells #[.int .i64 m, .int .i64 enc, .int .i64 tx, .slice A n c] 27 (0, 0))
 own : OwnF zzw 55 F W w0.heap.size A n c ss
 below : Below w0.heap.size w0 W
 ng : ¬ F g
 na : A ≠ some ⟨g, 0, none⟩
 lo : w0.heap.size ≤ g
theorem RuC.keep {w0 w w' : World} {g : Nat} {m enc tx : Int} {F : Nat → Prop} {A : Option Addr} {n c : Nat} {ss : List (Int × List UInt8)} (h : RuC w0 g m enc tx F A n c ss w) (hb : Below w.heap.size w w') : RuC w0 g m enc tx F A n c ss w' :=
 ⟨(hb.block _ (zzb h.hold)).trans h.hold, h.own.keepB hb, h.below.trans (hb.mono h.below.size), h.ng, h.na, h.lo⟩
theorem RuC.new {w0 w : World} {m : Int} {F : Nat → Prop} {A1 : Option Addr} {n1 c1 : Nat} {bs : List UInt8} (hs : Sl tU8 F w A1 n1 c1 bs) (hb : Below w0.heap.size w0 w) :
 RuC w0 (w.heap.size + 1) m 1 0 (fun b => F b ∧ b < w.heap.size) (some ⟨w.heap.size, 0, none⟩) 1 1 [(1, bs)] ((w.alloc (.cells #[.int .i64 1, .slice A1 n1 c1] 55)).alloc (.cells #[.int .i64 m, .int .i64 1, .int .i64 0, .slice (some ⟨w.heap.size, 0, none⟩) 1 1] 27)) := by
 have h1 := OwnF.newL (T := zzw) (e := 55) (B := w0.heap.size) (n := 1) (Reps.mk1 (T := zzw) (x1 := ((1 : Int), bs)) (F := F) (w := w) ⟨[.int .i64 1], _, rfl, ⟨rfl, yyn 1 (by omega)⟩, A1, n1, c1, rfl, hs⟩) hb.size rfl (by omega) (.cells #[.int .i64 1, .slice A1 n1 c1] 55) rfl
 have hg := heap_alloc_new (w.alloc (.cells #[.int .i64 1, .slice A1 n1 c1] 55)) (.cells #[.int .i64 m, .int .i64 1, .int .i64 0, .slice (some ⟨w.heap.size, 0, none⟩) 1 1] 27)
 rw [zS] at hg
 refine ⟨hg, h1.alloc _, (hb.alloc hb.size _).alloc (by have := hb.size; rw [zS]; omega) _, fun h => by omega, fun e => ?_, by have := hb.size; omega⟩
 injection e with e; injection e with e; omega
theorem RuC.alloc {w0 w : World} {g : Nat} {m enc tx : Int} {F : Nat → Prop} {A : Option Addr} {n c : Nat} {ss : List (Int × List UInt8)} (h : RuC w0 g m enc tx F A n c ss w) (o : Obj) : RuC w0 g m enc tx F A n c ss (w.alloc o) :=
 h.keep ((zR).alloc zN _)
theorem RuC.push {w0 w w' : World} {g : Nat} {m enc tx : Int} {F F' : Nat → Prop} {A A' : Option Addr} {n c n' c' : Nat} {ss ss' : List (Int × List UInt8)} (h : RuC w0 g m enc tx F A n c ss w) (ha : ApdL zzw 55 F' w0 w w' w0.heap.size A A' n' c' ss') (hF : ¬ F' g) :
 RuC w0 g m enc tx F' A' n' c' ss' (w'.setCell ⟨g, 3, none⟩ (.slice A' n' c')) := by
 have hg := zzb h.hold
 have hna : A.map (·.block) ≠ some g := fun e => by
  obtain ⟨e1, _⟩ := h.own.lies (b := g) (by rw [zzd]; exact e)
  exact h.na e1
 have hna' : A'.map (·.block) ≠ some g := fun e => by
  rcases ha.lies with h1 | h1
  · exact hna (h1.symm.trans e)
  · rw [e] at h1; injection h1 with h1; omega
 have h5 : w'.heap[g]? = some (.cells #[.int .i64 m, .int .i64 enc, .int .i64 tx, .slice A n c] 27 (0, 0)) := (ha.grown.block g hg (fun e => hna e.symm)).trans h.hold
 have hn' : A' ≠ some ⟨g, 0, none⟩ := fun e => hna' (by rw [e]; rfl)
 exact ⟨zza h5 rfl, ha.own.setCell (p := ⟨g, 3, none⟩) hF hn' _, zzf ha.below h.lo _, hF, hn', h.lo⟩
theorem RuC.hold' {w0 w w' : World} {g : Nat} {m enc tx : Int} {F F' : Nat → Prop} {A A' : Option Addr} {n c n' c' : Nat} {ss ss' : List (Int × List UInt8)} (h : RuC w0 g m enc tx F A n c ss w) (ha : ApdL zzw 55 F' w0 w w' w0.heap.size A A' n' c' ss') :
 w'.cell? ⟨g, 3, none⟩ = some (.slice A n c) ∧ w'.frozen? ⟨g, 3, none⟩ = false := by
 have hna : A.map (·.block) ≠ some g := fun e => by
  obtain ⟨e1, _⟩ := h.own.lies (b := g) (by rw [zzd]; exact e)
  exact h.na e1
 exact (zzB ((ha.grown.block g (zzb h.hold) (fun e => hna e.symm)).trans h.hold)).2.2.2
theorem RuC.set1 {w0 w : World} {g : Nat} {m enc tx enc' : Int} {F : Nat → Prop} {A : Option Addr} {n c : Nat} {ss : List (Int × List UInt8)} (h : RuC w0 g m enc tx F A n c ss w) : RuC w0 g m enc' tx F A n c ss (w.setCell ⟨g, 1, none⟩ (.int .i64 enc')) :=
 ⟨zza h.hold rfl, h.own.setCell (p := ⟨g, 1, none⟩) h.ng h.na _, zzf h.below h.lo _, h.ng, h.na, h.lo⟩
theorem RuC.set2 {w0 w : World} {g : Nat} {m enc tx tx' : Int} {F : Nat → Prop} {A : Option Addr} {n c : Nat} {ss : List (Int × List UInt8)} (h : RuC w0 g m enc tx F A n c ss w) : RuC w0 g m enc tx' F A n c ss (w.setCell ⟨g, 2, none⟩ (.int .i64 tx')) :=
 ⟨zza h.hold rfl, h.own.setCell (p := ⟨g, 2, none⟩) h.ng h.na _, zzf h.below h.lo _, h.ng, h.na, h.lo⟩
theorem r16put_no (k : Int) (F : Nat → Prop) (A : Option Addr) (n c : Nat) (l : List VV) (w : World) (h : Sl tVV F w A n c l) (hn : n ≤ 4096) (hT : Lib.Utf8Tabs 0 1 w) (hno : ¬ colE k l = 0) :
 Calls Tryz.prog 13 #[.int .i64 k, .slice A n c] w (yyu k l w) := by
 have hn1 : ¬ (n : Int) > 4096 := by omega
 have hn2 : ¬ (4096 : Int) < n := by omega
 obtain ⟨wc, hwc⟩ := colW0 w
 have HWC := zH hwc; have HL := zH h.len
 have HH := zH (h.below hwc.below zN); have HT := zH (zzc hT hwc.below)
 have HR := zH (show colR k l = (0, 0, 0, []) from if_neg hno)
 by_cases hk : 1 ≤ k ∧ k ≤ 7
 · have k1 : ¬ k < 1 := by omega
   have k2 : ¬ k > 7 := by omega
   have k3 : ¬ 7 < k := by omega
   have hq : l.all (mayV k) = false := by
    cases hq : l.all (mayV k) with
    | false => rfl
    | true => exact absurd (by unfold colE; rw [if_pos hk, hq]; rfl) hno
   have HE := zH (show colE k l = 21 by unfold colE; rw [if_pos hk, hq]; rfl)
   have HQ := zH hq
   clear h hn hT hwc hno hq hk
   go_enter Tryz.func13, Tryz.ntmps13
   go_upto_region 1 with fail
   rw [← HWC.out.eq]
   go_wp2_with fail
   go_loopw [6] (fun iv wr => ∃ i : Nat, i ≤ n ∧ iv = .int .i64 (i : Int) ∧ Hid ((l.take i).all (mayV k) = true) ∧ Below wc.heap.size wc wr) (fun iv _ => n - (intOf iv).toNat)
   case atStart => exact ⟨0, Nat.zero_le _, rfl, zH rfl, zR⟩
   case round =>
    obtain ⟨i, hi, rfl, HA, hb⟩ := hrel
    have HB := zH hb
    have hsz := hb.size
    clear hb
    by_cases hlt : i < n
    · have hil : i < l.length := by rw [← HL.out]; exact hlt
      obtain ⟨b, o, cs, rfl, _, hbl, hrep, hc⟩ := (HH.out.below HB.out zN).at_ hil (by decide)
      obtain ⟨v, hf⟩ : ∃ v, v = l[i] := ⟨_, rfl⟩
      obtain ⟨rfl, hok⟩ := hrep
      rw [← hf] at hc hok
      have e1 : (l.take (i + 1)).all (mayV k) = ((l.take i).all (mayV k) && mayV k v) := by
       rw [zT hil, ← hf]; simp
      rw [HA.out, Bool.true_and] at e1
      obtain ⟨q2, hq2⟩ : ∃ q2, q2 = mayV k v := ⟨_, rfl⟩
      have HM := zH (vvW k v hok)
      rw [← hq2] at HM e1
      have HE1 := zH e1
      obtain ⟨nu, x, s⟩ := v
      obtain ⟨g0, g1, g2⟩ := zzR hc
      have g0 : _ = some (Value.bool nu) := g0
      have g1 : _ = some (Value.int .i64 x) := g1
      have g2 : _ = some (Value.string s) := g2
      have hi0 : (0 : Int) ≤ (i : Int) := by omega
      have hi1 : (i : Int) < (n : Int) := by omega
      clear hc hf hq2 e1 hok HA
      cases q2
      · go_wp2_with (first
         | (go_at_call 47; refine (HM.out _ (zzc HT.out HB.out)).mono ?_; rintro e w5 ⟨rfl, hb5⟩; have HB5 := zH hb5; have HG5 := zH ((HWC.out.z.keep HB.out).keep hb5); obtain ⟨⟨z0, y0⟩, ⟨z1, y1⟩, ⟨z2, y2⟩, ⟨z3, y3⟩⟩ := HG5.out.cells0; clear hb5)
         | fail)
        refine bodyPost_ret (zzm rfl _ _ w.heap.size 27 #[.int .i64 0, .int .i64 0, .int .i64 0, .slice none 0 0] (0, 0) _ rfl (vv6 HG5.out.at_ _ _ _ _) Tryz.underlying27 rfl (by kernel_rfl)) rfl ?_
        refine ⟨none, 0, 0, by rw [HR.out, HE.out]; rfl, by rw [HR.out]; exact Sl.nil_ _ _ _, zzI (HWC.out.below.trans ((HB.out.trans (HB5.out.mono hsz)).mono HWC.out.below.size)) zN _ _ _ _⟩
      · go_wp2_with (first
         | (go_at_call 47; refine (HM.out _ (zzc HT.out HB.out)).mono ?_; rintro e w5 ⟨rfl, hb5⟩; have HB5 := zH hb5; clear hb5)
         | fail)
        go_roundw
        case rel => exact ⟨i + 1, by omega, by go_num, zH HE1.out, HB.out.trans (HB5.out.mono hsz)⟩
        case measure => simp [intOf]; omega
    · exfalso
      obtain rfl : i = n := by omega
      have e1 := HA.out
      rw [zL (by rw [← HL.out]; exact Nat.le_refl _), HQ.out] at e1
      cases e1
 · have HE := zH (show colE k l = 1 from if_neg hk)
   have HG := zH hwc.z
   obtain ⟨⟨z0, y0⟩, ⟨z1, y1⟩, ⟨z2, y2⟩, ⟨z3, y3⟩⟩ := hwc.z.cells0
   by_cases h1 : k < 1
   · clear h hn hT hwc hno hk
     go_enter Tryz.func13, Tryz.ntmps13
     go_upto_region 1 with fail
     rw [← HWC.out.eq]
     go_wp2_with fail
     refine bodyPost_ret (zzm rfl _ _ w.heap.size 27 #[.int .i64 0, .int .i64 0, .int .i64 0, .slice none 0 0] (0, 0) _ rfl (vv6 HG.out.at_ _ _ _ _) Tryz.underlying27 rfl (by kernel_rfl)) rfl ?_
     refine ⟨none, 0, 0, by rw [HR.out, HE.out]; rfl, by rw [HR.out]; exact Sl.nil_ _ _ _, zzI HWC.out.below zN _ _ _ _⟩
   · have h2 : k > 7 := by omega
     have h3 : 7 < k := h2
     clear h hn hT hwc hno hk
     go_enter Tryz.func13, Tryz.ntmps13
     go_upto_region 1 with fail
     rw [← HWC.out.eq]
     go_wp2_with fail
     refine bodyPost_ret (zzm rfl _ _ w.heap.size 27 #[.int .i64 0, .int .i64 0, .int .i64 0, .slice none 0 0] (0, 0) _ rfl (vv6 HG.out.at_ _ _ _ _) Tryz.underlying27 rfl (by kernel_rfl)) rfl ?_
     refine ⟨none, 0, 0, by rw [HR.out, HE.out]; rfl, by rw [HR.out]; exact Sl.nil_ _ _ _, zzI HWC.out.below zN _ _ _ _⟩
end
end Go.Proofs.YtpmglcachffojaaGreatDoor
