/- A part of what Chunks leans on. -/
import Derived.Test.YtpmglcachffojaaGreatDoorZ3
import Derived.Test.YtpmglcachffojaaGreatDoorZ4
import Derived.Test.YtpmglcachffojaaGreatDoorZ5
set_option maxRecDepth 100000
set_option maxHeartbeats 16000000
namespace Go.Proofs.YtpmglcachffojaaGreatDoor
section
open Go Go.RowKit
attribute [local go_sem ↓] Go.wp_at_zero Go.wp_at_succ
theorem boxed (w : World) (cs : List Value) (t : TypeId) : ∃ wb, wb = w.alloc (.cells cs.toArray t) ∧ Below w.heap.size w wb ∧ (∀ j u, cs[j]? = some u → wb.cell? ⟨w.heap.size, j, none⟩ = some u) ∧ wb.heap.size = w.heap.size + 1 ∧
 (∀ {α : Type} {T : Ty α} {F : Nat → Prop} {A : Option Addr} {n c : Nat} {xs : List α}, Sl T F w A n c xs → Sl T F wb A n c xs) :=
 ⟨_, rfl, (Below.refl _ w).alloc zN _, fun j u hu => by rw [World.cell?_alloc_new]; simpa using hu, by simp, fun h => h.alloc _⟩
theorem xq8 (F : Nat → Prop) (A : Option Addr) (n c : Nat) (l : List Fld) (w : World) (h : Sl tFld F w A n c l) (hlen : n ≤ 4294967296) (hl : wlen l ≤ 4294967200) :
 Calls Tryz.prog 67 #[.slice A n c] w (xq6 l w) := by
 have HL := zH h.len
 have HNEW := zH (OwnB.new0 w w.heap.size zN)
 have HB0 := zH (show Below w.heap.size w (w.alloc (.cells #[] 5)) from (zR).alloc zN _)
 go_enter Tryz.func67, Tryz.ntmps67
 go_wp2
 go_loopw [4, 5] (fun v i wr => ∃ (k : Nat) (L : List UInt8) (A2 : Option Addr) (m c2 : Nat), k ≤ n ∧ i = .int .i64 k ∧ v = .slice A2 m c2 ∧ OwnB wr w.heap.size A2 m c2 L ∧ wput (l.take k) = some L ∧ Below w.heap.size w wr)
  (fun _ i _ => n - (intOf i).toNat)
 case atStart => exact ⟨0, [], _, 0, 0, Nat.zero_le _, rfl, rfl, HNEW.out, by simp [wput], HB0.out⟩
 case round =>
  obtain ⟨k, L, A2, m, c2, hk, rfl, rfl, hown, hL, hb⟩ := hrel
  clear HNEW HB0
  by_cases hlt : k < n
  · have hkl : k < l.length := by rw [← HL.out]; exact hlt
    have HO := zH hown; have HW := zH hL; have HBR := zH hb
    have hsz := hb.size
    obtain ⟨b, o, cs, rfl, _, hbl, hrep, hc⟩ := (h.below hb zN).at_ hkl (by decide)
    clear hown hL hb
    obtain ⟨A3, n3, c3, rfl, ht, hn3, hs3⟩ := hrep
    obtain ⟨f, hf⟩ : ∃ f, f = l[k] := ⟨_, rfl⟩
    rw [← hf] at hc ht hn3 hs3
    have HF := zH hf; clear hf
    obtain ⟨g0, g1, g2, g3⟩ := qxV hc
    clear hc
    obtain ⟨ht0, ht1⟩ := ht
    obtain ⟨wb, hwb, hB, hC, hS, hK⟩ := boxed wr [.int .i64 f.tag, .bool f.bytes, .int .u64 (f.n : Int), .slice A3 n3 c3] 120
    have HBB := zH hB; have HC := zH hC; have HSZ := zH hS; have HS3 := zH (hK hs3); have HS1 := zH (Sl.any (hK HO.out.bs))
    have HOB := zH (HO.out.keepB hB)
    have H3L := zH hs3.len
    have HWB := zH hwb; clear hwb hB hC hS hK hs3
    by_cases htag : 1 ≤ f.tag ∧ f.tag ≤ 100
    · obtain ⟨tag, isb, fn, fb⟩ := f
      dsimp only at *
      obtain ⟨t, rfl⟩ := Int.eq_ofNat_of_zero_le (show 0 ≤ tag by omega)
      have htl : (t : Int) ≤ 100 := htag.2
      have htg : (1 : Int) ≤ (t : Int) := htag.1
      clear htag
      have hwl := uuj l k hkl
      rw [← HF.out] at hwl
      dsimp only at hwl
      have hLl : L.length ≤ wlen (l.take k) := jjI _ _ HW.out
      have hml := HO.out.len
      have h3l := H3L.out
      have hb1 : m + n3 + 20 ≤ 4294967200 := by omega
      have HM := zH hml
      clear hml h3l hLl hwl
      have hfin : ∀ (w' : World) (A' : Option Addr) (m' c' : Nat) (x : List UInt8), x = fld ⟨(t : Int), isb, fn, fb⟩ → OwnB w' w.heap.size A' m' c' (L ++ x) → Below w.heap.size w w' →
       ∃ (k' : Nat) (L' : List UInt8) (A'' : Option Addr) (m'' c'' : Nat), k' ≤ n ∧ Value.int .i64 ((k : Int) + 1) = .int .i64 k' ∧ Value.slice A' m' c' = .slice A'' m'' c'' ∧ OwnB w' w.heap.size A'' m'' c'' L' ∧ wput (l.take k') = some L' ∧ Below w.heap.size w w' := by
       intro w' A' m' c' x hx ho hbl'
       refine ⟨k + 1, L ++ x, A', m', c', by omega, by go_num, rfl, ho, ?_, hbl'⟩
       rw [zT hkl, ← HF.out, hx]
       exact uuk _ _ _ HW.out (by simp [jjG]; omega)
      have HFIN := zH hfin
      clear hfin
      cases isb
      · go_wp2_with (first
         | (go_at_call_of 128 (Value.slice A2 m c2); rw [← HWB.out]; refine (vvq (fun _ => True) A2 m c2 L _ _ HS1.out (by omega) (by omega) (by omega)).mono ?_; rintro e w1 ⟨A4, n4, c4, rfl, hown1, hb1⟩; have hn4 : n4 ≤ m + 10 := yy2 hown1 HM.out; have HO1 := zH hown1; have HB1 := zH hb1; have q2 := zzh hb1 (HC.out 2 _ rfl); clear hown1 hb1)
         | (go_at_call 128; refine (vvq (fun _ => True) A4 n4 c4 _ _ _ HO1.out.bs.any (by omega) (by omega) (by omega)).mono ?_; rintro e w2 ⟨A5, n5, c5, rfl, hown2, hb2⟩; have HO2 := zH hown2; have HB2 := zH hb2; clear hown2 hb2)
         | fail)
        go_roundw
        case rel =>
         have ho := HO2.out.down (B' := w.heap.size) (by have := HB1.out.size; have := HBB.out.size; omega)
         rw [List.append_assoc, show (8 * (t : Int)).toNat = 8 * t by omega, zz5] at ho
         exact HFIN.out _ _ _ _ _ (by simp [fld]) ho (HBR.out.trans ((HBB.out.trans ((HB1.out.trans (HB2.out.mono HB1.out.size)).mono HBB.out.size)).mono hsz))
        case measure => simp [intOf]; omega
      · go_wp2_with (first
         | (go_at_call_of 128 (Value.slice A2 m c2); rw [← HWB.out]; refine (vvq (fun _ => True) A2 m c2 L _ _ HS1.out (by omega) (by omega) (by omega)).mono ?_; rintro e w1 ⟨A4, n4, c4, rfl, hown1, hb1⟩; have hn4 : n4 ≤ m + 10 := yy2 hown1 HM.out; have HO1 := zH hown1; have HB1 := zH hb1; have q3 := zzh hb1 (HC.out 3 _ rfl); clear hown1 hb1)
         | (go_at_call 128; refine (vvq (fun _ => True) A4 n4 c4 _ _ _ HO1.out.bs.any (by omega) (by omega) (by omega)).mono ?_; rintro e w2 ⟨A5, n5, c5, rfl, hown2, hb2⟩; have hn5 : n5 ≤ n4 + 10 := yy2 hown2 HO1.out.len; have HO2 := zH (hown2.down (B' := w.heap.size) (by have := HB1.out.size; have := HBB.out.size; omega)); have HB2 := zH (HB1.out.trans (hb2.mono HB1.out.size)); have r3 := zzh hb2 q3; clear hown2 hb2 q3)
         | (at_builtin; refine apb w2 w rfl (.tmp 41) (.tmp 43) rfl w.heap.size A5 n5 c5 _ rfl HO2.out (HBR.out.trans ((HBB.out.trans (HB2.out.mono HBB.out.size)).mono hsz)) zN F A3 n3 c3 fb rfl (HS3.out.below HB2.out zN) (by omega) ?_; intro A6 c6 w6 h6 hb6 _)
         | fail)
        go_roundw
        case rel =>
         have ho := h6
         rw [List.append_assoc, List.append_assoc, show (8 * (t : Int) + 2).toNat = 8 * t + 2 by omega, zz5] at ho
         exact HFIN.out _ _ _ _ _ (by simp [fld, H3L.out]) ho hb6
        case measure => simp [intOf]; omega
    · have hbad : wput l = none := jjH l k hkl (by rw [← HF.out]; simp [jjG]; omega)
      have HBAD := zH hbad; clear hbad
      have hnot : f.tag < 1 ∨ 100 < f.tag := by omega
      have HBO := zH (show Below w.heap.size w (wr.alloc (.cells #[.int .i64 f.tag, .bool f.bytes, .int .u64 (f.n : Int), .slice A3 n3 c3] 120)) from HBR.out.alloc hsz _)
      clear htag HWB
      rcases hnot with hnot | hnot
      · go_wp2
        go_ret2
        refine ⟨none, 0, 0, by rw [HBAD.out]; rfl, ?_, HBO.out⟩
        rw [show dput l = [] by simp [dput, HBAD.out]]
        exact OwnB.nil_ _ _
      · have hnot2 : 1 ≤ f.tag := by omega
        go_wp2
        go_ret2
        refine ⟨none, 0, 0, by rw [HBAD.out]; rfl, ?_, HBO.out⟩
        rw [show dput l = [] by simp [dput, HBAD.out]]
        exact OwnB.nil_ _ _
  · obtain rfl : k = n := by omega
    have hfull : wput l = some L := by rw [← hL, zL (by rw [← HL.out]; exact Nat.le_refl _)]
    have HFU := zH hfull; clear hfull hL
    go_wp2
    go_ret2
    refine ⟨A2, m, c2, by rw [HFU.out]; rfl, ?_, hb⟩
    rw [show dput l = L by simp [dput, HFU.out]]
    exact hown
end
section
open Go Go.RowKit
attribute [local go_sem ↓] Go.wp_at_zero Go.wp_at_succ
end
end Go.Proofs.YtpmglcachffojaaGreatDoor
