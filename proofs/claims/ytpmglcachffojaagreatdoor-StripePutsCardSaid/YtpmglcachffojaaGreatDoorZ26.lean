/- A part of what Puts leans on. -/
import Derived.Test.YtpmglcachffojaaGreatDoorZ24
import Derived.Test.YtpmglcachffojaaGreatDoorZ25
set_option maxRecDepth 100000
set_option maxHeartbeats 16000000
namespace Go.Proofs.YtpmglcachffojaaGreatDoor
section
open Go Go.RowKit
theorem vvb {a b : Int} (h : ¬ a = b) : (a != b) = true := by simpa using h
theorem bnei_no {a b : Int} (h : a = b) : (a != b) = false := by simpa using h
theorem qx3 (k n : Int) (b : Bool) (s : ByteArray) (w : World) (h : ¬ (1 ≤ k ∧ k ≤ 7)) :
 Calls Tryz.prog 47 #[.int .i64 k, .agg #[.bool b, .int .i64 n, .string s]] w fun e w' => e = .returned (.bool false) ∧ Below w.heap.size w w' := by
 by_cases h1 : k < 1
 · clear h
   go_enter Tryz.func47, Tryz.ntmps47
   go_wp2_with fail
   go_ret
   exact ⟨rfl, (zR).alloc zN _⟩
 · have h2 : k > 7 := by omega
   have h3 : 7 < k := h2
   clear h
   go_enter Tryz.func47, Tryz.ntmps47
   go_wp2_with fail
   go_ret
   exact ⟨rfl, (zR).alloc zN _⟩
theorem rmay_null (k n : Int) (s : ByteArray) (w : World) (h : 1 ≤ k ∧ k ≤ 7) :
 Calls Tryz.prog 47 #[.int .i64 k, .agg #[.bool true, .int .i64 n, .string s]] w fun e w' => e = .returned (.bool (decide (n = 0 ∧ s.size = 0))) ∧ Below w.heap.size w w' := by
 obtain ⟨q, hq⟩ : ∃ q : Bool, q = decide (n = 0 ∧ s.size = 0) := ⟨_, rfl⟩
 rw [← hq]
 have k1 : ¬ k < 1 := by omega
 have k2 : ¬ k > 7 := by omega
 have k3 : ¬ 7 < k := by omega
 clear h
 by_cases hn : n = 0
 · subst hn
   by_cases hs : s.size = 0
   · obtain rfl : q = true := by rw [hq]; simp [hs]
     clear hq
     obtain rfl := (xxC s).2 hs
     clear hs
     go_enter Tryz.func47, Tryz.ntmps47
     go_wp2_with fail
     go_ret
     exact ⟨rfl, (zR).alloc zN _⟩
   · obtain rfl : q = false := by rw [hq]; simp [hs]
     clear hq
     obtain ⟨a1, a2, a3, a4, a5⟩ := kqk hs
     clear hs
     go_enter Tryz.func47, Tryz.ntmps47
     go_wp2_with fail
     go_ret
     exact ⟨rfl, (zR).alloc zN _⟩
 · obtain rfl : q = false := by rw [hq]; simp [hn]
   clear hq
   have hb := zzv hn
   go_enter Tryz.func47, Tryz.ntmps47
   go_wp2_with fail
   go_ret
   exact ⟨rfl, (zR).alloc zN _⟩
theorem rmay_num (k n : Int) (s : ByteArray) (w : World) (h : 1 ≤ k ∧ k ≤ 5) :
 Calls Tryz.prog 47 #[.int .i64 k, .agg #[.bool false, .int .i64 n, .string s]] w fun e w' => e = .returned (.bool (decide (s.size = 0 ∧ (¬ k = 1 ∨ n = 0 ∨ n = 1)))) ∧ Below w.heap.size w w' := by
 obtain ⟨q, hq⟩ : ∃ q : Bool, q = decide (s.size = 0 ∧ (¬ k = 1 ∨ n = 0 ∨ n = 1)) := ⟨_, rfl⟩
 rw [← hq]
 have k1 : ¬ k < 1 := by omega
 have k2 : ¬ k > 7 := by omega
 have k3 : ¬ 7 < k := by omega
 have k4 : k ≤ 5 := by omega
 clear h
 by_cases hs : s.size = 0
 · obtain rfl := (xxC s).2 hs
   clear hs
   by_cases hk : k = 1
   · subst hk
     by_cases hn : n = 0
     · subst hn
       obtain rfl : q = true := hq.trans (decide_eq_true ⟨rfl, .inr (.inl rfl)⟩)
       clear hq
       go_enter Tryz.func47, Tryz.ntmps47
       go_wp2_with fail
       go_ret
       exact ⟨rfl, (zR).alloc zN _⟩
     · have hb := zzv hn
       by_cases hn1 : n = 1
       · subst hn1
         obtain rfl : q = true := hq.trans (decide_eq_true ⟨rfl, .inr (.inr rfl)⟩)
         clear hq
         go_enter Tryz.func47, Tryz.ntmps47
         go_wp2_with fail
         go_ret
         exact ⟨rfl, (zR).alloc zN _⟩
       · have hb1 := zzv hn1
         obtain rfl : q = false := by rw [hq]; simp [hn, hn1]
         clear hq
         go_enter Tryz.func47, Tryz.ntmps47
         go_wp2_with fail
         go_ret
         exact ⟨rfl, (zR).alloc zN _⟩
   · have hb := vvb hk
     obtain rfl : q = true := hq.trans (decide_eq_true ⟨rfl, .inl hk⟩)
     clear hq
     go_enter Tryz.func47, Tryz.ntmps47
     go_wp2_with fail
     go_ret
     exact ⟨rfl, (zR).alloc zN _⟩
 · obtain rfl : q = false := by rw [hq]; simp [hs]
   clear hq
   obtain ⟨a1, a2, a3, a4, a5⟩ := kqk hs
   clear hs
   go_enter Tryz.func47, Tryz.ntmps47
   go_wp2_with fail
   go_ret
   exact ⟨rfl, (zR).alloc zN _⟩
theorem rmay_text (k n : Int) (s : ByteArray) (w : World) (h : k = 6 ∨ k = 7) (hm : s.size ≤ maxLen) (hT : Lib.Utf8Tabs 0 1 w) :
 Calls Tryz.prog 47 #[.int .i64 k, .agg #[.bool false, .int .i64 n, .string s]] w fun e w' => e = .returned (.bool (decide (n = 0 ∧ s.size ≤ 300 ∧ (k = 7 ∨ Lib.validD s.data.toList = true)))) ∧ Below w.heap.size w w' := by
 obtain ⟨q, hq⟩ : ∃ q : Bool, q = decide (n = 0 ∧ s.size ≤ 300 ∧ (k = 7 ∨ Lib.validD s.data.toList = true)) := ⟨_, rfl⟩
 rw [← hq]
 have k1 : ¬ k < 1 := by omega
 have k2 : ¬ k > 7 := by omega
 have k3 : ¬ 7 < k := by omega
 have k4 : ¬ k ≤ 5 := by omega
 have HH := zH h; have HM := zH hm; have HT := zH (zzc hT ((Below.refl w.heap.size w).alloc zN (.cells #[.bool false, .int .i64 n, .string s] 74)))
 clear h hm hT
 by_cases hn : n = 0
 · subst hn
   by_cases hs : s.size ≤ 300
   · have hs1 : (s.size : Int) ≤ 300 := by omega
     by_cases hk : k = 7
     · subst hk
       obtain rfl : q = true := hq.trans (decide_eq_true ⟨rfl, hs, .inl rfl⟩)
       clear hq
       clear hs
       go_enter Tryz.func47, Tryz.ntmps47
       go_wp2_with fail
       go_ret
       exact ⟨rfl, (zR).alloc zN _⟩
     · have hb := zzv hk
       obtain ⟨v, hv⟩ : ∃ v, v = Lib.validD s.data.toList := ⟨_, rfl⟩
       have HV := zH hv
       obtain rfl : q = v := by rw [hq]; rw [← hv]; simp [hs, hk]
       clear hq
       clear hs hv
       go_enter Tryz.func47, Tryz.ntmps47
       go_wp2_with (first
        | (go_at_call 102; refine (Any.utf8_ValidString Tryz.laysValid s _ (by have := HM.out; unfold maxLen at this; omega) HT.out).mono ?_; rintro e w1 ⟨rfl, hb1⟩; rw [← HV.out]; have HB1 := zH hb1; clear hb1)
        | fail)
       go_ret
       exact ⟨rfl, ((zR).alloc zN _).trans (HB1.out.mono (by simp))⟩
   · have hs1 : ¬ (s.size : Int) ≤ 300 := by omega
     obtain rfl : q = false := by rw [hq]; simp [hs]
     clear hq
     clear hs
     go_enter Tryz.func47, Tryz.ntmps47
     go_wp2_with fail
     go_ret
     exact ⟨rfl, (zR).alloc zN _⟩
 · have hb := zzv hn
   obtain rfl : q = false := by rw [hq]; simp [hn]
   clear hq
   go_enter Tryz.func47, Tryz.ntmps47
   go_wp2_with fail
   go_ret
   exact ⟨rfl, (zR).alloc zN _⟩
theorem vvW (k : Int) (d : VV) (hd : d.ok) (w : World) (hT : Lib.Utf8Tabs 0 1 w) :
 Calls Tryz.prog 47 #[.int .i64 k, .agg #[.bool d.null, .int .i64 d.n, .string d.s]] w fun e w' => e = .returned (.bool (mayV k d)) ∧ Below w.heap.size w w' := by
 by_cases hk : 1 ≤ k ∧ k ≤ 7
 · obtain ⟨nu, n, s⟩ := d
   cases nu with
   | true =>
     have e : mayV k ⟨true, n, s⟩ = decide (n = 0 ∧ s.size = 0) := by
      unfold mayV
      by_cases h5 : 1 ≤ k ∧ k ≤ 5
      · rw [if_pos h5]; rfl
      · rw [if_neg h5, if_pos (by omega)]; rfl
     rw [e]; exact rmay_null k n s w hk
   | false =>
     by_cases h5 : 1 ≤ k ∧ k ≤ 5
     · have e : mayV k ⟨false, n, s⟩ = decide (s.size = 0 ∧ (¬ k = 1 ∨ n = 0 ∨ n = 1)) := by
        unfold mayV
        rw [if_pos h5]
        by_cases h1 : k = 1
        · simp [h1]
        · simp [h1]
       rw [e]; exact rmay_num k n s w h5
     · have e : mayV k ⟨false, n, s⟩ = decide (n = 0 ∧ s.size ≤ 300 ∧ (k = 7 ∨ Lib.validD s.data.toList = true)) := by
        unfold mayV
        rw [if_neg h5, if_pos (by omega)]
        rfl
       rw [e]; exact rmay_text k n s w (by omega) hd.2.2 hT
 · have e : mayV k d = false := by
    unfold mayV
    rw [if_neg (by omega), if_neg (by omega)]
   rw [e]; exact qx3 k d.n d.null d.s w hk
end
section
open Go Go.RowKit
structure Part (p : VV → Bool) (l R : List VV) (i j : Nat) : Prop where
 len : R.length = l.length
 kept : R.take i = (l.take j).filter p
 rest : R.drop j = l.drop j
 lt : i < j
 le : j ≤ l.length
theorem Part.get {p : VV → Bool} {l R : List VV} {i j : Nat} (h : Part p l R i j) (hj : j < l.length) : R[j]'(by rw [h.len]; exact hj) = l[j] := by
 have e := h.rest
 have e1 : (R.drop j)[0]? = (l.drop j)[0]? := by rw [e]
 rw [List.getElem?_drop, List.getElem?_drop, Nat.add_zero, List.getElem?_eq_getElem (by rw [h.len]; exact hj), List.getElem?_eq_getElem hj] at e1
 exact Option.some.inj e1
theorem Part.skip {p : VV → Bool} {l R : List VV} {i j : Nat} (h : Part p l R i j) (hj : j < l.length) (hp : p l[j] = false) : Part p l R i (j + 1) := by
 refine ⟨h.len, ?_, ?_, by have := h.lt; omega, hj⟩
 · rw [zT hj, List.filter_append]
   simp [hp, h.kept]
 · rw [← List.drop_drop, ← List.drop_drop, h.rest]
theorem Part.keep {p : VV → Bool} {l R : List VV} {i j : Nat} (h : Part p l R i j) (hj : j < l.length) (hp : p l[j] = true) : Part p l (R.set i l[j]) (i + 1) (j + 1) := by
 have hlt := h.lt
 have hl := h.len
 refine ⟨by rw [List.length_set]; exact hl, ?_, ?_, by omega, hj⟩
 · rw [zT hj, List.filter_append, ← h.kept]
   rw [zT (by rw [List.length_set]; omega), List.take_set_of_le zN, List.getElem_set_self]
   simp [hp]
 · rw [List.drop_set_of_lt (by omega), ← List.drop_drop, ← List.drop_drop, h.rest]
theorem qx7 {p : VV → Bool} {l : List VV} {i : Nat} (hi : i < l.length) (h1 : ∀ x ∈ l.take i, p x = true) (h2 : p l[i] = false) : Part p l l i (i + 1) := by
 refine ⟨rfl, ?_, rfl, by omega, hi⟩
 rw [zT hi, List.filter_append, List.filter_eq_self.2 h1]
 simp [h2]
theorem part_end {p : VV → Bool} {l R : List VV} {i j : Nat} (h : Part p l R i j) (hj : j = l.length) : R.take i = l.filter p := by
 rw [h.kept, hj, List.take_length]
def DelPost (p : VV → Bool) (l : List VV) (B : Nat) (A : Option Addr) (c : Nat) (w : World) (e : Ending) (w' : World) : Prop := ∃ m, e = .returned (.slice A m c) ∧ OwnV w' B A m c (l.filter p) ∧ Below B w w'
theorem del_any (B : Nat) (A : Option Addr) (n c : Nat) (l : List VV) (w : World) (h : OwnV w B A n c l) (hB : B ≤ w.heap.size) :
 Calls Tryz.prog 157 #[.slice A n c, .func (.func 159) #[] #[]] w (DelPost (zzh) l B A c w) := by
 have H := zH h
 have HL := zH h.len
 have hcap := h.cap
 have hmax : n ≤ 9223372036854775807 := by have h3 := hcap.2; unfold maxLen at h3; omega
 have hncap := hcap.1
 clear h hcap
 by_cases hall : ∀ x ∈ l, zzh x = true
 · have HF : Hid (l.filter (zzh) = l) := zH (List.filter_eq_self.2 hall)
   have HALL := zH hall
   clear hall
   go_enter Tryz.func157, Tryz.ntmps157
   go_wp2_with (first
    | (go_at_call 86; refine (idx_any _ A n c l _ H.out.sl).mono ?_; rintro e w1 ⟨r, rfl, hr, hb1⟩; obtain rfl : r = -1 := (by rcases hr with ⟨h1, _⟩ | ⟨i, h1, h2, h3, h4⟩; exact h1; have := HALL.out _ (List.getElem_mem h2); rw [h4] at this; cases this); have HB1 := zH hb1; clear hr hb1)
    | fail)
   go_ret
   exact ⟨n, rfl, by rw [HF.out]; exact H.out.keepB HB1.out, HB1.out.mono hB⟩
 · have hpos : 0 < n := by
    rw [HL.out]
    cases l with
    | nil => exact absurd (fun x hx => by simp at hx) hall
    | cons _ _ => simp
   obtain ⟨g, rfl⟩ : ∃ g, A = some ⟨g, 0, none⟩ := by
    rcases H.out.row.2 with ⟨_, h2⟩ | ⟨g, cap, cur, h1, _⟩
    · omega
    · injection h1 with h1; exact ⟨g, h1⟩
   have HALL := zH hall
   clear hall
   have hgB := H.out.base.1
   go_enter Tryz.func157, Tryz.ntmps157
   go_wp2_with (first
    | (go_at_call 86; refine (idx_any _ _ n c l _ H.out.sl).mono ?_; rintro e w1 ⟨r, rfl, hr, hb1⟩; obtain ⟨i0, rfl, hi0, hk0, hd0⟩ : ∃ i : Nat, r = i ∧ ∃ h : i < l.length, (∀ x ∈ l.take i, zzh x = true) ∧ zzh l[i] = false := (by rcases hr with ⟨_, h1⟩ | h1; exact absurd h1 HALL.out; exact h1); have HP0 := zH (qx7 hi0 hk0 hd0); have HB1 := zH hb1; have hi0n : i0 < n := (by rw [HL.out]; exact hi0); have hq0 : ((i0 : Int) == -1) = false := zzv (by omega); clear hr hb1 hk0 hd0 hi0)
    | fail)
   go_loopw [5, 6] (fun iv jv wr => ∃ (i j : Nat) (R : List VV), iv = .int .i64 (i : Int) ∧ jv = .int .i64 (j : Int) ∧ Hid (Part (zzh) l R i j) ∧ OwnV wr B (some ⟨g, 0, none⟩) n c R ∧ Below B w wr)
    (fun _ jv _ => n - (intOf jv).toNat)
   case atStart => exact ⟨i0, i0 + 1, l, rfl, by go_num, HP0, H.out.keepB HB1.out, HB1.out.mono hB⟩
   case round =>
    obtain ⟨i, j, R, rfl, rfl, HP, hown, hb⟩ := hrel
    have HO := zH hown
    have HB := zH hb
    have hij : i < j := HP.out.lt
    have hjn : j ≤ n := by have := HP.out.le; rw [← HL.out] at this; exact this
    have hsz := hb.size
    have hBr : B ≤ wr.heap.size := by omega
    clear hown hb HP0 HB1 hq0
    by_cases hlt : j < n
    · have hjl : j < l.length := by rw [← HL.out]; exact hlt
      have hjR : j < R.length := by rw [HP.out.len]; exact hjl
      have hget := HP.out.get hjl
      obtain ⟨d, hd⟩ : ∃ d, d = l[j] := ⟨_, rfl⟩
      obtain ⟨c0, c1, c2⟩ := HO.out.cell hjR
      rw [hget, ← hd] at c0 c1 c2
      have hdok : d.ok := by rw [hd, ← hget]; exact HO.out.ok _ (List.getElem_mem hjR)
      have HDOK := zH hdok
      obtain ⟨r, hr⟩ : ∃ r, r = !zzh d := ⟨_, rfl⟩
      have HD := zH hd; have HR := zH hr
      clear hd hr hget hdok
      have hi1 : (0 : Int) ≤ (j : Int) := by omega
      have hi2 : (j : Int) < (n : Int) := by omega
      cases r with
      | true =>
        have HP2 := zH (HP.out.skip hjl (by rw [← HD.out]; have := HR.out; simpa using this))
        go_wp2_with (first
         | (go_at_call 159; refine (dropv d true HR.out _).mono ?_; rintro e w1 ⟨rfl, hb1⟩; have HB2 := zH (((Below.refl _ wr).alloc zN _).trans (hb1.mono (by simp))); clear hb1)
         | fail)
        go_roundw
        case rel => exact ⟨i, j + 1, R, rfl, by go_num, HP2, HO.out.keepB HB2.out, HB.out.trans (HB2.out.mono hBr)⟩
        case measure => simp [intOf]; omega
      | false =>
        have HP2 := zH (HP.out.keep hjl (by rw [← HD.out]; have := HR.out; simpa using this))
        have hiR : i < R.length := by omega
        have hi3 : (0 : Int) ≤ (i : Int) := by omega
        have hi4 : (i : Int) < (n : Int) := by omega
        obtain ⟨e0, e1, e2⟩ := HO.out.cell hiR
        go_wp2_with (first
         | (go_at_call 159; refine (dropv d false HR.out _).mono ?_; rintro e w1 ⟨rfl, hb1⟩; have HB2 := zH (show Below wr.heap.size wr w1 from ((Below.refl _ wr).alloc zN _).trans (hb1.mono (by simp))); have HK2 := zH (show w1.heap[wr.heap.size]? = some (.cells #[.bool d.null, .int .i64 d.n, .string d.s] 74 (0, 0)) from (hb1.block _ (by simp)).trans (heap_alloc_new wr _)); have HO2 := zH (HO.out.keepB HB2.out); have z0 : w1.cell? ⟨wr.heap.size, 0, none⟩ = some (.bool d.null) := (by rw [zC HK2.out]; rfl); have z1 : w1.cell? ⟨wr.heap.size, 1, none⟩ = some (.int .i64 d.n) := (by rw [zC HK2.out]; rfl); have z2 : w1.cell? ⟨wr.heap.size, 2, none⟩ = some (.string d.s) := (by rw [zC HK2.out]; rfl); have y0 := zze HB2.out e0; have y1 := zze HB2.out e1; have y2 := zze HB2.out e2; have f0 := HO2.out.free (i * 3); have f1 := HO2.out.free (i * 3 + 1); have f2 := HO2.out.free (i * 3 + 2); clear hb1)
         | fail)
        go_roundw
        case rel =>
         have ho := HO2.out.set (i := i) hiR d HDOK.out
         exact ⟨i + 1, j + 1, R.set i d, by go_num, by go_num, by rw [HD.out]; exact HP2, ho, zzf (zzf (zzf (HB.out.trans (HB2.out.mono hBr)) hgB _) hgB _) hgB _⟩
        case measure => simp [intOf]; omega
    · obtain rfl : j = n := by omega
      have hRl : R.length = j := HP.out.len.trans HL.out.symm
      obtain ⟨vs, hcl⟩ := qx6 wr g (i * 3) (j - i) (c - i) (by omega) (fun q hq => by
       rw [HO.out.row.cellAt (i * 3 + q) (by omega), List.getElem?_eq_getElem (by rw [xxh, hRl]; omega)]; rfl) (fun q _ => HO.out.free _)
      have hcl0 := hcl 0
      have HFR := zH (((HO.out.front (k := i) (by omega) (by simp)).past vs (i * 3) zN))
      have HFE := zH (part_end HP.out HL.out)
      clear hcl hRl
      go_wp2_with fail
      go_ret
      exact ⟨i, rfl, by rw [← HFE.out]; exact HFR.out, vvp hgB _ _ _ HB.out⟩
end
section
open Go Go.RowKit
def qzR (l : List VV) (w : World) (e : Ending) (w' : World) : Prop :=
 ∃ A1 c1 A2 n2 c2, e = .returned (.tuple #[.slice A1 l.length c1, .slice A2 n2 c2]) ∧ Sl yy8 (fun b => w.heap.size ≤ b) w' A1 l.length c1 (l.map fun v => !v.null) ∧ Sl tVV (fun b => w.heap.size ≤ b) w' A2 n2 c2 (l.filter zzh) ∧ Below w.heap.size w w'
theorem split_any (F : Nat → Prop) (A : Option Addr) (n c : Nat) (l : List VV) (w : World) (h : Sl tVV F w A n c l) (hn : n ≤ 4096) :
 Calls Tryz.prog 88 #[.slice A n c] w (qzR l w) := by
 have H := zH h; have HN := zH hn
 clear h hn
 go_enter Tryz.func88, Tryz.ntmps88
 go_wp2_with (first
  | (go_at_call 158; refine (clone_any F A n c l _ H.out (by have := HN.out; omega)).mono ?_; rintro e w1 ⟨A1, c1, rfl, ho1, hb1⟩; have HO1 := zH ho1; have HB1 := zH hb1; clear ho1 hb1)
  | (go_at_call 157; refine (del_any w.heap.size A1 n c1 l _ HO1.out HB1.out.size).mono ?_; rintro e w2 ⟨m, rfl, ho2, hb2⟩; have HO2 := zH ho2; have HB2 := zH (HB1.out.trans hb2); clear ho2 hb2)
  | (go_at_call 146; refine (each_any F A n c l _ (H.out.below HB2.out zN) HN.out).mono ?_; rintro e w3 ⟨A3, n3, c3, rfl, ⟨G, ho3⟩, hb3⟩; have HO3 := zH ho3; have HB3 := zH hb3; clear ho3 hb3)
  | fail)
 go_ret2
 have e3 : n3 = l.length := by have := HO3.out.len; simpa using this
 subst e3
 exact ⟨A3, c3, A1, m, c1, rfl, (HO3.out.flat (T := yy8) (fun h => h)).sl.weaken (fun b hb _ => by
  rcases hb with hb | hb
  · exact hb.elim
  · have := HB2.out.size; exact Nat.le_trans this hb.2), (HO2.out.keepB HB3.out).sl, HB2.out.trans (HB3.out.mono HB2.out.size)⟩
def yyi (l : List VV) : List UInt8 := if (l.filter zzh).length < l.length then byB (xxd (l.map fun v => !v.null)) else []
def qxo (l : List VV) (w : World) (e : Ending) (w' : World) : Prop :=
 ∃ A1 n1 c1 A2 n2 c2, e = .returned (.tuple #[.slice A1 n1 c1, .slice A2 n2 c2, .int .i64 0]) ∧ Sl tU8 (fun b => w.heap.size ≤ b) w' A1 n1 c1 (yyi l) ∧ Sl tVV (fun b => w.heap.size ≤ b) w' A2 n2 c2 (l.filter zzh) ∧ Below w.heap.size w w'
theorem qxp (F : Nat → Prop) (A : Option Addr) (n c : Nat) (l : List VV) (w : World) (h : Sl tVV F w A n c l) (hn : n ≤ 4096) :
 Calls Tryz.prog 42 #[.slice A n c] w (qxo l w) := by
 have H := zH h; have HN := zH hn; have HL := zH h.len
 have hn1 : ¬ (n : Int) > 4096 := by omega
 have hn2 : ¬ (4096 : Int) < n := by omega
 clear h hn
 go_enter Tryz.func42, Tryz.ntmps42
 go_upto_if 18 with (first
  | (go_at_call 88; refine (split_any F A n c l _ H.out HN.out).mono ?_; rintro e w1 ⟨A1, c1, A2, n2, c2, rfl, hs1, hs2, hb1⟩; have HS1 := zH hs1; have HS2 := zH hs2; have HB1 := zH hb1; clear hs1 hs2 hb1)
  | fail)
 have HL2 := zH HS2.out.len
 by_cases hlt : n2 < n
 · have hI : (n2 : Int) < (n : Int) := by omega
   have HP := zH (show yyi l = byB (xxd (l.map fun v => !v.null)) from if_pos (by rw [← HL2.out, ← HL.out]; exact hlt))
   go_wp2_with (first
    | (go_at_call 89; refine (boolput _ A1 l.length c1 _ _ HS1.out (by rw [← HL.out]; exact HN.out)).mono ?_; rintro e w2 ⟨hb2, A3, n3, c3, rfl, ho3⟩; have HO3 := zH ho3; have HB2 := zH hb2; clear ho3 hb2)
    | fail)
   go_ret3
   refine ⟨A3, n3, c3, A2, n2, c2, rfl, ?_, HS2.out.below HB2.out zN, HB1.out.trans (HB2.out.mono HB1.out.size)⟩
   rw [HP.out]
   exact HO3.out.own.sl.weaken fun b hb _ => by
    have := HB1.out.size
    rcases hb with hb | hb
    · exact hb.elim
    · exact Nat.le_trans this hb.2
 · have hI : ¬ (n2 : Int) < (n : Int) := by omega
   have HP := zH (show yyi l = [] from if_neg (by rw [← HL2.out, ← HL.out]; exact hlt))
   go_wp2_with fail
   go_ret3
   exact ⟨none, 0, 0, A2, n2, c2, rfl, by rw [HP.out]; exact Sl.nil_ _ _ _, HS2.out, HB1.out⟩
end
section
open Go Go.RowKit
def xxj (k : Int) (l : List VV) : List UInt8 :=
 if k = 1 then byB (xxd (l.map fun v => v.n == 1))
 else if k = 5 then rleB true (l.map fun v => v.n / 1000) ++ rleB false (l.map fun v => v.n % 1000)
 else rleB true (l.map fun v => v.n)
theorem qxq (l : List VV) (h : ∀ v ∈ l, v.ok) : zzY true (l.map fun v => v.n) ∧ zzY true (l.map fun v => v.n / 1000) ∧ zzY false (l.map fun v => v.n % 1000) := by
 refine ⟨fun x hx => ?_, fun x hx => ?_, fun x hx => ?_⟩ <;>
 · obtain ⟨v, hv, rfl⟩ := List.mem_map.1 hx
   obtain ⟨h0, h1, _⟩ := h v hv
   refine ⟨by omega, by omega, ?_⟩
   first | exact .inl rfl | exact .inr (by omega)
theorem zqD {F : Nat → Prop} {w : World} {A : Option Addr} {n c : Nat} {l : List VV} (h : Sl tVV F w A n c l) : ∀ v ∈ l, v.ok := by
 intro v hv
 obtain ⟨i, hi, rfl⟩ := List.getElem_of_mem hv
 obtain ⟨_, _, _, _, _, _, hr, _⟩ := h.at_ hi (by decide)
 exact hr.2
theorem iput_any (k : Int) (hk : 1 ≤ k ∧ k ≤ 5) (F : Nat → Prop) (A : Option Addr) (n c : Nat) (l : List VV) (w : World) (h : Sl tVV F w A n c l) (hn : n ≤ 4096) (hm : ∀ v ∈ l, v.null = false ∧ mayV k v = true) (hT : Lib.Utf8Tabs 0 1 w) :
 Calls Tryz.prog 45 #[.int .i64 k, .slice A n c] w (zzq (some (xxj k l)) w) := by
 have HL := zH h.len
 have H := zH h; have HN := zH hn; have HM := zH hm; have HT := zH hT
 have HOK := zH (qxq l (zqD h))
 have HVO := zH (zqD h)
 have HNM := zH (show decide (1 ≤ k ∧ k ≤ 5) = true by simpa using hk)
 have hn1 : ¬ (n : Int) > 4096 := by omega
 have hn2 : ¬ (4096 : Int) < n := by omega
 have HK := zH hk
 clear h hn hm hT hk
 go_enter Tryz.func45, Tryz.ntmps45
 go_wp2_with (first
  | (go_at_call 44; refine (zzj _ _).mono ?_; rintro e w1 ⟨rfl, rfl⟩; rw [HNM.out])
  | fail)
 go_loopw [21] (fun iv wr => ∃ j : Nat, j ≤ n ∧ iv = .int .i64 (j : Int) ∧ Below w.heap.size w wr) (fun iv _ => n - (intOf iv).toNat)
 case atStart => exact ⟨0, Nat.zero_le _, rfl, zR⟩
 case round =>
  obtain ⟨j, hj, rfl, hb⟩ := hrel
  have HB := zH hb
  have hsz := hb.size
  by_cases hlt : j < n
  · have hjl : j < l.length := by rw [← HL.out]; exact hlt
    obtain ⟨b, o, cs, rfl, _, hbl, hrep, hc⟩ := (H.out.below hb zN).at_ hjl (by decide)
    have hml := HM.out _ (List.getElem_mem hjl)
    have hvo := HVO.out _ (List.getElem_mem hjl)
    obtain ⟨v, hf⟩ : ∃ v, v = l[j] := ⟨_, rfl⟩
    obtain ⟨rfl, _⟩ := hrep
    rw [← hf] at hc hml hvo
    obtain ⟨nu, x, s⟩ := v
    obtain ⟨hnu, hmay⟩ := hml
    have hnu : nu = false := hnu
    subst hnu
    have HMAY := zH hmay; have HVK := zH hvo
    obtain ⟨g0, g1, g2⟩ := zzR hc
    have g0 : _ = some (Value.bool false) := g0
    have g1 : _ = some (Value.int .i64 x) := g1
    have g2 : _ = some (Value.string s) := g2
    have i0 : (0 : Int) ≤ (j : Int) := by omega
    have i1 : (j : Int) < (n : Int) := by omega
    clear hc hf hmay hvo hb
    go_wp2_with (first
     | (go_at_call 41; refine (kqX k ⟨false, x, s⟩ HVK.out _ (zzc HT.out (HB.out.alloc hsz _))).mono ?_; rintro e w3 ⟨rfl, hb3⟩; rw [HMAY.out]; have HB3 := zH ((HB.out.alloc hsz _).trans (hb3.mono (by simp; omega))); clear hb3)
     | fail)
    go_roundw
    case rel => exact ⟨j + 1, by omega, by go_num, HB3.out⟩
    case measure => simp [intOf]; omega
  · obtain rfl : j = n := by omega
    have HS := zH (H.out.below hb zN)
    have i1 : ¬ (j : Int) < (j : Int) := by omega
    clear hb
    by_cases hk1 : k = 1
    · subst hk1
      have HI := zH (show xxj 1 l = byB (xxd (l.map fun v => v.n == 1)) from if_pos rfl)
      go_wp2_with (first
       | (go_at_call 90; refine (qx4 F A j c l _ HS.out HN.out).mono ?_; rintro e w3 ⟨A3, n3, c3, rfl, ⟨G, ho3⟩, hb3⟩; have HO3 := zH ho3.sl; have HL3 := zH ho3.len; have HB3 := zH hb3; clear ho3 hb3)
       | (go_at_call 89; refine (boolput _ A3 n3 c3 _ _ HO3.out (by have := HL3.out; rw [List.length_map, ← HL.out] at this; rw [this]; exact HN.out)).mono ?_; rintro e w4 ⟨hb4, A4, n4, c4, rfl, ho4⟩; have HO4 := zH ho4; have HB4 := zH hb4; clear ho4 hb4)
       | fail)
      go_ret2
      have hw := HB.out.trans (HB3.out.mono hsz)
      exact ⟨hw.trans (HB4.out.mono hw.size), A4, n4, c4, rfl, by rw [HI.out]; exact HO4.out.down hw.size⟩
    · have hkb1 := zzv hk1
      by_cases hk5 : k = 5
      · subst hk5
        have HI := zH (show xxj 5 l = rleB true (l.map fun v => v.n / 1000) ++ rleB false (l.map fun v => v.n % 1000) by unfold xxj; rw [if_neg (by decide), if_pos rfl])
        have HR1 := zH (yyb true (l.map fun v => v.n / 1000)); have HR2 := zH (yyb false (l.map fun v => v.n % 1000))
        go_upto_region 18 with (first
         | (go_at_call 93; refine (qx5 F A j c l _ HS.out HN.out).mono ?_; rintro e w3 ⟨A3, n3, c3, rfl, ⟨G, ho3⟩, hb3⟩; have HO3 := zH ho3.sl; have HL3 := zH ho3.len; have HB3 := zH hb3; clear ho3 hb3)
         | (go_at_call 92; refine (jjz _ A3 n3 c3 _ _ HO3.out (by have := HL3.out; rw [List.length_map, ← HL.out] at this; rw [this]; exact HN.out) true HOK.out.2.1).mono ?_; rintro e w4 ⟨hb4, A4, n4, c4, rfl, ho4⟩; have HO4 := zH ho4; have HB4 := zH hb4; clear ho4 hb4)
         | fail)
        have hw4 := HB.out.trans ((HB3.out.mono hsz).trans (HB4.out.mono (by have := HB3.out.size; omega)))
        have HW4 := zH hw4
        obtain ⟨A5, hA5⟩ : ∃ A5, A5 = A4 := ⟨_, rfl⟩
        obtain ⟨n5, hn5⟩ : ∃ n5, n5 = n4 := ⟨_, rfl⟩
        obtain ⟨c5, hc5⟩ : ∃ c5, c5 = c4 := ⟨_, rfl⟩
        have HO5 := HO4
        rw [← hA5, ← hn5, ← hc5] at HO5 ⊢
        have HS4 := zH (H.out.below hw4 zN)
        have HZ := zH (show w.heap.size ≤ w3.heap.size from Nat.le_trans hsz HB3.out.size)
        clear hA5 hn5 hc5 hw4 HO4 HO3 HB3 HB4 HL3
        go_wp2_with (first
         | (go_at_call 93; refine (lefts_any F A j c l _ HS4.out HN.out).mono ?_; rintro e w6 ⟨A3, n3, c3, rfl, ⟨G, ho3⟩, hb3⟩; have HO3 := zH ho3.sl; have HL3 := zH ho3.len; have HB3 := zH hb3; clear ho3 hb3)
         | (go_at_call 92; refine (jjz _ A3 n3 c3 _ _ HO3.out (by have := HL3.out; rw [List.length_map, ← HL.out] at this; rw [this]; exact HN.out) false HOK.out.2.2).mono ?_; rintro e w7 ⟨hb4, A4, n4, c4, rfl, ho4⟩; have HO4 := zH ho4; have HB4 := zH hb4; clear ho4 hb4)
         | (at_builtin; refine apb w7 w rfl (.tmp 59) (.tmp 60) rfl w.heap.size A5 n5 c5 (rleB true (l.map fun v => v.n / 1000)) (by rfl) ((HO5.out.down HZ.out).keepB (HB3.out.trans (HB4.out.mono HB3.out.size))) (HW4.out.trans ((HB3.out.mono HW4.out.size).trans (HB4.out.mono (by have := HW4.out.size; have := HB3.out.size; omega)))) zN _ A4 n4 c4 (rleB false (l.map fun v => v.n % 1000)) (by rfl) HO4.out.bs (by have h1 := HO5.out.len; have h2 := HO4.out.len; have h3 := HR1.out; have h4 := HR2.out; rw [List.length_map, ← HL.out] at h3 h4; have h5 := HN.out; omega) ?_; intro A8 c8 w8 h8 hb8 _; have HO8 := zH h8; have HB8 := zH hb8; clear h8 hb8)
         | fail)
        go_ret2
        exact ⟨HB8.out, A8, _, c8, rfl, by rw [HI.out]; exact HO8.out⟩
      · have hkb5 := zzv hk5
        have HI := zH (show xxj k l = rleB true (l.map fun v => v.n) by unfold xxj; rw [if_neg hk1, if_neg hk5])
        go_wp2_with (first
         | (go_at_call 93; refine (nums_any F A j c l _ HS.out HN.out).mono ?_; rintro e w3 ⟨A3, n3, c3, rfl, ⟨G, ho3⟩, hb3⟩; have HO3 := zH ho3.sl; have HL3 := zH ho3.len; have HB3 := zH hb3; clear ho3 hb3)
         | (go_at_call 92; refine (jjz _ A3 n3 c3 _ _ HO3.out (by have := HL3.out; rw [List.length_map, ← HL.out] at this; rw [this]; exact HN.out) true HOK.out.1).mono ?_; rintro e w4 ⟨hb4, A4, n4, c4, rfl, ho4⟩; have HO4 := zH ho4; have HB4 := zH hb4; clear ho4 hb4)
         | fail)
        go_ret2
        have hw := HB.out.trans (HB3.out.mono hsz)
        exact ⟨hw.trans (HB4.out.mono hw.size), A4, n4, c4, rfl, by rw [HI.out]; exact HO4.out.down hw.size⟩
end
section
open Go Go.RowKit
theorem qxr (k : Int) (kb : Nat) (d : VV) (hd : d.ok) (r : Bool) (hr : r = !mayV k d) (w : World) (hk : w.cell? ⟨kb, 0, none⟩ = some (.int .i64 k)) (hT : Lib.Utf8Tabs 0 1 w) :
 Calls Tryz.prog 40 #[.agg #[.bool d.null, .int .i64 d.n, .string d.s], .pointer (some ⟨kb, 0, none⟩)] w fun e w' => e = .returned (.bool r) ∧ Below w.heap.size w w' := by
 have HB0 := zH (show Below w.heap.size w (w.alloc (.cells #[.bool d.null, .int .i64 d.n, .string d.s] 74)) from (zR).alloc zN _)
 have hk0 := zze HB0.out hk
 have HT := zH (zzc hT HB0.out); have HD := zH hd; have HR := zH hr
 clear hT hd hr hk
 go_enter Tryz.func40, Tryz.ntmps40
 go_wp2_with (first
  | (go_at_call 41; refine (kqX k d HD.out _ HT.out).mono ?_; rintro e w1 ⟨rfl, hb1⟩; have HB1 := zH hb1; clear hb1)
  | fail)
 go_ret
 exact ⟨by rw [HR.out]; rfl, HB0.out.trans (HB1.out.mono HB0.out.size)⟩
theorem idxm_any (k : Int) (kb : Nat) (F : Nat → Prop) (A : Option Addr) (n c : Nat) (l : List VV) (w : World) (h : Sl tVV F w A n c l) (hcl : w.cell? ⟨kb, 0, none⟩ = some (.int .i64 k)) (hT : Lib.Utf8Tabs 0 1 w) :
 Calls Tryz.prog 86 #[.slice A n c, .func (.func 40) #[] #[.pointer (some ⟨kb, 0, none⟩)]] w (IdxPost (mayV k) l w) := by
 have HL := zH h.len
 have HC := zH hcl; have HT := zH hT
 have hmax : n ≤ 9223372036854775807 := by have h2 := h.2.1; have h3 := h.2.2.1; unfold maxLen at h3; omega
 clear hcl hT
 go_enter Tryz.func86, Tryz.ntmps86
 go_wp2_with fail
 go_loopw [8] (fun i wr => ∃ j : Nat, j ≤ n ∧ i = .int .i64 j ∧ Below w.heap.size w wr ∧ Hid (∀ x ∈ l.take j, mayV k x = true)) (fun i _ => n - (intOf i).toNat)
 case atStart => exact ⟨0, Nat.zero_le _, rfl, zR, zH (by simp)⟩
 case round =>
  obtain ⟨j, hj, rfl, hb, HA⟩ := hrel
  have g := h.below hb zN
  have HB := zH hb
  have HCR := zH (zze hb HC.out); have HTR := zH (zzc HT.out hb)
  have hsz := hb.size
  clear hb
  by_cases hlt : j < n
  · have hjl : j < l.length := by rw [← HL.out]; exact hlt
    obtain ⟨d, hd⟩ : ∃ d, d = l[j] := ⟨_, rfl⟩
    obtain ⟨b, o, u, rfl, _, hbl, hu, hc⟩ := g.at_ hjl (by decide)
    rw [← hd] at hu
    obtain ⟨rfl, hdk⟩ := hu
    have HDK := zH hdk; clear hdk
    obtain ⟨c0, c1, c2⟩ := zzR hc
    obtain ⟨r, hr⟩ : ∃ r, r = !mayV k d := ⟨_, rfl⟩
    have HD := zH hd; have HR := zH hr
    clear g hc hd hr
    have hi1 : (0 : Int) ≤ (j : Int) := by omega
    have hi2 : (j : Int) < (n : Int) := by omega
    cases r with
    | true =>
      have HF : Hid (xxY (mayV k) l (j : Int)) := zH (.inr ⟨j, rfl, hjl, HA.out, by rw [← HD.out]; have := HR.out; simpa using this⟩)
      go_wp2_with (first
       | (go_at_call 40; refine (qxr k kb d HDK.out true HR.out _ HCR.out HTR.out).mono ?_; rintro e w1 ⟨rfl, hb1⟩; have HB1 := zH (HB.out.trans (hb1.mono hsz)); clear hb1)
       | fail)
      go_ret
      exact ⟨_, rfl, HF.out, HB1.out⟩
    | false =>
      have HN : Hid (∀ x ∈ l.take (j + 1), mayV k x = true) := zH (by
       intro x hx
       rw [zT hjl, List.mem_append, List.mem_singleton] at hx
       rcases hx with hx | rfl
       · exact HA.out x hx
       · rw [← HD.out]; have := HR.out; simpa using this)
      go_wp2_with (first
       | (go_at_call 40; refine (qxr k kb d HDK.out false HR.out _ HCR.out HTR.out).mono ?_; rintro e w1 ⟨rfl, hb1⟩; have HB1 := zH (HB.out.trans (hb1.mono hsz)); clear hb1)
       | fail)
      go_roundw
      case rel => exact ⟨j + 1, by omega, by go_num, HB1.out, HN⟩
      case measure => simp [intOf]; omega
  · obtain rfl : j = n := by omega
    have HF : Hid (xxY (mayV k) l (-1)) := zH (.inl ⟨rfl, by
     have := HA.out
     rwa [zL (by rw [← HL.out]; exact Nat.le_refl _)] at this⟩)
    go_wp2_with fail
    go_ret
    exact ⟨_, rfl, HF.out, HB.out⟩
theorem jjF (k : Int) (kb : Nat) (F : Nat → Prop) (A : Option Addr) (n c : Nat) (l : List VV) (w : World) (h : Sl tVV F w A n c l) (hcl : w.cell? ⟨kb, 0, none⟩ = some (.int .i64 k)) (hT : Lib.Utf8Tabs 0 1 w) :
 Calls Tryz.prog 39 #[.slice A n c, .func (.func 40) #[] #[.pointer (some ⟨kb, 0, none⟩)]] w fun e w' => e = .returned (.bool (!l.all (mayV k))) ∧ Below w.heap.size w w' := by
 have H := zH h; have HC := zH hcl; have HT := zH hT
 clear h hcl hT
 go_enter Tryz.func39, Tryz.ntmps39
 go_wp2_with (first
  | (go_at_call 86; refine (idxm_any k kb F A n c l _ H.out HC.out HT.out).mono ?_; rintro e w1 ⟨r, rfl, hr, hb1⟩; have HR := zH hr; have HB1 := zH hb1; clear hr hb1)
  | fail)
 go_ret
 refine ⟨?_, HB1.out⟩
 have e1 : decide (0 ≤ r) = !l.all (mayV k) := by
  rcases HR.out with ⟨rfl, h1⟩ | ⟨i, rfl, hi, _, h1⟩
  · rw [List.all_eq_true.2 h1]; rfl
  · have : l.all (mayV k) = false := by
     rw [List.all_eq_false]
     exact ⟨_, List.getElem_mem hi, by rw [h1]; simp⟩
    rw [this]; simp
 rw [← e1]
 first | rfl | simp
end
section
open Go Go.RowKit
def KpV (K : Nat) (W W' : World) : Prop := W.heap.size ≤ W'.heap.size ∧ ∀ b, b < K → W'.heap[b]? = W.heap[b]?
theorem KpV.refl (K : Nat) (W : World) : KpV K W W := ⟨Nat.le_refl _, fun _ _ => rfl⟩
theorem KpV.trans {K : Nat} {A B C : World} (h : KpV K A B) (k : KpV K B C) : KpV K A C := ⟨Nat.le_trans h.1 k.1, fun b hb => (k.2 b hb).trans (h.2 b hb)⟩
theorem vals1_in (F : Fence) (n : Nat) (hf : F.fn 209) (hro : F.round = none) (hn : 1 ≤ n) (l bb K : Nat) (A : Option Addr) (m c : Nat) (xs : List ByteArray) (J Jx : List ByteArray → World → Prop)
 (hY : ∀ pre x W1, J pre W1 → pre.length < m → YieldAt F (n - 1) Tryz.prog l #[.string x] W1 fun e W' => (e = .returned (.bool true) ∧ J (pre ++ [x]) W' ∧ KpV K W1 W') ∨ (e = .returned (.bool false) ∧ Jx (pre ++ [x]) W'))
 (W : World) (h0 : W.cell? ⟨bb, 0, none⟩ = some (.slice A m c)) (hs : Sl tStr (fun b => b < K) W A m c xs) (hJ0 : J [] W) :
 CallsIn F n Tryz.prog 209 #[.func (.yield l) #[] #[], .pointer (some ⟨bb, 0, none⟩)] W fun e W' => (∃ v, e = .returned v) ∧ ((∃ ys, ys = xs ∧ J ys W') ∨ (∃ pre, (∃ k, k ≤ m ∧ pre = xs.take k) ∧ Jx pre W')) := by
 have HL := zH hs.len; have HS := zH hs
 have hmax : m ≤ 9223372036854775807 := by have h2 := hs.2.1; have h3 := hs.2.2.1; unfold maxLen at h3; omega
 clear hs
 refine callsIn_of_wp Tryz.func209 rfl hf ?_ hro
 simp only [Tryz.ntmps209, List.size_toArray, List.length_cons, List.length_nil, Nat.reduceAdd, Nat.reduceSub, Array.replicate_succ, Array.replicate_zero, List.push_toArray, List.append_toArray, List.nil_append, List.cons_append]
 gi_wp2
 gi_loopw [7] (fun i wr => ∃ (k : Nat), k ≤ m ∧ i = .int .i64 (k : Int) ∧ J (xs.take k) wr ∧ KpV K W wr)
  (fun i _ => m - (intOf i).toNat)
 case atStart => exact ⟨0, Nat.zero_le _, rfl, hJ0, KpV.refl _ _⟩
 case round =>
  clear h0 hJ0
  obtain ⟨k, hk, rfl, hJs, hkp⟩ := hrel
  by_cases hlt : k < m
  · have hkl : k < xs.length := by rw [← HL.out]; exact hlt
    obtain ⟨b, o, u, rfl, _, hbl, hr, hc⟩ := (HS.out.keep hkp.1 (fun b hb _ => hkp.2 b hb)).at1 hkl rfl
    obtain ⟨x, hx⟩ : ∃ x, x = xs[k] := ⟨_, rfl⟩
    obtain ⟨hr, _⟩ := hr
    injection hr with hr; subst hr
    rw [← hx] at hc
    have HX := zH hx
    have hi0 : (0 : Int) ≤ (k : Int) := by omega
    have hi1 : (k : Int) < (m : Int) := by omega
    obtain ⟨fn, tmps, assign, body, hy, hR⟩ := hY _ x wr hJs (by rw [List.length_take]; omega)
    have HKP := zH hkp; clear hkp hx
    gi_wp2
    refine hR.mono ?_
    rintro e W3 (⟨rfl, hJ3, hk3⟩ | ⟨rfl, hJx3⟩)
    · have HK3 := zH hk3; clear hk3
      gi_wp2
      go_roundw
      case rel => exact ⟨k + 1, by omega, by go_num, by rw [zT hkl, ← HX.out]; exact hJ3, HKP.out.trans HK3.out⟩
      case measure => simp [intOf]; omega
    · gi_wp2
      refine bodyPost_ret (results_none rfl _ _ _) rfl ?_
      exact ⟨⟨_, rfl⟩, .inr ⟨_, ⟨k + 1, by omega, by rw [zT hkl, ← HX.out]⟩, hJx3⟩⟩
  · obtain rfl : k = m := by omega
    have e1 : xs.take k = xs := zL (by rw [← HL.out]; exact Nat.le_refl _)
    rw [e1] at hJs
    gi_wp2
    go_end0
    first | exact ⟨⟨_, rfl⟩, .inl ⟨_, rfl, hJs⟩⟩ | exact ⟨⟨_, rfl⟩, .inl hJs⟩ | exact .inl hJs | exact hJs
end
end Go.Proofs.YtpmglcachffojaaGreatDoor
