/- A part of what Chunks leans on. -/
import Derived.Test.YtpmglcachffojaaGreatDoorZ8
import Derived.Test.YtpmglcachffojaaGreatDoorZ11
import Derived.Test.YtpmglcachffojaaGreatDoorZ22
set_option maxRecDepth 100000
set_option maxHeartbeats 16000000
namespace Go.Proofs.YtpmglcachffojaaGreatDoor
section
open Go Go.RowKit
structure Part (p : VV → Bool) (l R : List VV) (i j : Nat) : Prop where
 len : R.length = l.length
 kept : R.take i = (l.take j).filter p
 rest : R.drop j = l.drop j
 lt : i < j
 le : j ≤ l.length
theorem Part.get {p : VV → Bool} {l R : List VV} {i j : Nat} (h : Part p l R i j) (hj : j < l.length) : R[j]'(by rw [h.len]; exact hj) = l[j] := by
 have e := h.rest
 have e1 : (R.drop j)[0]? = (l.drop j)[0]? := by rw [e]
 rw [List.getElem?_drop, List.getElem?_drop, Nat.add_zero, List.getElem?_eq_getElem (by rw [h.len]; exact hj), List.getElem?_eq_getElem hj] at e1
 exact Option.some.inj e1
theorem Part.skip {p : VV → Bool} {l R : List VV} {i j : Nat} (h : Part p l R i j) (hj : j < l.length) (hp : p l[j] = false) : Part p l R i (j + 1) := by
 refine ⟨h.len, ?_, ?_, by have := h.lt; omega, hj⟩
 · rw [zT hj, List.filter_append]
   simp [hp, h.kept]
 · rw [← List.drop_drop, ← List.drop_drop, h.rest]
theorem Part.keep {p : VV → Bool} {l R : List VV} {i j : Nat} (h : Part p l R i j) (hj : j < l.length) (hp : p l[j] = true) : Part p l (R.set i l[j]) (i + 1) (j + 1) := by
 have hlt := h.lt
 have hl := h.len
 refine ⟨by rw [List.length_set]; exact hl, ?_, ?_, by omega, hj⟩
 · rw [zT hj, List.filter_append, ← h.kept]
   rw [zT (by rw [List.length_set]; omega), List.take_set_of_le zN, List.getElem_set_self]
   simp [hp]
 · rw [List.drop_set_of_lt (by omega), ← List.drop_drop, ← List.drop_drop, h.rest]
theorem qxm {p : VV → Bool} {l : List VV} {i : Nat} (hi : i < l.length) (h1 : ∀ x ∈ l.take i, p x = true) (h2 : p l[i] = false) : Part p l l i (i + 1) := by
 refine ⟨rfl, ?_, rfl, by omega, hi⟩
 rw [zT hi, List.filter_append, List.filter_eq_self.2 h1]
 simp [h2]
theorem part_end {p : VV → Bool} {l R : List VV} {i j : Nat} (h : Part p l R i j) (hj : j = l.length) : R.take i = l.filter p := by
 rw [h.kept, hj, List.take_length]
def DelPost (p : VV → Bool) (l : List VV) (B : Nat) (A : Option Addr) (c : Nat) (w : World) (e : Ending) (w' : World) : Prop := ∃ m, e = .returned (.slice A m c) ∧ OwnV w' B A m c (l.filter p) ∧ Below B w w'
theorem del_any (B : Nat) (A : Option Addr) (n c : Nat) (l : List VV) (w : World) (h : OwnV w B A n c l) (hB : B ≤ w.heap.size) :
 Calls Tryz.prog 157 #[.slice A n c, .func (.func 159) #[] #[]] w (DelPost (zzw) l B A c w) := by
 have H := zH h
 have HL := zH h.len
 have hcap := h.cap
 have hmax : n ≤ 9223372036854775807 := by have h3 := hcap.2; unfold maxLen at h3; omega
 have hncap := hcap.1
 clear h hcap
 by_cases hall : ∀ x ∈ l, zzw x = true
 · have HF : Hid (l.filter (zzw) = l) := zH (List.filter_eq_self.2 hall)
   have HALL := zH hall
   clear hall
   go_enter Tryz.func157, Tryz.ntmps157
   go_wp2_with (first
    | (go_at_call 86; refine (idx_any _ A n c l _ H.out.sl).mono ?_; rintro e w1 ⟨r, rfl, hr, hb1⟩; obtain rfl : r = -1 := (by rcases hr with ⟨h1, _⟩ | ⟨i, h1, h2, h3, h4⟩; exact h1; have := HALL.out _ (List.getElem_mem h2); rw [h4] at this; cases this); have HB1 := zH hb1; clear hr hb1)
    | fail)
   go_ret
   exact ⟨n, rfl, by rw [HF.out]; exact H.out.keepB HB1.out, HB1.out.mono hB⟩
 · have hpos : 0 < n := by
    rw [HL.out]
    cases l with
    | nil => exact absurd (fun x hx => by simp at hx) hall
    | cons _ _ => simp
   obtain ⟨g, rfl⟩ : ∃ g, A = some ⟨g, 0, none⟩ := by
    rcases H.out.row.2 with ⟨_, h2⟩ | ⟨g, cap, cur, h1, _⟩
    · omega
    · injection h1 with h1; exact ⟨g, h1⟩
   have HALL := zH hall
   clear hall
   have hgB := H.out.base.1
   go_enter Tryz.func157, Tryz.ntmps157
   go_wp2_with (first
    | (go_at_call 86; refine (idx_any _ _ n c l _ H.out.sl).mono ?_; rintro e w1 ⟨r, rfl, hr, hb1⟩; obtain ⟨i0, rfl, hi0, hk0, hd0⟩ : ∃ i : Nat, r = i ∧ ∃ h : i < l.length, (∀ x ∈ l.take i, zzw x = true) ∧ zzw l[i] = false := (by rcases hr with ⟨_, h1⟩ | h1; exact absurd h1 HALL.out; exact h1); have HP0 := zH (qxm hi0 hk0 hd0); have HB1 := zH hb1; have hi0n : i0 < n := (by rw [HL.out]; exact hi0); have hq0 : ((i0 : Int) == -1) = false := zzH (by omega); clear hr hb1 hk0 hd0 hi0)
    | fail)
   go_loopw [5, 6] (fun iv jv wr => ∃ (i j : Nat) (R : List VV), iv = .int .i64 (i : Int) ∧ jv = .int .i64 (j : Int) ∧ Hid (Part (zzw) l R i j) ∧ OwnV wr B (some ⟨g, 0, none⟩) n c R ∧ Below B w wr)
    (fun _ jv _ => n - (intOf jv).toNat)
   case atStart => exact ⟨i0, i0 + 1, l, rfl, by go_num, HP0, H.out.keepB HB1.out, HB1.out.mono hB⟩
   case round =>
    obtain ⟨i, j, R, rfl, rfl, HP, hown, hb⟩ := hrel
    have HO := zH hown
    have HB := zH hb
    have hij : i < j := HP.out.lt
    have hjn : j ≤ n := by have := HP.out.le; rw [← HL.out] at this; exact this
    have hsz := hb.size
    have hBr : B ≤ wr.heap.size := by omega
    clear hown hb HP0 HB1 hq0
    by_cases hlt : j < n
    · have hjl : j < l.length := by rw [← HL.out]; exact hlt
      have hjR : j < R.length := by rw [HP.out.len]; exact hjl
      have hget := HP.out.get hjl
      obtain ⟨d, hd⟩ : ∃ d, d = l[j] := ⟨_, rfl⟩
      obtain ⟨c0, c1, c2⟩ := HO.out.cell hjR
      rw [hget, ← hd] at c0 c1 c2
      have hdok : d.ok := by rw [hd, ← hget]; exact HO.out.ok _ (List.getElem_mem hjR)
      have HDOK := zH hdok
      obtain ⟨r, hr⟩ : ∃ r, r = !zzw d := ⟨_, rfl⟩
      have HD := zH hd; have HR := zH hr
      clear hd hr hget hdok
      have hi1 : (0 : Int) ≤ (j : Int) := by omega
      have hi2 : (j : Int) < (n : Int) := by omega
      cases r with
      | true =>
        have HP2 := zH (HP.out.skip hjl (by rw [← HD.out]; have := HR.out; simpa using this))
        go_wp2_with (first
         | (go_at_call 159; refine (dropv d true HR.out _).mono ?_; rintro e w1 ⟨rfl, hb1⟩; have HB2 := zH (((Below.refl _ wr).alloc zN _).trans (hb1.mono (by simp))); clear hb1)
         | fail)
        go_roundw
        case rel => exact ⟨i, j + 1, R, rfl, by go_num, HP2, HO.out.keepB HB2.out, HB.out.trans (HB2.out.mono hBr)⟩
        case measure => simp [intOf]; omega
      | false =>
        have HP2 := zH (HP.out.keep hjl (by rw [← HD.out]; have := HR.out; simpa using this))
        have hiR : i < R.length := by omega
        have hi3 : (0 : Int) ≤ (i : Int) := by omega
        have hi4 : (i : Int) < (n : Int) := by omega
        obtain ⟨e0, e1, e2⟩ := HO.out.cell hiR
        go_wp2_with (first
         | (go_at_call 159; refine (dropv d false HR.out _).mono ?_; rintro e w1 ⟨rfl, hb1⟩; have HB2 := zH (show Below wr.heap.size wr w1 from ((Below.refl _ wr).alloc zN _).trans (hb1.mono (by simp))); have HK2 := zH (show w1.heap[wr.heap.size]? = some (.cells #[.bool d.null, .int .i64 d.n, .string d.s] 74 (0, 0)) from (hb1.block _ (by simp)).trans (heap_alloc_new wr _)); have HO2 := zH (HO.out.keepB HB2.out); have z0 : w1.cell? ⟨wr.heap.size, 0, none⟩ = some (.bool d.null) := (by rw [zC HK2.out]; rfl); have z1 : w1.cell? ⟨wr.heap.size, 1, none⟩ = some (.int .i64 d.n) := (by rw [zC HK2.out]; rfl); have z2 : w1.cell? ⟨wr.heap.size, 2, none⟩ = some (.string d.s) := (by rw [zC HK2.out]; rfl); have y0 := zzh HB2.out e0; have y1 := zzh HB2.out e1; have y2 := zzh HB2.out e2; have f0 := HO2.out.free (i * 3); have f1 := HO2.out.free (i * 3 + 1); have f2 := HO2.out.free (i * 3 + 2); clear hb1)
         | fail)
        go_roundw
        case rel =>
         have ho := HO2.out.set (i := i) hiR d HDOK.out
         exact ⟨i + 1, j + 1, R.set i d, by go_num, by go_num, by rw [HD.out]; exact HP2, ho, zzd (zzd (zzd (HB.out.trans (HB2.out.mono hBr)) hgB _) hgB _) hgB _⟩
        case measure => simp [intOf]; omega
    · obtain rfl : j = n := by omega
      have hRl : R.length = j := HP.out.len.trans HL.out.symm
      obtain ⟨vs, hcl⟩ := qxl wr g (i * 3) (j - i) (c - i) (by omega) (fun q hq => by
       rw [HO.out.row.cellAt (i * 3 + q) (by omega), List.getElem?_eq_getElem (by rw [yy1, hRl]; omega)]; rfl) (fun q _ => HO.out.free _)
      have hcl0 := hcl 0
      have HFR := zH (((HO.out.front (k := i) (by omega) (by simp)).past vs (i * 3) zN))
      have HFE := zH (part_end HP.out HL.out)
      clear hcl hRl
      go_wp2_with fail
      go_ret
      exact ⟨i, rfl, by rw [← HFE.out]; exact HFR.out, xxT hgB _ _ _ HB.out⟩
end
section
open Go Go.RowKit
def SplitPost (l : List VV) (w : World) (e : Ending) (w' : World) : Prop :=
 ∃ A1 c1 A2 n2 c2, e = .returned (.tuple #[.slice A1 l.length c1, .slice A2 n2 c2]) ∧ Sl vvU (fun b => w.heap.size ≤ b) w' A1 l.length c1 (l.map fun v => !v.null) ∧ Sl tVV (fun b => w.heap.size ≤ b) w' A2 n2 c2 (l.filter zzw) ∧ Below w.heap.size w w'
theorem split_any (F : Nat → Prop) (A : Option Addr) (n c : Nat) (l : List VV) (w : World) (h : Sl tVV F w A n c l) (hn : n ≤ 4096) :
 Calls Tryz.prog 88 #[.slice A n c] w (SplitPost l w) := by
 have H := zH h; have HN := zH hn
 clear h hn
 go_enter Tryz.func88, Tryz.ntmps88
 go_wp2_with (first
  | (go_at_call 158; refine (clone_any F A n c l _ H.out (by have := HN.out; omega)).mono ?_; rintro e w1 ⟨A1, c1, rfl, ho1, hb1⟩; have HO1 := zH ho1; have HB1 := zH hb1; clear ho1 hb1)
  | (go_at_call 157; refine (del_any w.heap.size A1 n c1 l _ HO1.out HB1.out.size).mono ?_; rintro e w2 ⟨m, rfl, ho2, hb2⟩; have HO2 := zH ho2; have HB2 := zH (HB1.out.trans hb2); clear ho2 hb2)
  | (go_at_call 146; refine (each_any F A n c l _ (H.out.below HB2.out zN) HN.out).mono ?_; rintro e w3 ⟨A3, n3, c3, rfl, ⟨G, ho3⟩, hb3⟩; have HO3 := zH ho3; have HB3 := zH hb3; clear ho3 hb3)
  | fail)
 go_ret2
 have e3 : n3 = l.length := by have := HO3.out.len; simpa using this
 subst e3
 exact ⟨A3, c3, A1, m, c1, rfl, (HO3.out.flat (T := vvU) (fun h => h)).sl.weaken (fun b hb _ => by
  rcases hb with hb | hb
  · exact hb.elim
  · have := HB2.out.size; exact Nat.le_trans this hb.2), (HO2.out.keepB HB3.out).sl, HB2.out.trans (HB3.out.mono HB2.out.size)⟩
def yyI (l : List VV) : List UInt8 := if (l.filter zzw).length < l.length then byB (vvX (l.map fun v => !v.null)) else []
def NPutPost (l : List VV) (w : World) (e : Ending) (w' : World) : Prop :=
 ∃ A1 n1 c1 A2 n2 c2, e = .returned (.tuple #[.slice A1 n1 c1, .slice A2 n2 c2, .int .i64 0]) ∧ Sl tU8 (fun b => w.heap.size ≤ b) w' A1 n1 c1 (yyI l) ∧ Sl tVV (fun b => w.heap.size ≤ b) w' A2 n2 c2 (l.filter zzw) ∧ Below w.heap.size w w'
theorem zqv (F : Nat → Prop) (A : Option Addr) (n c : Nat) (l : List VV) (w : World) (h : Sl tVV F w A n c l) (hn : n ≤ 4096) :
 Calls Tryz.prog 42 #[.slice A n c] w (NPutPost l w) := by
 have H := zH h; have HN := zH hn; have HL := zH h.len
 have hn1 : ¬ (n : Int) > 4096 := by omega
 have hn2 : ¬ (4096 : Int) < n := by omega
 clear h hn
 go_enter Tryz.func42, Tryz.ntmps42
 go_upto_if 18 with (first
  | (go_at_call 88; refine (split_any F A n c l _ H.out HN.out).mono ?_; rintro e w1 ⟨A1, c1, A2, n2, c2, rfl, hs1, hs2, hb1⟩; have HS1 := zH hs1; have HS2 := zH hs2; have HB1 := zH hb1; clear hs1 hs2 hb1)
  | fail)
 have HL2 := zH HS2.out.len
 by_cases hlt : n2 < n
 · have hI : (n2 : Int) < (n : Int) := by omega
   have HP := zH (show yyI l = byB (vvX (l.map fun v => !v.null)) from if_pos (by rw [← HL2.out, ← HL.out]; exact hlt))
   go_wp2_with (first
    | (go_at_call 89; refine (xqV _ A1 l.length c1 _ _ HS1.out (by rw [← HL.out]; exact HN.out)).mono ?_; rintro e w2 ⟨hb2, A3, n3, c3, rfl, ho3⟩; have HO3 := zH ho3; have HB2 := zH hb2; clear ho3 hb2)
    | fail)
   go_ret3
   refine ⟨A3, n3, c3, A2, n2, c2, rfl, ?_, HS2.out.below HB2.out zN, HB1.out.trans (HB2.out.mono HB1.out.size)⟩
   rw [HP.out]
   exact HO3.out.own.sl.weaken fun b hb _ => by
    have := HB1.out.size
    rcases hb with hb | hb
    · exact hb.elim
    · exact Nat.le_trans this hb.2
 · have hI : ¬ (n2 : Int) < (n : Int) := by omega
   have HP := zH (show yyI l = [] from if_neg (by rw [← HL2.out, ← HL.out]; exact hlt))
   go_wp2_with fail
   go_ret3
   exact ⟨none, 0, 0, A2, n2, c2, rfl, by rw [HP.out]; exact Sl.nil_ _ _ _, HS2.out, HB1.out⟩
end
section
open Go Go.RowKit
def vvY (k : Int) (l : List VV) : List UInt8 :=
 if k = 1 then byB (vvX (l.map fun v => v.n == 1))
 else if k = 5 then rleB true (l.map fun v => v.n / 1000) ++ rleB false (l.map fun v => v.n % 1000)
 else rleB true (l.map fun v => v.n)
theorem numOk_of (l : List VV) (h : ∀ v ∈ l, v.ok) : yyb true (l.map fun v => v.n) ∧ yyb true (l.map fun v => v.n / 1000) ∧ yyb false (l.map fun v => v.n % 1000) := by
 refine ⟨fun x hx => ?_, fun x hx => ?_, fun x hx => ?_⟩ <;>
 · obtain ⟨v, hv, rfl⟩ := List.mem_map.1 hx
   obtain ⟨h0, h1, _⟩ := h v hv
   refine ⟨by omega, by omega, ?_⟩
   first | exact .inl rfl | exact .inr (by omega)
theorem sl_ok {F : Nat → Prop} {w : World} {A : Option Addr} {n c : Nat} {l : List VV} (h : Sl tVV F w A n c l) : ∀ v ∈ l, v.ok := by
 intro v hv
 obtain ⟨i, hi, rfl⟩ := List.getElem_of_mem hv
 obtain ⟨_, _, _, _, _, _, hr, _⟩ := h.at_ hi (by decide)
 exact hr.2
theorem iput_any (k : Int) (hk : 1 ≤ k ∧ k ≤ 5) (F : Nat → Prop) (A : Option Addr) (n c : Nat) (l : List VV) (w : World) (h : Sl tVV F w A n c l) (hn : n ≤ 4096) (hm : ∀ v ∈ l, v.null = false ∧ mayV k v = true) (hT : Lib.Utf8Tabs 0 1 w) :
 Calls Tryz.prog 45 #[.int .i64 k, .slice A n c] w (zzF (some (vvY k l)) w) := by
 have HL := zH h.len
 have H := zH h; have HN := zH hn; have HM := zH hm; have HT := zH hT
 have HOK := zH (numOk_of l (sl_ok h))
 have HVO := zH (sl_ok h)
 have HNM := zH (show decide (1 ≤ k ∧ k ≤ 5) = true by simpa using hk)
 have hn1 : ¬ (n : Int) > 4096 := by omega
 have hn2 : ¬ (4096 : Int) < n := by omega
 have HK := zH hk
 clear h hn hm hT hk
 go_enter Tryz.func45, Tryz.ntmps45
 go_wp2_with (first
  | (go_at_call 44; refine (zzf _ _).mono ?_; rintro e w1 ⟨rfl, rfl⟩; rw [HNM.out])
  | fail)
 go_loopw [21] (fun iv wr => ∃ j : Nat, j ≤ n ∧ iv = .int .i64 (j : Int) ∧ Below w.heap.size w wr) (fun iv _ => n - (intOf iv).toNat)
 case atStart => exact ⟨0, Nat.zero_le _, rfl, zR⟩
 case round =>
  obtain ⟨j, hj, rfl, hb⟩ := hrel
  have HB := zH hb
  have hsz := hb.size
  by_cases hlt : j < n
  · have hjl : j < l.length := by rw [← HL.out]; exact hlt
    obtain ⟨b, o, cs, rfl, _, hbl, hrep, hc⟩ := (H.out.below hb zN).at_ hjl (by decide)
    have hml := HM.out _ (List.getElem_mem hjl)
    have hvo := HVO.out _ (List.getElem_mem hjl)
    obtain ⟨v, hf⟩ : ∃ v, v = l[j] := ⟨_, rfl⟩
    obtain ⟨rfl, _⟩ := hrep
    rw [← hf] at hc hml hvo
    obtain ⟨nu, x, s⟩ := v
    obtain ⟨hnu, hmay⟩ := hml
    have hnu : nu = false := hnu
    subst hnu
    have HMAY := zH hmay; have HVK := zH hvo
    obtain ⟨g0, g1, g2⟩ := xxj hc
    have g0 : _ = some (Value.bool false) := g0
    have g1 : _ = some (Value.int .i64 x) := g1
    have g2 : _ = some (Value.string s) := g2
    have i0 : (0 : Int) ≤ (j : Int) := by omega
    have i1 : (j : Int) < (n : Int) := by omega
    clear hc hf hmay hvo hb
    go_wp2_with (first
     | (go_at_call 41; refine (jjY k ⟨false, x, s⟩ HVK.out _ (zze HT.out (HB.out.alloc hsz _))).mono ?_; rintro e w3 ⟨rfl, hb3⟩; rw [HMAY.out]; have HB3 := zH ((HB.out.alloc hsz _).trans (hb3.mono (by simp; omega))); clear hb3)
     | fail)
    go_roundw
    case rel => exact ⟨j + 1, by omega, by go_num, HB3.out⟩
    case measure => simp [intOf]; omega
  · obtain rfl : j = n := by omega
    have HS := zH (H.out.below hb zN)
    have i1 : ¬ (j : Int) < (j : Int) := by omega
    clear hb
    by_cases hk1 : k = 1
    · subst hk1
      have HI := zH (show vvY 1 l = byB (vvX (l.map fun v => v.n == 1)) from if_pos rfl)
      go_wp2_with (first
       | (go_at_call 90; refine (qxj F A j c l _ HS.out HN.out).mono ?_; rintro e w3 ⟨A3, n3, c3, rfl, ⟨G, ho3⟩, hb3⟩; have HO3 := zH ho3.sl; have HL3 := zH ho3.len; have HB3 := zH hb3; clear ho3 hb3)
       | (go_at_call 89; refine (xqV _ A3 n3 c3 _ _ HO3.out (by have := HL3.out; rw [List.length_map, ← HL.out] at this; rw [this]; exact HN.out)).mono ?_; rintro e w4 ⟨hb4, A4, n4, c4, rfl, ho4⟩; have HO4 := zH ho4; have HB4 := zH hb4; clear ho4 hb4)
       | fail)
      go_ret2
      have hw := HB.out.trans (HB3.out.mono hsz)
      exact ⟨hw.trans (HB4.out.mono hw.size), A4, n4, c4, rfl, by rw [HI.out]; exact HO4.out.down hw.size⟩
    · have hkb1 := zzH hk1
      by_cases hk5 : k = 5
      · subst hk5
        have HI := zH (show vvY 5 l = rleB true (l.map fun v => v.n / 1000) ++ rleB false (l.map fun v => v.n % 1000) by unfold vvY; rw [if_neg (by decide), if_pos rfl])
        have HR1 := zH (yyr true (l.map fun v => v.n / 1000)); have HR2 := zH (yyr false (l.map fun v => v.n % 1000))
        go_upto_region 18 with (first
         | (go_at_call 93; refine (qxk F A j c l _ HS.out HN.out).mono ?_; rintro e w3 ⟨A3, n3, c3, rfl, ⟨G, ho3⟩, hb3⟩; have HO3 := zH ho3.sl; have HL3 := zH ho3.len; have HB3 := zH hb3; clear ho3 hb3)
         | (go_at_call 92; refine (uuI _ A3 n3 c3 _ _ HO3.out (by have := HL3.out; rw [List.length_map, ← HL.out] at this; rw [this]; exact HN.out) true HOK.out.2.1).mono ?_; rintro e w4 ⟨hb4, A4, n4, c4, rfl, ho4⟩; have HO4 := zH ho4; have HB4 := zH hb4; clear ho4 hb4)
         | fail)
        have hw4 := HB.out.trans ((HB3.out.mono hsz).trans (HB4.out.mono (by have := HB3.out.size; omega)))
        have HW4 := zH hw4
        obtain ⟨A5, hA5⟩ : ∃ A5, A5 = A4 := ⟨_, rfl⟩
        obtain ⟨n5, hn5⟩ : ∃ n5, n5 = n4 := ⟨_, rfl⟩
        obtain ⟨c5, hc5⟩ : ∃ c5, c5 = c4 := ⟨_, rfl⟩
        have HO5 := HO4
        rw [← hA5, ← hn5, ← hc5] at HO5 ⊢
        have HS4 := zH (H.out.below hw4 zN)
        have HZ := zH (show w.heap.size ≤ w3.heap.size from Nat.le_trans hsz HB3.out.size)
        clear hA5 hn5 hc5 hw4 HO4 HO3 HB3 HB4 HL3
        go_wp2_with (first
         | (go_at_call 93; refine (xq2 F A j c l _ HS4.out HN.out).mono ?_; rintro e w6 ⟨A3, n3, c3, rfl, ⟨G, ho3⟩, hb3⟩; have HO3 := zH ho3.sl; have HL3 := zH ho3.len; have HB3 := zH hb3; clear ho3 hb3)
         | (go_at_call 92; refine (uuI _ A3 n3 c3 _ _ HO3.out (by have := HL3.out; rw [List.length_map, ← HL.out] at this; rw [this]; exact HN.out) false HOK.out.2.2).mono ?_; rintro e w7 ⟨hb4, A4, n4, c4, rfl, ho4⟩; have HO4 := zH ho4; have HB4 := zH hb4; clear ho4 hb4)
         | (at_builtin; refine apb w7 w rfl (.tmp 59) (.tmp 60) rfl w.heap.size A5 n5 c5 (rleB true (l.map fun v => v.n / 1000)) (by rfl) ((HO5.out.down HZ.out).keepB (HB3.out.trans (HB4.out.mono HB3.out.size))) (HW4.out.trans ((HB3.out.mono HW4.out.size).trans (HB4.out.mono (by have := HW4.out.size; have := HB3.out.size; omega)))) zN _ A4 n4 c4 (rleB false (l.map fun v => v.n % 1000)) (by rfl) HO4.out.bs (by have h1 := HO5.out.len; have h2 := HO4.out.len; have h3 := HR1.out; have h4 := HR2.out; rw [List.length_map, ← HL.out] at h3 h4; have h5 := HN.out; omega) ?_; intro A8 c8 w8 h8 hb8 _; have HO8 := zH h8; have HB8 := zH hb8; clear h8 hb8)
         | fail)
        go_ret2
        exact ⟨HB8.out, A8, _, c8, rfl, by rw [HI.out]; exact HO8.out⟩
      · have hkb5 := zzH hk5
        have HI := zH (show vvY k l = rleB true (l.map fun v => v.n) by unfold vvY; rw [if_neg hk1, if_neg hk5])
        go_wp2_with (first
         | (go_at_call 93; refine (nums_any F A j c l _ HS.out HN.out).mono ?_; rintro e w3 ⟨A3, n3, c3, rfl, ⟨G, ho3⟩, hb3⟩; have HO3 := zH ho3.sl; have HL3 := zH ho3.len; have HB3 := zH hb3; clear ho3 hb3)
         | (go_at_call 92; refine (uuI _ A3 n3 c3 _ _ HO3.out (by have := HL3.out; rw [List.length_map, ← HL.out] at this; rw [this]; exact HN.out) true HOK.out.1).mono ?_; rintro e w4 ⟨hb4, A4, n4, c4, rfl, ho4⟩; have HO4 := zH ho4; have HB4 := zH hb4; clear ho4 hb4)
         | fail)
        go_ret2
        have hw := HB.out.trans (HB3.out.mono hsz)
        exact ⟨hw.trans (HB4.out.mono hw.size), A4, n4, c4, rfl, by rw [HI.out]; exact HO4.out.down hw.size⟩
end
section
open Go Go.RowKit
def vvJ (l : List ByteArray) : List UInt8 := rleB false (l.map fun s => (s.size : Int))
theorem elemStr : zzL Tryz.prog 89 9 tStr.size := zzL.mk' (bytes := 16) (z := .string ⟨#[]⟩) (by kernel_rfl) (by kernel_rfl) rfl (by decide) (by decide)
theorem zqx (F : Nat → Prop) (A : Option Addr) (n c : Nat) (l : List ByteArray) (w : World) (h : Sl tStr F w A n c l) (hl : n ≤ 4096) :
 Calls Tryz.prog 101 #[.slice A n c] w (Own1 w (vvJ l)) := by
 have HL := zH h.len
 have HOK : Hid (yyb false (l.map fun s => (s.size : Int))) := zH (by
  intro x hx
  obtain ⟨s, hs, rfl⟩ := List.mem_map.1 hx
  obtain ⟨i, hi, rfl⟩ := List.getElem_of_mem hs
  obtain ⟨_, _, _, _, _, _, hr, _⟩ := h.at1 hi rfl
  obtain ⟨_, h2⟩ := hr
  unfold maxLen at h2
  exact ⟨by omega, by omega, .inr (by omega)⟩)
 go_enter Tryz.func101, Tryz.ntmps101
 go_wp2
 go_loopw [3, 10] (fun v i wr => ∃ (k : Nat) (A2 : Option Addr) (c2 : Nat) (G : Nat → Prop), k ≤ n ∧ i = .int .i64 k ∧ v = .slice A2 k c2 ∧ OwnF tI64 3 G wr w.heap.size A2 k c2 ((l.take k).map fun s : ByteArray => (s.size : Int)) ∧ Below w.heap.size w wr)
  (fun _ i _ => n - (intOf i).toNat)
 case atStart => exact ⟨0, none, 0, fun _ => False, Nat.zero_le _, rfl, rfl, OwnF.nil_ _ _ _ _ _, zR⟩
 case round =>
  obtain ⟨k, A2, c2, G, hk, rfl, rfl, hown, hb⟩ := hrel
  by_cases hlt : k < n
  · have hkl : k < l.length := by rw [← HL.out]; exact hlt
    obtain ⟨b, o, cs, rfl, _, hbl, hrep, hc⟩ := (h.below hb zN).at1 hkl rfl
    obtain ⟨v, hf⟩ : ∃ v, v = l[k] := ⟨_, rfl⟩
    obtain ⟨hcs, hok⟩ := hrep
    injection hcs with hcs; subst hcs
    rw [← hf] at hc hok
    unfold maxLen at hok
    have HF := zH hf; clear hf
    have HO := zH hown; clear hown
    have hsz := hb.size
    go_wp2_with (first
     | (at_builtin; refine apl1 (T := tI64) xxv wr w rfl (.tmp 14) (.tmp 17) rfl w.heap.size A2 k c2 ((l.take k).map fun s : ByteArray => (s.size : Int)) (by rfl) G (fun _ => False) HO.out hb zN _ (by rfl) [.int .i64 (v.size : Int)] (v.size : Int) ⟨rfl, by omega, by omega⟩ 3 rfl (fun _ _ _ _ h4 => h4) (by omega) ?_; intro A5 c5 w5 h5))
    go_roundw
    case rel =>
     have e1 : (l.take (k + 1)).map (fun s : ByteArray => (s.size : Int)) = (l.take k).map (fun s : ByteArray => (s.size : Int)) ++ [(v.size : Int)] := by
      rw [zT hkl, List.map_append, ← HF.out]; rfl
     have e2 := h5.own
     rw [← e1] at e2
     exact ⟨k + 1, A5, c5, _, by omega, by go_num, rfl, e2, h5.below⟩
    case measure => simp [intOf]; omega
  · obtain rfl : k = n := by omega
    have e1 : l.take k = l := zL (by rw [← HL.out]; exact Nat.le_refl _)
    rw [e1] at hown
    have HO := zH hown.sl; clear hown e1
    go_wp2_with (first
     | (go_at_call 92; refine (uuI _ A2 k c2 _ _ HO.out hl false HOK.out).mono ?_; rintro e w4 ⟨hb4, A4, n4, c4, rfl, ho4⟩; have HO4 := zH ho4; have HB4 := zH hb4; clear ho4 hb4)
     | fail)
    go_ret
    exact ⟨A4, n4, c4, rfl, HO4.out.down hb.size, hb.trans (HB4.out.mono hb.size)⟩
theorem long1_any (s : ByteArray) (w : World) : Calls Tryz.prog 98 #[.string s] w fun e w' => e = .returned (.bool (decide (300 < s.size))) ∧ Below w.heap.size w w' := by
 by_cases h : 300 < s.size
 · have h1 : (300 : Int) < s.size := by omega
   have HD := zH (decide_eq_true h)
   clear h
   go_enter Tryz.func98, Tryz.ntmps98
   go_wp2_with fail
   go_ret
   exact ⟨by first | (rw [HD.out]; rfl) | (rw [HD.out]; simp [h1]), zR⟩
 · have h1 : ¬ (300 : Int) < s.size := by omega
   have HD := zH (decide_eq_false h)
   clear h
   go_enter Tryz.func98, Tryz.ntmps98
   go_wp2_with fail
   go_ret
   exact ⟨by first | (rw [HD.out]; rfl) | (rw [HD.out]; simp [h1]), zR⟩
end
section
open Go Go.RowKit
theorem idxs_any (F : Nat → Prop) (A : Option Addr) (n c : Nat) (l : List ByteArray) (w : World) (h : Sl tStr F w A n c l) (hs : ∀ s ∈ l, s.size ≤ 300) (hn : n ≤ 4611686018427387904) :
 Calls Tryz.prog 163 #[.slice A n c, .func (.func 98) #[] #[]] w fun e w' => e = .returned (.int .i64 (-1)) ∧ Below w.heap.size w w' := by
 have HL := zH h.len; have HS := zH hs
 clear hs
 go_enter Tryz.func163, Tryz.ntmps163
 go_wp2_with fail
 go_loopw [8] (fun i wr => ∃ j : Nat, j ≤ n ∧ i = .int .i64 j ∧ Below w.heap.size w wr) (fun i _ => n - (intOf i).toNat)
 case atStart => exact ⟨0, Nat.zero_le _, rfl, zR⟩
 case round =>
  obtain ⟨j, hj, rfl, hb⟩ := hrel
  have HB := zH hb
  have hsz := hb.size
  by_cases hlt : j < n
  · have hjl : j < l.length := by rw [← HL.out]; exact hlt
    obtain ⟨b, o, u, rfl, _, hbl, hr, hc⟩ := (h.below hb zN).at1 hjl rfl
    have hsm := HS.out _ (List.getElem_mem hjl)
    obtain ⟨s, hs⟩ : ∃ s, s = l[j] := ⟨_, rfl⟩
    obtain ⟨hr, _⟩ := hr
    injection hr with hr; subst hr
    rw [← hs] at hc hsm
    have HD := zH (show decide (300 < s.size) = false from decide_eq_false (by omega))
    have hi1 : (0 : Int) ≤ (j : Int) := by omega
    have hi2 : (j : Int) < (n : Int) := by omega
    clear hb hs hsm
    go_wp2_with (first
     | (go_at_call 98; refine (long1_any s _).mono ?_; rintro e w1 ⟨rfl, hb1⟩; rw [HD.out]; have HB1 := zH (HB.out.trans (hb1.mono hsz)); clear hb1)
     | fail)
    go_roundw
    case rel => exact ⟨j + 1, by omega, by go_num, HB1.out⟩
    case measure => simp [intOf]; omega
  · obtain rfl : j = n := by omega
    go_wp2_with fail
    go_ret
    exact ⟨rfl, HB.out⟩
theorem long_any (F : Nat → Prop) (A : Option Addr) (n c : Nat) (l : List ByteArray) (w : World) (h : Sl tStr F w A n c l) (hs : ∀ s ∈ l, s.size ≤ 300) (hn : n ≤ 4611686018427387904) :
 Calls Tryz.prog 97 #[.slice A n c, .func (.func 98) #[] #[]] w fun e w' => e = .returned (.bool false) ∧ Below w.heap.size w w' := by
 have H := zH h; have HS := zH hs; have HN := zH hn
 clear h hs hn
 go_enter Tryz.func97, Tryz.ntmps97
 go_wp2_with (first
  | (go_at_call 163; refine (idxs_any F A n c l _ H.out HS.out HN.out).mono ?_; rintro e w1 ⟨rfl, hb1⟩; have HB1 := zH hb1; clear hb1)
  | fail)
 go_ret
 exact ⟨rfl, HB1.out⟩
end
section
open Go Go.RowKit
attribute [local go_sem ↓] Go.wp_at_zero Go.wp_at_succ
def u64n (x : Int) : Nat := (x % 18446744073709551616).toNat
theorem u64n_eq (x : Int) : IntKind.u64.wrap x = (u64n x : Int) := by rw [IntKind.wrap_u64]; unfold u64n; omega
theorem u64n_lt (x : Int) : u64n x < 18446744073709551616 := by unfold u64n; omega
def unum (tag x : Int) : Fld := fnum tag (u64n x)
def strF (s : Int × List UInt8) : List Fld := [unum 4 s.1, ftxt 5 s.2]
def zzI (m enc tx : Int) (ss : List (Int × List UInt8)) : List Fld := [unum 1 m, unum 2 enc, unum 3 tx] ++ (ss.map strF).flatten
def yyN (m enc tx : Int) (ss : List (Int × List UInt8)) : List UInt8 := vvf (dput (zzI m enc tx ss))
theorem uuM (m enc tx : Int) (ss : List (Int × List UInt8)) {k : Nat} (h : k < ss.length) : zzI m enc tx (ss.take (k + 1)) = zzI m enc tx (ss.take k) ++ strF ss[k] := by
 unfold zzI
 rw [zT h, List.map_append, List.flatten_append, List.append_assoc]
 simp
theorem zqy : zzL Tryz.prog 111 114 tFld.size := zzL.mk' (bytes := 48) (z := .agg #[.int .i64 0, .bool false, .int .u64 0, .slice none 0 0]) (by kernel_rfl) (by kernel_rfl) rfl (by decide) (by decide)
theorem vv9 : zzL Tryz.prog 119 120 tFld.size := zzL.mk' (bytes := 48) (z := .agg #[.int .i64 0, .bool false, .int .u64 0, .slice none 0 0]) (by kernel_rfl) (by kernel_rfl) rfl (by decide) (by decide)
theorem yyO {F : Nat → Prop} {w : World} {tag x : Int} (h : i64 tag) : tFld.rep F w [.int .i64 tag, .bool false, .int .u64 (u64n x : Int), .slice none 0 0] (unum tag x) := ⟨none, 0, 0, rfl, h, u64n_lt x, Sl.nil_ _ _ _⟩
theorem OwnF.offNew {α : Type} {T : Ty α} {e : TypeId} {F : Nat → Prop} {w : World} {B : Nat} {A : Option Addr} {n c : Nat} {xs : List α} (h : OwnF T e F w B A n c xs) {p : Nat} (hp : w.heap.size ≤ p) : some p ≠ A.map (·.block) := by
 intro he
 obtain ⟨a, ha, hb⟩ := Option.map_eq_some_iff.1 he.symm
 have := (h.lies (b := a.block) (by rw [ha]; rfl)).2.2
 omega
theorem uua (tag x : Int) (w : World) :
 Calls Tryz.prog 60 #[.int .i64 tag, .int .i64 x] w (IsFld tag false (u64n x) none 0 0 w) := by
 have HU := zH (u64n_eq x)
 go_enter Tryz.func60, Tryz.ntmps60
 go_wp2
 exact bodyPost_ret (v := .agg #[.int .i64 tag, .bool false, .int .u64 (IntKind.u64.wrap x), .slice none 0 0]) (by simp [results, Tryz.results60, go_sem]) rfl ⟨by rw [HU.out], (Below.refl _ w).alloc zN _⟩
theorem qxn (tag : Int) (A : Option Addr) (n c : Nat) (w : World) :
 Calls Tryz.prog 61 #[.int .i64 tag, .slice A n c] w (IsFld tag true 0 A n c w) := by
 go_enter Tryz.func61, Tryz.ntmps61
 go_wp2
 exact bodyPost_ret (v := .agg #[_, _, _, _]) (by simp [results, Tryz.results61, go_sem]) rfl ⟨rfl, (Below.refl _ w).alloc zN _⟩
theorem xxN (tag x : Int) (w : World) :
 Calls Tryz.prog 64 #[.int .i64 tag, .int .i64 x] w (IsFld tag false (u64n x) none 0 0 w) := by
 have HU := zH (u64n_eq x)
 go_enter Tryz.func64, Tryz.ntmps64
 go_wp2
 exact bodyPost_ret (v := .agg #[.int .i64 tag, .bool false, .int .u64 (IntKind.u64.wrap x), .slice none 0 0]) (by simp [results, Tryz.results64, go_sem]) rfl ⟨by rw [HU.out], (Below.refl _ w).alloc zN _⟩
theorem qzE (tag : Int) (A : Option Addr) (n c : Nat) (w : World) :
 Calls Tryz.prog 65 #[.int .i64 tag, .slice A n c] w (IsFld tag true 0 A n c w) := by
 go_enter Tryz.func65, Tryz.ntmps65
 go_wp2
 exact bodyPost_ret (v := .agg #[_, _, _, _]) (by simp [results, Tryz.results65, go_sem]) rfl ⟨rfl, (Below.refl _ w).alloc zN _⟩
theorem qxo (g : Nat) (F : Nat → Prop) (A : Option Addr) (n c : Nat) (l : List Fld) (w : World) (hT : TabC g w) (h : Sl tFld F w A n c l) (hn : n ≤ 4294967296) (hl : wlen l ≤ 4294967100) :
 Calls Tryz.prog 63 #[.pointer (some ⟨g, 0, none⟩), .slice A n c] w (Own1 w (vvf (dput l))) := by
 have HT := zH hT; have HH := zH h; have HD := zH (Nat.le_trans (jjJ l) hl)
 have hl2 : wlen l ≤ 4294967200 := by omega
 clear hT h
 go_enter Tryz.func63, Tryz.ntmps63
 go_wp2_with (first
  | (go_at_call 122; refine (wput_any F A n c l _ HH.out hn hl2).mono ?_; rintro e w1 ⟨A1, n1, c1, rfl, ho1, hb1⟩; have HO1 := zH ho1; have HB1 := zH hb1; have hn1 : n1 ≤ 4294967200 := (by have h1 := ho1.len; have h2 := HD.out; omega); clear ho1 hb1)
  | (go_at_call 123; refine (jjP g _ A1 n1 c1 (dput l) _ (HT.out.keep HB1.out) HO1.out.bs hn1).mono ?_; rintro e w2 ⟨A2, n2, c2, rfl, ho2, hb2⟩; have HO2 := zH ho2; have HB2 := zH hb2; clear ho2 hb2)
  | fail)
 go_ret
 exact ⟨A2, n2, c2, rfl, HO2.out.down HB1.out.size, HB1.out.trans (HB2.out.mono HB1.out.size)⟩
end
section
open Go Go.RowKit
def KpV (K : Nat) (W W' : World) : Prop := W.heap.size ≤ W'.heap.size ∧ ∀ b, b < K → W'.heap[b]? = W.heap[b]?
theorem KpV.refl (K : Nat) (W : World) : KpV K W W := ⟨Nat.le_refl _, fun _ _ => rfl⟩
theorem KpV.trans {K : Nat} {A B C : World} (h : KpV K A B) (k : KpV K B C) : KpV K A C := ⟨Nat.le_trans h.1 k.1, fun b hb => (k.2 b hb).trans (h.2 b hb)⟩
theorem vals1_in (F : Fence) (n : Nat) (hf : F.fn 209) (hro : F.round = none) (hn : 1 ≤ n) (l bb K : Nat) (A : Option Addr) (m c : Nat) (xs : List ByteArray) (J Jx : List ByteArray → World → Prop)
 (hY : ∀ pre x W1, J pre W1 → pre.length < m → YieldAt F (n - 1) Tryz.prog l #[.string x] W1 fun e W' => (e = .returned (.bool true) ∧ J (pre ++ [x]) W' ∧ KpV K W1 W') ∨ (e = .returned (.bool false) ∧ Jx (pre ++ [x]) W'))
 (W : World) (h0 : W.cell? ⟨bb, 0, none⟩ = some (.slice A m c)) (hs : Sl tStr (fun b => b < K) W A m c xs) (hJ0 : J [] W) :
 CallsIn F n Tryz.prog 209 #[.func (.yield l) #[] #[], .pointer (some ⟨bb, 0, none⟩)] W fun e W' => (∃ v, e = .returned v) ∧ ((∃ ys, ys = xs ∧ J ys W') ∨ (∃ pre, (∃ k, k ≤ m ∧ pre = xs.take k) ∧ Jx pre W')) := by
 have HL := zH hs.len; have HS := zH hs
 have hmax : m ≤ 9223372036854775807 := by have h2 := hs.2.1; have h3 := hs.2.2.1; unfold maxLen at h3; omega
 clear hs
 refine callsIn_of_wp Tryz.func209 rfl hf ?_ hro
 simp only [Tryz.ntmps209, List.size_toArray, List.length_cons, List.length_nil, Nat.reduceAdd, Nat.reduceSub, Array.replicate_succ, Array.replicate_zero, List.push_toArray, List.append_toArray, List.nil_append, List.cons_append]
 gi_wp2
 gi_loopw [7] (fun i wr => ∃ (k : Nat), k ≤ m ∧ i = .int .i64 (k : Int) ∧ J (xs.take k) wr ∧ KpV K W wr)
  (fun i _ => m - (intOf i).toNat)
 case atStart => exact ⟨0, Nat.zero_le _, rfl, hJ0, KpV.refl _ _⟩
 case round =>
  clear h0 hJ0
  obtain ⟨k, hk, rfl, hJs, hkp⟩ := hrel
  by_cases hlt : k < m
  · have hkl : k < xs.length := by rw [← HL.out]; exact hlt
    obtain ⟨b, o, u, rfl, _, hbl, hr, hc⟩ := (HS.out.keep hkp.1 (fun b hb _ => hkp.2 b hb)).at1 hkl rfl
    obtain ⟨x, hx⟩ : ∃ x, x = xs[k] := ⟨_, rfl⟩
    obtain ⟨hr, _⟩ := hr
    injection hr with hr; subst hr
    rw [← hx] at hc
    have HX := zH hx
    have hi0 : (0 : Int) ≤ (k : Int) := by omega
    have hi1 : (k : Int) < (m : Int) := by omega
    obtain ⟨fn, tmps, assign, body, hy, hR⟩ := hY _ x wr hJs (by rw [List.length_take]; omega)
    have HKP := zH hkp; clear hkp hx
    gi_wp2
    refine hR.mono ?_
    rintro e W3 (⟨rfl, hJ3, hk3⟩ | ⟨rfl, hJx3⟩)
    · have HK3 := zH hk3; clear hk3
      gi_wp2
      go_roundw
      case rel => exact ⟨k + 1, by omega, by go_num, by rw [zT hkl, ← HX.out]; exact hJ3, HKP.out.trans HK3.out⟩
      case measure => simp [intOf]; omega
    · gi_wp2
      refine bodyPost_ret (results_none rfl _ _ _) rfl ?_
      exact ⟨⟨_, rfl⟩, .inr ⟨_, ⟨k + 1, by omega, by rw [zT hkl, ← HX.out]⟩, hJx3⟩⟩
  · obtain rfl : k = m := by omega
    have e1 : xs.take k = xs := zL (by rw [← HL.out]; exact Nat.le_refl _)
    rw [e1] at hJs
    gi_wp2
    go_end0
    first | exact ⟨⟨_, rfl⟩, .inl ⟨_, rfl, hJs⟩⟩ | exact ⟨⟨_, rfl⟩, .inl hJs⟩ | exact .inl hJs | exact hJs
end
section
open Go Go.RowKit
theorem Col.empty {α : Type} (T : Ty α) (e : TypeId) (col : Nat → Nat) (i B : Nat) (w : World) (hB : B ≤ w.heap.size) (hc : col w.heap.size = i) : Col T e col i B (w.heap.size + 1) (w.alloc (.cells #[] e)) (some ⟨w.heap.size, 0, none⟩) 0 0 [] :=
 ⟨fun _ => False, OwnF.empty T e _ w B hB (fun _ hb => hb.elim), fun _ hb => hb.elim, fun b hb => by
  injection hb with hb
  have hb : w.heap.size = b := hb
  subst hb
  exact ⟨Nat.lt_succ_self _, hc⟩⟩
theorem Col.allocs {α : Type} {T : Ty α} {e : TypeId} {col : Nat → Nat} {i B S : Nat} {w : World} {A : Option Addr} {n c : Nat} {xs : List α} (h : Col T e col i B S w A n c xs) (o : Obj) : Col T e col i B S (w.alloc o) A n c xs :=
 h.keep (by simp) fun b _ _ hl _ => Below.heap_alloc w o b hl
theorem Col.keepB {α : Type} {T : Ty α} {e : TypeId} {col : Nat → Nat} {i B S : Nat} {w w' : World} {A : Option Addr} {n c : Nat} {xs : List α} (h : Col T e col i B S w A n c xs) (hb : Below w.heap.size w w') : Col T e col i B S w' A n c xs :=
 h.keep hb.size fun b _ _ hl _ => hb.block b hl
end
end Go.Proofs.YtpmglcachffojaaGreatDoor
