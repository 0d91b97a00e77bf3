/- A part of what Puts leans on. -/
import Derived.Test.YtpmglcachffojaaGreatDoorZ28
import Derived.Test.YtpmglcachffojaaGreatDoorZ30
set_option maxRecDepth 100000
set_option maxHeartbeats 16000000
namespace Go.Proofs.YtpmglcachffojaaGreatDoor
section
open Go Go.RowKit Go.Maps
def plD (H : Type) (ws : List (List UInt8)) : Nat → DataW H
 | 0 => .map []
 | k + 1 => (plD H ws k).put (.string (ws.getD k [])) (.lit (.int .i64 (k : Int)))
theorem jjI (s : List UInt8) : WideAt.IsKeyLit (.string s) := trivial
theorem jjJ {ws : List (List UInt8)} (hn : ws.Nodup) {i j : Nat} (hi : i < ws.length) (hj : j < ws.length) (e : ws[i] = ws[j]) : i = j := by
 rcases Nat.lt_trichotomy i j with h | h | h
 · exact absurd e (List.pairwise_iff_getElem.1 hn i j hi hj h)
 · exact h
 · exact absurd e.symm (List.pairwise_iff_getElem.1 hn j i hj hi h)
theorem uuX (H : Type) (ws : List (List UInt8)) : ∀ k, Tidy (plD H ws k)
 | 0 => tidy_empty
 | k + 1 => (uuX H ws k).put (jjI _) _
theorem vvC {ws : List (List UInt8)} {k : Nat} (h : k < ws.length) : ws.getD k [] = ws[k] := by
 rw [List.getD_eq_getElem?_getD, List.getElem?_eq_getElem h]; rfl
theorem plD_has (H : Type) (ws : List (List UInt8)) (s : List UInt8) : ∀ k, k ≤ ws.length → (has (plD H ws k) (.string s) = decide (s ∈ ws.take k))
 | 0, _ => by simp [plD, has]
 | k + 1, hk => by
   have ih := plD_has H ws s k (by omega)
   have hkl : k < ws.length := by omega
   rw [plD, vvC hkl, zT hkl]
   by_cases h : s = ws[k]
   · subst h
     rw [has_put_same (uuX H ws k).isMap (jjI _)]
     symm
     rw [decide_eq_true_eq, List.mem_append, List.mem_singleton]
     exact .inr rfl
   · rw [has_put_other (by intro e; injection e with e; exact h e), ih, decide_eq_decide, List.mem_append, List.mem_singleton]
     exact ⟨.inl, fun h' => h'.resolve_right h⟩
theorem qxt (H : Type) (ws : List (List UInt8)) (hn : ws.Nodup) : ∀ k, k ≤ ws.length → Maps.size (plD H ws k) = k
 | 0, _ => rfl
 | k + 1, hk => by
   have ih := qxt H ws hn k (by omega)
   have hkl : k < ws.length := by omega
   have hno : has (plD H ws k) (.string ws[k]) = false := by
    rw [plD_has H ws _ k (by omega)]
    simp only [decide_eq_false_iff_not]
    intro hm
    obtain ⟨i, hi, he⟩ := List.getElem_of_mem hm
    rw [List.getElem_take] at he
    rw [List.length_take] at hi
    have := jjJ hn (by omega) hkl he
    omega
   rw [plD, vvC hkl, size_put (uuX H ws k), hno, ih]
   rfl
theorem plD_at (H : Type) (ws : List (List UInt8)) (hn : ws.Nodup) (z : DataW H) : ∀ k, k ≤ ws.length → ∀ i, i < k → (plD H ws k).atKey (.string (ws.getD i [])) z = .lit (.int .i64 (i : Int))
 | k + 1, hk, i, hi => by
   have hkl : k < ws.length := by omega
   have hil : i < ws.length := by omega
   rw [plD]
   by_cases h : i = k
   · subst h
     rw [atKey_put_same (uuX H ws i).isMap (jjI _)]
   · rw [atKey_put_other]
     · exact plD_at H ws hn z k (by omega) i (by omega)
     · intro e
       injection e with e
       rw [vvC hil, vvC hkl] at e
       exact h (jjJ hn hil hkl e)
theorem xxE (d : Array (List UInt8)) : ∀ m, m ≤ d.size → ∀ x, (x ∈ Lib.compactUpTo d m ↔ ∃ i, i < m ∧ d[i]! = x)
 | 0, _, x => by simp [Lib.compactUpTo]
 | m + 1, hm, x => by
   have ih := xxE d m (by omega) x
   rw [Lib.compactUpTo_succ, List.mem_append, ih]
   constructor
   · rintro (⟨i, hi, he⟩ | h)
     · exact ⟨i, by omega, he⟩
     · split at h
       · exact ⟨m, by omega, (List.mem_singleton.1 h).symm⟩
       · cases h
   · rintro ⟨i, hi, he⟩
     rcases Nat.lt_or_ge i m with h | h
     · exact .inl ⟨i, h, he⟩
     · obtain rfl : i = m := by omega
       by_cases hk : Lib.keeps d i = true
       · right
         rw [if_pos hk, ← he]
         exact List.mem_singleton.2 rfl
       · left
         have hk2 : ¬ (i = 0 ∨ d[i]! ≠ d[i - 1]!) := by simpa [Lib.keeps] using hk
         have h0 : i ≠ 0 := fun e => hk2 (.inl e)
         have h1 : d[i]! = d[i - 1]! := Classical.byContradiction fun e => hk2 (.inr e)
         exact ⟨i - 1, by omega, by rw [← h1, he]⟩
theorem zqH (zs : List (List UInt8)) (x : List UInt8) : x ∈ Lib.compact zs ↔ x ∈ zs := by
 unfold Lib.compact
 rw [xxE zs.toArray zs.length (by simp) x]
 constructor
 · rintro ⟨i, hi, rfl⟩
   simp [getElem!_pos, hi]
 · intro h
   obtain ⟨i, hi, rfl⟩ := List.getElem_of_mem h
   exact ⟨i, hi, by simp [getElem!_pos, hi]⟩
theorem vv5 (l : List ByteArray) (x : List UInt8) : x ∈ zzF l ↔ x ∈ zzp l := by
 unfold zzF vvB
 rw [zqH]
 exact (List.mergeSort_perm _ _).mem_iff
end
section
open Go Go.RowKit
theorem xqd (l : List (List UInt8)) : (vvB l).Pairwise (fun a b => a ≤ b) := by
 have tr : ∀ a b c : List UInt8, decide (a ≤ b) = true → decide (b ≤ c) = true → decide (a ≤ c) = true := fun a b c h1 h2 => by
  simp only [decide_eq_true_eq] at h1 h2 ⊢; exact List.le_trans h1 h2
 have tot : ∀ a b : List UInt8, (decide (a ≤ b) || decide (b ≤ a)) = true := fun a b => by simp only [Bool.or_eq_true, decide_eq_true_eq]; exact List.le_total a b
 exact (List.pairwise_mergeSort tr tot l).imp fun {a b} h => by simpa using h
theorem vvq (d : Array (List UInt8)) (hs : ∀ i j, i ≤ j → j < d.size → d[i]! ≤ d[j]!) : ∀ m, m ≤ d.size → (Lib.compactUpTo d m).Pairwise (fun a b => a ≤ b ∧ a ≠ b)
 | 0, _ => by simp [Lib.compactUpTo]
 | m + 1, hm => by
   have ih := vvq d hs m (by omega)
   rw [Lib.compactUpTo_succ, List.pairwise_append]
   refine ⟨ih, by split <;> simp, fun x hx y hy => ?_⟩
   split at hy
   · rename_i hk
     obtain rfl := List.mem_singleton.1 hy
     obtain ⟨i, hi, rfl⟩ := (xxE d m (by omega) x).1 hx
     refine ⟨hs i m (by omega) (by omega), fun e => ?_⟩
     have hk2 : m = 0 ∨ d[m]! ≠ d[m - 1]! := by simpa [Lib.keeps] using hk
     rcases hk2 with h | h
     · omega
     · have h1 := hs i (m - 1) (by omega) (by omega)
       have h2 := hs (m - 1) m (by omega) (by omega)
       rw [e] at h1
       exact h (List.le_antisymm h1 h2)
   · cases hy
theorem kqo (l : List ByteArray) : (zzF l).Pairwise (fun a b => a ≤ b ∧ a ≠ b) := by
 unfold zzF Lib.compact
 refine vvq _ (fun i j hij hj => ?_) _ (by simp)
 have hj' : j < (vvB (zzp l)).length := by simpa using hj
 have hi' : i < (vvB (zzp l)).length := by omega
 have e1 : (vvB (zzp l)).toArray[i]! = (vvB (zzp l))[i] := by simp [getElem!_pos, hi']
 have e2 : (vvB (zzp l)).toArray[j]! = (vvB (zzp l))[j] := by simp [getElem!_pos, hj']
 rw [e1, e2]
 rcases Nat.eq_or_lt_of_le hij with h | h
 · subst h; exact List.le_refl _
 · exact List.pairwise_iff_getElem.1 (xqd _) i j hi' hj' h
theorem vvD (l : List ByteArray) : (zzF l).Nodup := (kqo l).imp fun h => h.2
def zzG (l : List ByteArray) (s : ByteArray) : Nat := (zzF l).idxOf s.data.toList
theorem yyK (l : List ByteArray) {s : ByteArray} (h : s ∈ l) : zzG l s < (zzF l).length :=
 List.idxOf_lt_length_of_mem ((vv5 l _).2 (List.mem_map.2 ⟨s, h, rfl⟩))
theorem qzT (l : List ByteArray) {s : ByteArray} (h : s ∈ l) : (zzF l).getD (zzG l s) [] = s.data.toList := by
 rw [vvC (yyK l h)]
 exact List.getElem_idxOf (yyK l h)
theorem jjK (l : List ByteArray) : (zzF l).length ≤ l.length := by
 refine Nat.le_trans (jjH _) ?_
 unfold vvB zzp
 simp
end
section
open Go Go.RowKit
def zzC (l : List ByteArray) : List UInt8 := (zzp l).flatten
theorem kq4 : ∀ l : List (List UInt8), Lib.join l [] = l.flatten
 | [] => rfl
 | [x] => by simp [Lib.join]
 | x :: y :: r => by
   have ih := kq4 (y :: r)
   have e : List.intersperse ([] : List UInt8) (x :: y :: r) = x :: [] :: List.intersperse [] (y :: r) := rfl
   unfold Lib.join List.intercalate at ih ⊢
   rw [e, List.flatten_cons, List.flatten_cons, ih, List.nil_append]
   rfl
theorem xxk : ∀ l : List ByteArray, (∀ s ∈ l, s.size ≤ 300) → (zzC l).length ≤ 300 * l.length
 | [], _ => by simp [zzC, zzp]
 | x :: r, h => by
   have ih := xxk r (fun s hs => h s (List.mem_cons_of_mem _ hs))
   have hx := h x (List.mem_cons_self ..)
   have e : (zzC (x :: r)).length = x.data.toList.length + (zzC r).length := by simp [zzC, zzp]
   have e2 : x.data.toList.length = x.size := by rw [Array.length_toList]; rfl
   rw [e, List.length_cons]
   omega
theorem qxu (F : Nat → Prop) (A : Option Addr) (n c : Nat) (l : List ByteArray) (w : World) (h : Sl tStr F w A n c l) (hn : n ≤ 4096) (hs : ∀ s ∈ l, s.size ≤ 300) :
 Calls Tryz.prog 100 #[.slice A n c, .string ⟨#[]⟩] w fun e w' => e = .returned (.string (mkS (zzC l))) ∧ Below w.heap.size w w' := by
 have hl := h.len
 cases A with
 | none =>
   have hl0 : l = [] := by
    cases l with
    | nil => rfl
    | cons x r => obtain ⟨b, o, _, e, _⟩ := h.at1 (k := 0) (by simp) rfl; cases e
   subst hl0
   obtain rfl : n = 0 := hl
   refine (Tryz.strings_Join_none none c ⟨#[]⟩ w).mono ?_
   rintro e w' ⟨he, hw⟩
   exact ⟨by rw [he]; rfl, by first | exact hw | (rw [hw]; exact zR)⟩
 | some a =>
   by_cases hl0 : l = []
   · subst hl0
     obtain rfl : n = 0 := hl
     refine (Tryz.strings_Join_none (some a) c ⟨#[]⟩ w).mono ?_
     rintro e w' ⟨he, hw⟩
     exact ⟨by rw [he]; rfl, by first | exact hw | (rw [hw]; exact zR)⟩
   · have hlp : 0 < l.length := List.length_pos_iff.2 hl0
     obtain ⟨b, o, u0, e0, _, hbl, _, _⟩ := h.at1 (k := 0) hlp rfl
     injection e0 with e0
     subst e0
     have hcells : ∀ (j : Nat) x, l[j]? = some x → w.cell? ⟨b, o + j, none⟩ = some (.string x) := fun j x hx => by
      obtain ⟨hj, rfl⟩ := List.getElem?_eq_some_iff.1 hx
      obtain ⟨b2, o2, u, e2, _, _, hr, hc⟩ := h.at1 hj rfl
      injection e2 with e2; injection e2 with e3 e4 _; subst e3; subst e4
      obtain ⟨hr, _⟩ := hr
      injection hr with hr; subst hr
      exact hc
     have hJ := Tryz.strings_Join b o c l ⟨#[]⟩ w hcells hbl (by omega) (by have := h.2.1; omega) (by
      show (Lib.join (zzp l) []).length ≤ _
      rw [kq4]
      have := xxk l hs
      unfold zzC at this
      omega)
     rw [← hl] at hJ
     refine hJ.mono ?_
     rintro e w' ⟨he, hw⟩
     refine ⟨?_, hw⟩
     rw [he]
     show Ending.returned (.string ⟨(Lib.join (zzp l) []).toArray⟩) = _
     rw [kq4]
     rfl
end
section
open Go Go.RowKit Go.Maps
theorem qxv : ∀ l : List ByteArray, (l.map fun s => [Value.string s]).flatten = svs l
 | [] => rfl
 | x :: r => by
   have ih := qxv r
   unfold svs at ih ⊢
   rw [List.map_cons, List.flatten_cons, ih]
   rfl
theorem ownS_F {w : World} {B : Nat} {A : Option Addr} {n c : Nat} {l : List ByteArray} (h : OwnS w B A n c l) (hs : ∀ s ∈ l, s.size ≤ maxLen) : OwnF tStr 9 (fun _ => False) w B A n c l := by
 have e := qxv l
 refine ⟨⟨l.map fun s => [Value.string s], by rw [e]; exact h, by simp, fun i cs x h1 h2 => ?_⟩, by simp, h.len⟩
 rw [List.getElem?_map, h2] at h1
 simp at h1
 subst h1
 exact ⟨rfl, hs x (List.mem_of_getElem? h2)⟩
theorem xxF {l : List ByteArray} (hs : ∀ s ∈ l, s.size ≤ 300) : ∀ s ∈ zzi l, s.size ≤ 300 := by
 intro s h
 obtain ⟨b, hb, rfl⟩ := List.mem_map.1 h
 obtain ⟨t, ht, rfl⟩ := List.mem_map.1 ((vv5 l b).1 hb)
 exact hs t ht
theorem words_get (ws : List (List UInt8)) {k : Nat} (hk : k < ws.length) (hk2 : k < (ws.map mkS).length) : ((ws.map mkS)[k]).data.toList = ws.getD k [] := by
 rw [List.getElem_map, vvC hk]
 simp [mkS]
theorem wf_small (k : Nat) (h : k ≤ 4096) : (Lit.int .i64 (k : Int)).wf = true := by
 have h1 : IntKind.i64.min = -9223372036854775808 := by decide
 have h2 : IntKind.i64.max = 9223372036854775807 := by decide
 show (decide (IntKind.i64.min ≤ (k : Int)) && decide ((k : Int) ≤ IntKind.i64.max)) = true
 rw [h1, h2]
 simp
 omega
theorem yyn (x : Int) (h : 0 ≤ x ∧ x ≤ 4096) : -9223372036854775808 ≤ x ∧ x ≤ 9223372036854775807 := by omega
theorem law9 : Keyed Tryz.prog 9 := string_keyed Tryz.underlying9
theorem zero3 (w : World) : (zeroValue 3).run Tryz.prog w = .ok (.int .i64 0) w := by kernel_rfl
def txC (l : List ByteArray) : Int × Int × List (Int × List UInt8) :=
 if l.length < 2 * (zzF l).length then (1, 0, [(2, zzC l), (3, xxD l)])
 else (2, ((zzF l).length : Int), [(2, rleB false (l.map fun s => (zzG l s : Int))), (3, xxD (zzi l)), (4, zzC (zzi l))])
def uuA (l : List ByteArray) (w : World) (e : Ending) (w' : World) : Prop :=
 ∃ A n c, e = .returned (.tuple #[.agg #[.int .i64 (l.length : Int), .int .i64 (txC l).1, .int .i64 (txC l).2.1, .slice A n c], .int .i64 0]) ∧ Sl zzw (fun b => w.heap.size ≤ b) w' A n c (txC l).2.2 ∧ Below w.heap.size w w'
theorem tput_any (F : Nat → Prop) (A : Option Addr) (n c : Nat) (l : List ByteArray) (w : World) (h : Sl tStr F w A n c l) (hn : n ≤ 4096) (hs : ∀ s ∈ l, s.size ≤ 300) :
 Calls Tryz.prog 46 #[.slice A n c] w (uuA l w) := by
 have HL := zH h.len; have H := zH h; have HS := zH hs
 have hn1 : ¬ (n : Int) > 4096 := by omega
 have hn2 : ¬ (4096 : Int) < n := by omega
 have hmm := @run_makeMap Tryz.prog
 have HWL := zH (jjK l)
 obtain ⟨m, hm⟩ : ∃ m, m = (zzF l).length := ⟨_, rfl⟩
 have HM := zH hm
 obtain ⟨wc, hwc⟩ : ∃ wc, wc = w.alloc (.cells #[.int .i64 0, .int .i64 0, .int .i64 0, .slice none 0 0] 27) := ⟨_, rfl⟩
 have hbc : Below w.heap.size w wc := by rw [hwc]; exact (zR).alloc zN _
 have hgc : wc.heap[w.heap.size]? = some (.cells #[.int .i64 0, .int .i64 0, .int .i64 0, .slice none 0 0] 27 (0, 0)) := by rw [hwc]; exact heap_alloc_new w _
 have HWC := zH hwc; have HBC := zH hbc; have HGC := zH hgc
 clear h hs hm hwc hbc hgc
 go_enter Tryz.func46, Tryz.ntmps46
 go_upto_region 1 with fail
 rw [← HWC.out]
 go_wp2_with (first
  | (go_at_call 97; refine (long_any F A n c l _ (H.out.below HBC.out zN) HS.out (by omega)).mono ?_; rintro e w1 ⟨rfl, hb1⟩; have HB1 := zH hb1; have HW1 := zH (HBC.out.trans (hb1.mono HBC.out.size)); clear hb1)
  | (go_at_call 99; refine (words_any F A n c l _ (H.out.below (HW1.out.alloc HW1.out.size _) zN) hn).mono ?_; rintro e w3 ⟨A3, c3, rfl, ho3, hb3⟩; rw [← HM.out] at ho3 ⊢; have HO3 := zH ho3; have HB3 := zH hb3; clear ho3 hb3)
  | fail)
 have hmap : w3.ownsMap Tryz.prog 9 (plainElem (H := Unit) Tryz.prog 3) w1.heap.size 0 (.map []) := (World.ownsMap_made w1 _ _ _).kept (zzr (row := none) HB3.out) (by simp)
 have HOF := zH (ownS_F HO3.out (fun s hs => Nat.le_trans (xxF HS.out s hs) (by unfold maxLen; omega))).sl
 obtain ⟨mb, hmb⟩ : ∃ mb, mb = w1.heap.size := ⟨_, rfl⟩
 have HMB := zH hmb
 rw [← hmb] at hmap
 rw [← hmb]
 have HMAP := zH hmap
 have hm4 : m ≤ 4096 := by have := HWL.out; rw [← HM.out, ← HL.out] at this; omega
 clear hmap hmb
 go_loopw [28] (fun iv wr => ∃ k : Nat, k ≤ m ∧ iv = .int .i64 (k : Int) ∧ wr.ownsMap Tryz.prog 9 (plainElem (H := Unit) Tryz.prog 3) mb k (plD Unit (zzF l) k) ∧ w3.grownBy wr (some mb)) (fun iv _ => m - (intOf iv).toNat)
 case atStart => exact ⟨0, Nat.zero_le _, rfl, HMAP.out, zzr (zR)⟩
 case round =>
  obtain ⟨k, hk, rfl, hown, hgr⟩ := hrel
  have HGR := zH hgr
  by_cases hlt : k < m
  · have hkw : k < (zzF l).length := by rw [← HM.out]; exact hlt
    have hkl : k < (zzi l).length := by unfold zzi; rw [List.length_map]; exact hkw
    obtain ⟨b, o, u, rfl, _, hbl, hr, hc⟩ := (HOF.out.keep hgr.size (fun b hb hl => hgr.block b hl (fun e => by
     injection e with e
     rcases hb with hb | hb
     · exact hb
     · have := hb.2; rw [zS] at this; have := HMB.out; omega))).at1 hkl rfl
    obtain ⟨s, hs⟩ : ∃ s, s = (zzi l)[k] := ⟨_, rfl⟩
    obtain ⟨hr, hsz⟩ := hr
    injection hr with hr; subst hr
    rw [← hs] at hc hsz
    have HSK := zH (show (zzF l).getD k [] = s.data.toList by rw [hs]; exact (words_get (zzF l) hkw hkl).symm)
    have hkey : Go.keyOf Tryz.prog 9 (.string s) = some (.string s.data.toList) := WideMaps.keyOf_string_mk Tryz.underlying9 hsz
    have hwf : (Lit.int .i64 (k : Int)).wf = true := wf_small k (by omega)
    have hi0 : (0 : Int) ≤ (k : Int) := by omega
    have hi1 : (k : Int) < (m : Int) := by omega
    clear hgr hs
    go_wp2_with (first
     | (at_mapUpdate; refine wpList_mapUpdate_own _ rfl _ _ _ 159 rfl 9 3 law9 Tryz.underlying159 _ mb k _ (by rfl) hown (by unfold maxLen; omega) _ _ _ (by rfl) (by rfl) hkey _ [] (plainElem_int Tryz.underlying3 hwf) ?_; intro w4 hown4 hgrow4)
     | fail)
    go_roundw
    case rel => exact ⟨k + 1, by omega, by go_num, by rw [plD, HSK.out]; exact hown4, jjG HGR.out hgrow4⟩
    case measure => simp [intOf]; omega
  · obtain rfl : k = m := by omega
    have hsize : Maps.size (plD Unit (zzF l) k) = k := qxt Unit _ (vvD l) k (by rw [← HM.out]; exact Nat.le_refl _)
    have hml := hown.len Tryz.underlying159
    rw [hsize] at hml
    have HOWN := zH hown
    have hw2 : Below w.heap.size w (w1.alloc (.map #[] 0)) := HW1.out.alloc HW1.out.size _
    have hmbl : w.heap.size < mb := by have := HB1.out.size; have := zzb HGC.out; have := HMB.out; omega
    have hbr : Below w.heap.size w wr := (hw2.trans (HB3.out.mono hw2.size)).grown hgr (hw2.trans (HB3.out.mono hw2.size)).size (fun q e => by injection e with e; omega)
    have hgw : wr.heap[w.heap.size]? = some (.cells #[.int .i64 0, .int .i64 0, .int .i64 0, .slice none 0 0] 27 (0, 0)) := by
     have h1 := zzb HGC.out
     have h2 : w.heap.size < w1.heap.size := by have := HB1.out.size; omega
     exact (hgr.block _ (by have := HB3.out.size; rw [zS] at this; omega) (fun e => by injection e with e; omega)).trans ((HB3.out.block _ (by rw [zS]; omega)).trans ((Below.heap_alloc w1 _ _ h2).trans ((HB1.out.block _ h1).trans HGC.out)))
    have HBR := zH hbr; have HGW := zH hgw
    clear hgr hown hsize hw2 hbr hgw
    go_upto_if 42 with fail
    by_cases hlt2 : n < 2 * k
    · have hI : (n : Int) < 2 * (k : Int) := by omega
      clear hml
      have hsb := fun w => zqW w (mkS (zzC l))
      go_wp2_with (first
       | (go_at_call 100; refine (qxu F A n c l _ (H.out.below HBR.out zN) hn HS.out).mono ?_; rintro e w5 ⟨rfl, hb5⟩; have HB5 := zH (HBR.out.trans (hb5.mono HBR.out.size)); have HW5 := zH hb5; clear hb5)
       | (go_at_call 101; refine (qxs F A n c l _ (H.out.below ((HB5.out.alloc HB5.out.size _).drew) zN) hn).mono ?_; rintro e w6 ⟨A6, n6, c6, rfl, ho6, hb6⟩; have hg6 : w6.heap[w.heap.size]? = some (.cells #[.int .i64 0, .int .i64 0, .int .i64 0, .slice none 0 0] 27 (0, 0)) := (hb6.block _ (by have h1 := zzb HGW.out; have h2 := HW5.out.size; simp; omega)).trans ((Below.heap_alloc w5 _ _ (by have h1 := zzb HGW.out; have h2 := HW5.out.size; omega)).trans ((HW5.out.block _ (zzb HGW.out)).trans HGW.out)); have hga : ∀ o : Obj, (w6.alloc o).heap[w.heap.size]? = some (.cells #[.int .i64 0, .int .i64 0, .int .i64 0, .slice none 0 0] 27 (0, 0)) := (fun o => (Below.heap_alloc w6 o _ (zzb hg6)).trans hg6); have z0 : ∀ o : Obj, (w6.alloc o).cell? ⟨w.heap.size, 0, none⟩ = some (.int .i64 0) := (fun o => by rw [zC (hga o)]; rfl); have y0 : ∀ o : Obj, (w6.alloc o).frozen? ⟨w.heap.size, 0, none⟩ = false := (fun o => zF (hga o) 0); have z1 : ∀ o : Obj, (w6.alloc o).cell? ⟨w.heap.size, 1, none⟩ = some (.int .i64 0) := (fun o => by rw [zC (hga o)]; rfl); have y1 : ∀ o : Obj, (w6.alloc o).frozen? ⟨w.heap.size, 1, none⟩ = false := (fun o => zF (hga o) 1); have z2 : ∀ o : Obj, (w6.alloc o).cell? ⟨w.heap.size, 2, none⟩ = some (.int .i64 0) := (fun o => by rw [zC (hga o)]; rfl); have y2 : ∀ o : Obj, (w6.alloc o).frozen? ⟨w.heap.size, 2, none⟩ = false := (fun o => zF (hga o) 2); have z3 : ∀ o : Obj, (w6.alloc o).cell? ⟨w.heap.size, 3, none⟩ = some (.slice none 0 0) := (fun o => by rw [zC (hga o)]; rfl); have y3 : ∀ o : Obj, (w6.alloc o).frozen? ⟨w.heap.size, 3, none⟩ = false := (fun o => zF (hga o) 3); clear hga; have HG6 := zH hg6; have HO6 := zH ho6; have HB6 := zH hb6; clear ho6 hb6 hg6)
       | fail)
      have e1 : txC l = (1, 0, [(2, zzC l), (3, xxD l)]) := if_pos (by rw [← HL.out, ← HM.out]; exact hlt2)
      have hb56 : Below (w5.alloc (vvu w5 (mkS (zzC l)))).heap.size (w5.alloc (vvu w5 (mkS (zzC l)))) w6 := (zR).drew.trans HB6.out
      have h5 : w.heap.size + 1 ≤ w5.heap.size := by have := zzb HGW.out; have := HW5.out.size; omega
      have hjl := xxk l HS.out
      rw [← HL.out] at hjl
      have s1 : Sl tU8 (fun b => w.heap.size + 1 ≤ b) w6 (some ⟨w5.heap.size, 0, none⟩) (mkS (zzC l)).size (jj4 w5 (mkS (zzC l))) (zzC l) :=
       ((kqH (w := w5) (w0 := w5) (s := mkS (zzC l)) (by show (zzC l).toArray.size ≤ _; simp [maxLen]; omega)).weaken (F' := fun b => w.heap.size + 1 ≤ b) (fun b hb _ => by omega)).below hb56 zN
      have s2 : Sl tU8 (fun b => w.heap.size + 1 ≤ b) w6 A6 n6 c6 (xxD l) := HO6.out.own.sl.weaken fun b hb _ => by
       rcases hb with hb | hb
       · exact hb.elim
       · have h7 := hb.2
         simp at h7
         omega
      have h56 := HB6.out.size
      have hw6 : w5.heap.size + 1 ≤ w6.heap.size := by simpa using h56
      have s3 := Sl.news (T := zzw) (F := fun b => w.heap.size + 1 ≤ b) (w := w6) (Reps.mk2 (T := zzw) (x1 := ((2 : Int), zzC l)) (x2 := ((3 : Int), xxD l)) ⟨[.int .i64 2], _, rfl, ⟨rfl, yyn 2 (by omega)⟩, _, _, _, rfl, s1⟩ ⟨[.int .i64 3], _, rfl, ⟨rfl, yyn 3 (by omega)⟩, _, _, _, rfl, s2⟩) 55 2 rfl (by omega) _ rfl
      refine bodyPost_ret (zzm rfl _ _ w.heap.size 27 #[.int .i64 (n : Int), .int .i64 1, .int .i64 0, .slice (some ⟨w6.heap.size, 0, none⟩) 2 2] (0, 0) _ rfl (zza (zza (zza (zza ((Below.heap_alloc w6 _ _ (zzb HG6.out)).trans HG6.out) rfl) rfl) rfl) rfl) Tryz.underlying27 rfl (by kernel_rfl)) rfl ?_
      unfold uuA
      rw [e1]
      refine ⟨some ⟨w6.heap.size, 0, none⟩, 2, 2, by rw [← HL.out]; rfl, (s3.keep (by simp) (fun b hb _ => ?_)).weaken (fun b hb _ => by rcases hb with hb | hb <;> omega), ?_⟩
      · have hne : b ≠ w.heap.size := by rcases hb with hb | hb <;> omega
        exact (Below.heap_setCell _ _ _ _ hne).trans ((Below.heap_setCell _ _ _ _ hne).trans ((Below.heap_setCell _ _ _ _ hne).trans (Below.heap_setCell _ _ _ _ hne)))
      · have hbb : Below w.heap.size w w6 := ((HB5.out.alloc HB5.out.size _).drew).trans (HB6.out.mono (by simp; omega))
        exact zzf (zzf (zzf (zzf (hbb.alloc (by omega) _) zN _) zN _) zN _) zN _
    · have hI : ¬ (n : Int) < 2 * (k : Int) := by omega
      clear hml
      obtain ⟨wq, hwq⟩ : ∃ wq, wq = wr := ⟨_, rfl⟩
      rw [← hwq] at HBR HGW HOWN ⊢
      go_wp2_with fail
      go_loopw [9, 56] (fun v iv wx => ∃ (j : Nat) (A5 : Option Addr) (c5 : Nat) (G : Nat → Prop), j ≤ n ∧ iv = .int .i64 (j : Int) ∧ v = .slice A5 j c5 ∧ OwnF tI64 3 G wx wq.heap.size A5 j c5 ((l.take j).map fun s : ByteArray => (zzG l s : Int)) ∧ Below wq.heap.size wq wx) (fun _ iv _ => n - (intOf iv).toNat)
      case atStart => exact ⟨0, none, 0, fun _ => False, Nat.zero_le _, rfl, rfl, OwnF.nil_ _ _ _ _ _, by rw [hwq]; exact zR⟩
      case round =>
       obtain ⟨j, A5, c5, G, hj, rfl, rfl, hown5, hb5⟩ := hrel
       have HO5 := zH hown5; have HB5 := zH hb5
       by_cases hjn : j < n
       · have hjl : j < l.length := by rw [← HL.out]; exact hjn
         have hbj : Below w.heap.size w _ := HBR.out.trans (hb5.mono HBR.out.size)
         obtain ⟨b, o, u, rfl, _, hbl, hr, hc⟩ := (H.out.below hbj zN).at1 hjl rfl
         have hsj := List.getElem_mem hjl
         obtain ⟨t, ht⟩ : ∃ t, t = l[j] := ⟨_, rfl⟩
         obtain ⟨hr, hsz⟩ := hr
         injection hr with hr; subst hr
         rw [← ht] at hc hsz hsj
         have hkey : Go.keyOf Tryz.prog 9 (.string t) = some (.string t.data.toList) := WideMaps.keyOf_string_mk Tryz.underlying9 hsz
         have hpl := yyK l hsj
         have hat := plD_at Unit (zzF l) (vvD l) (.lit (.int .i64 0)) k (by rw [← HM.out]; exact Nat.le_refl _) (zzG l t) (by rw [HM.out]; exact hpl)
         rw [qzT l hsj] at hat
         have hp4 : zzG l t ≤ 4096 := by have := HM.out; omega
         have hp5 : (0 : Int) ≤ (zzG l t : Int) ∧ (zzG l t : Int) ≤ 4096 := by omega
         have HAT := zH hat; have HT := zH ht
         have hmj := HOWN.out.kept (zzr (row := none) hb5) (by simp)
         have hi0 : (0 : Int) ≤ (j : Int) := by omega
         have hi1 : (j : Int) < (n : Int) := by omega
         clear hat ht hbj hown5 hb5
         go_wp2_with (first
          | (at_lookup; refine wpList_lookup_own_int _ rfl _ _ 159 rfl 9 3 .i64 law9 Tryz.underlying159 Tryz.underlying3 (zero3 _) mb k _ (by rfl) hmj _ _ (by rfl) hkey ?_; intro q hq hwq2; obtain rfl : q = (zzG l t : Int) := (by rw [HAT.out] at hq; injection hq with hq; injection hq with _ hq; exact hq.symm))
          | (at_builtin; refine apl1 (T := tI64) zzQ wr wq rfl (.tmp 60) (.tmp 64) rfl wq.heap.size A5 j c5 ((l.take j).map fun s : ByteArray => (zzG l s : Int)) (by rfl) G (fun _ => False) HO5.out HB5.out zN _ (by rfl) [.int .i64 (zzG l t : Int)] (zzG l t : Int) ⟨rfl, yyn _ hp5⟩ 3 rfl (fun _ _ _ _ h4 => h4) (by omega) ?_; intro A6 c6 w6 h6)
          | fail)
         go_roundw
         case rel => exact ⟨j + 1, A6, c6, _, by omega, by go_num, rfl, by rw [zT hjl, List.map_append, ← HT.out]; exact h6.own, h6.below⟩
         case measure => simp [intOf]; omega
       · obtain rfl : j = n := by omega
         have htk : l.take j = l := zL (by rw [← HL.out]; exact Nat.le_refl _)
         rw [htk] at hown5
         have HPS := zH hown5.sl
         have HOK := zH (show zzY false (l.map fun s : ByteArray => (zzG l s : Int)) from by
          intro x hx
          obtain ⟨s, hs, rfl⟩ := List.mem_map.1 hx
          have h1 := yyK l hs
          have h2 := HM.out
          exact ⟨by omega, by omega, .inr (by omega)⟩)
         have hbr5 : Below w.heap.size w wr := HBR.out.trans (hb5.mono HBR.out.size)
         have HB5 := zH hbr5
         have hgr5 : wr.heap[w.heap.size]? = some (.cells #[.int .i64 0, .int .i64 0, .int .i64 0, .slice none 0 0] 27 (0, 0)) := (hb5.block _ (zzb HGW.out)).trans HGW.out
         have HGR5 := zH hgr5
         have hwords := (HOF.out.keep HGR.out.size (fun b hb hl => HGR.out.block b hl (fun e => by
          injection e with e
          rcases hb with hb | hb
          · exact hb
          · have := hb.2; rw [zS] at this; have := HMB.out; omega))).weaken (F' := fun _ => True) (fun _ _ _ => trivial)
         rw [← hwq] at hwords
         have HWS := zH (hwords.below hb5 zN)
         have HSM := zH (xxF HS.out)
         have hsb := fun w => zqW w (mkS (zzC (zzi l)))
         clear hown5 hb5 hbr5 hgr5 hwords htk
         go_upto_region 20 with (first
          | (go_at_call 92; refine (jjz _ A5 j c5 _ _ HPS.out hn false HOK.out).mono ?_; rintro e w5 ⟨hb5, A7, n7, c7, rfl, ho5⟩; have HO7 := zH ho5; have HB7 := zH hb5; have HG7 := zH ((hb5.block _ (zzb HGR5.out)).trans HGR5.out); clear ho5 hb5)
          | fail)
         have HB8 := zH (HB5.out.trans (HB7.out.mono HB5.out.size))
         have HWS8 := zH (HWS.out.below HB7.out zN)
         have hG8 : Hid (w5.heap[w.heap.size]? = some (.cells #[.int .i64 0, .int .i64 0, .int .i64 0, .slice none 0 0] 27 (0, 0))) := HG7
         have hm4 := hm4
         go_wp2_with (first
          | (go_at_call 101; refine (qxs _ A3 k c3 (zzi l) _ HWS8.out hm4).mono ?_; rintro e w6 ⟨A6, n6, c6, rfl, ho6, hb6⟩; have HO6 := zH ho6; have HB6 := zH hb6; have HWS6 := zH (HWS8.out.below hb6 zN); clear ho6 hb6)
          | (go_at_call 100; refine (qxu _ A3 k c3 (zzi l) _ HWS6.out hm4 HSM.out).mono ?_; rintro e w8 ⟨rfl, hb8⟩; have HBJ := zH hb8; have hg8 : w8.heap[w.heap.size]? = some (.cells #[.int .i64 0, .int .i64 0, .int .i64 0, .slice none 0 0] 27 (0, 0)) := (hb8.block _ (by have h1 := zzb hG8.out; have h2 := HB6.out.size; omega)).trans ((HB6.out.block _ (zzb hG8.out)).trans hG8.out); have HG8 := zH hg8; have hga : ∀ o1 o2 : Obj, ((w8.alloc o1).alloc o2).heap[w.heap.size]? = some (.cells #[.int .i64 0, .int .i64 0, .int .i64 0, .slice none 0 0] 27 (0, 0)) := (fun o1 o2 => (Below.heap_alloc _ o2 _ (by rw [zS]; exact Nat.lt_succ_of_lt (zzb hg8))).trans ((Below.heap_alloc w8 o1 _ (zzb hg8)).trans hg8)); have z0 : ∀ o1 o2 : Obj, ((w8.alloc o1).alloc o2).cell? ⟨w.heap.size, 0, none⟩ = some (.int .i64 0) := (fun o1 o2 => by rw [zC (hga o1 o2)]; rfl); have y0 : ∀ o1 o2 : Obj, ((w8.alloc o1).alloc o2).frozen? ⟨w.heap.size, 0, none⟩ = false := (fun o1 o2 => zF (hga o1 o2) 0); have z1 : ∀ o1 o2 : Obj, ((w8.alloc o1).alloc o2).cell? ⟨w.heap.size, 1, none⟩ = some (.int .i64 0) := (fun o1 o2 => by rw [zC (hga o1 o2)]; rfl); have y1 : ∀ o1 o2 : Obj, ((w8.alloc o1).alloc o2).frozen? ⟨w.heap.size, 1, none⟩ = false := (fun o1 o2 => zF (hga o1 o2) 1); have z2 : ∀ o1 o2 : Obj, ((w8.alloc o1).alloc o2).cell? ⟨w.heap.size, 2, none⟩ = some (.int .i64 0) := (fun o1 o2 => by rw [zC (hga o1 o2)]; rfl); have y2 : ∀ o1 o2 : Obj, ((w8.alloc o1).alloc o2).frozen? ⟨w.heap.size, 2, none⟩ = false := (fun o1 o2 => zF (hga o1 o2) 2); have z3 : ∀ o1 o2 : Obj, ((w8.alloc o1).alloc o2).cell? ⟨w.heap.size, 3, none⟩ = some (.slice none 0 0) := (fun o1 o2 => by rw [zC (hga o1 o2)]; rfl); have y3 : ∀ o1 o2 : Obj, ((w8.alloc o1).alloc o2).frozen? ⟨w.heap.size, 3, none⟩ = false := (fun o1 o2 => zF (hga o1 o2) 3); clear hb8 hg8 hga)
          | fail)
         have e1 : txC l = (2, (k : Int), [(2, rleB false (l.map fun s : ByteArray => (zzG l s : Int))), (3, xxD (zzi l)), (4, zzC (zzi l))]) := by
          rw [HM.out]
          exact if_neg (by rw [← HL.out, ← HM.out]; exact hlt2)
         have hjl := xxk (zzi l) HSM.out
         have hwl : (zzi l).length = k := by rw [HM.out]; unfold zzi; rw [List.length_map]
         rw [hwl] at hjl
         have h5 : w.heap.size + 1 ≤ wr.heap.size := by have := zzb HGR5.out; omega
         have h57 := HB7.out.size
         have h67 := HB6.out.size
         have h87 := HBJ.out.size
         have hb58 : Below w5.heap.size w5 (w8.alloc (vvu w8 (mkS (zzC (zzi l))))).drew := ((HB6.out.trans (HBJ.out.mono HB6.out.size)).alloc (by omega) _).drew
         have hb68 : Below w6.heap.size w6 (w8.alloc (vvu w8 (mkS (zzC (zzi l))))).drew := (HBJ.out.alloc (by omega) _).drew
         have s1 : Sl tU8 (fun b => w.heap.size + 1 ≤ b) (w8.alloc (vvu w8 (mkS (zzC (zzi l))))).drew A7 n7 c7 (rleB false (l.map fun s : ByteArray => (zzG l s : Int))) := (HO7.out.own.sl.below hb58 zN).weaken fun b hb _ => by
          rcases hb with hb | hb
          · exact hb.elim
          · have h7 := hb.2
            omega
         have s2 : Sl tU8 (fun b => w.heap.size + 1 ≤ b) (w8.alloc (vvu w8 (mkS (zzC (zzi l))))).drew A6 n6 c6 (xxD (zzi l)) := (HO6.out.own.sl.below hb68 zN).weaken fun b hb _ => by
          rcases hb with hb | hb
          · exact hb.elim
          · have h7 := hb.2
            omega
         have s4 : Sl tU8 (fun b => w.heap.size + 1 ≤ b) (w8.alloc (vvu w8 (mkS (zzC (zzi l))))).drew (some ⟨w8.heap.size, 0, none⟩) (mkS (zzC (zzi l))).size (jj4 w8 (mkS (zzC (zzi l)))) (zzC (zzi l)) :=
          ((kqH (w := w8) (w0 := w8) (s := mkS (zzC (zzi l))) (by show (zzC (zzi l)).toArray.size ≤ _; simp [maxLen]; omega)).weaken (F' := fun b => w.heap.size + 1 ≤ b) (fun b hb _ => by omega)).drew
         have s3 := Sl.news (T := zzw) (F := fun b => w.heap.size + 1 ≤ b) (w := (w8.alloc (vvu w8 (mkS (zzC (zzi l))))).drew) (Reps.mk3 (T := zzw) (x1 := ((2 : Int), rleB false (l.map fun s : ByteArray => (zzG l s : Int)))) (x2 := ((3 : Int), xxD (zzi l))) (x3 := ((4 : Int), zzC (zzi l))) ⟨[.int .i64 2], _, rfl, ⟨rfl, yyn 2 (by omega)⟩, _, _, _, rfl, s1⟩ ⟨[.int .i64 3], _, rfl, ⟨rfl, yyn 3 (by omega)⟩, _, _, _, rfl, s2⟩ ⟨[.int .i64 4], _, rfl, ⟨rfl, yyn 4 (by omega)⟩, _, _, _, rfl, s4⟩) 55 3 rfl (by omega) _ rfl
         have hg9 : (w8.alloc (vvu w8 (mkS (zzC (zzi l))))).drew.heap[w.heap.size]? = some (.cells #[.int .i64 0, .int .i64 0, .int .i64 0, .slice none 0 0] 27 (0, 0)) := (Below.heap_alloc w8 _ _ (zzb HG8.out)).trans HG8.out
         refine bodyPost_ret (zzm rfl _ _ w.heap.size 27 #[.int .i64 (j : Int), .int .i64 2, .int .i64 (k : Int), .slice (some ⟨w8.heap.size + 1, 0, none⟩) 3 3] (0, 0) _ rfl (zza (zza (zza (zza ((Below.heap_alloc _ _ _ (zzb hg9)).trans hg9) rfl) rfl) rfl) rfl) Tryz.underlying27 rfl (by kernel_rfl)) rfl ?_
         unfold uuA
         rw [e1]
         have hsz9 : (w8.alloc (vvu w8 (mkS (zzC (zzi l))))).drew.heap.size = w8.heap.size + 1 := by simp
         rw [hsz9] at s3
         refine ⟨some ⟨w8.heap.size + 1, 0, none⟩, 3, 3, by rw [← HL.out]; rfl, (s3.keep (by simp) (fun b hb _ => ?_)).weaken (fun b hb _ => by rcases hb with hb | hb <;> omega), ?_⟩
         · have hne : b ≠ w.heap.size := by rcases hb with hb | hb <;> omega
           exact (Below.heap_setCell _ _ _ _ hne).trans ((Below.heap_setCell _ _ _ _ hne).trans ((Below.heap_setCell _ _ _ _ hne).trans (Below.heap_setCell _ _ _ _ hne)))
         · have hbb : Below w.heap.size w (w8.alloc (vvu w8 (mkS (zzC (zzi l))))).drew := HB8.out.trans (hb58.mono HB8.out.size)
           exact zzf (zzf (zzf (zzf (hbb.alloc hbb.size _) zN _) zN _) zN _) zN _
end
section
open Go Go.RowKit
def sb (s : ByteArray) : List UInt8 := s.data.toList
def qzb (ws : List ByteArray) : Prop := ws.Pairwise fun a b => sb a < sb b
theorem sb_inj {a b : ByteArray} (h : sb a = sb b) : a = b := uuq h
theorem kqt (a : List UInt8) : ¬ a < a := List.lt_irrefl a
theorem lt_tr {a b c : List UInt8} (h1 : a < b) (h2 : b < c) : a < c := List.lt_trans h1 h2
theorem lt_of {a b : List UInt8} (h : a ≤ b) (hne : a ≠ b) : a < b := Classical.byContradiction fun hn => hne (List.le_antisymm h hn)
theorem lt_tri (a b : List UInt8) (h : a ≠ b) : a < b ∨ b < a := by
 rcases List.le_total a b with h1 | h1
 · exact .inl (lt_of h1 h)
 · exact .inr (lt_of h1 (Ne.symm h))
theorem qxz : ∀ {a b : List ByteArray}, qzb a → qzb b → (∀ x, x ∈ a ↔ x ∈ b) → a = b
 | [], [], _, _, _ => rfl
 | [], y :: b, _, _, h => by have := (h y).2 (by simp); simp at this
 | x :: a, [], _, _, h => by have := (h x).1 (by simp); simp at this
 | x :: a, y :: b, ha, hb, h => by
   obtain ⟨ha1, ha2⟩ := List.pairwise_cons.1 ha
   obtain ⟨hb1, hb2⟩ := List.pairwise_cons.1 hb
   have hxy : x = y := by
    rcases List.mem_cons.1 ((h x).1 (by simp)) with e | hx
    · exact e
    · rcases List.mem_cons.1 ((h y).2 (by simp)) with e | hy
      · exact e.symm
      · exact absurd (lt_tr (ha1 y hy) (hb1 x hx)) (kqt _)
   subst hxy
   rw [qxz ha2 hb2 fun z => ?_]
   constructor
   · intro hz
     rcases List.mem_cons.1 ((h z).1 (by simp [hz])) with e | hz2
     · exact absurd (e ▸ ha1 z hz) (kqt _)
     · exact hz2
   · intro hz
     rcases List.mem_cons.1 ((h z).2 (by simp [hz])) with e | hz2
     · exact absurd (e ▸ hb1 z hz) (kqt _)
     · exact hz2
theorem kqu (l : List ByteArray) (x : ByteArray) : x ∈ zzi l ↔ x ∈ l := by
 unfold zzi
 constructor
 · intro h
   obtain ⟨b, hb, rfl⟩ := List.mem_map.1 h
   obtain ⟨t, ht, rfl⟩ := List.mem_map.1 ((vv5 l b).1 hb)
   exact ht
 · intro h
   exact List.mem_map.2 ⟨sb x, (vv5 l _).2 (List.mem_map.2 ⟨x, h, rfl⟩), rfl⟩
theorem xqj (l : List ByteArray) : qzb (zzi l) := by
 unfold zzi qzb
 rw [List.pairwise_map]
 exact (kqo l).imp fun {a b} h => by
  have e : ∀ c : List UInt8, sb (mkS c) = c := fun c => by simp [sb, mkS]
  rw [e, e]
  exact lt_of h.1 h.2
def yyo (ws : List ByteArray) (s : ByteArray) (k : Nat) : List ByteArray := ws.take k ++ s :: ws.drop k
theorem jjR {ws : List ByteArray} {s : ByteArray} {k : Nat} (h : k ≤ ws.length) : (yyo ws s k).length = ws.length + 1 := by
 unfold yyo; simp; omega
theorem insAt_end (ws : List ByteArray) (s : ByteArray) : yyo ws s ws.length = ws ++ [s] := by unfold yyo; simp
theorem qxA {ws : List ByteArray} {s : ByteArray} {k p : Nat} (h : p < k) (hk : k ≤ ws.length) (hp : p < (yyo ws s k).length) : (yyo ws s k)[p] = ws[p]'(by omega) := by
 have h1 : p < (ws.take k).length := by rw [List.length_take]; omega
 exact (List.getElem_append_left (bs := s :: ws.drop k) h1).trans List.getElem_take
theorem set2 {α : Type} (x s : α) (d : List α) : ∀ a : List α, ((a ++ x :: s :: d).set (a.length + 1) x).set a.length s = a ++ s :: x :: d
 | [] => rfl
 | y :: a => by
   simp
theorem xqk {ws : List ByteArray} {s : ByteArray} {p : Nat} (h : p < ws.length) : ((yyo ws s (p + 1)).set (p + 1) ws[p]).set p s = yyo ws s p := by
 have e1 : yyo ws s (p + 1) = ws.take p ++ ws[p] :: s :: ws.drop (p + 1) := by
  unfold yyo
  rw [zT h, List.append_assoc]; rfl
 have e2 : yyo ws s p = ws.take p ++ s :: ws[p] :: ws.drop (p + 1) := by
  unfold yyo
  rw [List.drop_eq_getElem_cons h]
 have := set2 ws[p] s (ws.drop (p + 1)) (ws.take p)
 rw [List.length_take, Nat.min_eq_left (by omega)] at this
 rw [e1, e2, this]
theorem mem_ins {ws : List ByteArray} {s : ByteArray} {k : Nat} (x : ByteArray) : x ∈ yyo ws s k ↔ x ∈ ws ∨ x = s := by
 unfold yyo
 rw [List.mem_append, List.mem_cons]
 conv => rhs; rw [← List.take_append_drop k ws]
 rw [List.mem_append]
 constructor
 · rintro (h | h | h)
   · exact .inl (.inl h)
   · exact .inr h
   · exact .inl (.inr h)
 · rintro ((h | h) | h)
   · exact .inl h
   · exact .inr (.inr h)
   · exact .inr (.inl h)
theorem rise_ins {ws : List ByteArray} {s : ByteArray} {k : Nat} (h : qzb ws) (hk : k ≤ ws.length) (h1 : k = 0 ∨ ∃ p, ∃ hp : p < ws.length, k = p + 1 ∧ sb ws[p] < sb s) (h2 : ∀ j (hj : j < ws.length), k ≤ j → sb s < sb ws[j]) : qzb (yyo ws s k) := by
 have hlo : ∀ x ∈ ws.take k, sb x < sb s := by
  intro x hx
  rcases h1 with h1 | ⟨p, hp, rfl, hlt⟩
  · subst h1; simp at hx
  · obtain ⟨j, hj, rfl⟩ := List.getElem_of_mem hx
    rw [List.length_take] at hj
    rw [List.getElem_take]
    by_cases hjp : j = p
    · subst hjp; exact hlt
    · exact lt_tr (List.pairwise_iff_getElem.1 h j p (by omega) hp (by omega)) hlt
 have hhi : ∀ x ∈ ws.drop k, sb s < sb x := by
  intro x hx
  obtain ⟨j, hj, rfl⟩ := List.getElem_of_mem hx
  rw [List.length_drop] at hj
  rw [List.getElem_drop]
  exact h2 _ (by omega) (by omega)
 unfold yyo qzb
 rw [List.pairwise_append, List.pairwise_cons]
 refine ⟨List.Pairwise.take h, ⟨hhi, List.Pairwise.drop h⟩, fun a ha b hb => ?_⟩
 rcases List.mem_cons.1 hb with rfl | hb
 · exact hlo a ha
 · exact lt_tr (hlo a ha) (hhi b hb)
theorem zqM {l : List ByteArray} {s : ByteArray} {r : Int} (hs : s ∈ l) (h : zqL (zzi l) s r) : r = (zzG l s : Int) := by
 rcases h with ⟨_, h⟩ | ⟨i, hi, rfl, he⟩
 · obtain ⟨j, hj, e⟩ := List.getElem_of_mem ((kqu l s).2 hs)
   exact absurd e (h j hj)
 · have hi2 : i < (zzF l).length := by unfold zzi at hi; rw [List.length_map] at hi; exact hi
   have e1 : (zzF l)[i] = sb s := by
    have h3 : (zzi l)[i] = mkS ((zzF l)[i]) := List.getElem_map mkS
    rw [← he, h3]; simp [sb, mkS]
   have e2 : (zzF l)[zzG l s]'(yyK l hs) = sb s := by
    have := qzT l hs
    rw [vvC (yyK l hs)] at this
    exact this
   rw [jjJ (vvD l) hi2 (yyK l hs) (e1.trans e2.symm)]
theorem xql (l : List ByteArray) : (zzi l).length = (zzF l).length := by unfold zzi; rw [List.length_map]
end
end Go.Proofs.YtpmglcachffojaaGreatDoor
