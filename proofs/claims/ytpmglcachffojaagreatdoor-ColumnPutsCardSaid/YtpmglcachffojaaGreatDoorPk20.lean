/- The map of texts.Put, in plain words. The texts that texts.Words tells are told once, and rise. The reference 13: what is there, and what it is. pilasterref12.May: whether a value may be of a kind, by the document. The reference 14: numbers of any kind. -/
import Derived.Test.YtpmglcachffojaaGreatDoorPk19
import Derived.Maps.OwnOps
import Derived.Maps.OwnSet
import Derived.Maps.Views
import Derived.StringKeys
import Derived.Test.YtpmglcachffojaaGreatDoorPk4
import Derived.Test.YtpmglcachffojaaGreatDoorPk18
import Derived.Test.YtpmglcachffojaaGreatDoorPk17
namespace Go.Proofs.YtpmglcachffojaaGreatDoor
open Go Go.RowKit Go.Maps

/-- The places of the first k words. -/
def plD (H : Type) (ws : List (List UInt8)) : Nat → DataW H
  | 0 => .map []
  | k + 1 => (plD H ws k).put (.string (ws.getD k [])) (.lit (.int .i64 (k : Int)))
theorem key_lit (s : List UInt8) : WideAt.IsKeyLit (.string s) := trivial
theorem nodup_inj {ws : List (List UInt8)} (hn : ws.Nodup) {i j : Nat} (hi : i < ws.length) (hj : j < ws.length) (e : ws[i] = ws[j]) : i = j := by
  rcases Nat.lt_trichotomy i j with h | h | h
  · exact absurd e (List.pairwise_iff_getElem.1 hn i j hi hj h)
  · exact h
  · exact absurd e.symm (List.pairwise_iff_getElem.1 hn j i hj hi h)
theorem plD_tidy (H : Type) (ws : List (List UInt8)) : ∀ k, Tidy (plD H ws k)
  | 0 => tidy_empty
  | k + 1 => (plD_tidy H ws k).put (key_lit _) _
theorem getD_at {ws : List (List UInt8)} {k : Nat} (h : k < ws.length) : ws.getD k [] = ws[k] := by
  rw [List.getD_eq_getElem?_getD, List.getElem?_eq_getElem h]; rfl
theorem plD_has (H : Type) (ws : List (List UInt8)) (s : List UInt8) : ∀ k, k ≤ ws.length → (has (plD H ws k) (.string s) = decide (s ∈ ws.take k))
  | 0, _ => by simp [plD, has]
  | k + 1, hk => by
    have ih := plD_has H ws s k (by omega)
    have hkl : k < ws.length := by omega
    rw [plD, getD_at hkl, List.take_succ_eq_append_getElem hkl]
    by_cases h : s = ws[k]
    · subst h
      rw [has_put_same (plD_tidy H ws k).isMap (key_lit _)]
      symm
      rw [decide_eq_true_eq, List.mem_append, List.mem_singleton]
      exact .inr rfl
    · rw [has_put_other (by intro e; injection e with e; exact h e), ih, decide_eq_decide, List.mem_append, List.mem_singleton]
      exact ⟨.inl, fun h' => h'.resolve_right h⟩
theorem plD_size (H : Type) (ws : List (List UInt8)) (hn : ws.Nodup) : ∀ k, k ≤ ws.length → Maps.size (plD H ws k) = k
  | 0, _ => rfl
  | k + 1, hk => by
    have ih := plD_size H ws hn k (by omega)
    have hkl : k < ws.length := by omega
    have hno : has (plD H ws k) (.string ws[k]) = false := by
      rw [plD_has H ws _ k (by omega)]
      simp only [decide_eq_false_iff_not]
      intro hm
      obtain ⟨i, hi, he⟩ := List.getElem_of_mem hm
      rw [List.getElem_take] at he
      rw [List.length_take] at hi
      have := nodup_inj hn (by omega) hkl he
      omega
    rw [plD, getD_at hkl, size_put (plD_tidy H ws k), hno, ih]
    rfl
theorem plD_at (H : Type) (ws : List (List UInt8)) (hn : ws.Nodup) (z : DataW H) : ∀ k, k ≤ ws.length → ∀ i, i < k → (plD H ws k).atKey (.string (ws.getD i [])) z = .lit (.int .i64 (i : Int))
  | k + 1, hk, i, hi => by
    have hkl : k < ws.length := by omega
    have hil : i < ws.length := by omega
    rw [plD]
    by_cases h : i = k
    · subst h
      rw [atKey_put_same (plD_tidy H ws i).isMap (key_lit _)]
    · rw [atKey_put_other]
      · exact plD_at H ws hn z k (by omega) i (by omega)
      · intro e
        injection e with e
        rw [getD_at hil, getD_at hkl] at e
        exact h (nodup_inj hn hil hkl e)
/-- The texts told are the members, each once. -/
theorem mem_compactUp (d : Array (List UInt8)) : ∀ m, m ≤ d.size → ∀ x, (x ∈ Lib.compactUpTo d m ↔ ∃ i, i < m ∧ d[i]! = x)
  | 0, _, x => by simp [Lib.compactUpTo]
  | m + 1, hm, x => by
    have ih := mem_compactUp d m (by omega) x
    rw [Lib.compactUpTo_succ, List.mem_append, ih]
    constructor
    · rintro (⟨i, hi, he⟩ | h)
      · exact ⟨i, by omega, he⟩
      · split at h
        · exact ⟨m, by omega, (List.mem_singleton.1 h).symm⟩
        · cases h
    · rintro ⟨i, hi, he⟩
      rcases Nat.lt_or_ge i m with h | h
      · exact .inl ⟨i, h, he⟩
      · obtain rfl : i = m := by omega
        by_cases hk : Lib.keeps d i = true
        · right
          rw [if_pos hk, ← he]
          exact List.mem_singleton.2 rfl
        · left
          have hk2 : ¬ (i = 0 ∨ d[i]! ≠ d[i - 1]!) := by simpa [Lib.keeps] using hk
          have h0 : i ≠ 0 := fun e => hk2 (.inl e)
          have h1 : d[i]! = d[i - 1]! := Classical.byContradiction fun e => hk2 (.inr e)
          exact ⟨i - 1, by omega, by rw [← h1, he]⟩
theorem mem_compact (zs : List (List UInt8)) (x : List UInt8) : x ∈ Lib.compact zs ↔ x ∈ zs := by
  unfold Lib.compact
  rw [mem_compactUp zs.toArray zs.length (by simp) x]
  constructor
  · rintro ⟨i, hi, rfl⟩
    simp [getElem!_pos, hi]
  · intro h
    obtain ⟨i, hi, rfl⟩ := List.getElem_of_mem h
    exact ⟨i, hi, by simp [getElem!_pos, hi]⟩
theorem mem_words (l : List ByteArray) (x : List UInt8) : x ∈ wordsL l ↔ x ∈ bytesS l := by
  unfold wordsL sortL
  rw [mem_compact]
  exact (List.mergeSort_perm _ _).mem_iff
end Go.Proofs.YtpmglcachffojaaGreatDoor
namespace Go.Proofs.YtpmglcachffojaaGreatDoor
open Go Go.RowKit

theorem sortL_pair (l : List (List UInt8)) : (sortL l).Pairwise (fun a b => a ≤ b) := by
  have tr : ∀ a b c : List UInt8, decide (a ≤ b) = true → decide (b ≤ c) = true → decide (a ≤ c) = true := fun a b c h1 h2 => by
    simp only [decide_eq_true_eq] at h1 h2 ⊢; exact List.le_trans h1 h2
  have tot : ∀ a b : List UInt8, (decide (a ≤ b) || decide (b ≤ a)) = true := fun a b => by simp only [Bool.or_eq_true, decide_eq_true_eq]; exact List.le_total a b
  exact (List.pairwise_mergeSort tr tot l).imp fun {a b} h => by simpa using h
theorem compactUp_pair (d : Array (List UInt8)) (hs : ∀ i j, i ≤ j → j < d.size → d[i]! ≤ d[j]!) : ∀ m, m ≤ d.size → (Lib.compactUpTo d m).Pairwise (fun a b => a ≤ b ∧ a ≠ b)
  | 0, _ => by simp [Lib.compactUpTo]
  | m + 1, hm => by
    have ih := compactUp_pair d hs m (by omega)
    rw [Lib.compactUpTo_succ, List.pairwise_append]
    refine ⟨ih, by split <;> simp, fun x hx y hy => ?_⟩
    split at hy
    · rename_i hk
      obtain rfl := List.mem_singleton.1 hy
      obtain ⟨i, hi, rfl⟩ := (mem_compactUp d m (by omega) x).1 hx
      refine ⟨hs i m (by omega) (by omega), fun e => ?_⟩
      have hk2 : m = 0 ∨ d[m]! ≠ d[m - 1]! := by simpa [Lib.keeps] using hk
      rcases hk2 with h | h
      · omega
      · have h1 := hs i (m - 1) (by omega) (by omega)
        have h2 := hs (m - 1) m (by omega) (by omega)
        rw [e] at h1
        exact h (List.le_antisymm h1 h2)
    · cases hy
theorem words_pair (l : List ByteArray) : (wordsL l).Pairwise (fun a b => a ≤ b ∧ a ≠ b) := by
  unfold wordsL Lib.compact
  refine compactUp_pair _ (fun i j hij hj => ?_) _ (by simp)
  have hj' : j < (sortL (bytesS l)).length := by simpa using hj
  have hi' : i < (sortL (bytesS l)).length := by omega
  have e1 : (sortL (bytesS l)).toArray[i]! = (sortL (bytesS l))[i] := by simp [getElem!_pos, hi']
  have e2 : (sortL (bytesS l)).toArray[j]! = (sortL (bytesS l))[j] := by simp [getElem!_pos, hj']
  rw [e1, e2]
  rcases Nat.eq_or_lt_of_le hij with h | h
  · subst h; exact List.le_refl _
  · exact List.pairwise_iff_getElem.1 (sortL_pair _) i j hi' hj' h
theorem words_nodup (l : List ByteArray) : (wordsL l).Nodup := (words_pair l).imp fun h => h.2
/-- The places of a list's texts among its words. -/
def placeN (l : List ByteArray) (s : ByteArray) : Nat := (wordsL l).idxOf s.data.toList
theorem place_lt (l : List ByteArray) {s : ByteArray} (h : s ∈ l) : placeN l s < (wordsL l).length :=
  List.idxOf_lt_length_of_mem ((mem_words l _).2 (List.mem_map.2 ⟨s, h, rfl⟩))
theorem place_get (l : List ByteArray) {s : ByteArray} (h : s ∈ l) : (wordsL l).getD (placeN l s) [] = s.data.toList := by
  rw [getD_at (place_lt l h)]
  exact List.getElem_idxOf (place_lt l h)
theorem words_len (l : List ByteArray) : (wordsL l).length ≤ l.length := by
  refine Nat.le_trans (compact_len _) ?_
  unfold sortL bytesS
  simp
end Go.Proofs.YtpmglcachffojaaGreatDoor
namespace Go.Proofs.YtpmglcachffojaaGreatDoor
open Go Go.RowKit

theorem Col.empty {α : Type} (T : Ty α) (e : TypeId) (col : Nat → Nat) (i B : Nat) (w : World) (hB : B ≤ w.heap.size) (hc : col w.heap.size = i) : Col T e col i B (w.heap.size + 1) (w.alloc (.cells #[] e)) (some ⟨w.heap.size, 0, none⟩) 0 0 [] :=
  ⟨fun _ => False, OwnF.empty T e _ w B hB (fun _ hb => hb.elim), fun _ hb => hb.elim, fun b hb => by
    injection hb with hb
    have hb : w.heap.size = b := hb
    subst hb
    exact ⟨Nat.lt_succ_self _, hc⟩⟩
theorem Col.allocs {α : Type} {T : Ty α} {e : TypeId} {col : Nat → Nat} {i B S : Nat} {w : World} {A : Option Addr} {n c : Nat} {xs : List α} (h : Col T e col i B S w A n c xs) (o : Obj) : Col T e col i B S (w.alloc o) A n c xs :=
  h.keep (by simp) fun b _ _ hl _ => Below.heap_alloc w o b hl
theorem Col.keepB {α : Type} {T : Ty α} {e : TypeId} {col : Nat → Nat} {i B S : Nat} {w w' : World} {A : Option Addr} {n c : Nat} {xs : List α} (h : Col T e col i B S w A n c xs) (hb : Below w.heap.size w w') : Col T e col i B S w' A n c xs :=
  h.keep hb.size fun b _ _ hl _ => hb.block b hl
set_option maxRecDepth 100000 in
set_option maxHeartbeats 2000000 in
theorem r13split_any (F : Nat → Prop) (A : Option Addr) (n c : Nat) (l : List VV) (w : World) (h : Sl tVV F w A n c l) (hn : n ≤ 4096) :
    Calls Tryz.prog 103 #[.slice A n c] w (SplitPost l w) := by
  have HL := Lib.hid h.len; have HH := Lib.hid h
  have hc1 := Col.empty tBool 4 (fun b => if b = w.heap.size then 0 else 1) 0 w.heap.size w (Nat.le_refl _) (if_pos rfl)
  have hc2 := Col.empty tVV 74 (fun b => if b = w.heap.size then 0 else 1) 1 w.heap.size (w.alloc (.cells #[] 4)) (by simp) (by rw [World.size_alloc]; exact if_neg (by omega))
  rw [World.size_alloc] at hc2
  have HC1 := Lib.hid ((hc1.allocs (.cells #[] 74)).recol (S' := w.heap.size + 1 + 1) (fun _ _ => rfl) (by omega))
  have HC2 := Lib.hid hc2
  have HB0 := Lib.hid (show Below w.heap.size w ((w.alloc (.cells #[] 4)).alloc (.cells #[] 74)) from ((Below.refl _ _).alloc (Nat.le_refl _) _).alloc (by simp) _)
  clear h hc1 hc2
  go_enter Tryz.func103, Tryz.ntmps103
  go_wp2_with fail
  go_loopw [4, 5, 6] (fun av bv iv wr => ∃ (i : Nat) (A1 : Option Addr) (c1 : Nat) (A2 : Option Addr) (n2 c2 : Nat) (col : Nat → Nat) (S : Nat), i ≤ n ∧ iv = .int .i64 (i : Int) ∧ av = .slice A1 i c1 ∧ bv = .slice A2 n2 c2 ∧
    Col tBool 4 col 0 w.heap.size S wr A1 i c1 ((l.take i).map fun v => !v.null) ∧ Col tVV 74 col 1 w.heap.size S wr A2 n2 c2 ((l.take i).filter keepV) ∧ Below w.heap.size w wr ∧ w.heap.size ≤ S ∧ S ≤ wr.heap.size) (fun _ _ iv _ => n - (intOf iv).toNat)
  case atStart => exact ⟨0, _, _, _, _, _, _, w.heap.size + 1 + 1, Nat.zero_le _, rfl, rfl, rfl, HC1.out, HC2.out, HB0.out, by omega, by simp⟩
  case round =>
    obtain ⟨i, A1, c1, A2, n2, c2, col, S, hi, rfl, rfl, rfl, hq1, hq2, hb, hS0, hS⟩ := hrel
    have HQ1 := Lib.hid hq1; have HQ2 := Lib.hid hq2; have HB := Lib.hid hb
    have hsz := hb.size
    have hl2 : n2 ≤ 4096 := by
      have h1 := hq2.len
      have h2 := List.length_filter_le keepV (l.take i)
      rw [List.length_take] at h2
      omega
    clear hq1 hq2 hb
    by_cases hlt : i < n
    · have hil : i < l.length := by rw [← HL.out]; exact hlt
      obtain ⟨b, o, cs, rfl, _, hbl, hrep, hc⟩ := HH.out.at_ hil (by decide)
      obtain ⟨v, hf⟩ : ∃ v, v = l[i] := ⟨_, rfl⟩
      obtain ⟨rfl, hok⟩ := hrep
      rw [← hf] at hc hok
      have HT1 := Lib.hid (show (l.take (i + 1)).map (fun v => !v.null) = (l.take i).map (fun v => !v.null) ++ [!v.null] by
        rw [List.take_succ_eq_append_getElem hil, List.map_append, ← hf]; rfl)
      have HT2 := Lib.hid (show (l.take (i + 1)).filter keepV = (l.take i).filter keepV ++ (if keepV v then [v] else []) by
        rw [List.take_succ_eq_append_getElem hil, List.filter_append, ← hf]; simp [List.filter_cons])
      obtain ⟨nu, x, s⟩ := v
      obtain ⟨g0, g1, g2⟩ := cells3 hc
      have g0 : _ = some (Value.bool nu) := g0
      have g1 : _ = some (Value.int .i64 x) := g1
      have g2 : _ = some (Value.string s) := g2
      have HOK := Lib.hid hok
      have hi0 : (0 : Int) ≤ (i : Int) := by omega
      have hi1 : (i : Int) < (n : Int) := by omega
      obtain ⟨F1, o1, f2, f3⟩ := HQ1.out
      have O1 := Lib.hid o1; have F2 := Lib.hid f2; have F3 := Lib.hid f3
      clear hc hf hok o1 f2 f3
      have G0 := Lib.hid g0; have G1 := Lib.hid g1; have G2 := Lib.hid g2
      clear g0 g1 g2
      have g0 := kcell HB.out G0.out
      go_upto_region 7 with (first
        | (at_builtin; refine apl1 (T := tBool) elemBool wr w rfl (.tmp 15) (.tmp 22) rfl w.heap.size A1 i c1 ((l.take i).map fun v => !v.null) (by rfl) F1 (fun _ => False) O1.out HB.out (Nat.le_refl _) _ (by rfl) [.bool (!nu)] (!nu) (by rfl) 4 rfl (fun _ _ _ _ h4 => h4) (by omega) ?_; intro A3 c3 w3 h3)
        | fail)
      have hg3 := h3.grown.size
      rw [World.size_alloc] at hg3
      have HQ3 := Lib.hid (Col.apd F2.out F3.out (fun _ h => h.elim) hS0 (by rw [World.size_alloc]; omega) h3)
      have HQ4 := Lib.hid (Col.past (HQ2.out.allocs _) (by decide) F3.out h3.grown (by omega))
      have HB3 := Lib.hid h3.below
      clear g0
      have g0 := kcell HB3.out G0.out
      have g1 := kcell HB3.out G1.out
      have g2 := kcell HB3.out G2.out
      cases nu with
      | true =>
        have e2 : (l.take (i + 1)).filter keepV = (l.take i).filter keepV := by rw [HT2.out]; simp [keepV]
        have HE2 := Lib.hid e2
        clear e2
        go_wp2_with fail
        go_roundw
        case rel => exact ⟨i + 1, A3, c3, A2, n2, c2, _, _, by omega, by go_num, rfl, rfl, by rw [HT1.out]; exact HQ3.out, by rw [HE2.out]; exact HQ4.out, HB3.out, by omega, Nat.le_refl _⟩
        case measure => simp [intOf]; omega
      | false =>
        have e2 : (l.take (i + 1)).filter keepV = (l.take i).filter keepV ++ [⟨false, x, s⟩] := by rw [HT2.out]; simp [keepV]
        have HE2 := Lib.hid e2
        obtain ⟨F5, o5, f6, f7⟩ := HQ4.out
        have O5 := Lib.hid o5; have F6 := Lib.hid f6; have F7 := Lib.hid f7
        clear e2 o5 f6 f7
        go_wp2_with (first
          | (at_builtin; refine apl1 (T := tVV) elemVV w3 w rfl (.tmp 30) (.tmp 35) rfl w.heap.size A2 n2 c2 _ (by rfl) F5 (fun _ => False) O5.out HB3.out (Nat.le_refl _) _ (by rfl) [.bool false, .int .i64 x, .string s] ⟨false, x, s⟩ ⟨rfl, HOK.out⟩ 74 rfl (fun _ _ _ _ h4 => h4) (by omega) ?_; intro A5 c5 w5 h5)
          | fail)
        have hg5 := h5.grown.size
        rw [World.size_alloc] at hg5
        have HQ5 := Lib.hid (Col.apd F6.out F7.out (fun _ h => h.elim) (by omega) (by rw [World.size_alloc]; omega) h5)
        have HQ6 := Lib.hid (Col.past (HQ3.out.allocs _) (by decide) F7.out h5.grown (by omega))
        have HB5 := Lib.hid h5.below
        go_roundw
        case rel => exact ⟨i + 1, A3, c3, A5, n2 + 1, c5, _, _, by omega, by go_num, rfl, rfl, by rw [HT1.out]; exact HQ6.out, by rw [HE2.out]; exact HQ5.out, HB5.out, by omega, Nat.le_refl _⟩
        case measure => simp [intOf]; omega
    · obtain rfl : i = n := by omega
      have e1 : l.take i = l := List.take_of_length_le (by rw [← HL.out]; exact Nat.le_refl _)
      rw [e1] at HQ1 HQ2
      clear e1
      go_wp2_with fail
      go_ret2
      exact ⟨A1, c1, A2, n2, c2, by rw [← HL.out]; rfl, by rw [← HL.out]; exact HQ1.out.sl, HQ2.out.sl, HB.out⟩
set_option maxRecDepth 100000 in
set_option maxHeartbeats 1000000 in
theorem r13put_any (HP : ∀ (F : Nat → Prop) (A : Option Addr) (n c : Nat) (l : List Bool) (w : World), Sl tBool F w A n c l → n ≤ 4096 → Calls Tryz.prog 104 #[.slice A n c] w (RunPost (some (byB (boolB l))) w))
    (F : Nat → Prop) (A : Option Addr) (n c : Nat) (l : List VV) (w : World) (h : Sl tVV F w A n c l) (hn : n ≤ 4096) :
    Calls Tryz.prog 48 #[.slice A n c] w (NPutPost l w) := by
  have H := Lib.hid h; have HN := Lib.hid hn; have HL := Lib.hid h.len; have HPP := Lib.hid HP
  have hn1 : ¬ (n : Int) > 4096 := by omega
  have hn2 : ¬ (4096 : Int) < n := by omega
  clear h hn HP
  go_enter Tryz.func48, Tryz.ntmps48
  go_upto_if 21 with (first
    | (go_at_call 103; refine (r13split_any F A n c l _ H.out HN.out).mono ?_; rintro e w1 ⟨A1, c1, A2, n2, c2, rfl, hs1, hs2, hb1⟩; have HS1 := Lib.hid hs1; have HS2 := Lib.hid hs2; have HB1 := Lib.hid hb1; clear hs1 hs2 hb1)
    | fail)
  have HL2 := Lib.hid HS2.out.len
  have hle : n2 ≤ n := by have h1 := HL2.out; have h2 := HL.out; have h3 := List.length_filter_le keepV l; omega
  by_cases hlt : n2 = n
  · have hI : (n2 : Int) = (n : Int) := by omega
    have HPB := Lib.hid (show presB l = [] from if_neg (by rw [← HL2.out, ← HL.out]; omega))
    go_wp2_with fail
    go_ret3
    exact ⟨none, 0, 0, A2, n2, c2, rfl, by rw [HPB.out]; exact Sl.nil_ _ _ _, HS2.out, HB1.out⟩
  · have hI : ¬ (n2 : Int) = (n : Int) := by omega
    have hI2 := beq_no hI
    have HPB := Lib.hid (show presB l = byB (boolB (l.map fun v => !v.null)) from if_pos (by rw [← HL2.out, ← HL.out]; omega))
    go_wp2_with (first
      | (go_at_call 104; refine (HPP.out _ A1 l.length c1 _ _ HS1.out (by rw [← HL.out]; exact HN.out)).mono ?_; rintro e w2 ⟨hb2, A3, n3, c3, rfl, ho3⟩; have HO3 := Lib.hid ho3; have HB2 := Lib.hid hb2; clear ho3 hb2)
      | fail)
    go_ret3
    refine ⟨A3, n3, c3, A2, n2, c2, rfl, ?_, HS2.out.below HB2.out (Nat.le_refl _), HB1.out.trans (HB2.out.mono HB1.out.size)⟩
    rw [HPB.out]
    exact HO3.out.own.sl.weaken fun b hb _ => by
      have := HB1.out.size
      rcases hb with hb | hb
      · exact hb.elim
      · exact Nat.le_trans this hb.2
end Go.Proofs.YtpmglcachffojaaGreatDoor
namespace Go.Proofs.YtpmglcachffojaaGreatDoor
open Go Go.RowKit

theorem bnei_yes {a b : Int} (h : ¬ a = b) : (a != b) = true := by simpa using h
theorem bnei_no {a b : Int} (h : a = b) : (a != b) = false := by simpa using h
set_option maxRecDepth 100000 in
set_option maxHeartbeats 2000000 in
theorem rmay_other (k n : Int) (b : Bool) (s : ByteArray) (w : World) (h : ¬ (1 ≤ k ∧ k ≤ 7)) :
    Calls Tryz.prog 47 #[.int .i64 k, .agg #[.bool b, .int .i64 n, .string s]] w fun e w' => e = .returned (.bool false) ∧ Below w.heap.size w w' := by
  by_cases h1 : k < 1
  · clear h
    go_enter Tryz.func47, Tryz.ntmps47
    go_wp2_with fail
    go_ret
    exact ⟨rfl, (Below.refl _ _).alloc (Nat.le_refl _) _⟩
  · have h2 : k > 7 := by omega
    have h3 : 7 < k := h2
    clear h
    go_enter Tryz.func47, Tryz.ntmps47
    go_wp2_with fail
    go_ret
    exact ⟨rfl, (Below.refl _ _).alloc (Nat.le_refl _) _⟩
set_option maxRecDepth 100000 in
set_option maxHeartbeats 2000000 in
theorem rmay_null (k n : Int) (s : ByteArray) (w : World) (h : 1 ≤ k ∧ k ≤ 7) :
    Calls Tryz.prog 47 #[.int .i64 k, .agg #[.bool true, .int .i64 n, .string s]] w fun e w' => e = .returned (.bool (decide (n = 0 ∧ s.size = 0))) ∧ Below w.heap.size w w' := by
  obtain ⟨q, hq⟩ : ∃ q : Bool, q = decide (n = 0 ∧ s.size = 0) := ⟨_, rfl⟩
  rw [← hq]
  have k1 : ¬ k < 1 := by omega
  have k2 : ¬ k > 7 := by omega
  have k3 : ¬ 7 < k := by omega
  clear h
  by_cases hn : n = 0
  · subst hn
    by_cases hs : s.size = 0
    · obtain rfl : q = true := by rw [hq]; simp [hs]
      clear hq
      obtain rfl := (str_nil s).2 hs
      clear hs
      go_enter Tryz.func47, Tryz.ntmps47
      go_wp2_with fail
      go_ret
      exact ⟨rfl, (Below.refl _ _).alloc (Nat.le_refl _) _⟩
    · obtain rfl : q = false := by rw [hq]; simp [hs]
      clear hq
      obtain ⟨a1, a2, a3, a4, a5⟩ := nil_no hs
      clear hs
      go_enter Tryz.func47, Tryz.ntmps47
      go_wp2_with fail
      go_ret
      exact ⟨rfl, (Below.refl _ _).alloc (Nat.le_refl _) _⟩
  · obtain rfl : q = false := by rw [hq]; simp [hn]
    clear hq
    have hb := beq_no hn
    go_enter Tryz.func47, Tryz.ntmps47
    go_wp2_with fail
    go_ret
    exact ⟨rfl, (Below.refl _ _).alloc (Nat.le_refl _) _⟩
set_option maxRecDepth 100000 in
set_option maxHeartbeats 2000000 in
theorem rmay_num (k n : Int) (s : ByteArray) (w : World) (h : 1 ≤ k ∧ k ≤ 5) :
    Calls Tryz.prog 47 #[.int .i64 k, .agg #[.bool false, .int .i64 n, .string s]] w fun e w' => e = .returned (.bool (decide (s.size = 0 ∧ (¬ k = 1 ∨ n = 0 ∨ n = 1)))) ∧ Below w.heap.size w w' := by
  obtain ⟨q, hq⟩ : ∃ q : Bool, q = decide (s.size = 0 ∧ (¬ k = 1 ∨ n = 0 ∨ n = 1)) := ⟨_, rfl⟩
  rw [← hq]
  have k1 : ¬ k < 1 := by omega
  have k2 : ¬ k > 7 := by omega
  have k3 : ¬ 7 < k := by omega
  have k4 : k ≤ 5 := by omega
  clear h
  by_cases hs : s.size = 0
  · obtain rfl := (str_nil s).2 hs
    clear hs
    by_cases hk : k = 1
    · subst hk
      by_cases hn : n = 0
      · subst hn
        obtain rfl : q = true := hq.trans (decide_eq_true ⟨rfl, .inr (.inl rfl)⟩)
        clear hq
        go_enter Tryz.func47, Tryz.ntmps47
        go_wp2_with fail
        go_ret
        exact ⟨rfl, (Below.refl _ _).alloc (Nat.le_refl _) _⟩
      · have hb := beq_no hn
        by_cases hn1 : n = 1
        · subst hn1
          obtain rfl : q = true := hq.trans (decide_eq_true ⟨rfl, .inr (.inr rfl)⟩)
          clear hq
          go_enter Tryz.func47, Tryz.ntmps47
          go_wp2_with fail
          go_ret
          exact ⟨rfl, (Below.refl _ _).alloc (Nat.le_refl _) _⟩
        · have hb1 := beq_no hn1
          obtain rfl : q = false := by rw [hq]; simp [hn, hn1]
          clear hq
          go_enter Tryz.func47, Tryz.ntmps47
          go_wp2_with fail
          go_ret
          exact ⟨rfl, (Below.refl _ _).alloc (Nat.le_refl _) _⟩
    · have hb := bnei_yes hk
      obtain rfl : q = true := hq.trans (decide_eq_true ⟨rfl, .inl hk⟩)
      clear hq
      go_enter Tryz.func47, Tryz.ntmps47
      go_wp2_with fail
      go_ret
      exact ⟨rfl, (Below.refl _ _).alloc (Nat.le_refl _) _⟩
  · obtain rfl : q = false := by rw [hq]; simp [hs]
    clear hq
    obtain ⟨a1, a2, a3, a4, a5⟩ := nil_no hs
    clear hs
    go_enter Tryz.func47, Tryz.ntmps47
    go_wp2_with fail
    go_ret
    exact ⟨rfl, (Below.refl _ _).alloc (Nat.le_refl _) _⟩
set_option maxRecDepth 100000 in
set_option maxHeartbeats 2000000 in
theorem rmay_text (k n : Int) (s : ByteArray) (w : World) (h : k = 6 ∨ k = 7) (hm : s.size ≤ maxLen) (hT : Lib.Utf8Tabs 0 1 w) :
    Calls Tryz.prog 47 #[.int .i64 k, .agg #[.bool false, .int .i64 n, .string s]] w fun e w' => e = .returned (.bool (decide (n = 0 ∧ s.size ≤ 300 ∧ (k = 7 ∨ Lib.validD s.data.toList = true)))) ∧ Below w.heap.size w w' := by
  obtain ⟨q, hq⟩ : ∃ q : Bool, q = decide (n = 0 ∧ s.size ≤ 300 ∧ (k = 7 ∨ Lib.validD s.data.toList = true)) := ⟨_, rfl⟩
  rw [← hq]
  have k1 : ¬ k < 1 := by omega
  have k2 : ¬ k > 7 := by omega
  have k3 : ¬ 7 < k := by omega
  have k4 : ¬ k ≤ 5 := by omega
  have HH := Lib.hid h; have HM := Lib.hid hm; have HT := Lib.hid (tabs_below hT ((Below.refl w.heap.size w).alloc (Nat.le_refl _) (.cells #[.bool false, .int .i64 n, .string s] 74)))
  clear h hm hT
  by_cases hn : n = 0
  · subst hn
    by_cases hs : s.size ≤ 300
    · have hs1 : (s.size : Int) ≤ 300 := by omega
      by_cases hk : k = 7
      · subst hk
        obtain rfl : q = true := hq.trans (decide_eq_true ⟨rfl, hs, .inl rfl⟩)
        clear hq
        clear hs
        go_enter Tryz.func47, Tryz.ntmps47
        go_wp2_with fail
        go_ret
        exact ⟨rfl, (Below.refl _ _).alloc (Nat.le_refl _) _⟩
      · have hb := beq_no hk
        obtain ⟨v, hv⟩ : ∃ v, v = Lib.validD s.data.toList := ⟨_, rfl⟩
        have HV := Lib.hid hv
        obtain rfl : q = v := by rw [hq]; rw [← hv]; simp [hs, hk]
        clear hq
        clear hs hv
        go_enter Tryz.func47, Tryz.ntmps47
        go_wp2_with (first
          | (go_at_call 102; refine (Any.utf8_ValidString Tryz.laysValid s _ (by have := HM.out; unfold maxLen at this; omega) HT.out).mono ?_; rintro e w1 ⟨rfl, hb1⟩; rw [← HV.out]; have HB1 := Lib.hid hb1; clear hb1)
          | fail)
        go_ret
        exact ⟨rfl, ((Below.refl _ _).alloc (Nat.le_refl _) _).trans (HB1.out.mono (by simp))⟩
    · have hs1 : ¬ (s.size : Int) ≤ 300 := by omega
      obtain rfl : q = false := by rw [hq]; simp [hs]
      clear hq
      clear hs
      go_enter Tryz.func47, Tryz.ntmps47
      go_wp2_with fail
      go_ret
      exact ⟨rfl, (Below.refl _ _).alloc (Nat.le_refl _) _⟩
  · have hb := beq_no hn
    obtain rfl : q = false := by rw [hq]; simp [hn]
    clear hq
    go_enter Tryz.func47, Tryz.ntmps47
    go_wp2_with fail
    go_ret
    exact ⟨rfl, (Below.refl _ _).alloc (Nat.le_refl _) _⟩
theorem rmay_any (k : Int) (d : VV) (hd : d.ok) (w : World) (hT : Lib.Utf8Tabs 0 1 w) :
    Calls Tryz.prog 47 #[.int .i64 k, .agg #[.bool d.null, .int .i64 d.n, .string d.s]] w fun e w' => e = .returned (.bool (mayV k d)) ∧ Below w.heap.size w w' := by
  by_cases hk : 1 ≤ k ∧ k ≤ 7
  · obtain ⟨nu, n, s⟩ := d
    cases nu with
    | true =>
      have e : mayV k ⟨true, n, s⟩ = decide (n = 0 ∧ s.size = 0) := by
        unfold mayV
        by_cases h5 : 1 ≤ k ∧ k ≤ 5
        · rw [if_pos h5]; rfl
        · rw [if_neg h5, if_pos (by omega)]; rfl
      rw [e]; exact rmay_null k n s w hk
    | false =>
      by_cases h5 : 1 ≤ k ∧ k ≤ 5
      · have e : mayV k ⟨false, n, s⟩ = decide (s.size = 0 ∧ (¬ k = 1 ∨ n = 0 ∨ n = 1)) := by
          unfold mayV
          rw [if_pos h5]
          by_cases h1 : k = 1
          · simp [h1]
          · simp [h1]
        rw [e]; exact rmay_num k n s w h5
      · have e : mayV k ⟨false, n, s⟩ = decide (n = 0 ∧ s.size ≤ 300 ∧ (k = 7 ∨ Lib.validD s.data.toList = true)) := by
          unfold mayV
          rw [if_neg h5, if_pos (by omega)]
          rfl
        rw [e]; exact rmay_text k n s w (by omega) hd.2.2 hT
  · have e : mayV k d = false := by
      unfold mayV
      rw [if_neg (by omega), if_neg (by omega)]
    rw [e]; exact rmay_other k d.n d.null d.s w hk
end Go.Proofs.YtpmglcachffojaaGreatDoor
namespace Go.Proofs.YtpmglcachffojaaGreatDoor
open Go Go.RowKit

/-- What is asked of the references 06 and 11. -/
def C06 : Prop := ∀ (F : Nat → Prop) (A : Option Addr) (n c : Nat) (l : List Bool) (w : World), Sl tBool F w A n c l → n ≤ 4096 → Calls Tryz.prog 104 #[.slice A n c] w (RunPost (some (byB (boolB l))) w)
def C11 : Prop := ∀ (F : Nat → Prop) (A : Option Addr) (n c : Nat) (l : List Int) (w : World), Sl tI64 F w A n c l → n ≤ 4096 → ∀ sg, NumOk sg l → Calls Tryz.prog 106 #[.slice A n c, .bool sg] w (RunPost (some (rleB sg l)) w)
theorem r12num_any (k : Int) (w : World) : Calls Tryz.prog 49 #[.int .i64 k] w fun e w' => e = .returned (.bool (decide (1 ≤ k ∧ k ≤ 5))) ∧ w = w' := by
  obtain ⟨q, hq⟩ : ∃ q, q = decide (1 ≤ k ∧ k ≤ 5) := ⟨_, rfl⟩
  rw [← hq]
  by_cases h1 : 1 ≤ k
  · have h1' : k ≥ 1 := h1
    by_cases h2 : k ≤ 5
    · obtain rfl : q = true := hq.trans (decide_eq_true ⟨h1, h2⟩)
      clear hq
      go_enter Tryz.func49, Tryz.ntmps49
      go_wp2_with fail
      go_ret
      exact ⟨rfl, rfl⟩
    · obtain rfl : q = false := hq.trans (decide_eq_false fun h => h2 h.2)
      clear hq
      go_enter Tryz.func49, Tryz.ntmps49
      go_wp2_with fail
      go_ret
      exact ⟨rfl, rfl⟩
  · have h1' : ¬ k ≥ 1 := h1
    obtain rfl : q = false := hq.trans (decide_eq_false fun h => h1 h.1)
    clear hq
    go_enter Tryz.func49, Tryz.ntmps49
    go_wp2_with fail
    go_ret
    exact ⟨rfl, rfl⟩
theorem parts_any (x : Int) (h0 : -9223372036854775808 ≤ x) (h1 : x ≤ 9223372036854775807) (w : World) :
    Calls Tryz.prog 105 #[.int .i64 x] w fun e w' => e = .returned (.tuple #[.int .i64 (x / 1000), .int .i64 (x % 1000)]) ∧ w = w' := by
  obtain ⟨q, hq⟩ : ∃ q, q = x.tdiv 1000 := ⟨_, rfl⟩
  obtain ⟨r, hr⟩ : ∃ r, r = x.tmod 1000 := ⟨_, rfl⟩
  have hqr : 1000 * q + r = x := by rw [hq, hr]; exact Int.mul_tdiv_add_tmod x 1000
  have hb : (0 ≤ x → 0 ≤ r ∧ r < 1000) ∧ (x < 0 → -1000 < r ∧ r ≤ 0) := by
    rw [hr]
    refine ⟨fun h => ⟨Int.tmod_nonneg 1000 h, Int.tmod_lt_of_pos x (by decide)⟩, fun h => ?_⟩
    have e : x.tmod 1000 = -((-x).tmod 1000) := by rw [Int.neg_tmod, Int.neg_neg]
    have h1 := Int.tmod_nonneg 1000 (show 0 ≤ -x by omega)
    have h2 := Int.tmod_lt_of_pos (-x) (show (0 : Int) < 1000 by decide)
    omega
  have hq0 : -9223372036854776 ≤ q ∧ q ≤ 9223372036854775 := by omega
  have hr0 : -1000 < r ∧ r < 1000 := by omega
  by_cases hneg : r < 0
  · have HD := Lib.hid (show x / 1000 = q - 1 by omega)
    have HM := Lib.hid (show x % 1000 = r + 1000 by omega)
    obtain ⟨q0, q1⟩ := hq0
    obtain ⟨r0, r1⟩ := hr0
    have HQ := hq.symm; have HR := hr.symm
    clear hb hqr hq hr
    go_enter Tryz.func105, Tryz.ntmps105
    go_wp2_with fail
    go_ret2
    exact ⟨by rw [HD.out, HM.out]; rfl, rfl⟩
  · have HD := Lib.hid (show x / 1000 = q by omega)
    have HM := Lib.hid (show x % 1000 = r by omega)
    obtain ⟨q0, q1⟩ := hq0
    obtain ⟨r0, r1⟩ := hr0
    have HQ := hq.symm; have HR := hr.symm
    clear hb hqr hq hr
    go_enter Tryz.func105, Tryz.ntmps105
    go_wp2_with fail
    go_ret2
    exact ⟨by rw [HD.out, HM.out]; rfl, rfl⟩
/-- The four lists that the reference 14 makes. -/
structure L4 (w0 : World) (l : List VV) (i : Nat) (col : Nat → Nat) (S : Nat) (A1 : Option Addr) (c1 : Nat) (A2 : Option Addr) (c2 : Nat) (A3 : Option Addr) (c3 : Nat) (A4 : Option Addr) (c4 : Nat) (n1 n2 n3 n4 : Nat) (w : World) : Prop where
  on : Col tBool 4 col 0 w0.heap.size S w A1 n1 c1 ((l.take n1).map fun v => v.n == 1)
  whole : Col tI64 3 col 1 w0.heap.size S w A2 n2 c2 ((l.take n2).map fun v => v.n)
  first : Col tI64 3 col 2 w0.heap.size S w A3 n3 c3 ((l.take n3).map fun v => v.n / 1000)
  second : Col tI64 3 col 3 w0.heap.size S w A4 n4 c4 ((l.take n4).map fun v => v.n % 1000)
  below : Below w0.heap.size w0 w
  low : w0.heap.size ≤ S
  high : S ≤ w.heap.size
  at_ : i ≤ 4096
section
variable {w0 w w' : World} {l : List VV} {i : Nat} {col : Nat → Nat} {S : Nat} {A1 A2 A3 A4 A' : Option Addr} {c1 c2 c3 c4 c' n1 n2 n3 n4 : Nat}
theorem L4.keepB (h : L4 w0 l i col S A1 c1 A2 c2 A3 c3 A4 c4 n1 n2 n3 n4 w) (hb : Below w.heap.size w w') : L4 w0 l i col S A1 c1 A2 c2 A3 c3 A4 c4 n1 n2 n3 n4 w' :=
  ⟨h.on.keepB hb, h.whole.keepB hb, h.first.keepB hb, h.second.keepB hb, h.below.trans (hb.mono h.below.size), h.low, Nat.le_trans h.high hb.size, h.at_⟩
theorem L4.push1 {F : Nat → Prop} (h : L4 w0 l i col S A1 c1 A2 c2 A3 c3 A4 c4 n1 n2 n3 n4 w) (f2 : ∀ b, F b → b < S ∧ w0.heap.size ≤ b ∧ col b = 0) (f3 : ∀ b, A1.map (·.block) = some b → b < S ∧ col b = 0) (o : Obj) (hl : n1 < l.length) (d : VV) (hd : d = l[n1])
    (ha : ApdL tBool 4 (fun b => (F b ∨ (fun _ => False) b) ∧ b < w.heap.size) w0 (w.alloc o) w' w0.heap.size A1 A' (n1 + 1) c' (((l.take n1).map fun v => v.n == 1) ++ [d.n == 1])) :
    L4 w0 l i (recolor col 0 S) w'.heap.size A' c' A2 c2 A3 c3 A4 c4 (n1 + 1) n2 n3 n4 w' := by
  have hg := ha.grown.size
  rw [World.size_alloc] at hg
  have hh := h.high
  have hlo := h.low
  have h1 := Col.apd f2 f3 (fun _ hh => hh.elim) h.low (by rw [World.size_alloc]; omega) ha
  have e1 : (l.take (n1 + 1)).map (fun v => v.n == 1) = ((l.take n1).map fun v => v.n == 1) ++ [d.n == 1] := by rw [List.take_succ_eq_append_getElem hl, List.map_append, hd]; rfl
  rw [← e1] at h1
  exact ⟨h1, Col.past (h.whole.allocs o) (by decide) f3 ha.grown (by omega), Col.past (h.first.allocs o) (by decide) f3 ha.grown (by omega), Col.past (h.second.allocs o) (by decide) f3 ha.grown (by omega), ha.below, by omega, Nat.le_refl _, h.at_⟩
theorem L4.push2 {F : Nat → Prop} (h : L4 w0 l i col S A1 c1 A2 c2 A3 c3 A4 c4 n1 n2 n3 n4 w) (f2 : ∀ b, F b → b < S ∧ w0.heap.size ≤ b ∧ col b = 1) (f3 : ∀ b, A2.map (·.block) = some b → b < S ∧ col b = 1) (o : Obj) (hl : n2 < l.length) (d : VV) (hd : d = l[n2])
    (ha : ApdL tI64 3 (fun b => (F b ∨ (fun _ => False) b) ∧ b < w.heap.size) w0 (w.alloc o) w' w0.heap.size A2 A' (n2 + 1) c' (((l.take n2).map fun v => v.n) ++ [d.n])) :
    L4 w0 l i (recolor col 1 S) w'.heap.size A1 c1 A' c' A3 c3 A4 c4 n1 (n2 + 1) n3 n4 w' := by
  have hg := ha.grown.size
  rw [World.size_alloc] at hg
  have hh := h.high
  have hlo := h.low
  have h1 := Col.apd f2 f3 (fun _ hh => hh.elim) h.low (by rw [World.size_alloc]; omega) ha
  have e1 : (l.take (n2 + 1)).map (fun v => v.n) = ((l.take n2).map fun v => v.n) ++ [d.n] := by rw [List.take_succ_eq_append_getElem hl, List.map_append, hd]; rfl
  rw [← e1] at h1
  exact ⟨Col.past (h.on.allocs o) (by decide) f3 ha.grown (by omega), h1, Col.past (h.first.allocs o) (by decide) f3 ha.grown (by omega), Col.past (h.second.allocs o) (by decide) f3 ha.grown (by omega), ha.below, by omega, Nat.le_refl _, h.at_⟩
theorem L4.push3 {F : Nat → Prop} (h : L4 w0 l i col S A1 c1 A2 c2 A3 c3 A4 c4 n1 n2 n3 n4 w) (f2 : ∀ b, F b → b < S ∧ w0.heap.size ≤ b ∧ col b = 2) (f3 : ∀ b, A3.map (·.block) = some b → b < S ∧ col b = 2) (o : Obj) (hl : n3 < l.length) (d : VV) (hd : d = l[n3])
    (ha : ApdL tI64 3 (fun b => (F b ∨ (fun _ => False) b) ∧ b < w.heap.size) w0 (w.alloc o) w' w0.heap.size A3 A' (n3 + 1) c' (((l.take n3).map fun v => v.n / 1000) ++ [d.n / 1000])) :
    L4 w0 l i (recolor col 2 S) w'.heap.size A1 c1 A2 c2 A' c' A4 c4 n1 n2 (n3 + 1) n4 w' := by
  have hg := ha.grown.size
  rw [World.size_alloc] at hg
  have hh := h.high
  have hlo := h.low
  have h1 := Col.apd f2 f3 (fun _ hh => hh.elim) h.low (by rw [World.size_alloc]; omega) ha
  have e1 : (l.take (n3 + 1)).map (fun v => v.n / 1000) = ((l.take n3).map fun v => v.n / 1000) ++ [d.n / 1000] := by rw [List.take_succ_eq_append_getElem hl, List.map_append, hd]; rfl
  rw [← e1] at h1
  exact ⟨Col.past (h.on.allocs o) (by decide) f3 ha.grown (by omega), Col.past (h.whole.allocs o) (by decide) f3 ha.grown (by omega), h1, Col.past (h.second.allocs o) (by decide) f3 ha.grown (by omega), ha.below, by omega, Nat.le_refl _, h.at_⟩
theorem L4.push4 {F : Nat → Prop} (h : L4 w0 l i col S A1 c1 A2 c2 A3 c3 A4 c4 n1 n2 n3 n4 w) (f2 : ∀ b, F b → b < S ∧ w0.heap.size ≤ b ∧ col b = 3) (f3 : ∀ b, A4.map (·.block) = some b → b < S ∧ col b = 3) (o : Obj) (hl : n4 < l.length) (d : VV) (hd : d = l[n4])
    (ha : ApdL tI64 3 (fun b => (F b ∨ (fun _ => False) b) ∧ b < w.heap.size) w0 (w.alloc o) w' w0.heap.size A4 A' (n4 + 1) c' (((l.take n4).map fun v => v.n % 1000) ++ [d.n % 1000])) :
    L4 w0 l i (recolor col 3 S) w'.heap.size A1 c1 A2 c2 A3 c3 A' c' n1 n2 n3 (n4 + 1) w' := by
  have hg := ha.grown.size
  rw [World.size_alloc] at hg
  have hh := h.high
  have hlo := h.low
  have h1 := Col.apd f2 f3 (fun _ hh => hh.elim) h.low (by rw [World.size_alloc]; omega) ha
  have e1 : (l.take (n4 + 1)).map (fun v => v.n % 1000) = ((l.take n4).map fun v => v.n % 1000) ++ [d.n % 1000] := by rw [List.take_succ_eq_append_getElem hl, List.map_append, hd]; rfl
  rw [← e1] at h1
  exact ⟨Col.past (h.on.allocs o) (by decide) f3 ha.grown (by omega), Col.past (h.whole.allocs o) (by decide) f3 ha.grown (by omega), Col.past (h.first.allocs o) (by decide) f3 ha.grown (by omega), h1, ha.below, by omega, Nat.le_refl _, h.at_⟩
end
set_option maxRecDepth 100000 in
set_option maxHeartbeats 4000000 in
theorem r14put_any (H06 : C06) (H11 : C11) (k : Int) (hk : 1 ≤ k ∧ k ≤ 5) (F : Nat → Prop) (A : Option Addr) (n c : Nat) (l : List VV) (w : World) (h : Sl tVV F w A n c l) (hn : n ≤ 4096) (hm : ∀ v ∈ l, v.null = false ∧ mayV k v = true) (hT : Lib.Utf8Tabs 0 1 w) :
    Calls Tryz.prog 50 #[.int .i64 k, .slice A n c] w (RunPost (some (intsB k l)) w) := by
  have HL := Lib.hid h.len
  have HH := Lib.hid h; have HN := Lib.hid hn; have HM := Lib.hid hm; have HT := Lib.hid hT; have H6 := Lib.hid H06; have H1 := Lib.hid H11
  have HOK := Lib.hid (numOk_of l (sl_ok h))
  have HVO := Lib.hid (sl_ok h)
  have HNM := Lib.hid (show decide (1 ≤ k ∧ k ≤ 5) = true by simpa using hk)
  have hn1 : ¬ (n : Int) > 4096 := by omega
  have hn2 : ¬ (4096 : Int) < n := by omega
  have HK := Lib.hid hk
  have hc1 := Col.empty tBool 4 (fun b => b - w.heap.size) 0 w.heap.size w (Nat.le_refl _) (Nat.sub_self _)
  have hc2 := Col.empty tI64 3 (fun b => b - w.heap.size) 1 w.heap.size (w.alloc (.cells #[] 4)) (by simp) (by rw [World.size_alloc]; omega)
  have hc3 := Col.empty tI64 3 (fun b => b - w.heap.size) 2 w.heap.size ((w.alloc (.cells #[] 4)).alloc (.cells #[] 3)) (by simp; omega) (by rw [World.size_alloc, World.size_alloc]; omega)
  have hc4 := Col.empty tI64 3 (fun b => b - w.heap.size) 3 w.heap.size (((w.alloc (.cells #[] 4)).alloc (.cells #[] 3)).alloc (.cells #[] 3)) (by simp; omega) (by rw [World.size_alloc, World.size_alloc, World.size_alloc]; omega)
  rw [World.size_alloc] at hc2
  rw [World.size_alloc, World.size_alloc] at hc3
  rw [World.size_alloc, World.size_alloc, World.size_alloc] at hc4
  have HL0 : Hid (L4 w l 0 (fun b => b - w.heap.size) (w.heap.size + 1 + 1 + 1 + 1) (some ⟨w.heap.size, 0, none⟩) 0 (some ⟨w.heap.size + 1, 0, none⟩) 0 (some ⟨w.heap.size + 1 + 1, 0, none⟩) 0 (some ⟨w.heap.size + 1 + 1 + 1, 0, none⟩) 0 0 0 0 0
      ((((w.alloc (.cells #[] 4)).alloc (.cells #[] 3)).alloc (.cells #[] 3)).alloc (.cells #[] 3))) := Lib.hid
    ⟨(((hc1.allocs _).allocs _).allocs _).recol (fun _ _ => rfl) (by omega), ((hc2.allocs _).allocs _).recol (fun _ _ => rfl) (by omega), (hc3.allocs _).recol (fun _ _ => rfl) (by omega), hc4, ((((Below.refl _ _).alloc (Nat.le_refl _) _).alloc (by simp) _).alloc (by simp; omega) _).alloc (by simp; omega) _, by omega, by simp, by omega⟩
  clear h hn hm hT hk H06 H11 hc1 hc2 hc3 hc4
  go_enter Tryz.func50, Tryz.ntmps50
  go_wp2_with (first
    | (go_at_call 49; refine (r12num_any _ _).mono ?_; rintro e w1 ⟨rfl, rfl⟩; rw [HNM.out])
    | fail)
  go_loopw [7, 8, 9, 10, 11] (fun av bv cv dv iv wr => ∃ (i : Nat) (A1 : Option Addr) (c1 : Nat) (A2 : Option Addr) (c2 : Nat) (A3 : Option Addr) (c3 : Nat) (A4 : Option Addr) (c4 : Nat) (col : Nat → Nat) (S : Nat), i ≤ n ∧ iv = .int .i64 (i : Int) ∧ av = .slice A1 i c1 ∧ bv = .slice A2 i c2 ∧ cv = .slice A3 i c3 ∧ dv = .slice A4 i c4 ∧ L4 w l 0 col S A1 c1 A2 c2 A3 c3 A4 c4 i i i i wr) (fun _ _ _ _ iv _ => n - (intOf iv).toNat)
  case atStart => exact ⟨0, _, _, _, _, _, _, _, _, _, _, Nat.zero_le _, rfl, rfl, rfl, rfl, rfl, HL0.out⟩
  case round =>
    obtain ⟨i, A1, c1, A2, c2, A3, c3, A4, c4, col, S, hi, rfl, rfl, rfl, rfl, rfl, hl4⟩ := hrel
    have HL4 := Lib.hid hl4
    clear hl4
    by_cases hlt : i < n
    · have hil : i < l.length := by rw [← HL.out]; exact hlt
      obtain ⟨b, o, cs, rfl, _, hbl, hrep, hc⟩ := HH.out.at_ hil (by decide)
      have hml := HM.out _ (List.getElem_mem hil)
      have hvo := HVO.out _ (List.getElem_mem hil)
      obtain ⟨v, hf⟩ : ∃ v, v = l[i] := ⟨_, rfl⟩
      obtain ⟨rfl, _⟩ := hrep
      rw [← hf] at hc hml hvo
      have HF := Lib.hid hf
      obtain ⟨nu, x, s⟩ := v
      obtain ⟨hnu, hmay⟩ := hml
      have hnu : nu = false := hnu
      subst hnu
      have HMAY := Lib.hid hmay; have HVK := Lib.hid hvo
      obtain ⟨g0, g1, g2⟩ := cells3 hc
      have G0 : Hid (_ = some (Value.bool false)) := Lib.hid g0
      have G1 : Hid (_ = some (Value.int .i64 x)) := Lib.hid g1
      have G2 : Hid (_ = some (Value.string s)) := Lib.hid g2
      have hi0 : (0 : Int) ≤ (i : Int) := by omega
      have hi1 : (i : Int) < (n : Int) := by omega
      have hi4 : i ≤ 34359738368 := by have := HN.out; omega
      have x0 : -9223372036854775808 ≤ x := hvo.1
      have x1 : x ≤ 9223372036854775807 := hvo.2.1
      clear hc hf hmay hvo g0 g1 g2
      have g0 := kcell HL4.out.below G0.out
      have g1 := kcell HL4.out.below G1.out
      have g2 := kcell HL4.out.below G2.out
      go_upto_region 14 with (first
        | (go_at_call 47; refine (rmay_any k ⟨false, x, s⟩ HVK.out _ (tabs_below HT.out HL4.out.below)).mono ?_; rintro e w3 ⟨rfl, hb3⟩; rw [HMAY.out]; have HM3 := Lib.hid (HL4.out.keepB hb3); clear hb3)
        | fail)
      clear g0 g1 g2
      have g0 := kcell HM3.out.below G0.out
      have g1 := kcell HM3.out.below G1.out
      obtain ⟨qq, hqq⟩ : ∃ qq, qq = x / 1000 := ⟨_, rfl⟩
      obtain ⟨rr, hrr⟩ : ∃ rr, rr = x % 1000 := ⟨_, rfl⟩
      have HPT := Lib.hid (parts_any x x0 x1)
      rw [← hqq, ← hrr] at HPT
      have hqk : -9223372036854775808 ≤ qq ∧ qq ≤ 9223372036854775807 := by omega
      have hrk : -9223372036854775808 ≤ rr ∧ rr ≤ 9223372036854775807 := by omega
      have HQK := Lib.hid hqk; have HRK := Lib.hid hrk; have HQQ := Lib.hid hqq; have HRR := Lib.hid hrr
      clear hqk hrk hqq hrr
      obtain ⟨F1, o1, f12, f13⟩ := HM3.out.on
      have O1 := Lib.hid o1; have F12 := Lib.hid f12; have F13 := Lib.hid f13
      clear o1 f12 f13
      go_upto_region 18 with (first
        | (go_at_call 105; refine (HPT.out _).mono ?_; rintro e w4 ⟨rfl, rfl⟩)
        | (at_builtin; refine apl1 (T := tBool) elemBool w3 w rfl (.tmp 60) (.tmp 67) rfl w.heap.size A1 i c1 ((l.take i).map fun v => v.n == 1) (by rfl) F1 (fun _ => False) O1.out HM3.out.below (Nat.le_refl _) _ (by rfl) [.bool (x == 1)] (x == 1) (by rfl) 4 rfl (fun _ _ _ _ h4 => h4) hi4 ?_; intro A5 c5 w5 h5)
        | fail)
      have HL5 := Lib.hid (L4.push1 HM3.out F12.out F13.out _ hil ⟨false, x, s⟩ HF.out h5)
      clear g0 g1
      have g1 := kcell HL5.out.below G1.out
      obtain ⟨F2, o2, f22, f23⟩ := HL5.out.whole
      have O2 := Lib.hid o2; have F22 := Lib.hid f22; have F23 := Lib.hid f23
      clear o2 f22 f23
      go_upto_region 19 with (first
        | (at_builtin; refine apl1 (T := tI64) elemI64 w5 w rfl (.tmp 69) (.tmp 75) rfl w.heap.size A2 i c2 ((l.take i).map fun v => v.n) (by rfl) F2 (fun _ => False) O2.out HL5.out.below (Nat.le_refl _) _ (by rfl) [.int .i64 x] x ⟨rfl, x0, x1⟩ 3 rfl (fun _ _ _ _ h4 => h4) hi4 ?_; intro A6 c6 w6 h6)
        | fail)
      have HL6 := Lib.hid (L4.push2 HL5.out F22.out F23.out _ hil ⟨false, x, s⟩ HF.out h6)
      clear g1
      obtain ⟨F3, o3, f32, f33⟩ := HL6.out.first
      have O3 := Lib.hid o3; have F32 := Lib.hid f32; have F33 := Lib.hid f33
      clear o3 f32 f33
      go_upto_region 20 with (first
        | (at_builtin; refine apl1 (T := tI64) elemI64 w6 w rfl (.tmp 77) (.tmp 79) rfl w.heap.size A3 i c3 ((l.take i).map fun v => v.n / 1000) (by rfl) F3 (fun _ => False) O3.out HL6.out.below (Nat.le_refl _) _ (by rfl) [.int .i64 qq] qq ⟨rfl, HQK.out⟩ 3 rfl (fun _ _ _ _ h4 => h4) hi4 ?_; intro A7 c7 w7 h7)
        | fail)
      rw [HQQ.out] at h7
      have HL7 := Lib.hid (L4.push3 HL6.out F32.out F33.out _ hil ⟨false, x, s⟩ HF.out h7)
      obtain ⟨F4, o4, f42, f43⟩ := HL7.out.second
      have O4 := Lib.hid o4; have F42 := Lib.hid f42; have F43 := Lib.hid f43
      clear o4 f42 f43
      go_wp2_with (first
        | (at_builtin; refine apl1 (T := tI64) elemI64 w7 w rfl (.tmp 81) (.tmp 83) rfl w.heap.size A4 i c4 ((l.take i).map fun v => v.n % 1000) (by rfl) F4 (fun _ => False) O4.out HL7.out.below (Nat.le_refl _) _ (by rfl) [.int .i64 rr] rr ⟨rfl, HRK.out⟩ 3 rfl (fun _ _ _ _ h4 => h4) hi4 ?_; intro A8 c8 w8 h8)
        | fail)
      rw [HRR.out] at h8
      have HL8 := Lib.hid (L4.push4 HL7.out F42.out F43.out _ hil ⟨false, x, s⟩ HF.out h8)
      go_roundw
      case rel => exact ⟨i + 1, A5, c5, A6, c6, A7, c7, A8, c8, _, _, by omega, by go_num, rfl, rfl, rfl, rfl, HL8.out⟩
      case measure => simp [intOf]; omega
    · obtain rfl : i = n := by omega
      have e1 : l.take i = l := List.take_of_length_le (by rw [← HL.out]; exact Nat.le_refl _)
      have hs1 := HL4.out.on.sl
      have hs2 := HL4.out.whole.sl
      have hs3 := HL4.out.first.sl
      have hs4 := HL4.out.second.sl
      rw [e1] at hs1 hs2 hs3 hs4
      have HS1 := Lib.hid hs1; have HS2 := Lib.hid hs2; have HS3 := Lib.hid hs3; have HS4 := Lib.hid hs4
      have HB := Lib.hid HL4.out.below
      clear hs1 hs2 hs3 hs4 e1
      by_cases k1 : k = 1
      · subst k1
        have HI := Lib.hid (show intsB 1 l = byB (boolB (l.map fun v => v.n == 1)) from if_pos rfl)
        go_wp2_with (first
          | (go_at_call 104; refine (H6.out _ A1 i c1 _ _ HS1.out HN.out).mono ?_; rintro e w5 ⟨hb5, A5, n5, c5, rfl, ho5⟩; have HO5 := Lib.hid ho5; have HB5 := Lib.hid hb5; clear ho5 hb5)
          | fail)
        go_ret2
        exact ⟨HB.out.trans (HB5.out.mono HB.out.size), A5, n5, c5, rfl, by rw [HI.out]; exact HO5.out.down HB.out.size⟩
      · by_cases k5 : k = 5
        · subst k5
          have HI := Lib.hid (show intsB 5 l = rleB true (l.map fun v => v.n / 1000) ++ rleB false (l.map fun v => v.n % 1000) from by unfold intsB; rw [if_neg (by decide), if_pos rfl])
          have HLB := Lib.hid (rleB_len false (l.map fun v => v.n % 1000))
          have HLA := Lib.hid (rleB_len true (l.map fun v => v.n / 1000))
          go_upto_region 26 with (first
            | (go_at_call 106; refine (H1.out _ A3 i c3 _ _ HS3.out HN.out true HOK.out.2.1).mono ?_; rintro e w5 ⟨hb5, A5, n5, c5, rfl, ho5⟩; have HO5 := Lib.hid ho5; have HB5 := Lib.hid hb5; clear ho5 hb5)
            | fail)
          go_upto_region 27 with (first
            | (go_at_call 106; refine (H1.out _ A4 i c4 _ _ (HS4.out.below HB5.out (Nat.le_refl _)) HN.out false HOK.out.2.2).mono ?_; rintro e w6 ⟨hb6, A6, n6, c6, rfl, ho6⟩; have HO6 := Lib.hid ho6; have HB6 := Lib.hid hb6; clear ho6 hb6)
            | fail)
          have hlim : n5 + n6 ≤ 68719476736 := by
            have h1 := HO5.out.len; have h2 := HO6.out.len; have h3 := HLA.out; have h4 := HLB.out; have h5 := HN.out; have h6 := HL.out
            rw [List.length_map] at h3 h4
            omega
          have HB56 := Lib.hid (HB5.out.trans (HB6.out.mono HB5.out.size))
          go_wp2_with (first
            | (at_builtin; refine apb w6 wr rfl (.tmp 104) (.tmp 105) rfl wr.heap.size A5 n5 c5 _ rfl (HO5.out.keepB HB6.out) HB56.out (Nat.le_refl _) _ A6 n6 c6 _ rfl HO6.out.bs hlim ?_; intro A7 c7 w7 h7 hb7 _)
            | fail)
          go_ret2
          exact ⟨HB.out.trans (hb7.mono HB.out.size), A7, _, c7, rfl, by rw [HI.out]; exact h7.down HB.out.size⟩
        · have b1 := beq_no k1
          have b5 := beq_no k5
          have HI := Lib.hid (show intsB k l = rleB true (l.map fun v => v.n) from by unfold intsB; rw [if_neg k1, if_neg k5])
          go_wp2_with (first
            | (go_at_call 106; refine (H1.out _ A2 i c2 _ _ HS2.out HN.out true HOK.out.1).mono ?_; rintro e w5 ⟨hb5, A5, n5, c5, rfl, ho5⟩; have HO5 := Lib.hid ho5; have HB5 := Lib.hid hb5; clear ho5 hb5)
            | fail)
          go_ret2
          exact ⟨HB.out.trans (HB5.out.mono HB.out.size), A5, n5, c5, rfl, by rw [HI.out]; exact HO5.out.down HB.out.size⟩
end Go.Proofs.YtpmglcachffojaaGreatDoor
