/- The map of texts.Put, in plain words. The texts that texts.Words tells are told once, and rise. (*builder).add: a stream more. strings.Join of texts with nothing between them. -/
import Derived.Test.YticfmphbhdkhoaaGreatDoorPk25
import Derived.Maps.OwnOps
import Derived.Maps.OwnSet
import Derived.Maps.Views
import Derived.StringKeys
namespace Go.Proofs.YticfmphbhdkhoaaGreatDoor
open Go Go.RowKit Go.Maps

/-- The places of the first k words. -/
def plD (H : Type) (ws : List (List UInt8)) : Nat → DataW H
  | 0 => .map []
  | k + 1 => (plD H ws k).put (.string (ws.getD k [])) (.lit (.int .i64 (k : Int)))
theorem key_lit (s : List UInt8) : WideAt.IsKeyLit (.string s) := trivial
theorem nodup_inj {ws : List (List UInt8)} (hn : ws.Nodup) {i j : Nat} (hi : i < ws.length) (hj : j < ws.length) (e : ws[i] = ws[j]) : i = j := by
  rcases Nat.lt_trichotomy i j with h | h | h
  · exact absurd e (List.pairwise_iff_getElem.1 hn i j hi hj h)
  · exact h
  · exact absurd e.symm (List.pairwise_iff_getElem.1 hn j i hj hi h)
theorem plD_tidy (H : Type) (ws : List (List UInt8)) : ∀ k, Tidy (plD H ws k)
  | 0 => tidy_empty
  | k + 1 => (plD_tidy H ws k).put (key_lit _) _
theorem getD_at {ws : List (List UInt8)} {k : Nat} (h : k < ws.length) : ws.getD k [] = ws[k] := by
  rw [List.getD_eq_getElem?_getD, List.getElem?_eq_getElem h]; rfl
theorem plD_has (H : Type) (ws : List (List UInt8)) (s : List UInt8) : ∀ k, k ≤ ws.length → (has (plD H ws k) (.string s) = decide (s ∈ ws.take k))
  | 0, _ => by simp [plD, has]
  | k + 1, hk => by
    have ih := plD_has H ws s k (by omega)
    have hkl : k < ws.length := by omega
    rw [plD, getD_at hkl, List.take_succ_eq_append_getElem hkl]
    by_cases h : s = ws[k]
    · subst h
      rw [has_put_same (plD_tidy H ws k).isMap (key_lit _)]
      symm
      rw [decide_eq_true_eq, List.mem_append, List.mem_singleton]
      exact .inr rfl
    · rw [has_put_other (by intro e; injection e with e; exact h e), ih, decide_eq_decide, List.mem_append, List.mem_singleton]
      exact ⟨.inl, fun h' => h'.resolve_right h⟩
theorem plD_size (H : Type) (ws : List (List UInt8)) (hn : ws.Nodup) : ∀ k, k ≤ ws.length → Maps.size (plD H ws k) = k
  | 0, _ => rfl
  | k + 1, hk => by
    have ih := plD_size H ws hn k (by omega)
    have hkl : k < ws.length := by omega
    have hno : has (plD H ws k) (.string ws[k]) = false := by
      rw [plD_has H ws _ k (by omega)]
      simp only [decide_eq_false_iff_not]
      intro hm
      obtain ⟨i, hi, he⟩ := List.getElem_of_mem hm
      rw [List.getElem_take] at he
      rw [List.length_take] at hi
      have := nodup_inj hn (by omega) hkl he
      omega
    rw [plD, getD_at hkl, size_put (plD_tidy H ws k), hno, ih]
    rfl
theorem plD_at (H : Type) (ws : List (List UInt8)) (hn : ws.Nodup) (z : DataW H) : ∀ k, k ≤ ws.length → ∀ i, i < k → (plD H ws k).atKey (.string (ws.getD i [])) z = .lit (.int .i64 (i : Int))
  | k + 1, hk, i, hi => by
    have hkl : k < ws.length := by omega
    have hil : i < ws.length := by omega
    rw [plD]
    by_cases h : i = k
    · subst h
      rw [atKey_put_same (plD_tidy H ws i).isMap (key_lit _)]
    · rw [atKey_put_other]
      · exact plD_at H ws hn z k (by omega) i (by omega)
      · intro e
        injection e with e
        rw [getD_at hil, getD_at hkl] at e
        exact h (nodup_inj hn hil hkl e)
/-- The texts told are the members, each once. -/
theorem mem_compactUp (d : Array (List UInt8)) : ∀ m, m ≤ d.size → ∀ x, (x ∈ Lib.compactUpTo d m ↔ ∃ i, i < m ∧ d[i]! = x)
  | 0, _, x => by simp [Lib.compactUpTo]
  | m + 1, hm, x => by
    have ih := mem_compactUp d m (by omega) x
    rw [Lib.compactUpTo_succ, List.mem_append, ih]
    constructor
    · rintro (⟨i, hi, he⟩ | h)
      · exact ⟨i, by omega, he⟩
      · split at h
        · exact ⟨m, by omega, (List.mem_singleton.1 h).symm⟩
        · cases h
    · rintro ⟨i, hi, he⟩
      rcases Nat.lt_or_ge i m with h | h
      · exact .inl ⟨i, h, he⟩
      · obtain rfl : i = m := by omega
        by_cases hk : Lib.keeps d i = true
        · right
          rw [if_pos hk, ← he]
          exact List.mem_singleton.2 rfl
        · left
          have hk2 : ¬ (i = 0 ∨ d[i]! ≠ d[i - 1]!) := by simpa [Lib.keeps] using hk
          have h0 : i ≠ 0 := fun e => hk2 (.inl e)
          have h1 : d[i]! = d[i - 1]! := Classical.byContradiction fun e => hk2 (.inr e)
          exact ⟨i - 1, by omega, by rw [← h1, he]⟩
theorem mem_compact (zs : List (List UInt8)) (x : List UInt8) : x ∈ Lib.compact zs ↔ x ∈ zs := by
  unfold Lib.compact
  rw [mem_compactUp zs.toArray zs.length (by simp) x]
  constructor
  · rintro ⟨i, hi, rfl⟩
    simp [getElem!_pos, hi]
  · intro h
    obtain ⟨i, hi, rfl⟩ := List.getElem_of_mem h
    exact ⟨i, hi, by simp [getElem!_pos, hi]⟩
theorem mem_words (l : List ByteArray) (x : List UInt8) : x ∈ wordsL l ↔ x ∈ bytesS l := by
  unfold wordsL sortL
  rw [mem_compact]
  exact (List.mergeSort_perm _ _).mem_iff
end Go.Proofs.YticfmphbhdkhoaaGreatDoor
namespace Go.Proofs.YticfmphbhdkhoaaGreatDoor
open Go Go.RowKit

theorem sortL_pair (l : List (List UInt8)) : (sortL l).Pairwise (fun a b => a ≤ b) := by
  have tr : ∀ a b c : List UInt8, decide (a ≤ b) = true → decide (b ≤ c) = true → decide (a ≤ c) = true := fun a b c h1 h2 => by
    simp only [decide_eq_true_eq] at h1 h2 ⊢; exact List.le_trans h1 h2
  have tot : ∀ a b : List UInt8, (decide (a ≤ b) || decide (b ≤ a)) = true := fun a b => by simp only [Bool.or_eq_true, decide_eq_true_eq]; exact List.le_total a b
  exact (List.pairwise_mergeSort tr tot l).imp fun {a b} h => by simpa using h
theorem compactUp_pair (d : Array (List UInt8)) (hs : ∀ i j, i ≤ j → j < d.size → d[i]! ≤ d[j]!) : ∀ m, m ≤ d.size → (Lib.compactUpTo d m).Pairwise (fun a b => a ≤ b ∧ a ≠ b)
  | 0, _ => by simp [Lib.compactUpTo]
  | m + 1, hm => by
    have ih := compactUp_pair d hs m (by omega)
    rw [Lib.compactUpTo_succ, List.pairwise_append]
    refine ⟨ih, by split <;> simp, fun x hx y hy => ?_⟩
    split at hy
    · rename_i hk
      obtain rfl := List.mem_singleton.1 hy
      obtain ⟨i, hi, rfl⟩ := (mem_compactUp d m (by omega) x).1 hx
      refine ⟨hs i m (by omega) (by omega), fun e => ?_⟩
      have hk2 : m = 0 ∨ d[m]! ≠ d[m - 1]! := by simpa [Lib.keeps] using hk
      rcases hk2 with h | h
      · omega
      · have h1 := hs i (m - 1) (by omega) (by omega)
        have h2 := hs (m - 1) m (by omega) (by omega)
        rw [e] at h1
        exact h (List.le_antisymm h1 h2)
    · cases hy
theorem words_pair (l : List ByteArray) : (wordsL l).Pairwise (fun a b => a ≤ b ∧ a ≠ b) := by
  unfold wordsL Lib.compact
  refine compactUp_pair _ (fun i j hij hj => ?_) _ (by simp)
  have hj' : j < (sortL (bytesS l)).length := by simpa using hj
  have hi' : i < (sortL (bytesS l)).length := by omega
  have e1 : (sortL (bytesS l)).toArray[i]! = (sortL (bytesS l))[i] := by simp [getElem!_pos, hi']
  have e2 : (sortL (bytesS l)).toArray[j]! = (sortL (bytesS l))[j] := by simp [getElem!_pos, hj']
  rw [e1, e2]
  rcases Nat.eq_or_lt_of_le hij with h | h
  · subst h; exact List.le_refl _
  · exact List.pairwise_iff_getElem.1 (sortL_pair _) i j hi' hj' h
theorem words_nodup (l : List ByteArray) : (wordsL l).Nodup := (words_pair l).imp fun h => h.2
/-- The places of a list's texts among its words. -/
def placeN (l : List ByteArray) (s : ByteArray) : Nat := (wordsL l).idxOf s.data.toList
theorem place_lt (l : List ByteArray) {s : ByteArray} (h : s ∈ l) : placeN l s < (wordsL l).length :=
  List.idxOf_lt_length_of_mem ((mem_words l _).2 (List.mem_map.2 ⟨s, h, rfl⟩))
theorem place_get (l : List ByteArray) {s : ByteArray} (h : s ∈ l) : (wordsL l).getD (placeN l s) [] = s.data.toList := by
  rw [getD_at (place_lt l h)]
  exact List.getElem_idxOf (place_lt l h)
theorem words_len (l : List ByteArray) : (wordsL l).length ≤ l.length := by
  refine Nat.le_trans (compact_len _) ?_
  unfold sortL bytesS
  simp
end Go.Proofs.YticfmphbhdkhoaaGreatDoor
namespace Go.Proofs.YticfmphbhdkhoaaGreatDoor
open Go Go.RowKit

def tStream : Ty (Int × List UInt8) := Ty.prod tI64 (tSl tU8)
theorem elemStream : ElemOf Tryz.prog 25 39 tStream.size := ElemOf.mk' (bytes := 32) (z := .agg #[.int .i64 0, .slice none 0 0]) (by kernel_rfl) (by kernel_rfl) rfl (by decide) (by decide)
/-- A column that is being built, in block g. -/
structure BuR (w0 : World) (g : Nat) (m enc tx : Int) (F : Nat → Prop) (A : Option Addr) (n c : Nat) (ss : List (Int × List UInt8)) (W : World) : Prop where
  hold : W.heap[g]? = some (.cells #[.int .i64 m, .int .i64 enc, .int .i64 tx, .slice A n c] 46 (0, 0))
  own : OwnF tStream 39 F W (g + 1) A n c ss
  below : Below g w0 W
set_option maxRecDepth 100000 in
set_option maxHeartbeats 1000000 in
theorem badd_any (w0 : World) (g : Nat) (m enc tx : Int) (F : Nat → Prop) (A : Option Addr) (n c : Nat) (ss : List (Int × List UInt8)) (w : World) (h : BuR w0 g m enc tx F A n c ss w) (hF : ¬ F g) (k : Int) (hk : -9223372036854775808 ≤ k ∧ k ≤ 9223372036854775807)
    (G : Nat → Prop) (Ab : Option Addr) (nb cb : Nat) (bs : List UInt8) (hb : Sl tU8 G w Ab nb cb bs) (hG : ¬ G g) (hGA : ∀ b, A = some ⟨b, 0, none⟩ → ¬ G b) (hn : n ≤ 1000) :
    Calls Tryz.prog 18 #[.pointer (some ⟨g, 0, none⟩), .int .i64 k, .slice Ab nb cb] w fun e w' => e = .returned (.tuple #[]) ∧ (∃ A' c', BuR w0 g m enc tx (fun b => (F b ∨ G b) ∧ b < w.heap.size) A' (n + 1) c' (ss ++ [(k, bs)]) w' ∧ (A'.map (·.block) = A.map (·.block) ∨ A'.map (·.block) = some (w.heap.size + 1))) ∧
      w.heap.size ≤ w'.heap.size ∧ (∀ b, b < w.heap.size → b ≠ g → A.map (·.block) ≠ some b → w'.heap[b]? = w.heap[b]?) := by
  have hgl : g < w.heap.size := (Array.getElem?_eq_some_iff.1 h.hold).1
  have HH := Lib.hid h.hold; have HO := Lib.hid h.own; have HBW := Lib.hid h.below; have HS := Lib.hid hb
  have c3 : w.cell? ⟨g, 3, none⟩ = some (.slice A n c) := by rw [Lib.cell_of_heap h.hold]; rfl
  have hA : ∀ b, A.map (·.block) = some b → g + 1 ≤ b := fun b e => (h.own.lies (b := b) (by rw [ownBlock_slice]; exact e)).2.1
  have HA := Lib.hid hA
  clear h hb hA
  go_enter Tryz.func18, Tryz.ntmps18
  go_wp2_with (first
    | (at_builtin; refine apl1 (T := tStream) elemStream w w rfl (.tmp 11) (.tmp 15) rfl (g + 1) A n c ss (by rfl) F G HO.out (Below.refl _ _) hgl _ (by rfl) [.int .i64 k, .slice Ab nb cb] (k, bs) ⟨[.int .i64 k], [.slice Ab nb cb], rfl, ⟨rfl, hk⟩, ⟨Ab, nb, cb, rfl, HS.out⟩⟩ 39 rfl (fun b h1 _ _ => hGA b h1) (by omega) ?_; intro A5 c5 w5 h5; have hg5 : w5.heap[g]? = some (.cells #[.int .i64 m, .int .i64 enc, .int .i64 tx, .slice A n c] 46 (0, 0)) := (h5.grown.block g (by simp; omega) (fun e => by have := HA.out g e.symm; omega)).trans ((Below.heap_alloc w _ g hgl).trans HH.out); have d3 : w5.cell? ⟨g, 3, none⟩ = some (.slice A n c) := (by rw [Lib.cell_of_heap hg5]; rfl); have f3 := Lib.frozen_of_heap hg5 3; have HG5 := Lib.hid hg5; clear hg5)
    | fail)
  go_end0
  have hsz5 := h5.grown.size
  rw [World.size_alloc] at hsz5
  refine ⟨rfl, ⟨A5, c5, ⟨heap_set HG5.out rfl, ?_, ?_⟩, (by have h6 := h5.lies; rw [World.size_alloc] at h6; exact h6)⟩, by simp; omega, fun b hb1 hb2 hb3 => ?_⟩
  · refine h5.own.setCell (p := ⟨g, 3, none⟩) (fun hx => ?_) (fun e => ?_) _
    · rcases hx.1 with hx | hx
      · exact hF hx
      · exact hG hx
    · have := (h5.own.lies (b := g) (by rw [ownBlock_slice, e]; rfl)).2.1
      omega
  · exact bsetc (((HBW.out.alloc (Nat.le_of_lt hgl) _).grown h5.grown (by simp; omega) (fun b e => by have := HA.out b e; omega))) (Nat.le_refl _) _
  · exact (Below.heap_setCell _ _ _ _ hb2).trans ((h5.grown.block b (by simp; omega) (fun e => hb3 e.symm)).trans (Below.heap_alloc w _ b hb1))
end Go.Proofs.YticfmphbhdkhoaaGreatDoor
namespace Go.Proofs.YticfmphbhdkhoaaGreatDoor
open Go Go.RowKit

def joinL (l : List ByteArray) : List UInt8 := (bytesS l).flatten
theorem join_nil : ∀ l : List (List UInt8), Lib.join l [] = l.flatten
  | [] => rfl
  | [x] => by simp [Lib.join]
  | x :: y :: r => by
    have ih := join_nil (y :: r)
    have e : List.intersperse ([] : List UInt8) (x :: y :: r) = x :: [] :: List.intersperse [] (y :: r) := rfl
    unfold Lib.join List.intercalate at ih ⊢
    rw [e, List.flatten_cons, List.flatten_cons, ih, List.nil_append]
    rfl
theorem joinL_len : ∀ l : List ByteArray, (∀ s ∈ l, s.size ≤ 300) → (joinL l).length ≤ 300 * l.length
  | [], _ => by simp [joinL, bytesS]
  | x :: r, h => by
    have ih := joinL_len r (fun s hs => h s (List.mem_cons_of_mem _ hs))
    have hx := h x (List.mem_cons_self ..)
    have e : (joinL (x :: r)).length = x.data.toList.length + (joinL r).length := by simp [joinL, bytesS]
    have e2 : x.data.toList.length = x.size := by rw [Array.length_toList]; rfl
    rw [e, List.length_cons]
    omega
theorem join_any (F : Nat → Prop) (A : Option Addr) (n c : Nat) (l : List ByteArray) (w : World) (h : Sl tStr F w A n c l) (hn : n ≤ 4096) (hs : ∀ s ∈ l, s.size ≤ 300) :
    Calls Tryz.prog 41 #[.slice A n c, .string ⟨#[]⟩] w fun e w' => e = .returned (.string (mkS (joinL l))) ∧ Below w.heap.size w w' := by
  have hl := h.len
  cases A with
  | none =>
    have hl0 : l = [] := by
      cases l with
      | nil => rfl
      | cons x r => obtain ⟨b, o, _, e, _⟩ := h.at1 (k := 0) (by simp) rfl; cases e
    subst hl0
    obtain rfl : n = 0 := hl
    refine (Tryz.strings_Join_none none c ⟨#[]⟩ w).mono ?_
    rintro e w' ⟨he, hw⟩
    exact ⟨by rw [he]; rfl, by first | exact hw | (rw [hw]; exact Below.refl _ _)⟩
  | some a =>
    by_cases hl0 : l = []
    · subst hl0
      obtain rfl : n = 0 := hl
      refine (Tryz.strings_Join_none (some a) c ⟨#[]⟩ w).mono ?_
      rintro e w' ⟨he, hw⟩
      exact ⟨by rw [he]; rfl, by first | exact hw | (rw [hw]; exact Below.refl _ _)⟩
    · have hlp : 0 < l.length := List.length_pos_iff.2 hl0
      obtain ⟨b, o, u0, e0, _, hbl, _, _⟩ := h.at1 (k := 0) hlp rfl
      injection e0 with e0
      subst e0
      have hcells : ∀ (j : Nat) x, l[j]? = some x → w.cell? ⟨b, o + j, none⟩ = some (.string x) := fun j x hx => by
        obtain ⟨hj, rfl⟩ := List.getElem?_eq_some_iff.1 hx
        obtain ⟨b2, o2, u, e2, _, _, hr, hc⟩ := h.at1 hj rfl
        injection e2 with e2; injection e2 with e3 e4 _; subst e3; subst e4
        obtain ⟨hr, _⟩ := hr
        injection hr with hr; subst hr
        exact hc
      have hJ := Tryz.strings_Join b o c l ⟨#[]⟩ w hcells hbl (by omega) (by have := h.2.1; omega) (by
        show (Lib.join (bytesS l) []).length ≤ _
        rw [join_nil]
        have := joinL_len l hs
        unfold joinL at this
        omega)
      rw [← hl] at hJ
      refine hJ.mono ?_
      rintro e w' ⟨he, hw⟩
      refine ⟨?_, hw⟩
      rw [he]
      show Ending.returned (.string ⟨(Lib.join (bytesS l) []).toArray⟩) = _
      rw [join_nil]
      rfl
end Go.Proofs.YticfmphbhdkhoaaGreatDoor
