/- strings.Split at "_", strconv.Atoi, strings.Cut at "/bucket_", in my words. -/
import Derived.Test.YtollmolchcnpeaaGreatDoorNShown
import Derived.Test.YtollmolchcnpeaaGreatDoorNFile
namespace Go.Proofs.YtollmolchcnpeaaGreatDoor
open Go Go.RowKit

theorem splitK_len (sep : List UInt8) : ∀ (k : Nat) (s p : List UInt8), p ∈ Lib.splitK sep 0 k s → p.length ≤ s.length
  | 0, s, p, h => by
    rw [Lib.splitK, List.mem_singleton] at h
    rw [h]; exact Nat.le_refl _
  | k + 1, s, p, h => by
    unfold Lib.splitK at h
    split at h
    · rw [List.mem_singleton] at h
      rw [h]; exact Nat.le_refl _
    · rcases List.mem_cons.1 h with rfl | h
      · simp only [List.length_take]; omega
      · have := splitK_len sep k _ p h
        simp only [List.length_drop] at this
        omega
theorem pieces_len {s p : List UInt8} (h : p ∈ pieces s) : p.length ≤ s.length := splitK_len _ _ _ _ h
theorem split_p (s : List UInt8) (hs : s.length < 4294967281) (mx : Int) (w : World) (hm : w.cell? ⟨2, 0, none⟩ = some (.int .i64 mx)) (ps : List (List UInt8)) (hp : pieces s = ps) (n : Nat) (hn : n = ps.length) (B : Nat) (hB : B = w.heap.size) :
    Calls Tryz.prog 11 #[.string ⟨s.toArray⟩, .string ⟨#[95]⟩] w fun e w' => e = .returned (.slice (some ⟨B, 0, none⟩) n n) ∧ w'.heap[B]? = some (.cells (ps.map fun p => Value.string ⟨p.toArray⟩).toArray 9 (0, 0)) ∧ Below w.heap.size w w' ∧ w'.heap.size = B + 1 := by
  have h1 : 1 ≤ (⟨#[95]⟩ : ByteArray).size := by decide
  refine (Tryz.strings_Split ⟨s.toArray⟩ ⟨#[95]⟩ mx w (by show s.toArray.size < _; rw [List.size_toArray]; exact hs) hm h1).mono fun e w' ⟨he, hw⟩ => ?_
  have hd := Lib.splitB_data ⟨#[95]⟩ 0 (Lib.countB ⟨s.toArray⟩ ⟨#[95]⟩) ⟨s.toArray⟩
  have hd2 : (Lib.splitB ⟨#[95]⟩ 0 (Lib.countB ⟨s.toArray⟩ ⟨#[95]⟩) ⟨s.toArray⟩).map (·.data.toList) = ps := hd.trans hp
  have hl := Lib.splitB_all ⟨#[95]⟩ h1 0 (Lib.countB ⟨s.toArray⟩ ⟨#[95]⟩) ⟨s.toArray⟩ rfl
  have hl2 : n = Lib.countB ⟨s.toArray⟩ ⟨#[95]⟩ + 1 := by rw [hn, ← hd2, List.length_map, hl]
  have hw2 : w' = w.alloc (.cells (ps.map fun p => Value.string ⟨p.toArray⟩).toArray 9) := by
    rw [hw, ← hd2, List.map_map]
    congr 3
  subst hB
  exact ⟨by rw [he, hl2], by rw [hw2]; exact heap_alloc_new _ _, by rw [hw2]; exact (Below.refl _ _).alloc (Nat.le_refl _) _, by rw [hw2]; simp⟩
theorem atoi_p (p : List UInt8) (v : Int) (h : Lib.atoiAll p = .ok v) (hl : p.length ≤ 9223372036854775806) (w : World) :
    Calls Tryz.prog 12 #[.string ⟨p.toArray⟩] w fun e w' => e = .returned (.tuple #[.int .i64 v, .nilIface]) ∧ Below w.heap.size w w' :=
  (Tryz.strconv_Atoi_ok ⟨p.toArray⟩ (by show p.toArray.size ≤ _; rw [List.size_toArray]; exact hl) v h w).mono fun e w' ⟨he, hw⟩ => ⟨he, by
    rcases hw with rfl | ⟨t, rfl⟩
    · exact Below.refl _ _
    · exact Lib.bytesWorld_below _ _ _⟩
theorem cut_p (s : List UInt8) (hs : s.length < 4294967281) (mx : Int) (w : World) (hm : w.cell? ⟨2, 0, none⟩ = some (.int .i64 mx)) (a b : List UInt8) (ok : Bool) (hc : Lib.cut s buck = (a, b, ok)) :
    Calls Tryz.prog 16 #[.string ⟨s.toArray⟩, .string ⟨#[47, 98, 117, 99, 107, 101, 116, 95]⟩] w fun e w' => e = .returned (.tuple #[.string ⟨a.toArray⟩, .string ⟨b.toArray⟩, .bool ok]) ∧ Below w.heap.size w w' := by
  refine (Tryz.strings_Cut ⟨s.toArray⟩ ⟨#[47, 98, 117, 99, 107, 101, 116, 95]⟩ mx w (by show s.toArray.size < _; rw [List.size_toArray]; exact hs) hm).mono fun e w' ⟨he, n, hw⟩ => ?_
  have h2 : Lib.cut (⟨s.toArray⟩ : ByteArray).data.toList (⟨#[47, 98, 117, 99, 107, 101, 116, 95]⟩ : ByteArray).data.toList = (a, b, ok) := hc
  rw [h2] at he
  exact ⟨he, by rw [hw]; exact bdrewN (Below.refl _ _) _⟩
/-- What the pieces behind the first are, as numbers. -/
theorem nums_get {ps : List (List UInt8)} {ns : List Int} (h : Nums ps ns) {t : Nat} (ht : t < ps.length) : ∃ v, Lib.atoiAll ps[t] = .ok v ∧ i64 v ∧ ns.take (t + 1) = ns.take t ++ [v] := by
  have hl : ps.length = ns.length := by
    have := congrArg List.length h
    simpa using this
  have ht2 : t < ns.length := by omega
  have e : (ps.map Lib.atoiAll)[t]? = (ns.map Lib.NumEnd.ok)[t]? := by unfold Nums at h; rw [h]
  rw [List.getElem?_map, List.getElem?_map, List.getElem?_eq_getElem ht, List.getElem?_eq_getElem ht2] at e
  replace e : Lib.atoiAll ps[t] = .ok ns[t] := by simpa using e
  exact ⟨ns[t], e, Lib.atoiAll_bounds e, List.take_succ_eq_append_getElem ht2⟩
end Go.Proofs.YtollmolchcnpeaaGreatDoor
