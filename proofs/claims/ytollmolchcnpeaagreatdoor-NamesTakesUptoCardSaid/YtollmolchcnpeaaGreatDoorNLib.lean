/- Directories as a type's word; Itoa and Join by the shelf, over the seat of the names. -/
import Derived.Test.YtollmolchcnpeaaGreatDoorBase
import Derived.Test.YtollmolchcnpeaaGreatDoorShelf
import Derived.Test.YtollmolchcnpeaaGreatDoorNP
import Derived.Lib.ItoaLen
import Derived.Lib.AppendIntMem
import Derived.Lib.Join
namespace Go.Proofs.YtollmolchcnpeaaGreatDoor
open Go Go.RowKit

def i64 (x : Int) : Prop := -9223372036854775808 ≤ x ∧ x ≤ 9223372036854775807
def DD.ok (d : DD) : Prop := i64 d.kind ∧ i64 d.lo ∧ i64 d.hi
def tDD : Ty DD where
  size := 3
  rep _ _ cs d := cs = [.int .i64 d.kind, .int .i64 d.lo, .int .i64 d.hi] ∧ d.ok
  len h := by rw [h.1]; rfl
  one h := by rw [h.1]; intro u hu; simp at hu; rcases hu with rfl | rfl | rfl <;> rfl
  keep h _ _ := h
  weaken h _ := h
theorem flatDD : tDD.Flat := fun h => h
theorem elemDD : ElemOf Tryz.prog 30 24 tDD.size := ElemOf.mk' (bytes := 24) (z := .agg #[.int .i64 0, .int .i64 0, .int .i64 0]) (by kernel_rfl) (by kernel_rfl) rfl (by decide) (by decide)
theorem may_ok {d : DD} (h : may d = true) : d.ok := by
  have := (may_iff d).1 h
  unfold DD.ok i64; omega

/-- The table of powers of ten, which Itoa reads. -/
def Tab (w : World) : Prop := Lib.TabIs Tryz.prog w "internal/strconv.uint64pow10" .u64 Lib.pow10Tab
theorem Tab.below {w w' : World} (h : Tab w) (hb : Below w.heap.size w w') : Tab w' := by
  unfold Tab Lib.TabIs World.var? at *
  cases hg : Tryz.prog.globalNamed "internal/strconv.uint64pow10" with
  | none => simp [hg] at h
  | some g =>
    simp only [hg, Option.bind_some] at h ⊢
    have hlt : g < w.heap.size := by
      rcases Nat.lt_or_ge g w.heap.size with h' | h'
      · exact h'
      · rw [Array.getElem?_eq_none h'] at h; simp at h
    rw [hb.block g hlt]
    exact h
theorem itoa_any (n : Int) (h0 : -9223372036854775808 ≤ n) (h1 : n ≤ 9223372036854775807) (w : World) (ht : Tab w) :
    Calls Tryz.prog 35 #[.int .i64 n] w fun e w' => e = .returned (.string ⟨(Lib.itoa n).toArray⟩) ∧ Below w.heap.size w w' :=
  (Tryz.strconv_Itoa n h0 h1 w ht).mono fun e w' ⟨he, k, os, hw⟩ => ⟨he, by rw [hw]; exact Lib.below_grow _ w (Nat.le_refl _) k os⟩

def strs (l : List (List UInt8)) : List ByteArray := l.map fun x => ⟨x.toArray⟩
theorem strs_data (l : List (List UInt8)) : (strs l).map (·.data.toList) = l := by
  unfold strs
  rw [List.map_map]
  exact List.map_id l
theorem elemInt : ElemOf Tryz.prog 35 3 tI64.size := ElemOf.mk' (bytes := 8) (z := .int .i64 0) (by kernel_rfl) (by kernel_rfl) rfl (by decide) (by decide)
theorem elemStr : ElemOf Tryz.prog 33 9 tStr.size := ElemOf.mk' (bytes := 16) (z := .string ⟨#[]⟩) (by kernel_rfl) (by kernel_rfl) rfl (by decide) (by decide)

/-- strings.Join of whatever slice. -/
theorem join_any (F : Nat → Prop) (A : Option Addr) (n c : Nat) (l : List (List UInt8)) (sep : ByteArray) (w : World) (h : Sl tStr F w A n c (strs l)) (hlen : (Lib.join l sep.data.toList).length ≤ 140737488355328) (hn : n ≤ 140737488355328) :
    Calls Tryz.prog 28 #[.slice A n c, .string sep] w fun e w' => e = .returned (.string ⟨(Lib.join l sep.data.toList).toArray⟩) ∧ Below w.heap.size w w' := by
  have hl := h.len
  have hll : (strs l).length = l.length := by simp [strs]
  cases l with
  | nil =>
    obtain rfl : n = 0 := by simpa [strs] using hl
    exact (Tryz.strings_Join_none A c sep w).mono fun e w' ⟨he, hw⟩ => ⟨he, by subst hw; exact Below.refl _ _⟩
  | cons x r =>
    obtain ⟨b, o, u, rfl, _, hbl, _⟩ := h.at1 (k := 0) (by simp [strs]) rfl
    rw [hl]
    refine (Tryz.strings_Join b o c (strs (x :: r)) sep w (fun j y hy => ?_) hbl (by rw [← hl]; exact hn) (by rw [← hl]; exact h.2.1) (by rw [strs_data]; exact hlen)).mono fun e w' ⟨he, hw⟩ => ⟨by rw [he, strs_data], hw⟩
    have hj : j < (strs (x :: r)).length := by
      rcases Nat.lt_or_ge j (strs (x :: r)).length with h' | h'
      · exact h'
      · rw [List.getElem?_eq_none h'] at hy; cases hy
    obtain ⟨b', o', u', e', _, _, hr, hc⟩ := h.at1 hj rfl
    injection e' with e'; injection e' with e1 e2; subst e1 e2
    rw [hc]
    have := hr.1
    injection this with this
    rw [this]
    rw [List.getElem?_eq_getElem hj] at hy
    injection hy with hy
    rw [hy]
theorem itoa_p (n : Int) (hn : i64 n) (p : List UInt8) (hp : p = Lib.itoa n) (w : World) (ht : Tab w) :
    Calls Tryz.prog 35 #[.int .i64 n] w fun e w' => e = .returned (.string ⟨p.toArray⟩) ∧ Below w.heap.size w w' := by subst hp; exact itoa_any n hn.1 hn.2 w ht
end Go.Proofs.YtollmolchcnpeaaGreatDoor
