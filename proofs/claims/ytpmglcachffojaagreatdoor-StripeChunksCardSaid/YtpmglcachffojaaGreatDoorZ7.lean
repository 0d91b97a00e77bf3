/- A part of what Chunks leans on. -/
import Derived.Test.YtpmglcachffojaaGreatDoorZ3
import Derived.Test.YtpmglcachffojaaGreatDoorZ5
set_option maxRecDepth 100000
set_option maxHeartbeats 16000000
namespace Go.Proofs.YtpmglcachffojaaGreatDoor
section
open Go Go.RowKit
theorem zzn {w : World} {g : Nat} {a b d e : Value} {t : TypeId} (h : w.heap[g]? = some (.cells #[a, b, d, e] t (0, 0))) :
 (w.cell? ⟨g, 0, none⟩ = some a ∧ w.frozen? ⟨g, 0, none⟩ = false) ∧ (w.cell? ⟨g, 1, none⟩ = some b ∧ w.frozen? ⟨g, 1, none⟩ = false) ∧ (w.cell? ⟨g, 2, none⟩ = some d ∧ w.frozen? ⟨g, 2, none⟩ = false) ∧ (w.cell? ⟨g, 3, none⟩ = some e ∧ w.frozen? ⟨g, 3, none⟩ = false) :=
 ⟨⟨by rw [zC h]; rfl, zF h 0⟩, ⟨by rw [zC h]; rfl, zF h 1⟩, ⟨by rw [zC h]; rfl, zF h 2⟩, ⟨by rw [zC h]; rfl, zF h 3⟩⟩
theorem jjw {w : World} {g : Nat} {a b d e : Value} {t : TypeId} (h : w.heap[g]? = some (.cells #[a, b, d, e] t (0, 0))) (a' b' d' e' : Value) :
 ((((w.setCell ⟨g, 0, none⟩ a').setCell ⟨g, 1, none⟩ b').setCell ⟨g, 2, none⟩ d').setCell ⟨g, 3, none⟩ e').heap[g]? = some (.cells #[a', b', d', e'] t (0, 0)) :=
 zza (zza (zza (zza h rfl) rfl) rfl) rfl
theorem xxx {w : World} {g b : Nat} (h : b ≠ g) (a' b' d' e' : Value) :
 ((((w.setCell ⟨g, 0, none⟩ a').setCell ⟨g, 1, none⟩ b').setCell ⟨g, 2, none⟩ d').setCell ⟨g, 3, none⟩ e').heap[b]? = w.heap[b]? :=
 (Below.heap_setCell _ _ _ _ h).trans ((Below.heap_setCell _ _ _ _ h).trans ((Below.heap_setCell _ _ _ _ h).trans (Below.heap_setCell _ _ _ _ h)))
theorem zz2 {w0 w : World} {B g : Nat} (hb : Below B w0 w) (hg : B ≤ g) (a' b' d' e' : Value) :
 Below B w0 ((((w.setCell ⟨g, 0, none⟩ a').setCell ⟨g, 1, none⟩ b').setCell ⟨g, 2, none⟩ d').setCell ⟨g, 3, none⟩ e') :=
 zzd (zzd (zzd (zzd hb hg _) hg _) hg _) hg _
theorem zzi {w : World} {b : Nat} {o : Obj} (h : w.heap[b]? = some o) (x : Obj) : (w.alloc x).heap[b]? = some o := (Below.heap_alloc w x b (zzb h)).trans h
theorem zzQ {w : World} {b : Nat} (h : b = w.heap.size) (x : Obj) : (w.alloc x).heap[b]? = some x := by rw [h]; exact heap_alloc_new w x
theorem uuR {w : World} {g : Nat} {v : Value} (h : w.cell? ⟨g, 0, none⟩ = some v) : (loadVar 28 ⟨g, 0, none⟩).run Tryz.prog w = .ok v w := by
 simp [go_sem, h]
theorem xxy {α : Type} (m : Nat) (f : Nat → α) : (List.finRange m).map (fun x => f x.val) = (List.range m).map f := by
 apply List.ext_getElem
 · simp
 · intro i h1 h2; simp
end
section
open Go Go.RowKit
theorem kq1 {k : Nat} : zzo (k : Int) = ((zzt k : Nat) : Int) := by
 unfold zzt
 have := xxl (k : Int)
 omega
end
end Go.Proofs.YtpmglcachffojaaGreatDoor
