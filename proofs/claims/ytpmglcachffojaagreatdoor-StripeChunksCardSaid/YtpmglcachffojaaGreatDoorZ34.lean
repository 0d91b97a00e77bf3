/- A part of what Chunks leans on. -/
import Derived.Test.YtpmglcachffojaaGreatDoorZ31
import Derived.Test.YtpmglcachffojaaGreatDoorZ32
set_option maxRecDepth 100000
set_option maxHeartbeats 16000000
namespace Go.Proofs.YtpmglcachffojaaGreatDoor
section
open Go Go.RowKit
structure RoR (w0 : World) (gs : Nat) (c : Int) (hn : Bool) (mn mx : VV) (v : VV) (w : World) : Prop where
 s : w.heap[gs]? = some (.cells #[.int .i64 c, .bool hn, .bool mn.null, .int .i64 mn.n, .string mn.s, .bool mx.null, .int .i64 mx.n, .string mx.s, .int .i64 0, .bool false] 109 (0, 0))
 b : w.heap[w0.heap.size]? = some (.cells #[.bool v.null, .int .i64 v.n, .string v.s] 74 (0, 0))
 size : w0.heap.size + 1 ≤ w.heap.size
 keep : ∀ b, b < w0.heap.size → b ≠ gs → w.heap[b]? = w0.heap[b]?
 below : ∀ (a : World) (B : Nat), Below B a w0 → B ≤ gs → Below B a w
 lts : gs < w0.heap.size
section
variable {w0 w w' : World} {gs : Nat} {c : Int} {hn : Bool} {mn mx : VV} {v : VV}
theorem RoR.call (h : RoR w0 gs c hn mn mx v w) (hb : Below w.heap.size w w') : RoR w0 gs c hn mn mx v w' :=
 ⟨(hb.block _ (zzb h.s)).trans h.s, (hb.block _ (zzb h.b)).trans h.b, Nat.le_trans h.size hb.size, fun b h1 h2 => (hb.block b (by have := h.size; omega)).trans (h.keep b h1 h2), fun a B h1 h2 => (h.below a B h1 h2).trans (hb.mono (by have := h.lts; have := h.size; omega)), h.lts⟩
theorem RoR.init (h : w.heap[gs]? = some (.cells #[.int .i64 c, .bool hn, .bool mn.null, .int .i64 mn.n, .string mn.s, .bool mx.null, .int .i64 mx.n, .string mx.s, .int .i64 0, .bool false] 109 (0, 0))) : RoR w gs c hn mn mx v (w.alloc (.cells #[.bool v.null, .int .i64 v.n, .string v.s] 74)) :=
 ⟨(Below.heap_alloc w _ _ (zzb h)).trans h, heap_alloc_new w _, by simp, fun b h1 _ => Below.heap_alloc w _ b h1, fun a B h1 h2 => h1.alloc (Nat.le_trans h2 (Nat.le_of_lt (zzb h))) _, zzb h⟩
theorem RoR.count (h : RoR w0 gs c hn mn mx v w) : RoR w0 gs (c + 1) hn mn mx v (w.setCell ⟨gs, 0, none⟩ (.int .i64 (c + 1))) := by
 have hgv : w0.heap.size ≠ gs := by have := h.lts; omega
 exact ⟨(zza (cs' := #[.int .i64 (c + 1), .bool hn, .bool mn.null, .int .i64 mn.n, .string mn.s, .bool mx.null, .int .i64 mx.n, .string mx.s, .int .i64 0, .bool false]) h.s rfl), ((Below.heap_setCell _ _ _ _ hgv).trans h.b), by simpa using h.size, fun b h1 h2 => ((Below.heap_setCell _ _ _ _ h2).trans (h.keep b h1 h2)), fun a B h1 h2 => (zzd (h.below a B h1 h2) h2 _), h.lts⟩
end
end
section
open Go Go.RowKit
structure RuC (w0 : World) (g : Nat) (m enc tx : Int) (F : Nat → Prop) (A : Option Addr) (n c : Nat) (ss : List (Int × List UInt8)) (W : World) : Prop where
 hold : W.heap[g]? = some (.cells #[.int .i64 m, .int .i64 enc, .int .i64 tx, .slice A n c] 27 (0, 0))
 own : OwnF zzm 55 F W w0.heap.size A n c ss
 below : Below w0.heap.size w0 W
 ng : ¬ F g
 na : A ≠ some ⟨g, 0, none⟩
 lo : w0.heap.size ≤ g
theorem RuC.keep {w0 w w' : World} {g : Nat} {m enc tx : Int} {F : Nat → Prop} {A : Option Addr} {n c : Nat} {ss : List (Int × List UInt8)} (h : RuC w0 g m enc tx F A n c ss w) (hb : Below w.heap.size w w') : RuC w0 g m enc tx F A n c ss w' :=
 ⟨(hb.block _ (zzb h.hold)).trans h.hold, h.own.keepB hb, h.below.trans (hb.mono h.below.size), h.ng, h.na, h.lo⟩
theorem RuC.new {w0 w : World} {m : Int} {F : Nat → Prop} {A1 : Option Addr} {n1 c1 : Nat} {bs : List UInt8} (hs : Sl tU8 F w A1 n1 c1 bs) (hb : Below w0.heap.size w0 w) :
 RuC w0 (w.heap.size + 1) m 1 0 (fun b => F b ∧ b < w.heap.size) (some ⟨w.heap.size, 0, none⟩) 1 1 [(1, bs)] ((w.alloc (.cells #[.int .i64 1, .slice A1 n1 c1] 55)).alloc (.cells #[.int .i64 m, .int .i64 1, .int .i64 0, .slice (some ⟨w.heap.size, 0, none⟩) 1 1] 27)) := by
 have h1 := OwnF.newL (T := zzm) (e := 55) (B := w0.heap.size) (n := 1) (Reps.mk1 (T := zzm) (x1 := ((1 : Int), bs)) (F := F) (w := w) ⟨[.int .i64 1], _, rfl, ⟨rfl, xx4 1 (by omega)⟩, A1, n1, c1, rfl, hs⟩) hb.size rfl (by omega) (.cells #[.int .i64 1, .slice A1 n1 c1] 55) rfl
 have hg := heap_alloc_new (w.alloc (.cells #[.int .i64 1, .slice A1 n1 c1] 55)) (.cells #[.int .i64 m, .int .i64 1, .int .i64 0, .slice (some ⟨w.heap.size, 0, none⟩) 1 1] 27)
 rw [zS] at hg
 refine ⟨hg, h1.alloc _, (hb.alloc hb.size _).alloc (by have := hb.size; rw [zS]; omega) _, fun h => by omega, fun e => ?_, by have := hb.size; omega⟩
 injection e with e; injection e with e; omega
theorem RuC.alloc {w0 w : World} {g : Nat} {m enc tx : Int} {F : Nat → Prop} {A : Option Addr} {n c : Nat} {ss : List (Int × List UInt8)} (h : RuC w0 g m enc tx F A n c ss w) (o : Obj) : RuC w0 g m enc tx F A n c ss (w.alloc o) :=
 h.keep ((zR).alloc zN _)
theorem RuC.set1 {w0 w : World} {g : Nat} {m enc tx enc' : Int} {F : Nat → Prop} {A : Option Addr} {n c : Nat} {ss : List (Int × List UInt8)} (h : RuC w0 g m enc tx F A n c ss w) : RuC w0 g m enc' tx F A n c ss (w.setCell ⟨g, 1, none⟩ (.int .i64 enc')) :=
 ⟨zza h.hold rfl, h.own.setCell (p := ⟨g, 1, none⟩) h.ng h.na _, zzd h.below h.lo _, h.ng, h.na, h.lo⟩
theorem RuC.set2 {w0 w : World} {g : Nat} {m enc tx tx' : Int} {F : Nat → Prop} {A : Option Addr} {n c : Nat} {ss : List (Int × List UInt8)} (h : RuC w0 g m enc tx F A n c ss w) : RuC w0 g m enc tx' F A n c ss (w.setCell ⟨g, 2, none⟩ (.int .i64 tx')) :=
 ⟨zza h.hold rfl, h.own.setCell (p := ⟨g, 2, none⟩) h.ng h.na _, zzd h.below h.lo _, h.ng, h.na, h.lo⟩
end
end Go.Proofs.YtpmglcachffojaaGreatDoor
