/- A part of what Chunks leans on. -/
import Derived.Test.YtpmglcachffojaaGreatDoorZ32
import Derived.OpenShut
import Derived.ProofKit
import Derived.Deep.Slices
import Derived.Carry
import Derived.Deep.DeepHandedRow
import Derived.Lib.LaidU8T
import Derived.Lib.LaidIn
import Derived.Deep.DeepWitnessRowRef
set_option maxRecDepth 100000
set_option maxHeartbeats 16000000
namespace Go.Proofs.YtpmglcachffojaaGreatDoor
section
open Go Go.RowKit Go.ChangeShapes Go.WideShapes Go.ChangeAt Go.Deep
def RdT {α : Type} (T : Ty α) (t : TypeId) (m : α → Nat) : Prop :=
 ∀ (H : Type) (enc : TypeId × Value → H) (W : World) (fuel : Nat) (cs : List Value) (d : DataW H) (p : List MemPlace), DataW.trod enc Tryz.prog W 0 (fun _ => true) true fuel t cs = some (d, p) →
  ∃ x, T.rep (fun _ => True) W cs x ∧ m x ≤ 250 * Rows.uptoBulk d
def msum {α : Type} (m : α → Nat) : List α → Nat
 | [] => 0
 | x :: r => m x + msum m r
theorem bulk_app {H : Type} (l r : List (DataW H)) : Rows.uptoBulkAll (l ++ r) = Rows.uptoBulkAll l + Rows.uptoBulkAll r := by
 induction l with
 | nil => simp [Rows.uptoBulkAll]
 | cons x l ih => simp only [List.cons_append, Rows.uptoBulkAll, ih]; omega
theorem jje {α H : Type} (m : α → Nat) (f : Nat → α) (D : Nat → DataW H) : ∀ n, (∀ i, i < n → m (f i) ≤ 250 * Rows.uptoBulk (D i)) → msum m ((List.range n).map f) ≤ 250 * Rows.uptoBulkAll ((List.range n).map D)
 | 0, _ => by simp [msum, Rows.uptoBulkAll]
 | n + 1, h => by
   have ih := jje m f D n (fun i hi => h i (by omega))
   have hn := h n (by omega)
   have e : ∀ (l : List α) (x : α), msum m (l ++ [x]) = msum m l + m x := by
    intro l x
    induction l with
    | nil => simp [msum]
    | cons y r ih => simp only [List.cons_append, msum, ih]; omega
   rw [List.range_succ, List.map_append, List.map_append, List.map_singleton, List.map_singleton, e, bulk_app]
   simp only [Rows.uptoBulkAll]
   omega
theorem qz6 {α : Type} [Inhabited α] {T : Ty α} {e t : TypeId} {m : α → Nat} (ht : Tryz.prog.underlying t = some (.slice e)) (hc : Tryz.prog.cellsOf e = T.size) (h : RdT T e m) : RdT (tSl T) t (fun xs => msum m xs + 250) := by
 intro H enc W fuel cs d p hd
 rcases open_slice ht hd with ⟨rfl, hx⟩ | ⟨a, len, cap, mm, n, D, Pl, rfl, hb, hl, hm, hmm, hx, hi⟩
 · injection hx with hx _; subst hx
   exact ⟨[], ⟨none, 0, 0, rfl, Sl.nil_ _ _ _⟩, by simp [msum, Rows.uptoBulk]⟩
 · injection hx with hx _; subst hx
   have hmc : mm = cap := by simpa using hmm
   rw [hc] at hi
   obtain ⟨f, hf⟩ := choose_lt (α := List Value × α) (n := len) (p := fun i y => W.cells? 0 (a.add (i * T.size)) T.size = some y.1 ∧ T.rep (fun _ => True) W y.1 y.2 ∧ m y.2 ≤ 250 * Rows.uptoBulk (D i)) (fun i hil => by
    obtain ⟨cs', h1, h2⟩ := hi i (by omega)
    obtain ⟨x, h3, h4⟩ := h H enc W n cs' _ _ h2
    exact ⟨(cs', x), h1, h3, h4⟩)
   refine ⟨(List.range len).map fun i => (f i).2, ⟨some a, len, cap, rfl, by simp, hl, hm, (List.range len).map fun i => (f i).1, ?_, ?_⟩, ?_⟩
   · have key : ∀ k, k ≤ len → Rd (fun _ => True) W (some a) ((List.range k).map fun i => (f i).1).flatten ∧ (((List.range k).map fun i => (f i).1).flatten).length = k * T.size ∧ ∀ j u, (((List.range k).map fun i => (f i).1).flatten)[j]? = some u → W.cell? (a.add j) = some u := by
      intro k
      induction k with
      | zero => intro _; exact ⟨fun h => absurd rfl h, by simp, by simp⟩
      | succ k ih =>
        intro hk
        obtain ⟨_, i2, i3⟩ := ih (by omega)
        obtain ⟨c1, _, _⟩ := hf k (by omega)
        obtain ⟨_, c2, c3⟩ := World.cells?_some c1
        have e1 : ((List.range (k + 1)).map fun i => (f i).1).flatten = ((List.range k).map fun i => (f i).1).flatten ++ (f k).1 := by
         rw [List.range_succ]; simp
        have hl2 : (((List.range (k + 1)).map fun i => (f i).1).flatten).length = (k + 1) * T.size := by
         rw [e1, List.length_append, i2, c2, Nat.succ_mul]
        have hcl : ∀ j u, (((List.range (k + 1)).map fun i => (f i).1).flatten)[j]? = some u → W.cell? (a.add j) = some u := by
         intro j u hju
         rw [e1] at hju
         rcases Nat.lt_or_ge j (k * T.size) with hj | hj
         · rw [List.getElem?_append_left (by rw [i2]; exact hj)] at hju
           exact i3 j u hju
         · rw [List.getElem?_append_right (by rw [i2]; exact hj), i2] at hju
           have hj2 : j - k * T.size < T.size := by
            exact Nat.lt_of_lt_of_le (List.getElem?_eq_some_iff.1 hju).1 (Nat.le_of_eq c2)
           have := c3 _ hj2
           rw [hju, add_add, show k * T.size + (j - k * T.size) = j by omega] at this
           exact this
        refine ⟨fun hne => ?_, hl2, hcl⟩
        obtain ⟨b, o, sp⟩ := a
        have h0 := hcl 0 _ (List.getElem?_eq_getElem (List.length_pos_iff.2 hne))
        have hsp : sp = none := by simpa [Addr.add] using World.cell?_spot h0
        subst hsp
        refine ⟨b, o, rfl, trivial, World.block_lt_of_cell? W _ h0, fun j u hju => ?_⟩
        have := hcl j u hju
        unfold Addr.add at this
        split at this
        · rename_i hj0; subst hj0; exact this
        · exact this
     exact (key len zN).1
   · refine ⟨by simp, fun i cs x h1 h2 => ?_⟩
     have hil : i < len := by
      have := (List.getElem?_eq_some_iff.1 h1).1
      simpa using this
     simp [hil] at h1 h2
     subst h1 h2
     exact (hf i hil).2.1
   · have := jje m (fun i => (f i).2) D len (fun i hil => (hf i hil).2.2)
     simp only [Rows.uptoBulk]
     omega
instance : Inhabited VV := ⟨⟨false, 0, ⟨#[]⟩⟩⟩
theorem i64_wf {n : Int} (h : (Lit.int .i64 n).wf = true) : i64 n := by
 have : -9223372036854775808 ≤ n ∧ n ≤ 9223372036854775807 := by simpa [Lit.wf, IntKind.min, IntKind.max, IntKind.signed, IntKind.bits] using h
 exact this
theorem own : ownKnob Tryz.prog.godebug = none := by kernel_rfl
theorem qzh : laidOutB Tryz.prog = true := by kernel_rfl
noncomputable def uul (os : Os) : World :=
 let w0 := World.holding Tryz.prog os ⟨#[], #[], []⟩
 let put (h : Array Obj) (g : Nat) (cs : Array Value) : Array Obj := h.modify g fun
  | .cells _ t frozen => .cells cs t frozen
  | o => o
 let h1 := put w0.heap 0 (Lib.firstTab.map fun z => Value.int .u8 z).toArray
 let h2 := put h1 1 ((List.range 16).flatMap fun i => [Value.int .u8 (Lib.accLo i), Value.int .u8 (Lib.accHi i)]).toArray
 { w0 with heap := h2 }
end
section
open Go Go.RowKit Go.ChangeShapes Go.WideShapes Go.ChangeAt Go.Deep
instance : Inhabited CC := ⟨(⟨#[]⟩, 0)⟩
end
section
open Go Go.RowKit Go.ChangeShapes Go.WideShapes Go.ChangeAt Go.Deep
instance : Inhabited (Int × List UInt8) := ⟨(0, [])⟩
theorem u8_wf {n : Int} (h : (Lit.int .u8 n).wf = true) : 0 ≤ n ∧ n ≤ 255 := by
 simpa [Lit.wf, IntKind.min, IntKind.max, IntKind.signed, IntKind.bits] using h
theorem zqW {t : TypeId} (ht : Tryz.prog.underlying t = some (.int .i64)) : RdT tI64 t (fun _ => 0) := by
 intro H enc W fuel cs d p hd
 obtain ⟨n, rfl, hx, hw⟩ := DataW.trod_int ht hd
 exact ⟨n, ⟨rfl, i64_wf hw⟩, Nat.zero_le _⟩
theorem rd_u8 {t : TypeId} (ht : Tryz.prog.underlying t = some (.int .u8)) : RdT tU8 t (fun _ => 0) := by
 intro H enc W fuel cs d p hd
 obtain ⟨n, rfl, hx, hw⟩ := DataW.trod_int ht hd
 have hb := u8_wf hw
 refine ⟨UInt8.ofNat n.toNat, ?_, Nat.zero_le _⟩
 show [Value.int .u8 n] = [Value.int .u8 ((UInt8.ofNat n.toNat).toNat : Int)]
 have e : ((UInt8.ofNat n.toNat).toNat : Int) = n := by rw [UInt8.toNat_ofNat']; omega
 rw [e]
theorem rd_u8s : RdT (tSl tU8) 41 (fun xs => msum (fun _ => 0) xs + 250) := qz6 Tryz.underlying41 (by kernel_rfl) (rd_u8 Tryz.underlying5)
theorem rd_stream : RdT zzm 55 (fun _ => 0) := by
 intro H enc W fuel cs d p hd
 obtain ⟨xs, n, _, hx, hl, hlen, hf⟩ := DataW.trod_struct Tryz.underlying55 hd
 obtain ⟨y0, y1, rfl⟩ : ∃ y0 y1, xs = [y0, y1] := by match xs, hlen with | [y0, y1], _ => exact ⟨y0, y1, rfl⟩
 have hl2 : cs.length = 2 := hl.trans (by kernel_rfl)
 obtain ⟨c0, c1, rfl⟩ : ∃ c0 c1, cs = [c0, c1] := by match cs, hl2 with | [c0, c1], _ => exact ⟨c0, c1, rfl⟩
 have f0 : DataW.trod enc Tryz.prog W 0 (fun _ => true) true n 3 [c0] = some (y0.1, y0.2) := by
  have q : DataW.trod enc Tryz.prog W 0 (fun _ => true) true n 3 (([c0, c1].drop 0).take (Tryz.prog.cellsOf 3)) = some y0 := hf 0 _ rfl
  rw [show Tryz.prog.cellsOf 3 = 1 by kernel_rfl] at q
  exact q
 obtain ⟨x0, r0, _⟩ := zqW Tryz.underlying3 H enc W n _ _ _ f0
 have f1 : DataW.trod enc Tryz.prog W 0 (fun _ => true) true n 41 [c1] = some (y1.1, y1.2) := by
  have q : DataW.trod enc Tryz.prog W 0 (fun _ => true) true n 41 (([c0, c1].drop 1).take (Tryz.prog.cellsOf 41)) = some y1 := hf 1 _ rfl
  rw [show Tryz.prog.cellsOf 41 = 1 by kernel_rfl] at q
  exact q
 obtain ⟨x1, r1, _⟩ := rd_u8s H enc W n _ _ _ f1
 exact ⟨(x0, x1), ⟨_, _, rfl, r0, r1⟩, Nat.zero_le _⟩
theorem qxU : RdT (tSl zzm) 25 (fun xs => msum (fun _ => 0) xs + 250) := qz6 Tryz.underlying25 (by kernel_rfl) rd_stream
def tColm : Ty (Int × Int × Int × List (Int × List UInt8)) := Ty.prod tI64 (Ty.prod tI64 (Ty.prod tI64 (tSl zzm)))
theorem rd_Colm : RdT tColm 27 (fun _ => 0) := by
 intro H enc W fuel cs d p hd
 obtain ⟨xs, n, _, hx, hl, hlen, hf⟩ := DataW.trod_struct Tryz.underlying27 hd
 obtain ⟨y0, y1, y2, y3, rfl⟩ : ∃ y0 y1 y2 y3, xs = [y0, y1, y2, y3] := by match xs, hlen with | [y0, y1, y2, y3], _ => exact ⟨y0, y1, y2, y3, rfl⟩
 have hl2 : cs.length = 4 := hl.trans (by kernel_rfl)
 obtain ⟨c0, c1, c2, c3, rfl⟩ : ∃ c0 c1 c2 c3, cs = [c0, c1, c2, c3] := by match cs, hl2 with | [c0, c1, c2, c3], _ => exact ⟨c0, c1, c2, c3, rfl⟩
 have f0 : DataW.trod enc Tryz.prog W 0 (fun _ => true) true n 3 [c0] = some (y0.1, y0.2) := by
  have q : DataW.trod enc Tryz.prog W 0 (fun _ => true) true n 3 (([c0, c1, c2, c3].drop 0).take (Tryz.prog.cellsOf 3)) = some y0 := hf 0 _ rfl
  rw [show Tryz.prog.cellsOf 3 = 1 by kernel_rfl] at q
  exact q
 obtain ⟨x0, r0, _⟩ := zqW Tryz.underlying3 H enc W n _ _ _ f0
 have f1 : DataW.trod enc Tryz.prog W 0 (fun _ => true) true n 3 [c1] = some (y1.1, y1.2) := by
  have q : DataW.trod enc Tryz.prog W 0 (fun _ => true) true n 3 (([c0, c1, c2, c3].drop 1).take (Tryz.prog.cellsOf 3)) = some y1 := hf 1 _ rfl
  rw [show Tryz.prog.cellsOf 3 = 1 by kernel_rfl] at q
  exact q
 obtain ⟨x1, r1, _⟩ := zqW Tryz.underlying3 H enc W n _ _ _ f1
 have f2 : DataW.trod enc Tryz.prog W 0 (fun _ => true) true n 3 [c2] = some (y2.1, y2.2) := by
  have q : DataW.trod enc Tryz.prog W 0 (fun _ => true) true n 3 (([c0, c1, c2, c3].drop 2).take (Tryz.prog.cellsOf 3)) = some y2 := hf 2 _ rfl
  rw [show Tryz.prog.cellsOf 3 = 1 by kernel_rfl] at q
  exact q
 obtain ⟨x2, r2, _⟩ := zqW Tryz.underlying3 H enc W n _ _ _ f2
 have f3 : DataW.trod enc Tryz.prog W 0 (fun _ => true) true n 25 [c3] = some (y3.1, y3.2) := by
  have q : DataW.trod enc Tryz.prog W 0 (fun _ => true) true n 25 (([c0, c1, c2, c3].drop 3).take (Tryz.prog.cellsOf 25)) = some y3 := hf 3 _ rfl
  rw [show Tryz.prog.cellsOf 25 = 1 by kernel_rfl] at q
  exact q
 obtain ⟨x3, r3, _⟩ := qxU H enc W n _ _ _ f3
 exact ⟨(x0, (x1, (x2, x3))), ⟨_, _, rfl, r0, ⟨_, _, rfl, r1, ⟨_, _, rfl, r2, r3⟩⟩⟩, Nat.zero_le _⟩
end
end Go.Proofs.YtpmglcachffojaaGreatDoor
