/- A part of what Puts leans on. -/
import Derived.Test.YtpmglcachffojaaGreatDoorZ31
import Derived.Test.YtpmglcachffojaaGreatDoorZ35
import Derived.OpenShut
import Derived.ProofKit
import Derived.Deep.Slices
import Derived.Carry
import Derived.Deep.DeepHandedRow
import Derived.Lib.LaidU8T
import Derived.Lib.LaidIn
import Derived.Deep.DeepWitnessRowRef
set_option maxRecDepth 100000
set_option maxHeartbeats 16000000
namespace Go.Proofs.YtpmglcachffojaaGreatDoor
section
open Go Go.RowKit Go.ChangeShapes Go.WideShapes Go.ChangeAt Go.Deep
def RdT {α : Type} (T : Ty α) (t : TypeId) (m : α → Nat) : Prop :=
 ∀ (H : Type) (enc : TypeId × Value → H) (W : World) (fuel : Nat) (cs : List Value) (d : DataW H) (p : List MemPlace), DataW.trod enc Tryz.prog W 0 (fun _ => true) true fuel t cs = some (d, p) →
  ∃ x, T.rep (fun _ => True) W cs x ∧ m x ≤ 250 * Rows.uptoBulk d
def msum {α : Type} (m : α → Nat) : List α → Nat
 | [] => 0
 | x :: r => m x + msum m r
theorem bulk_app {H : Type} (l r : List (DataW H)) : Rows.uptoBulkAll (l ++ r) = Rows.uptoBulkAll l + Rows.uptoBulkAll r := by
 induction l with
 | nil => simp [Rows.uptoBulkAll]
 | cons x l ih => simp only [List.cons_append, Rows.uptoBulkAll, ih]; omega
theorem jj8 {α H : Type} (m : α → Nat) (f : Nat → α) (D : Nat → DataW H) : ∀ n, (∀ i, i < n → m (f i) ≤ 250 * Rows.uptoBulk (D i)) → msum m ((List.range n).map f) ≤ 250 * Rows.uptoBulkAll ((List.range n).map D)
 | 0, _ => by simp [msum, Rows.uptoBulkAll]
 | n + 1, h => by
   have ih := jj8 m f D n (fun i hi => h i (by omega))
   have hn := h n (by omega)
   have e : ∀ (l : List α) (x : α), msum m (l ++ [x]) = msum m l + m x := by
    intro l x
    induction l with
    | nil => simp [msum]
    | cons y r ih => simp only [List.cons_append, msum, ih]; omega
   rw [List.range_succ, List.map_append, List.map_append, List.map_singleton, List.map_singleton, e, bulk_app]
   simp only [Rows.uptoBulkAll]
   omega
theorem kqG {α : Type} [Inhabited α] {T : Ty α} {e t : TypeId} {m : α → Nat} (ht : Tryz.prog.underlying t = some (.slice e)) (hc : Tryz.prog.cellsOf e = T.size) (h : RdT T e m) : RdT (tSl T) t (fun xs => msum m xs + 250) := by
 intro H enc W fuel cs d p hd
 rcases open_slice ht hd with ⟨rfl, hx⟩ | ⟨a, len, cap, mm, n, D, Pl, rfl, hb, hl, hm, hmm, hx, hi⟩
 · injection hx with hx _; subst hx
   exact ⟨[], ⟨none, 0, 0, rfl, Sl.nil_ _ _ _⟩, by simp [msum, Rows.uptoBulk]⟩
 · injection hx with hx _; subst hx
   have hmc : mm = cap := by simpa using hmm
   rw [hc] at hi
   obtain ⟨f, hf⟩ := choose_lt (α := List Value × α) (n := len) (p := fun i y => W.cells? 0 (a.add (i * T.size)) T.size = some y.1 ∧ T.rep (fun _ => True) W y.1 y.2 ∧ m y.2 ≤ 250 * Rows.uptoBulk (D i)) (fun i hil => by
    obtain ⟨cs', h1, h2⟩ := hi i (by omega)
    obtain ⟨x, h3, h4⟩ := h H enc W n cs' _ _ h2
    exact ⟨(cs', x), h1, h3, h4⟩)
   refine ⟨(List.range len).map fun i => (f i).2, ⟨some a, len, cap, rfl, by simp, hl, hm, (List.range len).map fun i => (f i).1, ?_, ?_⟩, ?_⟩
   · have key : ∀ k, k ≤ len → Rd (fun _ => True) W (some a) ((List.range k).map fun i => (f i).1).flatten ∧ (((List.range k).map fun i => (f i).1).flatten).length = k * T.size ∧ ∀ j u, (((List.range k).map fun i => (f i).1).flatten)[j]? = some u → W.cell? (a.add j) = some u := by
      intro k
      induction k with
      | zero => intro _; exact ⟨fun h => absurd rfl h, by simp, by simp⟩
      | succ k ih =>
        intro hk
        obtain ⟨_, i2, i3⟩ := ih (by omega)
        obtain ⟨c1, _, _⟩ := hf k (by omega)
        obtain ⟨_, c2, c3⟩ := World.cells?_some c1
        have e1 : ((List.range (k + 1)).map fun i => (f i).1).flatten = ((List.range k).map fun i => (f i).1).flatten ++ (f k).1 := by
         rw [List.range_succ]; simp
        have hl2 : (((List.range (k + 1)).map fun i => (f i).1).flatten).length = (k + 1) * T.size := by
         rw [e1, List.length_append, i2, c2, Nat.succ_mul]
        have hcl : ∀ j u, (((List.range (k + 1)).map fun i => (f i).1).flatten)[j]? = some u → W.cell? (a.add j) = some u := by
         intro j u hju
         rw [e1] at hju
         rcases Nat.lt_or_ge j (k * T.size) with hj | hj
         · rw [List.getElem?_append_left (by rw [i2]; exact hj)] at hju
           exact i3 j u hju
         · rw [List.getElem?_append_right (by rw [i2]; exact hj), i2] at hju
           have hj2 : j - k * T.size < T.size := by
            exact Nat.lt_of_lt_of_le (List.getElem?_eq_some_iff.1 hju).1 (Nat.le_of_eq c2)
           have := c3 _ hj2
           rw [hju, add_add, show k * T.size + (j - k * T.size) = j by omega] at this
           exact this
        refine ⟨fun hne => ?_, hl2, hcl⟩
        obtain ⟨b, o, sp⟩ := a
        have h0 := hcl 0 _ (List.getElem?_eq_getElem (List.length_pos_iff.2 hne))
        have hsp : sp = none := by simpa [Addr.add] using World.cell?_spot h0
        subst hsp
        refine ⟨b, o, rfl, trivial, World.block_lt_of_cell? W _ h0, fun j u hju => ?_⟩
        have := hcl j u hju
        unfold Addr.add at this
        split at this
        · rename_i hj0; subst hj0; exact this
        · exact this
     exact (key len zN).1
   · refine ⟨by simp, fun i cs x h1 h2 => ?_⟩
     have hil : i < len := by
      have := (List.getElem?_eq_some_iff.1 h1).1
      simpa using this
     simp [hil] at h1 h2
     subst h1 h2
     exact (hf i hil).2.1
   · have := jj8 m (fun i => (f i).2) D len (fun i hil => (hf i hil).2.2)
     simp only [Rows.uptoBulk]
     omega
instance : Inhabited VV := ⟨⟨false, 0, ⟨#[]⟩⟩⟩
theorem zqV {n : Int} (h : (Lit.int .i64 n).wf = true) : i64 n := by
 have : -9223372036854775808 ≤ n ∧ n ≤ 9223372036854775807 := by simpa [Lit.wf, IntKind.min, IntKind.max, IntKind.signed, IntKind.bits] using h
 exact this
theorem rd_VV : RdT tVV 74 (fun _ => 0) := by
 intro H enc W fuel cs d p hd
 obtain ⟨xs, n, _, hx, hl, hlen, hf⟩ := DataW.trod_struct Tryz.underlying74 hd
 injection hx with hx _; subst hx
 obtain ⟨y0, y1, y2, rfl⟩ : ∃ y0 y1 y2, xs = [y0, y1, y2] := by match xs, hlen with | [y0, y1, y2], _ => exact ⟨y0, y1, y2, rfl⟩
 have hl2 : cs.length = 3 := hl.trans (by kernel_rfl)
 obtain ⟨c0, c1, c2, rfl⟩ : ∃ c0 c1 c2, cs = [c0, c1, c2] := by match cs, hl2 with | [c0, c1, c2], _ => exact ⟨c0, c1, c2, rfl⟩
 have f0 : DataW.trod enc Tryz.prog W 0 (fun _ => true) true n 4 [c0] = some (y0.1, y0.2) := by
  have q : DataW.trod enc Tryz.prog W 0 (fun _ => true) true n 4 (([c0, c1, c2].drop 0).take (Tryz.prog.cellsOf 4)) = some y0 := hf 0 _ rfl
  rw [show Tryz.prog.cellsOf 4 = 1 by kernel_rfl] at q
  exact q
 have f1 : DataW.trod enc Tryz.prog W 0 (fun _ => true) true n 3 [c1] = some (y1.1, y1.2) := by
  have q : DataW.trod enc Tryz.prog W 0 (fun _ => true) true n 3 (([c0, c1, c2].drop 1).take (Tryz.prog.cellsOf 3)) = some y1 := hf 1 _ rfl
  rw [show Tryz.prog.cellsOf 3 = 1 by kernel_rfl] at q
  exact q
 have f2 : DataW.trod enc Tryz.prog W 0 (fun _ => true) true n 9 [c2] = some (y2.1, y2.2) := by
  have q : DataW.trod enc Tryz.prog W 0 (fun _ => true) true n 9 (([c0, c1, c2].drop 2).take (Tryz.prog.cellsOf 9)) = some y2 := hf 2 _ rfl
  rw [show Tryz.prog.cellsOf 9 = 1 by kernel_rfl] at q
  exact q
 obtain ⟨x0, h0, e0⟩ := DataW.trod_bool Tryz.underlying4 f0
 injection e0 with e0 _; obtain rfl : c0 = _ := by simpa using h0
 obtain ⟨x1, h1, e1, w1⟩ := DataW.trod_int Tryz.underlying3 f1
 injection e1 with e1 _; obtain rfl : c1 = _ := by simpa using h1
 obtain ⟨x2, h2, e2, w2⟩ := DataW.trod_string Tryz.underlying9 f2
 injection e2 with e2 _; obtain rfl : c2 = _ := by simpa using h2
 exact ⟨⟨x0, x1, x2⟩, ⟨rfl, (zqV w1).1, (zqV w1).2, w2⟩, Nat.zero_le _⟩
theorem own : ownKnob Tryz.prog.godebug = none := by kernel_rfl
theorem xqL : laidOutB Tryz.prog = true := by kernel_rfl
noncomputable def jja (os : Os) : World :=
 let w0 := World.holding Tryz.prog os ⟨#[], #[], []⟩
 let put (h : Array Obj) (g : Nat) (cs : Array Value) : Array Obj := h.modify g fun
  | .cells _ t frozen => .cells cs t frozen
  | o => o
 let h1 := put w0.heap 0 (Lib.firstTab.map fun z => Value.int .u8 z).toArray
 let h2 := put h1 1 ((List.range 16).flatMap fun i => [Value.int .u8 (Lib.accLo i), Value.int .u8 (Lib.accHi i)]).toArray
 { w0 with heap := h2 }
end
section
open Go Go.RowKit Go.ChangeShapes Go.WideShapes Go.ChangeAt Go.Deep
instance : Inhabited CC := ⟨(⟨#[]⟩, 0)⟩
theorem rd_CC : RdT tCol 93 (fun _ => 0) := by
 intro H enc W fuel cs d p hd
 obtain ⟨xs, n, _, hx, hl, hlen, hf⟩ := DataW.trod_struct Tryz.underlying93 hd
 injection hx with hx _; subst hx
 obtain ⟨y0, y1, rfl⟩ : ∃ y0 y1, xs = [y0, y1] := by match xs, hlen with | [y0, y1], _ => exact ⟨y0, y1, rfl⟩
 have hl2 : cs.length = 2 := hl.trans (by kernel_rfl)
 obtain ⟨c0, c1, rfl⟩ : ∃ c0 c1, cs = [c0, c1] := by match cs, hl2 with | [c0, c1], _ => exact ⟨c0, c1, rfl⟩
 have f0 : DataW.trod enc Tryz.prog W 0 (fun _ => true) true n 9 [c0] = some (y0.1, y0.2) := by
  have q : DataW.trod enc Tryz.prog W 0 (fun _ => true) true n 9 (([c0, c1].drop 0).take (Tryz.prog.cellsOf 9)) = some y0 := hf 0 _ rfl
  rw [show Tryz.prog.cellsOf 9 = 1 by kernel_rfl] at q
  exact q
 have f1 : DataW.trod enc Tryz.prog W 0 (fun _ => true) true n 3 [c1] = some (y1.1, y1.2) := by
  have q : DataW.trod enc Tryz.prog W 0 (fun _ => true) true n 3 (([c0, c1].drop 1).take (Tryz.prog.cellsOf 3)) = some y1 := hf 1 _ rfl
  rw [show Tryz.prog.cellsOf 3 = 1 by kernel_rfl] at q
  exact q
 obtain ⟨x0, h0, e0, w0⟩ := DataW.trod_string Tryz.underlying9 f0
 injection e0 with e0 _; obtain rfl : c0 = _ := by simpa using h0
 obtain ⟨x1, h1, e1, w1⟩ := DataW.trod_int Tryz.underlying3 f1
 injection e1 with e1 _; obtain rfl : c1 = _ := by simpa using h1
 exact ⟨(x0, x1), ⟨[.string x0], [.int .i64 x1], rfl, ⟨rfl, w0⟩, rfl, (zqV w1).1, (zqV w1).2⟩, Nat.zero_le _⟩
theorem rd_CCs : RdT (tSl tCol) 34 (fun xs => msum (fun _ => 0) xs + 250) := kqG Tryz.underlying34 (by kernel_rfl) rd_CC
theorem rd_row : RdT (tSl tVV) 91 (fun xs => msum (fun _ => 0) xs + 250) := kqG Tryz.underlying91 (by kernel_rfl) rd_VV
theorem rd_RRs : RdT (tSl tRow) 35 (fun xs => msum (fun r => msum (fun _ => 0) r + 250) xs + 250) := kqG Tryz.underlying35 (by kernel_rfl) rd_row
end
end Go.Proofs.YtpmglcachffojaaGreatDoor
