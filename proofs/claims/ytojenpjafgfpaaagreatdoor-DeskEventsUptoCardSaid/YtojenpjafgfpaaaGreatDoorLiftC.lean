/- From the reading of an argument to the types' words, with the bound that its bulk gives. -/
import Derived.Test.YtojenpjafgfpaaaGreatDoorOne
import Derived.Test.YtojenpjafgfpaaaGreatDoorShow3
import Derived.Test.YtojenpjafgfpaaaGreatDoorRows
import Derived.OpenShut
import Derived.ProofKit
import Derived.Deep.Slices
import Derived.Carry
import Derived.Deep.DeepHandedRow
import Derived.Lib.LaidTab
import Derived.Stop.LaidErr
namespace Go.Proofs.YtojenpjafgfpaaaGreatDoor
open Go Go.RowKit Go.ChangeShapes Go.WideShapes Go.ChangeAt Go.Deep

def RdT {α : Type} (T : Ty α) (t : TypeId) (m : α → Nat) : Prop :=
  ∀ (H : Type) (enc : TypeId × Value → H) (W : World) (fuel : Nat) (cs : List Value) (d : DataW H) (p : List MemPlace), DataW.trod enc Tryz.prog W 0 (fun _ => true) true fuel t cs = some (d, p) →
    ∃ x, T.rep (fun _ => True) W cs x ∧ m x ≤ 250 * Rows.uptoBulk d
def msum {α : Type} (m : α → Nat) : List α → Nat
  | [] => 0
  | x :: r => m x + msum m r
theorem bulk_app {H : Type} (l r : List (DataW H)) : Rows.uptoBulkAll (l ++ r) = Rows.uptoBulkAll l + Rows.uptoBulkAll r := by
  induction l with
  | nil => simp [Rows.uptoBulkAll]
  | cons x l ih => simp only [List.cons_append, Rows.uptoBulkAll, ih]; omega
theorem msum_range {α H : Type} (m : α → Nat) (f : Nat → α) (D : Nat → DataW H) : ∀ n, (∀ i, i < n → m (f i) ≤ 250 * Rows.uptoBulk (D i)) → msum m ((List.range n).map f) ≤ 250 * Rows.uptoBulkAll ((List.range n).map D)
  | 0, _ => by simp [msum, Rows.uptoBulkAll]
  | n + 1, h => by
    have ih := msum_range m f D n (fun i hi => h i (by omega))
    have hn := h n (by omega)
    have e : ∀ (l : List α) (x : α), msum m (l ++ [x]) = msum m l + m x := by
      intro l x
      induction l with
      | nil => simp [msum]
      | cons y r ih => simp only [List.cons_append, msum, ih]; omega
    rw [List.range_succ, List.map_append, List.map_append, List.map_singleton, List.map_singleton, e, bulk_app]
    simp only [Rows.uptoBulkAll]
    omega
theorem rd_slice {α : Type} [Inhabited α] {T : Ty α} {e t : TypeId} {m : α → Nat} (ht : Tryz.prog.underlying t = some (.slice e)) (hc : Tryz.prog.cellsOf e = T.size) (h : RdT T e m) : RdT (tSl T) t (fun xs => msum m xs + 250) := by
  intro H enc W fuel cs d p hd
  rcases open_slice ht hd with ⟨rfl, hx⟩ | ⟨a, len, cap, mm, n, D, Pl, rfl, hb, hl, hm, hmm, hx, hi⟩
  · injection hx with hx _; subst hx
    exact ⟨[], ⟨none, 0, 0, rfl, Sl.nil_ _ _ _⟩, by simp [msum, Rows.uptoBulk]⟩
  · injection hx with hx _; subst hx
    have hmc : mm = cap := by simpa using hmm
    rw [hc] at hi
    obtain ⟨f, hf⟩ := choose_lt (α := List Value × α) (n := len) (p := fun i y => W.cells? 0 (a.add (i * T.size)) T.size = some y.1 ∧ T.rep (fun _ => True) W y.1 y.2 ∧ m y.2 ≤ 250 * Rows.uptoBulk (D i)) (fun i hil => by
      obtain ⟨cs', h1, h2⟩ := hi i (by omega)
      obtain ⟨x, h3, h4⟩ := h H enc W n cs' _ _ h2
      exact ⟨(cs', x), h1, h3, h4⟩)
    refine ⟨(List.range len).map fun i => (f i).2, ⟨some a, len, cap, rfl, by simp, hl, hm, (List.range len).map fun i => (f i).1, ?_, ?_⟩, ?_⟩
    · have key : ∀ k, k ≤ len → Rd (fun _ => True) W (some a) ((List.range k).map fun i => (f i).1).flatten ∧ (((List.range k).map fun i => (f i).1).flatten).length = k * T.size ∧ ∀ j u, (((List.range k).map fun i => (f i).1).flatten)[j]? = some u → W.cell? (a.add j) = some u := by
        intro k
        induction k with
        | zero => intro _; exact ⟨fun h => absurd rfl h, by simp, by simp⟩
        | succ k ih =>
          intro hk
          obtain ⟨_, i2, i3⟩ := ih (by omega)
          obtain ⟨c1, _, _⟩ := hf k (by omega)
          obtain ⟨_, c2, c3⟩ := World.cells?_some c1
          have e1 : ((List.range (k + 1)).map fun i => (f i).1).flatten = ((List.range k).map fun i => (f i).1).flatten ++ (f k).1 := by
            rw [List.range_succ]; simp
          have hl2 : (((List.range (k + 1)).map fun i => (f i).1).flatten).length = (k + 1) * T.size := by
            rw [e1, List.length_append, i2, c2, Nat.succ_mul]
          have hcl : ∀ j u, (((List.range (k + 1)).map fun i => (f i).1).flatten)[j]? = some u → W.cell? (a.add j) = some u := by
            intro j u hju
            rw [e1] at hju
            rcases Nat.lt_or_ge j (k * T.size) with hj | hj
            · rw [List.getElem?_append_left (by rw [i2]; exact hj)] at hju
              exact i3 j u hju
            · rw [List.getElem?_append_right (by rw [i2]; exact hj), i2] at hju
              have hj2 : j - k * T.size < T.size := by
                exact Nat.lt_of_lt_of_le (List.getElem?_eq_some_iff.1 hju).1 (Nat.le_of_eq c2)
              have := c3 _ hj2
              rw [hju, add_add, show k * T.size + (j - k * T.size) = j by omega] at this
              exact this
          refine ⟨fun hne => ?_, hl2, hcl⟩
          obtain ⟨b, o, sp⟩ := a
          have h0 := hcl 0 _ (List.getElem?_eq_getElem (List.length_pos_iff.2 hne))
          have hsp : sp = none := by simpa [Addr.add] using World.cell?_spot h0
          subst hsp
          refine ⟨b, o, rfl, trivial, World.block_lt_of_cell? W _ h0, fun j u hju => ?_⟩
          have := hcl j u hju
          unfold Addr.add at this
          split at this
          · rename_i hj0; subst hj0; exact this
          · exact this
      exact (key len (Nat.le_refl _)).1
    · refine ⟨by simp, fun i cs x h1 h2 => ?_⟩
      have hil : i < len := by
        have := (List.getElem?_eq_some_iff.1 h1).1
        simpa using this
      simp [hil] at h1 h2
      subst h1 h2
      exact (hf i hil).2.1
    · have := msum_range m (fun i => (f i).2) D len (fun i hil => (hf i hil).2.2)
      simp only [Rows.uptoBulk]
      omega
end Go.Proofs.YtojenpjafgfpaaaGreatDoor
/- From the reading of an argument to the types' words: the structs. (Printed by gen_reads2.py.) -/
namespace Go.Proofs.YtojenpjafgfpaaaGreatDoor
open Go Go.RowKit Go.ChangeShapes Go.WideShapes Go.ChangeAt Go.Deep

instance : Inhabited VV := ⟨VV.zero⟩
instance : Inhabited KK := ⟨⟨0, 0, 0⟩⟩
instance : Inhabited LL := ⟨⟨0, []⟩⟩
instance : Inhabited PP := ⟨⟨0, 0, VV.zero, [], []⟩⟩
instance : Inhabited EE := ⟨EE.zero⟩
instance : Inhabited KD := ⟨⟨⟨0, 0, 0⟩, []⟩⟩
instance : Inhabited AA := ⟨⟨0, 0, [], ⟨0, []⟩⟩⟩
theorem i64_wf {n : Int} (h : (Lit.int .i64 n).wf = true) : i64 n := by
  have : -9223372036854775808 ≤ n ∧ n ≤ 9223372036854775807 := by simpa [Lit.wf, IntKind.min, IntKind.max, IntKind.signed, IntKind.bits] using h
  exact this
theorem rd_i64 {t : TypeId} (ht : Tryz.prog.underlying t = some (.int .i64)) : RdT tI64 t (fun _ => 250) := by
  intro H enc W fuel cs d p hd
  obtain ⟨n, rfl, hx, hw⟩ := DataW.trod_int ht hd
  injection hx with hx _; subst hx
  exact ⟨n, ⟨rfl, (i64_wf hw).1, (i64_wf hw).2⟩, by simp [Rows.uptoBulk]⟩
theorem rd_i64s : RdT (tSl tI64) 24 (fun xs => msum (fun _ => 250) xs + 250) := rd_slice Tryz.underlying24 (by kernel_rfl) (rd_i64 Tryz.underlying3)
theorem msum_const {α : Type} (k : Nat) : ∀ xs : List α, msum (fun _ => k) xs = k * xs.length
  | [] => rfl
  | _ :: r => by simp only [msum, msum_const k r, List.length_cons, Nat.mul_succ]; omega

set_option maxRecDepth 100000 in
theorem rd_VV : RdT tVV 53 (fun v => 10 * vlen v) := by
  intro H enc W fuel cs d p hd
  obtain ⟨xs, n, _, hx, hl, hlen, hf⟩ := DataW.trod_struct Tryz.underlying53 hd
  injection hx with hx _; subst hx
  obtain ⟨y0, y1, y2, rfl⟩ : ∃ y0 y1 y2, xs = [y0, y1, y2] := by match xs, hlen with | [y0, y1, y2], _ => exact ⟨y0, y1, y2, rfl⟩
  have hl2 : cs.length = 3 := hl.trans (by kernel_rfl)
  obtain ⟨c0, c1, c2, rfl⟩ : ∃ c0 c1 c2, cs = [c0, c1, c2] := by match cs, hl2 with | [c0, c1, c2], _ => exact ⟨c0, c1, c2, rfl⟩
  have f0 : DataW.trod enc Tryz.prog W 0 (fun _ => true) true n 4 [c0] = some (y0.1, y0.2) := by
    have q : DataW.trod enc Tryz.prog W 0 (fun _ => true) true n 4 (([c0, c1, c2].drop 0).take (Tryz.prog.cellsOf 4)) = some y0 := hf 0 _ rfl
    rw [show Tryz.prog.cellsOf 4 = 1 by kernel_rfl] at q
    exact q
  have f1 : DataW.trod enc Tryz.prog W 0 (fun _ => true) true n 3 [c1] = some (y1.1, y1.2) := by
    have q : DataW.trod enc Tryz.prog W 0 (fun _ => true) true n 3 (([c0, c1, c2].drop 1).take (Tryz.prog.cellsOf 3)) = some y1 := hf 1 _ rfl
    rw [show Tryz.prog.cellsOf 3 = 1 by kernel_rfl] at q
    exact q
  have f2 : DataW.trod enc Tryz.prog W 0 (fun _ => true) true n 9 [c2] = some (y2.1, y2.2) := by
    have q : DataW.trod enc Tryz.prog W 0 (fun _ => true) true n 9 (([c0, c1, c2].drop 2).take (Tryz.prog.cellsOf 9)) = some y2 := hf 2 _ rfl
    rw [show Tryz.prog.cellsOf 9 = 1 by kernel_rfl] at q
    exact q
  obtain ⟨x0, h0, e0⟩ := DataW.trod_bool Tryz.underlying4 f0
  injection e0 with e0 _; obtain rfl : c0 = _ := by simpa using h0
  obtain ⟨x1, h1, e1, w1⟩ := DataW.trod_int Tryz.underlying3 f1
  injection e1 with e1 _; obtain rfl : c1 = _ := by simpa using h1
  obtain ⟨x2, h2, e2, w2⟩ := DataW.trod_string Tryz.underlying9 f2
  injection e2 with e2 _; obtain rfl : c2 = _ := by simpa using h2
  refine ⟨⟨x0, x1, x2⟩, ⟨rfl, (i64_wf w1).1, (i64_wf w1).2, w2⟩, ?_⟩
  simp only [Rows.uptoBulk, Rows.uptoBulkAll, List.map_cons, List.map_nil]; rw [e0, e1, e2]; simp only [Rows.uptoBulk, vlen]; have : x2.data.toList.length = x2.size := Array.length_toList; omega
theorem rd_VVs : RdT (tSl tVV) 50 (fun xs => msum (fun v => 10 * vlen v) xs + 250) := rd_slice Tryz.underlying50 (by kernel_rfl) rd_VV
theorem rd_row : RdT (tSl tVV) 51 (fun xs => msum (fun v => 10 * vlen v) xs + 250) := rd_slice Tryz.underlying51 (by kernel_rfl) rd_VV
theorem rd_rows : RdT (tSl (tSl tVV)) 22 (fun xs => msum (fun r => msum (fun v => 10 * vlen v) r + 250) xs + 250) := rd_slice Tryz.underlying22 (by kernel_rfl) rd_row
theorem msum_row : ∀ xs : List VV, 10 * rowLen xs = msum (fun v => 10 * vlen v) xs + 1000
  | [] => rfl
  | v :: r => by have := msum_row r; simp only [msum, rowLen]; omega
theorem msum_rows : ∀ xs : List (List VV), rowsLen xs ≤ msum (fun r => msum (fun v => 10 * vlen v) r + 250) xs
  | [] => Nat.le_refl _
  | r :: t => by have := msum_rows t; have := msum_row r; simp only [msum, rowsLen]; omega
set_option maxRecDepth 100000 in
theorem rd_KK : RdT tKK 71 (fun _ => 1000) := by
  intro H enc W fuel cs d p hd
  obtain ⟨xs, n, _, hx, hl, hlen, hf⟩ := DataW.trod_struct Tryz.underlying71 hd
  injection hx with hx _; subst hx
  obtain ⟨y0, y1, y2, rfl⟩ : ∃ y0 y1 y2, xs = [y0, y1, y2] := by match xs, hlen with | [y0, y1, y2], _ => exact ⟨y0, y1, y2, rfl⟩
  have hl2 : cs.length = 3 := hl.trans (by kernel_rfl)
  obtain ⟨c0, c1, c2, rfl⟩ : ∃ c0 c1 c2, cs = [c0, c1, c2] := by match cs, hl2 with | [c0, c1, c2], _ => exact ⟨c0, c1, c2, rfl⟩
  have f0 : DataW.trod enc Tryz.prog W 0 (fun _ => true) true n 3 [c0] = some (y0.1, y0.2) := by
    have q : DataW.trod enc Tryz.prog W 0 (fun _ => true) true n 3 (([c0, c1, c2].drop 0).take (Tryz.prog.cellsOf 3)) = some y0 := hf 0 _ rfl
    rw [show Tryz.prog.cellsOf 3 = 1 by kernel_rfl] at q
    exact q
  have f1 : DataW.trod enc Tryz.prog W 0 (fun _ => true) true n 3 [c1] = some (y1.1, y1.2) := by
    have q : DataW.trod enc Tryz.prog W 0 (fun _ => true) true n 3 (([c0, c1, c2].drop 1).take (Tryz.prog.cellsOf 3)) = some y1 := hf 1 _ rfl
    rw [show Tryz.prog.cellsOf 3 = 1 by kernel_rfl] at q
    exact q
  have f2 : DataW.trod enc Tryz.prog W 0 (fun _ => true) true n 3 [c2] = some (y2.1, y2.2) := by
    have q : DataW.trod enc Tryz.prog W 0 (fun _ => true) true n 3 (([c0, c1, c2].drop 2).take (Tryz.prog.cellsOf 3)) = some y2 := hf 2 _ rfl
    rw [show Tryz.prog.cellsOf 3 = 1 by kernel_rfl] at q
    exact q
  obtain ⟨x0, h0, e0, w0⟩ := DataW.trod_int Tryz.underlying3 f0
  injection e0 with e0 _; obtain rfl : c0 = _ := by simpa using h0
  obtain ⟨x1, h1, e1, w1⟩ := DataW.trod_int Tryz.underlying3 f1
  injection e1 with e1 _; obtain rfl : c1 = _ := by simpa using h1
  obtain ⟨x2, h2, e2, w2⟩ := DataW.trod_int Tryz.underlying3 f2
  injection e2 with e2 _; obtain rfl : c2 = _ := by simpa using h2
  refine ⟨⟨x0, x1, x2⟩, ⟨rfl, i64_wf w0, i64_wf w1, i64_wf w2⟩, ?_⟩
  simp only [Rows.uptoBulk, Rows.uptoBulkAll, List.map_cons, List.map_nil]; rw [e0, e1, e2]; simp only [Rows.uptoBulk]; omega
theorem rd_KKs : RdT (tSl tKK) 23 (fun xs => msum (fun _ => 1000) xs + 250) := rd_slice Tryz.underlying23 (by kernel_rfl) rd_KK
set_option maxRecDepth 100000 in
theorem rd_LL (H : Type) (enc : TypeId × Value → H) (W : World) (fuel : Nat) (u v : Value) (d : DataW H) (p : List MemPlace) (hd : DataW.trod enc Tryz.prog W 0 (fun _ => true) true fuel 26 [u, v] = some (d, p)) :
    ∃ h, (u = .int .i64 h ∧ i64 h) ∧ ∃ xs, (tSl tI64).rep (fun _ => True) W [v] xs ∧ 250 * xs.length + 750 ≤ 250 * Rows.uptoBulk d := by
  obtain ⟨xs, n, _, hx, hl, hlen, hf⟩ := DataW.trod_struct Tryz.underlying26 hd
  injection hx with hx _; subst hx
  obtain ⟨y0, y1, rfl⟩ : ∃ y0 y1, xs = [y0, y1] := by match xs, hlen with | [y0, y1], _ => exact ⟨y0, y1, rfl⟩
  have f0 : DataW.trod enc Tryz.prog W 0 (fun _ => true) true n 3 [u] = some (y0.1, y0.2) := by
    have q : DataW.trod enc Tryz.prog W 0 (fun _ => true) true n 3 (([u, v].drop 0).take (Tryz.prog.cellsOf 3)) = some y0 := hf 0 _ rfl
    rw [show Tryz.prog.cellsOf 3 = 1 by kernel_rfl] at q
    exact q
  have f1 : DataW.trod enc Tryz.prog W 0 (fun _ => true) true n 24 [v] = some (y1.1, y1.2) := by
    have q : DataW.trod enc Tryz.prog W 0 (fun _ => true) true n 24 (([u, v].drop 1).take (Tryz.prog.cellsOf 24)) = some y1 := hf 1 _ rfl
    rw [show Tryz.prog.cellsOf 24 = 1 by kernel_rfl] at q
    exact q
  obtain ⟨x0, h0, e0, w0⟩ := DataW.trod_int Tryz.underlying3 f0
  injection e0 with e0 _; obtain rfl : u = _ := by simpa using h0
  obtain ⟨x1, r1, b1⟩ := rd_i64s H enc W n _ _ _ f1
  refine ⟨x0, ⟨rfl, i64_wf w0⟩, x1, r1, ?_⟩
  dsimp only at b1
  rw [msum_const] at b1
  simp only [Rows.uptoBulk, Rows.uptoBulkAll, List.map_cons, List.map_nil]; rw [e0]; simp only [Rows.uptoBulk]; omega
set_option maxRecDepth 100000 in
theorem rd_PP : RdT tPP 55 (nodeLen) := by
  intro H enc W fuel cs d p hd
  obtain ⟨xs, n, _, hx, hl, hlen, hf⟩ := DataW.trod_struct Tryz.underlying55 hd
  injection hx with hx _; subst hx
  obtain ⟨y0, y1, y2, y3, y4, rfl⟩ : ∃ y0 y1 y2 y3 y4, xs = [y0, y1, y2, y3, y4] := by match xs, hlen with | [y0, y1, y2, y3, y4], _ => exact ⟨y0, y1, y2, y3, y4, rfl⟩
  have hl2 : cs.length = 7 := hl.trans (by kernel_rfl)
  obtain ⟨c0, c1, c2, c3, c4, c5, c6, rfl⟩ : ∃ c0 c1 c2 c3 c4 c5 c6, cs = [c0, c1, c2, c3, c4, c5, c6] := by match cs, hl2 with | [c0, c1, c2, c3, c4, c5, c6], _ => exact ⟨c0, c1, c2, c3, c4, c5, c6, rfl⟩
  have f0 : DataW.trod enc Tryz.prog W 0 (fun _ => true) true n 3 [c0] = some (y0.1, y0.2) := by
    have q : DataW.trod enc Tryz.prog W 0 (fun _ => true) true n 3 (([c0, c1, c2, c3, c4, c5, c6].drop 0).take (Tryz.prog.cellsOf 3)) = some y0 := hf 0 _ rfl
    rw [show Tryz.prog.cellsOf 3 = 1 by kernel_rfl] at q
    exact q
  have f1 : DataW.trod enc Tryz.prog W 0 (fun _ => true) true n 3 [c1] = some (y1.1, y1.2) := by
    have q : DataW.trod enc Tryz.prog W 0 (fun _ => true) true n 3 (([c0, c1, c2, c3, c4, c5, c6].drop 1).take (Tryz.prog.cellsOf 3)) = some y1 := hf 1 _ rfl
    rw [show Tryz.prog.cellsOf 3 = 1 by kernel_rfl] at q
    exact q
  have f2 : DataW.trod enc Tryz.prog W 0 (fun _ => true) true n 53 [c2, c3, c4] = some (y2.1, y2.2) := by
    have q : DataW.trod enc Tryz.prog W 0 (fun _ => true) true n 53 (([c0, c1, c2, c3, c4, c5, c6].drop 2).take (Tryz.prog.cellsOf 53)) = some y2 := hf 2 _ rfl
    rw [show Tryz.prog.cellsOf 53 = 3 by kernel_rfl] at q
    exact q
  have f3 : DataW.trod enc Tryz.prog W 0 (fun _ => true) true n 50 [c5] = some (y3.1, y3.2) := by
    have q : DataW.trod enc Tryz.prog W 0 (fun _ => true) true n 50 (([c0, c1, c2, c3, c4, c5, c6].drop 5).take (Tryz.prog.cellsOf 50)) = some y3 := hf 3 _ rfl
    rw [show Tryz.prog.cellsOf 50 = 1 by kernel_rfl] at q
    exact q
  have f4 : DataW.trod enc Tryz.prog W 0 (fun _ => true) true n 24 [c6] = some (y4.1, y4.2) := by
    have q : DataW.trod enc Tryz.prog W 0 (fun _ => true) true n 24 (([c0, c1, c2, c3, c4, c5, c6].drop 6).take (Tryz.prog.cellsOf 24)) = some y4 := hf 4 _ rfl
    rw [show Tryz.prog.cellsOf 24 = 1 by kernel_rfl] at q
    exact q
  obtain ⟨x0, h0, e0, w0⟩ := DataW.trod_int Tryz.underlying3 f0
  injection e0 with e0 _; obtain rfl : c0 = _ := by simpa using h0
  obtain ⟨x1, h1, e1, w1⟩ := DataW.trod_int Tryz.underlying3 f1
  injection e1 with e1 _; obtain rfl : c1 = _ := by simpa using h1
  obtain ⟨x2, r2, b2⟩ := rd_VV H enc W n _ _ _ f2
  dsimp only at b2
  obtain ⟨x3, r3, b3⟩ := rd_VVs H enc W n _ _ _ f3
  dsimp only at b3
  obtain ⟨x4, r4, b4⟩ := rd_i64s H enc W n _ _ _ f4
  dsimp only at b4
  obtain ⟨rv2, ok2⟩ := r2
  injection rv2 with u0 rv2; injection rv2 with u1 rv2; injection rv2 with u2 _; subst u0 u1 u2
  obtain ⟨A3, n3, k3, q3, s3⟩ := r3
  obtain rfl : c5 = _ := by simpa using q3
  obtain ⟨A4, n4, k4, q4, s4⟩ := r4
  obtain rfl : c6 = _ := by simpa using q4
  refine ⟨⟨x0, x1, x2, x3, x4⟩, ⟨A3, n3, k3, A4, n4, k4, rfl, i64_wf w0, i64_wf w1, ok2, s3, s4⟩, ?_⟩
  have := msum_row x3; rw [msum_const] at b4
  simp only [Rows.uptoBulk, Rows.uptoBulkAll, List.map_cons, List.map_nil]; rw [e0, e1]; simp only [Rows.uptoBulk, nodeLen]; omega
theorem rd_PPs : RdT (tSl tPP) 27 (fun xs => msum nodeLen xs + 250) := rd_slice Tryz.underlying27 (by kernel_rfl) rd_PP
theorem msum_pred : ∀ xs : List PP, msum nodeLen xs = predLen xs
  | [] => rfl
  | p :: r => by simp only [msum, predLen, msum_pred r]
set_option maxRecDepth 100000 in
theorem rd_EE : RdT tEE 29 (fun e => evLen e + 100) := by
  intro H enc W fuel cs d p hd
  obtain ⟨xs, n, _, hx, hl, hlen, hf⟩ := DataW.trod_struct Tryz.underlying29 hd
  injection hx with hx _; subst hx
  obtain ⟨y0, y1, y2, y3, y4, y5, y6, y7, y8, rfl⟩ : ∃ y0 y1 y2 y3 y4 y5 y6 y7 y8, xs = [y0, y1, y2, y3, y4, y5, y6, y7, y8] := by match xs, hlen with | [y0, y1, y2, y3, y4, y5, y6, y7, y8], _ => exact ⟨y0, y1, y2, y3, y4, y5, y6, y7, y8, rfl⟩
  have hl2 : cs.length = 10 := hl.trans (by kernel_rfl)
  obtain ⟨c0, c1, c2, c3, c4, c5, c6, c7, c8, c9, rfl⟩ : ∃ c0 c1 c2 c3 c4 c5 c6 c7 c8 c9, cs = [c0, c1, c2, c3, c4, c5, c6, c7, c8, c9] := by match cs, hl2 with | [c0, c1, c2, c3, c4, c5, c6, c7, c8, c9], _ => exact ⟨c0, c1, c2, c3, c4, c5, c6, c7, c8, c9, rfl⟩
  have f0 : DataW.trod enc Tryz.prog W 0 (fun _ => true) true n 3 [c0] = some (y0.1, y0.2) := by
    have q : DataW.trod enc Tryz.prog W 0 (fun _ => true) true n 3 (([c0, c1, c2, c3, c4, c5, c6, c7, c8, c9].drop 0).take (Tryz.prog.cellsOf 3)) = some y0 := hf 0 _ rfl
    rw [show Tryz.prog.cellsOf 3 = 1 by kernel_rfl] at q
    exact q
  have f1 : DataW.trod enc Tryz.prog W 0 (fun _ => true) true n 3 [c1] = some (y1.1, y1.2) := by
    have q : DataW.trod enc Tryz.prog W 0 (fun _ => true) true n 3 (([c0, c1, c2, c3, c4, c5, c6, c7, c8, c9].drop 1).take (Tryz.prog.cellsOf 3)) = some y1 := hf 1 _ rfl
    rw [show Tryz.prog.cellsOf 3 = 1 by kernel_rfl] at q
    exact q
  have f2 : DataW.trod enc Tryz.prog W 0 (fun _ => true) true n 3 [c2] = some (y2.1, y2.2) := by
    have q : DataW.trod enc Tryz.prog W 0 (fun _ => true) true n 3 (([c0, c1, c2, c3, c4, c5, c6, c7, c8, c9].drop 2).take (Tryz.prog.cellsOf 3)) = some y2 := hf 2 _ rfl
    rw [show Tryz.prog.cellsOf 3 = 1 by kernel_rfl] at q
    exact q
  have f3 : DataW.trod enc Tryz.prog W 0 (fun _ => true) true n 3 [c3] = some (y3.1, y3.2) := by
    have q : DataW.trod enc Tryz.prog W 0 (fun _ => true) true n 3 (([c0, c1, c2, c3, c4, c5, c6, c7, c8, c9].drop 3).take (Tryz.prog.cellsOf 3)) = some y3 := hf 3 _ rfl
    rw [show Tryz.prog.cellsOf 3 = 1 by kernel_rfl] at q
    exact q
  have f4 : DataW.trod enc Tryz.prog W 0 (fun _ => true) true n 22 [c4] = some (y4.1, y4.2) := by
    have q : DataW.trod enc Tryz.prog W 0 (fun _ => true) true n 22 (([c0, c1, c2, c3, c4, c5, c6, c7, c8, c9].drop 4).take (Tryz.prog.cellsOf 22)) = some y4 := hf 4 _ rfl
    rw [show Tryz.prog.cellsOf 22 = 1 by kernel_rfl] at q
    exact q
  have f5 : DataW.trod enc Tryz.prog W 0 (fun _ => true) true n 23 [c5] = some (y5.1, y5.2) := by
    have q : DataW.trod enc Tryz.prog W 0 (fun _ => true) true n 23 (([c0, c1, c2, c3, c4, c5, c6, c7, c8, c9].drop 5).take (Tryz.prog.cellsOf 23)) = some y5 := hf 5 _ rfl
    rw [show Tryz.prog.cellsOf 23 = 1 by kernel_rfl] at q
    exact q
  have f6 : DataW.trod enc Tryz.prog W 0 (fun _ => true) true n 26 [c6, c7] = some (y6.1, y6.2) := by
    have q : DataW.trod enc Tryz.prog W 0 (fun _ => true) true n 26 (([c0, c1, c2, c3, c4, c5, c6, c7, c8, c9].drop 6).take (Tryz.prog.cellsOf 26)) = some y6 := hf 6 _ rfl
    rw [show Tryz.prog.cellsOf 26 = 2 by kernel_rfl] at q
    exact q
  have f7 : DataW.trod enc Tryz.prog W 0 (fun _ => true) true n 24 [c8] = some (y7.1, y7.2) := by
    have q : DataW.trod enc Tryz.prog W 0 (fun _ => true) true n 24 (([c0, c1, c2, c3, c4, c5, c6, c7, c8, c9].drop 8).take (Tryz.prog.cellsOf 24)) = some y7 := hf 7 _ rfl
    rw [show Tryz.prog.cellsOf 24 = 1 by kernel_rfl] at q
    exact q
  have f8 : DataW.trod enc Tryz.prog W 0 (fun _ => true) true n 27 [c9] = some (y8.1, y8.2) := by
    have q : DataW.trod enc Tryz.prog W 0 (fun _ => true) true n 27 (([c0, c1, c2, c3, c4, c5, c6, c7, c8, c9].drop 9).take (Tryz.prog.cellsOf 27)) = some y8 := hf 8 _ rfl
    rw [show Tryz.prog.cellsOf 27 = 1 by kernel_rfl] at q
    exact q
  obtain ⟨x0, h0, e0, w0⟩ := DataW.trod_int Tryz.underlying3 f0
  injection e0 with e0 _; obtain rfl : c0 = _ := by simpa using h0
  obtain ⟨x1, h1, e1, w1⟩ := DataW.trod_int Tryz.underlying3 f1
  injection e1 with e1 _; obtain rfl : c1 = _ := by simpa using h1
  obtain ⟨x2, h2, e2, w2⟩ := DataW.trod_int Tryz.underlying3 f2
  injection e2 with e2 _; obtain rfl : c2 = _ := by simpa using h2
  obtain ⟨x3, h3, e3, w3⟩ := DataW.trod_int Tryz.underlying3 f3
  injection e3 with e3 _; obtain rfl : c3 = _ := by simpa using h3
  obtain ⟨x4, r4, b4⟩ := rd_rows H enc W n _ _ _ f4
  dsimp only at b4
  obtain ⟨x5, r5, b5⟩ := rd_KKs H enc W n _ _ _ f5
  dsimp only at b5
  obtain ⟨hi, ⟨rfl, whi⟩, ex, ⟨AL, nL, cL, hL, sL⟩, bL⟩ := rd_LL H enc W n _ _ _ _ f6
  obtain rfl : c7 = _ := by simpa using hL
  obtain ⟨x7, r7, b7⟩ := rd_i64s H enc W n _ _ _ f7
  dsimp only at b7
  obtain ⟨x8, r8, b8⟩ := rd_PPs H enc W n _ _ _ f8
  dsimp only at b8
  obtain ⟨A4, n4, k4, q4, s4⟩ := r4
  obtain rfl : c4 = _ := by simpa using q4
  obtain ⟨A5, n5, k5, q5, s5⟩ := r5
  obtain rfl : c5 = _ := by simpa using q5
  obtain ⟨A7, n7, k7, q7, s7⟩ := r7
  obtain rfl : c8 = _ := by simpa using q7
  obtain ⟨A8, n8, k8, q8, s8⟩ := r8
  obtain rfl : c9 = _ := by simpa using q8
  refine ⟨⟨x0, x1, x2, x3, x4, x5, ⟨hi, ex⟩, x7, x8⟩, ⟨A4, n4, k4, A5, n5, k5, AL, nL, cL, A7, n7, k7, A8, n8, k8, rfl, i64_wf w0, i64_wf w1, i64_wf w2, i64_wf w3, whi, s4, s5, sL, s7, s8⟩, ?_⟩
  have := msum_rows x4; rw [msum_const] at b5 b7; rw [msum_pred] at b8
  simp only [Rows.uptoBulk, Rows.uptoBulkAll, List.map_cons, List.map_nil]; rw [e0, e1, e2, e3]; simp only [Rows.uptoBulk, evLen]; omega
set_option maxRecDepth 100000 in
theorem rd_KD : RdT tKD 102 (keyedW) := by
  intro H enc W fuel cs d p hd
  obtain ⟨xs, n, _, hx, hl, hlen, hf⟩ := DataW.trod_struct Tryz.underlying102 hd
  injection hx with hx _; subst hx
  obtain ⟨y0, y1, rfl⟩ : ∃ y0 y1, xs = [y0, y1] := by match xs, hlen with | [y0, y1], _ => exact ⟨y0, y1, rfl⟩
  have hl2 : cs.length = 4 := hl.trans (by kernel_rfl)
  obtain ⟨c0, c1, c2, c3, rfl⟩ : ∃ c0 c1 c2 c3, cs = [c0, c1, c2, c3] := by match cs, hl2 with | [c0, c1, c2, c3], _ => exact ⟨c0, c1, c2, c3, rfl⟩
  have f0 : DataW.trod enc Tryz.prog W 0 (fun _ => true) true n 71 [c0, c1, c2] = some (y0.1, y0.2) := by
    have q : DataW.trod enc Tryz.prog W 0 (fun _ => true) true n 71 (([c0, c1, c2, c3].drop 0).take (Tryz.prog.cellsOf 71)) = some y0 := hf 0 _ rfl
    rw [show Tryz.prog.cellsOf 71 = 3 by kernel_rfl] at q
    exact q
  have f1 : DataW.trod enc Tryz.prog W 0 (fun _ => true) true n 51 [c3] = some (y1.1, y1.2) := by
    have q : DataW.trod enc Tryz.prog W 0 (fun _ => true) true n 51 (([c0, c1, c2, c3].drop 3).take (Tryz.prog.cellsOf 51)) = some y1 := hf 1 _ rfl
    rw [show Tryz.prog.cellsOf 51 = 1 by kernel_rfl] at q
    exact q
  obtain ⟨x0, r0, b0⟩ := rd_KK H enc W n _ _ _ f0
  dsimp only at b0
  obtain ⟨x1, r1, b1⟩ := rd_row H enc W n _ _ _ f1
  dsimp only at b1
  obtain ⟨rv0, ok0⟩ := r0
  injection rv0 with u0 rv0; injection rv0 with u1 rv0; injection rv0 with u2 _; subst u0 u1 u2
  obtain ⟨A1, n1, k1, q1, s1⟩ := r1
  obtain rfl : c3 = _ := by simpa using q1
  refine ⟨⟨x0, x1⟩, ⟨A1, n1, k1, rfl, ok0, s1⟩, ?_⟩
  have := msum_row x1
  simp only [Rows.uptoBulk, Rows.uptoBulkAll, List.map_cons, List.map_nil]; simp only [keyedW]; omega
theorem rd_KDs : RdT (tSl tKD) 46 (fun xs => msum keyedW xs + 250) := rd_slice Tryz.underlying46 (by kernel_rfl) rd_KD
theorem msum_keyed : ∀ xs : List KD, msum keyedW xs = keyedsW xs
  | [] => rfl
  | p :: r => by simp only [msum, keyedsW, msum_keyed r]
set_option maxRecDepth 100000 in
theorem rd_AA : RdT tAA 48 (ansW) := by
  intro H enc W fuel cs d p hd
  obtain ⟨xs, n, _, hx, hl, hlen, hf⟩ := DataW.trod_struct Tryz.underlying48 hd
  injection hx with hx _; subst hx
  obtain ⟨y0, y1, y2, y3, rfl⟩ : ∃ y0 y1 y2 y3, xs = [y0, y1, y2, y3] := by match xs, hlen with | [y0, y1, y2, y3], _ => exact ⟨y0, y1, y2, y3, rfl⟩
  have hl2 : cs.length = 5 := hl.trans (by kernel_rfl)
  obtain ⟨c0, c1, c2, c3, c4, rfl⟩ : ∃ c0 c1 c2 c3 c4, cs = [c0, c1, c2, c3, c4] := by match cs, hl2 with | [c0, c1, c2, c3, c4], _ => exact ⟨c0, c1, c2, c3, c4, rfl⟩
  have f0 : DataW.trod enc Tryz.prog W 0 (fun _ => true) true n 33 [c0] = some (y0.1, y0.2) := by
    have q : DataW.trod enc Tryz.prog W 0 (fun _ => true) true n 33 (([c0, c1, c2, c3, c4].drop 0).take (Tryz.prog.cellsOf 33)) = some y0 := hf 0 _ rfl
    rw [show Tryz.prog.cellsOf 33 = 1 by kernel_rfl] at q
    exact q
  have f1 : DataW.trod enc Tryz.prog W 0 (fun _ => true) true n 3 [c1] = some (y1.1, y1.2) := by
    have q : DataW.trod enc Tryz.prog W 0 (fun _ => true) true n 3 (([c0, c1, c2, c3, c4].drop 1).take (Tryz.prog.cellsOf 3)) = some y1 := hf 1 _ rfl
    rw [show Tryz.prog.cellsOf 3 = 1 by kernel_rfl] at q
    exact q
  have f2 : DataW.trod enc Tryz.prog W 0 (fun _ => true) true n 46 [c2] = some (y2.1, y2.2) := by
    have q : DataW.trod enc Tryz.prog W 0 (fun _ => true) true n 46 (([c0, c1, c2, c3, c4].drop 2).take (Tryz.prog.cellsOf 46)) = some y2 := hf 2 _ rfl
    rw [show Tryz.prog.cellsOf 46 = 1 by kernel_rfl] at q
    exact q
  have f3 : DataW.trod enc Tryz.prog W 0 (fun _ => true) true n 26 [c3, c4] = some (y3.1, y3.2) := by
    have q : DataW.trod enc Tryz.prog W 0 (fun _ => true) true n 26 (([c0, c1, c2, c3, c4].drop 3).take (Tryz.prog.cellsOf 26)) = some y3 := hf 3 _ rfl
    rw [show Tryz.prog.cellsOf 26 = 2 by kernel_rfl] at q
    exact q
  obtain ⟨x0, h0, e0, w0⟩ := DataW.trod_int Tryz.underlying33 f0
  injection e0 with e0 _; obtain rfl : c0 = _ := by simpa using h0
  obtain ⟨x1, h1, e1, w1⟩ := DataW.trod_int Tryz.underlying3 f1
  injection e1 with e1 _; obtain rfl : c1 = _ := by simpa using h1
  obtain ⟨x2, r2, b2⟩ := rd_KDs H enc W n _ _ _ f2
  dsimp only at b2
  obtain ⟨hi, ⟨rfl, whi⟩, ex, ⟨AL, nL, cL, hL, sL⟩, bL⟩ := rd_LL H enc W n _ _ _ _ f3
  obtain rfl : c4 = _ := by simpa using hL
  obtain ⟨A2, n2, k2, q2, s2⟩ := r2
  obtain rfl : c2 = _ := by simpa using q2
  refine ⟨⟨x0, x1, x2, ⟨hi, ex⟩⟩, ⟨A2, n2, k2, AL, nL, cL, rfl, i64_wf w0, i64_wf w1, whi, s2, sL⟩, ?_⟩
  rw [msum_keyed] at b2
  simp only [Rows.uptoBulk, Rows.uptoBulkAll, List.map_cons, List.map_nil]; rw [e0, e1]; simp only [Rows.uptoBulk, ansW]; omega
theorem rd_EEs : RdT (tSl tEE) 37 (fun xs => msum (fun e => evLen e + 100) xs + 250) := rd_slice Tryz.underlying37 (by kernel_rfl) rd_EE
theorem rd_AAs : RdT (tSl tAA) 49 (fun xs => msum ansW xs + 250) := rd_slice Tryz.underlying49 (by kernel_rfl) rd_AA
theorem msum_evs : ∀ xs : List EE, msum (fun e => evLen e + 100) xs = evsLen xs
  | [] => rfl
  | p :: r => by simp only [msum, evsLen, msum_evs r]
theorem msum_ans : ∀ xs : List AA, msum ansW xs = answersW xs
  | [] => rfl
  | p :: r => by simp only [msum, answersW, msum_ans r]
end Go.Proofs.YtojenpjafgfpaaaGreatDoor
/- What the lifts of all laws of this seat share. -/
namespace Go.Proofs.YtojenpjafgfpaaaGreatDoor
open Go Go.RowKit Go.ChangeShapes Go.WideShapes Go.ChangeAt Go.Deep

theorem evLen_one (e : EE) : evLen (oneE e) ≤ evLen e := by
  have hr : ∀ (l : List VV) (k : Nat), rowLen (l.take k) ≤ rowLen l := by
    intro l
    induction l with
    | nil => intro k; simp
    | cons v r ih => intro k; cases k with
      | zero => simp only [List.take_zero, rowLen]; have := rowLen_pos r; omega
      | succ k => simp only [List.take_succ_cons, rowLen]; have := ih k; omega
  have hrs : ∀ (l : List (List VV)) (k : Nat), rowsLen ((l.take k).map (·.take 8)) ≤ rowsLen l := by
    intro l
    induction l with
    | nil => intro k; simp [rowsLen]
    | cons v r ih => intro k; cases k with
      | zero => simp [rowsLen]
      | succ k => simp only [List.take_succ_cons, List.map_cons, rowsLen]; have := ih k; have := hr v 8; omega
  have hps : ∀ (l : List PP) (k : Nat), predLen ((l.take k).map oneP) ≤ predLen l := by
    intro l
    induction l with
    | nil => intro k; simp [predLen]
    | cons v r ih => intro k; cases k with
      | zero => simp [predLen]
      | succ k =>
        simp only [List.take_succ_cons, List.map_cons, predLen]
        have := ih k; have := hr v.vals 8
        have h2 : nodeLen (oneP v) ≤ nodeLen v := by simp only [nodeLen, oneP, List.length_take]; omega
        omega
  have h1 := hrs e.rows 12
  have h2 := hps e.pred 12
  simp only [evLen, oneE, List.length_take]; omega
theorem evsLen_few (l : List EE) : evsLen (fewE l) ≤ evsLen l := by
  have h : ∀ (l : List EE) (k : Nat), evsLen ((l.take k).map oneE) ≤ evsLen l := by
    intro l
    induction l with
    | nil => intro k; simp [evsLen]
    | cons v r ih => intro k; cases k with
      | zero => simp [evsLen]
      | succ k => simp only [List.take_succ_cons, List.map_cons, evsLen]; have := ih k; have := evLen_one v; omega
  exact h l 30

theorem own : ownKnob Tryz.prog.godebug = none := by kernel_rfl
theorem laidOut : laidOutB Tryz.prog = true := by kernel_rfl
theorem shaped_mx (W : World) (h : W.ShapedOpen Tryz.prog) : ∃ m, W.cell? ⟨0, 0, none⟩ = some (.int .i64 m) :=
  Go.Proofs.cell_of_shapedOpen_int (zero := #[.int .i64 0]) (t := 3) h (of_decide_eq_true (by kernel_rfl)) (by kernel_rfl) rfl (by kernel_rfl) (by kernel_rfl) Tryz.underlying3

/-- A world for the witness: the settled one, the three tables laid. -/
def valOf : DataW Unit → Value
  | .lit (.int k n) => .int k n
  | _ => .bool false
def cellsAt : DataW Unit → Array Value
  | .agg ps => (ps.map valOf).toArray
  | _ => #[]
def lay (cs : Array Value) : Obj → Obj
  | .cells _ t frozen => .cells cs t frozen
  | o => o
theorem u8_wf {n : Int} (h : (Lit.int .u8 n).wf = true) : 0 ≤ n ∧ n < 256 := by
  have : 0 ≤ n ∧ n ≤ 255 := by simpa [Lit.wf, IntKind.min, IntKind.max, IntKind.signed, IntKind.bits] using h
  omega
theorem rd_u8 {t : TypeId} (ht : Tryz.prog.underlying t = some (.int .u8)) : RdT tU8 t (fun _ => 250) := by
  intro H enc W fuel cs d p hd
  obtain ⟨n, rfl, hx, hw⟩ := DataW.trod_int ht hd
  injection hx with hx _; subst hx
  have hb := u8_wf hw
  refine ⟨UInt8.ofNat n.toNat, ?_, by simp [Rows.uptoBulk]⟩
  show [Value.int .u8 n] = [Value.int .u8 ((UInt8.ofNat n.toNat).toNat : Int)]
  have e : ((UInt8.ofNat n.toNat).toNat : Int) = n := by rw [UInt8.toNat_ofNat']; omega
  rw [e]
theorem rd_u8s : RdT (tSl tU8) 30 (fun xs => msum (fun _ => 250) xs + 250) := rd_slice Tryz.underlying30 (by kernel_rfl) (rd_u8 Tryz.underlying5)
end Go.Proofs.YtojenpjafgfpaaaGreatDoor
