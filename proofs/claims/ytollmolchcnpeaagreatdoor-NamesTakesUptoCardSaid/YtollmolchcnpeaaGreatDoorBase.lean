/- The closed facts of this seat's tables that the walks use, and the words for bytes. No condition. -/
import Derived.Test.YtollmolchcnpeaaGreatDoorRows
import Derived.Test.YtollmolchcnpeaaGreatDoorTy
namespace Go.Proofs.YtollmolchcnpeaaGreatDoor
open Go Go.RowKit

/-- A byte as a value; bytes as cells. -/
def bv (b : UInt8) : Value := .int .u8 (b.toNat : Int)
def bvs (l : List UInt8) : List Value := l.map bv
theorem bvs_length (l : List UInt8) : (bvs l).length = l.length := by simp [bvs]
theorem bvs_length1 (l : List UInt8) : (bvs l).length = l.length * 1 := by simp [bvs]
theorem bvs_one (l : List UInt8) : ∀ u ∈ bvs l, u.oneCell' = true := by
  intro u hu
  simp only [bvs, List.mem_map] at hu
  obtain ⟨b, _, rfl⟩ := hu
  rfl
theorem bvs_append (l m : List UInt8) : bvs (l ++ m) = bvs l ++ bvs m := by simp [bvs]
theorem bvs_get (l : List UInt8) (j : Nat) (h : j < l.length) : (bvs l)[j]? = some (.int .u8 ((l[j]'h).toNat : Int)) := by simp [bvs, bv, h]
theorem bvs_css (l : List UInt8) : (l.map fun b => [bv b]).flatten = bvs l := by
  induction l with
  | nil => rfl
  | cons b l ih => simp only [List.map_cons, List.flatten_cons, ih, bvs]; rfl
theorem reps_u8 (F : Nat → Prop) (w : World) (l : List UInt8) : Reps tU8 F w (l.map fun b => [bv b]) l := by
  refine ⟨by simp, fun i cs x h1 h2 => ?_⟩
  rw [List.getElem?_map, h2] at h1
  simp at h1
  exact h1.symm
theorem reps_u8_eq {F : Nat → Prop} {w : World} {css : List (List Value)} {l : List UInt8} (h : Reps tU8 F w css l) : css = l.map fun b => [bv b] := by
  refine List.ext_getElem? fun i => ?_
  rcases Nat.lt_or_ge i l.length with hi | hi
  · have hc : i < css.length := by rw [h.1]; exact hi
    have := h.2 i _ _ (List.getElem?_eq_getElem hc) (List.getElem?_eq_getElem hi)
    rw [List.getElem?_eq_getElem hc, List.getElem?_map, List.getElem?_eq_getElem hi, show css[i] = [bv l[i]] from this]
    rfl
  · rw [List.getElem?_eq_none (by rw [h.1]; exact hi), List.getElem?_eq_none (by simpa using hi)]

theorem infoByte : (Tryz.prog.info? 5).map (fun i => (i.zero, i.size, i.bytes)) = some (some (.int .u8 0), 1, 1) := by kernel_rfl
theorem elemBytes : ElemOf Tryz.prog 55 5 1 := ElemOf.mk' (by kernel_rfl) infoByte rfl (by decide) (by decide)
theorem undBytes : Tryz.prog.underlying 55 = some (.slice 5) := by kernel_rfl
theorem undInt : Tryz.prog.underlying 3 = some (.int .i64) := by kernel_rfl

/-- A slice of bytes that is read. -/
abbrev Bs (F : Nat → Prop) (w : World) (A : Option Addr) (n c : Nat) (bs : List UInt8) : Prop := Sl tU8 F w A n c bs
section
variable {F F' : Nat → Prop} {w w' : World} {A : Option Addr} {n c B : Nat} {l : List UInt8}
theorem bs_rd (h : Bs F w A n c l) : Rd F w A (bvs l) := by
  obtain ⟨_, _, _, css, h4, h5⟩ := h
  rw [reps_u8_eq h5, bvs_css] at h4
  exact h4
theorem bs_mk (h1 : Rd F w A (bvs l)) (h2 : n = l.length) (h3 : n ≤ c) (h4 : c ≤ maxLen) : Bs F w A n c l := ⟨h2, h3, h4, _, by rw [bvs_css]; exact h1, reps_u8 F w l⟩
theorem bs_at (h : Bs F w A n c l) {k : Nat} (hk : k < l.length) : ∃ b o, A = some ⟨b, o, none⟩ ∧ F b ∧ b < w.heap.size ∧ w.cell? ⟨b, o + k, none⟩ = some (.int .u8 ((l[k]'hk).toNat : Int)) :=
  (bs_rd h).at_ (bvs_get l k hk)

/-- The bytes bs, owned by a row from block B on. -/
def OwnB (w : World) (B : Nat) (A : Option Addr) (n c : Nat) (bs : List UInt8) : Prop := w.ownsRow B 5 1 (.slice A n c) n (bvs bs)
theorem OwnB.len (h : OwnB w B A n c l) : n = l.length := by
  have := h.1; simp [bvs] at this; exact this.symm
theorem OwnB.nil_ (w : World) (B : Nat) : OwnB w B none 0 0 [] := World.ownsRow_nil w B _ _
theorem OwnB.down (h : OwnB w B A n c l) {B' : Nat} (hB : B' ≤ B) : OwnB w B' A n c l := own_down h hB
theorem OwnB.rd (h : OwnB w B A n c l) : Rd (fun b => A = some ⟨b, 0, none⟩ ∧ B ≤ b) w A (bvs l) := Rd.own h
theorem OwnB.bs (h : OwnB w B A n c l) : Bs (fun b => A = some ⟨b, 0, none⟩ ∧ B ≤ b) w A n c l := bs_mk h.rd h.len (own_cap h).1 (own_cap h).2
theorem OwnB.ownF (h : OwnB w B A n c l) (hA : ∀ b o, A = some ⟨b, o, none⟩ → ¬ F b) : OwnF tU8 5 F w B A n c l := ⟨⟨_, by rw [bvs_css]; exact h, reps_u8 _ w l⟩, hA, h.len⟩
theorem OwnB.own (h : OwnB w B A n c l) : OwnF tU8 5 (fun _ => False) w B A n c l := h.ownF (by simp)
theorem OwnB.keepB (h : OwnB w B A n c l) (hb : Below w.heap.size w w') : OwnB w' B A n c l := own_keep h fun b hb' => hb.block b (h.lt b hb').2
end
theorem own_u8 {w : World} {B : Nat} {A : Option Addr} {n c : Nat} {l : List UInt8} (h : Own tU8 5 w B A n c l) : OwnB w B A n c l := by
  obtain ⟨F, ⟨css, h1, h3⟩, _, _⟩ := h
  rw [reps_u8_eq h3, bvs_css] at h1
  exact h1

/-- []byte(s). -/
def sbCap (w : World) (s : ByteArray) : Nat := grownCap w s.size 0 5
def sbObj (w : World) (s : ByteArray) : Obj := .cells (bytesRow s (sbCap w s)) 5 ((bytesRow s (sbCap w s)).size, (bytesRow s (sbCap w s)).size + 1)
theorem undString : Tryz.prog.underlying 9 = some .string := by kernel_rfl
theorem undByte : Tryz.prog.underlying 5 = some (.int .u8) := by kernel_rfl
theorem run_sb (w : World) (s : ByteArray) : (convert 9 55 (.string s)).run Tryz.prog w = .ok (.slice (some ⟨w.heap.size, 0, none⟩) s.size (sbCap w s)) (w.alloc (sbObj w s)).drew :=
  run_bytes_of_string w 9 55 5 s undString undBytes undByte
theorem sb_cap (w : World) (s : ByteArray) (hs : s.size ≤ maxLen) : s.size ≤ sbCap w s ∧ sbCap w s ≤ maxLen := ⟨grownCap_ge w s.size 0 5, grownCap_le_maxLen w _ _ _ hs⟩
theorem sb_bs {w w0 : World} {s : ByteArray} (hs : s.size ≤ maxLen) : Bs (fun b => b = w.heap.size) (w.alloc (sbObj w0 s)) (some ⟨w.heap.size, 0, none⟩) s.size (sbCap w0 s) s.data.toList := by
  refine bs_mk (fun _ => ⟨w.heap.size, 0, rfl, rfl, by rw [World.size_alloc]; omega, fun j u hu => ?_⟩) (show s.data.size = s.data.toList.length from Array.length_toList.symm) (sb_cap w0 s hs).1 (sb_cap w0 s hs).2
  have hj : j < s.data.size := by
    rcases Nat.lt_or_ge j s.data.size with h | h
    · exact h
    · rw [List.getElem?_eq_none (by simpa [bvs] using h)] at hu; cases hu
  rw [bvs_get _ _ (by simpa using hj)] at hu
  rw [Nat.zero_add, cell_of_row (w.alloc (sbObj w0 s)) w.heap.size j _ _ _ (heap_alloc_new w _), ← hu]
  unfold bytesRow
  rw [Array.getElem?_append_left (by simpa using hj), Array.getElem?_map, Array.getElem?_eq_getElem hj]
  simp

theorem sb_bsA {w w0 : World} {s : ByteArray} {k : Nat} (hs : s.size ≤ maxLen) (hk : k = w.heap.size) : Bs (fun _ => True) (w.alloc (sbObj w0 s)) (some ⟨k, 0, none⟩) s.size (sbCap w0 s) s.data.toList := by
  subst hk; exact (sb_bs hs).any

section
variable (w a0 : World) {ops : Array Oper} {rest : List Oper} {o : Oper} {a : Act} {Q : Exit → Act → World → Prop}
/-- append(b, c...) at bytes. -/
theorem wp_apb {K : Act → World → Prop} (s x : Operand) (ho : o.op = .call { callee := .builtin .append, args := #[s, x], argTypes := #[55, 55] }) (B : Nat) (A : Option Addr) (n c : Nat) (xs : List UInt8) (hs : a.eval s = .slice A n c)
    (hown : OwnB w B A n c xs) (hb : Below B a0 w) (hB : B ≤ a0.heap.size) (F : Nat → Prop) (A2 : Option Addr) (m c2 : Nat) (ys : List UInt8) (hx : a.eval x = .slice A2 m c2) (hsl : Bs F w A2 m c2 ys) (hlim : n + m ≤ 68719476736)
    (h : ∀ A' c' w', OwnB w' B A' (n + m) c' (xs ++ ys) → Below B a0 w' → w.grownBy w' (A.map (·.block)) → K (a.put o.dst (.slice A' (n + m) c')) w') : o.wp Tryz.prog a w K Q := by
  obtain ⟨h5, h6, h7, dss, h8, h9⟩ := hsl
  exact wp_aplR (T := tU8) elemBytes w a0 s x ho B A n c xs hs (fun _ => False) F (fun _ => False) hown.own hb hB A2 m c2 ys dss hx h5 h8 (h9.flat' flatU8) (fun _ _ _ _ h => h) hlim fun A' c' w' ha => h A' c' w' (own_u8 ⟨_, ha.own⟩) ha.below ha.grown
theorem apb (hgd : o.guard = none) (s x : Operand) (ho : o.op = .call { callee := .builtin .append, args := #[s, x], argTypes := #[55, 55] }) (B : Nat) (A : Option Addr) (n c : Nat) (xs : List UInt8) (hs : a.eval s = .slice A n c)
    (hown : OwnB w B A n c xs) (hb : Below B a0 w) (hB : B ≤ a0.heap.size) (F : Nat → Prop) (A2 : Option Addr) (m c2 : Nat) (ys : List UInt8) (hx : a.eval x = .slice A2 m c2) (hsl : Bs F w A2 m c2 ys) (hlim : n + m ≤ 68719476736)
    (h : ∀ A' c' w', OwnB w' B A' (n + m) c' (xs ++ ys) → Below B a0 w' → w.grownBy w' (A.map (·.block)) → wpList Tryz.prog ops Q rest (a.put o.dst (.slice A' (n + m) c')) w') : wpList Tryz.prog ops Q (o :: rest) a w :=
  wpList_plain hgd fun _ hK => wp_apb w a0 s x ho B A n c xs hs hown hb hB F A2 m c2 ys hx hsl hlim fun A' c' w' h1 h2 h3 => hK _ _ (h A' c' w' h1 h2 h3)
/-- append(b, c) at bytes. -/
theorem wp_apb1 {K : Act → World → Prop} (s x : Operand) (ho : o.op = .call { callee := .builtin .append, args := #[s, x], argTypes := #[55, 55] }) (B : Nat) (A : Option Addr) (n c : Nat) (xs : List UInt8) (hs : a.eval s = .slice A n c)
    (hown : OwnB w B A n c xs) (hb : Below B a0 w) (hB : B ≤ a0.heap.size) (obj : Obj) (hx : a.eval x = .slice (some ⟨w.heap.size, 0, none⟩) 1 1) (y : UInt8) (hobj : obj = .cells #[.int .u8 (y.toNat : Int)] 5) (hlim : n ≤ 34359738368)
    (h : ∀ A' c' w', OwnB w' B A' (n + 1) c' (xs ++ [y]) → Below B a0 w' → (w.alloc obj).grownBy w' (A.map (·.block)) → K (a.put o.dst (.slice A' (n + 1) c')) w') : o.wp Tryz.prog a (w.alloc obj) K Q :=
  wp_apl1 (T := tU8) elemBytes w a0 s x ho B A n c xs hs (fun _ => False) (fun _ => False) hown.own hb hB obj hx [.int .u8 (y.toNat : Int)] y rfl 5 hobj (fun _ _ _ _ h => h) hlim fun A' c' w' ha => h A' c' w' (own_u8 ⟨_, ha.own⟩) ha.below ha.grown
theorem apb1 (hgd : o.guard = none) (s x : Operand) (ho : o.op = .call { callee := .builtin .append, args := #[s, x], argTypes := #[55, 55] }) (B : Nat) (A : Option Addr) (n c : Nat) (xs : List UInt8) (hs : a.eval s = .slice A n c)
    (hown : OwnB w B A n c xs) (hb : Below B a0 w) (hB : B ≤ a0.heap.size) (obj : Obj) (hx : a.eval x = .slice (some ⟨w.heap.size, 0, none⟩) 1 1) (y : UInt8) (hobj : obj = .cells #[.int .u8 (y.toNat : Int)] 5) (hlim : n ≤ 34359738368)
    (h : ∀ A' c' w', OwnB w' B A' (n + 1) c' (xs ++ [y]) → Below B a0 w' → (w.alloc obj).grownBy w' (A.map (·.block)) → wpList Tryz.prog ops Q rest (a.put o.dst (.slice A' (n + 1) c')) w') : wpList Tryz.prog ops Q (o :: rest) a (w.alloc obj) :=
  wpList_plain hgd fun _ hK => wp_apb1 w a0 s x ho B A n c xs hs hown hb hB obj hx y hobj hlim fun A' c' w' h1 h2 h3 => hK _ _ (h A' c' w' h1 h2 h3)
end

/-- What a call of the pure part leaves, whose result is bytes of its own. -/
def Own1 (w : World) (bs : List UInt8) (e : Ending) (w' : World) : Prop :=
  ∃ A n c, e = .returned (.slice A n c) ∧ OwnB w' w.heap.size A n c bs ∧ Below w.heap.size w w'
end Go.Proofs.YtollmolchcnpeaaGreatDoor
