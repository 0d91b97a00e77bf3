/- The closed facts of this seat's tables that the walks use, and the words for bytes. No condition. slices.Grow at nil, and slices.Concat, at the element types that this claim meets: any slices, any elements. The layer varint: its functions compute the plain functions of the specification, whatever the arguments (bytes of at most 2^32). Widths and their codes; how many bits. Plain Lean; no program in sight. Runs of numbers: what each kind lays down; the shortest; where a run ends. Plain Lean; no program in sight. -/
import Derived.Test.YtpmglcachffojaaGreatDoorPk2
import Derived.Test.YtpmglcachffojaaGreatDoorRows
import Derived.Test.YtpmglcachffojaaGreatDoorPk1
import Derived.Lib.AppendZerosOnto
import Derived.Deep.RegionHeld3
import Derived.Deep.DrawnRows
import Derived.Lib.ItoaNum
namespace Go.Proofs.YtpmglcachffojaaGreatDoor
open Go Go.RowKit

/-- A byte as a value; bytes as cells. -/
def bv (b : UInt8) : Value := .int .u8 (b.toNat : Int)
def bvs (l : List UInt8) : List Value := l.map bv
theorem bvs_length (l : List UInt8) : (bvs l).length = l.length := by simp [bvs]
theorem bvs_length1 (l : List UInt8) : (bvs l).length = l.length * 1 := by simp [bvs]
theorem bvs_one (l : List UInt8) : ∀ u ∈ bvs l, u.oneCell' = true := by
  intro u hu
  simp only [bvs, List.mem_map] at hu
  obtain ⟨b, _, rfl⟩ := hu
  rfl
theorem bvs_append (l m : List UInt8) : bvs (l ++ m) = bvs l ++ bvs m := by simp [bvs]
theorem bvs_get (l : List UInt8) (j : Nat) (h : j < l.length) : (bvs l)[j]? = some (.int .u8 ((l[j]'h).toNat : Int)) := by simp [bvs, bv, h]
theorem bvs_css (l : List UInt8) : (l.map fun b => [bv b]).flatten = bvs l := by
  induction l with
  | nil => rfl
  | cons b l ih => simp only [List.map_cons, List.flatten_cons, ih, bvs]; rfl
theorem reps_u8 (F : Nat → Prop) (w : World) (l : List UInt8) : Reps tU8 F w (l.map fun b => [bv b]) l := by
  refine ⟨by simp, fun i cs x h1 h2 => ?_⟩
  rw [List.getElem?_map, h2] at h1
  simp at h1
  exact h1.symm
theorem reps_u8_eq {F : Nat → Prop} {w : World} {css : List (List Value)} {l : List UInt8} (h : Reps tU8 F w css l) : css = l.map fun b => [bv b] := by
  refine List.ext_getElem? fun i => ?_
  rcases Nat.lt_or_ge i l.length with hi | hi
  · have hc : i < css.length := by rw [h.1]; exact hi
    have := h.2 i _ _ (List.getElem?_eq_getElem hc) (List.getElem?_eq_getElem hi)
    rw [List.getElem?_eq_getElem hc, List.getElem?_map, List.getElem?_eq_getElem hi, show css[i] = [bv l[i]] from this]
    rfl
  · rw [List.getElem?_eq_none (by rw [h.1]; exact hi), List.getElem?_eq_none (by simpa using hi)]

theorem infoByte : (Tryz.prog.info? 5).map (fun i => (i.zero, i.size, i.bytes)) = some (some (.int .u8 0), 1, 1) := by kernel_rfl
theorem elemBytes : ElemOf Tryz.prog 41 5 1 := ElemOf.mk' (by kernel_rfl) infoByte rfl (by decide) (by decide)
theorem undBytes : Tryz.prog.underlying 41 = some (.slice 5) := by kernel_rfl
theorem undInt : Tryz.prog.underlying 3 = some (.int .i64) := by kernel_rfl

/-- A slice of bytes that is read. -/
abbrev Bs (F : Nat → Prop) (w : World) (A : Option Addr) (n c : Nat) (bs : List UInt8) : Prop := Sl tU8 F w A n c bs
section
variable {F F' : Nat → Prop} {w w' : World} {A : Option Addr} {n c B : Nat} {l : List UInt8}
theorem bs_rd (h : Bs F w A n c l) : Rd F w A (bvs l) := by
  obtain ⟨_, _, _, css, h4, h5⟩ := h
  rw [reps_u8_eq h5, bvs_css] at h4
  exact h4
theorem bs_mk (h1 : Rd F w A (bvs l)) (h2 : n = l.length) (h3 : n ≤ c) (h4 : c ≤ maxLen) : Bs F w A n c l := ⟨h2, h3, h4, _, by rw [bvs_css]; exact h1, reps_u8 F w l⟩
theorem bs_at (h : Bs F w A n c l) {k : Nat} (hk : k < l.length) : ∃ b o, A = some ⟨b, o, none⟩ ∧ F b ∧ b < w.heap.size ∧ w.cell? ⟨b, o + k, none⟩ = some (.int .u8 ((l[k]'hk).toNat : Int)) :=
  (bs_rd h).at_ (bvs_get l k hk)

/-- The bytes bs, owned by a row from block B on. -/
def OwnB (w : World) (B : Nat) (A : Option Addr) (n c : Nat) (bs : List UInt8) : Prop := w.ownsRow B 5 1 (.slice A n c) n (bvs bs)
theorem OwnB.len (h : OwnB w B A n c l) : n = l.length := by
  have := h.1; simp [bvs] at this; exact this.symm
theorem OwnB.nil_ (w : World) (B : Nat) : OwnB w B none 0 0 [] := World.ownsRow_nil w B _ _
theorem OwnB.down (h : OwnB w B A n c l) {B' : Nat} (hB : B' ≤ B) : OwnB w B' A n c l := own_down h hB
theorem OwnB.rd (h : OwnB w B A n c l) : Rd (fun b => A = some ⟨b, 0, none⟩ ∧ B ≤ b) w A (bvs l) := Rd.own h
theorem OwnB.bs (h : OwnB w B A n c l) : Bs (fun b => A = some ⟨b, 0, none⟩ ∧ B ≤ b) w A n c l := bs_mk h.rd h.len (own_cap h).1 (own_cap h).2
theorem OwnB.ownF (h : OwnB w B A n c l) (hA : ∀ b o, A = some ⟨b, o, none⟩ → ¬ F b) : OwnF tU8 5 F w B A n c l := ⟨⟨_, by rw [bvs_css]; exact h, reps_u8 _ w l⟩, hA, h.len⟩
theorem OwnB.own (h : OwnB w B A n c l) : OwnF tU8 5 (fun _ => False) w B A n c l := h.ownF (by simp)
theorem OwnB.keepB (h : OwnB w B A n c l) (hb : Below w.heap.size w w') : OwnB w' B A n c l := own_keep h fun b hb' => hb.block b (h.lt b hb').2
end
theorem own_u8 {w : World} {B : Nat} {A : Option Addr} {n c : Nat} {l : List UInt8} (h : Own tU8 5 w B A n c l) : OwnB w B A n c l := by
  obtain ⟨F, ⟨css, h1, h3⟩, _, _⟩ := h
  rw [reps_u8_eq h3, bvs_css] at h1
  exact h1

/-- []byte(s). -/
def sbCap (w : World) (s : ByteArray) : Nat := grownCap w s.size 0 5
def sbObj (w : World) (s : ByteArray) : Obj := .cells (bytesRow s (sbCap w s)) 5 ((bytesRow s (sbCap w s)).size, (bytesRow s (sbCap w s)).size + 1)
theorem undString : Tryz.prog.underlying 9 = some .string := by kernel_rfl
theorem undByte : Tryz.prog.underlying 5 = some (.int .u8) := by kernel_rfl
theorem run_sb (w : World) (s : ByteArray) : (convert 9 41 (.string s)).run Tryz.prog w = .ok (.slice (some ⟨w.heap.size, 0, none⟩) s.size (sbCap w s)) (w.alloc (sbObj w s)).drew :=
  run_bytes_of_string w 9 41 5 s undString undBytes undByte
theorem sb_cap (w : World) (s : ByteArray) (hs : s.size ≤ maxLen) : s.size ≤ sbCap w s ∧ sbCap w s ≤ maxLen := ⟨grownCap_ge w s.size 0 5, grownCap_le_maxLen w _ _ _ hs⟩
theorem sb_bs {w w0 : World} {s : ByteArray} (hs : s.size ≤ maxLen) : Bs (fun b => b = w.heap.size) (w.alloc (sbObj w0 s)) (some ⟨w.heap.size, 0, none⟩) s.size (sbCap w0 s) s.data.toList := by
  refine bs_mk (fun _ => ⟨w.heap.size, 0, rfl, rfl, by rw [World.size_alloc]; omega, fun j u hu => ?_⟩) (show s.data.size = s.data.toList.length from Array.length_toList.symm) (sb_cap w0 s hs).1 (sb_cap w0 s hs).2
  have hj : j < s.data.size := by
    rcases Nat.lt_or_ge j s.data.size with h | h
    · exact h
    · rw [List.getElem?_eq_none (by simpa [bvs] using h)] at hu; cases hu
  rw [bvs_get _ _ (by simpa using hj)] at hu
  rw [Nat.zero_add, cell_of_row (w.alloc (sbObj w0 s)) w.heap.size j _ _ _ (heap_alloc_new w _), ← hu]
  unfold bytesRow
  rw [Array.getElem?_append_left (by simpa using hj), Array.getElem?_map, Array.getElem?_eq_getElem hj]
  simp

theorem sb_bsA {w w0 : World} {s : ByteArray} {k : Nat} (hs : s.size ≤ maxLen) (hk : k = w.heap.size) : Bs (fun _ => True) (w.alloc (sbObj w0 s)) (some ⟨k, 0, none⟩) s.size (sbCap w0 s) s.data.toList := by
  subst hk; exact (sb_bs hs).any

section
variable (w a0 : World) {ops : Array Oper} {rest : List Oper} {o : Oper} {a : Act} {Q : Exit → Act → World → Prop}
/-- append(b, c...) at bytes. -/
theorem wp_apb {K : Act → World → Prop} (s x : Operand) (ho : o.op = .call { callee := .builtin .append, args := #[s, x], argTypes := #[41, 41] }) (B : Nat) (A : Option Addr) (n c : Nat) (xs : List UInt8) (hs : a.eval s = .slice A n c)
    (hown : OwnB w B A n c xs) (hb : Below B a0 w) (hB : B ≤ a0.heap.size) (F : Nat → Prop) (A2 : Option Addr) (m c2 : Nat) (ys : List UInt8) (hx : a.eval x = .slice A2 m c2) (hsl : Bs F w A2 m c2 ys) (hlim : n + m ≤ 68719476736)
    (h : ∀ A' c' w', OwnB w' B A' (n + m) c' (xs ++ ys) → Below B a0 w' → w.grownBy w' (A.map (·.block)) → K (a.put o.dst (.slice A' (n + m) c')) w') : o.wp Tryz.prog a w K Q := by
  obtain ⟨h5, h6, h7, dss, h8, h9⟩ := hsl
  exact wp_aplR (T := tU8) elemBytes w a0 s x ho B A n c xs hs (fun _ => False) F (fun _ => False) hown.own hb hB A2 m c2 ys dss hx h5 h8 (h9.flat' flatU8) (fun _ _ _ _ h => h) hlim fun A' c' w' ha => h A' c' w' (own_u8 ⟨_, ha.own⟩) ha.below ha.grown
theorem apb (hgd : o.guard = none) (s x : Operand) (ho : o.op = .call { callee := .builtin .append, args := #[s, x], argTypes := #[41, 41] }) (B : Nat) (A : Option Addr) (n c : Nat) (xs : List UInt8) (hs : a.eval s = .slice A n c)
    (hown : OwnB w B A n c xs) (hb : Below B a0 w) (hB : B ≤ a0.heap.size) (F : Nat → Prop) (A2 : Option Addr) (m c2 : Nat) (ys : List UInt8) (hx : a.eval x = .slice A2 m c2) (hsl : Bs F w A2 m c2 ys) (hlim : n + m ≤ 68719476736)
    (h : ∀ A' c' w', OwnB w' B A' (n + m) c' (xs ++ ys) → Below B a0 w' → w.grownBy w' (A.map (·.block)) → wpList Tryz.prog ops Q rest (a.put o.dst (.slice A' (n + m) c')) w') : wpList Tryz.prog ops Q (o :: rest) a w :=
  wpList_plain hgd fun _ hK => wp_apb w a0 s x ho B A n c xs hs hown hb hB F A2 m c2 ys hx hsl hlim fun A' c' w' h1 h2 h3 => hK _ _ (h A' c' w' h1 h2 h3)
/-- append(b, c) at bytes. -/
theorem wp_apb1 {K : Act → World → Prop} (s x : Operand) (ho : o.op = .call { callee := .builtin .append, args := #[s, x], argTypes := #[41, 41] }) (B : Nat) (A : Option Addr) (n c : Nat) (xs : List UInt8) (hs : a.eval s = .slice A n c)
    (hown : OwnB w B A n c xs) (hb : Below B a0 w) (hB : B ≤ a0.heap.size) (obj : Obj) (hx : a.eval x = .slice (some ⟨w.heap.size, 0, none⟩) 1 1) (y : UInt8) (hobj : obj = .cells #[.int .u8 (y.toNat : Int)] 5) (hlim : n ≤ 34359738368)
    (h : ∀ A' c' w', OwnB w' B A' (n + 1) c' (xs ++ [y]) → Below B a0 w' → (w.alloc obj).grownBy w' (A.map (·.block)) → K (a.put o.dst (.slice A' (n + 1) c')) w') : o.wp Tryz.prog a (w.alloc obj) K Q :=
  wp_apl1 (T := tU8) elemBytes w a0 s x ho B A n c xs hs (fun _ => False) (fun _ => False) hown.own hb hB obj hx [.int .u8 (y.toNat : Int)] y rfl 5 hobj (fun _ _ _ _ h => h) hlim fun A' c' w' ha => h A' c' w' (own_u8 ⟨_, ha.own⟩) ha.below ha.grown
theorem apb1 (hgd : o.guard = none) (s x : Operand) (ho : o.op = .call { callee := .builtin .append, args := #[s, x], argTypes := #[41, 41] }) (B : Nat) (A : Option Addr) (n c : Nat) (xs : List UInt8) (hs : a.eval s = .slice A n c)
    (hown : OwnB w B A n c xs) (hb : Below B a0 w) (hB : B ≤ a0.heap.size) (obj : Obj) (hx : a.eval x = .slice (some ⟨w.heap.size, 0, none⟩) 1 1) (y : UInt8) (hobj : obj = .cells #[.int .u8 (y.toNat : Int)] 5) (hlim : n ≤ 34359738368)
    (h : ∀ A' c' w', OwnB w' B A' (n + 1) c' (xs ++ [y]) → Below B a0 w' → (w.alloc obj).grownBy w' (A.map (·.block)) → wpList Tryz.prog ops Q rest (a.put o.dst (.slice A' (n + 1) c')) w') : wpList Tryz.prog ops Q (o :: rest) a (w.alloc obj) :=
  wpList_plain hgd fun _ hK => wp_apb1 w a0 s x ho B A n c xs hs hown hb hB obj hx y hobj hlim fun A' c' w' h1 h2 h3 => hK _ _ (h A' c' w' h1 h2 h3)
end

/-- What a call of the pure part leaves, whose result is bytes of its own. -/
def Own1 (w : World) (bs : List UInt8) (e : Ending) (w' : World) : Prop :=
  ∃ A n c, e = .returned (.slice A n c) ∧ OwnB w' w.heap.size A n c bs ∧ Below w.heap.size w w'
end Go.Proofs.YtpmglcachffojaaGreatDoor
namespace Go.Proofs.YtpmglcachffojaaGreatDoor
open Go Go.RowKit

/-- append(nil, make([]E, n)...): a row of zeroes of its own. -/
theorem run_append_make {P : Program} {t tn e : TypeId} {size : Nat} (E : ElemOf P t e size) (htn : P.underlying tn = some (.int .i64)) (ty : TypeId) (w : World) (k : Nat) (h0 : 0 < k) (hk : k ≤ 4294967296) :
    ∃ cap w', (Builtin.append_ #[t, tn] ty #[.slice none 0 0, .int .i64 (k : Int)]).run P w = .ok (.slice (some ⟨w.heap.size, 0, none⟩) k cap) w' ∧ k ≤ cap ∧ w'.ownsRow w.heap.size e size (.slice (some ⟨w.heap.size, 0, none⟩) 0 cap) 0 [] ∧ Below w.heap.size w w' := by
  obtain ⟨ht, i, z, hi, hz, hs, hby, hzs, hsz⟩ := E
  have hcap : ∀ w : World, k ≤ grownCap w (0 + k) 0 e ∧ grownCap w (0 + k) 0 e ≤ maxLen := fun w => by
    have h1 := grownCap_ge w (0 + k) 0 e
    exact ⟨by omega, grownCap_le_maxLen w _ _ e (by simp only [maxLen]; omega)⟩
  have hb : k * i.bytes ≤ 4294967296 * 1024 := Nat.mul_le_mul hk hby
  have hfit : Builtin.nextslicecap (0 + k) 0 * i.bytes ≤ 281474976710656 := by
    have h1 : 0 < 0 + k := by omega
    exact growslice_fits h1 (by rw [Nat.zero_add]; omega)
  have h := Lib.run_append_grow_zeros (P := P) w t tn ty e i z .i64 .i64 ht htn hi hz none 0 0 [] (by simp [Builtin.firstCells]) k h0 (by omega) (by omega) (by omega) (by omega) hfit
  simp only [Nat.zero_add] at h hcap
  have hc := hcap w
  refine ⟨grownCap w k 0 e, _, h, hc.1, ⟨by simp, .inr ⟨w.heap.size, _, _, rfl, Nat.le_refl _, heap_alloc_new w.drew _, Nat.zero_le _, hc.2, ?_, by simp⟩⟩, ((Below.refl _ w).drew).alloc (by simp) _⟩
  have hz' : ∀ m, (Builtin.zeroCells z.cells m).size = m * size := fun m => by simp [Builtin.zeroCells, hzs]
  simp only [Array.size_append, hz']
  rw [show (([] : List Value).toArray).size = 0 from rfl, Nat.zero_add, ← Nat.add_mul]
  congr 1
  omega

/-! []uint8 -/
theorem ssB : Tryz.prog.underlying 309 = some (.slice 41) := by kernel_rfl
set_option maxRecDepth 100000 in
set_option maxHeartbeats 400000 in
theorem growB_nil {size : Nat} (E : ElemOf Tryz.prog 41 5 size) (n : Nat) (w : World) (hn : n ≤ 4294967296) :
    Calls Tryz.prog 270 #[.slice none 0 0, .int .i64 (n : Int)] w fun e w' => ∃ A c, e = .returned (.slice A 0 c) ∧ w'.ownsRow w.heap.size 5 size (.slice A 0 c) 0 [] ∧ Below w.heap.size w w' := by
  rcases Nat.eq_zero_or_pos n with rfl | h0
  · go_enter Tryz.func270, Tryz.ntmps270
    go_wp2
    go_ret
    exact ⟨none, 0, rfl, World.ownsRow_nil _ _ _ _, Below.refl _ _⟩
  · obtain ⟨cap, w', hrun, hc, hown, hb⟩ := run_append_make E undInt 41 w n h0 hn
    have h0' : (0 : Int) < (n : Int) := by omega
    have hcap := (own_cap hown).2
    unfold maxLen at hcap
    go_enter Tryz.func270, Tryz.ntmps270
    go_wp2_with (at_builtin; refine Lib.wpList_append_run _ rfl _ _ _ _ rfl _ _ rfl rfl _ _ hrun ?_)
    go_ret
    exact ⟨_, cap, rfl, hown, hb⟩
set_option maxRecDepth 100000 in
set_option maxHeartbeats 400000 in
theorem cloneB_any {α : Type} {T : Ty α} (E : ElemOf Tryz.prog 41 5 T.size) (F : Nat → Prop) (A : Option Addr) (n c : Nat) (l : List α) (w : World) (h : Sl T F w A n c l) (hFl : ¬ F w.heap.size) (hL : n ≤ 4294967296) :
    Calls Tryz.prog 181 #[.slice A n c] w fun e w' => ∃ A' n' c', e = .returned (.slice A' n' c') ∧ Own T 5 w' w.heap.size A' n' c' l ∧ Below w.heap.size w w' := by
  obtain ⟨hlen, hcap, hmax, css, hrd, hr⟩ := h
  have hsz : 0 < T.size := by obtain ⟨_, _, _, _, _, _, _, _, h⟩ := E; exact h
  rcases A with _ | ad
  · have hn : l = [] := by
      rcases l with _ | ⟨b, l⟩
      · rfl
      · obtain ⟨_, _, h, _⟩ := hrd (by intro he; have := hr.flat; rw [he] at this; have h2 : 0 < (b :: l).length * T.size := Nat.mul_pos (by simp) hsz; rw [← this] at h2; simp at h2)
        cases h
    subst hn
    clear hrd hlen
    have heq : (binOp .eql 41 (.slice none n c) (.slice none 0 0)).run Tryz.prog w = .ok (.bool true) w := Lib.run_eql_slice_nil w 41 5 none n c 0 0 E.und
    go_enter Tryz.func181, Tryz.ntmps181
    go_wp2
    go_ret
    exact ⟨none, 0, 0, rfl, Own.nil_ _ _ _ _, Below.refl _ _⟩
  · have heq : (binOp .eql 41 (.slice (some ad) n c) (.slice none 0 0)).run Tryz.prog w = .ok (.bool false) w := Lib.run_eql_slice_nil w 41 5 (some ad) n c 0 0 E.und
    have HL := Lib.hid hlen; clear hlen
    have hlit : (w.alloc (.cells #[] 5)).ownsRow w.heap.size 5 T.size (.slice (some ⟨w.heap.size, 0, none⟩) 0 0) 0 [] := World.ownsRow_lit w #[] 0 (Nat.le_refl _) (by simp [maxLen]) (by simp)
    have hown0 : OwnF T 5 (fun _ => False) (w.alloc (.cells #[] 5)) w.heap.size (some ⟨w.heap.size, 0, none⟩) 0 0 [] := ⟨⟨[], hlit, Reps.nil_⟩, fun _ _ _ h => h, rfl⟩
    have hsl : Sl T F w (some ad) n c l := ⟨HL.out, hcap, hmax, css, hrd, hr⟩
    clear hlit
    have hFd : ∀ b, (some ⟨w.heap.size, 0, none⟩ : Option Addr) = some ⟨b, 0, none⟩ → F b → False := fun b h1 h2 => by injection h1 with h1; injection h1 with h1; subst h1; exact hFl h2
    go_enter Tryz.func181, Tryz.ntmps181
    go_wp2_with (at_builtin; go_loud (refine apl E _ w rfl (.tmp 5) (.tmp 6) rfl w.heap.size (some ⟨w.heap.size, 0, none⟩) 0 0 [] rfl (fun _ => False) F hown0 ((Below.refl _ w).alloc (Nat.le_refl _) _) (Nat.le_refl _) (some ad) n c l rfl (hsl.alloc _) (fun b h1 _ _ h2 => hFd b h1 h2) (by omega) ?_); intro A1 c1 w1 h1)
    go_ret
    exact ⟨A1, _, c1, rfl, ⟨_, by simpa using h1.own⟩, h1.below⟩
def totB {α : Type} (l : List (List α)) (k : Nat) : Nat := (l.take k).flatten.length
theorem totB_succ {α : Type} (l : List (List α)) (k : Nat) (h : k < l.length) : totB l (k + 1) = totB l k + (l[k]'h).length := by
  unfold totB
  rw [List.take_succ_eq_append_getElem h, List.flatten_append]
  simp only [List.length_append, List.flatten_cons, List.flatten_nil, List.append_nil]
theorem totB_zero {α : Type} (l : List (List α)) : totB l 0 = 0 := by simp [totB]
theorem totB_le {α : Type} (l : List (List α)) (k : Nat) : totB l k ≤ l.flatten.length := by
  unfold totB
  rw [show l.flatten = (l.take k).flatten ++ (l.drop k).flatten by rw [← List.flatten_append, List.take_append_drop]]
  simp
set_option maxRecDepth 100000 in
set_option maxHeartbeats 1000000 in
theorem concatB_any {α : Type} {T : Ty α} (E : ElemOf Tryz.prog 41 5 T.size) (F : Nat → Prop) (A : Option Addr) (n c : Nat) (l : List (List α)) (w : World) (h : Sl (tSl T) F w A n c l) (hn : n ≤ 4294967296) (hl : l.flatten.length ≤ 4294967296) :
    Calls Tryz.prog 224 #[.slice A n c] w fun e w' => ∃ A' n' c', e = .returned (.slice A' n' c') ∧ Own T 5 w' w.heap.size A' n' c' l.flatten ∧ Below w.heap.size w w' := by
  have HL := Lib.hid h.len
  have hle := totB_le l
  go_enter Tryz.func224, Tryz.ntmps224
  go_wp2
  go_loop [3, 11] (fun s i => ∃ k : Nat, k ≤ n ∧ i = .int .i64 k ∧ s = .int .i64 (totB l k : Nat)) (fun _ i => n - (intOf i).toNat)
  case atStart => exact ⟨0, Nat.zero_le _, rfl, rfl⟩
  case round =>
    obtain ⟨k, hk, rfl, rfl⟩ := hrel
    have h1 := hle k
    by_cases hlt : k < n
    · have h2 := hle (k + 1)
      have hkl : k < l.length := by rw [← HL.out]; exact hlt
      have H3 := Lib.hid (totB_succ l k hkl)
      obtain ⟨b, o, u, rfl, _, _, hu, hc⟩ := h.at1 hkl rfl
      obtain ⟨Ak, nk, ck, hu, hsl⟩ := hu
      obtain rfl : u = .slice Ak nk ck := by simpa using hu
      have H4 := Lib.hid hsl.len
      have h5 : totB l k + nk = totB l (k + 1) := by rw [H3.out, H4.out]
      have h6 : totB l k + nk ≤ l.flatten.length := by rw [h5]; exact h2
      have H5 := Lib.hid h5; clear h5 hu
      go_wp2
      go_round
      case rel => exact ⟨k + 1, by omega, by go_num, by rw [← H5.out]; go_num⟩
      case measure => simp [intOf]; omega
    · obtain rfl : k = n := by omega
      have hF : ∃ F', Sl (tSl T) F' w A k c l ∧ ∀ b, F' b → b < w.heap.size := ⟨_, h.weaken (F' := fun b => F b ∧ b < w.heap.size) (fun b h1 h2 => ⟨h1, h2⟩), fun b h => h.2⟩
      obtain ⟨F', h', hF'⟩ := hF
      clear h
      have hz := totB_zero l
      have HZ := Lib.hid hz; clear hz
      go_wp2_with (go_at_call 270; refine (growB_nil E (totB l k) w (by omega)).mono ?_; rintro e w1 ⟨A1, c1, rfl, hown, hb⟩)
      go_loopw [6, 27] (fun v i wr => ∃ (j : Nat) (A2 : Option Addr) (m c2 : Nat) (G : Nat → Prop), j ≤ k ∧ i = .int .i64 j ∧ v = .slice A2 m c2 ∧ OwnF T 5 G wr w.heap.size A2 m c2 (l.take j).flatten ∧ Below w.heap.size w wr) (fun _ i _ => k - (intOf i).toNat)
      case atStart => exact ⟨0, A1, 0, c1, fun _ => False, Nat.zero_le _, rfl, rfl, ⟨⟨[], hown, Reps.nil_⟩, fun _ _ _ h => h, rfl⟩, hb⟩
      case round =>
        obtain ⟨j, A2, m, c2, G, hj, rfl, rfl, hown2, hb2⟩ := hrel
        have hj1 := hle j
        by_cases hlt2 : j < k
        · have hj2 := hle (j + 1)
          have hkl : j < l.length := by rw [← HL.out]; exact hlt2
          have H3 := Lib.hid (totB_succ l j hkl)
          have hwr := h'.below hb2 (Nat.le_refl _)
          obtain ⟨b, o, u, rfl, hFb, _, hu, hc⟩ := hwr.at1 hkl rfl
          obtain ⟨Ak, nk, ck, hu, hsl⟩ := hu
          obtain rfl : u = .slice Ak nk ck := by simpa using hu
          clear hu hwr
          have h6 : m + nk ≤ 4294967296 := by rw [hown2.len, hsl.len]; have := H3.out; unfold totB at *; omega
          have H7 := Lib.hid hown2; have H8 := Lib.hid hsl
          clear hown2 hsl
          go_wp2_with (at_builtin; refine apl E wr w rfl (.tmp 31) (.tmp 32) rfl w.heap.size A2 m c2 (l.take j).flatten rfl G F' H7.out hb2 (Nat.le_refl _) Ak nk ck l[j] rfl H8.out (fun b _ h1 _ h2 => by have := hF' b h2; omega) (by omega) ?_; intro A3 c3 w3 h3)
          go_roundw
          case rel =>
            have e1 : (l.take (j + 1)).flatten = (l.take j).flatten ++ l[j] := by
              rw [List.take_succ_eq_append_getElem hkl, List.flatten_append]; simp
            have e2 := h3.own
            rw [← e1] at e2
            exact ⟨j + 1, A3, m + nk, c3, _, by omega, by go_num, rfl, e2, h3.below⟩
          case measure => simp [intOf]; omega
        · obtain rfl : j = k := by omega
          go_wp2
          go_ret
          refine ⟨A2, m, c2, rfl, ⟨G, ?_⟩, hb2⟩
          have e1 : l.take j = l := List.take_of_length_le (by rw [← HL.out]; exact Nat.le_refl _)
          rw [e1] at hown2
          exact hown2
end Go.Proofs.YtpmglcachffojaaGreatDoor
namespace Go.Proofs.YtpmglcachffojaaGreatDoor
open Go Go.RowKit
set_option maxRecDepth 100000 in
set_option maxHeartbeats 400000 in
theorem zig_any (x : Int) (w : World) (h0 : -9223372036854775808 ≤ x) (h1 : x ≤ 9223372036854775807) :
    Calls Tryz.prog 179 #[.int .i64 x] w fun e w' => e = .returned (.int .u64 (zigN x : Nat)) ∧ w = w' := by
  have H := Lib.hid (zig_bits x h0 h1)
  go_enter Tryz.func179, Tryz.ntmps179
  go_wp2
  go_ret
  exact ⟨ret_int H.out, rfl⟩
set_option maxRecDepth 100000 in
set_option maxHeartbeats 400000 in
theorem zag_any (x : Nat) (w : World) (h1 : x < 18446744073709551616) :
    Calls Tryz.prog 187 #[.int .u64 x] w fun e w' => e = .returned (.int .i64 (zagI x)) ∧ w = w' := by
  have H := Lib.hid (zag_bits x h1)
  go_enter Tryz.func187, Tryz.ntmps187
  go_wp2
  go_ret
  exact ⟨ret_int H.out, rfl⟩

theorem byte_more (x : Nat) : bits BinOp.or IntKind.u8 ((x : Int) % 256) 128 = ((UInt8.ofNat (x % 128 + 128)).toNat : Int) := by
  rw [show (x : Int) % 256 = ((x % 256 : Nat) : Int) by omega, u8_or128 _ (by omega), UInt8.toNat_ofNat']
  congr 1
  omega
theorem byte_last (x : Nat) : IntKind.u8.wrap (x : Int) = ((UInt8.ofNat x).toNat : Int) := by
  rw [IntKind.wrap_u8, UInt8.toNat_ofNat']
  omega

set_option maxRecDepth 100000 in
set_option maxHeartbeats 1000000 in
theorem vput_any (F : Nat → Prop) (A : Option Addr) (n c : Nat) (bs : List UInt8) (x : Nat) (w : World) (h : Bs F w A n c bs) (hn : n ≤ 4294967200) (hx : x < 18446744073709551616) :
    Calls Tryz.prog 180 #[.slice A n c, .int .u64 (x : Int)] w (Own1 w (bs ++ vput x)) := by
  go_enter Tryz.func180, Tryz.ntmps180
  go_wp2
  go_loopw [5, 1] (fun v xv wr => ∃ (f x' : Nat) (L : List UInt8) (A2 : Option Addr) (m c2 : Nat), m + f ≤ 9 ∧ xv = .int .u64 (x' : Int) ∧ v = .slice A2 m c2 ∧ OwnB wr w.heap.size A2 m c2 L ∧ L ++ vputF f x' = vput x ∧ x' < 128 ^ (f + 1) ∧ x' < 18446744073709551616 ∧ Below w.heap.size w wr)
    (fun _ xv _ => (intOf xv).toNat)
  case atStart => exact ⟨9, x, [], none, 0, 0, by omega, rfl, rfl, OwnB.nil_ _ _, rfl, by omega, hx, Below.refl _ _⟩
  case round =>
    obtain ⟨f, x', L, A2, m, c2, hm, rfl, rfl, hown, heq, hlt, hlt2, hb⟩ := hrel
    have HE := Lib.hid heq; have HO := Lib.hid hown; have HL := Lib.hid hlt
    clear heq hown hlt
    have hsz := hb.size
    by_cases hx' : x' < 128
    · have hlast := byte_last x'
      rw [IntKind.wrap_u8, show (x' : Int) % 256 = (x' : Int) by omega] at hlast
      have s1 := (HO.out.bs.any).alloc (.cells #[.int .u8 (x' : Int)] 5)
      have s2 := ((h.any).below hb (Nat.le_refl _)).alloc (.cells #[.int .u8 (x' : Int)] 5)
      have s3 : Sl tU8 (fun _ => True) (wr.alloc (.cells #[.int .u8 (x' : Int)] 5)) (some ⟨wr.heap.size, 0, none⟩) 1 1 [UInt8.ofNat x'] :=
        (Sl.new (T := tU8) (F := fun _ => True) (cs := [.int .u8 (x' : Int)]) (by rw [hlast]; rfl) 5 _ rfl).any
      have hs := sl3 s2 s1 s3 41
      rw [World.size_alloc] at hs
      have HS := Lib.hid hs; clear hs
      have HB := Lib.hid ((hb.alloc hsz (.cells #[.int .u8 (x' : Int)] 5)).alloc (by simp; omega) (.cells #[.slice A n c, .slice A2 m c2, .slice (some ⟨wr.heap.size, 0, none⟩) 1 1] 41))
      have hnl := h.len
      have hml := HO.out.len
      have HN := Lib.hid (show [bs, L, [UInt8.ofNat x']].flatten.length ≤ 4294967296 by simp; omega)
      clear s1 s2 s3 hlast hnl hml
      go_wp2_with (go_at_call 224; refine (concatB_any (T := tU8) elemBytes (fun _ => True) _ _ _ [bs, L, [UInt8.ofNat x']] _ HS.out (by omega) HN.out).mono ?_; rintro e w1 ⟨A1, n1, c1, rfl, hown1, hb1⟩)
      go_ret
      refine ⟨A1, n1, c1, rfl, ?_, HB.out.trans (hb1.mono (by simp; omega))⟩
      have hfin : [bs, L, [UInt8.ofNat x']].flatten = bs ++ vput x := by
        rw [← HE.out]
        cases f <;> simp [vputF, hx']
      rw [hfin] at hown1
      exact own_u8 (hown1.down (by simp; omega))
    · have HM := Lib.hid (byte_more x')
      go_wp2_with (at_builtin; refine apb1 wr w rfl (.tmp 10) (.tmp 14) rfl w.heap.size A2 m c2 L rfl HO.out hb (Nat.le_refl _) _ rfl (UInt8.ofNat (x' % 128 + 128)) (by rw [← HM.out]) (by omega) ?_; intro A3 c3 w3 h3 hb3 _)
      go_roundw
      case rel =>
        obtain ⟨f, rfl⟩ : ∃ f', f = f' + 1 := by
          cases f with
          | zero => have := HL.out; omega
          | succ f => exact ⟨f, rfl⟩
        have hlt := HL.out
        refine ⟨f, x' / 128, L ++ [UInt8.ofNat (x' % 128 + 128)], A3, m + 1, c3, by omega, by go_num, rfl, h3, ?_, ?_, by omega, hb3⟩
        · rw [← HE.out]
          simp [vputF, hx']
        · rw [Nat.pow_succ] at hlt; exact Nat.div_lt_of_lt_mul (by omega)
      case measure => simp [intOf]; omega
theorem vput_int (F : Nat → Prop) (A : Option Addr) (n c : Nat) (bs : List UInt8) (x : Int) (w : World) (h : Bs F w A n c bs) (hn : n ≤ 4294967200) (h0 : 0 ≤ x) (hx : x < 18446744073709551616) :
    Calls Tryz.prog 180 #[.slice A n c, .int .u64 x] w (Own1 w (bs ++ vput x.toNat)) := by
  obtain ⟨k, rfl⟩ := Int.eq_ofNat_of_zero_le h0
  rw [Int.toNat_natCast]
  exact vput_any F A n c bs k w h hn (by omega)
end Go.Proofs.YtpmglcachffojaaGreatDoor
namespace Go.Proofs.YtpmglcachffojaaGreatDoor

abbrev U64 (x : Nat) : Prop := x < 18446744073709551616

/-! widths -/
def wOf (c : Int) : Int := if c < 0 ∨ 31 < c then 0 else if c < 24 then c + 1 else if c < 28 then 24 + 2 * (c - 23) else 32 + 8 * (c - 27)
def wCode (w : Int) : Int := if 1 ≤ w ∧ w ≤ 24 then w - 1 else if w = 26 then 24 else if w = 28 then 25 else if w = 30 then 26 else if w = 32 then 27 else if w = 40 then 28 else if w = 48 then 29 else if w = 56 then 30 else if w = 64 then 31 else -1
def wClose (b : Int) : Int := if b ≤ 24 then max 1 b else if b ≤ 26 then 26 else if b ≤ 28 then 28 else if b ≤ 30 then 30 else if b ≤ 32 then 32 else if b ≤ 40 then 40 else if b ≤ 48 then 48 else if b ≤ 56 then 56 else if b ≤ 64 then 64 else 0
theorem wOf_range (c : Int) : 0 ≤ wOf c ∧ wOf c ≤ 64 := by unfold wOf; (repeat' split) <;> omega
theorem wCode_range (w : Int) : -1 ≤ wCode w ∧ wCode w ≤ 31 := by unfold wCode; (repeat' split) <;> omega
theorem wClose_range (b : Int) : 0 ≤ wClose b ∧ wClose b ≤ 64 := by unfold wClose; (repeat' split) <;> omega
theorem wClose_ge {b : Int} (h : b ≤ 64) : b ≤ wClose b ∧ 1 ≤ wClose b := by unfold wClose; (repeat' split) <;> omega
theorem wClose_code {b : Int} (h : b ≤ 64) : 0 ≤ wCode (wClose b) ∧ wOf (wCode (wClose b)) = wClose b := by
  unfold wClose
  (repeat' split) <;> first
    | omega
    | decide
    | (have h1 : wCode (max 1 b) = max 1 b - 1 := by unfold wCode; rw [if_pos (by omega)]
       rw [h1]; constructor
       · omega
       · unfold wOf; rw [if_neg (by omega), if_pos (by omega)]; omega)
theorem wOf_code {c : Int} (h0 : 0 ≤ c) (h1 : c ≤ 31) : wCode (wOf c) = c := by
  have e : ∀ k : Fin 32, wCode (wOf (k.val : Nat)) = (k.val : Nat) := by decide
  have := e ⟨c.toNat, by omega⟩
  rwa [show ((c.toNat : Nat) : Int) = c by omega] at this
/-- The code of a width is the least one that has it. -/
theorem wCode_iff {w c : Int} (h0 : 0 ≤ c) (h1 : c ≤ 31) : wOf c = w → wCode w = c := by rintro rfl; exact wOf_code h0 h1
theorem wCode_none {w : Int} (h : ∀ c : Int, 0 ≤ c → c ≤ 31 → wOf c ≠ w) : wCode w = -1 := by
  unfold wCode
  split
  · exact absurd (by unfold wOf; rw [if_neg (by omega), if_pos (by omega)]; omega) (h (w - 1) (by omega) (by omega))
  · (repeat' split) <;> first | rfl | (subst_vars; first | exact absurd (by decide) (h 24 (by decide) (by decide)) | exact absurd (by decide) (h 25 (by decide) (by decide)) | exact absurd (by decide) (h 26 (by decide) (by decide)) | exact absurd (by decide) (h 27 (by decide) (by decide)) | exact absurd (by decide) (h 28 (by decide) (by decide)) | exact absurd (by decide) (h 29 (by decide) (by decide)) | exact absurd (by decide) (h 30 (by decide) (by decide)) | exact absurd (by decide) (h 31 (by decide) (by decide)))
theorem wOf_mono {c d : Int} (h0 : 0 ≤ c) (h : c < d) (h1 : d ≤ 31) : wOf c < wOf d := by unfold wOf; (repeat' split) <;> omega
/-- The reference's way: the first one that is wide enough. -/
theorem wClose_first {b c : Int} (h0 : 0 ≤ c) (h1 : c ≤ 31) (hc : b ≤ wOf c) (hb : ∀ d : Int, 0 ≤ d → d < c → wOf d < b) : wClose b = wOf c := by
  have hp : c = 0 ∨ wOf (c - 1) < b := by
    by_cases h : c = 0
    · exact .inl h
    · exact .inr (hb (c - 1) (by omega) (by omega))
  by_cases h24 : c < 24
  · have e1 : wOf c = c + 1 := by unfold wOf; rw [if_neg (by omega), if_pos h24]
    have e2 : c = 0 ∨ c < b := by
      by_cases h0' : c = 0
      · exact .inl h0'
      · have := hp.resolve_left h0'
        have e3 : wOf (c - 1) = c := by unfold wOf; rw [if_neg (by omega), if_pos (by omega)]; omega
        omega
    rw [e1] at hc ⊢
    unfold wClose
    rw [if_pos (by omega)]
    omega
  · have e : ∀ k : Int, c = k → wOf (c - 1) = wOf (k - 1) ∧ wOf c = wOf k := by rintro k rfl; exact ⟨rfl, rfl⟩
    have hp2 : wOf (c - 1) < b := hp.resolve_left (by omega)
    have key : ∀ (k p v : Int), wOf (k - 1) = p → wOf k = v → c = k → (p < b → b ≤ v → wClose b = v) → wClose b = wOf c := by
      intro k p v hp' hv hk hf
      obtain ⟨h3, h4⟩ := e k hk
      rw [h4, hv] at hc ⊢
      rw [h3, hp'] at hp2
      exact hf hp2 hc
    obtain h | h | h | h | h | h | h | h : c = 24 ∨ c = 25 ∨ c = 26 ∨ c = 27 ∨ c = 28 ∨ c = 29 ∨ c = 30 ∨ c = 31 := by omega
    · exact key 24 24 26 (by decide) (by decide) h fun _ _ => by unfold wClose; (repeat' split) <;> omega
    · exact key 25 26 28 (by decide) (by decide) h fun _ _ => by unfold wClose; (repeat' split) <;> omega
    · exact key 26 28 30 (by decide) (by decide) h fun _ _ => by unfold wClose; (repeat' split) <;> omega
    · exact key 27 30 32 (by decide) (by decide) h fun _ _ => by unfold wClose; (repeat' split) <;> omega
    · exact key 28 32 40 (by decide) (by decide) h fun _ _ => by unfold wClose; (repeat' split) <;> omega
    · exact key 29 40 48 (by decide) (by decide) h fun _ _ => by unfold wClose; (repeat' split) <;> omega
    · exact key 30 48 56 (by decide) (by decide) h fun _ _ => by unfold wClose; (repeat' split) <;> omega
    · exact key 31 56 64 (by decide) (by decide) h fun _ _ => by unfold wClose; (repeat' split) <;> omega
theorem wClose_none {b : Int} (h : ∀ c : Int, 0 ≤ c → c ≤ 31 → wOf c < b) : wClose b = 0 := by
  have := h 31 (by decide) (by decide)
  have e : wOf 31 = 64 := by decide
  unfold wClose
  (repeat' split) <;> omega

/-! bits -/
abbrev bl (x : Nat) : Nat := Lib.bitLen x
theorem bl_zero : bl 0 = 0 := by decide
theorem bl_lt {x : Nat} (h : U64 x) : x < 2 ^ bl x := by
  by_cases h0 : x = 0
  · subst h0; decide
  · exact (Lib.bitLenAux_bounds 64 x h h0).2.2
theorem bl_ge {x : Nat} (h : U64 x) (h0 : x ≠ 0) : 1 ≤ bl x ∧ 2 ^ (bl x - 1) ≤ x := ⟨(Lib.bitLenAux_bounds 64 x h h0).1, (Lib.bitLenAux_bounds 64 x h h0).2.1⟩
theorem bl_le {x k : Nat} (hk : k ≤ 64) (h : x < 2 ^ k) : bl x ≤ k := Lib.bitLen_le x k hk h
theorem bl_le64 {x : Nat} (h : U64 x) : bl x ≤ 64 := bl_le (Nat.le_refl _) h
theorem bl_half {x : Nat} (h : U64 x) (h0 : x ≠ 0) : bl x = 1 + bl (x / 2) := Lib.bitLen_half x h0 h
theorem bl_le_iff {x k : Nat} (h : U64 x) (hk : k ≤ 64) : bl x ≤ k ↔ x < 2 ^ k :=
  ⟨fun hb => Nat.lt_of_lt_of_le (bl_lt h) (Nat.pow_le_pow_right (by decide) hb), bl_le hk⟩
theorem u64_or {a b : Nat} (ha : U64 a) (hb : U64 b) : U64 (a ||| b) := Nat.or_lt_two_pow (n := 64) ha hb
theorem bl_or {a b : Nat} (ha : U64 a) (hb : U64 b) : bl (a ||| b) = max (bl a) (bl b) := by
  have ho := u64_or ha hb
  have h1 := bl_le64 ha
  have h2 := bl_le64 hb
  have h3 := bl_le64 ho
  have le1 : bl (a ||| b) ≤ max (bl a) (bl b) := by
    rw [bl_le_iff ho (by omega)]
    exact Nat.or_lt_two_pow (Nat.lt_of_lt_of_le (bl_lt ha) (Nat.pow_le_pow_right (by decide) (by omega))) (Nat.lt_of_lt_of_le (bl_lt hb) (Nat.pow_le_pow_right (by decide) (by omega)))
  have le2 : bl a ≤ bl (a ||| b) := by
    rw [bl_le_iff ha h3]
    exact Nat.lt_of_le_of_lt Nat.left_le_or (bl_lt ho)
  have le3 : bl b ≤ bl (a ||| b) := by
    rw [bl_le_iff hb h3]
    exact Nat.lt_of_le_of_lt Nat.right_le_or (bl_lt ho)
  omega
/-- How many bits several need. -/
def most (l : List Nat) : Nat := l.foldl (fun n x => max n (bl x)) 0
theorem most_snoc (l : List Nat) (x : Nat) : most (l ++ [x]) = max (most l) (bl x) := by simp [most]
theorem most_le64 (l : List Nat) (h : ∀ x ∈ l, U64 x) : most l ≤ 64 := by
  have : ∀ (l : List Nat) (n : Nat), n ≤ 64 → (∀ x ∈ l, U64 x) → l.foldl (fun n x => max n (bl x)) n ≤ 64 := by
    intro l
    induction l with
    | nil => intro n hn _; exact hn
    | cons a r ih =>
      intro n hn h
      rw [List.foldl_cons]
      have := bl_le64 (h a (by simp))
      exact ih _ (by omega) fun x hx => h x (by simp [hx])
  exact this l 0 (by omega) h
theorem most_mem {l : List Nat} {x : Nat} (h : x ∈ l) : bl x ≤ most l := by
  have key : ∀ (l : List Nat) (n : Nat), n ≤ l.foldl (fun n x => max n (bl x)) n := by
    intro l
    induction l with
    | nil => intro n; exact Nat.le_refl _
    | cons a r ih => intro n; rw [List.foldl_cons]; exact Nat.le_trans (by omega) (ih _)
  have : ∀ (l : List Nat) (n : Nat), x ∈ l → bl x ≤ l.foldl (fun n x => max n (bl x)) n := by
    intro l
    induction l with
    | nil => intro n h; simp at h
    | cons a r ih =>
      intro n h
      rw [List.foldl_cons]
      rcases List.mem_cons.1 h with rfl | h
      · exact Nat.le_trans (by omega) (key r _)
      · exact ih _ h
  exact this l 0 h
/-- The program's way: all bits at once. -/
theorem most_or (l : List Nat) (h : ∀ x ∈ l, U64 x) : U64 (l.foldl (· ||| ·) 0) ∧ bl (l.foldl (· ||| ·) 0) = most l := by
  have : ∀ (l : List Nat) (a n : Nat), U64 a → bl a = n → (∀ x ∈ l, U64 x) → U64 (l.foldl (· ||| ·) a) ∧ bl (l.foldl (· ||| ·) a) = l.foldl (fun n x => max n (bl x)) n := by
    intro l
    induction l with
    | nil => intro a n ha hn _; exact ⟨ha, hn⟩
    | cons b r ih =>
      intro a n ha hn h
      rw [List.foldl_cons, List.foldl_cons]
      have hb := h b (by simp)
      exact ih _ _ (u64_or ha hb) (by rw [bl_or ha hb, hn]) fun x hx => h x (by simp [hx])
  exact this l 0 0 (by decide) (by decide) h
end Go.Proofs.YtpmglcachffojaaGreatDoor
namespace Go.Proofs.YtpmglcachffojaaGreatDoor

/-- A number as it stands. -/
def uOf (sg : Bool) (x : Int) : Nat := if sg then zigN x else x.toNat
/-- Numbers that may stand in a run: of an int; of a run without signs none below 0. -/
def NumOk (sg : Bool) (l : List Int) : Prop := ∀ x ∈ l, -9223372036854775808 ≤ x ∧ x ≤ 9223372036854775807 ∧ (sg = true ∨ 0 ≤ x)
theorem uOf_lt {sg : Bool} {x : Int} (h0 : -9223372036854775808 ≤ x) (h1 : x ≤ 9223372036854775807) : U64 (uOf sg x) := by
  unfold uOf
  split
  · exact zigN_lt x h0 h1
  · show x.toNat < 18446744073709551616; omega
theorem NumOk.u {sg : Bool} {l : List Int} (h : NumOk sg l) : ∀ u ∈ l.map (uOf sg), U64 u := fun u hu => by
  obtain ⟨x, hx, rfl⟩ := List.mem_map.1 hu
  exact uOf_lt (h x hx).1 (h x hx).2.1
theorem NumOk.take {sg : Bool} {l : List Int} (h : NumOk sg l) (n : Nat) : NumOk sg (l.take n) := fun x hx => h x (List.mem_of_mem_take hx)
theorem NumOk.drop {sg : Bool} {l : List Int} (h : NumOk sg l) (n : Nat) : NumOk sg (l.drop n) := fun x hx => h x (List.mem_of_mem_drop hx)

/-! repeat -/
def long (u : Nat) : Nat := max 1 ((bl u + 7) / 8)
theorem long_le {u : Nat} (h : U64 u) : 1 ≤ long u ∧ long u ≤ 8 := by have := bl_le64 h; unfold long; omega
def repB (u times : Nat) : List UInt8 := UInt8.ofNat (8 * (long u - 1) + times - 3) :: be (long u) u
theorem repB_len (u times : Nat) : (repB u times).length = long u + 1 := by rw [repB, List.length_cons, be_len]

/-! heads; direct -/
def headB (kind code many : Nat) : List UInt8 := [UInt8.ofNat ((16384 * kind + 512 * code + many - 1) / 256), UInt8.ofNat (16384 * kind + 512 * code + many - 1)]
/-- A width's code, as a number. -/
def codeN (w : Nat) : Nat := (wCode w).toNat
def closeN (b : Nat) : Nat := (wClose b).toNat
theorem closeN_le (b : Nat) : closeN b ≤ 64 := by unfold closeN; have := wClose_range b; omega
theorem closeN_eq (b : Nat) : ((closeN b : Nat) : Int) = wClose b := by unfold closeN; have := wClose_range b; omega
theorem closeN_ge {b : Nat} (h : b ≤ 64) : b ≤ closeN b ∧ 1 ≤ closeN b := by have := wClose_ge (b := (b : Int)) (by omega); unfold closeN; omega
theorem codeN_eq {b : Nat} (h : b ≤ 64) : wCode (closeN b : Nat) = ((codeN (closeN b) : Nat) : Int) ∧ codeN (closeN b) ≤ 31 := by
  have h1 := wClose_code (b := (b : Int)) (by omega)
  have h2 := wCode_range (wClose b)
  unfold codeN
  rw [closeN_eq]
  omega
def dirB (sg : Bool) (l : List Int) : List UInt8 := headB 1 (codeN (closeN (most (l.map (uOf sg))))) l.length ++ pack (closeN (most (l.map (uOf sg)))) (l.map (uOf sg))
theorem packSize_le (n w : Nat) (h : w ≤ 64) : packSize n w ≤ 8 * n := by
  unfold packSize
  have : n * w ≤ n * 64 := Nat.mul_le_mul_left n h
  omega
theorem dirB_len (sg : Bool) (l : List Int) : (dirB sg l).length ≤ 2 + 8 * l.length := by
  unfold dirB
  rw [List.length_append, pack_len, List.length_map]
  have := packSize_le l.length _ (closeN_le (most (l.map (uOf sg))))
  simp [headB]; omega

/-! delta -/
def gapN (a b : Int) : Nat := (b - a).natAbs
/-- By how much each is the one before it. -/
def sizesN : List Int → List Nat
  | a :: b :: r => gapN a b :: sizesN (b :: r)
  | _ => []
theorem sizesN_len : ∀ l : List Int, (sizesN l).length = l.length - 1
  | [] => rfl
  | [_] => rfl
  | a :: b :: r => by rw [sizesN, List.length_cons, sizesN_len (b :: r)]; simp
/-- They go one way; none too far. -/
def oneWay (falls : Bool) : List Int → Bool
  | a :: b :: r => decide (gapN a b < 9223372036854775808) && (decide (a = b) || decide (b < a) == falls) && oneWay falls (b :: r)
  | _ => true
def fallsB (l : List Int) : Bool := match l with | a :: b :: _ => decide (b < a) | _ => false
def evenB (s : List Nat) : Bool := s.all (· == s.headD 0)
def stepI (l : List Int) : Int := if fallsB l then -((sizesN l).headD 0 : Nat) else ((sizesN l).headD 0 : Nat)
def delW (l : List Int) : Nat := closeN (max 2 (most (sizesN l).tail))
def delB (sg : Bool) (l : List Int) : Option (List UInt8) :=
  if l.length < 2 ∨ oneWay (fallsB l) l = false then none else
  some (headB 3 (if evenB (sizesN l) then 0 else codeN (delW l)) l.length ++ vput (uOf sg (l.headD 0)) ++ vput (zigN (stepI l)) ++ (if evenB (sizesN l) then [] else pack (delW l) (sizesN l).tail))

/-! patched -/
def leastI (l : List Int) : Int := l.foldl min (l.headD 0)
def upN (l : List Int) : List Nat := l.map fun x => (x - leastI l).toNat
/-- Gaps and patches: i the place of the next number, last that of the last patch. -/
def pairsN (w : Nat) : Nat → Nat → List Nat → List (Nat × Nat)
  | _, _, [] => []
  | i, last, x :: r => if x / 2 ^ w = 0 then pairsN w (i + 1) last r else List.replicate ((i - last - 1) / 255) (255, 0) ++ (i - last - 255 * ((i - last - 1) / 255), x / 2 ^ w) :: pairsN w (i + 1) i r
def gapW (p : List (Nat × Nat)) : Nat := max 1 (most (p.map (·.1)))
def patW (p : List (Nat × Nat)) : Nat := closeN (max 1 (most (p.map (·.2))))
def baseB (b : Int) : List UInt8 := be (bl b.natAbs / 8 + 1) (b.natAbs + if b < 0 then 128 * 256 ^ (bl b.natAbs / 8) else 0)
def patFits (w : Nat) (l : List Int) : Bool :=
  (upN l).all (· < 9223372036854775808) && leastI l != -9223372036854775808 && decide ((pairsN w 0 0 (upN l)).length ≤ 31) && decide (gapW (pairsN w 0 0 (upN l)) + patW (pairsN w 0 0 (upN l)) ≤ 64) && decide (w + patW (pairsN w 0 0 (upN l)) ≤ 64)
def patB (w : Nat) (l : List Int) : Option (List UInt8) :=
  let p := pairsN w 0 0 (upN l)
  if patFits w l then
    some (headB 2 (codeN w) l.length ++ [UInt8.ofNat (32 * ((baseB (leastI l)).length - 1) + codeN (patW p)), UInt8.ofNat (32 * (gapW p - 1) + p.length)] ++ baseB (leastI l) ++ pack w ((upN l).map (· % 2 ^ w)) ++ pack (closeN (gapW p + patW p)) (p.map fun x => x.1 * 2 ^ patW p + x.2))
  else none

/-! the shortest -/
def shorter (a : List UInt8) (b : Option (List UInt8)) : List UInt8 := match b with | none => a | some b => if a = [] ∨ b.length < a.length then b else a
def sameN (l : List Int) : Nat := (l.takeWhile (· == l.headD 0)).length
def timesB (sg : Bool) (l : List Int) : Option (List UInt8) := if sameN l = l.length ∧ 3 ≤ l.length ∧ l.length ≤ 10 then some (repB (uOf sg (l.headD 0)) l.length) else none
def wN (c : Nat) : Nat := (wOf c).toNat
def runTo (sg : Bool) (l : List Int) (c : Nat) : List UInt8 := (List.range c).foldl (fun a c => shorter a (patB (wN c) l)) (shorter (shorter (shorter [] (timesB sg l)) (some (dirB sg l))) (delB sg l))
def runB (sg : Bool) (l : List Int) : List UInt8 := runTo sg l 31
theorem runTo_succ (sg : Bool) (l : List Int) (c : Nat) : runTo sg l (c + 1) = shorter (runTo sg l c) (patB (wN c) l) := by unfold runTo; rw [List.range_succ, List.foldl_append]; rfl
theorem shorter_le (a : List UInt8) (b : Option (List UInt8)) (h : a ≠ []) : (shorter a b).length ≤ a.length := by
  unfold shorter
  split
  · exact Nat.le_refl _
  · split
    · rename_i h2; rcases h2 with h2 | h2
      · exact absurd h2 h
      · omega
    · exact Nat.le_refl _
theorem shorter_ne (a : List UInt8) (b : Option (List UInt8)) (h : a ≠ []) (hb : ∀ x, b = some x → x ≠ []) : shorter a b ≠ [] := by
  unfold shorter
  split
  · exact h
  · split
    · exact hb _ rfl
    · exact h
theorem dirB_ne (sg : Bool) (l : List Int) : dirB sg l ≠ [] := by simp [dirB, headB]
theorem delB_ne (sg : Bool) (l : List Int) : ∀ x, delB sg l = some x → x ≠ [] := by
  unfold delB
  split
  · intro x h; cases h
  · intro x h; cases h; simp [headB]
theorem patB_ne (w : Nat) (l : List Int) : ∀ x, patB w l = some x → x ≠ [] := by
  unfold patB
  dsimp only
  split
  · intro x h; cases h; simp [headB]
  · intro x h; cases h
theorem timesB_ne (sg : Bool) (l : List Int) : ∀ x, timesB sg l = some x → x ≠ [] := by
  unfold timesB
  split
  · intro x h; cases h; simp [repB]
  · intro x h; cases h
theorem shorter2 (sg : Bool) (l : List Int) : shorter (shorter [] (timesB sg l)) (some (dirB sg l)) ≠ [] ∧ (shorter (shorter [] (timesB sg l)) (some (dirB sg l))).length ≤ (dirB sg l).length := by
  have hs : shorter [] (timesB sg l) = (timesB sg l).getD [] := by
    unfold shorter
    split
    · next h => rw [h]; rfl
    · next h => rw [h, if_pos (.inl rfl)]; rfl
  rw [hs]
  cases ht : timesB sg l with
  | none => simp only [Option.getD_none, shorter, true_or, if_true]; exact ⟨dirB_ne sg l, Nat.le_refl _⟩
  | some t =>
    have := timesB_ne sg l t ht
    simp only [Option.getD_some, shorter, this, false_or]
    split
    · exact ⟨dirB_ne sg l, Nat.le_refl _⟩
    · exact ⟨this, by omega⟩
theorem runTo_ne (sg : Bool) (l : List Int) (c : Nat) : runTo sg l c ≠ [] ∧ (runTo sg l c).length ≤ (dirB sg l).length := by
  induction c with
  | zero =>
    show shorter _ _ ≠ [] ∧ _
    obtain ⟨h1, h2⟩ := shorter2 sg l
    exact ⟨shorter_ne _ _ h1 (delB_ne sg l), Nat.le_trans (shorter_le _ _ h1) h2⟩
  | succ c ih =>
    rw [runTo_succ]
    exact ⟨shorter_ne _ _ ih.1 (patB_ne _ l), Nat.le_trans (shorter_le _ _ ih.1) ih.2⟩
theorem runB_len (sg : Bool) (l : List Int) : (runB sg l).length ≤ 2 + 8 * l.length := Nat.le_trans (runTo_ne sg l 31).2 (dirB_len sg l)

/-! where a run ends -/
/-- The first place behind the first at which five numbers are the same; at most e. -/
def cutAt (l : List Int) : Nat → Nat → Nat
  | 0, n => n
  | f + 1, n => if 5 ≤ sameN (l.drop n) then n else cutAt l f (n + 1)
def cutN (l : List Int) : Nat := if 3 ≤ sameN l then min (sameN l) 512 else if l.length ≤ 1 then l.length else cutAt l (min l.length 512 - 1) 1
theorem sameN_le (l : List Int) : sameN l ≤ l.length := by unfold sameN; exact (List.takeWhile_prefix _).length_le
theorem cutAt_le (l : List Int) : ∀ f n, n ≤ cutAt l f n ∧ cutAt l f n ≤ n + f
  | 0, n => ⟨Nat.le_refl _, Nat.le_refl _⟩
  | f + 1, n => by
    unfold cutAt
    split
    · omega
    · have := cutAt_le l f (n + 1); omega
theorem cutN_le (l : List Int) (h : l ≠ []) : 1 ≤ cutN l ∧ cutN l ≤ l.length ∧ cutN l ≤ 512 := by
  have hl := List.length_pos_iff.2 h
  have hs := sameN_le l
  unfold cutN
  split
  · omega
  · split
    · omega
    · have := cutAt_le l (min l.length 512 - 1) 1; omega
def rleF (sg : Bool) : Nat → List Int → List UInt8
  | 0, _ => []
  | f + 1, l => if l = [] then [] else runB sg (l.take (cutN l)) ++ rleF sg f (l.drop (cutN l))
def rleB (sg : Bool) (l : List Int) : List UInt8 := rleF sg l.length l
theorem rleF_fuel (sg : Bool) : ∀ (f g : Nat) (l : List Int), l.length ≤ f → l.length ≤ g → rleF sg f l = rleF sg g l
  | 0, 0, _, _, _ => rfl
  | 0, g + 1, l, h, _ => by
    obtain rfl : l = [] := List.length_eq_zero_iff.1 (by omega)
    rfl
  | f + 1, 0, l, _, h => by
    obtain rfl : l = [] := List.length_eq_zero_iff.1 (by omega)
    rfl
  | f + 1, g + 1, l, h1, h2 => by
    rw [rleF, rleF]
    by_cases hl : l = []
    · rw [if_pos hl, if_pos hl]
    · rw [if_neg hl, if_neg hl]
      have := cutN_le l hl
      rw [rleF_fuel sg f g _ (by rw [List.length_drop]; omega) (by rw [List.length_drop]; omega)]
theorem rleB_nil (sg : Bool) : rleB sg [] = [] := rfl
theorem rleB_step (sg : Bool) (l : List Int) (h : l ≠ []) : rleB sg l = runB sg (l.take (cutN l)) ++ rleB sg (l.drop (cutN l)) := by
  have := cutN_le l h
  have hl := List.length_pos_iff.2 h
  unfold rleB
  obtain ⟨k, hk⟩ : ∃ k, l.length = k + 1 := ⟨l.length - 1, by omega⟩
  rw [hk, rleF, if_neg h, rleF_fuel sg k _ (l.drop (cutN l)) (by rw [List.length_drop]; omega) (Nat.le_refl _)]
theorem rleF_len (sg : Bool) : ∀ (f : Nat) (l : List Int), (rleF sg f l).length ≤ 10 * l.length
  | 0, _ => Nat.zero_le _
  | f + 1, l => by
    rw [rleF]
    by_cases h : l = []
    · rw [if_pos h]; exact Nat.zero_le _
    · rw [if_neg h, List.length_append]
      have h1 := cutN_le l h
      have h2 := runB_len sg (l.take (cutN l))
      have h3 := rleF_len sg f (l.drop (cutN l))
      rw [List.length_take] at h2
      rw [List.length_drop] at h3
      omega
theorem rleB_len (sg : Bool) (l : List Int) : (rleB sg l).length ≤ 10 * l.length := rleF_len sg _ l
end Go.Proofs.YtpmglcachffojaaGreatDoor
