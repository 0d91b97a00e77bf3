/- A line for each answer, a line for each event. No program in sight. -/
import Derived.Test.YtojenpjafgfpaaaGreatDoorShow3
import Derived.Test.YtojenpjafgfpaaaGreatDoorBound
import Derived.Test.YtojenpjafgfpaaaGreatDoorParse
namespace Go.Proofs.YtojenpjafgfpaaaGreatDoor
open Go Go.RowKit

def no10 (l : List UInt8) : Prop := l.count 10 = 0
theorem no10_app {a b : List UInt8} (ha : no10 a) (hb : no10 b) : no10 (a ++ b) := by unfold no10 at *; rw [List.count_append, ha, hb]
theorem no10_cons {c : UInt8} {b : List UInt8} (hc : c ≠ 10) (hb : no10 b) : no10 (c :: b) := by unfold no10 at *; rw [List.count_cons, hb]; simp [hc]
theorem no10_nil : no10 [] := rfl
theorem no10_one {c : UInt8} (h : c ≠ 10) : no10 [c] := no10_cons h no10_nil
theorem no10_flat : ∀ (l : List (List UInt8)), (∀ a ∈ l, no10 a) → no10 l.flatten
  | [], _ => rfl
  | a :: r, h => by rw [List.flatten_cons]; exact no10_app (h a (by simp)) (no10_flat r fun b hb => h b (by simp [hb]))
theorem ne10 {n : Nat} (h : 10 < n) (h2 : n < 256) : UInt8.ofNat n ≠ 10 := by
  intro e
  have := congrArg UInt8.toNat e
  rw [UInt8.toNat_ofNat', Nat.mod_eq_of_lt h2] at this
  have h3 : (10 : UInt8).toNat = 10 := rfl
  omega
theorem no10_dec (u : Nat) : no10 (Lib.decDigits u) := by
  induction u using Nat.strongRecOn with
  | _ u ih =>
    rw [Lib.decDigits]
    split
    · exact no10_cons (ne10 (by omega) (by omega)) no10_nil
    · exact no10_app (ih _ (by omega)) (no10_cons (ne10 (by omega) (by omega)) no10_nil)
theorem no10_itoa (n : Int) : no10 (Lib.itoa n) := by
  unfold Lib.itoa
  split
  · exact no10_cons (by decide) (no10_dec _)
  · exact no10_dec _
theorem no10_hexD {n : Nat} (h : n < 16) : hexD n ≠ 10 := by
  unfold hexD
  split
  · exact ne10 (by omega) (by omega)
  · exact ne10 (by omega) (by omega)
theorem no10_hex : ∀ l : List UInt8, no10 (hexOf l)
  | [] => rfl
  | c :: r => by
    have := c.toNat_lt
    exact no10_cons (no10_hexD (by omega)) (no10_cons (no10_hexD (by omega)) (no10_hex r))
theorem no10_join {sep : List UInt8} (hs : no10 sep) (l : List (List UInt8)) (h : ∀ a ∈ l, no10 a) : no10 (Lib.join l sep) := by
  cases l with
  | nil => rfl
  | cons x r =>
    rw [Lib.join_cons]
    refine no10_app (h x (by simp)) (no10_flat _ fun a ha => ?_)
    obtain ⟨y, hy, rfl⟩ := List.mem_map.1 ha
    exact no10_app hs (h y (by simp [hy]))
theorem no10_jn {sep : List UInt8} (hs : no10 sep) (l : List Int) : no10 (jn sep l) := by
  refine no10_join hs _ fun a ha => ?_
  obtain ⟨y, _, rfl⟩ := List.mem_map.1 ha
  exact no10_itoa y
theorem no10_told (x : KD) : no10 (toldOf x) := by
  refine no10_app (no10_jn (no10_one (by decide)) _) (no10_flat _ fun a ha => ?_)
  obtain ⟨y, _, rfl⟩ := List.mem_map.1 ha
  exact no10_cons (by decide) (no10_hex _)
theorem count_showA (a : AA) : (showA a).count 10 = 1 := by
  have h : no10 (Lib.join (partsA a) [124]) := by
    refine no10_join (no10_one (by decide)) _ fun p hp => ?_
    simp only [partsA, List.mem_cons, List.not_mem_nil, or_false] at hp
    rcases hp with rfl | rfl | rfl
    · exact no10_jn (no10_one (by decide)) _
    · exact no10_jn (no10_one (by decide)) _
    · refine no10_join (no10_one (by decide)) _ fun q hq => ?_
      obtain ⟨y, _, rfl⟩ := List.mem_map.1 hq
      exact no10_told y
  unfold showA
  unfold no10 at h
  rw [List.count_append, h]; rfl
theorem count_showOf (l : List AA) : (showOf l).count 10 = l.length := by
  induction l with
  | nil => rfl
  | cons a r ih =>
    have e : showOf (a :: r) = showA a ++ showOf r := rfl
    rw [e, List.count_append, count_showA, ih, List.length_cons]; omega
theorem count_take_succ {l : List UInt8} {k : Nat} (h : k < l.length) : (l.take (k + 1)).count 10 = (l.take k).count 10 + (if l[k] = 10 then 1 else 0) := by
  rw [List.take_succ_eq_append_getElem h, List.count_append]
  by_cases e : l[k] = 10 <;> simp [e]
theorem printOf_len_succ {l : List EE} {k : Nat} (h : k < l.length) : (printOf (l.take (k + 1))).length = (printOf (l.take k)).length + 2 * (putEvent l[k]).length + 1 := by
  rw [List.take_succ_eq_append_getElem h, printOf_snoc, List.length_append]
  simp only [lineP, List.length_append, hexOf_len, List.length_cons, List.length_nil]; omega
end Go.Proofs.YtojenpjafgfpaaaGreatDoor
/- What was laid down is taken as it was: varint, wire, values, rows, keys, nodes, events. Plain Lean; no program in sight. -/
namespace Go.Proofs.YtojenpjafgfpaaaGreatDoor
open Go Go.RowKit

theorem ofNat_toNat {n : Nat} (h : n < 256) : (UInt8.ofNat n).toNat = n := by rw [UInt8.toNat_ofNat', Nat.mod_eq_of_lt h]
theorem pow_split (x i : Nat) : x % 128 * 128 ^ i + x / 128 * 128 ^ (i + 1) = x * 128 ^ i := by
  rw [Nat.pow_succ, Nat.mul_comm (128 ^ i) 128, ← Nat.mul_assoc, ← Nat.add_mul]
  congr 1; omega
theorem vtk_vputF (r : List UInt8) : ∀ (f i x y : Nat), i + f = 9 → (i = 0 ∨ 1 ≤ x) → x * 128 ^ i < 18446744073709551616 → vtk (f + 1) i y (vputF f x ++ r) = some (y + x * 128 ^ i, r)
  | 0, i, x, y, hi, h0, hx => by
    obtain rfl : i = 9 := by omega
    have hx1 : x = 1 := by
      have : (128 : Nat) ^ 9 = 9223372036854775808 := by decide
      rw [this] at hx; omega
    subst hx1
    rfl
  | f + 1, i, x, y, hi, h0, hx => by
    unfold vputF
    split
    · rename_i h
      show vtk (f + 1 + 1) i y (UInt8.ofNat x :: r) = _
      rw [vtk, ofNat_toNat (by omega), if_neg (by omega), if_neg (by omega)]
    · rename_i h
      show vtk (f + 1 + 1) i y (UInt8.ofNat (x % 128 + 128) :: (vputF f (x / 128) ++ r)) = _
      have hs := pow_split x i
      rw [vtk, ofNat_toNat (by omega), if_pos (by omega), vtk_vputF r f (i + 1) (x / 128) _ (by omega) (.inr (by omega)) (by omega), show x % 128 + 128 - 128 = x % 128 by omega]
      congr 2; omega
theorem vtake_vput (x : Nat) (r : List UInt8) (h : x < 18446744073709551616) : vtake (vput x ++ r) = some (x, r) := by
  have := vtk_vputF r 9 0 x 0 rfl (.inl rfl) (by omega)
  unfold vtake vput
  rw [this]; simp

/-- A field that may be laid down, and comes back. -/
def Fld.ok (f : Fld) : Prop := tagOk f = true ∧ f.n < 18446744073709551616 ∧ f.b.length < 18446744073709551616 ∧ (if f.bytes then f.n = 0 else f.b = [])
theorem wone_fld (f : Fld) (r : List UInt8) (h : f.ok) : wone (fld f ++ r) = some (f, r) := by
  obtain ⟨tag, bytes, n, b⟩ := f
  obtain ⟨h1, h2, h3, h4⟩ := h
  simp only [tagOk, Bool.and_eq_true, decide_eq_true_eq] at h1
  obtain ⟨t, rfl⟩ : ∃ t : Nat, tag = (t : Int) := ⟨tag.toNat, by omega⟩
  cases bytes with
  | false =>
    simp only [Bool.false_eq_true, if_false] at h4
    subst h4
    simp only [fld, Bool.false_eq_true, if_false, wone, List.append_assoc, Int.toNat_natCast, vtake_vput (8 * t) _ (by omega), vtake_vput n _ h2]
    rw [if_neg (by omega), if_pos (by omega), show 8 * t / 8 = t by omega]
  | true =>
    simp only [if_true] at h4 h3
    subst h4
    simp only [fld, if_true, wone, List.append_assoc, Int.toNat_natCast, vtake_vput (8 * t + 2) _ (by omega), vtake_vput b.length _ h3]
    rw [if_neg (by omega), if_neg (by omega), if_neg (by simp), show (8 * t + 2) / 8 = t by omega, List.take_left, List.drop_left]
theorem fld_pos (f : Fld) : 1 ≤ (fld f).length := by
  unfold fld
  have h1 := vput_len (8 * f.tag.toNat + 2)
  have h3 := vput_len (8 * f.tag.toNat)
  split <;> simp <;> omega
theorem wtakeF_flds : ∀ (l : List Fld) (k : Nat), (∀ f ∈ l, f.ok) → ((l.map fld).flatten).length ≤ k → wtakeF k (l.map fld).flatten = some l
  | [], k, _, _ => by cases k <;> rfl
  | f :: r, k, h, hk => by
    have hp := fld_pos f
    have ho := wone_fld f (r.map fld).flatten (h f (by simp))
    simp only [List.map_cons, List.flatten_cons, List.length_append] at hk ⊢
    obtain ⟨k, rfl⟩ : ∃ k', k = k' + 1 := ⟨k - 1, by omega⟩
    have ih := wtakeF_flds r k (fun g hg => h g (by simp [hg])) (by omega)
    cases hb : fld f ++ (r.map fld).flatten with
    | nil => simp at hb; rw [hb.1] at hp; simp at hp
    | cons c t =>
      rw [hb] at ho
      rw [wtakeF, ho]
      · show (wtakeF k (r.map fld).flatten).map (f :: ·) = some (f :: r)
        rw [ih]; rfl
      · intro e; cases e
theorem oks_tag {l : List Fld} (h : ∀ f ∈ l, f.ok) : wput l = some (l.map fld).flatten := wput_ok l fun f hf => (h f hf).1
theorem wtake_dput (l : List Fld) (h : ∀ f ∈ l, f.ok) : wtake (dput l) = some l := by
  unfold dput
  rw [oks_tag h]
  exact wtakeF_flds l _ h (Nat.le_refl _)
theorem rdFields_dput (l : List Fld) (h : ∀ f ∈ l, f.ok) : rdFields (dput l) = (false, l) := by unfold rdFields; rw [wtake_dput l h]

theorem tag_ok (t : Nat) (ht : 1 ≤ t ∧ t ≤ 100) : (decide ((1 : Int) ≤ (t : Int)) && decide ((t : Int) ≤ 100)) = true := by
  rw [Bool.and_eq_true, decide_eq_true_eq, decide_eq_true_eq]; omega
theorem ok_num (t : Nat) (n : Nat) (ht : 1 ≤ t ∧ t ≤ 100) (hn : n < 18446744073709551616) : (fnum t n).ok := ⟨tag_ok t ht, hn, by simp [fnum], rfl⟩
theorem ok_inum (t : Nat) (n : Int) (ht : 1 ≤ t ∧ t ≤ 100) (hn : i64 n) : (inum t n).ok := ok_num t _ ht (zigN_lt n hn.1 hn.2)
theorem ok_txt (t : Nat) (b : List UInt8) (ht : 1 ≤ t ∧ t ≤ 100) (hb : b.length < 18446744073709551616) : (ftxt t b).ok := ⟨tag_ok t ht, by simp [ftxt], hb, rfl⟩

theorem forall3 {α : Type} {P : α → Prop} {a b c : α} (ha : P a) (hb : P b) (hc : P c) : ∀ x ∈ [a, b, c], P x := by
  intro x hx
  rcases List.mem_cons.1 hx with rfl | hx
  · exact ha
  rcases List.mem_cons.1 hx with rfl | hx
  · exact hb
  rcases List.mem_cons.1 hx with rfl | hx
  · exact hc
  cases hx
theorem byteArray_toList (s : ByteArray) : (⟨s.data.toList.toArray⟩ : ByteArray) = s := by cases s; simp
theorem takeValue_put (v : VV) (h : v.ok) : takeValue (putValue v) = some v := by
  obtain ⟨h1, h2, h3⟩ := h
  unfold Go.maxLen at h3
  have hok : ∀ f ∈ putValueF v, f.ok := by
    have hl : v.s.data.toList.length = v.s.size := Array.length_toList
    exact forall3 (ok_num 1 _ (by omega) (by unfold b2n; split <;> omega)) (ok_inum 2 _ (by omega) ⟨h1, h2⟩) (ok_txt 3 _ (by omega) (by omega))
  unfold takeValue putValue
  rw [wtake_dput _ hok]
  have hb : b2n v.null ≤ 1 := by unfold b2n; split <;> omega
  show (if (1 : Int) = 1 ∧ false = false ∧ (2 : Int) = 2 ∧ false = false ∧ (3 : Int) = 3 ∧ true = true ∧ b2n v.null ≤ 1 then some (⟨b2n v.null = 1, zagI (zigN v.n), ⟨v.s.data.toList.toArray⟩⟩ : VV) else none) = some v
  rw [if_pos ⟨rfl, rfl, rfl, rfl, rfl, rfl, hb⟩]
  obtain ⟨nu, n, s⟩ := v
  simp only [zag_zig, byteArray_toList]
  cases nu <;> rfl
theorem rdValue_put (v : VV) (h : v.ok) : rdValue (putValue v) = (false, v) := by unfold rdValue; rw [takeValue_put v h]

theorem rdKey_put (k : KK) (h : k.ok) : rdKey (putKey k) = (false, k) := by
  obtain ⟨h1, h2, h3⟩ := h
  have e := rdFields_dput [inum 1 k.id, inum 2 k.bucket, inum 3 k.row] (forall3 (ok_inum 1 _ (by omega) h1) (ok_inum 2 _ (by omega) h2) (ok_inum 3 _ (by omega) h3))
  unfold rdKey putKey
  rw [e]
  simp [keyOf, KK.put, inum, fnum, zag_zig]
theorem putValue_lt (v : VV) (h : v.ok) : (putValue v).length < 18446744073709551616 := by
  have h1 := putValue_len v
  have h2 := h.2.2
  unfold Go.maxLen at h2
  unfold vlen at h1
  omega
theorem rdRow_put (r : List VV) (h : ∀ v ∈ r, v.ok) : rdRow (putRow r) = (false, r) := by
  have e := rdFields_dput (r.map fun v => ftxt 1 (putValue v)) (fun f hf => by
    obtain ⟨v, hv, rfl⟩ := List.mem_map.1 hf
    exact ok_txt 1 _ (by omega) (putValue_lt v (h v hv)))
  unfold rdRow putRow
  rw [e]
  dsimp only
  have h1 : (r.map fun v => ftxt 1 (putValue v)).any (fun f => (rdValue f.b).1) = false := by
    rw [List.any_eq_false]
    intro f hf
    obtain ⟨v, hv, rfl⟩ := List.mem_map.1 hf
    have : rdValue (putValue v) = (false, v) := rdValue_put v (h v hv)
    show ¬ (rdValue (putValue v)).1 = true
    rw [this]; exact Bool.false_ne_true
  have h2 : (r.map fun v => ftxt 1 (putValue v)).map (fun f => (rdValue f.b).2) = r := by
    rw [List.map_map]
    have : ∀ v ∈ r, ((fun f : Fld => (rdValue f.b).2) ∘ fun v => ftxt 1 (putValue v)) v = v := fun v hv => by
      show (rdValue (putValue v)).2 = v
      rw [rdValue_put v (h v hv)]
    exact (List.map_congr_left this).trans (List.map_id r)
  rw [h1, h2]; rfl

def PP.oks (p : PP) : Prop := i64 p.op ∧ i64 p.col ∧ p.v.ok ∧ (∀ v ∈ p.vals, v.ok) ∧ (∀ x ∈ p.l, i64 x)
theorem nfold_vals : ∀ (l : List VV) (s : Bool × PP), (∀ v ∈ l, v.ok) → (l.map fun v => ftxt 4 (putValue v)).foldl nodeStep s = (s.1, { s.2 with vals := s.2.vals ++ l })
  | [], s, _ => by simp
  | v :: r, s, h => by
    have e : nodeStep s (ftxt 4 (putValue v)) = (s.1, { s.2 with vals := s.2.vals ++ [v] }) := by
      simp only [nodeStep, ftxt, rdValue_put v (h v (by simp))]; simp
    rw [List.map_cons, List.foldl_cons, e, nfold_vals r _ (fun x hx => h x (by simp [hx]))]
    simp
theorem nfold_l : ∀ (l : List Int) (s : Bool × PP), (l.map (inum 5)).foldl nodeStep s = (s.1, { s.2 with l := s.2.l ++ l })
  | [], s => by simp
  | x :: r, s => by
    have e : nodeStep s (inum 5 x) = (s.1, { s.2 with l := s.2.l ++ [x] }) := by
      simp [nodeStep, inum, fnum, zag_zig]
    rw [List.map_cons, List.foldl_cons, e, nfold_l r _]
    simp
theorem rdNode_put (p : PP) (h : p.oks) : rdNode (putNode p) = (false, p) := by
  obtain ⟨h1, h2, h3, h4, h5⟩ := h
  have e := rdFields_dput (putNodeF p) (by
    intro f hf
    unfold putNodeF at hf
    rcases List.mem_append.1 hf with hf | hf
    · rcases List.mem_append.1 hf with hf | hf
      · exact forall3 (P := Fld.ok) (ok_inum 1 _ (by omega) h1) (ok_inum 2 _ (by omega) h2) (ok_txt 3 _ (by omega) (putValue_lt _ h3)) f hf
      · obtain ⟨v, hv, rfl⟩ := List.mem_map.1 hf
        exact ok_txt 4 _ (by omega) (putValue_lt v (h4 v hv))
    · obtain ⟨v, hv, rfl⟩ := List.mem_map.1 hf
      exact ok_inum 5 _ (by omega) (h5 v hv))
  unfold rdNode putNode
  rw [e]
  dsimp only
  have e3 : [inum 1 p.op, inum 2 p.col, ftxt 3 (putValue p.v)].foldl nodeStep (false, PP.zero) = (false, ⟨p.op, p.col, p.v, [], []⟩) := by
    simp [nodeStep, inum, fnum, ftxt, zag_zig, rdValue_put p.v h3, PP.zero]
  rw [putNodeF, List.foldl_append, List.foldl_append, e3, nfold_vals _ _ h4, nfold_l]
  simp

def EE.oks (e : EE) : Prop := i64 e.kind ∧ i64 e.id ∧ i64 e.n ∧ i64 e.m ∧ i64 e.list.high ∧ (∀ r ∈ e.rows, ∀ v ∈ r, v.ok) ∧ (∀ k ∈ e.keys, k.ok) ∧ (∀ x ∈ e.list.except, i64 x) ∧ (∀ x ∈ e.cols, i64 x) ∧ (∀ p ∈ e.pred, p.oks)
theorem efold_rows : ∀ (l : List (List VV)) (s : Bool × EE), (∀ r ∈ l, ∀ v ∈ r, v.ok) → (l.map fun r => ftxt 5 (putRow r)).foldl eventStep s = (s.1, { s.2 with rows := s.2.rows ++ l })
  | [], s, _ => by simp
  | v :: r, s, h => by
    have e : eventStep s (ftxt 5 (putRow v)) = (s.1, { s.2 with rows := s.2.rows ++ [v] }) := by
      simp only [eventStep, ftxt, rdRow_put v (h v (by simp))]; simp
    rw [List.map_cons, List.foldl_cons, e, efold_rows r _ (fun x hx => h x (by simp [hx]))]
    simp
theorem efold_keys : ∀ (l : List KK) (s : Bool × EE), (∀ r ∈ l, r.ok) → (l.map fun r => ftxt 6 (putKey r)).foldl eventStep s = (s.1, { s.2 with keys := s.2.keys ++ l })
  | [], s, _ => by simp
  | v :: r, s, h => by
    have e : eventStep s (ftxt 6 (putKey v)) = (s.1, { s.2 with keys := s.2.keys ++ [v] }) := by
      simp only [eventStep, ftxt, rdKey_put v (h v (by simp))]; simp
    rw [List.map_cons, List.foldl_cons, e, efold_keys r _ (fun x hx => h x (by simp [hx]))]
    simp
theorem efold_pred : ∀ (l : List PP) (s : Bool × EE), (∀ r ∈ l, r.oks) → (l.map fun r => ftxt 10 (putNode r)).foldl eventStep s = (s.1, { s.2 with pred := s.2.pred ++ l })
  | [], s, _ => by simp
  | v :: r, s, h => by
    have e : eventStep s (ftxt 10 (putNode v)) = (s.1, { s.2 with pred := s.2.pred ++ [v] }) := by
      simp only [eventStep, ftxt, rdNode_put v (h v (by simp))]; simp
    rw [List.map_cons, List.foldl_cons, e, efold_pred r _ (fun x hx => h x (by simp [hx]))]
    simp
theorem efold_except : ∀ (l : List Int) (s : Bool × EE), (l.map (inum 8)).foldl eventStep s = (s.1, { s.2 with list := { s.2.list with except := s.2.list.except ++ l } })
  | [], s => by simp
  | x :: r, s => by
    have e : eventStep s (inum 8 x) = (s.1, { s.2 with list := { s.2.list with except := s.2.list.except ++ [x] } }) := by
      simp [eventStep, inum, fnum, zag_zig]
    rw [List.map_cons, List.foldl_cons, e, efold_except r _]
    simp
theorem efold_cols : ∀ (l : List Int) (s : Bool × EE), (l.map (inum 9)).foldl eventStep s = (s.1, { s.2 with cols := s.2.cols ++ l })
  | [], s => by simp
  | x :: r, s => by
    have e : eventStep s (inum 9 x) = (s.1, { s.2 with cols := s.2.cols ++ [x] }) := by
      simp [eventStep, inum, fnum, zag_zig]
    rw [List.map_cons, List.foldl_cons, e, efold_cols r _]
    simp
theorem rowsLen_mem {l : List (List VV)} {r : List VV} (h : r ∈ l) : rowLen r ≤ rowsLen l := by
  obtain ⟨i, hi, rfl⟩ := List.getElem_of_mem h
  exact rowsLen_get l i hi
theorem predLen_mem {l : List PP} {r : PP} (h : r ∈ l) : nodeLen r ≤ predLen l := by
  obtain ⟨i, hi, rfl⟩ := List.getElem_of_mem h
  exact predLen_get l i hi
theorem putEventF_ok (e : EE) (h : e.oks) (hl : evLen e ≤ 4294967000) : ∀ f ∈ putEventF e, f.ok := by
  obtain ⟨h1, h2, h3, h4, h5, h6, h7, h8, h9, h10⟩ := h
  unfold evLen at hl
  intro f hf
  unfold putEventF at hf
  simp only [List.append_assoc] at hf
  rcases List.mem_append.1 hf with hf | hf
  · rcases List.mem_cons.1 hf with rfl | hf
    · exact ok_inum 1 _ (by omega) h1
    · exact forall3 (P := Fld.ok) (ok_inum 2 _ (by omega) h2) (ok_inum 3 _ (by omega) h3) (ok_inum 4 _ (by omega) h4) f hf
  rcases List.mem_append.1 hf with hf | hf
  · obtain ⟨v, hv, rfl⟩ := List.mem_map.1 hf
    have := rowsLen_mem hv
    have := putRow_len v
    exact ok_txt 5 _ (by omega) (by omega)
  rcases List.mem_append.1 hf with hf | hf
  · obtain ⟨v, hv, rfl⟩ := List.mem_map.1 hf
    have := putKey_len v
    exact ok_txt 6 _ (by omega) (by omega)
  rcases List.mem_append.1 hf with hf | hf
  · rw [List.mem_singleton.1 hf]; exact ok_inum 7 _ (by omega) h5
  rcases List.mem_append.1 hf with hf | hf
  · obtain ⟨v, hv, rfl⟩ := List.mem_map.1 hf
    exact ok_inum 8 _ (by omega) (h8 v hv)
  rcases List.mem_append.1 hf with hf | hf
  · obtain ⟨v, hv, rfl⟩ := List.mem_map.1 hf
    exact ok_inum 9 _ (by omega) (h9 v hv)
  · obtain ⟨v, hv, rfl⟩ := List.mem_map.1 hf
    have := predLen_mem hv
    have := putNode_len v
    exact ok_txt 10 _ (by omega) (by omega)
theorem rdEvent_put (e : EE) (h : e.oks) : rdEvent false (putEventF e) = (false, e) := by
  obtain ⟨h1, h2, h3, h4, h5, h6, h7, h8, h9, h10⟩ := h
  have e1 : [inum 1 e.kind, inum 2 e.id, inum 3 e.n, inum 4 e.m].foldl eventStep (false, EE.zero) = (false, ⟨e.kind, e.id, e.n, e.m, [], [], ⟨0, []⟩, [], []⟩) := by
    simp [eventStep, inum, fnum, zag_zig, EE.zero]
  have e7 : ∀ s : Bool × EE, [inum 7 e.list.high].foldl eventStep s = (s.1, { s.2 with list := { s.2.list with high := e.list.high } }) := fun s => by
    simp [eventStep, inum, fnum, zag_zig]
  simp only [rdEvent, putEventF, List.foldl_append, e1, efold_rows _ _ h6, efold_keys _ _ h7, e7, efold_except, efold_cols, efold_pred _ _ h10, List.nil_append]
theorem takeEvent_put (e : EE) (h : e.oks) (hl : evLen e ≤ 4294967000) : takeEvent (putEvent e) = some e := by
  have e1 : rdFields (putEvent e) = (false, putEventF e) := rdFields_dput _ (putEventF_ok e h hl)
  unfold takeEvent
  rw [e1]
  dsimp only
  rw [rdEvent_put e h]
  simp
theorem putEvent_take {b : List UInt8} {e : EE} (h : takeEvent b = some e) : putEvent e = b := by
  unfold takeEvent at h
  dsimp only at h
  split at h
  · cases h
  · rename_i hc
    injection h with h
    subst h
    simp at hc
    exact hc.2
end Go.Proofs.YtojenpjafgfpaaaGreatDoor
/- Scripts: what was written is read as it was, and what was read is written as it was. Plain Lean; no program in sight. -/
namespace Go.Proofs.YtojenpjafgfpaaaGreatDoor
open Go Go.RowKit

theorem indexByte_app : ∀ (a r : List UInt8), no10 a → Lib.indexByte (a ++ 10 :: r) 10 = (a.length : Int)
  | [], r, _ => by simp [Lib.indexByte]
  | c :: a, r, h => by
    have hc : (c == 10) = false := by
      rw [beq_eq_false_iff_ne]
      rintro rfl
      unfold no10 at h
      simp at h
    have ha : no10 a := by
      unfold no10 at h ⊢
      rw [List.count_cons, hc] at h
      simpa using h
    have ih := indexByte_app a r ha
    have hn : (((a.length : Nat) : Int) == -1) = false := by rw [beq_eq_false_iff_ne]; omega
    rw [List.cons_append, Lib.indexByte, hc, ih, hn]
    simp
theorem cutNl_app (a r : List UInt8) (h : no10 a) : cutNl (a ++ 10 :: r) = (a, r, true) := by
  have e := indexByte_app a r h
  unfold cutNl Lib.cut
  rw [Lib.index_one, e, if_pos (by omega), Int.toNat_natCast, List.take_left]
  congr 2
  rw [List.drop_append]
  simp
theorem indexByte_at : ∀ (s : List UInt8), 0 ≤ Lib.indexByte s 10 → s = s.take (Lib.indexByte s 10).toNat ++ 10 :: s.drop ((Lib.indexByte s 10).toNat + 1)
  | [], h => by simp [Lib.indexByte] at h
  | c :: r, h => by
    unfold Lib.indexByte at h ⊢
    by_cases hc : (c == 10) = true
    · rw [if_pos hc]
      have : c = 10 := by simpa using hc
      subst this
      simp
    · rw [if_neg hc] at h ⊢
      by_cases hn : (Lib.indexByte r 10 == -1) = true
      · rw [if_pos hn] at h; omega
      · rw [if_neg hn] at h ⊢
        have hge : 0 ≤ Lib.indexByte r 10 := by
          have := Lib.index_ge r [10]
          rw [Lib.index_one] at this
          have hne : Lib.indexByte r 10 ≠ -1 := by simpa using hn
          omega
        have ih := indexByte_at r hge
        rw [show (Lib.indexByte r 10 + 1).toNat = (Lib.indexByte r 10).toNat + 1 by omega]
        simp only [List.take_succ_cons, List.drop_succ_cons, List.cons_append]
        rw [← ih]
theorem cutNl_true {s : List UInt8} (h : (cutNl s).2.2 = true) : s = (cutNl s).1 ++ 10 :: (cutNl s).2.1 := by
  unfold cutNl Lib.cut at *
  rw [Lib.index_one] at *
  by_cases h0 : 0 ≤ Lib.indexByte s 10
  · rw [if_pos h0]; exact indexByte_at s h0
  · rw [if_neg h0] at h; cases h

theorem hexD_toNat : ∀ n : Fin 16, unhexD (hexD n.val) = some n.val := by decide
theorem hexD_un (c : UInt8) (h : Nat) (e : unhexD c = some h) : h < 16 ∧ hexD h = c := by
  have hk : ∀ c : Fin 256, ∀ h : Fin 16, unhexD (UInt8.ofNat c.val) = some h.val → hexD h.val = UInt8.ofNat c.val := by decide +kernel
  have hl := unhexD_lt e
  have hc : UInt8.ofNat c.toNat = c := UInt8.ofNat_toNat
  refine ⟨hl, ?_⟩
  have := hk ⟨c.toNat, c.toNat_lt⟩ ⟨h, hl⟩ (by rw [hc]; exact e)
  rw [hc] at this; exact this
theorem unhex_hex : ∀ b : List UInt8, unhex (hexOf b) = some b
  | [] => rfl
  | c :: r => by
    have hc := c.toNat_lt
    have e1 := hexD_toNat ⟨c.toNat / 16, by omega⟩
    have e2 := hexD_toNat ⟨c.toNat % 16, by omega⟩
    dsimp only at e1 e2
    rw [hexOf, unhex, e1, e2]
    dsimp only
    rw [unhex_hex r, show 16 * (c.toNat / 16) + c.toNat % 16 = c.toNat by omega, UInt8.ofNat_toNat]
    rfl
theorem hex_unhex : ∀ (n : Nat) (s b : List UInt8), s.length ≤ n → unhex s = some b → hexOf b = s
  | _, [], b, _, h => by simp [unhex] at h; subst h; rfl
  | _, [_], b, _, h => by simp [unhex] at h
  | n, a :: c :: r, b, hn, h => by
    unfold unhex at h
    cases ha : unhexD a with
    | none => rw [ha] at h; simp at h
    | some x =>
      cases hc : unhexD c with
      | none => rw [ha, hc] at h; simp at h
      | some y =>
        rw [ha, hc] at h
        dsimp only at h
        cases hr : unhex r with
        | none => rw [hr] at h; simp at h
        | some t =>
          rw [hr] at h
          have h' : UInt8.ofNat (16 * x + y) :: t = b := Option.some.inj h
          subst h'
          obtain ⟨h1, h2⟩ := hexD_un a x ha
          obtain ⟨h3, h4⟩ := hexD_un c y hc
          have ih := hex_unhex (n - 2) r t (by simp at hn; omega) hr
          have e : (UInt8.ofNat (16 * x + y)).toNat = 16 * x + y := ofNat_toNat (by omega)
          rw [hexOf, e, show (16 * x + y) / 16 = x by omega, show (16 * x + y) % 16 = y by omega, h2, h4, ih]
theorem lineOf_hex (b : List UInt8) : lineOf (hexOf b) = takeEvent b := by unfold lineOf; rw [unhex_hex]; rfl
theorem lineOf_some {s : List UInt8} {e : EE} (h : lineOf s = some e) : hexOf (putEvent e) = s ∧ evLen e ≤ 400 + 501 * (putEvent e).length := by
  unfold lineOf at h
  cases hu : unhex s with
  | none => rw [hu] at h; cases h
  | some b =>
    rw [hu] at h
    have h' : takeEvent b = some e := h
    have hp := putEvent_take h'
    refine ⟨by rw [hp]; exact hex_unhex _ s b (Nat.le_refl _) hu, ?_⟩
    rw [hp]
    unfold takeEvent at h'
    dsimp only at h'
    split at h'
    · cases h'
    · injection h' with h'
      subst h'
      exact rdEvent_len b _

theorem printOf_cons (e : EE) (r : List EE) : printOf (e :: r) = hexOf (putEvent e) ++ 10 :: printOf r := by simp [printOf]
theorem count_printOf : ∀ l : List EE, (printOf l).count 10 = l.length
  | [] => rfl
  | e :: r => by
    have h := no10_hex (putEvent e)
    unfold no10 at h
    rw [printOf_cons, List.count_append, h, List.count_cons, count_printOf r]; simp
theorem parse_print : ∀ (l acc : List EE) (k : Nat), (∀ e ∈ l, e.oks ∧ evLen e ≤ 4294967000) → l.length < k → parseL k acc (printOf l) = (acc ++ l, 0, 0)
  | [], acc, k, _, hk => by
    obtain ⟨k, rfl⟩ : ∃ k', k = k' + 1 := ⟨k - 1, by simp at hk; omega⟩
    simp [parseL, printOf]
  | e :: r, acc, k, h, hk => by
    obtain ⟨k, rfl⟩ : ∃ k', k = k' + 1 := ⟨k - 1, by simp at hk; omega⟩
    have hc := cutNl_app (hexOf (putEvent e)) (printOf r) (no10_hex _)
    have ht := takeEvent_put e (h e (by simp)).1 (h e (by simp)).2
    rw [printOf_cons, parseL, if_neg (by simp), hc]
    dsimp only
    rw [lineOf_hex, ht]
    dsimp only
    rw [parse_print r _ k (fun x hx => h x (by simp [hx])) (by simp at hk; omega)]
    simp
theorem printOf_ge : ∀ l : List EE, l.length ≤ (printOf l).length
  | [] => by simp
  | e :: r => by have := printOf_ge r; rw [printOf_cons]; simp; omega
theorem parseOf_print (l : List EE) (h : ∀ e ∈ l, e.oks ∧ evLen e ≤ 4294967000) (hl : (printOf l).length ≤ 65536) (hn : l.length ≤ 2048) : parseOf (printOf l) = (l, 0, 0) := by
  have hc := count_printOf l
  have hg := printOf_ge l
  unfold parseOf
  rw [if_neg (by omega), parse_print l [] _ h (by omega)]
  simp
theorem print_parse : ∀ (k : Nat) (acc : List EE) (s : List UInt8) (m : Nat) (l : List EE), s.length < k → parseL k acc s = (l, m, 0) → ∃ l', l = acc ++ l' ∧ printOf l' = s ∧ ∀ e ∈ l', evLen e ≤ 400 + 501 * (putEvent e).length
  | 0, _, _, _, _, hk, _ => by omega
  | k + 1, acc, s, m, l, hk, h => by
    unfold parseL at h
    by_cases hs : s = []
    · rw [if_pos hs] at h
      injection h with h
      exact ⟨[], by simp [h], by rw [hs]; rfl, by simp⟩
    · rw [if_neg hs] at h
      cases hc : (cutNl s).2.2 with
      | false => rw [hc] at h; simp at h
      | true =>
        cases hl : lineOf (cutNl s).1 with
        | none => rw [hc, hl] at h; simp at h
        | some e =>
          rw [hc, hl] at h
          dsimp only at h
          have hlen := (cutNl_len hs).1
          obtain ⟨l', h1, h2, h3⟩ := print_parse k _ _ m l (by omega) h
          obtain ⟨h4, h5⟩ := lineOf_some hl
          refine ⟨e :: l', by rw [h1]; simp, ?_, fun x hx => ?_⟩
          · rw [printOf_cons, h4, h2]; exact (cutNl_true hc).symm
          · rcases List.mem_cons.1 hx with rfl | hx
            · exact h5
            · exact h3 x hx
theorem parseL_bad : ∀ (k : Nat) (acc : List EE) (s : List UInt8), (parseL k acc s).2.2 ≠ 0 → (parseL k acc s).1 = []
  | 0, _, _, h => absurd rfl h
  | k + 1, acc, s, h => by
    unfold parseL at h ⊢
    by_cases hs : s = []
    · rw [if_pos hs] at h; exact absurd rfl h
    · rw [if_neg hs] at h ⊢
      split
      · rename_i e h1 h2
        rw [h1, h2] at h
        exact parseL_bad k _ _ h
      · rfl
theorem parseOf_bad (s : List UInt8) (h : (parseOf s).2.2 ≠ 0) : (parseOf s).1 = [] := by
  unfold parseOf at *
  by_cases hs : 65536 < s.length ∨ 2048 < s.count 10
  · rw [if_pos hs]
  · rw [if_neg hs] at h ⊢
    exact parseL_bad _ _ _ h
theorem evsLen_line : ∀ l : List EE, (∀ e ∈ l, evLen e ≤ 400 + 501 * (putEvent e).length) → evsLen l ≤ 501 * (printOf l).length
  | [], _ => by simp [evsLen]
  | e :: r, h => by
    have ih := evsLen_line r (fun x hx => h x (by simp [hx]))
    have he := h e (by simp)
    rw [printOf_cons]
    simp only [evsLen, List.length_append, List.length_cons, hexOf_len]; omega
theorem parseOf_good (s : List UInt8) (h : (parseOf s).2.2 = 0) : printOf (parseOf s).1 = s ∧ (parseOf s).1.length ≤ 2048 ∧ evsLen (parseOf s).1 ≤ 501 * s.length := by
  unfold parseOf at *
  by_cases hs : 65536 < s.length ∨ 2048 < s.count 10
  · rw [if_pos hs] at h; cases h
  · rw [if_neg hs] at h ⊢
    obtain ⟨l', h1, h2, h3⟩ := print_parse (s.length + 1) [] s (parseL (s.length + 1) [] s).2.1 (parseL (s.length + 1) [] s).1 (by omega) (by rw [← h])
    rw [List.nil_append] at h1
    rw [h1]
    have hc := count_printOf l'
    have he := evsLen_line l' h3
    rw [h2] at hc he
    exact ⟨h2, by omega, he⟩
end Go.Proofs.YtojenpjafgfpaaaGreatDoor
