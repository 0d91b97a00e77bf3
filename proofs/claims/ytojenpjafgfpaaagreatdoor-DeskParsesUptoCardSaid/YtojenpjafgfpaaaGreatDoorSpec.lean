/- Numbers: what Go's bit operations come to. Plain Lean; no condition. -/
import Derived.Test.YtojenpjafgfpaaaGreatDoorMem
import Derived.Laws.BitsAllLaws
import Derived.Laws.BitsLemmas
namespace Go.Proofs.YtojenpjafgfpaaaGreatDoor
open Go Go.RowKit

theorem ret_int {k : IntKind} {a b : Int} (h : a = b) : Ending.returned (.int k a) = .returned (.int k b) := by rw [h]

def zigN (x : Int) : Nat := if x < 0 then (-2 * x - 1).toNat else (2 * x).toNat
def zagI (u : Nat) : Int := if u % 2 = 1 then -((u / 2 : Nat) : Int) - 1 else ((u / 2 : Nat) : Int)
theorem zigN_lt (x : Int) (h0 : -9223372036854775808 ≤ x) (h1 : x ≤ 9223372036854775807) : zigN x < 18446744073709551616 := by unfold zigN; split <;> omega
theorem zagI_bd (u : Nat) (h : u < 18446744073709551616) : -9223372036854775808 ≤ zagI u ∧ zagI u ≤ 9223372036854775807 := by unfold zagI; split <;> omega
theorem zag_zig (x : Int) : zagI (zigN x) = x := by unfold zagI zigN; split <;> split <;> omega
theorem zig_zag (u : Nat) : zigN (zagI u) = u := by unfold zagI zigN; split <;> split <;> omega

theorem xor_ones64 (a : Nat) (h : a < 18446744073709551616) : a ^^^ 18446744073709551615 = 18446744073709551615 - a := by
  have e : (BitVec.ofNat 64 a ^^^ BitVec.allOnes 64) = ~~~ BitVec.ofNat 64 a := BitVec.xor_allOnes
  have e2 := congrArg BitVec.toNat e
  rw [BitVec.toNat_xor, BitVec.toNat_not, BitVec.toNat_ofNat, BitVec.toNat_allOnes, Nat.mod_eq_of_lt (by omega)] at e2
  exact e2
theorem zig_bits (x : Int) (h0 : -9223372036854775808 ≤ x) (h1 : x ≤ 9223372036854775807) :
    bits BinOp.xor IntKind.u64 (IntKind.u64.wrap (IntKind.u64.wrap x * 2)) (IntKind.u64.wrap (x / 9223372036854775808)) = (zigN x : Int) := by
  rw [IntKind.wrap_u64, IntKind.wrap_u64, IntKind.wrap_u64]
  unfold zigN
  split
  · rename_i h
    rw [show x / 9223372036854775808 = -1 by omega, show (-1 : Int) % 18446744073709551616 = ((18446744073709551615 : Nat) : Int) by decide,
      show x % 18446744073709551616 * 2 % 18446744073709551616 = (((x % 18446744073709551616 * 2 % 18446744073709551616).toNat : Nat) : Int) by omega, u64_xor_nat _ _ (by omega) (by omega), xor_ones64 _ (by omega)]
    omega
  · rename_i h
    rw [show x / 9223372036854775808 = 0 by omega, show (0 : Int) % 18446744073709551616 = ((0 : Nat) : Int) by decide,
      show x % 18446744073709551616 * 2 % 18446744073709551616 = (((x % 18446744073709551616 * 2 % 18446744073709551616).toNat : Nat) : Int) by omega, u64_xor_nat _ _ (by omega) (by omega), Nat.xor_zero]
    omega
theorem i64_xor_ones (a : Nat) (ha : a < 9223372036854775808) : bits .xor .i64 (a : Int) (-1) = -(a : Int) - 1 := by
  show IntKind.i64.wrap ((BitVec.ofInt 64 (a : Int) ^^^ BitVec.ofInt 64 (-1)).toNat : Int) = _
  rw [show BitVec.ofInt 64 (-1) = BitVec.allOnes 64 by decide, BitVec.xor_allOnes, BitVec.toNat_not, BitVec.ofInt_natCast, BitVec.toNat_ofNat, Nat.mod_eq_of_lt (by omega), IntKind.wrap_i64]
  omega
theorem i64_xor_nought (a : Nat) (ha : a < 9223372036854775808) : bits .xor .i64 (a : Int) 0 = (a : Int) := by
  show IntKind.i64.wrap ((BitVec.ofInt 64 (a : Int) ^^^ BitVec.ofInt 64 0).toNat : Int) = _
  rw [show BitVec.ofInt 64 0 = 0#64 by decide, BitVec.xor_zero, BitVec.ofInt_natCast, BitVec.toNat_ofNat, Nat.mod_eq_of_lt (by omega), IntKind.wrap_i64]
  omega
theorem u64_and1 (x : Nat) (h : x < 18446744073709551616) : bits BinOp.and IntKind.u64 (x : Int) 1 = ((x % 2 : Nat) : Int) := by
  rw [show (1 : Int) = ((1 : Nat) : Int) from rfl, u64_and_nat _ _ h (by omega), nat_mask1]
theorem zag_bits (x : Nat) (h : x < 18446744073709551616) :
    bits BinOp.xor IntKind.i64 ((x : Int) / 2) (wrap64 (-wrap64 (bits BinOp.and IntKind.u64 (x : Int) 1))) = zagI x := by
  rw [u64_and1 x h]
  unfold zagI
  rw [show (x : Int) / 2 = ((x / 2 : Nat) : Int) by omega]
  rcases Nat.mod_two_eq_zero_or_one x with h1 | h1
  · rw [h1, if_neg (by omega), show wrap64 (-wrap64 (((0 : Nat) : Int))) = 0 by unfold wrap64; omega, i64_xor_nought _ (by omega)]
  · rw [h1, if_pos rfl, show wrap64 (-wrap64 (((1 : Nat) : Int))) = -1 by unfold wrap64; omega, i64_xor_ones _ (by omega)]
theorem u8_or128 (b : Nat) (h : b < 256) : bits BinOp.or IntKind.u8 (b : Int) 128 = ((b % 128 + 128 : Nat) : Int) := by
  rw [show (128 : Int) = ((128 : Nat) : Int) from rfl, u8_or_nat _ _ h (by omega)]
  congr 1
  exact (by decide +kernel : ∀ b : Fin 256, b.val ||| 128 = b.val % 128 + 128) ⟨b, h⟩
theorem u8_and128 (b : Nat) (h : b < 256) : bits BinOp.and IntKind.u8 (b : Int) 128 = ((b / 128 * 128 : Nat) : Int) := by
  rw [show (128 : Int) = ((128 : Nat) : Int) from rfl, u8_and_nat _ _ h (by omega)]
  congr 1
  exact (by decide +kernel : ∀ b : Fin 256, b.val &&& 128 = b.val / 128 * 128) ⟨b, h⟩
theorem u8_andNot128 (b : Nat) (h : b < 256) : bits BinOp.andNot IntKind.u8 (b : Int) 128 = ((b % 128 : Nat) : Int) := by
  rw [show (128 : Int) = ((128 : Nat) : Int) from rfl, u8_andNot_nat _ _ h (by omega)]
  congr 1
  exact (by decide +kernel : ∀ b : Fin 256, b.val &&& (255 - 128) = b.val % 128) ⟨b, h⟩
theorem u64_or2 (t : Nat) (h : t ≤ 100) : bits BinOp.or IntKind.u64 ((t : Int) * 8) 2 = ((8 * t + 2 : Nat) : Int) := by
  rw [show (t : Int) * 8 = ((8 * t : Nat) : Int) by omega, show (2 : Int) = ((2 : Nat) : Int) from rfl, u64_or_nat _ _ (by omega) (by omega), nat_join 3 (8 * t) 2 (by omega) (by omega)]
theorem u64_wrap_nat (n : Nat) (h : n < 18446744073709551616) : IntKind.u64.wrap (n : Int) = (n : Int) := by rw [IntKind.wrap_u64]; omega
theorem intCast_toNat (n : Nat) : ((n : Nat) : Int).toNat = n := Int.toNat_natCast n
end Go.Proofs.YtojenpjafgfpaaaGreatDoor
/- What the layers varint, wire and desk compute, as plain functions on lists. Plain Lean; no condition. -/
namespace Go.Proofs.YtojenpjafgfpaaaGreatDoor

/-! varint -/
def vputF : Nat → Nat → List UInt8
  | 0, x => [UInt8.ofNat x]
  | f + 1, x => if x < 128 then [UInt8.ofNat x] else UInt8.ofNat (x % 128 + 128) :: vputF f (x / 128)
def vput (x : Nat) : List UInt8 := vputF 9 x
def vtk : Nat → Nat → Nat → List UInt8 → Option (Nat × List UInt8)
  | 0, _, _, _ => none
  | _ + 1, _, _, [] => none
  | f + 1, i, x, c :: r =>
    if 128 ≤ c.toNat then vtk f (i + 1) (x + (c.toNat - 128) * 128 ^ i) r
    else if c.toNat = 0 ∧ 0 < i ∨ i = 9 ∧ 1 < c.toNat then none
    else some (x + c.toNat * 128 ^ i, r)
def vtake (b : List UInt8) : Option (Nat × List UInt8) := vtk 10 0 0 b

theorem vputF_len (f x : Nat) : 1 ≤ (vputF f x).length ∧ (vputF f x).length ≤ f + 1 := by
  induction f generalizing x with
  | zero => simp [vputF]
  | succ f ih =>
    unfold vputF
    split
    · simp
    · have := ih (x / 128); simp; omega
theorem vput_len (x : Nat) : 1 ≤ (vput x).length ∧ (vput x).length ≤ 10 := vputF_len 9 x

/-! wire -/
structure Fld where
  tag : Int
  bytes : Bool
  n : Nat
  b : List UInt8
  deriving DecidableEq
def fld (f : Fld) : List UInt8 := if f.bytes then vput (8 * f.tag.toNat + 2) ++ vput f.b.length ++ f.b else vput (8 * f.tag.toNat) ++ vput f.n
def tagOk (f : Fld) : Bool := 1 ≤ f.tag && f.tag ≤ 100
def wput : List Fld → Option (List UInt8)
  | [] => some []
  | f :: r => if tagOk f then (wput r).map (fld f ++ ·) else none
/-- How long it is, at most. -/
def wlen : List Fld → Nat
  | [] => 0
  | f :: r => f.b.length + 20 + wlen r
theorem wlen_append (l m : List Fld) : wlen (l ++ m) = wlen l + wlen m := by
  induction l with
  | nil => simp [wlen]
  | cons f r ih => simp only [List.cons_append, wlen, ih]; omega
theorem wlen_take : ∀ (l : List Fld) (k : Nat) (h : k < l.length), wlen (l.take k) + ((l[k]'h).b.length + 20) ≤ wlen l
  | f :: r, 0, _ => by simp only [List.take_zero, wlen, List.getElem_cons_zero]; omega
  | f :: r, k + 1, h => by
    have := wlen_take r k (by simpa using h)
    simp only [List.take_succ_cons, wlen, List.getElem_cons_succ]; omega
theorem wput_snoc : ∀ (l : List Fld) (f : Fld) (b : List UInt8), wput l = some b → tagOk f = true → wput (l ++ [f]) = some (b ++ fld f)
  | [], f, b, h, ht => by simp [wput] at h; subst h; simp [wput, ht]
  | g :: r, f, b, h, ht => by
    unfold wput at h
    split at h
    · rename_i hg
      cases hr : wput r with
      | none => simp [hr] at h
      | some b' =>
        simp [hr] at h
        subst h
        simp [wput, hg, wput_snoc r f b' hr ht]
    · cases h
theorem wput_bad : ∀ (l : List Fld) (k : Nat) (h : k < l.length), tagOk (l[k]'h) = false → wput l = none
  | f :: r, 0, _, ht => by simp at ht; simp [wput, ht]
  | f :: r, k + 1, h, ht => by
    have := wput_bad r k (by simpa using h) (by simpa using ht)
    simp [wput, this]
theorem fld_len (f : Fld) : (fld f).length ≤ f.b.length + 20 := by
  unfold fld
  have h1 := vput_len (8 * f.tag.toNat + 2)
  have h2 := vput_len f.b.length
  have h3 := vput_len (8 * f.tag.toNat)
  have h4 := vput_len f.n
  split <;> simp <;> omega
theorem wput_ok : ∀ (l : List Fld), (∀ f ∈ l, tagOk f = true) → wput l = some (l.map fld).flatten
  | [], _ => rfl
  | f :: r, h => by
    rw [wput, if_pos (h f (by simp)), wput_ok r (fun g hg => h g (by simp [hg]))]
    rfl
theorem flds_len : ∀ (l : List Fld), ((l.map fld).flatten).length ≤ wlen l
  | [] => by simp [wlen]
  | f :: r => by
    have := flds_len r
    have := fld_len f
    simp only [List.map_cons, List.flatten_cons, List.length_append, wlen]; omega
/-- 0, or the number of an error. -/
def okc (b : Bool) (e : Int) : Int := if b then 0 else e
def dput (l : List Fld) : List UInt8 := (wput l).getD []
theorem wput_len (l : List Fld) (b : List UInt8) (h : wput l = some b) : b.length ≤ wlen l := by
  induction l generalizing b with
  | nil => simp [wput] at h; subst h; simp [wlen]
  | cons f r ih =>
    unfold wput at h
    split at h
    · cases hr : wput r with
      | none => simp [hr] at h
      | some b' =>
        simp [hr] at h
        subst h
        have := ih b' hr
        have := fld_len f
        simp [wlen]; omega
    · cases h
theorem dput_len (l : List Fld) : (dput l).length ≤ wlen l := by
  unfold dput
  cases h : wput l with
  | none => simp
  | some b => exact wput_len l b h

/-- The field that bytes begin with. -/
def wone (b : List UInt8) : Option (Fld × List UInt8) :=
  match vtake b with
  | none => none
  | some (key, r1) =>
    match vtake r1 with
    | none => none
    | some (n, r2) =>
      if key / 8 < 1 ∨ 100 < key / 8 ∨ ¬ (key % 8 = 0 ∨ key % 8 = 2) then none
      else if key % 8 = 0 then some (⟨(key / 8 : Nat), false, n, []⟩, r2)
      else if r2.length < n then none
      else some (⟨(key / 8 : Nat), true, 0, r2.take n⟩, r2.drop n)
def wtakeF : Nat → List UInt8 → Option (List Fld)
  | _, [] => some []
  | 0, _ => none
  | k + 1, b =>
    match wone b with
    | none => none
    | some (f, r) => (wtakeF k r).map (f :: ·)
def wtake (b : List UInt8) : Option (List Fld) := wtakeF b.length b

def fnum (tag : Int) (n : Nat) : Fld := ⟨tag, false, n, []⟩
def ftxt (tag : Int) (b : List UInt8) : Fld := ⟨tag, true, 0, b⟩

/-! values -/
structure VV where
  null : Bool
  n : Int
  s : ByteArray
  deriving DecidableEq
def VV.zero : VV := ⟨false, 0, ⟨#[]⟩⟩
def VV.ok (v : VV) : Prop := -9223372036854775808 ≤ v.n ∧ v.n ≤ 9223372036854775807 ∧ v.s.size ≤ Go.maxLen
def b2n (b : Bool) : Nat := if b then 1 else 0
def putValueF (v : VV) : List Fld := [fnum 1 (b2n v.null), fnum 2 (zigN v.n), ftxt 3 v.s.data.toList]
def putValue (v : VV) : List UInt8 := dput (putValueF v)
/-- Fields that have the tags 1, 2, .., some of them bytes. -/
def shapedAs (l : List Fld) (pat : List Bool) : Bool := l.length = pat.length ∧ ∀ i, i < l.length → (l[i]?.map (·.tag)) = some ((i : Int) + 1) ∧ (l[i]?.map (·.bytes)) = pat[i]?
def takeValue (b : List UInt8) : Option VV :=
  match wtake b with
  | some [f1, f2, f3] => if f1.tag = 1 ∧ f1.bytes = false ∧ f2.tag = 2 ∧ f2.bytes = false ∧ f3.tag = 3 ∧ f3.bytes = true ∧ f1.n ≤ 1 then some ⟨f1.n = 1, zagI f2.n, ⟨f3.b.toArray⟩⟩ else none
  | _ => none

/-! events -/
structure KK where
  id : Int
  bucket : Int
  row : Int
  deriving DecidableEq
structure PP where
  op : Int
  col : Int
  v : VV
  vals : List VV
  l : List Int
  deriving DecidableEq
structure LL where
  high : Int
  except : List Int
  deriving DecidableEq
structure EE where
  kind : Int
  id : Int
  n : Int
  m : Int
  rows : List (List VV)
  keys : List KK
  list : LL
  cols : List Int
  pred : List PP
  deriving DecidableEq
structure KD where
  key : KK
  row : List VV
structure AA where
  code : Int
  n : Int
  rows : List KD
  list : LL

def inum (tag : Int) (n : Int) : Fld := fnum tag (zigN n)
def putRow (r : List VV) : List UInt8 := dput (r.map fun v => ftxt 1 (putValue v))
def putKey (k : KK) : List UInt8 := dput [inum 1 k.id, inum 2 k.bucket, inum 3 k.row]
def putNodeF (p : PP) : List Fld := [inum 1 p.op, inum 2 p.col, ftxt 3 (putValue p.v)] ++ p.vals.map (fun v => ftxt 4 (putValue v)) ++ p.l.map (inum 5)
def putNode (p : PP) : List UInt8 := dput (putNodeF p)
def putEventF (e : EE) : List Fld :=
  [inum 1 e.kind, inum 2 e.id, inum 3 e.n, inum 4 e.m] ++ e.rows.map (fun r => ftxt 5 (putRow r)) ++ e.keys.map (fun k => ftxt 6 (putKey k)) ++ [inum 7 e.list.high] ++
    e.list.except.map (inum 8) ++ e.cols.map (inum 9) ++ e.pred.map (fun p => ftxt 10 (putNode p))
def putEvent (e : EE) : List UInt8 := dput (putEventF e)

/-! what is read: a flag that something was none, and the thing -/
def rdFields (b : List UInt8) : Bool × List Fld := match wtake b with | some l => (false, l) | none => (true, [])
def rdValue (b : List UInt8) : Bool × VV := match takeValue b with | some v => (false, v) | none => (true, VV.zero)
def KK.zero : KK := ⟨0, 0, 0⟩
def KK.put (k : KK) (i : Nat) (x : Int) : KK := match i with | 0 => { k with id := x } | 1 => { k with bucket := x } | _ => { k with row := x }
def keyOf : Nat → KK → List Fld → Bool × KK
  | _, k, [] => (false, k)
  | i, k, f :: r => if 3 ≤ i then (true, k) else keyOf (i + 1) (k.put i (zagI f.n)) r
def rdKey (b : List UInt8) : Bool × KK := let x := rdFields b; let y := keyOf 0 KK.zero x.2; (x.1 || y.1, y.2)
def PP.zero : PP := ⟨0, 0, VV.zero, [], []⟩
def nodeStep (s : Bool × PP) (f : Fld) : Bool × PP :=
  if f.tag = 1 then (s.1, { s.2 with op := zagI f.n })
  else if f.tag = 2 then (s.1, { s.2 with col := zagI f.n })
  else if f.tag = 3 then (s.1 || (rdValue f.b).1, { s.2 with v := (rdValue f.b).2 })
  else if f.tag = 4 then (s.1 || (rdValue f.b).1, { s.2 with vals := s.2.vals ++ [(rdValue f.b).2] })
  else if f.tag = 5 then (s.1, { s.2 with l := s.2.l ++ [zagI f.n] })
  else s
def rdNode (b : List UInt8) : Bool × PP := let x := rdFields b; x.2.foldl nodeStep (x.1, PP.zero)
def rdRow (b : List UInt8) : Bool × List VV := let x := rdFields b; (x.1 || x.2.any (fun f => (rdValue f.b).1), x.2.map fun f => (rdValue f.b).2)
def EE.zero : EE := ⟨0, 0, 0, 0, [], [], ⟨0, []⟩, [], []⟩
def eventStep (s : Bool × EE) (f : Fld) : Bool × EE :=
  if f.tag = 1 then (s.1, { s.2 with kind := zagI f.n })
  else if f.tag = 2 then (s.1, { s.2 with id := zagI f.n })
  else if f.tag = 3 then (s.1, { s.2 with n := zagI f.n })
  else if f.tag = 4 then (s.1, { s.2 with m := zagI f.n })
  else if f.tag = 5 then (s.1 || (rdRow f.b).1, { s.2 with rows := s.2.rows ++ [(rdRow f.b).2] })
  else if f.tag = 6 then (s.1 || (rdKey f.b).1, { s.2 with keys := s.2.keys ++ [(rdKey f.b).2] })
  else if f.tag = 7 then (s.1, { s.2 with list := { s.2.list with high := zagI f.n } })
  else if f.tag = 8 then (s.1, { s.2 with list := { s.2.list with except := s.2.list.except ++ [zagI f.n] } })
  else if f.tag = 9 then (s.1, { s.2 with cols := s.2.cols ++ [zagI f.n] })
  else if f.tag = 10 then (s.1 || (rdNode f.b).1, { s.2 with pred := s.2.pred ++ [(rdNode f.b).2] })
  else s
def rdEvent (bad : Bool) (l : List Fld) : Bool × EE := l.foldl eventStep (bad, EE.zero)
def takeEvent (b : List UInt8) : Option EE :=
  let x := rdFields b
  let y := rdEvent x.1 x.2
  if y.1 || putEvent y.2 != b then none else some y.2

/-! scripts -/
def hexD (n : Nat) : UInt8 := if n < 10 then UInt8.ofNat (48 + n) else UInt8.ofNat (87 + n)
def hexOf : List UInt8 → List UInt8
  | [] => []
  | c :: r => hexD (c.toNat / 16) :: hexD (c.toNat % 16) :: hexOf r
def unhexD (c : UInt8) : Option Nat := if 48 ≤ c.toNat ∧ c.toNat ≤ 57 then some (c.toNat - 48) else if 97 ≤ c.toNat ∧ c.toNat ≤ 102 then some (c.toNat - 87) else none
def unhex : List UInt8 → Option (List UInt8)
  | [] => some []
  | [_] => none
  | a :: b :: r =>
    match unhexD a, unhexD b with
    | some h, some l => (unhex r).map (UInt8.ofNat (16 * h + l) :: ·)
    | _, _ => none
def lineOf (s : List UInt8) : Option EE := (unhex s).bind takeEvent
def printOf (l : List EE) : List UInt8 := (l.map fun e => hexOf (putEvent e) ++ [10]).flatten
end Go.Proofs.YtojenpjafgfpaaaGreatDoor
