/- Numbers: what Go's bit operations come to. Plain Lean; no condition. The structs of this claim's layers as types' words. No condition; no program in sight. Bytes of a number, the highest first; adding to one byte; numbers packed bit by bit. Plain Lean; no program in sight. Runs of bytes, and of truths: what is laid down. Plain Lean; no program in sight. Rows of bytes that are the same; what comes of them, one behind the other. Plain Lean; no program in sight. -/
import Derived.Test.YtpmglcachffojaaGreatDoorPk1
import Derived.Laws.BitsAllLaws
import Derived.Laws.BitsLemmas
namespace Go.Proofs.YtpmglcachffojaaGreatDoor
open Go Go.RowKit

theorem ret_int {k : IntKind} {a b : Int} (h : a = b) : Ending.returned (.int k a) = .returned (.int k b) := by rw [h]

def zigN (x : Int) : Nat := if x < 0 then (-2 * x - 1).toNat else (2 * x).toNat
def zagI (u : Nat) : Int := if u % 2 = 1 then -((u / 2 : Nat) : Int) - 1 else ((u / 2 : Nat) : Int)
theorem zigN_lt (x : Int) (h0 : -9223372036854775808 ≤ x) (h1 : x ≤ 9223372036854775807) : zigN x < 18446744073709551616 := by unfold zigN; split <;> omega
theorem zagI_bd (u : Nat) (h : u < 18446744073709551616) : -9223372036854775808 ≤ zagI u ∧ zagI u ≤ 9223372036854775807 := by unfold zagI; split <;> omega
theorem zag_zig (x : Int) : zagI (zigN x) = x := by unfold zagI zigN; split <;> split <;> omega
theorem zig_zag (u : Nat) : zigN (zagI u) = u := by unfold zagI zigN; split <;> split <;> omega

theorem xor_ones64 (a : Nat) (h : a < 18446744073709551616) : a ^^^ 18446744073709551615 = 18446744073709551615 - a := by
  have e : (BitVec.ofNat 64 a ^^^ BitVec.allOnes 64) = ~~~ BitVec.ofNat 64 a := BitVec.xor_allOnes
  have e2 := congrArg BitVec.toNat e
  rw [BitVec.toNat_xor, BitVec.toNat_not, BitVec.toNat_ofNat, BitVec.toNat_allOnes, Nat.mod_eq_of_lt (by omega)] at e2
  exact e2
theorem zig_bits (x : Int) (h0 : -9223372036854775808 ≤ x) (h1 : x ≤ 9223372036854775807) :
    bits BinOp.xor IntKind.u64 (IntKind.u64.wrap (IntKind.u64.wrap x * 2)) (IntKind.u64.wrap (x / 9223372036854775808)) = (zigN x : Int) := by
  rw [IntKind.wrap_u64, IntKind.wrap_u64, IntKind.wrap_u64]
  unfold zigN
  split
  · rename_i h
    rw [show x / 9223372036854775808 = -1 by omega, show (-1 : Int) % 18446744073709551616 = ((18446744073709551615 : Nat) : Int) by decide,
      show x % 18446744073709551616 * 2 % 18446744073709551616 = (((x % 18446744073709551616 * 2 % 18446744073709551616).toNat : Nat) : Int) by omega, u64_xor_nat _ _ (by omega) (by omega), xor_ones64 _ (by omega)]
    omega
  · rename_i h
    rw [show x / 9223372036854775808 = 0 by omega, show (0 : Int) % 18446744073709551616 = ((0 : Nat) : Int) by decide,
      show x % 18446744073709551616 * 2 % 18446744073709551616 = (((x % 18446744073709551616 * 2 % 18446744073709551616).toNat : Nat) : Int) by omega, u64_xor_nat _ _ (by omega) (by omega), Nat.xor_zero]
    omega
theorem i64_xor_ones (a : Nat) (ha : a < 9223372036854775808) : bits .xor .i64 (a : Int) (-1) = -(a : Int) - 1 := by
  show IntKind.i64.wrap ((BitVec.ofInt 64 (a : Int) ^^^ BitVec.ofInt 64 (-1)).toNat : Int) = _
  rw [show BitVec.ofInt 64 (-1) = BitVec.allOnes 64 by decide, BitVec.xor_allOnes, BitVec.toNat_not, BitVec.ofInt_natCast, BitVec.toNat_ofNat, Nat.mod_eq_of_lt (by omega), IntKind.wrap_i64]
  omega
theorem i64_xor_nought (a : Nat) (ha : a < 9223372036854775808) : bits .xor .i64 (a : Int) 0 = (a : Int) := by
  show IntKind.i64.wrap ((BitVec.ofInt 64 (a : Int) ^^^ BitVec.ofInt 64 0).toNat : Int) = _
  rw [show BitVec.ofInt 64 0 = 0#64 by decide, BitVec.xor_zero, BitVec.ofInt_natCast, BitVec.toNat_ofNat, Nat.mod_eq_of_lt (by omega), IntKind.wrap_i64]
  omega
theorem u64_and1 (x : Nat) (h : x < 18446744073709551616) : bits BinOp.and IntKind.u64 (x : Int) 1 = ((x % 2 : Nat) : Int) := by
  rw [show (1 : Int) = ((1 : Nat) : Int) from rfl, u64_and_nat _ _ h (by omega), nat_mask1]
theorem zag_bits (x : Nat) (h : x < 18446744073709551616) :
    bits BinOp.xor IntKind.i64 ((x : Int) / 2) (wrap64 (-wrap64 (bits BinOp.and IntKind.u64 (x : Int) 1))) = zagI x := by
  rw [u64_and1 x h]
  unfold zagI
  rw [show (x : Int) / 2 = ((x / 2 : Nat) : Int) by omega]
  rcases Nat.mod_two_eq_zero_or_one x with h1 | h1
  · rw [h1, if_neg (by omega), show wrap64 (-wrap64 (((0 : Nat) : Int))) = 0 by unfold wrap64; omega, i64_xor_nought _ (by omega)]
  · rw [h1, if_pos rfl, show wrap64 (-wrap64 (((1 : Nat) : Int))) = -1 by unfold wrap64; omega, i64_xor_ones _ (by omega)]
theorem u8_or128 (b : Nat) (h : b < 256) : bits BinOp.or IntKind.u8 (b : Int) 128 = ((b % 128 + 128 : Nat) : Int) := by
  rw [show (128 : Int) = ((128 : Nat) : Int) from rfl, u8_or_nat _ _ h (by omega)]
  congr 1
  exact (by decide +kernel : ∀ b : Fin 256, b.val ||| 128 = b.val % 128 + 128) ⟨b, h⟩
theorem u8_and128 (b : Nat) (h : b < 256) : bits BinOp.and IntKind.u8 (b : Int) 128 = ((b / 128 * 128 : Nat) : Int) := by
  rw [show (128 : Int) = ((128 : Nat) : Int) from rfl, u8_and_nat _ _ h (by omega)]
  congr 1
  exact (by decide +kernel : ∀ b : Fin 256, b.val &&& 128 = b.val / 128 * 128) ⟨b, h⟩
theorem u8_andNot128 (b : Nat) (h : b < 256) : bits BinOp.andNot IntKind.u8 (b : Int) 128 = ((b % 128 : Nat) : Int) := by
  rw [show (128 : Int) = ((128 : Nat) : Int) from rfl, u8_andNot_nat _ _ h (by omega)]
  congr 1
  exact (by decide +kernel : ∀ b : Fin 256, b.val &&& (255 - 128) = b.val % 128) ⟨b, h⟩
theorem u64_or2 (t : Nat) (h : t ≤ 100) : bits BinOp.or IntKind.u64 ((t : Int) * 8) 2 = ((8 * t + 2 : Nat) : Int) := by
  rw [show (t : Int) * 8 = ((8 * t : Nat) : Int) by omega, show (2 : Int) = ((2 : Nat) : Int) from rfl, u64_or_nat _ _ (by omega) (by omega), nat_join 3 (8 * t) 2 (by omega) (by omega)]
theorem u64_wrap_nat (n : Nat) (h : n < 18446744073709551616) : IntKind.u64.wrap (n : Int) = (n : Int) := by rw [IntKind.wrap_u64]; omega
theorem intCast_toNat (n : Nat) : ((n : Nat) : Int).toNat = n := Int.toNat_natCast n
end Go.Proofs.YtpmglcachffojaaGreatDoor
/- What the layers varint, wire and desk compute, as plain functions on lists. Plain Lean; no condition. -/
namespace Go.Proofs.YtpmglcachffojaaGreatDoor

/-! varint -/
def vputF : Nat → Nat → List UInt8
  | 0, x => [UInt8.ofNat x]
  | f + 1, x => if x < 128 then [UInt8.ofNat x] else UInt8.ofNat (x % 128 + 128) :: vputF f (x / 128)
def vput (x : Nat) : List UInt8 := vputF 9 x
def vtk : Nat → Nat → Nat → List UInt8 → Option (Nat × List UInt8)
  | 0, _, _, _ => none
  | _ + 1, _, _, [] => none
  | f + 1, i, x, c :: r =>
    if 128 ≤ c.toNat then vtk f (i + 1) (x + (c.toNat - 128) * 128 ^ i) r
    else if c.toNat = 0 ∧ 0 < i ∨ i = 9 ∧ 1 < c.toNat then none
    else some (x + c.toNat * 128 ^ i, r)
def vtake (b : List UInt8) : Option (Nat × List UInt8) := vtk 10 0 0 b

theorem vputF_len (f x : Nat) : 1 ≤ (vputF f x).length ∧ (vputF f x).length ≤ f + 1 := by
  induction f generalizing x with
  | zero => simp [vputF]
  | succ f ih =>
    unfold vputF
    split
    · simp
    · have := ih (x / 128); simp; omega
theorem vput_len (x : Nat) : 1 ≤ (vput x).length ∧ (vput x).length ≤ 10 := vputF_len 9 x

/-! wire -/
structure Fld where
  tag : Int
  bytes : Bool
  n : Nat
  b : List UInt8
  deriving DecidableEq
def fld (f : Fld) : List UInt8 := if f.bytes then vput (8 * f.tag.toNat + 2) ++ vput f.b.length ++ f.b else vput (8 * f.tag.toNat) ++ vput f.n
def tagOk (f : Fld) : Bool := 1 ≤ f.tag && f.tag ≤ 100
def wput : List Fld → Option (List UInt8)
  | [] => some []
  | f :: r => if tagOk f then (wput r).map (fld f ++ ·) else none
/-- How long it is, at most. -/
def wlen : List Fld → Nat
  | [] => 0
  | f :: r => f.b.length + 20 + wlen r
theorem wlen_append (l m : List Fld) : wlen (l ++ m) = wlen l + wlen m := by
  induction l with
  | nil => simp [wlen]
  | cons f r ih => simp only [List.cons_append, wlen, ih]; omega
theorem wlen_take : ∀ (l : List Fld) (k : Nat) (h : k < l.length), wlen (l.take k) + ((l[k]'h).b.length + 20) ≤ wlen l
  | f :: r, 0, _ => by simp only [List.take_zero, wlen, List.getElem_cons_zero]; omega
  | f :: r, k + 1, h => by
    have := wlen_take r k (by simpa using h)
    simp only [List.take_succ_cons, wlen, List.getElem_cons_succ]; omega
theorem wput_snoc : ∀ (l : List Fld) (f : Fld) (b : List UInt8), wput l = some b → tagOk f = true → wput (l ++ [f]) = some (b ++ fld f)
  | [], f, b, h, ht => by simp [wput] at h; subst h; simp [wput, ht]
  | g :: r, f, b, h, ht => by
    unfold wput at h
    split at h
    · rename_i hg
      cases hr : wput r with
      | none => simp [hr] at h
      | some b' =>
        simp [hr] at h
        subst h
        simp [wput, hg, wput_snoc r f b' hr ht]
    · cases h
theorem wput_bad : ∀ (l : List Fld) (k : Nat) (h : k < l.length), tagOk (l[k]'h) = false → wput l = none
  | f :: r, 0, _, ht => by simp at ht; simp [wput, ht]
  | f :: r, k + 1, h, ht => by
    have := wput_bad r k (by simpa using h) (by simpa using ht)
    simp [wput, this]
theorem fld_len (f : Fld) : (fld f).length ≤ f.b.length + 20 := by
  unfold fld
  have h1 := vput_len (8 * f.tag.toNat + 2)
  have h2 := vput_len f.b.length
  have h3 := vput_len (8 * f.tag.toNat)
  have h4 := vput_len f.n
  split <;> simp <;> omega
theorem wput_ok : ∀ (l : List Fld), (∀ f ∈ l, tagOk f = true) → wput l = some (l.map fld).flatten
  | [], _ => rfl
  | f :: r, h => by
    rw [wput, if_pos (h f (by simp)), wput_ok r (fun g hg => h g (by simp [hg]))]
    rfl
theorem flds_len : ∀ (l : List Fld), ((l.map fld).flatten).length ≤ wlen l
  | [] => by simp [wlen]
  | f :: r => by
    have := flds_len r
    have := fld_len f
    simp only [List.map_cons, List.flatten_cons, List.length_append, wlen]; omega
/-- 0, or the number of an error. -/
def okc (b : Bool) (e : Int) : Int := if b then 0 else e
def dput (l : List Fld) : List UInt8 := (wput l).getD []
theorem wput_len (l : List Fld) (b : List UInt8) (h : wput l = some b) : b.length ≤ wlen l := by
  induction l generalizing b with
  | nil => simp [wput] at h; subst h; simp [wlen]
  | cons f r ih =>
    unfold wput at h
    split at h
    · cases hr : wput r with
      | none => simp [hr] at h
      | some b' =>
        simp [hr] at h
        subst h
        have := ih b' hr
        have := fld_len f
        simp [wlen]; omega
    · cases h
theorem dput_len (l : List Fld) : (dput l).length ≤ wlen l := by
  unfold dput
  cases h : wput l with
  | none => simp
  | some b => exact wput_len l b h

/-- The field that bytes begin with. -/
def wone (b : List UInt8) : Option (Fld × List UInt8) :=
  match vtake b with
  | none => none
  | some (key, r1) =>
    match vtake r1 with
    | none => none
    | some (n, r2) =>
      if key / 8 < 1 ∨ 100 < key / 8 ∨ ¬ (key % 8 = 0 ∨ key % 8 = 2) then none
      else if key % 8 = 0 then some (⟨(key / 8 : Nat), false, n, []⟩, r2)
      else if r2.length < n then none
      else some (⟨(key / 8 : Nat), true, 0, r2.take n⟩, r2.drop n)
def wtakeF : Nat → List UInt8 → Option (List Fld)
  | _, [] => some []
  | 0, _ => none
  | k + 1, b =>
    match wone b with
    | none => none
    | some (f, r) => (wtakeF k r).map (f :: ·)
def wtake (b : List UInt8) : Option (List Fld) := wtakeF b.length b

def fnum (tag : Int) (n : Nat) : Fld := ⟨tag, false, n, []⟩
def ftxt (tag : Int) (b : List UInt8) : Fld := ⟨tag, true, 0, b⟩

/-! values -/
structure VV where
  null : Bool
  n : Int
  s : ByteArray
  deriving DecidableEq
def VV.zero : VV := ⟨false, 0, ⟨#[]⟩⟩
def VV.ok (v : VV) : Prop := -9223372036854775808 ≤ v.n ∧ v.n ≤ 9223372036854775807 ∧ v.s.size ≤ Go.maxLen
def b2n (b : Bool) : Nat := if b then 1 else 0
def putValueF (v : VV) : List Fld := [fnum 1 (b2n v.null), fnum 2 (zigN v.n), ftxt 3 v.s.data.toList]
def putValue (v : VV) : List UInt8 := dput (putValueF v)
/-- Fields that have the tags 1, 2, .., some of them bytes. -/
def shapedAs (l : List Fld) (pat : List Bool) : Bool := l.length = pat.length ∧ ∀ i, i < l.length → (l[i]?.map (·.tag)) = some ((i : Int) + 1) ∧ (l[i]?.map (·.bytes)) = pat[i]?
def takeValue (b : List UInt8) : Option VV :=
  match wtake b with
  | some [f1, f2, f3] => if f1.tag = 1 ∧ f1.bytes = false ∧ f2.tag = 2 ∧ f2.bytes = false ∧ f3.tag = 3 ∧ f3.bytes = true ∧ f1.n ≤ 1 then some ⟨f1.n = 1, zagI f2.n, ⟨f3.b.toArray⟩⟩ else none
  | _ => none

/-! events -/
structure KK where
  id : Int
  bucket : Int
  row : Int
  deriving DecidableEq
structure PP where
  op : Int
  col : Int
  v : VV
  vals : List VV
  l : List Int
  deriving DecidableEq
structure LL where
  high : Int
  except : List Int
  deriving DecidableEq
structure EE where
  kind : Int
  id : Int
  n : Int
  m : Int
  rows : List (List VV)
  keys : List KK
  list : LL
  cols : List Int
  pred : List PP
  deriving DecidableEq
structure KD where
  key : KK
  row : List VV
structure AA where
  code : Int
  n : Int
  rows : List KD
  list : LL

def inum (tag : Int) (n : Int) : Fld := fnum tag (zigN n)
def putRow (r : List VV) : List UInt8 := dput (r.map fun v => ftxt 1 (putValue v))
def putKey (k : KK) : List UInt8 := dput [inum 1 k.id, inum 2 k.bucket, inum 3 k.row]
def putNodeF (p : PP) : List Fld := [inum 1 p.op, inum 2 p.col, ftxt 3 (putValue p.v)] ++ p.vals.map (fun v => ftxt 4 (putValue v)) ++ p.l.map (inum 5)
def putNode (p : PP) : List UInt8 := dput (putNodeF p)
def putEventF (e : EE) : List Fld :=
  [inum 1 e.kind, inum 2 e.id, inum 3 e.n, inum 4 e.m] ++ e.rows.map (fun r => ftxt 5 (putRow r)) ++ e.keys.map (fun k => ftxt 6 (putKey k)) ++ [inum 7 e.list.high] ++
    e.list.except.map (inum 8) ++ e.cols.map (inum 9) ++ e.pred.map (fun p => ftxt 10 (putNode p))
def putEvent (e : EE) : List UInt8 := dput (putEventF e)

/-! what is read: a flag that something was none, and the thing -/
def rdFields (b : List UInt8) : Bool × List Fld := match wtake b with | some l => (false, l) | none => (true, [])
def rdValue (b : List UInt8) : Bool × VV := match takeValue b with | some v => (false, v) | none => (true, VV.zero)
def KK.zero : KK := ⟨0, 0, 0⟩
def KK.put (k : KK) (i : Nat) (x : Int) : KK := match i with | 0 => { k with id := x } | 1 => { k with bucket := x } | _ => { k with row := x }
def keyOf : Nat → KK → List Fld → Bool × KK
  | _, k, [] => (false, k)
  | i, k, f :: r => if 3 ≤ i then (true, k) else keyOf (i + 1) (k.put i (zagI f.n)) r
def rdKey (b : List UInt8) : Bool × KK := let x := rdFields b; let y := keyOf 0 KK.zero x.2; (x.1 || y.1, y.2)
def PP.zero : PP := ⟨0, 0, VV.zero, [], []⟩
def nodeStep (s : Bool × PP) (f : Fld) : Bool × PP :=
  if f.tag = 1 then (s.1, { s.2 with op := zagI f.n })
  else if f.tag = 2 then (s.1, { s.2 with col := zagI f.n })
  else if f.tag = 3 then (s.1 || (rdValue f.b).1, { s.2 with v := (rdValue f.b).2 })
  else if f.tag = 4 then (s.1 || (rdValue f.b).1, { s.2 with vals := s.2.vals ++ [(rdValue f.b).2] })
  else if f.tag = 5 then (s.1, { s.2 with l := s.2.l ++ [zagI f.n] })
  else s
def rdNode (b : List UInt8) : Bool × PP := let x := rdFields b; x.2.foldl nodeStep (x.1, PP.zero)
def rdRow (b : List UInt8) : Bool × List VV := let x := rdFields b; (x.1 || x.2.any (fun f => (rdValue f.b).1), x.2.map fun f => (rdValue f.b).2)
def EE.zero : EE := ⟨0, 0, 0, 0, [], [], ⟨0, []⟩, [], []⟩
def eventStep (s : Bool × EE) (f : Fld) : Bool × EE :=
  if f.tag = 1 then (s.1, { s.2 with kind := zagI f.n })
  else if f.tag = 2 then (s.1, { s.2 with id := zagI f.n })
  else if f.tag = 3 then (s.1, { s.2 with n := zagI f.n })
  else if f.tag = 4 then (s.1, { s.2 with m := zagI f.n })
  else if f.tag = 5 then (s.1 || (rdRow f.b).1, { s.2 with rows := s.2.rows ++ [(rdRow f.b).2] })
  else if f.tag = 6 then (s.1 || (rdKey f.b).1, { s.2 with keys := s.2.keys ++ [(rdKey f.b).2] })
  else if f.tag = 7 then (s.1, { s.2 with list := { s.2.list with high := zagI f.n } })
  else if f.tag = 8 then (s.1, { s.2 with list := { s.2.list with except := s.2.list.except ++ [zagI f.n] } })
  else if f.tag = 9 then (s.1, { s.2 with cols := s.2.cols ++ [zagI f.n] })
  else if f.tag = 10 then (s.1 || (rdNode f.b).1, { s.2 with pred := s.2.pred ++ [(rdNode f.b).2] })
  else s
def rdEvent (bad : Bool) (l : List Fld) : Bool × EE := l.foldl eventStep (bad, EE.zero)
def takeEvent (b : List UInt8) : Option EE :=
  let x := rdFields b
  let y := rdEvent x.1 x.2
  if y.1 || putEvent y.2 != b then none else some y.2

/-! scripts -/
def hexD (n : Nat) : UInt8 := if n < 10 then UInt8.ofNat (48 + n) else UInt8.ofNat (87 + n)
def hexOf : List UInt8 → List UInt8
  | [] => []
  | c :: r => hexD (c.toNat / 16) :: hexD (c.toNat % 16) :: hexOf r
def unhexD (c : UInt8) : Option Nat := if 48 ≤ c.toNat ∧ c.toNat ≤ 57 then some (c.toNat - 48) else if 97 ≤ c.toNat ∧ c.toNat ≤ 102 then some (c.toNat - 87) else none
def unhex : List UInt8 → Option (List UInt8)
  | [] => some []
  | [_] => none
  | a :: b :: r =>
    match unhexD a, unhexD b with
    | some h, some l => (unhex r).map (UInt8.ofNat (16 * h + l) :: ·)
    | _, _ => none
def lineOf (s : List UInt8) : Option EE := (unhex s).bind takeEvent
def printOf (l : List EE) : List UInt8 := (l.map fun e => hexOf (putEvent e) ++ [10]).flatten
end Go.Proofs.YtpmglcachffojaaGreatDoor
namespace Go.Proofs.YtpmglcachffojaaGreatDoor
open Go Go.RowKit

def i64 (x : Int) : Prop := -9223372036854775808 ≤ x ∧ x ≤ 9223372036854775807

def tFld : Ty Fld where
  size := 4
  rep F w cs f := ∃ A n c, cs = [.int .i64 f.tag, .bool f.bytes, .int .u64 (f.n : Int), .slice A n c] ∧ i64 f.tag ∧ f.n < 18446744073709551616 ∧ Sl tU8 F w A n c f.b
  len h := by obtain ⟨_, _, _, rfl, _⟩ := h; rfl
  one h := by obtain ⟨_, _, _, rfl, _⟩ := h; intro u hu; simp at hu; rcases hu with rfl | rfl | rfl | rfl <;> rfl
  keep h hs hk := by obtain ⟨A, n, c, rfl, h1, h2, h3⟩ := h; exact ⟨A, n, c, rfl, h1, h2, h3.keep hs hk⟩
  weaken h hF := by obtain ⟨A, n, c, rfl, h1, h2, h3⟩ := h; exact ⟨A, n, c, rfl, h1, h2, h3.weaken hF⟩

theorem rep_fnum {w : World} {tag : Int} {n : Nat} (h : i64 tag) (hn : n < 18446744073709551616) : tFld.rep (fun _ => True) w [.int .i64 tag, .bool false, .int .u64 (n : Int), .slice none 0 0] (fnum tag n) := ⟨none, 0, 0, rfl, h, hn, Sl.nil_ _ _ _⟩
theorem rep_ftxt {w : World} {tag : Int} {A : Option Addr} {n c : Nat} {b : List UInt8} (h : i64 tag) (hb : Sl tU8 (fun _ => True) w A n c b) : tFld.rep (fun _ => True) w [.int .i64 tag, .bool true, .int .u64 0, .slice A n c] (ftxt tag b) := ⟨A, n, c, rfl, h, by simp [ftxt], hb⟩
theorem i64_small (n : Nat) (h : n ≤ 1000) : i64 (n : Int) := by unfold i64; omega

def tVV : Ty VV where
  size := 3
  rep _ _ cs v := cs = [.bool v.null, .int .i64 v.n, .string v.s] ∧ v.ok
  len h := by rw [h.1]; rfl
  one h := by rw [h.1]; intro u hu; simp at hu; rcases hu with rfl | rfl | rfl <;> rfl
  keep h _ _ := h
  weaken h _ := h
theorem flatVV : tVV.Flat := fun h => h

def KK.ok (k : KK) : Prop := i64 k.id ∧ i64 k.bucket ∧ i64 k.row
def tKK : Ty KK where
  size := 3
  rep _ _ cs k := cs = [.int .i64 k.id, .int .i64 k.bucket, .int .i64 k.row] ∧ k.ok
  len h := by rw [h.1]; rfl
  one h := by rw [h.1]; intro u hu; simp at hu; rcases hu with rfl | rfl | rfl <;> rfl
  keep h _ _ := h
  weaken h _ := h
theorem flatKK : tKK.Flat := fun h => h

def tPP : Ty PP where
  size := 7
  rep F w cs p := ∃ A n c A' n' c', cs = [.int .i64 p.op, .int .i64 p.col, .bool p.v.null, .int .i64 p.v.n, .string p.v.s, .slice A n c, .slice A' n' c'] ∧ i64 p.op ∧ i64 p.col ∧ p.v.ok ∧ Sl tVV F w A n c p.vals ∧ Sl tI64 F w A' n' c' p.l
  len h := by obtain ⟨_, _, _, _, _, _, rfl, _⟩ := h; rfl
  one h := by obtain ⟨_, _, _, _, _, _, rfl, _⟩ := h; intro u hu; simp at hu; rcases hu with rfl | rfl | rfl | rfl | rfl | rfl | rfl <;> rfl
  keep h hs hk := by obtain ⟨A, n, c, A', n', c', rfl, h1, h2, h3, h4, h5⟩ := h; exact ⟨A, n, c, A', n', c', rfl, h1, h2, h3, h4.keep hs hk, h5.keep hs hk⟩
  weaken h hF := by obtain ⟨A, n, c, A', n', c', rfl, h1, h2, h3, h4, h5⟩ := h; exact ⟨A, n, c, A', n', c', rfl, h1, h2, h3, h4.weaken hF, h5.weaken hF⟩

def tEE : Ty EE where
  size := 10
  rep F w cs e := ∃ A1 n1 c1 A2 n2 c2 A3 n3 c3 A4 n4 c4 A5 n5 c5, cs = [.int .i64 e.kind, .int .i64 e.id, .int .i64 e.n, .int .i64 e.m, .slice A1 n1 c1, .slice A2 n2 c2, .int .i64 e.list.high, .slice A3 n3 c3, .slice A4 n4 c4, .slice A5 n5 c5] ∧
    i64 e.kind ∧ i64 e.id ∧ i64 e.n ∧ i64 e.m ∧ i64 e.list.high ∧ Sl (tSl tVV) F w A1 n1 c1 e.rows ∧ Sl tKK F w A2 n2 c2 e.keys ∧ Sl tI64 F w A3 n3 c3 e.list.except ∧ Sl tI64 F w A4 n4 c4 e.cols ∧ Sl tPP F w A5 n5 c5 e.pred
  len h := by obtain ⟨_, _, _, _, _, _, _, _, _, _, _, _, _, _, _, rfl, _⟩ := h; rfl
  one h := by obtain ⟨_, _, _, _, _, _, _, _, _, _, _, _, _, _, _, rfl, _⟩ := h; intro u hu; simp at hu; rcases hu with rfl | rfl | rfl | rfl | rfl | rfl | rfl | rfl | rfl | rfl <;> rfl
  keep h hs hk := by
    obtain ⟨A1, n1, c1, A2, n2, c2, A3, n3, c3, A4, n4, c4, A5, n5, c5, rfl, h1, h2, h3, h4, h5, h6, h7, h8, h9, h10⟩ := h
    exact ⟨A1, n1, c1, A2, n2, c2, A3, n3, c3, A4, n4, c4, A5, n5, c5, rfl, h1, h2, h3, h4, h5, h6.keep hs hk, h7.keep hs hk, h8.keep hs hk, h9.keep hs hk, h10.keep hs hk⟩
  weaken h hF := by
    obtain ⟨A1, n1, c1, A2, n2, c2, A3, n3, c3, A4, n4, c4, A5, n5, c5, rfl, h1, h2, h3, h4, h5, h6, h7, h8, h9, h10⟩ := h
    exact ⟨A1, n1, c1, A2, n2, c2, A3, n3, c3, A4, n4, c4, A5, n5, c5, rfl, h1, h2, h3, h4, h5, h6.weaken hF, h7.weaken hF, h8.weaken hF, h9.weaken hF, h10.weaken hF⟩

def tKD : Ty KD where
  size := 4
  rep F w cs x := ∃ A n c, cs = [.int .i64 x.key.id, .int .i64 x.key.bucket, .int .i64 x.key.row, .slice A n c] ∧ x.key.ok ∧ Sl tVV F w A n c x.row
  len h := by obtain ⟨_, _, _, rfl, _⟩ := h; rfl
  one h := by obtain ⟨_, _, _, rfl, _⟩ := h; intro u hu; simp at hu; rcases hu with rfl | rfl | rfl | rfl <;> rfl
  keep h hs hk := by obtain ⟨A, n, c, rfl, h1, h2⟩ := h; exact ⟨A, n, c, rfl, h1, h2.keep hs hk⟩
  weaken h hF := by obtain ⟨A, n, c, rfl, h1, h2⟩ := h; exact ⟨A, n, c, rfl, h1, h2.weaken hF⟩

def tAA : Ty AA where
  size := 5
  rep F w cs x := ∃ A n c A' n' c', cs = [.int .i64 x.code, .int .i64 x.n, .slice A n c, .int .i64 x.list.high, .slice A' n' c'] ∧ i64 x.code ∧ i64 x.n ∧ i64 x.list.high ∧ Sl tKD F w A n c x.rows ∧ Sl tI64 F w A' n' c' x.list.except
  len h := by obtain ⟨_, _, _, _, _, _, rfl, _⟩ := h; rfl
  one h := by obtain ⟨_, _, _, _, _, _, rfl, _⟩ := h; intro u hu; simp at hu; rcases hu with rfl | rfl | rfl | rfl | rfl <;> rfl
  keep h hs hk := by obtain ⟨A, n, c, A', n', c', rfl, h1, h2, h3, h4, h5⟩ := h; exact ⟨A, n, c, A', n', c', rfl, h1, h2, h3, h4.keep hs hk, h5.keep hs hk⟩
  weaken h hF := by obtain ⟨A, n, c, A', n', c', rfl, h1, h2, h3, h4, h5⟩ := h; exact ⟨A, n, c, A', n', c', rfl, h1, h2, h3, h4.weaken hF, h5.weaken hF⟩
end Go.Proofs.YtpmglcachffojaaGreatDoor
namespace Go.Proofs.YtpmglcachffojaaGreatDoor

/-- The lowest s bytes of N, the highest first. -/
def be : Nat → Nat → List UInt8
  | 0, _ => []
  | s + 1, N => UInt8.ofNat (N / 256 ^ s) :: be s N
theorem be_len : ∀ s N, (be s N).length = s
  | 0, _ => rfl
  | s + 1, N => by rw [be, List.length_cons, be_len s N]
theorem be_get : ∀ (s N j : Nat) (_ : j < s), (be s N)[j]? = some (UInt8.ofNat (N / 256 ^ (s - 1 - j)))
  | s + 1, N, 0, _ => by rw [be]; simp
  | s + 1, N, j + 1, h => by
    rw [be, List.getElem?_cons_succ, be_get s N j (by omega)]
    congr 4; omega
theorem be_byte (s N j : Nat) (h : j < (be s N).length) : ((be s N)[j]).toNat = N / 256 ^ (s - 1 - j) % 256 := by
  have hj : j < s := by rwa [be_len] at h
  have := be_get s N j hj
  rw [List.getElem?_eq_getElem h] at this
  rw [Option.some.inj this, UInt8.toNat_ofNat']
theorem ofNat_mod (n : Nat) : UInt8.ofNat (n % 256) = UInt8.ofNat n := by
  apply UInt8.toNat_inj.1
  rw [UInt8.toNat_ofNat', UInt8.toNat_ofNat']; omega
/-- No carry. -/
theorem add_high (N c f e : Nat) (hc : N / 256 ^ f % 256 + c < 256) (he : f < e) : (N + c * 256 ^ f) / 256 ^ e = N / 256 ^ e := by
  obtain ⟨d, rfl⟩ : ∃ d, e = f + (1 + d) := ⟨e - f - 1, by omega⟩
  have hp : 0 < 256 ^ f := Nat.pow_pos (by decide)
  rw [Nat.pow_add, ← Nat.div_div_eq_div_mul, ← Nat.div_div_eq_div_mul, Nat.add_mul_div_right _ _ hp, Nat.pow_add, ← Nat.div_div_eq_div_mul, ← Nat.div_div_eq_div_mul]
  congr 1
  rw [Nat.pow_one]
  omega
theorem add_low (N c f e : Nat) (he : e < f) : (N + c * 256 ^ f) / 256 ^ e % 256 = N / 256 ^ e % 256 := by
  obtain ⟨d, rfl⟩ : ∃ d, f = e + (1 + d) := ⟨f - e - 1, by omega⟩
  have hp : 0 < 256 ^ e := Nat.pow_pos (by decide)
  have : c * 256 ^ (e + (1 + d)) = (c * 256 ^ d * 256) * 256 ^ e := by
    rw [Nat.pow_add, Nat.pow_add, Nat.pow_one]
    ac_rfl
  rw [this, Nat.add_mul_div_right _ _ hp, Nat.add_mul_mod_self_right]
/-- A byte of many turned: to the number its place's part is added. -/
theorem be_set (s N j c : Nat) (hj : j < s) (hc : N / 256 ^ (s - 1 - j) % 256 + c < 256) :
    (be s N).set j (UInt8.ofNat (N / 256 ^ (s - 1 - j) % 256 + c)) = be s (N + c * 256 ^ (s - 1 - j)) := by
  apply List.ext_getElem?
  intro i
  by_cases hi : i < s
  · rw [be_get s _ i hi, List.getElem?_set]
    by_cases hij : j = i
    · subst hij
      rw [if_pos rfl, if_pos (by rw [be_len]; exact hj), Nat.add_mul_div_right _ _ (Nat.pow_pos (by decide))]
      congr 1
      rw [← ofNat_mod (N / 256 ^ (s - 1 - j) + c)]
      congr 1; omega
    · rw [if_neg hij, be_get s _ i hi]
      congr 1
      rw [← ofNat_mod (N / _), ← ofNat_mod ((N + _) / _)]
      congr 1
      by_cases h2 : j < i
      · rw [add_low _ _ _ _ (by omega)]
      · rw [add_high _ _ _ _ hc (by omega)]
  · rw [List.getElem?_eq_none (by rw [List.length_set, be_len]; omega), List.getElem?_eq_none (by rw [be_len]; omega)]
theorem be_zero : ∀ s, be s 0 = List.replicate s 0
  | 0 => rfl
  | s + 1 => by rw [be, be_zero s, List.replicate_succ, Nat.zero_div]; rfl

/-- All as one number, each of so many bits. -/
def catN (w : Nat) (l : List Nat) : Nat := l.foldl (fun a x => a * 2 ^ w + x) 0
theorem catN_snoc (w : Nat) (l : List Nat) (x : Nat) : catN w (l ++ [x]) = catN w l * 2 ^ w + x := by simp [catN]
def packSize (many w : Nat) : Nat := (many * w + 7) / 8
/-- Numbers packed. -/
def pack (w : Nat) (l : List Nat) : List UInt8 := be (packSize l.length w) (catN w l * 2 ^ (8 * packSize l.length w - l.length * w))
theorem pack_len (w : Nat) (l : List Nat) : (pack w l).length = packSize l.length w := be_len _ _

/-! one step: bits behind those that lie -/
/-- The bits laid down so far (so many of T), as the number of all bytes: V the number of these bits. -/
theorem byte_free {s at_ V : Nat} (h : at_ < 8 * s) : V * 2 ^ (8 * s - at_) / 256 ^ (s - 1 - at_ / 8) % 256 % 2 ^ (8 - at_ % 8) = 0 := by
  have e : 8 * s - at_ = 8 * (s - 1 - at_ / 8) + (8 - at_ % 8) := by omega
  have h256 : (256 : Nat) ^ (s - 1 - at_ / 8) = 2 ^ (8 * (s - 1 - at_ / 8)) := by rw [Nat.pow_mul]
  rw [e, Nat.pow_add, h256, show V * (2 ^ (8 * (s - 1 - at_ / 8)) * 2 ^ (8 - at_ % 8)) = V * 2 ^ (8 - at_ % 8) * 2 ^ (8 * (s - 1 - at_ / 8)) by ac_rfl, Nat.mul_div_cancel _ (Nat.pow_pos (by decide))]
  have : (2 ^ (8 - at_ % 8)) ∣ 256 := by
    have : (256 : Nat) = 2 ^ (8 - at_ % 8) * 2 ^ (at_ % 8) := by rw [← Nat.pow_add, show 8 - at_ % 8 + at_ % 8 = 8 by omega]
    exact ⟨_, this⟩
  rw [Nat.mod_mod_of_dvd _ this, Nat.mul_mod_left]
theorem room_lt {B c r : Nat} (hB : B < 256) (hf : B % 2 ^ r = 0) (hr : r ≤ 8) (hc : c < 2 ^ r) : B + c < 256 := by
  have h256 : (256 : Nat) = 2 ^ r * 2 ^ (8 - r) := by rw [← Nat.pow_add, show r + (8 - r) = 8 by omega]
  obtain ⟨q, hq⟩ := Nat.dvd_of_mod_eq_zero hf
  rw [hq, h256] at hB
  have hq2 : q < 2 ^ (8 - r) := Nat.lt_of_mul_lt_mul_left hB
  have : 2 ^ r * (q + 1) ≤ 2 ^ r * 2 ^ (8 - r) := Nat.mul_le_mul_left _ hq2
  rw [← h256, Nat.mul_add, Nat.mul_one, ← hq] at this
  omega
theorem room_or {B c r : Nat} (hf : B % 2 ^ r = 0) (hc : c < 2 ^ r) : B ||| c = B + c := by
  obtain ⟨q, rfl⟩ := Nat.dvd_of_mod_eq_zero hf
  exact (Nat.two_pow_add_eq_or_of_lt hc q).symm
theorem byte_pow (k : Nat) : (256 : Nat) ^ k = 2 ^ (8 * k) := by rw [Nat.pow_mul]
/-- Bits c (n of them) that find room in the byte: what is added to it. -/
theorem put_in {s at_ V c n : Nat} (h : at_ < 8 * s) (hn : n ≤ 8 - at_ % 8) (hc : c < 2 ^ n) :
    (be s (V * 2 ^ (8 * s - at_))).set (at_ / 8) (UInt8.ofNat (V * 2 ^ (8 * s - at_) / 256 ^ (s - 1 - at_ / 8) % 256 + c * 2 ^ (8 - at_ % 8 - n))) = be s ((V * 2 ^ n + c) * 2 ^ (8 * s - (at_ + n))) := by
  have hf := byte_free (V := V) h
  have hb : c * 2 ^ (8 - at_ % 8 - n) < 2 ^ (8 - at_ % 8) := by
    have := Nat.mul_lt_mul_of_pos_right hc (Nat.pow_pos (n := 8 - at_ % 8 - n) (show 0 < 2 by decide))
    rwa [← Nat.pow_add, show n + (8 - at_ % 8 - n) = 8 - at_ % 8 by omega] at this
  have hlt := room_lt (Nat.mod_lt _ (by decide)) hf (by omega) hb
  rw [be_set _ _ _ _ (by omega) hlt, byte_pow, Nat.add_mul, Nat.mul_assoc, Nat.mul_assoc, ← Nat.pow_add, ← Nat.pow_add]
  congr 2
  · congr 2; omega
  · congr 2; omega
/-- Bits c (n of them) that stand over into the next byte. -/
theorem put_over {s at_ V c n : Nat} (h : at_ + n ≤ 8 * s) (hn : 8 - at_ % 8 < n) (hn8 : n ≤ 8) (hc : c < 2 ^ n) :
    ((be s (V * 2 ^ (8 * s - at_))).set (at_ / 8) (UInt8.ofNat (V * 2 ^ (8 * s - at_) / 256 ^ (s - 1 - at_ / 8) % 256 + c / 2 ^ (n - (8 - at_ % 8))))).set (at_ / 8 + 1) (UInt8.ofNat (c * 2 ^ (16 - at_ % 8 - n) % 256)) = be s ((V * 2 ^ n + c) * 2 ^ (8 * s - (at_ + n))) := by
  have hr : at_ % 8 < 8 := Nat.mod_lt _ (by decide)
  obtain ⟨r, hre⟩ : ∃ r, r = 8 - at_ % 8 := ⟨_, rfl⟩
  obtain ⟨m, hm⟩ : ∃ m, n = r + m := ⟨n - r, by omega⟩
  -- the upper part fills the byte
  have h1 := put_in (V := V) (c := c / 2 ^ m) (n := r) (s := s) (at_ := at_) (by omega) (by omega) (by
    rw [Nat.div_lt_iff_lt_mul (Nat.pow_pos (by decide)), ← Nat.pow_add, ← hm]; exact hc)
  rw [show 8 - at_ % 8 - r = 0 by omega, Nat.pow_zero, Nat.mul_one] at h1
  rw [show n - (8 - at_ % 8) = m by omega, h1]
  -- the rest begins the next one
  have h2 := put_in (V := V * 2 ^ r + c / 2 ^ m) (c := c % 2 ^ m) (n := m) (s := s) (at_ := at_ + r) (by omega) (by omega) (Nat.mod_lt _ (Nat.pow_pos (by decide)))
  rw [show (at_ + r) / 8 = at_ / 8 + 1 by omega, show (at_ + r) % 8 = 0 by omega] at h2
  have hz : (V * 2 ^ r + c / 2 ^ m) * 2 ^ (8 * s - (at_ + r)) / 256 ^ (s - 1 - (at_ / 8 + 1)) % 256 = 0 := by
    have := byte_free (V := V * 2 ^ r + c / 2 ^ m) (s := s) (at_ := at_ + r) (by omega)
    rw [show (at_ + r) / 8 = at_ / 8 + 1 by omega, show (at_ + r) % 8 = 0 by omega, Nat.mod_eq_of_lt (Nat.mod_lt _ (by decide))] at this
    exact this
  rw [hz, Nat.zero_add] at h2
  have h3 : c * 2 ^ (16 - at_ % 8 - n) % 256 = c % 2 ^ m * 2 ^ (8 - 0 - m) := by
    rw [show 16 - at_ % 8 - n = 8 - m by omega, show (256 : Nat) = 2 ^ m * 2 ^ (8 - m) by rw [← Nat.pow_add, show m + (8 - m) = 8 by omega], Nat.mul_mod_mul_right]
  rw [h3, h2]
  congr 1
  rw [show at_ + r + m = at_ + n by omega, hm, Nat.pow_add, Nat.add_mul (V * 2 ^ r), Nat.add_assoc, Nat.mul_assoc V, Nat.mul_comm (c / 2 ^ m), Nat.div_add_mod]
end Go.Proofs.YtpmglcachffojaaGreatDoor
namespace Go.Proofs.YtpmglcachffojaaGreatDoor

/-- How many bytes are as the first one: at most 130. -/
def bsame (b : List UInt8) : Nat := min 130 (b.takeWhile (· == b.headD 0)).length
theorem bsame_le (b : List UInt8) : bsame b ≤ b.length := by
  have := (List.takeWhile_prefix (l := b) (· == b.headD 0)).length_le
  unfold bsame; omega
theorem bsame_pos {b : List UInt8} (h : b ≠ []) : 1 ≤ bsame b := by
  match b, h with
  | c :: r, _ => unfold bsame; simp; omega
/-- How many bytes ahead of a run: at most f. -/
def litF : Nat → List UInt8 → Nat
  | 0, _ => 0
  | _ + 1, [] => 0
  | f + 1, c :: r => if bsame (c :: r) < 3 then 1 + litF f r else 0
def litN (b : List UInt8) : Nat := litF 128 b
theorem litF_le : ∀ (f : Nat) (b : List UInt8), litF f b ≤ b.length ∧ litF f b ≤ f
  | 0, _ => by simp [litF]
  | f + 1, [] => by simp [litF]
  | f + 1, c :: r => by
    have := litF_le f r
    unfold litF
    split <;> simp <;> omega
theorem litN_pos {b : List UInt8} (h : b ≠ []) (hs : bsame b < 3) : 1 ≤ litN b := by
  match b, h with
  | c :: r, _ => unfold litN litF; rw [if_pos hs]; omega
/-- A list's bytes behind their number. -/
def litB (k : Nat) (b : List UInt8) : List UInt8 := UInt8.ofNat (256 - k) :: b.take k
def byF : Nat → List UInt8 → List UInt8
  | 0, _ => []
  | _ + 1, [] => []
  | f + 1, c :: r => if 3 ≤ bsame (c :: r) then UInt8.ofNat (bsame (c :: r) - 3) :: c :: byF f ((c :: r).drop (bsame (c :: r))) else litB (litN (c :: r)) (c :: r) ++ byF f ((c :: r).drop (litN (c :: r)))
def byB (b : List UInt8) : List UInt8 := byF b.length b
theorem byF_nil (f : Nat) : byF f [] = [] := by cases f <;> rfl
theorem byF_fuel : ∀ (f g : Nat) (b : List UInt8), b.length ≤ f → b.length ≤ g → byF f b = byF g b
  | 0, g, b, h, _ => by
    obtain rfl : b = [] := List.length_eq_zero_iff.1 (by omega)
    rw [byF_nil, byF_nil]
  | f + 1, 0, b, _, h => by
    obtain rfl : b = [] := List.length_eq_zero_iff.1 (by omega)
    rw [byF_nil, byF_nil]
  | f + 1, g + 1, [], _, _ => rfl
  | f + 1, g + 1, c :: r, h1, h2 => by
    rw [byF, byF]
    simp only [List.length_cons] at h1 h2
    by_cases hs : 3 ≤ bsame (c :: r)
    · rw [if_pos hs, if_pos hs, byF_fuel f g _ (by rw [List.length_drop, List.length_cons]; omega) (by rw [List.length_drop, List.length_cons]; omega)]
    · rw [if_neg hs, if_neg hs]
      have := litN_pos (b := c :: r) (by simp) (by omega)
      rw [byF_fuel f g _ (by rw [List.length_drop, List.length_cons]; omega) (by rw [List.length_drop, List.length_cons]; omega)]
theorem byB_nil : byB [] = [] := rfl
theorem byB_run {b : List UInt8} (h : 3 ≤ bsame b) : byB b = [UInt8.ofNat (bsame b - 3), b.headD 0] ++ byB (b.drop (bsame b)) := by
  match b, h with
  | [], h => simp [bsame] at h
  | c :: r, h =>
    have e : byB (c :: r) = UInt8.ofNat (bsame (c :: r) - 3) :: c :: byF r.length ((c :: r).drop (bsame (c :: r))) := by
      unfold byB; rw [List.length_cons, byF, if_pos h]
    rw [e, byF_fuel _ ((c :: r).drop (bsame (c :: r))).length _ (by rw [List.length_drop, List.length_cons]; omega) (Nat.le_refl _)]
    rfl
theorem byB_lit {b : List UInt8} (h0 : b ≠ []) (h : bsame b < 3) : byB b = litB (litN b) b ++ byB (b.drop (litN b)) := by
  match b, h0, h with
  | c :: r, h0, h =>
    have hp := litN_pos h0 h
    have e : byB (c :: r) = litB (litN (c :: r)) (c :: r) ++ byF r.length ((c :: r).drop (litN (c :: r))) := by
      unfold byB; rw [List.length_cons, byF, if_neg (by omega)]
    rw [e, byF_fuel _ ((c :: r).drop (litN (c :: r))).length _ (by rw [List.length_drop, List.length_cons]; omega) (Nat.le_refl _)]
    rfl
/-! the program's way: what waits is laid down ahead of a run -/
/-- None of the first k bytes begins a run. -/
def Lit (l b : List UInt8) : Prop := ∀ i, i < l.length → bsame ((l ++ b).drop i) < 3
def flushB : Nat → List UInt8 → List UInt8
  | 0, _ => []
  | _ + 1, [] => []
  | f + 1, c :: r => litB (min 128 (r.length + 1)) (c :: r) ++ flushB f ((c :: r).drop 128)
theorem flushB_nil (f : Nat) : flushB f [] = [] := by cases f <;> rfl
theorem flushB_fuel : ∀ (f g : Nat) (b : List UInt8), b.length ≤ f → b.length ≤ g → flushB f b = flushB g b
  | 0, g, b, h, _ => by
    obtain rfl : b = [] := List.length_eq_zero_iff.1 (by omega)
    rw [flushB_nil, flushB_nil]
  | f + 1, 0, b, _, h => by
    obtain rfl : b = [] := List.length_eq_zero_iff.1 (by omega)
    rw [flushB_nil, flushB_nil]
  | f + 1, g + 1, [], _, _ => rfl
  | f + 1, g + 1, c :: r, h1, h2 => by
    simp only [List.length_cons] at h1 h2
    rw [flushB, flushB, flushB_fuel f g _ (by rw [List.length_drop, List.length_cons]; omega) (by rw [List.length_drop, List.length_cons]; omega)]
def flush (l : List UInt8) : List UInt8 := flushB l.length l
theorem flush_nil : flush [] = [] := rfl
theorem flush_step {l : List UInt8} (h : l ≠ []) : flush l = litB (min 128 l.length) l ++ flush (l.drop 128) := by
  match l, h with
  | c :: r, _ =>
    have e : flush (c :: r) = litB (min 128 (r.length + 1)) (c :: r) ++ flushB r.length ((c :: r).drop 128) := by unfold flush; rw [List.length_cons, flushB]
    rw [e, flushB_fuel _ ((c :: r).drop 128).length _ (by rw [List.length_drop, List.length_cons]; omega) (Nat.le_refl _)]
    rfl
theorem litF_lit : ∀ (f : Nat) (l b : List UInt8), Lit l b → (b = [] ∨ 3 ≤ bsame b) → litF f (l ++ b) = min f l.length
  | 0, l, b, _, _ => by simp [litF]
  | f + 1, [], b, _, h => by
    rcases h with rfl | h
    · simp [litF]
    · match b, h with
      | [], h => simp [bsame] at h
      | c :: r, h => rw [List.nil_append, litF, if_neg (by omega)]; simp
  | f + 1, c :: l, b, hl, h => by
    have h0 := hl 0 (by simp)
    rw [List.drop_zero] at h0
    rw [List.cons_append, litF, if_pos (by rwa [List.cons_append] at h0), litF_lit f l b (fun i hi => by have := hl (i + 1) (by simp; omega); simpa using this) h]
    simp; omega
theorem lit_drop {l b : List UInt8} (h : Lit l b) (k : Nat) : Lit (l.drop k) b := fun i hi => by
  rw [List.length_drop] at hi
  have := h (k + i) (by omega)
  rwa [show ((l.drop k ++ b).drop i) = (l ++ b).drop (k + i) by rw [← List.drop_drop, List.drop_append_of_le_length (l₁ := l) (by omega)]]
theorem byB_flush {l b : List UInt8} (hl : Lit l b) (h : b = [] ∨ 3 ≤ bsame b) : byB (l ++ b) = flush l ++ byB b := by
  generalize hn : l.length = n
  induction n using Nat.strongRecOn generalizing l with
  | _ n ih =>
    by_cases h0 : l = []
    · subst h0; rfl
    · have hp := List.length_pos_iff.2 h0
      have h3 := hl 0 hp
      rw [List.drop_zero] at h3
      have hk : litN (l ++ b) = min 128 l.length := litF_lit 128 l b hl h
      rw [byB_lit (by simp [h0]) h3, hk, flush_step h0]
      have e1 : (l ++ b).drop (min 128 l.length) = l.drop 128 ++ b := by
        rw [List.drop_append_of_le_length (by omega)]
        congr 1
        by_cases h128 : 128 ≤ l.length
        · rw [Nat.min_eq_left h128]
        · rw [Nat.min_eq_right (by omega), List.drop_length, List.drop_of_length_le (by omega)]
      have e2 : litB (min 128 l.length) (l ++ b) = litB (min 128 l.length) l := by unfold litB; rw [List.take_append_of_le_length (by omega)]
      rw [e1, e2, ih (l.drop 128).length (by rw [List.length_drop]; omega) (lit_drop hl 128) rfl, List.append_assoc]
theorem byB_wait {l b : List UInt8} (hl : Lit l b) (h : 3 ≤ bsame b) : byB (l ++ b) = flush l ++ [UInt8.ofNat (bsame b - 3), b.headD 0] ++ byB (b.drop (bsame b)) := by
  rw [byB_flush hl (.inr h), byB_run h, List.append_assoc]
theorem bsame_two {b : List UInt8} (h : bsame b = 2) : bsame (b.drop 1) < 3 := by
  match b, h with
  | [], h => simp [bsame] at h
  | [c], h => simp [bsame] at h
  | [c, d], h => unfold bsame; have := (List.takeWhile_prefix (l := [d]) (· == [d].headD 0)).length_le; simp at this; simp
  | c :: d :: e :: r, h =>
    have hcd : d = c := by
      apply Classical.byContradiction; intro hne
      have : ((d == c) = false) := by simpa using hne
      simp [bsame, this] at h
    subst hcd
    have hne : (e == d) = false := by
      apply Classical.byContradiction; intro hh
      have : e == d := by simpa using hh
      simp [bsame, this] at h
      omega
    simp [bsame, hne]
theorem lit_more {l b : List UInt8} (hl : Lit l b) (h : bsame b < 3) (h0 : b ≠ []) : Lit (l ++ b.take (bsame b)) (b.drop (bsame b)) := fun i hi => by
  have hp := bsame_pos h0
  rw [List.append_assoc, List.take_append_drop]
  rw [List.length_append, List.length_take] at hi
  by_cases hil : i < l.length
  · exact hl i hil
  · have hle := bsame_le b
    rw [List.drop_append, List.drop_of_length_le (by omega), List.nil_append]
    obtain h1 | h1 : i - l.length = 0 ∨ (i - l.length = 1 ∧ bsame b = 2) := by omega
    · rw [h1, List.drop_zero]; exact h
    · rw [h1.1]; exact bsame_two h1.2
theorem lit_nil (b : List UInt8) : Lit [] b := fun i hi => by simp at hi
end Go.Proofs.YtpmglcachffojaaGreatDoor
namespace Go.Proofs.YtpmglcachffojaaGreatDoor

/-- A byte, and how often. -/
structure Rn where
  c : UInt8
  n : Nat
  one : 1 ≤ n
  most : n ≤ 130
theorem bsame_130 (b : List UInt8) : bsame b ≤ 130 := by unfold bsame; omega
def rnOf (b : List UInt8) (h : b ≠ []) : Rn := ⟨b.headD 0, bsame b, bsame_pos h, bsame_130 b⟩
def rnF : Nat → List UInt8 → List Rn
  | 0, _ => []
  | f + 1, b => if h : b = [] then [] else rnOf b h :: rnF f (b.drop (bsame b))
def rnL (b : List UInt8) : List Rn := rnF b.length b
theorem rnF_nil (f : Nat) : rnF f [] = [] := by cases f <;> simp [rnF]
theorem rnF_fuel : ∀ (f g : Nat) (b : List UInt8), b.length ≤ f → b.length ≤ g → rnF f b = rnF g b
  | 0, g, b, h, _ => by
    obtain rfl : b = [] := List.length_eq_zero_iff.1 (by omega)
    rw [rnF_nil, rnF_nil]
  | f + 1, 0, b, _, h => by
    obtain rfl : b = [] := List.length_eq_zero_iff.1 (by omega)
    rw [rnF_nil, rnF_nil]
  | f + 1, g + 1, b, h1, h2 => by
    by_cases hb : b = []
    · rw [hb, rnF_nil, rnF_nil]
    · have := bsame_pos hb
      rw [rnF, rnF, dif_neg hb, dif_neg hb, rnF_fuel f g _ (by rw [List.length_drop]; omega) (by rw [List.length_drop]; omega)]
theorem rnL_nil : rnL [] = [] := rfl
theorem rnL_cons {b : List UInt8} (h : b ≠ []) : rnL b = rnOf b h :: rnL (b.drop (bsame b)) := by
  have hp := bsame_pos h
  have hl := List.length_pos_iff.2 h
  unfold rnL
  obtain ⟨k, hk⟩ : ∃ k, b.length = k + 1 := ⟨b.length - 1, by omega⟩
  rw [hk, rnF, dif_neg h, rnF_fuel k _ (b.drop (bsame b)) (by rw [List.length_drop]; omega) (Nat.le_refl _)]
theorem rnF_len : ∀ (f : Nat) (b : List UInt8), (rnF f b).length ≤ b.length
  | 0, _ => Nat.zero_le _
  | f + 1, b => by
    by_cases h : b = []
    · rw [h, rnF_nil]; exact Nat.le_refl _
    · have := bsame_pos h
      have h2 := bsame_le b
      have h3 := rnF_len f (b.drop (bsame b))
      rw [rnF, dif_neg h, List.length_cons]
      rw [List.length_drop] at h3
      omega
theorem rnL_len (b : List UInt8) : (rnL b).length ≤ b.length := rnF_len _ b
/-- All is as the first byte. -/
theorem bsame_all {b : List UInt8} {j : Nat} (h : j < bsame b) : b[j]? = some (b.headD 0) := by
  have h1 : j < (b.takeWhile (· == b.headD 0)).length := by unfold bsame at h; omega
  obtain ⟨r, hr⟩ := List.takeWhile_prefix (l := b) (· == b.headD 0)
  have h2 : (b.takeWhile (· == b.headD 0))[j] = b.headD 0 := by
    have := List.all_eq_true.1 (List.all_takeWhile (p := (· == b.headD 0)) (l := b)) _ (List.getElem_mem h1)
    simpa using this
  have h3 : b[j]? = (b.takeWhile (· == b.headD 0) ++ r)[j]? := by rw [hr]
  rw [h3, List.getElem?_append_left h1, List.getElem?_eq_getElem h1, h2]
theorem bsame_next {b : List UInt8} (h1 : bsame b < 130) (h2 : bsame b < b.length) : b[bsame b] ≠ b.headD 0 := by
  have e : bsame b = (b.takeWhile (· == b.headD 0)).length := by unfold bsame at *; omega
  intro hh
  have h3 : ∀ (l : List UInt8) (p : UInt8 → Bool) (hk : (l.takeWhile p).length < l.length), p (l[(l.takeWhile p).length]) = false := by
    intro l p
    induction l with
    | nil => intro hk; simp at hk
    | cons a r ih =>
      intro hk
      cases hp : p a with
      | false => simp [hp]
      | true =>
        simp only [List.takeWhile_cons, hp, if_true, List.length_cons, List.getElem_cons_succ] at hk ⊢
        exact ih (by simpa using hk)
  have h4 := h3 b (· == b.headD 0) (by rw [← e]; exact h2)
  simp only [← e] at h4
  rw [hh] at h4
  simp at h4
theorem bsame_take {b : List UInt8} : b.take (bsame b) = List.replicate (bsame b) (b.headD 0) := by
  have hle := bsame_le b
  apply List.ext_getElem?
  intro j
  by_cases hj : j < bsame b
  · rw [List.getElem?_take_of_lt hj, bsame_all hj, List.getElem?_replicate, if_pos hj]
  · rw [List.getElem?_eq_none (by rw [List.length_take]; omega), List.getElem?_eq_none (by rw [List.length_replicate]; omega)]
/-- What is known of n by the walk: the first n are the same; n stops where it may not go on. -/
theorem bsame_stop {b : List UInt8} {n : Nat} (h1 : 1 ≤ n) (h2 : n ≤ b.length) (h3 : n ≤ 130) (hs : ∀ j, j < n → b[j]? = some (b.headD 0)) (he : n = 130 ∨ n = b.length ∨ ∃ h : n < b.length, b[n] ≠ b.headD 0) : bsame b = n := by
  rcases Nat.lt_trichotomy (bsame b) n with h | h | h
  · have hb := bsame_next (b := b) (by omega) (by omega)
    have := hs (bsame b) h
    rw [List.getElem?_eq_getElem (by omega)] at this
    exact absurd (Option.some.inj this) hb
  · exact h
  · have hle := bsame_le b
    have h130 := bsame_130 b
    rcases he with he | he | ⟨hn, he⟩
    · omega
    · omega
    · have := bsame_all h
      rw [List.getElem?_eq_getElem hn] at this
      exact absurd (Option.some.inj this) he
/-- What has been laid down, and what waits. -/
def rnStep (s : List UInt8 × List UInt8) (x : Rn) : List UInt8 × List UInt8 := if x.n < 3 then (s.1, s.2 ++ List.replicate x.n x.c) else (s.1 ++ flush s.2 ++ [UInt8.ofNat (x.n - 3), x.c], [])
def rnAll (l : List Rn) : List UInt8 × List UInt8 := l.foldl rnStep ([], [])
theorem rnAll_snoc (l : List Rn) (x : Rn) : rnAll (l ++ [x]) = rnStep (rnAll l) x := by simp [rnAll]
theorem rn_fold : ∀ (k : Nat) (b : List UInt8) (s : List UInt8 × List UInt8), b.length = k → Lit s.2 b → ((rnL b).foldl rnStep s).1 ++ flush ((rnL b).foldl rnStep s).2 = s.1 ++ byB (s.2 ++ b) := by
  intro k
  induction k using Nat.strongRecOn with
  | _ k ih =>
    intro b s hk hl
    by_cases hb : b = []
    · subst hb
      rw [rnL_nil, List.foldl_nil, byB_flush hl (.inl rfl), byB_nil, List.append_nil]
    · have hp := bsame_pos hb
      have hle := bsame_le b
      rw [rnL_cons hb, List.foldl_cons]
      have hlt : (b.drop (bsame b)).length < k := by rw [List.length_drop]; omega
      by_cases h3 : bsame b < 3
      · have e : rnStep s (rnOf b hb) = (s.1, s.2 ++ b.take (bsame b)) := by
          unfold rnStep rnOf
          rw [if_pos h3, bsame_take]
        rw [e, ih _ hlt _ _ rfl (lit_more hl h3 hb)]
        simp only
        rw [List.append_assoc s.2, List.take_append_drop]
      · have e : rnStep s (rnOf b hb) = (s.1 ++ flush s.2 ++ [UInt8.ofNat (bsame b - 3), b.headD 0], []) := by
          unfold rnStep rnOf
          rw [if_neg h3]
        rw [e, ih _ hlt _ _ rfl (lit_nil _)]
        simp only
        rw [List.nil_append, byB_wait hl (by omega)]
        simp
theorem rn_done (b : List UInt8) : (rnAll (rnL b)).1 ++ flush (rnAll (rnL b)).2 = byB b := by
  have := rn_fold b.length b ([], []) rfl (lit_nil b)
  rw [List.nil_append, List.nil_append] at this
  exact this
theorem flush_len (l : List UInt8) : (flush l).length ≤ 2 * l.length := by
  generalize hn : l.length = n
  induction n using Nat.strongRecOn generalizing l with
  | _ n ih =>
    by_cases h : l = []
    · subst h; simp [flush_nil]
    · have hp := List.length_pos_iff.2 h
      have := ih (l.drop 128).length (by rw [List.length_drop]; omega) (l.drop 128) rfl
      rw [flush_step h, List.length_append, litB, List.length_cons, List.length_take]
      rw [List.length_drop] at this
      omega
/-- None of it grows beyond what so many rounds may bring. -/
theorem rnAll_len : ∀ (l : List Rn), (rnAll l).1.length + 2 * (rnAll l).2.length ≤ 262 * l.length := by
  intro l
  have : ∀ (l : List Rn) (s : List UInt8 × List UInt8), (l.foldl rnStep s).1.length + 2 * (l.foldl rnStep s).2.length ≤ s.1.length + 2 * s.2.length + 262 * l.length := by
    intro l
    induction l with
    | nil => intro s; simp
    | cons x r ih =>
      intro s
      rw [List.foldl_cons, List.length_cons]
      have h1 := ih (rnStep s x)
      have h2 : (rnStep s x).1.length + 2 * (rnStep s x).2.length ≤ s.1.length + 2 * s.2.length + 262 := by
        unfold rnStep
        have hx := x.most
        split
        · simp; omega
        · have := flush_len s.2
          simp; omega
      omega
  have h := this l ([], [])
  simpa [rnAll] using h
end Go.Proofs.YtpmglcachffojaaGreatDoor
