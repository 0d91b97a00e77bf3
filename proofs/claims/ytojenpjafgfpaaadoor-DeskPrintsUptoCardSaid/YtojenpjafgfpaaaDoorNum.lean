/- Numbers: what Go's bit operations come to. Plain Lean; no condition. -/
import Derived.Test.YtojenpjafgfpaaaDoorMem
import Derived.Laws.BitsAllLaws
import Derived.Laws.BitsLemmas
namespace Go.Proofs.YtojenpjafgfpaaaDoor
open Go Go.RowKit

theorem ret_int {k : IntKind} {a b : Int} (h : a = b) : Ending.returned (.int k a) = .returned (.int k b) := by rw [h]

def zigN (x : Int) : Nat := if x < 0 then (-2 * x - 1).toNat else (2 * x).toNat
def zagI (u : Nat) : Int := if u % 2 = 1 then -((u / 2 : Nat) : Int) - 1 else ((u / 2 : Nat) : Int)
theorem zigN_lt (x : Int) (h0 : -9223372036854775808 ≤ x) (h1 : x ≤ 9223372036854775807) : zigN x < 18446744073709551616 := by unfold zigN; split <;> omega
theorem zagI_bd (u : Nat) (h : u < 18446744073709551616) : -9223372036854775808 ≤ zagI u ∧ zagI u ≤ 9223372036854775807 := by unfold zagI; split <;> omega
theorem zag_zig (x : Int) : zagI (zigN x) = x := by unfold zagI zigN; split <;> split <;> omega
theorem zig_zag (u : Nat) : zigN (zagI u) = u := by unfold zagI zigN; split <;> split <;> omega

theorem xor_ones64 (a : Nat) (h : a < 18446744073709551616) : a ^^^ 18446744073709551615 = 18446744073709551615 - a := by
  have e : (BitVec.ofNat 64 a ^^^ BitVec.allOnes 64) = ~~~ BitVec.ofNat 64 a := BitVec.xor_allOnes
  have e2 := congrArg BitVec.toNat e
  rw [BitVec.toNat_xor, BitVec.toNat_not, BitVec.toNat_ofNat, BitVec.toNat_allOnes, Nat.mod_eq_of_lt (by omega)] at e2
  exact e2
theorem zig_bits (x : Int) (h0 : -9223372036854775808 ≤ x) (h1 : x ≤ 9223372036854775807) :
    bits BinOp.xor IntKind.u64 (IntKind.u64.wrap (IntKind.u64.wrap x * 2)) (IntKind.u64.wrap (x / 9223372036854775808)) = (zigN x : Int) := by
  rw [IntKind.wrap_u64, IntKind.wrap_u64, IntKind.wrap_u64]
  unfold zigN
  split
  · rename_i h
    rw [show x / 9223372036854775808 = -1 by omega, show (-1 : Int) % 18446744073709551616 = ((18446744073709551615 : Nat) : Int) by decide,
      show x % 18446744073709551616 * 2 % 18446744073709551616 = (((x % 18446744073709551616 * 2 % 18446744073709551616).toNat : Nat) : Int) by omega, u64_xor_nat _ _ (by omega) (by omega), xor_ones64 _ (by omega)]
    omega
  · rename_i h
    rw [show x / 9223372036854775808 = 0 by omega, show (0 : Int) % 18446744073709551616 = ((0 : Nat) : Int) by decide,
      show x % 18446744073709551616 * 2 % 18446744073709551616 = (((x % 18446744073709551616 * 2 % 18446744073709551616).toNat : Nat) : Int) by omega, u64_xor_nat _ _ (by omega) (by omega), Nat.xor_zero]
    omega
theorem i64_xor_ones (a : Nat) (ha : a < 9223372036854775808) : bits .xor .i64 (a : Int) (-1) = -(a : Int) - 1 := by
  show IntKind.i64.wrap ((BitVec.ofInt 64 (a : Int) ^^^ BitVec.ofInt 64 (-1)).toNat : Int) = _
  rw [show BitVec.ofInt 64 (-1) = BitVec.allOnes 64 by decide, BitVec.xor_allOnes, BitVec.toNat_not, BitVec.ofInt_natCast, BitVec.toNat_ofNat, Nat.mod_eq_of_lt (by omega), IntKind.wrap_i64]
  omega
theorem i64_xor_nought (a : Nat) (ha : a < 9223372036854775808) : bits .xor .i64 (a : Int) 0 = (a : Int) := by
  show IntKind.i64.wrap ((BitVec.ofInt 64 (a : Int) ^^^ BitVec.ofInt 64 0).toNat : Int) = _
  rw [show BitVec.ofInt 64 0 = 0#64 by decide, BitVec.xor_zero, BitVec.ofInt_natCast, BitVec.toNat_ofNat, Nat.mod_eq_of_lt (by omega), IntKind.wrap_i64]
  omega
theorem u64_and1 (x : Nat) (h : x < 18446744073709551616) : bits BinOp.and IntKind.u64 (x : Int) 1 = ((x % 2 : Nat) : Int) := by
  rw [show (1 : Int) = ((1 : Nat) : Int) from rfl, u64_and_nat _ _ h (by omega), nat_mask1]
theorem zag_bits (x : Nat) (h : x < 18446744073709551616) :
    bits BinOp.xor IntKind.i64 ((x : Int) / 2) (wrap64 (-wrap64 (bits BinOp.and IntKind.u64 (x : Int) 1))) = zagI x := by
  rw [u64_and1 x h]
  unfold zagI
  rw [show (x : Int) / 2 = ((x / 2 : Nat) : Int) by omega]
  rcases Nat.mod_two_eq_zero_or_one x with h1 | h1
  · rw [h1, if_neg (by omega), show wrap64 (-wrap64 (((0 : Nat) : Int))) = 0 by unfold wrap64; omega, i64_xor_nought _ (by omega)]
  · rw [h1, if_pos rfl, show wrap64 (-wrap64 (((1 : Nat) : Int))) = -1 by unfold wrap64; omega, i64_xor_ones _ (by omega)]
theorem u8_or128 (b : Nat) (h : b < 256) : bits BinOp.or IntKind.u8 (b : Int) 128 = ((b % 128 + 128 : Nat) : Int) := by
  rw [show (128 : Int) = ((128 : Nat) : Int) from rfl, u8_or_nat _ _ h (by omega)]
  congr 1
  exact (by decide +kernel : ∀ b : Fin 256, b.val ||| 128 = b.val % 128 + 128) ⟨b, h⟩
theorem u8_and128 (b : Nat) (h : b < 256) : bits BinOp.and IntKind.u8 (b : Int) 128 = ((b / 128 * 128 : Nat) : Int) := by
  rw [show (128 : Int) = ((128 : Nat) : Int) from rfl, u8_and_nat _ _ h (by omega)]
  congr 1
  exact (by decide +kernel : ∀ b : Fin 256, b.val &&& 128 = b.val / 128 * 128) ⟨b, h⟩
theorem u8_andNot128 (b : Nat) (h : b < 256) : bits BinOp.andNot IntKind.u8 (b : Int) 128 = ((b % 128 : Nat) : Int) := by
  rw [show (128 : Int) = ((128 : Nat) : Int) from rfl, u8_andNot_nat _ _ h (by omega)]
  congr 1
  exact (by decide +kernel : ∀ b : Fin 256, b.val &&& (255 - 128) = b.val % 128) ⟨b, h⟩
theorem u64_or2 (t : Nat) (h : t ≤ 100) : bits BinOp.or IntKind.u64 ((t : Int) * 8) 2 = ((8 * t + 2 : Nat) : Int) := by
  rw [show (t : Int) * 8 = ((8 * t : Nat) : Int) by omega, show (2 : Int) = ((2 : Nat) : Int) from rfl, u64_or_nat _ _ (by omega) (by omega), nat_join 3 (8 * t) 2 (by omega) (by omega)]
theorem u64_wrap_nat (n : Nat) (h : n < 18446744073709551616) : IntKind.u64.wrap (n : Int) = (n : Int) := by rw [IntKind.wrap_u64]; omega
theorem intCast_toNat (n : Nat) : ((n : Nat) : Int).toNat = n := Int.toNat_natCast n
end Go.Proofs.YtojenpjafgfpaaaDoor
