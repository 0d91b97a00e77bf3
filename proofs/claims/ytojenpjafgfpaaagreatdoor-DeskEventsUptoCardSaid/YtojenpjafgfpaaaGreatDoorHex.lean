/- Hex digits, read: two of them a byte. Plain Lean; no condition. -/
import Derived.Test.YtojenpjafgfpaaaGreatDoorSpec
import Derived.Lib.Hide
import Derived.Laws.BitsAllLaws
namespace Go.Proofs.YtojenpjafgfpaaaGreatDoor
open Go Go.RowKit

def digI (c : UInt8) : Int := match unhexD c with | some h => (h : Int) | none => -1
theorem unhexD_lt {c : UInt8} {h : Nat} (e : unhexD c = some h) : h < 16 := by
  unfold unhexD at e
  split at e
  · injection e with e; omega
  · split at e
    · injection e with e; omega
    · cases e
theorem digI_bd (c : UInt8) : -1 ≤ digI c ∧ digI c ≤ 15 := by
  unfold digI
  cases h : unhexD c with
  | none => simp
  | some k => have := unhexD_lt h; simp only; omega
def decB (a b : UInt8) : UInt8 := UInt8.ofNat (16 * (digI a).toNat + (digI b).toNat)
def decAt (l : List UInt8) (k : Nat) : UInt8 := decB (l.getD (2 * k) 0) (l.getD (2 * k + 1) 0)
def okAt (l : List UInt8) (k : Nat) : Prop := 0 ≤ digI (l.getD (2 * k) 0) ∧ 0 ≤ digI (l.getD (2 * k + 1) 0)
theorem unhex_pair (a b : UInt8) (r : List UInt8) : unhex (a :: b :: r) = if 0 ≤ digI a ∧ 0 ≤ digI b then (unhex r).map (decB a b :: ·) else none := by
  rw [unhex]
  unfold decB digI
  cases ha : unhexD a <;> cases hb : unhexD b <;> simp
theorem unhex_ok : ∀ (m : Nat) (l : List UInt8), l.length = 2 * m → (∀ k, k < m → okAt l k) → unhex l = some ((List.range m).map (decAt l))
  | 0, [], _, _ => rfl
  | 0, _ :: _, h, _ => by simp at h
  | m + 1, [], h, _ => by simp at h
  | m + 1, [_], h, _ => by simp at h; omega
  | m + 1, a :: b :: r, h, hk => by
    have h0 := hk 0 (by omega)
    have hr := unhex_ok m r (by simp at h; omega) (fun k hk2 => by
      have := hk (k + 1) (by omega)
      unfold okAt at *
      rw [show 2 * (k + 1) = 2 * k + 1 + 1 by omega, show 2 * k + 1 + 1 + 1 = (2 * k + 1) + 1 + 1 by omega] at this
      simpa using this)
    rw [unhex_pair, if_pos (by simpa [okAt] using h0), hr, List.range_succ_eq_map]
    simp only [Option.map_some, List.map_cons, List.map_map]
    congr 1
theorem unhex_bad : ∀ (k : Nat) (l : List UInt8), 2 * k + 1 < l.length → ¬ okAt l k → unhex l = none
  | _, [], h, _ => by simp at h
  | _, [_], h, _ => by simp at h
  | 0, a :: b :: r, _, hk => by
    rw [unhex_pair, if_neg]
    simpa [okAt] using hk
  | k + 1, a :: b :: r, h, hk => by
    have := unhex_bad k r (by simp at h; omega) (fun h2 => hk (by
      unfold okAt at *
      rw [show 2 * (k + 1) = 2 * k + 1 + 1 by omega, show 2 * k + 1 + 1 + 1 = (2 * k + 1) + 1 + 1 by omega]
      simpa using h2))
    rw [unhex_pair, this]
    split <;> rfl
theorem unhex_odd : ∀ (m : Nat) (l : List UInt8), l.length = 2 * m + 1 → unhex l = none
  | 0, [_], _ => rfl
  | 0, [], h => by simp at h
  | 0, _ :: _ :: _, h => by simp at h
  | m + 1, [], h => by simp at h
  | m + 1, [_], h => by simp at h
  | m + 1, a :: b :: r, h => by
    rw [unhex_pair, unhex_odd m r (by simp at h; omega)]
    split <;> rfl
theorem or16 (h l : Nat) (hh : h < 16) (hl : l < 16) : bits BinOp.or IntKind.i64 ((h : Int) * 16) (l : Int) = ((16 * h + l : Nat) : Int) := by
  have e : ∀ x y : Fin 16, bits BinOp.or IntKind.i64 ((x.val : Int) * 16) (y.val : Int) = ((16 * x.val + y.val : Nat) : Int) := by decide +kernel
  exact e ⟨h, hh⟩ ⟨l, hl⟩
theorem or16I (a b : UInt8) (ha : 0 ≤ digI a) (hb : 0 ≤ digI b) : IntKind.u8.wrap (bits BinOp.or IntKind.i64 (digI a * 16) (digI b)) = ((decB a b).toNat : Int) := by
  obtain ⟨h, hh⟩ := Int.eq_ofNat_of_zero_le ha
  obtain ⟨l, hl⟩ := Int.eq_ofNat_of_zero_le hb
  have h1 := digI_bd a
  have h2 := digI_bd b
  unfold decB
  rw [hh, hl, or16 h l (by omega) (by omega), Int.toNat_natCast, Int.toNat_natCast, UInt8.toNat_ofNat', IntKind.wrap_u8]
  omega
end Go.Proofs.YtojenpjafgfpaaaGreatDoor
