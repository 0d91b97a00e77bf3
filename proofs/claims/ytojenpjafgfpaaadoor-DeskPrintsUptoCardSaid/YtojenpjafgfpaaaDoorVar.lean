/- The layer varint: its functions compute the plain functions of the specification, whatever the arguments (bytes of at most 2^32). -/
import Derived.Test.YtojenpjafgfpaaaDoorConcat
import Derived.Test.YtojenpjafgfpaaaDoorSpec
namespace Go.Proofs.YtojenpjafgfpaaaDoor
open Go Go.RowKit
set_option maxRecDepth 100000 in
set_option maxHeartbeats 400000 in
theorem zig_any (x : Int) (w : World) (h0 : -9223372036854775808 ≤ x) (h1 : x ≤ 9223372036854775807) :
    Calls Tryd.prog 60 #[.int .i64 x] w fun e w' => e = .returned (.int .u64 (zigN x : Nat)) ∧ w = w' := by
  have H := Lib.hid (zig_bits x h0 h1)
  go_enter Tryd.func60, Tryd.ntmps60
  go_wp2
  go_ret
  exact ⟨ret_int H.out, rfl⟩
set_option maxRecDepth 100000 in
set_option maxHeartbeats 400000 in
theorem zag_any (x : Nat) (w : World) (h1 : x < 18446744073709551616) :
    Calls Tryd.prog 87 #[.int .u64 x] w fun e w' => e = .returned (.int .i64 (zagI x)) ∧ w = w' := by
  have H := Lib.hid (zag_bits x h1)
  go_enter Tryd.func87, Tryd.ntmps87
  go_wp2
  go_ret
  exact ⟨ret_int H.out, rfl⟩

theorem byte_more (x : Nat) : bits BinOp.or IntKind.u8 ((x : Int) % 256) 128 = ((UInt8.ofNat (x % 128 + 128)).toNat : Int) := by
  rw [show (x : Int) % 256 = ((x % 256 : Nat) : Int) by omega, u8_or128 _ (by omega), UInt8.toNat_ofNat']
  congr 1
  omega
theorem byte_last (x : Nat) : IntKind.u8.wrap (x : Int) = ((UInt8.ofNat x).toNat : Int) := by
  rw [IntKind.wrap_u8, UInt8.toNat_ofNat']
  omega

set_option maxRecDepth 100000 in
set_option maxHeartbeats 1000000 in
theorem vput_any (F : Nat → Prop) (A : Option Addr) (n c : Nat) (bs : List UInt8) (x : Nat) (w : World) (h : Bs F w A n c bs) (hn : n ≤ 4294967200) (hx : x < 18446744073709551616) :
    Calls Tryd.prog 77 #[.slice A n c, .int .u64 (x : Int)] w (Own1 w (bs ++ vput x)) := by
  go_enter Tryd.func77, Tryd.ntmps77
  go_wp2
  go_loopw [5, 1] (fun v xv wr => ∃ (f x' : Nat) (L : List UInt8) (A2 : Option Addr) (m c2 : Nat), m + f ≤ 9 ∧ xv = .int .u64 (x' : Int) ∧ v = .slice A2 m c2 ∧ OwnB wr w.heap.size A2 m c2 L ∧ L ++ vputF f x' = vput x ∧ x' < 128 ^ (f + 1) ∧ x' < 18446744073709551616 ∧ Below w.heap.size w wr)
    (fun _ xv _ => (intOf xv).toNat)
  case atStart => exact ⟨9, x, [], none, 0, 0, by omega, rfl, rfl, OwnB.nil_ _ _, rfl, by omega, hx, Below.refl _ _⟩
  case round =>
    obtain ⟨f, x', L, A2, m, c2, hm, rfl, rfl, hown, heq, hlt, hlt2, hb⟩ := hrel
    have HE := Lib.hid heq; have HO := Lib.hid hown; have HL := Lib.hid hlt
    clear heq hown hlt
    have hsz := hb.size
    by_cases hx' : x' < 128
    · have hlast := byte_last x'
      rw [IntKind.wrap_u8, show (x' : Int) % 256 = (x' : Int) by omega] at hlast
      have s1 := (HO.out.bs.any).alloc (.cells #[.int .u8 (x' : Int)] 5)
      have s2 := ((h.any).below hb (Nat.le_refl _)).alloc (.cells #[.int .u8 (x' : Int)] 5)
      have s3 : Sl tU8 (fun _ => True) (wr.alloc (.cells #[.int .u8 (x' : Int)] 5)) (some ⟨wr.heap.size, 0, none⟩) 1 1 [UInt8.ofNat x'] :=
        (Sl.new (T := tU8) (F := fun _ => True) (cs := [.int .u8 (x' : Int)]) (by rw [hlast]; rfl) 5 _ rfl).any
      have hs := sl3 s2 s1 s3 35
      rw [World.size_alloc] at hs
      have HS := Lib.hid hs; clear hs
      have HB := Lib.hid ((hb.alloc hsz (.cells #[.int .u8 (x' : Int)] 5)).alloc (by simp; omega) (.cells #[.slice A n c, .slice A2 m c2, .slice (some ⟨wr.heap.size, 0, none⟩) 1 1] 35))
      have hnl := h.len
      have hml := HO.out.len
      have HN := Lib.hid (show [bs, L, [UInt8.ofNat x']].flatten.length ≤ 4294967296 by simp; omega)
      clear s1 s2 s3 hlast hnl hml
      go_wp2_with (go_at_call 92; refine (concatB_any (T := tU8) elemBytes (fun _ => True) _ _ _ [bs, L, [UInt8.ofNat x']] _ HS.out (by omega) HN.out).mono ?_; rintro e w1 ⟨A1, n1, c1, rfl, hown1, hb1⟩)
      go_ret
      refine ⟨A1, n1, c1, rfl, ?_, HB.out.trans (hb1.mono (by simp; omega))⟩
      have hfin : [bs, L, [UInt8.ofNat x']].flatten = bs ++ vput x := by
        rw [← HE.out]
        cases f <;> simp [vputF, hx']
      rw [hfin] at hown1
      exact own_u8 (hown1.down (by simp; omega))
    · have HM := Lib.hid (byte_more x')
      go_wp2_with (at_builtin; refine apb1 wr w rfl (.tmp 10) (.tmp 14) rfl w.heap.size A2 m c2 L rfl HO.out hb (Nat.le_refl _) _ rfl (UInt8.ofNat (x' % 128 + 128)) (by rw [← HM.out]) (by omega) ?_; intro A3 c3 w3 h3 hb3 _)
      go_roundw
      case rel =>
        obtain ⟨f, rfl⟩ : ∃ f', f = f' + 1 := by
          cases f with
          | zero => have := HL.out; omega
          | succ f => exact ⟨f, rfl⟩
        have hlt := HL.out
        refine ⟨f, x' / 128, L ++ [UInt8.ofNat (x' % 128 + 128)], A3, m + 1, c3, by omega, by go_num, rfl, h3, ?_, ?_, by omega, hb3⟩
        · rw [← HE.out]
          simp [vputF, hx']
        · rw [Nat.pow_succ] at hlt; exact Nat.div_lt_of_lt_mul (by omega)
      case measure => simp [intOf]; omega
theorem vput_int (F : Nat → Prop) (A : Option Addr) (n c : Nat) (bs : List UInt8) (x : Int) (w : World) (h : Bs F w A n c bs) (hn : n ≤ 4294967200) (h0 : 0 ≤ x) (hx : x < 18446744073709551616) :
    Calls Tryd.prog 77 #[.slice A n c, .int .u64 x] w (Own1 w (bs ++ vput x.toNat)) := by
  obtain ⟨k, rfl⟩ := Int.eq_ofNat_of_zero_le h0
  rw [Int.toNat_natCast]
  exact vput_any F A n c bs k w h hn (by omega)
end Go.Proofs.YtojenpjafgfpaaaDoor
