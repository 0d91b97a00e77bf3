/- A part of what Puts leans on. -/
import Derived.Test.YtpmglcachffojaaGreatDoorZ1
set_option maxRecDepth 100000
set_option maxHeartbeats 16000000
namespace Go.Proofs.YtpmglcachffojaaGreatDoor
section
open Go Go.RowKit
theorem kqI (x : Int) (w : World) (h0 : -9223372036854775808 ≤ x) (h1 : x ≤ 9223372036854775807) :
 Calls Tryz.prog 179 #[.int .i64 x] w fun e w' => e = .returned (.int .u64 (zigN x : Nat)) ∧ w = w' := by
 have H := zH (zig_bits x h0 h1)
 go_enter Tryz.func179, Tryz.ntmps179
 go_wp2
 go_ret
 exact ⟨zql H.out, rfl⟩
theorem xqQ (x : Nat) : bits BinOp.or IntKind.u8 ((x : Int) % 256) 128 = ((UInt8.ofNat (x % 128 + 128)).toNat : Int) := by
 rw [show (x : Int) % 256 = ((x % 256 : Nat) : Int) by omega, u8_or128 _ (by omega), UInt8.toNat_ofNat']
 congr 1
 omega
theorem qzh (x : Nat) : IntKind.u8.wrap (x : Int) = ((UInt8.ofNat x).toNat : Int) := by
 rw [IntKind.wrap_u8, UInt8.toNat_ofNat']
 omega
theorem kqJ (F : Nat → Prop) (A : Option Addr) (n c : Nat) (bs : List UInt8) (x : Nat) (w : World) (h : Bs F w A n c bs) (hn : n ≤ 4294967200) (hx : x < 18446744073709551616) :
 Calls Tryz.prog 180 #[.slice A n c, .int .u64 (x : Int)] w (Own1 w (bs ++ vput x)) := by
 go_enter Tryz.func180, Tryz.ntmps180
 go_wp2
 go_loopw [5, 1] (fun v xv wr => ∃ (f x' : Nat) (L : List UInt8) (A2 : Option Addr) (m c2 : Nat), m + f ≤ 9 ∧ xv = .int .u64 (x' : Int) ∧ v = .slice A2 m c2 ∧ OwnB wr w.heap.size A2 m c2 L ∧ L ++ uuH f x' = vput x ∧ x' < 128 ^ (f + 1) ∧ x' < 18446744073709551616 ∧ Below w.heap.size w wr)
  (fun _ xv _ => (intOf xv).toNat)
 case atStart => exact ⟨9, x, [], none, 0, 0, by omega, rfl, rfl, OwnB.nil_ _ _, rfl, by omega, hx, zR⟩
 case round =>
  obtain ⟨f, x', L, A2, m, c2, hm, rfl, rfl, hown, heq, hlt, hlt2, hb⟩ := hrel
  have HE := zH heq; have HO := zH hown; have HL := zH hlt
  clear heq hown hlt
  have hsz := hb.size
  by_cases hx' : x' < 128
  · have hlast := qzh x'
    rw [IntKind.wrap_u8, show (x' : Int) % 256 = (x' : Int) by omega] at hlast
    have s1 := (HO.out.bs.any).alloc (.cells #[.int .u8 (x' : Int)] 5)
    have s2 := ((h.any).below hb zN).alloc (.cells #[.int .u8 (x' : Int)] 5)
    have s3 : Sl tU8 (fun _ => True) (wr.alloc (.cells #[.int .u8 (x' : Int)] 5)) (some ⟨wr.heap.size, 0, none⟩) 1 1 [UInt8.ofNat x'] :=
     (Sl.new (T := tU8) (F := fun _ => True) (cs := [.int .u8 (x' : Int)]) (by rw [hlast]; rfl) 5 _ rfl).any
    have hs := sl3 s2 s1 s3 41
    rw [zS] at hs
    have HS := zH hs; clear hs
    have HB := zH ((hb.alloc hsz (.cells #[.int .u8 (x' : Int)] 5)).alloc (by simp; omega) (.cells #[.slice A n c, .slice A2 m c2, .slice (some ⟨wr.heap.size, 0, none⟩) 1 1] 41))
    have hnl := h.len
    have hml := HO.out.len
    have HN := zH (show [bs, L, [UInt8.ofNat x']].flatten.length ≤ 4294967296 by simp; omega)
    clear s1 s2 s3 hlast hnl hml
    go_wp2_with (go_at_call 224; refine (xxv (T := tU8) zzK (fun _ => True) _ _ _ [bs, L, [UInt8.ofNat x']] _ HS.out (by omega) HN.out).mono ?_; rintro e w1 ⟨A1, n1, c1, rfl, hown1, hb1⟩)
    go_ret
    refine ⟨A1, n1, c1, rfl, ?_, HB.out.trans (hb1.mono (by simp; omega))⟩
    have hfin : [bs, L, [UInt8.ofNat x']].flatten = bs ++ vput x := by
     rw [← HE.out]
     cases f <;> simp [uuH, hx']
    rw [hfin] at hown1
    exact yye (hown1.down (by simp; omega))
  · have HM := zH (xqQ x')
    go_wp2_with (at_builtin; refine apb1 wr w rfl (.tmp 10) (.tmp 14) rfl w.heap.size A2 m c2 L rfl HO.out hb zN _ rfl (UInt8.ofNat (x' % 128 + 128)) (by rw [← HM.out]) (by omega) ?_; intro A3 c3 w3 h3 hb3 _)
    go_roundw
    case rel =>
     obtain ⟨f, rfl⟩ : ∃ f', f = f' + 1 := by
      cases f with
      | zero => have := HL.out; omega
      | succ f => exact ⟨f, rfl⟩
     have hlt := HL.out
     refine ⟨f, x' / 128, L ++ [UInt8.ofNat (x' % 128 + 128)], A3, m + 1, c3, by omega, by go_num, rfl, h3, ?_, ?_, by omega, hb3⟩
     · rw [← HE.out]
       simp [uuH, hx']
     · rw [Nat.pow_succ] at hlt; exact Nat.div_lt_of_lt_mul (by omega)
    case measure => simp [intOf]; omega
theorem uuO (F : Nat → Prop) (A : Option Addr) (n c : Nat) (bs : List UInt8) (x : Int) (w : World) (h : Bs F w A n c bs) (hn : n ≤ 4294967200) (h0 : 0 ≤ x) (hx : x < 18446744073709551616) :
 Calls Tryz.prog 180 #[.slice A n c, .int .u64 x] w (Own1 w (bs ++ vput x.toNat)) := by
 obtain ⟨k, rfl⟩ := Int.eq_ofNat_of_zero_le h0
 rw [Int.toNat_natCast]
 exact kqJ F A n c bs k w h hn (by omega)
end
section
def xxA (w : Nat) : Nat → Nat → List Nat → Nat
 | _, la, [] => la
 | i, la, x :: r => xxA w (i + 1) (if x / 2 ^ w = 0 then la else i) r
def kqh (w i la x : Nat) : List (Nat × Nat) := if x / 2 ^ w = 0 then [] else List.replicate ((i - la - 1) / 255) (255, 0) ++ [(i - la - 255 * ((i - la - 1) / 255), x / 2 ^ w)]
theorem xxB (w i la x : Nat) (r : List Nat) : zzE w i la (x :: r) = kqh w i la x ++ zzE w (i + 1) (if x / 2 ^ w = 0 then la else i) r := by
 unfold kqh
 rw [zzE]
 by_cases h : x / 2 ^ w = 0
 · rw [if_pos h, if_pos h, if_pos h, List.nil_append]
 · rw [if_neg h, if_neg h, if_neg h, List.append_assoc, List.singleton_append]
theorem vvz (w : Nat) : ∀ (a : List Nat) (i la x : Nat), zzE w i la (a ++ [x]) = zzE w i la a ++ kqh w (i + a.length) (xxA w i la a) x
 | [], i, la, x => by
   rw [List.nil_append, xxB]
   simp [zzE, xxA]
 | y :: r, i, la, x => by
   rw [List.cons_append, xxB, vvz w r, xxB, List.append_assoc, xxA, List.length_cons, show i + 1 + r.length = i + (r.length + 1) by omega]
theorem uuo (w : Nat) : ∀ (a : List Nat) (i la x : Nat), xxA w i la (a ++ [x]) = if x / 2 ^ w = 0 then xxA w i la a else i + a.length
 | [], i, la, x => by simp [xxA]
 | y :: r, i, la, x => by
   rw [List.cons_append, xxA, uuo w r, xxA, List.length_cons, show i + 1 + r.length = i + (r.length + 1) by omega]
theorem vvU (w : Nat) : ∀ (a : List Nat) (i la : Nat), la ≤ i → xxA w i la a ≤ i + a.length
 | [], i, la, h => by simpa [xxA] using h
 | y :: r, i, la, h => by
   rw [xxA, List.length_cons]
   have := vvU w r (i + 1) (if y / 2 ^ w = 0 then la else i) (by split <;> omega)
   omega
theorem qxa (w : Nat) (a : List Nat) (i la : Nat) (h : la ≤ i) (ha : a ≠ []) : xxA w i la a < i + a.length := by
 match a, ha with
 | y :: r, _ =>
   rw [xxA, List.length_cons]
   have := vvU w r (i + 1) (if y / 2 ^ w = 0 then la else i) (by split <;> omega)
   have h2 : ∀ (r : List Nat) (i la : Nat), la < i → xxA w i la r < i + r.length := by
    intro r
    induction r with
    | nil => intro i la h; simpa [xxA] using h
    | cons z r ih =>
      intro i la h
      rw [xxA, List.length_cons]
      have := ih (i + 1) (if z / 2 ^ w = 0 then la else i) (by split <;> omega)
      omega
   have := h2 r (i + 1) (if y / 2 ^ w = 0 then la else i) (by split <;> omega)
   omega
def patM (p : List (Nat × Nat)) : Nat := max 1 (most (p.map (·.2)))
theorem xxW (p : List (Nat × Nat)) : patW p = zzz (patM p) := rfl
theorem jjw (p : List (Nat × Nat)) (x : Nat × Nat) : gapW (p ++ [x]) = max (gapW p) (bl x.1) := by
 unfold gapW
 rw [List.map_append, List.map_singleton, jjg]; omega
theorem qzG (p : List (Nat × Nat)) (x : Nat × Nat) : patM (p ++ [x]) = max (patM p) (bl x.2) := by
 unfold patM
 rw [List.map_append, List.map_singleton, jjg]; omega
theorem gapW_le (p : List (Nat × Nat)) (h : ∀ x ∈ p, U64 x.1) : 1 ≤ gapW p ∧ gapW p ≤ 64 := by
 have := yyR (p.map (·.1)) (fun y hy => by obtain ⟨x, hx, rfl⟩ := List.mem_map.1 hy; exact h x hx)
 unfold gapW; omega
theorem zqv (p : List (Nat × Nat)) (h : ∀ x ∈ p, U64 x.2) : 1 ≤ patM p ∧ patM p ≤ 64 := by
 have := yyR (p.map (·.2)) (fun y hy => by obtain ⟨x, hx, rfl⟩ := List.mem_map.1 hy; exact h x hx)
 unfold patM; omega
theorem vvA (l : List Int) : (upN l).length = l.length := by simp [upN]
end
end Go.Proofs.YtpmglcachffojaaGreatDoor
