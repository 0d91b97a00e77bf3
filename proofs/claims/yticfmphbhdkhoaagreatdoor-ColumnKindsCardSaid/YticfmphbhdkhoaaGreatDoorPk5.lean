/- repeat.Put: a number a few times. direct.Head, Plain. varint.PutInt, delta.Diff, number. -/
import Derived.Test.YticfmphbhdkhoaaGreatDoorPk4
namespace Go.Proofs.YticfmphbhdkhoaaGreatDoor
open Go Go.RowKit

theorem i64_or_nat (a b : Nat) (ha : a < 1048576) (hb : b < 1048576) : bits .or .i64 (a : Int) (b : Int) = ((a ||| b : Nat) : Int) := by
  have hx : a ||| b < 2 ^ 20 := Nat.or_lt_two_pow (by omega) (by omega)
  show IntKind.i64.wrap ((BitVec.ofInt 64 (a : Int) ||| BitVec.ofInt 64 (b : Int)).toNat : Int) = _
  rw [BitVec.toNat_or, ofInt_u64 a (by omega), ofInt_u64 b (by omega)]
  rw [IntKind.wrap_i64]
  omega
/-- What a kind of runs answers: the bytes, or that the numbers are none of its. -/
def RunPost (o : Option (List UInt8)) (w : World) (e : Ending) (w' : World) : Prop := Below w.heap.size w w' ∧ match o with
  | none => e = .returned (.tuple #[.slice none 0 0, .int .i64 1])
  | some b => ∃ A n c, e = .returned (.tuple #[.slice A n c, .int .i64 0]) ∧ OwnB w' w.heap.size A n c b
set_option maxRecDepth 100000 in
set_option maxHeartbeats 1000000 in
theorem rput_any (sg : Bool) (x : Int) (h0 : -9223372036854775808 ≤ x) (h1 : x ≤ 9223372036854775807) (hs : sg = true ∨ 0 ≤ x) (t : Nat) (ht : t ≤ 512) (w : World) :
    Calls Tryz.prog 120 #[.int .i64 x, .int .i64 (t : Int), .bool sg] w (RunPost (if 3 ≤ t ∧ t ≤ 10 then some (repB (uOf sg x) t) else none) w) := by
  have hu := uOf_lt (sg := sg) h0 h1
  obtain ⟨u, hue⟩ : ∃ u, u = uOf sg x := ⟨_, rfl⟩
  have HPL := Lib.hid (rplain_any sg x h0 h1 hs)
  rw [← hue] at hu HPL ⊢
  have HU := Lib.hid hu
  clear hue hs hu
  by_cases hc : 3 ≤ t ∧ t ≤ 10
  · rw [if_pos hc]
    have z1 : ¬ (t : Int) < 3 := by omega
    have z2 : ¬ (t : Int) > 10 := by omega
    have hl := long_le HU.out
    obtain ⟨n, hn⟩ : ∃ n, n + 1 = long u := ⟨long u - 1, by omega⟩
    have HN := Lib.hid hn
    rw [← hn] at hl
    obtain ⟨y, hy⟩ : ∃ y : UInt8, y = UInt8.ofNat (8 * n + t - 3) := ⟨_, rfl⟩
    have HY := Lib.hid (show bits .or .i64 ((n : Int) * 8) ((t : Int) - 3) % 256 = ((y.toNat : Nat) : Int) by
      have e1 := i64_or_nat (n * 8) (t - 3) (by omega) (by omega)
      rw [nat_join 3 (n * 8) (t - 3) (by omega) (by omega)] at e1
      rw [show (n : Int) * 8 = ((n * 8 : Nat) : Int) by simp, show (t : Int) - 3 = ((t - 3 : Nat) : Int) by omega, e1, hy, UInt8.toNat_ofNat']
      omega)
    have HYB := Lib.hid (show repB u t = [y] ++ be (n + 1) u by rw [repB, ← HN.out, hy]; simp)
    clear hn hy
    have HHI : Hid (∀ w : World, Calls Tryz.prog 150 #[.int .u64 (u : Int), .int .i64 ((n : Int) + 1), .slice (some ⟨w.heap.size, 0, none⟩) 1 1] (w.alloc (.cells #[.int .u8 ((y.toNat : Nat) : Int)] 5)) fun e w' => ∃ A' m' c', e = .returned (.slice A' m' c') ∧ OwnB w' w.heap.size A' m' c' ([y] ++ be (n + 1) u) ∧ Below w.heap.size w w') := Lib.hid (fun w => by
      have ho : OwnB (w.alloc (.cells #[.int .u8 ((y.toNat : Nat) : Int)] 5)) w.heap.size (some ⟨w.heap.size, 0, none⟩) 1 1 [y] := World.ownsRow_lit w #[.int .u8 ((y.toNat : Nat) : Int)] 1 (Nat.le_refl _) (by simp [maxLen]) rfl
      have hb : Below w.heap.size w (w.alloc (.cells #[.int .u8 ((y.toNat : Nat) : Int)] 5)) := (Below.refl _ _).alloc (Nat.le_refl _) _
      refine (rhigh_any w.heap.size u (n + 1) HU.out (by omega) _ 1 1 [y] (by omega) _ ho hb.size).mono ?_
      rintro e w1 ⟨A3, m3, c3, rfl, h3, hb3⟩
      exact ⟨A3, m3, c3, rfl, h3, hb.trans hb3⟩)
    go_enter Tryz.func120, Tryz.ntmps120
    go_wp2_with (first
      | (go_at_call 148; refine (HPL.out _).mono ?_; rintro e w1 ⟨rfl, rfl⟩)
      | (go_at_call 149; refine (rlong_any u HU.out _).mono ?_; rintro e w1 ⟨rfl, rfl⟩; rw [← HN.out])
      | (rw [HY.out]; go_at_call 150; refine (HHI.out w).mono ?_; rintro e w1 ⟨A3, m3, c3, rfl, h3, hb3⟩; have HH3 := Lib.hid h3; have HB3 := Lib.hid hb3; clear h3 hb3)
      | fail)
    go_ret2
    exact ⟨HB3.out, A3, m3, c3, rfl, by rw [HYB.out]; exact HH3.out⟩
  · rw [if_neg hc]
    by_cases z1 : (t : Int) < 3
    · clear hc
      go_enter Tryz.func120, Tryz.ntmps120
      go_wp2_with (first
        | (go_at_call 148; refine (HPL.out _).mono ?_; rintro e w1 ⟨rfl, rfl⟩)
        | fail)
      go_ret2
      exact ⟨Below.refl _ _, rfl⟩
    · have z2 : (t : Int) > 10 := by omega
      clear hc
      go_enter Tryz.func120, Tryz.ntmps120
      go_wp2_with (first
        | (go_at_call 148; refine (HPL.out _).mono ?_; rintro e w1 ⟨rfl, rfl⟩)
        | fail)
      go_ret2
      exact ⟨Below.refl _ _, rfl⟩
end Go.Proofs.YticfmphbhdkhoaaGreatDoor
namespace Go.Proofs.YticfmphbhdkhoaaGreatDoor
open Go Go.RowKit

theorem infoU64 : (Tryz.prog.info? 100).map (fun i => (i.zero, i.size, i.bytes)) = some (some (.int .u64 0), 1, 8) := by kernel_rfl
theorem elemU64 : ElemOf Tryz.prog 112 100 1 := ElemOf.mk' (by kernel_rfl) infoU64 rfl (by decide) (by decide)
/-- Numbers of 64 bits in a row of the call's own. -/
abbrev OwnU (w : World) (B : Nat) (A : Option Addr) (n c : Nat) (l : List Nat) : Prop := OwnF tU64 100 (fun _ => False) w B A n c l
theorem ownU_of {F : Nat → Prop} {w : World} {B n c : Nat} {A : Option Addr} {l : List Nat} (h : OwnF tU64 100 F w B A n c l) : OwnU w B A n c l := own_row1 oneU64 (h.row1 oneU64).1 (h.row1 oneU64).2
theorem ownU_nil (w : World) (B : Nat) : OwnU w B none 0 0 [] := ⟨⟨[], World.ownsRow_nil _ _ _ _, Reps.nil_⟩, fun _ _ _ h => h, rfl⟩
section
variable (w a0 : World) {ops : Array Oper} {rest : List Oper} {o : Oper} {a : Act} {Q : Exit → Act → World → Prop}
/-- append(l, u) at numbers of 64 bits. -/
theorem apu1 (hgd : o.guard = none) (s x : Operand) (ho : o.op = .call { callee := .builtin .append, args := #[s, x], argTypes := #[112, 112] }) (B : Nat) (A : Option Addr) (n c : Nat) (xs : List Nat) (hs : a.eval s = .slice A n c)
    (hown : OwnU w B A n c xs) (hb : Below B a0 w) (hB : B ≤ a0.heap.size) (obj : Obj) (hx : a.eval x = .slice (some ⟨w.heap.size, 0, none⟩) 1 1) (y : Nat) (hy : U64 y) (hobj : obj = .cells #[.int .u64 (y : Int)] 100) (hlim : n ≤ 34359738368)
    (h : ∀ A' c' w', OwnU w' B A' (n + 1) c' (xs ++ [y]) → Below B a0 w' → wpList Tryz.prog ops Q rest (a.put o.dst (.slice A' (n + 1) c')) w') : wpList Tryz.prog ops Q (o :: rest) a (w.alloc obj) :=
  apl1 (T := tU64) elemU64 w a0 hgd s x ho B A n c xs hs (fun _ => False) (fun _ => False) hown hb hB obj hx [.int .u64 (y : Int)] y ⟨rfl, hy⟩ 100 hobj (fun _ _ _ _ h => h) hlim fun A' c' w' ha => h A' c' w' (ownU_of ha.own) ha.below
end

theorem head_any (k c m : Nat) (hk : k ≤ 3) (hc : c ≤ 31) (hm : 1 ≤ m) (hm2 : m ≤ 512) (w : World) :
    Calls Tryz.prog 126 #[.int .i64 (k : Int), .int .i64 (c : Int), .int .i64 (m : Int)] w (Own1 w (headB k c m)) := by
  obtain ⟨m, rfl⟩ : ∃ n, m = n + 1 := ⟨m - 1, by omega⟩
  obtain ⟨x, hx⟩ : ∃ x, x = k * 16384 + c * 512 + m := ⟨_, rfl⟩
  have e1 := i64_or_nat (k * 16384) (c * 512) (by omega) (by omega)
  rw [nat_join 14 (k * 16384) (c * 512) (by omega) (by omega)] at e1
  have e2 := i64_or_nat (k * 16384 + c * 512) m (by omega) (by omega)
  rw [nat_join 9 (k * 16384 + c * 512) m (by omega) (by omega), ← hx] at e2
  have f1 : bits .or .i64 ((k : Int) * 16384) ((c : Int) * 512) = ((k * 16384 + c * 512 : Nat) : Int) := by
    rw [show (k : Int) * 16384 = ((k * 16384 : Nat) : Int) by simp, show (c : Int) * 512 = ((c * 512 : Nat) : Int) by simp]; exact e1
  have F := Lib.hid (show bits .or .i64 (bits .or .i64 ((k : Int) * 16384) ((c : Int) * 512)) (m : Int) = (x : Int) by rw [f1]; exact e2)
  obtain ⟨y, hy⟩ : ∃ y : UInt8, y = UInt8.ofNat (x / 256) := ⟨_, rfl⟩
  obtain ⟨z, hz⟩ : ∃ z : UInt8, z = UInt8.ofNat x := ⟨_, rfl⟩
  have HY := Lib.hid (show (x : Int) / 256 % 256 = ((y.toNat : Nat) : Int) by rw [hy, UInt8.toNat_ofNat']; omega)
  have HZ := Lib.hid (show (x : Int) % 256 = ((z.toNat : Nat) : Int) by rw [hz, UInt8.toNat_ofNat']; omega)
  have HB := Lib.hid (show headB k c (m + 1) = [y, z] by rw [headB, hy, hz, hx]; congr 2 <;> (try congr 1) <;> (try congr 1) <;> omega)
  clear e1 e2 f1 hx hy hz
  go_enter Tryz.func126, Tryz.ntmps126
  go_wp2_with fail
  rw [F.out, HY.out, HZ.out]
  go_ret
  exact ⟨_, 2, 2, rfl, by rw [HB.out]; exact World.ownsRow_lit w #[.int .u8 ((y.toNat : Nat) : Int), .int .u8 ((z.toNat : Nat) : Int)] 2 (Nat.le_refl _) (by simp [maxLen]) rfl, (Below.refl _ _).alloc (Nat.le_refl _) _⟩
set_option maxRecDepth 100000 in
set_option maxHeartbeats 1000000 in
theorem dplain_any (F : Nat → Prop) (A : Option Addr) (n c : Nat) (l : List Int) (w : World) (h : Sl tI64 F w A n c l) (hn : n ≤ 4294967296) (sg : Bool) (hl : NumOk sg l) :
    Calls Tryz.prog 121 #[.slice A n c, .bool sg] w fun e w' => ∃ A' n' c', e = .returned (.tuple #[.slice A' n' c', .int .i64 0]) ∧ OwnU w' w.heap.size A' n' c' (l.map (uOf sg)) ∧ Below w.heap.size w w' := by
  have HH := Lib.hid h; have HK := Lib.hid hl; have HL := Lib.hid h.len
  clear h hl
  go_enter Tryz.func121, Tryz.ntmps121
  go_wp2_with fail
  go_loopw [6, 12] (fun av iv wr => ∃ (i : Nat) (A2 : Option Addr) (c2 : Nat), i ≤ n ∧ iv = .int .i64 (i : Int) ∧ av = .slice A2 i c2 ∧ OwnU wr w.heap.size A2 i c2 ((l.take i).map (uOf sg)) ∧ Below w.heap.size w wr)
    (fun _ iv _ => n - (intOf iv).toNat)
  case atStart => exact ⟨0, none, 0, Nat.zero_le _, rfl, rfl, ownU_nil _ _, Below.refl _ _⟩
  case round =>
    obtain ⟨i, A2, c2, hi, rfl, rfl, ho, hb⟩ := hrel
    have HO := Lib.hid ho; have HB := Lib.hid hb
    clear ho hb
    by_cases hlt : i < n
    · have hil : i < l.length := by rw [← HL.out]; exact hlt
      obtain ⟨x, hx⟩ : ∃ x, x = l[i] := ⟨_, rfl⟩
      have hxk := HK.out x (by rw [hx]; exact List.getElem_mem _)
      have hsl := HH.out.below HB.out (Nat.le_refl _)
      obtain ⟨b, o, u, rfl, _, hbl, hr, hc⟩ := hsl.at1 hil rfl
      rw [← hx] at hr
      obtain ⟨hr, _⟩ := hr
      injection hr with hr
      subst hr
      have HT := Lib.hid (show (l.take (i + 1)).map (uOf sg) = (l.take i).map (uOf sg) ++ [uOf sg x] by rw [List.take_succ_eq_append_getElem hil, List.map_append, ← hx]; rfl)
      obtain ⟨v, hv⟩ : ∃ v, v = uOf sg x := ⟨_, rfl⟩
      have hvu : U64 v := by rw [hv]; exact uOf_lt hxk.1 hxk.2.1
      obtain ⟨x0, x1, xs⟩ := hxk
      have hi1 : (0 : Int) ≤ (i : Int) := by omega
      have hi2 : (i : Int) < (n : Int) := by omega
      rw [← hv] at HT
      have HVU := Lib.hid hvu
      clear hx hsl hvu
      cases sg with
      | true =>
        have HZ := Lib.hid (show zigN x = v by rw [hv]; rfl)
        clear hv xs
        go_wp2_with (first
          | (go_at_call 151; refine (zig_any x _ x0 x1).mono ?_; rintro e w1 ⟨rfl, rfl⟩; rw [HZ.out])
          | (at_builtin; refine apu1 wr w rfl (.tmp 23) (.tmp 25) rfl w.heap.size A2 i c2 _ rfl HO.out HB.out (Nat.le_refl _) _ rfl v HVU.out rfl (by omega) ?_; intro A3 c3 w3 h3 hb3)
          | fail)
        go_roundw
        case rel => exact ⟨i + 1, A3, c3, by omega, by go_num, rfl, by rw [HT.out]; exact h3, hb3⟩
        case measure => simp [intOf]; omega
      | false =>
        have xge : 0 ≤ x := xs.resolve_left (by decide)
        obtain ⟨k, rfl⟩ := Int.eq_ofNat_of_zero_le xge
        have HZ := Lib.hid (show k = v by rw [hv]; unfold uOf; simp)
        have xn : ¬ (k : Int) < 0 := by omega
        obtain rfl := HZ.out
        clear hv xs
        go_wp2_with (first
          | (at_builtin; refine apu1 wr w rfl (.tmp 23) (.tmp 25) rfl w.heap.size A2 i c2 _ rfl HO.out HB.out (Nat.le_refl _) _ rfl k HVU.out rfl (by omega) ?_; intro A3 c3 w3 h3 hb3)
          | fail)
        go_roundw
        case rel => exact ⟨i + 1, A3, c3, by omega, by go_num, rfl, by rw [HT.out]; exact h3, hb3⟩
        case measure => simp [intOf]; omega
    · obtain rfl : n = i := by omega
      have HT := Lib.hid (show l.take n = l by rw [List.take_of_length_le (by rw [← HL.out]; exact Nat.le_refl _)])
      go_wp2_with fail
      go_ret2
      exact ⟨A2, n, c2, rfl, by have := HO.out; rwa [HT.out] at this, HB.out⟩
theorem headB_len (k c m : Nat) : (headB k c m).length = 2 := rfl
theorem lt_most {l : List Nat} (h : ∀ x ∈ l, U64 x) {x : Nat} (hx : x ∈ l) : x < 2 ^ closeN (most l) := by
  have h1 := bl_lt (h x hx)
  have h2 := most_mem hx
  have h3 := closeN_ge (most_le64 l h)
  exact Nat.lt_of_lt_of_le h1 (Nat.pow_le_pow_right (by decide) (by omega))
set_option maxRecDepth 100000 in
set_option maxHeartbeats 1000000 in
theorem dput_any (F : Nat → Prop) (A : Option Addr) (n c : Nat) (l : List Int) (w : World) (h : Sl tI64 F w A n c l) (hn1 : 1 ≤ n) (hn : n ≤ 512) (sg : Bool) (hl : NumOk sg l) :
    Calls Tryz.prog 97 #[.slice A n c, .bool sg] w (RunPost (some (dirB sg l)) w) := by
  have HH := Lib.hid h
  have HK := Lib.hid hl
  have hln := h.len
  obtain ⟨us, hus⟩ : ∃ us, us = l.map (uOf sg) := ⟨_, rfl⟩
  have hu : ∀ u ∈ us, U64 u := by rw [hus]; exact hl.u
  have hlu : us.length = n := by rw [hus, List.length_map]; exact hln.symm
  obtain ⟨k, hk⟩ : ∃ k, k = most us := ⟨_, rfl⟩
  have hk64 : k ≤ 64 := by rw [hk]; exact most_le64 us hu
  obtain ⟨q, hq⟩ : ∃ q, q = closeN k := ⟨_, rfl⟩
  have hq64 : q ≤ 64 := by rw [hq]; exact closeN_le k
  have hx : ∀ x ∈ us, x < 2 ^ q := fun x hx => by rw [hq, hk]; exact lt_most hu hx
  obtain ⟨hc1, hc2⟩ := codeN_eq hk64
  rw [← hq] at hc1 hc2
  obtain ⟨d, hd⟩ : ∃ d, d = codeN q := ⟨_, rfl⟩
  rw [← hd] at hc1 hc2
  have HB := Lib.hid (show dirB sg l = headB 1 d n ++ pack q us by rw [dirB, ← hus, ← hk, ← hq, ← hd, ← hln])
  have HX := Lib.hid hx; have HQ := Lib.hid hq; have HKK := Lib.hid hk; have HC := Lib.hid hc1; have HUS := Lib.hid hus; have HLU := Lib.hid hlu
  clear h hl hu hx hq hk hc1 hus hd hln hlu
  go_enter Tryz.func97, Tryz.ntmps97
  go_upto_region 4 with (first
    | (go_at_call 121; refine (dplain_any F A n c l _ HH.out (by omega) sg HK.out).mono ?_; rintro e w1 ⟨A1, n1, c1, rfl, ho1, hb1⟩; have HO1 := Lib.hid ho1; have HB1 := Lib.hid hb1; rw [← HUS.out] at HO1; clear ho1 hb1)
    | fail)
  have HS1 := Lib.hid HO1.out.sl
  obtain rfl : n1 = n := by rw [HO1.out.len, HLU.out]
  go_wp2_with (first
    | (go_at_call 123; refine (wmost_any _ A1 n1 c1 us _ HS1.out).mono ?_; rintro e w2 ⟨rfl, rfl⟩; rw [← HKK.out])
    | (go_at_call 122; refine (wclose_any k hk64 _).mono ?_; rintro e w2 ⟨rfl, hb2⟩; rw [← HQ.out]; have HB2 := Lib.hid hb2; clear hb2; have HS2 := Lib.hid (HS1.out.below HB2.out (Nat.le_refl _)))
    | (go_at_call 124; refine (pack_any _ A1 n1 c1 us _ HS2.out (by omega) q hq64 HX.out).mono ?_; rintro e w3 ⟨A3, s3, c3, rfl, ho3, hb3⟩; have HO3 := Lib.hid ho3; have HB3 := Lib.hid hb3; clear ho3 hb3)
    | (go_at_call 127; refine (wcode_any (q : Int) _).mono ?_; rintro e w4 ⟨rfl, hb4⟩; rw [HC.out]; have HB4 := Lib.hid hb4; clear hb4)
    | (go_at_call 126; refine (head_any 1 d n1 (by omega) hc2 hn1 hn _).mono ?_; rintro e w5 ⟨A5, n5, c5, rfl, ho5, hb5⟩; have HO5 := Lib.hid ho5; have HB5 := Lib.hid hb5; clear ho5 hb5
       have HSS := Lib.hid (sl2 HO5.out.bs ((HO3.out.bs.below HB4.out (Nat.le_refl _)).below HB5.out (Nat.le_refl _)) 37)
       have HN := Lib.hid (show [headB 1 d n1, pack q us].flatten.length ≤ 4294967296 by have := packSize_le n1 q hq64; simp [headB_len, pack_len, HLU.out]; omega))
    | (go_at_call 125; refine (concatB_any (T := tU8) elemBytes (fun _ => True) _ _ _ [headB 1 d n1, pack q us] _ HSS.out (by omega) HN.out).mono ?_; rintro e w6 ⟨A6, n6, c6, rfl, ho6, hb6⟩; have HO6 := Lib.hid ho6; have HB6 := Lib.hid hb6; clear ho6 hb6)
    | fail)
  go_ret2
  have b2 := HB1.out.trans (HB2.out.mono HB1.out.size)
  have b3 := b2.trans (HB3.out.mono b2.size)
  have b4 := b3.trans (HB4.out.mono b3.size)
  have b5 := b4.trans (HB5.out.mono b4.size)
  have b6 := b5.alloc b5.size (.cells #[.slice A5 n5 c5, .slice A3 s3 c3] 37)
  have hc6 := b6.size
  refine ⟨b6.trans (HB6.out.mono hc6), A6, n6, c6, rfl, ?_⟩
  have := own_u8 (HO6.out.down hc6)
  rw [HB.out]
  simpa using this
end Go.Proofs.YticfmphbhdkhoaaGreatDoor
namespace Go.Proofs.YticfmphbhdkhoaaGreatDoor
open Go Go.RowKit

theorem vpi_any (F : Nat → Prop) (A : Option Addr) (n c : Nat) (bs : List UInt8) (x : Int) (sg : Bool) (w : World) (h : Bs F w A n c bs) (hn : n ≤ 4294967200) (h0 : -9223372036854775808 ≤ x) (h1 : x ≤ 9223372036854775807) (hs : sg = true ∨ 0 ≤ x) :
    Calls Tryz.prog 129 #[.slice A n c, .int .i64 x, .bool sg] w (Own1 w (bs ++ vput (uOf sg x))) := by
  have HH := Lib.hid h
  have hu := uOf_lt (sg := sg) h0 h1
  have HU := Lib.hid hu
  clear h hu
  cases sg with
  | true =>
    have HZ := Lib.hid (show zigN x = uOf true x from rfl)
    obtain ⟨v, hv⟩ : ∃ v, v = uOf true x := ⟨_, rfl⟩
    rw [← hv] at HZ HU ⊢
    clear hv hs
    go_enter Tryz.func129, Tryz.ntmps129
    go_wp2_with (first
      | (go_at_call 151; refine (zig_any x _ h0 h1).mono ?_; rintro e w1 ⟨rfl, rfl⟩; rw [HZ.out])
      | (go_at_call 159; refine (vput_any F A n c bs v _ HH.out hn HU.out).mono ?_; rintro e w1 ⟨A1, n1, c1, rfl, ho1, hb1⟩; have HO1 := Lib.hid ho1; have HB1 := Lib.hid hb1; clear ho1 hb1)
      | fail)
    go_ret
    exact ⟨A1, n1, c1, rfl, HO1.out, HB1.out⟩
  | false =>
    have hx : 0 ≤ x := hs.resolve_left (by decide)
    obtain ⟨k, rfl⟩ := Int.eq_ofNat_of_zero_le hx
    have hk : uOf false (k : Int) = k := by unfold uOf; simp
    rw [hk] at HU ⊢
    clear hk hs
    go_enter Tryz.func129, Tryz.ntmps129
    go_wp2_with (first
      | (go_at_call 159; refine (vput_any F A n c bs k _ HH.out hn HU.out).mono ?_; rintro e w1 ⟨A1, n1, c1, rfl, ho1, hb1⟩; have HO1 := Lib.hid ho1; have HB1 := Lib.hid hb1; clear ho1 hb1)
      | fail)
    go_ret
    exact ⟨A1, n1, c1, rfl, HO1.out, HB1.out⟩
def diffV (a b : Int) : Array Value := if gapN a b < 9223372036854775808 then #[.int .u64 ((gapN a b : Nat) : Int), .bool (decide (b < a)), .bool true] else #[.int .u64 0, .bool false, .bool false]
set_option maxRecDepth 100000 in
theorem diff_any (a b : Int) (a0 : -9223372036854775808 ≤ a) (a1 : a ≤ 9223372036854775807) (b0 : -9223372036854775808 ≤ b) (b1 : b ≤ 9223372036854775807) (w : World) :
    Calls Tryz.prog 158 #[.int .i64 a, .int .i64 b] w fun e w' => e = .returned (.tuple (diffV a b)) ∧ Below w.heap.size w w' := by
  obtain ⟨g, hg⟩ : ∃ g : Int, g = (gapN a b : Nat) := ⟨_, rfl⟩
  have hgn : g = if b < a then a - b else b - a := by rw [hg]; unfold gapN; split <;> omega
  have HV : Hid (diffV a b = if g < 9223372036854775808 then #[.int .u64 g, .bool (decide (b < a)), .bool true] else #[.int .u64 0, .bool false, .bool false]) := Lib.hid (by
    unfold diffV; rw [hg]
    by_cases h : gapN a b < 9223372036854775808
    · rw [if_pos h, if_pos (by omega)]
    · rw [if_neg h, if_neg (by omega)])
  obtain ⟨p, hp⟩ : ∃ p, p = IntKind.u64.wrap b := ⟨_, rfl⟩
  obtain ⟨q, hq⟩ : ∃ q, q = IntKind.u64.wrap a := ⟨_, rfl⟩
  obtain ⟨d, hd⟩ : ∃ d, d = IntKind.u64.wrap (p - q) := ⟨_, rfl⟩
  have HP := Lib.hid hp; have HQ := Lib.hid hq; have HD := Lib.hid hd
  rw [IntKind.wrap_u64] at hp hq hd
  have hd0 : 0 ≤ d := by omega
  have hd1 : d < 18446744073709551616 := by omega
  by_cases hba : b < a
  · rw [if_pos hba] at hgn
    have F1 := Lib.hid (show IntKind.u64.wrap (-d) = g by rw [IntKind.wrap_u64]; omega)
    have d1 : decide (b < a) = true := decide_eq_true hba
    rw [d1] at HV
    have hg0 : 0 ≤ g := by omega
    clear hg hgn hp hq hd
    by_cases hz : g < 9223372036854775808
    · rw [if_pos hz] at HV
      go_enter Tryz.func158, Tryz.ntmps158
      go_upto_region 2 with fail
      rw [← HP.out, ← HQ.out, ← HD.out]
      go_upto_region 4 with fail
      rw [F1.out]
      go_upto_region 6 with fail
      go_region
      go_wp2_with fail
      go_ret3
      exact ⟨by rw [HV.out]; rfl, ((Below.refl _ _).alloc (Nat.le_refl _) _).drew⟩
    · rw [if_neg hz] at HV
      have hz2 : (9223372036854775808 : Int) ≤ g := by omega
      go_enter Tryz.func158, Tryz.ntmps158
      go_upto_region 2 with fail
      rw [← HP.out, ← HQ.out, ← HD.out]
      go_upto_region 4 with fail
      rw [F1.out]
      go_wp2_with fail
      go_ret3
      exact ⟨by rw [HV.out]; rfl, (Below.refl _ _).alloc (Nat.le_refl _) _⟩
  · rw [if_neg hba] at hgn
    obtain rfl : d = g := by omega
    have d1 : decide (b < a) = false := decide_eq_false hba
    rw [d1] at HV
    clear hg hgn hp hq hd
    by_cases hz : d < 9223372036854775808
    · rw [if_pos hz] at HV
      go_enter Tryz.func158, Tryz.ntmps158
      go_upto_region 2 with fail
      rw [← HP.out, ← HQ.out, ← HD.out]
      go_upto_region 6 with fail
      go_region
      go_wp2_with fail
      go_ret3
      exact ⟨by rw [HV.out]; rfl, ((Below.refl _ _).alloc (Nat.le_refl _) _).drew⟩
    · rw [if_neg hz] at HV
      have hz2 : (9223372036854775808 : Int) ≤ d := by omega
      go_enter Tryz.func158, Tryz.ntmps158
      go_upto_region 2 with fail
      rw [← HP.out, ← HQ.out, ← HD.out]
      go_wp2_with fail
      go_ret3
      exact ⟨by rw [HV.out]; rfl, (Below.refl _ _).alloc (Nat.le_refl _) _⟩
end Go.Proofs.YticfmphbhdkhoaaGreatDoor
