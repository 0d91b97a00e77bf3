/- The references 03 and 08: numbers packed bit by bit; plain numbers; direct runs. The reference 08: direct runs. -/
import Derived.Test.YtpmglcachffojaaGreatDoorPk21
namespace Go.Proofs.YtpmglcachffojaaGreatDoor
open Go Go.RowKit

set_option maxRecDepth 100000 in
theorem r3size_any (m k : Nat) (hm : m ≤ 4096) (hk : k ≤ 64) (w : World) : Calls Tryz.prog 304 #[.int .i64 (m : Int), .int .i64 (k : Int)] w fun e w' => e = .returned (.int .i64 ((packSize m k : Nat) : Int)) ∧ w = w' := by
  have hmk : m * k ≤ 4096 * 64 := Nat.mul_le_mul hm hk
  obtain ⟨q, hq⟩ : ∃ q, q = m * k := ⟨_, rfl⟩
  have f1 : (m : Int) * (k : Int) = (q : Int) := by rw [hq]; simp
  have hq2 : q ≤ 262144 := by rw [hq]; omega
  have HQ := Lib.hid (show packSize m k = (q + 7) / 8 by rw [hq]; rfl)
  have z0 : ¬ (m : Int) < 0 := by omega
  have z1 : ¬ (m : Int) > 4096 := by omega
  have z1' : ¬ (4096 : Int) < m := by omega
  have z2 : ¬ (k : Int) < 0 := by omega
  have z3 : ¬ (k : Int) > 64 := by omega
  have z3' : ¬ (64 : Int) < k := by omega
  clear hmk hq
  go_enter Tryz.func304, Tryz.ntmps304
  go_wp2_with fail
  go_ret
  exact ⟨by rw [HQ.out]; go_num, rfl⟩
theorem OwnU.new0 (w : World) : OwnU (w.alloc (.cells #[] 112)) w.heap.size (some ⟨w.heap.size, 0, none⟩) 0 0 [] :=
  OwnF.empty _ _ _ w _ (Nat.le_refl _) (fun _ hb => hb.elim)
set_option maxRecDepth 100000 in
set_option maxHeartbeats 1000000 in
theorem r8plain_any (F : Nat → Prop) (A : Option Addr) (n c : Nat) (l : List Int) (w : World) (h : Sl tI64 F w A n c l) (hn : n ≤ 4294967296) (sg : Bool) (hl : NumOk sg l) :
    Calls Tryz.prog 214 #[.slice A n c, .bool sg] w fun e w' => ∃ A' n' c', e = .returned (.tuple #[.slice A' n' c', .int .i64 0]) ∧ OwnU w' w.heap.size A' n' c' (l.map (uOf sg)) ∧ Below w.heap.size w w' := by
  have HH := Lib.hid h; have HK := Lib.hid hl; have HL := Lib.hid h.len
  have HNEW := Lib.hid (OwnU.new0 w)
  have HB0 := Lib.hid (show Below w.heap.size w (w.alloc (.cells #[] 112)) from (Below.refl _ _).alloc (Nat.le_refl _) _)
  clear h hl
  go_enter Tryz.func214, Tryz.ntmps214
  go_wp2_with fail
  go_loopw [6, 7] (fun av iv wr => ∃ (i : Nat) (A2 : Option Addr) (c2 : Nat), i ≤ n ∧ iv = .int .i64 (i : Int) ∧ av = .slice A2 i c2 ∧ OwnU wr w.heap.size A2 i c2 ((l.take i).map (uOf sg)) ∧ Below w.heap.size w wr)
    (fun _ iv _ => n - (intOf iv).toNat)
  case atStart => exact ⟨0, _, _, Nat.zero_le _, rfl, rfl, HNEW.out, HB0.out⟩
  case round =>
    obtain ⟨i, A2, c2, hi, rfl, rfl, ho, hb⟩ := hrel
    have HO := Lib.hid ho; have HB := Lib.hid hb
    clear ho hb
    by_cases hlt : i < n
    · have hil : i < l.length := by rw [← HL.out]; exact hlt
      obtain ⟨x, hx⟩ : ∃ x, x = l[i] := ⟨_, rfl⟩
      have hxk := HK.out x (by rw [hx]; exact List.getElem_mem _)
      have hsl := HH.out.below HB.out (Nat.le_refl _)
      obtain ⟨b, o, u, rfl, _, hbl, hr, hc⟩ := hsl.at1 hil rfl
      rw [← hx] at hr
      obtain ⟨hr, _⟩ := hr
      injection hr with hr
      subst hr
      have HT := Lib.hid (show (l.take (i + 1)).map (uOf sg) = (l.take i).map (uOf sg) ++ [uOf sg x] by rw [List.take_succ_eq_append_getElem hil, List.map_append, ← hx]; rfl)
      obtain ⟨v, hv⟩ : ∃ v, v = uOf sg x := ⟨_, rfl⟩
      have hvu : U64 v := by rw [hv]; exact uOf_lt hxk.1 hxk.2.1
      have HPL := Lib.hid (r7plain_any sg x hxk.1 hxk.2.1 hxk.2.2)
      have hi1 : (0 : Int) ≤ (i : Int) := by omega
      have hi2 : (i : Int) < (n : Int) := by omega
      rw [← hv] at HT HPL
      have HVU := Lib.hid hvu
      clear hx hsl hvu hxk hv
      go_wp2_with (first
        | (go_at_call 255; refine (HPL.out _).mono ?_; rintro e w1 ⟨rfl, rfl⟩)
        | (at_builtin; refine apu1 wr w rfl (.tmp 28) (.tmp 30) rfl w.heap.size A2 i c2 _ rfl HO.out HB.out (Nat.le_refl _) _ rfl v HVU.out rfl (by omega) ?_; intro A3 c3 w3 h3 hb3)
        | fail)
      go_roundw
      case rel => exact ⟨i + 1, A3, c3, by omega, by go_num, rfl, by rw [HT.out]; exact h3, hb3⟩
      case measure => simp [intOf]; omega
    · obtain rfl : n = i := by omega
      have HT := Lib.hid (show l.take n = l by rw [List.take_of_length_le (by rw [← HL.out]; exact Nat.le_refl _)])
      go_wp2_with fail
      go_ret2
      exact ⟨A2, n, c2, rfl, by have := HO.out; rwa [HT.out] at this, HB.out⟩
/-- While the reference packs: the bytes so far. -/
structure PqR (w0 : World) (B g s : Nat) (L : List UInt8) (w : World) : Prop where
  row : OwnB w B (some ⟨g, 0, none⟩) s s L
  below : Below B w0 w
section
variable {w0 w : World} {B g s : Nat} {L : List UInt8}
theorem PqR.own (h : PqR w0 B g s L w) : OwnF tU8 5 (fun _ => False) w B (some ⟨g, 0, none⟩) s s L := h.row.ownF (by simp)
theorem PqR.store (h : PqR w0 B g s L w) (j : Nat) (x : UInt8) : PqR w0 B g s (L.set j x) (w.setCell ⟨g, j, none⟩ (.int .u8 (x.toNat : Int))) :=
  ⟨own_u8 ⟨_, h.own.set1 oneU8 j x trivial⟩, bsetc h.below (h.own.base1 oneU8).1 _⟩
theorem PqR.drewN (h : PqR w0 B g s L w) (k : Nat) : PqR w0 B g s L (w.drewN k) := ⟨own_u8 ⟨_, h.own.drewN k⟩, bdrewN h.below k⟩
theorem PqR.drew (h : PqR w0 B g s L w) : PqR w0 B g s L w.drew := ⟨own_u8 ⟨_, h.own.drew⟩, h.below.drew⟩
theorem PqR.byte (h : PqR w0 B g s L w) {j : Nat} (hj : j < L.length) : w.cell? ⟨g, j, none⟩ = some (.int .u8 ((L[j].toNat : Nat) : Int)) := h.own.cell1 oneU8 hj
end
set_option maxRecDepth 100000 in
set_option maxHeartbeats 4000000 in
theorem rpack_any (F : Nat → Prop) (A : Option Addr) (n c : Nat) (l : List Nat) (w : World) (h : Sl tU64 F w A n c l) (hn : n ≤ 4096) (k : Nat) (hk : k ≤ 64) (hx : ∀ x ∈ l, x < 2 ^ k) :
    Calls Tryz.prog 259 #[.slice A n c, .int .i64 (k : Int)] w (PackPost k l w) := by
  have HH := Lib.hid h; have HX := Lib.hid hx
  have HL := Lib.hid h.len
  obtain ⟨s, hs⟩ : ∃ s, s = packSize n k := ⟨_, rfl⟩
  have hmk : n * k ≤ 4096 * 64 := Nat.mul_le_mul hn hk
  have hs6 : s ≤ 40000 := by rw [hs]; unfold packSize; omega
  have hs8 : n * k ≤ 8 * s := by rw [hs]; unfold packSize; omega
  have HS := Lib.hid hs; have HS8 := Lib.hid hs8
  have hmk2 := run_mkB s (by omega)
  have z2 : ¬ (k : Int) < 0 := by omega
  have z3 : ¬ (k : Int) > 64 := by omega
  have z3' : ¬ (64 : Int) < k := by omega
  have z4 : ¬ (n : Int) > 4096 := by omega
  have z4' : ¬ (4096 : Int) < n := by omega
  clear h hx hmk hs
  go_enter Tryz.func259, Tryz.ntmps259
  go_upto_region 6 with (first
    | (go_at_call 304; refine (r3size_any n k hn hk _).mono ?_; rintro e w1 ⟨rfl, rfl⟩; rw [← HS.out])
    | fail)
  obtain ⟨g, hg⟩ : ∃ g, g = w.heap.size := ⟨_, rfl⟩
  have hpq : PqR w w.heap.size g s (be s (0 * 2 ^ (8 * s - 0))) (w.alloc (.cells (madeCells #[.int .u8 0] s) 5)) := by
    refine ⟨?_, (Below.refl _ _).alloc (Nat.le_refl _) _⟩
    rw [hg, Nat.zero_mul, be_zero]
    exact own_mkB s (by omega) w w.heap.size (Nat.le_refl _)
  have HP0 := Lib.hid hpq
  rw [← hg]
  have HG := Lib.hid hg
  clear hpq hg
  go_wp2_with fail
  go_loopw [7, 8] (fun tv iv wr => ∃ i : Nat, i ≤ n ∧ iv = .int .i64 (i : Int) ∧ tv = .int .i64 ((i * k : Nat) : Int) ∧ PqR w w.heap.size g s (be s (catN k (l.take i) * 2 ^ (8 * s - i * k))) wr) (fun _ iv _ => n - (intOf iv).toNat)
  case atStart => exact ⟨0, Nat.zero_le _, rfl, by rw [Nat.zero_mul]; rfl, by rw [Nat.zero_mul]; exact HP0.out⟩
  case round =>
    obtain ⟨i, hi, rfl, rfl, hp⟩ := hrel
    have HP := Lib.hid hp
    clear hp
    by_cases hlt : i < n
    · have hil : i < l.length := by rw [← HL.out]; exact hlt
      obtain ⟨x, hx⟩ : ∃ x, x = l[i] := ⟨_, rfl⟩
      obtain ⟨b, o, u, rfl, hbF, hbl, hr, hc⟩ := HH.out.at1 hil rfl
      have hxk := HX.out _ (List.getElem_mem hil)
      rw [← hx] at hr hxk
      obtain ⟨hr, hx64⟩ := hr
      injection hr with hr; subst hr
      have HXK := Lib.hid hxk; have HX64 := Lib.hid hx64; have HCW := Lib.hid hc
      clear hc
      have hc := kcell HP.out.below HCW.out
      have HTK := Lib.hid (show catN k (l.take (i + 1)) = catN k (l.take i) * 2 ^ k + x by rw [List.take_succ_eq_append_getElem hil, catN_snoc, ← hx])
      have hik : (i + 1) * k ≤ n * k := Nat.mul_le_mul_right k hlt
      rw [Nat.add_mul, Nat.one_mul] at hik
      obtain ⟨q, hq⟩ : ∃ q, q = i * k := ⟨_, rfl⟩
      rw [← hq] at hik HP ⊢
      have hq8 : q + k ≤ 8 * s := by omega
      have HQ := Lib.hid hq
      have hi1 : (0 : Int) ≤ (i : Int) := by omega
      have hi2 : (i : Int) < (n : Int) := by omega
      have hshr : k < 64 → (x : Int) / 2 ^ k = 0 := fun _ => by
        rw [show (x : Int) / 2 ^ k = ((x / 2 ^ k : Nat) : Int) by simp, Nat.div_eq_of_lt hxk]; rfl
      have HSHR := Lib.hid hshr
      clear hx hik hxk hx64 hq hshr
      go_upto_region 10 with fail
      go_cut [40] from 30 to 41 (fun bv wx => bv = .bool false ∧ wx = wr)
      case first =>
        by_cases hk64 : k < 64
        · have y1 : (k : Int) < 64 := by omega
          have y2 := HSHR.out hk64
          go_wp2_with fail
          go_meet
          exact ⟨rfl, rfl⟩
        · have y1 : ¬ (k : Int) < 64 := by omega
          go_wp2_with fail
          go_meet
          exact ⟨rfl, rfl⟩
      case rest =>
        obtain ⟨rfl, rfl⟩ := hcut
        refine ‹∀ (a : Act) (w_1 : World), Code.wp _ _ _ a w_1 → _› _ _ ?_
        go_wp2_with fail
        go_loopw [7, 9] (fun tv zv wr => ∃ (j : Nat) (z : Int), j ≤ k ∧ z = (j : Int) - 1 ∧ zv = .int .i64 z ∧ tv = .int .i64 ((q + (k - j) : Nat) : Int) ∧ PqR w w.heap.size g s (be s ((catN k (l.take i) * 2 ^ (k - j) + x / 2 ^ j) * 2 ^ (8 * s - (q + (k - j))))) wr) (fun _ zv _ => (intOf zv + 1).toNat)
        case atStart =>
          refine ⟨k, (k : Int) - 1, Nat.le_refl _, rfl, by first | rfl | go_num, by rw [Nat.sub_self, Nat.add_zero], ?_⟩
          rw [Nat.sub_self, Nat.add_zero, Nat.pow_zero, Nat.mul_one, Nat.div_eq_of_lt HXK.out, Nat.add_zero]
          exact HP.out
        case round =>
          obtain ⟨j, z, hj, hz, rfl, rfl, hp2⟩ := hrel
          have HP2 := Lib.hid hp2
          clear hp2 hc
          have hc := kcell HP2.out.below HCW.out
          cases j with
          | zero =>
            have z1 : ¬ 0 ≤ z := by omega
            have z9 : ¬ z ≥ 0 := z1
            clear hz
            go_wp2_with fail
            go_roundw
            case rel =>
              have h1 := HP2.out
              rw [Nat.sub_zero, Nat.pow_zero, Nat.div_one, ← HTK.out, show q + k = (i + 1) * k by rw [HQ.out, Nat.add_mul, Nat.one_mul]] at h1
              exact ⟨i + 1, by omega, by go_num, by rw [show (i + 1) * k = q + (k - 0) by rw [HQ.out, Nat.add_mul, Nat.one_mul, Nat.sub_zero]], h1⟩
            case measure => simp [intOf]; omega
          | succ m =>
            obtain rfl : z = (m : Int) := by omega
            have z0 : (0 : Int) ≤ (m : Int) := by omega
            have hm64 : m < 64 := by omega
            obtain ⟨a, ha⟩ : ∃ a, a = q + (k - (m + 1)) := ⟨_, rfl⟩
            have hst := chunk_step (catN k (l.take i)) x (k := k) (left := m + 1) (m := 1) (rest := m) hj (by omega) (by omega)
            obtain ⟨V, hV⟩ : ∃ V, V = catN k (l.take i) * 2 ^ (k - (m + 1)) + x / 2 ^ (m + 1) := ⟨_, rfl⟩
            obtain ⟨c, hc1⟩ : ∃ c, c = x / 2 ^ m % 2 := ⟨_, rfl⟩
            have hand : bits BinOp.and IntKind.u64 ((x : Int) / 2 ^ m) 1 = (c : Int) := by
              rw [show (x : Int) / 2 ^ m = ((x / 2 ^ m : Nat) : Int) by simp, hc1]
              exact u64_and1 _ (Nat.lt_of_le_of_lt (Nat.div_le_self _ _) HX64.out)
            rw [← hV, show (2 : Nat) ^ 1 = 2 from rfl, ← hc1] at hst
            rw [← hV, ← ha] at HP2
            rw [← ha]
            have ha2 : q + (k - m) = a + 1 := by omega
            have ha8 : a < 8 * s := by omega
            have hc2 : c < 2 := by rw [hc1]; omega
            have HST := Lib.hid hst; have HA := Lib.hid ha2; have HA8 := Lib.hid ha8
            have ha9 : a ≤ 400000 := by omega
            clear ha hV hc1 hst ha2 hz
            by_cases hc0 : c = 0
            · subst hc0
              have HR := Lib.hid (show be s (V * 2 ^ (8 * s - a)) = be s ((V * 2 + 0) * 2 ^ (8 * s - (a + 1))) by
                rw [Nat.add_zero, Nat.mul_assoc, show 8 * s - a = 8 * s - (a + 1) + 1 by omega, Nat.pow_succ, Nat.mul_comm 2])
              rw [HR.out] at HP2
              go_wp2_with fail
              go_roundw
              case rel => exact ⟨m, (m : Int) - 1, by omega, rfl, by first | rfl | go_num, by rw [HA.out]; go_num, by rw [HA.out, ← HST.out]; exact HP2.out⟩
              case measure => simp [intOf]
            · obtain rfl : c = 1 := by omega
              obtain ⟨e, he⟩ : ∃ e, e = a % 8 := ⟨_, rfl⟩
              obtain ⟨y, hy⟩ : ∃ y, y = a / 8 := ⟨_, rfl⟩
              have f1 : (a : Int) % 8 = (e : Int) := by omega
              have f2 : (a : Int) / 8 = (y : Int) := by omega
              have hys : y < s := by omega
              have he8 : e < 8 := by omega
              obtain ⟨d, hd⟩ : ∃ d, d = 2 ^ (7 - e) := ⟨_, rfl⟩
              have f3 : (128 : Int) / 2 ^ e = (d : Int) := by
                rw [hd]
                obtain rfl | rfl | rfl | rfl | rfl | rfl | rfl | rfl : e = 0 ∨ e = 1 ∨ e = 2 ∨ e = 3 ∨ e = 4 ∨ e = 5 ∨ e = 6 ∨ e = 7 := by omega
                all_goals decide
              obtain ⟨b8, hb⟩ : ∃ b8, b8 = V * 2 ^ (8 * s - a) / 256 ^ (s - 1 - y) % 256 := ⟨_, rfl⟩
              have hb8 : b8 < 256 := by rw [hb]; exact Nat.mod_lt _ (by decide)
              have hbf : b8 % 2 ^ (8 - e) = 0 := by rw [hb, hy, he]; exact byte_free (V := V) (by omega)
              have hd2 : d < 2 ^ (8 - e) := by rw [hd]; exact Nat.pow_lt_pow_right (by decide) (by omega)
              have hlt8 := room_lt hb8 hbf (by omega) hd2
              obtain ⟨v, hv⟩ : ∃ v, v = UInt8.ofNat (b8 + d) := ⟨_, rfl⟩
              have f4 : (b8 : Int) + (d : Int) = ((v.toNat : Nat) : Int) := by rw [hv, UInt8.toNat_ofNat']; omega
              have hlen : y < (be s (V * 2 ^ (8 * s - a))).length := by rw [be_len]; exact hys
              have g0 : wr.cell? ⟨g, y, none⟩ = some (.int .u8 (b8 : Int)) := by
                rw [HP2.out.byte hlen, hb, be_byte]
              have g1 : wr.frozen? ⟨g, y, none⟩ = false := HP2.out.own.free1 oneU8 y
              have HFIN := Lib.hid (show (be s (V * 2 ^ (8 * s - a))).set y v = be s ((V * 2 + 1) * 2 ^ (8 * s - (a + 1))) by
                have h1 := put_in (V := V) (c := 1) (n := 1) (s := s) (at_ := a) ha8 (by omega) (by decide)
                rw [Nat.one_mul, show 8 - a % 8 - 1 = 7 - e by omega, ← hd, ← hy, ← hb, ← hv] at h1
                exact h1)
              have i1 : (0 : Int) ≤ (y : Int) := by omega
              have i2 : (y : Int) < (s : Int) := by omega
              clear he hy hd hb hbf hd2 hv hlen ha8 hc0
              go_upto_region 16 with fail
              have hpn := (HP2.out.store y v).drew
              rw [HFIN.out] at hpn
              have HPN := Lib.hid hpn
              clear hpn
              go_region
              go_wp2_with fail
              go_roundw
              case rel => exact ⟨m, (m : Int) - 1, by omega, rfl, by first | rfl | go_num, by rw [HA.out]; go_num, by rw [HA.out, ← HST.out]; exact HPN.out⟩
              case measure => simp [intOf]
    · obtain rfl : i = n := by omega
      have hfin : pack k l = be s (catN k (l.take i) * 2 ^ (8 * s - i * k)) := by
        unfold pack
        rw [← HL.out, ← HS.out, List.take_of_length_le (by rw [← HL.out]; exact Nat.le_refl _)]
      have HFIN := Lib.hid hfin
      clear hfin
      go_wp2_with fail
      go_ret2
      exact ⟨_, s, s, rfl, by rw [HFIN.out]; exact HP.out.row, HP.out.below⟩
end Go.Proofs.YtpmglcachffojaaGreatDoor
namespace Go.Proofs.YtpmglcachffojaaGreatDoor
open Go Go.RowKit

theorem close_int {k : Nat} : wClose (k : Int) = ((closeN k : Nat) : Int) := by
  unfold closeN
  have := wClose_range (k : Int)
  omega
set_option maxRecDepth 100000 in
set_option maxHeartbeats 1000000 in
theorem r8put_any (F : Nat → Prop) (A : Option Addr) (n c : Nat) (l : List Int) (w : World) (h : Sl tI64 F w A n c l) (hn1 : 1 ≤ n) (hn : n ≤ 512) (sg : Bool) (hl : NumOk sg l) :
    Calls Tryz.prog 217 #[.slice A n c, .bool sg] w (RunPost (some (dirB sg l)) w) := by
  have HH := Lib.hid h
  have HK := Lib.hid hl
  have hln := h.len
  obtain ⟨us, hus⟩ : ∃ us, us = l.map (uOf sg) := ⟨_, rfl⟩
  have hu : ∀ u ∈ us, U64 u := by rw [hus]; exact hl.u
  have hlu : us.length = n := by rw [hus, List.length_map]; exact hln.symm
  obtain ⟨k, hk⟩ : ∃ k, k = most us := ⟨_, rfl⟩
  have hk64 : k ≤ 64 := by rw [hk]; exact most_le64 us hu
  obtain ⟨q, hq⟩ : ∃ q, q = closeN k := ⟨_, rfl⟩
  have hq64 : q ≤ 64 := by rw [hq]; exact closeN_le k
  have hx : ∀ x ∈ us, x < 2 ^ q := fun x hx => by rw [hq, hk]; exact lt_most hu hx
  obtain ⟨hc1, hc2⟩ := codeN_eq hk64
  rw [← hq] at hc1 hc2
  obtain ⟨d, hd⟩ : ∃ d, d = codeN q := ⟨_, rfl⟩
  rw [← hd] at hc1 hc2
  have HB := Lib.hid (show dirB sg l = headB 1 d n ++ pack q us by rw [dirB, ← hus, ← hk, ← hq, ← hd, ← hln])
  have HX := Lib.hid hx; have HQ := Lib.hid (show wClose (k : Int) = (q : Int) by rw [hq]; exact close_int)
  have HKK := Lib.hid hk; have HC := Lib.hid hc1; have HUS := Lib.hid hus; have HLU := Lib.hid hlu
  have z1 : ¬ (n : Int) < 1 := by omega
  have z2 : ¬ (n : Int) > 512 := by omega
  have z2' : ¬ (512 : Int) < n := by omega
  have hkz : (k : Int) ≤ 64 := by omega
  clear h hl hu hx hq hk hc1 hus hd hln hlu
  go_enter Tryz.func217, Tryz.ntmps217
  go_wp2_with (first
    | (go_at_call 214; refine (r8plain_any F A n c l _ HH.out (by omega) sg HK.out).mono ?_; rintro e w1 ⟨A1, n1, c1, rfl, ho1, hb1⟩; rw [← HUS.out] at ho1; obtain rfl : n1 = n := (by rw [ho1.len, HLU.out]); have HO1 := Lib.hid ho1; have HB1 := Lib.hid hb1; have HS1 := Lib.hid ho1.sl; clear ho1 hb1)
    | (go_at_call 258; refine (rmost_any _ A1 n1 c1 us _ HS1.out).mono ?_; rintro e w2 ⟨rfl, rfl⟩; rw [← HKK.out])
    | (go_at_call 257; refine (rclose_any (k : Int) hkz _).mono ?_; rintro e w2 ⟨rfl, rfl⟩; rw [HQ.out])
    | (go_at_call 259; refine (rpack_any _ A1 n1 c1 us _ HS1.out (by omega) q hq64 HX.out).mono ?_; rintro e w3 ⟨A3, s3, c3, rfl, ho3, hb3⟩; have hs3 : s3 ≤ 4096 := (by rw [ho3.len, pack_len, HLU.out]; have := packSize_le n1 q hq64; omega); have HO3 := Lib.hid ho3; have HB3 := Lib.hid hb3; clear ho3 hb3)
    | (go_at_call 261; refine (rcode_any (q : Int) _).mono ?_; rintro e w4 ⟨rfl, rfl⟩; rw [HC.out])
    | (go_at_call 260; refine (rhead_any 1 d n1 (by omega) hc2 hn1 hn _).mono ?_; rintro e w5 ⟨A5, n5, c5, rfl, ho5, hb5⟩; obtain rfl : n5 = 2 := ho5.len; have HO5 := Lib.hid ho5; have HB5 := Lib.hid hb5; clear ho5 hb5)
    | (at_builtin; refine apb w5 w3 rfl (.tmp 42) (.tmp 43) rfl w3.heap.size A5 2 c5 _ rfl HO5.out HB5.out (Nat.le_refl _) _ A3 s3 c3 (pack q us) rfl (HO3.out.bs.below HB5.out (Nat.le_refl _)) (by omega) ?_; intro A6 c6 w6 h6 hb6 _)
    | fail)
  go_ret2
  have b3 := HB1.out.trans (HB3.out.mono HB1.out.size)
  refine ⟨b3.trans (hb6.mono b3.size), A6, _, c6, rfl, ?_⟩
  rw [HB.out]
  exact h6.down b3.size
end Go.Proofs.YtpmglcachffojaaGreatDoor
