/- The reference 10: numbers above the least one; a base as bytes. The reference 10: gaps and patches, two lists side by side. Printed by gen_q11.py. The reference 11: the shortest run; where it ends. -/
import Derived.Test.YtpmglcachffojaaGreatDoorPk23
import Derived.Test.YtpmglcachffojaaGreatDoorPk11
import Derived.Test.YtpmglcachffojaaGreatDoorPk20
import Derived.Test.YtpmglcachffojaaGreatDoorPk22
import Derived.Test.YtpmglcachffojaaGreatDoorPk14
import Derived.Deep.QuietTactic
import Derived.BigQuiet
namespace Go.Proofs.YtpmglcachffojaaGreatDoor
open Go Go.RowKit

def AbovePost (l : List Int) (w : World) (e : Ending) (w' : World) : Prop := Below w.heap.size w w' ∧
  if (upN l).all (· < 9223372036854775808) then ∃ A2 c2, e = .returned (.tuple #[.int .i64 (leastI l), .slice A2 l.length c2, .bool (decide (leastI l ≠ -9223372036854775808))]) ∧ OwnU w' w.heap.size A2 l.length c2 (upN l)
  else e = .returned (.tuple #[.int .i64 0, .slice none 0 0, .bool false])
theorem foldmin_succ (l : List Int) (k : Nat) (h : k < l.length) (a : Int) : (l.take (k + 1)).foldl min a = min ((l.take k).foldl min a) l[k] := by
  rw [List.take_succ_eq_append_getElem h, List.foldl_append]; rfl
set_option maxRecDepth 100000 in
set_option maxHeartbeats 4000000 in
theorem rabove_any (F : Nat → Prop) (A : Option Addr) (n c : Nat) (l : List Int) (w : World) (h : Sl tI64 F w A n c l) (hl : l ≠ []) (hn : n ≤ 4096) :
    Calls Tryz.prog 264 #[.slice A n c] w (AbovePost l w) := by
  have HL := Lib.hid h.len
  have hpos := List.length_pos_iff.2 hl
  have hmem := leastI_mem hl
  obtain ⟨b, o, rfl, hbl, hcell⟩ := sl_cells h hl
  obtain ⟨y, hy⟩ : ∃ y, y = l[0] := ⟨_, rfl⟩
  have hc0 := (hcell 0 hpos).1
  rw [← hy, Nat.add_zero] at hc0
  have HY := Lib.hid (show l.headD 0 = y by rw [hy]; match l, hpos with | _ :: _, _ => rfl)
  have HC0 := Lib.hid hc0; have HCE := Lib.hid hcell; have HPO := Lib.hid hpos; have HMEM := Lib.hid hmem
  have HUL := Lib.hid (upN_len l)
  have hn0 : (0 : Int) < (n : Int) := by have := HL.out; omega
  clear h hy hcell hl hmem hpos
  go_enter Tryz.func264, Tryz.ntmps264
  go_wp2_with fail
  go_loopw [5, 6] (fun bv iv wr => ∃ (k : Nat) (m : Int), k ≤ n ∧ iv = .int .i64 (k : Int) ∧ bv = .int .i64 m ∧ Hid (m = (l.take k).foldl min y) ∧ Below w.heap.size w wr) (fun _ iv _ => n - (intOf iv).toNat)
  case atStart => exact ⟨0, y, Nat.zero_le _, rfl, rfl, Lib.hid rfl, Below.refl _ _⟩
  case round =>
    obtain ⟨k, m, hk, rfl, rfl, HE, hb⟩ := hrel
    have HB := Lib.hid hb
    have hk0 : (0 : Int) ≤ (k : Int) := by omega
    clear hb
    by_cases hlt : k < n
    · have q1 : (k : Int) < (n : Int) := by omega
      have hkl : k < l.length := by rw [← HL.out]; exact hlt
      obtain ⟨x, hx⟩ : ∃ x, x = l[k] := ⟨_, rfl⟩
      have hc := (HCE.out k hkl).1
      rw [← hx] at hc
      have HE2 : Hid (min m x = (l.take (k + 1)).foldl min y) := Lib.hid (by rw [foldmin_succ l k hkl, ← HE.out, hx])
      have c1 := kcell HB.out hc
      clear hc hx
      go_wp2_with fail
      go_roundw
      case rel => exact ⟨k + 1, min m x, by omega, by go_num, rfl, HE2, HB.out⟩
      case measure => simp [intOf]; omega
    · obtain rfl : k = n := by omega
      have hm : m = leastI l := by rw [HE.out, HL.out, List.take_length, leastI, HY.out]
      have HM := Lib.hid hm
      have hb2 : Below w.heap.size w (wr.alloc (.cells #[] 112)) := HB.out.alloc HB.out.size _
      have HB2 := Lib.hid hb2
      have q1 : ¬ (k : Int) < (k : Int) := by omega
      have ho2 : OwnU (wr.alloc (.cells #[] 112)) w.heap.size (some ⟨wr.heap.size, 0, none⟩) 0 0 [] := OwnF.empty _ _ _ wr _ HB.out.size (fun _ hb => hb.elim)
      have HO2 := Lib.hid ho2
      clear hm hb2 ho2
      go_wp2_with fail
      go_loopw [7, 8] (fun sv iv wq => ∃ (i : Nat) (A2 : Option Addr) (c2 : Nat), i ≤ k ∧ iv = .int .i64 (i : Int) ∧ sv = .slice A2 i c2 ∧ OwnU wq w.heap.size A2 i c2 ((upN l).take i) ∧ Below w.heap.size w wq ∧ Hid (∀ j (_ : j < (upN l).length), j < i → (upN l)[j] < 9223372036854775808)) (fun _ iv _ => k - (intOf iv).toNat)
      case atStart => exact ⟨0, _, 0, Nat.zero_le _, rfl, rfl, HO2.out, HB2.out, Lib.hid (fun j _ hj => by omega)⟩
      case round =>
        obtain ⟨i, A2, c2, hi, rfl, rfl, ho, hb, HJ⟩ := hrel
        have HO := Lib.hid ho; have HB3 := Lib.hid hb
        clear ho hb
        by_cases hlt2 : i < k
        · have hil : i < l.length := by rw [← HL.out]; exact hlt2
          have hiu : i < (upN l).length := by rw [HUL.out]; exact hil
          obtain ⟨x, hx⟩ : ∃ x, x = l[i] := ⟨_, rfl⟩
          have hcx := HCE.out i hil
          rw [← hx] at hcx
          have c1 := kcell HB3.out hcx.1
          have i0 : (0 : Int) ≤ (i : Int) := by omega
          have i1 : (i : Int) < (k : Int) := by omega
          have hmm := HMEM.out
          rw [← HM.out] at hmm
          have hxm : m ≤ x := hmm.2 x (by rw [hx]; exact List.getElem_mem _)
          obtain ⟨jm, hjm, hjm2⟩ := List.getElem_of_mem hmm.1
          have hmr := HCE.out jm hjm
          rw [hjm2] at hmr
          obtain ⟨u, hu⟩ : ∃ u, u = gapN m x := ⟨_, rfl⟩
          have hut : (upN l)[i]'hiu = u := by
            have e1 : (upN l)[i]'hiu = (l[i] - leastI l).toNat := by simp [upN]
            rw [e1, hu, ← HM.out, ← hx]; unfold gapN; omega
          have HT := Lib.hid (show (upN l).take (i + 1) = (upN l).take i ++ [u] by rw [List.take_succ_eq_append_getElem hiu, hut])
          have HDV := r9diff_any m x hmr.2.1 hmr.2.2 hcx.2.1 hcx.2.2
          have hnl : decide (x < m) = false := decide_eq_false (by omega)
          by_cases hok : u < 9223372036854775808
          · have HU := Lib.hid (show U64 u by unfold U64; omega)
            have HD : Hid (∀ w, Calls Tryz.prog 262 #[.int .i64 m, .int .i64 x] w fun e w' => e = .returned (.tuple #[.int .u64 (u : Int), .bool false, .bool true]) ∧ w = w') := Lib.hid (fun w => by
              refine (HDV w).mono fun e w' h => ⟨?_, h.2⟩
              rw [h.1]
              unfold diffV
              rw [← hu, if_pos hok, hnl])
            have HJ2 : Hid (∀ j (_ : j < (upN l).length), j < i + 1 → (upN l)[j] < 9223372036854775808) := Lib.hid (fun j hj hji => by
              by_cases hjp : j = i
              · subst hjp; rw [hut]; exact hok
              · exact HJ.out j hj (by omega))
            clear HDV hcx hu hut hx hnl hmm hxm hjm hjm2 hmr hok
            go_wp2_with (first
              | (go_at_call 262; refine (HD.out _).mono ?_; rintro e w3 ⟨rfl, rfl⟩)
              | (at_builtin; refine apu1 _ w rfl (.tmp 46) (.tmp 48) rfl w.heap.size A2 i c2 _ rfl HO.out HB3.out (Nat.le_refl _) _ rfl u HU.out rfl (by omega) ?_; intro A3 c3 w3 h3 hb3)
              | fail)
            go_roundw
            case rel => exact ⟨i + 1, A3, c3, by omega, by go_num, rfl, by rw [HT.out]; exact h3, hb3, HJ2⟩
            case measure => simp [intOf]; omega
          · have HD : Hid (∀ w, Calls Tryz.prog 262 #[.int .i64 m, .int .i64 x] w fun e w' => e = .returned (.tuple #[.int .u64 0, .bool false, .bool false]) ∧ w = w') := Lib.hid (fun w => by
              refine (HDV w).mono fun e w' h => ⟨?_, h.2⟩
              rw [h.1]
              unfold diffV
              rw [← hu, if_neg hok])
            have HBAD : Hid (¬ (upN l).all (· < 9223372036854775808) = true) := Lib.hid (fun hall => by
              have := List.all_eq_true.1 hall u (by rw [← hut]; exact List.getElem_mem _)
              exact hok (by simpa using this))
            clear HDV hcx hu hut hx hnl hmm hxm hjm hjm2 hmr hok
            go_wp2_with (first
              | (go_at_call 262; refine (HD.out _).mono ?_; rintro e w3 ⟨rfl, rfl⟩)
              | fail)
            go_ret3
            exact ⟨HB3.out, by rw [if_neg HBAD.out]; rfl⟩
        · obtain rfl : i = k := by omega
          have hall : (upN l).take i = upN l := List.take_of_length_le (by rw [HUL.out, ← HL.out]; exact Nat.le_refl _)
          rw [hall] at HO
          have HGOOD : Hid ((upN l).all (· < 9223372036854775808) = true) := Lib.hid (List.all_eq_true.2 fun u hu => by
            obtain ⟨j, hj, rfl⟩ := List.getElem_of_mem hu
            exact decide_eq_true (HJ.out j hj (by have := HUL.out; have := HL.out; omega)))
          clear hall
          by_cases hz : m = -9223372036854775808
          · have hd : decide (m ≠ -9223372036854775808) = false := by simp [hz]
            have HD := Lib.hid hd
            have hb1 : (m == -9223372036854775808) = true := beq_yes hz
            clear hd
            go_wp2_with fail
            go_ret3
            exact ⟨HB3.out, by rw [if_pos HGOOD.out, ← HM.out, HD.out, ← HL.out]; exact ⟨A2, c2, rfl, HO.out⟩⟩
          · have hd : decide (m ≠ -9223372036854775808) = (m != -9223372036854775808) := by simp [bne, beq_no hz, hz]
            have HD := Lib.hid hd
            clear hd
            go_wp2_with fail
            go_ret3
            exact ⟨HB3.out, by rw [if_pos HGOOD.out, ← HM.out, HD.out, ← HL.out]; exact ⟨A2, c2, rfl, HO.out⟩⟩
set_option maxRecDepth 100000 in
set_option maxHeartbeats 2000000 in
theorem rbased_any (b : Int) (b0 : -9223372036854775808 < b) (b1 : b ≤ 9223372036854775807) (w : World) :
    Calls Tryz.prog 266 #[.int .i64 b] w (Own1 w (baseB b)) := by
  obtain ⟨u, hu⟩ : ∃ u, u = b.natAbs := ⟨_, rfl⟩
  have hug : gapN 0 b = u := by rw [hu]; unfold gapN; rw [Int.sub_zero]
  have hul : u < 9223372036854775808 := by omega
  have hu64 : U64 u := Nat.lt_trans hul (by decide)
  obtain ⟨fl, hfl⟩ : ∃ fl, fl = decide (b < 0) := ⟨_, rfl⟩
  have HV := Lib.hid (show diffV 0 b = #[.int .u64 (u : Int), .bool fl, .bool true] by unfold diffV; rw [hug, if_pos hul, ← hfl])
  obtain ⟨q, hq⟩ : ∃ q, q = bl u / 8 := ⟨_, rfl⟩
  obtain ⟨bb, hbb⟩ : ∃ bb, bb = bl u := ⟨_, rfl⟩
  have hbb64 : bb ≤ 64 := by rw [hbb]; exact bl_le64 hu64
  have hq8 : q ≤ 8 := by omega
  have HQ := Lib.hid (show (bb : Int) / 8 = (q : Int) by omega)
  have htop : u / 256 ^ q < 128 := by
    have h1 := bl_lt hu64
    rw [byte_pow]
    refine Nat.div_lt_of_lt_mul (Nat.lt_of_lt_of_le h1 ?_)
    rw [show (128 : Nat) = 2 ^ 7 from rfl, ← Nat.pow_add]
    exact Nat.pow_le_pow_right (by decide) (by omega)
  have HTOP := Lib.hid htop
  have HB : Hid (baseB b = be (q + 1) (u + if fl then 128 * 256 ^ q else 0)) := Lib.hid (by
    unfold baseB
    rw [← hu, ← hq, hfl]
    by_cases h : b < 0
    · rw [if_pos h, decide_eq_true h, if_pos rfl]
    · rw [if_neg h, decide_eq_false h, if_neg (by simp)])
  have HBB := Lib.hid hbb; have HU64 := Lib.hid hu64
  have hb0' : -9223372036854775808 ≤ b := by omega
  have HO1 := Lib.hid (OwnB.new0 w w.heap.size (Nat.le_refl _))
  have HB1 : Hid (Below w.heap.size w (w.alloc (.cells #[] 5))) := Lib.hid ((Below.refl _ _).alloc (Nat.le_refl _) _)
  clear hu hug hul hfl hq htop hbb hu64
  go_enter Tryz.func266, Tryz.ntmps266
  go_wp2_with (first
    | (go_at_call 262; refine (r9diff_any 0 b (by decide) (by decide) hb0' b1 _).mono ?_; rintro e w1 ⟨rfl, rfl⟩; rw [HV.out])
    | (go_at_call 256; refine (rbits_any u HU64.out _).mono ?_; rintro e w2 ⟨rfl, rfl⟩; rw [← HBB.out])
    | fail)
  go_loopw [7, 8] (fun av iv wr => ∃ (j : Nat) (z : Int) (A2 : Option Addr) (c2 : Nat), j ≤ q + 1 ∧ z = (j : Int) - 1 ∧ iv = .int .i64 z ∧ av = .slice A2 (q + 1 - j) c2 ∧ OwnB wr w.heap.size A2 (q + 1 - j) c2 ((be (q + 1) u).take (q + 1 - j)) ∧ Below w.heap.size w wr)
    (fun _ iv _ => (intOf iv + 1).toNat)
  case atStart => exact ⟨q + 1, (q : Int), _, 0, Nat.le_refl _, by omega, by first | rfl | rw [HQ.out] | go_num, by rw [Nat.sub_self], by rw [Nat.sub_self, List.take_zero]; exact HO1.out, HB1.out⟩
  case round =>
    obtain ⟨j, z, A2, c2, hj, hz, rfl, rfl, ho, hb⟩ := hrel
    have HO := Lib.hid ho; have HB2 := Lib.hid hb
    clear ho hb
    cases j with
    | zero =>
      have z1 : ¬ 0 ≤ z := by omega
      have z2 : ¬ z ≥ 0 := z1
      clear hz
      have ho := HO.out
      rw [Nat.sub_zero, List.take_of_length_le (by rw [be_len]; exact Nat.le_refl _)] at ho
      have HO2 := Lib.hid ho
      obtain ⟨g, rfl⟩ := ho.own.some1 oneU8 (by intro h; have := congrArg List.length h; rw [be_len] at this; simp at this)
      clear ho HO
      cases fl with
      | false =>
        go_wp2_with fail
        go_ret
        exact ⟨_, _, c2, rfl, by rw [HB.out, if_neg (by simp), Nat.add_zero]; exact HO2.out, HB2.out⟩
      | true =>
        have hl0 : 0 < (be (q + 1) u).length := by rw [be_len]; omega
        obtain ⟨t, ht⟩ : ∃ t, t = u / 256 ^ q := ⟨_, rfl⟩
        have ht128 : t < 128 := by rw [ht]; exact HTOP.out
        have hg : ((be (q + 1) u)[0]'hl0).toNat = t := by rw [be_byte, show q + 1 - 1 - 0 = q by omega, ← ht, Nat.mod_eq_of_lt (by omega)]
        have g0 : wr.cell? ⟨g, 0, none⟩ = some (.int .u8 (t : Int)) := by rw [HO2.out.own.cell1 oneU8 hl0, hg]
        have g1 : wr.frozen? ⟨g, 0, none⟩ = false := HO2.out.own.free1 oneU8 0
        obtain ⟨y, hy⟩ : ∃ y : UInt8, y = UInt8.ofNat (t + 128) := ⟨_, rfl⟩
        have hor : (t : Int) + 128 = ((y.toNat : Nat) : Int) := by
          rw [hy, UInt8.toNat_ofNat', Nat.mod_eq_of_lt (by omega)]
          omega
        have HFIN := Lib.hid (show (be (q + 1) u).set 0 y = be (q + 1) (u + 128 * 256 ^ q) by
          have := be_set (q + 1) u 0 128 (by omega) (by rw [show q + 1 - 1 - 0 = q by omega, ← ht]; omega)
          rw [show q + 1 - 1 - 0 = q by omega, ← ht, Nat.mod_eq_of_lt (by omega)] at this
          rw [hy]; exact this)
        have HHOR := Lib.hid hor
        have hq0 : (0 : Int) < (q : Int) + 1 := by omega
        clear hg ht hy hl0 hor
        go_wp2_with fail
        rw [HHOR.out]
        go_ret
        have hr := HO2.out.own.set1 oneU8 0 y trivial
        refine ⟨_, _, c2, rfl, ?_, bsetc HB2.out (HO2.out.own.base1 oneU8).1 _⟩
        rw [HB.out, if_pos (by simp), ← HFIN.out]
        exact own_u8 ⟨_, hr⟩
    | succ i =>
      obtain rfl : z = (i : Int) := by omega
      have z0 : (0 : Int) ≤ (i : Int) := by omega
      clear hz
      obtain ⟨p, hp⟩ : ∃ p, q + 1 - (i + 1) = p := ⟨_, rfl⟩
      obtain ⟨y, hy⟩ : ∃ y : UInt8, y = UInt8.ofNat (u / 256 ^ i) := ⟨_, rfl⟩
      have hyn : ((y.toNat : Nat) : Int) = ((u / 2 ^ (8 * i) % 256 : Nat) : Int) := by rw [hy, UInt8.toNat_ofNat', byte_pow]
      have f1 : IntKind.u8.wrap ((u : Int) / 2 ^ (8 * i)) = ((y.toNat : Nat) : Int) := by
        rw [hyn, IntKind.wrap_u8, show (u : Int) / 2 ^ (8 * i) = ((u / 2 ^ (8 * i) : Nat) : Int) by simp]
        omega
      have f2 : (u : Int) / 2 ^ (8 * i) % 256 = ((y.toNat : Nat) : Int) := by
        rw [hyn, show (u : Int) / 2 ^ (8 * i) = ((u / 2 ^ (8 * i) : Nat) : Int) by simp]
        omega
      have HT := Lib.hid (show (be (q + 1) u).take (p + 1) = (be (q + 1) u).take p ++ [y] by rw [be_take (q + 1) u p (by omega), hy, show q + 1 - 1 - p = i by omega])
      rw [hp] at HO
      have HP := Lib.hid hp
      rw [hp]
      have hp8 : p ≤ 9 := by omega
      clear hp hy hyn
      go_wp2_with (first
        | (at_builtin; refine apb1 wr w rfl (.tmp 26) (.tmp 32) rfl w.heap.size A2 p c2 ((be (q + 1) u).take p) rfl HO.out HB2.out (Nat.le_refl _) _ rfl y rfl (by omega) ?_; intro A3 c3 w3 h3 hb3 _)
        | fail)
      go_roundw
      case rel => exact ⟨i, (i : Int) - 1, A3, c3, by omega, rfl, by first | rfl | go_num, by rw [show q + 1 - i = p + 1 by have := HP.out; omega], by rw [show q + 1 - i = p + 1 by have := HP.out; omega, HT.out]; exact h3, hb3⟩
      case measure => simp [intOf]
end Go.Proofs.YtpmglcachffojaaGreatDoor
namespace Go.Proofs.YtpmglcachffojaaGreatDoor
open Go Go.RowKit

/-- The two lists of pairs. -/
structure P2 (w0 : World) (col : Nat → Nat) (S : Nat) (A1 : Option Addr) (n1 c1 : Nat) (gs : List Int) (A2 : Option Addr) (n2 c2 : Nat) (ps : List Nat) (w : World) : Prop where
  a : Col tI64 3 col 0 w0.heap.size S w A1 n1 c1 gs
  b : Col tU64 112 col 1 w0.heap.size S w A2 n2 c2 ps
  below : Below w0.heap.size w0 w
  low : w0.heap.size ≤ S
  high : S ≤ w.heap.size
section
variable {w0 w w' : World} {col : Nat → Nat} {S : Nat} {A1 A2 A' : Option Addr} {n1 c1 n2 c2 c' : Nat} {gs : List Int} {ps : List Nat}
theorem P2.push1 {F : Nat → Prop} (h : P2 w0 col S A1 n1 c1 gs A2 n2 c2 ps w) (f2 : ∀ b, F b → b < S ∧ w0.heap.size ≤ b ∧ col b = 0) (f3 : ∀ b, A1.map (·.block) = some b → b < S ∧ col b = 0) (o : Obj) (x : Int)
    (ha : ApdL tI64 3 (fun b => (F b ∨ (fun _ => False) b) ∧ b < w.heap.size) w0 (w.alloc o) w' w0.heap.size A1 A' (n1 + 1) c' (gs ++ [x])) :
    P2 w0 (recolor col 0 S) w'.heap.size A' (n1 + 1) c' (gs ++ [x]) A2 n2 c2 ps w' := by
  have hg := ha.grown.size
  rw [World.size_alloc] at hg
  have hh := h.high
  have hlo := h.low
  exact ⟨Col.apd f2 f3 (fun _ hh => hh.elim) h.low (by rw [World.size_alloc]; omega) ha, Col.past (h.b.allocs o) (by decide) f3 ha.grown (by omega), ha.below, by omega, Nat.le_refl _⟩
theorem P2.push2 {F : Nat → Prop} (h : P2 w0 col S A1 n1 c1 gs A2 n2 c2 ps w) (f2 : ∀ b, F b → b < S ∧ w0.heap.size ≤ b ∧ col b = 1) (f3 : ∀ b, A2.map (·.block) = some b → b < S ∧ col b = 1) (o : Obj) (x : Nat)
    (ha : ApdL tU64 112 (fun b => (F b ∨ (fun _ => False) b) ∧ b < w.heap.size) w0 (w.alloc o) w' w0.heap.size A2 A' (n2 + 1) c' (ps ++ [x])) :
    P2 w0 (recolor col 1 S) w'.heap.size A1 n1 c1 gs A' (n2 + 1) c' (ps ++ [x]) w' := by
  have hg := ha.grown.size
  rw [World.size_alloc] at hg
  have hh := h.high
  have hlo := h.low
  exact ⟨Col.past (h.a.allocs o) (by decide) f3 ha.grown (by omega), Col.apd f2 f3 (fun _ hh => hh.elim) h.low (by rw [World.size_alloc]; omega) ha, ha.below, by omega, Nat.le_refl _⟩
end
def gapsOf (q : List (Nat × Nat)) : List Int := q.map fun x => (x.1 : Int)
def patsOf (q : List (Nat × Nat)) : List Nat := q.map (·.2)
theorem gapsOf_snoc (q : List (Nat × Nat)) (x : Nat × Nat) : gapsOf (q ++ [x]) = gapsOf q ++ [(x.1 : Int)] := by simp [gapsOf]
theorem patsOf_snoc (q : List (Nat × Nat)) (x : Nat × Nat) : patsOf (q ++ [x]) = patsOf q ++ [x.2] := by simp [patsOf]
set_option maxRecDepth 100000 in
set_option maxHeartbeats 4000000 in
theorem rpairs_any (F : Nat → Prop) (A : Option Addr) (n c : Nat) (us : List Nat) (w : World) (h : Sl tU64 F w A n c us) (hn : n ≤ 512) (k : Nat) (hk : k ≤ 63) :
    Calls Tryz.prog 265 #[.slice A n c, .int .i64 (k : Int)] w fun e w' => ∃ A1 c1 A2 c2 m, m = (pairsN k 0 0 us).length ∧ m ≤ 1024 ∧ e = .returned (.tuple #[.slice A1 m c1, .slice A2 m c2]) ∧
      Sl tI64 (fun b => w.heap.size ≤ b) w' A1 m c1 (gapsOf (pairsN k 0 0 us)) ∧ Sl tU64 (fun b => w.heap.size ≤ b) w' A2 m c2 (patsOf (pairsN k 0 0 us)) ∧ Below w.heap.size w w' := by
  have HL := Lib.hid h.len; have HH := Lib.hid h
  have hc1 := Col.empty tI64 3 (fun b => if b = w.heap.size then 0 else 1) 0 w.heap.size w (Nat.le_refl _) (if_pos rfl)
  have hc2 := Col.empty tU64 112 (fun b => if b = w.heap.size then 0 else 1) 1 w.heap.size (w.alloc (.cells #[] 3)) (by simp) (by rw [World.size_alloc]; exact if_neg (by omega))
  rw [World.size_alloc] at hc2
  have HP0 : Hid (P2 w _ (w.heap.size + 1 + 1) _ _ _ [] _ _ _ [] ((w.alloc (.cells #[] 3)).alloc (.cells #[] 112))) := Lib.hid ⟨(hc1.allocs (.cells #[] 112)).recol (S' := w.heap.size + 1 + 1) (fun _ _ => rfl) (by omega), hc2, ((Below.refl _ _).alloc (Nat.le_refl _) _).alloc (by simp) _, by omega, by simp⟩
  clear h hc1 hc2
  go_enter Tryz.func265, Tryz.ntmps265
  go_wp2_with fail
  go_loopw [6, 7, 8, 9] (fun av bv lv iv wr => ∃ (i : Nat) (A1 : Option Addr) (c1 : Nat) (A2 : Option Addr) (c2 m la : Nat) (ps : List (Nat × Nat)) (col : Nat → Nat) (S : Nat), i ≤ n ∧ iv = .int .i64 (i : Int) ∧ lv = .int .i64 (la : Int) ∧ av = .slice A1 m c1 ∧ bv = .slice A2 m c2 ∧
    P2 w col S A1 m c1 (gapsOf ps) A2 m c2 (patsOf ps) wr ∧ ps = pairsN k 0 0 (us.take i) ∧ la = lastN k 0 0 (us.take i) ∧ m ≤ i + la / 255) (fun _ _ _ iv _ => n - (intOf iv).toNat)
  case atStart => exact ⟨0, _, _, _, _, 0, 0, [], _, _, Nat.zero_le _, rfl, rfl, rfl, rfl, HP0.out, rfl, rfl, Nat.zero_le _⟩
  case round =>
    obtain ⟨i, A1, c1, A2, c2, m, la, ps, col, S, hi, rfl, rfl, rfl, rfl, hp, hps, hla, hm⟩ := hrel
    have HP := Lib.hid hp; have HPS := Lib.hid hps; have HLA := Lib.hid hla
    have HUL := HL
    clear hp hps hla
    by_cases hlt : i < n
    · have hil : i < us.length := by rw [← HL.out]; exact hlt
      obtain ⟨u, hu⟩ : ∃ u, u = us[i] := ⟨_, rfl⟩
      obtain ⟨b, o, uv, rfl, _, _, hrep, hcu⟩ := HH.out.at1 hil rfl
      have hu64 := hrep.2
      have hr : [uv] = [Value.int .u64 ((us[i] : Nat) : Int)] := hrep.1
      injection hr with hr; subst hr
      rw [← hu] at hu64 hcu
      clear hrep
      have cu := kcell HP.out.below hcu
      have HTK := Lib.hid (show us.take (i + 1) = us.take i ++ [u] by rw [List.take_succ_eq_append_getElem hil, hu])
      have i0 : (0 : Int) ≤ (i : Int) := by omega
      have i1 : (i : Int) < (n : Int) := by omega
      obtain ⟨p, hp⟩ : ∃ p, p = u / 2 ^ k := ⟨_, rfl⟩
      have zp : (u : Int) / 2 ^ k = (p : Int) := by rw [hp]; simp
      have hlen : (us.take i).length = i := by rw [List.length_take]; omega
      have hps2 := pairsN_snoc k (us.take i) 0 0 u
      have hla2 := lastN_snoc k (us.take i) 0 0 u
      rw [hlen, ← HTK.out, ← HPS.out, ← HLA.out, Nat.zero_add] at hps2
      rw [hlen, ← HTK.out, ← HLA.out, Nat.zero_add] at hla2
      have hlai : la ≤ i := by rw [HLA.out]; have := lastN_le k (us.take i) 0 0 (Nat.le_refl _); omega
      have hlai2 : i ≠ 0 → la < i := fun h => by
        have := lastN_lt k (us.take i) 0 0 (Nat.le_refl _) (fun e => by rw [e] at hlen; simp at hlen; omega)
        rw [HLA.out]; omega
      rw [← hp] at hla2
      unfold pairs1 at hps2
      rw [← hp] at hps2
      have HLAI2 := Lib.hid hlai2
      have hpu : U64 p := by
        have : (p : Int) ≤ (u : Int) := by rw [← zp]; exact Int.ediv_le_self _ (by omega)
        show p < 18446744073709551616; omega
      have HPU := Lib.hid hpu
      clear hp hlen hlai2 hcu hu hu64 hpu
      by_cases hp0 : p = 0
      · subst hp0
        rw [if_pos rfl, List.append_nil] at hps2
        rw [if_pos rfl] at hla2
        have HPS2 := Lib.hid hps2; have HLA2 := Lib.hid hla2
        clear hps2 hla2
        go_wp2_with fail
        go_roundw
        case rel => exact ⟨i + 1, A1, c1, A2, c2, m, la, ps, col, S, by omega, by go_num, rfl, rfl, rfl, HP.out, HPS2.out.symm, HLA2.out.symm, by omega⟩
        case measure => simp [intOf]; omega
      · rw [if_neg hp0] at hps2 hla2
        have zp0 : (0 : Int) < (p : Int) := by omega
        have zp1 : ¬ (p : Int) = 0 := by omega
        have zp2 : ((p : Int) == 0) = false := beq_no zp1
        have HPS2 := Lib.hid hps2; have HLA2 := Lib.hid hla2
        clear hps2 hla2 hp0
        go_wp2_with fail
        go_loopw [6, 7, 8] (fun av bv lv wq => ∃ (j lq nq : Nat) (B1 : Option Addr) (d1 : Nat) (B2 : Option Addr) (d2 : Nat) (qs : List (Nat × Nat)) (col : Nat → Nat) (S : Nat), lv = .int .i64 (lq : Int) ∧ av = .slice B1 nq d1 ∧ bv = .slice B2 nq d2 ∧
          P2 w col S B1 nq d1 (gapsOf qs) B2 nq d2 (patsOf qs) wq ∧ qs = ps ++ List.replicate j (255, 0) ∧ lq = la + 255 * j ∧ nq = m + j ∧ (j = 0 ∨ lq < i)) (fun _ _ lv _ => i - (intOf lv).toNat)
        case atStart => exact ⟨0, la, m, _, _, _, _, ps, _, _, rfl, rfl, rfl, HP.out, by rw [List.replicate_zero, List.append_nil], rfl, rfl, .inl rfl⟩
        case round =>
          obtain ⟨j, lq, nq, B1, d1, B2, d2, qs, col, S, rfl, rfl, rfl, hq, hqs, hlq, hnq, hj⟩ := hrel
          have HQ := Lib.hid hq
          clear hq
          have hlqi : lq ≤ i := by omega
          obtain ⟨F1, o1, f12, f13⟩ := HQ.out.a
          have O1 := Lib.hid o1; have F12 := Lib.hid f12; have F13 := Lib.hid f13
          clear o1 f12 f13
          by_cases hfar : (255 : Int) < (i : Int) - (lq : Int)
          · have hj8 : j ≤ 512 := by omega
            have HLQ := Lib.hid hlq; have HNQ := Lib.hid hnq
            have HQS := Lib.hid (show qs ++ [(255, 0)] = ps ++ List.replicate (j + 1) (255, 0) by rw [hqs, List.append_assoc, ← List.replicate_succ'])
            have hnq4 : nq ≤ 4096 := by omega
            have hlq4 : lq ≤ 4096 := by omega
            have hfar2 : (i : Int) - (lq : Int) > 255 := hfar
            clear hlq hnq hj hqs
            go_upto_region 11 with (first
              | (at_builtin; refine apl1 (T := tI64) elemI64 wr w rfl (.tmp 31) (.tmp 32) rfl w.heap.size B1 nq d1 (gapsOf qs) (by rfl) F1 (fun _ => False) O1.out HQ.out.below (Nat.le_refl _) _ (by rfl) [.int .i64 255] 255 ⟨rfl, by decide, by decide⟩ 3 rfl (fun _ _ _ _ h4 => h4) (by omega) ?_; intro A5 c5 w5 h5)
              | fail)
            have HQ5 := Lib.hid (P2.push1 HQ.out F12.out F13.out _ _ h5)
            obtain ⟨F2, o2, f22, f23⟩ := HQ5.out.b
            have O2 := Lib.hid o2; have F22 := Lib.hid f22; have F23 := Lib.hid f23
            clear o2 f22 f23 h5
            go_wp2_with (first
              | (at_builtin; refine apl1 (T := tU64) elemU64 w5 w rfl (.tmp 34) (.tmp 35) rfl w.heap.size B2 nq d2 (patsOf qs) (by rfl) F2 (fun _ => False) O2.out HQ5.out.below (Nat.le_refl _) _ (by rfl) [.int .u64 0] 0 ⟨rfl, by decide⟩ 112 rfl (fun _ _ _ _ h4 => h4) (by omega) ?_; intro A6 c6 w6 h6)
              | fail)
            have HQ6 := Lib.hid (P2.push2 HQ5.out F22.out F23.out _ _ h6)
            go_roundw
            case rel => exact ⟨j + 1, lq + 255, nq + 1, A5, c5, A6, c6, qs ++ [(255, 0)], _, _, by go_num, rfl, rfl, by rw [gapsOf_snoc, patsOf_snoc]; exact HQ6.out, HQS.out, by have := HLQ.out; omega, by have := HNQ.out; omega, .inr (by omega)⟩
            case measure => simp [intOf]; omega
          · obtain ⟨gq, hgq⟩ : ∃ gq, gq = i - lq := ⟨_, rfl⟩
            have zg : (i : Int) - (lq : Int) = (gq : Int) := by omega
            have hfar2 : ¬ (gq : Int) > 255 := by omega
            have hfar3 : ¬ (255 : Int) < (gq : Int) := by omega
            have hjj : (i - la - 1) / 255 = j := by
              by_cases hi0 : i = 0
              · omega
              · have := HLAI2.out hi0; omega
            have HFIN := Lib.hid (show qs ++ [(gq, p)] = pairsN k 0 0 (us.take (i + 1)) by rw [HPS2.out, hqs, hjj, hgq, hlq, List.append_assoc, Nat.sub_add_eq])
            have hgq4 : gq ≤ 4096 := by omega
            have hnq4 : nq ≤ 4096 := by omega
            have hnqb : nq + 1 ≤ i + 1 + i / 255 := by omega
            have HNQB := Lib.hid hnqb
            have HZG := Lib.hid zg
            clear hlq hnq hj hqs hgq hjj hlai hnqb hm hfar
            go_upto_region 14 with (first
              | (at_builtin; refine apl1 (T := tI64) elemI64 wr w rfl (.tmp 39) (.tmp 43) rfl w.heap.size B1 nq d1 (gapsOf qs) (by rfl) F1 (fun _ => False) O1.out HQ.out.below (Nat.le_refl _) _ (by rfl) [.int .i64 (gq : Int)] (gq : Int) ⟨rfl, by omega, by omega⟩ 3 (by first | rfl | rw [HZG.out]) (fun _ _ _ _ h4 => h4) (by omega) ?_; intro A5 c5 w5 h5)
              | fail)
            have HQ5 := Lib.hid (P2.push1 HQ.out F12.out F13.out _ _ h5)
            obtain ⟨F2, o2, f22, f23⟩ := HQ5.out.b
            have O2 := Lib.hid o2; have F22 := Lib.hid f22; have F23 := Lib.hid f23
            clear o2 f22 f23 h5
            go_wp2_with (first
              | (at_builtin; refine apl1 (T := tU64) elemU64 w5 w rfl (.tmp 45) (.tmp 47) rfl w.heap.size B2 nq d2 (patsOf qs) (by rfl) F2 (fun _ => False) O2.out HQ5.out.below (Nat.le_refl _) _ (by rfl) [.int .u64 (p : Int)] p ⟨rfl, HPU.out⟩ 112 rfl (fun _ _ _ _ h4 => h4) (by omega) ?_; intro A6 c6 w6 h6)
              | fail)
            have HQ6 := Lib.hid (P2.push2 HQ5.out F22.out F23.out _ _ h6)
            go_roundw
            case rel => exact ⟨i + 1, A5, c5, A6, c6, nq + 1, i, qs ++ [(gq, p)], _, _, by omega, by go_num, rfl, rfl, rfl, by rw [gapsOf_snoc, patsOf_snoc]; exact HQ6.out, HFIN.out, HLA2.out.symm, HNQB.out⟩
            case measure => simp [intOf]; omega
    · obtain rfl : i = n := by omega
      have e1 : us.take i = us := List.take_of_length_le (by rw [← HL.out]; exact Nat.le_refl _)
      have hps := HPS.out
      have hla := HLA.out
      rw [e1] at hps hla
      have hln := HP.out.b.len
      rw [patsOf, List.length_map] at hln
      have hla4 : la ≤ i := by have := lastN_le k us 0 0 (Nat.le_refl _); rw [hla, HL.out]; omega
      have HPSX := Lib.hid hps; have HLN := Lib.hid hln
      clear e1 hps hla hln
      go_wp2_with fail
      go_ret2
      exact ⟨A1, c1, A2, c2, m, by rw [← HPSX.out]; exact HLN.out, by omega, rfl, by rw [← HPSX.out]; exact HP.out.a.sl, by rw [← HPSX.out]; exact HP.out.b.sl, HP.out.below⟩
end Go.Proofs.YtpmglcachffojaaGreatDoor
namespace Go.Proofs.YtpmglcachffojaaGreatDoor
open Go Go.RowKit

theorem tw_geI {p : Int → Bool} : ∀ (l : List Int) (k : Nat), k ≤ l.length → (∀ j (_ : j < l.length), j < k → p l[j] = true) → k ≤ (l.takeWhile p).length
  | [], k, h, _ => by simpa using h
  | x :: r, 0, _, _ => Nat.zero_le _
  | x :: r, k + 1, h, hp => by
    have h0 : p x = true := hp 0 (by simp) (by omega)
    have h1 := tw_geI r k (by simpa using h) (fun j hj hk => hp (j + 1) (by simpa using hj) (by omega))
    rw [List.takeWhile_cons, if_pos h0, List.length_cons]
    omega
theorem tw_stopI {p : Int → Bool} : ∀ (l : List Int) (k : Nat) (h : k < l.length), p l[k] = false → (l.takeWhile p).length ≤ k
  | x :: r, 0, _, hp => by
    have hp : p x = false := hp
    rw [List.takeWhile_cons, if_neg (by rw [hp]; decide)]; simp
  | x :: r, k + 1, h, hp => by
    have h1 := tw_stopI r k (by simpa using h) hp
    rw [List.takeWhile_cons]
    split
    · rw [List.length_cons]; omega
    · simp
theorem sameN_of (l : List Int) (k : Nat) (h0 : 0 < l.length) (hl : k ≤ l.length) (he : ∀ j (_ : j < l.length), j < k → l[j] = l[0]) (hx : k = l.length ∨ ∃ h : k < l.length, l[k] ≠ l[0]) : sameN l = k := by
  have hd : l.headD 0 = l[0] := by match l, h0 with | _ :: _, _ => rfl
  have hge : k ≤ (l.takeWhile (· == l[0])).length := tw_geI _ k hl fun j hj hjk => by rw [he j hj hjk]; simp
  have hle := (List.takeWhile_prefix (l := l) (· == l[0])).length_le
  unfold sameN
  rw [hd]
  rcases hx with h | ⟨h, hne⟩
  · omega
  · have h2 := tw_stopI (p := (· == l[0])) l k h (by simpa using hne)
    omega
set_option maxRecDepth 100000 in
set_option maxHeartbeats 2000000 in
theorem r11same_any (F : Nat → Prop) (A : Option Addr) (n c : Nat) (l : List Int) (w : World) (h : Sl tI64 F w A n c l) (hl : l ≠ []) (hn : n ≤ 4294967296) :
    Calls Tryz.prog 213 #[.slice A n c] w fun e w' => e = .returned (.int .i64 ((sameN l : Nat) : Int)) ∧ Below w.heap.size w w' := by
  have HH := Lib.hid h; have HL := Lib.hid h.len
  have hpos := List.length_pos_iff.2 hl
  obtain ⟨b, o, rfl, hbl, hcell⟩ := sl_cells h hl
  obtain ⟨y, hy⟩ : ∃ y, y = l[0] := ⟨_, rfl⟩
  have hc0 := (hcell 0 hpos).1
  rw [← hy, Nat.add_zero] at hc0
  have HY := Lib.hid hy; have HC0 := Lib.hid hc0; have HCE := Lib.hid hcell; have HPO := Lib.hid hpos
  have hn0 : (0 : Int) < (n : Int) := by have := HL.out; omega
  clear h hy hc0 hcell hl
  go_enter Tryz.func213, Tryz.ntmps213
  go_wp2_with fail
  go_loopw [3] (fun kv wr => ∃ k : Nat, k ≤ n ∧ kv = .int .i64 (k : Int) ∧ Hid (∀ j (_ : j < l.length), j < k → l[j] = l[0]) ∧ Below w.heap.size w wr) (fun kv _ => n - (intOf kv).toNat)
  case atStart => exact ⟨0, Nat.zero_le _, rfl, Lib.hid (fun j _ hj => by omega), Below.refl _ _⟩
  case round =>
    obtain ⟨k, hk, rfl, HE, hb⟩ := hrel
    have HB := Lib.hid hb
    have c0 := kcell hb HC0.out
    have hk0 : (0 : Int) ≤ (k : Int) := by omega
    clear hb
    by_cases hlt : k < n
    · have q1 : (k : Int) < (n : Int) := by omega
      have hkl : k < l.length := by rw [← HL.out]; exact hlt
      obtain ⟨x, hx⟩ : ∃ x, x = l[k] := ⟨_, rfl⟩
      have hc := (HCE.out k hkl).1
      rw [← hx] at hc
      have HXX := Lib.hid hx
      have c1 := kcell HB.out hc
      clear hc hx
      by_cases hxy : x = y
      · subst hxy
        have HE2 : Hid (∀ j (_ : j < l.length), j < k + 1 → l[j] = l[0]) := Lib.hid (fun j hj hjk => by
          by_cases hjk2 : j = k
          · subst hjk2
            exact HXX.out.symm.trans HY.out
          · exact HE.out j hj (by omega))
        go_wp2_with fail
        go_quiet (fail)
        go_wp2_with fail
        go_roundw
        case rel => exact ⟨k + 1, by omega, by go_num, HE2, bdrewN HB.out _⟩
        case measure => simp [intOf]; omega
      · have hno := beq_no hxy
        have HR := Lib.hid (show sameN l = k from sameN_of l k HPO.out (by omega) HE.out (.inr ⟨hkl, by rw [← HXX.out, ← HY.out]; exact hxy⟩))
        go_wp2_with fail
        go_quiet (fail)
        go_wp2_with fail
        go_ret
        exact ⟨by rw [HR.out]; rfl, bdrewN HB.out _⟩
    · obtain rfl : k = n := by omega
      have q1 : ¬ (k : Int) < (k : Int) := by omega
      have HR := Lib.hid (show sameN l = k from sameN_of l k HPO.out (by rw [← HL.out]; exact Nat.le_refl _) HE.out (.inl HL.out))
      go_wp2_with fail
      go_quiet (fail)
      go_wp2_with fail
      go_ret
      exact ⟨by rw [HR.out]; rfl, bdrewN HB.out _⟩
theorem r11shorter_any (A : Option Addr) (n c : Nat) (A2 : Option Addr) (n2 c2 : Nat) (e : Int) (w : World) :
    Calls Tryz.prog 216 #[.slice A n c, .slice A2 n2 c2, .int .i64 e] w fun r w' => r = .returned (if e = 0 ∧ (n = 0 ∨ n2 < n) then .slice A2 n2 c2 else .slice A n c) ∧ w = w' := by
  by_cases he : e = 0
  · subst he
    by_cases h0 : n = 0
    · subst h0
      rw [if_pos ⟨rfl, .inl rfl⟩]
      go_enter Tryz.func216, Tryz.ntmps216
      go_wp2_with fail
      go_ret
      exact ⟨rfl, rfl⟩
    · have hb := beq_no (show ¬ (n : Int) = 0 by omega)
      have hb1 : ¬ (n : Int) = 0 := by omega
      by_cases hlt : n2 < n
      · rw [if_pos ⟨rfl, .inr hlt⟩]
        have q1 : (n2 : Int) < (n : Int) := by omega
        go_enter Tryz.func216, Tryz.ntmps216
        go_wp2_with fail
        go_ret
        exact ⟨rfl, rfl⟩
      · rw [if_neg (fun h => h.2.elim h0 hlt)]
        have q1 : ¬ (n2 : Int) < (n : Int) := by omega
        go_enter Tryz.func216, Tryz.ntmps216
        go_wp2_with fail
        go_ret
        exact ⟨rfl, rfl⟩
  · rw [if_neg (fun h => he h.1)]
    have hb := beq_no he
    go_enter Tryz.func216, Tryz.ntmps216
    go_wp2_with fail
    go_ret
    exact ⟨rfl, rfl⟩
set_option maxRecDepth 100000 in
set_option maxHeartbeats 1000000 in
theorem r11cut_any (F : Nat → Prop) (A : Option Addr) (n c : Nat) (l : List Int) (w : World) (h : Sl tI64 F w A n c l) (hl : l ≠ []) (hn : n ≤ 4294967296) :
    Calls Tryz.prog 172 #[.slice A n c] w fun e w' => e = .returned (.int .i64 ((cutN l : Nat) : Int)) ∧ Below w.heap.size w w' := by
  have HH := Lib.hid h; have HNE := Lib.hid hl
  have hlen := h.len
  have hpos := List.length_pos_iff.2 hl
  have hc2 := h.2.1
  have hc3 := h.2.2.1
  unfold maxLen at hc3
  have hsl := sameN_le l
  obtain ⟨s, hs⟩ : ∃ s, s = sameN l := ⟨_, rfl⟩
  obtain ⟨t, ht⟩ : ∃ t, t = cutN l := ⟨_, rfl⟩
  obtain ⟨b, o, rfl, _, _⟩ := sl_cells h hl
  have HT := Lib.hid ht; have HSS := Lib.hid hs
  have hsn : s ≤ n := by omega
  rw [← ht]
  have hn1 : 1 ≤ n := by omega
  have z0 : (n : Int) > 0 := by omega
  have z0' : (0 : Int) < n := by omega
  by_cases h3 : 3 ≤ s
  · have HM := Lib.hid (show min (s : Int) 512 = (t : Int) by rw [ht, cutN, ← hs, if_pos h3]; omega)
    have z : (s : Int) ≥ 3 := by omega
    have z' : (3 : Int) ≤ (s : Int) := by omega
    clear h hlen hpos hs ht hsl h3
    go_enter Tryz.func172, Tryz.ntmps172
    go_upto_region 2 with (first
      | (go_at_call 213; refine (r11same_any F _ n c l _ HH.out HNE.out hn).mono ?_; rintro e w1 ⟨rfl, hb1⟩; rw [← HSS.out]; have HB1 := Lib.hid hb1; clear hb1)
      | fail)
    go_wp2_with (first
      | (go_at_call 213; refine (r11same_any F _ n c l _ (HH.out.below HB1.out (Nat.le_refl _)) HNE.out hn).mono ?_; rintro e w2 ⟨rfl, hb2⟩; rw [← HSS.out]; have HB2 := Lib.hid (HB1.out.trans (hb2.mono HB1.out.size)); clear hb2)
      | fail)
    go_ret
    exact ⟨by rw [← HM.out]; rfl, HB2.out⟩
  · obtain ⟨en, hen⟩ : ∃ en, en = min n 512 := ⟨_, rfl⟩
    have hen1 : 1 ≤ en ∧ en ≤ 512 ∧ en ≤ n := by omega
    have HEN := Lib.hid (show min (n : Int) 512 = (en : Int) by omega)
    have HEN2 := Lib.hid hen
    have HC := Lib.hid (show t = cutAt l (en - 1) 1 by
      rw [ht, cutN, ← hs, if_neg h3]
      by_cases h1 : l.length ≤ 1
      · rw [if_pos h1, show en - 1 = 0 by omega, cutAt]; omega
      · rw [if_neg h1, hen, ← hlen])
    have z : ¬ (s : Int) ≥ 3 := by omega
    have z' : ¬ (3 : Int) ≤ (s : Int) := by omega
    have HLN := Lib.hid hlen
    have HE1 := Lib.hid hen1
    clear h hlen hpos hs ht hsl h3 hen hen1
    go_enter Tryz.func172, Tryz.ntmps172
    go_wp2_with (first
      | (go_at_call 213; refine (r11same_any F _ n c l _ HH.out HNE.out hn).mono ?_; rintro e w1 ⟨rfl, hb1⟩; rw [← HSS.out]; have HB1 := Lib.hid hb1; clear hb1)
      | fail)
    go_loopw [3] (fun iv wr => ∃ i : Nat, 1 ≤ i ∧ i ≤ en ∧ iv = .int .i64 (i : Int) ∧ Below w.heap.size w wr ∧ Hid (t = cutAt l (en - i) i))
      (fun iv _ => en - (intOf iv).toNat)
    case atStart => exact ⟨1, Nat.le_refl _, HE1.out.1, rfl, HB1.out, HC⟩
    case round =>
      obtain ⟨i, hi1, hi, rfl, hb, HCI⟩ := hrel
      have HB := Lib.hid hb
      clear hb
      have hE2 := HEN2.out
      by_cases hlt : i < en
      · have hin : i < n := by omega
        have i1 : (i : Int) < (n : Int) := by omega
        have i2 : (i : Int) < 512 := by omega
        have hbk := sl_back (HH.out.below HB.out (Nat.le_refl _)) (k := i) (by omega) hi1
        rw [if_neg (by omega)] at hbk
        obtain ⟨s5, hs5⟩ : ∃ s5, s5 = sameN (l.drop i) := ⟨_, rfl⟩
        have HC5 := Lib.hid (r11same_any F _ _ _ _ wr hbk (by intro e; have := congrArg List.length e; rw [List.length_drop] at this; have := HLN.out; simp at *; omega) (by omega))
        rw [← hs5] at HC5
        have HS5 := Lib.hid hs5
        have i0 : (0 : Int) ≤ (i : Int) := by omega
        have i3 : (i : Int) ≤ (n : Int) := by omega
        have i4 : (n : Int) ≤ (c : Int) := by omega
        have i5 : (i : Int) ≤ (c : Int) := by omega
        have i6 : (c : Int) ≤ 9223372036854775807 := by omega
        have i7 : ¬ c = i := by omega
        have i8 : ¬ i = c := by omega
        clear hbk hs5 hE2
        by_cases h5 : 5 ≤ s5
        · have HFIN := Lib.hid (show t = i by
            rw [HCI.out, show en - i = (en - i - 1) + 1 by omega, cutAt, if_pos (by rw [← HS5.out]; exact h5)])
          have h5I : (s5 : Int) ≥ 5 := by omega
          have h5J : (5 : Int) ≤ (s5 : Int) := by omega
          clear h5
          go_wp2_with (first
            | (go_at_call 213; refine HC5.out.mono ?_; rintro e w2 ⟨rfl, hb2⟩; have HB2 := Lib.hid (HB.out.trans (hb2.mono HB.out.size)); clear hb2)
            | fail)
          go_ret
          exact ⟨by rw [HFIN.out]; rfl, HB2.out⟩
        · have HFIN := Lib.hid (show t = cutAt l (en - (i + 1)) (i + 1) by
            rw [HCI.out, show en - i = (en - (i + 1)) + 1 by omega, cutAt, if_neg (by rw [← HS5.out]; exact h5)])
          have h5I : ¬ (s5 : Int) ≥ 5 := by omega
          have h5J : ¬ (5 : Int) ≤ (s5 : Int) := by omega
          clear h5
          go_wp2_with (first
            | (go_at_call 213; refine HC5.out.mono ?_; rintro e w2 ⟨rfl, hb2⟩; have HB2 := Lib.hid (HB.out.trans (hb2.mono HB.out.size)); clear hb2)
            | fail)
          go_roundw
          case rel => exact ⟨i + 1, by omega, by omega, by go_num, HB2.out, HFIN⟩
          case measure => simp [intOf]; omega
      · obtain rfl : i = en := by omega
        have HFIN := Lib.hid (show t = i by rw [HCI.out, Nat.sub_self, cutAt])
        have hmn := HEN.out
        by_cases hin : i < n
        · have i1 : (i : Int) < (n : Int) := by omega
          have i2 : ¬ (i : Int) < 512 := by omega
          clear hE2
          go_wp2_with fail
          go_ret
          exact ⟨by rw [HFIN.out]; rfl, HB.out⟩
        · have i1 : ¬ (i : Int) < (n : Int) := by omega
          clear hE2
          go_wp2_with fail
          go_ret
          exact ⟨by rw [HFIN.out]; rfl, HB.out⟩
def C09 : Prop := ∀ (F : Nat → Prop) (A : Option Addr) (n c : Nat) (l : List Int) (w : World), Sl tI64 F w A n c l → 1 ≤ n → n ≤ 512 → ∀ sg, NumOk sg l → Calls Tryz.prog 218 #[.slice A n c, .bool sg] w (RunPost (delB sg l) w)
def C10 : Prop := ∀ (F : Nat → Prop) (A : Option Addr) (n c : Nat) (l : List Int) (w : World), Sl tI64 F w A n c l → 1 ≤ n → n ≤ 512 → ∀ sg, NumOk sg l → ∀ k : Nat, k < 31 → Calls Tryz.prog 219 #[.slice A n c, .int .i64 (wOf k), .bool sg] w (RunPost (patB (wN k) l) w)
/-- The shorter of two runs lies in a row of its own, too. -/
def Pick (o : Option (List UInt8)) (w w' : World) (A2 : Option Addr) (n2 c2 : Nat) (e2 : Int) : Prop :=
  Below w.heap.size w w' ∧ ∀ (B : Nat) (A : Option Addr) (n c : Nat) (L : List UInt8), OwnB w B A n c L → B ≤ w.heap.size → ∃ A' n' c', (if e2 = 0 ∧ (n = 0 ∨ n2 < n) then Value.slice A2 n2 c2 else Value.slice A n c) = Value.slice A' n' c' ∧ OwnB w' B A' n' c' (shorter L o)
theorem pick_of {o : Option (List UInt8)} {w w' : World} {e : Ending} (h : RunPost o w e w') : ∃ A2 n2 c2 e2, e = .returned (.tuple #[.slice A2 n2 c2, .int .i64 e2]) ∧ Pick o w w' A2 n2 c2 e2 := by
  obtain ⟨hb, h⟩ := h
  cases o with
  | none =>
    exact ⟨none, 0, 0, 1, h, hb, fun B A n c L ho _ => ⟨A, n, c, if_neg (fun h => absurd h.1 (by decide)), ho.keepB hb⟩⟩
  | some b =>
    obtain ⟨A2, n2, c2, he, h2⟩ := h
    refine ⟨A2, n2, c2, 0, he, hb, fun B A n c L ho hB => ?_⟩
    have hn := ho.len
    have hn2 := h2.len
    by_cases hp : n = 0 ∨ n2 < n
    · refine ⟨A2, n2, c2, if_pos ⟨rfl, hp⟩, ?_⟩
      rw [show shorter L (some b) = b from if_pos (by
        rcases hp with hp | hp
        · exact .inl (List.length_eq_zero_iff.1 (by omega))
        · exact .inr (by omega))]
      exact h2.down hB
    · refine ⟨A, n, c, if_neg (fun h => hp h.2), ?_⟩
      rw [show shorter L (some b) = L from if_neg (fun h => hp (h.elim (fun h => .inl (by rw [hn, h]; rfl)) (fun h => .inr (by omega))))]
      exact ho.keepB hb
set_option maxRecDepth 100000 in
set_option maxHeartbeats 4000000 in
theorem r11run_any (H09 : C09) (H10 : C10) (F : Nat → Prop) (A : Option Addr) (n c : Nat) (l : List Int) (w : World) (h : Sl tI64 F w A n c l) (hn1 : 1 ≤ n) (hn : n ≤ 512) (sg : Bool) (hl : NumOk sg l) :
    Calls Tryz.prog 173 #[.slice A n c, .bool sg] w (RunPost (some (runB sg l)) w) := by
  have HH := Lib.hid h; have HK := Lib.hid hl; have HL := Lib.hid h.len; have H9 := Lib.hid H09; have H0 := Lib.hid H10
  have hne : l ≠ [] := by intro e; have := h.len; rw [e] at this; simp at this; omega
  have HNE := Lib.hid hne
  obtain ⟨s, hs⟩ : ∃ s, s = sameN l := ⟨_, rfl⟩
  have HS := Lib.hid hs
  have hsl := sameN_le l
  obtain ⟨b, o, rfl, hbl, hcell⟩ := sl_cells h hne
  have hpos := List.length_pos_iff.2 hne
  obtain ⟨x0, hx0⟩ : ∃ x0, x0 = l.headD 0 := ⟨_, rfl⟩
  have hd0 : l[0] = x0 := by rw [hx0]; match l, hne with | _ :: _, _ => rfl
  have hc0 := (hcell 0 hpos).1
  rw [hd0, Nat.add_zero] at hc0
  have HC0 := Lib.hid hc0; have HX0 := Lib.hid hx0
  have hxk := hl x0 (by rw [← hd0]; exact List.getElem_mem _)
  have HXK := Lib.hid hxk
  have z1 : ¬ (n : Int) < 1 := by omega
  have z2 : ¬ (n : Int) > 512 := by omega
  have z2' : ¬ (512 : Int) < n := by omega
  have hn0 : (0 : Int) < (n : Int) := by omega
  have HTM := Lib.hid (show s = n → timesB sg l = if 3 ≤ n ∧ n ≤ 10 then some (repB (uOf sg x0) n) else none from fun hsn => by
    unfold timesB
    rw [← hs, hsn, ← h.len, ← hx0]
    by_cases h3 : 3 ≤ n ∧ n ≤ 10
    · rw [if_pos h3, if_pos ⟨rfl, h3⟩]
    · rw [if_neg h3, if_neg (fun h => h3 h.2)])
  have HTN := Lib.hid (show ¬ s = n → timesB sg l = none from fun hsn => by
    unfold timesB
    rw [← hs, ← h.len, if_neg (fun h => hsn h.1)])
  have hrun : runTo sg l 0 = shorter (shorter (shorter [] (timesB sg l)) (some (dirB sg l))) (delB sg l) := rfl
  have HR0 := Lib.hid hrun
  clear h hl H09 H10 hne hs hsl hcell hpos hx0 hd0 hc0 hxk hrun
  go_enter Tryz.func173, Tryz.ntmps173
  go_upto_region 5 with (first
    | (go_at_call 214; refine (r8plain_any F _ n c l _ HH.out (by omega) sg HK.out).mono ?_; rintro e w1 ⟨A1, m1, c1, rfl, _, hb1⟩; have HB1 := Lib.hid hb1; clear hb1)
    | fail)
  have HO2 := Lib.hid (OwnB.new0 w1 w.heap.size HB1.out.size)
  have HB2 := Lib.hid (HB1.out.alloc HB1.out.size (.cells #[] 5))
  go_upto_if 36 with (first
    | (go_at_call 213; refine (r11same_any F _ n c l _ (HH.out.below HB2.out (Nat.le_refl _)) HNE.out (by omega)).mono ?_; rintro e w3 ⟨rfl, hb3⟩; rw [← HS.out]; have HO3 := Lib.hid (HO2.out.keepB hb3); have HB3 := Lib.hid (HB2.out.trans (hb3.mono HB2.out.size)); have c3 := kcell HB3.out HC0.out; clear hb3)
    | fail)
  go_cut [8, 9, 10] from 32 to 50 (fun ov _ _ wx => ∃ (A2 : Option Addr) (n2 c2 : Nat), ov = .slice A2 n2 c2 ∧ OwnB wx w.heap.size A2 n2 c2 (shorter [] (timesB sg l)) ∧ Below w.heap.size w wx)
  case first =>
    by_cases hsn : s = n
    · have hsi : (s : Int) = (n : Int) := by omega
      have hT := HTM.out hsn
      go_wp2_with (first
        | (go_at_call 215; refine (r7put_any sg x0 HXK.out.1 HXK.out.2.1 HXK.out.2.2 n hn _).mono ?_; intro e w4 hp4; rw [← hT] at hp4; obtain ⟨A4, n4, c4, e4, rfl, hk4⟩ := pick_of hp4; have HK4 := Lib.hid hk4; clear hp4 hk4)
        | (go_at_call 216; refine (r11shorter_any _ _ _ A4 n4 c4 e4 _).mono ?_; rintro r w5 ⟨rfl, rfl⟩; obtain ⟨A5, n5, c5, e5, ho5⟩ := HK4.out.2 _ _ _ _ _ HO3.out HB3.out.size; rw [e5]; have HO5 := Lib.hid ho5; clear e5 ho5)
        | fail)
      go_meet
      exact ⟨A5, n5, c5, rfl, HO5.out, HB3.out.trans (HK4.out.1.mono HB3.out.size)⟩
    · have hsi := beq_no (show ¬ (s : Int) = (n : Int) by omega)
      have hsi2 : ¬ (s : Int) = (n : Int) := by omega
      have hT := HTN.out hsn
      go_wp2_with fail
      go_meet
      exact ⟨_, 0, 0, rfl, by rw [hT]; exact HO3.out, HB3.out⟩
  case rest =>
    obtain ⟨A2, n2, c2, rfl, ho2, hb2⟩ := hcut
    rename World => w3
    have HO3 := Lib.hid ho2; have HB3 := Lib.hid hb2
    clear ho2 hb2
    refine ‹∀ (a : Act) (w_1 : World), Code.wp _ _ _ a w_1 → _› _ _ ?_
    go_upto_region 9 with (first
      | (go_at_call 217; refine (r8put_any F _ n c l _ (HH.out.below HB3.out (Nat.le_refl _)) hn1 hn sg HK.out).mono ?_; intro e w4 hp4; obtain ⟨A4, n4, c4, e4, rfl, hk4⟩ := pick_of hp4; have HK4 := Lib.hid hk4; clear hp4 hk4)
      | fail)
    go_upto_region 10 with (first
      | (go_at_call 216; refine (r11shorter_any _ _ _ A4 n4 c4 e4 _).mono ?_; rintro r w5 ⟨rfl, rfl⟩; obtain ⟨A5, n5, c5, e5, ho5⟩ := HK4.out.2 _ _ _ _ _ HO3.out HB3.out.size; rw [e5]; have HO5 := Lib.hid ho5; have HB5 := Lib.hid (HB3.out.trans (HK4.out.1.mono HB3.out.size)); clear e5 ho5)
      | fail)
    go_upto_region 11 with (first
      | (go_at_call 218; refine (H9.out F _ n c l _ (HH.out.below HB5.out (Nat.le_refl _)) hn1 hn sg HK.out).mono ?_; intro e w6 hp6; obtain ⟨A6, n6, c6, e6, rfl, hk6⟩ := pick_of hp6; have HK6 := Lib.hid hk6; clear hp6 hk6)
      | fail)
    go_upto_region 12 with (first
      | (go_at_call 216; refine (r11shorter_any _ _ _ A6 n6 c6 e6 _).mono ?_; rintro r w7 ⟨rfl, rfl⟩; obtain ⟨A7, n7, c7, e7, ho7⟩ := HK6.out.2 _ _ _ _ _ HO5.out HB5.out.size; rw [e7]; have HO7 := Lib.hid ho7; have HB7 := Lib.hid (HB5.out.trans (HK6.out.1.mono HB5.out.size)); clear e7 ho7)
      | fail)
    go_wp2_with fail
    go_loopw [8, 12] (fun ov cv wr => ∃ (k : Nat) (A8 : Option Addr) (n8 c8 : Nat), k ≤ 31 ∧ cv = .int .i64 (k : Int) ∧ ov = .slice A8 n8 c8 ∧ OwnB wr w.heap.size A8 n8 c8 (runTo sg l k) ∧ Below w.heap.size w wr) (fun _ cv _ => 31 - (intOf cv).toNat)
    case atStart => exact ⟨0, A7, n7, c7, by omega, rfl, rfl, by rw [HR0.out]; exact HO7.out, HB7.out⟩
    case round =>
      obtain ⟨k, A8, n8, c8, hk, rfl, rfl, ho, hb⟩ := hrel
      have HO := Lib.hid ho; have HB := Lib.hid hb
      clear ho hb
      by_cases hlt : k < 31
      · have q0 : (0 : Int) ≤ (k : Int) := by omega
        have q1 : (k : Int) < 31 := by omega
        have HRS := Lib.hid (runTo_succ sg l k)
        go_upto_region 16 with (first
          | (go_at_call 220; refine (rof_any (k : Int) q0 (by omega) _).mono ?_; rintro e w9 ⟨rfl, rfl⟩)
          | (go_at_call 219; refine (H0.out F _ n c l _ (HH.out.below HB.out (Nat.le_refl _)) hn1 hn sg HK.out k hlt).mono ?_; intro e w9 hp9; obtain ⟨A9, n9, c9, e9, rfl, hk9⟩ := pick_of hp9; have HK9 := Lib.hid hk9; clear hp9 hk9)
          | fail)
        go_wp2_with (first
          | (go_at_call 216; refine (r11shorter_any _ _ _ A9 n9 c9 e9 _).mono ?_; rintro r wa ⟨rfl, rfl⟩; obtain ⟨Aa, na, ca, ea, hoa⟩ := HK9.out.2 _ _ _ _ _ HO.out HB.out.size; rw [ea]; have HOA := Lib.hid hoa; have HBA := Lib.hid (HB.out.trans (HK9.out.1.mono HB.out.size)); clear ea hoa)
          | fail)
        go_roundw
        case rel => exact ⟨k + 1, Aa, na, ca, by omega, by go_num, rfl, by rw [HRS.out]; exact HOA.out, HBA.out⟩
        case measure => simp [intOf]; omega
      · obtain rfl : k = 31 := by omega
        go_wp2_with fail
        go_ret2
        exact ⟨HB.out, A8, n8, c8, rfl, HO.out⟩
set_option maxRecDepth 100000 in
set_option maxHeartbeats 2000000 in
theorem r11put_any (H09 : C09) (H10 : C10) (F : Nat → Prop) (A : Option Addr) (n c : Nat) (l : List Int) (w : World) (h : Sl tI64 F w A n c l) (hn : n ≤ 4096) (sg : Bool) (hl : NumOk sg l) :
    Calls Tryz.prog 106 #[.slice A n c, .bool sg] w (RunPost (some (rleB sg l)) w) := by
  have HH := Lib.hid (h.weaken (F' := fun b => b < w.heap.size) fun b _ hb => hb); have HK := Lib.hid hl; have HL := Lib.hid h.len
  have HRL := Lib.hid (rleB_len sg l); have H9 := Lib.hid H09; have H0 := Lib.hid H10
  have HNEW := Lib.hid (OwnB.new0 w w.heap.size (Nat.le_refl _))
  have HB00 := Lib.hid (show Below w.heap.size w (w.alloc (.cells #[] 5)) from (Below.refl _ _).alloc (Nat.le_refl _) _)
  have z0 : ¬ (n : Int) > 4096 := by omega
  clear h hl H09 H10
  go_enter Tryz.func106, Tryz.ntmps106
  go_wp2_with fail
  go_loopw [0, 6] (fun lv ov wr => ∃ (k m : Nat) (A2 : Option Addr) (c2 : Nat) (Ao : Option Addr) (no co : Nat) (p : List UInt8), lv = .slice A2 m c2 ∧ ov = .slice Ao no co ∧ k + m = n ∧ Sl tI64 (fun b => b < w.heap.size) wr A2 m c2 (l.drop k) ∧ OwnB wr w.heap.size Ao no co p ∧ Below w.heap.size w wr ∧ p ++ rleB sg (l.drop k) = rleB sg l)
    (fun lv _ _ => lenV lv)
  case atStart => exact ⟨0, n, A, c, some ⟨w.heap.size, 0, none⟩, 0, 0, [], rfl, rfl, by omega, by rw [List.drop_zero]; exact HH.out.alloc _, HNEW.out, HB00.out, by rw [List.drop_zero]; rfl⟩
  case round =>
    obtain ⟨k, m, A2, c2, Ao, no, co, p, rfl, rfl, hkm, hs, ho, hb, hp⟩ := hrel
    have HS := Lib.hid hs; have HO := Lib.hid ho; have HB := Lib.hid hb; have HP := Lib.hid hp
    clear hs ho hb hp
    by_cases hm0 : m = 0
    · subst hm0
      have HFIN := Lib.hid (show p = rleB sg l by
        have h1 := HP.out
        rw [List.length_eq_zero_iff.1 HS.out.len.symm, rleB_nil, List.append_nil] at h1
        exact h1)
      go_wp2_with fail
      go_ret2
      exact ⟨HB.out, Ao, no, co, rfl, by rw [← HFIN.out]; exact HO.out⟩
    · have hne : l.drop k ≠ [] := fun e => by have := HS.out.len; rw [e] at this; simp at this; omega
      obtain ⟨r, hr⟩ : ∃ r, r = l.drop k := ⟨_, rfl⟩
      have hrm : m = r.length := by rw [hr]; exact HS.out.len
      rw [← hr] at HS HP hne
      have HR := Lib.hid hr
      obtain ⟨b, o, rfl, _, _⟩ := sl_cells HS.out hne
      have hcn := cutN_le r hne
      obtain ⟨x, hx⟩ : ∃ x, x = cutN r := ⟨_, rfl⟩
      rw [← hx] at hcn
      have HX := Lib.hid hx
      have hxm : x ≤ m := by omega
      have hc2 := HS.out.2.1
      have hc3 := HS.out.2.2.1
      unfold maxLen at hc3
      have HST := Lib.hid (rleB_step sg r hne)
      rw [← hx] at HST
      have HNE := Lib.hid hne
      have hpl := congrArg List.length HP.out
      rw [HST.out, List.length_append, List.length_append] at hpl
      have hol := HO.out.len
      have hlim : no + (runB sg (r.take x)).length ≤ 68719476736 := by have := HRL.out; have := HL.out; omega
      have HLIM := Lib.hid hlim
      have hm1 : (0 : Int) < (m : Int) := by omega
      have hx1 : 1 ≤ x := hcn.1
      have hx5 : x ≤ 512 := hcn.2.2
      have i0 : (0 : Int) ≤ (x : Int) := by omega
      have i1 : (x : Int) ≤ (c2 : Int) := by omega
      have i2 : (x : Int) ≤ (m : Int) := by omega
      have i3 : x ≤ c2 := by omega
      have i4 : m ≤ c2 := hc2
      have i5 : (m : Int) ≤ (c2 : Int) := by omega
      have i6 : (c2 : Int) ≤ 9223372036854775807 := by omega
      have HNO := Lib.hid (show NumOk sg (r.take x) by rw [hr]; exact (HK.out.drop k).take x)
      clear hr hrm hx hcn hpl hol hlim hne
      go_upto_region 9 with (first
        | (go_at_call 172; refine (r11cut_any _ _ m c2 r _ HS.out HNE.out (by omega)).mono ?_; rintro e w1 ⟨rfl, hb1⟩; rw [← HX.out]; have HS1 := Lib.hid (HS.out.below hb1 (Nat.le_refl _)); have HO1 := Lib.hid (HO.out.keepB hb1); have HB1 := Lib.hid (HB.out.trans (hb1.mono HB.out.size)); clear hb1)
        | (go_at_call 173; refine (r11run_any H9.out H0.out _ _ x c2 (r.take x) _ (sl_front HS1.out hxm hx1) hx1 hx5 sg HNO.out).mono ?_; rintro e w2 ⟨hb2, A3, n3, c3, rfl, ho3⟩; have HS2 := Lib.hid (HS1.out.below hb2 (Nat.le_refl _)); have HO2 := Lib.hid (HO1.out.keepB hb2); have HB2 := Lib.hid (HB1.out.trans (hb2.mono HB1.out.size)); have HR3 := Lib.hid ho3.bs.any; have HL3 := Lib.hid ho3.len; clear hb2 ho3)
        | fail)
      have hn3 : no + n3 ≤ 68719476736 := by have := HL3.out; have := HLIM.out; omega
      have HRX := Lib.hid HR3.out
      have HFIN := Lib.hid (show ∀ q, q = p ++ runB sg (r.take x) → q ++ rleB sg (r.drop x) = rleB sg l by
        rintro q rfl
        rw [← HP.out, HST.out, List.append_assoc])
      have HRD := Lib.hid (show r.drop x = l.drop (k + x) by rw [HR.out, List.drop_drop])
      have HGR := Lib.hid (show ∀ g, Ao.map (·.block) = some g → ¬ g < w.heap.size from fun g hg h => by have := (ownF_at HO2.out.own hg).2.1; omega)
      have hbk := sl_back HS2.out hxm hx1
      by_cases hcx : c2 = x
      · rw [if_pos hcx, show c2 - x = 0 by omega] at hbk
        have HBK := Lib.hid hbk
        clear hbk
        go_wp2_with (first
          | (at_builtin; refine apb w2 w rfl (.tmp 30) (.tmp 31) rfl w.heap.size Ao no co p rfl HO2.out HB2.out (Nat.le_refl _) (fun _ => True) A3 n3 c3 _ rfl HR3.out hn3 ?_; intro A5 c5 w5 ho5 hb5 hg5; have HO5 := Lib.hid ho5; have HB5 := Lib.hid hb5; have HG5 := Lib.hid hg5; clear ho5 hb5 hg5)
          | fail)
        go_roundw
        case rel => exact ⟨k + x, m - x, _, _, A5, no + n3, c5, _, rfl, rfl, by omega, by rw [← HRD.out]; exact HBK.out.grown HG5.out HGR.out, HO5.out, HB5.out, by rw [← HRD.out]; exact HFIN.out _ rfl⟩
        case measure => simp [lenV]; omega
      · rw [if_neg hcx] at hbk
        have HBK := Lib.hid hbk
        clear hbk
        go_wp2_with (first
          | (at_builtin; refine apb w2 w rfl (.tmp 30) (.tmp 31) rfl w.heap.size Ao no co p rfl HO2.out HB2.out (Nat.le_refl _) (fun _ => True) A3 n3 c3 _ rfl HR3.out hn3 ?_; intro A5 c5 w5 ho5 hb5 hg5; have HO5 := Lib.hid ho5; have HB5 := Lib.hid hb5; have HG5 := Lib.hid hg5; clear ho5 hb5 hg5)
          | fail)
        go_roundw
        case rel => exact ⟨k + x, m - x, _, _, A5, no + n3, c5, _, rfl, rfl, by omega, by rw [← HRD.out]; exact HBK.out.grown HG5.out HGR.out, HO5.out, HB5.out, by rw [← HRD.out]; exact HFIN.out _ rfl⟩
        case measure => simp [lenV]; omega
end Go.Proofs.YtpmglcachffojaaGreatDoor
