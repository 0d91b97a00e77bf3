/- The reference 32: line. -/
import Derived.Test.YtojenpjafgfpaaaGreatDoorRLineP
import Derived.Test.YtojenpjafgfpaaaGreatDoorREv
import Derived.Test.YtojenpjafgfpaaaGreatDoorParse
namespace Go.Proofs.YtojenpjafgfpaaaGreatDoor
open Go Go.RowKit
attribute [local go_sem ↓] Go.wp_at_zero Go.wp_at_succ

theorem run_strix (s : List UInt8) (i : Nat) (hi : i < s.length) (v : Int) (hv : v = (i : Int)) (w : World) : (Instr.index 9 (.string ⟨s.toArray⟩) (.int .i64 v)).run Tryz.prog w = .ok (.int .u8 ((s[i]).toNat : Int)) w := by
  subst hv
  rw [run_index_string w 9 ⟨s.toArray⟩ .i64 i (by kernel_rfl)]
  have h : 0 ≤ (i : Int) ∧ (i : Int) < ((⟨s.toArray⟩ : ByteArray).size : Nat) := ⟨by omega, by show (i : Int) < (s.toArray.size : Nat); rw [List.size_toArray]; omega⟩
  rw [dif_pos h]
  have e2 : (⟨s.toArray⟩ : ByteArray)[(i : Int).toNat]'(by rw [Int.toNat_natCast]; show i < s.toArray.size; rw [List.size_toArray]; exact hi) = s[i] := by
    simp only [Int.toNat_natCast]
    show s.toArray[i]'_ = _
    simp
  rw [e2]
theorem step_apb1 (w a0 : World) {ops : Array Oper} {o : Oper} {a : Act} {Q : Exit → Act → World → Prop} {K : Act → World → Prop} {E' : Prop} (hgd : o.guard = none) (s x : Operand) (ho : o.op = .call { callee := .builtin .append, args := #[s, x], argTypes := #[30, 30] }) (B : Nat) (A : Option Addr) (n c : Nat) (xs : List UInt8) (hs : a.eval s = .slice A n c)
    (hown : OwnB w B A n c xs) (hb : Below B a0 w) (hB : B ≤ a0.heap.size) (obj : Obj) (hx : a.eval x = .slice (some ⟨w.heap.size, 0, none⟩) 1 1) (y : UInt8) (hobj : obj = .cells #[.int .u8 (y.toNat : Int)] 5) (hlim : n ≤ 34359738368)
    (h : ∀ A' c' w', OwnB w' B A' (n + 1) c' (xs ++ [y]) → Below B a0 w' → (w.alloc obj).grownBy w' (A.map (·.block)) → K (a.put o.dst (.slice A' (n + 1) c')) w') :
    if Region.wanted o (yielded ops a.tmps) = true then Oper.wp Tryz.prog o a (w.alloc obj) K Q else E' := by
  have hw : Region.wanted o (yielded ops a.tmps) = true := by simp [Region.wanted, hgd]
  rw [if_pos hw]
  exact wp_apb1 w a0 s x ho B A n c xs hs hown hb hB obj hx y hobj hlim h
theorem rdigit_d (c : UInt8) (d : Nat) (hd : d = (digI c).toNat) (w : World) : Calls Tryz.prog 71 #[.int .u8 (c.toNat : Int)] w fun e w' => e = .returned (.int .u8 (d : Int)) ∧ w' = w := by subst hd; exact rdigit_any c w
theorem rtakeEv_l (F : Nat → Prop) (A : Option Addr) (n c : Nat) (l : List UInt8) (w : World) (h : Bs F w A n c l) (hn : n ≤ 2097152) (lo : Option EE) (hlo : lo = takeEvent l) :
    Calls Tryz.prog 8 #[.slice A n c] w (LnPostL lo w) := by
  subst hlo
  refine (rtakeEv_any F A n c l w h hn).mono fun e w' ⟨cs, he, hb, hr⟩ => ?_
  have hr2 := hr
  obtain ⟨Z0, y0, u0, Z1, y1, u1, Z2, y2, u2, Z3, y3, u3, Z4, y4, u4, hcs, _⟩ := hr2
  obtain ⟨k0, k1, k2, k3, k4, hcs2⟩ : ∃ k0 k1 k2 k3 k4, cs = #[.int .i64 k0, .int .i64 k1, .int .i64 k2, .int .i64 k3, .slice Z0 y0 u0, .slice Z1 y1 u1, .int .i64 k4, .slice Z2 y2 u2, .slice Z3 y3 u3, .slice Z4 y4 u4] := ⟨_, _, _, _, _, Array.toList_inj.1 hcs⟩
  subst hcs2
  exact ⟨k0, k1, k2, k3, k4, Z0, y0, u0, Z1, y1, u1, Z2, y2, u2, Z3, y3, u3, Z4, y4, u4, he, hb, hr⟩
theorem rdigits_p (F : Nat → Prop) (A : Option Addr) (n c : Nat) (l : List UInt8) (w : World) (h : Bs F w A n c l) (hn : n ≤ 8589934592) (p : List UInt8) (hp : p = hexOf l) :
    Calls Tryz.prog 72 #[.slice A n c] w fun e w' => e = .returned (.string ⟨p.toArray⟩) ∧ Below w.heap.size w w' := by subst hp; exact rdigits_any F A n c l w h hn

set_option maxRecDepth 100000 in
set_option maxHeartbeats 4000000 in
theorem rline_l (s : List UInt8) (w : World) (hs : s.length ≤ 2097152) (lo : Option EE) (hlo : lo = lineOf s) : Calls Tryz.prog 40 #[.string ⟨s.toArray⟩] w (LnPostL lo w) := by
  obtain ⟨w0, hw0⟩ : ∃ w0, w0 = w.alloc (.cells #[.int .i64 0, .int .i64 0, .int .i64 0, .int .i64 0, .slice none 0 0, .slice none 0 0, .int .i64 0, .slice none 0 0, .slice none 0 0, .slice none 0 0] 29) := ⟨_, rfl⟩
  have hs0 : w0.heap.size = w.heap.size + 1 := by rw [hw0]; simp
  have HNB := Lib.hid (OwnB.new0 w0 w0.heap.size (Nat.le_refl _))
  have HBN := Lib.hid (show Below w0.heap.size w0 (w0.alloc (.cells #[] 5)) from (Below.refl _ _).alloc (Nat.le_refl _) _)
  have HR0 := Lib.hid (show w0.heap[w.heap.size]? = some (.cells #[.int .i64 0, .int .i64 0, .int .i64 0, .int .i64 0, .slice none 0 0, .slice none 0 0, .int .i64 0, .slice none 0 0, .slice none 0 0, .slice none 0 0] 29 (0, 0)) by rw [hw0]; exact heap_alloc_new w _)
  have HG0 := Lib.hid (show Below w.heap.size w w0 by rw [hw0]; exact (Below.refl _ _).alloc (Nat.le_refl _) _)
  have HW0 := Lib.hid hw0; have HS0 := Lib.hid hs0
  have HLO := Lib.hid hlo
  have hlt0 : w.heap.size < w0.heap.size := by omega
  clear hw0 hs0 hlo
  have hsz : (⟨s.toArray⟩ : ByteArray).size = s.length := by show s.toArray.size = _; rw [List.size_toArray]
  have HSZ := Lib.hid hsz
  clear hsz
  go_enter Tryz.func40, Tryz.ntmps40
  go_wp2_with fail
  go_loopw [4, 5] (fun v i wr => ∃ (k j : Nat) (A2 : Option Addr) (m c2 : Nat), j = 2 * k ∧ 2 * k ≤ s.length ∧ i = .int .i64 j ∧ v = .slice A2 m c2 ∧ OwnB wr w0.heap.size A2 m c2 (bsOf s k) ∧ Below w0.heap.size w0 wr)
    (fun _ i _ => s.length - (intOf i).toNat)
  case atStart => rw [← HW0.out]; exact ⟨0, 0, _, 0, 0, rfl, by omega, rfl, by rw [← HS0.out], HNB.out, HBN.out⟩
  case round =>
    clear HNB HBN HW0
    obtain ⟨k, j, A2, m, c2, hj, hk, rfl, rfl, hown, hb⟩ := hrel
    have hm : m = k := by rw [hown.len, bsOf_len]
    subst hm
    have HOWN := Lib.hid hown; have HB := Lib.hid hb; have HJ := Lib.hid hj
    have hwsz := hb.size
    clear hown hb
    by_cases hlt : 2 * m + 1 < s.length
    · obtain ⟨x1, hx1⟩ : ∃ x1, x1 = s[2 * m] := ⟨_, rfl⟩
      obtain ⟨x2, hx2⟩ : ∃ x2, x2 = s[2 * m + 1] := ⟨_, rfl⟩
      obtain ⟨d1, hd1⟩ : ∃ d, d = (digI x1).toNat := ⟨_, rfl⟩
      obtain ⟨d2, hd2⟩ : ∃ d, d = (digI x2).toNat := ⟨_, rfl⟩
      have hdec : decAt s m = decB x1 x2 := by unfold decAt; rw [hx1, hx2]; simp [List.getD_eq_getElem?_getD, List.getElem?_eq_getElem (show 2 * m < s.length by omega), List.getElem?_eq_getElem hlt]
      have hml : m ≤ 1048576 := by omega
      have hjl : j + 1 < s.length := by omega
      have i1 := run_strix s j (by omega) (j : Int) rfl
      have i2 := run_strix s (j + 1) (by omega) ((j : Int) + 1) (by omega)
      have g1 : s[j]'(by omega) = x1 := by subst hj; exact hx1.symm
      have g2 : s[j + 1]'(by omega) = x2 := by subst hj; exact hx2.symm
      rw [g1] at i1; rw [g2] at i2
      have b1 : d1 < 16 := by have := (digI_bd x1).2; omega
      have b2 : d2 < 16 := by have := (digI_bd x2).2; omega
      have hdn : ((decB x1 x2).toNat : Int) = 16 * (d1 : Int) + (d2 : Int) := by unfold decB; rw [← hd1, ← hd2, UInt8.toNat_ofNat']; omega
      have hw1 : IntKind.u8.wrap (16 * (d1 : Int)) = 16 * (d1 : Int) := by rw [IntKind.wrap_u8]; omega
      have hw2 : IntKind.u8.wrap (16 * (d1 : Int) + (d2 : Int)) = 16 * (d1 : Int) + (d2 : Int) := by rw [IntKind.wrap_u8]; omega
      have hw3 : IntKind.i64.wrap ((j : Int) + 1) = (j : Int) + 1 := by rw [IntKind.wrap_i64]; omega
      have hc : (j : Int) + 1 < (s.length : Int) := by omega
      have HD1 := Lib.hid hd1; have HD2 := Lib.hid hd2; have HDEC := Lib.hid hdec; have HDN := Lib.hid hdn
      clear hd1 hd2 hdec hdn hx1 hx2 g1 g2 hj hlt hk
      go_wp2_with fail
      go_region_held3 (fun _ => True)
        (exact trivial)
        (first
          | ((with_reducible refine at_app (.tmp 14) (.tmp 26) _ rfl ?_); refine step_apb1 wr.drew w0 rfl (.tmp 14) (.tmp 26) rfl w0.heap.size A2 m c2 _ rfl (HOWN.out.keepB ((Below.refl _ _).drew)) HB.out.drew (Nat.le_refl _) _ rfl (decB x1 x2) (by rw [HDN.out]) (by omega) ?_; intro A6 c6 w6 h6 hb6 _)
          | (go_at_call_of 71 (Value.int .u8 (x1.toNat : Int)); refine (rdigit_d x1 d1 HD1.out _).mono ?_; rintro e w' ⟨rfl, rfl⟩)
          | (go_at_call 71; refine (rdigit_d x2 d2 HD2.out _).mono ?_; rintro e w' ⟨rfl, rfl⟩)
          | fail)
      all_goals
        go_wp2_with fail
        go_roundw
        case rel => exact ⟨m + 1, j + 2, A6, m + 1, c6, by have := HJ.out; omega, by have := HJ.out; omega, by go_num, rfl, by rw [bsOf_succ, HDEC.out]; exact h6, hb6⟩
        case measure => simp [intOf]; omega
    · have hmm : m = s.length / 2 := by omega
      have hml : m ≤ 1048576 := by omega
      have hc : ¬ (j : Int) + 1 < (s.length : Int) := by omega
      have HMM := Lib.hid hmm
      have hjb : j ≤ 2097152 := by omega
      obtain ⟨p, hp⟩ : ∃ p, p = hexOf (bsOf s m) := ⟨_, rfl⟩
      have HP := Lib.hid hp
      clear hmm hp hlt hj hk
      by_cases heq : p = s
      · have hq : (p == s) = true := by simp [heq]
        have HLT := Lib.hid (show lo = takeEvent (bsOf s m) by
          rw [HLO.out, HMM.out]; exact rline_yes (by rw [← HMM.out, ← HP.out, heq]))
        clear heq
        go_wp2_with (first
          | (go_at_call 72; refine (rdigits_p _ A2 m c2 _ _ HOWN.out.bs (by omega) p HP.out).mono ?_; rintro e w1 ⟨rfl, hb1⟩; have HB1 := Lib.hid (HB.out.trans (hb1.mono hwsz)); have HO1 := Lib.hid (HOWN.out.keepB hb1); have hs1 := hb1.size; clear hb1)
          | (go_at_call 8; refine (rtakeEv_l _ A2 m c2 _ _ HO1.out.bs (by omega) lo HLT.out).mono ?_; rintro e w2 ⟨k0, k1, k2, k3, k4, Z0, y0, u0, Z1, y1, u1, Z2, y2, u2, Z3, y3, u3, Z4, y4, u4, rfl, hb2, hrep⟩; have HB2 := Lib.hid (HB1.out.trans (hb2.mono (by omega))); have HREP := Lib.hid hrep; have hs2 := hb2.size; clear hb2 hrep; have HBK := Lib.hid ((HB2.out.block _ hlt0).trans HR0.out); have z0 : w2.cell? ⟨w.heap.size, 0, none⟩ = some (.int .i64 0) := (by rw [Lib.cell_of_heap HBK.out]; rfl); have z1 : w2.cell? ⟨w.heap.size, 1, none⟩ = some (.int .i64 0) := (by rw [Lib.cell_of_heap HBK.out]; rfl); have z2 : w2.cell? ⟨w.heap.size, 2, none⟩ = some (.int .i64 0) := (by rw [Lib.cell_of_heap HBK.out]; rfl); have z3 : w2.cell? ⟨w.heap.size, 3, none⟩ = some (.int .i64 0) := (by rw [Lib.cell_of_heap HBK.out]; rfl); have z4 : w2.cell? ⟨w.heap.size, 4, none⟩ = some (.slice none 0 0) := (by rw [Lib.cell_of_heap HBK.out]; rfl); have z5 : w2.cell? ⟨w.heap.size, 5, none⟩ = some (.slice none 0 0) := (by rw [Lib.cell_of_heap HBK.out]; rfl); have z6 : w2.cell? ⟨w.heap.size, 6, none⟩ = some (.int .i64 0) := (by rw [Lib.cell_of_heap HBK.out]; rfl); have z7 : w2.cell? ⟨w.heap.size, 7, none⟩ = some (.slice none 0 0) := (by rw [Lib.cell_of_heap HBK.out]; rfl); have z8 : w2.cell? ⟨w.heap.size, 8, none⟩ = some (.slice none 0 0) := (by rw [Lib.cell_of_heap HBK.out]; rfl); have z9 : w2.cell? ⟨w.heap.size, 9, none⟩ = some (.slice none 0 0) := (by rw [Lib.cell_of_heap HBK.out]; rfl); have q0 := Lib.frozen_of_heap HBK.out 0; have q1 := Lib.frozen_of_heap HBK.out 1; have q2 := Lib.frozen_of_heap HBK.out 2; have q3 := Lib.frozen_of_heap HBK.out 3; have q4 := Lib.frozen_of_heap HBK.out 4; have q5 := Lib.frozen_of_heap HBK.out 5; have q6 := Lib.frozen_of_heap HBK.out 6; have q7 := Lib.frozen_of_heap HBK.out 7; have q8 := Lib.frozen_of_heap HBK.out 8; have q9 := Lib.frozen_of_heap HBK.out 9)
          | fail)
        refine bodyPost_ret (results_row2 rfl _ _ w.heap.size 29 #[.int .i64 k0, .int .i64 k1, .int .i64 k2, .int .i64 k3, .slice Z0 y0 u0, .slice Z1 y1 u1, .int .i64 k4, .slice Z2 y2 u2, .slice Z3 y3 u3, .slice Z4 y4 u4] (0, 0) _ rfl (heap_set10 HBK.out) Tryz.underlying29 rfl (by kernel_rfl)) rfl ?_
        have q2 : ¬ (fun b => w1.heap.size ≤ b) w.heap.size := by show ¬ (w1.heap.size ≤ w.heap.size); omega
        exact ⟨k0, k1, k2, k3, k4, Z0, y0, u0, Z1, y1, u1, Z2, y2, u2, Z3, y3, u3, Z4, y4, u4, rfl, below_set10 (HG0.out.trans (HB2.out.mono (by omega))) (Nat.le_refl _), tEE.weaken (ty_set10 tEE HREP.out q2) fun b hb _ => by omega⟩
      · have hq : (p == s) = false := by simpa using heq
        have HLT := Lib.hid (show lo = none by
          rw [HLO.out]; exact rline_no (by rw [← HMM.out, ← HP.out]; exact heq))
        clear heq
        go_wp2_with (first
          | (go_at_call 72; refine (rdigits_p _ A2 m c2 _ _ HOWN.out.bs (by omega) p HP.out).mono ?_; rintro e w1 ⟨rfl, hb1⟩; have HB1 := Lib.hid (HB.out.trans (hb1.mono hwsz)); have hs1 := hb1.size; clear hb1; have HBK := Lib.hid ((HB1.out.block _ hlt0).trans HR0.out); have z0 : w1.cell? ⟨w.heap.size, 0, none⟩ = some (.int .i64 0) := (by rw [Lib.cell_of_heap HBK.out]; rfl); have z1 : w1.cell? ⟨w.heap.size, 1, none⟩ = some (.int .i64 0) := (by rw [Lib.cell_of_heap HBK.out]; rfl); have z2 : w1.cell? ⟨w.heap.size, 2, none⟩ = some (.int .i64 0) := (by rw [Lib.cell_of_heap HBK.out]; rfl); have z3 : w1.cell? ⟨w.heap.size, 3, none⟩ = some (.int .i64 0) := (by rw [Lib.cell_of_heap HBK.out]; rfl); have z4 : w1.cell? ⟨w.heap.size, 4, none⟩ = some (.slice none 0 0) := (by rw [Lib.cell_of_heap HBK.out]; rfl); have z5 : w1.cell? ⟨w.heap.size, 5, none⟩ = some (.slice none 0 0) := (by rw [Lib.cell_of_heap HBK.out]; rfl); have z6 : w1.cell? ⟨w.heap.size, 6, none⟩ = some (.int .i64 0) := (by rw [Lib.cell_of_heap HBK.out]; rfl); have z7 : w1.cell? ⟨w.heap.size, 7, none⟩ = some (.slice none 0 0) := (by rw [Lib.cell_of_heap HBK.out]; rfl); have z8 : w1.cell? ⟨w.heap.size, 8, none⟩ = some (.slice none 0 0) := (by rw [Lib.cell_of_heap HBK.out]; rfl); have z9 : w1.cell? ⟨w.heap.size, 9, none⟩ = some (.slice none 0 0) := (by rw [Lib.cell_of_heap HBK.out]; rfl); have q0 := Lib.frozen_of_heap HBK.out 0; have q1 := Lib.frozen_of_heap HBK.out 1; have q2 := Lib.frozen_of_heap HBK.out 2; have q3 := Lib.frozen_of_heap HBK.out 3; have q4 := Lib.frozen_of_heap HBK.out 4; have q5 := Lib.frozen_of_heap HBK.out 5; have q6 := Lib.frozen_of_heap HBK.out 6; have q7 := Lib.frozen_of_heap HBK.out 7; have q8 := Lib.frozen_of_heap HBK.out 8; have q9 := Lib.frozen_of_heap HBK.out 9)
          | fail)
        refine bodyPost_ret (results_row2 rfl _ _ w.heap.size 29 #[.int .i64 0, .int .i64 0, .int .i64 0, .int .i64 0, .slice none 0 0, .slice none 0 0, .int .i64 0, .slice none 0 0, .slice none 0 0, .slice none 0 0] (0, 0) _ rfl (heap_set10 HBK.out) Tryz.underlying29 rfl (by kernel_rfl)) rfl ?_
        obtain rfl := HLT.out
        exact ⟨0, 0, 0, 0, 0, none, 0, 0, none, 0, 0, none, 0, 0, none, 0, 0, none, 0, 0, rfl, below_set10 (HG0.out.trans (HB1.out.mono (by omega))) (Nat.le_refl _), rep_zero _ _⟩
end Go.Proofs.YtojenpjafgfpaaaGreatDoor
