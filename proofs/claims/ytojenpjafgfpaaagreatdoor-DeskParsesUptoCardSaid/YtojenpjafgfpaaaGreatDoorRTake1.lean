/- The reference 01: Zag, Take. -/
import Derived.Test.YtojenpjafgfpaaaGreatDoorRTakeP
import Derived.Test.YtojenpjafgfpaaaGreatDoorRef2
import Derived.Test.YtojenpjafgfpaaaGreatDoorTake5
import Derived.Test.YtojenpjafgfpaaaGreatDoorOne
namespace Go.Proofs.YtojenpjafgfpaaaGreatDoor
open Go Go.RowKit
attribute [local go_sem ↓] Go.wp_at_zero Go.wp_at_succ

set_option maxRecDepth 100000 in
set_option maxHeartbeats 400000 in
theorem rzag_any (x : Nat) (w : World) (h1 : x < 18446744073709551616) :
    Calls Tryz.prog 20 #[.int .u64 x] w fun e w' => e = .returned (.int .i64 (zagI x)) ∧ w = w' := by
  by_cases hx : x % 2 = 1
  · have hq : (((x : Int) % 2) == 1) = true := by simp; omega
    go_enter Tryz.func20, Tryz.ntmps20
    go_wp2
    go_ret
    exact ⟨ret_int (by unfold zagI; rw [if_pos hx]; omega), rfl⟩
  · have hq : (((x : Int) % 2) == 1) = false := by simp; omega
    go_enter Tryz.func20, Tryz.ntmps20
    go_wp2
    go_ret
    exact ⟨ret_int (by unfold zagI; rw [if_neg hx]; omega), rfl⟩

theorem rvput0 (p : List UInt8) (x : Nat) (w : World) (hx : x < 18446744073709551616) (hp : p = vput x) : Calls Tryz.prog 79 #[.slice none 0 0, .int .u64 (x : Int)] w (Own1 w p) := by
  have := rvput_any (fun _ => True) none 0 0 [] x w (Sl.nil_ _ _ _) (by omega) hx
  rw [List.nil_append, ← hp] at this
  exact this
theorem ba_ne {a b : List UInt8} (h : a ≠ b) : ¬ (⟨a.toArray⟩ : ByteArray) = ⟨b.toArray⟩ := fun e => h (by have := congrArg (fun s : ByteArray => s.data.toList) e; simpa using this)
theorem hz_step (H : Nat) (c : UInt8) : IntKind.u64.wrap (IntKind.u64.wrap (128 * ((H % 18446744073709551616 : Nat) : Int)) + (c.toNat : Int) % 128) = (((c.toNat % 128 + 128 * H) % 18446744073709551616 : Nat) : Int) := by
  rw [IntKind.wrap_u64, IntKind.wrap_u64]; omega

set_option maxRecDepth 100000 in
set_option maxHeartbeats 2000000 in
theorem rvtake_any (F : Nat → Prop) (A : Option Addr) (n c : Nat) (l : List UInt8) (w : World) (h : Bs F w A n c l) (hn : n ≤ 4294967296) :
    Calls Tryz.prog 52 #[.slice A n c] w (TkPost l w) := by
  have HL := Lib.hid h.len
  have HH := Lib.hid h
  go_enter Tryz.func52, Tryz.ntmps52
  go_wp2_with fail
  go_loop [5] (fun i => ∃ k : Nat, i = .int .i64 k ∧ Stands l k) (fun i => n - (intOf i).toNat)
  case atStart => exact ⟨0, rfl, fun _ _ h => absurd h (Nat.not_lt_zero _), Nat.zero_le _, Nat.zero_le _⟩
  case round =>
    obtain ⟨k, rfl, hst⟩ := hrel
    have hk9 : k ≤ 9 := hst.2.1
    have hkn : k ≤ n := by have := hst.2.2; rw [← HL.out] at this; exact this
    have HST := Lib.hid hst; clear hst
    by_cases hlt : k < n
    · have hkl : k < l.length := by rw [← HL.out]; exact hlt
      obtain ⟨b, o, rfl, _, hbl, hc⟩ := bs_at h hkl
      obtain ⟨y, hy⟩ : ∃ y, y = l[k] := ⟨_, rfl⟩
      rw [← hy] at hc
      have HY := Lib.hid hy; clear hy
      have hi1 : (0 : Int) ≤ (k : Int) := by omega
      have hi2 : (k : Int) < (n : Int) := by omega
      by_cases hgo : k < 9 ∧ 128 ≤ y.toNat
      · obtain ⟨hg1, hg2⟩ := hgo
        have hg3 : (k : Int) < 9 := by omega
        have hg4 : (128 : Int) ≤ (y.toNat : Int) := by omega
        clear h
        go_wp2_with fail
        go_round
        case rel =>
          refine ⟨k + 1, by go_num, fun i hi hik => ?_, by omega, by rw [← HL.out]; omega⟩
          rcases Nat.lt_or_ge i k with h1 | h1
          · exact HST.out.1 i hi h1
          · have : i = k := by omega
            subst this
            rw [← HY.out]; exact hg2
        case measure => simp [intOf]; omega
      · have hx9 : k = 9 ∨ (l[k]'hkl).toNat < 128 := by rw [← HY.out]; omega
        have HX9 := Lib.hid hx9; clear hx9
        have hsp : (k = 9) ∨ (k < 9 ∧ y.toNat < 128) := by omega
        clear hgo
        have hcap := h.2.1
        have hk1 : k + 1 ≤ n := by omega
        have hge : ¬ n ≤ k := by omega
        rcases hsp with h9 | ⟨h9, hy9⟩
        all_goals
          first
            | (have hg3 : ¬ (k : Int) < 9 := (by omega); have hd3 : decide ((k : Int) < 9) = false := (by simp; omega))
            | (have hg3 : (k : Int) < 9 := (by omega); have hg4 : ¬ (128 : Int) ≤ (y.toNat : Int) := (by omega); have hd4 : decide ((128 : Int) ≤ (y.toNat : Int)) = false := (by simp; omega))
          have H9 := Lib.hid h9; clear h9 h
          go_wp2_with fail
          obtain ⟨q, hq⟩ : ∃ q, q = l.take (k + 1) := ⟨_, rfl⟩
          have HQ := Lib.hid hq; clear hq
          have hql : q.length = k + 1 := by rw [HQ.out, List.length_take]; have := HL.out; omega
          have HQL := Lib.hid hql; clear hql
          go_loop [6, 7] (fun x i => ∃ t : Nat, t ≤ k + 1 ∧ i = .int .i64 ((t : Int) - 1) ∧ x = .int .u64 ((hz (q.drop t) % 18446744073709551616 : Nat) : Int)) (fun _ i => (intOf i + 1).toNat)
          case atStart => exact ⟨k + 1, Nat.le_refl _, by go_num, by rw [List.drop_of_length_le (by rw [HQL.out]; exact Nat.le_refl _)]; rfl⟩
          case round =>
            obtain ⟨t, ht, rfl, rfl⟩ := hrel
            cases t with
            | succ t =>
              rw [show (((t + 1 : Nat) : Int) - 1) = (t : Int) by omega]
              have htl : t < l.length := by have := HL.out; omega
              obtain ⟨b', o', hA, _, hbl', hc'⟩ := bs_at HH.out htl
              injection hA with hA; injection hA with hA1 hA2; subst hA1 hA2
              obtain ⟨z, hz'⟩ : ∃ z, z = l[t] := ⟨_, rfl⟩
              rw [← hz'] at hc'
              have hdr : q.drop t = z :: q.drop (t + 1) := by
                have hqt : t < q.length := by rw [HQL.out]; omega
                rw [List.drop_eq_getElem_cons hqt, hz']
                congr 1
                have e1 : q[t]? = l[t]? := by rw [HQ.out, List.getElem?_take, if_pos (by omega)]
                rw [List.getElem?_eq_getElem hqt, List.getElem?_eq_getElem htl] at e1
                exact Option.some.inj e1
              have hst := hz_step (hz (q.drop (t + 1))) z
              have HDR := Lib.hid hdr; have HSTP := Lib.hid hst
              have hj1 : (0 : Int) ≤ (t : Int) := by omega
              have hj2 : (t : Int) < (n : Int) := by omega
              clear hdr hst hz'
              go_wp2_with fail
              go_round
              case rel => exact ⟨t, by omega, rfl, by rw [HDR.out]; simp only [hz]; rw [← HSTP.out, Int.natCast_emod]; rfl⟩
              case measure => simp [intOf]
            | zero =>
              rw [show (((0 : Nat) : Int) - 1) = -1 by rfl, List.drop_zero]
              obtain ⟨x, hx⟩ : ∃ x, x = hz q % 18446744073709551616 := ⟨_, rfl⟩
              have hxl : x < 18446744073709551616 := by rw [hx]; exact Nat.mod_lt _ (by omega)
              rw [← hx]
              have HX := Lib.hid hx; clear hx
              have hs1 := Sl.front HH.out hk1
              rw [← HQ.out] at hs1
              have HS1 := Lib.hid hs1
              have hcv : (convert 30 9 (.slice (some ⟨b, o, none⟩) (k + 1) c)).run Tryz.prog w = .ok (.string ⟨q.toArray⟩) w := run_bs hs1
              have hkc : k + 1 ≤ c := by omega
              have hw1 : IntKind.i64.wrap ((k : Int) + 1) = (k : Int) + 1 := by rw [IntKind.wrap_i64]; omega
              have hw2 : (0 : Int) ≤ (k : Int) + 1 := by omega
              have hw3 : ((k : Int) + 1).toNat = k + 1 := by omega
              have hw4 : (k : Int) + 1 ≤ (c : Int) := by omega
              clear hs1
              by_cases heq : vput x = q
              · have hv := rtake_yes hxl (heq.trans HQ.out)
                have HV := Lib.hid hv; have HEQ := Lib.hid heq.symm
                clear hv heq
                go_wp2_with fail
                refine wp_region_held_drew (S := (fun w' => (convert 30 9 (.slice (some ⟨b, o, none⟩) (k + 1) c)).run Tryz.prog w' = .ok (.string ⟨q.toArray⟩) w')) (by kernel_rfl) ?_ (fun hHeld => ?_)
                · ((try dsimp only); (first | go_keep | exact run_bs (HS1.out.drew) | exact run_bs ((HS1.out.drew).below hb1 (Nat.le_refl _))))
                (refine wpAnyH_take (i := 0) (oi := ⟨_, _, _, _, _, _⟩) (v := ?_) rfl (by kernel_rfl) (by kernel_rfl) (by kernel_rfl) (fun _ _ _ h => h) (Or.inl ⟨by rfl, ?_⟩) (by assumption) ?_; rotate_left; · (intro w hSw; (try dsimp only at hSw); go_simp; try with_reducible rfl)); (try simp only [Act.put]); (try simp only [List.setIfInBounds_toArray]); (try simp only [List.set_cons_succ]); (try simp only [List.set_cons_zero])
                (refine wpAnyH_take (i := 3) (oi := ⟨_, _, _, _, _, _⟩) (v := ?_) rfl (by kernel_rfl) (by kernel_rfl) (by kernel_rfl) (fun _ _ _ h => h) (Or.inl ⟨by rfl, ?_⟩) (by assumption) ?_; rotate_left; · (intro w hSw; (try dsimp only at hSw); go_simp; try with_reducible rfl)); (try simp only [Act.put]); (try simp only [List.setIfInBounds_toArray]); (try simp only [List.set_cons_succ]); (try simp only [List.set_cons_zero])
                (refine wpAnyH_take (i := 4) (oi := ⟨_, _, _, _, _, _⟩) (v := ?_) rfl (by kernel_rfl) (by kernel_rfl) (by kernel_rfl) (fun _ _ _ h => h) (Or.inl ⟨by rfl, ?_⟩) (by assumption) ?_; rotate_left; · (intro w hSw; (try dsimp only at hSw); go_simp; try with_reducible rfl)); (try simp only [Act.put]); (try simp only [List.setIfInBounds_toArray]); (try simp only [List.set_cons_succ]); (try simp only [List.set_cons_zero])
                (refine wpAnyH_take (i := 5) (oi := ⟨_, _, _, _, _, _⟩) (v := ?_) rfl (by kernel_rfl) (by kernel_rfl) (by kernel_rfl) (fun _ _ _ h => h) (Or.inl ⟨by rfl, ?_⟩) (by assumption) ?_; rotate_left; · (intro w hSw; (try dsimp only at hSw); go_simp; try with_reducible rfl)); (try simp only [Act.put]); (try simp only [List.setIfInBounds_toArray]); (try simp only [List.set_cons_succ]); (try simp only [List.set_cons_zero])
                (refine wpAnyH_take (i := 6) (oi := ⟨_, _, _, _, _, _⟩) (v := ?_) rfl (by kernel_rfl) (by kernel_rfl) (by kernel_rfl) (fun _ _ _ h => h) (Or.inl ⟨by rfl, ?_⟩) (by assumption) ?_; rotate_left; · (intro w hSw; (try dsimp only at hSw); go_simp; try with_reducible rfl)); (try simp only [Act.put]); (try simp only [List.setIfInBounds_toArray]); (try simp only [List.set_cons_succ]); (try simp only [List.set_cons_zero])
                (refine wpAnyH_take (i := 7) (oi := ⟨_, _, _, _, _, _⟩) (v := ?_) rfl (by kernel_rfl) (by kernel_rfl) (by kernel_rfl) (fun _ _ _ h => h) (Or.inl ⟨by rfl, ?_⟩) (by assumption) ?_; rotate_left; · (intro w hSw; (try dsimp only at hSw); go_simp; try with_reducible rfl)); (try simp only [Act.put]); (try simp only [List.setIfInBounds_toArray]); (try simp only [List.set_cons_succ]); (try simp only [List.set_cons_zero])
                refine wpAnyH_ready (rs := [1]) (by kernel_rfl) (by simp) ?_
                refine AllReadyH.cons (o := ⟨_, _, _, _, _, _⟩) rfl (fun K hK => ?_) ?_
                · (go_simp; ((go_at_call 79; refine (rvput0 q x _ hxl HEQ.out).mono ?_; rintro e w1 ⟨A1, n1, c1, rfl, hown1, hb1⟩; have hcv1 := run_bs hown1.bs)))
                  refine hK.out _ _ ?_ (fun hHeld => ?_)
                  · ((try dsimp only); (first | go_keep | exact run_bs (HS1.out.drew) | exact run_bs ((HS1.out.drew).below hb1 (Nat.le_refl _))))
                  clear hK K; (try simp only [Act.put]); (try simp only [List.setIfInBounds_toArray]); (try simp only [List.set_cons_succ]); (try simp only [List.set_cons_zero])
                  refine wpAnyH_ready (rs := [2]) (by kernel_rfl) (by simp) ?_
                  refine AllReadyH.cons (o := ⟨_, _, _, _, _, _⟩) rfl (fun K hK => ?_) ?_
                  · go_simp
                    refine hK.out _ _ ?_ (fun hHeld => ?_)
                    · ((try dsimp only); (first | go_keep | exact run_bs (HS1.out.drew) | exact run_bs ((HS1.out.drew).below hb1 (Nat.le_refl _))))
                    clear hK K; (try simp only [Act.put]); (try simp only [List.setIfInBounds_toArray]); (try simp only [List.set_cons_succ]); (try simp only [List.set_cons_zero])
                    (refine wpAnyH_take (i := 8) (oi := ⟨_, _, _, _, _, _⟩) (v := ?_) rfl (by kernel_rfl) (by kernel_rfl) (by kernel_rfl) (fun _ _ _ h => h) (Or.inl ⟨by rfl, ?_⟩) (by assumption) ?_; rotate_left; · (intro w hSw; (try dsimp only at hSw); go_simp; try with_reducible rfl)); (try simp only [Act.put]); (try simp only [List.setIfInBounds_toArray]); (try simp only [List.set_cons_succ]); (try simp only [List.set_cons_zero])
                    refine wpAnyH_done (by kernel_rfl) ?_ _
                    have HB1 := Lib.hid (show Below w.heap.size w w1 from (show Below w.heap.size w w.drew from (Below.refl _ _).drew).trans hb1)
                    have hsl := HH.out.cut (lo := k + 1) (hi := n) (by omega) (Nat.le_refl _)
                    rw [List.take_of_length_le (by rw [← HL.out]; exact Nat.le_refl _)] at hsl
                    have HSL := Lib.hid hsl
                    have HNEW := Lib.hid (OwnB.new0 w1 w.heap.size HB1.out.size)
                    clear hsl hown1 hb1 hcv1
                    by_cases hck : c = k + 1
                    · have hs2 := HSL.out
                      rw [if_pos hck, show c - (k + 1) = 0 by omega] at hs2
                      have HS2 := Lib.hid ((hs2.below HB1.out (Nat.le_refl _)).alloc (.cells #[] 5)); clear hs2
                      go_wp2_with (first
                        | (at_builtin; refine apb (w1.alloc (.cells #[] 5)) w rfl (.tmp 53) (.tmp 57) rfl w.heap.size (some ⟨w1.heap.size, 0, none⟩) 0 0 [] rfl HNEW.out (HB1.out.alloc HB1.out.size _) (Nat.le_refl _) _ _ _ _ (l.drop (k + 1)) rfl HS2.out (by omega) ?_; intro A6 c6 w6 h6 hb6 _)
                        | fail)
                      go_ret3
                      exact ⟨x, A6, _, c6, by rw [HV.out]; rfl, hb6, fun v r hv => by rw [HV.out] at hv; injection hv with hv; injection hv with h1 h2; subst h1 h2; exact ⟨rfl, hxl, by simpa using h6⟩⟩
                    · have hs2 := HSL.out
                      rw [if_neg hck, Option.map_some, add_lit, show (k + 1) * tU8.size = k + 1 from Nat.mul_one _] at hs2
                      have HS2 := Lib.hid ((hs2.below HB1.out (Nat.le_refl _)).alloc (.cells #[] 5)); clear hs2
                      go_wp2_with (first
                        | (at_builtin; refine apb (w1.alloc (.cells #[] 5)) w rfl (.tmp 53) (.tmp 57) rfl w.heap.size (some ⟨w1.heap.size, 0, none⟩) 0 0 [] rfl HNEW.out (HB1.out.alloc HB1.out.size _) (Nat.le_refl _) _ _ _ _ (l.drop (k + 1)) rfl HS2.out (by omega) ?_; intro A6 c6 w6 h6 hb6 _)
                        | fail)
                      go_ret3
                      exact ⟨x, A6, _, c6, by rw [HV.out]; rfl, hb6, fun v r hv => by rw [HV.out] at hv; injection hv with hv; injection hv with h1 h2; subst h1 h2; exact ⟨rfl, hxl, by simpa using h6⟩⟩
                  exact AllReadyH.nil
                exact AllReadyH.nil
              · have hv := rtake_no HST.out hkl HX9.out (by rw [← HQ.out, ← HX.out]; exact heq)
                have HN := Lib.hid hv
                obtain ⟨p, hp⟩ : ∃ p, p = vput x := ⟨_, rfl⟩
                have HP := Lib.hid hp
                have hpq : (p == q) = false := beq_eq_false_iff_ne.2 (by rw [hp]; exact heq)
                clear hv heq hp
                go_wp2_with fail
                refine wp_region_held_drew (S := (fun w' => (convert 30 9 (.slice (some ⟨b, o, none⟩) (k + 1) c)).run Tryz.prog w' = .ok (.string ⟨q.toArray⟩) w')) (by kernel_rfl) ?_ (fun hHeld => ?_)
                · ((try dsimp only); (first | go_keep | exact run_bs (HS1.out.drew) | exact run_bs ((HS1.out.drew).below hb1 (Nat.le_refl _))))
                (refine wpAnyH_take (i := 0) (oi := ⟨_, _, _, _, _, _⟩) (v := ?_) rfl (by kernel_rfl) (by kernel_rfl) (by kernel_rfl) (fun _ _ _ h => h) (Or.inl ⟨by rfl, ?_⟩) (by assumption) ?_; rotate_left; · (intro w hSw; (try dsimp only at hSw); go_simp; try with_reducible rfl)); (try simp only [Act.put]); (try simp only [List.setIfInBounds_toArray]); (try simp only [List.set_cons_succ]); (try simp only [List.set_cons_zero])
                (refine wpAnyH_take (i := 3) (oi := ⟨_, _, _, _, _, _⟩) (v := ?_) rfl (by kernel_rfl) (by kernel_rfl) (by kernel_rfl) (fun _ _ _ h => h) (Or.inl ⟨by rfl, ?_⟩) (by assumption) ?_; rotate_left; · (intro w hSw; (try dsimp only at hSw); go_simp; try with_reducible rfl)); (try simp only [Act.put]); (try simp only [List.setIfInBounds_toArray]); (try simp only [List.set_cons_succ]); (try simp only [List.set_cons_zero])
                (refine wpAnyH_take (i := 4) (oi := ⟨_, _, _, _, _, _⟩) (v := ?_) rfl (by kernel_rfl) (by kernel_rfl) (by kernel_rfl) (fun _ _ _ h => h) (Or.inl ⟨by rfl, ?_⟩) (by assumption) ?_; rotate_left; · (intro w hSw; (try dsimp only at hSw); go_simp; try with_reducible rfl)); (try simp only [Act.put]); (try simp only [List.setIfInBounds_toArray]); (try simp only [List.set_cons_succ]); (try simp only [List.set_cons_zero])
                (refine wpAnyH_take (i := 5) (oi := ⟨_, _, _, _, _, _⟩) (v := ?_) rfl (by kernel_rfl) (by kernel_rfl) (by kernel_rfl) (fun _ _ _ h => h) (Or.inl ⟨by rfl, ?_⟩) (by assumption) ?_; rotate_left; · (intro w hSw; (try dsimp only at hSw); go_simp; try with_reducible rfl)); (try simp only [Act.put]); (try simp only [List.setIfInBounds_toArray]); (try simp only [List.set_cons_succ]); (try simp only [List.set_cons_zero])
                (refine wpAnyH_take (i := 6) (oi := ⟨_, _, _, _, _, _⟩) (v := ?_) rfl (by kernel_rfl) (by kernel_rfl) (by kernel_rfl) (fun _ _ _ h => h) (Or.inl ⟨by rfl, ?_⟩) (by assumption) ?_; rotate_left; · (intro w hSw; (try dsimp only at hSw); go_simp; try with_reducible rfl)); (try simp only [Act.put]); (try simp only [List.setIfInBounds_toArray]); (try simp only [List.set_cons_succ]); (try simp only [List.set_cons_zero])
                (refine wpAnyH_take (i := 7) (oi := ⟨_, _, _, _, _, _⟩) (v := ?_) rfl (by kernel_rfl) (by kernel_rfl) (by kernel_rfl) (fun _ _ _ h => h) (Or.inl ⟨by rfl, ?_⟩) (by assumption) ?_; rotate_left; · (intro w hSw; (try dsimp only at hSw); go_simp; try with_reducible rfl)); (try simp only [Act.put]); (try simp only [List.setIfInBounds_toArray]); (try simp only [List.set_cons_succ]); (try simp only [List.set_cons_zero])
                refine wpAnyH_ready (rs := [1]) (by kernel_rfl) (by simp) ?_
                refine AllReadyH.cons (o := ⟨_, _, _, _, _, _⟩) rfl (fun K hK => ?_) ?_
                · (go_simp; ((go_at_call 79; refine (rvput0 p x _ hxl HP.out).mono ?_; rintro e w1 ⟨A1, n1, c1, rfl, hown1, hb1⟩; have hcv1 := run_bs hown1.bs)))
                  refine hK.out _ _ ?_ (fun hHeld => ?_)
                  · ((try dsimp only); (first | go_keep | exact run_bs (HS1.out.drew) | exact run_bs ((HS1.out.drew).below hb1 (Nat.le_refl _))))
                  clear hK K; (try simp only [Act.put]); (try simp only [List.setIfInBounds_toArray]); (try simp only [List.set_cons_succ]); (try simp only [List.set_cons_zero])
                  refine wpAnyH_ready (rs := [2]) (by kernel_rfl) (by simp) ?_
                  refine AllReadyH.cons (o := ⟨_, _, _, _, _, _⟩) rfl (fun K hK => ?_) ?_
                  · go_simp
                    refine hK.out _ _ ?_ (fun hHeld => ?_)
                    · ((try dsimp only); (first | go_keep | exact run_bs (HS1.out.drew) | exact run_bs ((HS1.out.drew).below hb1 (Nat.le_refl _))))
                    clear hK K; (try simp only [Act.put]); (try simp only [List.setIfInBounds_toArray]); (try simp only [List.set_cons_succ]); (try simp only [List.set_cons_zero])
                    (refine wpAnyH_take (i := 8) (oi := ⟨_, _, _, _, _, _⟩) (v := ?_) rfl (by kernel_rfl) (by kernel_rfl) (by kernel_rfl) (fun _ _ _ h => h) (Or.inl ⟨by rfl, ?_⟩) (by assumption) ?_; rotate_left; · (intro w hSw; (try dsimp only at hSw); go_simp; try with_reducible rfl)); (try simp only [Act.put]); (try simp only [List.setIfInBounds_toArray]); (try simp only [List.set_cons_succ]); (try simp only [List.set_cons_zero])
                    refine wpAnyH_done (by kernel_rfl) ?_ _
                    have HB1 := Lib.hid (show Below w.heap.size w w1 from (show Below w.heap.size w w.drew from (Below.refl _ _).drew).trans hb1)
                    clear hown1 hb1 hcv1
                    go_wp2_with fail
                    go_ret3
                    exact ⟨0, none, 0, 0, by rw [HN.out]; rfl, HB1.out, by rw [HN.out]; simp⟩
                  exact AllReadyH.nil
                exact AllReadyH.nil
    · obtain rfl : k = n := by omega
      have hN := stands_end HST.out HL.out
      have HN := Lib.hid hN; clear hN
      go_wp2_with fail
      go_ret3
      exact ⟨0, none, 0, 0, by rw [HN.out]; rfl, Below.refl _ _, by rw [HN.out]; simp⟩
end Go.Proofs.YtojenpjafgfpaaaGreatDoor
