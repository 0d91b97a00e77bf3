/- The references 01 and 19: Put and Zig compute what the layers varint and wire do. -/
import Derived.Test.YtojenpjafgfpaaaGreatDoorDesk3
namespace Go.Proofs.YtojenpjafgfpaaaGreatDoor
open Go Go.RowKit
attribute [local go_sem ↓] Go.wp_at_zero Go.wp_at_succ

theorem byte_moreR2 (x : Nat) : (x : Int) % 128 + 128 = ((UInt8.ofNat (x % 128 + 128)).toNat : Int) := by
  rw [UInt8.toNat_ofNat']; omega
/-- []byte{}: a row of its own, empty. -/
theorem OwnB.new0 (w : World) (B : Nat) (hB : B ≤ w.heap.size) : OwnB (w.alloc (.cells #[] 5)) B (some ⟨w.heap.size, 0, none⟩) 0 0 [] := by
  have := World.ownsRow_lit (base := B) (e := 5) (size := 1) w #[] 0 hB (by simp [maxLen]) (by simp)
  simpa [OwnB, bvs] using this

set_option maxRecDepth 100000 in
set_option maxHeartbeats 1000000 in
theorem rvput_any (F : Nat → Prop) (A : Option Addr) (n c : Nat) (bs : List UInt8) (x : Nat) (w : World) (h : Bs F w A n c bs) (hn : n ≤ 4294967200) (hx : x < 18446744073709551616) :
    Calls Tryz.prog 79 #[.slice A n c, .int .u64 (x : Int)] w (Own1 w (bs ++ vput x)) := by
  have HN := Lib.hid h.len
  have HNEW := Lib.hid (OwnB.new0 w w.heap.size (Nat.le_refl _))
  have HB0 := Lib.hid (show Below w.heap.size w (w.alloc (.cells #[] 5)) from (Below.refl _ _).alloc (Nat.le_refl _) _)
  have HSRC := Lib.hid (Sl.alloc h (.cells #[] 5))
  clear h
  go_enter Tryz.func79, Tryz.ntmps79
  go_wp2_with (at_builtin; refine apb (w.alloc (.cells #[] 5)) w rfl (.tmp 6) (.tmp 7) rfl w.heap.size (some ⟨w.heap.size, 0, none⟩) 0 0 [] rfl HNEW.out HB0.out (Nat.le_refl _) F A n c bs rfl HSRC.out (by omega) ?_; intro A1 c1 w1 h1 hb1 _)
  have H1 := Lib.hid h1; have HB1 := Lib.hid hb1
  clear h1 hb1 HNEW HB0 HSRC
  go_loopw [5, 1] (fun v xv wr => ∃ (f x' : Nat) (L : List UInt8) (A2 : Option Addr) (m c2 : Nat), m + f ≤ n + 9 ∧ xv = .int .u64 (x' : Int) ∧ v = .slice A2 m c2 ∧ OwnB wr w.heap.size A2 m c2 L ∧ L ++ vputF f x' = bs ++ vput x ∧ x' < 128 ^ (f + 1) ∧ x' < 18446744073709551616 ∧ Below w.heap.size w wr)
    (fun _ xv _ => (intOf xv).toNat)
  case atStart => exact ⟨9, x, bs, A1, n, c1, by omega, rfl, rfl, by have := H1.out; simpa using this, rfl, by omega, hx, HB1.out⟩
  case round =>
    obtain ⟨f, x', L, A2, m, c2, hm, rfl, rfl, hown, heq, hlt, hlt2, hb⟩ := hrel
    have HE := Lib.hid heq; have HO := Lib.hid hown; have HL := Lib.hid hlt
    clear heq hown hlt
    have hsz := hb.size
    by_cases hx' : x' < 128
    · have HLAST := Lib.hid (byte_last x')
      go_wp2_with (at_builtin; refine apb1 wr w rfl (.tmp 20) (.tmp 23) rfl w.heap.size A2 m c2 L rfl HO.out hb (Nat.le_refl _) _ rfl (UInt8.ofNat x') (by rw [← HLAST.out, IntKind.wrap_u8, show (x' : Int) % 256 = (x' : Int) by omega]) (by omega) ?_; intro A3 c3 w3 h3 hb3 _)
      go_ret
      refine ⟨A3, m + 1, c3, rfl, ?_, hb3⟩
      have hfin : L ++ [UInt8.ofNat x'] = bs ++ vput x := by
        rw [← HE.out]
        cases f <;> simp [vputF, hx']
      rw [← hfin]; exact h3
    · have HM := Lib.hid (byte_moreR2 x')
      go_wp2_with (at_builtin; refine apb1 wr w rfl (.tmp 11) (.tmp 16) rfl w.heap.size A2 m c2 L rfl HO.out hb (Nat.le_refl _) _ rfl (UInt8.ofNat (x' % 128 + 128)) (by rw [← HM.out]) (by omega) ?_; intro A3 c3 w3 h3 hb3 _)
      go_roundw
      case rel =>
        obtain ⟨f, rfl⟩ : ∃ f', f = f' + 1 := by
          cases f with
          | zero => have := HL.out; omega
          | succ f => exact ⟨f, rfl⟩
        have hlt := HL.out
        refine ⟨f, x' / 128, L ++ [UInt8.ofNat (x' % 128 + 128)], A3, m + 1, c3, by omega, by go_num, rfl, h3, ?_, ?_, by omega, hb3⟩
        · rw [← HE.out]
          simp [vputF, hx']
        · rw [Nat.pow_succ] at hlt; exact Nat.div_lt_of_lt_mul (by omega)
      case measure => simp [intOf]; omega

set_option maxRecDepth 100000 in
set_option maxHeartbeats 400000 in
theorem rzig_any (x : Int) (w : World) (h0 : -9223372036854775808 ≤ x) (h1 : x ≤ 9223372036854775807) :
    Calls Tryz.prog 61 #[.int .i64 x] w fun e w' => e = .returned (.int .u64 (zigN x : Nat)) ∧ w = w' := by
  by_cases hx : x < 0
  · go_enter Tryz.func61, Tryz.ntmps61
    go_wp2
    go_ret
    refine ⟨ret_int ?_, rfl⟩
    unfold zigN; split <;> omega
  · go_enter Tryz.func61, Tryz.ntmps61
    go_wp2
    go_ret
    refine ⟨ret_int ?_, rfl⟩
    unfold zigN; split <;> omega
theorem rvput_int (F : Nat → Prop) (A : Option Addr) (n c : Nat) (bs : List UInt8) (x : Int) (w : World) (h : Bs F w A n c bs) (hn : n ≤ 4294967200) (h0 : 0 ≤ x) (hx : x < 18446744073709551616) :
    Calls Tryz.prog 79 #[.slice A n c, .int .u64 x] w (Own1 w (bs ++ vput x.toNat)) := by
  obtain ⟨k, rfl⟩ := Int.eq_ofNat_of_zero_le h0
  rw [Int.toNat_natCast]
  exact rvput_any F A n c bs k w h hn (by omega)

set_option maxRecDepth 100000 in
set_option maxHeartbeats 2000000 in
theorem rwput_any (F : Nat → Prop) (A : Option Addr) (n c : Nat) (l : List Fld) (w : World) (h : Sl tFld F w A n c l) (hlen : n ≤ 4294967296) (hl : wlen l ≤ 4294967200) :
    Calls Tryz.prog 62 #[.slice A n c] w (PutPost l w) := by
  have HL := Lib.hid h.len
  have HNEW := Lib.hid (OwnB.new0 w w.heap.size (Nat.le_refl _))
  have HB0 := Lib.hid (show Below w.heap.size w (w.alloc (.cells #[] 5)) from (Below.refl _ _).alloc (Nat.le_refl _) _)
  go_enter Tryz.func62, Tryz.ntmps62
  go_wp2
  go_loopw [4, 5] (fun v i wr => ∃ (k : Nat) (L : List UInt8) (A2 : Option Addr) (m c2 : Nat), k ≤ n ∧ i = .int .i64 k ∧ v = .slice A2 m c2 ∧ OwnB wr w.heap.size A2 m c2 L ∧ wput (l.take k) = some L ∧ Below w.heap.size w wr)
    (fun _ i _ => n - (intOf i).toNat)
  case atStart => exact ⟨0, [], _, 0, 0, Nat.zero_le _, rfl, rfl, HNEW.out, by simp [wput], HB0.out⟩
  case round =>
    obtain ⟨k, L, A2, m, c2, hk, rfl, rfl, hown, hL, hb⟩ := hrel
    clear HNEW HB0
    by_cases hlt : k < n
    · have hkl : k < l.length := by rw [← HL.out]; exact hlt
      have HO := Lib.hid hown; have HW := Lib.hid hL; have HBR := Lib.hid hb
      have hsz := hb.size
      obtain ⟨b, o, cs, rfl, _, hbl, hrep, hc⟩ := (h.below hb (Nat.le_refl _)).at_ hkl (by decide)
      clear hown hL hb
      obtain ⟨A3, n3, c3, rfl, ht, hn3, hs3⟩ := hrep
      obtain ⟨f, hf⟩ : ∃ f, f = l[k] := ⟨_, rfl⟩
      rw [← hf] at hc ht hn3 hs3
      have HF := Lib.hid hf; clear hf
      obtain ⟨g0, g1, g2, g3⟩ := cells4 hc
      clear hc
      obtain ⟨ht0, ht1⟩ := ht
      obtain ⟨wb, hwb, hB, hC, hS, hK⟩ := boxed wr [.int .i64 f.tag, .bool f.bytes, .int .u64 (f.n : Int), .slice A3 n3 c3] 68
      have HBB := Lib.hid hB; have HC := Lib.hid hC; have HSZ := Lib.hid hS; have HS3 := Lib.hid (hK hs3); have HS1 := Lib.hid (Sl.any (hK HO.out.bs))
      have HOB := Lib.hid (HO.out.keepB hB)
      have H3L := Lib.hid hs3.len
      have HWB := Lib.hid hwb; clear hwb hB hC hS hK hs3
      by_cases htag : 1 ≤ f.tag ∧ f.tag ≤ 100
      · obtain ⟨tag, isb, fn, fb⟩ := f
        dsimp only at *
        obtain ⟨t, rfl⟩ := Int.eq_ofNat_of_zero_le (show 0 ≤ tag by omega)
        have htl : (t : Int) ≤ 100 := htag.2
        have htg : (1 : Int) ≤ (t : Int) := htag.1
        clear htag
        have hwl := wlen_take l k hkl
        rw [← HF.out] at hwl
        dsimp only at hwl
        have hLl : L.length ≤ wlen (l.take k) := wput_len _ _ HW.out
        have hml := HO.out.len
        have h3l := H3L.out
        have hb1 : m + n3 + 20 ≤ 4294967200 := by omega
        have HM := Lib.hid hml
        clear hml h3l hLl hwl
        have hfin : ∀ (w' : World) (A' : Option Addr) (m' c' : Nat) (x : List UInt8), x = fld ⟨(t : Int), isb, fn, fb⟩ → OwnB w' w.heap.size A' m' c' (L ++ x) → Below w.heap.size w w' →
            ∃ (k' : Nat) (L' : List UInt8) (A'' : Option Addr) (m'' c'' : Nat), k' ≤ n ∧ Value.int .i64 ((k : Int) + 1) = .int .i64 k' ∧ Value.slice A' m' c' = .slice A'' m'' c'' ∧ OwnB w' w.heap.size A'' m'' c'' L' ∧ wput (l.take k') = some L' ∧ Below w.heap.size w w' := by
          intro w' A' m' c' x hx ho hbl'
          refine ⟨k + 1, L ++ x, A', m', c', by omega, by go_num, rfl, ho, ?_, hbl'⟩
          rw [List.take_succ_eq_append_getElem hkl, ← HF.out, hx]
          exact wput_snoc _ _ _ HW.out (by simp [tagOk]; omega)
        have HFIN := Lib.hid hfin
        clear hfin
        cases isb
        · go_wp2_with (first
            | (go_at_call_of 79 (Value.slice A2 m c2); rw [← HWB.out]; refine (rvput_int (fun _ => True) A2 m c2 L _ _ HS1.out (by omega) (by omega) (by omega)).mono ?_; rintro e w1 ⟨A4, n4, c4, rfl, hown1, hb1⟩; have hn4 : n4 ≤ m + 10 := ownput_le hown1 HM.out; have HO1 := Lib.hid hown1; have HB1 := Lib.hid hb1; have q2 := kcell hb1 (HC.out 2 _ rfl); clear hown1 hb1)
            | (go_at_call 79; refine (rvput_int (fun _ => True) A4 n4 c4 _ _ _ HO1.out.bs.any (by omega) (by omega) (by omega)).mono ?_; rintro e w2 ⟨A5, n5, c5, rfl, hown2, hb2⟩; have HO2 := Lib.hid hown2; have HB2 := Lib.hid hb2; clear hown2 hb2)
            | fail)
          go_roundw
          case rel =>
            have ho := HO2.out.down (B' := w.heap.size) (by have := HB1.out.size; have := HBB.out.size; omega)
            rw [List.append_assoc, show (8 * (t : Int)).toNat = 8 * t by omega, intCast_toNat] at ho
            exact HFIN.out _ _ _ _ _ (by simp [fld]) ho (HBR.out.trans ((HBB.out.trans ((HB1.out.trans (HB2.out.mono HB1.out.size)).mono HBB.out.size)).mono hsz))
          case measure => simp [intOf]; omega
        · go_wp2_with (first
            | (go_at_call_of 79 (Value.slice A2 m c2); rw [← HWB.out]; refine (rvput_int (fun _ => True) A2 m c2 L _ _ HS1.out (by omega) (by omega) (by omega)).mono ?_; rintro e w1 ⟨A4, n4, c4, rfl, hown1, hb1⟩; have hn4 : n4 ≤ m + 10 := ownput_le hown1 HM.out; have HO1 := Lib.hid hown1; have HB1 := Lib.hid hb1; have q3 := kcell hb1 (HC.out 3 _ rfl); clear hown1 hb1)
            | (go_at_call 79; refine (rvput_int (fun _ => True) A4 n4 c4 _ _ _ HO1.out.bs.any (by omega) (by omega) (by omega)).mono ?_; rintro e w2 ⟨A5, n5, c5, rfl, hown2, hb2⟩; have hn5 : n5 ≤ n4 + 10 := ownput_le hown2 HO1.out.len; have HO2 := Lib.hid (hown2.down (B' := w.heap.size) (by have := HB1.out.size; have := HBB.out.size; omega)); have HB2 := Lib.hid (HB1.out.trans (hb2.mono HB1.out.size)); have r3 := kcell hb2 q3; clear hown2 hb2 q3)
            | (at_builtin; refine apb w2 w rfl (.tmp 41) (.tmp 43) rfl w.heap.size A5 n5 c5 _ rfl HO2.out (HBR.out.trans ((HBB.out.trans (HB2.out.mono HBB.out.size)).mono hsz)) (Nat.le_refl _) F A3 n3 c3 fb rfl (HS3.out.below HB2.out (Nat.le_refl _)) (by omega) ?_; intro A6 c6 w6 h6 hb6 _)
            | fail)
          go_roundw
          case rel =>
            have ho := h6
            rw [List.append_assoc, List.append_assoc, show (8 * (t : Int) + 2).toNat = 8 * t + 2 by omega, intCast_toNat] at ho
            exact HFIN.out _ _ _ _ _ (by simp [fld, H3L.out]) ho hb6
          case measure => simp [intOf]; omega
      · have hbad : wput l = none := wput_bad l k hkl (by rw [← HF.out]; simp [tagOk]; omega)
        have HBAD := Lib.hid hbad; clear hbad
        have hnot : f.tag < 1 ∨ 100 < f.tag := by omega
        have HBO := Lib.hid (show Below w.heap.size w (wr.alloc (.cells #[.int .i64 f.tag, .bool f.bytes, .int .u64 (f.n : Int), .slice A3 n3 c3] 68)) from HBR.out.alloc hsz _)
        clear htag HWB
        rcases hnot with hnot | hnot
        · go_wp2
          go_ret2
          refine ⟨none, 0, 0, by rw [HBAD.out]; rfl, ?_, HBO.out⟩
          rw [show dput l = [] by simp [dput, HBAD.out]]
          exact OwnB.nil_ _ _
        · have hnot2 : 1 ≤ f.tag := by omega
          go_wp2
          go_ret2
          refine ⟨none, 0, 0, by rw [HBAD.out]; rfl, ?_, HBO.out⟩
          rw [show dput l = [] by simp [dput, HBAD.out]]
          exact OwnB.nil_ _ _
    · obtain rfl : k = n := by omega
      have hfull : wput l = some L := by rw [← hL, List.take_of_length_le (by rw [← HL.out]; exact Nat.le_refl _)]
      have HFU := Lib.hid hfull; clear hfull hL
      go_wp2
      go_ret2
      refine ⟨A2, m, c2, by rw [HFU.out]; rfl, ?_, hb⟩
      rw [show dput l = L by simp [dput, HFU.out]]
      exact hown

set_option maxRecDepth 100000 in
set_option maxHeartbeats 400000 in
theorem rbit_any (b : Bool) (w : World) : Calls Tryz.prog 64 #[.bool b] w fun e w' => e = .returned (.int .u64 (b2n b : Nat)) ∧ w = w' := by
  cases b <;> (go_enter Tryz.func64, Tryz.ntmps64; go_wp2; go_ret; exact ⟨rfl, rfl⟩)
theorem rnum_any (tag n : Int) (w : World) :
    Calls Tryz.prog 63 #[.int .i64 tag, .int .u64 n] w fun e w' => e = .returned (.agg #[.int .i64 tag, .bool false, .int .u64 n, .slice none 0 0]) ∧ Below w.heap.size w w' := by
  go_enter Tryz.func63, Tryz.ntmps63
  go_wp2
  refine bodyPost_ret (v := .agg #[.int .i64 tag, .bool false, .int .u64 n, .slice none 0 0]) (by simp [results, Tryz.results63, go_sem]) rfl ⟨rfl, ?_⟩
  exact (Below.refl _ w).alloc (Nat.le_refl _) _
end Go.Proofs.YtojenpjafgfpaaaGreatDoor
/- The references 19: PutValue; 32: num, some, put. -/
namespace Go.Proofs.YtojenpjafgfpaaaGreatDoor
open Go Go.RowKit
attribute [local go_sem ↓] Go.wp_at_zero Go.wp_at_succ

theorem new3p {α : Type} {T : Ty α} {w : World} {c1 c2 c3 : List Value} {x1 x2 x3 : α} (h1 : T.rep (fun _ => True) w c1 x1) (h2 : T.rep (fun _ => True) w c2 x2) (h3 : T.rep (fun _ => True) w c3 x3) (t : TypeId) (o : Obj) (ho : o = .cells (c1 ++ (c2 ++ c3)).toArray t) (p : Nat) (hp : p = w.heap.size) :
    Sl T (fun _ => True) (w.alloc o) (some ⟨p, 0, none⟩) 3 3 [x1, x2, x3] := by subst hp; exact Sl.new3 h1 h2 h3 t o ho

set_option maxRecDepth 100000 in
set_option maxHeartbeats 1000000 in
theorem rputValue_any (v : VV) (hv : v.ok) (hs : v.s.size ≤ 4294967000) (w : World) :
    Calls Tryz.prog 34 #[.agg #[.bool v.null, .int .i64 v.n, .string v.s]] w (Own1 w (putValue v)) := by
  obtain ⟨h0, h1, h2⟩ := hv
  have hsb := fun w => run_sb w v.s
  have HW := Lib.hid (show wlen (putValueF v) ≤ 4294967200 from putValueF_len v hs)
  have HZ := Lib.hid (zigN_lt v.n h0 h1)
  go_enter Tryz.func34, Tryz.ntmps34
  go_wp2_with fail
  refine wp_region_held_drew (S := (fun w' => w'.cell? ⟨w.heap.size, 0, none⟩ = some (.bool v.null) ∧ w'.cell? ⟨w.heap.size, 1, none⟩ = some (.int .i64 v.n) ∧ w'.cell? ⟨w.heap.size, 2, none⟩ = some (.string v.s))) (by kernel_rfl) ?_ (fun hHeld => ?_)
  · ((try dsimp only); (first | go_keep | (go_split_ands; refine ⟨?_, ?_, ?_⟩ <;> exact kcell (by assumption) (by assumption))))
  (refine wpAnyH_take (i := 0) (oi := ⟨_, _, _, _, _, _⟩) (v := ?_) rfl (by kernel_rfl) (by kernel_rfl) (by kernel_rfl) (fun _ _ _ h => h) (Or.inl ⟨by rfl, ?_⟩) (by assumption) ?_; rotate_left; · (intro w hSw; (try dsimp only at hSw); go_simp; try with_reducible rfl)); (try simp only [Act.put]); (try simp only [List.setIfInBounds_toArray]); (try simp only [List.set_cons_succ]); (try simp only [List.set_cons_zero])
  (refine wpAnyH_take (i := 1) (oi := ⟨_, _, _, _, _, _⟩) (v := ?_) rfl (by kernel_rfl) (by kernel_rfl) (by kernel_rfl) (fun _ _ _ h => h) (Or.inl ⟨by rfl, ?_⟩) (by assumption) ?_; rotate_left; · (intro w hSw; (try dsimp only at hSw); go_simp; try with_reducible rfl)); (try simp only [Act.put]); (try simp only [List.setIfInBounds_toArray]); (try simp only [List.set_cons_succ]); (try simp only [List.set_cons_zero])
  (refine wpAnyH_take (i := 4) (oi := ⟨_, _, _, _, _, _⟩) (v := ?_) rfl (by kernel_rfl) (by kernel_rfl) (by kernel_rfl) (fun _ _ _ h => h) (Or.inl ⟨by rfl, ?_⟩) (by assumption) ?_; rotate_left; · (intro w hSw; (try dsimp only at hSw); go_simp; try with_reducible rfl)); (try simp only [Act.put]); (try simp only [List.setIfInBounds_toArray]); (try simp only [List.set_cons_succ]); (try simp only [List.set_cons_zero])
  (refine wpAnyH_take (i := 5) (oi := ⟨_, _, _, _, _, _⟩) (v := ?_) rfl (by kernel_rfl) (by kernel_rfl) (by kernel_rfl) (fun _ _ _ h => h) (Or.inl ⟨by rfl, ?_⟩) (by assumption) ?_; rotate_left; · (intro w hSw; (try dsimp only at hSw); go_simp; try with_reducible rfl)); (try simp only [Act.put]); (try simp only [List.setIfInBounds_toArray]); (try simp only [List.set_cons_succ]); (try simp only [List.set_cons_zero])
  (refine wpAnyH_take (i := 8) (oi := ⟨_, _, _, _, _, _⟩) (v := ?_) rfl (by kernel_rfl) (by kernel_rfl) (by kernel_rfl) (fun _ _ _ h => h) (Or.inl ⟨by rfl, ?_⟩) (by assumption) ?_; rotate_left; · (intro w hSw; (try dsimp only at hSw); go_simp; try with_reducible rfl)); (try simp only [Act.put]); (try simp only [List.setIfInBounds_toArray]); (try simp only [List.set_cons_succ]); (try simp only [List.set_cons_zero])
  (refine wpAnyH_take (i := 9) (oi := ⟨_, _, _, _, _, _⟩) (v := ?_) rfl (by kernel_rfl) (by kernel_rfl) (by kernel_rfl) (fun _ _ _ h => h) (Or.inl ⟨by rfl, ?_⟩) (by assumption) ?_; rotate_left; · (intro w hSw; (try dsimp only at hSw); go_simp; try with_reducible rfl)); (try simp only [Act.put]); (try simp only [List.setIfInBounds_toArray]); (try simp only [List.set_cons_succ]); (try simp only [List.set_cons_zero])
  refine wpAnyH_ready (rs := [2, 10]) (by kernel_rfl) (by simp) ?_
  refine AllReadyH.cons (o := ⟨_, _, _, _, _, _⟩) rfl (fun K hK => ?_) ?_
  · (go_simp; (first | (go_at_call 64; refine (rbit_any _ _).mono ?_; rintro e w0 ⟨rfl, rfl⟩) | (go_at_call 61; refine (rzig_any _ _ h0 h1).mono ?_; rintro e w0 ⟨rfl, rfl⟩) | (go_at_call_of 63 (Value.int .i64 1); refine (rnum_any _ _ _).mono ?_; rintro e w1 ⟨rfl, hb1⟩) | (go_at_call_of 63 (Value.int .i64 2); refine (rnum_any _ _ _).mono ?_; rintro e w2 ⟨rfl, hb2⟩) | (go_at_call 62; refine (rwput_any (fun _ => True) _ 3 3 (putValueF v) _ (by refine Sl.drew (new3p (rep_fnum (tag := 1) (by unfold i64; omega) (b2n_lt _)) (rep_fnum (tag := 2) (by unfold i64; omega) HZ.out) (rep_ftxt (tag := 3) (by unfold i64; omega) ?_) _ _ rfl _ (by simp)); (repeat (first | assumption | exact Sl.nil_ _ _ _ | exact (sb_bs (by assumption)).any | (refine sb_bsA (by assumption) ?_; simp; done) | refine Sl.below ?_ (by assumption) (Nat.le_refl _) | refine Sl.alloc ?_ _ | refine Sl.drew ?_))) (by omega) HW.out).mono ?_; rintro e w4 ⟨A4, n4, c4, rfl, hown, hb4⟩)))
    refine hK.out _ _ ?_ (fun hHeld => ?_)
    · ((try dsimp only); (first | go_keep | (go_split_ands; refine ⟨?_, ?_, ?_⟩ <;> exact kcell (by assumption) (by assumption))))
    clear hK K; (try simp only [Act.put]); (try simp only [List.setIfInBounds_toArray]); (try simp only [List.set_cons_succ]); (try simp only [List.set_cons_zero])
    refine wpAnyH_ready (rs := [3, 10]) (by kernel_rfl) (by simp) ?_
    refine AllReadyH.cons (o := ⟨_, _, _, _, _, _⟩) rfl (fun K hK => ?_) ?_
    · (go_simp; (first | (go_at_call 64; refine (rbit_any _ _).mono ?_; rintro e w0 ⟨rfl, rfl⟩) | (go_at_call 61; refine (rzig_any _ _ h0 h1).mono ?_; rintro e w0 ⟨rfl, rfl⟩) | (go_at_call_of 63 (Value.int .i64 1); refine (rnum_any _ _ _).mono ?_; rintro e w1 ⟨rfl, hb1⟩) | (go_at_call_of 63 (Value.int .i64 2); refine (rnum_any _ _ _).mono ?_; rintro e w2 ⟨rfl, hb2⟩) | (go_at_call 62; refine (rwput_any (fun _ => True) _ 3 3 (putValueF v) _ (by refine Sl.drew (new3p (rep_fnum (tag := 1) (by unfold i64; omega) (b2n_lt _)) (rep_fnum (tag := 2) (by unfold i64; omega) HZ.out) (rep_ftxt (tag := 3) (by unfold i64; omega) ?_) _ _ rfl _ (by simp)); (repeat (first | assumption | exact Sl.nil_ _ _ _ | exact (sb_bs (by assumption)).any | (refine sb_bsA (by assumption) ?_; simp; done) | refine Sl.below ?_ (by assumption) (Nat.le_refl _) | refine Sl.alloc ?_ _ | refine Sl.drew ?_))) (by omega) HW.out).mono ?_; rintro e w4 ⟨A4, n4, c4, rfl, hown, hb4⟩)))
      refine hK.out _ _ ?_ (fun hHeld => ?_)
      · ((try dsimp only); (first | go_keep | (go_split_ands; refine ⟨?_, ?_, ?_⟩ <;> exact kcell (by assumption) (by assumption))))
      clear hK K; (try simp only [Act.put]); (try simp only [List.setIfInBounds_toArray]); (try simp only [List.set_cons_succ]); (try simp only [List.set_cons_zero])
      refine wpAnyH_ready (rs := [6, 10]) (by kernel_rfl) (by simp) ?_
      refine AllReadyH.cons (o := ⟨_, _, _, _, _, _⟩) rfl (fun K hK => ?_) ?_
      · (go_simp; (first | (go_at_call 64; refine (rbit_any _ _).mono ?_; rintro e w0 ⟨rfl, rfl⟩) | (go_at_call 61; refine (rzig_any _ _ h0 h1).mono ?_; rintro e w0 ⟨rfl, rfl⟩) | (go_at_call_of 63 (Value.int .i64 1); refine (rnum_any _ _ _).mono ?_; rintro e w1 ⟨rfl, hb1⟩) | (go_at_call_of 63 (Value.int .i64 2); refine (rnum_any _ _ _).mono ?_; rintro e w2 ⟨rfl, hb2⟩) | (go_at_call 62; refine (rwput_any (fun _ => True) _ 3 3 (putValueF v) _ (by refine Sl.drew (new3p (rep_fnum (tag := 1) (by unfold i64; omega) (b2n_lt _)) (rep_fnum (tag := 2) (by unfold i64; omega) HZ.out) (rep_ftxt (tag := 3) (by unfold i64; omega) ?_) _ _ rfl _ (by simp)); (repeat (first | assumption | exact Sl.nil_ _ _ _ | exact (sb_bs (by assumption)).any | (refine sb_bsA (by assumption) ?_; simp; done) | refine Sl.below ?_ (by assumption) (Nat.le_refl _) | refine Sl.alloc ?_ _ | refine Sl.drew ?_))) (by omega) HW.out).mono ?_; rintro e w4 ⟨A4, n4, c4, rfl, hown, hb4⟩)))
        refine hK.out _ _ ?_ (fun hHeld => ?_)
        · ((try dsimp only); (first | go_keep | (go_split_ands; refine ⟨?_, ?_, ?_⟩ <;> exact kcell (by assumption) (by assumption))))
        clear hK K; (try simp only [Act.put]); (try simp only [List.setIfInBounds_toArray]); (try simp only [List.set_cons_succ]); (try simp only [List.set_cons_zero])
        refine wpAnyH_ready (rs := [7, 10]) (by kernel_rfl) (by simp) ?_
        refine AllReadyH.cons (o := ⟨_, _, _, _, _, _⟩) rfl (fun K hK => ?_) ?_
        · (go_simp; (first | (go_at_call 64; refine (rbit_any _ _).mono ?_; rintro e w0 ⟨rfl, rfl⟩) | (go_at_call 61; refine (rzig_any _ _ h0 h1).mono ?_; rintro e w0 ⟨rfl, rfl⟩) | (go_at_call_of 63 (Value.int .i64 1); refine (rnum_any _ _ _).mono ?_; rintro e w1 ⟨rfl, hb1⟩) | (go_at_call_of 63 (Value.int .i64 2); refine (rnum_any _ _ _).mono ?_; rintro e w2 ⟨rfl, hb2⟩) | (go_at_call 62; refine (rwput_any (fun _ => True) _ 3 3 (putValueF v) _ (by refine Sl.drew (new3p (rep_fnum (tag := 1) (by unfold i64; omega) (b2n_lt _)) (rep_fnum (tag := 2) (by unfold i64; omega) HZ.out) (rep_ftxt (tag := 3) (by unfold i64; omega) ?_) _ _ rfl _ (by simp)); (repeat (first | assumption | exact Sl.nil_ _ _ _ | exact (sb_bs (by assumption)).any | (refine sb_bsA (by assumption) ?_; simp; done) | refine Sl.below ?_ (by assumption) (Nat.le_refl _) | refine Sl.alloc ?_ _ | refine Sl.drew ?_))) (by omega) HW.out).mono ?_; rintro e w4 ⟨A4, n4, c4, rfl, hown, hb4⟩)))
          refine hK.out _ _ ?_ (fun hHeld => ?_)
          · ((try dsimp only); (first | go_keep | (go_split_ands; refine ⟨?_, ?_, ?_⟩ <;> exact kcell (by assumption) (by assumption))))
          clear hK K; (try simp only [Act.put]); (try simp only [List.setIfInBounds_toArray]); (try simp only [List.set_cons_succ]); (try simp only [List.set_cons_zero])
          refine wpAnyH_ready (rs := [10]) (by kernel_rfl) (by simp) ?_
          refine AllReadyH.cons (o := ⟨_, _, _, _, _, _⟩) rfl (fun K hK => ?_) ?_
          · go_simp
            refine hK.out _ _ ?_ (fun hHeld => ?_)
            · ((try dsimp only); (first | go_keep | (go_split_ands; refine ⟨?_, ?_, ?_⟩ <;> exact kcell (by assumption) (by assumption))))
            clear hK K; (try simp only [Act.put]); (try simp only [List.setIfInBounds_toArray]); (try simp only [List.set_cons_succ]); (try simp only [List.set_cons_zero])
            (refine wpAnyH_take (i := 11) (oi := ⟨_, _, _, _, _, _⟩) (v := ?_) rfl (by kernel_rfl) (by kernel_rfl) (by kernel_rfl) (fun _ _ _ h => h) (Or.inl ⟨by rfl, ?_⟩) (by assumption) ?_; rotate_left; · (intro w hSw; (try dsimp only at hSw); go_simp; try with_reducible rfl)); (try simp only [Act.put]); (try simp only [List.setIfInBounds_toArray]); (try simp only [List.set_cons_succ]); (try simp only [List.set_cons_zero])
            refine wpAnyH_ready (rs := [12]) (by kernel_rfl) (by simp) ?_
            refine AllReadyH.cons (o := ⟨_, _, _, _, _, _⟩) rfl (fun K hK => ?_) ?_
            · go_simp
              refine hK.out _ _ ?_ (fun hHeld => ?_)
              · ((try dsimp only); (first | go_keep | (go_split_ands; refine ⟨?_, ?_, ?_⟩ <;> exact kcell (by assumption) (by assumption))))
              clear hK K; (try simp only [Act.put]); (try simp only [List.setIfInBounds_toArray]); (try simp only [List.set_cons_succ]); (try simp only [List.set_cons_zero])
              refine wpAnyH_ready (rs := [13]) (by kernel_rfl) (by simp) ?_
              refine AllReadyH.cons (o := ⟨_, _, _, _, _, _⟩) rfl (fun K hK => ?_) ?_
              · (go_simp; (first | (go_at_call 64; refine (rbit_any _ _).mono ?_; rintro e w0 ⟨rfl, rfl⟩) | (go_at_call 61; refine (rzig_any _ _ h0 h1).mono ?_; rintro e w0 ⟨rfl, rfl⟩) | (go_at_call_of 63 (Value.int .i64 1); refine (rnum_any _ _ _).mono ?_; rintro e w1 ⟨rfl, hb1⟩) | (go_at_call_of 63 (Value.int .i64 2); refine (rnum_any _ _ _).mono ?_; rintro e w2 ⟨rfl, hb2⟩) | (go_at_call 62; refine (rwput_any (fun _ => True) _ 3 3 (putValueF v) _ (by refine Sl.drew (new3p (rep_fnum (tag := 1) (by unfold i64; omega) (b2n_lt _)) (rep_fnum (tag := 2) (by unfold i64; omega) HZ.out) (rep_ftxt (tag := 3) (by unfold i64; omega) ?_) _ _ rfl _ (by simp)); (repeat (first | assumption | exact Sl.nil_ _ _ _ | exact (sb_bs (by assumption)).any | (refine sb_bsA (by assumption) ?_; simp; done) | refine Sl.below ?_ (by assumption) (Nat.le_refl _) | refine Sl.alloc ?_ _ | refine Sl.drew ?_))) (by omega) HW.out).mono ?_; rintro e w4 ⟨A4, n4, c4, rfl, hown, hb4⟩)))
                refine hK.out _ _ ?_ (fun hHeld => ?_)
                · ((try dsimp only); (first | go_keep | (go_split_ands; refine ⟨?_, ?_, ?_⟩ <;> exact kcell (by assumption) (by assumption))))
                clear hK K; (try simp only [Act.put]); (try simp only [List.setIfInBounds_toArray]); (try simp only [List.set_cons_succ]); (try simp only [List.set_cons_zero])
                (refine wpAnyH_take (i := 14) (oi := ⟨_, _, _, _, _, _⟩) (v := ?_) rfl (by kernel_rfl) (by kernel_rfl) (by kernel_rfl) (fun _ _ _ h => h) (Or.inl ⟨by rfl, ?_⟩) (by assumption) ?_; rotate_left; · (intro w hSw; (try dsimp only at hSw); go_simp; try with_reducible rfl)); (try simp only [Act.put]); (try simp only [List.setIfInBounds_toArray]); (try simp only [List.set_cons_succ]); (try simp only [List.set_cons_zero])
                (refine wpAnyH_take (i := 15) (oi := ⟨_, _, _, _, _, _⟩) (v := ?_) rfl (by kernel_rfl) (by kernel_rfl) (by kernel_rfl) (fun _ _ _ h => h) (Or.inl ⟨by rfl, ?_⟩) (by assumption) ?_; rotate_left; · (intro w hSw; (try dsimp only at hSw); go_simp; try with_reducible rfl)); (try simp only [Act.put]); (try simp only [List.setIfInBounds_toArray]); (try simp only [List.set_cons_succ]); (try simp only [List.set_cons_zero])
                (refine wpAnyH_take (i := 16) (oi := ⟨_, _, _, _, _, _⟩) (v := ?_) rfl (by kernel_rfl) (by kernel_rfl) (by kernel_rfl) (fun _ _ _ h => h) (Or.inl ⟨by rfl, ?_⟩) (by assumption) ?_; rotate_left; · (intro w hSw; (try dsimp only at hSw); go_simp; try with_reducible rfl)); (try simp only [Act.put]); (try simp only [List.setIfInBounds_toArray]); (try simp only [List.set_cons_succ]); (try simp only [List.set_cons_zero])
                (refine wpAnyH_take (i := 17) (oi := ⟨_, _, _, _, _, _⟩) (v := ?_) rfl (by kernel_rfl) (by kernel_rfl) (by kernel_rfl) (fun _ _ _ h => h) (Or.inl ⟨by rfl, ?_⟩) (by assumption) ?_; rotate_left; · (intro w hSw; (try dsimp only at hSw); go_simp; try with_reducible rfl)); (try simp only [Act.put]); (try simp only [List.setIfInBounds_toArray]); (try simp only [List.set_cons_succ]); (try simp only [List.set_cons_zero])
                (refine wpAnyH_take (i := 18) (oi := ⟨_, _, _, _, _, _⟩) (v := ?_) rfl (by kernel_rfl) (by kernel_rfl) (by kernel_rfl) (fun _ _ _ h => h) (Or.inl ⟨by rfl, ?_⟩) (by assumption) ?_; rotate_left; · (intro w hSw; (try dsimp only at hSw); go_simp; try with_reducible rfl)); (try simp only [Act.put]); (try simp only [List.setIfInBounds_toArray]); (try simp only [List.set_cons_succ]); (try simp only [List.set_cons_zero])
                refine wpAnyH_done (by kernel_rfl) ?_ _
                go_wp2
                go_ret
                exact ⟨A4, n4, c4, rfl, hown.down (by have := hb1.size; have := hb2.size; simp at *; omega), by (repeat (first | exact Below.refl _ _ | assumption | refine bthen ?_ (by assumption) | refine balloc ?_ _ | refine bdrew ?_))⟩
              exact AllReadyH.nil
            exact AllReadyH.nil
          exact AllReadyH.nil
        refine AllReadyH.cons (o := ⟨_, _, _, _, _, _⟩) rfl (fun K hK => ?_) ?_
        · go_simp
          refine hK.out _ _ ?_ (fun hHeld => ?_)
          · ((try dsimp only); (first | go_keep | (go_split_ands; refine ⟨?_, ?_, ?_⟩ <;> exact kcell (by assumption) (by assumption))))
          clear hK K; (try simp only [Act.put]); (try simp only [List.setIfInBounds_toArray]); (try simp only [List.set_cons_succ]); (try simp only [List.set_cons_zero])
          (refine wpAnyH_take (i := 11) (oi := ⟨_, _, _, _, _, _⟩) (v := ?_) rfl (by kernel_rfl) (by kernel_rfl) (by kernel_rfl) (fun _ _ _ h => h) (Or.inl ⟨by rfl, ?_⟩) (by assumption) ?_; rotate_left; · (intro w hSw; (try dsimp only at hSw); go_simp; try with_reducible rfl)); (try simp only [Act.put]); (try simp only [List.setIfInBounds_toArray]); (try simp only [List.set_cons_succ]); (try simp only [List.set_cons_zero])
          refine wpAnyH_ready (rs := [7]) (by kernel_rfl) (by simp) ?_
          refine AllReadyH.cons (o := ⟨_, _, _, _, _, _⟩) rfl (fun K hK => ?_) ?_
          · (go_simp; (first | (go_at_call 64; refine (rbit_any _ _).mono ?_; rintro e w0 ⟨rfl, rfl⟩) | (go_at_call 61; refine (rzig_any _ _ h0 h1).mono ?_; rintro e w0 ⟨rfl, rfl⟩) | (go_at_call_of 63 (Value.int .i64 1); refine (rnum_any _ _ _).mono ?_; rintro e w1 ⟨rfl, hb1⟩) | (go_at_call_of 63 (Value.int .i64 2); refine (rnum_any _ _ _).mono ?_; rintro e w2 ⟨rfl, hb2⟩) | (go_at_call 62; refine (rwput_any (fun _ => True) _ 3 3 (putValueF v) _ (by refine Sl.drew (new3p (rep_fnum (tag := 1) (by unfold i64; omega) (b2n_lt _)) (rep_fnum (tag := 2) (by unfold i64; omega) HZ.out) (rep_ftxt (tag := 3) (by unfold i64; omega) ?_) _ _ rfl _ (by simp)); (repeat (first | assumption | exact Sl.nil_ _ _ _ | exact (sb_bs (by assumption)).any | (refine sb_bsA (by assumption) ?_; simp; done) | refine Sl.below ?_ (by assumption) (Nat.le_refl _) | refine Sl.alloc ?_ _ | refine Sl.drew ?_))) (by omega) HW.out).mono ?_; rintro e w4 ⟨A4, n4, c4, rfl, hown, hb4⟩)))
            refine hK.out _ _ ?_ (fun hHeld => ?_)
            · ((try dsimp only); (first | go_keep | (go_split_ands; refine ⟨?_, ?_, ?_⟩ <;> exact kcell (by assumption) (by assumption))))
            clear hK K; (try simp only [Act.put]); (try simp only [List.setIfInBounds_toArray]); (try simp only [List.set_cons_succ]); (try simp only [List.set_cons_zero])
            refine wpAnyH_ready (rs := [12]) (by kernel_rfl) (by simp) ?_
            refine AllReadyH.cons (o := ⟨_, _, _, _, _, _⟩) rfl (fun K hK => ?_) ?_
            · go_simp
              refine hK.out _ _ ?_ (fun hHeld => ?_)
              · ((try dsimp only); (first | go_keep | (go_split_ands; refine ⟨?_, ?_, ?_⟩ <;> exact kcell (by assumption) (by assumption))))
              clear hK K; (try simp only [Act.put]); (try simp only [List.setIfInBounds_toArray]); (try simp only [List.set_cons_succ]); (try simp only [List.set_cons_zero])
              refine wpAnyH_ready (rs := [13]) (by kernel_rfl) (by simp) ?_
              refine AllReadyH.cons (o := ⟨_, _, _, _, _, _⟩) rfl (fun K hK => ?_) ?_
              · (go_simp; (first | (go_at_call 64; refine (rbit_any _ _).mono ?_; rintro e w0 ⟨rfl, rfl⟩) | (go_at_call 61; refine (rzig_any _ _ h0 h1).mono ?_; rintro e w0 ⟨rfl, rfl⟩) | (go_at_call_of 63 (Value.int .i64 1); refine (rnum_any _ _ _).mono ?_; rintro e w1 ⟨rfl, hb1⟩) | (go_at_call_of 63 (Value.int .i64 2); refine (rnum_any _ _ _).mono ?_; rintro e w2 ⟨rfl, hb2⟩) | (go_at_call 62; refine (rwput_any (fun _ => True) _ 3 3 (putValueF v) _ (by refine Sl.drew (new3p (rep_fnum (tag := 1) (by unfold i64; omega) (b2n_lt _)) (rep_fnum (tag := 2) (by unfold i64; omega) HZ.out) (rep_ftxt (tag := 3) (by unfold i64; omega) ?_) _ _ rfl _ (by simp)); (repeat (first | assumption | exact Sl.nil_ _ _ _ | exact (sb_bs (by assumption)).any | (refine sb_bsA (by assumption) ?_; simp; done) | refine Sl.below ?_ (by assumption) (Nat.le_refl _) | refine Sl.alloc ?_ _ | refine Sl.drew ?_))) (by omega) HW.out).mono ?_; rintro e w4 ⟨A4, n4, c4, rfl, hown, hb4⟩)))
                refine hK.out _ _ ?_ (fun hHeld => ?_)
                · ((try dsimp only); (first | go_keep | (go_split_ands; refine ⟨?_, ?_, ?_⟩ <;> exact kcell (by assumption) (by assumption))))
                clear hK K; (try simp only [Act.put]); (try simp only [List.setIfInBounds_toArray]); (try simp only [List.set_cons_succ]); (try simp only [List.set_cons_zero])
                (refine wpAnyH_take (i := 14) (oi := ⟨_, _, _, _, _, _⟩) (v := ?_) rfl (by kernel_rfl) (by kernel_rfl) (by kernel_rfl) (fun _ _ _ h => h) (Or.inl ⟨by rfl, ?_⟩) (by assumption) ?_; rotate_left; · (intro w hSw; (try dsimp only at hSw); go_simp; try with_reducible rfl)); (try simp only [Act.put]); (try simp only [List.setIfInBounds_toArray]); (try simp only [List.set_cons_succ]); (try simp only [List.set_cons_zero])
                (refine wpAnyH_take (i := 15) (oi := ⟨_, _, _, _, _, _⟩) (v := ?_) rfl (by kernel_rfl) (by kernel_rfl) (by kernel_rfl) (fun _ _ _ h => h) (Or.inl ⟨by rfl, ?_⟩) (by assumption) ?_; rotate_left; · (intro w hSw; (try dsimp only at hSw); go_simp; try with_reducible rfl)); (try simp only [Act.put]); (try simp only [List.setIfInBounds_toArray]); (try simp only [List.set_cons_succ]); (try simp only [List.set_cons_zero])
                (refine wpAnyH_take (i := 16) (oi := ⟨_, _, _, _, _, _⟩) (v := ?_) rfl (by kernel_rfl) (by kernel_rfl) (by kernel_rfl) (fun _ _ _ h => h) (Or.inl ⟨by rfl, ?_⟩) (by assumption) ?_; rotate_left; · (intro w hSw; (try dsimp only at hSw); go_simp; try with_reducible rfl)); (try simp only [Act.put]); (try simp only [List.setIfInBounds_toArray]); (try simp only [List.set_cons_succ]); (try simp only [List.set_cons_zero])
                (refine wpAnyH_take (i := 17) (oi := ⟨_, _, _, _, _, _⟩) (v := ?_) rfl (by kernel_rfl) (by kernel_rfl) (by kernel_rfl) (fun _ _ _ h => h) (Or.inl ⟨by rfl, ?_⟩) (by assumption) ?_; rotate_left; · (intro w hSw; (try dsimp only at hSw); go_simp; try with_reducible rfl)); (try simp only [Act.put]); (try simp only [List.setIfInBounds_toArray]); (try simp only [List.set_cons_succ]); (try simp only [List.set_cons_zero])
                (refine wpAnyH_take (i := 18) (oi := ⟨_, _, _, _, _, _⟩) (v := ?_) rfl (by kernel_rfl) (by kernel_rfl) (by kernel_rfl) (fun _ _ _ h => h) (Or.inl ⟨by rfl, ?_⟩) (by assumption) ?_; rotate_left; · (intro w hSw; (try dsimp only at hSw); go_simp; try with_reducible rfl)); (try simp only [Act.put]); (try simp only [List.setIfInBounds_toArray]); (try simp only [List.set_cons_succ]); (try simp only [List.set_cons_zero])
                refine wpAnyH_done (by kernel_rfl) ?_ _
                go_wp2
                go_ret
                exact ⟨A4, n4, c4, rfl, hown.down (by have := hb1.size; have := hb2.size; simp at *; omega), by (repeat (first | exact Below.refl _ _ | assumption | refine bthen ?_ (by assumption) | refine balloc ?_ _ | refine bdrew ?_))⟩
              exact AllReadyH.nil
            exact AllReadyH.nil
          exact AllReadyH.nil
        exact AllReadyH.nil
      refine AllReadyH.cons (o := ⟨_, _, _, _, _, _⟩) rfl (fun K hK => ?_) ?_
      · go_simp
        refine hK.out _ _ ?_ (fun hHeld => ?_)
        · ((try dsimp only); (first | go_keep | (go_split_ands; refine ⟨?_, ?_, ?_⟩ <;> exact kcell (by assumption) (by assumption))))
        clear hK K; (try simp only [Act.put]); (try simp only [List.setIfInBounds_toArray]); (try simp only [List.set_cons_succ]); (try simp only [List.set_cons_zero])
        (refine wpAnyH_take (i := 11) (oi := ⟨_, _, _, _, _, _⟩) (v := ?_) rfl (by kernel_rfl) (by kernel_rfl) (by kernel_rfl) (fun _ _ _ h => h) (Or.inl ⟨by rfl, ?_⟩) (by assumption) ?_; rotate_left; · (intro w hSw; (try dsimp only at hSw); go_simp; try with_reducible rfl)); (try simp only [Act.put]); (try simp only [List.setIfInBounds_toArray]); (try simp only [List.set_cons_succ]); (try simp only [List.set_cons_zero])
        refine wpAnyH_ready (rs := [6]) (by kernel_rfl) (by simp) ?_
        refine AllReadyH.cons (o := ⟨_, _, _, _, _, _⟩) rfl (fun K hK => ?_) ?_
        · (go_simp; (first | (go_at_call 64; refine (rbit_any _ _).mono ?_; rintro e w0 ⟨rfl, rfl⟩) | (go_at_call 61; refine (rzig_any _ _ h0 h1).mono ?_; rintro e w0 ⟨rfl, rfl⟩) | (go_at_call_of 63 (Value.int .i64 1); refine (rnum_any _ _ _).mono ?_; rintro e w1 ⟨rfl, hb1⟩) | (go_at_call_of 63 (Value.int .i64 2); refine (rnum_any _ _ _).mono ?_; rintro e w2 ⟨rfl, hb2⟩) | (go_at_call 62; refine (rwput_any (fun _ => True) _ 3 3 (putValueF v) _ (by refine Sl.drew (new3p (rep_fnum (tag := 1) (by unfold i64; omega) (b2n_lt _)) (rep_fnum (tag := 2) (by unfold i64; omega) HZ.out) (rep_ftxt (tag := 3) (by unfold i64; omega) ?_) _ _ rfl _ (by simp)); (repeat (first | assumption | exact Sl.nil_ _ _ _ | exact (sb_bs (by assumption)).any | (refine sb_bsA (by assumption) ?_; simp; done) | refine Sl.below ?_ (by assumption) (Nat.le_refl _) | refine Sl.alloc ?_ _ | refine Sl.drew ?_))) (by omega) HW.out).mono ?_; rintro e w4 ⟨A4, n4, c4, rfl, hown, hb4⟩)))
          refine hK.out _ _ ?_ (fun hHeld => ?_)
          · ((try dsimp only); (first | go_keep | (go_split_ands; refine ⟨?_, ?_, ?_⟩ <;> exact kcell (by assumption) (by assumption))))
          clear hK K; (try simp only [Act.put]); (try simp only [List.setIfInBounds_toArray]); (try simp only [List.set_cons_succ]); (try simp only [List.set_cons_zero])
          refine wpAnyH_ready (rs := [7]) (by kernel_rfl) (by simp) ?_
          refine AllReadyH.cons (o := ⟨_, _, _, _, _, _⟩) rfl (fun K hK => ?_) ?_
          · (go_simp; (first | (go_at_call 64; refine (rbit_any _ _).mono ?_; rintro e w0 ⟨rfl, rfl⟩) | (go_at_call 61; refine (rzig_any _ _ h0 h1).mono ?_; rintro e w0 ⟨rfl, rfl⟩) | (go_at_call_of 63 (Value.int .i64 1); refine (rnum_any _ _ _).mono ?_; rintro e w1 ⟨rfl, hb1⟩) | (go_at_call_of 63 (Value.int .i64 2); refine (rnum_any _ _ _).mono ?_; rintro e w2 ⟨rfl, hb2⟩) | (go_at_call 62; refine (rwput_any (fun _ => True) _ 3 3 (putValueF v) _ (by refine Sl.drew (new3p (rep_fnum (tag := 1) (by unfold i64; omega) (b2n_lt _)) (rep_fnum (tag := 2) (by unfold i64; omega) HZ.out) (rep_ftxt (tag := 3) (by unfold i64; omega) ?_) _ _ rfl _ (by simp)); (repeat (first | assumption | exact Sl.nil_ _ _ _ | exact (sb_bs (by assumption)).any | (refine sb_bsA (by assumption) ?_; simp; done) | refine Sl.below ?_ (by assumption) (Nat.le_refl _) | refine Sl.alloc ?_ _ | refine Sl.drew ?_))) (by omega) HW.out).mono ?_; rintro e w4 ⟨A4, n4, c4, rfl, hown, hb4⟩)))
            refine hK.out _ _ ?_ (fun hHeld => ?_)
            · ((try dsimp only); (first | go_keep | (go_split_ands; refine ⟨?_, ?_, ?_⟩ <;> exact kcell (by assumption) (by assumption))))
            clear hK K; (try simp only [Act.put]); (try simp only [List.setIfInBounds_toArray]); (try simp only [List.set_cons_succ]); (try simp only [List.set_cons_zero])
            refine wpAnyH_ready (rs := [12]) (by kernel_rfl) (by simp) ?_
            refine AllReadyH.cons (o := ⟨_, _, _, _, _, _⟩) rfl (fun K hK => ?_) ?_
            · go_simp
              refine hK.out _ _ ?_ (fun hHeld => ?_)
              · ((try dsimp only); (first | go_keep | (go_split_ands; refine ⟨?_, ?_, ?_⟩ <;> exact kcell (by assumption) (by assumption))))
              clear hK K; (try simp only [Act.put]); (try simp only [List.setIfInBounds_toArray]); (try simp only [List.set_cons_succ]); (try simp only [List.set_cons_zero])
              refine wpAnyH_ready (rs := [13]) (by kernel_rfl) (by simp) ?_
              refine AllReadyH.cons (o := ⟨_, _, _, _, _, _⟩) rfl (fun K hK => ?_) ?_
              · (go_simp; (first | (go_at_call 64; refine (rbit_any _ _).mono ?_; rintro e w0 ⟨rfl, rfl⟩) | (go_at_call 61; refine (rzig_any _ _ h0 h1).mono ?_; rintro e w0 ⟨rfl, rfl⟩) | (go_at_call_of 63 (Value.int .i64 1); refine (rnum_any _ _ _).mono ?_; rintro e w1 ⟨rfl, hb1⟩) | (go_at_call_of 63 (Value.int .i64 2); refine (rnum_any _ _ _).mono ?_; rintro e w2 ⟨rfl, hb2⟩) | (go_at_call 62; refine (rwput_any (fun _ => True) _ 3 3 (putValueF v) _ (by refine Sl.drew (new3p (rep_fnum (tag := 1) (by unfold i64; omega) (b2n_lt _)) (rep_fnum (tag := 2) (by unfold i64; omega) HZ.out) (rep_ftxt (tag := 3) (by unfold i64; omega) ?_) _ _ rfl _ (by simp)); (repeat (first | assumption | exact Sl.nil_ _ _ _ | exact (sb_bs (by assumption)).any | (refine sb_bsA (by assumption) ?_; simp; done) | refine Sl.below ?_ (by assumption) (Nat.le_refl _) | refine Sl.alloc ?_ _ | refine Sl.drew ?_))) (by omega) HW.out).mono ?_; rintro e w4 ⟨A4, n4, c4, rfl, hown, hb4⟩)))
                refine hK.out _ _ ?_ (fun hHeld => ?_)
                · ((try dsimp only); (first | go_keep | (go_split_ands; refine ⟨?_, ?_, ?_⟩ <;> exact kcell (by assumption) (by assumption))))
                clear hK K; (try simp only [Act.put]); (try simp only [List.setIfInBounds_toArray]); (try simp only [List.set_cons_succ]); (try simp only [List.set_cons_zero])
                (refine wpAnyH_take (i := 14) (oi := ⟨_, _, _, _, _, _⟩) (v := ?_) rfl (by kernel_rfl) (by kernel_rfl) (by kernel_rfl) (fun _ _ _ h => h) (Or.inl ⟨by rfl, ?_⟩) (by assumption) ?_; rotate_left; · (intro w hSw; (try dsimp only at hSw); go_simp; try with_reducible rfl)); (try simp only [Act.put]); (try simp only [List.setIfInBounds_toArray]); (try simp only [List.set_cons_succ]); (try simp only [List.set_cons_zero])
                (refine wpAnyH_take (i := 15) (oi := ⟨_, _, _, _, _, _⟩) (v := ?_) rfl (by kernel_rfl) (by kernel_rfl) (by kernel_rfl) (fun _ _ _ h => h) (Or.inl ⟨by rfl, ?_⟩) (by assumption) ?_; rotate_left; · (intro w hSw; (try dsimp only at hSw); go_simp; try with_reducible rfl)); (try simp only [Act.put]); (try simp only [List.setIfInBounds_toArray]); (try simp only [List.set_cons_succ]); (try simp only [List.set_cons_zero])
                (refine wpAnyH_take (i := 16) (oi := ⟨_, _, _, _, _, _⟩) (v := ?_) rfl (by kernel_rfl) (by kernel_rfl) (by kernel_rfl) (fun _ _ _ h => h) (Or.inl ⟨by rfl, ?_⟩) (by assumption) ?_; rotate_left; · (intro w hSw; (try dsimp only at hSw); go_simp; try with_reducible rfl)); (try simp only [Act.put]); (try simp only [List.setIfInBounds_toArray]); (try simp only [List.set_cons_succ]); (try simp only [List.set_cons_zero])
                (refine wpAnyH_take (i := 17) (oi := ⟨_, _, _, _, _, _⟩) (v := ?_) rfl (by kernel_rfl) (by kernel_rfl) (by kernel_rfl) (fun _ _ _ h => h) (Or.inl ⟨by rfl, ?_⟩) (by assumption) ?_; rotate_left; · (intro w hSw; (try dsimp only at hSw); go_simp; try with_reducible rfl)); (try simp only [Act.put]); (try simp only [List.setIfInBounds_toArray]); (try simp only [List.set_cons_succ]); (try simp only [List.set_cons_zero])
                (refine wpAnyH_take (i := 18) (oi := ⟨_, _, _, _, _, _⟩) (v := ?_) rfl (by kernel_rfl) (by kernel_rfl) (by kernel_rfl) (fun _ _ _ h => h) (Or.inl ⟨by rfl, ?_⟩) (by assumption) ?_; rotate_left; · (intro w hSw; (try dsimp only at hSw); go_simp; try with_reducible rfl)); (try simp only [Act.put]); (try simp only [List.setIfInBounds_toArray]); (try simp only [List.set_cons_succ]); (try simp only [List.set_cons_zero])
                refine wpAnyH_done (by kernel_rfl) ?_ _
                go_wp2
                go_ret
                exact ⟨A4, n4, c4, rfl, hown.down (by have := hb1.size; have := hb2.size; simp at *; omega), by (repeat (first | exact Below.refl _ _ | assumption | refine bthen ?_ (by assumption) | refine balloc ?_ _ | refine bdrew ?_))⟩
              exact AllReadyH.nil
            exact AllReadyH.nil
          exact AllReadyH.nil
        exact AllReadyH.nil
      exact AllReadyH.nil
    refine AllReadyH.cons (o := ⟨_, _, _, _, _, _⟩) rfl (fun K hK => ?_) ?_
    · go_simp
      refine hK.out _ _ ?_ (fun hHeld => ?_)
      · ((try dsimp only); (first | go_keep | (go_split_ands; refine ⟨?_, ?_, ?_⟩ <;> exact kcell (by assumption) (by assumption))))
      clear hK K; (try simp only [Act.put]); (try simp only [List.setIfInBounds_toArray]); (try simp only [List.set_cons_succ]); (try simp only [List.set_cons_zero])
      (refine wpAnyH_take (i := 11) (oi := ⟨_, _, _, _, _, _⟩) (v := ?_) rfl (by kernel_rfl) (by kernel_rfl) (by kernel_rfl) (fun _ _ _ h => h) (Or.inl ⟨by rfl, ?_⟩) (by assumption) ?_; rotate_left; · (intro w hSw; (try dsimp only at hSw); go_simp; try with_reducible rfl)); (try simp only [Act.put]); (try simp only [List.setIfInBounds_toArray]); (try simp only [List.set_cons_succ]); (try simp only [List.set_cons_zero])
      refine wpAnyH_ready (rs := [3]) (by kernel_rfl) (by simp) ?_
      refine AllReadyH.cons (o := ⟨_, _, _, _, _, _⟩) rfl (fun K hK => ?_) ?_
      · (go_simp; (first | (go_at_call 64; refine (rbit_any _ _).mono ?_; rintro e w0 ⟨rfl, rfl⟩) | (go_at_call 61; refine (rzig_any _ _ h0 h1).mono ?_; rintro e w0 ⟨rfl, rfl⟩) | (go_at_call_of 63 (Value.int .i64 1); refine (rnum_any _ _ _).mono ?_; rintro e w1 ⟨rfl, hb1⟩) | (go_at_call_of 63 (Value.int .i64 2); refine (rnum_any _ _ _).mono ?_; rintro e w2 ⟨rfl, hb2⟩) | (go_at_call 62; refine (rwput_any (fun _ => True) _ 3 3 (putValueF v) _ (by refine Sl.drew (new3p (rep_fnum (tag := 1) (by unfold i64; omega) (b2n_lt _)) (rep_fnum (tag := 2) (by unfold i64; omega) HZ.out) (rep_ftxt (tag := 3) (by unfold i64; omega) ?_) _ _ rfl _ (by simp)); (repeat (first | assumption | exact Sl.nil_ _ _ _ | exact (sb_bs (by assumption)).any | (refine sb_bsA (by assumption) ?_; simp; done) | refine Sl.below ?_ (by assumption) (Nat.le_refl _) | refine Sl.alloc ?_ _ | refine Sl.drew ?_))) (by omega) HW.out).mono ?_; rintro e w4 ⟨A4, n4, c4, rfl, hown, hb4⟩)))
        refine hK.out _ _ ?_ (fun hHeld => ?_)
        · ((try dsimp only); (first | go_keep | (go_split_ands; refine ⟨?_, ?_, ?_⟩ <;> exact kcell (by assumption) (by assumption))))
        clear hK K; (try simp only [Act.put]); (try simp only [List.setIfInBounds_toArray]); (try simp only [List.set_cons_succ]); (try simp only [List.set_cons_zero])
        refine wpAnyH_ready (rs := [6]) (by kernel_rfl) (by simp) ?_
        refine AllReadyH.cons (o := ⟨_, _, _, _, _, _⟩) rfl (fun K hK => ?_) ?_
        · (go_simp; (first | (go_at_call 64; refine (rbit_any _ _).mono ?_; rintro e w0 ⟨rfl, rfl⟩) | (go_at_call 61; refine (rzig_any _ _ h0 h1).mono ?_; rintro e w0 ⟨rfl, rfl⟩) | (go_at_call_of 63 (Value.int .i64 1); refine (rnum_any _ _ _).mono ?_; rintro e w1 ⟨rfl, hb1⟩) | (go_at_call_of 63 (Value.int .i64 2); refine (rnum_any _ _ _).mono ?_; rintro e w2 ⟨rfl, hb2⟩) | (go_at_call 62; refine (rwput_any (fun _ => True) _ 3 3 (putValueF v) _ (by refine Sl.drew (new3p (rep_fnum (tag := 1) (by unfold i64; omega) (b2n_lt _)) (rep_fnum (tag := 2) (by unfold i64; omega) HZ.out) (rep_ftxt (tag := 3) (by unfold i64; omega) ?_) _ _ rfl _ (by simp)); (repeat (first | assumption | exact Sl.nil_ _ _ _ | exact (sb_bs (by assumption)).any | (refine sb_bsA (by assumption) ?_; simp; done) | refine Sl.below ?_ (by assumption) (Nat.le_refl _) | refine Sl.alloc ?_ _ | refine Sl.drew ?_))) (by omega) HW.out).mono ?_; rintro e w4 ⟨A4, n4, c4, rfl, hown, hb4⟩)))
          refine hK.out _ _ ?_ (fun hHeld => ?_)
          · ((try dsimp only); (first | go_keep | (go_split_ands; refine ⟨?_, ?_, ?_⟩ <;> exact kcell (by assumption) (by assumption))))
          clear hK K; (try simp only [Act.put]); (try simp only [List.setIfInBounds_toArray]); (try simp only [List.set_cons_succ]); (try simp only [List.set_cons_zero])
          refine wpAnyH_ready (rs := [7]) (by kernel_rfl) (by simp) ?_
          refine AllReadyH.cons (o := ⟨_, _, _, _, _, _⟩) rfl (fun K hK => ?_) ?_
          · (go_simp; (first | (go_at_call 64; refine (rbit_any _ _).mono ?_; rintro e w0 ⟨rfl, rfl⟩) | (go_at_call 61; refine (rzig_any _ _ h0 h1).mono ?_; rintro e w0 ⟨rfl, rfl⟩) | (go_at_call_of 63 (Value.int .i64 1); refine (rnum_any _ _ _).mono ?_; rintro e w1 ⟨rfl, hb1⟩) | (go_at_call_of 63 (Value.int .i64 2); refine (rnum_any _ _ _).mono ?_; rintro e w2 ⟨rfl, hb2⟩) | (go_at_call 62; refine (rwput_any (fun _ => True) _ 3 3 (putValueF v) _ (by refine Sl.drew (new3p (rep_fnum (tag := 1) (by unfold i64; omega) (b2n_lt _)) (rep_fnum (tag := 2) (by unfold i64; omega) HZ.out) (rep_ftxt (tag := 3) (by unfold i64; omega) ?_) _ _ rfl _ (by simp)); (repeat (first | assumption | exact Sl.nil_ _ _ _ | exact (sb_bs (by assumption)).any | (refine sb_bsA (by assumption) ?_; simp; done) | refine Sl.below ?_ (by assumption) (Nat.le_refl _) | refine Sl.alloc ?_ _ | refine Sl.drew ?_))) (by omega) HW.out).mono ?_; rintro e w4 ⟨A4, n4, c4, rfl, hown, hb4⟩)))
            refine hK.out _ _ ?_ (fun hHeld => ?_)
            · ((try dsimp only); (first | go_keep | (go_split_ands; refine ⟨?_, ?_, ?_⟩ <;> exact kcell (by assumption) (by assumption))))
            clear hK K; (try simp only [Act.put]); (try simp only [List.setIfInBounds_toArray]); (try simp only [List.set_cons_succ]); (try simp only [List.set_cons_zero])
            refine wpAnyH_ready (rs := [12]) (by kernel_rfl) (by simp) ?_
            refine AllReadyH.cons (o := ⟨_, _, _, _, _, _⟩) rfl (fun K hK => ?_) ?_
            · go_simp
              refine hK.out _ _ ?_ (fun hHeld => ?_)
              · ((try dsimp only); (first | go_keep | (go_split_ands; refine ⟨?_, ?_, ?_⟩ <;> exact kcell (by assumption) (by assumption))))
              clear hK K; (try simp only [Act.put]); (try simp only [List.setIfInBounds_toArray]); (try simp only [List.set_cons_succ]); (try simp only [List.set_cons_zero])
              refine wpAnyH_ready (rs := [13]) (by kernel_rfl) (by simp) ?_
              refine AllReadyH.cons (o := ⟨_, _, _, _, _, _⟩) rfl (fun K hK => ?_) ?_
              · (go_simp; (first | (go_at_call 64; refine (rbit_any _ _).mono ?_; rintro e w0 ⟨rfl, rfl⟩) | (go_at_call 61; refine (rzig_any _ _ h0 h1).mono ?_; rintro e w0 ⟨rfl, rfl⟩) | (go_at_call_of 63 (Value.int .i64 1); refine (rnum_any _ _ _).mono ?_; rintro e w1 ⟨rfl, hb1⟩) | (go_at_call_of 63 (Value.int .i64 2); refine (rnum_any _ _ _).mono ?_; rintro e w2 ⟨rfl, hb2⟩) | (go_at_call 62; refine (rwput_any (fun _ => True) _ 3 3 (putValueF v) _ (by refine Sl.drew (new3p (rep_fnum (tag := 1) (by unfold i64; omega) (b2n_lt _)) (rep_fnum (tag := 2) (by unfold i64; omega) HZ.out) (rep_ftxt (tag := 3) (by unfold i64; omega) ?_) _ _ rfl _ (by simp)); (repeat (first | assumption | exact Sl.nil_ _ _ _ | exact (sb_bs (by assumption)).any | (refine sb_bsA (by assumption) ?_; simp; done) | refine Sl.below ?_ (by assumption) (Nat.le_refl _) | refine Sl.alloc ?_ _ | refine Sl.drew ?_))) (by omega) HW.out).mono ?_; rintro e w4 ⟨A4, n4, c4, rfl, hown, hb4⟩)))
                refine hK.out _ _ ?_ (fun hHeld => ?_)
                · ((try dsimp only); (first | go_keep | (go_split_ands; refine ⟨?_, ?_, ?_⟩ <;> exact kcell (by assumption) (by assumption))))
                clear hK K; (try simp only [Act.put]); (try simp only [List.setIfInBounds_toArray]); (try simp only [List.set_cons_succ]); (try simp only [List.set_cons_zero])
                (refine wpAnyH_take (i := 14) (oi := ⟨_, _, _, _, _, _⟩) (v := ?_) rfl (by kernel_rfl) (by kernel_rfl) (by kernel_rfl) (fun _ _ _ h => h) (Or.inl ⟨by rfl, ?_⟩) (by assumption) ?_; rotate_left; · (intro w hSw; (try dsimp only at hSw); go_simp; try with_reducible rfl)); (try simp only [Act.put]); (try simp only [List.setIfInBounds_toArray]); (try simp only [List.set_cons_succ]); (try simp only [List.set_cons_zero])
                (refine wpAnyH_take (i := 15) (oi := ⟨_, _, _, _, _, _⟩) (v := ?_) rfl (by kernel_rfl) (by kernel_rfl) (by kernel_rfl) (fun _ _ _ h => h) (Or.inl ⟨by rfl, ?_⟩) (by assumption) ?_; rotate_left; · (intro w hSw; (try dsimp only at hSw); go_simp; try with_reducible rfl)); (try simp only [Act.put]); (try simp only [List.setIfInBounds_toArray]); (try simp only [List.set_cons_succ]); (try simp only [List.set_cons_zero])
                (refine wpAnyH_take (i := 16) (oi := ⟨_, _, _, _, _, _⟩) (v := ?_) rfl (by kernel_rfl) (by kernel_rfl) (by kernel_rfl) (fun _ _ _ h => h) (Or.inl ⟨by rfl, ?_⟩) (by assumption) ?_; rotate_left; · (intro w hSw; (try dsimp only at hSw); go_simp; try with_reducible rfl)); (try simp only [Act.put]); (try simp only [List.setIfInBounds_toArray]); (try simp only [List.set_cons_succ]); (try simp only [List.set_cons_zero])
                (refine wpAnyH_take (i := 17) (oi := ⟨_, _, _, _, _, _⟩) (v := ?_) rfl (by kernel_rfl) (by kernel_rfl) (by kernel_rfl) (fun _ _ _ h => h) (Or.inl ⟨by rfl, ?_⟩) (by assumption) ?_; rotate_left; · (intro w hSw; (try dsimp only at hSw); go_simp; try with_reducible rfl)); (try simp only [Act.put]); (try simp only [List.setIfInBounds_toArray]); (try simp only [List.set_cons_succ]); (try simp only [List.set_cons_zero])
                (refine wpAnyH_take (i := 18) (oi := ⟨_, _, _, _, _, _⟩) (v := ?_) rfl (by kernel_rfl) (by kernel_rfl) (by kernel_rfl) (fun _ _ _ h => h) (Or.inl ⟨by rfl, ?_⟩) (by assumption) ?_; rotate_left; · (intro w hSw; (try dsimp only at hSw); go_simp; try with_reducible rfl)); (try simp only [Act.put]); (try simp only [List.setIfInBounds_toArray]); (try simp only [List.set_cons_succ]); (try simp only [List.set_cons_zero])
                refine wpAnyH_done (by kernel_rfl) ?_ _
                go_wp2
                go_ret
                exact ⟨A4, n4, c4, rfl, hown.down (by have := hb1.size; have := hb2.size; simp at *; omega), by (repeat (first | exact Below.refl _ _ | assumption | refine bthen ?_ (by assumption) | refine balloc ?_ _ | refine bdrew ?_))⟩
              exact AllReadyH.nil
            exact AllReadyH.nil
          exact AllReadyH.nil
        exact AllReadyH.nil
      exact AllReadyH.nil
    exact AllReadyH.nil
  refine AllReadyH.cons (o := ⟨_, _, _, _, _, _⟩) rfl (fun K hK => ?_) ?_
  · go_simp
    refine hK.out _ _ ?_ (fun hHeld => ?_)
    · ((try dsimp only); (first | go_keep | (go_split_ands; refine ⟨?_, ?_, ?_⟩ <;> exact kcell (by assumption) (by assumption))))
    clear hK K; (try simp only [Act.put]); (try simp only [List.setIfInBounds_toArray]); (try simp only [List.set_cons_succ]); (try simp only [List.set_cons_zero])
    (refine wpAnyH_take (i := 11) (oi := ⟨_, _, _, _, _, _⟩) (v := ?_) rfl (by kernel_rfl) (by kernel_rfl) (by kernel_rfl) (fun _ _ _ h => h) (Or.inl ⟨by rfl, ?_⟩) (by assumption) ?_; rotate_left; · (intro w hSw; (try dsimp only at hSw); go_simp; try with_reducible rfl)); (try simp only [Act.put]); (try simp only [List.setIfInBounds_toArray]); (try simp only [List.set_cons_succ]); (try simp only [List.set_cons_zero])
    refine wpAnyH_ready (rs := [2]) (by kernel_rfl) (by simp) ?_
    refine AllReadyH.cons (o := ⟨_, _, _, _, _, _⟩) rfl (fun K hK => ?_) ?_
    · (go_simp; (first | (go_at_call 64; refine (rbit_any _ _).mono ?_; rintro e w0 ⟨rfl, rfl⟩) | (go_at_call 61; refine (rzig_any _ _ h0 h1).mono ?_; rintro e w0 ⟨rfl, rfl⟩) | (go_at_call_of 63 (Value.int .i64 1); refine (rnum_any _ _ _).mono ?_; rintro e w1 ⟨rfl, hb1⟩) | (go_at_call_of 63 (Value.int .i64 2); refine (rnum_any _ _ _).mono ?_; rintro e w2 ⟨rfl, hb2⟩) | (go_at_call 62; refine (rwput_any (fun _ => True) _ 3 3 (putValueF v) _ (by refine Sl.drew (new3p (rep_fnum (tag := 1) (by unfold i64; omega) (b2n_lt _)) (rep_fnum (tag := 2) (by unfold i64; omega) HZ.out) (rep_ftxt (tag := 3) (by unfold i64; omega) ?_) _ _ rfl _ (by simp)); (repeat (first | assumption | exact Sl.nil_ _ _ _ | exact (sb_bs (by assumption)).any | (refine sb_bsA (by assumption) ?_; simp; done) | refine Sl.below ?_ (by assumption) (Nat.le_refl _) | refine Sl.alloc ?_ _ | refine Sl.drew ?_))) (by omega) HW.out).mono ?_; rintro e w4 ⟨A4, n4, c4, rfl, hown, hb4⟩)))
      refine hK.out _ _ ?_ (fun hHeld => ?_)
      · ((try dsimp only); (first | go_keep | (go_split_ands; refine ⟨?_, ?_, ?_⟩ <;> exact kcell (by assumption) (by assumption))))
      clear hK K; (try simp only [Act.put]); (try simp only [List.setIfInBounds_toArray]); (try simp only [List.set_cons_succ]); (try simp only [List.set_cons_zero])
      refine wpAnyH_ready (rs := [3]) (by kernel_rfl) (by simp) ?_
      refine AllReadyH.cons (o := ⟨_, _, _, _, _, _⟩) rfl (fun K hK => ?_) ?_
      · (go_simp; (first | (go_at_call 64; refine (rbit_any _ _).mono ?_; rintro e w0 ⟨rfl, rfl⟩) | (go_at_call 61; refine (rzig_any _ _ h0 h1).mono ?_; rintro e w0 ⟨rfl, rfl⟩) | (go_at_call_of 63 (Value.int .i64 1); refine (rnum_any _ _ _).mono ?_; rintro e w1 ⟨rfl, hb1⟩) | (go_at_call_of 63 (Value.int .i64 2); refine (rnum_any _ _ _).mono ?_; rintro e w2 ⟨rfl, hb2⟩) | (go_at_call 62; refine (rwput_any (fun _ => True) _ 3 3 (putValueF v) _ (by refine Sl.drew (new3p (rep_fnum (tag := 1) (by unfold i64; omega) (b2n_lt _)) (rep_fnum (tag := 2) (by unfold i64; omega) HZ.out) (rep_ftxt (tag := 3) (by unfold i64; omega) ?_) _ _ rfl _ (by simp)); (repeat (first | assumption | exact Sl.nil_ _ _ _ | exact (sb_bs (by assumption)).any | (refine sb_bsA (by assumption) ?_; simp; done) | refine Sl.below ?_ (by assumption) (Nat.le_refl _) | refine Sl.alloc ?_ _ | refine Sl.drew ?_))) (by omega) HW.out).mono ?_; rintro e w4 ⟨A4, n4, c4, rfl, hown, hb4⟩)))
        refine hK.out _ _ ?_ (fun hHeld => ?_)
        · ((try dsimp only); (first | go_keep | (go_split_ands; refine ⟨?_, ?_, ?_⟩ <;> exact kcell (by assumption) (by assumption))))
        clear hK K; (try simp only [Act.put]); (try simp only [List.setIfInBounds_toArray]); (try simp only [List.set_cons_succ]); (try simp only [List.set_cons_zero])
        refine wpAnyH_ready (rs := [6]) (by kernel_rfl) (by simp) ?_
        refine AllReadyH.cons (o := ⟨_, _, _, _, _, _⟩) rfl (fun K hK => ?_) ?_
        · (go_simp; (first | (go_at_call 64; refine (rbit_any _ _).mono ?_; rintro e w0 ⟨rfl, rfl⟩) | (go_at_call 61; refine (rzig_any _ _ h0 h1).mono ?_; rintro e w0 ⟨rfl, rfl⟩) | (go_at_call_of 63 (Value.int .i64 1); refine (rnum_any _ _ _).mono ?_; rintro e w1 ⟨rfl, hb1⟩) | (go_at_call_of 63 (Value.int .i64 2); refine (rnum_any _ _ _).mono ?_; rintro e w2 ⟨rfl, hb2⟩) | (go_at_call 62; refine (rwput_any (fun _ => True) _ 3 3 (putValueF v) _ (by refine Sl.drew (new3p (rep_fnum (tag := 1) (by unfold i64; omega) (b2n_lt _)) (rep_fnum (tag := 2) (by unfold i64; omega) HZ.out) (rep_ftxt (tag := 3) (by unfold i64; omega) ?_) _ _ rfl _ (by simp)); (repeat (first | assumption | exact Sl.nil_ _ _ _ | exact (sb_bs (by assumption)).any | (refine sb_bsA (by assumption) ?_; simp; done) | refine Sl.below ?_ (by assumption) (Nat.le_refl _) | refine Sl.alloc ?_ _ | refine Sl.drew ?_))) (by omega) HW.out).mono ?_; rintro e w4 ⟨A4, n4, c4, rfl, hown, hb4⟩)))
          refine hK.out _ _ ?_ (fun hHeld => ?_)
          · ((try dsimp only); (first | go_keep | (go_split_ands; refine ⟨?_, ?_, ?_⟩ <;> exact kcell (by assumption) (by assumption))))
          clear hK K; (try simp only [Act.put]); (try simp only [List.setIfInBounds_toArray]); (try simp only [List.set_cons_succ]); (try simp only [List.set_cons_zero])
          refine wpAnyH_ready (rs := [7]) (by kernel_rfl) (by simp) ?_
          refine AllReadyH.cons (o := ⟨_, _, _, _, _, _⟩) rfl (fun K hK => ?_) ?_
          · (go_simp; (first | (go_at_call 64; refine (rbit_any _ _).mono ?_; rintro e w0 ⟨rfl, rfl⟩) | (go_at_call 61; refine (rzig_any _ _ h0 h1).mono ?_; rintro e w0 ⟨rfl, rfl⟩) | (go_at_call_of 63 (Value.int .i64 1); refine (rnum_any _ _ _).mono ?_; rintro e w1 ⟨rfl, hb1⟩) | (go_at_call_of 63 (Value.int .i64 2); refine (rnum_any _ _ _).mono ?_; rintro e w2 ⟨rfl, hb2⟩) | (go_at_call 62; refine (rwput_any (fun _ => True) _ 3 3 (putValueF v) _ (by refine Sl.drew (new3p (rep_fnum (tag := 1) (by unfold i64; omega) (b2n_lt _)) (rep_fnum (tag := 2) (by unfold i64; omega) HZ.out) (rep_ftxt (tag := 3) (by unfold i64; omega) ?_) _ _ rfl _ (by simp)); (repeat (first | assumption | exact Sl.nil_ _ _ _ | exact (sb_bs (by assumption)).any | (refine sb_bsA (by assumption) ?_; simp; done) | refine Sl.below ?_ (by assumption) (Nat.le_refl _) | refine Sl.alloc ?_ _ | refine Sl.drew ?_))) (by omega) HW.out).mono ?_; rintro e w4 ⟨A4, n4, c4, rfl, hown, hb4⟩)))
            refine hK.out _ _ ?_ (fun hHeld => ?_)
            · ((try dsimp only); (first | go_keep | (go_split_ands; refine ⟨?_, ?_, ?_⟩ <;> exact kcell (by assumption) (by assumption))))
            clear hK K; (try simp only [Act.put]); (try simp only [List.setIfInBounds_toArray]); (try simp only [List.set_cons_succ]); (try simp only [List.set_cons_zero])
            refine wpAnyH_ready (rs := [12]) (by kernel_rfl) (by simp) ?_
            refine AllReadyH.cons (o := ⟨_, _, _, _, _, _⟩) rfl (fun K hK => ?_) ?_
            · go_simp
              refine hK.out _ _ ?_ (fun hHeld => ?_)
              · ((try dsimp only); (first | go_keep | (go_split_ands; refine ⟨?_, ?_, ?_⟩ <;> exact kcell (by assumption) (by assumption))))
              clear hK K; (try simp only [Act.put]); (try simp only [List.setIfInBounds_toArray]); (try simp only [List.set_cons_succ]); (try simp only [List.set_cons_zero])
              refine wpAnyH_ready (rs := [13]) (by kernel_rfl) (by simp) ?_
              refine AllReadyH.cons (o := ⟨_, _, _, _, _, _⟩) rfl (fun K hK => ?_) ?_
              · (go_simp; (first | (go_at_call 64; refine (rbit_any _ _).mono ?_; rintro e w0 ⟨rfl, rfl⟩) | (go_at_call 61; refine (rzig_any _ _ h0 h1).mono ?_; rintro e w0 ⟨rfl, rfl⟩) | (go_at_call_of 63 (Value.int .i64 1); refine (rnum_any _ _ _).mono ?_; rintro e w1 ⟨rfl, hb1⟩) | (go_at_call_of 63 (Value.int .i64 2); refine (rnum_any _ _ _).mono ?_; rintro e w2 ⟨rfl, hb2⟩) | (go_at_call 62; refine (rwput_any (fun _ => True) _ 3 3 (putValueF v) _ (by refine Sl.drew (new3p (rep_fnum (tag := 1) (by unfold i64; omega) (b2n_lt _)) (rep_fnum (tag := 2) (by unfold i64; omega) HZ.out) (rep_ftxt (tag := 3) (by unfold i64; omega) ?_) _ _ rfl _ (by simp)); (repeat (first | assumption | exact Sl.nil_ _ _ _ | exact (sb_bs (by assumption)).any | (refine sb_bsA (by assumption) ?_; simp; done) | refine Sl.below ?_ (by assumption) (Nat.le_refl _) | refine Sl.alloc ?_ _ | refine Sl.drew ?_))) (by omega) HW.out).mono ?_; rintro e w4 ⟨A4, n4, c4, rfl, hown, hb4⟩)))
                refine hK.out _ _ ?_ (fun hHeld => ?_)
                · ((try dsimp only); (first | go_keep | (go_split_ands; refine ⟨?_, ?_, ?_⟩ <;> exact kcell (by assumption) (by assumption))))
                clear hK K; (try simp only [Act.put]); (try simp only [List.setIfInBounds_toArray]); (try simp only [List.set_cons_succ]); (try simp only [List.set_cons_zero])
                (refine wpAnyH_take (i := 14) (oi := ⟨_, _, _, _, _, _⟩) (v := ?_) rfl (by kernel_rfl) (by kernel_rfl) (by kernel_rfl) (fun _ _ _ h => h) (Or.inl ⟨by rfl, ?_⟩) (by assumption) ?_; rotate_left; · (intro w hSw; (try dsimp only at hSw); go_simp; try with_reducible rfl)); (try simp only [Act.put]); (try simp only [List.setIfInBounds_toArray]); (try simp only [List.set_cons_succ]); (try simp only [List.set_cons_zero])
                (refine wpAnyH_take (i := 15) (oi := ⟨_, _, _, _, _, _⟩) (v := ?_) rfl (by kernel_rfl) (by kernel_rfl) (by kernel_rfl) (fun _ _ _ h => h) (Or.inl ⟨by rfl, ?_⟩) (by assumption) ?_; rotate_left; · (intro w hSw; (try dsimp only at hSw); go_simp; try with_reducible rfl)); (try simp only [Act.put]); (try simp only [List.setIfInBounds_toArray]); (try simp only [List.set_cons_succ]); (try simp only [List.set_cons_zero])
                (refine wpAnyH_take (i := 16) (oi := ⟨_, _, _, _, _, _⟩) (v := ?_) rfl (by kernel_rfl) (by kernel_rfl) (by kernel_rfl) (fun _ _ _ h => h) (Or.inl ⟨by rfl, ?_⟩) (by assumption) ?_; rotate_left; · (intro w hSw; (try dsimp only at hSw); go_simp; try with_reducible rfl)); (try simp only [Act.put]); (try simp only [List.setIfInBounds_toArray]); (try simp only [List.set_cons_succ]); (try simp only [List.set_cons_zero])
                (refine wpAnyH_take (i := 17) (oi := ⟨_, _, _, _, _, _⟩) (v := ?_) rfl (by kernel_rfl) (by kernel_rfl) (by kernel_rfl) (fun _ _ _ h => h) (Or.inl ⟨by rfl, ?_⟩) (by assumption) ?_; rotate_left; · (intro w hSw; (try dsimp only at hSw); go_simp; try with_reducible rfl)); (try simp only [Act.put]); (try simp only [List.setIfInBounds_toArray]); (try simp only [List.set_cons_succ]); (try simp only [List.set_cons_zero])
                (refine wpAnyH_take (i := 18) (oi := ⟨_, _, _, _, _, _⟩) (v := ?_) rfl (by kernel_rfl) (by kernel_rfl) (by kernel_rfl) (fun _ _ _ h => h) (Or.inl ⟨by rfl, ?_⟩) (by assumption) ?_; rotate_left; · (intro w hSw; (try dsimp only at hSw); go_simp; try with_reducible rfl)); (try simp only [Act.put]); (try simp only [List.setIfInBounds_toArray]); (try simp only [List.set_cons_succ]); (try simp only [List.set_cons_zero])
                refine wpAnyH_done (by kernel_rfl) ?_ _
                go_wp2
                go_ret
                exact ⟨A4, n4, c4, rfl, hown.down (by have := hb1.size; have := hb2.size; simp at *; omega), by (repeat (first | exact Below.refl _ _ | assumption | refine bthen ?_ (by assumption) | refine balloc ?_ _ | refine bdrew ?_))⟩
              exact AllReadyH.nil
            exact AllReadyH.nil
          exact AllReadyH.nil
        exact AllReadyH.nil
      exact AllReadyH.nil
    exact AllReadyH.nil
  exact AllReadyH.nil

set_option maxRecDepth 100000 in
set_option maxHeartbeats 400000 in
theorem rfnum_any (tag x : Int) (w : World) (h0 : -9223372036854775808 ≤ x) (h1 : x ≤ 9223372036854775807) :
    Calls Tryz.prog 32 #[.int .i64 tag, .int .i64 x] w (IsFld tag false (zigN x) none 0 0 w) := by
  go_enter Tryz.func32, Tryz.ntmps32
  go_wp2_with (go_at_call 61; refine (rzig_any x _ h0 h1).mono ?_; rintro e w' ⟨rfl, rfl⟩)
  exact bodyPost_ret (v := .agg #[_, _, _, _]) (by simp [results, Tryz.results32, go_sem]) rfl ⟨rfl, (Below.refl _ w).alloc (Nat.le_refl _) _⟩
set_option maxRecDepth 100000 in
set_option maxHeartbeats 400000 in
theorem rsome_any (tag : Int) (A : Option Addr) (n c : Nat) (w : World) :
    Calls Tryz.prog 33 #[.int .i64 tag, .slice A n c] w (IsFld tag true 0 A n c w) := by
  go_enter Tryz.func33, Tryz.ntmps33
  go_wp2
  exact bodyPost_ret (v := .agg #[_, _, _, _]) (by simp [results, Tryz.results33, go_sem]) rfl ⟨rfl, (Below.refl _ w).alloc (Nat.le_refl _) _⟩
theorem wlen_ge : ∀ l : List Fld, l.length ≤ wlen l
  | [] => by simp
  | f :: r => by have := wlen_ge r; simp only [wlen, List.length_cons]; omega
set_option maxRecDepth 100000 in
set_option maxHeartbeats 400000 in
theorem rput_any (F : Nat → Prop) (A : Option Addr) (n c : Nat) (l : List Fld) (w : World) (h : Sl tFld F w A n c l) (hl : wlen l ≤ 4294967200) :
    Calls Tryz.prog 35 #[.slice A n c] w (Own1 w (dput l)) := by
  have hlen : n ≤ 4294967296 := by
    have := h.len
    have := wlen_ge l
    omega
  go_enter Tryz.func35, Tryz.ntmps35
  go_wp2_with (go_at_call 62; refine (rwput_any F A n c l _ h hlen hl).mono ?_; rintro e w1 ⟨A1, n1, c1, rfl, hown, hb⟩)
  go_ret
  exact ⟨A1, n1, c1, rfl, hown, hb⟩
theorem elemRFld : ElemOf Tryz.prog 62 68 tFld.size := ElemOf.mk' (bytes := 48) (z := .agg #[.int .i64 0, .bool false, .int .u64 0, .slice none 0 0]) (by kernel_rfl) (by kernel_rfl) rfl (by decide) (by decide)
end Go.Proofs.YtojenpjafgfpaaaGreatDoor
