/- The reference 05: runs of bytes. -/
import Derived.Test.YtpmglcachffojaaGreatDoorPk24
import Derived.Test.YtpmglcachffojaaGreatDoorPk21
import Derived.Test.YtpmglcachffojaaGreatDoorPk2
import Derived.Test.YtpmglcachffojaaGreatDoorPk15
import Derived.Deep.QuietTactic
import Derived.BigQuiet
import Derived.Deep.CutBlock
namespace Go.Proofs.YtpmglcachffojaaGreatDoor
open Go Go.RowKit

theorem tw_ge {p : UInt8 → Bool} : ∀ (l : List UInt8) (k : Nat), k ≤ l.length → (∀ j (_ : j < l.length), j < k → p l[j] = true) → k ≤ (l.takeWhile p).length
  | [], k, h, _ => by simpa using h
  | x :: r, 0, _, _ => Nat.zero_le _
  | x :: r, k + 1, h, hp => by
    have h0 : p x = true := hp 0 (by simp) (by omega)
    have h1 := tw_ge r k (by simpa using h) (fun j hj hk => hp (j + 1) (by simpa using hj) (by omega))
    rw [List.takeWhile_cons, if_pos h0, List.length_cons]
    omega
theorem tw_stop {p : UInt8 → Bool} : ∀ (l : List UInt8) (k : Nat) (h : k < l.length), p l[k] = false → (l.takeWhile p).length ≤ k
  | x :: r, 0, _, hp => by
    have hp : p x = false := hp
    rw [List.takeWhile_cons, if_neg (by rw [hp]; decide)]; simp
  | x :: r, k + 1, h, hp => by
    have h1 := tw_stop r k (by simpa using h) hp
    rw [List.takeWhile_cons]
    split
    · rw [List.length_cons]; omega
    · simp
theorem bsame_of (b : List UInt8) (a k : Nat) (ha : a < b.length) (h1 : 1 ≤ k) (hk : k ≤ 130) (hl : a + k ≤ b.length) (he : ∀ j (_ : a + j < b.length), j < k → b[a + j] = b[a])
    (hx : k = 130 ∨ a + k = b.length ∨ ∃ h : a + k < b.length, b[a + k] ≠ b[a]) : bsame (b.drop a) = k := by
  have hd : (b.drop a).headD 0 = b[a] := by rw [List.drop_eq_getElem_cons ha]; rfl
  have hlen : (b.drop a).length = b.length - a := List.length_drop
  have hge : k ≤ ((b.drop a).takeWhile (· == b[a])).length := tw_ge _ k (by omega) fun j hj hjk => by
    rw [List.getElem_drop, he j (by omega) hjk]; simp
  have hle := (List.takeWhile_prefix (l := b.drop a) (· == b[a])).length_le
  unfold bsame
  rw [hd]
  rcases hx with h | h | ⟨h, hne⟩
  · omega
  · omega
  · have h2 := tw_stop (p := (· == b[a])) (b.drop a) k (by omega) (by rw [List.getElem_drop]; simpa using hne)
    omega
theorem u8_no {x y : UInt8} (h : x ≠ y) : ((x.toNat : Int) == (y.toNat : Int)) = false := by
  simp only [beq_eq_false_iff_ne, ne_eq]
  intro e; exact h (UInt8.toNat_inj.1 (by omega))
set_option maxRecDepth 100000 in
set_option maxHeartbeats 2000000 in
theorem r5same_any (F : Nat → Prop) (A : Option Addr) (n c : Nat) (bs : List UInt8) (w : World) (h : Bs F w A n c bs) (a : Nat) (ha : a < n) (hn : n ≤ 4096) :
    Calls Tryz.prog 212 #[.slice A n c, .int .i64 (a : Int)] w fun e w' => e = .returned (.int .i64 ((bsame (bs.drop a) : Nat) : Int)) ∧ Below w.heap.size w w' := by
  have HH := Lib.hid h; have HL := Lib.hid h.len
  have hab : a < bs.length := by rw [← HL.out]; exact ha
  clear h
  obtain ⟨b, o, u0, rfl, _, hbl, hr0, hc0⟩ := HH.out.at1 hab rfl
  have hr0 : [u0] = [Value.int .u8 (bs[a].toNat : Int)] := hr0
  injection hr0 with hr0; subst hr0
  obtain ⟨y, hy⟩ : ∃ y, y = bs[a] := ⟨_, rfl⟩
  rw [← hy] at hc0
  have HY := Lib.hid hy; have HC0 := Lib.hid hc0
  clear hy hc0
  go_enter Tryz.func212, Tryz.ntmps212
  go_wp2_with fail
  go_loopw [5] (fun kv wr => ∃ k : Nat, 1 ≤ k ∧ k ≤ 130 ∧ a + k ≤ n ∧ kv = .int .i64 (k : Int) ∧ Hid (∀ j (_ : a + j < bs.length), j < k → bs[a + j] = bs[a]) ∧ Below w.heap.size w wr) (fun kv _ => 130 - (intOf kv).toNat)
  case atStart => exact ⟨1, Nat.le_refl _, by omega, by omega, rfl, Lib.hid (fun j _ hj => by obtain rfl : j = 0 := (by omega); simp), Below.refl _ _⟩
  case round =>
    obtain ⟨k, hk1, hk2, hk3, rfl, HE, hb⟩ := hrel
    have HB := Lib.hid hb
    obtain ⟨p, hp⟩ : ∃ p, p = a + k := ⟨_, rfl⟩
    have hpi : (a : Int) + (k : Int) = (p : Int) := by omega
    have hac : (a : Int) < (n : Int) := by omega
    have ha0 : (0 : Int) ≤ (a : Int) := by omega
    have hp0 : (0 : Int) ≤ (p : Int) := by omega
    have HPP := Lib.hid hp
    have hk4 : a + k ≤ bs.length := by rw [← HL.out]; exact hk3
    have c0 := kcell hb HC0.out
    clear hb
    by_cases hlt : p < n
    · have q1 : (p : Int) < (n : Int) := by omega
      by_cases h130 : k < 130
      · have q2 : (k : Int) < 130 := by omega
        have hpl : p < bs.length := by rw [← HL.out]; exact hlt
        obtain ⟨b', o', u, e, _, _, hr, hc⟩ := HH.out.at1 hpl rfl
        cases e
        have hr : [u] = [Value.int .u8 (bs[p].toNat : Int)] := hr
        injection hr with hr; subst hr
        obtain ⟨x, hx⟩ : ∃ x, x = bs[p] := ⟨_, rfl⟩
        rw [← hx] at hc
        have HXX := Lib.hid hx
        have c1 := kcell HB.out hc
        clear hc hx
        by_cases hxy : x = y
        · subst hxy
          have HE2 : Hid (∀ j (_ : a + j < bs.length), j < k + 1 → bs[a + j] = bs[a]) := Lib.hid (fun j hj hjk => by
            by_cases hjk2 : j = k
            · subst hjk2
              have h1 := HXX.out; have h2 := HY.out; have h3 := HPP.out
              subst h3
              rw [← h1, ← h2]
            · exact HE.out j hj (by omega))
          clear hp
          go_wp2_with fail
          go_quiet (fail)
          go_wp2_with fail
          go_roundw
          case rel => exact ⟨k + 1, by omega, by omega, by have := HPP.out; omega, by go_num, HE2, bdrewN HB.out _⟩
          case measure => simp [intOf]; omega
        · have hno := u8_no hxy
          have HR := Lib.hid (show bsame (bs.drop a) = k from bsame_of bs a k hab hk1 hk2 (by omega) HE.out (.inr (.inr ⟨by omega, by
            have h1 := HXX.out; have h2 := HY.out; have h3 := HPP.out
            subst h3
            rw [← h1, ← h2]; exact hxy⟩)))
          clear hp
          go_wp2_with fail
          go_quiet (fail)
          go_wp2_with fail
          go_ret
          exact ⟨by rw [HR.out]; rfl, bdrewN HB.out _⟩
      · obtain rfl : k = 130 := by omega
        have hpi2 : (a : Int) + 130 = (p : Int) := by omega
        have HR := Lib.hid (show bsame (bs.drop a) = 130 from bsame_of bs a 130 hab hk1 hk2 (by omega) HE.out (.inl rfl))
        clear hp
        go_wp2_with fail
        go_quiet (fail)
        go_wp2_with fail
        go_ret
        exact ⟨by rw [HR.out]; rfl, bdrewN HB.out _⟩
    · have q1 : ¬ (p : Int) < (n : Int) := by omega
      have HR := Lib.hid (show bsame (bs.drop a) = k from bsame_of bs a k hab hk1 hk2 (by omega) HE.out (.inr (.inl (by have := HL.out; omega))))
      clear hp
      go_wp2_with fail
      go_quiet (fail)
      go_wp2_with fail
      go_ret
      exact ⟨by rw [HR.out]; rfl, bdrewN HB.out _⟩
theorem litF_zero {f : Nat} {b : List UInt8} (h : f = 0 ∨ b = [] ∨ 3 ≤ bsame b) : litF f b = 0 := by
  match f, b, h with
  | 0, _, _ => rfl
  | _ + 1, [], _ => rfl
  | f + 1, c :: r, h =>
    have h3 : 3 ≤ bsame (c :: r) := by
      rcases h with h | h | h
      · omega
      · cases h
      · exact h
    unfold litF
    rw [if_neg (by omega)]
theorem litF_succ {f a : Nat} {b : List UInt8} (ha : a < b.length) (h : bsame (b.drop a) < 3) : litF (f + 1) (b.drop a) = 1 + litF f (b.drop (a + 1)) := by
  rw [List.drop_eq_getElem_cons ha] at h ⊢
  conv => lhs; unfold litF
  rw [if_pos h]
theorem bs_new2 (w : World) (y x : UInt8) : Bs (fun _ => True) (w.alloc (.cells #[.int .u8 ((y.toNat : Nat) : Int), .int .u8 ((x.toNat : Nat) : Int)] 5)) (some ⟨w.heap.size, 0, none⟩) 2 2 [y, x] :=
  (Sl.news (T := tU8) (F := fun _ => False) (w := w) (Reps.mk2 (T := tU8) (x1 := y) (x2 := x) rfl rfl) 5 2 rfl (by omega) _ rfl).any
set_option maxRecDepth 100000 in
set_option maxHeartbeats 4000000 in
theorem r5put_any (F : Nat → Prop) (A : Option Addr) (n c : Nat) (bs : List UInt8) (w : World) (h : Bs F w A n c bs) (hn : n ≤ 4096) :
    Calls Tryz.prog 171 #[.slice A n c] w (RunPost (some (byB bs)) w) := by
  have HH := Lib.hid h; have HL := Lib.hid h.len; have HN := Lib.hid hn
  have HNEW := Lib.hid (OwnB.new0 w w.heap.size (Nat.le_refl _))
  have HB0 := Lib.hid (show Below w.heap.size w (w.alloc (.cells #[] 5)) from (Below.refl _ _).alloc (Nat.le_refl _) _)
  have hnc : n ≤ c := h.2.1
  have hcm : c ≤ 9223372036854775807 := by have := h.2.2.1; unfold maxLen at this; omega
  have hn1 : ¬ (n : Int) > 4096 := by omega
  have hn2 : ¬ (4096 : Int) < n := by omega
  clear h
  go_enter Tryz.func171, Tryz.ntmps171
  go_wp2_with fail
  go_loopw [4, 5] (fun ov av wr => ∃ (a : Nat) (Ao : Option Addr) (no co : Nat) (p : List UInt8), a ≤ n ∧ av = .int .i64 (a : Int) ∧ ov = .slice Ao no co ∧ OwnB wr w.heap.size Ao no co p ∧ Below w.heap.size w wr ∧ p ++ byB (bs.drop a) = byB bs ∧ no ≤ 2 * a) (fun _ av _ => n - (intOf av).toNat)
  case atStart => exact ⟨0, _, 0, 0, [], Nat.zero_le _, rfl, rfl, HNEW.out, HB0.out, by rw [List.drop_zero]; rfl, by omega⟩
  case round =>
    obtain ⟨a, Ao, no, co, p, ha, rfl, rfl, ho, hb, hp, hno⟩ := hrel
    have HO := Lib.hid ho; have HB := Lib.hid hb; have HP := Lib.hid hp
    clear ho hb hp
    by_cases hlt : a < n
    · have hal : a < bs.length := by rw [← HL.out]; exact hlt
      have hne : bs.drop a ≠ [] := fun e => by have := congrArg List.length e; rw [List.length_drop] at this; simp at this; omega
      obtain ⟨b, o, u0, rfl, _, hbl, hr0, hc0⟩ := HH.out.at1 hal rfl
      have hr0 : [u0] = [Value.int .u8 (bs[a].toNat : Int)] := hr0
      injection hr0 with hr0; subst hr0
      obtain ⟨x, hx⟩ : ∃ x, x = bs[a] := ⟨_, rfl⟩
      rw [← hx] at hc0
      have HC0 := Lib.hid hc0
      have hhd : (bs.drop a).headD 0 = x := by rw [List.drop_eq_getElem_cons hal, hx]; rfl
      have HHD := Lib.hid hhd; have HNE := Lib.hid hne
      obtain ⟨s, hs⟩ : ∃ s, s = bsame (bs.drop a) := ⟨_, rfl⟩
      have HS := Lib.hid hs
      have hsle := bsame_le (bs.drop a)
      rw [← hs, List.length_drop] at hsle
      have hs130 : s ≤ 130 := by rw [hs]; unfold bsame; omega
      have hs1 : 1 ≤ s := by rw [hs]; exact bsame_pos hne
      have hac : (a : Int) < (n : Int) := by omega
      have ha0 : (0 : Int) ≤ (a : Int) := by omega
      have hsn : a + s ≤ n := by have := HL.out; omega
      have hno2 : no ≤ 8192 := by omega
      clear hx hc0 hhd hs hne
      by_cases h3 : 3 ≤ s
      · have q3 : (s : Int) ≥ 3 := by omega
        have q3' : (3 : Int) ≤ (s : Int) := by omega
        obtain ⟨y, hy⟩ : ∃ y, y = UInt8.ofNat (s - 3) := ⟨_, rfl⟩
        have hyv : (s : Int) - 3 = ((y.toNat : Nat) : Int) := by rw [hy, UInt8.toNat_ofNat']; omega
        have HR := Lib.hid (show ∀ q, q = p ++ [y, x] → q ++ byB (bs.drop (a + s)) = byB bs by
          rintro q rfl
          rw [← HP.out, byB_run (b := bs.drop a) (by rw [← HS.out]; exact h3), ← HS.out, HHD.out, ← hy, List.drop_drop, List.append_assoc])
        clear hy
        go_wp2_with (first
          | (go_at_call 212; refine (r5same_any F _ n c bs _ (HH.out.below HB.out (Nat.le_refl _)) a hlt HN.out).mono ?_; rintro e w2 ⟨rfl, hb2⟩; rw [← HS.out]; have HO2 := Lib.hid (HO.out.keepB hb2); have HB2 := Lib.hid (HB.out.trans (hb2.mono HB.out.size)); have c0 := kcell HB2.out HC0.out; clear hb2)
          | (at_builtin; refine apb (w2.alloc (.cells #[.int .u8 ((y.toNat : Nat) : Int), .int .u8 ((x.toNat : Nat) : Int)] 5)) w rfl (.tmp 21) (.tmp 29) rfl w.heap.size Ao no co p rfl (own_u8 ⟨_, HO2.out.own.alloc _⟩) (HB2.out.alloc HB2.out.size _) (Nat.le_refl _) (fun _ => True) (some ⟨w2.heap.size, 0, none⟩) 2 2 [y, x] rfl (bs_new2 w2 y x) (by omega) ?_; intro A5 c5 w5 ho5 hb5 _)
          | fail)
        go_roundw
        case rel => exact ⟨a + s, A5, no + 2, c5, _, by omega, by go_num, rfl, ho5, hb5, HR.out _ rfl, by omega⟩
        case measure => simp [intOf]; omega
      · have q3 : ¬ (s : Int) ≥ 3 := by omega
        have q3' : ¬ (3 : Int) ≤ (s : Int) := by omega
        have hlp : 1 ≤ litN (bs.drop a) := litN_pos HNE.out (by rw [← HS.out]; omega)
        have HLP := Lib.hid hlp
        clear hlp
        go_upto_region 10 with (first
          | (go_at_call 212; refine (r5same_any F _ n c bs _ (HH.out.below HB.out (Nat.le_refl _)) a hlt HN.out).mono ?_; rintro e w2 ⟨rfl, hb2⟩; rw [← HS.out]; have HO2 := Lib.hid (HO.out.keepB hb2); have HB2 := Lib.hid (HB.out.trans (hb2.mono HB.out.size)); clear hb2)
          | fail)
        go_upto_block 2 with fail
        go_cut [7] from 12 to 67 (fun ev wx => ∃ k : Nat, 1 ≤ k ∧ k ≤ 128 ∧ a + k ≤ n ∧ ev = .int .i64 ((a + k : Nat) : Int) ∧ litN (bs.drop a) = k ∧ Below w2.heap.size w2 wx)
        case first =>
          go_wp2_with fail
          go_loopw [7] (fun ev wx => ∃ k : Nat, a + k ≤ n ∧ k ≤ 128 ∧ ev = .int .i64 ((a + k : Nat) : Int) ∧ litN (bs.drop a) = k + litF (128 - k) (bs.drop (a + k)) ∧ Below w2.heap.size w2 wx) (fun ev _ => n - (intOf ev).toNat)
          case atStart => exact ⟨0, by omega, by omega, rfl, by rw [Nat.zero_add]; rfl, Below.refl _ _⟩
          case round =>
            obtain ⟨k, hk1, hk2, rfl, hlit, hbx⟩ := hrel
            obtain ⟨wx, rfl⟩ : ∃ wx, wx = wr := ⟨wr, rfl⟩
            have HLI := Lib.hid hlit; have HBX := Lib.hid hbx
            obtain ⟨e, he⟩ : ∃ e, e = a + k := ⟨_, rfl⟩
            rw [← he]
            have HEE := Lib.hid he
            have hek : (e : Int) - (a : Int) = (k : Int) := by omega
            have he0 : (0 : Int) ≤ (e : Int) := by omega
            have hen : e ≤ n := by omega
            have HZERO := Lib.hid (show e = n ∨ k = 128 ∨ 3 ≤ bsame (bs.drop e) → litN (bs.drop a) = k ∧ 1 ≤ k from fun hstop => by
              have hk : litN (bs.drop a) = k := by
                rw [hlit, litF_zero]
                · rfl
                · rw [← he]
                  rcases hstop with h | h | h
                  · exact .inr (.inl (List.drop_eq_nil_of_le (by rw [← HL.out]; omega)))
                  · exact .inl (by omega)
                  · exact .inr (.inr h)
              exact ⟨hk, by rw [← hk]; exact HLP.out⟩)
            clear hlit hbx he
            by_cases h1 : e < n
            · have g1 : (e : Int) < (n : Int) := by omega
              by_cases h2 : k < 128
              · have g2 : (k : Int) < 128 := by omega
                obtain ⟨s2, hs2⟩ : ∃ s2, s2 = bsame (bs.drop e) := ⟨_, rfl⟩
                have HS2 := Lib.hid hs2
                by_cases h4 : s2 < 3
                · have g4 : (s2 : Int) < 3 := by omega
                  have HNX := Lib.hid (show litN (bs.drop a) = (k + 1) + litF (128 - (k + 1)) (bs.drop (a + (k + 1))) by
                    rw [HLI.out, show 128 - k = 128 - (k + 1) + 1 by omega, ← HEE.out, litF_succ (by rw [← HL.out]; exact h1) (by rw [← hs2]; exact h4), HEE.out, ← Nat.add_assoc k, show a + k + 1 = a + (k + 1) by omega])
                  clear hs2
                  go_wp2_with (first
                    | (go_at_call 212; refine (r5same_any F _ n c bs _ (HH.out.below (HB2.out.trans (HBX.out.mono HB2.out.size)) (Nat.le_refl _)) e h1 HN.out).mono ?_; rintro q w4 ⟨rfl, hb4⟩; rw [← HS2.out]; have HB4 := Lib.hid (HBX.out.trans (hb4.mono HBX.out.size)); clear hb4)
                    | fail)
                  go_roundw
                  case rel => exact ⟨k + 1, by have := HEE.out; omega, by omega, by rw [show a + (k + 1) = e + 1 by have := HEE.out; omega]; go_num, HNX.out, HB4.out⟩
                  case measure => simp [intOf]; omega
                · have g4 : ¬ (s2 : Int) < 3 := by omega
                  have hz := HZERO.out (.inr (.inr (by rw [← hs2]; omega)))
                  clear hs2
                  go_wp2_with (first
                    | (go_at_call 212; refine (r5same_any F _ n c bs _ (HH.out.below (HB2.out.trans (HBX.out.mono HB2.out.size)) (Nat.le_refl _)) e h1 HN.out).mono ?_; rintro q w4 ⟨rfl, hb4⟩; rw [← HS2.out]; have HB4 := Lib.hid (HBX.out.trans (hb4.mono HBX.out.size)); clear hb4)
                    | fail)
                  go_meet
                  exact ⟨k, hz.2, hk2, by have := HEE.out; omega, by rw [← HEE.out], hz.1, HB4.out⟩
              · have g2 : ¬ (k : Int) < 128 := by omega
                have hz := HZERO.out (.inr (.inl (by omega)))
                go_wp2_with fail
                go_meet
                exact ⟨k, hz.2, hk2, by have := HEE.out; omega, by rw [← HEE.out], hz.1, HBX.out⟩
            · have g1 : ¬ (e : Int) < (n : Int) := by omega
              have hz := HZERO.out (.inl (by omega))
              go_wp2_with fail
              go_meet
              exact ⟨k, hz.2, hk2, by have := HEE.out; omega, by rw [← HEE.out], hz.1, HBX.out⟩
        case rest =>
          obtain ⟨k, hk1, hk2, hk3, rfl, hlit, hbx⟩ := hcut
          rename World => w4
          have HB4 := Lib.hid (HB2.out.trans (hbx.mono HB2.out.size)); have HO4 := Lib.hid (HO2.out.keepB hbx)
          obtain ⟨e, he⟩ : ∃ e, e = a + k := ⟨_, rfl⟩
          rw [← he]
          have hek : (e : Int) - (a : Int) = (k : Int) := by omega
          have HEE := Lib.hid he
          obtain ⟨y, hy⟩ : ∃ y, y = UInt8.ofNat (256 - k) := ⟨_, rfl⟩
          have hyv : 256 - (k : Int) = ((y.toNat : Nat) : Int) := by rw [hy, UInt8.toNat_ofNat']; omega
          have HR := Lib.hid (show ∀ q, q = p ++ [y] ++ (bs.drop a).take k → q ++ byB (bs.drop e) = byB bs by
            rintro q rfl
            rw [← HP.out, byB_lit (b := bs.drop a) HNE.out (by rw [← HS.out]; omega), hlit, List.drop_drop, ← he, litB, ← hy]
            simp)
          have hct := HH.out.cut (lo := a) (hi := e) (by omega) (by omega)
          rw [if_neg (by omega), show (bs.take e).drop a = (bs.drop a).take k by rw [he, List.drop_take, Nat.add_sub_cancel_left], show e - a = k by omega] at hct
          have hct2 : Bs F w (some ⟨b, o + a, none⟩) k (c - a) ((bs.drop a).take k) := by
            have e1 : (⟨b, o, none⟩ : Addr).add (a * 1) = ⟨b, o + a, none⟩ := by rw [Nat.mul_one]; exact add_lit b o a
            rw [← e1]; exact hct
          have HCT := Lib.hid hct2
          have j0 : (0 : Int) ≤ (e : Int) := by omega
          have j1 : (a : Int) ≤ (e : Int) := by omega
          have j2 : (e : Int) ≤ (c : Int) := by omega
          have j3 : e ≤ c := by omega
          have j4 : a ≤ e := by omega
          have j5 : ¬ c = a := by omega
          have j6 : ¬ a = c := by omega
          have j7 : e - a = k := by omega
          have j8 : (c : Int) ≤ 9223372036854775807 := by omega
          have j9 : (a : Int) ≤ (c : Int) := by omega
          clear hlit hbx hy hct hct2 he
          refine ‹∀ (a : Act) (w_1 : World), Code.wp _ _ _ a w_1 → _› _ _ ?_
          go_upto_region 14 with (first
            | (at_builtin; refine apb1 w4 w rfl (.tmp 53) (.tmp 59) rfl w.heap.size Ao no co p rfl HO4.out HB4.out (Nat.le_refl _) _ rfl y rfl (by omega) ?_; intro A5 c5 w5 h5 hb5 _; have HO5 := Lib.hid h5; have HB5 := Lib.hid hb5; clear h5 hb5)
            | fail)
          go_wp2_with (first
            | (at_builtin; refine apb w5 w rfl (.tmp 61) (.tmp 65) rfl w.heap.size A5 (no + 1) c5 (p ++ [y]) rfl HO5.out HB5.out (Nat.le_refl _) F (some ⟨b, o + a, none⟩) k (c - a) ((bs.drop a).take k) rfl (HCT.out.below HB5.out (Nat.le_refl _)) (by omega) ?_; intro A6 c6 w6 h6 hb6 _; have HO6 := Lib.hid h6; have HB6 := Lib.hid hb6; clear h6 hb6)
            | fail)
          go_roundw
          case rel => exact ⟨e, A6, no + 1 + k, c6, _, by omega, rfl, rfl, HO6.out, HB6.out, HR.out _ rfl, by have := HEE.out; omega⟩
          case measure => simp [intOf]; have := HEE.out; omega
    · obtain rfl : a = n := by omega
      have HFIN := Lib.hid (show p = byB bs by
        have h1 := HP.out
        rw [List.drop_eq_nil_of_le (by rw [← HL.out]; exact Nat.le_refl _), byB_nil, List.append_nil] at h1
        exact h1)
      go_wp2_with fail
      go_ret2
      exact ⟨HB.out, Ao, no, co, rfl, by rw [← HFIN.out]; exact HO.out⟩
end Go.Proofs.YtpmglcachffojaaGreatDoor
