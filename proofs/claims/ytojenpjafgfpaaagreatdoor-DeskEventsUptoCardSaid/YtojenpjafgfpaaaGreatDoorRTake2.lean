/- The reference 19: Take. -/
import Derived.Test.YtojenpjafgfpaaaGreatDoorRTake1
namespace Go.Proofs.YtojenpjafgfpaaaGreatDoor
open Go Go.RowKit
attribute [local go_sem ↓] Go.wp_at_zero Go.wp_at_succ

theorem wone_none1 {r : List UInt8} (h : vtake r = none) : wone r = none := by unfold wone; rw [h]
theorem wone_bad {r r1 : List UInt8} {key : Nat} (h : vtake r = some (key, r1)) (hb : key < 8 ∨ 802 < key ∨ ¬ (key % 8 = 0 ∨ key % 8 = 2)) : wone r = none := by
  unfold wone; rw [h]; dsimp only
  cases vtake r1 with
  | none => rfl
  | some q =>
    obtain ⟨n, r2⟩ := q
    dsimp only
    rw [if_pos (by omega)]
theorem wone_none2 {r r1 : List UInt8} {key : Nat} (h : vtake r = some (key, r1)) (h2 : vtake r1 = none) : wone r = none := by unfold wone; rw [h]; dsimp only; rw [h2]
theorem wone_num {r r1 r2 : List UInt8} {key n : Nat} (h : vtake r = some (key, r1)) (h2 : vtake r1 = some (n, r2)) (h8 : 8 ≤ key) (h9 : key ≤ 802) (hm : key % 8 = 0) : wone r = some (⟨((key / 8 : Nat) : Int), false, n, []⟩, r2) := by
  unfold wone; rw [h]; dsimp only; rw [h2]; dsimp only; rw [if_neg (by omega), if_pos hm]
theorem wone_long {r r1 r2 : List UInt8} {key n : Nat} (h : vtake r = some (key, r1)) (h2 : vtake r1 = some (n, r2)) (hm : key % 8 = 2) (hl : r2.length < n) : wone r = none := by
  unfold wone; rw [h]; dsimp only; rw [h2]; dsimp only
  by_cases hc : key / 8 < 1 ∨ 100 < key / 8 ∨ ¬ (key % 8 = 0 ∨ key % 8 = 2)
  · rw [if_pos hc]
  · rw [if_neg hc, if_neg (by omega), if_pos hl]
theorem wone_txt {r r1 r2 : List UInt8} {key n : Nat} (h : vtake r = some (key, r1)) (h2 : vtake r1 = some (n, r2)) (h8 : 8 ≤ key) (h9 : key ≤ 802) (hm : key % 8 = 2) (hl : n ≤ r2.length) : wone r = some (⟨((key / 8 : Nat) : Int), true, 0, r2.take n⟩, r2.drop n) := by
  unfold wone; rw [h]; dsimp only; rw [h2]; dsimp only; rw [if_neg (by omega), if_neg (by omega), if_neg (by omega)]
def TkNone (w : World) (e : Ending) (w' : World) : Prop := ∃ x A n c, e = .returned (.tuple #[.int .u64 (x : Nat), .slice A n c, .int .i64 2]) ∧ Below w.heap.size w w'
def TkSome (v : Nat) (r : List UInt8) (w : World) (e : Ending) (w' : World) : Prop := ∃ A n c, e = .returned (.tuple #[.int .u64 (v : Nat), .slice A n c, .int .i64 0]) ∧ Below w.heap.size w w' ∧ OwnB w' w.heap.size A n c r
theorem rvtake_none (F : Nat → Prop) (A : Option Addr) (n c : Nat) (l : List UInt8) (w : World) (h : Bs F w A n c l) (hn : n ≤ 4294967296) (hv : vtake l = none) :
    Calls Tryz.prog 52 #[.slice A n c] w (TkNone w) :=
  (rvtake_any F A n c l w h hn).mono fun e w' ⟨x, A1, n1, c1, he, hb, _⟩ => ⟨x, A1, n1, c1, by rw [he, hv]; rfl, hb⟩
theorem rvtake_some (F : Nat → Prop) (A : Option Addr) (n c : Nat) (l : List UInt8) (v : Nat) (r : List UInt8) (w : World) (h : Bs F w A n c l) (hn : n ≤ 4294967296) (hv : vtake l = some (v, r)) :
    Calls Tryz.prog 52 #[.slice A n c] w (TkSome v r w) :=
  (rvtake_any F A n c l w h hn).mono fun e w' ⟨x, A1, n1, c1, he, hb, hx⟩ => by
    obtain ⟨e1, _, e3⟩ := hx v r hv
    subst e1
    exact ⟨A1, n1, c1, by rw [he, hv]; rfl, hb, e3⟩
/-- What the round leaves: the rest is read; where it lies; where what was taken lies. -/
theorem take_rel {L : List Fld} {f : Fld} {r' : List UInt8} {e : TypeId} {w wr wA wX w5 : World} {A2 A5 A4 : Option Addr} {m c2 c5 n4 c4 k : Nat} {G P : Nat → Prop} {o : Obj} (ho : OwnF tFld e G wr w.heap.size A2 m c2 L)
    (hba : Below wr.heap.size wr wA) (hbx : Below wA.heap.size wA wX) (hs : Bs (fun b => wr.heap.size ≤ b) wA A4 n4 c4 r') (h5 : ApdL tFld e P w (wX.alloc o) w5 w.heap.size A2 A5 k c5 (L ++ [f])) :
    Bs (fun b => wr.heap.size ≤ b ∧ b < wA.heap.size) w5 A4 n4 c4 r' ∧ (∀ b, A5 = some ⟨b, 0, none⟩ → w.heap.size ≤ b → ¬ (wr.heap.size ≤ b ∧ b < wA.heap.size)) := by
  have q1 := hba.size
  have q2 := hbx.size
  refine ⟨?_, ?_⟩
  · refine ((((hs.weaken (F' := fun b => wr.heap.size ≤ b ∧ b < wA.heap.size) (fun b h1 h2 => ⟨h1, h2⟩)).below hbx (Nat.le_refl _)).alloc _).grown h5.grown ?_)
    intro g hg
    rintro ⟨hg1, _⟩
    obtain ⟨a, ha, hb⟩ := Option.map_eq_some_iff.1 hg
    have := (ho.lies (b := a.block) (by rw [ha]; rfl)).2.2
    omega
  · rintro b hb _ ⟨hb1, hb2⟩
    rcases h5.lies with h6 | h6
    · rw [hb] at h6
      obtain ⟨a, ha, hb3⟩ := Option.map_eq_some_iff.1 h6.symm
      have := (ho.lies (b := a.block) (by rw [ha]; rfl)).2.2
      simp at hb3
      omega
    · rw [hb] at h6
      simp at h6
      omega

/-- What it leaves: the list is its own. -/
def TakePostO (l : List UInt8) (w : World) (e : Ending) (w' : World) : Prop :=
  ∃ A n c G, e = .returned (.tuple #[.slice A n c, .int .i64 (okc (wtake l).isSome 2)]) ∧ Below w.heap.size w w' ∧ OwnF tFld 68 G w' w.heap.size A n c ((wtake l).getD []) ∧ ∀ b, G b → w.heap.size ≤ b
set_option maxRecDepth 100000 in
set_option maxHeartbeats 8000000 in
theorem rwtake_own (F : Nat → Prop) (A : Option Addr) (n c : Nat) (l : List UInt8) (w : World) (h : Bs F w A n c l) (hn : n ≤ 4294967296) :
    Calls Tryz.prog 19 #[.slice A n c] w (TakePostO l w) := by
  have HL := Lib.hid h.len
  have hnewF := OwnF.newL (T := tFld) (F := fun _ => False) (w := w) (e := 68) (B := w.heap.size) (n := 0) Reps.nil_ (Nat.le_refl _) rfl (by omega) (.cells #[] 68) rfl
  have HNF := Lib.hid hnewF
  have HB0 := Lib.hid (show Below w.heap.size w (w.alloc (.cells #[] 68)) from (Below.refl _ _).alloc (Nat.le_refl _) _)
  have HNB := Lib.hid (OwnB.new0 (w.alloc (.cells #[] 68)) (w.heap.size + 1) (by simp))
  have HSRC := Lib.hid ((Sl.alloc h (.cells #[] 68)).alloc (.cells #[] 5))
  clear hnewF h
  go_enter Tryz.func19, Tryz.ntmps19
  obtain ⟨w0, hw0⟩ : ∃ w0, w0 = w.alloc (.cells #[] 68) := ⟨_, rfl⟩
  have hs0 : w0.heap.size = w.heap.size + 1 := by rw [hw0]; simp
  rw [← hw0] at HNF HB0 HNB HSRC
  have HW0 := Lib.hid hw0; have HS0 := Lib.hid hs0; clear hw0 hs0
  rw [← HS0.out] at HNB
  go_wp2_with (at_builtin; rw [← HW0.out, ← HS0.out]; refine apb (w0.alloc (.cells #[] 5)) w0 rfl (.tmp 13) (.tmp 14) rfl w0.heap.size _ 0 0 [] rfl HNB.out ((Below.refl _ w0).alloc (Nat.le_refl _) _) (Nat.le_refl _) F A n c l rfl HSRC.out (by omega) ?_; intro A1 c1 w1 h1 hb1 _)
  have H1 := Lib.hid h1; have HB1 := Lib.hid hb1
  clear h1 hb1 HNB HSRC
  go_loopw [4, 5] (fun v s wr => ∃ (r : List UInt8) (L : List Fld) (A1 : Option Addr) (n1 c1 : Nat) (A2 : Option Addr) (m c2 : Nat) (G H : Nat → Prop), s = .slice A1 n1 c1 ∧ v = .slice A2 m c2 ∧ Bs H wr A1 n1 c1 r ∧
      OwnF tFld 68 G wr w.heap.size A2 m c2 L ∧ (∀ b, A2 = some ⟨b, 0, none⟩ → w.heap.size ≤ b → ¬ H b) ∧ (∀ b, G b → w.heap.size ≤ b) ∧ Below w.heap.size w wr ∧ wtake l = (wtake r).map (L ++ ·) ∧ r.length + L.length ≤ l.length)
    (fun _ s _ => lenV s)
  case atStart => exact ⟨l, [], A1, n, c1, _, 0, 0, _, fun b => w0.heap.size ≤ b, rfl, rfl, (by have h1 := H1.out; rw [Nat.zero_add, List.nil_append] at h1; exact h1.bs.weaken fun b h _ => h.2), HNF.out.keepB HB1.out, (by intro b hb _ hh; injection hb with hb; injection hb with hb; have := HS0.out; omega), (fun b h => h.1.elim), HB0.out.trans (HB1.out.mono HB0.out.size), by cases wtake l <;> simp, by simp⟩
  case round =>
    clear HNF HB0 H1 HB1
    obtain ⟨r, L, A1, n1, c1, A2, m, c2, G, H, rfl, rfl, hs, hown, hH, hG, hb, hw, hlen⟩ := hrel
    have HR := Lib.hid hs.len
    have hn1 : n1 ≤ 4294967296 := by rw [HR.out]; have := HL.out; omega
    have hm : m ≤ 4294967296 := by rw [hown.len]; have := HL.out; omega
    have hsz := hb.size
    have HGG := Lib.hid hG; have HSR := Lib.hid hs; have HO := Lib.hid hown; have HBR := Lib.hid hb; clear hH hG hs hown hb
    have HW := Lib.hid hw; have HLEN := Lib.hid hlen; clear hw hlen
    by_cases hlt : 0 < n1
    · have hne : r ≠ [] := by intro h0; rw [HR.out, h0] at hlt; simp at hlt
      have HNE := Lib.hid hne; clear hne
      cases hv1 : vtake r with
      | none =>
        have hN : wtake l = none := by rw [HW.out, wtake_none HNE.out (wone_none1 hv1)]; rfl
        have HN := Lib.hid hN; have HV1 := Lib.hid hv1; clear hN hv1
        go_wp2_with (first
          | (go_at_call 52; refine (rvtake_none _ A1 n1 c1 r _ HSR.out hn1 HV1.out).mono ?_; rintro e w1 ⟨x, Ax, nx, cx, rfl, hb1⟩)
          | fail)
        go_ret2
        exact ⟨none, 0, 0, fun _ => False, by rw [HN.out]; rfl, HBR.out.trans (hb1.mono hsz), by rw [HN.out]; exact OwnF.nil_ _ _ _ _ _, fun _ h => h.elim⟩
      | some p =>
        obtain ⟨key, r1⟩ := p
        have hkey := (vtake_some hv1).2
        have hr1l := vtake_len hv1
        have HV1 := Lib.hid hv1
        by_cases hok : 8 ≤ key ∧ key ≤ 802 ∧ (key % 8 = 0 ∨ key % 8 = 2)
        · obtain ⟨hk8, hk9, hkm⟩ := hok
          have k1 : ¬ (key : Int) < 8 := by omega
          have k2 : ¬ (802 : Int) < (key : Int) := by omega
          have hw3 : IntKind.i64.wrap ((key : Int) / 8) = (key : Int) / 8 := by rw [IntKind.wrap_i64]; omega
          have hr1n : r1.length ≤ 4294967296 := by rw [HR.out] at hn1; omega
          cases hv2 : vtake r1 with
          | none =>
            have hN : wtake l = none := by rw [HW.out, wtake_none HNE.out (wone_none2 hv1 hv2)]; rfl
            have HN := Lib.hid hN; have HV2 := Lib.hid hv2; clear hN hv2 hv1
            have hcs : (((key : Int) % 8 != 0) = false) ∨ (((key : Int) % 8 != 0) = true ∧ ((key : Int) % 8 != 2) = false) := by simp; omega
            clear hkm
            rcases hcs with k3 | ⟨k3, k4⟩
            all_goals
              go_wp2_with (first
                | (go_at_call_of 52 (Value.slice A1 n1 c1); refine (rvtake_some _ A1 n1 c1 r key r1 _ HSR.out hn1 HV1.out).mono ?_; rintro e w1 ⟨Ax, nx, cx, rfl, hb1, ho1⟩; have HB1 := Lib.hid (HBR.out.trans (hb1.mono hsz)); have HO1 := Lib.hid ho1; clear hb1 ho1)
                | (go_at_call 52; refine (rvtake_none _ Ax nx cx r1 _ HO1.out.bs (by rw [HO1.out.len]; exact hr1n) HV2.out).mono ?_; rintro e w2 ⟨x2, Ay, ny, cy, rfl, hb2⟩; have HB2 := Lib.hid (HB1.out.trans (hb2.mono HB1.out.size)); clear hb2)
                | fail)
              go_ret2
              exact ⟨none, 0, 0, fun _ => False, by rw [HN.out]; rfl, HB2.out, by rw [HN.out]; exact OwnF.nil_ _ _ _ _ _, fun _ h => h.elim⟩
          | some q =>
            obtain ⟨nn, r2⟩ := q
            have hnn := (vtake_some hv2).2
            have hr2l := vtake_len hv2
            have HV2 := Lib.hid hv2
            by_cases hm0 : key % 8 = 0
            · have hone := wone_num hv1 hv2 hk8 hk9 hm0
              have HONE := Lib.hid hone; clear hone hv1 hv2 hkm
              have k3 : ((key : Int) % 8 != 0) = false := by simp; omega
              have k5 : ((key : Int) % 8 == 2) = false := by simp; omega
              clear hm0
              go_wp2_with (first
                | (go_at_call_of 52 (Value.slice A1 n1 c1); refine (rvtake_some _ A1 n1 c1 r key r1 _ HSR.out hn1 HV1.out).mono ?_; rintro e w1 ⟨Ax, nx, cx, rfl, hb1, ho1⟩; have HB1 := Lib.hid hb1; have HO1 := Lib.hid ho1; clear hb1 ho1)
                | (go_at_call 52; refine (rvtake_some _ Ax nx cx r1 nn r2 _ HO1.out.bs (by rw [HO1.out.len]; exact hr1n) HV2.out).mono ?_; rintro e w2 ⟨Ay, ny, cy, rfl, hb2, ho2⟩; have HB2 := Lib.hid (HB1.out.trans (hb2.mono HB1.out.size)); have HO2 := Lib.hid (ho2.bs.weaken (F' := fun b => wr.heap.size ≤ b) fun b h _ => Nat.le_trans HB1.out.size h.2); clear hb2 ho2)
                | (at_builtin; refine apl1 (T := tFld) elemRFld (w2.alloc (.cells #[.int .i64 ((key : Int) / 8), .bool false, .int .u64 (nn : Int), .slice none 0 0] 68)) w rfl (.tmp 78) (.tmp 80) rfl w.heap.size A2 m c2 L rfl G (fun b => wr.heap.size ≤ b) ((HO.out.keepB HB2.out).alloc _) ((HBR.out.trans (HB2.out.mono hsz)).alloc (Nat.le_trans hsz HB2.out.size) _) (Nat.le_refl _) _ (by rw [World.size_alloc]; rfl) _ ⟨((key / 8 : Nat) : Int), false, nn, []⟩ ⟨none, 0, 0, rfl, by unfold i64; dsimp only; omega, hnn, Sl.nil_ _ _ _⟩ 68 rfl (fun b h1 _ _ h4 => by obtain ⟨e1, _, e3⟩ := HO.out.lies (b := b) (by simp [Value.ownBlock, h1]); omega) (by omega) ?_; intro A5 c5 w5 h5)
                | fail)
              go_roundw
              case rel =>
                have hw2 : wtake l = (wtake r2).map (L ++ [⟨((key / 8 : Nat) : Int), false, nn, []⟩] ++ ·) := by
                  rw [HW.out, wtake_some HNE.out HONE.out]
                  cases wtake r2 <;> simp
                obtain ⟨z1, z2⟩ := take_rel HO.out HB2.out ((Below.refl _ w2).alloc (Nat.le_refl _) _) HO2.out h5
                refine ⟨r2, L ++ [⟨((key / 8 : Nat) : Int), false, nn, []⟩], Ay, ny, cy, A5, m + 1, c5, _, _, rfl, rfl, z1, h5.own, z2, ?_, h5.below, hw2, ?_⟩
                · rintro b ⟨hb1 | hb1, _⟩
                  · exact HGG.out b hb1
                  · omega
                · have := HLEN.out
                  simp only [List.length_append, List.length_cons, List.length_nil]; omega
              case measure =>
                have e1 := HO2.out.len
                have e2 := HR.out
                simp only [lenV]; omega
            · have hm2 : key % 8 = 2 := by omega
              have k3 : ((key : Int) % 8 != 0) = true := by simp; omega
              have k4 : ((key : Int) % 8 != 2) = false := by simp; omega
              have k5 : ((key : Int) % 8 == 2) = true := by simp; omega
              by_cases hlong : r2.length < nn
              · have hN : wtake l = none := by rw [HW.out, wtake_none HNE.out (wone_long hv1 hv2 hm2 hlong)]; rfl
                have HN := Lib.hid hN; clear hN hv1 hv2 hm0 hm2 hkm
                go_wp2_with (first
                  | (go_at_call_of 52 (Value.slice A1 n1 c1); refine (rvtake_some _ A1 n1 c1 r key r1 _ HSR.out hn1 HV1.out).mono ?_; rintro e w1 ⟨Ax, nx, cx, rfl, hb1, ho1⟩; have HB1 := Lib.hid (HBR.out.trans (hb1.mono hsz)); have HO1 := Lib.hid ho1; clear hb1 ho1)
                  | (go_at_call 52; refine (rvtake_some _ Ax nx cx r1 nn r2 _ HO1.out.bs (by rw [HO1.out.len]; exact hr1n) HV2.out).mono ?_; rintro e w2 ⟨Ay, ny, cy, rfl, hb2, ho2⟩; have HB2 := Lib.hid (HB1.out.trans (hb2.mono HB1.out.size)); have hcmp : (ny : Int) < (nn : Int) := (by have := ho2.len; omega); have hw4 : IntKind.u64.wrap (ny : Int) = (ny : Int) := u64_wrap_nat ny (by omega); clear hb2 ho2)
                  | fail)
                go_ret2
                exact ⟨none, 0, 0, fun _ => False, by rw [HN.out]; rfl, HB2.out.alloc HB2.out.size _, by rw [HN.out]; exact OwnF.nil_ _ _ _ _ _, fun _ h => h.elim⟩
              · have hlong' : nn ≤ r2.length := by omega
                have hone := wone_txt hv1 hv2 hk8 hk9 hm2 hlong'
                have HONE := Lib.hid hone; clear hone hv1 hv2 hm0 hm2 hkm hlong
                go_upto_if 66 with (first
                  | (go_at_call_of 52 (Value.slice A1 n1 c1); refine (rvtake_some _ A1 n1 c1 r key r1 _ HSR.out hn1 HV1.out).mono ?_; rintro e w1 ⟨Ax, nx, cx, rfl, hb1, ho1⟩; have HB1 := Lib.hid hb1; have HO1 := Lib.hid ho1; clear hb1 ho1)
                  | (go_at_call 52; refine (rvtake_some _ Ax nx cx r1 nn r2 _ HO1.out.bs (by rw [HO1.out.len]; exact hr1n) HV2.out).mono ?_; rintro e w2 ⟨Ay, ny, cy, rfl, hb2, ho2⟩; have HB2 := Lib.hid (HB1.out.trans (hb2.mono HB1.out.size)); have HO2 := Lib.hid ho2; have hcmp : ¬ (nn : Int) > (ny : Int) := (by have := ho2.len; omega); have hw4 : IntKind.u64.wrap (ny : Int) = (ny : Int) := u64_wrap_nat ny (by have := ho2.len; omega); clear hb2 ho2)
                  | fail)
                obtain ⟨hnyl, hcap, _⟩ := id HO2.out.bs
                have hs1 := Sl.front HO2.out.bs (k := nn) (by omega)
                have hs2 := Sl.cut HO2.out.bs (lo := nn) (hi := ny) (by omega) (Nat.le_refl _)
                rw [show r2.take ny = r2 from List.take_of_length_le (by omega)] at hs2
                have hny : nn ≤ ny := by omega
                have hcy : nn ≤ cy := by omega
                have hny4 : ny ≤ 4294967296 := by omega
                have HNYL := Lib.hid hnyl; clear hnyl
                have HS1 := Lib.hid hs1; clear hs1
                obtain ⟨wf, hwf⟩ : ∃ wf, wf = w2.alloc (.cells #[.int .i64 ((key : Int) / 8), .bool true, .int .u64 0, .slice none 0 0] 68) := ⟨_, rfl⟩
                have hsf : wf.heap.size = w2.heap.size + 1 := by rw [hwf]; simp
                have hbf : Below w2.heap.size w2 wf := by rw [hwf]; exact (Below.refl _ _).alloc (Nat.le_refl _) _
                have hbk : wf.heap[w2.heap.size]? = some (.cells #[.int .i64 ((key : Int) / 8), .bool true, .int .u64 0, .slice none 0 0] 68) := by rw [hwf]; exact heap_alloc_new w2 _
                have HNB := Lib.hid (OwnB.new0 wf wf.heap.size (Nat.le_refl _))
                have HSRC := Lib.hid (Sl.alloc (HS1.out.below hbf (Nat.le_refl _)) (.cells #[] 5))
                have HBF := Lib.hid hbf; have HBK := Lib.hid hbk; have HWF := Lib.hid hwf; have HSF := Lib.hid hsf
                clear hbf hbk hwf hsf
                by_cases hck : cy = nn
                · rw [if_pos hck, show cy - nn = 0 by omega, show ny - nn = 0 by omega] at hs2
                  have HS2 := Lib.hid hs2; clear hs2
                  obtain rfl : nn = ny := by omega
                  obtain rfl : nn = cy := hck.symm
                  have hi0 : (0 : Int) ≤ (nn : Int) := by omega
                  have hi1 : (nn : Int) ≤ (nn : Int) := by omega
                  have hi2 : (nn : Int) ≤ (nn : Int) := by omega
                  go_wp2_with (first
                    | (at_builtin; rw [← HWF.out, ← HSF.out]; refine apb (wf.alloc (.cells #[] 5)) wf rfl (.tmp 67) (.tmp 70) rfl wf.heap.size _ 0 0 [] rfl HNB.out ((Below.refl _ wf).alloc (Nat.le_refl _) _) (Nat.le_refl _) _ _ _ _ (r2.take nn) rfl HSRC.out (by omega) ?_
                       intro A6 c6 w6 h6 hb6 _
                       have hbk6 := (hb6.block w2.heap.size (by have := HSF.out; omega)).trans HBK.out
                       have f0 := Lib.frozen_of_heap hbk6 0; have f1 := Lib.frozen_of_heap hbk6 1; have f2 := Lib.frozen_of_heap hbk6 2; have f3 := Lib.frozen_of_heap hbk6 3
                       have d0 := cell_of_row w6 w2.heap.size 0 _ _ _ hbk6; have d1 := cell_of_row w6 w2.heap.size 1 _ _ _ hbk6; have d2 := cell_of_row w6 w2.heap.size 2 _ _ _ hbk6; have d3 := cell_of_row w6 w2.heap.size 3 _ _ _ hbk6
                       have hx2 : Below w2.heap.size w2 (w6.setCell ⟨w2.heap.size, 3, none⟩ (.slice A6 nn c6)) := (HBF.out.trans (hb6.mono HBF.out.size)).setCell (Nat.le_refl _) _
                       have hs6 : Bs (fun b => wr.heap.size ≤ b) (w6.setCell ⟨w2.heap.size, 3, none⟩ (.slice A6 nn c6)) A6 nn c6 (r2.take nn) := (by
                         have q := h6.bs; rw [Nat.zero_add, List.nil_append] at q
                         exact (Sl.setCell q (p := ⟨w2.heap.size, 3, none⟩) (by rintro ⟨_, h⟩; have h : wf.heap.size ≤ w2.heap.size := h; have := HSF.out; omega) _).weaken (fun b h _ => by have := h.2; have := HSF.out; have := HB2.out.size; omega))
                       have HX2 := Lib.hid hx2; have HX := Lib.hid (HB2.out.trans (hx2.mono HB2.out.size)); have HS6 := Lib.hid hs6; clear h6 hb6 hbk6 hx2 hs6)
                    | (at_builtin; refine apl1 (T := tFld) elemRFld (w6.setCell ⟨w2.heap.size, 3, none⟩ (.slice A6 nn c6)) w rfl (.tmp 78) (.tmp 80) rfl w.heap.size A2 m c2 L rfl G (fun b => wr.heap.size ≤ b) (HO.out.keepB HX.out) (HBR.out.trans (HX.out.mono hsz)) (Nat.le_refl _) _ (by first | rfl | (rw [World.size_setCell]; rfl)) _ ⟨((key / 8 : Nat) : Int), true, 0, r2.take nn⟩ ⟨A6, nn, c6, rfl, by unfold i64; dsimp only; omega, by dsimp only; omega, HS6.out⟩ 68 rfl (fun b h1 _ _ h4 => by obtain ⟨e1, _, e3⟩ := HO.out.lies (b := b) (by simp [Value.ownBlock, h1]); omega) (by omega) ?_; intro A5 c5 w5 h5)
                    | fail)
                  go_roundw
                  case rel =>
                    have hw2 : wtake l = (wtake (r2.drop nn)).map (L ++ [⟨((key / 8 : Nat) : Int), true, 0, r2.take nn⟩] ++ ·) := by
                      rw [HW.out, wtake_some HNE.out HONE.out]
                      cases wtake (r2.drop nn) <;> simp
                    obtain ⟨z1, z2⟩ := take_rel HO.out HB2.out HX2.out (HS2.out.weaken (fun b h _ => Nat.le_trans HB1.out.size h.2)) h5
                    refine ⟨r2.drop nn, L ++ [⟨((key / 8 : Nat) : Int), true, 0, r2.take nn⟩], _, _, _, A5, m + 1, c5, _, _, rfl, rfl, z1, h5.own, z2, ?_, h5.below, hw2, ?_⟩
                    · rintro b ⟨hb1 | hb1, _⟩
                      · exact HGG.out b hb1
                      · omega
                    · have := HLEN.out
                      simp only [List.length_append, List.length_cons, List.length_nil, List.length_drop]; omega
                  case measure =>
                    have e1 := HNYL.out
                    have e2 := HR.out
                    simp only [lenV]; omega
                · rw [if_neg hck] at hs2
                  obtain ⟨g, rfl⟩ : ∃ g, Ay = some ⟨g, 0, none⟩ := by
                    rcases own_shape HO2.out with ⟨_, h1, h2⟩ | h
                    · omega
                    · exact h
                  rw [Option.map_some, add_lit, Nat.zero_add, show nn * tU8.size = nn from Nat.mul_one _] at hs2
                  have HS2 := Lib.hid hs2; clear hs2
                  have hi0 : (0 : Int) ≤ (nn : Int) := by omega
                  have hi1 : (nn : Int) ≤ (ny : Int) := by omega
                  have hi2 : (nn : Int) ≤ (cy : Int) := by omega
                  go_wp2_with (first
                    | (at_builtin; rw [← HWF.out, ← HSF.out]; refine apb (wf.alloc (.cells #[] 5)) wf rfl (.tmp 67) (.tmp 70) rfl wf.heap.size _ 0 0 [] rfl HNB.out ((Below.refl _ wf).alloc (Nat.le_refl _) _) (Nat.le_refl _) _ _ _ _ (r2.take nn) rfl HSRC.out (by omega) ?_
                       intro A6 c6 w6 h6 hb6 _
                       have hbk6 := (hb6.block w2.heap.size (by have := HSF.out; omega)).trans HBK.out
                       have f0 := Lib.frozen_of_heap hbk6 0; have f1 := Lib.frozen_of_heap hbk6 1; have f2 := Lib.frozen_of_heap hbk6 2; have f3 := Lib.frozen_of_heap hbk6 3
                       have d0 := cell_of_row w6 w2.heap.size 0 _ _ _ hbk6; have d1 := cell_of_row w6 w2.heap.size 1 _ _ _ hbk6; have d2 := cell_of_row w6 w2.heap.size 2 _ _ _ hbk6; have d3 := cell_of_row w6 w2.heap.size 3 _ _ _ hbk6
                       have hx2 : Below w2.heap.size w2 (w6.setCell ⟨w2.heap.size, 3, none⟩ (.slice A6 nn c6)) := (HBF.out.trans (hb6.mono HBF.out.size)).setCell (Nat.le_refl _) _
                       have hs6 : Bs (fun b => wr.heap.size ≤ b) (w6.setCell ⟨w2.heap.size, 3, none⟩ (.slice A6 nn c6)) A6 nn c6 (r2.take nn) := (by
                         have q := h6.bs; rw [Nat.zero_add, List.nil_append] at q
                         exact (Sl.setCell q (p := ⟨w2.heap.size, 3, none⟩) (by rintro ⟨_, h⟩; have h : wf.heap.size ≤ w2.heap.size := h; have := HSF.out; omega) _).weaken (fun b h _ => by have := h.2; have := HSF.out; have := HB2.out.size; omega))
                       have HX2 := Lib.hid hx2; have HX := Lib.hid (HB2.out.trans (hx2.mono HB2.out.size)); have HS6 := Lib.hid hs6; clear h6 hb6 hbk6 hx2 hs6)
                    | (at_builtin; refine apl1 (T := tFld) elemRFld (w6.setCell ⟨w2.heap.size, 3, none⟩ (.slice A6 nn c6)) w rfl (.tmp 78) (.tmp 80) rfl w.heap.size A2 m c2 L rfl G (fun b => wr.heap.size ≤ b) (HO.out.keepB HX.out) (HBR.out.trans (HX.out.mono hsz)) (Nat.le_refl _) _ (by first | rfl | (rw [World.size_setCell]; rfl)) _ ⟨((key / 8 : Nat) : Int), true, 0, r2.take nn⟩ ⟨A6, nn, c6, rfl, by unfold i64; dsimp only; omega, by dsimp only; omega, HS6.out⟩ 68 rfl (fun b h1 _ _ h4 => by obtain ⟨e1, _, e3⟩ := HO.out.lies (b := b) (by simp [Value.ownBlock, h1]); omega) (by omega) ?_; intro A5 c5 w5 h5)
                    | fail)
                  go_roundw
                  case rel =>
                    have hw2 : wtake l = (wtake (r2.drop nn)).map (L ++ [⟨((key / 8 : Nat) : Int), true, 0, r2.take nn⟩] ++ ·) := by
                      rw [HW.out, wtake_some HNE.out HONE.out]
                      cases wtake (r2.drop nn) <;> simp
                    obtain ⟨z1, z2⟩ := take_rel HO.out HB2.out HX2.out (HS2.out.weaken (fun b h _ => Nat.le_trans HB1.out.size h.2)) h5
                    refine ⟨r2.drop nn, L ++ [⟨((key / 8 : Nat) : Int), true, 0, r2.take nn⟩], _, _, _, A5, m + 1, c5, _, _, rfl, rfl, z1, h5.own, z2, ?_, h5.below, hw2, ?_⟩
                    · rintro b ⟨hb1 | hb1, _⟩
                      · exact HGG.out b hb1
                      · omega
                    · have := HLEN.out
                      simp only [List.length_append, List.length_cons, List.length_nil, List.length_drop]; omega
                  case measure =>
                    have e1 := HNYL.out
                    have e2 := HR.out
                    simp only [lenV]; omega
        · have hcs : ((key : Int) < 8) ∨ (¬ ((key : Int) < 8) ∧ (802 : Int) < (key : Int)) ∨ (¬ ((key : Int) < 8) ∧ ¬ (802 : Int) < (key : Int) ∧ (((key : Int) % 8 != 0) = true) ∧ (((key : Int) % 8 != 2) = true)) := by simp; omega
          have hN : wtake l = none := by rw [HW.out, wtake_none HNE.out (wone_bad hv1 (by omega))]; rfl
          have HN := Lib.hid hN; clear hN hok hv1
          rcases hcs with h1 | ⟨h1, h2⟩ | ⟨h1, h2, h3, h4⟩
          all_goals
            go_wp2_with (first
              | (go_at_call 52; refine (rvtake_some _ A1 n1 c1 r key r1 _ HSR.out hn1 HV1.out).mono ?_; rintro e w1 ⟨Ax, nx, cx, rfl, hb1, ho1⟩; have HB1 := Lib.hid (HBR.out.trans (hb1.mono hsz)); clear hb1 ho1)
              | fail)
            go_ret2
            exact ⟨none, 0, 0, fun _ => False, by rw [HN.out]; rfl, HB1.out, by rw [HN.out]; exact OwnF.nil_ _ _ _ _ _, fun _ h => h.elim⟩
    · obtain rfl : n1 = 0 := by omega
      have hr0 : r = [] := List.length_eq_zero_iff.1 HR.out.symm
      have hN : wtake l = some L := by rw [HW.out, hr0, wtake_nil]; simp
      have HN := Lib.hid hN; clear hN
      go_wp2
      go_ret2
      exact ⟨A2, m, c2, G, by rw [HN.out]; rfl, HBR.out, by rw [HN.out]; exact HO.out, HGG.out⟩
theorem rwtake_any (F : Nat → Prop) (A : Option Addr) (n c : Nat) (l : List UInt8) (w : World) (h : Bs F w A n c l) (hn : n ≤ 4294967296) :
    Calls Tryz.prog 19 #[.slice A n c] w (TakePost l w) :=
  (rwtake_own F A n c l w h hn).mono fun e w' ⟨A1, n1, c1, G, he, hb, ho, hG⟩ => ⟨A1, n1, c1, he, hb, ho.sl.weaken (fun b hb _ => by rcases hb with hb | hb; exact hG b hb; exact hb.2)⟩
end Go.Proofs.YtojenpjafgfpaaaGreatDoor
