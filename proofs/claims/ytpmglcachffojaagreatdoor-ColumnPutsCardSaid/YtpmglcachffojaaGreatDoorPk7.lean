/- varint.PutInt, delta.Diff, number. delta.number, diffs. slices.Min at ints. delta.Put. -/
import Derived.Test.YtpmglcachffojaaGreatDoorPk6
namespace Go.Proofs.YtpmglcachffojaaGreatDoor
open Go Go.RowKit

theorem vpi_any (F : Nat → Prop) (A : Option Addr) (n c : Nat) (bs : List UInt8) (x : Int) (sg : Bool) (w : World) (h : Bs F w A n c bs) (hn : n ≤ 4294967200) (h0 : -9223372036854775808 ≤ x) (h1 : x ≤ 9223372036854775807) (hs : sg = true ∨ 0 ≤ x) :
    Calls Tryz.prog 289 #[.slice A n c, .int .i64 x, .bool sg] w (Own1 w (bs ++ vput (uOf sg x))) := by
  have HH := Lib.hid h
  have hu := uOf_lt (sg := sg) h0 h1
  have HU := Lib.hid hu
  clear h hu
  cases sg with
  | true =>
    have HZ := Lib.hid (show zigN x = uOf true x from rfl)
    obtain ⟨v, hv⟩ : ∃ v, v = uOf true x := ⟨_, rfl⟩
    rw [← hv] at HZ HU ⊢
    clear hv hs
    go_enter Tryz.func289, Tryz.ntmps289
    go_wp2_with (first
      | (go_at_call 179; refine (zig_any x _ h0 h1).mono ?_; rintro e w1 ⟨rfl, rfl⟩; rw [HZ.out])
      | (go_at_call 180; refine (vput_any F A n c bs v _ HH.out hn HU.out).mono ?_; rintro e w1 ⟨A1, n1, c1, rfl, ho1, hb1⟩; have HO1 := Lib.hid ho1; have HB1 := Lib.hid hb1; clear ho1 hb1)
      | fail)
    go_ret
    exact ⟨A1, n1, c1, rfl, HO1.out, HB1.out⟩
  | false =>
    have hx : 0 ≤ x := hs.resolve_left (by decide)
    obtain ⟨k, rfl⟩ := Int.eq_ofNat_of_zero_le hx
    have hk : uOf false (k : Int) = k := by unfold uOf; simp
    rw [hk] at HU ⊢
    clear hk hs
    go_enter Tryz.func289, Tryz.ntmps289
    go_wp2_with (first
      | (go_at_call 180; refine (vput_any F A n c bs k _ HH.out hn HU.out).mono ?_; rintro e w1 ⟨A1, n1, c1, rfl, ho1, hb1⟩; have HO1 := Lib.hid ho1; have HB1 := Lib.hid hb1; clear ho1 hb1)
      | fail)
    go_ret
    exact ⟨A1, n1, c1, rfl, HO1.out, HB1.out⟩
def diffV (a b : Int) : Array Value := if gapN a b < 9223372036854775808 then #[.int .u64 ((gapN a b : Nat) : Int), .bool (decide (b < a)), .bool true] else #[.int .u64 0, .bool false, .bool false]
set_option maxRecDepth 100000 in
theorem diff_any (a b : Int) (a0 : -9223372036854775808 ≤ a) (a1 : a ≤ 9223372036854775807) (b0 : -9223372036854775808 ≤ b) (b1 : b ≤ 9223372036854775807) (w : World) :
    Calls Tryz.prog 320 #[.int .i64 a, .int .i64 b] w fun e w' => e = .returned (.tuple (diffV a b)) ∧ Below w.heap.size w w' := by
  obtain ⟨g, hg⟩ : ∃ g : Int, g = (gapN a b : Nat) := ⟨_, rfl⟩
  have hgn : g = if b < a then a - b else b - a := by rw [hg]; unfold gapN; split <;> omega
  have HV : Hid (diffV a b = if g < 9223372036854775808 then #[.int .u64 g, .bool (decide (b < a)), .bool true] else #[.int .u64 0, .bool false, .bool false]) := Lib.hid (by
    unfold diffV; rw [hg]
    by_cases h : gapN a b < 9223372036854775808
    · rw [if_pos h, if_pos (by omega)]
    · rw [if_neg h, if_neg (by omega)])
  obtain ⟨p, hp⟩ : ∃ p, p = IntKind.u64.wrap b := ⟨_, rfl⟩
  obtain ⟨q, hq⟩ : ∃ q, q = IntKind.u64.wrap a := ⟨_, rfl⟩
  obtain ⟨d, hd⟩ : ∃ d, d = IntKind.u64.wrap (p - q) := ⟨_, rfl⟩
  have HP := Lib.hid hp; have HQ := Lib.hid hq; have HD := Lib.hid hd
  rw [IntKind.wrap_u64] at hp hq hd
  have hd0 : 0 ≤ d := by omega
  have hd1 : d < 18446744073709551616 := by omega
  by_cases hba : b < a
  · rw [if_pos hba] at hgn
    have F1 := Lib.hid (show IntKind.u64.wrap (-d) = g by rw [IntKind.wrap_u64]; omega)
    have d1 : decide (b < a) = true := decide_eq_true hba
    rw [d1] at HV
    have hg0 : 0 ≤ g := by omega
    clear hg hgn hp hq hd
    by_cases hz : g < 9223372036854775808
    · rw [if_pos hz] at HV
      go_enter Tryz.func320, Tryz.ntmps320
      go_upto_region 2 with fail
      rw [← HP.out, ← HQ.out, ← HD.out]
      go_upto_region 4 with fail
      rw [F1.out]
      go_upto_region 6 with fail
      go_region
      go_wp2_with fail
      go_ret3
      exact ⟨by rw [HV.out]; rfl, ((Below.refl _ _).alloc (Nat.le_refl _) _).drew⟩
    · rw [if_neg hz] at HV
      have hz2 : (9223372036854775808 : Int) ≤ g := by omega
      go_enter Tryz.func320, Tryz.ntmps320
      go_upto_region 2 with fail
      rw [← HP.out, ← HQ.out, ← HD.out]
      go_upto_region 4 with fail
      rw [F1.out]
      go_wp2_with fail
      go_ret3
      exact ⟨by rw [HV.out]; rfl, (Below.refl _ _).alloc (Nat.le_refl _) _⟩
  · rw [if_neg hba] at hgn
    obtain rfl : d = g := by omega
    have d1 : decide (b < a) = false := decide_eq_false hba
    rw [d1] at HV
    clear hg hgn hp hq hd
    by_cases hz : d < 9223372036854775808
    · rw [if_pos hz] at HV
      go_enter Tryz.func320, Tryz.ntmps320
      go_upto_region 2 with fail
      rw [← HP.out, ← HQ.out, ← HD.out]
      go_upto_region 6 with fail
      go_region
      go_wp2_with fail
      go_ret3
      exact ⟨by rw [HV.out]; rfl, ((Below.refl _ _).alloc (Nat.le_refl _) _).drew⟩
    · rw [if_neg hz] at HV
      have hz2 : (9223372036854775808 : Int) ≤ d := by omega
      go_enter Tryz.func320, Tryz.ntmps320
      go_upto_region 2 with fail
      rw [← HP.out, ← HQ.out, ← HD.out]
      go_wp2_with fail
      go_ret3
      exact ⟨by rw [HV.out]; rfl, (Below.refl _ _).alloc (Nat.le_refl _) _⟩
end Go.Proofs.YtpmglcachffojaaGreatDoor
namespace Go.Proofs.YtpmglcachffojaaGreatDoor
open Go Go.RowKit

theorem number_any (g : Nat) (hg : g < 9223372036854775808) (f : Bool) (w : World) :
    Calls Tryz.prog 290 #[.agg #[.int .u64 (g : Int), .bool f]] w fun e w' => e = .returned (.int .i64 (if f then -(g : Int) else (g : Int))) ∧ Below w.heap.size w w' := by
  obtain ⟨G, hG⟩ : ∃ G : Int, G = g := ⟨_, rfl⟩
  have h0 : 0 ≤ G := by omega
  have h1 : G ≤ 9223372036854775807 := by omega
  rw [← hG]
  clear hG hg
  cases f with
  | true =>
    go_enter Tryz.func290, Tryz.ntmps290
    go_wp2_with fail
    go_ret
    exact ⟨rfl, (Below.refl _ _).alloc (Nat.le_refl _) _⟩
  | false =>
    go_enter Tryz.func290, Tryz.ntmps290
    go_wp2_with fail
    go_ret
    exact ⟨rfl, (Below.refl _ _).alloc (Nat.le_refl _) _⟩
theorem results_row4 {P : Program} {fn : Func} {p a b c : Tmp} {ty : TypeId} (h : fn.results = #[.cell p ty, .tmp a, .tmp b, .tmp c]) (tmps : Array Value) (w : World) (g : Nat) (t : TypeId) (cs : Array Value) (fr : Nat × Nat) (d : TypeDesc)
    (hp : tmps.getD p undef = .pointer (some ⟨g, 0, none⟩)) (hg : w.heap[g]? = some (.cells cs t fr))
    (hu : P.underlying ty = some d) (hd : (match d with | .struct _ | .array _ _ => true | _ => false) = true) (hi : (P.info? ty).map (·.size) = some cs.size) :
    (results fn tmps).run P w = .ok (.tuple #[.agg cs, tmps.getD a undef, tmps.getD b undef, tmps.getD c undef]) w := by
  have hp' : tmps[p]?.getD undef = .pointer (some ⟨g, 0, none⟩) := by simpa using hp
  simp [results, h, hp', asAddr, run_loadVar_row w g t ty cs fr d hg hu hd hi]
/-- While the differences are found: the first one, the sizes. -/
structure DfR (w0 : World) (fb : Nat) (cs : Array Value) (A : Option Addr) (n c : Nat) (S : List Nat) (w : World) : Prop where
  first : w.heap[fb]? = some (.cells cs 322 (0, 0))
  row : OwnU w (fb + 1) A n c S
  below : Below fb w0 w
theorem DfR.keep {w0 : World} {fb : Nat} {cs : Array Value} {A : Option Addr} {n c : Nat} {S : List Nat} {w w' : World} (h : DfR w0 fb cs A n c S w) (hb : Below w.heap.size w w') : DfR w0 fb cs A n c S w' :=
  ⟨(hb.block fb (blk_lt h.first)).trans h.first, ownU_of (h.row.keepB hb), h.below.trans (hb.mono (Nat.le_of_lt (blk_lt h.first)))⟩
theorem oneWay_iff (f : Bool) : ∀ l : List Int, oneWay f l = true ↔ ∀ j (h : j + 1 < l.length), gapN l[j] l[j + 1] < 9223372036854775808 ∧ (l[j] = l[j + 1] ∨ decide (l[j + 1] < l[j]) = f)
  | [] => by simp [oneWay]
  | [_] => by simp [oneWay]
  | a :: b :: r => by
    rw [oneWay, Bool.and_eq_true, Bool.and_eq_true, oneWay_iff f (b :: r), decide_eq_true_eq, Bool.or_eq_true, decide_eq_true_eq, beq_iff_eq]
    constructor
    · rintro ⟨h1, h2⟩ j hj
      cases j with
      | zero => exact h1
      | succ j => exact h2 j (by simpa using hj)
    · intro h
      exact ⟨h 0 (by simp), fun j hj => h (j + 1) (by simpa using hj)⟩
theorem sizesN_get : ∀ (l : List Int) (j : Nat) (h : j + 1 < l.length), (sizesN l)[j]'(by rw [sizesN_len]; omega) = gapN l[j] l[j + 1]
  | [], _, h => absurd h (by simp)
  | [_], _, h => absurd h (by simp)
  | a :: b :: r, 0, _ => rfl
  | a :: b :: r, j + 1, h => sizesN_get (b :: r) j (by simpa using h)
theorem DfR.set {w0 : World} {fb : Nat} {cs cs' : Array Value} {A : Option Addr} {n c : Nat} {S : List Nat} {w w' : World} (h : DfR w0 fb cs A n c S w) (h1 : w'.heap[fb]? = some (.cells cs' 322 (0, 0))) (h2 : ∀ b, b ≠ fb → w'.heap[b]? = w.heap[b]?) (h3 : w.heap.size = w'.heap.size) (h5 : Below fb w0 w') : DfR w0 fb cs' A n c S w' :=
  ⟨h1, ownU_of (h.row.keep (Nat.le_of_eq h3) fun b hb _ => h2 b (by rcases hb with hb | ⟨_, hb⟩; exact hb.elim; omega)), h5⟩
theorem DfR.setTo {w0 : World} {fb : Nat} {cs : Array Value} {A : Option Addr} {n c : Nat} {S : List Nat} {w : World} (h : DfR w0 fb cs A n c S w) (u v : Value) (hs : cs.size = 2) :
    DfR w0 fb #[u, v] A n c S ((w.setCell ⟨fb, 0, none⟩ u).setCell ⟨fb, 1, none⟩ v) := by
  have h1 : (cs.setIfInBounds 0 u).setIfInBounds 1 v = #[u, v] := by
    obtain ⟨l⟩ := cs
    match l, hs with
    | [_, _], _ => rfl
  refine h.set ?_ (fun b hb => ?_) (by simp [World.setCell]) (bsetc (bsetc h.below (Nat.le_refl _) _) (Nat.le_refl _) _)
  · exact heap_set (heap_set h.first rfl) h1
  · exact (Below.heap_setCell _ ⟨fb, 1, none⟩ v b hb).trans (Below.heap_setCell _ ⟨fb, 0, none⟩ u b hb)
def dfOk (f : Bool) (l : List Int) (i : Nat) : Prop := ∀ j (h : j + 1 < l.length), j < i → gapN l[j] l[j + 1] < 9223372036854775808 ∧ (l[j] = l[j + 1] ∨ decide (l[j + 1] < l[j]) = f)
def dfCs (g : Nat) (f : Bool) (i : Nat) : Array Value := if i = 0 then #[.int .u64 0, .bool false] else #[.int .u64 (g : Int), .bool f]
theorem dfCs_size (g : Nat) (f : Bool) (i : Nat) : (dfCs g f i).size = 2 := by unfold dfCs; split <;> rfl
theorem dfCs_cells (g : Nat) (f : Bool) (i : Nat) : ∃ u v, dfCs g f i = #[.int .u64 u, .bool v] := by unfold dfCs; split <;> exact ⟨_, _, rfl⟩
theorem dfHeads (l : List Int) (h : 2 ≤ l.length) : (sizesN l).headD 0 = gapN (l[0]'(by omega)) (l[1]'(by omega)) ∧ fallsB l = decide ((l[1]'(by omega)) < l[0]'(by omega)) := by
  match l, h with
  | _ :: _ :: _, _ => exact ⟨rfl, rfl⟩
def DiffsPost (l : List Int) (w : World) (e : Ending) (w' : World) : Prop := Below w.heap.size w w' ∧
  if oneWay (fallsB l) l then ∃ A n c, e = .returned (.tuple #[.agg #[.int .u64 (((sizesN l).headD 0 : Nat) : Int), .bool (fallsB l)], .slice A n c, .bool (evenB (sizesN l)), .bool true]) ∧ Sl tU64 (fun _ => True) w' A n c (sizesN l).tail
  else e = .returned (.tuple #[.agg #[.int .u64 0, .bool false], .slice none 0 0, .bool false, .bool false])
set_option maxRecDepth 100000 in
set_option maxHeartbeats 2000000 in
theorem diffs_any (F : Nat → Prop) (A : Option Addr) (n c : Nat) (l : List Int) (w : World) (h : Sl tI64 F w A n c l) (hn1 : 2 ≤ n) (hn : n ≤ 512) :
    Calls Tryz.prog 288 #[.slice A n c] w (DiffsPost l w) := by
  have HL := Lib.hid h.len
  have hc2 := h.2.1
  have hc3 := h.2.2.1
  unfold maxLen at hc3
  obtain ⟨b, o, _, rfl, _, hblt, _, _⟩ := h.at1 (k := 0) (by have := HL.out; omega) rfl
  have HCELL : Hid (∀ i (hi : i < l.length), w.cell? ⟨b, o + i, none⟩ = some (.int .i64 l[i]) ∧ -9223372036854775808 ≤ l[i] ∧ l[i] ≤ 9223372036854775807) := Lib.hid fun i hi => by
    obtain ⟨b', o', u, he, _, _, hr, hc⟩ := h.at1 hi rfl
    injection he with he; injection he with e1 e2 _
    subst e1; subst e2
    obtain ⟨hr, h1, h2⟩ := hr
    injection hr with hr
    subst hr
    exact ⟨hc, h1, h2⟩
  have HBL := Lib.hid hblt
  clear h hblt
  obtain ⟨fb, hfb⟩ : ∃ fb, fb = w.heap.size := ⟨_, rfl⟩
  obtain ⟨g0, hg0⟩ : ∃ g0, g0 = (sizesN l).headD 0 := ⟨_, rfl⟩
  obtain ⟨f0, hf0⟩ : ∃ f0, f0 = fallsB l := ⟨_, rfl⟩
  have HG0 := Lib.hid hg0; have HF0 := Lib.hid hf0; have HFB := Lib.hid hfb
  have hb0 : Below w.heap.size w (w.alloc (.cells #[.int .u64 0, .bool false] 322)) := (Below.refl _ _).alloc (Nat.le_refl _) _
  have HDF := Lib.hid (show DfR w fb (dfCs g0 f0 0) none 0 0 [] (w.alloc (.cells #[.int .u64 0, .bool false] 322)) from ⟨by rw [hfb]; exact heap_alloc_new w _, ownU_nil _ _, by rw [hfb]; exact hb0⟩)
  clear hb0
  go_enter Tryz.func288, Tryz.ntmps288
  go_wp2_with fail
  rw [← hfb]
  clear hg0 hf0 hfb
  go_loopw [3, 4, 15] (fun sv mv iv wr => ∃ (i : Nat) (A2 : Option Addr) (c2 : Nat) (m : Bool), i ≤ n - 1 ∧ iv = .int .i64 (i : Int) ∧ sv = .slice A2 i c2 ∧ mv = .bool m ∧ m = ((sizesN l).take i).all (· == g0) ∧ DfR w fb (dfCs g0 f0 i) A2 i c2 ((sizesN l).take i) wr ∧ dfOk f0 l i)
    (fun _ _ iv _ => n - (intOf iv).toNat)
  case atStart => exact ⟨0, none, 0, true, Nat.zero_le _, rfl, rfl, rfl, rfl, HDF.out, fun j _ h => absurd h (Nat.not_lt_zero j)⟩
  case round =>
    obtain ⟨i, A2, c2, m, hi, rfl, rfl, rfl, hm, hd, hok⟩ := hrel
    have HM := Lib.hid hm; have HD := Lib.hid hd; have HOK := Lib.hid hok
    clear hm hd hok
    by_cases hlt : i < n - 1
    · have hil : i + 1 < l.length := by rw [← HL.out]; omega
      obtain ⟨a, ha⟩ : ∃ a, a = l[i] := ⟨_, rfl⟩
      obtain ⟨x, hx⟩ : ∃ x, x = l[i + 1] := ⟨_, rfl⟩
      have hca := HCELL.out i (by omega)
      have hcx := HCELL.out (i + 1) hil
      rw [← ha] at hca
      rw [← hx] at hcx
      obtain ⟨ca, a1, a2⟩ := hca
      obtain ⟨cx, x1, x2⟩ := hcx
      have hbw : Below w.heap.size w wr := by rw [← HFB.out]; exact HD.out.below
      have ca' := kcell hbw ca
      have cx' := kcell hbw cx
      rw [show o + (i + 1) = o + 1 + i by omega] at cx'
      clear ca cx hbw
      have i0 : (0 : Int) ≤ (i : Int) := by omega
      have i1 : (i : Int) < (n : Int) - 1 := by omega
      have i2 : (i : Int) < (n : Int) := by omega
      have i3 : (i : Int) < ((n - 1 : Nat) : Int) := by omega
      obtain ⟨g, hg⟩ : ∃ g, g = gapN a x := ⟨_, rfl⟩
      have HA := Lib.hid ha; have HX := Lib.hid hx; have HG := Lib.hid hg
      clear ha hx
      by_cases hz : g < 9223372036854775808
      · have HV := Lib.hid (show diffV a x = #[.int .u64 (g : Int), .bool (decide (x < a)), .bool true] by unfold diffV; rw [← hg, if_pos hz])
        clear hg
        obtain ⟨fx, hfx⟩ : ∃ fx, fx = decide (x < a) := ⟨_, rfl⟩
        rw [← hfx] at HV
        have HFX := Lib.hid hfx
        clear hfx
        go_upto_region 7 with (first
          | (go_at_call 320; refine (diff_any a x a1 a2 x1 x2 _).mono ?_; rintro e w1 ⟨rfl, hb1⟩; rw [HV.out]; have HD1 := Lib.hid (HD.out.keep hb1); clear hb1)
          | fail)
        obtain ⟨w2, hw2⟩ : ∃ w2, w2 = w1.alloc (.cells #[.int .u64 (g : Int), .bool fx] 322) := ⟨_, rfl⟩
        have hd2 : DfR w fb (dfCs g0 f0 i) A2 i c2 ((sizesN l).take i) w2 := by rw [hw2]; exact HD1.out.keep ((Below.refl _ _).alloc (Nat.le_refl _) _)
        obtain ⟨d2, hdd⟩ : ∃ d2, d2 = w1.heap.size := ⟨_, rfl⟩
        have hne : d2 ≠ fb := by have := blk_lt HD1.out.first; omega
        have hdh : w2.heap[d2]? = some (.cells #[.int .u64 (g : Int), .bool fx] 322 (0, 0)) := by rw [hw2, hdd]; exact heap_alloc_new _ _
        rw [← hw2, ← hdd]
        have HD2 := Lib.hid hd2; have HDH := Lib.hid hdh; have HNE := Lib.hid hne
        clear hw2 hdd hd2 hne HD1 ca' cx'
        have c0 : w2.cell? ⟨d2, 0, none⟩ = some (.int .u64 (g : Int)) := by rw [Lib.cell_of_heap hdh]; rfl
        have c1 : w2.cell? ⟨d2, 1, none⟩ = some (.bool fx) := by rw [Lib.cell_of_heap hdh]; rfl
        clear hdh
        go_upto_if 34 with fail
        go_cut [] from 35 to 35 (fun wx => ∃ wd, wd = wx ∧ DfR w fb #[.int .u64 (g0 : Int), .bool f0] A2 i c2 ((sizesN l).take i) wd ∧ wd.heap[d2]? = some (.cells #[.int .u64 (g : Int), .bool fx] 322 (0, 0)))
        case first =>
          by_cases hi0 : i = 0
          · obtain ⟨u, v, huv⟩ := dfCs_cells g0 f0 i
            have hf := HD2.out.first
            rw [huv] at hf
            have k0 : w2.cell? ⟨fb, 0, none⟩ = some (.int .u64 u) := by rw [Lib.cell_of_heap hf]; rfl
            have k1 : w2.cell? ⟨fb, 1, none⟩ = some (.bool v) := by rw [Lib.cell_of_heap hf]; rfl
            have k2 := Lib.frozen_of_heap hf 0
            have k3 := Lib.frozen_of_heap hf 1
            have hI : (i : Int) = 0 := by omega
            have hI2 : ((i : Int) == 0) = true := beq_yes hI
            clear hf huv
            have HH2 := Lib.hid (dfHeads l (by omega))
            have hgx : g = g0 ∧ fx = f0 := by
              have ea := HA.out; have ex := HX.out
              subst hi0
              exact ⟨by rw [HG.out, HG0.out, HH2.out.1, ea, ex], by rw [HFX.out, HF0.out, HH2.out.2, ea, ex]⟩
            have HGG := Lib.hid hgx.1; have HFF := Lib.hid hgx.2
            clear hgx HH2 hi0
            go_wp2_with fail
            go_meet
            refine ⟨_, rfl, ?_, ?_⟩
            · have := HD2.out.setTo (.int .u64 (g : Int)) (.bool fx) (dfCs_size _ _ _)
              rw [HGG.out, HFF.out] at this ⊢
              exact this
            · exact (Below.heap_setCell _ ⟨fb, 1, none⟩ _ d2 HNE.out).trans ((Below.heap_setCell _ ⟨fb, 0, none⟩ _ d2 HNE.out).trans HDH.out)
          · have hI : ¬ (i : Int) = 0 := by omega
            have hI2 : ((i : Int) == 0) = false := beq_no hI
            go_wp2_with fail
            go_meet
            refine ⟨_, rfl, ?_, HDH.out⟩
            have := HD2.out
            rwa [dfCs, if_neg hi0] at this
        case rest =>
          obtain ⟨wx, rfl, hd3, hdh3⟩ := hcut
          have HD3 := Lib.hid hd3; have HDH3 := Lib.hid hdh3
          have hf := hd3.first
          have k0 : wx.cell? ⟨fb, 0, none⟩ = some (.int .u64 (g0 : Int)) := by rw [Lib.cell_of_heap hf]; rfl
          have k1 : wx.cell? ⟨fb, 1, none⟩ = some (.bool f0) := by rw [Lib.cell_of_heap hf]; rfl
          have k2 := Lib.frozen_of_heap hf 0
          have k3 := Lib.frozen_of_heap hf 1
          have c0' : wx.cell? ⟨d2, 0, none⟩ = some (.int .u64 (g : Int)) := by rw [Lib.cell_of_heap hdh3]; rfl
          have c1' : wx.cell? ⟨d2, 1, none⟩ = some (.bool fx) := by rw [Lib.cell_of_heap hdh3]; rfl
          clear hf hd3 hdh3 c0 c1
          refine ‹∀ (a : Act) (w_1 : World), Code.wp _ _ _ a w_1 → _› _ _ ?_
          by_cases hdir : g = 0 ∨ fx = f0
          · go_upto_region 9 with fail
            go_cut [47] from 36 to 46 (fun v wy => v = .bool false ∧ wy = wx)
            case first =>
              by_cases gz : g = 0
              · have gz' : (g : Int) = 0 := by omega
                clear gz hdir
                go_wp2_with fail
                go_meet
                exact ⟨rfl, rfl⟩
              · have gp : (0 : Int) < (g : Int) := by omega
                obtain rfl : fx = f0 := hdir.resolve_left gz
                clear gz hdir
                cases fx with
                | true =>
                  go_wp2_with fail
                  go_meet
                  exact ⟨rfl, rfl⟩
                | false =>
                  go_wp2_with fail
                  go_meet
                  exact ⟨rfl, rfl⟩
            case rest =>
              obtain ⟨rfl, hwc⟩ := hcut
              rw [hwc]
              clear hwc
              refine ‹∀ (a : Act) (w_1 : World), Code.wp _ _ _ a w_1 → _› _ _ ?_
              go_upto_region 11 with fail
              go_cut [4] from 49 to 63 (fun v wy => v = .bool (m && decide (g = g0)) ∧ wy = wx)
              case first =>
                cases m with
                | false =>
                  go_wp2_with fail
                  go_meet
                  exact ⟨rfl, rfl⟩
                | true =>
                  by_cases hgg : g = g0
                  · have hb1 : ((g : Int) == (g0 : Int)) = true := beq_yes (by omega)
                    by_cases hff : fx = f0
                    · have hb2 : (fx == f0) = true := by rw [hff]; exact beq_self_eq_true f0
                      have hd3 : decide (g = g0) = true := decide_eq_true hgg
                      clear hff hgg hdir
                      go_wp2_with fail
                      go_meet
                      refine ⟨?_, rfl⟩
                      rw [hd3]; rfl
                    · have hg00 : g = 0 := hdir.resolve_right hff
                      have hb2 : (fx == f0) = false := by simpa using hff
                      have hb3 : (g : Int) = 0 := by omega
                      have hb4 : (g0 : Int) = 0 := by omega
                      have hd3 : decide (g = g0) = true := decide_eq_true hgg
                      clear hff hgg hdir hg00 hb1
                      go_wp2_with fail
                      go_meet
                      refine ⟨?_, rfl⟩
                      rw [hd3]; rfl
                  · have hb1 : ((g : Int) == (g0 : Int)) = false := beq_no (by omega)
                    have hd3 : decide (g = g0) = false := decide_eq_false hgg
                    by_cases hgz : g = 0
                    · have hb3 : ((g : Int) == 0) = true := beq_yes (by omega)
                      have hb4 : ((g0 : Int) == 0) = false := beq_no (by omega)
                      clear hgg hdir hgz
                      go_wp2_with fail
                      go_meet
                      refine ⟨?_, rfl⟩
                      rw [hd3]; rfl
                    · have hb3 : ((g : Int) == 0) = false := beq_no (by omega)
                      clear hgg hdir hgz
                      go_wp2_with fail
                      go_meet
                      refine ⟨?_, rfl⟩
                      rw [hd3]; rfl
              case rest =>
                obtain ⟨rfl, hwc⟩ := hcut
                rw [hwc]
                clear hwc
                refine ‹∀ (a : Act) (w_1 : World), Code.wp _ _ _ a w_1 → _› _ _ ?_
                have hts : (sizesN l).take (i + 1) = (sizesN l).take i ++ [g] := by
                  have hsl : i < (sizesN l).length := by rw [sizesN_len]; omega
                  rw [List.take_succ_eq_append_getElem hsl, sizesN_get l i hil, HG.out, HA.out, HX.out]
                have HTS := Lib.hid hts
                have hok2 : dfOk f0 l (i + 1) := fun j hj hji => by
                  by_cases h : j < i
                  · exact HOK.out j hj h
                  · obtain rfl : j = i := by omega
                    rw [← HA.out, ← HX.out, ← HG.out, ← HFX.out]
                    refine ⟨hz, hdir.imp (fun h => ?_) id⟩
                    have := HG.out
                    unfold gapN at this
                    omega
                have HOK2 := Lib.hid hok2
                have hu : U64 g := Nat.lt_trans hz (by decide)
                have HU := Lib.hid hu
                have hB1 : fb + 1 ≤ wx.heap.size := blk_lt HD3.out.first
                clear hts hok2 hu hdir
                go_wp2_with (first
                  | (at_builtin; refine apu1 wx wx rfl (.tmp 64) (.tmp 66) rfl (fb + 1) A2 i c2 _ rfl HD3.out.row (Below.refl _ _) hB1 _ rfl g HU.out rfl (by omega) ?_; intro A3 c3 w3 h3 hb3)
                  | fail)
                go_roundw
                case rel =>
                  refine ⟨i + 1, A3, c3, m && decide (g = g0), by omega, by go_num, rfl, rfl, ?_, ?_, HOK2.out⟩
                  · rw [HTS.out, HM.out, List.all_append]; simp; rfl
                  · rw [HTS.out, dfCs, if_neg (by omega)]
                    exact ⟨(hb3.block fb (by omega)).trans HD3.out.first, h3, HD3.out.below.trans (hb3.mono (by omega))⟩
                case measure => simp [intOf]; omega
          · have hbad : oneWay (fallsB l) l = false := by
              refine Bool.eq_false_iff.2 fun h => ?_
              have := ((oneWay_iff _ l).1 h i hil).2
              rw [← HA.out, ← HX.out, ← HFX.out, ← HF0.out] at this
              refine hdir (this.imp (fun h => ?_) id)
              rw [HG.out]; unfold gapN; omega
            have HBAD := Lib.hid hbad
            have gp : (0 : Int) < (g : Int) := by omega
            obtain ⟨hg1, hf1⟩ := not_or.1 hdir
            clear hbad hdir hg1
            cases fx with
            | true =>
              obtain rfl : f0 = false := by simpa using hf1
              clear hf1
              go_wp2_with fail
              refine bodyPost_ret (results_row4 rfl _ _ fb 322 #[.int .u64 0, .bool false] (0, 0) _ rfl (HD3.out.setTo (.int .u64 0) (.bool false) rfl).first Tryz.underlying322 rfl (by kernel_rfl)) rfl ?_
              exact ⟨by rw [← HFB.out]; exact (HD3.out.setTo (.int .u64 0) (.bool false) rfl).below, by rw [HBAD.out]; exact rfl⟩
            | false =>
              obtain rfl : f0 = true := by simpa using hf1
              clear hf1
              go_wp2_with fail
              refine bodyPost_ret (results_row4 rfl _ _ fb 322 #[.int .u64 0, .bool false] (0, 0) _ rfl (HD3.out.setTo (.int .u64 0) (.bool false) rfl).first Tryz.underlying322 rfl (by kernel_rfl)) rfl ?_
              exact ⟨by rw [← HFB.out]; exact (HD3.out.setTo (.int .u64 0) (.bool false) rfl).below, by rw [HBAD.out]; exact rfl⟩
      · have HV := Lib.hid (show diffV a x = #[.int .u64 0, .bool false, .bool false] by unfold diffV; rw [← hg, if_neg hz])
        have hbad : oneWay (fallsB l) l = false := by
          refine Bool.eq_false_iff.2 fun h => hz ?_
          have := ((oneWay_iff _ l).1 h i hil).1
          rwa [← HA.out, ← HX.out, ← hg] at this
        have HBAD := Lib.hid hbad
        clear hg hz hbad
        go_upto_region 7 with (first
          | (go_at_call 320; refine (diff_any a x a1 a2 x1 x2 _).mono ?_; rintro e w1 ⟨rfl, hb1⟩; rw [HV.out]; have HD1 := Lib.hid (HD.out.keep hb1); clear hb1)
          | fail)
        obtain ⟨w2, hw2⟩ : ∃ w2, w2 = w1.alloc (.cells #[.int .u64 0, .bool false] 322) := ⟨_, rfl⟩
        have hd2 : DfR w fb (dfCs g0 f0 i) A2 i c2 ((sizesN l).take i) w2 := by rw [hw2]; exact HD1.out.keep ((Below.refl _ _).alloc (Nat.le_refl _) _)
        obtain ⟨d2, hdd⟩ : ∃ d2, d2 = w1.heap.size := ⟨_, rfl⟩
        have hdh : w2.heap[d2]? = some (.cells #[.int .u64 0, .bool false] 322 (0, 0)) := by rw [hw2, hdd]; exact heap_alloc_new _ _
        rw [← hw2, ← hdd]
        obtain ⟨u, v, huv⟩ := dfCs_cells g0 f0 i
        rw [huv] at hd2
        have HD2 := Lib.hid hd2
        have hf := hd2.first
        clear hw2 hdd HD1 ca' cx' huv hd2
        have c0 : w2.cell? ⟨d2, 0, none⟩ = some (.int .u64 0) := by rw [Lib.cell_of_heap hdh]; rfl
        have c1 : w2.cell? ⟨d2, 1, none⟩ = some (.bool false) := by rw [Lib.cell_of_heap hdh]; rfl
        have k0 : w2.cell? ⟨fb, 0, none⟩ = some (.int .u64 u) := by rw [Lib.cell_of_heap hf]; rfl
        have k1 : w2.cell? ⟨fb, 1, none⟩ = some (.bool v) := by rw [Lib.cell_of_heap hf]; rfl
        have k2 := Lib.frozen_of_heap hf 0
        have k3 := Lib.frozen_of_heap hf 1
        clear hdh hf
        go_upto_if 34 with fail
        go_cut [] from 35 to 35 (fun wx => ∃ (wd : World) (u v : Value), wd = wx ∧ DfR w fb #[u, v] A2 i c2 ((sizesN l).take i) wd)
        case first =>
          by_cases hi0 : i = 0
          · have hI : (i : Int) = 0 := by omega
            have hI2 : ((i : Int) == 0) = true := beq_yes hI
            clear hi0
            go_wp2_with fail
            go_meet
            exact ⟨_, _, _, rfl, HD2.out.setTo (.int .u64 0) (.bool false) rfl⟩
          · have hI : ¬ (i : Int) = 0 := by omega
            have hI2 : ((i : Int) == 0) = false := beq_no hI
            go_wp2_with fail
            go_meet
            exact ⟨_, _, _, rfl, HD2.out⟩
        case rest =>
          obtain ⟨wx, u', v', rfl, hd3⟩ := hcut
          have HD3 := Lib.hid hd3
          have hf := hd3.first
          clear c0 c1 k0 k1 k2 k3
          have k0 : wx.cell? ⟨fb, 0, none⟩ = some u' := by rw [Lib.cell_of_heap hf]; rfl
          have k1 : wx.cell? ⟨fb, 1, none⟩ = some v' := by rw [Lib.cell_of_heap hf]; rfl
          have k2 := Lib.frozen_of_heap hf 0
          have k3 := Lib.frozen_of_heap hf 1
          clear hf hd3
          refine ‹∀ (a : Act) (w_1 : World), Code.wp _ _ _ a w_1 → _› _ _ ?_
          go_wp2_with fail
          refine bodyPost_ret (results_row4 rfl _ _ fb 322 #[.int .u64 0, .bool false] (0, 0) _ rfl (HD3.out.setTo (.int .u64 0) (.bool false) rfl).first Tryz.underlying322 rfl (by kernel_rfl)) rfl ?_
          exact ⟨by rw [← HFB.out]; exact (HD3.out.setTo (.int .u64 0) (.bool false) rfl).below, by rw [HBAD.out]; exact rfl⟩
    · have hin : i = n - 1 := by omega
      have hts : (sizesN l).take i = sizesN l := List.take_of_length_le (by rw [sizesN_len, ← HL.out]; omega)
      have hcs : dfCs g0 f0 i = #[.int .u64 (g0 : Int), .bool f0] := by rw [dfCs, if_neg (by omega)]
      rw [hts] at HD HM
      rw [hcs] at HD
      have hgood : oneWay (fallsB l) l = true := (oneWay_iff _ l).2 fun j hj => by rw [← HF0.out]; exact HOK.out j hj (by have := HL.out; omega)
      have hsl := HD.out.row.sl
      have hic := hsl.2.1
      have hic2 := hsl.2.2.1
      unfold maxLen at hic2
      obtain ⟨ga, rfl⟩ := HD.out.row.some1 oneU64 (by intro h; have := HD.out.row.len; rw [h] at this; simp at this; omega)
      have hcut := hsl.cut (lo := 1) (hi := i) (by omega) (Nat.le_refl _)
      have HCUT := Lib.hid hcut; have HGOOD := Lib.hid hgood
      have hf := HD.out.first
      have k0 : wr.cell? ⟨fb, 0, none⟩ = some (.int .u64 (g0 : Int)) := by rw [Lib.cell_of_heap hf]; rfl
      have k1 : wr.cell? ⟨fb, 1, none⟩ = some (.bool f0) := by rw [Lib.cell_of_heap hf]; rfl
      have k2 := Lib.frozen_of_heap hf 0
      have k3 := Lib.frozen_of_heap hf 1
      have HTS := Lib.hid hts
      have hi1 : (1 : Int) ≤ (i : Int) := by omega
      have hi2 : ¬ (i : Int) < ((n - 1 : Nat) : Int) := by omega
      have hi3 : 1 ≤ i := by omega
      clear hts hcs hgood hsl hcut hf hin HOK
      go_upto_region 14 with fail
      have hFfb : ¬ (False ∨ ((some ⟨ga, 0, none⟩ : Option Addr) = some ⟨fb, 0, none⟩ ∧ fb + 1 ≤ fb)) := by rintro (h | ⟨_, h⟩); exact h; omega
      by_cases hc1 : c2 = 1
      · obtain rfl : i = 1 := by omega
        subst hc1
        go_region
        go_wp2_with fail
        have HFIN := Lib.hid (HD.out.setTo (.int .u64 (g0 : Int)) (.bool f0) rfl)
        refine bodyPost_ret (results_row4 rfl _ _ fb 322 #[.int .u64 (g0 : Int), .bool f0] (0, 0) _ rfl HFIN.out.first Tryz.underlying322 rfl (by kernel_rfl)) rfl ?_
        refine ⟨by rw [← HFB.out]; exact HFIN.out.below.drew, ?_⟩
        rw [HGOOD.out, if_pos rfl]
        refine ⟨_, _, _, by rw [← HG0.out, ← HF0.out, evenB, ← HG0.out, ← HM.out]; rfl, ?_⟩
        have hs := ((HCUT.out.setCell (p := ⟨fb, 0, none⟩) hFfb (.int .u64 (g0 : Int))).setCell (p := ⟨fb, 1, none⟩) hFfb (.bool f0)).drew.any
        rw [show (sizesN l).tail = ((sizesN l).take 1).drop 1 by rw [HTS.out, List.drop_one]]
        simpa using hs
      · go_region
        go_wp2_with fail
        have HFIN := Lib.hid (HD.out.setTo (.int .u64 (g0 : Int)) (.bool f0) rfl)
        refine bodyPost_ret (results_row4 rfl _ _ fb 322 #[.int .u64 (g0 : Int), .bool f0] (0, 0) _ rfl HFIN.out.first Tryz.underlying322 rfl (by kernel_rfl)) rfl ?_
        refine ⟨by rw [← HFB.out]; exact HFIN.out.below.drew, ?_⟩
        rw [HGOOD.out, if_pos rfl]
        refine ⟨_, _, _, by rw [← HG0.out, ← HF0.out, evenB, ← HG0.out, ← HM.out]; rfl, ?_⟩
        have hs := ((HCUT.out.setCell (p := ⟨fb, 0, none⟩) hFfb (.int .u64 (g0 : Int))).setCell (p := ⟨fb, 1, none⟩) hFfb (.bool f0)).drew.any
        rw [show (sizesN l).tail = ((sizesN l).take i).drop 1 by rw [HTS.out, List.drop_one]]
        rw [if_neg hc1] at hs
        exact hs
end Go.Proofs.YtpmglcachffojaaGreatDoor
namespace Go.Proofs.YtpmglcachffojaaGreatDoor
open Go Go.RowKit

theorem foldmin (l : List Int) : ∀ a : Int, l.foldl min a ≤ a ∧ (∀ x ∈ l, l.foldl min a ≤ x) ∧ (l.foldl min a = a ∨ l.foldl min a ∈ l) := by
  induction l with
  | nil => intro a; exact ⟨Int.le_refl _, by simp, .inl rfl⟩
  | cons b r ih =>
    intro a
    obtain ⟨h1, h2, h3⟩ := ih (min a b)
    rw [List.foldl_cons]
    refine ⟨by omega, fun x hx => ?_, ?_⟩
    · rcases List.mem_cons.1 hx with rfl | hx
      · omega
      · exact h2 x hx
    · rcases h3 with h3 | h3
      · rw [h3]
        by_cases hab : a ≤ b
        · exact .inl (by omega)
        · exact .inr (List.mem_cons.2 (.inl (by omega)))
      · exact .inr (List.mem_cons.2 (.inr h3))
theorem leastI_mem {l : List Int} (h : l ≠ []) : leastI l ∈ l ∧ ∀ x ∈ l, leastI l ≤ x := by
  match l, h with
  | a :: r, _ =>
    obtain ⟨h1, h2, h3⟩ := foldmin (a :: r) a
    refine ⟨?_, h2⟩
    show (a :: r).foldl min a ∈ a :: r
    rcases h3 with h3 | h3
    · rw [h3]; exact List.mem_cons_self
    · exact h3
theorem least_unique {l : List Int} {a b : Int} (ha : a ∈ l) (ha2 : ∀ x ∈ l, a ≤ x) (hb : b ∈ l) (hb2 : ∀ x ∈ l, b ≤ x) : a = b := Int.le_antisymm (ha2 b hb) (hb2 a ha)
theorem sl_cells {F : Nat → Prop} {w : World} {A : Option Addr} {n c : Nat} {l : List Int} (h : Sl tI64 F w A n c l) (hl : l ≠ []) : ∃ b o, A = some ⟨b, o, none⟩ ∧ b < w.heap.size ∧ ∀ i (hi : i < l.length), w.cell? ⟨b, o + i, none⟩ = some (.int .i64 l[i]) ∧ -9223372036854775808 ≤ l[i] ∧ l[i] ≤ 9223372036854775807 := by
  obtain ⟨b, o, _, rfl, _, hb, _, _⟩ := h.at1 (k := 0) (List.length_pos_iff.2 hl) rfl
  refine ⟨b, o, rfl, hb, fun i hi => ?_⟩
  obtain ⟨b', o', u, he, _, _, hr, hc⟩ := h.at1 hi rfl
  injection he with he; injection he with e1 e2 _
  subst e1; subst e2
  obtain ⟨hr, h1, h2⟩ := hr
  injection hr with hr
  subst hr
  exact ⟨hc, h1, h2⟩
theorem min_any (F : Nat → Prop) (A : Option Addr) (n c : Nat) (l : List Int) (w : World) (h : Sl tI64 F w A n c l) (hl : l ≠ []) :
    Calls Tryz.prog 205 #[.slice A n c] w fun e w' => e = .returned (.int .i64 (leastI l)) ∧ w = w' := by
  obtain ⟨b, o, rfl, _, hc⟩ := sl_cells h hl
  have hlen := h.len
  have h2 := h.2.1
  have h3 := h.2.2.1
  unfold maxLen at h3
  refine (Tryz.slices_Min_int b o n c l w (by have := List.length_pos_iff.2 hl; omega) (by omega) (by omega) fun j hj => ?_).mono ?_
  · rw [(hc j hj).1, List.getD_eq_getElem?_getD, List.getElem?_eq_getElem hj]; rfl
  · rintro e w1 ⟨rfl, rfl⟩
    refine ⟨?_, rfl⟩
    rw [List.take_of_length_le (by omega)]
    rfl
end Go.Proofs.YtpmglcachffojaaGreatDoor
namespace Go.Proofs.YtpmglcachffojaaGreatDoor
open Go Go.RowKit

theorem NumOk.least {sg : Bool} {l : List Int} (h : NumOk sg l) (hl : l ≠ []) : -9223372036854775808 ≤ leastI l ∧ leastI l ≤ 9223372036854775807 ∧ (sg = true ∨ 0 ≤ leastI l) := h _ (leastI_mem hl).1
theorem oneWay_u64 {f : Bool} {l : List Int} (h : oneWay f l = true) : ∀ x ∈ sizesN l, x < 9223372036854775808 := fun x hx => by
  obtain ⟨j, hj, rfl⟩ := List.getElem_of_mem hx
  have hj2 : j + 1 < l.length := by rw [sizesN_len] at hj; omega
  rw [sizesN_get l j hj2]
  exact ((oneWay_iff f l).1 h j hj2).1
set_option maxRecDepth 100000 in
set_option maxHeartbeats 1000000 in
/-- What delta.Put answers at rows that do not go one way, or of one. -/
theorem delp_none (F : Nat → Prop) (A : Option Addr) (n c : Nat) (l : List Int) (w : World) (h : Sl tI64 F w A n c l) (hn1 : 1 ≤ n) (hn : n ≤ 512) (sg : Bool) (hl : NumOk sg l) (hd : delB sg l = none) :
    Calls Tryz.prog 247 #[.slice A n c, .bool sg] w (RunPost none w) := by
  have hlen := h.len
  have hne : l ≠ [] := by intro e; rw [e] at hlen; simp at hlen; omega
  have hml := hl.least hne
  have HMIN := Lib.hid (min_any F A n c l w h hne)
  obtain ⟨mn, hmn⟩ : ∃ mn, mn = leastI l := ⟨_, rfl⟩
  rw [← hmn] at hml HMIN
  obtain ⟨m0, m1, m2⟩ := hml
  have HM2 := Lib.hid m2
  have HH := Lib.hid h
  clear hmn m2
  by_cases hn2 : n < 2
  · have z : (n : Int) < 2 := by omega
    clear hn2 hlen
    go_enter Tryz.func247, Tryz.ntmps247
    go_wp2_with fail
    go_ret2
    exact ⟨Below.refl _ _, rfl⟩
  · have z : ¬ (n : Int) < 2 := by omega
    have hw : oneWay (fallsB l) l = false := by
      unfold delB at hd
      by_cases hc : l.length < 2 ∨ oneWay (fallsB l) l = false
      · exact hc.resolve_left (by omega)
      · rw [if_neg hc] at hd; cases hd
    have HDF : Hid (Calls Tryz.prog 288 #[.slice A n c] w fun e w' => e = .returned (.tuple #[.agg #[.int .u64 0, .bool false], .slice none 0 0, .bool false, .bool false]) ∧ Below w.heap.size w w') := Lib.hid ((diffs_any F A n c l w h (by omega) hn).mono fun e w1 hp => by
      obtain ⟨hb1, he⟩ := hp
      rw [hw, if_neg (by simp)] at he
      exact ⟨he, hb1⟩)
    clear hd hw h hlen
    cases sg with
    | true =>
      go_enter Tryz.func247, Tryz.ntmps247
      go_upto_region 3 with (first
        | (go_at_call 205; refine HMIN.out.mono ?_; rintro e w1 ⟨rfl, rfl⟩)
        | fail)
      go_wp2_with (first
        | (go_at_call 288; refine HDF.out.mono ?_; rintro e w1 ⟨rfl, hb1⟩; have HB1 := Lib.hid hb1; clear hb1)
        | fail)
      go_ret2
      exact ⟨HB1.out.alloc HB1.out.size _, rfl⟩
    | false =>
      have m3 : ¬ mn < 0 := by rcases HM2.out with h | h; cases h; exact Int.not_lt.2 h
      go_enter Tryz.func247, Tryz.ntmps247
      go_upto_region 3 with (first
        | (go_at_call 205; refine HMIN.out.mono ?_; rintro e w1 ⟨rfl, rfl⟩)
        | fail)
      go_wp2_with (first
        | (go_at_call 288; refine HDF.out.mono ?_; rintro e w1 ⟨rfl, hb1⟩; have HB1 := Lib.hid hb1; clear hb1)
        | fail)
      go_ret2
      exact ⟨HB1.out.alloc HB1.out.size _, rfl⟩
end Go.Proofs.YtpmglcachffojaaGreatDoor
