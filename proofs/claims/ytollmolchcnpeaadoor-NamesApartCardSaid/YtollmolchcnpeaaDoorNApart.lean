/- The law NamesApart: what is chosen is among the directories, rises, and leaves none out: its walk. (Printed by gen_napart.py.) -/
import Derived.Test.YtollmolchcnpeaaDoorNChosenLaw
namespace Go.Proofs.YtollmolchcnpeaaDoor
open Go Go.RowKit

/-- The To of the one before. -/
def prevHi (n : Int) (g : List DD) : Nat → Int
  | 0 => n
  | j + 1 => (g.getD j DD.zero).hi
theorem prevHi_cons (n : Int) (d : DD) (g : List DD) (i : Nat) : prevHi n (d :: g) (i + 1) = prevHi d.hi g i := by cases i <;> rfl
theorem grow_at {S : DD → Prop} : ∀ (g : List DD) (n : Int), IsGrow S n g → ∀ i, i < g.length → S (g.getD i DD.zero) ∧ prevHi n g i < (g.getD i DD.zero).lo
  | [], _, _, i, hi => by simp at hi
  | d :: r, n, h, 0, _ => ⟨h.1, h.2.1⟩
  | d :: r, n, h, i + 1, hi => by
    rw [prevHi_cons]
    exact grow_at r d.hi h.2.2.2 i (by simpa using hi)
theorem grow_end {S : DD → Prop} : ∀ (g : List DD) (n : Int), IsGrow S n g → ∀ x, S x → x.lo ≤ prevHi n g g.length
  | [], _, h, x, hx => h x hx
  | d :: r, n, h, x, hx => by
    rw [List.length_cons, prevHi_cons]
    exact grow_end r d.hi h.2.2.2 x hx
/-- What the law asks of one that is chosen. -/
structure ApOk (f : List DD) (most : Int) (r : List DD) (i : Nat) (e : DD) : Prop where
  mem : e ∈ f
  hi : e.hi ≤ most
  kind : e.kind = 2 ∨ i = 0 ∧ e.kind = 1
  lo : 0 < i → prevHi 0 r i < e.lo
theorem chosen_apart {f : List DD} {most : Int} {r : List DD} (h : Chosen f most r) : (∀ i, i < r.length → ApOk f most r i (r.getD i DD.zero)) ∧ ∀ x, El f 2 most x → x.lo ≤ prevHi 0 r r.length := by
  obtain ⟨b, g, rfl, hb, hg⟩ := h
  match b, hb, hg with
  | [], _, hg =>
    refine ⟨fun i hi => ?_, grow_end g 0 hg⟩
    obtain ⟨h1, h2⟩ := grow_at g 0 hg i hi
    exact ⟨h1.1, h1.2.2.2, .inl h1.2.1, fun _ => h2⟩
  | [x], hb, hg =>
    refine ⟨fun i hi => ?_, fun y hy => ?_⟩
    · cases i with
      | zero => exact ⟨hb.1.1, hb.1.2.2.2, .inr ⟨rfl, hb.1.2.1⟩, fun h => absurd h (Nat.lt_irrefl 0)⟩
      | succ i =>
        obtain ⟨h1, h2⟩ := grow_at g x.hi hg i (by simpa using hi)
        exact ⟨h1.1, h1.2.2.2, .inl h1.2.1, fun _ => by show prevHi 0 (x :: g) (i + 1) < _; rw [prevHi_cons]; exact h2⟩
    · show y.lo ≤ prevHi 0 (x :: g) (g.length + 1)
      rw [prevHi_cons]
      exact grow_end g x.hi hg y hy
theorem mem_take_succ {l : List DD} {k : Nat} {e : DD} (hk : k < l.length) : e ∈ l.take (k + 1) ↔ e ∈ l.take k ∨ l[k] = e := by
  rw [List.take_succ_eq_append_getElem hk, List.mem_append, List.mem_singleton]
  exact ⟨fun h => h.imp id Eq.symm, fun h => h.imp id Eq.symm⟩
abbrev ApS (q o0 o1 o2 : Nat) (d : DD) (w0 w' : World) : Prop := w'.cell? ⟨q, o0, none⟩ = some (.int .i64 d.kind) ∧ w'.cell? ⟨q, o1, none⟩ = some (.int .i64 d.lo) ∧ w'.cell? ⟨q, o2, none⟩ = some (.int .i64 d.hi) ∧ Hid (Below w0.heap.size w0 w')
theorem apS_keep {q o0 o1 o2 : Nat} {d : DD} {w0 w1 w2 : World} (h : ApS q o0 o1 o2 d w0 w1) (hb : Below w1.heap.size w1 w2) : ApS q o0 o1 o2 d w0 w2 :=
  ⟨kcell hb h.1, kcell hb h.2.1, kcell hb h.2.2.1, Lib.hid (bthen h.2.2.2.out hb)⟩
theorem bdk {B k : Nat} {a w : World} (h : Below B a w) : Below B a (w.drewN k) := bdrewN h k

set_option maxRecDepth 100000 in
set_option maxHeartbeats 8000000 in
theorem napart_any (F : Nat → Prop) (A : Option Addr) (n c : Nat) (l : List DD) (most : Int) (w : World) (h : Sl tDD F w A n c l) (hm : i64 most) (ht : Tab w) :
    Calls Tryd.prog 4 #[.slice A n c, .int .i64 most] w fun e w' => e = .returned (.bool true) ∧ Below w.heap.size w w' := by
  have H1 := Lib.hid h; have HT := Lib.hid ht; have HMI := Lib.hid hm
  have hn' := h.2.1
  have hn2' := h.2.2.1
  unfold maxLen at hn2'
  clear h ht hm
  go_enter Tryd.func4, Tryd.ntmps4
  go_upto_if 15 with (first
    | (go_at_call 7; refine (nshown_any _ HT.out).mono ?_; rintro e w1 ⟨rfl, hb1⟩; have HB1 := Lib.hid hb1; have hs1 := hb1.size; clear hb1)
    | fail)
  go_cut [0] from 15 to 17 (fun v wx => ∃ (y yc : Nat), y ≤ 60 ∧ v = .slice A y yc ∧ Sl tDD F wx A y yc (l.take 60) ∧ wx = w1)
  case first =>
    by_cases h9 : 60 < n
    · have hq : decide ((60 : Int) < (n : Int)) = true := by simp; omega
      have hq' : ¬ (n : Int) < 60 := by omega
      go_wp2_with fail
      go_meet
      exact ⟨60, c, Nat.le_refl _, rfl, (H1.out.front (by omega)).below HB1.out (Nat.le_refl _), rfl⟩
    · have hq : decide ((60 : Int) < (n : Int)) = false := by simp; omega
      have hq' : ¬ (60 : Int) < (n : Int) := by omega
      go_wp2_with fail
      go_meet
      exact ⟨n, c, by omega, rfl, by rw [H1.out.short (by omega)]; exact H1.out.below HB1.out (Nat.le_refl _), rfl⟩
  case rest =>
    obtain ⟨y, yc, hy60, rfl, hy, rfl⟩ := hcut
    have HY := Lib.hid hy
    obtain ⟨f, hf⟩ : ∃ f, f = l.take 60 := ⟨_, rfl⟩
    rw [← hf] at HY
    have HYL := Lib.hid HY.out.len
    clear hy hf
    go_wp2_with (first
      | (go_at_call 9; refine (chosen_any _ A y yc f most _ HY.out (by omega)).mono ?_; rintro e w3 ⟨A1, m1, c1, r, rfl, hc1, hs3, hb3⟩; have HB3 := Lib.hid (HB1.out.trans (hb3.mono hs1)); have HY3 := Lib.hid (HY.out.below hb3 (Nat.le_refl _)); have HAP := Lib.hid (chosen_apart hc1).1; have HEND := Lib.hid (chosen_apart hc1).2; have HS3 := Lib.hid hs3; have hz3 := HB3.out.size; have HRL := Lib.hid hs3.len; have hm1' : m1 ≤ 9223372036854775807 := (by have h2 := hs3.2.1; have h3 := hs3.2.2.1; unfold maxLen at h3; omega); clear hb3 hc1 hs3)
      | fail)
    go_loopw [7, 8] (fun lv iv wq => ∃ (i : Nat) (L : Int), i ≤ m1 ∧ iv = .int .i64 (i : Int) ∧ lv = .int .i64 L ∧ L = prevHi 0 r i ∧ Below w3.heap.size w3 wq)
      (fun _ iv _ => m1 - (intOf iv).toNat)
    case atStart => exact ⟨0, 0, Nat.zero_le _, rfl, rfl, rfl, Below.refl _ _⟩
    case round =>
      obtain ⟨wq, rfl⟩ : ∃ wq, wq = wr := ⟨wr, rfl⟩
      obtain ⟨i, L, hi, rfl, rfl, hL, hbq⟩ := hrel
      have HLL := Lib.hid hL; have HBQ := Lib.hid hbq
      have hsq := hbq.size
      clear hL hbq
      by_cases hlt : i < m1
      · have hil : i < r.length := by rw [← HRL.out]; exact hlt
        obtain ⟨e, he⟩ : ∃ e, e = r[i] := ⟨_, rfl⟩
        have HOK := Lib.hid (show ApOk f most r i e by have := HAP.out i hil; rwa [List.getD_eq_getElem?_getD, List.getElem?_eq_getElem hil, Option.getD_some, ← he] at this)
        have HNX := Lib.hid (show e.hi = prevHi 0 r (i + 1) by show e.hi = (r.getD i DD.zero).hi; rw [List.getD_eq_getElem?_getD, List.getElem?_eq_getElem hil, Option.getD_some, ← he])
        have HE := Lib.hid he
        clear he
        have hi1 : (0 : Int) ≤ (i : Int) := by omega
        have hi2 : (i : Int) < (m1 : Int) := by omega
        go_wp2_with fail
        go_loopw [9, 10] (fun fv kv wi => ∃ (k : Nat) (b : Bool), k ≤ y ∧ kv = .int .i64 (k : Int) ∧ fv = .bool b ∧ b = decide (e ∈ f.take k) ∧ Below w3.heap.size w3 wi)
          (fun _ kv _ => y - (intOf kv).toNat)
        case atStart => exact ⟨0, false, Nat.zero_le _, rfl, rfl, by simp, HBQ.out⟩
        case round =>
          obtain ⟨wi, rfl⟩ : ∃ wi, wi = wr := ⟨wr, rfl⟩
          obtain ⟨k, b, hk, rfl, rfl, hb, hbi⟩ := hrel
          have HB := Lib.hid hb; have HBI := Lib.hid hbi
          have hsl := HY3.out.below hbi (Nat.le_refl _)
          have hsr := HS3.out.below hbi (Nat.le_refl _)
          clear hb hbi
          obtain ⟨q', o', u', hA1, _, hql', hu', hc'⟩ := hsr.at_ hil (by decide)
          subst hA1
          rw [← HE.out] at hu'
          obtain ⟨rfl, _⟩ := hu'
          obtain ⟨z0, z1, z2⟩ := cells3 hc'
          clear hc' hsr
          by_cases hkt : k < y
          · have hkl : k < f.length := by rw [← HYL.out]; exact hkt
            have hk1 : (0 : Int) ≤ (k : Int) := by omega
            have hk2 : (k : Int) < (y : Int) := by omega
            obtain ⟨d, hd⟩ : ∃ d, d = f[k] := ⟨_, rfl⟩
            obtain ⟨q, o, u, hA, _, hql, hu, hc⟩ := hsl.at_ hkl (by decide)
            subst hA
            rw [← hd] at hu
            obtain ⟨rfl, _⟩ := hu
            obtain ⟨x0, x1, x2⟩ := cells3 hc
            have HN := Lib.hid (show (b || decide (d = e)) = decide (e ∈ f.take (k + 1)) by rw [HB.out, hd]; simp only [mem_take_succ hkl]; by_cases h1 : e ∈ f.take k <;> by_cases h2 : f[k] = e <;> simp [h1, h2])
            clear hc hd hsl
            cases b with
            | true =>
              go_wp2_with fail
              go_quiet (fail)
              go_wp2_with fail
              go_roundw
              case rel => exact ⟨k + 1, true, by omega, by go_num, rfl, HN.out, bdk HBI.out⟩
              case measure => simp [intOf]; omega
            | false =>
              by_cases hde : d = e
              · subst hde
                go_wp2_with fail
                go_quiet (fail)
                go_wp2_with fail
                go_roundw
                case rel => exact ⟨k + 1, true, by omega, by go_num, rfl, by rw [← HN.out]; simp, bdk HBI.out⟩
                case measure => simp [intOf]; omega
              · have HN2 := Lib.hid (show false = decide (e ∈ f.take (k + 1)) by rw [← HN.out]; simp [hde])
                have HDE := Lib.hid hde
                clear hde
                obtain ⟨a1, a2, a3⟩ := d
                obtain ⟨b1, b2, b3⟩ := e
                dsimp only at x0 x1 x2 z0 z1 z2
                by_cases p1 : a1 = b1
                · subst p1
                  by_cases p2 : a2 = b2
                  · subst p2
                    have p3 : ¬ a3 = b3 := fun h => HDE.out (by rw [h])
                    have t3 := beq_no p3
                    go_wp2_with fail
                    go_quiet (fail)
                    go_wp2_with fail
                    go_roundw
                    case rel => exact ⟨k + 1, false, by omega, by go_num, rfl, HN2.out, bdk HBI.out⟩
                    case measure => simp [intOf]; omega
                  · have t2 := beq_no p2
                    go_wp2_with fail
                    go_quiet (fail)
                    go_wp2_with fail
                    go_roundw
                    case rel => exact ⟨k + 1, false, by omega, by go_num, rfl, HN2.out, bdk HBI.out⟩
                    case measure => simp [intOf]; omega
                · have t1 := beq_no p1
                  go_wp2_with fail
                  go_quiet (fail)
                  go_wp2_with fail
                  go_roundw
                  case rel => exact ⟨k + 1, false, by omega, by go_num, rfl, HN2.out, bdk HBI.out⟩
                  case measure => simp [intOf]; omega
          · obtain rfl : y = k := by omega
            have hbt : b = true := by
              rw [HB.out, List.take_of_length_le (by rw [← HYL.out]; exact Nat.le_refl _)]
              exact decide_eq_true HOK.out.mem
            subst hbt
            obtain ⟨ek, elo, ehi⟩ := e
            dsimp only at z0 z1 z2
            have s1 : decide (most < ehi) = false := decide_eq_false (by have := HOK.out.hi; simp only at this; omega)
            rcases HOK.out.kind with h2 | ⟨h0, h2⟩
            · have h2' : ek = 2 := h2
              subst h2'
              clear h2
              by_cases hi0 : i = 0
              · subst hi0
                simp only [Nat.zero_mul, Nat.add_zero] at z0 z1 z2
                go_wp2_with fail
                go_roundw
                case rel => exact ⟨1, ehi, by omega, by first | rfl | go_num, rfl, HNX.out, HBI.out⟩
                case measure => simp [intOf]; omega
              · have s2 : 0 < i := by omega
                have s3 : L < elo := by have := HOK.out.lo (by omega); rw [← HLL.out] at this; simpa only using this
                clear hi0
                go_wp2_with fail
                go_roundw
                case rel => exact ⟨i + 1, ehi, by omega, by first | rfl | go_num, rfl, HNX.out, HBI.out⟩
                case measure => simp [intOf]; omega
            · have h2' : ek = 1 := h2
              subst h2' h0
              simp only [Nat.zero_mul, Nat.add_zero] at z0 z1 z2
              clear h2
              go_wp2_with fail
              go_roundw
              case rel => exact ⟨1, ehi, by omega, by first | rfl | go_num, rfl, HNX.out, HBI.out⟩
              case measure => simp [intOf]; omega
      · obtain rfl : m1 = i := by omega
        have HEN2 := Lib.hid (show ∀ x, El f 2 most x → x.lo ≤ L by intro x hx; have := HEND.out x hx; rwa [← HRL.out, ← HLL.out] at this)
        go_wp2_with fail
        go_loopw [11] (fun kv wi => ∃ (k : Nat), k ≤ y ∧ kv = .int .i64 (k : Int) ∧ Below w3.heap.size w3 wi)
          (fun kv _ => y - (intOf kv).toNat)
        case atStart => exact ⟨0, Nat.zero_le _, rfl, HBQ.out⟩
        case round =>
          obtain ⟨wi, rfl⟩ : ∃ wi, wi = wr := ⟨wr, rfl⟩
          obtain ⟨k, hk, rfl, hbi⟩ := hrel
          have HBI := Lib.hid hbi
          have hsl := HY3.out.below hbi (Nat.le_refl _)
          have hszi := hbi.size
          clear hbi
          by_cases hkt : k < y
          · have hkl : k < f.length := by rw [← HYL.out]; exact hkt
            have hk1 : (0 : Int) ≤ (k : Int) := by omega
            have hk2 : (k : Int) < (y : Int) := by omega
            obtain ⟨d, hd⟩ : ∃ d, d = f[k] := ⟨_, rfl⟩
            obtain ⟨q, o, u, hA, _, hql, hu, hc⟩ := hsl.at_ hkl (by decide)
            subst hA
            rw [← hd] at hu
            obtain ⟨rfl, _⟩ := hu
            obtain ⟨x0, x1, x2⟩ := cells3 hc
            obtain ⟨m, hm⟩ : ∃ m, m = may d := ⟨_, rfl⟩
            have HM := Lib.hid hm; have HD := Lib.hid hd
            clear hc hsl hd hm
            cases m with
            | false =>
              go_wp2_with (first
                | (go_at_call 11; refine (may_any d false HM.out _).mono ?_; rintro e w2 ⟨rfl, hb2⟩; have HB2 := Lib.hid hb2; have y0 := kcell hb2 x0; have y1 := kcell hb2 x1; have y2 := kcell hb2 x2; clear hb2)
                | fail)
              go_roundw
              case rel => exact ⟨k + 1, by omega, by go_num, HBI.out.trans (HB2.out.mono hszi)⟩
              case measure => simp [intOf]; omega
            | true =>
              by_cases k1 : d.kind = 2
              · have s1 := eq_b k1
                by_cases k2 : L < d.lo
                · have s2 : decide (L < d.lo) = true := decide_eq_true k2
                  have s3 : decide (d.hi ≤ most) = false := decide_eq_false (fun h9 => by have := HEN2.out d ⟨by rw [HD.out]; exact List.getElem_mem _, k1, HM.out.symm, h9⟩; omega)
                  clear k1 k2
                  go_wp2_with (first
                    | (go_at_call 11; refine (may_any d true HM.out _).mono ?_; rintro e w2 ⟨rfl, hb2⟩; have HB2 := Lib.hid hb2; have y0 := kcell hb2 x0; have y1 := kcell hb2 x1; have y2 := kcell hb2 x2; clear hb2)
                    | fail)
                  go_roundw
                  case rel => exact ⟨k + 1, by omega, by go_num, HBI.out.trans (HB2.out.mono hszi)⟩
                  case measure => simp [intOf]; omega
                · have s2 : decide (L < d.lo) = false := decide_eq_false k2
                  clear k1 k2
                  go_wp2_with (first
                    | (go_at_call 11; refine (may_any d true HM.out _).mono ?_; rintro e w2 ⟨rfl, hb2⟩; have HB2 := Lib.hid hb2; have y0 := kcell hb2 x0; have y1 := kcell hb2 x1; have y2 := kcell hb2 x2; clear hb2)
                    | fail)
                  go_roundw
                  case rel => exact ⟨k + 1, by omega, by go_num, HBI.out.trans (HB2.out.mono hszi)⟩
                  case measure => simp [intOf]; omega
              · have s1 := beq_no k1
                go_wp2_with (first
                  | (go_at_call 11; refine (may_any d true HM.out _).mono ?_; rintro e w2 ⟨rfl, hb2⟩; have HB2 := Lib.hid hb2; have y0 := kcell hb2 x0; have y1 := kcell hb2 x1; have y2 := kcell hb2 x2; clear hb2)
                  | fail)
                go_roundw
                case rel => exact ⟨k + 1, by omega, by go_num, HBI.out.trans (HB2.out.mono hszi)⟩
                case measure => simp [intOf]; omega
          · obtain rfl : y = k := by omega
            go_wp2_with fail
            go_ret
            exact ⟨rfl, HB3.out.trans (HBI.out.mono hz3)⟩
end Go.Proofs.YtollmolchcnpeaaDoor
