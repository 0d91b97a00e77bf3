/- The layer desk: Parse. -/
import Derived.Test.YtojenpjafgfpaaaGreatDoorLine
namespace Go.Proofs.YtojenpjafgfpaaaGreatDoor
open Go Go.RowKit
attribute [local go_sem ↓] Go.wp_at_zero Go.wp_at_succ

/-! what it computes -/
def cutNl (s : List UInt8) : List UInt8 × List UInt8 × Bool := Lib.cut s [10]
def parseL : Nat → List EE → List UInt8 → List EE × Nat × Int
  | 0, acc, _ => (acc, 0, 0)
  | k + 1, acc, s =>
    if s = [] then (acc, 0, 0)
    else match (cutNl s).2.2, lineOf (cutNl s).1 with
      | true, some e => parseL k (acc ++ [e]) (cutNl s).2.1
      | _, _ => ([], acc.length + 1, 240)
def parseOf (s : List UInt8) : List EE × Nat × Int := if 65536 < s.length ∨ 2048 < s.count 10 then ([], 0, 3) else parseL (s.length + 1) [] s
theorem cutNl_len {s : List UInt8} (h : s ≠ []) : (cutNl s).2.1.length < s.length ∧ (cutNl s).1.length ≤ s.length := by
  have hs : 0 < s.length := List.length_pos_iff.2 h
  unfold cutNl Lib.cut
  split
  · simp; omega
  · simp; omega
def strLen : Value → Nat
  | .string b => b.size
  | _ => 0
theorem cut_any (t : List UInt8) (mx : Int) (w : World) (hm : w.cell? ⟨0, 0, none⟩ = some (.int .i64 mx)) (ht : t.length ≤ 65536) (cu : List UInt8 × List UInt8 × Bool) (hcu : cu = cutNl t) :
    Calls Tryz.prog 38 #[.string ⟨t.toArray⟩, .string ⟨#[10]⟩] w fun e w' => e = .returned (.tuple #[.string ⟨cu.1.toArray⟩, .string ⟨cu.2.1.toArray⟩, .bool cu.2.2]) ∧ Below w.heap.size w w' := by
  subst hcu
  refine (Tryz.strings_Cut ⟨t.toArray⟩ ⟨#[10]⟩ mx w (by show t.toArray.size < _; rw [List.size_toArray]; omega) hm).mono fun e w' ⟨he, n, hw⟩ => ?_
  subst hw
  exact ⟨he, bdrewN (Below.refl _ _) n⟩
def LnPostL (lo : Option EE) (w : World) (e : Ending) (w' : World) : Prop :=
  ∃ k0 k1 k2 k3 k4 Z0 y0 u0 Z1 y1 u1 Z2 y2 u2 Z3 y3 u3 Z4 y4 u4, e = .returned (.tuple #[.agg #[.int .i64 k0, .int .i64 k1, .int .i64 k2, .int .i64 k3, .slice Z0 y0 u0, .slice Z1 y1 u1, .int .i64 k4, .slice Z2 y2 u2, .slice Z3 y3 u3, .slice Z4 y4 u4], .int .i64 (okc lo.isSome 240)]) ∧ Below w.heap.size w w' ∧ tEE.rep (fun b => w.heap.size ≤ b) w' (#[.int .i64 k0, .int .i64 k1, .int .i64 k2, .int .i64 k3, .slice Z0 y0 u0, .slice Z1 y1 u1, .int .i64 k4, .slice Z2 y2 u2, .slice Z3 y3 u3, .slice Z4 y4 u4] : Array Value).toList (lo.getD EE.zero)
theorem line_l (f : List UInt8) (w : World) (hf : f.length ≤ 2097152) (lo : Option EE) (hlo : lo = lineOf f) : Calls Tryz.prog 39 #[.string ⟨f.toArray⟩] w (LnPostL lo w) := by
  subst hlo
  refine (line_any ⟨f.toArray⟩ w (by show f.toArray.size ≤ _; rw [List.size_toArray]; exact hf)).mono fun e w' ⟨cs, he, hb, hr⟩ => ?_
  have hr2 := hr
  obtain ⟨Z0, y0, u0, Z1, y1, u1, Z2, y2, u2, Z3, y3, u3, Z4, y4, u4, hcs, _⟩ := hr2
  obtain ⟨k0, k1, k2, k3, k4, hcs2⟩ : ∃ k0 k1 k2 k3 k4, cs = #[.int .i64 k0, .int .i64 k1, .int .i64 k2, .int .i64 k3, .slice Z0 y0 u0, .slice Z1 y1 u1, .int .i64 k4, .slice Z2 y2 u2, .slice Z3 y3 u3, .slice Z4 y4 u4] := ⟨_, _, _, _, _, Array.toList_inj.1 hcs⟩
  subst hcs2
  exact ⟨k0, k1, k2, k3, k4, Z0, y0, u0, Z1, y1, u1, Z2, y2, u2, Z3, y3, u3, Z4, y4, u4, he, hb, hr⟩

def PaPost (s : List UInt8) (w : World) (e : Ending) (w' : World) : Prop :=
  ∃ A n c, e = .returned (.tuple #[.slice A n c, .int .i64 ((parseOf s).2.1 : Nat), .int .i64 (parseOf s).2.2]) ∧ Below w.heap.size w w' ∧ Sl tEE (fun b => w.heap.size ≤ b) w' A n c (parseOf s).1
theorem elemEE : ElemOf Tryz.prog 37 29 tEE.size := ElemOf.mk' (bytes := 160) (z := .agg #[.int .i64 0, .int .i64 0, .int .i64 0, .int .i64 0, .slice none 0 0, .slice none 0 0, .int .i64 0, .slice none 0 0, .slice none 0 0, .slice none 0 0]) (by kernel_rfl) (by kernel_rfl) rfl (by decide) (by decide)

set_option maxRecDepth 100000 in
set_option maxHeartbeats 4000000 in
theorem parse_any (s : List UInt8) (mx : Int) (w : World) (hm : w.cell? ⟨0, 0, none⟩ = some (.int .i64 mx)) (hs : s.length ≤ 9223372036854775807) :
    Calls Tryz.prog 12 #[.string ⟨s.toArray⟩] w (PaPost s w) := by
  by_cases hbig : 65536 < s.length
  · have hb' : (65536 : Int) < (s.length : Int) := by omega
    have HP := Lib.hid (show parseOf s = ([], 0, 3) by unfold parseOf; rw [if_pos (.inl hbig)])
    clear hbig
    go_enter Tryz.func12, Tryz.ntmps12
    go_wp2_with fail
    go_ret3
    unfold PaPost
    rw [HP.out]
    exact ⟨none, 0, 0, rfl, Below.refl _ _, Sl.nil_ _ _ _⟩
  · have hb' : ¬ (65536 : Int) < (s.length : Int) := by omega
    by_cases hcnt : 2048 < s.count 10
    · have HC := Lib.hid (show (Lib.countByte s 10 : Int) > 2048 by unfold Lib.countByte; omega)
      have HP := Lib.hid (show parseOf s = ([], 0, 3) by unfold parseOf; rw [if_pos (.inr hcnt)])
      obtain ⟨cn, hcn⟩ : ∃ cn : Int, cn = (Lib.countByte s 10 : Int) := ⟨_, rfl⟩
      have hgt : (2048 : Int) < cn := by rw [hcn]; exact HC.out
      have HCN := Lib.hid hcn
      clear hbig hcnt hcn
      go_enter Tryz.func12, Tryz.ntmps12
      go_wp2_with (first
        | (go_at_call 37; refine (Tryz.strings_Count_one ⟨s.toArray⟩ 10 _).mono ?_; rintro e w1 ⟨rfl, hw1⟩; obtain rfl := hw1.symm; rw [show (⟨s.toArray⟩ : ByteArray).data.toList = s from List.toList_toArray .., ← HCN.out])
        | fail)
      go_ret3
      unfold PaPost
      rw [HP.out]
      exact ⟨none, 0, 0, rfl, Below.refl _ _, Sl.nil_ _ _ _⟩
    · have HP := Lib.hid (show parseOf s = parseL (s.length + 1) [] s by unfold parseOf; rw [if_neg (by rintro (h | h) <;> omega)])
      obtain ⟨cn, hcn⟩ : ∃ cn : Int, cn = (Lib.countByte s 10 : Int) := ⟨_, rfl⟩
      have hgt : ¬ (2048 : Int) < cn := by rw [hcn]; unfold Lib.countByte; omega
      have HCN := Lib.hid hcn
      have hlen0 : s.length ≤ 65536 := by omega
      clear hbig hcnt hcn
      go_enter Tryz.func12, Tryz.ntmps12
      go_wp2_with (first
        | (go_at_call 37; refine (Tryz.strings_Count_one ⟨s.toArray⟩ 10 _).mono ?_; rintro e w1 ⟨rfl, hw1⟩; obtain rfl := hw1.symm; rw [show (⟨s.toArray⟩ : ByteArray).data.toList = s from List.toList_toArray .., ← HCN.out])
        | fail)
      go_loopw [0, 5] (fun sv v wr => ∃ (t : List UInt8) (k : Nat) (acc : List EE) (A : Option Addr) (n c : Nat) (G : Nat → Prop), sv = .string ⟨t.toArray⟩ ∧ v = .slice A n c ∧ t.length < k ∧ acc.length + t.length ≤ 65536 ∧ OwnF tEE 29 G wr w.heap.size A n c acc ∧ (∀ b, G b → w.heap.size ≤ b) ∧ Below w.heap.size w wr ∧ parseL k acc t = parseL (s.length + 1) [] s)
        (fun sv _ _ => strLen sv)
      case atStart => exact ⟨s, s.length + 1, [], none, 0, 0, fun _ => False, rfl, rfl, by omega, by simpa using hlen0, OwnF.nil_ _ _ _ _ _, fun _ h => h.elim, Below.refl _ _, rfl⟩
      case round =>
        obtain ⟨t, k, acc, A, n, c, G, rfl, rfl, hk, hlen, hown, hG, hb, hpar⟩ := hrel
        have HPA := Lib.hid hpar; have HO := Lib.hid hown; have HGB := Lib.hid hG; have HB := Lib.hid hb
        have hsz := hb.size
        have hn : n ≤ 65536 := by rw [hown.len]; omega
        have hm' : wr.cell? ⟨0, 0, none⟩ = some (.int .i64 mx) := (hb.cell (World.block_lt_of_cell? w _ hm)).trans hm
        clear hpar hown hG hb
        obtain ⟨k, rfl⟩ : ∃ k', k = k' + 1 := ⟨k - 1, by omega⟩
        by_cases ht : t = []
        · subst ht
          have HF := Lib.hid (show parseOf s = (acc, 0, 0) by rw [HP.out, ← HPA.out, parseL, if_pos rfl])
          go_wp2_with fail
          go_ret3
          unfold PaPost
          rw [HF.out]
          exact ⟨A, n, c, rfl, HB.out, HO.out.sl.weaken fun b hb _ => by rcases hb with hb | hb; exact HGB.out b hb; exact hb.2⟩
        · have hcl := cutNl_len ht
          have hpl : parseL (k + 1) acc t = (match (cutNl t).2.2, lineOf (cutNl t).1 with
            | true, some e => parseL k (acc ++ [e]) (cutNl t).2.1
            | _, _ => ([], acc.length + 1, 240)) := by rw [parseL, if_neg ht]
          have HPL := Lib.hid hpl; clear hpl
          have hte : t.isEmpty = false := by cases t with | nil => exact absurd rfl ht | cons _ _ => rfl
          obtain ⟨cu, hcu⟩ : ∃ cu, cu = cutNl t := ⟨_, rfl⟩
          rw [← hcu] at hcl
          have HCU := Lib.hid hcu
          clear ht hcu
          obtain ⟨lo, hlo⟩ : ∃ lo, lo = lineOf cu.1 := ⟨_, rfl⟩
          have HLO := Lib.hid hlo
          rw [← HCU.out, ← hlo] at HPL
          clear hlo
          obtain ⟨f1, r1, ok⟩ := cu
          simp only at hcl HPL HLO
          cases ok with
          | false =>
            have HF := Lib.hid (show parseOf s = ([], acc.length + 1, 240) by rw [HP.out, ← HPA.out, HPL.out])
            go_wp2_with (first
              | (go_at_call 38; refine (cut_any t mx _ hm' (by omega) (f1, r1, false) HCU.out).mono ?_; rintro e w2 ⟨rfl, hb2⟩; have HB2 := Lib.hid hb2; clear hb2)
              | (go_at_call 39; refine (line_l f1 _ (by omega) lo HLO.out).mono ?_; rintro e w3 ⟨k0, k1, k2, k3, k4, Z0, y0, u0, Z1, y1, u1, Z2, y2, u2, Z3, y3, u3, Z4, y4, u4, rfl, hb3, hrep⟩; have HB3 : Hid (Below wr.heap.size wr w3) := Lib.hid (HB2.out.trans (hb3.mono HB2.out.size)); have hs2 := HB2.out.size; have hs3 : w2.heap.size ≤ w3.heap.size := hb3.size; clear hb3 hrep)
              | fail)
            go_ret3
            unfold PaPost
            rw [HF.out]
            exact ⟨none, 0, 0, by simp [HO.out.len], (HB.out.trans (HB3.out.mono hsz)).alloc (by omega) _, Sl.nil_ _ _ _⟩
          | true =>
            cases lo with
            | none =>
              have HF := Lib.hid (show parseOf s = ([], acc.length + 1, 240) by rw [HP.out, ← HPA.out, HPL.out])
              go_wp2_with (first
                | (go_at_call 38; refine (cut_any t mx _ hm' (by omega) (f1, r1, true) HCU.out).mono ?_; rintro e w2 ⟨rfl, hb2⟩; have HB2 := Lib.hid hb2; clear hb2)
                | (go_at_call 39; refine (line_l f1 _ (by omega) none HLO.out).mono ?_; rintro e w3 ⟨k0, k1, k2, k3, k4, Z0, y0, u0, Z1, y1, u1, Z2, y2, u2, Z3, y3, u3, Z4, y4, u4, rfl, hb3, hrep⟩; have HB3 : Hid (Below wr.heap.size wr w3) := Lib.hid (HB2.out.trans (hb3.mono HB2.out.size)); have hs2 := HB2.out.size; have hs3 : w2.heap.size ≤ w3.heap.size := hb3.size; clear hb3 hrep)
                | fail)
              go_ret3
              unfold PaPost
              rw [HF.out]
              exact ⟨none, 0, 0, by simp [HO.out.len], (HB.out.trans (HB3.out.mono hsz)).alloc (by omega) _, Sl.nil_ _ _ _⟩
            | some x =>
              have HF := Lib.hid (show parseL k (acc ++ [x]) r1 = parseL (s.length + 1) [] s by rw [← HPA.out, HPL.out])
              go_wp2_with (first
            | (go_at_call 38; refine (cut_any t mx _ hm' (by omega) (f1, r1, true) HCU.out).mono ?_; rintro e w2 ⟨rfl, hb2⟩; have HB2 := Lib.hid hb2; clear hb2)
            | (go_at_call 39; refine (line_l f1 _ (by omega) (some x) HLO.out).mono ?_; rintro e w3 ⟨k0, k1, k2, k3, k4, Z0, y0, u0, Z1, y1, u1, Z2, y2, u2, Z3, y3, u3, Z4, y4, u4, rfl, hb3, hrep⟩; have HB3 : Hid (Below wr.heap.size wr w3) := Lib.hid (HB2.out.trans (hb3.mono HB2.out.size)); have HREP := Lib.hid hrep; have hs2 := HB2.out.size; have hs3 : w2.heap.size ≤ w3.heap.size := hb3.size; clear hb3 hrep)
                | (at_builtin; refine apl1 (T := tEE) elemEE (w3.alloc (.cells #[.int .i64 k0, .int .i64 k1, .int .i64 k2, .int .i64 k3, .slice Z0 y0 u0, .slice Z1 y1 u1, .int .i64 k4, .slice Z2 y2 u2, .slice Z3 y3 u3, .slice Z4 y4 u4] 29)) w rfl (.tmp 41) (.tmp 43) rfl w.heap.size A n c acc rfl G (fun b => w2.heap.size ≤ b) (HO.out.keepB (HB3.out.alloc (by omega) _)) ((HB.out.trans (HB3.out.mono hsz)).alloc (by omega) _) (Nat.le_refl _) _ (by rw [World.size_alloc]; rfl) (#[.int .i64 k0, .int .i64 k1, .int .i64 k2, .int .i64 k3, .slice Z0 y0 u0, .slice Z1 y1 u1, .int .i64 k4, .slice Z2 y2 u2, .slice Z3 y3 u3, .slice Z4 y4 u4] : Array Value).toList x (tEE.alloc HREP.out _) 29 rfl (fun b h1 _ _ h4 => by have := (HO.out.lies (b := b) (by simp [Value.ownBlock, h1])).2.2; omega) (by omega) ?_; intro A5 c5 w5 h5)
                | fail)
              go_roundw
              case rel =>
                refine ⟨r1, k, acc ++ [x], A5, n + 1, c5, _, rfl, rfl, by omega, by simp; omega, h5.own, fun b hb => ?_, h5.below, HF.out⟩
                rcases hb.1 with h | h
                · exact HGB.out b h
                · omega
              case measure =>
                have e1 : (⟨r1.toArray⟩ : ByteArray).size = r1.length := List.size_toArray ..
                have e2 : (⟨t.toArray⟩ : ByteArray).size = t.length := List.size_toArray ..
                simp [strLen]; omega
end Go.Proofs.YtojenpjafgfpaaaGreatDoor
