/- pilasterref24.numbers: the numbers in a text. (Printed by gen_nnum.py.) -/
import Derived.Test.YtollmolchcnpeaaGreatDoorNErr
import Derived.Test.YtollmolchcnpeaaGreatDoorRow1
import Derived.Deep.CutRange
namespace Go.Proofs.YtollmolchcnpeaaGreatDoor
open Go Go.RowKit

theorem run_ix (s : List UInt8) (j : Nat) (hj : j < s.length) (x : UInt8) (hx : x = s[j]) (w : World) : (Instr.index 9 (.string ⟨s.toArray⟩) (.int .i64 (j : Int))).run Tryz.prog w = .ok (.int .u8 (x.toNat : Int)) w := by
  rw [run_index_string w 9 ⟨s.toArray⟩ .i64 j (by kernel_rfl)]
  have h : 0 ≤ (j : Int) ∧ (j : Int) < ((⟨s.toArray⟩ : ByteArray).size : Nat) := ⟨by omega, by rw [show (⟨s.toArray⟩ : ByteArray).size = s.length from List.size_toArray ..]; omega⟩
  rw [dif_pos h]
  subst hx
  rfl
/-- A row of numbers of its own, empty. -/
theorem own_new0 (w : World) (B : Nat) (hB : B ≤ w.heap.size) : OwnF tI64 3 (fun _ => False) (w.alloc (.cells #[] 3)) B (some ⟨w.heap.size, 0, none⟩) 0 0 [] := by
  have := World.ownsRow_lit (base := B) (e := 3) (size := 1) w #[] 0 hB (by simp [maxLen]) (by simp)
  exact own_row1 oneI64 (by simpa using this) (by simp)
def NumB (l : List Int) : Prop := ∀ x ∈ l, 0 ≤ x ∧ x ≤ 2147483648
theorem numB_snoc {l : List Int} (h : NumB l) : NumB (l ++ [0]) := fun x hx => by
  rcases List.mem_append.1 hx with hx | hx
  · exact h x hx
  · rw [List.mem_singleton.1 hx]; decide
theorem numB_set {l : List Int} (h : NumB l) (q : Nat) (v : Int) (h0 : 0 ≤ v) (h1 : v ≤ 2147483648) : NumB (l.set q v) := fun x hx => by
  rcases List.mem_or_eq_of_mem_set hx with hx | rfl
  · exact h x hx
  · exact ⟨h0, h1⟩
theorem set_last (l : List Int) (q : Nat) (hq : l.length = q + 1) (v : Int) : l.set q v = l.dropLast ++ [v] := by
  have hl : l ≠ [] := by rintro rfl; simp at hq
  obtain ⟨m, x, rfl⟩ : ∃ m x, l = m ++ [x] := ⟨l.dropLast, l.getLast hl, (List.dropLast_concat_getLast hl).symm⟩
  obtain rfl : m.length = q := by simpa using hq
  simp
theorem last_at (l : List Int) (q : Nat) (hq : l.length = q + 1) : l.getLastD 0 = l[q]'(by omega) := by
  have hl : l ≠ [] := by rintro rfl; simp at hq
  obtain ⟨m, x, rfl⟩ : ∃ m x, l = m ++ [x] := ⟨l.dropLast, l.getLast hl, (List.dropLast_concat_getLast hl).symm⟩
  obtain rfl : m.length = q := by simpa using hq
  simp
theorem nstep_no {b : Bool} {l : List Int} {x : UInt8} (h : isNum x = false) : nstep (b, l) x = (false, l) := by unfold nstep; rw [if_neg (by rw [h]; decide)]
theorem nstep_num {b : Bool} {l l2 : List Int} {x : UInt8} (h : isNum x = true) (h2 : l2 = if b then l else l ++ [0]) {q : Nat} (hq : l2.length = q + 1) {v r : Int} (hv : l2[q]? = some v) (hr : r = min (10 * v + ((x.toNat : Int) - 48)) 2147483648) : nstep (b, l) x = (true, l2.set q r) := by
  unfold nstep
  rw [if_pos h]
  dsimp only
  rw [← h2, set_last l2 q hq, last_at l2 q hq, (List.getElem?_eq_some_iff.1 hv).2, ← hr]
theorem fold_take (s : List UInt8) (k : Nat) (hk : k < s.length) (x : UInt8) (hx : x = s[k]) (st : Bool × List Int) (h : (s.take k).foldl nstep (false, []) = st) : (s.take (k + 1)).foldl nstep (false, []) = nstep st x := by
  rw [List.take_succ_eq_append_getElem hk, List.foldl_append, h, ← hx]; rfl
def NumsPost (s : List UInt8) (w : World) (e : Ending) (w' : World) : Prop := ∃ A n c, e = .returned (.slice A n c) ∧ OwnF tI64 3 (fun _ => False) w' w.heap.size A n c (numsOf s) ∧ Below w.heap.size w w'

set_option maxRecDepth 100000 in
set_option maxHeartbeats 4000000 in
theorem rnums_any (s : List UInt8) (hs : s.length ≤ 9223372036854775807) (w : World) : Calls Tryz.prog 14 #[.string ⟨s.toArray⟩] w (NumsPost s w) := by
  go_enter Tryz.func14, Tryz.ntmps14
  go_wp2_with fail
  by_cases h60 : s.length ≤ 60
  · have HS := Lib.hid h60
    go_loopw [3, 4, 5] (fun ov bv kv wr => ∃ (k : Nat) (A : Option Addr) (n c : Nat) (b : Bool) (l : List Int), k ≤ s.length ∧ kv = .int .i64 (k : Int) ∧ bv = .bool b ∧ ov = .slice A n c ∧ (s.take k).foldl nstep (false, []) = (b, l) ∧ NumB l ∧ (b = true → l ≠ []) ∧ l.length ≤ k ∧ OwnF tI64 3 (fun _ => False) wr w.heap.size A n c l ∧ Below w.heap.size w wr)
      (fun _ _ kv _ => s.length - (intOf kv).toNat)
    case atStart => exact ⟨0, _, _, _, false, [], Nat.zero_le _, rfl, rfl, rfl, rfl, (fun x hx => by simp at hx), (fun h => by cases h), Nat.le_refl _, own_new0 w w.heap.size (Nat.le_refl _), (Below.refl _ _).alloc (Nat.le_refl _) _⟩
    case round =>
      obtain ⟨k, A, n, c, b, l, hk, rfl, rfl, rfl, hf, hnb, hbl, hlk, ho, hb⟩ := hrel
      have HF := Lib.hid hf; have HNB := Lib.hid hnb; have HBL := Lib.hid hbl; have HO := Lib.hid ho; have HB := Lib.hid hb; have HLK := Lib.hid hlk
      clear hf hnb hbl ho hb
      have c60 : decide ((s.length : Int) ≤ 60) = true := decide_eq_true (by omega)
      by_cases hlt : k < s.length
      · have clt : decide ((k : Int) < (s.length : Int)) = true := decide_eq_true (by omega)
        obtain ⟨x, hx⟩ : ∃ x, x = s[k] := ⟨_, rfl⟩
        have hix := run_ix s k hlt x hx
        have hstep := fold_take s k hlt x hx _ HF.out
        have HST := Lib.hid hstep
        clear hstep hx HF
        by_cases hnum : isNum x = true
        · have hx0 : 48 ≤ x.toNat ∧ x.toNat ≤ 57 := by unfold isNum at hnum; simpa using hnum
          have e1 : decide ((x.toNat : Int) < 48) = false := decide_eq_false (by omega)
          have e2 : decide ((57 : Int) < (x.toNat : Int)) = false := decide_eq_false (by omega)
          have HX := Lib.hid hx0
          have HNUM := Lib.hid hnum
          clear hx0 hnum
          go_upto_if 30 with fail
          go_cut [3, 4] from 30 to 33 (fun ov bv wx => ∃ (A2 : Option Addr) (n2 c2 : Nat) (l2 : List Int), ov = .slice A2 n2 c2 ∧ bv = .bool true ∧ l2 = (if b then l else l ++ [0]) ∧ l2 ≠ [] ∧ NumB l2 ∧ l2.length ≤ k + 1 ∧ OwnF tI64 3 (fun _ => False) wx w.heap.size A2 n2 c2 l2 ∧ Below w.heap.size w wx)
          case first =>
            have hn := HO.out.len
            have HN := Lib.hid hn
            have hn3 : n ≤ 60 := by omega
            clear hn
            cases b with
            | true =>
              go_wp2_with fail
              go_meet
              exact ⟨A, n, c, l, rfl, rfl, rfl, (by first | exact HBL.out rfl | exact HBL.out trivial), HNB.out, Nat.le_succ_of_le HLK.out, HO.out, HB.out⟩
            | false =>
              go_wp2_with (first
                | (at_builtin; (refine apl1 (T := tI64) elemInt wr w rfl (.tmp 31) (.tmp 32) rfl w.heap.size A n c l rfl (fun _ => False) (fun _ => False) HO.out HB.out (Nat.le_refl _) _ rfl [.int .i64 0] 0 ⟨rfl, by omega⟩ 3 rfl (fun _ _ _ _ h => h) (by omega) ?_); intro A5 c5 w5 h5)
                | fail)
              go_meet
              exact ⟨A5, _, c5, l ++ [0], rfl, rfl, rfl, by simp, numB_snoc HNB.out, by rw [List.length_append]; exact Nat.succ_le_succ HLK.out, h5.own.weaken (fun _ h _ => h.1.elim id id) (fun _ _ _ _ h => h), h5.below⟩
          case rest =>
            obtain ⟨A2, n2, c2, l2, rfl, rfl, hl2, hne, hnb2, hlk2, ho2, hb2⟩ := hcut
            rename World => wx
            obtain ⟨g, rfl⟩ := ho2.some1 oneI64 hne
            obtain ⟨q, hq⟩ : ∃ q, l2.length = q + 1 := ⟨l2.length - 1, by have := List.length_pos_iff.2 hne; omega⟩
            obtain rfl : n2 = q + 1 := ho2.len.trans hq
            obtain ⟨v, hv⟩ : ∃ v, l2[q]? = some v := ⟨_, List.getElem?_eq_getElem (by omega)⟩
            have hvb := hnb2 v (List.mem_of_getElem? hv)
            have y0 : wx.cell? ⟨g, q, none⟩ = some (.int .i64 v) := by rw [← (List.getElem?_eq_some_iff.1 hv).2]; exact ho2.cell1 oneI64 (by omega)
            have y1 : wx.frozen? ⟨g, q, none⟩ = false := ho2.free1 oneI64 q
            have HQ := Lib.hid hq; have HL2 := Lib.hid hl2; have HV := Lib.hid hv; have HVB := Lib.hid hvb; have HNB2 := Lib.hid hnb2; have HO2 := Lib.hid ho2; have HB2 := Lib.hid hb2; have HLK2 := Lib.hid hlk2
            clear hl2 hne hq hv hvb hnb2 ho2 hb2 hlk2 HO HB HBL
            refine ‹∀ (a : Act) (w_1 : World), Code.wp _ _ _ a w_1 → _› _ _ ?_
            have hq60 : q ≤ 60 := by have := HQ.out; have := HLK2.out; omega
            have w1 : wrap64 (q : Int) = (q : Int) := by unfold wrap64; omega
            obtain ⟨d, hd⟩ : ∃ d : Nat, x.toNat = d + 48 := ⟨x.toNat - 48, by have := HX.out; omega⟩
            have hd9 : d ≤ 9 := by have := HX.out; omega
            have hv0 := HVB.out.1
            have hv1 := HVB.out.2
            have f1 : IntKind.u8.wrap ((x.toNat : Int) - 48) = (d : Int) := by rw [IntKind.wrap_u8, hd]; omega
            have f2 : wrap64 (d : Int) = (d : Int) := by unfold wrap64; omega
            have f3 : wrap64 (10 * v) = 10 * v := by unfold wrap64; omega
            have f4 : wrap64 (10 * v + (d : Int)) = 10 * v + (d : Int) := by unfold wrap64; omega
            have f5 : IntKind.i64.wrap (d : Int) = (d : Int) := by rw [IntKind.wrap_i64]; omega
            have f6 : IntKind.i64.wrap (10 * v) = 10 * v := by rw [IntKind.wrap_i64]; omega
            have f7 : IntKind.i64.wrap (10 * v + (d : Int)) = 10 * v + (d : Int) := by rw [IntKind.wrap_i64]; omega
            obtain ⟨r, hr⟩ : ∃ r, min (10 * v + (d : Int)) 2147483648 = r := ⟨_, rfl⟩
            have HR := Lib.hid (show 0 ≤ r ∧ r ≤ 2147483648 by omega)
            have HRE := Lib.hid (show r = min (10 * v + ((x.toNat : Int) - 48)) 2147483648 by rw [← hr, hd]; congr 1; omega)
            have j1 : (0 : Int) ≤ (q : Int) := by omega
            have j2 : (q : Int) < ((q + 1 : Nat) : Int) := by omega
            have j3 : (q : Int) < (q : Int) + 1 := by omega
            clear hd hd9 hv0 hv1 hq60
            go_upto_region 12 with fail
            go_region
            go_wp2_with fail
            go_roundw
            case rel => exact ⟨k + 1, some ⟨g, 0, none⟩, q + 1, c2, true, l2.set q r, by omega, by go_num, rfl, rfl, by rw [HST.out]; exact nstep_num HNUM.out HL2.out HQ.out HV.out HRE.out, numB_set HNB2.out q r HR.out.1 HR.out.2, (fun _ h => by have := congrArg List.length h; rw [List.length_set, HQ.out] at this; simp at this), by rw [List.length_set]; exact HLK2.out, (HO2.out.drew).set1 oneI64 q r (by have := HR.out; omega), bsetc HB2.out.drew (HO2.out.base1 oneI64).1 _⟩
            case measure => simp [intOf]; omega
        · have hnum' : isNum x = false := by simpa using hnum
          have HNX := Lib.hid (nstep_no (b := b) (l := l) hnum')
          by_cases h1 : x.toNat < 48
          · have e1 : decide ((x.toNat : Int) < 48) = true := decide_eq_true (by omega)
            clear hnum h1 hnum'
            go_wp2_with fail
            go_roundw
            case rel => exact ⟨k + 1, A, n, c, false, l, by omega, by go_num, rfl, rfl, by rw [HST.out, HNX.out], HNB.out, (fun h => by cases h), Nat.le_succ_of_le HLK.out, HO.out, HB.out⟩
            case measure => simp [intOf]; omega
          · have e1 : decide ((x.toNat : Int) < 48) = false := decide_eq_false (by omega)
            have e2 : decide ((57 : Int) < (x.toNat : Int)) = true := decide_eq_true (by unfold isNum at hnum'; simp at hnum'; omega)
            clear hnum h1 hnum'
            go_wp2_with fail
            go_roundw
            case rel => exact ⟨k + 1, A, n, c, false, l, by omega, by go_num, rfl, rfl, by rw [HST.out, HNX.out], HNB.out, (fun h => by cases h), Nat.le_succ_of_le HLK.out, HO.out, HB.out⟩
            case measure => simp [intOf]; omega
      · obtain rfl : k = s.length := by omega
        have clt : decide ((s.length : Int) < (s.length : Int)) = false := decide_eq_false (by omega)
        go_wp2_with fail
        go_ret
        exact ⟨A, n, c, rfl, by rw [show numsOf s = l by unfold numsOf; rw [if_pos HS.out]; have := HF.out; rw [List.take_length] at this; rw [this]]; exact HO.out, HB.out⟩
  · have c60 : decide ((s.length : Int) ≤ 60) = false := decide_eq_false (by omega)
    have clt : decide ((0 : Int) < (s.length : Int)) = true := decide_eq_true (by omega)
    go_loopw [3, 4, 5] (fun ov bv kv wr => ov = .slice (some ⟨w.heap.size, 0, none⟩) 0 0 ∧ bv = .bool false ∧ kv = .int .i64 0 ∧ wr = w.alloc (.cells #[] 3))
      (fun _ _ _ _ => 0)
    case atStart => exact ⟨rfl, rfl, rfl, rfl⟩
    case round =>
      obtain ⟨rfl, rfl, rfl, rfl⟩ := hrel
      go_wp2_with fail
      go_ret
      exact ⟨_, _, _, rfl, by rw [show numsOf s = [] by unfold numsOf; rw [if_neg h60]]; exact own_new0 w w.heap.size (Nat.le_refl _), (Below.refl _ _).alloc (Nat.le_refl _) _⟩
end Go.Proofs.YtollmolchcnpeaaGreatDoor
