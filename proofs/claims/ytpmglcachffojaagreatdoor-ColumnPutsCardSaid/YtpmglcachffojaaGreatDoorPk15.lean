/- byterle.runs: the rows of bytes that are the same, as a function over which one ranges. Bytes that lie in the midst of a row of the call's own, with room behind them: appended to. byterle.Put$1: the bytes that wait are laid down. What the loop of byterle.Put keeps; appends inside a fence. -/
import Derived.Test.YtpmglcachffojaaGreatDoorPk14
import Derived.Test.YtpmglcachffojaaGreatDoorPk5
import Derived.Test.YtpmglcachffojaaGreatDoorPk2
import Derived.Sort.BigQuietIn
import Derived.Sort.CutIn
import Derived.ArgAppend
namespace Go.Proofs.YtpmglcachffojaaGreatDoor
open Go Go.RowKit Go.Shelf BigFrame
attribute [local go_sem] Oper.semAt_some

def rnEnc (x : Rn) : Array Value := #[.int .u8 (x.c.toNat : Int), .int .i64 (x.n : Int)]
/-- What a round keeps: the box of what is left; what lay there at first. -/
def KpB (b0 bb : Nat) (W W' : World) : Prop := W'.heap[bb]? = W.heap[bb]? ∧ (∀ b, b < b0 → W'.heap[b]? = W.heap[b]?) ∧ W.heap.size ≤ W'.heap.size
theorem KpB.trans {b0 bb : Nat} {A B C : World} (h : KpB b0 bb A B) (k : KpB b0 bb B C) : KpB b0 bb A C := ⟨k.1.trans h.1, fun b hb => (k.2.1 b hb).trans (h.2.1 b hb), Nat.le_trans h.2.2 k.2.2⟩
theorem KpB.put {b0 bb : Nat} {w : World} (h0 : b0 ≤ w.heap.size) (h1 : bb < w.heap.size) (W : World) (l : Nat) (o : Obj) (hl : w.heap.size ≤ l) : KpB b0 bb W (W.putObj l o) :=
  ⟨World.putObj_heap_other (by omega), fun b hb => World.putObj_heap_other (by omega), by simp⟩
theorem bs_keepB {b0 bb : Nat} {W W' : World} {A : Option Addr} {n c : Nat} {l : List UInt8} (h : Bs (fun b => b < b0) W A n c l) (k : KpB b0 bb W W') : Bs (fun b => b < b0) W' A n c l := h.keep k.2.2 fun b hb _ => k.2.1 b hb
theorem drewNN (w : World) (a b : Nat) : (w.drewN a).drewN b = w.drewN (a + b) := by unfold World.drewN; simp [Nat.add_assoc]
theorem headD_get (l : List UInt8) (h : 0 < l.length) : l.headD 0 = l[0] := by
  cases l with
  | nil => simp at h
  | cons a r => rfl
set_option maxRecDepth 100000 in
set_option maxHeartbeats 4000000 in
theorem runs1_in (n : Nat) (hn : 1 ≤ n) (l b0 bb : Nat) (hbb : b0 ≤ bb) (A : Option Addr) (m c : Nat) (bs : List UInt8) (J : List Rn → World → Prop) (hJd : ∀ pre W1 k, J pre W1 → J pre (W1.drewN k)) (hJs : ∀ pre W1 v, J pre W1 → J pre (W1.setCell ⟨bb, 0, none⟩ v))
    (hY : ∀ pre x W1, J pre W1 → pre.length < bs.length → YieldAt Fence.wide (n - 1) Tryz.prog l (rnEnc x) W1 fun e W' => e = .returned (.bool true) ∧ J (pre ++ [x]) W' ∧ KpB b0 bb W1 W')
    (W : World) (hA : W.heap[bb]? = some (.cells #[.slice A m c] 41 (0, 0))) (hs : Bs (fun b => b < b0) W A m c bs) (h0 : J [] W) :
    CallsIn Fence.wide n Tryz.prog 241 #[.func (.yield l) #[] #[], .pointer (some ⟨bb, 0, none⟩)] W fun e W' => (∃ v, e = .returned v) ∧ ∃ xs, xs = rnL bs ∧ J xs W' := by
  have HRL := Lib.hid (rnL_len bs)
  have HA := Lib.hid hA; have HS := Lib.hid hs
  clear hA hs
  refine callsIn_of_wp Tryz.func241 rfl trivial ?_ rfl
  simp only [Tryz.ntmps241, List.size_toArray, List.length_cons, List.length_nil, Nat.reduceAdd, Nat.reduceSub, Array.replicate_succ, Array.replicate_zero, List.push_toArray, List.append_toArray, List.nil_append, List.cons_append]
  gi_wp2
  gi_loopw [3] (fun _ wr => ∃ (pre : List Rn) (rest : List UInt8) (A2 : Option Addr) (m2 c2 : Nat), pre ++ rnL rest = rnL bs ∧ m2 ≤ m ∧ wr.heap[bb]? = some (.cells #[.slice A2 m2 c2] 41 (0, 0)) ∧ Bs (fun b => b < b0) wr A2 m2 c2 rest ∧ J pre wr)
    (fun _ wr => lenV ((wr.cell? ⟨bb, 0, none⟩).getD undef))
  case atStart => exact ⟨[], bs, A, m, c, rfl, Nat.le_refl _, HA.out, HS.out, h0⟩
  case round =>
    obtain ⟨pre, rest, A2, m2, c2, hpr, hm2, hbox, hbs, hJp⟩ := hrel
    have HPR := Lib.hid hpr; have HBOX := Lib.hid hbox; have HBS := Lib.hid hbs; have HJP := Lib.hid hJp
    have q0 : wr.cell? ⟨bb, 0, none⟩ = some (.slice A2 m2 c2) := by rw [Lib.cell_of_heap hbox]; rfl
    have HQ0 := Lib.hid q0
    have hlen := hbs.len
    clear hpr hbox hbs hJp
    by_cases hz : m2 = 0
    · obtain rfl : rest = [] := List.length_eq_zero_iff.1 (by omega)
      subst hz
      clear hlen
      gi_wp2
      go_end0
      exact ⟨⟨_, rfl⟩, _, by rw [← HPR.out, rnL_nil, List.append_nil], HJP.out⟩
    · have hne : rest ≠ [] := fun e => by rw [e] at hlen; simp at hlen; omega
      have hmp : (0 : Int) < (m2 : Int) := by omega
      have hmn : 0 < m2 := by omega
      have hmd : decide (0 < m2) = true := decide_eq_true hmn
      have HNE := Lib.hid hne
      have HLEN := Lib.hid hlen
      have hc2 := HBS.out.2.1
      have hc3 := HBS.out.2.2.1
      unfold maxLen at hc3
      clear hlen hne
      obtain ⟨ch, hch⟩ : ∃ ch, ch = rest.headD 0 := ⟨_, rfl⟩
      obtain ⟨b, o, hA2, hbb0, hbl, _⟩ := bs_at HBS.out (k := 0) (by have := HLEN.out; omega)
      subst hA2
      have HCELL : Hid (∀ W' : World, (∀ b, b < b0 → W'.heap[b]? = wr.heap[b]?) → ∀ j (hj : j < rest.length), W'.cell? ⟨b, o + j, none⟩ = some (.int .u8 ((rest[j].toNat : Nat) : Int))) := Lib.hid (fun (W' : World) (hW' : ∀ b, b < b0 → W'.heap[b]? = wr.heap[b]?) (j : Nat) (hj : j < rest.length) => by
        obtain ⟨b', o', he, _, _, hc⟩ := bs_at HBS.out hj
        injection he with he; injection he with e1 e2 _
        subst e1 e2
        exact (World.cell?_of_block (a := ⟨b, o + j, none⟩) (hW' b hbb0)).trans hc)
      have hch0 : rest[0]'(by have := HLEN.out; omega) = ch := by rw [hch]; exact (headD_get _ _).symm
      have HCH0 := Lib.hid hch0
      have HCH := Lib.hid hch
      clear hch hch0
      gi_wp2
      obtain ⟨wo, rfl⟩ : ∃ wo, wo = wr := ⟨wr, rfl⟩
      gi_loopw [3] (fun nv wq => ∃ (j k : Nat), 1 ≤ j ∧ j ≤ m2 ∧ j ≤ 130 ∧ nv = .int .i64 (j : Int) ∧ wq = wo.drewN k ∧ ∀ i, i < j → rest[i]? = some ch)
        (fun nv _ => m2 - (intOf nv).toNat)
      case atStart => exact ⟨1, 0, Nat.le_refl _, by omega, by omega, rfl, rfl, fun i hi => by rw [show i = 0 by omega, List.getElem?_eq_getElem (by have := HLEN.out; omega), HCH0.out]⟩
      case round =>
        obtain ⟨j, k, hj1, hjm, hj130, rfl, hwq, hall⟩ := hrel
        have HALL := Lib.hid hall
        clear hall
        subst hwq
        have hq : wo.cell? ⟨bb, 0, none⟩ = some (.slice (some ⟨b, o, none⟩) m2 c2) := HQ0.out
        have k0 : wo.cell? ⟨b, o, none⟩ = some (.int .u8 ((ch.toNat : Nat) : Int)) := by
          have := HCELL.out wo (fun _ _ => rfl) 0 (by have := HLEN.out; omega)
          rw [HCH0.out, Nat.add_zero] at this
          exact this
        have i0 : (0 : Int) ≤ (j : Int) := by omega
        obtain ⟨bq, hbq⟩ : ∃ bq : Bool, bq = (decide (j < m2) && decide (j < 130) && (rest.getD j 0 == ch)) := ⟨_, rfl⟩
        have HBQ := Lib.hid hbq
        clear hbq
        gi_upto_region 2 with fail
        gi_cut [24, 27, 28, 29, 30, 31, 32, 33, 34, 35, 36] from 7 (fun v v27 v28 v29 v30 v31 v32 v33 v34 v35 v36 wx => v = .bool bq ∧ (v27 = u27 ∧ v28 = u28 ∧ v29 = u29 ∧ v30 = u30 ∧ v31 = u31 ∧ v32 = u32 ∧ v33 = u33 ∧ v34 = u34 ∧ v35 = u35 ∧ v36 = u36) ∧ ∃ k', wx = wo.drewN k')
        case first =>
          by_cases h1 : j < m2
          · have z1 : (j : Int) < (m2 : Int) := by omega
            have d1 : decide ((j : Int) < (m2 : Int)) = true := decide_eq_true z1
            by_cases h2 : j < 130
            · have z2 : (j : Int) < 130 := by omega
              have d2 : decide ((j : Int) < 130) = true := decide_eq_true z2
              have hjl : j < rest.length := by rw [← HLEN.out]; exact h1
              obtain ⟨x, hx⟩ : ∃ x, x = rest[j] := ⟨_, rfl⟩
              have kj := HCELL.out wo (fun _ _ => rfl) j hjl
              rw [← hx] at kj
              have HBQ2 := Lib.hid (show bq = (x == ch) by rw [HBQ.out, decide_eq_true h1, decide_eq_true h2, List.getD_eq_getElem?_getD, List.getElem?_eq_getElem hjl, hx]; rfl)
              by_cases hxc : x = ch
              · have z3 : (((x.toNat : Nat) : Int) == ((ch.toNat : Nat) : Int)) = true := beq_yes (by rw [hxc])
                have HB3 := Lib.hid (show bq = true by rw [HBQ2.out, hxc]; exact beq_self_eq_true ch)
                clear hx hxc h1 h2
                gi_big_quiet_th (fail)
                gi_wp2
                gi_meet
                case rel => exact ⟨by rw [HB3.out], ⟨rfl, rfl, rfl, rfl, rfl, rfl, rfl, rfl, rfl, rfl⟩, k + nq, by first | rfl | exact drewNN _ _ _⟩
              · have z3 : (((x.toNat : Nat) : Int) == ((ch.toNat : Nat) : Int)) = false := beq_no (fun e => hxc (UInt8.toNat_inj.1 (by omega)))
                have HB3 := Lib.hid (show bq = false by rw [HBQ2.out]; simpa using hxc)
                clear hx hxc h1 h2
                gi_big_quiet_th (fail)
                gi_wp2
                gi_meet
                case rel => exact ⟨by rw [HB3.out], ⟨rfl, rfl, rfl, rfl, rfl, rfl, rfl, rfl, rfl, rfl⟩, k + nq, by first | rfl | exact drewNN _ _ _⟩
            · have z2 : ¬ (j : Int) < 130 := by omega
              have d2 : decide ((j : Int) < 130) = false := decide_eq_false z2
              have HB3 := Lib.hid (show bq = false by rw [HBQ.out, decide_eq_false h2, Bool.and_false, Bool.false_and])
              clear h1 h2
              gi_big_quiet_th (fail)
              gi_wp2
              gi_meet
              case rel => exact ⟨by rw [HB3.out], ⟨rfl, rfl, rfl, rfl, rfl, rfl, rfl, rfl, rfl, rfl⟩, k + nq, by first | rfl | exact drewNN _ _ _⟩
          · have z1 : ¬ (j : Int) < (m2 : Int) := by omega
            have d1 : decide ((j : Int) < (m2 : Int)) = false := decide_eq_false z1
            have HB3 := Lib.hid (show bq = false by rw [HBQ.out, decide_eq_false h1, Bool.false_and, Bool.false_and])
            clear h1
            gi_big_quiet_th (fail)
            gi_wp2
            gi_meet
            case rel => exact ⟨by rw [HB3.out], ⟨rfl, rfl, rfl, rfl, rfl, rfl, rfl, rfl, rfl, rfl⟩, k + nq, by first | rfl | exact drewNN _ _ _⟩
        case rest =>
          obtain ⟨rfl, ⟨rfl, rfl, rfl, rfl, rfl, rfl, rfl, rfl, rfl, rfl⟩, k', hwc⟩ := hcut
          subst hwc
          cases bq with
          | true =>
            have hb := HBQ.out.symm
            simp only [Bool.and_eq_true, decide_eq_true_eq, beq_iff_eq] at hb
            obtain ⟨⟨h1, h2⟩, h3⟩ := hb
            have hjl : j < rest.length := by rw [← HLEN.out]; exact h1
            have HALL2 := Lib.hid (show ∀ i, i < j + 1 → rest[i]? = some ch from fun i hi => by
              by_cases h : i < j
              · exact HALL.out i h
              · obtain rfl : i = j := by omega
                rw [List.getD_eq_getElem?_getD, List.getElem?_eq_getElem hjl] at h3
                rw [List.getElem?_eq_getElem hjl, ← h3]; rfl)
            clear h3
            gi_wp2
            go_roundw
            case rel => exact ⟨j + 1, k', by omega, by omega, by omega, by go_num, rfl, HALL2.out⟩
            case measure => simp [intOf]; omega
          | false =>
            have HSTOP := Lib.hid (show bsame rest = j from bsame_stop hj1 (by rw [← HLEN.out]; exact hjm) hj130 (fun i hi => by rw [HALL.out i hi, HCH.out]) (by
              rcases Nat.lt_or_ge j rest.length with h | h
              · rcases Nat.lt_or_ge j 130 with h' | h'
                · right; right
                  refine ⟨h, fun e => ?_⟩
                  have := HBQ.out
                  rw [decide_eq_true (by rw [HLEN.out]; exact h), decide_eq_true h', List.getD_eq_getElem?_getD, List.getElem?_eq_getElem h] at this
                  simp only [Bool.and_self, Bool.true_and, Option.getD_some] at this
                  rw [e, ← HCH.out, beq_self_eq_true] at this
                  cases this
                · left; omega
              · right; left; have := HLEN.out; omega))
            obtain ⟨x, hx⟩ : ∃ x : Rn, x = ⟨ch, j, hj1, hj130⟩ := ⟨_, rfl⟩
            have hpl : pre.length < bs.length := by
              have h1 := congrArg List.length HPR.out
              have h2 := HRL.out
              rw [rnL_cons HNE.out, List.length_append, List.length_cons] at h1
              omega
            obtain ⟨fn, tmps, assign, body, hy, hR⟩ := hY pre x (wo.drewN k') (hJd _ _ _ HJP.out) hpl
            have hxe : rnEnc x = #[.int .u8 ((ch.toNat : Nat) : Int), .int .i64 (j : Int)] := by rw [hx]; rfl
            rw [hxe] at hy
            have HXR := Lib.hid (show pre ++ [x] ++ rnL (rest.drop j) = rnL bs by
              rw [← HPR.out, rnL_cons HNE.out, List.append_assoc, List.singleton_append, HSTOP.out]
              congr 2
              rw [hx]
              unfold rnOf
              simp only [Rn.mk.injEq]
              exact ⟨HCH.out, HSTOP.out.symm⟩)
            clear hx hxe hpl
            gi_wp2
            refine hR.mono ?_
            rintro e W3 ⟨rfl, hJ3, hk3⟩
            have hbox3 : W3.heap[bb]? = some (.cells #[.slice (some ⟨b, o, none⟩) m2 c2] 41 (0, 0)) := hk3.1.trans HBOX.out
            have hbs3 : Bs (fun b => b < b0) W3 (some ⟨b, o, none⟩) m2 c2 rest := bs_keepB (HBS.out.drewN k') hk3
            have q3 : W3.cell? ⟨bb, 0, none⟩ = some (.slice (some ⟨b, o, none⟩) m2 c2) := by rw [Lib.cell_of_heap hbox3]; rfl
            have f3 := Lib.frozen_of_heap hbox3 0
            have HJ3 := Lib.hid hJ3; have HBOX3 := Lib.hid hbox3
            have hc := hbs3.cut (lo := j) (hi := m2) hjm (Nat.le_refl _)
            rw [List.take_of_length_le (by rw [← HLEN.out]; exact Nat.le_refl _)] at hc
            have hc2' : Bs (fun b => b < b0) W3 (if c2 = j then some ⟨b, o, none⟩ else some ⟨b, o + j, none⟩) (m2 - j) (c2 - j) (rest.drop j) := by
              simpa [Addr.add, show tU8.size = 1 from rfl, show ¬ j = 0 by omega] using hc
            have HC2 := Lib.hid hc2'
            have i1 : (j : Int) ≤ (m2 : Int) := by omega
            have i2 : (j : Int) ≤ (c2 : Int) := by omega
            have i3 : (m2 : Int) ≤ (c2 : Int) := by omega
            clear hJ3 hbox3 hbs3 hc hc2' hk3
            by_cases hcj : c2 = j
            · rw [if_pos hcj, show c2 - j = 0 by omega] at HC2
              gi_wp2
              go_roundw
              case rel =>
                exact ⟨pre ++ [x], rest.drop j, (some ⟨b, o, none⟩), m2 - j, 0, HXR.out, by omega, heap_set HBOX3.out rfl, Sl.setCell HC2.out (p := ⟨bb, 0, none⟩) (fun h => Nat.lt_irrefl _ (Nat.lt_of_lt_of_le h hbb)) _, hJs _ _ _ HJ3.out⟩
              case measure =>
                have e1 : (W3.setCell ⟨bb, 0, none⟩ (.slice (some ⟨b, o, none⟩) (m2 - j) 0)).cell? ⟨bb, 0, none⟩ = some (.slice (some ⟨b, o, none⟩) (m2 - j) 0) := by rw [Lib.cell_of_heap (heap_set HBOX3.out rfl)]; rfl
                simp only [e1, HQ0.out, Option.getD_some, lenV]
                omega
            · rw [if_neg hcj] at HC2
              gi_wp2
              go_roundw
              case rel =>
                exact ⟨pre ++ [x], rest.drop j, (some ⟨b, o + j, none⟩), m2 - j, (c2 - j), HXR.out, by omega, heap_set HBOX3.out rfl, Sl.setCell HC2.out (p := ⟨bb, 0, none⟩) (fun h => Nat.lt_irrefl _ (Nat.lt_of_lt_of_le h hbb)) _, hJs _ _ _ HJ3.out⟩
              case measure =>
                have e1 : (W3.setCell ⟨bb, 0, none⟩ (.slice (some ⟨b, o + j, none⟩) (m2 - j) (c2 - j))).cell? ⟨bb, 0, none⟩ = some (.slice (some ⟨b, o + j, none⟩) (m2 - j) (c2 - j)) := by rw [Lib.cell_of_heap (heap_set HBOX3.out rfl)]; rfl
                simp only [e1, HQ0.out, Option.getD_some, lenV]
                omega
theorem runs_in (n : Nat) (A : Option Addr) (m c : Nat) (w : World) :
    CallsIn Fence.wide n Tryz.prog 202 #[.slice A m c] w fun e w' => e = .returned (.func (.func 241) #[] #[.pointer (some ⟨w.heap.size, 0, none⟩)]) ∧ w' = w.alloc (.cells #[.slice A m c] 41) := by
  refine callsIn_of_wp Tryz.func202 rfl trivial ?_ rfl
  simp only [Tryz.ntmps202, List.size_toArray, List.length_cons, List.length_nil, Nat.reduceAdd, Nat.reduceSub, Array.replicate_succ, Array.replicate_zero, List.push_toArray, List.append_toArray, List.nil_append, List.cons_append]
  gi_wp2
  go_ret
  exact ⟨rfl, rfl⟩
theorem runs_st (n : Nat) (hn : 1 ≤ n) (b0 bb : Nat) (hbb : b0 ≤ bb) (A : Option Addr) (m c : Nat) (bs : List UInt8) (w : World) (hA : w.heap[bb]? = some (.cells #[.slice A m c] 41 (0, 0))) (hs : Bs (fun b => b < b0) w A m c bs) :
    SeqSt Fence.wide n Tryz.prog 241 #[.pointer (some ⟨bb, 0, none⟩)] rnEnc bb (KpB b0 bb) (fun xs => xs = rnL bs) bs.length w := fun l J W hW hJd hJs hY h0 =>
  runs1_in n hn l b0 bb hbb A m c bs J hJd hJs hY W ((hW.block bb (blk_lt hA)).trans hA) (hs.below hW (Nat.le_refl _)) h0
end Go.Proofs.YtpmglcachffojaaGreatDoor
namespace Go.Proofs.YtpmglcachffojaaGreatDoor
open Go Go.RowKit

/-- The bytes l, somewhere in a row of the call's own; behind them room up to c. -/
structure MidB (w : World) (B : Nat) (A : Option Addr) (n c : Nat) (l : List UInt8) : Prop where
  len : n = l.length
  cap : n ≤ c
  max : c ≤ maxLen
  row : c = 0 ∨ ∃ g o cur, A = some ⟨g, o, none⟩ ∧ B ≤ g ∧ w.heap[g]? = some (.cells cur 5 (0, 0)) ∧ o + c ≤ cur.size ∧ ∀ j (h : j < l.length), cur[o + j]? = some (.int .u8 ((l[j].toNat : Nat) : Int))
/-- The block that an append may write. -/
def blkM (A : Option Addr) (c : Nat) : Option Nat := if c = 0 then none else A.map (·.block)
theorem MidB.nil_ (w : World) (B : Nat) : MidB w B none 0 0 [] := ⟨rfl, Nat.le_refl _, by simp [maxLen], .inl rfl⟩
theorem MidB.blk {w : World} {B : Nat} {A : Option Addr} {n c : Nat} {l : List UInt8} (h : MidB w B A n c l) {g : Nat} (hg : blkM A c = some g) : B ≤ g ∧ g < w.heap.size ∧ ∃ cur, w.heap[g]? = some (.cells cur 5 (0, 0)) := by
  unfold blkM at hg
  split at hg
  · cases hg
  · rename_i hc
    rcases h.row with h0 | ⟨g', o, cur, rfl, h2, h3, _⟩
    · exact absurd h0 hc
    · injection hg with hg
      subst hg
      exact ⟨h2, blk_lt h3, cur, h3⟩
theorem MidB.keep {w w' : World} {B : Nat} {A : Option Addr} {n c : Nat} {l : List UInt8} (h : MidB w B A n c l) (hk : ∀ g, blkM A c = some g → w'.heap[g]? = w.heap[g]?) : MidB w' B A n c l := by
  refine ⟨h.len, h.cap, h.max, ?_⟩
  rcases h.row with h0 | ⟨g, o, cur, rfl, h2, h3, h4, h5⟩
  · exact .inl h0
  · by_cases hc : c = 0
    · exact .inl hc
    · exact .inr ⟨g, o, cur, rfl, h2, (hk g (by unfold blkM; rw [if_neg hc]; rfl)).trans h3, h4, h5⟩
theorem MidB.bs {w : World} {B : Nat} {A : Option Addr} {n c : Nat} {l : List UInt8} (h : MidB w B A n c l) : Bs (fun b => blkM A c = some b) w A n c l := by
  refine bs_mk (fun hne => ?_) h.len h.cap h.max
  rcases h.row with h0 | ⟨g, o, cur, rfl, h2, h3, h4, h5⟩
  · have := h.len
    have h1 := h.cap
    exact absurd (List.length_eq_zero_iff.1 (by rw [bvs_length]; omega)) hne
  · have hc : c ≠ 0 := fun h0 => by
      have := h.len
      have h1 := h.cap
      exact absurd (List.length_eq_zero_iff.1 (by rw [bvs_length]; omega)) hne
    refine ⟨g, o, rfl, by unfold blkM; rw [if_neg hc]; rfl, blk_lt h3, fun j u hu => ?_⟩
    have hj : j < l.length := by
      rcases Nat.lt_or_ge j l.length with h | h
      · exact h
      · rw [List.getElem?_eq_none (by rw [bvs_length]; exact h)] at hu; cases hu
    rw [bvs_get l j hj] at hu
    rw [Lib.cell_of_heap h3, h5 j hj, hu]
theorem MidB.of_own {w : World} {B : Nat} {A : Option Addr} {n c : Nat} {l : List UInt8} (h : OwnB w B A n c l) : MidB w B A n c l := by
  refine ⟨h.len, (own_cap h).1, (own_cap h).2, ?_⟩
  rcases h.2 with ⟨h1, _⟩ | ⟨g, cap, cur, h1, hb, hg, hn, hcm, hsz, ht⟩
  · injection h1 with _ _ h3
    exact .inl h3
  · injection h1 with e1 _ e3
    subst e1 e3
    refine .inr ⟨g, 0, cur, rfl, hb, hg, by omega, fun j hj => ?_⟩
    have h4 := h.cells (g := g) rfl j _ (bvs_get l j hj)
    rw [add_lit, Lib.cell_of_heap hg] at h4
    exact h4
theorem heap_scs_ne {g b : Nat} (hne : b ≠ g) : ∀ (vs : List Value) (q : Nat) (w : World), (w.setCells g q vs).heap[b]? = w.heap[b]?
  | [], _, _ => rfl
  | v :: r, q, w => (heap_scs_ne hne r (q + 1) _).trans (Below.heap_setCell w ⟨g, q, none⟩ v b hne)
theorem heap_scs {g : Nat} {t : TypeId} {fr : Nat × Nat} : ∀ (vs : List Value) (q : Nat) (w : World) (cur : Array Value), w.heap[g]? = some (.cells cur t fr) → ∃ cur', (w.setCells g q vs).heap[g]? = some (.cells cur' t fr) ∧ cur'.size = cur.size ∧
    (∀ j, j < q ∨ q + vs.length ≤ j → cur'[j]? = cur[j]?) ∧ ∀ j (h : j < vs.length), q + j < cur.size → cur'[q + j]? = some vs[j]
  | [], q, w, cur, h => ⟨cur, h, rfl, fun _ _ => rfl, fun j hj => by simp at hj⟩
  | v :: r, q, w, cur, h => by
    obtain ⟨cur', h1, h2, h3, h4⟩ := heap_scs r (q + 1) (w.setCell ⟨g, q, none⟩ v) (cur.setIfInBounds q v) (heap_set h rfl)
    refine ⟨cur', h1, by rw [h2, Array.size_setIfInBounds], fun j hj => ?_, fun j hj hjs => ?_⟩
    · rw [List.length_cons] at hj
      rw [h3 j (by omega), Array.getElem?_setIfInBounds_ne (by omega)]
    · cases j with
      | zero =>
        rw [h3 (q + 0) (by omega), Nat.add_zero, Array.getElem?_setIfInBounds_self_of_lt (by simpa using hjs)]
        rfl
      | succ i =>
        have := h4 i (by simpa using hj) (by rw [Array.size_setIfInBounds]; omega)
        rw [show q + (i + 1) = q + 1 + i by omega, this]
        rfl
theorem grown_scs (w : World) (g q : Nat) (vs : List Value) : w.grownBy (w.setCells g q vs) (some g) := by
  have hb := below_scs (B := 0) (g := g) (a := w) (Nat.zero_le _) vs q (Below.refl 0 w)
  exact ⟨hb.os, hb.tape, hb.output, hb.size, fun k _ hk => heap_scs_ne (fun e => hk (by rw [e])) vs q w⟩
theorem grown_weak {w w' : World} (h : w.grownBy w' none) (row : Option Nat) : w.grownBy w' row := ⟨h.os, h.tape, h.output, h.size, fun k hk _ => h.block k hk (by simp)⟩
theorem bytes_fit {k : Nat} (h : k ≤ 68719476736) : k ≤ maxLen ∧ k * 1 ≤ 140737488355328 := by unfold maxLen; omega
/-- append(l, ys...) where l lies in the midst of a row. -/
theorem mid_append (w : World) (B : Nat) (A : Option Addr) (n c : Nat) (l : List UInt8) (h : MidB w B A n c l) (hB : B ≤ w.heap.size) (ty : TypeId) (F : Nat → Prop) (ad : Addr) (m c2 : Nat) (ys : List UInt8) (hs : Bs F w (some ad) m c2 ys) (hm : 1 ≤ m) (hlim : n + m ≤ 68719476736) :
    ∃ A' c' w', (Builtin.append_ #[41, 41] ty #[.slice A n c, .slice (some ad) m c2]).run Tryz.prog w = .ok (.slice A' (n + m) c') w' ∧ MidB w' B A' (n + m) c' (l ++ ys) ∧ w.grownBy w' (blkM A c) ∧ (blkM A' c' = blkM A c ∨ ∀ g, blkM A' c' = some g → w.heap.size ≤ g) := by
  obtain ⟨i, hi, h0, h1, h2⟩ := info_parts infoByte
  have hne : ys ≠ [] := fun e => by have := hs.len; rw [e] at this; simp at this; omega
  have hnews : ∀ j u, (bvs ys)[j]? = some u → w.cell? (ad.add j) = some u := (bs_rd hs).news rfl
  have hl : (bvs ys).length = m * 1 := by rw [bvs_length, Nat.mul_one]; exact hs.len.symm
  have hfit := bytes_fit hlim
  -- a row of its own
  have grow : ∀ v' w', w'.ownsRow w.heap.size 5 1 v' (n + m) (bvs l ++ bvs ys) → w.grownBy w' none → ∃ A' c', v' = .slice A' (n + m) c' ∧ MidB w' B A' (n + m) c' (l ++ ys) ∧ (blkM A' c' = blkM A c ∨ ∀ g, blkM A' c' = some g → w.heap.size ≤ g) := fun v' w' ho hg => by
    rw [← bvs_append] at ho
    rcases ho.2 with ⟨_, hz⟩ | ⟨g, cap, cur, rfl, hb, hgc, hn, hcm, hsz, ht⟩
    · omega
    · have hm2 : MidB w' w.heap.size (some ⟨g, 0, none⟩) (n + m) cap (l ++ ys) := MidB.of_own (show OwnB w' w.heap.size (some ⟨g, 0, none⟩) (n + m) cap (l ++ ys) from ho)
      refine ⟨_, cap, rfl, ⟨hm2.len, hm2.cap, hm2.max, ?_⟩, ?_⟩
      · rcases hm2.row with hc | ⟨g', o, cur', e, k2, k3⟩
        · exact .inl hc
        · exact .inr ⟨g', o, cur', e, by omega, k3⟩
      · refine .inr fun g' hg' => ?_
        have := hm2.blk hg'
        omega
  by_cases hroom : n + m ≤ c
  · rcases h.row with hc | ⟨g, o, cur, rfl, k2, k3, k4, k5⟩
    · omega
    · have hcell : ∀ j, j < c → (w.cell? ⟨g, o + j, none⟩).isSome = true := fun j hj => by
        rw [Lib.cell_of_heap k3, Array.getElem?_eq_getElem (by omega)]; rfl
      have hln := h.len
      obtain ⟨cur', q1, q2, q3, q4⟩ := heap_scs (bvs ys) (o + n * i.size) w cur k3
      rw [h1, Nat.mul_one] at q1 q3 q4
      refine ⟨some ⟨g, o, none⟩, c, w.setCells g (o + n) (bvs ys), ?_, ⟨?_, hroom, h.max, .inr ⟨g, o, cur', rfl, k2, q1, by omega, fun j hj => ?_⟩⟩, ?_, .inl rfl⟩
      · have := run_append_room_cells (P := Tryz.prog) w 41 ty 5 i undBytes hi g o n c ad m c2 (bvs ys) (by rw [hl, h1]) hnews (bvs_one ys) hroom
          (fun j hj => by rw [h1, Nat.mul_one, Nat.add_assoc]; exact hcell _ (by rw [hl] at hj; omega)) (fun j _ => Lib.frozen_of_heap k3 _)
        rw [h1, Nat.mul_one] at this
        exact this
      · rw [List.length_append, ← hln, ← hs.len]
      · by_cases hjl : j < l.length
        · rw [q3 (o + j) (by omega), k5 j hjl, List.getElem_append_left hjl]
        · obtain ⟨p, rfl⟩ : ∃ p, j = l.length + p := ⟨j - l.length, by omega⟩
          have hp : p < ys.length := by rw [List.length_append] at hj; omega
          have e1 := q4 p (by rw [bvs_length]; exact hp) (by rw [List.length_append, ← hs.len] at hj; omega)
          have e2 := bvs_get ys p hp
          rw [List.getElem?_eq_getElem (by rw [bvs_length]; exact hp)] at e2
          have e3 : (l ++ ys)[l.length + p]'hj = ys[p] := by rw [List.getElem_append_right (Nat.le_add_right _ _)]; simp only [Nat.add_sub_cancel_left]
          rw [show o + (l.length + p) = o + n + p by omega, e1, Option.some.inj e2, e3]
      · rw [show blkM (some ⟨g, o, none⟩) c = some g by unfold blkM; rw [if_neg (by omega)]; rfl]
        exact grown_scs w g (o + n) (bvs ys)
  · cases A with
    | none =>
      have hz : n = 0 ∧ c = 0 := by
        rcases h.row with hc | ⟨g, o, cur, e, _⟩
        · have := h.cap; omega
        · cases e
      obtain ⟨rfl, rfl⟩ := hz
      obtain rfl : l = [] := List.length_eq_zero_iff.1 h.len.symm
      obtain ⟨v', w', hrun, r1, r2, _⟩ := run_append_own (P := Tryz.prog) w w.heap.size 41 ty 5 i (.int .u8 0) 1 1 undBytes hi h0 h1 h2 rfl (by decide) (.slice none 0 0) 0 [] (World.ownsRow_nil w _ _ 1) ad m c2 (bvs ys) hl hnews (bvs_one ys) hfit.1 hfit.2 (Nat.le_refl _)
      obtain ⟨A', c', rfl, hm2, hlies⟩ := grow v' w' r1 r2
      exact ⟨A', c', w', hrun, hm2, r2, hlies⟩
    | some b =>
      have holds : ∀ j u, (bvs l)[j]? = some u → w.cell? (b.add j) = some u := by
        by_cases hl0 : l = []
        · subst hl0; intro j u hu; simp [bvs] at hu
        · obtain ⟨g, o, e, _, _, _⟩ := bs_rd h.bs (by rw [Ne, ← List.length_eq_zero_iff, bvs_length, List.length_eq_zero_iff]; exact hl0)
          exact (bs_rd h.bs).news rfl
      obtain ⟨v', w', hrun, r1, r2⟩ := run_append_arg_grows (P := Tryz.prog) w 41 ty 5 i (.int .u8 0) 1 1 undBytes hi h0 h1 h2 rfl (by decide) b n c (bvs l) (by rw [bvs_length, Nat.mul_one]; exact h.len.symm) holds ad m c2 (bvs ys) hl hnews (by omega) hfit.1 hfit.2
      obtain ⟨A', c', rfl, hm2, hlies⟩ := grow v' w' r1 r2
      exact ⟨A', c', w', hrun, hm2, grown_weak r2 _, hlies⟩
end Go.Proofs.YtpmglcachffojaaGreatDoor
namespace Go.Proofs.YtpmglcachffojaaGreatDoor
open Go Go.RowKit

theorem step_apbL {ops : Array Oper} {o : Oper} {a : Act} {w : World} {Q : Exit → Act → World → Prop} {K : Act → World → Prop} {E' : Prop} (hgd : o.guard = none) (s x : Operand) (ho : o.op = .call { callee := .builtin .append, args := #[s, x], argTypes := #[41, 41] }) (B : Nat) (A : Option Addr) (n c : Nat) (xs : List UInt8) (hs : a.eval s = .slice A n c)
    (hown : OwnB w B A n c xs) (hB : B ≤ w.heap.size) (F : Nat → Prop) (A2 : Option Addr) (m c2 : Nat) (ys : List UInt8) (hx : a.eval x = .slice A2 m c2) (hsl : Bs F w A2 m c2 ys) (hlim : n + m ≤ 68719476736)
    (h : ∀ A' c' w', OwnB w' B A' (n + m) c' (xs ++ ys) → w.grownBy w' (A.map (·.block)) → (A'.map (·.block) = A.map (·.block) ∨ A'.map (·.block) = some w.heap.size) → K (a.put o.dst (.slice A' (n + m) c')) w') :
    if Region.wanted o (yielded ops a.tmps) = true then Oper.wp Tryz.prog o a w K Q else E' := by
  have hw : Region.wanted o (yielded ops a.tmps) = true := by simp [Region.wanted, hgd]
  rw [if_pos hw]
  obtain ⟨h5, h6, h7, dss, h8, h9⟩ := hsl
  exact wp_aplR (T := tU8) elemBytes w w s x ho B A n c xs hs (fun _ => False) F (fun _ => False) hown.own (Below.refl _ _) hB A2 m c2 ys dss hx h5 h8 (h9.flat' flatU8) (fun _ _ _ _ h => h) hlim fun A' c' w' ha => h A' c' w' (own_u8 ⟨_, ha.own⟩) ha.grown ha.lies
theorem step_apb1L {ops : Array Oper} {o : Oper} {a : Act} {w : World} {Q : Exit → Act → World → Prop} {K : Act → World → Prop} {E' : Prop} (hgd : o.guard = none) (s x : Operand) (ho : o.op = .call { callee := .builtin .append, args := #[s, x], argTypes := #[41, 41] }) (B : Nat) (A : Option Addr) (n c : Nat) (xs : List UInt8) (hs : a.eval s = .slice A n c)
    (hown : OwnB w B A n c xs) (hB : B ≤ w.heap.size) (obj : Obj) (hx : a.eval x = .slice (some ⟨w.heap.size, 0, none⟩) 1 1) (y : UInt8) (hobj : obj = .cells #[.int .u8 (y.toNat : Int)] 5) (hlim : n ≤ 34359738368)
    (h : ∀ A' c' w', OwnB w' B A' (n + 1) c' (xs ++ [y]) → (w.drew.alloc obj).grownBy w' (A.map (·.block)) → (A'.map (·.block) = A.map (·.block) ∨ A'.map (·.block) = some (w.drew.alloc obj).heap.size) → K (a.put o.dst (.slice A' (n + 1) c')) w') :
    if Region.wanted o (yielded ops a.tmps) = true then Oper.wp Tryz.prog o a (w.alloc obj).drew K Q else E' :=
  step_apl1d (T := tU8) elemBytes w w.drew hgd s x ho B A n c xs hs (fun _ => False) (fun _ => False) hown.own.drew (Below.refl _ _) hB obj hx [.int .u8 (y.toNat : Int)] y rfl 5 hobj (fun _ _ _ _ h => h) hlim fun A' c' w' ha => h A' c' w' (own_u8 ⟨_, ha.own⟩) ha.grown ha.lies

/-- What has been laid down, and what waits: two variables, two rows. -/
structure FlR (w0 : World) (n0 ob lb B : Nat) (Ao : Option Addr) (no co : Nat) (out : List UInt8) (Al : Option Addr) (nl cl : Nat) (lst : List UInt8) (w : World) : Prop where
  obox : w.heap[ob]? = some (.cells #[.slice Ao no co] 41 (0, 0))
  lbox : w.heap[lb]? = some (.cells #[.slice Al nl cl] 41 (0, 0))
  out : OwnB w B Ao no co out
  lst : MidB w B Al nl cl lst
  apart : ∀ g, blkM Al cl = some g → Ao.map (·.block) ≠ some g
  ord : n0 ≤ ob ∧ n0 ≤ lb ∧ ob < B ∧ lb < B ∧ ob ≠ lb ∧ B ≤ w.heap.size
  below : Below n0 w0 w
/-- What is kept: what is no cells; what lies below B, the two variables' boxes not. -/
structure FlK (ob lb B : Nat) (w w' : World) : Prop where
  others : KeepsOthers w w'
  low : ∀ b, b < B → b ≠ ob → b ≠ lb → w'.heap[b]? = w.heap[b]?
theorem FlK.refl (ob lb B : Nat) (w : World) : FlK ob lb B w w := ⟨KeepsOthers.refl w, fun _ _ _ _ => rfl⟩
theorem FlK.trans {ob lb B : Nat} {a b c : World} (h : FlK ob lb B a b) (k : FlK ob lb B b c) : FlK ob lb B a c := ⟨h.others.trans k.others, fun x h1 h2 h3 => (k.low x h1 h2 h3).trans (h.low x h1 h2 h3)⟩
theorem FlK.setO {ob lb B : Nat} (w : World) (v : Value) : FlK ob lb B w (w.setCell ⟨ob, 0, none⟩ v) := ⟨KeepsOthers.setCell _ _ _, fun b _ h _ => Below.heap_setCell w ⟨ob, 0, none⟩ v b h⟩
theorem FlK.setL {ob lb B : Nat} (w : World) (v : Value) : FlK ob lb B w (w.setCell ⟨lb, 0, none⟩ v) := ⟨KeepsOthers.setCell _ _ _, fun b _ _ h => Below.heap_setCell w ⟨lb, 0, none⟩ v b h⟩
theorem FlK.drewAlloc {ob lb B : Nat} (w : World) (o : Obj) (hB : B ≤ w.heap.size) : FlK ob lb B w (w.drew.alloc o) := ⟨(KeepsOthers.drew w).trans (KeepsOthers.alloc _ o), fun b hb _ _ => Below.heap_alloc w.drew o b (by show b < w.heap.size; omega)⟩
theorem bs_front {F : Nat → Prop} {w : World} {b o n c : Nat} {l : List UInt8} (h : Bs F w (some ⟨b, o, none⟩) n c l) {k : Nat} (hk : k ≤ n) (h1 : 1 ≤ k) : Bs F w (some ⟨b, o, none⟩) k c (l.take k) := by
  have h2 := h.cut (lo := 0) (hi := k) (by omega) hk
  have h3 := h.2.1
  rw [if_neg (by omega)] at h2
  simpa [Addr.add] using h2
section
variable {w0 w w' W : World} {n0 ob lb B : Nat} {Ao A' Al : Option Addr} {no co n' c' nl cl : Nat} {out out' lst lst' : List UInt8}
theorem FlR.keep (h : FlR w0 n0 ob lb B Ao no co out Al nl cl lst w) (hb : Below w.heap.size w w') : FlR w0 n0 ob lb B Ao no co out Al nl cl lst w' := by
  have ho := h.ord
  exact ⟨(hb.block ob (by omega)).trans h.obox, (hb.block lb (by omega)).trans h.lbox, h.out.keepB hb, h.lst.keep fun g hg => hb.block g (h.lst.blk hg).2.1, h.apart, ⟨ho.1, ho.2.1, ho.2.2.1, ho.2.2.2.1, ho.2.2.2.2.1, Nat.le_trans ho.2.2.2.2.2 hb.size⟩, h.below.trans (hb.mono (by omega))⟩
theorem FlR.cells (h : FlR w0 n0 ob lb B Ao no co out Al nl cl lst w) : w.cell? ⟨ob, 0, none⟩ = some (.slice Ao no co) ∧ w.cell? ⟨lb, 0, none⟩ = some (.slice Al nl cl) ∧ w.frozen? ⟨ob, 0, none⟩ = false ∧ w.frozen? ⟨lb, 0, none⟩ = false := by
  refine ⟨?_, ?_, Lib.frozen_of_heap h.obox 0, Lib.frozen_of_heap h.lbox 0⟩
  · rw [Lib.cell_of_heap h.obox]; rfl
  · rw [Lib.cell_of_heap h.lbox]; rfl
/-- The row of what has been laid down has grown; its variable does not know of it yet. -/
structure FlO (w0 : World) (n0 ob lb B : Nat) (Ao : Option Addr) (no co : Nat) (Ar : Option Addr) (nr cr : Nat) (out : List UInt8) (Al : Option Addr) (nl cl : Nat) (lst : List UInt8) (w : World) : Prop where
  obox : w.heap[ob]? = some (.cells #[.slice Ao no co] 41 (0, 0))
  lbox : w.heap[lb]? = some (.cells #[.slice Al nl cl] 41 (0, 0))
  out : OwnB w B Ar nr cr out
  lst : MidB w B Al nl cl lst
  apart : ∀ g, blkM Al cl = some g → Ar.map (·.block) ≠ some g
  ord : n0 ≤ ob ∧ n0 ≤ lb ∧ ob < B ∧ lb < B ∧ ob ≠ lb ∧ B ≤ w.heap.size
  below : Below n0 w0 w
theorem FlR.open_ (h : FlR w0 n0 ob lb B Ao no co out Al nl cl lst w) : FlO w0 n0 ob lb B Ao no co Ao no co out Al nl cl lst w := ⟨h.obox, h.lbox, h.out, h.lst, h.apart, h.ord, h.below⟩
theorem FlO.drew {Ar : Option Addr} {nr cr : Nat} (h : FlO w0 n0 ob lb B Ao no co Ar nr cr out Al nl cl lst w) : FlO w0 n0 ob lb B Ao no co Ar nr cr out Al nl cl lst w.drew :=
  ⟨h.obox, h.lbox, ownB_drew h.out, h.lst.keep fun _ _ => rfl, h.apart, h.ord, h.below.drew⟩
theorem FlO.alloc {Ar : Option Addr} {nr cr : Nat} (h : FlO w0 n0 ob lb B Ao no co Ar nr cr out Al nl cl lst w) (o : Obj) : FlO w0 n0 ob lb B Ao no co Ar nr cr out Al nl cl lst (w.alloc o) := by
  have ho := h.ord
  have hb : Below w.heap.size w (w.alloc o) := (Below.refl _ _).alloc (Nat.le_refl _) o
  exact ⟨(hb.block ob (by omega)).trans h.obox, (hb.block lb (by omega)).trans h.lbox, h.out.keepB hb, h.lst.keep fun g hg => hb.block g (h.lst.blk hg).2.1, h.apart, ⟨ho.1, ho.2.1, ho.2.2.1, ho.2.2.2.1, ho.2.2.2.2.1, Nat.le_trans ho.2.2.2.2.2 hb.size⟩, h.below.trans (hb.mono (by omega))⟩
theorem FlO.grow {Ar : Option Addr} {nr cr : Nat} (h : FlO w0 n0 ob lb B Ao no co Ar nr cr out Al nl cl lst w) (ho2 : OwnB w' B A' n' c' out') (hg : w.grownBy w' (Ar.map (·.block))) (hl : A'.map (·.block) = Ar.map (·.block) ∨ A'.map (·.block) = some w.heap.size) :
    FlO w0 n0 ob lb B Ao no co A' n' c' out' Al nl cl lst w' ∧ FlK ob lb B w w' := by
  have ho := h.ord
  have hrow : ∀ k, Ar.map (·.block) = some k → B ≤ k := fun k hk => (ownF_at h.out.own hk).2.1
  have hne : ∀ b, b < B → some b ≠ Ar.map (·.block) := fun b hb e => by have := hrow b e.symm; omega
  refine ⟨⟨(hg.block ob (by omega) (hne ob (by omega))).trans h.obox, (hg.block lb (by omega) (hne lb (by omega))).trans h.lbox, ho2, h.lst.keep fun g hg' => hg.block g (h.lst.blk hg').2.1 (fun e => h.apart g hg' e.symm), fun g hg' e => ?_, ?_, ?_⟩, ?_, fun b hb _ _ => hg.block b (by omega) (hne b hb)⟩
  · rcases hl with h1 | h1
    · exact h.apart g hg' (by rw [← h1]; exact e)
    · rw [h1] at e
      have := (h.lst.blk hg').2.1
      injection e with e
      omega
  · exact ⟨ho.1, ho.2.1, ho.2.2.1, ho.2.2.2.1, ho.2.2.2.2.1, Nat.le_trans ho.2.2.2.2.2 hg.size⟩
  · exact h.below.grown hg (by omega) (fun k e => by have := hrow k e; omega)
  · refine KeepsOthers.of_grownBy hg fun j o hj hjo => ?_
    obtain ⟨css, h1, _⟩ := h.out.own.row
    rcases h1.2 with ⟨e1, _⟩ | ⟨g, cap, cur, e1, _, hgc, _⟩
    · injection e1 with e1; rw [e1] at hj; cases hj
    · injection e1 with e1
      rw [e1] at hj
      injection hj with hj
      subst hj
      rw [hgc] at hjo
      injection hjo with hjo
      subst hjo
      rfl
theorem FlO.store {Ar : Option Addr} {nr cr : Nat} (h : FlO w0 n0 ob lb B Ao no co Ar nr cr out Al nl cl lst w) : FlR w0 n0 ob lb B Ar nr cr out Al nl cl lst (w.setCell ⟨ob, 0, none⟩ (.slice Ar nr cr)) := by
  have ho := h.ord
  refine ⟨heap_set h.obox rfl, heap_setne h.lbox (by omega), own_keep h.out fun b hb => Below.heap_setCell w ⟨ob, 0, none⟩ _ b (fun e => by have := (h.out.lt b hb).1; simp at e; omega), h.lst.keep fun g hg => Below.heap_setCell w ⟨ob, 0, none⟩ _ g (fun e => by have := (h.lst.blk hg).1; simp at e; omega), h.apart, by simpa using h.ord, bsetc h.below ho.1 _⟩
/-- What waits is another. -/
theorem FlR.storeL (h : FlR w0 n0 ob lb B Ao no co out Al nl cl lst w) (hm : MidB w B A' n' c' lst') (ha : ∀ g, blkM A' c' = some g → Ao.map (·.block) ≠ some g) : FlR w0 n0 ob lb B Ao no co out A' n' c' lst' (w.setCell ⟨lb, 0, none⟩ (.slice A' n' c')) := by
  have ho := h.ord
  refine ⟨heap_setne h.obox (by omega), heap_set h.lbox rfl, own_keep h.out fun b hb => Below.heap_setCell w ⟨lb, 0, none⟩ _ b (fun e => by have := (h.out.lt b hb).1; simp at e; omega), hm.keep fun g hg => Below.heap_setCell w ⟨lb, 0, none⟩ _ g (fun e => by have := (hm.blk hg).1; simp at e; omega), ha, by simpa using h.ord, bsetc h.below ho.2.1 _⟩
end
theorem MidB.drop {w : World} {B g o n c : Nat} {l : List UInt8} (h : MidB w B (some ⟨g, o, none⟩) n c l) {k : Nat} (hk : k ≤ n) : MidB w B (if c = k then some ⟨g, o, none⟩ else some ⟨g, o + k, none⟩) (n - k) (c - k) (l.drop k) := by
  have h1 := h.len
  have h2 := h.cap
  refine ⟨by rw [List.length_drop, ← h1], by omega, Nat.le_trans (Nat.sub_le _ _) h.max, ?_⟩
  by_cases hc : c = k
  · exact .inl (by omega)
  · rcases h.row with h0 | ⟨g', o', cur, e, k2, k3, k4, k5⟩
    · exact .inl (by omega)
    · injection e with e
      injection e with e1 e2 _
      subst e1 e2
      rw [if_neg hc]
      refine .inr ⟨g, o + k, cur, rfl, k2, k3, by omega, fun j hj => ?_⟩
      rw [List.length_drop] at hj
      rw [List.getElem_drop, Nat.add_assoc]
      exact k5 (k + j) (by omega)
theorem blkM_drop {g o c k : Nat} {b : Nat} (h : blkM (if c = k then some ⟨g, o, none⟩ else some ⟨g, o + k, none⟩) (c - k) = some b) : blkM (some ⟨g, o, none⟩) c = some b := by
  unfold blkM at *
  by_cases hc : c - k = 0
  · rw [if_pos hc] at h; cases h
  · rw [if_neg hc, if_neg (by omega)] at h
    rw [if_neg (by omega)]
    exact h
set_option maxRecDepth 100000 in
set_option maxHeartbeats 4000000 in
theorem flush_any (w0 : World) (n0 ob lb B : Nat) (Ao : Option Addr) (no co : Nat) (out : List UInt8) (Al : Option Addr) (nl cl : Nat) (lst : List UInt8) (hno : no ≤ 1073741824) (hnl : nl ≤ 1073741824) (w : World) (h : FlR w0 n0 ob lb B Ao no co out Al nl cl lst w) :
    Calls Tryz.prog 201 #[.pointer (some ⟨lb, 0, none⟩), .pointer (some ⟨ob, 0, none⟩)] w fun e w' => e = .returned (.tuple #[]) ∧ ∃ Ao' no' co' Al' cl', FlR w0 n0 ob lb B Ao' no' co' (out ++ flush lst) Al' 0 cl' [] w' ∧ FlK ob lb B w w' := by
  have HH := Lib.hid h
  have HNL := Lib.hid (show lst.length ≤ 1073741824 by rw [← h.lst.len]; exact hnl)
  have HNO := Lib.hid (show out.length ≤ 1073741824 by rw [← h.out.len]; exact hno)
  clear h hno hnl
  go_enter Tryz.func201, Tryz.ntmps201
  go_wp2_with fail
  go_loopw [3] (fun _ wr => ∃ (o1 l1 : List UInt8) (A1 : Option Addr) (n1 c1 : Nat) (A2 : Option Addr) (n2 c2 : Nat), FlR w0 n0 ob lb B A1 n1 c1 o1 A2 n2 c2 l1 wr ∧ FlK ob lb B w wr ∧ o1 ++ flush l1 = out ++ flush lst ∧ l1.length ≤ lst.length)
    (fun _ wr => lenV ((wr.cell? ⟨lb, 0, none⟩).getD undef))
  case atStart => exact ⟨out, lst, Ao, no, co, Al, nl, cl, HH.out, FlK.refl _ _ _ _, rfl, Nat.le_refl _⟩
  case round =>
    obtain ⟨o1, l1, A1, n1, c1, A2, n2, c2, hr, hk, he, hll⟩ := hrel
    have HR := Lib.hid hr; have HK := Lib.hid hk; have HE := Lib.hid he; have HLL := Lib.hid hll
    obtain ⟨q1, q2, q3, q4⟩ := hr.cells
    have hl1 := hr.lst.len
    clear hr hk he hll
    by_cases hz : n2 = 0
    · subst hz
      obtain rfl : l1 = [] := List.length_eq_zero_iff.1 hl1.symm
      clear hl1
      go_wp2_with fail
      go_end0
      exact ⟨rfl, A1, n1, c1, A2, c2, by have := HR.out; rw [← HE.out, flush_nil, List.append_nil]; exact this, HK.out⟩
    · have hne : l1 ≠ [] := fun e => by rw [e] at hl1; simp at hl1; omega
      obtain ⟨k, hk⟩ : ∃ k, k = min n2 128 := ⟨_, rfl⟩
      have hk1 : 1 ≤ k ∧ k ≤ n2 ∧ k ≤ 128 := by omega
      obtain ⟨y, hy⟩ : ∃ y : UInt8, y = UInt8.ofNat (256 - k) := ⟨_, rfl⟩
      have HY := Lib.hid (show IntKind.u8.wrap (IntKind.i64.wrap (-(k : Int))) = ((y.toNat : Nat) : Int) by rw [hy, UInt8.toNat_ofNat', IntKind.wrap_i64, IntKind.wrap_u8]; omega)
      have HFS := Lib.hid (show flush l1 = ([y] ++ l1.take k) ++ flush (l1.drop k) by
        rw [flush_step hne, litB, hy]
        have e1 : min 128 l1.length = k := by omega
        rw [e1]
        by_cases h128 : 128 ≤ l1.length
        · rw [show k = 128 by omega]; rfl
        · rw [show l1.drop 128 = l1.drop k by rw [List.drop_of_length_le (by omega), List.drop_of_length_le (by omega)]]; rfl)
      obtain ⟨g, o, hA2, hx1, hx2, hx3⟩ := bs_at HR.out.lst.bs (k := 0) (by omega)
      clear hx1 hx2 hx3
      subst hA2
      have z1 : (0 : Int) < (n2 : Int) := by omega
      have z2 : 0 < n2 := by omega
      have z3 : decide (0 < n2) = true := decide_eq_true z2
      have zm : min (n2 : Int) 128 = (k : Int) := by omega
      have i0 : (0 : Int) ≤ (k : Int) := by omega
      have hcap := HR.out.lst.cap
      have hmax := HR.out.lst.max
      unfold maxLen at hmax
      have i1 : (k : Int) ≤ (c2 : Int) := by omega
      have i2 : (k : Int) ≤ (n2 : Int) := by omega
      have i3 : (n2 : Int) ≤ (c2 : Int) := by omega
      have hfl := congrArg List.length HE.out
      rw [List.length_append, List.length_append] at hfl
      have hfo := flush_len lst
      have ho1 := HR.out.out.len
      have hlim : n1 ≤ 8589934592 := by have := HNO.out; have := HNL.out; omega
      have HLIM := Lib.hid hlim; have HL1 := Lib.hid hl1; have HK1 := Lib.hid hk1
      have hB := HR.out.ord.2.2.2.2.2
      have HB := Lib.hid hB
      have qa : ∀ o : Obj, (wr.alloc o).cell? ⟨ob, 0, none⟩ = some (.slice A1 n1 c1) := fun o => kcell ((Below.refl _ _).alloc (Nat.le_refl _) o) q1
      have qb : ∀ ob : Obj, (wr.alloc ob).cell? ⟨lb, 0, none⟩ = some (.slice (some ⟨g, o, none⟩) n2 c2) := fun ob => kcell ((Below.refl _ _).alloc (Nat.le_refl _) ob) q2
      clear hfl hfo hlim ho1 hy hl1 hk1 hk
      go_upto_region 2 with fail
      go_cut [] from 9 to 18 (fun wx => ∃ (wd : World) (A5 : Option Addr) (c5 : Nat), wd = wx ∧ FlR w0 n0 ob lb B A5 (n1 + 1 + k) c5 (o1 ++ [y] ++ l1.take k) (some ⟨g, o, none⟩) n2 c2 l1 wd ∧ FlK ob lb B wr wd)
      case first =>
        go_region_law (first
          | (refine step_apb1L (w := wr) rfl (.tmp 9) (.tmp 13) rfl B A1 n1 c1 o1 rfl HR.out.out HB.out _ rfl y (by rw [HY.out]) (by have := HLIM.out; omega) ?_; intro A4 c4 w4 ho4 hg4 hl4
             obtain ⟨hs4, hk4⟩ := (HR.out.open_.drew.alloc _).grow ho4 hg4 hl4
             have HS4 := Lib.hid hs4; have HK4 := Lib.hid hk4
             have r1 : w4.cell? ⟨ob, 0, none⟩ = some (.slice A1 n1 c1) := (by rw [Lib.cell_of_heap hs4.obox]; rfl)
             have r2 : w4.cell? ⟨lb, 0, none⟩ = some (.slice (some ⟨g, o, none⟩) n2 c2) := (by rw [Lib.cell_of_heap hs4.lbox]; rfl)
             clear ho4 hg4 hl4 hs4 hk4)
          | (refine step_apbL (w := w4) rfl (.tmp 14) (.tmp 17) rfl B A4 (n1 + 1) c4 (o1 ++ [y]) rfl HS4.out.out HS4.out.ord.2.2.2.2.2 (fun _ => True) (some ⟨g, o, none⟩) k c2 (l1.take k) rfl (bs_front HS4.out.lst.bs HK1.out.2.1 HK1.out.1).any (by have := HLIM.out; have := HK1.out; omega) ?_; intro A5 c5 w5 ho5 hg5 hl5
             obtain ⟨hs5, hk5⟩ := HS4.out.grow ho5 hg5 hl5
             have HS5 := Lib.hid hs5.store; have HK5 := Lib.hid hk5
             have s1 : w5.cell? ⟨ob, 0, none⟩ = some (.slice A1 n1 c1) := (by rw [Lib.cell_of_heap hs5.obox]; rfl)
             have s2 := Lib.frozen_of_heap hs5.obox 0
             clear ho5 hg5 hl5 hs5 hk5)
          | fail)
        all_goals
          go_wp2_with fail
          go_meet
          exact ⟨_, A5, c5, rfl, HS5.out, ((FlK.drewAlloc wr _ HB.out).trans (HK4.out.trans HK5.out)).trans (FlK.setO _ _)⟩
      case rest =>
        obtain ⟨wx, A5, c5, rfl, hs5, hk5⟩ := hcut
        have HS5 := Lib.hid hs5; have HK5 := Lib.hid hk5
        clear q1 q2 q3 q4 qa qb hs5 hk5
        obtain ⟨q1, q2, q3, q4⟩ := HS5.out.cells
        refine ‹∀ (a : Act) (w_1 : World), Code.wp _ _ _ a w_1 → _› _ _ ?_
        have hdr := HS5.out.lst.drop (k := k) HK1.out.2.1
        have hda : ∀ b, blkM (if c2 = k then some ⟨g, o, none⟩ else some ⟨g, o + k, none⟩) (c2 - k) = some b → A5.map (·.block) ≠ some b := fun b hb => HS5.out.apart b (blkM_drop hb)
        have HFIN := Lib.hid (HS5.out.storeL hdr hda)
        have HEE := Lib.hid (show o1 ++ [y] ++ l1.take k ++ flush (l1.drop k) = out ++ flush lst by rw [← HE.out, HFS.out]; simp)
        have HLD := Lib.hid (show (l1.drop k).length ≤ lst.length by rw [List.length_drop]; have := HLL.out; omega)
        clear hdr hda
        by_cases hck : c2 = k
        · rw [if_pos hck, show c2 - k = 0 by omega] at HFIN
          go_wp2_with fail
          go_roundw
          case rel => exact ⟨_, _, A5, _, c5, _, _, _, HFIN.out, HK.out.trans (HK5.out.trans (FlK.setL _ _)), HEE.out, HLD.out⟩
          case measure =>
            have e1 := HFIN.out.cells.2.1
            have e2 := HR.out.cells.2.1
            simp only [e1, e2, Option.getD_some, lenV]
            have := HK1.out; omega
        · rw [if_neg hck] at HFIN
          go_wp2_with fail
          go_roundw
          case rel => exact ⟨_, _, A5, _, c5, _, _, _, HFIN.out, HK.out.trans (HK5.out.trans (FlK.setL _ _)), HEE.out, HLD.out⟩
          case measure =>
            have e1 := HFIN.out.cells.2.1
            have e2 := HR.out.cells.2.1
            simp only [e1, e2, Option.getD_some, lenV]
            have := HK1.out; omega
end Go.Proofs.YtpmglcachffojaaGreatDoor
namespace Go.Proofs.YtpmglcachffojaaGreatDoor
open Go Go.RowKit Go.Shelf BigFrame
attribute [local go_sem] Oper.semAt_some

section
variable {w0 w w' W : World} {n0 ob lb B : Nat} {Ao A' Al : Option Addr} {no co n' c' nl cl : Nat} {out out' lst lst' : List UInt8}
theorem FlR.turn (h : FlR w0 n0 ob lb B Ao no co out Al nl cl lst w) {row : Option Nat} (hg : w.grownBy w' row) (hr : ∀ r, row = some r → B ≤ r ∧ ∃ o : Obj, w.heap[r]? = some o ∧ o.isCells = false) : FlR w0 n0 ob lb B Ao no co out Al nl cl lst w' := by
  have ho := h.ord
  have hne : ∀ b, b < B → some b ≠ row := fun b hb e => by have := (hr b e.symm).1; omega
  have hcell : ∀ b, (∃ cur e fr, w.heap[b]? = some (.cells cur e fr)) → some b ≠ row := fun b ⟨cur, e, fr, hb⟩ e2 => by
    obtain ⟨_, o, h1, h2⟩ := hr b e2.symm
    rw [hb] at h1
    injection h1 with h1
    subst h1
    cases h2
  refine ⟨(hg.block ob (by omega) (hne ob (by omega))).trans h.obox, (hg.block lb (by omega) (hne lb (by omega))).trans h.lbox, own_keep h.out fun b hb => hg.block b (h.out.lt b hb).2 (hcell b ?_), h.lst.keep fun g hg' => hg.block g (h.lst.blk hg').2.1 (hcell g ?_), h.apart, ?_, ?_⟩
  · rcases h.out.2 with ⟨e1, _⟩ | ⟨g, cap, cur, e1, _, hgc, _⟩
    · rw [e1] at hb; cases hb
    · rw [e1] at hb; injection hb with hb; subst hb; exact ⟨_, _, _, hgc⟩
  · obtain ⟨_, _, cur, hc⟩ := h.lst.blk hg'
    exact ⟨_, _, _, hc⟩
  · exact ⟨ho.1, ho.2.1, ho.2.2.1, ho.2.2.2.1, ho.2.2.2.2.1, Nat.le_trans ho.2.2.2.2.2 hg.size⟩
  · exact h.below.grown hg (by omega) (fun k e => by have := (hr k e).1; omega)
theorem FlR.other (h : FlR w0 n0 ob lb B Ao no co out Al nl cl lst w) {b : Nat} (hb : b < B) (h1 : b ≠ ob) (h2 : b ≠ lb) (h3 : n0 ≤ b) (v : Value) : FlR w0 n0 ob lb B Ao no co out Al nl cl lst (w.setCell ⟨b, 0, none⟩ v) := by
  have ho := h.ord
  exact ⟨heap_setne h.obox (Ne.symm h1), heap_setne h.lbox (Ne.symm h2), own_keep h.out fun k hk => Below.heap_setCell w ⟨b, 0, none⟩ _ k (fun e => by have := (h.out.lt k hk).1; simp at e; omega), h.lst.keep fun g hg => Below.heap_setCell w ⟨b, 0, none⟩ _ g (fun e => by have := (h.lst.blk hg).1; simp at e; omega), h.apart, by simpa using ho, bsetc h.below h3 _⟩
theorem FlR.growL (h : FlR w0 n0 ob lb B Ao no co out Al nl cl lst w) (hm : MidB w' B A' n' c' lst') (hg : w.grownBy w' (blkM Al cl)) (hl : blkM A' c' = blkM Al cl ∨ ∀ g, blkM A' c' = some g → w.heap.size ≤ g) :
    (w'.heap[ob]? = w.heap[ob]?) ∧ (w'.heap[lb]? = w.heap[lb]?) ∧ FlR w0 n0 ob lb B Ao no co out A' n' c' lst' (w'.setCell ⟨lb, 0, none⟩ (.slice A' n' c')) ∧ FlK ob lb B w (w'.setCell ⟨lb, 0, none⟩ (.slice A' n' c')) := by
  have ho := h.ord
  have hrow : ∀ k, blkM Al cl = some k → B ≤ k := fun k hk => (h.lst.blk hk).1
  have hne : ∀ b, b < B → some b ≠ blkM Al cl := fun b hb e => by have := hrow b e.symm; omega
  have e1 := hg.block ob (by omega) (hne ob (by omega))
  have e2 := hg.block lb (by omega) (hne lb (by omega))
  have hlb := e2.trans h.lbox
  have hout : OwnB w' B Ao no co out := own_keep h.out fun b hb => hg.block b (h.out.lt b hb).2 (fun e => h.apart b e.symm (by rw [← ownBlock_slice Ao no co]; exact hb))
  have hap : ∀ g, blkM A' c' = some g → Ao.map (·.block) ≠ some g := fun g hg' e => by
    rcases hl with h1 | h1
    · exact h.apart g (by rw [← h1]; exact hg') e
    · have := h1 g hg'
      have := (ownF_at h.out.own e).2.2
      omega
  refine ⟨e1, e2, ⟨heap_setne (e1.trans h.obox) (by omega), heap_set hlb rfl, own_keep hout fun b hb => Below.heap_setCell w' ⟨lb, 0, none⟩ _ b (fun e => by have := (hout.lt b hb).1; simp at e; omega), hm.keep fun g hg => Below.heap_setCell w' ⟨lb, 0, none⟩ _ g (fun e => by have := (hm.blk hg).1; simp at e; omega), hap, ?_, ?_⟩, ?_⟩
  · have := hg.size
    have h6 : B ≤ (w'.setCell ⟨lb, 0, none⟩ (.slice A' n' c')).heap.size := by simp; omega
    exact ⟨ho.1, ho.2.1, ho.2.2.1, ho.2.2.2.1, ho.2.2.2.2.1, h6⟩
  · exact bsetc (h.below.grown hg (by omega) (fun k e => by have := hrow k e; omega)) ho.2.1 _
  · refine FlK.trans ⟨KeepsOthers.of_grownBy hg fun j o hj hjo => ?_, fun b hb _ _ => hg.block b (by omega) (hne b hb)⟩ (FlK.setL _ _)
    obtain ⟨_, _, cur, hc⟩ := h.lst.blk hj
    rw [hc] at hjo
    injection hjo with hjo
    subst hjo
    rfl
end
theorem FlK.below {ob lb B : Nat} {w w' : World} (hB : B ≤ w.heap.size) (h : Below w.heap.size w w') : FlK ob lb B w w' :=
  ⟨⟨h.size, fun k o hk _ => (h.block k (blk_lt hk)).trans hk⟩, fun b hb _ _ => h.block b (by omega)⟩
section
variable {F : Fence} {nF : Nat} {ops : Array Oper} {rest : List Oper} {o : Oper} {a : Act} {Q : Exit → Act → World → Prop} {w : World}
/-- append onto bytes in the midst of a row, as a step of a region that draws, inside a fence. -/
theorem stepIn_mid {K : Act → World → Prop} {E' : Prop} (hgd : o.guard = none) (s x : Operand) (ho : o.op = .call { callee := .builtin .append, args := #[s, x], argTypes := #[41, 41] }) (B : Nat) (A : Option Addr) (n c : Nat) (l : List UInt8) (hs : a.eval s = .slice A n c)
    (hown : MidB w B A n c l) (hB : B ≤ w.heap.size) (G : Nat → Prop) (ad : Addr) (m c2 : Nat) (ys : List UInt8) (hx : a.eval x = .slice (some ad) m c2) (hsl : Bs G w (some ad) m c2 ys) (hm : 1 ≤ m) (hlim : n + m ≤ 68719476736)
    (h : ∀ A' c' w', MidB w' B A' (n + m) c' (l ++ ys) → w.grownBy w' (blkM A c) → (blkM A' c' = blkM A c ∨ ∀ g, blkM A' c' = some g → w.heap.size ≤ g) → K (a.put o.dst (.slice A' (n + m) c')) w') :
    if Region.wanted o (yielded ops a.tmps) = true then Oper.wpIn F nF Tryz.prog o a w K Q else E' := by
  have hw : Region.wanted o (yielded ops a.tmps) = true := by simp [Region.wanted, hgd]
  rw [if_pos hw]
  obtain ⟨A', c', w', hrun, h2, h3, h4⟩ := mid_append w B A n c l hown hB o.type G ad m c2 ys hsl hm hlim
  unfold Oper.wpIn
  refine ⟨by simp [Oper.about, ho, resolve, Target.leads, Sem.run_pure], ?_⟩
  rw [Oper.semAt_plain F _ _ (by rw [ho]; intro c hc'; cases hc')]
  simp [execOp, ho, resolve, invoke, builtin, hs, hx, hrun, Result.andThen]
  exact h A' c' w' h2 h3 h4
/-- append onto bytes of the call's own, inside a fence. -/
theorem apbInL (hgd : o.guard = none) (s x : Operand) (ho : o.op = .call { callee := .builtin .append, args := #[s, x], argTypes := #[41, 41] }) (B : Nat) (A : Option Addr) (n c : Nat) (xs : List UInt8) (hs : a.eval s = .slice A n c)
    (hown : OwnB w B A n c xs) (hB : B ≤ w.heap.size) (G : Nat → Prop) (A2 : Option Addr) (m c2 : Nat) (ys : List UInt8) (hx : a.eval x = .slice A2 m c2) (hsl : Bs G w A2 m c2 ys) (hlim : n + m ≤ 68719476736)
    (h : ∀ A' c' w', OwnB w' B A' (n + m) c' (xs ++ ys) → w.grownBy w' (A.map (·.block)) → (A'.map (·.block) = A.map (·.block) ∨ A'.map (·.block) = some w.heap.size) → wpListIn F nF Tryz.prog ops Q rest (a.put o.dst (.slice A' (n + m) c')) w') : wpListIn F nF Tryz.prog ops Q (o :: rest) a w := by
  refine wpListIn_plain hgd fun K hK => ?_
  obtain ⟨A', c', w', hrun, h2, h3, h4⟩ := run_append_rd elemBytes o.type w B (.slice A n c) n (bvs xs) hown G A2 m c2 (bvs ys) (by rw [bvs_length, Nat.mul_one]; exact hsl.len.symm) (bs_rd hsl) (bvs_one _) hlim hB
  unfold Oper.wpIn
  refine ⟨by simp [Oper.about, ho, resolve, Target.leads, Sem.run_pure], ?_⟩
  rw [Oper.semAt_plain F _ _ (by rw [ho]; intro c hc'; cases hc')]
  simp [execOp, ho, resolve, invoke, builtin, hs, hx, hrun, Result.andThen]
  rw [ownBlock_slice] at h3 h4
  exact hK _ _ (h A' c' w' (by unfold OwnB; rw [bvs_append]; exact h2) h3 h4)
end
end Go.Proofs.YtpmglcachffojaaGreatDoor
