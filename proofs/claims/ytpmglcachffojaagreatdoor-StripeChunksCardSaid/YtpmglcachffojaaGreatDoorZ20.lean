/- A part of what Chunks leans on. -/
import Derived.Test.YtpmglcachffojaaGreatDoorZ4
import Derived.Test.YtpmglcachffojaaGreatDoorZ19
import Derived.Sort.BigQuietIn
import Derived.Sort.CutIn
set_option maxRecDepth 100000
set_option maxHeartbeats 16000000
namespace Go.Proofs.YtpmglcachffojaaGreatDoor
section
open Go Go.RowKit Go.Shelf BigFrame
attribute [local go_sem] Oper.semAt_some
def rnEnc (x : Rn) : Array Value := #[.int .u8 (x.c.toNat : Int), .int .i64 (x.n : Int)]
def KpB (b0 bb : Nat) (W W' : World) : Prop := W'.heap[bb]? = W.heap[bb]? ∧ (∀ b, b < b0 → W'.heap[b]? = W.heap[b]?) ∧ W.heap.size ≤ W'.heap.size
theorem KpB.trans {b0 bb : Nat} {A B C : World} (h : KpB b0 bb A B) (k : KpB b0 bb B C) : KpB b0 bb A C := ⟨k.1.trans h.1, fun b hb => (k.2.1 b hb).trans (h.2.1 b hb), Nat.le_trans h.2.2 k.2.2⟩
theorem KpB.put {b0 bb : Nat} {w : World} (h0 : b0 ≤ w.heap.size) (h1 : bb < w.heap.size) (W : World) (l : Nat) (o : Obj) (hl : w.heap.size ≤ l) : KpB b0 bb W (W.putObj l o) :=
 ⟨World.putObj_heap_other (by omega), fun b hb => World.putObj_heap_other (by omega), by simp⟩
theorem bs_keepB {b0 bb : Nat} {W W' : World} {A : Option Addr} {n c : Nat} {l : List UInt8} (h : Bs (fun b => b < b0) W A n c l) (k : KpB b0 bb W W') : Bs (fun b => b < b0) W' A n c l := h.keep k.2.2 fun b hb _ => k.2.1 b hb
theorem zqr (w : World) (a b : Nat) : (w.drewN a).drewN b = w.drewN (a + b) := by unfold World.drewN; simp [Nat.add_assoc]
theorem xqP (l : List UInt8) (h : 0 < l.length) : l.headD 0 = l[0] := by
 cases l with
 | nil => simp at h
 | cons a r => rfl
theorem runs1_in (n : Nat) (hn : 1 ≤ n) (l b0 bb : Nat) (hbb : b0 ≤ bb) (A : Option Addr) (m c : Nat) (bs : List UInt8) (J : List Rn → World → Prop) (hJd : ∀ pre W1 k, J pre W1 → J pre (W1.drewN k)) (hJs : ∀ pre W1 v, J pre W1 → J pre (W1.setCell ⟨bb, 0, none⟩ v))
 (hY : ∀ pre x W1, J pre W1 → pre.length < bs.length → YieldAt Fence.wide (n - 1) Tryz.prog l (rnEnc x) W1 fun e W' => e = .returned (.bool true) ∧ J (pre ++ [x]) W' ∧ KpB b0 bb W1 W')
 (W : World) (hA : W.heap[bb]? = some (.cells #[.slice A m c] 41 (0, 0))) (hs : Bs (fun b => b < b0) W A m c bs) (h0 : J [] W) :
 CallsIn Fence.wide n Tryz.prog 241 #[.func (.yield l) #[] #[], .pointer (some ⟨bb, 0, none⟩)] W fun e W' => (∃ v, e = .returned v) ∧ ∃ xs, xs = rnL bs ∧ J xs W' := by
 have HRL := zH (xqp bs)
 have HA := zH hA; have HS := zH hs
 clear hA hs
 refine callsIn_of_wp Tryz.func241 rfl trivial ?_ rfl
 simp only [Tryz.ntmps241, List.size_toArray, List.length_cons, List.length_nil, Nat.reduceAdd, Nat.reduceSub, Array.replicate_succ, Array.replicate_zero, List.push_toArray, List.append_toArray, List.nil_append, List.cons_append]
 gi_wp2
 gi_loopw [3] (fun _ wr => ∃ (pre : List Rn) (rest : List UInt8) (A2 : Option Addr) (m2 c2 : Nat), pre ++ rnL rest = rnL bs ∧ m2 ≤ m ∧ wr.heap[bb]? = some (.cells #[.slice A2 m2 c2] 41 (0, 0)) ∧ Bs (fun b => b < b0) wr A2 m2 c2 rest ∧ J pre wr)
  (fun _ wr => lenV ((wr.cell? ⟨bb, 0, none⟩).getD undef))
 case atStart => exact ⟨[], bs, A, m, c, rfl, Nat.le_refl _, HA.out, HS.out, h0⟩
 case round =>
  obtain ⟨pre, rest, A2, m2, c2, hpr, hm2, hbox, hbs, hJp⟩ := hrel
  have HPR := zH hpr; have HBOX := zH hbox; have HBS := zH hbs; have HJP := zH hJp
  have q0 : wr.cell? ⟨bb, 0, none⟩ = some (.slice A2 m2 c2) := by rw [zC hbox]; rfl
  have HQ0 := zH q0
  have hlen := hbs.len
  clear hpr hbox hbs hJp
  by_cases hz : m2 = 0
  · obtain rfl : rest = [] := List.length_eq_zero_iff.1 (by omega)
    subst hz
    clear hlen
    gi_wp2
    go_end0
    exact ⟨⟨_, rfl⟩, _, by rw [← HPR.out, xqn, List.append_nil], HJP.out⟩
  · have hne : rest ≠ [] := fun e => by rw [e] at hlen; simp at hlen; omega
    have hmp : (0 : Int) < (m2 : Int) := by omega
    have hmn : 0 < m2 := by omega
    have hmd : decide (0 < m2) = true := decide_eq_true hmn
    have HNE := zH hne
    have HLEN := zH hlen
    have hc2 := HBS.out.2.1
    have hc3 := HBS.out.2.2.1
    unfold maxLen at hc3
    clear hlen hne
    obtain ⟨ch, hch⟩ : ∃ ch, ch = rest.headD 0 := ⟨_, rfl⟩
    obtain ⟨b, o, hA2, hbb0, hbl, _⟩ := kqb HBS.out (k := 0) (by have := HLEN.out; omega)
    subst hA2
    have HCELL : Hid (∀ W' : World, (∀ b, b < b0 → W'.heap[b]? = wr.heap[b]?) → ∀ j (hj : j < rest.length), W'.cell? ⟨b, o + j, none⟩ = some (.int .u8 ((rest[j].toNat : Nat) : Int))) := zH (fun (W' : World) (hW' : ∀ b, b < b0 → W'.heap[b]? = wr.heap[b]?) (j : Nat) (hj : j < rest.length) => by
     obtain ⟨b', o', he, _, _, hc⟩ := kqb HBS.out hj
     injection he with he; injection he with e1 e2 _
     subst e1 e2
     exact (World.cell?_of_block (a := ⟨b, o + j, none⟩) (hW' b hbb0)).trans hc)
    have hch0 : rest[0]'(by have := HLEN.out; omega) = ch := by rw [hch]; exact (xqP _ _).symm
    have HCH0 := zH hch0
    have HCH := zH hch
    clear hch hch0
    gi_wp2
    obtain ⟨wo, rfl⟩ : ∃ wo, wo = wr := ⟨wr, rfl⟩
    gi_loopw [3] (fun nv wq => ∃ (j k : Nat), 1 ≤ j ∧ j ≤ m2 ∧ j ≤ 130 ∧ nv = .int .i64 (j : Int) ∧ wq = wo.drewN k ∧ ∀ i, i < j → rest[i]? = some ch)
     (fun nv _ => m2 - (intOf nv).toNat)
    case atStart => exact ⟨1, 0, Nat.le_refl _, by omega, by omega, rfl, rfl, fun i hi => by rw [show i = 0 by omega, List.getElem?_eq_getElem (by have := HLEN.out; omega), HCH0.out]⟩
    case round =>
     obtain ⟨j, k, hj1, hjm, hj130, rfl, hwq, hall⟩ := hrel
     have HALL := zH hall
     clear hall
     subst hwq
     have hq : wo.cell? ⟨bb, 0, none⟩ = some (.slice (some ⟨b, o, none⟩) m2 c2) := HQ0.out
     have k0 : wo.cell? ⟨b, o, none⟩ = some (.int .u8 ((ch.toNat : Nat) : Int)) := by
      have := HCELL.out wo (fun _ _ => rfl) 0 (by have := HLEN.out; omega)
      rw [HCH0.out, Nat.add_zero] at this
      exact this
     have i0 : (0 : Int) ≤ (j : Int) := by omega
     obtain ⟨bq, hbq⟩ : ∃ bq : Bool, bq = (decide (j < m2) && decide (j < 130) && (rest.getD j 0 == ch)) := ⟨_, rfl⟩
     have HBQ := zH hbq
     clear hbq
     gi_upto_region 2 with fail
     gi_cut [24, 27, 28, 29, 30, 31, 32, 33, 34, 35, 36] from 7 (fun v v27 v28 v29 v30 v31 v32 v33 v34 v35 v36 wx => v = .bool bq ∧ (v27 = u27 ∧ v28 = u28 ∧ v29 = u29 ∧ v30 = u30 ∧ v31 = u31 ∧ v32 = u32 ∧ v33 = u33 ∧ v34 = u34 ∧ v35 = u35 ∧ v36 = u36) ∧ ∃ k', wx = wo.drewN k')
     case first =>
      by_cases h1 : j < m2
      · have z1 : (j : Int) < (m2 : Int) := by omega
        have d1 : decide ((j : Int) < (m2 : Int)) = true := decide_eq_true z1
        by_cases h2 : j < 130
        · have z2 : (j : Int) < 130 := by omega
          have d2 : decide ((j : Int) < 130) = true := decide_eq_true z2
          have hjl : j < rest.length := by rw [← HLEN.out]; exact h1
          obtain ⟨x, hx⟩ : ∃ x, x = rest[j] := ⟨_, rfl⟩
          have kj := HCELL.out wo (fun _ _ => rfl) j hjl
          rw [← hx] at kj
          have HBQ2 := zH (show bq = (x == ch) by rw [HBQ.out, decide_eq_true h1, decide_eq_true h2, List.getD_eq_getElem?_getD, List.getElem?_eq_getElem hjl, hx]; rfl)
          by_cases hxc : x = ch
          · have z3 : (((x.toNat : Nat) : Int) == ((ch.toNat : Nat) : Int)) = true := vvz (by rw [hxc])
            have HB3 := zH (show bq = true by rw [HBQ2.out, hxc]; exact beq_self_eq_true ch)
            clear hx hxc h1 h2
            gi_big_quiet_th (fail)
            gi_wp2
            gi_meet
            case rel => exact ⟨by rw [HB3.out], ⟨rfl, rfl, rfl, rfl, rfl, rfl, rfl, rfl, rfl, rfl⟩, k + nq, by first | rfl | exact zqr _ _ _⟩
          · have z3 : (((x.toNat : Nat) : Int) == ((ch.toNat : Nat) : Int)) = false := zzH (fun e => hxc (UInt8.toNat_inj.1 (by omega)))
            have HB3 := zH (show bq = false by rw [HBQ2.out]; simpa using hxc)
            clear hx hxc h1 h2
            gi_big_quiet_th (fail)
            gi_wp2
            gi_meet
            case rel => exact ⟨by rw [HB3.out], ⟨rfl, rfl, rfl, rfl, rfl, rfl, rfl, rfl, rfl, rfl⟩, k + nq, by first | rfl | exact zqr _ _ _⟩
        · have z2 : ¬ (j : Int) < 130 := by omega
          have d2 : decide ((j : Int) < 130) = false := decide_eq_false z2
          have HB3 := zH (show bq = false by rw [HBQ.out, decide_eq_false h2, Bool.and_false, Bool.false_and])
          clear h1 h2
          gi_big_quiet_th (fail)
          gi_wp2
          gi_meet
          case rel => exact ⟨by rw [HB3.out], ⟨rfl, rfl, rfl, rfl, rfl, rfl, rfl, rfl, rfl, rfl⟩, k + nq, by first | rfl | exact zqr _ _ _⟩
      · have z1 : ¬ (j : Int) < (m2 : Int) := by omega
        have d1 : decide ((j : Int) < (m2 : Int)) = false := decide_eq_false z1
        have HB3 := zH (show bq = false by rw [HBQ.out, decide_eq_false h1, Bool.false_and, Bool.false_and])
        clear h1
        gi_big_quiet_th (fail)
        gi_wp2
        gi_meet
        case rel => exact ⟨by rw [HB3.out], ⟨rfl, rfl, rfl, rfl, rfl, rfl, rfl, rfl, rfl, rfl⟩, k + nq, by first | rfl | exact zqr _ _ _⟩
     case rest =>
      obtain ⟨rfl, ⟨rfl, rfl, rfl, rfl, rfl, rfl, rfl, rfl, rfl, rfl⟩, k', hwc⟩ := hcut
      subst hwc
      cases bq with
      | true =>
        have hb := HBQ.out.symm
        simp only [Bool.and_eq_true, decide_eq_true_eq, beq_iff_eq] at hb
        obtain ⟨⟨h1, h2⟩, h3⟩ := hb
        have hjl : j < rest.length := by rw [← HLEN.out]; exact h1
        have HALL2 := zH (show ∀ i, i < j + 1 → rest[i]? = some ch from fun i hi => by
         by_cases h : i < j
         · exact HALL.out i h
         · obtain rfl : i = j := by omega
           rw [List.getD_eq_getElem?_getD, List.getElem?_eq_getElem hjl] at h3
           rw [List.getElem?_eq_getElem hjl, ← h3]; rfl)
        clear h3
        gi_wp2
        go_roundw
        case rel => exact ⟨j + 1, k', by omega, by omega, by omega, by go_num, rfl, HALL2.out⟩
        case measure => simp [intOf]; omega
      | false =>
        have HSTOP := zH (show zzk rest = j from zq5 hj1 (by rw [← HLEN.out]; exact hjm) hj130 (fun i hi => by rw [HALL.out i hi, HCH.out]) (by
         rcases Nat.lt_or_ge j rest.length with h | h
         · rcases Nat.lt_or_ge j 130 with h' | h'
           · right; right
             refine ⟨h, fun e => ?_⟩
             have := HBQ.out
             rw [decide_eq_true (by rw [HLEN.out]; exact h), decide_eq_true h', List.getD_eq_getElem?_getD, List.getElem?_eq_getElem h] at this
             simp only [Bool.and_self, Bool.true_and, Option.getD_some] at this
             rw [e, ← HCH.out, beq_self_eq_true] at this
             cases this
           · left; omega
         · right; left; have := HLEN.out; omega))
        obtain ⟨x, hx⟩ : ∃ x : Rn, x = ⟨ch, j, hj1, hj130⟩ := ⟨_, rfl⟩
        have hpl : pre.length < bs.length := by
         have h1 := congrArg List.length HPR.out
         have h2 := HRL.out
         rw [jjS HNE.out, List.length_append, List.length_cons] at h1
         omega
        obtain ⟨fn, tmps, assign, body, hy, hR⟩ := hY pre x (wo.drewN k') (hJd _ _ _ HJP.out) hpl
        have hxe : rnEnc x = #[.int .u8 ((ch.toNat : Nat) : Int), .int .i64 (j : Int)] := by rw [hx]; rfl
        rw [hxe] at hy
        have HXR := zH (show pre ++ [x] ++ rnL (rest.drop j) = rnL bs by
         rw [← HPR.out, jjS HNE.out, List.append_assoc, List.singleton_append, HSTOP.out]
         congr 2
         rw [hx]
         unfold rnOf
         simp only [Rn.mk.injEq]
         exact ⟨HCH.out, HSTOP.out.symm⟩)
        clear hx hxe hpl
        gi_wp2
        refine hR.mono ?_
        rintro e W3 ⟨rfl, hJ3, hk3⟩
        have hbox3 : W3.heap[bb]? = some (.cells #[.slice (some ⟨b, o, none⟩) m2 c2] 41 (0, 0)) := hk3.1.trans HBOX.out
        have hbs3 : Bs (fun b => b < b0) W3 (some ⟨b, o, none⟩) m2 c2 rest := bs_keepB (HBS.out.drewN k') hk3
        have q3 : W3.cell? ⟨bb, 0, none⟩ = some (.slice (some ⟨b, o, none⟩) m2 c2) := by rw [zC hbox3]; rfl
        have f3 := zF hbox3 0
        have HJ3 := zH hJ3; have HBOX3 := zH hbox3
        have hc := hbs3.cut (lo := j) (hi := m2) hjm zN
        rw [zL (by rw [← HLEN.out]; exact Nat.le_refl _)] at hc
        have hc2' : Bs (fun b => b < b0) W3 (if c2 = j then some ⟨b, o, none⟩ else some ⟨b, o + j, none⟩) (m2 - j) (c2 - j) (rest.drop j) := by
         simpa [Addr.add, show tU8.size = 1 from rfl, show ¬ j = 0 by omega] using hc
        have HC2 := zH hc2'
        have i1 : (j : Int) ≤ (m2 : Int) := by omega
        have i2 : (j : Int) ≤ (c2 : Int) := by omega
        have i3 : (m2 : Int) ≤ (c2 : Int) := by omega
        clear hJ3 hbox3 hbs3 hc hc2' hk3
        by_cases hcj : c2 = j
        · rw [if_pos hcj, show c2 - j = 0 by omega] at HC2
          gi_wp2
          go_roundw
          case rel =>
           exact ⟨pre ++ [x], rest.drop j, (some ⟨b, o, none⟩), m2 - j, 0, HXR.out, by omega, zza HBOX3.out rfl, Sl.setCell HC2.out (p := ⟨bb, 0, none⟩) (fun h => Nat.lt_irrefl _ (Nat.lt_of_lt_of_le h hbb)) _, hJs _ _ _ HJ3.out⟩
          case measure =>
           have e1 : (W3.setCell ⟨bb, 0, none⟩ (.slice (some ⟨b, o, none⟩) (m2 - j) 0)).cell? ⟨bb, 0, none⟩ = some (.slice (some ⟨b, o, none⟩) (m2 - j) 0) := by rw [zC (zza HBOX3.out rfl)]; rfl
           simp only [e1, HQ0.out, Option.getD_some, lenV]
           omega
        · rw [if_neg hcj] at HC2
          gi_wp2
          go_roundw
          case rel =>
           exact ⟨pre ++ [x], rest.drop j, (some ⟨b, o + j, none⟩), m2 - j, (c2 - j), HXR.out, by omega, zza HBOX3.out rfl, Sl.setCell HC2.out (p := ⟨bb, 0, none⟩) (fun h => Nat.lt_irrefl _ (Nat.lt_of_lt_of_le h hbb)) _, hJs _ _ _ HJ3.out⟩
          case measure =>
           have e1 : (W3.setCell ⟨bb, 0, none⟩ (.slice (some ⟨b, o + j, none⟩) (m2 - j) (c2 - j))).cell? ⟨bb, 0, none⟩ = some (.slice (some ⟨b, o + j, none⟩) (m2 - j) (c2 - j)) := by rw [zC (zza HBOX3.out rfl)]; rfl
           simp only [e1, HQ0.out, Option.getD_some, lenV]
           omega
theorem runs_in (n : Nat) (A : Option Addr) (m c : Nat) (w : World) :
 CallsIn Fence.wide n Tryz.prog 202 #[.slice A m c] w fun e w' => e = .returned (.func (.func 241) #[] #[.pointer (some ⟨w.heap.size, 0, none⟩)]) ∧ w' = w.alloc (.cells #[.slice A m c] 41) := by
 refine callsIn_of_wp Tryz.func202 rfl trivial ?_ rfl
 simp only [Tryz.ntmps202, List.size_toArray, List.length_cons, List.length_nil, Nat.reduceAdd, Nat.reduceSub, Array.replicate_succ, Array.replicate_zero, List.push_toArray, List.append_toArray, List.nil_append, List.cons_append]
 gi_wp2
 go_ret
 exact ⟨rfl, rfl⟩
theorem runs_st (n : Nat) (hn : 1 ≤ n) (b0 bb : Nat) (hbb : b0 ≤ bb) (A : Option Addr) (m c : Nat) (bs : List UInt8) (w : World) (hA : w.heap[bb]? = some (.cells #[.slice A m c] 41 (0, 0))) (hs : Bs (fun b => b < b0) w A m c bs) :
 SeqSt Fence.wide n Tryz.prog 241 #[.pointer (some ⟨bb, 0, none⟩)] rnEnc bb (KpB b0 bb) (fun xs => xs = rnL bs) bs.length w := fun l J W hW hJd hJs hY h0 =>
 runs1_in n hn l b0 bb hbb A m c bs J hJd hJs hY W ((hW.block bb (zzb hA)).trans hA) (hs.below hW zN) h0
end
end Go.Proofs.YtpmglcachffojaaGreatDoor
