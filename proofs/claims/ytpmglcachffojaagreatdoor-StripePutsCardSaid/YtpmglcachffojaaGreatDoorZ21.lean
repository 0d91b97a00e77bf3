/- A part of what Puts leans on. -/
import Derived.Test.YtpmglcachffojaaGreatDoorZ3
import Derived.Test.YtpmglcachffojaaGreatDoorZ20
import Derived.Sort.BigQuietIn
import Derived.Sort.CutIn
import Derived.ArgAppend
import Derived.Deep.QuietTactic
import Derived.BigQuiet
set_option maxRecDepth 100000
set_option maxHeartbeats 16000000
namespace Go.Proofs.YtpmglcachffojaaGreatDoor
section
open Go Go.RowKit Go.Shelf BigFrame
attribute [local go_sem] Oper.semAt_some
def rnEnc (x : Rn) : Array Value := #[.int .u8 (x.c.toNat : Int), .int .i64 (x.n : Int)]
def KpB (b0 bb : Nat) (W W' : World) : Prop := W'.heap[bb]? = W.heap[bb]? ∧ (∀ b, b < b0 → W'.heap[b]? = W.heap[b]?) ∧ W.heap.size ≤ W'.heap.size
theorem KpB.trans {b0 bb : Nat} {A B C : World} (h : KpB b0 bb A B) (k : KpB b0 bb B C) : KpB b0 bb A C := ⟨k.1.trans h.1, fun b hb => (k.2.1 b hb).trans (h.2.1 b hb), Nat.le_trans h.2.2 k.2.2⟩
theorem KpB.put {b0 bb : Nat} {w : World} (h0 : b0 ≤ w.heap.size) (h1 : bb < w.heap.size) (W : World) (l : Nat) (o : Obj) (hl : w.heap.size ≤ l) : KpB b0 bb W (W.putObj l o) :=
 ⟨World.putObj_heap_other (by omega), fun b hb => World.putObj_heap_other (by omega), by simp⟩
theorem bs_keepB {b0 bb : Nat} {W W' : World} {A : Option Addr} {n c : Nat} {l : List UInt8} (h : Bs (fun b => b < b0) W A n c l) (k : KpB b0 bb W W') : Bs (fun b => b < b0) W' A n c l := h.keep k.2.2 fun b hb _ => k.2.1 b hb
theorem qxh (w : World) (a b : Nat) : (w.drewN a).drewN b = w.drewN (a + b) := by unfold World.drewN; simp [Nat.add_assoc]
theorem headD_get (l : List UInt8) (h : 0 < l.length) : l.headD 0 = l[0] := by
 cases l with
 | nil => simp at h
 | cons a r => rfl
theorem runs1_in (n : Nat) (hn : 1 ≤ n) (l b0 bb : Nat) (hbb : b0 ≤ bb) (A : Option Addr) (m c : Nat) (bs : List UInt8) (J : List Rn → World → Prop) (hJd : ∀ pre W1 k, J pre W1 → J pre (W1.drewN k)) (hJs : ∀ pre W1 v, J pre W1 → J pre (W1.setCell ⟨bb, 0, none⟩ v))
 (hY : ∀ pre x W1, J pre W1 → pre.length < bs.length → YieldAt Fence.wide (n - 1) Tryz.prog l (rnEnc x) W1 fun e W' => e = .returned (.bool true) ∧ J (pre ++ [x]) W' ∧ KpB b0 bb W1 W')
 (W : World) (hA : W.heap[bb]? = some (.cells #[.slice A m c] 41 (0, 0))) (hs : Bs (fun b => b < b0) W A m c bs) (h0 : J [] W) :
 CallsIn Fence.wide n Tryz.prog 241 #[.func (.yield l) #[] #[], .pointer (some ⟨bb, 0, none⟩)] W fun e W' => (∃ v, e = .returned v) ∧ ∃ xs, xs = rnL bs ∧ J xs W' := by
 have HRL := zH (rnL_len bs)
 have HA := zH hA; have HS := zH hs
 clear hA hs
 refine callsIn_of_wp Tryz.func241 rfl trivial ?_ rfl
 simp only [Tryz.ntmps241, List.size_toArray, List.length_cons, List.length_nil, Nat.reduceAdd, Nat.reduceSub, Array.replicate_succ, Array.replicate_zero, List.push_toArray, List.append_toArray, List.nil_append, List.cons_append]
 gi_wp2
 gi_loopw [3] (fun _ wr => ∃ (pre : List Rn) (rest : List UInt8) (A2 : Option Addr) (m2 c2 : Nat), pre ++ rnL rest = rnL bs ∧ m2 ≤ m ∧ wr.heap[bb]? = some (.cells #[.slice A2 m2 c2] 41 (0, 0)) ∧ Bs (fun b => b < b0) wr A2 m2 c2 rest ∧ J pre wr)
  (fun _ wr => lenV ((wr.cell? ⟨bb, 0, none⟩).getD undef))
 case atStart => exact ⟨[], bs, A, m, c, rfl, Nat.le_refl _, HA.out, HS.out, h0⟩
 case round =>
  obtain ⟨pre, rest, A2, m2, c2, hpr, hm2, hbox, hbs, hJp⟩ := hrel
  have HPR := zH hpr; have HBOX := zH hbox; have HBS := zH hbs; have HJP := zH hJp
  have q0 : wr.cell? ⟨bb, 0, none⟩ = some (.slice A2 m2 c2) := by rw [zC hbox]; rfl
  have HQ0 := zH q0
  have hlen := hbs.len
  clear hpr hbox hbs hJp
  by_cases hz : m2 = 0
  · obtain rfl : rest = [] := List.length_eq_zero_iff.1 (by omega)
    subst hz
    clear hlen
    gi_wp2
    go_end0
    exact ⟨⟨_, rfl⟩, _, by rw [← HPR.out, rnL_nil, List.append_nil], HJP.out⟩
  · have hne : rest ≠ [] := fun e => by rw [e] at hlen; simp at hlen; omega
    have hmp : (0 : Int) < (m2 : Int) := by omega
    have hmn : 0 < m2 := by omega
    have hmd : decide (0 < m2) = true := decide_eq_true hmn
    have HNE := zH hne
    have HLEN := zH hlen
    have hc2 := HBS.out.2.1
    have hc3 := HBS.out.2.2.1
    unfold maxLen at hc3
    clear hlen hne
    obtain ⟨ch, hch⟩ : ∃ ch, ch = rest.headD 0 := ⟨_, rfl⟩
    obtain ⟨b, o, hA2, hbb0, hbl, _⟩ := bs_at HBS.out (k := 0) (by have := HLEN.out; omega)
    subst hA2
    have HCELL : Hid (∀ W' : World, (∀ b, b < b0 → W'.heap[b]? = wr.heap[b]?) → ∀ j (hj : j < rest.length), W'.cell? ⟨b, o + j, none⟩ = some (.int .u8 ((rest[j].toNat : Nat) : Int))) := zH (fun (W' : World) (hW' : ∀ b, b < b0 → W'.heap[b]? = wr.heap[b]?) (j : Nat) (hj : j < rest.length) => by
     obtain ⟨b', o', he, _, _, hc⟩ := bs_at HBS.out hj
     injection he with he; injection he with e1 e2 _
     subst e1 e2
     exact (World.cell?_of_block (a := ⟨b, o + j, none⟩) (hW' b hbb0)).trans hc)
    have hch0 : rest[0]'(by have := HLEN.out; omega) = ch := by rw [hch]; exact (headD_get _ _).symm
    have HCH0 := zH hch0
    have HCH := zH hch
    clear hch hch0
    gi_wp2
    obtain ⟨wo, rfl⟩ : ∃ wo, wo = wr := ⟨wr, rfl⟩
    gi_loopw [3] (fun nv wq => ∃ (j k : Nat), 1 ≤ j ∧ j ≤ m2 ∧ j ≤ 130 ∧ nv = .int .i64 (j : Int) ∧ wq = wo.drewN k ∧ ∀ i, i < j → rest[i]? = some ch)
     (fun nv _ => m2 - (intOf nv).toNat)
    case atStart => exact ⟨1, 0, Nat.le_refl _, by omega, by omega, rfl, rfl, fun i hi => by rw [show i = 0 by omega, List.getElem?_eq_getElem (by have := HLEN.out; omega), HCH0.out]⟩
    case round =>
     obtain ⟨j, k, hj1, hjm, hj130, rfl, hwq, hall⟩ := hrel
     have HALL := zH hall
     clear hall
     subst hwq
     have hq : wo.cell? ⟨bb, 0, none⟩ = some (.slice (some ⟨b, o, none⟩) m2 c2) := HQ0.out
     have k0 : wo.cell? ⟨b, o, none⟩ = some (.int .u8 ((ch.toNat : Nat) : Int)) := by
      have := HCELL.out wo (fun _ _ => rfl) 0 (by have := HLEN.out; omega)
      rw [HCH0.out, Nat.add_zero] at this
      exact this
     have i0 : (0 : Int) ≤ (j : Int) := by omega
     obtain ⟨bq, hbq⟩ : ∃ bq : Bool, bq = (decide (j < m2) && decide (j < 130) && (rest.getD j 0 == ch)) := ⟨_, rfl⟩
     have HBQ := zH hbq
     clear hbq
     gi_upto_region 2 with fail
     gi_cut [24, 27, 28, 29, 30, 31, 32, 33, 34, 35, 36] from 7 (fun v v27 v28 v29 v30 v31 v32 v33 v34 v35 v36 wx => v = .bool bq ∧ (v27 = u27 ∧ v28 = u28 ∧ v29 = u29 ∧ v30 = u30 ∧ v31 = u31 ∧ v32 = u32 ∧ v33 = u33 ∧ v34 = u34 ∧ v35 = u35 ∧ v36 = u36) ∧ ∃ k', wx = wo.drewN k')
     case first =>
      by_cases h1 : j < m2
      · have z1 : (j : Int) < (m2 : Int) := by omega
        have d1 : decide ((j : Int) < (m2 : Int)) = true := decide_eq_true z1
        by_cases h2 : j < 130
        · have z2 : (j : Int) < 130 := by omega
          have d2 : decide ((j : Int) < 130) = true := decide_eq_true z2
          have hjl : j < rest.length := by rw [← HLEN.out]; exact h1
          obtain ⟨x, hx⟩ : ∃ x, x = rest[j] := ⟨_, rfl⟩
          have kj := HCELL.out wo (fun _ _ => rfl) j hjl
          rw [← hx] at kj
          have HBQ2 := zH (show bq = (x == ch) by rw [HBQ.out, decide_eq_true h1, decide_eq_true h2, List.getD_eq_getElem?_getD, List.getElem?_eq_getElem hjl, hx]; rfl)
          by_cases hxc : x = ch
          · have z3 : (((x.toNat : Nat) : Int) == ((ch.toNat : Nat) : Int)) = true := xxQ (by rw [hxc])
            have HB3 := zH (show bq = true by rw [HBQ2.out, hxc]; exact beq_self_eq_true ch)
            clear hx hxc h1 h2
            gi_big_quiet_th (fail)
            gi_wp2
            gi_meet
            case rel => exact ⟨by rw [HB3.out], ⟨rfl, rfl, rfl, rfl, rfl, rfl, rfl, rfl, rfl, rfl⟩, k + nq, by first | rfl | exact qxh _ _ _⟩
          · have z3 : (((x.toNat : Nat) : Int) == ((ch.toNat : Nat) : Int)) = false := zzv (fun e => hxc (UInt8.toNat_inj.1 (by omega)))
            have HB3 := zH (show bq = false by rw [HBQ2.out]; simpa using hxc)
            clear hx hxc h1 h2
            gi_big_quiet_th (fail)
            gi_wp2
            gi_meet
            case rel => exact ⟨by rw [HB3.out], ⟨rfl, rfl, rfl, rfl, rfl, rfl, rfl, rfl, rfl, rfl⟩, k + nq, by first | rfl | exact qxh _ _ _⟩
        · have z2 : ¬ (j : Int) < 130 := by omega
          have d2 : decide ((j : Int) < 130) = false := decide_eq_false z2
          have HB3 := zH (show bq = false by rw [HBQ.out, decide_eq_false h2, Bool.and_false, Bool.false_and])
          clear h1 h2
          gi_big_quiet_th (fail)
          gi_wp2
          gi_meet
          case rel => exact ⟨by rw [HB3.out], ⟨rfl, rfl, rfl, rfl, rfl, rfl, rfl, rfl, rfl, rfl⟩, k + nq, by first | rfl | exact qxh _ _ _⟩
      · have z1 : ¬ (j : Int) < (m2 : Int) := by omega
        have d1 : decide ((j : Int) < (m2 : Int)) = false := decide_eq_false z1
        have HB3 := zH (show bq = false by rw [HBQ.out, decide_eq_false h1, Bool.false_and, Bool.false_and])
        clear h1
        gi_big_quiet_th (fail)
        gi_wp2
        gi_meet
        case rel => exact ⟨by rw [HB3.out], ⟨rfl, rfl, rfl, rfl, rfl, rfl, rfl, rfl, rfl, rfl⟩, k + nq, by first | rfl | exact qxh _ _ _⟩
     case rest =>
      obtain ⟨rfl, ⟨rfl, rfl, rfl, rfl, rfl, rfl, rfl, rfl, rfl, rfl⟩, k', hwc⟩ := hcut
      subst hwc
      cases bq with
      | true =>
        have hb := HBQ.out.symm
        simp only [Bool.and_eq_true, decide_eq_true_eq, beq_iff_eq] at hb
        obtain ⟨⟨h1, h2⟩, h3⟩ := hb
        have hjl : j < rest.length := by rw [← HLEN.out]; exact h1
        have HALL2 := zH (show ∀ i, i < j + 1 → rest[i]? = some ch from fun i hi => by
         by_cases h : i < j
         · exact HALL.out i h
         · obtain rfl : i = j := by omega
           rw [List.getD_eq_getElem?_getD, List.getElem?_eq_getElem hjl] at h3
           rw [List.getElem?_eq_getElem hjl, ← h3]; rfl)
        clear h3
        gi_wp2
        go_roundw
        case rel => exact ⟨j + 1, k', by omega, by omega, by omega, by go_num, rfl, HALL2.out⟩
        case measure => simp [intOf]; omega
      | false =>
        have HSTOP := zH (show zzl rest = j from qxP hj1 (by rw [← HLEN.out]; exact hjm) hj130 (fun i hi => by rw [HALL.out i hi, HCH.out]) (by
         rcases Nat.lt_or_ge j rest.length with h | h
         · rcases Nat.lt_or_ge j 130 with h' | h'
           · right; right
             refine ⟨h, fun e => ?_⟩
             have := HBQ.out
             rw [decide_eq_true (by rw [HLEN.out]; exact h), decide_eq_true h', List.getD_eq_getElem?_getD, List.getElem?_eq_getElem h] at this
             simp only [Bool.and_self, Bool.true_and, Option.getD_some] at this
             rw [e, ← HCH.out, beq_self_eq_true] at this
             cases this
           · left; omega
         · right; left; have := HLEN.out; omega))
        obtain ⟨x, hx⟩ : ∃ x : Rn, x = ⟨ch, j, hj1, hj130⟩ := ⟨_, rfl⟩
        have hpl : pre.length < bs.length := by
         have h1 := congrArg List.length HPR.out
         have h2 := HRL.out
         rw [kqO HNE.out, List.length_append, List.length_cons] at h1
         omega
        obtain ⟨fn, tmps, assign, body, hy, hR⟩ := hY pre x (wo.drewN k') (hJd _ _ _ HJP.out) hpl
        have hxe : rnEnc x = #[.int .u8 ((ch.toNat : Nat) : Int), .int .i64 (j : Int)] := by rw [hx]; rfl
        rw [hxe] at hy
        have HXR := zH (show pre ++ [x] ++ rnL (rest.drop j) = rnL bs by
         rw [← HPR.out, kqO HNE.out, List.append_assoc, List.singleton_append, HSTOP.out]
         congr 2
         rw [hx]
         unfold rnOf
         simp only [Rn.mk.injEq]
         exact ⟨HCH.out, HSTOP.out.symm⟩)
        clear hx hxe hpl
        gi_wp2
        refine hR.mono ?_
        rintro e W3 ⟨rfl, hJ3, hk3⟩
        have hbox3 : W3.heap[bb]? = some (.cells #[.slice (some ⟨b, o, none⟩) m2 c2] 41 (0, 0)) := hk3.1.trans HBOX.out
        have hbs3 : Bs (fun b => b < b0) W3 (some ⟨b, o, none⟩) m2 c2 rest := bs_keepB (HBS.out.drewN k') hk3
        have q3 : W3.cell? ⟨bb, 0, none⟩ = some (.slice (some ⟨b, o, none⟩) m2 c2) := by rw [zC hbox3]; rfl
        have f3 := zF hbox3 0
        have HJ3 := zH hJ3; have HBOX3 := zH hbox3
        have hc := hbs3.cut (lo := j) (hi := m2) hjm zN
        rw [zL (by rw [← HLEN.out]; exact Nat.le_refl _)] at hc
        have hc2' : Bs (fun b => b < b0) W3 (if c2 = j then some ⟨b, o, none⟩ else some ⟨b, o + j, none⟩) (m2 - j) (c2 - j) (rest.drop j) := by
         simpa [Addr.add, show tU8.size = 1 from rfl, show ¬ j = 0 by omega] using hc
        have HC2 := zH hc2'
        have i1 : (j : Int) ≤ (m2 : Int) := by omega
        have i2 : (j : Int) ≤ (c2 : Int) := by omega
        have i3 : (m2 : Int) ≤ (c2 : Int) := by omega
        clear hJ3 hbox3 hbs3 hc hc2' hk3
        by_cases hcj : c2 = j
        · rw [if_pos hcj, show c2 - j = 0 by omega] at HC2
          gi_wp2
          go_roundw
          case rel =>
           exact ⟨pre ++ [x], rest.drop j, (some ⟨b, o, none⟩), m2 - j, 0, HXR.out, by omega, zza HBOX3.out rfl, Sl.setCell HC2.out (p := ⟨bb, 0, none⟩) (fun h => Nat.lt_irrefl _ (Nat.lt_of_lt_of_le h hbb)) _, hJs _ _ _ HJ3.out⟩
          case measure =>
           have e1 : (W3.setCell ⟨bb, 0, none⟩ (.slice (some ⟨b, o, none⟩) (m2 - j) 0)).cell? ⟨bb, 0, none⟩ = some (.slice (some ⟨b, o, none⟩) (m2 - j) 0) := by rw [zC (zza HBOX3.out rfl)]; rfl
           simp only [e1, HQ0.out, Option.getD_some, lenV]
           omega
        · rw [if_neg hcj] at HC2
          gi_wp2
          go_roundw
          case rel =>
           exact ⟨pre ++ [x], rest.drop j, (some ⟨b, o + j, none⟩), m2 - j, (c2 - j), HXR.out, by omega, zza HBOX3.out rfl, Sl.setCell HC2.out (p := ⟨bb, 0, none⟩) (fun h => Nat.lt_irrefl _ (Nat.lt_of_lt_of_le h hbb)) _, hJs _ _ _ HJ3.out⟩
          case measure =>
           have e1 : (W3.setCell ⟨bb, 0, none⟩ (.slice (some ⟨b, o + j, none⟩) (m2 - j) (c2 - j))).cell? ⟨bb, 0, none⟩ = some (.slice (some ⟨b, o + j, none⟩) (m2 - j) (c2 - j)) := by rw [zC (zza HBOX3.out rfl)]; rfl
           simp only [e1, HQ0.out, Option.getD_some, lenV]
           omega
theorem runs_in (n : Nat) (A : Option Addr) (m c : Nat) (w : World) :
 CallsIn Fence.wide n Tryz.prog 202 #[.slice A m c] w fun e w' => e = .returned (.func (.func 241) #[] #[.pointer (some ⟨w.heap.size, 0, none⟩)]) ∧ w' = w.alloc (.cells #[.slice A m c] 41) := by
 refine callsIn_of_wp Tryz.func202 rfl trivial ?_ rfl
 simp only [Tryz.ntmps202, List.size_toArray, List.length_cons, List.length_nil, Nat.reduceAdd, Nat.reduceSub, Array.replicate_succ, Array.replicate_zero, List.push_toArray, List.append_toArray, List.nil_append, List.cons_append]
 gi_wp2
 go_ret
 exact ⟨rfl, rfl⟩
theorem runs_st (n : Nat) (hn : 1 ≤ n) (b0 bb : Nat) (hbb : b0 ≤ bb) (A : Option Addr) (m c : Nat) (bs : List UInt8) (w : World) (hA : w.heap[bb]? = some (.cells #[.slice A m c] 41 (0, 0))) (hs : Bs (fun b => b < b0) w A m c bs) :
 SeqSt Fence.wide n Tryz.prog 241 #[.pointer (some ⟨bb, 0, none⟩)] rnEnc bb (KpB b0 bb) (fun xs => xs = rnL bs) bs.length w := fun l J W hW hJd hJs hY h0 =>
 runs1_in n hn l b0 bb hbb A m c bs J hJd hJs hY W ((hW.block bb (zzb hA)).trans hA) (hs.below hW zN) h0
end
section
open Go Go.RowKit
structure MidB (w : World) (B : Nat) (A : Option Addr) (n c : Nat) (l : List UInt8) : Prop where
 len : n = l.length
 cap : n ≤ c
 max : c ≤ maxLen
 row : c = 0 ∨ ∃ g o cur, A = some ⟨g, o, none⟩ ∧ B ≤ g ∧ w.heap[g]? = some (.cells cur 5 (0, 0)) ∧ o + c ≤ cur.size ∧ ∀ j (h : j < l.length), cur[o + j]? = some (.int .u8 ((l[j].toNat : Nat) : Int))
def blkM (A : Option Addr) (c : Nat) : Option Nat := if c = 0 then none else A.map (·.block)
theorem MidB.nil_ (w : World) (B : Nat) : MidB w B none 0 0 [] := ⟨rfl, Nat.le_refl _, by simp [maxLen], .inl rfl⟩
theorem MidB.blk {w : World} {B : Nat} {A : Option Addr} {n c : Nat} {l : List UInt8} (h : MidB w B A n c l) {g : Nat} (hg : blkM A c = some g) : B ≤ g ∧ g < w.heap.size ∧ ∃ cur, w.heap[g]? = some (.cells cur 5 (0, 0)) := by
 unfold blkM at hg
 split at hg
 · cases hg
 · rename_i hc
   rcases h.row with h0 | ⟨g', o, cur, rfl, h2, h3, _⟩
   · exact absurd h0 hc
   · injection hg with hg
     subst hg
     exact ⟨h2, zzb h3, cur, h3⟩
theorem MidB.keep {w w' : World} {B : Nat} {A : Option Addr} {n c : Nat} {l : List UInt8} (h : MidB w B A n c l) (hk : ∀ g, blkM A c = some g → w'.heap[g]? = w.heap[g]?) : MidB w' B A n c l := by
 refine ⟨h.len, h.cap, h.max, ?_⟩
 rcases h.row with h0 | ⟨g, o, cur, rfl, h2, h3, h4, h5⟩
 · exact .inl h0
 · by_cases hc : c = 0
   · exact .inl hc
   · exact .inr ⟨g, o, cur, rfl, h2, (hk g (by unfold blkM; rw [if_neg hc]; rfl)).trans h3, h4, h5⟩
theorem MidB.bs {w : World} {B : Nat} {A : Option Addr} {n c : Nat} {l : List UInt8} (h : MidB w B A n c l) : Bs (fun b => blkM A c = some b) w A n c l := by
 refine bs_mk (fun hne => ?_) h.len h.cap h.max
 rcases h.row with h0 | ⟨g, o, cur, rfl, h2, h3, h4, h5⟩
 · have := h.len
   have h1 := h.cap
   exact absurd (List.length_eq_zero_iff.1 (by rw [zzS]; omega)) hne
 · have hc : c ≠ 0 := fun h0 => by
    have := h.len
    have h1 := h.cap
    exact absurd (List.length_eq_zero_iff.1 (by rw [zzS]; omega)) hne
   refine ⟨g, o, rfl, by unfold blkM; rw [if_neg hc]; rfl, zzb h3, fun j u hu => ?_⟩
   have hj : j < l.length := by
    rcases Nat.lt_or_ge j l.length with h | h
    · exact h
    · rw [List.getElem?_eq_none (by rw [zzS]; exact h)] at hu; cases hu
   rw [vvt l j hj] at hu
   rw [zC h3, h5 j hj, hu]
theorem MidB.of_own {w : World} {B : Nat} {A : Option Addr} {n c : Nat} {l : List UInt8} (h : OwnB w B A n c l) : MidB w B A n c l := by
 refine ⟨h.len, (xxM h).1, (xxM h).2, ?_⟩
 rcases h.2 with ⟨h1, _⟩ | ⟨g, cap, cur, h1, hb, hg, hn, hcm, hsz, ht⟩
 · injection h1 with _ _ h3
   exact .inl h3
 · injection h1 with e1 _ e3
   subst e1 e3
   refine .inr ⟨g, 0, cur, rfl, hb, hg, by omega, fun j hj => ?_⟩
   have h4 := h.cells (g := g) rfl j _ (vvt l j hj)
   rw [yy4, zC hg] at h4
   exact h4
theorem jjA {g b : Nat} (hne : b ≠ g) : ∀ (vs : List Value) (q : Nat) (w : World), (w.setCells g q vs).heap[b]? = w.heap[b]?
 | [], _, _ => rfl
 | v :: r, q, w => (jjA hne r (q + 1) _).trans (Below.heap_setCell w ⟨g, q, none⟩ v b hne)
theorem qxi {g : Nat} {t : TypeId} {fr : Nat × Nat} : ∀ (vs : List Value) (q : Nat) (w : World) (cur : Array Value), w.heap[g]? = some (.cells cur t fr) → ∃ cur', (w.setCells g q vs).heap[g]? = some (.cells cur' t fr) ∧ cur'.size = cur.size ∧
 (∀ j, j < q ∨ q + vs.length ≤ j → cur'[j]? = cur[j]?) ∧ ∀ j (h : j < vs.length), q + j < cur.size → cur'[q + j]? = some vs[j]
 | [], q, w, cur, h => ⟨cur, h, rfl, fun _ _ => rfl, fun j hj => by simp at hj⟩
 | v :: r, q, w, cur, h => by
   obtain ⟨cur', h1, h2, h3, h4⟩ := qxi r (q + 1) (w.setCell ⟨g, q, none⟩ v) (cur.setIfInBounds q v) (zza h rfl)
   refine ⟨cur', h1, by rw [h2, Array.size_setIfInBounds], fun j hj => ?_, fun j hj hjs => ?_⟩
   · rw [List.length_cons] at hj
     rw [h3 j (by omega), Array.getElem?_setIfInBounds_ne (by omega)]
   · cases j with
     | zero =>
       rw [h3 (q + 0) (by omega), Nat.add_zero, Array.getElem?_setIfInBounds_self_of_lt (by simpa using hjs)]
       rfl
     | succ i =>
       have := h4 i (by simpa using hj) (by rw [Array.size_setIfInBounds]; omega)
       rw [show q + (i + 1) = q + 1 + i by omega, this]
       rfl
theorem grown_scs (w : World) (g q : Nat) (vs : List Value) : w.grownBy (w.setCells g q vs) (some g) := by
 have hb := vvV (B := 0) (g := g) (a := w) (Nat.zero_le _) vs q (Below.refl 0 w)
 exact ⟨hb.os, hb.tape, hb.output, hb.size, fun k _ hk => jjA (fun e => hk (by rw [e])) vs q w⟩
theorem qxZ {w w' : World} (h : w.grownBy w' none) (row : Option Nat) : w.grownBy w' row := ⟨h.os, h.tape, h.output, h.size, fun k hk _ => h.block k hk (by simp)⟩
theorem bytes_fit {k : Nat} (h : k ≤ 68719476736) : k ≤ maxLen ∧ k * 1 ≤ 140737488355328 := by unfold maxLen; omega
theorem qx0 (w : World) (B : Nat) (A : Option Addr) (n c : Nat) (l : List UInt8) (h : MidB w B A n c l) (hB : B ≤ w.heap.size) (ty : TypeId) (F : Nat → Prop) (ad : Addr) (m c2 : Nat) (ys : List UInt8) (hs : Bs F w (some ad) m c2 ys) (hm : 1 ≤ m) (hlim : n + m ≤ 68719476736) :
 ∃ A' c' w', (Builtin.append_ #[41, 41] ty #[.slice A n c, .slice (some ad) m c2]).run Tryz.prog w = .ok (.slice A' (n + m) c') w' ∧ MidB w' B A' (n + m) c' (l ++ ys) ∧ w.grownBy w' (blkM A c) ∧ (blkM A' c' = blkM A c ∨ ∀ g, blkM A' c' = some g → w.heap.size ≤ g) := by
 obtain ⟨i, hi, h0, h1, h2⟩ := info_parts vvJ
 have hne : ys ≠ [] := fun e => by have := hs.len; rw [e] at this; simp at this; omega
 have hnews : ∀ j u, (bvs ys)[j]? = some u → w.cell? (ad.add j) = some u := (xqN hs).news rfl
 have hl : (bvs ys).length = m * 1 := by rw [zzS, Nat.mul_one]; exact hs.len.symm
 have hfit := bytes_fit hlim
 have grow : ∀ v' w', w'.ownsRow w.heap.size 5 1 v' (n + m) (bvs l ++ bvs ys) → w.grownBy w' none → ∃ A' c', v' = .slice A' (n + m) c' ∧ MidB w' B A' (n + m) c' (l ++ ys) ∧ (blkM A' c' = blkM A c ∨ ∀ g, blkM A' c' = some g → w.heap.size ≤ g) := fun v' w' ho hg => by
  rw [← jj9] at ho
  rcases ho.2 with ⟨_, hz⟩ | ⟨g, cap, cur, rfl, hb, hgc, hn, hcm, hsz, ht⟩
  · omega
  · have hm2 : MidB w' w.heap.size (some ⟨g, 0, none⟩) (n + m) cap (l ++ ys) := MidB.of_own (show OwnB w' w.heap.size (some ⟨g, 0, none⟩) (n + m) cap (l ++ ys) from ho)
    refine ⟨_, cap, rfl, ⟨hm2.len, hm2.cap, hm2.max, ?_⟩, ?_⟩
    · rcases hm2.row with hc | ⟨g', o, cur', e, k2, k3⟩
      · exact .inl hc
      · exact .inr ⟨g', o, cur', e, by omega, k3⟩
    · refine .inr fun g' hg' => ?_
      have := hm2.blk hg'
      omega
 by_cases hroom : n + m ≤ c
 · rcases h.row with hc | ⟨g, o, cur, rfl, k2, k3, k4, k5⟩
   · omega
   · have hcell : ∀ j, j < c → (w.cell? ⟨g, o + j, none⟩).isSome = true := fun j hj => by
      rw [zC k3, Array.getElem?_eq_getElem (by omega)]; rfl
     have hln := h.len
     obtain ⟨cur', q1, q2, q3, q4⟩ := qxi (bvs ys) (o + n * i.size) w cur k3
     rw [h1, Nat.mul_one] at q1 q3 q4
     refine ⟨some ⟨g, o, none⟩, c, w.setCells g (o + n) (bvs ys), ?_, ⟨?_, hroom, h.max, .inr ⟨g, o, cur', rfl, k2, q1, by omega, fun j hj => ?_⟩⟩, ?_, .inl rfl⟩
     · have := run_append_room_cells (P := Tryz.prog) w 41 ty 5 i yya hi g o n c ad m c2 (bvs ys) (by rw [hl, h1]) hnews (zqn ys) hroom
        (fun j hj => by rw [h1, Nat.mul_one, Nat.add_assoc]; exact hcell _ (by rw [hl] at hj; omega)) (fun j _ => zF k3 _)
       rw [h1, Nat.mul_one] at this
       exact this
     · rw [List.length_append, ← hln, ← hs.len]
     · by_cases hjl : j < l.length
       · rw [q3 (o + j) (by omega), k5 j hjl, List.getElem_append_left hjl]
       · obtain ⟨p, rfl⟩ : ∃ p, j = l.length + p := ⟨j - l.length, by omega⟩
         have hp : p < ys.length := by rw [List.length_append] at hj; omega
         have e1 := q4 p (by rw [zzS]; exact hp) (by rw [List.length_append, ← hs.len] at hj; omega)
         have e2 := vvt ys p hp
         rw [List.getElem?_eq_getElem (by rw [zzS]; exact hp)] at e2
         have e3 : (l ++ ys)[l.length + p]'hj = ys[p] := by rw [List.getElem_append_right (Nat.le_add_right _ _)]; simp only [Nat.add_sub_cancel_left]
         rw [show o + (l.length + p) = o + n + p by omega, e1, Option.some.inj e2, e3]
     · rw [show blkM (some ⟨g, o, none⟩) c = some g by unfold blkM; rw [if_neg (by omega)]; rfl]
       exact grown_scs w g (o + n) (bvs ys)
 · cases A with
   | none =>
     have hz : n = 0 ∧ c = 0 := by
      rcases h.row with hc | ⟨g, o, cur, e, _⟩
      · have := h.cap; omega
      · cases e
     obtain ⟨rfl, rfl⟩ := hz
     obtain rfl : l = [] := List.length_eq_zero_iff.1 h.len.symm
     obtain ⟨v', w', hrun, r1, r2, _⟩ := run_append_own (P := Tryz.prog) w w.heap.size 41 ty 5 i (.int .u8 0) 1 1 yya hi h0 h1 h2 rfl (by decide) (.slice none 0 0) 0 [] (World.ownsRow_nil w _ _ 1) ad m c2 (bvs ys) hl hnews (zqn ys) hfit.1 hfit.2 zN
     obtain ⟨A', c', rfl, hm2, hlies⟩ := grow v' w' r1 r2
     exact ⟨A', c', w', hrun, hm2, r2, hlies⟩
   | some b =>
     have holds : ∀ j u, (bvs l)[j]? = some u → w.cell? (b.add j) = some u := by
      by_cases hl0 : l = []
      · subst hl0; intro j u hu; simp [bvs] at hu
      · obtain ⟨g, o, e, _, _, _⟩ := xqN h.bs (by rw [Ne, ← List.length_eq_zero_iff, zzS, List.length_eq_zero_iff]; exact hl0)
        exact (xqN h.bs).news rfl
     obtain ⟨v', w', hrun, r1, r2⟩ := run_append_arg_grows (P := Tryz.prog) w 41 ty 5 i (.int .u8 0) 1 1 yya hi h0 h1 h2 rfl (by decide) b n c (bvs l) (by rw [zzS, Nat.mul_one]; exact h.len.symm) holds ad m c2 (bvs ys) hl hnews (by omega) hfit.1 hfit.2
     obtain ⟨A', c', rfl, hm2, hlies⟩ := grow v' w' r1 r2
     exact ⟨A', c', w', hrun, hm2, qxZ r2 _, hlies⟩
end
section
open Go Go.RowKit
theorem tw_geI {p : Int → Bool} : ∀ (l : List Int) (k : Nat), k ≤ l.length → (∀ j (_ : j < l.length), j < k → p l[j] = true) → k ≤ (l.takeWhile p).length
 | [], k, h, _ => by simpa using h
 | x :: r, 0, _, _ => Nat.zero_le _
 | x :: r, k + 1, h, hp => by
   have h0 : p x = true := hp 0 (by simp) (by omega)
   have h1 := tw_geI r k (by simpa using h) (fun j hj hk => hp (j + 1) (by simpa using hj) (by omega))
   rw [List.takeWhile_cons, if_pos h0, List.length_cons]
   omega
theorem qxE {p : Int → Bool} : ∀ (l : List Int) (k : Nat) (h : k < l.length), p l[k] = false → (l.takeWhile p).length ≤ k
 | x :: r, 0, _, hp => by
   have hp : p x = false := hp
   rw [List.takeWhile_cons, if_neg (by rw [hp]; decide)]; simp
 | x :: r, k + 1, h, hp => by
   have h1 := qxE r k (by simpa using h) hp
   rw [List.takeWhile_cons]
   split
   · rw [List.length_cons]; omega
   · simp
theorem qxF (l : List Int) (k : Nat) (h0 : 0 < l.length) (hl : k ≤ l.length) (he : ∀ j (_ : j < l.length), j < k → l[j] = l[0]) (hx : k = l.length ∨ ∃ h : k < l.length, l[k] ≠ l[0]) : yyh l = k := by
 have hd : l.headD 0 = l[0] := by match l, h0 with | _ :: _, _ => rfl
 have hge : k ≤ (l.takeWhile (· == l[0])).length := tw_geI _ k hl fun j hj hjk => by rw [he j hj hjk]; simp
 have hle := (List.takeWhile_prefix (l := l) (· == l[0])).length_le
 unfold yyh
 rw [hd]
 rcases hx with h | ⟨h, hne⟩
 · omega
 · have h2 := qxE (p := (· == l[0])) l k h (by simpa using hne)
   omega
theorem yy0 (F : Nat → Prop) (A : Option Addr) (n c : Nat) (l : List Int) (w : World) (h : Sl tI64 F w A n c l) (hl : l ≠ []) (hn : n ≤ 4294967296) :
 Calls Tryz.prog 213 #[.slice A n c] w fun e w' => e = .returned (.int .i64 ((yyh l : Nat) : Int)) ∧ Below w.heap.size w w' := by
 have HH := zH h; have HL := zH h.len
 have hpos := List.length_pos_iff.2 hl
 obtain ⟨b, o, rfl, hbl, hcell⟩ := zzV h hl
 obtain ⟨y, hy⟩ : ∃ y, y = l[0] := ⟨_, rfl⟩
 have hc0 := (hcell 0 hpos).1
 rw [← hy, Nat.add_zero] at hc0
 have HY := zH hy; have HC0 := zH hc0; have HCE := zH hcell; have HPO := zH hpos
 have hn0 : (0 : Int) < (n : Int) := by have := HL.out; omega
 clear h hy hc0 hcell hl
 go_enter Tryz.func213, Tryz.ntmps213
 go_wp2_with fail
 go_loopw [3] (fun kv wr => ∃ k : Nat, k ≤ n ∧ kv = .int .i64 (k : Int) ∧ Hid (∀ j (_ : j < l.length), j < k → l[j] = l[0]) ∧ Below w.heap.size w wr) (fun kv _ => n - (intOf kv).toNat)
 case atStart => exact ⟨0, Nat.zero_le _, rfl, zH (fun j _ hj => by omega), zR⟩
 case round =>
  obtain ⟨k, hk, rfl, HE, hb⟩ := hrel
  have HB := zH hb
  have c0 := zze hb HC0.out
  have hk0 : (0 : Int) ≤ (k : Int) := by omega
  clear hb
  by_cases hlt : k < n
  · have q1 : (k : Int) < (n : Int) := by omega
    have hkl : k < l.length := by rw [← HL.out]; exact hlt
    obtain ⟨x, hx⟩ : ∃ x, x = l[k] := ⟨_, rfl⟩
    have hc := (HCE.out k hkl).1
    rw [← hx] at hc
    have HXX := zH hx
    have c1 := zze HB.out hc
    clear hc hx
    by_cases hxy : x = y
    · subst hxy
      have HE2 : Hid (∀ j (_ : j < l.length), j < k + 1 → l[j] = l[0]) := zH (fun j hj hjk => by
       by_cases hjk2 : j = k
       · subst hjk2
         exact HXX.out.symm.trans HY.out
       · exact HE.out j hj (by omega))
      go_wp2_with fail
      go_quiet (fail)
      go_wp2_with fail
      go_roundw
      case rel => exact ⟨k + 1, by omega, by go_num, HE2, zzA HB.out _⟩
      case measure => simp [intOf]; omega
    · have hno := zzv hxy
      have HR := zH (show yyh l = k from qxF l k HPO.out (by omega) HE.out (.inr ⟨hkl, by rw [← HXX.out, ← HY.out]; exact hxy⟩))
      go_wp2_with fail
      go_quiet (fail)
      go_wp2_with fail
      go_ret
      exact ⟨by rw [HR.out]; rfl, zzA HB.out _⟩
  · obtain rfl : k = n := by omega
    have q1 : ¬ (k : Int) < (k : Int) := by omega
    have HR := zH (show yyh l = k from qxF l k HPO.out (by rw [← HL.out]; exact Nat.le_refl _) HE.out (.inl HL.out))
    go_wp2_with fail
    go_quiet (fail)
    go_wp2_with fail
    go_ret
    exact ⟨by rw [HR.out]; rfl, zzA HB.out _⟩
theorem yyy (A : Option Addr) (n c : Nat) (A2 : Option Addr) (n2 c2 : Nat) (e : Int) (w : World) :
 Calls Tryz.prog 216 #[.slice A n c, .slice A2 n2 c2, .int .i64 e] w fun r w' => r = .returned (if e = 0 ∧ (n = 0 ∨ n2 < n) then .slice A2 n2 c2 else .slice A n c) ∧ w = w' := by
 by_cases he : e = 0
 · subst he
   by_cases h0 : n = 0
   · subst h0
     rw [if_pos ⟨rfl, .inl rfl⟩]
     go_enter Tryz.func216, Tryz.ntmps216
     go_wp2_with fail
     go_ret
     exact ⟨rfl, rfl⟩
   · have hb := zzv (show ¬ (n : Int) = 0 by omega)
     have hb1 : ¬ (n : Int) = 0 := by omega
     by_cases hlt : n2 < n
     · rw [if_pos ⟨rfl, .inr hlt⟩]
       have q1 : (n2 : Int) < (n : Int) := by omega
       go_enter Tryz.func216, Tryz.ntmps216
       go_wp2_with fail
       go_ret
       exact ⟨rfl, rfl⟩
     · rw [if_neg (fun h => h.2.elim h0 hlt)]
       have q1 : ¬ (n2 : Int) < (n : Int) := by omega
       go_enter Tryz.func216, Tryz.ntmps216
       go_wp2_with fail
       go_ret
       exact ⟨rfl, rfl⟩
 · rw [if_neg (fun h => he h.1)]
   have hb := zzv he
   go_enter Tryz.func216, Tryz.ntmps216
   go_wp2_with fail
   go_ret
   exact ⟨rfl, rfl⟩
theorem xqv (F : Nat → Prop) (A : Option Addr) (n c : Nat) (l : List Int) (w : World) (h : Sl tI64 F w A n c l) (hl : l ≠ []) (hn : n ≤ 4294967296) :
 Calls Tryz.prog 172 #[.slice A n c] w fun e w' => e = .returned (.int .i64 ((cutN l : Nat) : Int)) ∧ Below w.heap.size w w' := by
 have HH := zH h; have HNE := zH hl
 have hlen := h.len
 have hpos := List.length_pos_iff.2 hl
 have hc2 := h.2.1
 have hc3 := h.2.2.1
 unfold maxLen at hc3
 have hsl := uuP l
 obtain ⟨s, hs⟩ : ∃ s, s = yyh l := ⟨_, rfl⟩
 obtain ⟨t, ht⟩ : ∃ t, t = cutN l := ⟨_, rfl⟩
 obtain ⟨b, o, rfl, _, _⟩ := zzV h hl
 have HT := zH ht; have HSS := zH hs
 have hsn : s ≤ n := by omega
 rw [← ht]
 have hn1 : 1 ≤ n := by omega
 have z0 : (n : Int) > 0 := by omega
 have z0' : (0 : Int) < n := by omega
 by_cases h3 : 3 ≤ s
 · have HM := zH (show min (s : Int) 512 = (t : Int) by rw [ht, cutN, ← hs, if_pos h3]; omega)
   have z : (s : Int) ≥ 3 := by omega
   have z' : (3 : Int) ≤ (s : Int) := by omega
   clear h hlen hpos hs ht hsl h3
   go_enter Tryz.func172, Tryz.ntmps172
   go_upto_region 2 with (first
    | (go_at_call 213; refine (yy0 F _ n c l _ HH.out HNE.out hn).mono ?_; rintro e w1 ⟨rfl, hb1⟩; rw [← HSS.out]; have HB1 := zH hb1; clear hb1)
    | fail)
   go_wp2_with (first
    | (go_at_call 213; refine (yy0 F _ n c l _ (HH.out.below HB1.out zN) HNE.out hn).mono ?_; rintro e w2 ⟨rfl, hb2⟩; rw [← HSS.out]; have HB2 := zH (HB1.out.trans (hb2.mono HB1.out.size)); clear hb2)
    | fail)
   go_ret
   exact ⟨by rw [← HM.out]; rfl, HB2.out⟩
 · obtain ⟨en, hen⟩ : ∃ en, en = min n 512 := ⟨_, rfl⟩
   have hen1 : 1 ≤ en ∧ en ≤ 512 ∧ en ≤ n := by omega
   have HEN := zH (show min (n : Int) 512 = (en : Int) by omega)
   have HEN2 := zH hen
   have HC := zH (show t = xxx l (en - 1) 1 by
    rw [ht, cutN, ← hs, if_neg h3]
    by_cases h1 : l.length ≤ 1
    · rw [if_pos h1, show en - 1 = 0 by omega, xxx]; omega
    · rw [if_neg h1, hen, ← hlen])
   have z : ¬ (s : Int) ≥ 3 := by omega
   have z' : ¬ (3 : Int) ≤ (s : Int) := by omega
   have HLN := zH hlen
   have HE1 := zH hen1
   clear h hlen hpos hs ht hsl h3 hen hen1
   go_enter Tryz.func172, Tryz.ntmps172
   go_wp2_with (first
    | (go_at_call 213; refine (yy0 F _ n c l _ HH.out HNE.out hn).mono ?_; rintro e w1 ⟨rfl, hb1⟩; rw [← HSS.out]; have HB1 := zH hb1; clear hb1)
    | fail)
   go_loopw [3] (fun iv wr => ∃ i : Nat, 1 ≤ i ∧ i ≤ en ∧ iv = .int .i64 (i : Int) ∧ Below w.heap.size w wr ∧ Hid (t = xxx l (en - i) i))
    (fun iv _ => en - (intOf iv).toNat)
   case atStart => exact ⟨1, Nat.le_refl _, HE1.out.1, rfl, HB1.out, HC⟩
   case round =>
    obtain ⟨i, hi1, hi, rfl, hb, HCI⟩ := hrel
    have HB := zH hb
    clear hb
    have hE2 := HEN2.out
    by_cases hlt : i < en
    · have hin : i < n := by omega
      have i1 : (i : Int) < (n : Int) := by omega
      have i2 : (i : Int) < 512 := by omega
      have hbk := zqx (HH.out.below HB.out zN) (k := i) (by omega) hi1
      rw [if_neg (by omega)] at hbk
      obtain ⟨s5, hs5⟩ : ∃ s5, s5 = yyh (l.drop i) := ⟨_, rfl⟩
      have HC5 := zH (yy0 F _ _ _ _ wr hbk (by intro e; have := congrArg List.length e; rw [List.length_drop] at this; have := HLN.out; simp at *; omega) (by omega))
      rw [← hs5] at HC5
      have HS5 := zH hs5
      have i0 : (0 : Int) ≤ (i : Int) := by omega
      have i3 : (i : Int) ≤ (n : Int) := by omega
      have i4 : (n : Int) ≤ (c : Int) := by omega
      have i5 : (i : Int) ≤ (c : Int) := by omega
      have i6 : (c : Int) ≤ 9223372036854775807 := by omega
      have i7 : ¬ c = i := by omega
      have i8 : ¬ i = c := by omega
      clear hbk hs5 hE2
      by_cases h5 : 5 ≤ s5
      · have HFIN := zH (show t = i by
         rw [HCI.out, show en - i = (en - i - 1) + 1 by omega, xxx, if_pos (by rw [← HS5.out]; exact h5)])
        have h5I : (s5 : Int) ≥ 5 := by omega
        have h5J : (5 : Int) ≤ (s5 : Int) := by omega
        clear h5
        go_wp2_with (first
         | (go_at_call 213; refine HC5.out.mono ?_; rintro e w2 ⟨rfl, hb2⟩; have HB2 := zH (HB.out.trans (hb2.mono HB.out.size)); clear hb2)
         | fail)
        go_ret
        exact ⟨by rw [HFIN.out]; rfl, HB2.out⟩
      · have HFIN := zH (show t = xxx l (en - (i + 1)) (i + 1) by
         rw [HCI.out, show en - i = (en - (i + 1)) + 1 by omega, xxx, if_neg (by rw [← HS5.out]; exact h5)])
        have h5I : ¬ (s5 : Int) ≥ 5 := by omega
        have h5J : ¬ (5 : Int) ≤ (s5 : Int) := by omega
        clear h5
        go_wp2_with (first
         | (go_at_call 213; refine HC5.out.mono ?_; rintro e w2 ⟨rfl, hb2⟩; have HB2 := zH (HB.out.trans (hb2.mono HB.out.size)); clear hb2)
         | fail)
        go_roundw
        case rel => exact ⟨i + 1, by omega, by omega, by go_num, HB2.out, HFIN⟩
        case measure => simp [intOf]; omega
    · obtain rfl : i = en := by omega
      have HFIN := zH (show t = i by rw [HCI.out, Nat.sub_self, xxx])
      have hmn := HEN.out
      by_cases hin : i < n
      · have i1 : (i : Int) < (n : Int) := by omega
        have i2 : ¬ (i : Int) < 512 := by omega
        clear hE2
        go_wp2_with fail
        go_ret
        exact ⟨by rw [HFIN.out]; rfl, HB.out⟩
      · have i1 : ¬ (i : Int) < (n : Int) := by omega
        clear hE2
        go_wp2_with fail
        go_ret
        exact ⟨by rw [HFIN.out]; rfl, HB.out⟩
def C09 : Prop := ∀ (F : Nat → Prop) (A : Option Addr) (n c : Nat) (l : List Int) (w : World), Sl tI64 F w A n c l → 1 ≤ n → n ≤ 512 → ∀ sg, zzY sg l → Calls Tryz.prog 218 #[.slice A n c, .bool sg] w (zzq (delB sg l) w)
def C10 : Prop := ∀ (F : Nat → Prop) (A : Option Addr) (n c : Nat) (l : List Int) (w : World), Sl tI64 F w A n c l → 1 ≤ n → n ≤ 512 → ∀ sg, zzY sg l → ∀ k : Nat, k < 31 → Calls Tryz.prog 219 #[.slice A n c, .int .i64 (wOf k), .bool sg] w (zzq (patB (wN k) l) w)
def Pick (o : Option (List UInt8)) (w w' : World) (A2 : Option Addr) (n2 c2 : Nat) (e2 : Int) : Prop :=
 Below w.heap.size w w' ∧ ∀ (B : Nat) (A : Option Addr) (n c : Nat) (L : List UInt8), OwnB w B A n c L → B ≤ w.heap.size → ∃ A' n' c', (if e2 = 0 ∧ (n = 0 ∨ n2 < n) then Value.slice A2 n2 c2 else Value.slice A n c) = Value.slice A' n' c' ∧ OwnB w' B A' n' c' (zzu L o)
theorem qzc {o : Option (List UInt8)} {w w' : World} {e : Ending} (h : zzq o w e w') : ∃ A2 n2 c2 e2, e = .returned (.tuple #[.slice A2 n2 c2, .int .i64 e2]) ∧ Pick o w w' A2 n2 c2 e2 := by
 obtain ⟨hb, h⟩ := h
 cases o with
 | none =>
   exact ⟨none, 0, 0, 1, h, hb, fun B A n c L ho _ => ⟨A, n, c, if_neg (fun h => absurd h.1 (by decide)), ho.keepB hb⟩⟩
 | some b =>
   obtain ⟨A2, n2, c2, he, h2⟩ := h
   refine ⟨A2, n2, c2, 0, he, hb, fun B A n c L ho hB => ?_⟩
   have hn := ho.len
   have hn2 := h2.len
   by_cases hp : n = 0 ∨ n2 < n
   · refine ⟨A2, n2, c2, if_pos ⟨rfl, hp⟩, ?_⟩
     rw [show zzu L (some b) = b from if_pos (by
      rcases hp with hp | hp
      · exact .inl (List.length_eq_zero_iff.1 (by omega))
      · exact .inr (by omega))]
     exact h2.down hB
   · refine ⟨A, n, c, if_neg (fun h => hp h.2), ?_⟩
     rw [show zzu L (some b) = L from if_neg (fun h => hp (h.elim (fun h => .inl (by rw [hn, h]; rfl)) (fun h => .inr (by omega))))]
     exact ho.keepB hb
theorem xqw (H09 : C09) (H10 : C10) (F : Nat → Prop) (A : Option Addr) (n c : Nat) (l : List Int) (w : World) (h : Sl tI64 F w A n c l) (hn1 : 1 ≤ n) (hn : n ≤ 512) (sg : Bool) (hl : zzY sg l) :
 Calls Tryz.prog 173 #[.slice A n c, .bool sg] w (zzq (some (runB sg l)) w) := by
 have HH := zH h; have HK := zH hl; have HL := zH h.len; have H9 := zH H09; have H0 := zH H10
 have hne : l ≠ [] := by intro e; have := h.len; rw [e] at this; simp at this; omega
 have HNE := zH hne
 obtain ⟨s, hs⟩ : ∃ s, s = yyh l := ⟨_, rfl⟩
 have HS := zH hs
 have hsl := uuP l
 obtain ⟨b, o, rfl, hbl, hcell⟩ := zzV h hne
 have hpos := List.length_pos_iff.2 hne
 obtain ⟨x0, hx0⟩ : ∃ x0, x0 = l.headD 0 := ⟨_, rfl⟩
 have hd0 : l[0] = x0 := by rw [hx0]; match l, hne with | _ :: _, _ => rfl
 have hc0 := (hcell 0 hpos).1
 rw [hd0, Nat.add_zero] at hc0
 have HC0 := zH hc0; have HX0 := zH hx0
 have hxk := hl x0 (by rw [← hd0]; exact List.getElem_mem _)
 have HXK := zH hxk
 have z1 : ¬ (n : Int) < 1 := by omega
 have z2 : ¬ (n : Int) > 512 := by omega
 have z2' : ¬ (512 : Int) < n := by omega
 have hn0 : (0 : Int) < (n : Int) := by omega
 have HTM := zH (show s = n → yyf sg l = if 3 ≤ n ∧ n ≤ 10 then some (repB (uOf sg x0) n) else none from fun hsn => by
  unfold yyf
  rw [← hs, hsn, ← h.len, ← hx0]
  by_cases h3 : 3 ≤ n ∧ n ≤ 10
  · rw [if_pos h3, if_pos ⟨rfl, h3⟩]
  · rw [if_neg h3, if_neg (fun h => h3 h.2)])
 have HTN := zH (show ¬ s = n → yyf sg l = none from fun hsn => by
  unfold yyf
  rw [← hs, ← h.len, if_neg (fun h => hsn h.1)])
 have hrun : kqL sg l 0 = zzu (zzu (zzu [] (yyf sg l)) (some (dirB sg l))) (delB sg l) := rfl
 have HR0 := zH hrun
 clear h hl H09 H10 hne hs hsl hcell hpos hx0 hd0 hc0 hxk hrun
 go_enter Tryz.func173, Tryz.ntmps173
 go_upto_region 5 with (first
  | (go_at_call 214; refine (yyZ F _ n c l _ HH.out (by omega) sg HK.out).mono ?_; rintro e w1 ⟨A1, m1, c1, rfl, _, hb1⟩; have HB1 := zH hb1; clear hb1)
  | fail)
 have HO2 := zH (OwnB.new0 w1 w.heap.size HB1.out.size)
 have HB2 := zH (HB1.out.alloc HB1.out.size (.cells #[] 5))
 go_upto_if 36 with (first
  | (go_at_call 213; refine (yy0 F _ n c l _ (HH.out.below HB2.out zN) HNE.out (by omega)).mono ?_; rintro e w3 ⟨rfl, hb3⟩; rw [← HS.out]; have HO3 := zH (HO2.out.keepB hb3); have HB3 := zH (HB2.out.trans (hb3.mono HB2.out.size)); have c3 := zze HB3.out HC0.out; clear hb3)
  | fail)
 go_cut [8, 9, 10] from 32 to 50 (fun ov _ _ wx => ∃ (A2 : Option Addr) (n2 c2 : Nat), ov = .slice A2 n2 c2 ∧ OwnB wx w.heap.size A2 n2 c2 (zzu [] (yyf sg l)) ∧ Below w.heap.size w wx)
 case first =>
  by_cases hsn : s = n
  · have hsi : (s : Int) = (n : Int) := by omega
    have hT := HTM.out hsn
    go_wp2_with (first
     | (go_at_call 215; refine (r7put_any sg x0 HXK.out.1 HXK.out.2.1 HXK.out.2.2 n hn _).mono ?_; intro e w4 hp4; rw [← hT] at hp4; obtain ⟨A4, n4, c4, e4, rfl, hk4⟩ := qzc hp4; have HK4 := zH hk4; clear hp4 hk4)
     | (go_at_call 216; refine (yyy _ _ _ A4 n4 c4 e4 _).mono ?_; rintro r w5 ⟨rfl, rfl⟩; obtain ⟨A5, n5, c5, e5, ho5⟩ := HK4.out.2 _ _ _ _ _ HO3.out HB3.out.size; rw [e5]; have HO5 := zH ho5; clear e5 ho5)
     | fail)
    go_meet
    exact ⟨A5, n5, c5, rfl, HO5.out, HB3.out.trans (HK4.out.1.mono HB3.out.size)⟩
  · have hsi := zzv (show ¬ (s : Int) = (n : Int) by omega)
    have hsi2 : ¬ (s : Int) = (n : Int) := by omega
    have hT := HTN.out hsn
    go_wp2_with fail
    go_meet
    exact ⟨_, 0, 0, rfl, by rw [hT]; exact HO3.out, HB3.out⟩
 case rest =>
  obtain ⟨A2, n2, c2, rfl, ho2, hb2⟩ := hcut
  rename World => w3
  have HO3 := zH ho2; have HB3 := zH hb2
  clear ho2 hb2
  refine ‹∀ (a : Act) (w_1 : World), Code.wp _ _ _ a w_1 → _› _ _ ?_
  go_upto_region 9 with (first
   | (go_at_call 217; refine (r8put_any F _ n c l _ (HH.out.below HB3.out zN) hn1 hn sg HK.out).mono ?_; intro e w4 hp4; obtain ⟨A4, n4, c4, e4, rfl, hk4⟩ := qzc hp4; have HK4 := zH hk4; clear hp4 hk4)
   | fail)
  go_upto_region 10 with (first
   | (go_at_call 216; refine (yyy _ _ _ A4 n4 c4 e4 _).mono ?_; rintro r w5 ⟨rfl, rfl⟩; obtain ⟨A5, n5, c5, e5, ho5⟩ := HK4.out.2 _ _ _ _ _ HO3.out HB3.out.size; rw [e5]; have HO5 := zH ho5; have HB5 := zH (HB3.out.trans (HK4.out.1.mono HB3.out.size)); clear e5 ho5)
   | fail)
  go_upto_region 11 with (first
   | (go_at_call 218; refine (H9.out F _ n c l _ (HH.out.below HB5.out zN) hn1 hn sg HK.out).mono ?_; intro e w6 hp6; obtain ⟨A6, n6, c6, e6, rfl, hk6⟩ := qzc hp6; have HK6 := zH hk6; clear hp6 hk6)
   | fail)
  go_upto_region 12 with (first
   | (go_at_call 216; refine (yyy _ _ _ A6 n6 c6 e6 _).mono ?_; rintro r w7 ⟨rfl, rfl⟩; obtain ⟨A7, n7, c7, e7, ho7⟩ := HK6.out.2 _ _ _ _ _ HO5.out HB5.out.size; rw [e7]; have HO7 := zH ho7; have HB7 := zH (HB5.out.trans (HK6.out.1.mono HB5.out.size)); clear e7 ho7)
   | fail)
  go_wp2_with fail
  go_loopw [8, 12] (fun ov cv wr => ∃ (k : Nat) (A8 : Option Addr) (n8 c8 : Nat), k ≤ 31 ∧ cv = .int .i64 (k : Int) ∧ ov = .slice A8 n8 c8 ∧ OwnB wr w.heap.size A8 n8 c8 (kqL sg l k) ∧ Below w.heap.size w wr) (fun _ cv _ => 31 - (intOf cv).toNat)
  case atStart => exact ⟨0, A7, n7, c7, by omega, rfl, rfl, by rw [HR0.out]; exact HO7.out, HB7.out⟩
  case round =>
   obtain ⟨k, A8, n8, c8, hk, rfl, rfl, ho, hb⟩ := hrel
   have HO := zH ho; have HB := zH hb
   clear ho hb
   by_cases hlt : k < 31
   · have q0 : (0 : Int) ≤ (k : Int) := by omega
     have q1 : (k : Int) < 31 := by omega
     have HRS := zH (uuh sg l k)
     go_upto_region 16 with (first
      | (go_at_call 220; refine (jjD (k : Int) q0 (by omega) _).mono ?_; rintro e w9 ⟨rfl, rfl⟩)
      | (go_at_call 219; refine (H0.out F _ n c l _ (HH.out.below HB.out zN) hn1 hn sg HK.out k hlt).mono ?_; intro e w9 hp9; obtain ⟨A9, n9, c9, e9, rfl, hk9⟩ := qzc hp9; have HK9 := zH hk9; clear hp9 hk9)
      | fail)
     go_wp2_with (first
      | (go_at_call 216; refine (yyy _ _ _ A9 n9 c9 e9 _).mono ?_; rintro r wa ⟨rfl, rfl⟩; obtain ⟨Aa, na, ca, ea, hoa⟩ := HK9.out.2 _ _ _ _ _ HO.out HB.out.size; rw [ea]; have HOA := zH hoa; have HBA := zH (HB.out.trans (HK9.out.1.mono HB.out.size)); clear ea hoa)
      | fail)
     go_roundw
     case rel => exact ⟨k + 1, Aa, na, ca, by omega, by go_num, rfl, by rw [HRS.out]; exact HOA.out, HBA.out⟩
     case measure => simp [intOf]; omega
   · obtain rfl : k = 31 := by omega
     go_wp2_with fail
     go_ret2
     exact ⟨HB.out, A8, n8, c8, rfl, HO.out⟩
theorem xqx (H09 : C09) (H10 : C10) (F : Nat → Prop) (A : Option Addr) (n c : Nat) (l : List Int) (w : World) (h : Sl tI64 F w A n c l) (hn : n ≤ 4096) (sg : Bool) (hl : zzY sg l) :
 Calls Tryz.prog 106 #[.slice A n c, .bool sg] w (zzq (some (rleB sg l)) w) := by
 have HH := zH (h.weaken (F' := fun b => b < w.heap.size) fun b _ hb => hb); have HK := zH hl; have HL := zH h.len
 have HRL := zH (yyb sg l); have H9 := zH H09; have H0 := zH H10
 have HNEW := zH (OwnB.new0 w w.heap.size zN)
 have HB00 := zH (show Below w.heap.size w (w.alloc (.cells #[] 5)) from (zR).alloc zN _)
 have z0 : ¬ (n : Int) > 4096 := by omega
 clear h hl H09 H10
 go_enter Tryz.func106, Tryz.ntmps106
 go_wp2_with fail
 go_loopw [0, 6] (fun lv ov wr => ∃ (k m : Nat) (A2 : Option Addr) (c2 : Nat) (Ao : Option Addr) (no co : Nat) (p : List UInt8), lv = .slice A2 m c2 ∧ ov = .slice Ao no co ∧ k + m = n ∧ Sl tI64 (fun b => b < w.heap.size) wr A2 m c2 (l.drop k) ∧ OwnB wr w.heap.size Ao no co p ∧ Below w.heap.size w wr ∧ p ++ rleB sg (l.drop k) = rleB sg l)
  (fun lv _ _ => lenV lv)
 case atStart => exact ⟨0, n, A, c, some ⟨w.heap.size, 0, none⟩, 0, 0, [], rfl, rfl, by omega, by rw [List.drop_zero]; exact HH.out.alloc _, HNEW.out, HB00.out, by rw [List.drop_zero]; rfl⟩
 case round =>
  obtain ⟨k, m, A2, c2, Ao, no, co, p, rfl, rfl, hkm, hs, ho, hb, hp⟩ := hrel
  have HS := zH hs; have HO := zH ho; have HB := zH hb; have HP := zH hp
  clear hs ho hb hp
  by_cases hm0 : m = 0
  · subst hm0
    have HFIN := zH (show p = rleB sg l by
     have h1 := HP.out
     rw [List.length_eq_zero_iff.1 HS.out.len.symm, zq0, List.append_nil] at h1
     exact h1)
    go_wp2_with fail
    go_ret2
    exact ⟨HB.out, Ao, no, co, rfl, by rw [← HFIN.out]; exact HO.out⟩
  · have hne : l.drop k ≠ [] := fun e => by have := HS.out.len; rw [e] at this; simp at this; omega
    obtain ⟨r, hr⟩ : ∃ r, r = l.drop k := ⟨_, rfl⟩
    have hrm : m = r.length := by rw [hr]; exact HS.out.len
    rw [← hr] at HS HP hne
    have HR := zH hr
    obtain ⟨b, o, rfl, _, _⟩ := zzV HS.out hne
    have hcn := jji r hne
    obtain ⟨x, hx⟩ : ∃ x, x = cutN r := ⟨_, rfl⟩
    rw [← hx] at hcn
    have HX := zH hx
    have hxm : x ≤ m := by omega
    have hc2 := HS.out.2.1
    have hc3 := HS.out.2.2.1
    unfold maxLen at hc3
    have HST := zH (qzq sg r hne)
    rw [← hx] at HST
    have HNE := zH hne
    have hpl := congrArg List.length HP.out
    rw [HST.out, List.length_append, List.length_append] at hpl
    have hol := HO.out.len
    have hlim : no + (runB sg (r.take x)).length ≤ 68719476736 := by have := HRL.out; have := HL.out; omega
    have HLIM := zH hlim
    have hm1 : (0 : Int) < (m : Int) := by omega
    have hx1 : 1 ≤ x := hcn.1
    have hx5 : x ≤ 512 := hcn.2.2
    have i0 : (0 : Int) ≤ (x : Int) := by omega
    have i1 : (x : Int) ≤ (c2 : Int) := by omega
    have i2 : (x : Int) ≤ (m : Int) := by omega
    have i3 : x ≤ c2 := by omega
    have i4 : m ≤ c2 := hc2
    have i5 : (m : Int) ≤ (c2 : Int) := by omega
    have i6 : (c2 : Int) ≤ 9223372036854775807 := by omega
    have HNO := zH (show zzY sg (r.take x) by rw [hr]; exact (HK.out.drop k).take x)
    clear hr hrm hx hcn hpl hol hlim hne
    go_upto_region 9 with (first
     | (go_at_call 172; refine (xqv _ _ m c2 r _ HS.out HNE.out (by omega)).mono ?_; rintro e w1 ⟨rfl, hb1⟩; rw [← HX.out]; have HS1 := zH (HS.out.below hb1 zN); have HO1 := zH (HO.out.keepB hb1); have HB1 := zH (HB.out.trans (hb1.mono HB.out.size)); clear hb1)
     | (go_at_call 173; refine (xqw H9.out H0.out _ _ x c2 (r.take x) _ (qxg HS1.out hxm hx1) hx1 hx5 sg HNO.out).mono ?_; rintro e w2 ⟨hb2, A3, n3, c3, rfl, ho3⟩; have HS2 := zH (HS1.out.below hb2 zN); have HO2 := zH (HO1.out.keepB hb2); have HB2 := zH (HB1.out.trans (hb2.mono HB1.out.size)); have HR3 := zH ho3.bs.any; have HL3 := zH ho3.len; clear hb2 ho3)
     | fail)
    have hn3 : no + n3 ≤ 68719476736 := by have := HL3.out; have := HLIM.out; omega
    have HRX := zH HR3.out
    have HFIN := zH (show ∀ q, q = p ++ runB sg (r.take x) → q ++ rleB sg (r.drop x) = rleB sg l by
     rintro q rfl
     rw [← HP.out, HST.out, List.append_assoc])
    have HRD := zH (show r.drop x = l.drop (k + x) by rw [HR.out, List.drop_drop])
    have HGR := zH (show ∀ g, Ao.map (·.block) = some g → ¬ g < w.heap.size from fun g hg h => by have := (yyc HO2.out.own hg).2.1; omega)
    have hbk := zqx HS2.out hxm hx1
    by_cases hcx : c2 = x
    · rw [if_pos hcx, show c2 - x = 0 by omega] at hbk
      have HBK := zH hbk
      clear hbk
      go_wp2_with (first
       | (at_builtin; refine apb w2 w rfl (.tmp 30) (.tmp 31) rfl w.heap.size Ao no co p rfl HO2.out HB2.out zN (fun _ => True) A3 n3 c3 _ rfl HR3.out hn3 ?_; intro A5 c5 w5 ho5 hb5 hg5; have HO5 := zH ho5; have HB5 := zH hb5; have HG5 := zH hg5; clear ho5 hb5 hg5)
       | fail)
      go_roundw
      case rel => exact ⟨k + x, m - x, _, _, A5, no + n3, c5, _, rfl, rfl, by omega, by rw [← HRD.out]; exact HBK.out.grown HG5.out HGR.out, HO5.out, HB5.out, by rw [← HRD.out]; exact HFIN.out _ rfl⟩
      case measure => simp [lenV]; omega
    · rw [if_neg hcx] at hbk
      have HBK := zH hbk
      clear hbk
      go_wp2_with (first
       | (at_builtin; refine apb w2 w rfl (.tmp 30) (.tmp 31) rfl w.heap.size Ao no co p rfl HO2.out HB2.out zN (fun _ => True) A3 n3 c3 _ rfl HR3.out hn3 ?_; intro A5 c5 w5 ho5 hb5 hg5; have HO5 := zH ho5; have HB5 := zH hb5; have HG5 := zH hg5; clear ho5 hb5 hg5)
       | fail)
      go_roundw
      case rel => exact ⟨k + x, m - x, _, _, A5, no + n3, c5, _, rfl, rfl, by omega, by rw [← HRD.out]; exact HBK.out.grown HG5.out HGR.out, HO5.out, HB5.out, by rw [← HRD.out]; exact HFIN.out _ rfl⟩
      case measure => simp [lenV]; omega
end
end Go.Proofs.YtpmglcachffojaaGreatDoor
