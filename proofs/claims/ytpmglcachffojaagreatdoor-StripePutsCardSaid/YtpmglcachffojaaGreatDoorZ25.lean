/- A part of what Puts leans on. -/
import Derived.Test.YtpmglcachffojaaGreatDoorZ23
import Derived.Lib.OthersKept
import Derived.Lib.ValidLaws
import Derived.Laws.RangeAny
import Derived.Laws.StructEq
import Derived.Lib.QuoteBits
set_option maxRecDepth 100000
set_option maxHeartbeats 16000000
namespace Go.Proofs.YtpmglcachffojaaGreatDoor
section
open Go Go.RowKit
theorem zzc {w w' : World} (h : Lib.Utf8Tabs 0 1 w) (hb : Below w.heap.size w w') : Lib.Utf8Tabs 0 1 w' :=
 ⟨fun c hc => zze hb (h.1 c hc), fun i hi => ⟨zze hb (h.2 i hi).1, zze hb (h.2 i hi).2⟩⟩
theorem ext_drop (s : ByteArray) (pos : Nat) : s.extract pos s.size = ⟨(s.data.toList.drop pos).toArray⟩ := by
 apply ByteArray.ext
 apply Array.toList_inj.1
 rw [ByteArray.data_extract, Array.toList_extract, List.extract_eq_take_drop]
 show _ = s.data.toList.drop pos
 rw [zL]
 rw [List.length_drop, Array.length_toList]
 exact Nat.le_refl _
theorem zqy (s : ByteArray) (pos : Nat) (h : pos < s.size) : Lib.decodeGo (s.extract pos s.size) = Utf8.decode s pos := by
 have hsz : (s.extract pos s.size).size = s.size - pos := by rw [ByteArray.size_extract]; omega
 unfold Lib.decodeGo
 rw [if_neg (by omega), ext_drop]
 exact Lib.decodeL_drop s pos
theorem right_any (s : ByteArray) (w : World) (hT : Lib.Utf8Tabs 0 1 w) :
 Calls Tryz.prog 87 #[.string s] w fun e w' => e = .returned (.bool (Lib.validD s.data.toList)) ∧ Below w.heap.size w w' := by
 obtain ⟨l, hl⟩ : ∃ l, l = s.data.toList := ⟨_, rfl⟩
 rw [← hl]
 have HL := zH hl; have HT := zH hT
 clear hl hT
 go_enter Tryz.func87, Tryz.ntmps87
 go_wp2_with fail
 obtain ⟨k, hk⟩ : ∃ k, k = w.heap.size := ⟨_, rfl⟩
 have HK := zH hk
 rw [← hk]
 clear hk
 go_loopw [10] (fun _ wr => ∃ pos : Nat, pos ≤ s.size ∧ wr.heap[k]? = some (.stringIter s pos) ∧ Below w.heap.size w wr ∧ Lib.validD (l.drop pos) = Lib.validD l)
  (fun _ wr => s.size - wr.iterPos k)
 case atStart => exact ⟨0, Nat.zero_le _, by rw [HK.out]; exact heap_alloc_new w _, (zR).alloc zN _, by rw [List.drop_zero]⟩
 case round =>
  obtain ⟨pos, hpos, hit, hb, hv⟩ := hrel
  have HIT := zH hit; have HB := zH hb; have HV := zH hv
  have hip : wr.iterPos k = pos := by unfold World.iterPos; rw [hit]
  have HIP := zH hip
  have hls : l.length = s.size := by rw [HL.out, Array.length_toList]; rfl
  have HLS := zH hls
  clear hb hv hip
  by_cases hlt : pos < s.size
  · have hn := fun ty => Lib.run_next_any_at (P := Tryz.prog) wr k s pos ty hit hlt
    obtain ⟨r, hr⟩ : ∃ r, r = (Utf8.decode s pos).1 := ⟨_, rfl⟩
    obtain ⟨d, hd⟩ : ∃ d, d = (Utf8.decode s pos).2 := ⟨_, rfl⟩
    rw [← hr, ← hd] at hn
    have hdl := Lib.decodeL_drop s pos
    rw [← HL.out] at hdl
    have hwid := Lib.decodeL_width (l.drop pos)
    have hle := Lib.decodeL_le (l.drop pos) (fun e => by have := congrArg List.length e; rw [List.length_drop] at this; simp at this; omega)
    rw [hdl, ← hd] at hwid hle
    rw [List.length_drop] at hle
    have hst := Lib.validD_step (l.drop pos) (fun e => by have := congrArg List.length e; rw [List.length_drop] at this; simp at this; omega)
    rw [hdl, ← hr, ← hd, List.drop_drop] at hst
    have HST := zH hst; have HWID := zH hwid; have HLE := zH hle
    obtain ⟨w2, hw2⟩ : ∃ w2, w2 = wr.iterAt k s (pos + d) := ⟨_, rfl⟩
    rw [← hw2] at hn
    have hit2 : w2.heap[k]? = some (.stringIter s (pos + d)) := by rw [hw2]; exact Lib.iterAt_heap wr k s pos _ hit
    have hb2 : Below w.heap.size w w2 := by rw [hw2]; exact Lib.below_iterAt HB.out (by rw [HK.out]; exact Nat.le_refl _) s _
    have HIT2 := zH hit2; have HB2 := zH hb2
    have hip2 : w2.iterPos k = pos + d := by unfold World.iterPos; rw [hit2]
    have HIP2 := zH hip2
    have HR := zH hr; have HD := zH hd
    clear hr hd hdl hwid hle hst hw2 hit hit2 hb2 hip2
    by_cases hr3 : r = 65533
    · subst hr3
      have HDG := zH (zqy s pos hlt)
      have i1 : (pos : Int) ≤ (s.size : Int) := by omega
      have i2 : (0 : Int) ≤ (pos : Int) := by omega
      have HR2 := zH (show (Utf8.decode s pos).1 = 65533 from HR.out.symm)
      by_cases hd1 : d = 1
      · have hdI : (d : Int) = 1 := by omega
        have HFIN := zH (show Lib.validD l = false by rw [← HV.out, HST.out, if_pos ⟨rfl, hd1⟩])
        clear hd1
        go_wp2_with (first
         | (go_at_call 156; refine (Tryz.utf8_DecodeRuneInString (s.extract pos s.size) _ (zzc HT.out HB2.out)).mono ?_; rintro e w3 ⟨rfl, hb3⟩; rw [HDG.out, ← HD.out, HR2.out]; have HB3 := zH hb3; clear hb3)
         | fail)
        go_ret
        exact ⟨by rw [HFIN.out]; rfl, HB2.out.trans (HB3.out.mono HB2.out.size)⟩
      · have hdI : ¬ (d : Int) = 1 := by omega
        have hdb : ((d : Int) == 1) = false := zzv hdI
        have HFIN := zH (show Lib.validD (l.drop (pos + d)) = Lib.validD l by rw [← HV.out, HST.out, if_neg (fun h => hd1 h.2)])
        clear hd1
        go_wp2_with (first
         | (go_at_call 156; refine (Tryz.utf8_DecodeRuneInString (s.extract pos s.size) _ (zzc HT.out HB2.out)).mono ?_; rintro e w3 ⟨rfl, hb3⟩; rw [HDG.out, ← HD.out, HR2.out]; have HB3 := zH hb3; clear hb3)
         | fail)
        have hit3 := (HB3.out.block k (zzb HIT2.out)).trans HIT2.out
        have hip3 : w3.iterPos k = pos + d := by unfold World.iterPos; rw [hit3]
        go_roundw
        case rel => exact ⟨pos + d, by have := HLE.out; omega, hit3, HB2.out.trans (HB3.out.mono HB2.out.size), HFIN.out⟩
        case measure => rw [hip3, HIP.out]; have := HWID.out; omega
    · have hrI : ¬ (r : Int) = 65533 := by omega
      have hrb : ((r : Int) != 65533) = true := bne_iff_ne.2 hrI
      have HR3 := zH hr3
      clear hr3
      go_wp2_with fail
      go_roundw
      case rel => exact ⟨pos + d, by have := HLE.out; omega, HIT2.out, HB2.out, by rw [← HV.out, HST.out, if_neg (fun h => HR3.out h.1)]⟩
      case measure => rw [HIP2.out, HIP.out]; have := HWID.out; omega
  · have hn := fun ty => Lib.run_next_end_at (P := Tryz.prog) wr k s pos ty hit hlt
    have HFIN := zH (show Lib.validD l = true by rw [← HV.out, List.drop_of_length_le (by omega)]; exact Lib.validD_nil)
    clear hit
    go_wp2_with fail
    go_ret
    exact ⟨by rw [HFIN.out]; rfl, HB.out⟩
end
section
open Go Go.RowKit
def mayV (k : Int) (v : VV) : Bool :=
 if 1 ≤ k ∧ k ≤ 5 then
  if v.null then decide (v.n = 0 ∧ v.s.size = 0)
  else if k = 1 then decide (v.s.size = 0 ∧ (v.n = 0 ∨ v.n = 1))
  else decide (v.s.size = 0)
 else if k = 6 ∨ k = 7 then
  if v.null then decide (v.n = 0 ∧ v.s.size = 0)
  else decide (v.n = 0 ∧ v.s.size ≤ 300 ∧ (k = 7 ∨ Lib.validD v.s.data.toList = true))
 else false
theorem wrap_zero (m : Nat) (h : m < 18446744073709551616) : IntKind.i64.wrap (m : Int) = 0 ↔ m = 0 := by
 have e : (m : Int) % 2 ^ 64 = m := Int.emod_eq_of_lt (by omega) (by omega)
 simp only [IntKind.wrap, IntKind.bits, IntKind.signed, e]
 constructor
 · intro h1
   split at h1 <;> omega
 · rintro rfl; rfl
theorem bit_only (x : Int) (h0 : -9223372036854775808 ≤ x) (h1 : x ≤ 9223372036854775807) : (bits .andNot .i64 x 1 = 0) ↔ (x = 0 ∨ x = 1) := by
 have e : bits .andNot .i64 x 1 = IntKind.i64.wrap ((BitVec.ofInt 64 x &&& ~~~BitVec.ofInt 64 ((1 : Nat) : Int)).toNat : Int) := rfl
 have hu : (BitVec.ofInt 64 x).toNat = (x % 18446744073709551616).toNat := by rw [BitVec.toNat_ofInt]; rfl
 rw [e, BitVec.toNat_and, BitVec.toNat_not, hu, ofInt_u64 1 (by omega)]
 have e2 : 2 ^ 64 - 1 - 1 = 18446744073709551614 := by decide
 rw [e2, nat_hi64_1, wrap_zero _ (by omega)]
 omega
theorem xxC (s : ByteArray) : s = ⟨#[]⟩ ↔ s.size = 0 := by
 constructor
 · rintro rfl; rfl
 · intro h
   apply ByteArray.ext
   apply Array.eq_empty_of_size_eq_zero
   exact h
theorem uuq {a b : ByteArray} (h : a.data.toList = b.data.toList) : a = b := by
 cases a; cases b
 congr 1
 exact Array.toList_inj.1 h
theorem kqk {s : ByteArray} (h : ¬ s.size = 0) : (s.toList == ByteArray.toList ⟨#[]⟩) = false ∧ (s.toList == []) = false ∧ s.toList.isEmpty = false ∧ ¬ s.toList = [] ∧ ¬ s = ⟨#[]⟩ := by
 have h1 : ¬ s.toList = [] := by
  rw [ByteArray.toList_eq]
  intro e
  apply h
  have := congrArg List.length e
  simpa using this
 have h2 : s.toList.isEmpty = false := by cases hq : s.toList with | nil => exact absurd hq h1 | cons _ _ => rfl
 refine ⟨?_, by simpa using h1, h2, h1, fun e => h (by rw [e]; rfl)⟩
 rw [show ByteArray.toList ⟨#[]⟩ = [] from by rw [ByteArray.toList_eq]]
 simpa using h1
theorem eqlVV (n m : Int) (s t : ByteArray) (b c : Bool) (w : World) :
 (binOp .eql 74 (.agg #[.bool b, .int .i64 n, .string s]) (.agg #[.bool c, .int .i64 m, .string t])).run Tryz.prog w = .ok (.bool (decide (b = c ∧ n = m ∧ s = t))) w := by
 have hS : Tryz.prog.underlying 74 = some (.struct (Tryz.prog.fieldsOf 74)) := by kernel_rfl
 have hp : Tryz.prog.stoodInHeld 74 = false := by kernel_rfl
 have u1 := Tryz.underlying4
 have u2 := Tryz.underlying3
 have u3 := Tryz.underlying9
 have a1 := Tryz.isAgg4
 have a2 := Tryz.isAgg3
 have a3 := Tryz.isAgg9
 have z1 := Tryz.sizeOf4
 have z2 := Tryz.sizeOf3
 have z3 := Tryz.sizeOf9
 rw [run_eql_struct, show (10000 : Nat) = 9999 + 1 from rfl, run_equalIn_agg w 9999 74 _ _ hS hp]
 simp only [Program.fieldsOf, Tryz.underlying74]
 go_simp
 by_cases h1 : b = c <;> by_cases h2 : n = m <;> by_cases h3 : s = t <;> simp [h1, h2, h3]
 intro h
 rw [ByteArray.toList_eq, ByteArray.toList_eq] at h
 exact h3 (uuq h)
theorem may_other (k : Int) (v : VV) (w : World) (h : ¬ (1 ≤ k ∧ k ≤ 7)) :
 Calls Tryz.prog 41 #[.int .i64 k, .agg #[.bool v.null, .int .i64 v.n, .string v.s]] w fun e w' => e = .returned (.bool false) ∧ Below w.heap.size w w' := by
 have HN := zH (show decide (1 ≤ k ∧ k ≤ 5) = false by simp; omega)
 have h6 : (k != 6) = true := bne_iff_ne.2 (by omega)
 have h7 : (k != 7) = true := bne_iff_ne.2 (by omega)
 have h6' : ¬ k = 6 := by omega
 have h7' : ¬ k = 7 := by omega
 clear h
 go_enter Tryz.func41, Tryz.ntmps41
 go_wp2_with (first
  | (go_at_call 44; refine (zzj _ _).mono ?_; rintro e w1 ⟨rfl, rfl⟩; rw [HN.out])
  | fail)
 go_ret
 exact ⟨rfl, (zR).alloc zN _⟩
theorem qzM (k n : Int) (s : ByteArray) (w : World) (h : 1 ≤ k ∧ k ≤ 5) :
 Calls Tryz.prog 41 #[.int .i64 k, .agg #[.bool true, .int .i64 n, .string s]] w fun e w' => e = .returned (.bool (decide (n = 0 ∧ s.size = 0))) ∧ Below w.heap.size w w' := by
 have HN := zH (show decide (1 ≤ k ∧ k ≤ 5) = true by simpa using h)
 clear h
 have he := fun w => eqlVV n 0 s ⟨#[]⟩ true true w
 have hq : decide (true = true ∧ n = 0 ∧ s = (⟨#[]⟩ : ByteArray)) = decide (n = 0 ∧ s.size = 0) := decide_eq_decide.2 (by rw [← xxC]; simp)
 rw [hq] at he
 clear hq
 obtain ⟨q, hq⟩ : ∃ q, q = decide (n = 0 ∧ s.size = 0) := ⟨_, rfl⟩
 rw [← hq] at he ⊢
 clear hq
 go_enter Tryz.func41, Tryz.ntmps41
 go_wp2_with (first
  | (go_at_call 44; refine (zzj _ _).mono ?_; rintro e w1 ⟨rfl, rfl⟩; rw [HN.out])
  | fail)
 go_ret
 exact ⟨rfl, (zR).alloc zN _⟩
theorem kqW (n : Int) (s : ByteArray) (w : World) :
 Calls Tryz.prog 41 #[.int .i64 6, .agg #[.bool true, .int .i64 n, .string s]] w fun e w' => e = .returned (.bool (decide (n = 0 ∧ s.size = 0))) ∧ Below w.heap.size w w' := by
 have HN := zH (show decide ((1 : Int) ≤ 6 ∧ (6 : Int) ≤ 5) = false by decide)
 skip
 have he := fun w => eqlVV n 0 s ⟨#[]⟩ true true w
 have hq : decide (true = true ∧ n = 0 ∧ s = (⟨#[]⟩ : ByteArray)) = decide (n = 0 ∧ s.size = 0) := decide_eq_decide.2 (by rw [← xxC]; simp)
 rw [hq] at he
 clear hq
 obtain ⟨q, hq⟩ : ∃ q, q = decide (n = 0 ∧ s.size = 0) := ⟨_, rfl⟩
 rw [← hq] at he ⊢
 clear hq
 go_enter Tryz.func41, Tryz.ntmps41
 go_wp2_with (first
  | (go_at_call 44; refine (zzj _ _).mono ?_; rintro e w1 ⟨rfl, rfl⟩; rw [HN.out])
  | fail)
 go_ret
 exact ⟨rfl, (zR).alloc zN _⟩
theorem jj5 (n : Int) (s : ByteArray) (w : World) :
 Calls Tryz.prog 41 #[.int .i64 7, .agg #[.bool true, .int .i64 n, .string s]] w fun e w' => e = .returned (.bool (decide (n = 0 ∧ s.size = 0))) ∧ Below w.heap.size w w' := by
 have HN := zH (show decide ((1 : Int) ≤ 7 ∧ (7 : Int) ≤ 5) = false by decide)
 skip
 have he := fun w => eqlVV n 0 s ⟨#[]⟩ true true w
 have hq : decide (true = true ∧ n = 0 ∧ s = (⟨#[]⟩ : ByteArray)) = decide (n = 0 ∧ s.size = 0) := decide_eq_decide.2 (by rw [← xxC]; simp)
 rw [hq] at he
 clear hq
 obtain ⟨q, hq⟩ : ∃ q, q = decide (n = 0 ∧ s.size = 0) := ⟨_, rfl⟩
 rw [← hq] at he ⊢
 clear hq
 go_enter Tryz.func41, Tryz.ntmps41
 go_wp2_with (first
  | (go_at_call 44; refine (zzj _ _).mono ?_; rintro e w1 ⟨rfl, rfl⟩; rw [HN.out])
  | fail)
 go_ret
 exact ⟨rfl, (zR).alloc zN _⟩
theorem may_bool (n : Int) (s : ByteArray) (w : World) (h0 : -9223372036854775808 ≤ n) (h1 : n ≤ 9223372036854775807) :
 Calls Tryz.prog 41 #[.int .i64 1, .agg #[.bool false, .int .i64 n, .string s]] w fun e w' => e = .returned (.bool (decide (s.size = 0 ∧ (n = 0 ∨ n = 1)))) ∧ Below w.heap.size w w' := by
 have HN := zH (show decide ((1 : Int) ≤ 1 ∧ (1 : Int) ≤ 5) = true by decide)
 have hbit := bit_only n h0 h1
 clear h0 h1
 by_cases hs : s.size = 0
 · have HR := zH (show decide (s.size = 0 ∧ (n = 0 ∨ n = 1)) = decide (n = 0 ∨ n = 1) by simp [hs])
   obtain rfl := (xxC s).2 hs
   clear hs
   obtain ⟨y, hy⟩ : ∃ y, bits .andNot .i64 n 1 = y := ⟨_, rfl⟩
   rw [hy] at hbit
   by_cases hy0 : y = 0
   · have HQ := zH (show decide (n = 0 ∨ n = 1) = true by simpa using hbit.1 hy0)
     clear hbit
     subst hy0
     go_enter Tryz.func41, Tryz.ntmps41
     go_wp2_with (first
      | (go_at_call 44; refine (zzj _ _).mono ?_; rintro e w1 ⟨rfl, rfl⟩; rw [HN.out])
      | fail)
     go_ret
     exact ⟨by rw [HR.out, HQ.out]; rfl, (zR).alloc zN _⟩
   · have HQ := zH (show decide (n = 0 ∨ n = 1) = false by simpa using fun h => hy0 (hbit.2 h))
     have hyb := zzv hy0
     clear hbit
     go_enter Tryz.func41, Tryz.ntmps41
     go_wp2_with (first
      | (go_at_call 44; refine (zzj _ _).mono ?_; rintro e w1 ⟨rfl, rfl⟩; rw [HN.out])
      | fail)
     go_ret
     exact ⟨by rw [HR.out, HQ.out]; rfl, (zR).alloc zN _⟩
 · have HR := zH (show decide (s.size = 0 ∧ (n = 0 ∨ n = 1)) = false by simp [hs])
   obtain ⟨a1, a2, a3, a4, a5⟩ := kqk hs
   clear hs hbit
   go_enter Tryz.func41, Tryz.ntmps41
   go_wp2_with (first
    | (go_at_call 44; refine (zzj _ _).mono ?_; rintro e w1 ⟨rfl, rfl⟩; rw [HN.out])
    | fail)
   go_ret
   exact ⟨by first | (rw [HR.out]; rfl) | rfl, (zR).alloc zN _⟩
theorem may_num (k n : Int) (s : ByteArray) (w : World) (h : 1 ≤ k ∧ k ≤ 5) (hk1 : ¬ k = 1) :
 Calls Tryz.prog 41 #[.int .i64 k, .agg #[.bool false, .int .i64 n, .string s]] w fun e w' => e = .returned (.bool (decide (s.size = 0))) ∧ Below w.heap.size w w' := by
 have HN := zH (show decide (1 ≤ k ∧ k ≤ 5) = true by simpa using h)
 have hkb := zzv hk1
 clear h
 by_cases hs : s.size = 0
 · have HR := zH (show decide (s.size = 0) = true by simp [hs])
   obtain rfl := (xxC s).2 hs
   clear hs
   go_enter Tryz.func41, Tryz.ntmps41
   go_wp2_with (first
    | (go_at_call 44; refine (zzj _ _).mono ?_; rintro e w1 ⟨rfl, rfl⟩; rw [HN.out])
    | fail)
   go_ret
   exact ⟨by first | (rw [HR.out]; rfl) | rfl, (zR).alloc zN _⟩
 · have HR := zH (show decide (s.size = 0) = false by simp [hs])
   obtain ⟨a1, a2, a3, a4, a5⟩ := kqk hs
   clear hs
   go_enter Tryz.func41, Tryz.ntmps41
   go_wp2_with (first
    | (go_at_call 44; refine (zzj _ _).mono ?_; rintro e w1 ⟨rfl, rfl⟩; rw [HN.out])
    | fail)
   go_ret
   exact ⟨by first | (rw [HR.out]; rfl) | rfl, (zR).alloc zN _⟩
theorem may_text (n : Int) (s : ByteArray) (w : World) (hT : Lib.Utf8Tabs 0 1 w) :
 Calls Tryz.prog 41 #[.int .i64 6, .agg #[.bool false, .int .i64 n, .string s]] w fun e w' => e = .returned (.bool (decide (n = 0 ∧ s.size ≤ 300 ∧ Lib.validD s.data.toList = true))) ∧ Below w.heap.size w w' := by
 have HN := zH (show decide ((1 : Int) ≤ 6 ∧ (6 : Int) ≤ 5) = false by decide)
 have HT := zH hT; clear hT
 by_cases hn : n = 0
 · subst hn
   by_cases hl : s.size ≤ 300
   · have hlI : (s.size : Int) ≤ 300 := by omega
     obtain ⟨vd, hvd⟩ : ∃ vd, vd = Lib.validD s.data.toList := ⟨_, rfl⟩
     have HVD := zH (show Lib.validD s.data.toList = vd from hvd.symm)
     have HR := zH (show decide ((0 : Int) = 0 ∧ s.size ≤ 300 ∧ Lib.validD s.data.toList = true) = vd by rw [← hvd]; simp [hl])
     clear hvd
     go_enter Tryz.func41, Tryz.ntmps41
     go_wp2_with (first
      | (go_at_call 44; refine (zzj _ _).mono ?_; rintro e w1 ⟨rfl, rfl⟩; rw [HN.out])
      | (go_at_call 87; refine (right_any s _ (zzc HT.out ((zR).alloc zN _))).mono ?_; rintro e w2 ⟨rfl, hb2⟩; rw [HVD.out]; have HB2 := zH hb2; clear hb2)
      | fail)
     go_ret
     exact ⟨by rw [HR.out]; rfl, (Below.alloc (zR) zN _).trans (HB2.out.mono (Below.alloc (zR) zN _).size)⟩
   · have hlI : ¬ (s.size : Int) ≤ 300 := by omega
     have HR := zH (show (decide ((0 : Int) = 0 ∧ s.size ≤ 300 ∧ Lib.validD s.data.toList = true)) = false by simp [hl])
     go_enter Tryz.func41, Tryz.ntmps41
     go_wp2_with (first
      | (go_at_call 44; refine (zzj _ _).mono ?_; rintro e w1 ⟨rfl, rfl⟩; rw [HN.out])
      | fail)
     go_ret
     exact ⟨by first | (rw [HR.out]; rfl) | rfl, (zR).alloc zN _⟩
 · have hnb := zzv hn
   have HR := zH (show (decide (n = 0 ∧ s.size ≤ 300 ∧ Lib.validD s.data.toList = true)) = false by simp [hn])
   go_enter Tryz.func41, Tryz.ntmps41
   go_wp2_with (first
    | (go_at_call 44; refine (zzj _ _).mono ?_; rintro e w1 ⟨rfl, rfl⟩; rw [HN.out])
    | fail)
   go_ret
   exact ⟨by first | (rw [HR.out]; rfl) | rfl, (zR).alloc zN _⟩
theorem may_bytes (n : Int) (s : ByteArray) (w : World) :
 Calls Tryz.prog 41 #[.int .i64 7, .agg #[.bool false, .int .i64 n, .string s]] w fun e w' => e = .returned (.bool (decide (n = 0 ∧ s.size ≤ 300))) ∧ Below w.heap.size w w' := by
 have HN := zH (show decide ((1 : Int) ≤ 7 ∧ (7 : Int) ≤ 5) = false by decide)
 skip
 by_cases hn : n = 0
 · subst hn
   by_cases hl : s.size ≤ 300
   · have hlI : (s.size : Int) ≤ 300 := by omega
     have HR := zH (show decide ((0 : Int) = 0 ∧ s.size ≤ 300) = true by simp [hl])
     go_enter Tryz.func41, Tryz.ntmps41
     go_wp2_with (first
      | (go_at_call 44; refine (zzj _ _).mono ?_; rintro e w1 ⟨rfl, rfl⟩; rw [HN.out])
      | fail)
     go_ret
     exact ⟨by first | (rw [HR.out]; rfl) | rfl, (zR).alloc zN _⟩
   · have hlI : ¬ (s.size : Int) ≤ 300 := by omega
     have HR := zH (show (decide ((0 : Int) = 0 ∧ s.size ≤ 300)) = false by simp [hl])
     go_enter Tryz.func41, Tryz.ntmps41
     go_wp2_with (first
      | (go_at_call 44; refine (zzj _ _).mono ?_; rintro e w1 ⟨rfl, rfl⟩; rw [HN.out])
      | fail)
     go_ret
     exact ⟨by first | (rw [HR.out]; rfl) | rfl, (zR).alloc zN _⟩
 · have hnb := zzv hn
   have HR := zH (show (decide (n = 0 ∧ s.size ≤ 300)) = false by simp [hn])
   go_enter Tryz.func41, Tryz.ntmps41
   go_wp2_with (first
    | (go_at_call 44; refine (zzj _ _).mono ?_; rintro e w1 ⟨rfl, rfl⟩; rw [HN.out])
    | fail)
   go_ret
   exact ⟨by first | (rw [HR.out]; rfl) | rfl, (zR).alloc zN _⟩
theorem kqX (k : Int) (v : VV) (hv : v.ok) (w : World) (hT : Lib.Utf8Tabs 0 1 w) :
 Calls Tryz.prog 41 #[.int .i64 k, .agg #[.bool v.null, .int .i64 v.n, .string v.s]] w fun e w' => e = .returned (.bool (mayV k v)) ∧ Below w.heap.size w w' := by
 obtain ⟨nu, n, s⟩ := v
 obtain ⟨h0, h1, _⟩ := hv
 unfold mayV
 by_cases h : 1 ≤ k ∧ k ≤ 5
 · rw [if_pos h]
   cases nu
   · rw [if_neg Bool.false_ne_true]
     by_cases hk : k = 1
     · subst hk
       exact may_bool n s w h0 h1
     · rw [if_neg hk]
       exact may_num k n s w h hk
   · exact qzM k n s w h
 · rw [if_neg h]
   by_cases h6 : k = 6
   · subst h6
     cases nu
     · simpa using may_text n s w hT
     · exact kqW n s w
   · by_cases h7 : k = 7
     · subst h7
       cases nu
       · simpa using may_bytes n s w
       · exact jj5 n s w
     · rw [if_neg (by omega)]
       exact may_other k ⟨nu, n, s⟩ w (by omega)
end
end Go.Proofs.YtpmglcachffojaaGreatDoor
