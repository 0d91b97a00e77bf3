/- A part of what Chunks leans on. -/
import Derived.Test.YtpmglcachffojaaGreatDoorZ2
import Derived.RangeFuncNested
import Derived.RangeFuncBound
import Derived.RangeFuncLeaves
import Derived.RangeFuncBox
import Derived.Shelf.Abstract
import Derived.Shelf.RegionOpen
import Derived.OwnWalkIn
import Derived.TacticsInMore
import Derived.LoopNIn
import Derived.LoopIn
import Derived.RegionIn
import Derived.Test.YtpmglcachffojaaGreatDoorZS1
import Derived.Deep.CutRange
import Derived.Laws.OwnMore
set_option maxRecDepth 100000
set_option maxHeartbeats 16000000
namespace Go.Proofs.YtpmglcachffojaaGreatDoor
section
open Go Go.RowKit
def SeqSt {α : Type} (F : Fence) (n : Nat) (P : Program) (g : Nat) (lb : Array Value) (encs : α → Array Value) (bb : Nat) (Kp : World → World → Prop) (S : List α → Prop) (N : Nat) (w : World) : Prop :=
 ∀ (l : Nat) (J : List α → World → Prop) (W : World), Below w.heap.size w W → (∀ pre W1 k, J pre W1 → J pre (W1.drewN k)) → (∀ pre W1 v, J pre W1 → J pre (W1.setCell ⟨bb, 0, none⟩ v)) →
  (∀ pre x W1, J pre W1 → pre.length < N → YieldAt F (n - 1) P l (encs x) W1 fun e W' => e = .returned (.bool true) ∧ J (pre ++ [x]) W' ∧ Kp W1 W') →
  J [] W → CallsIn F n P g (#[.func (.yield l) #[] #[]] ++ lb) W fun e W' => (∃ v, e = .returned v) ∧ ∃ xs, S xs ∧ J xs W'
def stPost {α : Type} (Kp : World → World → Prop) (I : List α → World → Prop) (xs : List α) (W : World) : Exit → Act → World → Prop
 | .normal, _, W' => KeepsOthers W W' ∧ Kp W W' ∧ I xs W'
 | _, _, _ => False
section
variable {F : Fence} {n : Nat} {P : Program}
theorem kqq {α : Type} {g : Operand} {ps : Array Tmp} {assign body : Code} {Q : Exit → Act → World → Prop} {a : Act} {w : World} (hro : F.round = none) (h1 : 1 ≤ n)
 {gf : Nat} {lb : Array Value} (hg : a.eval g = .func (.func gf) #[] lb) (hFg : F.fn gf) (eg : ∀ args w, (callFunc gf args).run P w = .ok (.enter gf args) w)
 {encs : α → Array Value} {bb : Nat} (hbb : bb < w.heap.size) {Kp : World → World → Prop} {S : List α → Prop} {N : Nat} (hseq : SeqSt F (n - 1) P gf lb encs bb Kp S N w)
 (hKt : ∀ {A B C : World}, Kp A B → Kp B C → Kp A C) (hKb : ∀ (W : World) (l : Nat) (o : Obj), w.heap.size ≤ l → Kp W (W.putObj l o)) (hps : ∀ x, (encs x).size = ps.size)
 (I : List α → World → Prop) (hI : OwnFrom w.heap.size I) (hIs : ∀ pre W v, I pre W → I pre (W.setCell ⟨bb, 0, none⟩ v)) (h0 : I [] w) (a₁ : α → Act)
 (hassign : ∀ (l : Nat) (x : α) (W : World) (K : Act → World → Prop), K (a₁ x) W → assign.wpIn (F.inRound l) (n - 1 - 1) P (Exit.then K (fun _ _ _ => False)) { tmps := (ps.zip (encs x)).foldl (fun t (p, v) => t.setIfInBounds p v) a.tmps, defers := [] } W)
 (hbody : ∀ (l : Nat) (pre : List α) (x : α) (W : World), I pre W → pre.length < N → body.wpIn (F.inRound l) (n - 1 - 1) P (stPost Kp I (pre ++ [x]) W) (a₁ x) W)
 (hdone : ∀ (D : Nat) (xs : List α) (W : World), w.heap.size ≤ D → S xs → I xs W → W.heap[D]? = some (.deferred (some [])) → Q .normal { a with defers := { target := .collected D, args := #[] } :: a.defers } W) :
 (Code.rangeFunc g ps assign body).wpIn F n P Q a w := by
 refine wpIn_rangeFunc fun fn hfn => ?_
 rw [hro]
 obtain ⟨rc, hrc⟩ : ∃ rc : LoopState → Option Code → Loop, rc = fun st pe => { state := st, pending := pe, fn, tmps := a.tmps, params := ps, assign, body, defers := w.heap.size } := ⟨_, rfl⟩
 obtain ⟨D, hD⟩ : ∃ D, D = w.heap.size := ⟨_, rfl⟩
 obtain ⟨W1, hW1⟩ : ∃ W1, (w.alloc (.deferred (some []))).alloc (.loop (rc .ready none)) = W1 := ⟨_, rfl⟩
 have hL : W1.heap[D + 1]? = some (.loop (rc .ready none)) := by
  rw [← hW1, hD]
  have := World.alloc_heap_new (w.alloc (.deferred (some []))) (.loop (rc .ready none))
  rwa [zS] at this
 have hE : W1.heap[D]? = some (.deferred (some [])) := by
  rw [← hW1, hD]
  exact (Below.heap_alloc _ _ _ (by simp)).trans (World.alloc_heap_new w _)
 have hI1 : I [] W1 := by rw [← hW1]; exact hI.alloc _ (hI.alloc _ h0)
 have hB1 : Below w.heap.size w W1 := by rw [← hW1]; exact ((Below.refl _ w).alloc zN _).alloc (by simp) _
 refine ⟨D + 1, [{ target := .collected D, args := #[] }], W1, { target := .fn (.func gf) lb, args := #[.func (.yield (D + 1)) #[] #[]] }, W1, gf, #[.func (.yield (D + 1)) #[] #[]] ++ lb, W1, ?_, ?_, ?_, ?_, fun _ => h1, ?_⟩
 · rw [← hW1, hrc, hD]; exact run_enterLoop_outer _ _ _ _ _
 · simp only [resolve, hg]
   simp [go_sem]
 · intro f' hf'
   simp [Target.leads] at hf'
   subst hf'
   exact hFg
 · simp [invoke, go_sem, eg]
 · refine (hseq (D + 1) (fun pre W => I pre W ∧ W.heap[D + 1]? = some (.loop (rc .ready none)) ∧ W.heap[D]? = some (.deferred (some []))) W1 hB1 (fun pre W _ h => ⟨hI pre W _ none h.1 ⟨rfl, rfl, rfl, Nat.le_refl _, fun _ _ _ => rfl⟩ (fun r e => by cases e), h.2⟩)
    (fun pre W v h => ⟨hIs pre W v h.1, (Below.heap_setCell W ⟨bb, 0, none⟩ v (D + 1) (by show D + 1 ≠ bb; omega)).trans h.2.1, (Below.heap_setCell W ⟨bb, 0, none⟩ v D (by show D ≠ bb; omega)).trans h.2.2⟩) ?_ ⟨hI1, hL, hE⟩).mono ?_
   · rintro pre x W ⟨hi, hl, he⟩ hlen
     have hlt : D + 1 < W.heap.size := (Array.getElem?_eq_some_iff.1 hl).1
     have hy := run_yield (P := P) (args := encs x) hl (by rw [hrc]; exact hps x)
     rw [hrc] at hy
     refine ⟨fn, _, assign, body, hy, roundIn_of_wpIn hfn (hassign _ x W _ ⟨_, run_beginRound hl (by rw [hrc]), ?_⟩)⟩
     obtain ⟨W2, hW2⟩ : ∃ W2, W2 = W.putObj (D + 1) (.loop { rc .ready none with state := .busy }) := ⟨_, rfl⟩
     have hl2 : W2.heap[D + 1]? = some (.loop { rc .ready none with state := .busy }) := by rw [hW2]; exact World.putObj_heap_same hlt
     have he2 : W2.heap[D]? = some (.deferred (some [])) := by rw [hW2]; exact (World.putObj_heap_other (by omega)).trans he
     have hk2 : Kp W W2 := by rw [hW2]; exact hKb _ _ _ (by omega)
     have hi2 : I pre W2 := by rw [hW2]; exact hI.putObj _ hi (by omega) hl rfl
     rw [← hW2]
     refine wpIn_mono (hbody _ pre x _ hi2 hlen) fun e a3 W3 hp => ?_
     cases e with
     | normal =>
       obtain ⟨hk3, hp3, hi3⟩ := hp
       have hl3 := hk3.same _ _ hl2 rfl
       have hr := run_endRound (P := P) none hl3
       rw [hrc] at hr hl3
       refine ⟨_, _, hr, rfl, ⟨hI.putObj _ hi3 (by omega) hl3 rfl, ?_, ?_⟩, hKt (hKt hk2 hp3) (hKb _ _ _ (by omega))⟩
       · rw [hrc]; exact World.putObj_heap_same (Array.getElem?_eq_some_iff.1 hl3).1
       · exact (World.putObj_heap_other (by omega)).trans (hk3.same _ _ he2 rfl)
     | ret => exact hp.elim
     | exit id => exact hp.elim
     | goto t => exact hp.elim
     | panic ch => exact hp.elim
     | outgrown => exact hp.elim
   · rintro e W2 ⟨⟨v, rfl⟩, xs, hS, hi, hl, he⟩
     have hr := run_endLoop (P := P) hl (by rw [hrc]; simp)
     rw [hrc] at hr
     exact ⟨none, _, hr, hdone D xs _ (by omega) hS (hI.putObj _ hi (by omega) hl rfl) ((World.putObj_heap_other (by omega)).trans he)⟩
end
end
section
open Go Go.RowKit
theorem left_any (x : Int) (_ : -9223372036854775808 ≤ x) (_ : x ≤ 9223372036854775807) (w : World) : Calls Tryz.prog 95 #[.int .i64 x] w fun e w' => e = .returned (.int .i64 (x % 1000)) ∧ w = w' := by
 obtain ⟨q, hq⟩ : ∃ q, q = x.tdiv 1000 := ⟨_, rfl⟩
 obtain ⟨r, hr⟩ : ∃ r, r = x.tmod 1000 := ⟨_, rfl⟩
 have hqr : 1000 * q + r = x := by rw [hq, hr]; exact Int.mul_tdiv_add_tmod x 1000
 have hb : -1000 < r ∧ r < 1000 := by
  rw [hr]
  have h3 := Int.tmod_lt_of_pos x (show (0 : Int) < 1000 by decide)
  have e : x.tmod 1000 = -((-x).tmod 1000) := by rw [Int.neg_tmod, Int.neg_neg]
  have h2 := Int.tmod_lt_of_pos (-x) (show (0 : Int) < 1000 by decide)
  omega
 have HD := zH (show x % 1000 = (r + 1000) % 1000 by omega)
 obtain ⟨r0, r1⟩ := hb
 have HR := hr.symm
 clear hqr hq hr
 go_enter Tryz.func95, Tryz.ntmps95
 go_wp2_with fail
 go_ret
 refine ⟨?_, rfl⟩
 rw [HD.out]
 first
  | rfl
  | (show Ending.returned (Value.int IntKind.i64 ((r + 1000).tmod 1000)) = _; rw [Int.tmod_eq_emod_of_nonneg (by omega)])
theorem is_any (b : Bool) (n : Int) (s : ByteArray) (w : World) : Calls Tryz.prog 147 #[.agg #[.bool b, .int .i64 n, .string s]] w fun e w' => e = .returned (.bool (!b)) ∧ Below w.heap.size w w' := by
 go_enter Tryz.func147, Tryz.ntmps147
 go_wp2_with fail
 go_ret
 exact ⟨rfl, (zR).alloc zN _⟩
theorem qxb (b : Bool) (n : Int) (s : ByteArray) (w : World) : Calls Tryz.prog 159 #[.agg #[.bool b, .int .i64 n, .string s]] w fun e w' => e = .returned (.bool b) ∧ Below w.heap.size w w' := by
 go_enter Tryz.func159, Tryz.ntmps159
 go_wp2_with fail
 go_ret
 exact ⟨rfl, (zR).alloc zN _⟩
theorem xqF (x : Int) (w : World) : Calls Tryz.prog 91 #[.int .i64 x] w fun e w' => e = .returned (.bool (x == 1)) ∧ w = w' := by
 go_enter Tryz.func91, Tryz.ntmps91
 go_wp2_with fail
 go_ret
 exact ⟨rfl, rfl⟩
theorem xqG (x : Int) (w : World) : Calls Tryz.prog 96 #[.int .i64 x] w fun e w' => e = .returned (.int .i64 x) ∧ w = w' := by
 go_enter Tryz.func96, Tryz.ntmps96
 go_wp2_with fail
 go_ret
 exact ⟨rfl, rfl⟩
end
section
open Go Go.RowKit
theorem yy2 {w : World} {B : Nat} {A : Option Addr} {n c m : Nat} {L : List UInt8} {x : Nat} (h : OwnB w B A n c (L ++ vput x)) (hm : m = L.length) : n ≤ m + 10 := by
 have h1 := h.len
 have h2 := yy9 x
 simp at h1; omega
def IsFld (tag : Int) (bytes : Bool) (n : Nat) (A : Option Addr) (k c : Nat) (w : World) (e : Ending) (w' : World) : Prop :=
 e = .returned (.agg #[.int .i64 tag, .bool bytes, .int .u64 (n : Int), .slice A k c]) ∧ Below w.heap.size w w'
def xq6 (l : List Fld) (w : World) (e : Ending) (w' : World) : Prop :=
 ∃ A n c, e = .returned (.tuple #[.slice A n c, .int .i64 (okc (wput l).isSome 1)]) ∧ OwnB w' w.heap.size A n c (dput l) ∧ Below w.heap.size w w'
theorem wput_any (F : Nat → Prop) (A : Option Addr) (n c : Nat) (l : List Fld) (w : World) (h : Sl tFld F w A n c l) (hlen : n ≤ 4294967296) (hl : wlen l ≤ 4294967200) :
 Calls Tryz.prog 122 #[.slice A n c] w (xq6 l w) := by
 have HL := zH h.len
 go_enter Tryz.func122, Tryz.ntmps122
 go_wp2
 go_loopw [4, 10] (fun v i wr => ∃ (k : Nat) (L : List UInt8) (A2 : Option Addr) (m c2 : Nat), k ≤ n ∧ i = .int .i64 k ∧ v = .slice A2 m c2 ∧ OwnB wr w.heap.size A2 m c2 L ∧ wput (l.take k) = some L ∧ Below w.heap.size w wr)
  (fun _ i _ => n - (intOf i).toNat)
 case atStart => exact ⟨0, [], none, 0, 0, Nat.zero_le _, rfl, rfl, OwnB.nil_ _ _, by simp [wput], zR⟩
 case round =>
  obtain ⟨k, L, A2, m, c2, hk, rfl, rfl, hown, hL, hb⟩ := hrel
  by_cases hlt : k < n
  · have hkl : k < l.length := by rw [← HL.out]; exact hlt
    have HO := zH hown; have HW := zH hL
    clear hown hL
    obtain ⟨b, o, cs, rfl, _, hbl, hrep, hc⟩ := (h.below hb zN).at_ hkl (by decide)
    obtain ⟨A3, n3, c3, rfl, ht, hn3, hs3⟩ := hrep
    obtain ⟨f, hf⟩ : ∃ f, f = l[k] := ⟨_, rfl⟩
    rw [← hf] at hc ht hn3 hs3
    have HF := zH hf; clear hf
    obtain ⟨g0, g1, g2, g3⟩ := qxV hc
    clear hc
    obtain ⟨ht0, ht1⟩ := ht
    by_cases htag : 1 ≤ f.tag ∧ f.tag ≤ 100
    · obtain ⟨tag, isb, fn, fb⟩ := f
      dsimp only at *
      obtain ⟨t, rfl⟩ := Int.eq_ofNat_of_zero_le (show 0 ≤ tag by omega)
      have htl : (t : Int) ≤ 100 := htag.2
      have htg : (1 : Int) ≤ (t : Int) := htag.1
      clear htag
      have hwl := uuj l k hkl
      rw [← HF.out] at hwl
      dsimp only at hwl
      have hLl : L.length ≤ wlen (l.take k) := jjI _ _ HW.out
      have hml := HO.out.len
      have h3l := hs3.len
      have hb1 : m + n3 + 20 ≤ 4294967200 := by omega
      have HM := zH hml; have H3L := zH h3l
      clear hml h3l hLl hwl
      have hsz := hb.size
      have HN3 := zH (yyh n3 (by omega))
      have hfin : ∀ (w' : World) (A' : Option Addr) (m' c' : Nat) (x : List UInt8), x = fld ⟨(t : Int), isb, fn, fb⟩ → OwnB w' w.heap.size A' m' c' (L ++ x) → Below w.heap.size w w' →
       ∃ (k' : Nat) (L' : List UInt8) (A'' : Option Addr) (m'' c'' : Nat), k' ≤ n ∧ Value.int .i64 ((k : Int) + 1) = .int .i64 k' ∧ Value.slice A' m' c' = .slice A'' m'' c'' ∧ OwnB w' w.heap.size A'' m'' c'' L' ∧ wput (l.take k') = some L' ∧ Below w.heap.size w w' := by
       intro w' A' m' c' x hx ho hbl'
       refine ⟨k + 1, L ++ x, A', m', c', by omega, by go_num, rfl, ho, ?_, hbl'⟩
       rw [zT hkl, ← HF.out, hx]
       exact uuk _ _ _ HW.out (by simp [jjG]; omega)
      have HFIN := zH hfin
      clear hfin
      cases isb
      · have HS1 := zH ((HO.out.bs.any.alloc (.cells #[.int .i64 (t : Int), .bool false, .int .u64 (fn : Int), .slice A3 n3 c3] 114)).drew)
        have HB0 := zH ((hb.alloc hsz (.cells #[.int .i64 (t : Int), .bool false, .int .u64 (fn : Int), .slice A3 n3 c3] 114)).drew)
        go_wp2_with fail
        go_region_held3 (fun w' => w'.cell? ⟨wr.heap.size, 2, none⟩ = some (.int .u64 (fn : Int)))
         (first | go_keep | (exact (hb1.cell (p := ⟨wr.heap.size, 2, none⟩) (by simp)).trans (by simp)) | (exact (hb2.cell (p := ⟨wr.heap.size, 2, none⟩) (by have := hb1.size; simp at this; show wr.heap.size < _; omega)).trans (by assumption)))
         (first
           | (go_at_call_of 180 (Value.slice A2 m c2); refine (vv2 (fun _ => True) A2 m c2 L _ _ HS1.out (by omega) (by omega) (by omega)).mono ?_; rintro e w1 ⟨A4, n4, c4, rfl, hown1, hb1⟩; have hn4 : n4 ≤ m + 10 := yy2 hown1 HM.out)
           | (go_at_call 180; refine (vv2 (fun _ => True) A4 n4 c4 _ _ _ hown1.bs.any (by omega) (by omega) (by omega)).mono ?_; rintro e w2 ⟨A5, n5, c5, rfl, hown2, hb2⟩))
        have hs1 := hb1.size
        simp only [World.size_drew, zS] at hs1
        have HO5 := zH (hown2.down (B' := w.heap.size) (by omega))
        have HB5 := zH ((HB0.out.trans (hb1.mono (by simp; omega))).trans (hb2.mono (by omega)))
        clear hown1 hown2 hb1 hb2 HS1 HB0
        go_wp2
        go_roundw
        case rel =>
         have ho := HO5.out
         rw [List.append_assoc, show ((t : Int) * 8).toNat = 8 * t by omega, zz5] at ho
         exact HFIN.out _ _ _ _ _ (by simp [fld]) ho HB5.out
        case measure => simp [intOf]; omega
      · have H2 := zH (u64_or2 t (by omega))
        have HS1 := zH ((HO.out.bs.any.alloc (.cells #[.int .i64 (t : Int), .bool true, .int .u64 (fn : Int), .slice A3 n3 c3] 114)).drew)
        have HB0 := zH ((hb.alloc hsz (.cells #[.int .i64 (t : Int), .bool true, .int .u64 (fn : Int), .slice A3 n3 c3] 114)).drew)
        go_wp2_with fail
        go_region_held3 (fun w' => w'.cell? ⟨wr.heap.size, 3, none⟩ = some (.slice A3 n3 c3))
         (first | go_keep | (exact (hb1.cell (p := ⟨wr.heap.size, 3, none⟩) (by simp)).trans (by simp)) | (exact (hb2.cell (p := ⟨wr.heap.size, 3, none⟩) (by have := hb1.size; simp at this; show wr.heap.size < _; omega)).trans (by assumption)))
         (first
           | (go_at_call_of 180 (Value.slice A2 m c2); refine (vv2 (fun _ => True) A2 m c2 L _ _ HS1.out (by omega) (by rw [H2.out]; omega) (by rw [H2.out]; omega)).mono ?_; rintro e w1 ⟨A4, n4, c4, rfl, hown1, hb1⟩; have hn4 : n4 ≤ m + 10 := yy2 hown1 HM.out)
           | (go_at_call 180; refine (vv2 (fun _ => True) A4 n4 c4 _ _ _ hown1.bs.any (by omega) (by rw [HN3.out]; omega) (by rw [HN3.out]; omega)).mono ?_; rintro e w2 ⟨A5, n5, c5, rfl, hown2, hb2⟩))
        have hs1 := hb1.size
        simp only [World.size_drew, zS] at hs1
        have hn5 : n5 ≤ n4 + 10 := yy2 hown2 hown1.len
        have HO5 := zH (hown2.down (B' := w.heap.size) (by omega))
        have HB5 := zH ((HB0.out.trans (hb1.mono (by simp; omega))).trans (hb2.mono (by omega)))
        have HS5 := zH (((hs3.keep (w' := w2) (by have := hb2.size; omega) (fun b' _ hl => ((hb2.block b' (by omega)).trans (hb1.block b' (by simp; omega))).trans (Below.heap_alloc _ _ _ hl)))))
        clear hown1 hown2 hb1 hb2 HS1 HB0
        go_wp2_with (at_builtin; refine apb w2 w rfl (.tmp 37) (.tmp 39) rfl w.heap.size A5 n5 c5 _ rfl HO5.out HB5.out zN F A3 n3 c3 fb rfl HS5.out (by omega) ?_; intro A6 c6 w6 h6 hb6 _)
        go_roundw
        case rel =>
         have ho := h6
         rw [List.append_assoc, List.append_assoc, H2.out, HN3.out, zz5, zz5] at ho
         exact HFIN.out _ _ _ _ _ (by simp [fld, H3L.out]) ho hb6
        case measure => simp [intOf]; omega
    · have hbad : wput l = none := jjH l k hkl (by rw [← HF.out]; simp [jjG]; omega)
      have HBAD := zH hbad; clear hbad
      have HB0 := zH (hb.alloc hb.size (.cells #[.int .i64 f.tag, .bool f.bytes, .int .u64 (f.n : Int), .slice A3 n3 c3] 114))
      have hnot : f.tag < 1 ∨ 100 < f.tag := by omega
      clear htag
      rcases hnot with hnot | hnot
      · go_wp2
        go_ret2
        refine ⟨none, 0, 0, by rw [HBAD.out]; rfl, ?_, HB0.out⟩
        rw [show dput l = [] by simp [dput, HBAD.out]]
        exact OwnB.nil_ _ _
      · have hnot2 : 1 ≤ f.tag := by omega
        go_wp2
        go_ret2
        refine ⟨none, 0, 0, by rw [HBAD.out]; rfl, ?_, HB0.out⟩
        rw [show dput l = [] by simp [dput, HBAD.out]]
        exact OwnB.nil_ _ _
  · obtain rfl : k = n := by omega
    have hfull : wput l = some L := by rw [← hL, zL (by rw [← HL.out]; exact Nat.le_refl _)]
    have HFU := zH hfull; clear hfull hL
    go_wp2
    go_ret2
    refine ⟨A2, m, c2, by rw [HFU.out]; rfl, ?_, hb⟩
    rw [show dput l = L by simp [dput, HFU.out]]
    exact hown
end
section
open Go Go.RowKit
attribute [local go_sem ↓] Go.wp_at_zero Go.wp_at_succ
end
end Go.Proofs.YtpmglcachffojaaGreatDoor
